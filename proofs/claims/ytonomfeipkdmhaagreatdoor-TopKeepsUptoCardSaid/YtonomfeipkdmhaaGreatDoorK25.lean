/- Part 25: lemmas. -/
import Derived.Test.YtonomfeipkdmhaaGreatDoorK24
set_option linter.unusedVariables false
set_option linter.unusedSimpArgs false
set_option maxRecDepth 100000
set_option maxHeartbeats 16000000
namespace Go.Proofs.YtonomfeipkdmhaaGreatDoor
open Go.RowKit Go.Proofs.Tryz
def AgA (R:Option (List UInt8 × List UInt8)) (s:List UInt8) (i:Int):Prop:=(i= -1/\R=none)\/∃ k:Nat,i=(k:Int)/\k<s.length/\R=some (s.take k,s.drop (k+1))
def AcS (s:List UInt8) (w:World) (e:Ending) (w':World):Prop:=∃ i:Int,e= .returned (.int .i64 i)/\Hid (AgA (Br false s) s i)/\w=w'
theorem XE (b:Bool) (c:UInt8) (r:List UInt8):(((c.toNat:Int)==91)=true/\Br b (c :: r)=(Br true r).map (fun p=>(c :: p.1,p.2)))\/
  (((c.toNat:Int)==91)=false/\((c.toNat:Int)==93)=true/\Br b (c :: r)=(Br false r).map (fun p=>(c :: p.1,p.2)))\/
  (((c.toNat:Int)==91)=false/\((c.toNat:Int)==93)=false/\((c.toNat:Int)==58)=true/\b=false/\Br b (c :: r)=some ([],r))\/
  (((c.toNat:Int)==91)=false/\((c.toNat:Int)==93)=false/\((c.toNat:Int)==58)=true/\b=true/\Br b (c :: r)=(Br b r).map (fun p=>(c :: p.1,p.2)))\/
  (((c.toNat:Int)==91)=false/\((c.toNat:Int)==93)=false/\((c.toNat:Int)==58)=false/\Br b (c :: r)=(Br b r).map (fun p=>(c :: p.1,p.2))):=by
 have yes:∀ k:UInt8,c=k->((c.toNat:Int)==(k.toNat:Int))=true:=fun k h=>by subst h;simp
 have no:∀ k:UInt8,c≠k->((c.toNat:Int)==(k.toNat:Int))=false:=fun k h=>by rw [beq_eq_false_iff_ne];intro e;exact h (UInt8.toNat_inj.1 (by omega))
 by_cases h1:c=91
 ·exact .inl ⟨yes 91 h1,by rw [Br,if_pos h1]⟩
 by_cases h2:c=93
 ·exact .inr (.inl ⟨no 91 h1,yes 93 h2,by rw [Br,if_neg h1,if_pos h2]⟩)
 by_cases h3:c=58
 ·cases b with
  | false=>exact .inr (.inr (.inl ⟨no 91 h1,no 93 h2,yes 58 h3,rfl,by rw [Br,if_neg h1,if_neg h2,if_pos ⟨h3,rfl⟩]⟩))
  | true=>exact .inr (.inr (.inr (.inl ⟨no 91 h1,no 93 h2,yes 58 h3,rfl,by rw [Br,if_neg h1,if_neg h2,if_neg (by simp)]⟩)))
 ·exact .inr (.inr (.inr (.inr ⟨no 91 h1,no 93 h2,no 58 h3,by rw [Br,if_neg h1,if_neg h2,if_neg (by simp [h3])]⟩)))
theorem AcB {R:Option (List UInt8 × List UInt8)} {s:ByteArray} {k:Nat} {b b':Bool} (hk:k<s.size) (h:R=(Br b (s.toList.drop k)).map (fun p=>(s.toList.take k++p.1,p.2)))
  (h2:Br b (s[k] :: s.toList.drop (k+1))=(Br b' (s.toList.drop (k+1))).map (fun p=>(s[k] :: p.1,p.2))):R=(Br b' (s.toList.drop (k+1))).map (fun p=>(s.toList.take (k+1)++p.1,p.2)):=by
 rw [h,Ao s k hk,h2,Option.map_map,A5 s k hk];congr 1
 funext p
 simp
theorem Zp (s:ByteArray) (w:World) (hz:s.size<=1000000000):Calls prog 273 #[.string s] w (AcS s.toList w):=by
 unfold AcS;obtain ⟨R,hR⟩:=N2 (Br false s.toList);rw [hR];replace hR:=H0 hR;go_enter func273,ntmps273;go_wp2_with fail;go_loop [3,4] (fun v3 v4=>∃ (k:Nat) (b:Bool),v3= .bool b/\v4= .int .i64 (k:Int)/\k<=s.size/\Hid (R=(Br b (s.toList.drop k)).map (fun p=>(s.toList.take k++p.1,p.2)))) (fun _ v4=>s.size - (intOf v4).toNat)
 case atStart=>exact ⟨0,false,rfl,rfl,Nat.zero_le _,H0 (by rw [List.drop_zero,List.take_zero,hR.out];cases R<;>rfl)⟩
 case round=>
  obtain ⟨k,b,rfl,rfl,hk,hg⟩:=hrel
  by_cases hlt:k<s.size
  ·have hI:(k:Int)<(s.size:Int):=by omega
   have hn:=H0 (fun b' h2=>AcB (b':=b') hlt hg.out h2)
   have hwy:=XE b s[k] (s.toList.drop (k+1));have hc0:=AC s[k];rcases hwy with ⟨q1,h⟩ | ⟨q1,q2,h⟩ | ⟨q1,q2,q3,rfl,h⟩ | ⟨q1,q2,q3,rfl,h⟩ | ⟨q1,q2,q3,h⟩
   ·have hnew:=H0 (hn.out _ h);replace h:=H0 h;go_wp2_with fail;go_round
    case rel=>exact ⟨k+1,true,rfl,by go_num,by omega,hnew⟩
    case measure=>simp [intOf];omega
   ·have hnew:=H0 (hn.out _ h);replace h:=H0 h;go_wp2_with fail;go_round
    case rel=>exact ⟨k+1,false,rfl,by go_num,by omega,hnew⟩
    case measure=>simp [intOf];omega
   ·have hf:Hid (R=some (s.toList.take k,s.toList.drop (k+1))):=H0 (by
     rw [hg.out,Ao s k hlt,h];show some (s.toList.take k++[],_)=_
     rw [List.append_nil])
    replace h:=H0 h;go_wp2_with fail;go_ret;exact ⟨_,rfl,H0 (.inr ⟨k,rfl,by rw [Aa];exact hlt,hf.out⟩),rfl⟩
   ·have hnew:=H0 (hn.out _ h);replace h:=H0 h;go_wp2_with fail;go_round
    case rel=>exact ⟨k+1,true,rfl,by go_num,by omega,hnew⟩
    case measure=>simp [intOf];omega
   ·have hnew:=H0 (hn.out _ h);replace h:=H0 h;go_wp2_with fail;go_round
    case rel=>exact ⟨k+1,b,rfl,by go_num,by omega,hnew⟩
    case measure=>simp [intOf];omega
  ·have hI:(s.size:Int)<=(k:Int):=by omega
   have hf:Hid (R=none):=H0 (by rw [hg.out,AM s k (by omega)];rfl)
   go_wp2_with fail;go_ret;exact ⟨-1,rfl,H0 (Or.inl (And.intro rfl hf.out)),rfl⟩
def YR (o:Option (Option Nat)) (w:World) (e:Ending) (w':World):Prop:=e= .returned (.tuple #[.int .i64 (((o.getD none).getD 0:Nat):Int),.bool (o.getD none).isSome,.bool o.isSome])/\w=w'
theorem Ez {o q:Option (Option Nat)} {w:World} {z:Int} {a b:Bool} (h:o=q) (h1:z=(((q.getD none).getD 0:Nat):Int)) (h2:a=(q.getD none).isSome) (h3:b=q.isSome):YR o w (.returned (.tuple #[.int .i64 z,.bool a,.bool b])) w:=by subst h h1 h2 h3;exact ⟨rfl,rfl⟩
theorem AcG (scheme s:ByteArray) (w:World) (hz:s.size<=1000000000):Calls prog 274 #[.string scheme,.string s] w (YR (IJ scheme.toList s.toList) w):=by
 obtain ⟨R,hR⟩:=N2 (IJ scheme.toList s.toList);rw [hR];have hv:=hR.symm;unfold IJ at hv;replace hR:=H0 hR
 by_cases hem:s.toList=[]
 ·have hf:Hid (R=some none):=H0 (hv.trans (if_pos hem));have hie:s.toList.isEmpty=true:=by rw [hem];rfl
  replace hv:=H0 hv;replace hem:=H0 hem;go_enter func274,ntmps274;go_wp2_with fail;go_ret3;exact Ez hf.out rfl rfl rfl
 rw [if_neg hem] at hv
 have hie:s.toList.isEmpty=false:=by
  cases hs:s.toList with
  | nil=>exact absurd hs hem
  | cons a r=>rfl
 have hd1:=H0 (Gz (base:=10) hie);replace hem:=H0 hem;have hwh:=H0 (fun w=>Gg s w (by omega))
 have hop:=H0 (fun w=>VF scheme w)
 replace hv:=H0 hv;go_enter func274,ntmps274;go_wp2_with fail;go_loop [7] (fun v7=>∃ k acc:Nat,v7= .int .i64 (k:Int)/\k<=s.size/\Hid (AE 10 acc (s.toList.drop k)=AE 10 0 s.toList)) (fun v7=>s.size - (intOf v7).toNat)
 case atStart=>exact ⟨0,0,rfl,Nat.zero_le _,H0 (by rw [List.drop_zero])⟩
 case round=>
  obtain ⟨k,acc,rfl,hk,hg⟩:=hrel
  by_cases hlt:k<s.size
  ·have hI:(k:Int)<(s.size:Int):=by omega
   have hgs:=hg.out;rw [Ao s k hlt,AE] at hgs;have hdg:=H0 (fun w=>Bu (s[k].toNat:Int) 10 w (AC _) (AK _))
   have hdd:Ah (s[k].toNat:Int) ((10:Nat):Int)=Ah (s[k].toNat:Int) 10:=rfl;rw [hdd] at hgs;replace hdd:=H0 hdd;obtain ⟨z,hz⟩:∃ z,Ah (s[k].toNat:Int) 10=z:=⟨_,rfl⟩;rw [hz] at hgs hdg;replace hz:=H0 hz
   by_cases hneg:z<0
   ·rw [if_pos hneg] at hgs;have hf:Hid (R=none):=H0 (by rw [hv.out,hd1.out,<-hgs])
    replace hgs:=H0 hgs;go_wp2_with (go_at_call 155;refine (hdg.out _).mono ?_;rintro e w' ⟨rfl,rfl⟩);go_ret3;exact Ez hf.out rfl rfl rfl
   ·rw [if_neg hneg] at hgs;have hnew:=H0 hgs;have hz0:(0:Int)<=z:=by omega
    clear hgs hneg;go_wp2_with (go_at_call 155;refine (hdg.out _).mono ?_;rintro e w' ⟨rfl,rfl⟩);go_round
    case rel=>exact ⟨k+1,_,by go_num,by omega,hnew⟩
    case measure=>simp [intOf];omega
  ·have hI:(s.size:Int)<=(k:Int):=by omega
   obtain ⟨O,hO⟩:=N2 (Bo 10 s.toList);have hv2:=hv.out;rw [hO] at hwh hv2;replace hO:=H0 hO;clear hd1
   cases O with
   | none=>
    have hf:Hid (R=none):=H0 hv2;replace hv2:=H0 hv2;go_wp2_with fail;refine (hwh.out _).mono ?_;rintro e w1 ⟨rfl,rfl⟩;go_wp2_with fail;go_ret3;exact Ez hf.out rfl rfl rfl
   | some n=>
    dsimp only at hv2;have hwh2:Hid (∀ w,Calls prog 292 #[.string s] w (fun e w'=>e= .returned (.tuple #[.int .i64 ((min n Ek:Nat):Int),.bool true])/\w=w')):=H0 hwh.out
    clear hwh
    by_cases hbig:65535<n
    ·have hf:Hid (R=none):=H0 (hv2.trans (if_pos hbig));obtain ⟨m,hm⟩:=N2 (min n Ek);have hmI:(65535:Int)<(m:Int):=by rw [<-hm];unfold Ek;omega
     rw [hm] at hwh2;replace hm:=H0 hm;replace hv2:=H0 hv2;replace hbig:=H0 hbig;go_wp2_with fail;refine (hwh2.out _).mono ?_;rintro e w1 ⟨rfl,rfl⟩;go_wp2_with fail;go_ret3;exact Ez hf.out rfl rfl rfl
    ·have hmn:min n Ek=n:=by unfold Ek;omega
     have hnI:(n:Int)<=65535:=by omega
     rw [hmn] at hwh2;replace hmn:=H0 hmn;rw [if_neg hbig] at hv2;replace hbig:=H0 hbig;obtain ⟨P,hP⟩:=N2 (HZ scheme.toList);rw [hP] at hv2 hop;replace hP:=H0 hP
     cases P with
     | none=>
      have hf:Hid (R=some (some n)):=H0 (hv2.trans (if_neg (by simp)))
      replace hv2:=H0 hv2;go_wp2_with fail;refine (hwh2.out _).mono ?_;rintro e w1 ⟨rfl,rfl⟩;go_wp2_with fail;refine (hop.out _).mono ?_;rintro e w1 ⟨rfl,rfl⟩;go_wp2_with fail;go_ret3;exact Ez hf.out rfl rfl rfl
     | some p=>
      have hop2:Hid (∀ w,Calls prog 309 #[.string scheme] w (fun e w'=>e= .returned (.tuple #[.int .i64 (p:Int),.bool true])/\w=w')):=H0 hop.out
      clear hop
      by_cases hpn:p=n
      ·subst hpn;have hf:Hid (R=some none):=H0 (hv2.trans (if_pos rfl));replace hv2:=H0 hv2;go_wp2_with fail;refine (hwh2.out _).mono ?_;rintro e w1 ⟨rfl,rfl⟩;go_wp2_with fail;refine (hop2.out _).mono ?_;rintro e w1 ⟨rfl,rfl⟩;go_wp2_with fail;go_ret3;exact Ez hf.out rfl rfl rfl
      ·have hf:Hid (R=some (some n)):=H0 (hv2.trans (if_neg (by simpa using hpn)))
       have hpI:((p:Int)==(n:Int))=false:=by rw [beq_eq_false_iff_ne];omega
       replace hv2:=H0 hv2;replace hpn:=H0 hpn;go_wp2_with fail;refine (hwh2.out _).mono ?_;rintro e w1 ⟨rfl,rfl⟩;go_wp2_with fail;refine (hop2.out _).mono ?_;rintro e w1 ⟨rfl,rfl⟩;go_wp2_with fail;go_ret3;exact Ez hf.out rfl rfl rfl
theorem TR {n:List UInt8} {t:ByteArray} (h:t.toList=n):Am (.opaqueN n)=⟨5,t,0,z8⟩:=by rw [Me h];rfl
theorem KK (s:ByteArray) (sp:Bool) (w:World) (hE:GZ w) (hz:s.size<=1100000):Calls prog 266 #[.string s,.bool sp] w (Kn (DO s.toList sp) w):=by
 obtain ⟨R,hR⟩:=N2 (DO s.toList sp);rw [hR];have hv:=hR.symm;unfold DO at hv;replace hR:=H0 hR;have hhp:=H0 (fun w=>Tryz.strings_HasPrefix s ⟨#[91]⟩ w)
 rw [show s.data.toList=s.toList from (ByteArray.toList_eq ..).symm,show (ByteArray.mk #[91]).data.toList=[91] from rfl] at hhp;have hE':=H0 hE;clear hE;have hb0:Below w.heap.size w (w.alloc (.cells (An (Am .none)) 32)):=(Below.refl _ _).alloc (Nat.le_refl _) _;have hh0:(w.alloc (.cells (An (Am .none)) 32)).heap[w.heap.size]? =some (.cells (An (Am .none)) 32 (0,0)):=heap_alloc_new w _;obtain ⟨w0,hw0⟩:∃ w0,w.alloc (.cells (An (Am .none)) 32)=w0:=⟨_,rfl⟩;rw [hw0] at hb0 hh0;have hw0':w.alloc (.cells #[.int .i64 0,.string ⟨#[]⟩,.int .u32 0,.int .u16 0,.int .u16 0,.int .u16 0,.int .u16 0,.int .u16 0,.int .u16 0,.int .u16 0,.int .u16 0] 32)=w0:=hw0;replace hw0:=H0 hw0;have hs0:=hb0.size;have hlt0:=Cu hh0;replace hh0:=H0 hh0;obtain ⟨P,hP⟩:=N2 (Lib.hasPrefix s.toList [91]);rw [hP] at hv hhp
 cases P with
 | true=>
  replace hv:Hid (R=Ts (s.toList.drop 1)):=H0 (hv.trans (if_pos rfl))
  have h1:1<=s.size:=by
   rw [CY,beq_iff_eq] at hP;have:=Aa s
   cases hs:s.toList with
   | nil=>rw [hs] at hP;cases hP
   | cons a r=>rw [hs] at this;simp at this;omega
  have h1I:(1:Int)<=(s.size:Int):=by omega
  replace hP:=H0 hP;have hC:Hid ((s.extract 1 s.size).toList=s.toList.drop 1):=H0 (by rw [toList_extract,List.take_of_length_le (by rw [Aa];omega)])
  have hCz:(s.extract 1 s.size).size<=1100000:=by rw [ByteArray.size_extract];omega
  have hbr:=QT (s.extract 1 s.size) w0 (hE'.out.next hb0).ml hCz
  rw [hC.out,<-hv.out] at hbr;replace hbr:=H0 hbr;go_enter func266,ntmps266;go_wp2_with fail;refine (hhp.out _).mono ?_;rintro e w1 ⟨rfl,hw⟩;obtain rfl:=hw.symm;clear hw0';go_wp2_with fail;refine hbr.out.mono ?_;rintro e w2 ⟨rfl,hb2⟩;have hbel2:=hb0.trans (hb2.mono hs0);have hh2:Hid (w2.heap[w.heap.size]? =some (.cells (An (Am .none)) 32 (0,0))):=H0 ((hb2.block _ hlt0).trans hh0.out);go_wp2_with (refine wpList_store_row rfl 32 _ _ rfl w.heap.size (An (Am (R.getD .none))) rfl rfl 32 _ hh2.out AN rfl (A2 _) ?_);refine B0 rfl rfl rfl rfl (BM hh2.out) ?_;exact ⟨rfl,Ae hbel2 (Nat.le_refl _) _⟩
 | false=>
  rw [if_neg (by decide)] at hv
  replace hP:=H0 hP
  cases sp with
  | true=>
   replace hv:Hid (R=KI s.toList):=H0 (hv.trans (if_pos rfl));have hbr:=QY s w0 (hE'.out.next hb0) hz
   rw [<-hv.out] at hbr;replace hbr:=H0 hbr;go_enter func266,ntmps266;go_wp2_with fail;refine (hhp.out _).mono ?_;rintro e w1 ⟨rfl,hw⟩;obtain rfl:=hw.symm;clear hw0';go_wp2_with fail;refine hbr.out.mono ?_;rintro e w2 ⟨rfl,hb2⟩;have hbel2:=hb0.trans (hb2.mono hs0);have hh2:Hid (w2.heap[w.heap.size]? =some (.cells (An (Am .none)) 32 (0,0))):=H0 ((hb2.block _ hlt0).trans hh0.out);go_wp2_with (refine wpList_store_row rfl 32 _ _ rfl w.heap.size (An (Am (R.getD .none))) rfl rfl 32 _ hh2.out AN rfl (A2 _) ?_);refine B0 rfl rfl rfl rfl (BM hh2.out) ?_;exact ⟨rfl,Ae hbel2 (Nat.le_refl _) _⟩
  | false=>
   have hv2:R=if s.toList.isEmpty=true then some .empty else if s.toList.any EN=true then none else some (.opaqueN (A1 0 s.toList)):=hv.trans (if_neg (by decide))
   clear hv;obtain ⟨em,hem⟩:∃ b,s.toList.isEmpty=b:=⟨_,rfl⟩;rw [hem] at hv2
   cases em with
   | true=>
    have hf:Hid (R=some .empty):=H0 (hv2.trans (if_pos rfl));replace hv2:=H0 hv2;go_enter func266,ntmps266;go_wp2_with fail;refine (hhp.out _).mono ?_;rintro e w1 ⟨rfl,hw⟩;obtain rfl:=hw.symm;clear hw0';go_wp2_with (refine wpList_store_row rfl 32 _ _ rfl w.heap.size (An (Am .empty)) rfl rfl 32 _ hh0.out AN rfl (A2 _) ?_);refine B0 rfl rfl rfl rfl (BM hh0.out) ?_;exact E9 hf.out (Ae hb0 (Nat.le_refl _) _)
   | false=>
    rw [if_neg (by decide)] at hv2
    replace hv2:=H0 hv2;go_enter func266,ntmps266;go_wp2_with fail;refine (hhp.out _).mono ?_;rintro e w1 ⟨rfl,hw⟩;obtain rfl:=hw.symm;clear hw0';go_wp2_with fail;go_loop [6,24] (fun _ v24=>∃ k:Nat,v24= .int .i64 (k:Int)/\k<=s.size/\Hid (s.toList.any EN=(s.toList.drop k).any EN)) (fun _ v24=>s.size - (intOf v24).toNat)
    case atStart=>exact ⟨0,rfl,Nat.zero_le _,H0 (by rw [List.drop_zero])⟩
    case round=>
     obtain ⟨k,rfl,hk,hg⟩:=hrel
     by_cases hlt:k<s.size
     ·have hI:(k:Int)<(s.size:Int):=by omega
      have hgs:=hg.out;rw [Ao s k hlt,List.any_cons] at hgs;have hbd:=H0 (YS s[k]);obtain ⟨B,hB⟩:=N2 (EN s[k]);rw [hB] at hbd hgs;replace hB:=H0 hB;replace hgs:=H0 hgs
      cases B with
      | false=>
       have hnew:Hid (s.toList.any EN=(s.toList.drop (k+1)).any EN):=H0 (by rw [hgs.out,Bool.false_or])
       go_wp2_with (go_at_call 305;refine (hbd.out _).mono ?_;rintro e w' ⟨rfl,rfl⟩);go_round
       case rel=>exact ⟨k+1,by go_num,by omega,hnew⟩
       case measure=>simp [intOf];omega
      | true=>
       have hf:Hid (R=none):=H0 (by rw [hv2.out,hgs.out];rfl)
       go_wp2_with (first
        | (go_at_call 305;refine (hbd.out _).mono ?_;rintro e w' ⟨rfl,rfl⟩)
        | (refine wpList_store_row rfl 32 _ _ rfl w.heap.size (An (Am .none)) rfl rfl 32 _ hh0.out AN rfl (A2 _) ?_))
       refine B0 rfl rfl rfl rfl (BM hh0.out) ?_;exact Dg hf.out (Ae hb0 (Nat.le_refl _) _)
     ·have hI:(s.size:Int)<=(k:Int):=by omega
      have hf:Hid (R=some (.opaqueN (A1 0 s.toList))):=H0 (by
       rw [hv2.out,hg.out,AM s k (by omega)]
       show (if false=true then _ else _)=_
       rw [if_neg (by decide)])
      have hen:=H0 (DR s 0 (by decide) w0 (by omega))
      go_wp2_with fail;refine hen.out.mono ?_;rintro e w2 ⟨t,rfl,ht,hb2⟩;have hbel2:=hb0.trans (hb2.mono hs0);have hh2:Hid (w2.heap[w.heap.size]? =some (.cells (An (Am .none)) 32 (0,0))):=H0 ((hb2.block _ hlt0).trans hh0.out);go_wp2_with (refine wpList_store_row rfl 32 _ _ rfl w.heap.size (An ⟨5,t,0,z8⟩) rfl rfl 32 _ hh2.out AN rfl (A2 _) ?_);refine B0 rfl rfl rfl rfl (BM hh2.out) ?_;rw [<-TR ht.out];exact E9 hf.out (Ae hbel2 (Nat.le_refl _) _)
theorem AaM {o:Option Bz} {w w':World} {e:Ending} (h:Kn o w e w'):∃ H:CL,Hid (H=Am (o.getD .none))/\e= .returned (.tuple #[.agg (An H),.bool o.isSome])/\Below w.heap.size w w':=⟨_,H0 rfl,h.1,h.2⟩
def Bg (us ps:ByteArray) (h:CL) (hp:Bool) (p:Int):Array Value:= #[.string us,.string ps,.int .i64 h.kind,.string h.name,.int .u32 (h.four:Int),.int .u16 ((pc h.six 0:Nat):Int),.int .u16 ((pc h.six 1:Nat):Int),.int .u16 ((pc h.six 2:Nat):Int),.int .u16 ((pc h.six 3:Nat):Int),.int .u16 ((pc h.six 4:Nat):Int),.int .u16 ((pc h.six 5:Nat):Int),.int .u16 ((pc h.six 6:Nat):Int),.int .u16 ((pc h.six 7:Nat):Int),.bool hp,.int .i64 p]
def YO:FF:=⟨[],[],.none,none⟩
def II (o:Option Nat):Int:=((o.getD 0:Nat):Int)
def NL (us ps:ByteArray) (a:FF):Array Value:=Bg us ps (Am a.host) a.port.isSome (II a.port)
def S7 (o:Option FF) (w:World) (e:Ending) (w':World):Prop:=∃ us ps:ByteArray,e= .returned (.tuple #[.agg (NL us ps (o.getD YO)),.bool o.isSome])/\Hid (us.toList=(o.getD YO).user)/\Hid (ps.toList=(o.getD YO).pass)/\Below w.heap.size w w'
def CH:Array Value:=Bg ⟨#[]⟩ ⟨#[]⟩ (Am .none) false 0
theorem Qc:(prog.info? 9).map (·.size)=some 1:=by kernel_rfl
theorem RZ:(prog.info? 4).map (·.size)=some 1:=by kernel_rfl
theorem VW:(prog.info? 3).map (·.size)=some 1:=by kernel_rfl
theorem C5 (us ps:ByteArray) (h:CL) (hp:Bool) (p:Int):(prog.info? 141).map (·.size)=some (Bg us ps h hp p).size:=by show _=some 15;kernel_rfl
theorem Fo (us ps:ByteArray) (h:CL) (hp:Bool) (p:Int):(Bg us ps h hp p).all (·.oneCell')=true:=by kernel_rfl
theorem Jd {f:Func} {R:Ending->World->Prop} {a:Act} {w:World} {g:Nat} {c:Array Value} {b:Bool} {p u:Nat} (hf:f.results= #[.cell p 141,.tmp u]) (h2:a.tmps.getD p undef= .pointer (some ⟨g,0,none⟩)) (h3:a.tmps.getD u undef= .bool b) (hd:a.defers=[])
  (hg:AJ w g c 141) (hi:(prog.info? 141).map (·.size)=some c.size) (hR:R (.returned (.tuple #[.agg c,.bool b])) w):
  bodyPost prog f R .ret a w:=by
 refine bodyPost_ret (v:= .tuple #[.agg c,.bool b]) ?_ hd hR;rw [results_cell_tmp hf,h2,h3];simp [asAddr,Result.andThen,run_loadVar_row (P:=prog) w g _ 141 _ _ _ hg underlying141 rfl hi]
theorem F7 {o:Option FF} {w w':World} (h:o=none) (hb:Below w.heap.size w w'):S7 o w (.returned (.tuple #[.agg CH,.bool false])) w':=by subst h;exact ⟨_,_,rfl,H0 (toList_mk []),H0 (toList_mk []),hb⟩
theorem Ty {o:Option FF} {us ps:ByteArray} {h:Bz} {q:Option Nat} {w w':World} (e:o=some ⟨us.toList,ps.toList,h,q⟩) (hb:Below w.heap.size w w'):S7 o w (.returned (.tuple #[.agg (Bg us ps (Am h) q.isSome (II q)),.bool true])) w':=by subst e;exact ⟨us,ps,rfl,H0 rfl,H0 rfl,hb⟩
def Nq (sch us ps n p:List UInt8):Option FF:=match DO n (Aj sch) with
 | none=>none
 | some h=>match IJ sch p with
  | none=>none
  | some q=>some ⟨us,ps,h,q⟩
theorem X4 {sch us ps s:List UInt8} (h:Br false s=none):E7 sch us ps s=Nq sch us ps s []:=by
 unfold E7 Fz;rw [h];rfl
theorem XF {sch us ps s n p:List UInt8} (h:Br false s=some (n,p)):E7 sch us ps s=if n=[] then none else Nq sch us ps n p:=by
 unfold E7 Fz;rw [h];dsimp only
 by_cases hn:n=[]
 ·rw [if_pos hn,if_pos hn]
 ·rw [if_neg hn,if_neg hn];rfl
theorem WM {sch s:List UInt8} (h:CN 64 s=none):Gy sch s=E7 sch [] [] s:=by unfold Gy;rw [h]
theorem XQ {sch s a b:List UInt8} (h:CN 64 s=some (a,b)):Gy sch s=if b=[] then none else E7 sch (A1 5 (Af 58 a).1) (A1 5 (Af 58 a).2.1) b:=by unfold Gy;rw [h]
theorem QB (sch s:ByteArray) (w:World) (hE:GZ w) (hz:s.size<=1100000):Calls prog 216 #[.string sch,.string s] w (S7 (Gy sch.toList s.toList) w):=by
 obtain ⟨R,hR⟩:=N2 (Gy sch.toList s.toList);rw [hR];have hli:=fun w=>Tryz.strings_LastIndexByte s 64 (by omega) w
 have hcut:=KM s 64;rw [show (((64:UInt8).toNat:Nat):Int)=64 from rfl] at hcut;obtain ⟨z,hzv⟩:=N2 (Lib.lastIndexByte s 64);rw [hzv] at hli hcut
 have hway:(z= -1/\Hid (R=E7 sch.toList [] [] s.toList))\/∃ i:Nat,z=(i:Int)/\i<s.size/\Hid (R=if s.toList.drop (i+1)=[] then none else E7 sch.toList (A1 5 (Af 58 (s.toList.take i)).1) (A1 5 (Af 58 (s.toList.take i)).2.1) (s.toList.drop (i+1))):=by
  rcases hcut with ⟨h1,h2⟩ | ⟨i,hi,h1,h2⟩
  ·exact .inl ⟨h1,H0 (by rw [<-hR,WM h2])⟩
  ·exact .inr ⟨i,h1,hi,H0 (by rw [<-hR,XQ h2])⟩
 clear hcut;replace hR:=H0 hR;replace hzv:=H0 hzv;replace hli:=H0 hli;have hE':=H0 hE;clear hE;have hsp:=H0 (fun w=>DN sch w)
 have hA0:AJ (w.alloc (.cells CH 141)) w.heap.size CH 141:=AJ.new _ _ _;have hb0:Below w.heap.size w (w.alloc (.cells CH 141)):=(Below.refl _ _).alloc (Nat.le_refl _) _;have hs0:(w.alloc (.cells CH 141)).heap.size=w.heap.size+1:=Ai _ _;obtain ⟨w0,hw0⟩:∃ w0,w.alloc (.cells CH 141)=w0:=⟨_,rfl⟩;rw [hw0] at hA0 hb0 hs0;have hw0':w.alloc (.cells #[.string ⟨#[]⟩,.string ⟨#[]⟩,.int .i64 0,.string ⟨#[]⟩,.int .u32 0,.int .u16 0,.int .u16 0,.int .u16 0,.int .u16 0,.int .u16 0,.int .u16 0,.int .u16 0,.int .u16 0,.bool false,.int .i64 0] 141)=w0:=hw0;replace hw0:=H0 hw0;have hA1:AJ (w0.alloc (.cells CH 141)) w.heap.size CH 141:=hA0.alloc _;have hB1:AJ (w0.alloc (.cells CH 141)) w0.heap.size CH 141:=AJ.new _ _ _;have hb1:Below w.heap.size w (w0.alloc (.cells CH 141)):=hb0.alloc (by omega) _
 obtain ⟨w1,hw1⟩:∃ w1,w0.alloc (.cells CH 141)=w1:=⟨_,rfl⟩;rw [hw1] at hA1 hB1 hb1;have hw1':w0.alloc (.cells #[.string ⟨#[]⟩,.string ⟨#[]⟩,.int .i64 0,.string ⟨#[]⟩,.int .u32 0,.int .u16 0,.int .u16 0,.int .u16 0,.int .u16 0,.int .u16 0,.int .u16 0,.int .u16 0,.int .u16 0,.bool false,.int .i64 0] 141)=w1:=hw1;replace hw1:=H0 hw1;obtain ⟨g,hg⟩:=N2 (w0.heap.size);rw [hg] at hB1 hs0;have hgw:w.heap.size<=g:=by omega
 have hne:w.heap.size≠g:=by omega
 replace hne:=H0 hne;replace hgw:=H0 hgw;replace hA1:=H0 hA1;replace hB1:=H0 hB1;replace hb1:=H0 hb1;clear hA0 hb0 hs0;go_enter func216,ntmps216;go_wp2_with fail;refine (hli.out _).mono ?_;rintro e w' ⟨rfl,hw⟩;obtain rfl:=hw.symm;clear hw0' hw1' hg;go_upto_if 19 with (fail)
 go_cut [1] (fun s1 wx=>∃ r us ps:ByteArray,s1= .string r/\r.size<=1100000/\Hid (R=E7 sch.toList us.toList ps.toList r.toList)/\Hid (AJ wx w.heap.size CH 141)/\Hid (AJ wx g (Bg us ps (Am .none) false 0) 141)/\Hid (Below w.heap.size w wx))
 case first=>
  rcases hway with ⟨rfl,hres⟩ | ⟨i,rfl,hi,hres⟩
  ·go_wp2_with fail;go_meet;exact ⟨s,⟨#[]⟩,⟨#[]⟩,rfl,hz,H0 (by rw [hres.out,show (⟨#[]⟩:ByteArray).toList=[] from toList_mk []]),hA1,hB1,hb1⟩
  ·have hiI:(i:Int)<=(s.size:Int):=by omega
   have hi1:(i:Int)+1<=(s.size:Int):=by omega
   have hx1:(s.extract 0 i).size<=1100000:=by rw [ByteArray.size_extract];omega
   have hxl:Hid ((s.extract 0 i).toList=s.toList.take i):=H0 (by rw [toList_extract,List.drop_zero])
   have hyl:Hid ((s.extract (i+1) s.size).toList=s.toList.drop (i+1)):=H0 (by rw [toList_extract,List.take_of_length_le (by rw [Aa];omega)])
   have hy1:(s.extract (i+1) s.size).size<=1100000:=by rw [ByteArray.size_extract];omega
   have hwr:IntKind.i64.wrap ((i:Int)+1)=(i:Int)+1:=IntWalk.i64_in ((i:Int)+1) (by omega)
   go_wp2_with fail;refine (Gd _ 58 _ (hE'.out.next hb1.out).ml (by omega)).mono ?_
   rintro e w2 ⟨u1,p1,n1,rfl,hu1,hp1,rfl⟩;have hz1:=Kb hu1.out hp1.out;have hbd:Below w.heap.size w (w1.drewN n1):=below_drewN hb1.out _;go_wp2_with fail;refine (DR u1 5 (by decide) _ (by omega)).mono ?_
   rintro e w2 ⟨us,rfl,hus,hb2⟩;have hA2:Hid (AJ w2 w.heap.size CH 141):=H0 (AJ.keep (w:=w1.drewN n1) hA1.out hb2);have hB2:Hid (AJ w2 g CH 141):=H0 (AJ.keep (w:=w1.drewN n1) hB1.out hb2);have hbel2:Hid (Below w.heap.size w w2):=H0 (hbd.next hb2)
   clear hb2;go_wp2_with (refine Ad rfl _ _ _ rfl g 0 rfl (.string us) rfl rfl _ CH (Bg us ⟨#[]⟩ (Am .none) false 0) hB2.out Qc (by show 0+1<=15;decide) rfl (by kernel_rfl) ?_)
   refine (DR p1 5 (by decide) _ (by omega)).mono ?_
   rintro e w3 ⟨ps,rfl,hps,hb3⟩;have hA3:Hid (AJ w3 w.heap.size CH 141):=H0 ((hA2.out.other hne.out _).keep hb3);have hB3:Hid (AJ w3 g (Bg us ⟨#[]⟩ (Am .none) false 0) 141):=H0 ((hB2.out.set _).keep hb3);have hbel3:Hid (Below w.heap.size w w3):=H0 ((Ae hbel2.out hgw.out _).next hb3)
   clear hb3
   have hres2:Hid (R=if (s.extract (i+1) s.size).toList=[] then none else E7 sch.toList us.toList ps.toList (s.extract (i+1) s.size).toList):=H0 (by
    rw [hres.out,hyl.out,hus.out,hps.out,hu1.out,hp1.out,hxl.out])
   obtain ⟨r,hr⟩:=N2 (s.extract (i+1) s.size);rw [hr] at hres2 hy1
   by_cases hem:r.toList=[]
   ·have hf:Hid (R=none):=H0 (hres2.out.trans (if_pos hem));have hem2:r.toList.isEmpty=true:=by rw [hem];rfl
    have hA4:Hid (AJ (w3.setRow g (Bg us ps (Am .none) false 0)) w.heap.size CH 141):=H0 (hA3.out.other hne.out _);replace hem:=H0 hem
    go_wp2_with (first
     | (refine Ad rfl _ _ _ rfl g 1 rfl (.string ps) rfl rfl _ (Bg us ⟨#[]⟩ (Am .none) false 0) (Bg us ps (Am .none) false 0) hB3.out Qc (by show 1+1<=15;decide) rfl (by kernel_rfl) ?_)
     | (refine wpList_store_row rfl 141 _ _ rfl w.heap.size CH rfl rfl 141 _ hA4.out (C5 _ _ _ _ _) rfl (Fo _ _ _ _ _) ?_))
    refine Jd rfl rfl rfl rfl (hA4.out.set _) (C5 _ _ _ _ _) ?_;exact F7 hf.out (Ae (Ae hbel3.out hgw.out _) (Nat.le_refl _) _)
   ·have hf:Hid (R=E7 sch.toList us.toList ps.toList r.toList):=H0 (hres2.out.trans (if_neg hem))
    have hem2:r.toList.isEmpty=false:=by
     cases hs:r.toList with
     | nil=>exact absurd hs hem
     | cons a r=>rfl
    replace hem:=H0 hem;go_wp2_with (refine Ad rfl _ _ _ rfl g 1 rfl (.string ps) rfl rfl _ (Bg us ⟨#[]⟩ (Am .none) false 0) (Bg us ps (Am .none) false 0) hB3.out Qc (by show 1+1<=15;decide) rfl (by kernel_rfl) ?_)
    go_meet;exact ⟨r,us,ps,rfl,hy1,hf,H0 (hA3.out.other hne.out _),H0 (hB3.out.set _),H0 (Ae hbel3.out hgw.out _)⟩
 case rest=>
  clear hway hli hA1 hB1 hb1;obtain ⟨r,us,ps,rfl,hrz,hres,hA,hB,hbel⟩:=hcut;have hcol:=H0 (fun w=>Zp r w (by omega))
  go_wp2_with fail;refine (hcol.out _).mono ?_;rintro e w' ⟨i,rfl,hci,hw⟩;obtain rfl:=hw.symm;clear hcol;go_upto_if 45 with (fail)
  go_cut [11,12] (fun s11 s12 wx=>∃ n p:ByteArray,s11= .string n/\s12= .string p/\n.size<=1100000/\p.size<=1100000/\Hid (R=Nq sch.toList us.toList ps.toList n.toList p.toList)/\Hid (AJ wx w.heap.size CH 141)/\Hid (AJ wx g (Bg us ps (Am .none) false 0) 141)/\Hid (Below w.heap.size w wx))
  case first=>
   rcases hci.out with ⟨rfl,h⟩ | ⟨k,rfl,hk,h⟩
   ·have hf:Hid (R=Nq sch.toList us.toList ps.toList r.toList []):=H0 (by rw [hres.out,X4 h])
    have hf2:Hid (R=Nq sch.toList us.toList ps.toList r.toList (⟨#[]⟩:ByteArray).toList):=H0 (by rw [show (⟨#[]⟩:ByteArray).toList=[] from toList_mk []];exact hf.out)
    clear hf;replace h:=H0 h;go_wp2_with fail;go_meet;exact ⟨r,⟨#[]⟩,rfl,rfl,hrz,by decide,hf2,hA,hB,hbel⟩
   ·rw [Aa] at hk;have hkI:(k:Int)<=(r.size:Int):=by omega
    have hk0:(0:Int)<=(k:Int):=by omega
    have hk1:(k:Int)+1<=(r.size:Int):=by omega
    have hwr:IntKind.i64.wrap ((k:Int)+1)=(k:Int)+1:=IntWalk.i64_in ((k:Int)+1) (by omega)
    have hx1:(r.extract 0 k).size<=1100000:=by rw [ByteArray.size_extract];omega
    have hy1:(r.extract (k+1) r.size).size<=1100000:=by rw [ByteArray.size_extract];omega
    have hres2:Hid (R=if (r.extract 0 k).toList=[] then none else Nq sch.toList us.toList ps.toList (r.extract 0 k).toList (r.extract (k+1) r.size).toList):=H0 (by
     rw [hres.out,XF h,toList_extract,toList_extract,List.drop_zero,List.take_of_length_le (l:=r.toList) (i:=r.size) (by rw [Aa];omega)])
    replace h:=H0 h;obtain ⟨n,hn⟩:=N2 (r.extract 0 k);obtain ⟨q,hq⟩:=N2 (r.extract (k+1) r.size);rw [hn] at hres2 hx1;rw [hq] at hres2 hy1
    by_cases hem:n.toList=[]
    ·have hf:Hid (R=none):=H0 (hres2.out.trans (if_pos hem));have hem2:n.toList.isEmpty=true:=by rw [hem];rfl
     replace hem:=H0 hem;go_wp2_with fail;go_region
     all_goals
      go_wp2_with (refine wpList_store_row rfl 141 _ _ rfl w.heap.size CH rfl rfl 141 _ hA.out (C5 _ _ _ _ _) rfl (Fo _ _ _ _ _) ?_);refine Jd rfl rfl rfl rfl (AJ.set (by exact hA.out) _) (C5 _ _ _ _ _) ?_
      exact F7 hf.out (Ae (by first | exact hbel.out | exact hbel.out.drew | exact below_drewN hbel.out _) (Nat.le_refl _) _)
    ·have hf:Hid (R=Nq sch.toList us.toList ps.toList n.toList q.toList):=H0 (hres2.out.trans (if_neg hem))
     have hem2:n.toList.isEmpty=false:=by
      cases hs:n.toList with
      | nil=>exact absurd hs hem
      | cons a r=>rfl
     replace hem:=H0 hem;go_wp2_with fail;go_region
     all_goals
      go_wp2_with fail;go_meet;exact ⟨n,q,rfl,rfl,hx1,hy1,hf,hA,hB,H0 (by first | exact hbel.out | exact hbel.out.drew | exact below_drewN hbel.out _)⟩
  case rest=>
   clear hres hA hB hbel hci hrz;obtain ⟨n,q,rfl,rfl,hnz,hqz,hres,hA,hB,hbel⟩:=hcut;have hho:=H0 (fun w hE=>KK n (Aj sch.toList) w hE hnz)
   have hpo:=H0 (fun w=>AcG sch q w (by omega))
   have hv:=hres.out;unfold Nq at hv;obtain ⟨H,hH⟩:=N2 (DO n.toList (Aj sch.toList));obtain ⟨O,hO⟩:=N2 (IJ sch.toList q.toList);rw [hH] at hho hv;rw [hO] at hpo hv;replace hv:=H0 hv;replace hH:=H0 hH;replace hO:=H0 hO;clear hres;go_wp2_with (go_at_call 145;refine (hsp.out _).mono ?_;rintro e w' ⟨rfl,rfl⟩);refine (hho.out _ (hE'.out.next hbel.out)).mono ?_
   intro e w2 hx;obtain ⟨HS,hHS,rfl,hb2⟩:=AaM hx;clear hx;have hA2:Hid (AJ w2 w.heap.size CH 141):=H0 (hA.out.keep hb2);have hB2:Hid (AJ w2 g (Bg us ps (Am .none) false 0) 141):=H0 (hB.out.keep hb2);have hbel2:Hid (Below w.heap.size w w2):=H0 (hbel.out.next hb2)
   have hs2:Hid (w.heap.size<=w2.heap.size):=H0 hbel2.out.size;clear hb2 hho hA hB hbel
   cases H with
   | none=>
    have hf:Hid (R=none):=H0 hv.out;obtain rfl:HS=Am .none:=hHS.out;have hA3:Hid (AJ (w2.alloc (.cells (An (Am .none)) 32)) w.heap.size CH 141):=H0 (hA2.out.alloc _);have hbel3:Hid (Below w.heap.size w (w2.alloc (.cells (An (Am .none)) 32))):=H0 (hbel2.out.alloc hs2.out _)
    go_wp2_with (first
     | (refine Ag rfl 32 _ _ rfl rfl (An (Am .none)) _ _ _ rfl (by simp) rfl AN rfl (A2 _) ?_)
     | (refine wpList_store_row rfl 141 _ _ rfl w.heap.size CH rfl rfl 141 _ hA3.out (C5 _ _ _ _ _) rfl (Fo _ _ _ _ _) ?_))
    refine Jd rfl rfl rfl rfl (hA3.out.set _) (C5 _ _ _ _ _) ?_;exact F7 hf.out (Ae hbel3.out (Nat.le_refl _) _)
   | some h=>
    replace hHS:Hid (HS=Am h):=hHS;have hA3:Hid (AJ (w2.alloc (.cells (An (HS)) 32)) w.heap.size CH 141):=H0 (hA2.out.alloc _);have hB3:Hid (AJ (w2.alloc (.cells (An (HS)) 32)) g (Bg us ps (Am .none) false 0) 141):=H0 (hB2.out.alloc _);have hC3:Hid (AJ (w2.alloc (.cells (An (HS)) 32)) w2.heap.size (An (HS)) 32):=H0 (AJ.new _ _ _);have hbel3:Hid (Below w.heap.size w (w2.alloc (.cells (An (HS)) 32))):=H0 (hbel2.out.alloc hs2.out _);clear hA2 hB2 hbel2;go_upto_region 19 with (refine Ag rfl 32 _ _ rfl rfl (An (HS)) _ _ _ rfl (by simp) rfl AN rfl (A2 _) ?_)
    refine Ar (R:=fun wx=>Hid (AJ wx w.heap.size CH 141)/\Hid (AJ wx g (Bg us ps (Am .none) false 0) 141)/\Hid (AJ wx w2.heap.size (An HS) 32)/\Hid (Below w.heap.size w wx)) ⟨hA3,hB3,hC3,hbel3⟩ ?_
    clear hA3 hB3 hC3 hbel3;rintro w3 ⟨hA3,hB3,hC3,hbel3⟩;obtain ⟨q2,hq2⟩:∃ q,w2.heap.size=q:=⟨_,rfl⟩;rw [hq2] at hC3⊢;clear hq2 hs2;have hB4:Hid (AJ (w3.setRow g (Bg us ps (HS) false 0)) g (Bg us ps (HS) false 0) 141):=H0 (hB3.out.set _);have hA4:Hid (AJ (w3.setRow g (Bg us ps (HS) false 0)) w.heap.size CH 141):=H0 (hA3.out.other hne.out _);have hbel4:Hid (Below w.heap.size w (w3.setRow g (Bg us ps (HS) false 0))):=H0 (Ae hbel3.out hgw.out _)
    go_wp2_with (first
     | (refine wpList_load_row rfl 32 _ rfl q2 rfl _ (An (HS)) _ _ hC3.out underlying32 rfl AN ?_)
     | (refine BF rfl _ _ _ rfl g 2 rfl (.agg (An (HS))) rfl (An (HS)) rfl _ (Bg us ps (Am .none) false 0) (Bg us ps (HS) false 0) hB3.out AN (by show 2+11<=15;decide) (A2 _) (by kernel_rfl) ?_))
    refine (hpo.out _).mono ?_;rintro e w' ⟨rfl,hw⟩;obtain rfl:=hw.symm;obtain ⟨w4,hw4⟩:=N2 (w3.setRow g (Bg us ps (HS) false 0));rw [hw4] at hA4 hB4 hbel4⊢;clear hA3 hB3 hC3 hbel3 hw4 hw hpo;have hv2:=hv.out
    try dsimp only at hv2
    replace hv2:=H0 hv2;clear hv
    have fin:∀ (z:Int) (b:Bool),Hid (AJ (w4.setRow g (Bg us ps (HS) false z)) g (Bg us ps (HS) false z) 141)/\Hid (AJ ((w4.setRow g (Bg us ps (HS) false z)).setRow g (Bg us ps (HS) b z)) g (Bg us ps (HS) b z) 141)/\Hid (AJ ((w4.setRow g (Bg us ps (HS) false z)).setRow g (Bg us ps (HS) b z)) w.heap.size CH 141)/\Hid (Below w.heap.size w ((w4.setRow g (Bg us ps (HS) false z)).setRow g (Bg us ps (HS) b z))):=fun z b=>
     ⟨H0 (hB4.out.set _),H0 ((hB4.out.set _).set _),H0 ((hA4.out.other hne.out _).other hne.out _),H0 (Ae (Ae hbel4.out hgw.out _) hgw.out _)⟩
    replace fin:=H0 fin
    cases O with
    | none=>
     have hf:Hid (R=none):=H0 hv2.out;obtain ⟨hB5,hB6,hA6,hbel6⟩:=fin.out 0 false
     go_wp2_with (first
      | (refine Ad rfl _ _ _ rfl g 14 rfl (.int .i64 0) rfl rfl _ (Bg us ps (HS) false 0) (Bg us ps (HS) false 0) hB4.out VW (by show 14+1<=15;decide) rfl (by kernel_rfl) ?_)
      | (refine Ad rfl _ _ _ rfl g 13 rfl (.bool false) rfl rfl _ (Bg us ps (HS) false 0) (Bg us ps (HS) false 0) hB5.out RZ (by show 13+1<=15;decide) rfl (by kernel_rfl) ?_)
      | (refine wpList_store_row rfl 141 _ _ rfl w.heap.size CH rfl rfl 141 _ hA6.out (C5 _ _ _ _ _) rfl (Fo _ _ _ _ _) ?_))
     refine Jd rfl rfl rfl rfl (hA6.out.set _) (C5 _ _ _ _ _) ?_;exact F7 hf.out (Ae hbel6.out (Nat.le_refl _) _)
    | some o=>
     have hf:Hid (R=some ⟨us.toList,ps.toList,h,o⟩):=H0 hv2.out;obtain ⟨hB5,hB6,hA6,hbel6⟩:=fin.out (II o) o.isSome
     go_wp2_with (first
      | (refine Ad rfl _ _ _ rfl g 14 rfl (.int .i64 (II o)) rfl rfl _ (Bg us ps (HS) false 0) (Bg us ps (HS) false (II o)) hB4.out VW (by show 14+1<=15;decide) rfl (by kernel_rfl) ?_)
      | (refine Ad rfl _ _ _ rfl g 13 rfl (.bool o.isSome) rfl rfl _ (Bg us ps (HS) false (II o)) (Bg us ps (HS) o.isSome (II o)) hB5.out RZ (by show 13+1<=15;decide) rfl (by kernel_rfl) ?_)
      | (refine wpList_load_row rfl 141 _ rfl g rfl _ (Bg us ps (HS) o.isSome (II o)) _ _ hB6.out underlying141 rfl (C5 _ _ _ _ _) ?_)
      | (refine wpList_store_row rfl 141 _ _ rfl w.heap.size (Bg us ps (HS) o.isSome (II o)) rfl rfl 141 _ hA6.out (C5 _ _ _ _ _) rfl (Fo _ _ _ _ _) ?_))
     refine Jd rfl rfl rfl rfl (hA6.out.set _) (C5 _ _ _ _ _) ?_;have e:=hHS.out;subst e;exact Ty hf.out (Ae hbel6.out (Nat.le_refl _) _)
theorem AO {P:Program} {ops:Array Oper} {o:Oper} {a:Act} {w:World} {K:Act->World->Prop} {Q:Exit->Act->World->Prop}
  (hw:Region.wanted o (yielded ops a.tmps)=true) (h:∀ Q':Exit->Act->World->Prop,(∀ a w,K a w->Q' .normal a w)->wpList P ops Q' [o] a w):
  if Region.wanted o (yielded ops a.tmps)=true then Oper.wp P o a w K Q else K (a.put o.dst undef) w:=by
 rw [if_pos hw]
 have hl:=h (fun e a w=>match e with | .normal=>K a w | .outgrown=>False | e=>Q e a w) (fun _ _ k=>k)
 unfold wpList at hl;rw [if_pos hw] at hl;rcases hl with hA | ⟨_,a',w',hf⟩
 ·unfold Oper.wp at hA⊢;generalize (execOp a.eval o).run P w=r at hA⊢
  cases r with
  | ok v w'=>
   cases v with
   | value v=>exact hA
   | skip=>exact hA
   | defer d=>exact hA
   | enter f args=>
    refine Calls.mono (show Calls P f args w' _ from hA) ?_;intro e w'' he
    cases e with
    | returned v=>exact he
    | panicked c=>exact he
    | outgrown=>obtain ⟨_,_,hx⟩:=he;exact hx.elim
   | row row args=>exact Rows.mono (show Rows P row args w' _ from hA) (fun _ _ h=>h)
   | _=>exact hA
  | halt hh w'=>cases hh<;>exact hA
 ·exact hf.elim
theorem FE (sp:Bool):∀ l,A3 sp l<=l.length
 | []=>Nat.le_refl _
 | c :: r=>by
  rw [A3];split
  ·have:=FE sp r;rw [List.length_cons];omega
  ·exact Nat.zero_le _
theorem G2 (sch s:ByteArray) (w:World) (hz:s.size<=1000000000):Calls prog 207 #[.string sch,.string s] w fun e w'=>e= .returned (.int .i64 ((A3 (Aj sch.toList) s.toList:Nat):Int))/\w=w':=by
 have hsp:=H0 (fun w=>DN sch w)
 obtain ⟨R,hR⟩:=N2 (A3 (Aj sch.toList) s.toList);rw [hR];obtain ⟨sp,hspv⟩:=N2 (Aj sch.toList);rw [hspv] at hR hsp;replace hspv:=H0 hspv;replace hR:=H0 hR;go_enter func207,ntmps207;go_wp2_with (go_at_call 145;refine (hsp.out _).mono ?_;rintro e w' ⟨rfl,rfl⟩);go_loop [6] (fun v6=>∃ k:Nat,v6= .int .i64 (k:Int)/\k<=s.size/\Hid (R=k+A3 sp (s.toList.drop k))) (fun v6=>s.size - (intOf v6).toNat)
 case atStart=>exact ⟨0,rfl,Nat.zero_le _,H0 (by rw [List.drop_zero,Nat.zero_add,hR.out])⟩
 case round=>
  obtain ⟨k,rfl,hk,hg⟩:=hrel
  by_cases hlt:k<s.size
  ·have hI:(k:Int)<(s.size:Int):=by omega
   have hgs:=hg.out;rw [Ao s k hlt,A3] at hgs;have hwy:=Lf sp s[k];have hc0:=AC s[k];obtain ⟨N,hN⟩:=N2 (AB sp s[k]);rw [hN] at hgs hwy;replace hN:=H0 hN;have hwr:IntKind.i64.wrap ((k:Int)+1)=(k:Int)+1:=IntWalk.i64_in _ (by omega)
   cases N with
   | true=>
    rw [if_pos rfl] at hgs;have hnew:Hid (R=k+1+A3 sp (s.toList.drop (k+1))):=H0 (by omega)
    replace hgs:=H0 hgs;rcases hwy with ⟨q1,_⟩ | ⟨_,_,h⟩ | ⟨q1,rfl,q2,_⟩ | ⟨_,_,_,h⟩
    ·go_wp2_with fail;go_round
     case rel=>exact ⟨k+1,by go_num,by omega,hnew⟩
     case measure=>simp [intOf];omega
    ·cases h
    ·go_wp2_with fail;go_round
     case rel=>exact ⟨k+1,by go_num,by omega,hnew⟩
     case measure=>simp [intOf];omega
    ·cases h
   | false=>
    rw [if_neg (by decide)] at hgs
    have hf:(R:Int)=(k:Int):=by omega
    have hf2:Hid (R=k):=H0 (by omega)
    replace hgs:=H0 hgs;replace hf:=H0 hf;rcases hwy with ⟨_,h⟩ | ⟨q1,rfl,_⟩ | ⟨_,_,_,h⟩ | ⟨q1,rfl,q2,_⟩
    ·cases h
    ·go_wp2_with fail;go_ret;exact ⟨by rw [hf2.out];rfl,rfl⟩
    ·cases h
    ·go_wp2_with fail;go_ret;exact ⟨by rw [hf2.out];rfl,rfl⟩
  ·have hI:(s.size:Int)<=(k:Int):=by omega
   have hf2:Hid (R=k):=H0 (by rw [hg.out,AM s k (by omega)];rfl)
   go_wp2_with fail;go_ret;exact ⟨by rw [hf2.out];rfl,rfl⟩
theorem V3 (sp:Bool) (s:ByteArray):(s.extract (A3 sp s.toList) s.size).toList=FK sp s.toList:=by
 rw [toList_extract,List.take_of_length_le (by rw [Aa];omega)];rfl
theorem KG (sch s:ByteArray) (w:World) (hz:s.size<=1000000000):Calls prog 149 #[.string sch,.string s] w fun e w'=>(∃ t:ByteArray,e= .returned (.string t)/\Hid (t.toList=FK (Aj sch.toList) s.toList)/\t.size<=s.size)/\w=w':=by
 have hsl:=H0 (fun w=>G2 sch s w hz)
 have hx:=V3 (Aj sch.toList) s;have hle:=FE (Aj sch.toList) s.toList;rw [Aa] at hle;obtain ⟨n,hn⟩:=N2 (A3 (Aj sch.toList) s.toList);rw [hn] at hx hle hsl;have hnI:(n:Int)<=(s.size:Int):=by omega
 replace hx:=H0 hx;replace hn:=H0 hn;go_enter func149,ntmps149;go_wp2_with (go_at_call 207;refine (hsl.out _).mono ?_;rintro e w' ⟨rfl,rfl⟩);go_ret;exact ⟨⟨_,rfl,hx,by rw [ByteArray.size_extract];omega⟩,rfl⟩
theorem Qd (sch s:ByteArray) (w:World) (hz:s.size<=1100000):Calls prog 217 #[.string sch,.string s] w (Ol (BZ sch.toList s.toList) w):=by
 have hsl:=H0 (fun w=>G2 sch s w (by omega))
 have hle:=FE (Aj sch.toList) s.toList;rw [Aa] at hle;obtain ⟨R,hR⟩:=N2 (BZ sch.toList s.toList);rw [hR];have hv:=hR.symm;unfold BZ at hv;replace hR:=H0 hR;obtain ⟨n,hn⟩:=N2 (A3 (Aj sch.toList) s.toList);rw [hn] at hle hsl hv;replace hn:=H0 hn
 by_cases h0:0<n
 ·rw [if_pos h0] at hv;have h1:1<=s.size:=by omega
  have h1I:(1:Int)<=(s.size:Int):=by omega
  have hnI:(0:Int)<(n:Int):=by omega
  have hxl:(s.extract 1 s.size).toList=s.toList.drop 1:=by rw [toList_extract,List.take_of_length_le (by rw [Aa];omega)]
  rw [<-hxl] at hv;replace hv:=H0 hv;have hp:=H0 (fun w=>Bm sch none 0 0 [] (s.extract 1 s.size) w (C2 w) (by decide) (by rw [ByteArray.size_extract];omega) (fun t h=>by cases h))
  replace hxl:=H0 hxl;go_enter func217,ntmps217;go_wp2_with (go_at_call 207;refine (hsl.out _).mono ?_;rintro e w' ⟨rfl,rfl⟩);refine (hp.out _).mono ?_;rintro e w1 ⟨v,l,rfl,hl,ho,hb⟩;go_wp2_with fail;go_ret;exact ⟨v,l,rfl,H0 (by rw [hl.out,hv.out];rfl),ho,hb⟩
 ·rw [if_neg h0] at hv;have hnI:(n:Int)<=0:=by omega
  obtain rfl:n=0:=by omega
  replace hv:=H0 hv;have hp:=H0 (fun w=>Bm sch none 0 0 [] s w (C2 w) (by decide) hz (fun t h=>by cases h))
  go_enter func217,ntmps217;go_wp2_with (go_at_call 207;refine (hsl.out _).mono ?_;rintro e w' ⟨rfl,rfl⟩);refine (hp.out _).mono ?_;rintro e w1 ⟨v,l,rfl,hl,ho,hb⟩;go_wp2_with fail;go_ret;exact ⟨v,l,rfl,H0 (by rw [hl.out,hv.out];rfl),ho,hb⟩
end Go.Proofs.YtonomfeipkdmhaaGreatDoor
