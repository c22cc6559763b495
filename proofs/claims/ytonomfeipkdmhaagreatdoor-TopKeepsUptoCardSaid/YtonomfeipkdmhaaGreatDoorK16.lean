/- Part 16: lemmas. -/
import Derived.Test.YtonomfeipkdmhaaGreatDoorK15
set_option linter.unusedVariables false
set_option linter.unusedSimpArgs false
set_option maxRecDepth 100000
set_option maxHeartbeats 16000000
namespace Go.Proofs.YtonomfeipkdmhaaGreatDoor
open Go.RowKit
theorem IL (l:List UInt8) (c:UInt8):l.contains c=decide (0<=Lib.indexByte l c):=by
 induction l with
 | nil=>rfl
 | cons d r ih=>
  have hg:=Lib.indexByte_ge r c;unfold Lib.indexByte;rw [List.contains_cons]
  by_cases h:d=c
  ·subst h;simp
  ·have h2:(c==d)=false:=by simpa using Ne.symm h
   have h3:(d==c)=false:=by simpa using h
   rw [h2,Bool.false_or,ih,h3]
   by_cases h1:Lib.indexByte r c= -1
   ·simp [h1]
   ·have h0:0<=Lib.indexByte r c:=by omega
    have:(Lib.indexByte r c== -1)=false:=by simpa using h1
    simp [this,h0];omega
theorem Yk (l:List UInt8) (c:UInt8) (w:World):
  Calls Tryz.prog 307 #[.string ⟨l.toArray⟩,.int .u8 (c.toNat:Int)] w fun e w'=>e= .returned (.bool (l.contains c))/\w=w':=by
 have hix:=fun w=>Tryz.strings_IndexByte ⟨l.toArray⟩ (c.toNat:Int) w
 have ec:((c.toNat:Int)).toNat.toUInt8=c:=by simp
 have el:(⟨l.toArray⟩:ByteArray).data.toList=l:=rfl;simp only [ec,el] at hix;have hc:=IL l c;generalize Lib.indexByte l c=z at hix hc;replace hix:=H0 hix
 have hway:(0<=z/\l.contains c=true)\/(z<0/\l.contains c=false):=by
  by_cases h:0<=z
  ·exact .inl ⟨h,by rw [hc,decide_eq_true h]⟩
  ·exact .inr ⟨by omega,by rw [hc,decide_eq_false h]⟩
 clear hc ec el;generalize l.contains c=b at hway⊢;go_enter Tryz.func307,Tryz.ntmps307
 rcases hway with ⟨h,rfl⟩ | ⟨h,rfl⟩
 all_goals
  go_wp2_with fail;refine (hix.out _).mono ?_;rintro e w' ⟨rfl,hw⟩;obtain rfl:=hw.symm;go_wp2_with fail;go_ret
  refine ⟨?_,rfl⟩;first | rfl | (show Ending.returned (Value.bool _)=_;congr 2;simp<;>omega)
def FX (set:Nat) (c:UInt8) (w:World) (e:Ending) (w':World):Prop:=e= .returned (.bool (FO set c))/\w=w'
theorem Mk (c:UInt8):(BP c=true/\(c.toNat:Int)<32)\/(BP c=true/\(32:Int)<=(c.toNat:Int)/\(126:Int)<(c.toNat:Int))\/(BP c=false/\(32:Int)<=(c.toNat:Int)/\(c.toNat:Int)<=126):=by
 have h:∀ n:Fin 256,(BP (UInt8.ofNat n.val)=true/\((UInt8.ofNat n.val).toNat:Int)<32)\/(BP (UInt8.ofNat n.val)=true/\(32:Int)<=((UInt8.ofNat n.val).toNat:Int)/\(126:Int)<((UInt8.ofNat n.val).toNat:Int))\/(BP (UInt8.ofNat n.val)=false/\(32:Int)<=((UInt8.ofNat n.val).toNat:Int)/\((UInt8.ofNat n.val).toNat:Int)<=126):=by decide+kernel
 have:=h ⟨c.toNat,c.toNat_lt⟩;simp only [UInt8.ofNat_toNat] at this;exact this
theorem CU (l:ByteArray) (c:UInt8) (w:World):
  Calls Tryz.prog 307 #[.string l,.int .u8 (c.toNat:Int)] w fun e w'=>e= .returned (.bool (l.data.toList.contains c))/\w=w':=Yk l.data.toList c w
theorem YE (c:UInt8) (w:World):Calls Tryz.prog 271 #[.int .i64 0,.int .u8 (c.toNat:Int)] w (FX 0 c w):=by
 unfold FX
 show Calls _ _ _ _ fun e w'=>e= .returned (.bool (BP c))/\w=w'
 have hway:=Mk c;generalize BP c=b at hway⊢;go_enter Tryz.func271,Tryz.ntmps271
 rcases hway with ⟨rfl,h⟩ | ⟨rfl,h,h3⟩ | ⟨rfl,h,h3⟩
 all_goals
  go_wp2_with fail;go_ret
  refine ⟨?_,rfl⟩;first | rfl | (show Ending.returned (Value.bool _)=_;congr 2;simp<;>omega)
theorem YW (c:UInt8) (w:World):Calls Tryz.prog 271 #[.int .i64 2,.int .u8 (c.toNat:Int)] w (FX 2 c w):=by
 unfold FX
 show Calls _ _ _ _ fun e w'=>e= .returned (.bool ([32,34,35,60,62].contains c || BP c))/\w=w'
 obtain ⟨a1,h1⟩:∃ a,[32,34,35,60,62].contains c=a:=⟨_,rfl⟩;rw [h1];replace h1:Hid ((ByteArray.mk #[32,34,35,60,62]).data.toList.contains c=a1):=H0 h1;have hway:=Mk c;generalize BP c=b at hway⊢;go_enter Tryz.func271,Tryz.ntmps271;cases a1
 ·rw [Bool.false_or]
  rcases hway with ⟨rfl,h⟩ | ⟨rfl,h,h3⟩ | ⟨rfl,h,h3⟩
  all_goals
   go_wp2_with (go_at_call 307;refine (CU _ c _).mono ?_;rintro e w' ⟨rfl,rfl⟩;first | rw [h1.out] | rw [h2.out] | rw [h3.out])
   go_ret
   refine ⟨?_,rfl⟩;first | rfl | (show Ending.returned (Value.bool _)=_;congr 2;simp<;>omega)
 ·clear hway;rw [Bool.true_or]
  go_wp2_with (go_at_call 307;refine (CU _ c _).mono ?_;rintro e w' ⟨rfl,rfl⟩;first | rw [h1.out] | rw [h2.out] | rw [h3.out])
  go_ret;exact ⟨rfl,rfl⟩
theorem AdS (c:UInt8) (w:World):Calls Tryz.prog 271 #[.int .i64 1,.int .u8 (c.toNat:Int)] w (FX 1 c w):=by
 unfold FX
 show Calls _ _ _ _ fun e w'=>e= .returned (.bool ([32,34,60,62,96].contains c || BP c))/\w=w'
 obtain ⟨a1,h1⟩:∃ a,[32,34,60,62,96].contains c=a:=⟨_,rfl⟩;rw [h1];replace h1:Hid ((ByteArray.mk #[32,34,60,62,96]).data.toList.contains c=a1):=H0 h1
 have h0:=H0 (fun w=>YE c w)
 unfold FX at h0;rw [show FO 0 c=BP c from rfl] at h0;generalize BP c=b at h0⊢;go_enter Tryz.func271,Tryz.ntmps271;cases a1
 all_goals
  go_wp2_with (first
   | (go_at_call 307;refine (CU _ c _).mono ?_;rintro e w' ⟨rfl,rfl⟩;first | rw [h1.out] | rw [h2.out] | rw [h3.out])
   | (go_at_call 271;refine (h0.out _).mono ?_;rintro e w' ⟨rfl,rfl⟩))
  go_ret
  exact ⟨by simp,rfl⟩
theorem Aep (c:UInt8) (w:World):Calls Tryz.prog 271 #[.int .i64 3,.int .u8 (c.toNat:Int)] w (FX 3 c w):=by
 unfold FX
 show Calls _ _ _ _ fun e w'=>e= .returned (.bool (c==39 || My c))/\w=w'
 have h0:=H0 (fun w=>YW c w)
 unfold FX at h0;rw [show FO 2 c=My c from rfl] at h0
 have hq:((c.toNat:Int)==39)=(c==39):=by
  rw [Bool.eq_iff_iff,beq_iff_eq,beq_iff_eq]
  exact ⟨fun h=>UInt8.toNat_inj.1 (by show c.toNat=39;omega),fun h=>by rw [h];rfl⟩
 generalize (c==39)=a at hq⊢;generalize My c=b at h0⊢;go_enter Tryz.func271,Tryz.ntmps271;cases a
 all_goals
  go_wp2_with (go_at_call 271;refine (h0.out _).mono ?_;rintro e w' ⟨rfl,rfl⟩);go_ret
  exact ⟨by simp,rfl⟩
theorem AdW (c:UInt8) (w:World):Calls Tryz.prog 271 #[.int .i64 4,.int .u8 (c.toNat:Int)] w (FX 4 c w):=by
 unfold FX
 show Calls _ _ _ _ fun e w'=>e= .returned (.bool ([63,94,96,123,125].contains c || ([32,34,35,60,62].contains c || BP c)))/\w=w'
 obtain ⟨a1,h1⟩:∃ a,[63,94,96,123,125].contains c=a:=⟨_,rfl⟩;rw [h1];replace h1:Hid ((ByteArray.mk #[63,94,96,123,125]).data.toList.contains c=a1):=H0 h1;obtain ⟨a2,h2⟩:∃ a,[32,34,35,60,62].contains c=a:=⟨_,rfl⟩;rw [h2];replace h2:Hid ((ByteArray.mk #[32,34,35,60,62]).data.toList.contains c=a2):=H0 h2;have hway:=Mk c;generalize BP c=b at hway⊢;go_enter Tryz.func271,Tryz.ntmps271;cases a1
 ·cases a2
  ·rcases hway with ⟨rfl,h⟩ | ⟨rfl,h,h4⟩ | ⟨rfl,h,h4⟩
   all_goals
    go_wp2_with (first
     | (go_at_call 307;refine (CU _ c _).mono ?_;rintro e w' ⟨rfl,rfl⟩;first | rw [h1.out] | rw [h2.out] | rw [h3.out]))
    go_ret
    refine ⟨?_,rfl⟩;first | rfl | (show Ending.returned (Value.bool _)=_;congr 2;simp<;>omega)
  ·clear hway
   go_wp2_with (first
    | (go_at_call 307;refine (CU _ c _).mono ?_;rintro e w' ⟨rfl,rfl⟩;first | rw [h1.out] | rw [h2.out] | rw [h3.out]))
   go_ret;exact ⟨rfl,rfl⟩
 ·clear hway
  go_wp2_with (go_at_call 307;refine (CU _ c _).mono ?_;rintro e w' ⟨rfl,rfl⟩;first | rw [h1.out] | rw [h2.out] | rw [h3.out])
  go_ret;exact ⟨rfl,rfl⟩
theorem Ad5 (c:UInt8) (w:World):Calls Tryz.prog 271 #[.int .i64 5,.int .u8 (c.toNat:Int)] w (FX 5 c w):=by
 unfold FX
 show Calls _ _ _ _ fun e w'=>e= .returned (.bool ([47,58,59,61,64,91,92,93,124].contains c || ([63,94,96,123,125].contains c || ([32,34,35,60,62].contains c || BP c))))/\w=w'
 obtain ⟨a0,h3⟩:∃ a,[47,58,59,61,64,91,92,93,124].contains c=a:=⟨_,rfl⟩;rw [h3];replace h3:Hid ((ByteArray.mk #[47,58,59,61,64,91,92,93,124]).data.toList.contains c=a0):=H0 h3;obtain ⟨a1,h1⟩:∃ a,[63,94,96,123,125].contains c=a:=⟨_,rfl⟩;rw [h1];replace h1:Hid ((ByteArray.mk #[63,94,96,123,125]).data.toList.contains c=a1):=H0 h1;obtain ⟨a2,h2⟩:∃ a,[32,34,35,60,62].contains c=a:=⟨_,rfl⟩;rw [h2];replace h2:Hid ((ByteArray.mk #[32,34,35,60,62]).data.toList.contains c=a2):=H0 h2;have hway:=Mk c;generalize BP c=b at hway⊢;go_enter Tryz.func271,Tryz.ntmps271;cases a0
 ·cases a1
  ·cases a2
   ·rcases hway with ⟨rfl,h⟩ | ⟨rfl,h,h4⟩ | ⟨rfl,h,h4⟩
    all_goals
     go_wp2_with (first
      | (go_at_call 307;refine (CU _ c _).mono ?_;rintro e w' ⟨rfl,rfl⟩;first | rw [h1.out] | rw [h2.out] | rw [h3.out]))
     go_ret
     refine ⟨?_,rfl⟩;first | rfl | (show Ending.returned (Value.bool _)=_;congr 2;simp<;>omega)
   ·clear hway
    go_wp2_with (first
     | (go_at_call 307;refine (CU _ c _).mono ?_;rintro e w' ⟨rfl,rfl⟩;first | rw [h1.out] | rw [h2.out] | rw [h3.out]))
    go_ret;exact ⟨rfl,rfl⟩
  ·clear hway
   go_wp2_with (first
    | (go_at_call 307;refine (CU _ c _).mono ?_;rintro e w' ⟨rfl,rfl⟩;first | rw [h1.out] | rw [h2.out] | rw [h3.out]))
   go_ret;exact ⟨rfl,rfl⟩
 ·clear hway
  go_wp2_with (go_at_call 307;refine (CU _ c _).mono ?_;rintro e w' ⟨rfl,rfl⟩;first | rw [h1.out] | rw [h2.out] | rw [h3.out])
  go_ret;exact ⟨rfl,rfl⟩
theorem Aek (set:Nat) (hs:set<6) (c:UInt8) (w:World):Calls Tryz.prog 271 #[.int .i64 (set:Int),.int .u8 (c.toNat:Int)] w (FX set c w):=by
 match set,hs with
 | 0,_=>exact YE c w
 | 1,_=>exact AdS c w
 | 2,_=>exact YW c w
 | 3,_=>exact Aep c w
 | 4,_=>exact AdW c w
 | 5,_=>exact Ad5 c w
def YY:ByteArray:=⟨#[48,49,50,51,52,53,54,55,56,57,65,66,67,68,69,70]⟩
theorem OW:∀ d:Fin 16,(YY[d.val]'(by rw [show YY.size=16 from rfl];exact d.isLt))=TZ d.val:=by decide+kernel
theorem DR (s:ByteArray) (set:Nat) (hs:set<6) (w:World) (hz:s.size<=4294967296):
  Calls Tryz.prog 214 #[.string s,.int .i64 (set:Int)] w (Cy w (A1 set s.toList)):=by
 have hin:=H0 (fun c w=>Aek set hs c w)
 replace hs:=H0 hs;go_enter Tryz.func214,Tryz.ntmps214;go_wp2_with fail
 go_loopw [10] (fun iv wr=>∃ k:Nat,iv= .int .i64 k/\k<=s.size/\Kx wr w.heap.size w.heap.size (A1 set (s.toList.take k))/\Below w.heap.size w wr) (fun iv _=>s.size - (intOf iv).toNat)
 case atStart=>exact ⟨0,rfl,Nat.zero_le _,Kx.fresh w,(Below.refl _ _).alloc (Nat.le_refl _) _⟩
 case round=>
  obtain ⟨k,rfl,hk,hbld,hbel⟩:=hrel;have hsz:=hbel.size
  have hlen:(A1 set (s.toList.take k)).length<=12884901888:=by
   have:=CW set (s.toList.take k);rw [List.length_take] at this;omega
  by_cases hkl:k<s.size
  ·have hkI:(k:Int)<(s.size:Int):=by omega
   have hsn:=H0 ((congrArg (A1 set) (A5 s k hkl)).trans (Sk set _ _));obtain ⟨c,hc⟩:=N2 (s[k]);rw [hc] at hsn
   have hin2:=H0 (fun w=>hin.out c w)
   unfold FX at hin2;have m0:=AC c;have m1:=AK c;unfold E6 at hsn;generalize A1 set (s.toList.take k)=P at hsn hlen hbld;cases hb:FO set c
   ·rw [hb] at hin2 hsn
    rw [if_neg (by decide)] at hsn
    replace hb:=H0 hb
    have hw:=H0 (BE w.heap.size w.heap.size P c (c.toNat:Int) rfl wr hbld (by omega) hsz)
    go_wp2_with (go_at_call 271;refine (hin2.out _).mono ?_;rintro e w' ⟨rfl,rfl⟩);refine hw.out.mono ?_;rintro e w2 ⟨rfl,hb2,hbb⟩;have hbel2:=hbel.trans hbb;rw [<-hsn.out] at hb2;go_wp2_with fail;go_roundw
    case rel=>exact ⟨k+1,by go_num,by omega,hb2,hbel2⟩
    case measure=>simp [intOf];omega
   ·rw [hb] at hin2 hsn;rw [if_pos rfl] at hsn;replace hb:=H0 hb
    have hw:=H0 (BE w.heap.size w.heap.size P 37 37 rfl wr hbld (by omega) hsz)
    go_wp2_with (go_at_call 271;refine (hin2.out _).mono ?_;rintro e w' ⟨rfl,rfl⟩);refine hw.out.mono ?_;rintro e w2 ⟨rfl,hb2,hbb⟩;have hbel2:=hbel.trans hbb;go_wp2_with fail
    refine (BE w.heap.size w.heap.size _ _ _ rfl w2 hb2 (by rw [List.length_append];show P.length+1<=_;omega) hbel2.size).mono ?_
    rintro e w3 ⟨rfl,hb3,hbb3⟩;have hbel3:=hbel2.trans hbb3;go_wp2_with fail
    refine (BE w.heap.size w.heap.size _ _ _ rfl w3 hb3 (by rw [List.length_append,List.length_append];show P.length+1+1<=_;omega) hbel3.size).mono ?_
    rintro e w4 ⟨rfl,hb4,hbb4⟩;have hbel4:=hbel3.trans hbb4
    have ex:=OW ⟨c.toNat / 16,by omega⟩
    have ey:=OW ⟨c.toNat % 16,by omega⟩
    dsimp only at ex ey
    have hb5:Kx w4 w.heap.size w.heap.size (A1 set (s.toList.take (k+1))):=by
     rw [hsn.out,<-ex,<-ey];have:=hb4;rw [List.append_assoc,List.append_assoc] at this;exact this
    clear ex ey hb2 hb3 hb4;go_wp2_with fail;go_roundw
    case rel=>exact ⟨k+1,by go_num,by omega,hb5,hbel4⟩
    case measure=>simp [intOf];omega
  ·have hkI:(s.size:Int)<=(k:Int):=by omega
   have he:s.toList.take k=s.toList:=Cl s k (by omega)
   rw [he] at hbld hlen;have hw:=H0 (Bf w.heap.size w.heap.size _ wr hbld hsz);replace he:=H0 he;go_wp2_with fail;refine hw.out.mono ?_;rintro e w2 ⟨t,rfl,ht,hb⟩;go_wp2_with fail;go_ret;exact BL ht.out (hbel.trans hb)
theorem ZI {l:List Nat} (h:l.length=8):∃ a b c d e f g i,l=[a,b,c,d,e,f,g,i]:=by
 match l,h with
 | [a,b,c,d,e,f,g,i],_=>exact ⟨a,b,c,d,e,f,g,i,rfl⟩
theorem Ql:(Tryz.prog.info? 30).map (·.size)=some 8:=by kernel_rfl
theorem Agx (s:ByteArray) (w:World) (hz:s.size<=1100000):Calls Tryz.prog 219 #[.string s,.string ⟨#[93]⟩] w fun e w'=>∃ r:ByteArray,e= .returned (.tuple #[.string r,.bool (Lib.hasSuffix s.toList [93])])/\r.size<=s.size/\Hid (Lib.hasSuffix s.toList [93]=true->r.toList=s.toList.dropLast)/\w=w':=by
 refine (Tryz.strings_CutSuffix s ⟨#[93]⟩ w (by omega)).mono ?_
 rintro e w' ⟨rfl,rfl⟩;have e1:s.data.toList=s.toList:=(ByteArray.toList_eq ..).symm;have e2:(ByteArray.mk #[93]).data.toList=[93]:=rfl;rw [e1,e2]
 have hl:(Lib.trimSuffix s.toList [93]).length<=s.size:=by
  rw [<-Aa];unfold Lib.trimSuffix;split
  ·rw [List.length_take];omega
  ·exact Nat.le_refl _
 refine ⟨_,rfl,by rw [<-Aa,toList_mk];exact hl,H0 (fun h=> ?_),rfl⟩
 rw [toList_mk];unfold Lib.trimSuffix;rw [if_pos h,List.dropLast_eq_take];rfl
def z8:List Nat:=[0,0,0,0,0,0,0,0]
theorem Dg {o:Option Bz} {w w':World} (h:o=none) (hb:Below w.heap.size w w'):Kn o w (.returned (.tuple #[.agg (An (Am .none)),.bool false])) w':=by subst h;exact ⟨rfl,hb⟩
theorem E9 {o:Option Bz} {h:Bz} {w w':World} (e:o=some h) (hb:Below w.heap.size w w'):Kn o w (.returned (.tuple #[.agg (An (Am h)),.bool true])) w':=by subst e;exact ⟨rfl,hb⟩
theorem QT (s:ByteArray) (w:World) (hm:ML w) (hz:s.size<=1100000):Calls Tryz.prog 303 #[.string s] w (Kn (Ts s.toList) w):=by
 obtain ⟨R,hR⟩:=N2 (Ts s.toList);rw [hR];have hv:=hR.symm;unfold Ts at hv;replace hR:=H0 hR
 have hcs:=H0 (fun w=>Agx s w hz)
 obtain ⟨P,hP⟩:=N2 (Lib.hasSuffix s.toList [93]);rw [hP] at hv hcs;replace hP:=H0 hP
 cases P with
 | false=>
  have hv:Hid (R=none):=H0 (hv.trans (if_neg (by decide)))
  go_enter Tryz.func303,Tryz.ntmps303;go_wp2_with fail;refine (hcs.out _).mono ?_;rintro e w1 ⟨r,rfl,hrz,hr,rfl⟩;go_wp2_with (refine wpList_store_row rfl 32 _ _ rfl w.heap.size (An (Am .none)) rfl rfl 32 _ (heap_alloc_new w _) AN rfl (A2 _) ?_);refine B0 rfl rfl rfl rfl (BM (heap_alloc_new w _)) ?_;exact Dg hv.out (Ae ((Below.refl _ _).alloc (Nat.le_refl _) _) (Nat.le_refl _) _)
 | true=>
  rw [if_pos rfl] at hv;replace hv:=H0 hv
  have hsx:=H0 (fun (r:ByteArray) w (hm:ML w) (h:r.size<=1100000)=>Tx r w hm h)
  go_enter Tryz.func303,Tryz.ntmps303;go_wp2_with fail;refine (hcs.out _).mono ?_;rintro e w1 ⟨r,rfl,hrz,hr,rfl⟩
  have hrl:=hr.out (by simp)
  have hv2:=hv.out;rw [<-hrl] at hv2;replace hrl:=H0 hrl;have hb0:Below w.heap.size w (w.alloc (.cells (An (Am .none)) 32)):=(Below.refl _ _).alloc (Nat.le_refl _) _;have hh0:(w.alloc (.cells (An (Am .none)) 32)).heap[w.heap.size]? =some (.cells (An (Am .none)) 32 (0,0)):=heap_alloc_new w _;obtain ⟨w0,hw0⟩:∃ w0,w.alloc (.cells (An (Am .none)) 32)=w0:=⟨_,rfl⟩;rw [hw0] at hb0 hh0;have hw0':w.alloc (.cells #[.int .i64 0,.string ⟨#[]⟩,.int .u32 0,.int .u16 0,.int .u16 0,.int .u16 0,.int .u16 0,.int .u16 0,.int .u16 0,.int .u16 0,.int .u16 0] 32)=w0:=hw0;rw [hw0'];clear hw0';replace hw0:=H0 hw0;have hs0:=hb0.size;have hlt0:=Cu hh0
  have hsx2:=H0 (hsx.out r w0 (hm.next hb0) (by omega))
  clear hsx
  cases ho:FP r.toList with
  | none=>
   have hf:Hid (R=none):=H0 (by rw [hv2,ho];rfl)
   have hsx3:=hsx2.out;rw [ho] at hsx3;replace hsx3:=H0 hsx3;clear hsx2;replace hv2:=H0 hv2;replace ho:=H0 ho;go_wp2_with fail;refine hsx3.out.mono ?_;rintro e w2 ⟨rfl,hb2⟩;have hh2:w2.heap[w.heap.size]? =some (.cells (An (Am .none)) 32 (0,0)):=(hb2.block _ hlt0).trans hh0;have hbel2:=hb0.trans (hb2.mono hs0);have hs2:=hbel2.size;have hlt2:=Cu hh2;replace hh0:=H0 hh0
   have hhn:∀ c T,(w2.alloc (.cells c T)).heap[w.heap.size]? =some (.cells (An (Am .none)) 32 (0,0)):=fun c T=>US hlt2 hh2
   replace hhn:=H0 hhn
   go_wp2_with (first
    | (refine Ag rfl 30 _ _ rfl rfl (AV z8) _ _ _ rfl (by simp) rfl Ql rfl (by kernel_rfl) ?_)
    | (refine wpList_store_row rfl 32 _ _ rfl w.heap.size (An (Am .none)) rfl rfl 32 _ (hhn.out _ _) AN rfl (A2 _) ?_))
   refine B0 rfl rfl rfl rfl (BM (hhn.out _ _)) ?_;exact Dg hf.out (Ae (hbel2.alloc hs2 _) (Nat.le_refl _) _)
  | some l=>
   have hf:Hid (R=some (.six l)):=H0 (by rw [hv2,ho];rfl)
   have hsl:=VJ ho;have hsx3:=hsx2.out;rw [ho] at hsx3;clear hsx2;obtain ⟨a0,a1,a2,a3,a4,a5,a6,a7,rfl⟩:=ZI hsl.len;replace hsl:=H0 hsl;replace hv2:=H0 hv2;replace ho:=H0 ho
   have hsx4:Calls Tryz.prog 326 #[.string r] w0 fun e w'=>e= .returned (.tuple #[.agg #[.int .u16 (a0:Int),.int .u16 (a1:Int),.int .u16 (a2:Int),.int .u16 (a3:Int),.int .u16 (a4:Int),.int .u16 (a5:Int),.int .u16 (a6:Int),.int .u16 (a7:Int)],.bool true])/\Below w0.heap.size w0 w':=
    hsx3.mono fun e w' h=>⟨h.1,h.2⟩
   replace hsx4:=H0 hsx4;clear hsx3;have hag: .agg (An (Am (.six [a0,a1,a2,a3,a4,a5,a6,a7])))=Value.agg #[.int .i64 4,.string ⟨#[]⟩,.int .u32 0,.int .u16 (a0:Int),.int .u16 (a1:Int),.int .u16 (a2:Int),.int .u16 (a3:Int),.int .u16 (a4:Int),.int .u16 (a5:Int),.int .u16 (a6:Int),.int .u16 (a7:Int)]:=rfl;replace hag:=H0 hag;go_wp2_with fail;refine hsx4.out.mono ?_;rintro e w2 ⟨rfl,hb2⟩;have hh2:w2.heap[w.heap.size]? =some (.cells (An (Am .none)) 32 (0,0)):=(hb2.block _ hlt0).trans hh0;have hbel2:=hb0.trans (hb2.mono hs0);have hs2:=hbel2.size;have hlt2:=Cu hh2;replace hh0:=H0 hh0
   have hhn:∀ c T,(w2.alloc (.cells c T)).heap[w.heap.size]? =some (.cells (An (Am .none)) 32 (0,0)):=fun c T=>US hlt2 hh2
   replace hhn:=H0 hhn
   go_wp2_with (first
    | (refine Ag rfl 30 _ _ rfl rfl #[.int .u16 (a0:Int),.int .u16 (a1:Int),.int .u16 (a2:Int),.int .u16 (a3:Int),.int .u16 (a4:Int),.int .u16 (a5:Int),.int .u16 (a6:Int),.int .u16 (a7:Int)] _ _ _ rfl (by simp) rfl Ql rfl (by simp [Value.oneCell']) ?_)
    | (refine wpList_load_row rfl 30 _ rfl w2.heap.size rfl _ #[.int .u16 (a0:Int),.int .u16 (a1:Int),.int .u16 (a2:Int),.int .u16 (a3:Int),.int .u16 (a4:Int),.int .u16 (a5:Int),.int .u16 (a6:Int),.int .u16 (a7:Int)] _ _ (heap_alloc_new w2 _) Tryz.underlying30 rfl Ql ?_)
    | (refine wpList_store_row rfl 32 _ _ rfl w.heap.size #[.int .i64 4,.string ⟨#[]⟩,.int .u32 0,.int .u16 (a0:Int),.int .u16 (a1:Int),.int .u16 (a2:Int),.int .u16 (a3:Int),.int .u16 (a4:Int),.int .u16 (a5:Int),.int .u16 (a6:Int),.int .u16 (a7:Int)] rfl rfl 32 _ (hhn.out _ _) AN rfl (by simp [Value.oneCell']) ?_))
   refine B0 (h:=Am (.six [a0,a1,a2,a3,a4,a5,a6,a7])) rfl rfl rfl rfl (BM (hhn.out _ _)) ?_;exact E9 hf.out (Ae (hbel2.alloc hs2 _) (Nat.le_refl _) _)
theorem U9 {s n:List UInt8} (h:Cv s=some n):n.length<=2988 * s.length+1:=by
 unfold Cv at h;split at h
 ·cases h
 ·rename_i t ht;rw [Option.map_eq_some_iff] at h;obtain ⟨q,hq,rfl⟩:=h;have h1:=Iv ht;have h2:=Lw s;have h3:=KN hq;have h4:=Ji t;have h5:=Kc q;omega
theorem AaF (c:UInt8):(EN c=true/\IU c=true)\/(EN c=false/\(c.toNat:Int)<32/\IU c=true)\/(EN c=false/\(32:Int)<=(c.toNat:Int)/\((c.toNat:Int)==37)=true/\IU c=true)\/(EN c=false/\(32:Int)<=(c.toNat:Int)/\((c.toNat:Int)==37)=false/\((c.toNat:Int)==127)=true/\IU c=true)\/(EN c=false/\(32:Int)<=(c.toNat:Int)/\((c.toNat:Int)==37)=false/\((c.toNat:Int)==127)=false/\IU c=false):=by
 have h32:decide (c<32)=decide (c.toNat<32):=decide_eq_decide.2 (by rw [UInt8.lt_iff_toNat_lt];rfl)
 have e37:(c==37)=((c.toNat:Int)==37):=by
  by_cases h:c=37
  ·subst h;rfl
  ·rw [beq_eq_false_iff_ne.2 h,Eq.comm,beq_eq_false_iff_ne]
   intro e;exact h (UInt8.toNat_inj.1 (by have:(37:UInt8).toNat=37:=rfl;omega))
 have e127:(c==127)=((c.toNat:Int)==127):=by
  by_cases h:c=127
  ·subst h;rfl
  ·rw [beq_eq_false_iff_ne.2 h,Eq.comm,beq_eq_false_iff_ne]
   intro e;exact h (UInt8.toNat_inj.1 (by have:(127:UInt8).toNat=127:=rfl;omega))
 have hN:IU c=(EN c || decide (c.toNat<32) || ((c.toNat:Int)==37) || ((c.toNat:Int)==127)):=by unfold IU;rw [h32,e37,e127]
 rw [hN];generalize EN c=b;generalize hb3:((c.toNat:Int)==127)=b3;generalize hb2:((c.toNat:Int)==37)=b2;clear hN h32 e37 e127
 by_cases h:c.toNat<32
 ·rw [decide_eq_true h];cases b
  ·exact .inr (.inl ⟨rfl,by omega,by simp⟩)
  ·exact .inl ⟨rfl,by simp⟩
 ·rw [decide_eq_false h]
  have hI:(32:Int)<=(c.toNat:Int):=by omega
  cases b
  ·cases b2
   ·cases b3
    ·exact .inr (.inr (.inr (.inr ⟨rfl,hI,rfl,rfl,rfl⟩)))
    ·exact .inr (.inr (.inr (.inl ⟨rfl,hI,rfl,rfl,rfl⟩)))
   ·exact .inr (.inr (.inl ⟨rfl,hI,rfl,by simp⟩))
  ·exact .inl ⟨rfl,by simp⟩
theorem UX {n:List UInt8} {t:ByteArray} (h:t.toList=n):Am (.name n)=⟨2,t,0,z8⟩:=by rw [Me h];rfl
theorem QY (s:ByteArray) (w:World) (hE:GZ w) (hz:s.size<=1100000):Calls Tryz.prog 304 #[.string s] w (Kn (KI s.toList) w):=by
 obtain ⟨R,hR⟩:=N2 (KI s.toList);rw [hR];have hv:=hR.symm;unfold KI at hv;replace hR:=H0 hR
 have hpd:=H0 (fun w=>QW s w (by omega))
 have hpl:=Ka s.toList.length s.toList (Nat.le_refl _);rw [Aa] at hpl;obtain ⟨D,hD⟩:=N2 (BN s.toList);rw [hD] at hv hpd hpl;replace hD:=H0 hD
 have hdl:=H0 (fun n (h:Cv D=some n)=>U9 h)
 have hdm:=H0 (fun w (hE:GZ w)=>WS ⟨D.toArray⟩ w (by rw [<-Aa,toList_mk];omega) hE)
 rw [toList_mk] at hdm;obtain ⟨O,hO⟩:=N2 (Cv D);rw [hO] at hv hdm hdl;replace hO:=H0 hO;have hE':=H0 hE;clear hE;have hb0:Below w.heap.size w (w.alloc (.cells (An (Am .none)) 32)):=(Below.refl _ _).alloc (Nat.le_refl _) _;have hh0:(w.alloc (.cells (An (Am .none)) 32)).heap[w.heap.size]? =some (.cells (An (Am .none)) 32 (0,0)):=heap_alloc_new w _;obtain ⟨w0,hw0⟩:∃ w0,w.alloc (.cells (An (Am .none)) 32)=w0:=⟨_,rfl⟩;rw [hw0] at hb0 hh0;have hw0':w.alloc (.cells #[.int .i64 0,.string ⟨#[]⟩,.int .u32 0,.int .u16 0,.int .u16 0,.int .u16 0,.int .u16 0,.int .u16 0,.int .u16 0,.int .u16 0,.int .u16 0] 32)=w0:=hw0;replace hw0:=H0 hw0;have hs0:=hb0.size;have hlt0:=Cu hh0;replace hh0:=H0 hh0;replace hv:=H0 hv;go_enter Tryz.func304,Tryz.ntmps304;go_wp2_with fail;refine (hpd.out _).mono ?_;rintro e w1 ⟨v,rfl,hown,hb1⟩;clear hw0';have hcv:=Hu (P:=Tryz.prog) (S:=9) Tryz.underlying25 Tryz.underlying5 Tryz.underlying9 hown;have hbel1:=hb0.trans (hb1.mono hs0);have hh1:Hid (w1.heap[w.heap.size]? =some (.cells (An (Am .none)) 32 (0,0))):=H0 ((hb1.block _ hlt0).trans hh0.out);have hs1:=hbel1.size;have hlt1:=Cu hh1.out;go_wp2_with fail
 refine (hdm.out _ (hE'.out.next hbel1)).mono ?_
 rintro e w2 ⟨t,rfl,ht,hb2⟩;clear hcv;have hbel2:=hbel1.trans (hb2.mono hs1);have hh2:Hid (w2.heap[w.heap.size]? =some (.cells (An (Am .none)) 32 (0,0))):=H0 ((hb2.block _ hlt1).trans hh1.out);have hs2:=hbel2.size;clear hh0 hh1 hlt0 hb1 hb2
 cases O with
 | none=>
  have hf:Hid (R=none):=H0 hv.out;go_wp2_with (refine wpList_store_row rfl 32 _ _ rfl w.heap.size (An (Am .none)) rfl rfl 32 _ hh2.out AN rfl (A2 _) ?_);refine B0 rfl rfl rfl rfl (BM hh2.out) ?_;exact Dg hf.out (Ae hbel2 (Nat.le_refl _) _)
 | some n=>
  have hnl:=hdl.out n rfl
  have htz:t.size<=3286800001:=by rw [<-Aa,ht.out];show n.length<=_;omega
  have htl:t.toList=n:=ht.out;have hv2:=hv.out;dsimp only at hv2;obtain ⟨em,hem⟩:∃ b,t.toList.isEmpty=b:=⟨_,rfl⟩;rw [<-htl,hem] at hv2
  cases em with
  | true=>
   have hf:Hid (R=none):=H0 (hv2.trans (if_pos rfl));replace hv2:=H0 hv2;replace htl:=H0 htl;go_wp2_with (refine wpList_store_row rfl 32 _ _ rfl w.heap.size (An (Am .none)) rfl rfl 32 _ hh2.out AN rfl (A2 _) ?_);refine B0 rfl rfl rfl rfl (BM hh2.out) ?_;exact Dg hf.out (Ae hbel2 (Nat.le_refl _) _)
  | false=>
   rw [Bool.false_or] at hv2;replace hv2:=H0 hv2;replace htl:=H0 htl;go_wp2_with fail
   go_loop [6,7,25] (fun _ _ v25=>∃ k:Nat,v25= .int .i64 (k:Int)/\k<=t.size/\Hid (t.toList.any IU=(t.toList.drop k).any IU)) (fun _ _ v25=>t.size - (intOf v25).toNat)
   case atStart=>exact ⟨0,rfl,Nat.zero_le _,H0 (by rw [List.drop_zero])⟩
   case round=>
    obtain ⟨k,rfl,hk,hg⟩:=hrel
    by_cases hlt:k<t.size
    ·have hI:(k:Int)<(t.size:Int):=by omega
     have hgs:=hg.out;rw [Ao t k hlt,List.any_cons] at hgs;have hbd:=H0 (YS t[k]);have hways:=AaF t[k];have hc0:=AC t[k];obtain ⟨B,hB⟩:=N2 (EN t[k]);obtain ⟨N,hN⟩:=N2 (IU t[k]);rw [hB] at hbd hways;rw [hN] at hgs hways;replace hB:=H0 hB;replace hN:=H0 hN;replace hgs:=H0 hgs
     rcases hways with ⟨rfl,rfl⟩ | ⟨rfl,q1,rfl⟩ | ⟨rfl,q1,q2,rfl⟩ | ⟨rfl,q1,q2,q3,rfl⟩ | ⟨rfl,q1,q2,q3,rfl⟩
     rotate_right
     ·have hnew:Hid (t.toList.any IU=(t.toList.drop (k+1)).any IU):=H0 (by rw [hgs.out,Bool.false_or])
      go_wp2_with (go_at_call 305;refine (hbd.out _).mono ?_;rintro e w' ⟨rfl,rfl⟩);go_round
      case rel=>exact ⟨k+1,by go_num,by omega,hnew⟩
      case measure=>simp [intOf];omega
     all_goals
      have hf:Hid (R=none):=H0 (by rw [hv2.out,hgs.out];rfl)
      go_wp2_with (first
       | (go_at_call 305;refine (hbd.out _).mono ?_;rintro e w' ⟨rfl,rfl⟩)
       | (refine wpList_store_row rfl 32 _ _ rfl w.heap.size (An (Am .none)) rfl rfl 32 _ hh2.out AN rfl (A2 _) ?_))
      refine B0 rfl rfl rfl rfl (BM hh2.out) ?_;exact Dg hf.out (Ae hbel2 (Nat.le_refl _) _)
    ·have hI:(t.size:Int)<=(k:Int):=by omega
     have hv3:Hid (R=if LO t.toList=true then (Bq t.toList).map Bz.four else some (.name n)):=H0 (by
      rw [hv2.out,hg.out,AM t k (by omega)]
      show (if false=true then _ else _)=_
      rw [if_neg (by decide),htl.out])
     have hen:=H0 (fun w hm=>AbU t w hm (by omega))
     have hpa:=H0 (fun w hm=>QF t w hm (by omega))
     obtain ⟨E,hE⟩:=N2 (LO t.toList);obtain ⟨U,hU⟩:=N2 (Bq t.toList);rw [hE] at hen hv3;rw [hU] at hpa hv3;replace hE:=H0 hE;replace hU:=H0 hU;have hlt2:=Cu hh2.out;go_wp2_with fail
     refine (hen.out _ (hE'.out.next hbel2).ml).mono ?_
     rintro e w3 ⟨rfl,hb3⟩;have hbel3:=hbel2.trans (hb3.mono hs2);have hh3:Hid (w3.heap[w.heap.size]? =some (.cells (An (Am .none)) 32 (0,0))):=H0 ((hb3.block _ hlt2).trans hh2.out);have hs3:=hbel3.size;have hlt3:=Cu hh3.out
     cases E with
     | false=>
      have hf:Hid (R=some (.name n)):=H0 (hv3.out.trans (if_neg (by decide)))
      go_wp2_with (refine wpList_store_row rfl 32 _ _ rfl w.heap.size (An ⟨2,t,0,z8⟩) rfl rfl 32 _ hh3.out AN rfl (A2 _) ?_);refine B0 rfl rfl rfl rfl (BM hh3.out) ?_;rw [<-UX htl.out];exact E9 hf.out (Ae hbel3 (Nat.le_refl _) _)
     | true=>
      have hv4:Hid (R=U.map Bz.four):=H0 (hv3.out.trans (if_pos rfl))
      have hpa2:=H0 (hpa.out w3 (hE'.out.next hbel3).ml)
      clear hpa
      cases U with
      | none=>
       have hf:Hid (R=none):=H0 hv4.out;go_wp2_with fail;refine hpa2.out.mono ?_;rintro e w4 ⟨rfl,hb4⟩;have hbel4:=hbel3.trans (hb4.mono hs3);have hh4:Hid (w4.heap[w.heap.size]? =some (.cells (An (Am .none)) 32 (0,0))):=H0 ((hb4.block _ hlt3).trans hh3.out);go_wp2_with (refine wpList_store_row rfl 32 _ _ rfl w.heap.size (An (Am .none)) rfl rfl 32 _ hh4.out AN rfl (A2 _) ?_);refine B0 rfl rfl rfl rfl (BM hh4.out) ?_;exact Dg hf.out (Ae hbel4 (Nat.le_refl _) _)
      | some m=>
       have hf:Hid (R=some (.four m)):=H0 hv4.out;go_wp2_with fail;refine hpa2.out.mono ?_;rintro e w4 ⟨rfl,hb4⟩;have hbel4:=hbel3.trans (hb4.mono hs3);have hh4:Hid (w4.heap[w.heap.size]? =some (.cells (An (Am .none)) 32 (0,0))):=H0 ((hb4.block _ hlt3).trans hh3.out);go_wp2_with (refine wpList_store_row rfl 32 _ _ rfl w.heap.size (An (Am (.four m))) rfl rfl 32 _ hh4.out AN rfl (A2 _) ?_);refine B0 rfl rfl rfl rfl (BM hh4.out) ?_;exact E9 hf.out (Ae hbel4 (Nat.le_refl _) _)
theorem L0 (l:List UInt8) (h:Lib.hasSuffix l [59]=true):Lib.trimSuffix l [59]=l.dropLast:=by
 unfold Lib.trimSuffix;rw [if_pos h,List.dropLast_eq_take];rfl
theorem NW (l:List UInt8) (h:Lib.hasSuffix l [59]=false):Lib.trimSuffix l [59]=l:=by
 unfold Lib.trimSuffix
 rw [if_neg (by rw [h];decide)]
theorem XR (s:ByteArray) (w:World) (hz:s.size<=1099511627776):Calls Tryz.prog 166 #[.string s] w (Uo (Fk s.toList) w):=by
 have hcs:=fun w=>Tryz.strings_CutSuffix s ⟨#[59]⟩ w (by omega)
 have e0:(ByteArray.mk #[59]).data.toList=[59]:=rfl;simp only [e0,<-ByteArray.toList_eq] at hcs;cases hb:Lib.hasSuffix s.toList [59]
 ·have hv:Fk s.toList=Cw s.toList:=by unfold Fk;rw [if_neg (by rw [hb];decide)]
  have ht:(⟨(Lib.trimSuffix s.toList [59]).toArray⟩:ByteArray)=s:=by
   rw [NW _ hb];exact Df (toList_mk _)
  simp only [hb,ht] at hcs;have hf:=H0 (V9 s);rw [hv];obtain ⟨o,ho⟩:=N2 (Cw s.toList);rw [ho] at hf⊢;replace hb:=H0 hb;replace hv:=H0 hv;replace ho:=H0 ho;replace hcs:=H0 hcs;replace ht:=H0 ht;go_enter Tryz.func166,Tryz.ntmps166;go_wp2_with fail;refine (hcs.out _).mono ?_;rintro e w1 ⟨rfl,rfl⟩;go_wp2_with fail;refine (hf.out _).mono ?_;rintro e w2 ⟨t,rfl,ht,hb⟩
  cases o with
  | none=>
   go_wp2_with fail;go_ret2;exact Fm rfl hb
  | some x=>
   go_wp2_with fail;go_ret2;exact ⟨t,rfl,ht,hb⟩
 ·obtain ⟨t,ht⟩:∃ t:ByteArray,(⟨(Lib.trimSuffix s.toList [59]).toArray⟩:ByteArray)=t:=⟨_,rfl⟩
  have htl:t.toList=s.toList.dropLast:=by rw [<-ht,L0 _ hb];exact toList_mk _
  simp only [hb,ht] at hcs
  have hv:Fk s.toList=match Cw t.toList with | some x=>some x | none=>Bv t.toList:=by unfold Fk;rw [if_pos hb,htl];rfl
  have hf:=H0 (V9 t);have hbd:=H0 (Aab t);rw [hv];obtain ⟨o,ho⟩:=N2 (Cw t.toList);obtain ⟨o2,ho2⟩:∃ o,Bv t.toList=o:=⟨_,rfl⟩;rw [ho] at hf⊢;rw [ho2] at hbd⊢;replace hb:=H0 hb;replace hv:=H0 hv;replace ho:=H0 ho;replace ho2:=H0 ho2;replace hcs:=H0 hcs;replace ht:=H0 ht;replace htl:=H0 htl;go_enter Tryz.func166,Tryz.ntmps166;go_wp2_with fail;refine (hcs.out _).mono ?_;rintro e w1 ⟨rfl,rfl⟩;go_wp2_with fail;refine (hf.out _).mono ?_;rintro e w2 ⟨t2,rfl,ht2,hb⟩
  cases o with
  | none=>
   go_wp2_with fail;refine (hbd.out _).mono ?_;rintro e w3 ⟨t3,rfl,ht3,hb3⟩;go_wp2_with fail;go_ret2
   exact ⟨t3,rfl,ht3,hb.next hb3⟩
  | some x=>
   go_wp2_with fail;go_ret2;exact ⟨t2,rfl,ht2,hb⟩
theorem Ac8:∀ k:Fin 32,UP.getD k.val 0<=65536:=by decide+kernel
theorem Abo (n:Nat) (h:n<=2147483647):FS n<=2147483647:=by
 unfold FS;split
 ·rename_i hh
  have:=Ac8 ⟨n - 0x80,by omega⟩
  dsimp only at this;omega
 ·exact h
theorem EC (n:Nat) (w:World) (hn:n<=1114112):Calls Tryz.prog 234 #[.int .i64 (n:Int)] w (Cy w (CO n)):=by
 by_cases h0:n=0
 ·subst h0
  have hs:=H0 (fun w=>JI 65533 (by decide) w)
  have hv:CO 0=Bj 65533:=rfl;rw [hv];obtain ⟨L,hL⟩:=N2 (Bj 65533);rw [hL] at hs⊢;replace hv:=H0 hv;replace hL:=H0 hL;go_enter Tryz.func234,Tryz.ntmps234;go_wp2_with fail;refine (hs.out _).mono ?_;rintro e w1 ⟨t,rfl,ht,rfl⟩;go_wp2_with fail;go_ret;exact ⟨t,rfl,ht,Below.refl _ _⟩
 ·have hv:CO n=Bj (FS n):=by unfold CO;rw [if_neg h0]
  have hsh:=H0 (AaO n)
  have hle:=Abo n (by omega)
  have hs:=H0 (fun w=>JI (FS n) hle w)
  rw [hv];obtain ⟨L,hL⟩:=N2 (Bj (FS n));rw [hL] at hs⊢;obtain ⟨m,hm⟩:=N2 (FS n);rw [hm] at hs hsh
  have e0:((n:Int)==0)=false:=by rw [beq_eq_false_iff_ne];omega
  replace hv:=H0 hv;replace hL:=H0 hL;replace hm:=H0 hm;replace hle:=H0 hle;go_enter Tryz.func234,Tryz.ntmps234;go_wp2_with fail;refine (hsh.out _).mono ?_;rintro e w1 ⟨rfl,hb⟩;go_wp2_with fail;refine (hs.out _).mono ?_;rintro e w2 ⟨t,rfl,ht,rfl⟩;go_wp2_with fail;go_ret;exact ⟨t,rfl,ht,hb⟩
theorem W8 (c:UInt8) (w:World):Calls Tryz.prog 167 #[.int .u8 (c.toNat:Int)] w fun e w'=>e= .returned (.bool (Kg c))/\w=w':=by
 have hl:=H0 (fun w=>De (c.toNat:Int) w)
 have b0:=AC c;have b1:=AK c
 have hd:=H0 (fun w=>Bu (c.toNat:Int) 10 w b0 b1)
 have q1:((c.toNat:Int)==61)=(c==61):=by
  rw [Bool.eq_iff_iff,beq_iff_eq,beq_iff_eq]
  exact ⟨fun h=>UInt8.toNat_inj.1 (by show c.toNat=61;omega),fun h=>by rw [h];rfl⟩
 have hv:Kg c=(AU (c.toNat:Int) || (decide (0<=Ah (c.toNat:Int) 10) || (c==61))):=by unfold Kg;rw [Bool.or_assoc]
 rw [hv];replace hv:=H0 hv;generalize AU (c.toNat:Int)=a at hl⊢;generalize Ah (c.toNat:Int) 10=d at hd⊢;generalize (c==61)=b at q1⊢
 have hway:(0<=d/\decide (0<=d)=true)\/(d<0/\decide (0<=d)=false):=by
  by_cases h:0<=d
  ·exact .inl ⟨h,decide_eq_true h⟩
  ·exact .inr ⟨by omega,decide_eq_false h⟩
 go_enter Tryz.func167,Tryz.ntmps167;cases a
 ·rcases hway with ⟨h1,h2⟩ | ⟨h1,h2⟩
  all_goals
   rw [h2];replace h2:=H0 h2
   go_wp2_with (first
    | (go_at_call 154;refine (hl.out _).mono ?_;rintro e w' ⟨rfl,rfl⟩)
    | (go_at_call 155;refine (hd.out _).mono ?_;rintro e w' ⟨rfl,rfl⟩))
   go_ret
   exact ⟨by first | (simp;done) | (simp;intro h;omega),rfl⟩
 ·clear hway
  go_wp2_with (first
   | (go_at_call 154;refine (hl.out _).mono ?_;rintro e w' ⟨rfl,rfl⟩)
   | (go_at_call 155;refine (hd.out _).mono ?_;rintro e w' ⟨rfl,rfl⟩))
  go_ret
  exact ⟨by simp,rfl⟩
end Go.Proofs.YtonomfeipkdmhaaGreatDoor
