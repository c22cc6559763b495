/- Part 3: lemmas. -/
import Derived.Test.YtonomfeipkdmhaaGreatDoorL02
import Derived.Laws.Externs
import Derived.Laws.FloatArith
import Derived.Lib.AppendStr
import Derived.Lib.Builder
import Derived.Lib.SplitLaws
set_option linter.unusedVariables false
set_option linter.unusedSimpArgs false
set_option maxRecDepth 100000
set_option maxHeartbeats 16000000
namespace Go.Proofs.YtonomfeipkdmhaaGreatDoor
open Go.RowKit
def Kz (w:World) (B b:Nat) (l:List UInt8):Prop:=Lib.IsBuilder 76 5 B b (Lib.byteCells l) w
theorem Abp:(Tryz.prog.info? 76).map (·.size)=some 2:=Qb
theorem Aa1:liesAt Tryz.prog Tryz.prog.depth 76 (2 / Tryz.prog.cellsOf 76) 0 76 1=true:=Qb
theorem Hx (B b:Nat) (l:List UInt8) (w:World) (h:Kz w B b l):
  Calls Tryz.prog 91 #[.pointer (some ⟨b,0,none⟩)] w fun e w'=>e= .returned (.tuple #[])/\(Lib.BuilderAt 76 5 B b (.pointer (some ⟨b,0,none⟩)) (Lib.byteCells l) w'/\Below B w w'):=by
 obtain ⟨j,hj,hjs⟩:=Option.map_eq_some_iff.1 Abp
 rcases h with h | h
 ·have c0:=h.cell0;have sh:=h.shape;have fz:=h.frozen0
  have k1:=Lib.run_to_unsafe (P:=Tryz.prog) w ⟨b,0,none⟩ Tryz.underlying74 Tryz.underlying158 hj (by rw [hjs];decide) sh (Nat.zero_lt_succ 1)
  have k2:=fun w=>run_callFunc_extern (P:=Tryz.prog) (w:=w) (args:= #[.pointer (some ⟨b,0,none⟩)]) Tryz.func158 Qb Qb Qb (e:=Extern.AbiNoEscape.same) Qb
  have k3:=Lib.run_from_unsafe (P:=Tryz.prog) w ⟨b,0,none⟩ Tryz.underlying158 Tryz.underlying74 hj sh Aa1;have k4:=Lib.run_noEscape (P:=Tryz.prog) w (.pointer (some ⟨b,0,none⟩));go_enter Tryz.func91,Tryz.ntmps91;go_wp2;go_end0;exact ⟨rfl,h.used _,(Below.refl B w).setCell (p:=⟨b,0,none⟩) h.1 _⟩
 ·have c0:=h.cell0;have k1:=Lib.run_neq_ptr_same (P:=Tryz.prog) w ⟨b,0,none⟩ Tryz.underlying74 hj;go_enter Tryz.func91,Tryz.ntmps91;go_wp2;go_end0;exact ⟨rfl,h,Below.refl B _⟩
theorem Kl:(Tryz.prog.info? 5).map (fun i=>(i.zero,i.size,i.bytes))=some (some (.int .u8 0),1,1):=Qb
theorem ES {w:World} {B:Nat} {e:TypeId} {v:Value} {n:Nat} {xs:List Value} (h:w.ownsRow B e 1 v n xs):∃ a k c,v= .slice a k c:=by
 rcases h.2 with ⟨hv,_⟩ | ⟨g,cap,cur,hv,_⟩
 ·exact ⟨_,_,_,hv⟩
 ·exact ⟨_,_,_,hv⟩
theorem GA {w:World} {b:Nat} {p v:Value} {T:TypeId} (h:w.heap[b]? =some (.cells #[p,v] T (0,0))):w.cell? ⟨b,1,none⟩=some v/\w.frozen? ⟨b,1,none⟩=false:=
 ⟨by rw [Lib.cell_of_heap h];rfl,Lib.frozen_of_heap h 1⟩
theorem Ut:(76:TypeId)≠5:=Qc
theorem CH {w:World} {b:Nat} {o:Obj} (h:w.heap[b]? =some o):b<w.heap.size:=(Array.getElem?_eq_some_iff.1 h).1
theorem Cv (l m:List UInt8):Lib.byteCells (l++m)=Lib.byteCells l++Lib.byteCells m:=by simp [Lib.byteCells]
theorem JX (s:ByteArray):Lib.strCells s=Lib.byteCells s.toList:=by simp [Lib.strCells,Lib.byteCells,ByteArray.toList_eq]
theorem BQ (B b:Nat) (l:List UInt8) (c:UInt8) (ci:Int) (hci:ci=(c.toNat:Int)) (w:World) (h:Kz w B b l) (hl:l.length<=1099511627776) (hB:B<=w.heap.size):
  Calls Tryz.prog 41 #[.pointer (some ⟨b,0,none⟩),.int .u8 ci] w fun e w'=>e= .returned .nilIface/\Kz w' B b (l++[c])/\Below B w w':=by
 subst hci;obtain ⟨i0,hi,hz0,hz1,hz2⟩:=info_parts Kl;go_enter Tryz.func41,Tryz.ntmps41;go_wp2_with fail;refine (Hx B b l _ h).mono ?_;rintro e w1 ⟨rfl,⟨hBb,v,hblk,hown,hne⟩,hb⟩;have hs:=hb.size;have hlt:=CH hblk;have c1:w1.cell? ⟨b,1,none⟩=some v:=QN;rw [Lib.byteCells_length] at hown
 go_wp2_with (at_builtin;refine wpList_append_own _ rfl _ _ 25 rfl B 5 i0 (.int .u8 0) 1 1 Tryz.underlying25 hi hz0 hz1 hz2 rfl Qc _ _ _ rfl (hown.alloc _) ⟨w1.heap.size,0,none⟩ 1 1 [.int .u8 (c.toNat:Int)] rfl rfl (RZ w1 _ _) (by intro u hu;simp at hu;subst hu;rfl) Qm Qa Qi ?_;intro v' w2 hown' hgrow _;obtain ⟨a2,k2,c2,rfl⟩:=ES hown';have hblk2:=(hgrow.block b Qi (fun e=>hne e.symm)).trans ((Lib.alloc_old w1 _ b hlt).trans hblk);obtain ⟨d1,f1⟩:=GA hblk2)
 go_wp2_with fail;go_ret;refine ⟨rfl,Or.inr ?_,?_⟩
 ·exact Lib.BuilderAt.put hBb hblk2 (by rw [Cv,List.length_append,Lib.byteCells_length];exact hown') Ut
 ·exact ((hb.alloc Qa _).grown hgrow Qi (fun k hk=>(hown.lt k hk).1)).setCell (p:=⟨b,1,none⟩) hBb _
theorem AM (B b:Nat) (l:List UInt8) (s:ByteArray) (w:World) (h:Kz w B b l) (hl:l.length<=1099511627776) (hsz:s.size<=1099511627776) (hB:B<=w.heap.size):
  Calls Tryz.prog 40 #[.pointer (some ⟨b,0,none⟩),.string s] w fun e w'=>e= .returned (.tuple #[.int .i64 s.size,.nilIface])/\Kz w' B b (l++s.toList)/\Below B w w':=by
 obtain ⟨i0,hi,hz0,hz1,hz2⟩:=info_parts Kl;go_enter Tryz.func40,Tryz.ntmps40;go_wp2_with fail;refine (Hx B b l _ h).mono ?_;rintro e w1 ⟨rfl,⟨hBb,v,hblk,hown,hne⟩,hb⟩;have hs:=hb.size;have hlt:=CH hblk;have c1:w1.cell? ⟨b,1,none⟩=some v:=QN;rw [Lib.byteCells_length] at hown
 go_wp2_with (at_builtin;refine Lib.wpList_append_own_string _ rfl _ _ 25 9 rfl B 5 i0 Tryz.underlying25 Tryz.underlying9 hi hz0 hz1 hz2 _ _ _ rfl hown s rfl Qm Qa Qa ?_;intro v' w2 hown' hgrow _;obtain ⟨a2,k2,c2,rfl⟩:=ES hown';have hblk2:=(hgrow.block b hlt (fun e=>hne e.symm)).trans hblk;obtain ⟨d1,f1⟩:=GA hblk2)
 go_wp2_with fail;go_ret2;refine ⟨rfl,Or.inr ?_,?_⟩
 ·exact Lib.BuilderAt.put hBb hblk2 (by rw [Cv,List.length_append,Lib.byteCells_length,Lib.byteCells_length,<-JX,Aa];exact hown') Ut
 ·exact (hb.grown hgrow Qa (fun k hk=>(hown.lt k hk).1)).setCell (p:=⟨b,1,none⟩) hBb _
theorem Bq (B b:Nat) (l:List UInt8) (w:World) (h:Kz w B b l) (hB:B<=w.heap.size):
  Calls Tryz.prog 42 #[.pointer (some ⟨b,0,none⟩)] w fun e w'=>∃ t:ByteArray,e= .returned (.string t)/\Hid (t.toList=l)/\Below B w w':=
 (Tryz.Builder_String_any B b l w h hB).mono fun e w' ⟨he,hb⟩=>⟨_,he,toList_mk l,hb⟩
theorem Kz.keep {w w':World} {B b:Nat} {l:List UInt8} (h:Kz w B b l) (hb:Below w.heap.size w w'):Kz w' B b l:=by
 have key:∀ p,Lib.BuilderAt 76 5 B b p (Lib.byteCells l) w->Lib.BuilderAt 76 5 B b p (Lib.byteCells l) w':=by
  rintro p ⟨hB,v,hblk,hown,hne⟩
  exact ⟨hB,v,by rw [hb.block b (CH hblk)];exact hblk,BC hown hb (Nat.le_refl _),hne⟩
 rcases h with h | h
 ·exact .inl (key _ h)
 ·exact .inr (key _ h)
theorem Kz.fresh (w:World):Kz (w.alloc (.cells #[.pointer none,.slice none 0 0] 76)) w.heap.size w.heap.size []:=Lib.fresh_isBuilder _ _ w
theorem JD (c:UInt8) (l:List UInt8):(Lib.indexByte l c= -1/\Ak c l=(l,[],false))\/∃ i:Nat,Lib.indexByte l c=(i:Int)/\i<l.length/\Ak c l=(l.take i,l.drop (i+1),true):=by
 induction l with
 | nil=>exact .inl ⟨rfl,rfl⟩
 | cons d r ih=>
  unfold Lib.indexByte Ak
  by_cases h:d=c
  ·rw [if_pos Qy,if_pos h];exact .inr ⟨0,rfl,Qf,Qf⟩
  ·rw [if_neg Qy,if_neg h]
   rcases ih with ⟨h1,h2⟩ | ⟨i,h1,hi,h2⟩
   ·rw [h1,h2];exact .inl ⟨rfl,rfl⟩
   ·rw [h1,h2];have hn:¬ (((i:Int)== -1)=true):=Akp;rw [if_neg hn];exact .inr ⟨i+1,Qa,Qi,Qf⟩
theorem Lk {c:UInt8}:∀ {l},(Ak c l).2.2=true->l=(Ak c l).1++c :: (Ak c l).2.1
 | [],h=>(nomatch h)
 | d :: r,h=>by
  rw [Ak] at h⊢;split at h
  ·rename_i hd;rw [if_pos hd,hd];rfl
  ·rename_i hd;rw [if_neg hd];show d :: r=d :: ((Ak c r).1++c :: (Ak c r).2.1);rw [<-Lk (l:=r) h]
theorem He (s:List UInt8) (n:Nat):Eo s (n+1)=match EA ((s.drop 1).take (n+1)) with
  | none=>Eo s n
  | some t=>if (s.getD (n+1) 0 != 59 && decide (n+2<s.length) && Ke (s.getD (n+2) 0))=true then ([38],1) else (t,n+2):=rfl
theorem Abe (s:ByteArray) (k:Nat) (h:k<s.size):s.toList.getD k 0=s[k]:=by
 rw [List.getD_eq_getElem?_getD,List.getElem?_eq_getElem Akc,Option.getD_some,EJ]
theorem RP {o:List UInt8 × Nat} {w w':World} (h:o=([38],1)) (hb:Below w.heap.size w w'):Aas o w (.returned (.tuple #[.string ⟨#[38]⟩,.int .i64 1])) w':=by
 subst h;exact ⟨_,rfl,H0 (toList_mk [38]),hb⟩
theorem St (s:ByteArray) (w:World) (hz:s.size<=1099511627776) (h1:1<=s.size):Calls Tryz.prog 97 #[.string s] w (Aas (FK s.toList) w):=by
 have hp:=fun w=>Tryz.strings_HasPrefix s ⟨#[38,35]⟩ w
 have e0:(ByteArray.mk #[38,35]).data.toList=[38,35]:=rfl;simp only [e0,<-ByteArray.toList_eq] at hp;cases hb:Lib.hasPrefix s.toList [38,35]
 ·have hv:FK s.toList=Eo s.toList (min 15 (s.size - 1)):=by unfold FK;rw [if_neg (by rw [hb];decide),Aa]
  simp only [hb] at hp;rw [hv];obtain ⟨R,hR⟩:=N2 (Eo s.toList (min 15 (s.size - 1)));rw [hR];replace hb:=H0 hb;replace hv:=H0 hv;replace hp:=H0 hp;replace hR:=H0 hR;obtain ⟨m0,hm0⟩:=N2 (min 15 (s.size - 1));have hm1:min (15:Int) ((s.size:Int) - 1)=(m0:Int):=Qa;have hm2:m0+1<=s.size:=Qa;rw [hm0] at hR;replace hm0:=H0 hm0;go_enter Tryz.func97,Tryz.ntmps97;go_wp2_with fail;refine (hp.out _).mono ?_;rintro e w1 ⟨rfl,hw⟩;obtain rfl:=hw.symm;go_wp2_with fail
  go_loopw [4] (fun v wr=>∃ k:Nat,v= .int .i64 k/\k+1<=s.size/\Hid (R=Eo s.toList k)/\Below w.heap.size w wr) (fun v _=>(intOf v).toNat)
  case atStart=>exact ⟨m0,rfl,hm2,H0 hR.out.symm,Below.refl _ _⟩
  case round=>
   clear hm1;obtain ⟨k,rfl,hk,hrun,hbel⟩:=hrel;have hsz:=hbel.size
   cases k with
   | zero=>
    have hfin:Hid (R=([38],1)):=H0 (by rw [hrun.out];rfl)
    go_wp2_with fail;go_ret2;exact RP hfin.out hbel
   | succ m=>
    have ek:((m+1:Nat):Int)=(m:Int)+1:=Qa;have hmI:(m:Int)+1<(s.size:Int):=Qa;have hm1:m+1<s.size:=Qa;rw [ek]
    have het:(s.extract 1 (m+2)).toList=(s.toList.drop 1).take (m+1):=by
     rw [toList_extract,List.drop_take,show m+2 - 1=m+1 from rfl]
    have hnm:=H0 (ZJ (s.extract 1 (m+2)) wr Qh);rw [het] at hnm;have hst:=He s.toList m;obtain ⟨o,ho⟩:∃ o,EA ((s.toList.drop 1).take (m+1))=o:=⟨_,rfl⟩;rw [ho] at hnm hst;replace ho:=H0 ho;replace het:=H0 het;replace ek:=H0 ek;have hto:((m:Int)+1+1).toNat=m+2:=Qa
    cases o with
    | none=>
     have hnx:Hid (R=Eo s.toList m):=H0 (by rw [hrun.out,hst])
     replace hst:=H0 hst;go_wp2_with fail;refine hnm.out.mono ?_;rintro e w2 ⟨t,rfl,ht,hb⟩;go_wp2_with fail;go_roundw
     case rel=>exact ⟨m,rfl,Qa,hnx,hbel.trans (hb.mono hsz)⟩
     case measure=>simp [intOf]
    | some x=>
     dsimp only at hst;rw [Abe s (m+1) hm1] at hst;obtain ⟨c,hc⟩:=N2 (s[m+1]);rw [hc] at hst;have hct:(((m:Int)+1).toNat)=m+1:=Qa
     by_cases h59:c=59
     ·have e59:((c.toNat:Int) != 59)=false:=by rw [h59];rfl
      have hfin:Hid (R=(x,m+2)):=H0 (by rw [hrun.out,hst,h59];rfl)
      replace hst:=H0 hst;replace h59:=H0 h59;go_wp2_with fail;refine hnm.out.mono ?_;rintro e w2 ⟨t,rfl,ht,hb⟩;go_wp2_with fail;go_ret2
      exact ⟨t,AdZ,H0 (by rw [hfin.out];exact ht.out),hbel.trans (hb.mono hsz)⟩
     ·have e59:((c.toNat:Int) != 59)=true:=by rw [bne_iff_ne];intro e;exact h59 (UInt8.toNat_inj.1 Ako)
      have f59:(c != 59)=true:=by simpa using h59
      rw [f59,Bool.true_and,Aa] at hst;replace f59:=H0 f59
      by_cases h2:m+2<s.size
      ·have h2I:(m:Int)+1+1<(s.size:Int):=Qa;rw [Abe s (m+2) h2,decide_eq_true h2,Bool.true_and] at hst;obtain ⟨d,hd⟩:=N2 (s[m+2]);rw [hd] at hst;have hgo:=H0 (ZP d);obtain ⟨g,hg⟩:=N2 (Ke d);rw [hg] at hgo hst;replace hg:=H0 hg;replace h59:=H0 h59;cases g
       ·have hfin:Hid (R=(x,m+2)):=H0 (by rw [hrun.out,hst];rfl)
        replace hst:=H0 hst;go_wp2_with fail;refine hnm.out.mono ?_;rintro e w2 ⟨t,rfl,ht,hb⟩;go_wp2_with fail;refine (hgo.out _).mono ?_;rintro e w3 ⟨rfl,rfl⟩;go_wp2_with fail;go_ret2
        exact ⟨t,AdZ,H0 (by rw [hfin.out];exact ht.out),hbel.trans (hb.mono hsz)⟩
       ·have hfin:Hid (R=([38],1)):=H0 (by rw [hrun.out,hst];rfl)
        replace hst:=H0 hst;go_wp2_with fail;refine hnm.out.mono ?_;rintro e w2 ⟨t,rfl,ht,hb⟩;go_wp2_with fail;refine (hgo.out _).mono ?_;rintro e w3 ⟨rfl,rfl⟩;go_wp2_with fail;go_ret2;exact RP hfin.out (hbel.trans (hb.mono hsz))
      ·have h2I:(s.size:Int)<=(m:Int)+1+1:=Qa
       have hfin:Hid (R=(x,m+2)):=H0 (by rw [hrun.out,hst,decide_eq_false h2];rfl)
       replace hst:=H0 hst;replace h59:=H0 h59;go_wp2_with fail;refine hnm.out.mono ?_;rintro e w2 ⟨t,rfl,ht,hb⟩;go_wp2_with fail;go_ret2
       exact ⟨t,AdZ,H0 (by rw [hfin.out];exact ht.out),hbel.trans (hb.mono hsz)⟩
 ·have h2:2<=s.size:=by
   by_cases h:2<=s.size
   ·exact h
   ·exfalso;have hl:=Aa s
    match hs:s.toList with
    | []=>rw [hs] at hl;simp at hl;omega
    | [a]=>rw [hs] at hb;unfold Lib.hasPrefix at hb;simp [List.isPrefixOf] at hb
    | a :: b :: r=>rw [hs] at hl;simp at hl;omega
  have hv:FK s.toList=AR s.toList:=by unfold FK;rw [if_pos hb]
  simp only [hb] at hp;rw [hv]
  have hn:=H0 (fun w=>SZ s w hz h2)
  obtain ⟨R,hR⟩:=N2 (AR s.toList);rw [hR] at hn⊢;replace hb:=H0 hb;replace hv:=H0 hv;replace hp:=H0 hp;replace hR:=H0 hR;go_enter Tryz.func97,Tryz.ntmps97;go_wp2_with fail;refine (hp.out _).mono ?_;rintro e w1 ⟨rfl,hw⟩;obtain rfl:=hw.symm;go_wp2_with fail;refine (hn.out _).mono ?_;rintro e w2 ⟨t,rfl,ht,hb⟩;go_wp2_with fail;go_ret2;exact ⟨t,rfl,ht,hb⟩
theorem AaS (s:List UInt8):1<=(AR s).2:=by
 unfold AR;dsimp only
 have:2<=AK s:=by unfold AK;split<;>decide
 split
 ·exact Nat.le_refl _
 ·dsimp only;split<;>omega
theorem Pf (s:List UInt8):∀ n,1<=(Eo s n).2/\(Eo s n).2<=n+1
 | 0=>⟨Nat.le_refl _,Nat.le_refl _⟩
 | n+1=>by
  rw [He];have:=Pf s n;split
  ·omega
  ·split<;>(dsimp only;omega)
theorem Wm {s:List UInt8} (h:1<=s.length):1<=(FK s).2/\(FK s).2<=s.length:=by
 unfold FK;split
 ·rename_i hp;refine ⟨AaS s,?_⟩
  have h2:2<=s.length:=by
   match s,hp with
   | [],hp=>cases hp
   | [a],hp=>unfold Lib.hasPrefix at hp;simp [List.isPrefixOf] at hp
   | a :: b :: r,_=>simp
  unfold AR;dsimp only
  have hf:AK s<=s.length:=by
   unfold AK;split
   ·rename_i hx
    by_cases h:s.length<=2
    ·rw [MO h] at hx;cases hx
    ·omega
   ·exact h2
  have hd:=Ng (CK s) (s.drop (AK s)) 0 Qc;rw [List.length_drop] at hd;split
  ·exact h
  ·dsimp only;split
   ·rename_i hh
    by_cases hl:AK s+(AE (CK s) 0 (s.drop (AK s))).2<s.length
    ·omega
    ·rw [List.drop_of_length_le Qa] at hh;cases hh
   ·omega
 ·have:=Pf s (min 15 (s.length - 1));omega
theorem Ze (r:Int):(Utf8.encode r).data.toList.length<=4:=by
 unfold Utf8.encode
 generalize (if Utf8.valid r=true then r.toNat else Utf8.runeError)=c
 dsimp only
 repeat' split
 all_goals simp
theorem Uf (c:Nat):(Bv c).length<=4:=by
 unfold Bv
 by_cases h:0x10ffff<c\/(0xd800<=c/\c<=0xdfff)
 ·rw [if_pos h];unfold FM;simp
 ·rw [if_neg h];unfold PW;exact Ze _
theorem Oe (n:Nat):(Cs n).length<=4:=by
 unfold Cs
 by_cases h:n=0
 ·rw [if_pos h];exact Uf _
 ·rw [if_neg h];exact Uf _
theorem AcH:∀ t∈[Ot,DE,NX],∀ p∈t,p.2.length<=4:=Qe
theorem Mq {t:List (List UInt8 × List UInt8)} (ht:t∈[Ot,DE,NX]) {s x:List UInt8} (h:C3 t s=some x):x.length<=4:=by
 unfold C3 at h
 cases hf:t.find? fun p=>p.1==s with
 | none=>rw [hf] at h;cases h
 | some p=>
  rw [hf] at h;cases h;exact AcH t ht p (List.mem_of_find?_eq_some hf)
theorem AaP {s x:List UInt8} (h:EA s=some x):x.length<=4:=by
 have hb:∀ s,BA s=some x->x.length<=4:=by
  intro s h;unfold BA at h;split at h
  ·rename_i b hb;cases h;exact Mq Qf hb
  ·exact Mq Qf h
 unfold EA at h;split at h
 ·split at h
  ·rename_i t ht;cases h;exact Mq Qf ht
  ·exact hb _ h
 ·exact Mq Qf h
theorem Afm (s:List UInt8):(FK s).1.length<=4:=by
 unfold FK;split
 ·unfold AR;dsimp only;split
  ·decide
  ·exact Oe _
 ·have:∀ n,(Eo s n).1.length<=4:=by
   intro n
   induction n with
   | zero=>exact Nat.le_of_ble_eq_true rfl
   | succ n ih=>
    rw [He];split
    ·exact ih
    ·rename_i t ht;split
     ·decide
     ·exact AaP ht
  exact this _
theorem SD (s:ByteArray) (w:World) (hz:s.size<=1000000000):Calls Tryz.prog 50 #[.string s] w (EI w (SY s.toList)):=by
 go_enter Tryz.func50,Tryz.ntmps50;go_wp2_with fail
 go_loopw [0] (fun v0 wr=>∃ (r:ByteArray) (f:Nat) (out:List UInt8),v0= .string r/\r.size<f/\r.size<=s.size/\Kz wr w.heap.size w.heap.size out/\Below w.heap.size w wr/\Hid (SY s.toList=out++Iz f r.toList)/\out.length+4 * r.size<=4 * s.size) (fun v0 _=>Su v0)
 case atStart=>exact ⟨s,s.size+1,[],rfl,Qa,Nat.le_refl _,Kz.fresh w,(Below.refl _ _).alloc (Nat.le_refl _) _,H0 (by rw [<-Aa];rfl),Qf⟩
 case round=>
  obtain ⟨r,f,out,rfl,hf,hle,hbld,hbel,hv,hol⟩:=hrel;have hsz:=hbel.size
  by_cases h0:r.size=0
  ·have hnil:r.toList=[]:=(AF r).2 h0
   have hemp:r.toList.isEmpty=true:=by rw [hnil];rfl
   have hfin:Hid (SY s.toList=out):=H0 (by
    rw [hv.out,hnil]
    cases f with
    | zero=>rw [Iz,List.append_nil]
    | succ f=>rw [Iz,show Ak 38 []=([],[],false) from rfl,if_neg Qc,List.append_nil])
   replace h0:=H0 h0;replace hnil:=H0 hnil;have hst:=H0 (Bq w.heap.size w.heap.size out wr hbld hsz);go_wp2_with fail;refine hst.out.mono ?_;rintro e w2 ⟨t,rfl,ht,hb⟩;go_wp2_with fail;go_ret;exact GC (ht.out.trans hfin.out.symm) (hbel.trans hb)
  ·have hemp:r.toList.isEmpty=false:=by
    cases hr:r.toList with
    | nil=>exact absurd ((AF r).1 hr) h0
    | cons a b=>rfl
   have hix:=fun w=>Tryz.strings_IndexByte r 38 w
   have ec:(38:Int).toNat.toUInt8=38:=rfl;simp only [ec,<-ByteArray.toList_eq] at hix;obtain ⟨f1,rfl⟩:∃ f1,f=f1+1:=⟨f - 1,Qa⟩;have hcz:=Aa r
   rcases JD 38 r.toList with ⟨h1,h2⟩ | ⟨i,h1,hi,h2⟩
   ·rw [h1] at hix;replace hix:=H0 hix
    have hfin:Hid (SY s.toList=out++r.toList):=H0 (by rw [hv.out,Iz,h2];rfl)
    replace h1:=H0 h1;replace h2:=H0 h2;replace h0:=H0 h0;replace hcz:=H0 hcz;go_wp2_with fail;refine (hix.out _).mono ?_;rintro e w1 ⟨rfl,hw⟩;obtain rfl:=hw.symm;go_wp2_with fail;refine (AM w.heap.size w.heap.size out r wr hbld Qa Qa hsz).mono ?_;rintro e w2 ⟨rfl,hbld2,hb2⟩;have hbel2:=hbel.trans hb2;have hst:=H0 (Bq w.heap.size w.heap.size _ w2 hbld2 hbel2.size);go_wp2_with fail;refine hst.out.mono ?_;rintro e w3 ⟨t,rfl,ht,hb⟩;go_wp2_with fail;go_ret;exact GC (ht.out.trans hfin.out.symm) (hbel2.trans hb)
   ·rw [h1] at hix;replace hix:=H0 hix;rw [hcz] at hi
    have hA:(r.extract 0 i).toList=r.toList.take i:=by rw [toList_extract];rfl
    have hB:(r.extract i r.size).toList=38 :: r.toList.drop (i+1):=by
     rw [toList_extract,List.take_of_length_le Qa]
     have h3:=Lk (c:=38) (l:=r.toList) (by rw [h2])
     rw [h2] at h3;dsimp only at h3
     conv=>lhs;rw [h3]
     rw [List.drop_append_of_le_length Qs,List.drop_of_length_le Qs];rfl
    have hAz:(r.extract 0 i).size=i:=Qh;have hBz:(r.extract i r.size).size=r.size - i:=Qh
    have hcall:=H0 (fun w=>St (r.extract i r.size) w (by rw [hBz];omega) (by rw [hBz];omega))
    rw [hB] at hcall;have hrs:=Wm (s:=38 :: r.toList.drop (i+1)) Qf;have hrl:=Afm (38 :: r.toList.drop (i+1))
    have hBl:(38 :: r.toList.drop (i+1)).length=r.size - i:=by rw [List.length_cons,List.length_drop];omega
    rw [hBl] at hrs
    have hnx0:SY s.toList=(out++r.toList.take i++(FK (38 :: r.toList.drop (i+1))).1)++Iz f1 ((38 :: r.toList.drop (i+1)).drop (FK (38 :: r.toList.drop (i+1))).2):=by
     rw [hv.out,Iz,h2];dsimp only;rw [if_pos rfl,List.append_assoc,List.append_assoc]
    obtain ⟨⟨T,n⟩,hre⟩:∃ p:List UInt8 × Nat,p=FK (38 :: r.toList.drop (i+1)):=⟨_,rfl⟩;rw [<-hre] at hcall hrs hrl hnx0;dsimp only at hrs hrl hnx0
    have hC:(r.extract (i+n) r.size).toList=(38 :: r.toList.drop (i+1)).drop n:=by
     rw [<-hB,toList_extract,toList_extract,List.take_of_length_le Qa,List.drop_drop]
    have hCz:(r.extract (i+n) r.size).size=r.size - (i+n):=Qh
    have hnx:Hid (SY s.toList=(out++r.toList.take i++T)++Iz f1 (r.extract (i+n) r.size).toList):=H0 (by rw [hC];exact hnx0)
    have hiI:(i:Int)<=(r.size:Int):=Qa;have hiI2:(i:Int)+(n:Int)<=(r.size:Int):=Qa;have hi0:(0:Int)<=(i:Int):=Qa;have hin0:(0:Int)<=(i:Int)+(n:Int):=Qa;have hint:((i:Int)+(n:Int)).toNat=i+n:=Qa;clear hnx0;replace h1:=H0 h1;replace h2:=H0 h2;replace h0:=H0 h0;replace hcz:=H0 hcz;replace hre:=H0 hre;replace hB:=H0 hB;replace hC:=H0 hC;replace hAz:=H0 hAz;replace hBz:=H0 hBz;replace hBl:=H0 hBl;replace hCz:=H0 hCz;replace hA:=H0 hA;have hns:¬ ((i:Int)<0):=Qa;go_wp2_with fail;refine (hix.out _).mono ?_;rintro e w1 ⟨rfl,hw⟩;obtain rfl:=hw.symm;go_wp2_with fail
    refine (AM w.heap.size w.heap.size out (r.extract 0 i) wr hbld Qa (by rw [hAz.out];omega) hsz).mono ?_
    rintro e w2 ⟨rfl,hbld2,hb2⟩;rw [hA.out] at hbld2;have hbel2:=hbel.trans hb2;have hsz2:=hbel2.size;go_wp2_with fail;refine (hcall.out _).mono ?_;rintro e w3 ⟨t,rfl,ht,hb3⟩;have hbel3:=hbel2.trans (hb3.mono hsz2);have hbld3:=Kz.keep hbld2 hb3
    have htz:t.size<=4:=by rw [<-Aa,ht.out];exact hrl
    have hsz3:=hbel3.size;go_wp2_with fail
    refine (AM w.heap.size w.heap.size _ t w3 hbld3 (by rw [List.length_append,List.length_take];omega) Qa hsz3).mono ?_
    rintro e w4 ⟨rfl,hbld4,hb4⟩;have htl:=ht.out;rw [htl] at hbld4;replace htl:=H0 htl;have hbel4:=hbel3.trans hb4;go_wp2_with fail;go_roundw
    case rel=>exact ⟨r.extract (i+n) r.size,f1,_,rfl,AjX,AjX,hbld4,hbel4,hnx,by have:=hCz.out;simp only [List.length_append,List.length_take];omega⟩
    case measure=>simp only [Su];have:=hCz.out;omega
def DU (p:Int->Bool) (l:List UInt8):List UInt8:=l.dropWhile fun c=>p (c.toNat:Int)
def Bt (p:Int->Bool) (l:List UInt8):List UInt8:=(DU p l.reverse).reverse
def MZ (c:Int):Bool:=decide (c<=32)
theorem S6 {p:Int->Bool} {c:UInt8} {l:List UInt8} (h:p (c.toNat:Int)=true):DU p (c :: l)=DU p l:=by simp [DU,h]
theorem Xx {p:Int->Bool} {c:UInt8} {l:List UInt8} (h:p (c.toNat:Int)=false):DU p (c :: l)=c :: l:=by simp [DU,h]
theorem Aav {p:Int->Bool} {c:UInt8} {l:List UInt8} (h:p (c.toNat:Int)=true):Bt p (l++[c])=Bt p l:=by simp [Bt,S6 h]
theorem Aci {p:Int->Bool} {c:UInt8} {l:List UInt8} (h:p (c.toNat:Int)=false):Bt p (l++[c])=l++[c]:=by simp [Bt,Xx h]
theorem EX (t:ByteArray) (h:0<t.size):t.toList=t[0] :: (t.extract 1 t.size).toList:=by
 have:=As t 0 h;rw [List.drop_zero] at this;rw [this,toList_extract,FT _ _ (Nat.le_refl _)]
theorem Jn (t:ByteArray) (h:0<t.size):t.toList=(t.extract 0 (t.size - 1)).toList++[t[t.size - 1]]:=by
 have:=Cx t (t.size - 1) Qa;rw [toList_extract,List.drop_zero,<-this,FT _ _ Qa]
theorem Og (f:Nat) (p:Int->Bool) (hf0:∀ (c:Int) (w:World),0<=c->c<=255->Calls Tryz.prog f #[.int .u8 c] w fun e w'=>e= .returned (.bool (p c))/\w=w')
  (hcf:∀ args w,(callFunc f args).run Tryz.prog w= .ok (.enter f args) w)
  (s:ByteArray) (w:World) (hs:s.size<=1099511627776):
  Calls Tryz.prog 156 #[.string s,.func (.func f) #[] #[]] w (EI w (Bt p (DU p s.toList))):=by
 have hf:=H0 hf0;clear hf0;go_enter Tryz.func156,Tryz.ntmps156;go_wp2_with fail
 go_loop [0] (fun v=>∃ t:ByteArray,v= .string t/\t.size<=s.size/\Hid (DU p t.toList=DU p s.toList)) (fun v=>Su v)
 case atStart=>exact ⟨s,rfl,Nat.le_refl _,rfl⟩
 case round=>
  obtain ⟨t,rfl,hts,ht⟩:=hrel
  by_cases hgo:∃ h:0<t.size,p (t[0].toNat:Int)=true
  ·obtain ⟨h0,hp⟩:=hgo
   have hne:(!t.toList.isEmpty)=true:=by
    rw [EX t h0];rfl
   have hx:=H0 (EX t h0);go_wp2_with ((with_reducible refine (hf.out _ _ (AN _) (AX _)).mono ?_);rintro e w' ⟨rfl,rfl⟩);go_round
   case rel=>exact ⟨_,rfl,by rw [<-Aa,toList_extract,List.length_drop,FT _ _ (Nat.le_refl _),Aa];omega,by rw [<-ht.out,hx.out,S6 hp];rfl⟩
   case measure=>simp [Su];omega
  ·have hd:Hid (t.toList=DU p s.toList):=H0 (by
    rw [<-ht.out]
    by_cases h0:0<t.size
    ·rw [EX t h0,Xx (by simpa using fun h=>hgo ⟨h0,h⟩)]
    ·rw [(AF t).2 Qa];rfl)
   have hor:(∃ h0:0<t.size,(!t.toList.isEmpty)=true/\p (t[0].toNat:Int)=false)\/t.toList.isEmpty=true:=by
    by_cases h0:0<t.size
    ·exact .inl ⟨h0,by rw [EX t h0];rfl,by simpa using fun h=>hgo ⟨h0,h⟩⟩
    ·exact .inr (by rw [(AF t).2 Qa];rfl)
   clear hgo ht
   rcases hor with ⟨h0,hne,hp⟩ | hne
   all_goals
    go_wp2_with ((with_reducible refine (hf.out _ _ (AN _) (AX _)).mono ?_);rintro e w' ⟨rfl,rfl⟩)
    go_loop [0] (fun v=>∃ u:ByteArray,v= .string u/\u.size<=t.size/\Hid (Bt p u.toList=Bt p t.toList)) (fun v=>Su v)
    case atStart=>exact ⟨t,rfl,Nat.le_refl _,rfl⟩
    case round=>
     clear hne;obtain ⟨u,rfl,hus,hu⟩:=hrel
     by_cases hgo:∃ h:0<u.size,p (u[u.size - 1].toNat:Int)=true
     ·obtain ⟨g0,gp⟩:=hgo
      have gne:(!u.toList.isEmpty)=true:=by
       rw [EX u g0];rfl
      have gx:=H0 (Jn u g0);go_wp2_with ((with_reducible refine (hf.out _ _ (AN _) (AX _)).mono ?_);rintro e w' ⟨rfl,rfl⟩);go_round
      case rel=>exact ⟨_,rfl,by rw [<-Aa,toList_extract,List.length_drop,List.length_take,Aa];omega,H0 (by rw [<-hu.out,gx.out,Aav gp])⟩
      case measure=>simp [Su];omega
     ·have ge:Hid (u.toList=Bt p (DU p s.toList)):=H0 (by
       rw [<-hd.out,<-hu.out]
       by_cases g0:0<u.size
       ·rw [Jn u g0,Aci (by simpa using fun h=>hgo ⟨g0,h⟩)]
       ·rw [(AF u).2 Qa];rfl)
      have gor:(∃ g0:0<u.size,(!u.toList.isEmpty)=true/\p (u[u.size - 1].toNat:Int)=false)\/u.toList.isEmpty=true:=by
       by_cases g0:0<u.size
       ·exact .inl ⟨g0,by rw [EX u g0];rfl,by simpa using fun h=>hgo ⟨g0,h⟩⟩
       ·exact .inr (by rw [(AF u).2 Qa];rfl)
      clear hgo hu
      rcases gor with ⟨g0,gne,gp⟩ | gne
      all_goals
       go_wp2_with ((with_reducible refine (hf.out _ _ (AN _) (AX _)).mono ?_);rintro e w' ⟨rfl,rfl⟩);go_ret;exact GC ge.out (Below.refl _ _)
theorem Adn (c:Int) (w:World):
  Calls Tryz.prog 157 #[.int .u8 c] w fun e w'=>e= .returned (.bool (MZ c))/\w=w':=by
 go_enter Tryz.func157,Tryz.ntmps157;go_wp2
 all_goals (go_ret;exact ⟨A7 (by simp [MZ]),rfl⟩)
def L2 (l:List UInt8):List UInt8:=Bt MZ (DU MZ l)
def Sc (l:List UInt8):List UInt8:=Bt Dg (DU Dg l)
theorem AeA (s:ByteArray) (w:World) (hs:s.size<=1099511627776):
  Calls Tryz.prog 90 #[.string s] w (EI w (L2 s.toList)):=by
 go_enter Tryz.func90,Tryz.ntmps90
 go_wp2_with (go_at_call 156;refine (Og 157 MZ (fun c w _ _=>Adn c w) (Dj Tryz.func157 Qb rfl) s _ hs).mono ?_;rintro e w' ⟨t,rfl,ht,hb⟩)
 go_ret;exact GC ht.out hb
theorem AbF (s:ByteArray) (w:World) (hs:s.size<=1099511627776):
  Calls Tryz.prog 182 #[.string s] w (EI w (Sc s.toList)):=by
 go_enter Tryz.func182,Tryz.ntmps182
 go_wp2_with (go_at_call 156;refine (Og 110 Dg (fun c w _ _=>Dc c w) (Dj Tryz.func110 Qb rfl) s _ hs).mono ?_;rintro e w' ⟨t,rfl,ht,hb⟩)
 go_ret;exact GC ht.out hb
structure BY (G:Nat->Prop) (w w':World):Prop where
 os:w'.os=w.os
 tape:w'.tape=w.tape
 output:w'.output=w.output
 size:w.heap.size<=w'.heap.size
 block:∀ k,k<w.heap.size->¬ G k->w'.heap[k]? =w.heap[k]?
theorem BY.refl (G:Nat->Prop) (w:World):BY G w w:=⟨rfl,rfl,rfl,Nat.le_refl _,fun _ _ _=>rfl⟩
theorem BY.trans {G:Nat->Prop} {a b c:World} (h:BY G a b) (k:BY G b c):BY G a c:=
 ⟨k.os.trans h.os,k.tape.trans h.tape,k.output.trans h.output,Nat.le_trans h.size k.size,fun i hi hg=>(k.block i (Nat.lt_of_lt_of_le hi h.size) hg).trans (h.block i hi hg)⟩
theorem BY.mono {G G':Nat->Prop} {a b:World} (h:BY G a b) (hg:∀ k,G k->G' k):BY G' a b:=⟨h.os,h.tape,h.output,h.size,fun k hk hn=>h.block k hk (fun x=>hn (hg k x))⟩
theorem BY.of {G:Nat->Prop} {a b:World} (h:Below a.heap.size a b):BY G a b:=⟨h.os,h.tape,h.output,h.size,fun k hk _=>h.block k hk⟩
theorem BY.below {G:Nat->Prop} {a b:World} (h:BY G a b) {B:Nat} (hB:B<=a.heap.size) (hG:∀ k,G k->B<=k):Below B a b:=
 ⟨h.os,h.tape,h.output,h.size,fun k hk=>h.block k Qa (fun x=>by have:=hG k x;omega)⟩
theorem BY.set {G:Nat->Prop} {a b:World} (h:BY G a b) {g:Nat} (hg:G g) (i:Nat) (v:Value):BY G a (b.setCell ⟨g,i,none⟩ v):=
 h.trans ⟨rfl,rfl,rfl,Aky,fun k hk hn=>Below.heap_setCell _ _ _ _ (fun e=>hn (by rw [e];exact hg))⟩
def Bf {σ:Type} (step:σ->UInt8->Bool × σ):σ->List UInt8->List UInt8 × List UInt8 × σ
 | st,[]=>([],[],st)
 | st,c :: r=>if (step st c).1=true then (c :: (Bf step (step st c).2 r).1,(Bf step (step st c).2 r).2.1,(Bf step (step st c).2 r).2.2) else ([],c :: r,(step st c).2)
theorem If {σ:Type} {step:σ->UInt8->Bool × σ} {st:σ} {c:UInt8} {r:List UInt8} (h:(step st c).1=true):Bf step st (c :: r)=(c :: (Bf step (step st c).2 r).1,(Bf step (step st c).2 r).2):=by rw [Bf,if_pos h]
theorem HK {σ:Type} {step:σ->UInt8->Bool × σ} {st:σ} {c:UInt8} {r:List UInt8} (h:(step st c).1=false):Bf step st (c :: r)=([],c :: r,(step st c).2):=by rw [Bf,if_neg Aj2]
theorem Ba {w:World} {g i:Nat} {cs:Array Value} {T:TypeId} {v:Value} (h:w.heap[g]? =some (.cells cs T (0,0))):(w.setCell ⟨g,i,none⟩ v).heap[g]? =some (.cells (cs.setIfInBounds i v) T (0,0)):=by
 simp only [World.setCell,Array.getElem?_modify,if_true,h];rfl
def F8 (w:World) (g:Nat) (n:Nat):Prop:=w.heap[g]? =some (.cells #[.int .i64 (n:Int)] 3 (0,0))
def G2 (w:World) (g:Nat) (s:ByteArray):Prop:=w.heap[g]? =some (.cells #[.string s] 9 (0,0))
def Agw {σ:Type} (step:σ->UInt8->Bool × σ) (R:σ->World->Prop) (Ga:Nat->Prop) (ga gs:Nat) (s:ByteArray) (st:σ) (k:Nat) (w:World) (e:Ending) (w':World):Prop:=
 ∃ t:ByteArray,e= .returned (.string t)/\Hid (t.toList=(Bf step st (s.toList.drop k)).1)/\k+t.size<=s.size/\F8 w' ga (k+t.size)/\G2 w' gs s/\R (Bf step st (s.toList.drop k)).2.2 w'/\BY (fun i=>i=ga\/Ga i) w w'
theorem MB {σ:Type} (f:Nat) (cap:Array Value) (step:σ->UInt8->Bool × σ) (R:σ->World->Prop) (Ga:Nat->Prop) (ga gs:Nat) (s:ByteArray)
  (hask:∀ (st:σ) (c:UInt8) (w:World),R st w->Calls Tryz.prog f (#[.int .u8 (c.toNat:Int)]++cap) w fun e w'=>e= .returned (.bool (step st c).1)/\R (step st c).2 w'/\BY Ga w w')
  (hcf:∀ args w,(callFunc f args).run Tryz.prog w= .ok (.enter f args) w)
  (hRs:∀ (st:σ) (w:World) (v:Value),R st w->R st (w.setCell ⟨ga,0,none⟩ v)) (hga:¬ Ga ga) (hgs:¬ Ga gs) (hne:ga≠gs) (hsz:s.size<=1099511627776)
  (st:σ) (k:Nat) (w:World) (hR:R st w) (ha:F8 w ga k) (hs:G2 w gs s) (hk:k<=s.size):
  Calls Tryz.prog 170 #[.func (.func f) #[] cap,.pointer (some ⟨ga,0,none⟩),.pointer (some ⟨gs,0,none⟩)] w (Agw step R Ga ga gs s st k w):=by
 have hq:=H0 hask;have hRs':=H0 hRs;clear hask hRs;have xa:=cell_of_row _ _ 0 _ _ _ ha;have xs:=cell_of_row _ _ 0 _ _ _ hs;simp only [List.getElem?_toArray,List.getElem?_cons_zero] at xa xs;go_enter Tryz.func170,Tryz.ntmps170;go_wp2_with fail
 go_loopg [] (s.size - k) (fun g wr=>∃ (j:Nat) (st':σ),g=s.size - j/\k<=j/\j<=s.size/\Hid (Bf step st (s.toList.drop k)=((s.toList.take j).drop k++(Bf step st' (s.toList.drop j)).1,(Bf step st' (s.toList.drop j)).2))/\F8 wr ga j/\G2 wr gs s/\R st' wr/\BY (fun i=>i=ga\/Ga i) w wr)
 case atStart=>exact ⟨k,st,rfl,Nat.le_refl _,hk,H0 (by rw [show (s.toList.take k).drop k=[] from List.drop_eq_nil_of_le Qs,List.nil_append]),ha,hs,hR,BY.refl _ _⟩
 case round=>
  clear xa xs ha hs hR;obtain ⟨j,st',hgk,hkj,hj,hrun,hba,hbs,hR,hC⟩:=hrel;have xa:=cell_of_row _ _ 0 _ _ _ hba;have xs:=cell_of_row _ _ 0 _ _ _ hbs;simp only [List.getElem?_toArray,List.getElem?_cons_zero] at xa xs;have ls:gs<wr.heap.size:=(Array.getElem?_eq_some_iff.1 hbs).1;have la:ga<wr.heap.size:=(Array.getElem?_eq_some_iff.1 hba).1;replace hgk:=H0 hgk;replace hba:=H0 hba;replace hbs:=H0 hbs;replace hR:=H0 hR
  by_cases hlt:j<s.size
  ·have hltI:(j:Int)<(s.size:Int):=Qa;have hask:=hq.out st' s[j] wr hR.out;have hdr:=As s j hlt;have hsn:=Cx s j hlt
   have hyes:(step st' s[j]).1=true->Hid (Bf step st (s.toList.drop k)=((s.toList.take (j+1)).drop k++(Bf step (step st' s[j]).2 (s.toList.drop (j+1))).1,(Bf step (step st' s[j]).2 (s.toList.drop (j+1))).2)):=fun h=>H0 (by
    rw [hrun.out,hdr,hsn,List.drop_append_of_le_length Ake,If h,List.append_assoc]
    rfl)
   have hno:(step st' s[j]).1=false->Hid ((s.extract k j).toList=(Bf step st (s.toList.drop k)).1/\(step st' s[j]).2=(Bf step st (s.toList.drop k)).2.2):=fun h=>H0 (by
    rw [hrun.out,hdr,HK h,toList_extract]
    exact ⟨(List.append_nil _).symm,rfl⟩)
   have hz:(s.extract k j).size=j - k:=Qh;replace hdr:=H0 hdr;replace hsn:=H0 hsn;replace hz:=H0 hz;replace hyes:=H0 hyes;replace hno:=H0 hno;replace hrun:=H0 hrun;obtain ⟨r,hr⟩:=N2 (step st' s[j]);rw [hr] at hask hyes hno;replace hr:=H0 hr;obtain ⟨b,st2⟩:=r;cases b
   ·have hn:=hno.out rfl;replace hask:=H0 hask;go_wp2_with fail;refine hask.out.mono ?_;rintro e w2 ⟨rfl,hR2,hC2⟩;have hba2:F8 w2 ga j:=(hC2.block _ la hga).trans hba.out;have hbs2:G2 w2 gs s:=(hC2.block _ ls hgs).trans hbs.out;have xa:=cell_of_row _ _ 0 _ _ _ hba2;have xs:=cell_of_row _ _ 0 _ _ _ hbs2;simp only [List.getElem?_toArray,List.getElem?_cons_zero] at xa xs;replace hba2:=H0 hba2;replace hbs2:=H0 hbs2
    have hC3:=hC.trans (hC2.mono (fun i h=>Or.inr h))
    clear hC hC2;replace hR2:=H0 hR2;have hkjI:(k:Int)<=(j:Int):=Qa;have hjI:(j:Int)<=(s.size:Int):=Qa;go_wp2_with fail;go_ret
    exact ⟨_,rfl,H0 hn.out.1,by have:=hz.out;omega,(by rw [hz.out,show k+(j - k)=j by omega];exact hba2.out),hbs2.out,(by rw [<-hn.out.2];exact hR2.out),hC3⟩
   ·have hn:=hyes.out rfl;replace hask:=H0 hask;go_wp2_with fail;refine hask.out.mono ?_;rintro e w2 ⟨rfl,hR2,hC2⟩;have hba2:F8 w2 ga j:=(hC2.block _ la hga).trans hba.out;have hbs2:G2 w2 gs s:=(hC2.block _ ls hgs).trans hbs.out;have xa:=cell_of_row _ _ 0 _ _ _ hba2;have xs:=cell_of_row _ _ 0 _ _ _ hbs2;have fa:=frozen_of_row _ _ 0 _ _ hba2;simp only [List.getElem?_toArray,List.getElem?_cons_zero] at xa xs
    have hbn:F8 (w2.setCell ⟨ga,0,none⟩ (.int .i64 ((j+1:Nat):Int))) ga (j+1):=by
     unfold F8;rw [Ba hba2];rfl
    have hsn2:G2 (w2.setCell ⟨ga,0,none⟩ (.int .i64 ((j+1:Nat):Int))) gs s:=(Below.heap_setCell _ _ _ _ (fun e=>hne e.symm)).trans hbs2
    have hRn:=hRs'.out _ w2 (.int .i64 ((j+1:Nat):Int)) hR2
    have hC3:=(hC.trans (hC2.mono (fun i h=>Or.inr h))).set (g:=ga) (Or.inl rfl) 0 (.int .i64 ((j+1:Nat):Int))
    have ej:((j+1:Nat):Int)=(j:Int)+1:=Qa;rw [ej] at hbn hsn2 hRn hC3;replace hba2:=H0 hba2;replace hbs2:=H0 hbs2;replace hR2:=H0 hR2;replace ej:=H0 ej;replace hbn:=H0 hbn;replace hsn2:=H0 hsn2;replace hRn:=H0 hRn;replace hC3:=H0 hC3;clear hC hC2;go_wp2_with fail;go_roundg (s.size - (j+1))
    case measure=>have:=hgk.out;omega
    case rel=>exact ⟨j+1,st2,rfl,Qa,Qa,hn,hbn.out,hsn2.out,hRn.out,hC3.out⟩
  ·have hgeI:(s.size:Int)<=(j:Int):=Qa;obtain rfl:j=s.size:=Qa;have hz:(s.extract k s.size).size=s.size - k:=Qh
   have hn:Hid ((s.extract k s.size).toList=(Bf step st (s.toList.drop k)).1/\st'=(Bf step st (s.toList.drop k)).2.2):=H0 (by
    rw [hrun.out,AL s s.size (Nat.le_refl _),toList_extract]
    exact ⟨(List.append_nil _).symm,rfl⟩)
   replace hz:=H0 hz;replace hrun:=H0 hrun;have hkjI:(k:Int)<=(s.size:Int):=Qa;go_wp2_with fail;go_ret
   exact ⟨_,rfl,H0 hn.out.1,by have:=hz.out;omega,(by rw [hz.out,show k+(s.size - k)=s.size by omega];exact hba.out),hbs.out,(by rw [<-hn.out.2];exact hR.out),hC⟩
def CO (c:UInt8):Bool:=Dg (c.toNat:Int)
def BX (c:UInt8):Bool:=((c.toNat:Int)==44) || CO c
def Bx (ins:Bool) (c:UInt8):Bool × Bool:=if ins=true then (true,(c.toNat:Int) != 41) else if ((c.toNat:Int)==40)=true then (true,true) else if BX c=true then (false,false) else (true,false)
def Yd (p:UInt8->Bool):Unit->UInt8->Bool × Unit:=fun _ c=>(p c,())
theorem IK (p:UInt8->Bool):∀ l,Bf (Yd p) () l=(l.takeWhile p,l.dropWhile p,())
 | []=>rfl
 | c :: r=>by
  cases h:p c
  ·rw [HK (by exact h),List.takeWhile_cons,List.dropWhile_cons,if_neg Aj2,if_neg Aj2]
  ·rw [If (by exact h),List.takeWhile_cons,List.dropWhile_cons,if_pos h,if_pos h]
   have e:(Yd p () c).2=():=rfl;rw [e,IK p r]
theorem Ny {σ:Type} (step:σ->UInt8->Bool × σ):∀ (st:σ) (l:List UInt8),(Bf step st l).1++(Bf step st l).2.1=l
 | st,[]=>rfl
 | st,c :: r=>by
  cases h:(step st c).1
  ·rw [HK h];rfl
  ·rw [If h,List.cons_append]
   exact congrArg (c :: ·) (Ny step _ r)
theorem LH (b:Bool):b=false\/b=true:=by cases b<;>simp
theorem Ae3 (c:Int) (w:World):
  Calls Tryz.prog 171 #[.int .u8 c] w fun e w'=>e= .returned (.bool ((c==44) || Dg c))/\w=w':=by
 go_enter Tryz.func171,Tryz.ntmps171
 rcases LH (c==44) with h | h
 all_goals
  rw [h];go_wp2_with (go_at_call 110;refine (Dc _ _).mono ?_;rintro e w' ⟨rfl,rfl⟩);go_ret;exact ⟨rfl,rfl⟩
theorem Aer (c:Int) (w:World):
  Calls Tryz.prog 172 #[.int .u8 c] w fun e w'=>e= .returned (.bool (!Dg c))/\w=w':=by
 go_enter Tryz.func172,Tryz.ntmps172;go_wp2_with (go_at_call 110;refine (Dc _ _).mono ?_;rintro e w' ⟨rfl,rfl⟩);go_ret;exact ⟨rfl,rfl⟩
def Yz (g:Nat) (b:Bool) (w:World):Prop:=w.heap[g]? =some (.cells #[.bool b] 4 (0,0))
theorem Yz.put {w:World} {g:Nat} {b:Bool} (h:Yz g b w) (b':Bool):Yz g b' (w.setCell ⟨g,0,none⟩ (.bool b')):=by
 unfold Yz;rw [Ba h];rfl
theorem Af9 (g:Nat) (b:Bool) (c:UInt8) (w:World) (hb:Yz g b w):
  Calls Tryz.prog 241 #[.int .u8 (c.toNat:Int),.pointer (some ⟨g,0,none⟩)] w fun e w'=>e= .returned (.bool (Bx b c).1)/\Yz g (Bx b c).2 w'/\BY (· =g) w w':=by
 have xb:=cell_of_row _ _ 0 _ _ _ hb;have fb:=frozen_of_row _ _ 0 _ _ hb;simp only [List.getElem?_toArray,List.getElem?_cons_zero] at xb;have hput:=hb.put;replace hb:=H0 hb;replace hput:=H0 hput;cases b
 ·rcases LH ((c.toNat:Int)==40) with h4 | h4
  ·rcases LH ((c.toNat:Int)==44) with h5 | h5
   ·rcases LH (Dg (c.toNat:Int)) with h6 | h6
    ·have hw:Hid (Bx false c=(true,false)):=H0 (by unfold Bx BX CO;rw [h4,h5,h6];rfl)
     go_enter Tryz.func241,Tryz.ntmps241;go_wp2_with (go_at_call 110;refine (Dc _ _).mono ?_;rintro e w' ⟨rfl,rfl⟩);go_ret
     exact ⟨A7 (by rw [hw.out]),by rw [hw.out];exact hb.out,BY.refl _ _⟩
    ·have hw:Hid (Bx false c=(false,false)):=H0 (by unfold Bx BX CO;rw [h4,h5,h6];rfl)
     go_enter Tryz.func241,Tryz.ntmps241;go_wp2_with (go_at_call 110;refine (Dc _ _).mono ?_;rintro e w' ⟨rfl,rfl⟩);go_ret
     exact ⟨A7 (by rw [hw.out]),by rw [hw.out];exact hb.out,BY.refl _ _⟩
   ·have hw:Hid (Bx false c=(false,false)):=H0 (by unfold Bx BX;rw [h4,h5];rfl)
    go_enter Tryz.func241,Tryz.ntmps241;go_wp2_with fail;go_ret
    exact ⟨A7 (by rw [hw.out]),by rw [hw.out];exact hb.out,BY.refl _ _⟩
  ·have hw:Hid (Bx false c=(true,true)):=H0 (by unfold Bx;rw [h4];rfl)
   go_enter Tryz.func241,Tryz.ntmps241;go_wp2_with fail;go_ret
   exact ⟨A7 (by rw [hw.out]),by rw [hw.out];exact hput.out true,(BY.refl (· =g) w).set (g:=g) rfl 0 _⟩
 ·have hw:Hid (Bx true c=(true,(c.toNat:Int) != 41)):=H0 (by unfold Bx;rw [if_pos rfl])
  go_enter Tryz.func241,Tryz.ntmps241;go_wp2_with fail;go_ret
  exact ⟨A7 (by rw [hw.out]),by rw [hw.out];exact hput.out _,(BY.refl (· =g) w).set (g:=g) rfl 0 _⟩
def dwF:Nat->List UInt8->List (List UInt8) × List UInt8
 | 0,l=>([],l)
 | n+1,l=>if (Bf Bx false (l.dropWhile CO)).1=[] then ([],l.dropWhile CO)
  else ((Bf Bx false (l.dropWhile CO)).1 :: (dwF n (Bf Bx false (l.dropWhile CO)).2.1).1,(dwF n (Bf Bx false (l.dropWhile CO)).2.1).2)
def MK (l:List UInt8):List (List UInt8) × List UInt8:=dwF (l.length+1) l
theorem HF {σ:Type} (step:σ->UInt8->Bool × σ) (st:σ) (l:List UInt8):(Bf step st l).1.length+(Bf step st l).2.1.length=l.length:=by
 have:=congrArg List.length (Ny step st l)
 rwa [List.length_append] at this
theorem Aau:∀ (N:Nat) (l:List UInt8),l.length<=N->∀ n,l.length<n->dwF n l=dwF (l.length+1) l:=by
 intro N
 induction N with
 | zero=>
  intro l hl n hn;obtain rfl:l=[]:=List.eq_nil_of_length_eq_zero Qa;obtain ⟨m,rfl⟩:∃ m,n=m+1:=⟨n - 1,Qa⟩;rfl
 | succ N ih=>
  intro l hl n hn
  obtain ⟨m,rfl⟩:∃ m,n=m+1:=⟨n - 1,by have:0<=l.length:=Nat.zero_le _;omega⟩
  unfold dwF
  by_cases h:(Bf Bx false (l.dropWhile CO)).1=[]
  ·rw [if_pos h,if_pos h]
  ·have h1:=HF Bx false (l.dropWhile CO);have h2:0<(Bf Bx false (l.dropWhile CO)).1.length:=List.length_pos_iff.2 h;have h3:(l.dropWhile CO).length<=l.length:=(List.dropWhile_sublist _).length_le;rw [if_neg h,if_neg h,ih _ Qa m Qa,ih _ Qa l.length Qa]
theorem HE (l:List UInt8):MK l=if (Bf Bx false (l.dropWhile CO)).1=[] then ([],l.dropWhile CO)
  else ((Bf Bx false (l.dropWhile CO)).1 :: (MK (Bf Bx false (l.dropWhile CO)).2.1).1,(MK (Bf Bx false (l.dropWhile CO)).2.1).2):=by
 unfold MK
 conv=>lhs;unfold dwF
 by_cases h:(Bf Bx false (l.dropWhile CO)).1=[]
 ·rw [if_pos h,if_pos h]
 ·have h1:=HF Bx false (l.dropWhile CO);have h2:0<(Bf Bx false (l.dropWhile CO)).1.length:=List.length_pos_iff.2 h;have h3:(l.dropWhile CO).length<=l.length:=(List.dropWhile_sublist _).length_le;rw [if_neg h,if_neg h,Aau _ _ (Nat.le_refl _) l.length Qa]
theorem Md {σ:Type} {step:σ->UInt8->Bool × σ} {st:σ} {s t:ByteArray} {j:Nat} (h:t.toList=(Bf step st (s.toList.drop j)).1):s.toList.drop (j+t.size)=(Bf step st (s.toList.drop j)).2.1:=by
 have h1:=Ny step st (s.toList.drop j);obtain ⟨r,hr⟩:=N2 (Bf step st (s.toList.drop j));rw [hr] at h h1⊢
 rw [<-List.drop_drop,<-h1,<-h,List.drop_append_of_le_length (by rw [Aa];exact Nat.le_refl _),List.drop_of_length_le (by rw [Aa];exact Nat.le_refl _),List.nil_append]
theorem AH.chg {w w':World} {B:Nat} {E:TypeId} {v:Value} {l:List ByteArray} (h:AH w B E v l) (hc:∀ k,B<=k->k<w.heap.size->w'.heap[k]? =w.heap[k]?):AH w' B E v l:=by
 refine ⟨h.1,?_⟩
 rcases h.2 with hn | ⟨k,cap,cur,rfl,hk,hh,rest⟩
 ·exact .inl hn
 ·exact .inr ⟨k,cap,cur,rfl,hk,(hc k hk (Array.getElem?_eq_some_iff.1 hh).1).trans hh,rest⟩
theorem BY.step {w wx w':World} {ga gi:Nat} (h1:BY (· =ga) w wx) (h2:BY (fun i=>i=ga\/i=gi) wx w') (hgi:w.heap.size<=gi):BY (· =ga) w w':=
 ⟨h2.os.trans h1.os,h2.tape.trans h1.tape,h2.output.trans h1.output,Nat.le_trans h1.size h2.size,fun k hk hn=>(h2.block k (Nat.lt_of_lt_of_le hk h1.size) (fun x=>by rcases x with x | x;exact hn x;omega)).trans (h1.block k hk hn)⟩
def AgM (s:ByteArray) (ga gs k:Nat) (w:World) (e:Ending) (w':World):Prop:=
 ∃ (v:Value) (l:List ByteArray) (n:Nat),e= .returned v/\Hid (l.map (·.toList)=(MK (s.toList.drop k)).1)/\Hid (s.toList.drop n=(MK (s.toList.drop k)).2)/\k<=n/\n<=s.size/\l.length<=n/\
  AH w' w.heap.size 9 v l/\F8 w' ga n/\G2 w' gs s/\BY (· =ga) w w'
theorem AgX:∀ args w,(callFunc 110 args).run Tryz.prog w= .ok (.enter 110 args) w:=Dj Tryz.func110 Qb rfl
theorem Ahd:∀ args w,(callFunc 241 args).run Tryz.prog w= .ok (.enter 241 args) w:=Dj Tryz.func241 Qb rfl
theorem Ai4:EZ Tryz.prog 22 9 (.string ByteArray.empty) 16:= .mk' Tryz.underlying22 Qb rfl
theorem Rk (ga gs:Nat) (s:ByteArray) (k:Nat) (w:World) (ha:F8 w ga k) (hs:G2 w gs s) (hk:k<=s.size) (hne:ga≠gs) (hsz:s.size<=1000000000):
  Calls Tryz.prog 174 #[.func (.func 170) #[] #[.pointer (some ⟨ga,0,none⟩),.pointer (some ⟨gs,0,none⟩)]] w (AgM s ga gs k w):=by
 have lga:ga<w.heap.size:=(Array.getElem?_eq_some_iff.1 ha).1;have lgs:gs<w.heap.size:=(Array.getElem?_eq_some_iff.1 hs).1;go_enter Tryz.func174,Tryz.ntmps174;go_wp2_with fail
 go_loopg [3] (s.size - k) (fun g v wr=>∃ (j:Nat) (l:List ByteArray),g=s.size - j/\k<=j/\j<=s.size/\l.length<=j/\Hid (MK (s.toList.drop k)=(l.map (·.toList)++(MK (s.toList.drop j)).1,(MK (s.toList.drop j)).2))/\AH wr w.heap.size 9 v l/\F8 wr ga j/\G2 wr gs s/\BY (· =ga) w wr)
 case atStart=>exact ⟨k,[],rfl,Nat.le_refl _,hk,Nat.zero_le _,H0 Qf,AH.nil _ _ _,ha,hs,BY.refl _ _⟩
 case round=>
  clear ha hs;obtain ⟨j,l,hgk,hkj,hj,hlj,hrun,hown,hba,hbs,hC⟩:=hrel;replace hgk:=H0 hgk;go_wp2_with fail
  refine (MB 110 #[] (Yd CO) (fun _ _=>True) (fun _=>False) ga gs s (fun st c w _=>(Dc _ _).mono QV) AgX (fun _ _ _ _=>trivial) (fun x=>x) (fun x=>x) hne Qa () j wr trivial hba hbs hj).mono ?_
  rintro e w1 ⟨t1,rfl,ht1,hz1,hba1,hbs1,-,hC1⟩;have hd1:=Md ht1.out;rw [IK] at hd1
  have hC1':BY (· =ga) wr w1:=hC1.mono (fun i h=>h.elim id False.elim)
  have lsz:wr.heap.size<=w1.heap.size:=hC1.size;have lw:w.heap.size<=wr.heap.size:=hC.size;replace hba:=H0 hba;replace hbs:=H0 hbs;replace hba1:=H0 hba1;replace hbs1:=H0 hbs1;replace hd1:=H0 hd1;clear ht1;go_wp2_with fail;have hgi:ga≠w1.heap.size:=Qa;have hba2:F8 (w1.alloc (.cells #[.bool false] 4)) ga (j+t1.size):=(Below.heap_alloc _ _ _ Qa).trans hba1.out;have hbs2:G2 (w1.alloc (.cells #[.bool false] 4)) gs s:=(Below.heap_alloc _ _ _ Qa).trans hbs1.out;have hbb:Yz w1.heap.size false (w1.alloc (.cells #[.bool false] 4)):=heap_alloc_new _ _
  refine (MB 241 #[.pointer (some ⟨w1.heap.size,0,none⟩)] Bx (fun b w=>Yz w1.heap.size b w) (· =w1.heap.size) ga gs s (fun st c w h=>Af9 _ st c w h) Ahd (fun st w v h=>(Below.heap_setCell _ _ _ _ (fun e=>hgi e.symm)).trans h) hgi Qa hne Qa false (j+t1.size) _ hbb hba2 hbs2 hz1).mono ?_
  rintro e w3 ⟨t2,rfl,ht2,hz2,hba3,hbs3,-,hC3⟩;have hd3:=Md ht2.out
  have hC4:BY (· =ga) w w3:=BY.step ((hC.trans hC1').trans (BY.of ((Below.refl _ _).alloc (Nat.le_refl _) _))) hC3 Qa
  have hown3:AH w3 w.heap.size 9 _ l:=hown.chg (fun i h1 h2=>(hC3.block i Qi Qa).trans ((Below.heap_alloc _ _ _ Qa).trans (hC1.block i h2 (fun x=>by rcases x with x | x;omega;exact x))))
  have hst:=HE (s.toList.drop j);rw [<-hd1.out,<-ht2.out,<-hd3] at hst;clear hC hC1 hC1' hC3 hown hbb hba2 hbs2 ht2 hd3;replace hd1:=H0 hd1
  by_cases hem:t2.toList=[]
  ·have hemB:t2.toList.isEmpty=true:=by rw [hem];rfl
   have hemL:(t2.toList==[])=true:=by rw [hem];rfl
   rw [if_pos hem] at hst
   have hfin:Hid (l.map (·.toList)=(MK (s.toList.drop k)).1):=H0 (by rw [hrun.out,hst];simp)
   have hfin2:Hid (s.toList.drop (j+t1.size)=(MK (s.toList.drop k)).2):=H0 (by rw [hrun.out,hst])
   have h0:t2.size=0:=(AF t2).1 hem;rw [h0,Nat.add_zero] at hba3;replace hst:=H0 hst;replace hem:=H0 hem;replace hba3:=H0 hba3;replace hbs3:=H0 hbs3;replace h0:=H0 h0;go_wp2_with fail;go_ret;exact ⟨_,l,_,rfl,hfin,hfin2,Qa,hz1,Qa,hown3,hba3.out,hbs3.out,hC4⟩
  ·have hemB:t2.toList.isEmpty=false:=by cases h:t2.toList with | nil=>exact absurd h hem | cons a b=>rfl
   have hemL:(t2.toList==[])=false:=AkA;rw [if_neg hem] at hst
   have h0:0<t2.size:=Nat.pos_of_ne_zero (fun h=>hem ((AF t2).2 h))
   have hnew:Hid (MK (s.toList.drop k)=((l++[t2]).map (·.toList)++(MK (s.toList.drop (j+t1.size+t2.size))).1,(MK (s.toList.drop (j+t1.size+t2.size))).2)):=H0 (by
    rw [hrun.out,hst];simp)
   replace hst:=H0 hst;replace hem:=H0 hem;replace hba3:=H0 hba3;replace hbs3:=H0 hbs3;have hw3:w.heap.size<=w3.heap.size:=hC4.size;go_wp2_with (at_builtin;refine Ca Ai4 rfl _ _ rfl rfl rfl hown3 (Below.refl w.heap.size w3) hw3 Qm Qa ?_;intro v' w4 ho4 hb4 _);have hba4:F8 w4 ga (j+t1.size+t2.size):=(hb4.block _ lga).trans hba3.out;have hbs4:G2 w4 gs s:=(hb4.block _ lgs).trans hbs3.out
   have hC5:BY (· =ga) w w4:=⟨hb4.os.trans hC4.os,hb4.tape.trans hC4.tape,hb4.output.trans hC4.output,Nat.le_trans hC4.size hb4.size,fun i hi hn=>(hb4.block i hi).trans (hC4.block i hi hn)⟩
   replace hba4:=H0 hba4;replace hbs4:=H0 hbs4;go_wp2_with fail;go_roundg (s.size - (j+t1.size+t2.size))
   case measure=>have:=hgk.out;omega
   case rel=>exact ⟨j+t1.size+t2.size,l++[t2],rfl,Qa,hz2,by rw [List.length_append];show l.length+1<=_;omega,hnew,ho4,hba4.out,hbs4.out,hC5⟩
end Go.Proofs.YtonomfeipkdmhaaGreatDoor
namespace Go.Proofs.YtonomfeipkdmhaaGreatDoor
theorem AfU (n:Nat):Ieee.Toward.even.cut false n 0=n:=by
 unfold Ieee.Toward.cut;simp [Nat.mod_one]
theorem Xk {n:Nat} (h0:n≠0) (h:n<2 ^ 53):Ieee.double.nearest false n 0=(n.log2+1022) * 2 ^ 52+n * 2 ^ (52 - n.log2):=by
 have hL:n.log2<=52:=by
  have:=(Nat.log2_lt h0).2 h;omega
 have hn2:n<2 ^ (n.log2+1):=Nat.lt_log2_self
 have hlast:max ((0:Int)+n.log2 - Ieee.double.fractionBits) Ieee.double.leastPlace=(n.log2:Int) - 52:=by
  have e1:Ieee.double.leastPlace= -1074:=Qc;have e2:(Ieee.double.fractionBits:Int)=52:=rfl;rw [e1,e2];omega
 unfold Ieee.Format.nearest;rw [if_neg h0];dsimp only;rw [hlast];have e3:((0:Int) - ((n.log2:Int) - 52)).toNat=52 - n.log2:=Qa;have e4:((n.log2:Int) - 52 - 0).toNat=0:=Qa
 have e5:((n.log2:Int) - 52 - Ieee.double.leastPlace).toNat=n.log2+1022:=by
  have e1:Ieee.double.leastPlace= -1074:=Qc;rw [e1];omega
 rw [e3,e4,e5,AfU,Nat.shiftLeft_eq];have hb:Ieee.double.binade=2 ^ 52:=rfl;have hi:Ieee.double.infRung=2047 * 2 ^ 52:=Qc;rw [hb,hi]
 have hk:n * 2 ^ (52 - n.log2)<2 ^ 53:=by
  have:n * 2 ^ (52 - n.log2)<2 ^ (n.log2+1) * 2 ^ (52 - n.log2):=Nat.mul_lt_mul_of_pos_right hn2 (Nat.two_pow_pos _)
  rw [<-Nat.pow_add,show n.log2+1+(52 - n.log2)=53 by omega] at this
  exact this
 rw [Nat.min_eq_left]
 ·rfl
 ·have h1:(n.log2+1022) * 2 ^ 52<=1074 * 2 ^ 52:=Nat.mul_le_mul_right _ Qa;have h2:n * 2 ^ (52 - n.log2)<=2 * 2 ^ 52:=Nat.le_trans (Nat.le_of_lt hk) Qc;have h3:=Nat.add_le_add h1 h2;rw [<-Nat.add_mul] at h3;exact Nat.le_trans h3 (Nat.mul_le_mul_right _ Qc)
theorem Age {n:Nat} (h0:n≠0) (h:n<2 ^ 53):Ieee.double.read (Ieee.double.nearest false n 0)= .number false (n * 2 ^ (52 - n.log2)) ((n.log2:Int) - 52):=by
 have hL:n.log2<=52:=by
  have:=(Nat.log2_lt h0).2 h;omega
 have hn2:n<2 ^ (n.log2+1):=Nat.lt_log2_self;have hn1:2 ^ n.log2<=n:=Nat.log2_self_le h0
 have hk:n * 2 ^ (52 - n.log2)<2 ^ 53:=by
  have:n * 2 ^ (52 - n.log2)<2 ^ (n.log2+1) * 2 ^ (52 - n.log2):=Nat.mul_lt_mul_of_pos_right hn2 (Nat.two_pow_pos _)
  rw [<-Nat.pow_add,show n.log2+1+(52 - n.log2)=53 by omega] at this
  exact this
 have hk1:2 ^ 52<=n * 2 ^ (52 - n.log2):=by
  have:2 ^ n.log2 * 2 ^ (52 - n.log2)<=n * 2 ^ (52 - n.log2):=Nat.mul_le_mul_right _ hn1
  rw [<-Nat.pow_add,show n.log2+(52 - n.log2)=52 by omega] at this
  exact this
 rw [Xk h0 h];generalize hM:n * 2 ^ (52 - n.log2)=M at hk hk1⊢;generalize n.log2=L at hL⊢;unfold Ieee.Format.read;have hb:Ieee.double.binade=2 ^ 52:=rfl;have hi:Ieee.double.infRung=2047 * 2 ^ 52:=Qc;have hs:Ieee.double.signWeight=2 ^ 63:=Qc;have e1:Ieee.double.leastPlace= -1074:=Qc;rw [hb,hi,hs,e1]
 obtain ⟨r,hr⟩:∃ r,M=2 ^ 52+r:=⟨M - 2 ^ 52,by rw [Nat.add_sub_cancel' hk1]⟩
 have hr2:r<2 ^ 52:=by
  rw [hr,show (2:Nat) ^ 53=2 ^ 52+2 ^ 52 by decide] at hk
  exact Nat.lt_of_add_lt_add_left hk
 have hx:(L+1022) * 2 ^ 52+M=r+(L+1023) * 2 ^ 52:=by
  rw [hr,<-Nat.add_assoc,show L+1023=(L+1022)+1 by omega,Nat.add_mul (L+1022) 1,Nat.one_mul,Nat.add_comm r]
 rw [hx];generalize hB:(2:Nat) ^ 52=B at hr hr2 hk1
 have h63:(2:Nat) ^ 63=2048 * B:=by rw [<-hB]
 rw [h63];replace hr:M=B+r:=hr;clear hk hk1 hB h63
 have hle:r+(L+1023) * B<1076 * B:=by
  have h1:(L+1023) * B<=1075 * B:=Nat.mul_le_mul_right _ Qa;generalize (L+1023) * B=X at h1⊢;omega
 have hr1:(r+(L+1023) * B) % (2048 * B)=r+(L+1023) * B:=Nat.mod_eq_of_lt Qa;have hn:(r+(L+1023) * B) / (2048 * B)=0:=Nat.div_eq_of_lt Qa
 have hge:B<=(L+1023) * B:=by
  have:1 * B<=(L+1023) * B:=Nat.mul_le_mul_right _ Qa;omega
 dsimp only;rw [hr1,hn];rw [if_neg Qa,if_pos Qa];have hpos:0<B:=Qa
 have hd:(r+(L+1023) * B) / B=L+1023:=by rw [Nat.add_mul_div_right _ _ hpos,Nat.div_eq_of_lt hr2,Nat.zero_add]
 have hm:(r+(L+1023) * B) % B=r:=by rw [Nat.add_mul_mod_self_right,Nat.mod_eq_of_lt hr2]
 rw [hd,hm,hr];have e9:(-1074:Int)+((L+1023 - 1:Nat):Int)=(L:Int) - 52:=Qa;rw [e9];rfl
theorem AdV:Ieee.double.read (Ieee.double.nearest false 0 0)= .number false 0 (-1074):=Qc
end Go.Proofs.YtonomfeipkdmhaaGreatDoor
namespace Go.Proofs.YtonomfeipkdmhaaGreatDoor
open Go.RowKit
def Ay (c:UInt8):List UInt8->List (List UInt8)
 | []=>[[]]
 | d :: r=>if d=c then [] :: Ay c r else (d :: (Ay c r).headD []) :: (Ay c r).tail
theorem Do (c d:UInt8) (r:List UInt8):Ay c (d :: r)=if d=c then [] :: Ay c r else (d :: (Ay c r).headD []) :: (Ay c r).tail:=rfl
theorem DI (c:UInt8) (l:List UInt8):Ay c l≠[]:=by
 cases l with
 | nil=>simp [Ay]
 | cons d r=>unfold Ay;split<;>simp
theorem AbY (c:UInt8) (l:List UInt8):(Ay c l).headD [] :: (Ay c l).tail=Ay c l:=by
 have:=DI c l
 cases h:Ay c l with
 | nil=>exact absurd h this
 | cons a b=>rfl
theorem X5 (c:UInt8) (l:List UInt8):Lib.split l [c]=Ay c l:=by
 unfold Lib.split
 induction l with
 | nil=>rfl
 | cons d r ih=>
  by_cases h:d=c
  ·subst h
   have hix:Lib.index (d :: r) [d]=((0:Nat):Int):=by rw [Lib.index];simp [List.isPrefixOf]
   rw [Lib.count_cons_eq,Nat.add_comm,Lib.splitK]
   rw [if_neg (by rw [hix];decide),hix]
   unfold Ay;rw [if_pos rfl,<-ih];simp
  ·have hix:Lib.index (d :: r) [c]=if Lib.index r [c]== -1 then -1 else Lib.index r [c]+1:=by
    have hp:([c]:List UInt8).isPrefixOf (d :: r)=false:=by simp [List.isPrefixOf,Ne.symm h]
    rw [Lib.index,hp];simp
   rw [Lib.count_cons_ne d c r h];unfold Ay;rw [if_neg h,<-ih]
   by_cases hm:Lib.index r [c]= -1
   ·rw [Lib.count_miss hm];rfl
   ·have hge:=Lib.index_ge r [c];obtain ⟨j,hj⟩:∃ j:Nat,Lib.index r [c]=j:=⟨(Lib.index r [c]).toNat,Qa⟩
    have hix':Lib.index (d :: r) [c]=((j+1:Nat):Int):=by rw [hix,if_neg (fun e=>hm (beq_iff_eq.1 e)),hj];first | done | omega
    have hk:Lib.count r [c]=Lib.count (r.drop (j+1)) [c]+1:=by rw [Lib.count_hit Qf hj,List.length_singleton,Nat.add_comm]
    rw [hk,Lib.splitK,Lib.splitK,if_neg (by rw [hix',beq_iff_eq];omega),if_neg (by rw [hj,beq_iff_eq];omega),hix',hj]
    simp
theorem Hy (c:UInt8) (a b:List UInt8):Ay c (a++c :: b)=Ay c a++Ay c b:=by
 induction a with
 | nil=>simp [Ay]
 | cons d r ih=>
  rw [List.cons_append,Do,Do]
  by_cases h:d=c
  ·rw [if_pos h,if_pos h,ih];rfl
  ·rw [if_neg h,if_neg h,ih];have:=DI c r
   cases hs:Ay c r with
   | nil=>exact absurd hs this
   | cons x y=>simp
theorem Kj {c:UInt8} (a:List UInt8) (h:∀ d∈a,d≠c):Ay c a=[a]:=by
 induction a with
 | nil=>rfl
 | cons d r ih=>unfold Ay;rw [if_neg (h d Qf),ih (fun x hx=>h x (by simp [hx]))];rfl
theorem Pr (c:UInt8) (l:List UInt8):(Ay c l).length<=l.length+1:=by
 induction l with
 | nil=>simp [Ay]
 | cons d r ih=>
  unfold Ay;have:=AbY c r;have h2:=congrArg List.length this;simp only [List.length_cons] at h2
  split<;>simp<;>omega
def AjU (w:World) (ls:List (List UInt8)) (e:Ending) (w':World):Prop:=
 ∃ (v:Value) (l:List ByteArray),e= .returned v/\Hid (l.map (·.toList)=ls)/\Fv w' v l/\Below w.heap.size w w'
theorem AdU (s:ByteArray) (c:UInt8) (w:World) (h:ML w) (hs:s.size<4294967281):
  Calls Tryz.prog 339 #[.string s,.string ⟨#[c]⟩] w fun e w'=>∃ l:List ByteArray,e= .returned (.slice (some ⟨w.heap.size,0,none⟩) l.length l.length)/\Hid (l.map (·.toList)=Ay c s.toList)/\
   (∀ i (h:i<l.length),w'.cell? ⟨w.heap.size,i,none⟩=some (.string l[i]))/\Below w.heap.size w w':=by
 obtain ⟨m,hm⟩:=h;refine (Tryz.strings_Split s ⟨#[c]⟩ m w hs hm (Nat.le_refl _)).mono ?_;rintro e w' ⟨rfl,rfl⟩;have hl:(Lib.splitB ⟨#[c]⟩ 0 (Lib.countB s ⟨#[c]⟩) s).length=Lib.countB s ⟨#[c]⟩+1:=Lib.splitB_all _ (Nat.le_refl _) 0 _ _ rfl
 refine ⟨Lib.splitB ⟨#[c]⟩ 0 (Lib.countB s ⟨#[c]⟩) s,by rw [hl],H0 ?_,?_,(Below.refl _ _).alloc (Nat.le_refl _) _⟩
 ·have h1:=Lib.splitB_data ⟨#[c]⟩ 0 (Lib.countB s ⟨#[c]⟩) s
  have e1:(fun t:ByteArray=>t.toList)=(fun t=>t.data.toList):=funext fun t=>ByteArray.toList_eq ..
  rw [e1,h1,ByteArray.toList_eq,<-X5];rfl
 ·intro i hi;have:(w.alloc (.cells ((Lib.splitB ⟨#[c]⟩ 0 (Lib.countB s ⟨#[c]⟩) s).map Value.string).toArray 9)).heap[w.heap.size]? =some _:=heap_alloc_new w _;simp only [World.cell?,this];simp [hi]
def AC (base:Nat):Nat->List UInt8->Option Nat
 | acc,[]=>some acc
 | acc,c :: r=>if Ag (c.toNat:Int) (base:Int)<0 then none else AC base (acc * base+(Ag (c.toNat:Int) (base:Int)).toNat) r
def Bm (base:Nat) (l:List UInt8):Option Nat:=if l=[] then none else AC base 0 l
def FY:List UInt8->Option Nat
 | []=>none
 | [c]=>AC 10 0 [c]
 | c :: d :: r=>if c=48 then (if d=120\/d=88 then AC 16 0 r else AC 8 0 (d :: r)) else AC 10 0 (c :: d :: r)
def Bg (s:List UInt8):List (List UInt8):=if 1<(Ay 46 s).length/\(Ay 46 s).getLast? =some [] then (Ay 46 s).dropLast else Ay 46 s
def Br:Nat->List (List UInt8)->Nat->Option Nat
 | _,[],sum=>some sum
 | i,[x],sum=>match FY x with
  | none=>none
  | some v=>if v<2 ^ (8 * (4 - i)) then some (sum+v) else none
 | i,x :: y :: r,sum=>match FY x with
  | none=>none
  | some v=>if v<=255 then Br (i+1) (y :: r) (sum+v * 2 ^ (8 * (3 - i))) else none
def Nc (l:List (List UInt8)):Option Nat:=if 4<l.length then none else Br 0 l 0
def BD (s:List UInt8):Option Nat:=Nc (Bg s)
def Yi (l:List (List UInt8)):List UInt8:=(l.getLast?).getD []
def Mn (s:List UInt8):Bool:=(Bm 10 (Yi (Bg s))).isSome || (FY (Yi (Bg s))).isSome
theorem Np (s:List UInt8):Bg s≠[]:=by
 unfold Bg;split
 ·rename_i h;intro h2;have:=congrArg List.length h2;rw [List.length_dropLast,List.length_nil] at this;omega
 ·exact DI _ _
theorem O9:∀ (l:List (List UInt8)) (i sum v:Nat),i+l.length<=4->0<l.length->sum+2 ^ (8 * (4 - i))<=2 ^ 32->Br i l sum=some v->v<2 ^ 32
 | [],i,sum,v,h,h0,hs,e=>by simp at h0
 | [x],i,sum,v,h,_,hs,e=>by
  unfold Br at e
  cases hx:FY x with
  | none=>rw [hx] at e;cases e
  | some n=>
   rw [hx] at e;dsimp only at e
   by_cases hn:n<2 ^ (8 * (4 - i))
   ·rw [if_pos hn] at e;cases e;omega
   ·rw [if_neg hn] at e;cases e
 | x :: y :: r,i,sum,v,h,_,hs,e=>by
  unfold Br at e
  cases hx:FY x with
  | none=>rw [hx] at e;cases e
  | some n=>
   rw [hx] at e;dsimp only at e
   by_cases hn:n<=255
   ·rw [if_pos hn] at e
    refine O9 (y :: r) (i+1) _ v (by simp at h⊢;omega) Qf ?_ e
    have h3:i<=2:=by simp at h;omega
    have hp:2 ^ (8 * (4 - i))=256 * 2 ^ (8 * (3 - i)):=by
     have:8 * (4 - i)=8+8 * (3 - i):=Qa;rw [this,Nat.pow_add]
    have e2:4 - (i+1)=3 - i:=Qa;rw [e2];have:(n+1) * 2 ^ (8 * (3 - i))<=256 * 2 ^ (8 * (3 - i)):=Nat.mul_le_mul_right _ Qa;rw [Nat.add_mul] at this;omega
   ·rw [if_neg hn] at e;cases e
theorem Adc {s:List UInt8} {v:Nat} (h:BD s=some v):v<4294967296:=by
 unfold BD Nc at h
 by_cases h4:4<(Bg s).length
 ·rw [if_pos h4] at h;cases h
 ·rw [if_neg h4] at h;exact O9 (Bg s) 0 0 v Qa (List.length_pos_iff.2 (Np s)) Qc h
end Go.Proofs.YtonomfeipkdmhaaGreatDoor
