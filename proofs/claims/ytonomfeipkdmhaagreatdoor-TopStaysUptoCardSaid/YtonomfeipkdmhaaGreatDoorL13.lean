/- Part 13: lemmas. -/
import Derived.Test.YtonomfeipkdmhaaGreatDoorL12
import Derived.Defers
import Derived.Laws.CopyOwn
import Derived.Laws.Pointers
import Derived.Laws.Tables
import Derived.Lib.MapLaws
import Derived.Lib.TrimUEq
import Derived.Recover
import Derived.Tactics2
set_option linter.unusedVariables false
set_option linter.unusedSimpArgs false
set_option maxRecDepth 100000
set_option maxHeartbeats 16000000
namespace Go.Proofs.YtonomfeipkdmhaaGreatDoor
open Go.RowKit
theorem UT (B b:Nat) (l m:List UInt8) (pa:Option Addr) (n c:Nat) (W0 w:World) (h:Kz w B b l) (hr:F9 W0 pa n c m) (hW:Below B W0 w) (hWB:W0.heap.size<=B) (h0:0<n) (hl:l.length<=1099511627776) (hn:n<=1099511627776) (hB:B<=w.heap.size):
  Calls Tryz.prog 100 #[.pointer (some ⟨b,0,none⟩),.slice pa n c] w fun e w'=>e= .returned (.tuple #[.int .i64 n,.nilIface])/\Kz w' B b (l++m)/\Below B w w':=by
 obtain ⟨i0,hi,hz0,hz1,hz2⟩:=info_parts Kl;have hln:=hr.len;go_enter Tryz.func100,Tryz.ntmps100;go_wp2_with fail;refine (Hx B b l _ h).mono ?_;rintro e w1 ⟨rfl,⟨hBb,v,hblk,hown,hne⟩,hb⟩;have hr1:=hr.below (hW.trans hb) hWB;obtain ⟨g,o,rfl,hcell⟩:=hr1.cells h0;have hs:=hb.size;have hlt:=CH hblk;have c1:w1.cell? ⟨b,1,none⟩=some v:=QN;rw [Lib.byteCells_length] at hown
 have hnews:∀ j u,(m.map Dy)[j]? =some u->w1.cell? ((⟨g,o,none⟩:Addr).add j)=some u:=by
  intro j u hj;rw [List.getElem?_map] at hj
  cases hm:m[j]? with
  | none=>rw [hm] at hj;cases hj
  | some x=>
   rw [hm] at hj;cases hj;obtain ⟨hjl,hx⟩:=List.getElem?_eq_some_iff.1 hm;have:=hcell j hjl
   have e:(⟨g,o,none⟩:Addr).add j=⟨g,o+j,none⟩:=by unfold Addr.add;split<;>simp_all
   rw [e,this,hx]
 have hone:∀ u∈m.map Dy,u.oneCell'=true:=by intro u hu;obtain ⟨x,_,rfl⟩:=List.mem_map.1 hu;rfl
 have hcl:(m.map Dy).length=n * 1:=by rw [List.length_map,hln,Nat.mul_one]
 replace hnews:=H0 hnews;replace hone:=H0 hone;replace hcl:=H0 hcl;replace hcell:=H0 hcell;clear hr hr1;replace hln:=H0 hln
 go_wp2_with (at_builtin;refine wpList_append_own _ rfl _ _ 25 rfl B 5 i0 (.int .u8 0) 1 1 Tryz.underlying25 hi hz0 hz1 hz2 rfl Qc _ _ _ rfl hown ⟨g,o,none⟩ n c (m.map Dy) rfl hcl.out hnews.out hone.out Qm Qa Qa ?_;intro v' w2 hown' hgrow _;obtain ⟨a2,k2,c2,rfl⟩:=ES hown';have hblk2:=(hgrow.block b hlt (fun e=>hne e.symm)).trans hblk;obtain ⟨d1,f1⟩:=GA hblk2)
 go_wp2_with fail;go_ret2;refine ⟨rfl,Or.inr ?_,?_⟩
 ·exact Lib.BuilderAt.put hBb hblk2 (by rw [Cv,List.length_append,Lib.byteCells_length,Lib.byteCells_length,hln.out];exact hown') Ut
 ·exact (hb.grown hgrow Qa (fun k hk=>(hown.lt k hk).1)).setCell (p:=⟨b,1,none⟩) hBb _
def Utf (w:World):Prop:=Lib.Utf8Tabs 1 2 w
theorem Utf.next {w w':World} (h:Utf w) (hb:Below w.heap.size w w'):Utf w':=by
 refine ⟨fun c hc=> ?_,fun i hi=>⟨?_,?_⟩⟩
 ·have h1:=h.1 c hc;exact (hb.cell QW).trans h1
 ·have h1:=(h.2 i hi).1;exact (hb.cell QW).trans h1
 ·have h1:=(h.2 i hi).2;exact (hb.cell QW).trans h1
structure Gu (w:World):Prop where
 tabs:IG w
 ml:ML w
 utf:Utf w
theorem Gu.next {w w':World} (h:Gu w) (hb:Below w.heap.size w w'):Gu w':=⟨h.tabs.next hb,h.ml.next hb,h.utf.next hb⟩
theorem OT {l:List UInt8} (h:l≠[]):(CC l).2<=l.length:=Lib.decodeL_le l h
theorem Abm {l:List UInt8} (h:l≠[]):1<=Hu l/\Hu l<=l.length:=by
 cases l with
 | nil=>exact absurd rfl h
 | cons c r=>
  rw [Adj];have:=X6 ((Bc c.toNat).2.2 - 1) (Bc c.toNat).1 (Bc c.toNat).2.1 r;simp;omega
theorem R4 (pa:Option Addr) (n c:Nat) (l:List UInt8) (w:World) (h:F9 w pa n c l) (h0:0<n) (hu:Utf w):
  Calls Tryz.prog 98 #[.slice pa n c] w fun e w'=>e= .returned (.tuple #[.int .i32 ((CC l).1:Int),.int .i64 ((CC l).2:Int)])/\Below w.heap.size w w':=by
 obtain ⟨g,o,rfl,hcell⟩:=h.cells h0;have hln:=h.len
 have hz:(⟨l.toArray⟩:ByteArray).size=n:=by rw [<-hln];rfl
 have:=Tryz.utf8_DecodeRune ⟨l.toArray⟩ g o c w hu (fun j hj=>by
  rw [hz] at hj;have h1:=hcell j Qa;rw [h1];unfold Dy;congr 3
  simp [ByteArray.get!,show j<l.length by omega])
 rw [hz] at this
 have e:Lib.decodeGo ⟨l.toArray⟩=CC l:=by unfold Lib.decodeGo;rw [if_neg (by rw [hz];omega)];rfl
 rw [e] at this;exact this
theorem Jd (pa:Option Addr) (n c:Nat) (l:List UInt8) (w:World) (h:F9 w pa n c l) (hn:n<=1000000000) (hu:Utf w):
  Calls Tryz.prog 51 #[.slice pa n c] w (EI w (FQ l)):=by
 have hln:=h.len;go_enter Tryz.func51,Tryz.ntmps51;go_wp2_with fail
 go_loopw [0] (fun v0 wr=>∃ (pa':Option Addr) (n' c' f:Nat) (l' out:List UInt8),v0= .slice pa' n' c'/\F9 w pa' n' c' l'/\n'<f/\n'<=n/\Kz wr w.heap.size w.heap.size out/\Below w.heap.size w wr/\Hid (FQ l=out++CL f l')/\out.length+3 * n'<=3 * n) (fun v0 _=>match v0 with | .slice _ k _=>k | _=>0)
 case atStart=>exact ⟨pa,n,c,n+1,l,[],rfl,h,Qa,Nat.le_refl _,Kz.fresh w,(Below.refl _ _).alloc (Nat.le_refl _) _,H0 (by rw [<-hln];rfl),Qf⟩
 case round=>
  obtain ⟨pa',n',c',f,l',out,rfl,hr,hf,hle,hbld,hbel,hv,hol⟩:=hrel;have hsz:=hbel.size;have hl':=hr.len
  by_cases h0:0<n'
  ·have h0I:(0:Int)<(n':Int):=Qa
   have hne:l'≠[]:=by intro e;rw [e] at hl';simp at hl';omega
   obtain ⟨f1,rfl⟩:∃ f1,f=f1+1:=⟨f - 1,Qa⟩;have hrw:=hr.below hbel (Nat.le_refl _)
   have hdr:=H0 (R4 pa' n' c' l' wr hrw h0 (hu.next hbel))
   have hw1:=Li l';have hw2:=OT hne;rw [hl'] at hw2;have hb1:=Abm hne;rw [hl'] at hb1
   have hstep:CL (f1+1) l'=if CC l'=(65533,1) then FM++CL f1 (l'.drop (Hu l')) else l'.take (CC l').2++CL f1 (l'.drop (CC l').2):=by rw [CL,if_neg hne]
   obtain ⟨r,hre⟩:∃ r,(CC l').1=r:=⟨_,rfl⟩;obtain ⟨k,hke⟩:∃ k,(CC l').2=k:=⟨_,rfl⟩
   have hrk:CC l'=(r,k):=by rw [<-hre,<-hke]
   rw [hre,hke] at hdr;rw [hke] at hw1 hw2
   by_cases hbad:r=65533/\k=1
   ·obtain ⟨rfl,rfl⟩:=hbad
    have hv2:Hid (FQ l=(out++[239,191,189])++CL f1 (l'.drop (Hu l'))):=H0 (by rw [hv.out,hstep,if_pos hrk,List.append_assoc];rfl)
    obtain ⟨q,hq⟩:=N2 (Hu l')
    have hbeg:=H0 (fun w hr=>SJ pa' n' c' l' w hr h0 Qm)
    rw [hq] at hv2 hbeg hb1;obtain ⟨pa2,hsl,hr2⟩:=hr.drop q hb1.2;replace hv:=H0 hv;replace hstep:=H0 hstep;replace hre:=H0 hre;replace hke:=H0 hke;replace hrk:=H0 hrk;replace hq:=H0 hq;replace hl':=H0 hl';have hqI:(q:Int)<=(n':Int):=Qa;have hq0:(0:Int)<=(q:Int):=Qa;go_wp2_with fail;refine hdr.out.mono ?_;rintro e w2 ⟨rfl,hb2⟩;have hbel2:=hbel.trans (hb2.mono hsz);have hbld2:=hbld.keep hb2;have hsz2:=hbel2.size;go_wp2_with fail;refine (AM w.heap.size w.heap.size out ⟨#[239,191,189]⟩ w2 hbld2 Qa Qc hsz2).mono ?_;rintro e w3 ⟨rfl,hbld3,hb3⟩;have e3:(ByteArray.mk #[239,191,189]).toList=[239,191,189]:=toList_mk _;rw [e3] at hbld3;have hbel3:=hbel2.trans hb3;replace e3:=H0 e3;have hsz3:=hbel3.size;have hbg:=H0 (hbeg.out w3 (hr.below hbel3 (Nat.le_refl _)));go_wp2_with fail;refine hbg.out.mono ?_;rintro e w4 ⟨rfl,rfl⟩;go_wp2_with fail;go_roundw
    case rel=>exact ⟨pa2,n' - q,c' - q,f1,l'.drop q,out++[239,191,189],rfl,hr2,Qa,Qa,hbld3,hbel3,hv2,Qi⟩
    case measure=>dsimp only;omega
   ·have hv2:Hid (FQ l=(out++l'.take k)++CL f1 (l'.drop k)):=H0 (by
     rw [hv.out,hstep,if_neg (by rw [hrk,Prod.mk.injEq];exact hbad),hke,List.append_assoc])
    obtain ⟨pa2,hsl,hr2⟩:=hr.drop k hw2;obtain ⟨pa3,hst,hr3⟩:=hr.take k hw2
    have hway:(((r:Int)==65533)=false)\/(((r:Int)==65533)=true/\((k:Int)==1)=false):=by
     by_cases h1:r=65533
     ·refine .inr ⟨by rw [h1];rfl,?_⟩
      rw [beq_eq_false_iff_ne];intro e;exact hbad ⟨h1,Qa⟩
     ·left;rw [beq_eq_false_iff_ne];omega
    replace hv:=H0 hv;replace hstep:=H0 hstep;replace hre:=H0 hre;replace hke:=H0 hke;replace hrk:=H0 hrk;replace hl':=H0 hl';replace hbad:=H0 hbad;have hqI:(k:Int)<=(n':Int):=Qa;have hq0:(0:Int)<=(k:Int):=Qa
    rcases hway with q1 | ⟨q1,q2⟩
    all_goals
     go_wp2_with fail;refine hdr.out.mono ?_;rintro e w2 ⟨rfl,hb2⟩;have hbel2:=hbel.trans (hb2.mono hsz);have hbld2:=hbld.keep hb2;have hsz2:=hbel2.size;go_wp2_with fail;refine (UT w.heap.size w.heap.size out (l'.take k) pa3 k c' w w2 hbld2 hr3 hbel2 (Nat.le_refl _) Qa Qa Qa hsz2).mono ?_;rintro e w3 ⟨rfl,hbld3,hb3⟩;have hbel3:=hbel2.trans hb3;go_wp2_with fail;go_roundw
     case rel=>exact ⟨pa2,n' - k,c' - k,f1,l'.drop k,out++l'.take k,rfl,hr2,Qa,Qa,hbld3,hbel3,hv2,by rw [List.length_append,List.length_take];omega⟩
     case measure=>dsimp only;omega
  ·have h0I:(n':Int)<=0:=Qa;have hnil:l'=[]:=List.eq_nil_of_length_eq_zero Qa
   have hv2:Hid (FQ l=out):=H0 (by
    rw [hv.out,hnil]
    cases f with
    | zero=>rw [CL,List.append_nil]
    | succ f=>rw [CL,if_pos rfl,List.append_nil])
   replace hv:=H0 hv;replace hnil:=H0 hnil;replace hl':=H0 hl';have hst:=H0 (Bq w.heap.size w.heap.size out wr hbld hsz);go_wp2_with fail;refine hst.out.mono ?_;rintro e w2 ⟨t,rfl,ht,hb⟩;go_wp2_with fail;go_ret;exact GC (ht.out.trans hv2.out.symm) (hbel.trans hb)
theorem YN {B k:Nat} {a w:World} (h:Below B a w) (hk:B<=k) (s:ByteArray) (p:Nat):Below B a (w.iterAt k s p):=
 ⟨h.os,h.tape,h.output,AgU,fun j hj=>by
  simp only [World.iterAt];rw [Array.getElem?_setIfInBounds_ne Qa]
  exact h.block j hj⟩
theorem AbM (s:ByteArray) (pos:Nat):CC (s.toList.drop pos)=Utf8.decode s pos:=by
 rw [ByteArray.toList_eq];exact Lib.decodeL_drop s pos
theorem Tg (s:ByteArray) (w:World) (hz:s.size<=100000000) (hu:Utf w):Calls Tryz.prog 337 #[.string s] w (Ag1 (KA s.toList) w):=by
 obtain ⟨pa,n,c,w1,hcv,hr,hb1⟩:=Aak s w;have hln:=hr.len;rw [Aa] at hln
 have hd:=H0 (Jd pa n c s.toList w1 hr Qa (hu.next hb1))
 replace hln:=H0 hln;go_enter Tryz.func337,Tryz.ntmps337;go_wp2_with fail;refine hd.out.mono ?_;rintro e w2 ⟨t,rfl,ht,hb2⟩
 have hb:=hb1.next hb2
 clear hcv hr
 have htz:t.size<=3 * s.size:=by
  rw [<-Aa,ht.out];have:=Ki s.toList;rw [Aa] at this;exact this
 go_wp2_with fail
 go_loopg [3] t.size (fun g v wx=>∃ (i f:Nat) (l:List Nat),i<=t.size/\g=t.size - i/\t.size - i<f/\wx.heap[w2.heap.size]? =some (.stringIter t i)/\Es wx (w2.heap.size+1) v l/\w2.heap.size+1<=wx.heap.size/\Below w.heap.size w wx/\Hid (KA s.toList=l++Cn f (t.toList.drop i))/\l.length<=i)
 case atStart=>exact ⟨0,t.size+1,[],Nat.zero_le _,rfl,Qa,World.iter_heap _ _ _,Es.nil _ _,by simp [World.iter],hb.trans ((Below.refl _ _).alloc hb.size _),H0 (by unfold KA Agc;rw [<-ht.out,Aa];rfl),Nat.le_refl _⟩
 case round=>
  obtain ⟨i,f,l,hi,hg,hf,hit,hown,hwz,hbel,hv,hll⟩:=hrel;have hs0:=hb.size
  by_cases hlt:i<t.size
  ·have hne:t.toList.drop i≠[]:=by
    intro e;have:=congrArg List.length e;rw [List.length_drop,Aa] at this;simp at this;omega
   obtain ⟨f1,rfl⟩:∃ f1,f=f1+1:=⟨f - 1,Qa⟩;have hdd:=AbM t i
   have hnx:=fun ty=>Lib.run_next_any_at (P:=Tryz.prog) wr w2.heap.size t i ty hit hlt
   rw [<-hdd] at hnx;have hw1:=Li (t.toList.drop i);have hw2:=OT hne;rw [List.length_drop,Aa] at hw2;have hrl:=Uu (t.toList.drop i)
   have hstep:Cn (f1+1) (t.toList.drop i)=(CC (t.toList.drop i)).1 :: Cn f1 ((t.toList.drop i).drop (CC (t.toList.drop i)).2):=by rw [Cn,if_neg hne]
   obtain ⟨r,hre⟩:∃ r,(CC (t.toList.drop i)).1=r:=⟨_,rfl⟩;obtain ⟨k,hke⟩:∃ k,(CC (t.toList.drop i)).2=k:=⟨_,rfl⟩;rw [hre,hke,List.drop_drop] at hstep;rw [hre,hke] at hnx;rw [hke] at hw1 hw2;rw [hre] at hrl
   have hnew:Hid (KA s.toList=(l++[r])++Cn f1 (t.toList.drop (i+k))):=H0 (by rw [hv.out,hstep,List.append_assoc];rfl)
   have hk2:=H0 (Lib.iterAt_heap wr w2.heap.size t i (i+k) hit)
   have hb3:=H0 (YN hbel (show w.heap.size<=w2.heap.size by omega) t (i+k))
   have ho3:=H0 (ZD hown (show w2.heap.size<w2.heap.size+1 by omega) t (i+k))
   have hz3:=H0 (show w2.heap.size+1<=(wr.iterAt w2.heap.size t (i+k)).heap.size by simp only [World.iterAt,Array.size_setIfInBounds];exact hwz)
   have hrI:(r:Int)<=1114111:=Qa;have hr0:(0:Int)<=(r:Int):=Qa;replace hdd:=H0 hdd;replace hre:=H0 hre;replace hke:=H0 hke;replace hstep:=H0 hstep;replace hit:=H0 hit;replace hg:=H0 hg;go_wp2_with (at_builtin;refine L9 rfl _ _ rfl r rfl rfl ho3.out (Below.refl _ _) hz3.out rfl Qa ?_;intro v' w' ho' hb' _);go_wp2_with fail
   have hlt3:w2.heap.size<(wr.iterAt w2.heap.size t (i+k)).heap.size:=by have:=hz3.out;omega
   go_roundg (t.size - (i+k))
   case measure=>have:=hg.out;omega
   case rel=>exact ⟨i+k,f1,l++[r],Qa,rfl,Qa,by rw [hb'.block _ Qa];exact hk2.out,ho',by have:=hb'.size;have:=hz3.out;omega,hb3.out.trans (hb'.mono Qa),hnew,Qi⟩
  ·obtain rfl:i=t.size:=Qa
   have hnx:=fun ty=>Lib.run_next_end_at (P:=Tryz.prog) wr w2.heap.size t t.size ty hit hlt
   have hfin:Hid (KA s.toList=l):=H0 (by
    rw [hv.out,AL t t.size (Nat.le_refl _)]
    cases f with
    | zero=>exact List.append_nil _
    | succ f=>rw [Cn,if_pos rfl,List.append_nil])
   replace hg:=H0 hg;go_wp2_with fail;go_ret
   exact ⟨_,rfl,by rw [hfin.out];exact hown.mono Qa,hbel⟩
def AfQ (o:Option (List UInt8)) (w:World) (e:Ending) (w':World):Prop:=∃ t:ByteArray,e= .returned (.tuple #[.string t,.bool o.isSome])/\Hid (∀ x,o=some x->t.toList=x)/\Below w.heap.size w w'
theorem GO {o:Option (List UInt8)} {w w':World} {t:ByteArray} (h:o=none) (hb:Below w.heap.size w w'):AfQ o w (.returned (.tuple #[.string t,.bool false])) w':=by
 subst h;exact ⟨t,rfl,H0 (fun x hx=>by cases hx),hb⟩
theorem Ln {o:Option (List UInt8)} {w w':World} {t:ByteArray} {l:List UInt8} (h:o=some l) (ht:t.toList=l) (hb:Below w.heap.size w w'):AfQ o w (.returned (.tuple #[.string t,.bool true])) w':=by
 subst h;exact ⟨t,rfl,H0 (fun x hx=>by cases hx;exact ht),hb⟩
theorem Kv:∀ (f:Nat) (s:List UInt8) (st:Dm) (m:List Nat),st.l.length<=255->DD f s st=some m->m.length<=255
 | 0,_,_,_,_,h=>(nomatch h)
 | f+1,s,st,m,hl,h=>by
  rw [DD] at h;split at h
  ·cases h;exact hl
  ·split at h
   ·cases h
   ·split at h
    ·cases h
    ·rename_i d n _ _ st' hs;have h1:=W6 hs
     have h2:st.l.length≠255:=by
      intro e;unfold D9 at hs;rw [e,if_pos Qf] at hs;cases hs
     exact Kv f _ st' m Qa h
theorem Afe {s:List UInt8} {m:List Nat} (h:Nf s=some m):m.length<=255:=by
 unfold Nf at h;split at h
 ·split at h
  ·exact Kv _ _ _ _ (Nat.zero_le _) h
  ·split at h
   ·cases h
   ·rename_i hl;split at h
    ·refine Kv _ _ _ _ ?_ h;show (List.map _ _).length<=255;rw [List.length_map];omega
    ·cases h
 ·exact Kv _ _ _ _ (Nat.zero_le _) h
theorem Ajb (s:ByteArray) (w:World):Calls Tryz.prog 218 #[.string s,.string ⟨#[120,110,45,45]⟩] w fun e w'=>∃ r:ByteArray,e= .returned (.tuple #[.string r,.bool (Lib.hasPrefix s.toList Wa)])/\r.size<=s.size/\Hid (Lib.hasPrefix s.toList Wa=true->r.toList=s.toList.drop 4)/\w=w':=by
 refine (Tryz.strings_CutPrefix s ⟨#[120,110,45,45]⟩ w).mono ?_;rintro e w' ⟨rfl,rfl⟩;have e1:s.data.toList=s.toList:=(ByteArray.toList_eq ..).symm;have e2:(ByteArray.mk #[120,110,45,45]).data.toList=Wa:=rfl;rw [e1,e2]
 have hl:(Lib.trimPrefix s.toList Wa).length<=s.size:=by
  rw [<-Aa];unfold Lib.trimPrefix;split
  ·rw [List.length_drop];omega
  ·exact Nat.le_refl _
 refine ⟨_,rfl,Q8,H0 (fun h=> ?_),rfl⟩
 rw [toList_mk];unfold Lib.trimPrefix;rw [if_pos h];rfl
theorem WE (s:ByteArray) (w:World) (hz:s.size<=100000000) (hu:Utf w):Calls Tryz.prog 340 #[.string s] w (AfQ (AU s.toList) w):=by
 obtain ⟨R,hR⟩:=N2 (AU s.toList);rw [hR];have hv:=hR.symm;unfold AU at hv;replace hR:=H0 hR
 have hlo:=H0 (fun w=>AcS s w Qa)
 have hcp:=H0 (Ajb s)
 have hsg:=H0 (fun w hu=>Tg s w hz hu)
 have hsle:=H0 (Abb s.toList);obtain ⟨P,hP⟩:=N2 (Lib.hasPrefix s.toList Wa);obtain ⟨L,hL⟩:=N2 (Ja s.toList);rw [hP] at hv hcp;rw [hL] at hv hlo;replace hP:=H0 hP;replace hL:=H0 hL
 cases P with
 | true=>
  rw [if_pos rfl] at hv
  cases L with
  | false=>
   rw [if_neg Qc] at hv;replace hv:=H0 hv;go_enter Tryz.func340,Tryz.ntmps340;go_wp2_with fail;refine (hlo.out _).mono ?_;rintro e w1 ⟨rfl,rfl⟩;go_wp2_with fail;refine (hcp.out _).mono ?_;rintro e w1 ⟨r,rfl,hrz,hr,rfl⟩;go_wp2_with fail;go_ret2;exact GO hv.out (Below.refl _ _)
  | true=>
   rw [if_pos rfl] at hv;replace hv:=H0 hv;go_enter Tryz.func340,Tryz.ntmps340;go_wp2_with fail;refine (hlo.out _).mono ?_;rintro e w1 ⟨rfl,rfl⟩;go_wp2_with fail;refine (hcp.out _).mono ?_;rintro e w1 ⟨r,rfl,hrz,hr,rfl⟩;have hrl:=hr.out Qf
   have hdc:=H0 (fun w=>Zx r w Qa)
   have hv2:=hv.out;rw [<-hrl] at hv2;replace hrl:=H0 hrl
   cases hd:Nf r.toList with
   | none=>
    rw [hd] at hdc hv2;dsimp only at hv2;replace hd:=H0 hd;replace hv2:=H0 hv2;go_wp2_with fail;refine (hdc.out _).mono ?_;rintro e w2 ⟨rfl,hb2⟩;go_wp2_with fail;go_ret2;exact GO hv2.out hb2
   | some m=>
    have hle:=AgN hd;have hml:=Afe hd;rw [hd] at hdc hv2;dsimp only at hv2;replace hd:=H0 hd;obtain ⟨B,hB⟩:=N2 (Hz m);rw [hB] at hv2;replace hv2:=H0 hv2;go_wp2_with fail;refine (hdc.out _).mono ?_;rintro e w2 ⟨v,rfl,ho,hb2⟩;obtain ⟨pa,c,rfl,hir⟩:=ho.read;have hlb:=H0 (TC pa m.length c m w2 hir Qa hle);rw [hB] at hlb;replace hB:=H0 hB;go_wp2_with fail;refine hlb.out.mono ?_;rintro e w3 ⟨rfl,hb3⟩;have hsz2:=hb2.size;have hb4:=hb2.trans (hb3.mono hsz2);cases B
    ·have hv3:Hid (R=none):=H0 Aef;go_wp2_with fail;go_ret2;exact GO hv3.out hb4
    ·have hv3:Hid (R=some s.toList):=H0 Aef;go_wp2_with fail;go_ret2;exact Ln hv3.out rfl hb4
 | false=>
  rw [if_neg Qc] at hv
  cases L with
  | true=>
   rw [if_pos rfl] at hv;replace hv:=H0 hv;go_enter Tryz.func340,Tryz.ntmps340;go_wp2_with fail;refine (hlo.out _).mono ?_;rintro e w1 ⟨rfl,rfl⟩;go_wp2_with fail;refine (hcp.out _).mono ?_;rintro e w1 ⟨r,rfl,hrz,hr,rfl⟩;go_wp2_with fail;go_ret2;exact Ln hv.out rfl (Below.refl _ _)
  | false=>
   rw [if_neg Qc] at hv;have hlen:=Mo s.toList;rw [Aa] at hlen;obtain ⟨m,hm⟩:=N2 (KA s.toList);rw [hm] at hv hsg hsle hlen;replace hm:=H0 hm;obtain ⟨B,hB⟩:=N2 (Hz m);rw [hB] at hv;replace hv:=H0 hv;go_enter Tryz.func340,Tryz.ntmps340;go_wp2_with fail;refine (hlo.out _).mono ?_;rintro e w1 ⟨rfl,rfl⟩;go_wp2_with fail;refine (hcp.out _).mono ?_;rintro e w1 ⟨r,rfl,hrz,hr,rfl⟩;go_wp2_with fail;refine (hsg.out _ hu).mono ?_;rintro e w2 ⟨v,rfl,ho,hb2⟩;obtain ⟨pa,c,rfl,hir⟩:=ho.read;have hlb:=H0 (TC pa m.length c m w2 hir Qa hsle.out);rw [hB] at hlb;replace hB:=H0 hB;have hsz2:=hb2.size;go_wp2_with fail;refine hlb.out.mono ?_;rintro e w3 ⟨rfl,hb3⟩;have hb4:=hb2.trans (hb3.mono hsz2);cases B
   ·have hv3:Hid (R=none):=H0 Aj1;go_wp2_with fail;go_ret2;exact GO hv3.out hb4
   ·have hv3:Hid (R=match Ld m with | some t=>some (Wa++t) | none=>none):=H0 Aj1
    have hen:=H0 (WF pa m.length c m w3 (hir.below hb3 (Nat.le_refl _)) Qa);have hsz3:=hb4.size;go_wp2_with fail;refine hen.out.mono ?_;rintro e w4 ⟨t,rfl,ht,hb5⟩;have hb6:=hb4.trans (hb5.mono hsz3)
    cases ho2:Ld m with
    | none=>
     rw [ho2] at hv3 ht;replace ho2:=H0 ho2
     have htz:t.size<=20656:=by rw [<-Aa,ht.out];decide
     go_wp2_with fail;go_ret2;exact GO hv3.out hb6
    | some t0=>
     have htl:=XY ho2;rw [ho2] at hv3 ht;replace ho2:=H0 ho2
     have htz:t.size<=20656:=by rw [<-Aa,ht.out];exact htl
     go_wp2_with fail;go_ret2
     exact Ln hv3.out (by rw [toList_append,ht.out,show (ByteArray.mk #[120,110,45,45]).toList=Wa from toList_mk [120,110,45,45]];rfl) hb6
def G5 (w:World) (C b:Nat) (l:List UInt8):Prop:=∃ p v,(p= .pointer none\/p= .pointer (some ⟨b,0,none⟩))/\w.heap[b]? =some (.cells #[p,v] 76 (0,0))/\w.ownsRow C 5 1 v (Lib.byteCells l).length (Lib.byteCells l)/\v.ownBlock≠some b
theorem DG {w:World} {B C n:Nat} {E:TypeId} {v:Value} {xs:List Value} (h:w.ownsRow C E 1 v n xs) (hB:B<=C):w.ownsRow B E 1 v n xs:=by
 refine ⟨h.1,?_⟩
 rcases h.2 with hn | ⟨g,cap,cur,rfl,hg,rest⟩
 ·exact .inl hn
 ·exact .inr ⟨g,cap,cur,rfl,Qa,rest⟩
theorem J1 {w w0:World} {B C n:Nat} {E:TypeId} {v:Value} {xs ys:List Value} (h:w.ownsRow B E 1 v n xs) (h0:w0.ownsRow C E 1 v n ys):w.ownsRow C E 1 v n xs:=by
 refine ⟨h.1,?_⟩
 rcases h.2 with hn | ⟨g,cap,cur,rfl,hg,rest⟩
 ·exact .inl hn
 ·rcases h0.2 with ⟨e,_⟩ | ⟨g',cap',cur',e,hg',_⟩
  ·cases e
  ·cases e;exact .inr ⟨g,cap,cur,rfl,hg',rest⟩
theorem G5.to {w:World} {C b B:Nat} {l:List UInt8} (h:G5 w C b l) (h1:B<=b) (h2:B<=C):Kz w B b l:=by
 obtain ⟨p,v,rfl | rfl,hblk,hown,hne⟩:=h
 ·exact .inl ⟨h1,v,hblk,DG hown h2,hne⟩
 ·exact .inr ⟨h1,v,hblk,DG hown h2,hne⟩
theorem G5.fresh (w:World) (C:Nat):G5 (w.alloc (.cells #[.pointer none,.slice none 0 0] 76)) C w.heap.size []:=
 ⟨_,_,.inl rfl,heap_alloc_new w _,World.ownsRow_nil _ _ _ _,by simp [Value.ownBlock]⟩
theorem G5.keep {w w':World} {C b:Nat} {l:List UInt8} (h:G5 w C b l) (hb:Below w.heap.size w w'):G5 w' C b l:=by
 obtain ⟨p,v,hp,hblk,hown,hne⟩:=h
 exact ⟨p,v,hp,by rw [hb.block b (CH hblk)];exact hblk,BC hown hb (Nat.le_refl _),hne⟩
theorem Lx (b:Nat) (l:List UInt8) (w:World) (h:Kz w 0 b l):
  Calls Tryz.prog 91 #[.pointer (some ⟨b,0,none⟩)] w fun e w'=>e= .returned (.tuple #[])/\Lib.BuilderAt 76 5 0 b (.pointer (some ⟨b,0,none⟩)) (Lib.byteCells l) w'/\(w'=w\/w'=w.setCell ⟨b,0,none⟩ (.pointer (some ⟨b,0,none⟩))):=by
 obtain ⟨j,hj,hjs⟩:=Option.map_eq_some_iff.1 Abp
 rcases h with h | h
 ·have c0:=h.cell0;have sh:=h.shape;have fz:=h.frozen0
  have k1:=Lib.run_to_unsafe (P:=Tryz.prog) w ⟨b,0,none⟩ Tryz.underlying74 Tryz.underlying158 hj (by rw [hjs];decide) sh (Nat.zero_lt_succ 1)
  have k2:=fun w=>run_callFunc_extern (P:=Tryz.prog) (w:=w) (args:= #[.pointer (some ⟨b,0,none⟩)]) Tryz.func158 Qb Qb Qb (e:=Extern.AbiNoEscape.same) Qb
  have k3:=Lib.run_from_unsafe (P:=Tryz.prog) w ⟨b,0,none⟩ Tryz.underlying158 Tryz.underlying74 hj sh Aa1;have k4:=Lib.run_noEscape (P:=Tryz.prog) w (.pointer (some ⟨b,0,none⟩));go_enter Tryz.func91,Tryz.ntmps91;go_wp2;go_end0;exact ⟨rfl,h.used _,.inr rfl⟩
 ·have c0:=h.cell0;have k1:=Lib.run_neq_ptr_same (P:=Tryz.prog) w ⟨b,0,none⟩ Tryz.underlying74 hj;go_enter Tryz.func91,Tryz.ntmps91;go_wp2;go_end0;exact ⟨rfl,h,.inl rfl⟩
def JQ (b C:Nat) (k:Nat):Prop:=k=b\/C<=k
theorem Vx (C b:Nat) (l:List UInt8) (s:ByteArray) (w:World) (h:G5 w C b l) (hl:l.length<=1099511627776) (hsz:s.size<=1099511627776) (hC:C<=w.heap.size):
  Calls Tryz.prog 40 #[.pointer (some ⟨b,0,none⟩),.string s] w fun e w'=>e= .returned (.tuple #[.int .i64 s.size,.nilIface])/\G5 w' C b (l++s.toList)/\BY (JQ b C) w w':=by
 obtain ⟨i0,hi,hz0,hz1,hz2⟩:=info_parts Kl;have h0:=h.to (Nat.zero_le _) (Nat.zero_le _);obtain ⟨p0,v0,hp0,hblk0,hown0,hne0⟩:=h;go_enter Tryz.func40,Tryz.ntmps40;go_wp2_with fail;refine (Lx b l _ h0).mono ?_;rintro e w1 ⟨rfl,⟨hBb,v,hblk,hown,hne⟩,hw1⟩
 have hv:v=v0/\BY (JQ b C) w w1/\w.heap.size<=w1.heap.size:=by
  rcases hw1 with rfl | rfl
  ·rw [hblk0] at hblk;simp only [Option.some.injEq,Obj.cells.injEq,Array.mk.injEq,List.cons.injEq,and_true] at hblk;exact ⟨hblk.2.symm,BY.refl _ _,Nat.le_refl _⟩
  ·rw [Ba hblk0] at hblk;simp only [Option.some.injEq,Obj.cells.injEq,and_true] at hblk;have:(#[p0,v0]:Array Value).setIfInBounds 0 (.pointer (some ⟨b,0,none⟩))= #[.pointer (some ⟨b,0,none⟩),v0]:=rfl;rw [this] at hblk;simp only [Array.mk.injEq,List.cons.injEq,and_true,true_and] at hblk;exact ⟨hblk.symm,(BY.refl _ _).set (.inl rfl) _ _,Aky⟩
 obtain ⟨rfl,hch,hs⟩:=hv;have hown:=J1 hown hown0;clear hw1 hown0 hblk0 h0 hp0 hne0;have hlt:=CH hblk;have c1:w1.cell? ⟨b,1,none⟩=some v:=QN;rw [Lib.byteCells_length] at hown
 go_wp2_with (at_builtin;refine Lib.wpList_append_own_string _ rfl _ _ 25 9 rfl C 5 i0 Tryz.underlying25 Tryz.underlying9 hi hz0 hz1 hz2 _ _ _ rfl hown s rfl Qm Qa Qa ?_;intro v' w2 hown' hgrow _;obtain ⟨a2,k2,c2,rfl⟩:=ES hown';have hblk2:=(hgrow.block b hlt (fun e=>hne e.symm)).trans hblk;obtain ⟨d1,f1⟩:=GA hblk2)
 go_wp2_with fail;go_ret2
 have hbel:Below C w1 w2:=(Below.refl C w1).grown hgrow Qa (fun k hk=>(hown.lt k hk).1)
 have hch2:BY (JQ b C) w1 w2:=⟨hbel.os,hbel.tape,hbel.output,hbel.size,fun k hk hn=>hbel.block k (by
  unfold JQ at hn;rw [not_or] at hn;omega)⟩
 refine ⟨rfl,?_,(hch.trans hch2).set (.inl rfl) _ _⟩
 have hout:w2.ownsRow C 5 1 (.slice a2 k2 c2) (Lib.byteCells (l++s.toList)).length (Lib.byteCells (l++s.toList)):=by
  rw [Cv,List.length_append,Lib.byteCells_length,Lib.byteCells_length,<-JX,Aa];exact hown'
 have hput:=Lib.BuilderAt.put (B:=0) (Nat.zero_le b) hblk2 (DG hout (Nat.zero_le _)) Ut;obtain ⟨_,v3,hblk3,hown3,hne3⟩:=hput;have e3:=(Ba (i:=1) (v:= .slice a2 k2 c2) hblk2).symm.trans hblk3;simp only [Option.some.injEq,Obj.cells.injEq,and_true] at e3;have e4:(#[.pointer (some ⟨b,0,none⟩),v]:Array Value).setIfInBounds 1 (.slice a2 k2 c2)= #[.pointer (some ⟨b,0,none⟩),.slice a2 k2 c2]:=rfl;rw [e4] at e3;simp only [Array.mk.injEq,List.cons.injEq,and_true,true_and] at e3;subst e3;exact ⟨_,_,.inr rfl,hblk3,J1 hown3 hout,hne3⟩
theorem Aac (r:Int):(Utf8.encode r).data.toList.length<=4:=by
 unfold Utf8.encode
 generalize (if Utf8.valid r=true then r.toNat else Utf8.runeError)=c
 dsimp only
 repeat' split
 all_goals simp
theorem Uc (c:Nat):(Bv c).length<=4:=by
 unfold Bv
 by_cases h:0x10ffff<c\/(0xd800<=c/\c<=0xdfff)
 ·rw [if_pos h];unfold FM;simp
 ·rw [if_neg h];unfold PW;exact Aac _
theorem ZM (c:Nat):(Fd c).length<=4:=by
 unfold Fd
 repeat' split
 all_goals first | exact Uc _ | (simp;done)
theorem WD (c:Nat):(Fp c).1.length<=4:=by
 unfold Fp;split
 ·exact ZM c
 ·split
  ·simp
  ·split
   ·exact Uc c
   ·simp
theorem Ip:∀ {l:List Nat} {q:List UInt8},CF l=some q->q.length<=4 * l.length
 | [],q,h=>by cases h;exact Nat.le_refl _
 | x :: r,q,h=>by
  unfold CF at h;split at h
  ·cases h
  ·rw [Option.map_eq_some_iff] at h;obtain ⟨q',hq,rfl⟩:=h;have:=Ip hq;have:=WD x;rw [List.length_append,List.length_cons];omega
theorem Es.readC {w:World} {B b:Nat} {v:Value} {l:List Nat} (h:Es w B v l) (hb:b<B):∃ pa c,v= .slice pa l.length c/\∀ w',BY (JQ b w.heap.size) w w'->Wg w' pa l.length c l:=by
 have key:∀ w',BY (JQ b w.heap.size) w w'->Es w' B v l:=by
  intro w' hc;refine ⟨h.1,?_⟩
  rcases h.2 with hn | ⟨g,cap,cur,rfl,hg,hh,rest⟩
  ·exact .inl hn
  ·have hlt:g<w.heap.size:=(Array.getElem?_eq_some_iff.1 hh).1
   exact .inr ⟨g,cap,cur,rfl,hg,by rw [hc.block g hlt (by unfold JQ;omega)];exact hh,rest⟩
 obtain ⟨pa,c,rfl,_⟩:=h.read
 refine ⟨pa,c,rfl,fun w' hc=> ?_⟩
 obtain ⟨pa',c',e,hr⟩:=(key w' hc).read;cases e;exact hr
theorem V5 (s:ByteArray) (w:World) (h:ML w) (hs:s.size<4294967281):
  Calls Tryz.prog 339 #[.string s,.string ⟨#[46]⟩] w fun e w'=>∃ l:List ByteArray,e= .returned (.slice (some ⟨w.heap.size,0,none⟩) l.length l.length)/\Hid (l.map (·.toList)=Ay 46 s.toList)/\w'=w.alloc (.cells (l.map Value.string).toArray 9):=by
 obtain ⟨m,hm⟩:=h;refine (Tryz.strings_Split s ⟨#[46]⟩ m w hs hm (Nat.le_refl _)).mono ?_;rintro e w' ⟨rfl,rfl⟩;have hl:(Lib.splitB ⟨#[46]⟩ 0 (Lib.countB s ⟨#[46]⟩) s).length=Lib.countB s ⟨#[46]⟩+1:=Lib.splitB_all _ (Nat.le_refl _) 0 _ _ rfl
 refine ⟨Lib.splitB ⟨#[46]⟩ 0 (Lib.countB s ⟨#[46]⟩) s,by rw [hl],H0 ?_,rfl⟩
 have h1:=Lib.splitB_data ⟨#[46]⟩ 0 (Lib.countB s ⟨#[46]⟩) s
 have e1:(fun t:ByteArray=>t.toList)=(fun t=>t.data.toList):=funext fun t=>ByteArray.toList_eq ..
 rw [e1,h1,ByteArray.toList_eq,<-X5];rfl
theorem AgZ (q r:List (List UInt8)) (x y:List UInt8):(q++x :: r).set q.length y=(q++[y])++r:=by
 rw [List.set_append_right _ _ (Nat.le_refl _),Nat.sub_self,List.set_cons_zero,List.append_assoc];rfl
theorem MX (l:List ByteArray) (i:Nat) (h:i<l.length):(l.map Value.string).toArray[i]? =some (.string l[i]):=by simp [h]
theorem Aah (l:List ByteArray) (i:Nat) (t:ByteArray):(l.map Value.string).toArray.setIfInBounds i (.string t)=((l.set i t).map Value.string).toArray:=by
 rw [List.setIfInBounds_toArray,List.map_set]
theorem Agt {ls:List (List UInt8)} {x:List UInt8} (h:x∈ls):x.length<=KI ls:=by
 induction ls with
 | nil=>cases h
 | cons a r ih=>
  unfold KI at ih⊢;rw [List.map_cons,List.sum_cons]
  rcases List.mem_cons.1 h with rfl | h
  ·omega
  ·have:=ih h;omega
theorem Z6 (s:ByteArray) (w:World) (hz:s.size<=8000000) (hE:Gu w):Calls Tryz.prog 327 #[.string s] w (W1 (CG s.toList) w):=by
 obtain ⟨R,hR⟩:=N2 (CG s.toList);rw [hR];have hv:=hR.symm;unfold CG at hv;replace hR:=H0 hR
 have hsg:=H0 (fun w hu=>Tg s w Qa hu)
 have hsle:=H0 (Abb s.toList);have hlen:=Mo s.toList;rw [Aa] at hlen;obtain ⟨m,hm⟩:=N2 (KA s.toList);rw [hm] at hv hsg hsle hlen;replace hm:=H0 hm;replace hv:=H0 hv;have hE':=H0 hE;clear hE;go_enter Tryz.func327,Tryz.ntmps327;go_wp2_with fail;have hb0:Below w.heap.size w (w.alloc (.cells #[.pointer none,.slice none 0 0] 76)):=(Below.refl _ _).alloc (Nat.le_refl _) _
 refine (hsg.out _ (hE'.out.next hb0).utf).mono ?_
 rintro e w1 ⟨v,rfl,ho,hb1⟩;have hbd0:G5 w1 w1.heap.size w.heap.size []:=(G5.fresh w w1.heap.size).keep hb1;obtain ⟨pa,c,rfl,hrow⟩:=ho.readC (b:=w.heap.size) Qf;have hbw1:Below w.heap.size w w1:=hb0.trans (hb1.mono Qf);obtain ⟨n,hn⟩:=N2 (m.length);rw [hn] at hrow hlen⊢;replace hrow:=H0 hrow;replace hn:=H0 hn;clear ho hb1 hb0;have hs1:=hbw1.size;obtain ⟨C,hC⟩:=N2 (w1.heap.size);rw [hC] at hrow hbd0 hs1;replace hC:=H0 hC;go_wp2_with fail
 go_loopw [17] (fun v17 wr=>∃ (k:Nat) (q:List UInt8),v17= .int .i64 (k:Int)/\k<=n/\Hid (CF (m.take k)=some q)/\G5 wr C w.heap.size q/\BY (JQ w.heap.size C) w1 wr) (fun v17 _=>n - (intOf v17).toNat)
 case atStart=>exact ⟨0,[],rfl,Nat.zero_le _,H0 rfl,hbd0,BY.refl _ _⟩
 case round=>
  clear hbd0;obtain ⟨k,q,rfl,hk,hq,hbld,hch⟩:=hrel;have hszc:=hch.size;have hql:=Ip hq.out;rw [List.length_take] at hql
  have hbel:Below w.heap.size w wr:=hbw1.trans (hch.below (by rw [hC.out];exact hs1) (fun k hk=>by unfold JQ at hk;omega))
  by_cases hlt:k<n
  ·have hI:(k:Int)<(n:Int):=Qa;obtain ⟨g,o,rfl,hc⟩:=(hrow.out wr hch).cells Qa
   have hkl:k<m.length:=by rw [hn.out];exact hlt
   have ck:=hc k hkl;unfold Gg at ck;have hsn:=ND (m.take k) m[k];rw [<-List.take_succ_eq_append_getElem hkl,hq.out] at hsn;dsimp only at hsn;have hx11:=hsle.out _ (List.getElem_mem hkl)
   have hnone:Hid (CF (m.take (k+1))=none->CF m=none):=H0 (fun e=>by
    have:=Xe (b:=m.drop (k+1)) e
    rwa [List.take_append_drop] at this)
   obtain ⟨x,hx⟩:=N2 (m[k]);rw [hx] at ck hsn hx11;replace hx:=H0 hx;replace hc:=H0 hc
   have hmp:=H0 (fun w=>Abf x w hx11)
   have hm4:=WD x;obtain ⟨mm,hmm⟩:=N2 (Fp x);rw [hmm] at hmp hsn hm4;replace hmm:=H0 hmm;obtain ⟨ml,mn⟩:=mm;dsimp only at hsn hm4
   by_cases h0:mn=0
   ·rw [if_pos h0] at hsn
    have hf:Hid (R=none):=H0 (by rw [hv.out,hnone.out hsn])
    subst h0;replace hsn:=H0 hsn;go_wp2_with fail;refine (hmp.out _).mono ?_;rintro e w2 ⟨t,rfl,ht,hb2⟩;go_wp2_with fail;go_ret2;exact FE hf.out (hbel.trans (hb2.mono hbel.size))
   ·have hmn:((mn:Int)==0)=false:=Qg;rw [if_neg h0] at hsn;replace hsn:=H0 hsn;replace h0:=H0 h0;go_wp2_with fail;refine (hmp.out _).mono ?_;rintro e w2 ⟨t,rfl,ht,hb2⟩
    have htz:t.size<=4:=by rw [<-Aa,ht.out];exact hm4
    have hbl2:=hbld.keep hb2;have hs2:=hb2.size
    have hC2:C<=w2.heap.size:=by have:=hC.out;omega
    have hw:=H0 (Vx C w.heap.size q t w2 hbl2 Qa Qa hC2);go_wp2_with fail;refine hw.out.mono ?_;rintro e w3 ⟨rfl,hbl3,hch3⟩;have hch4:=(hch.trans (BY.of hb2)).trans hch3
    have hsn2:Hid (CF (m.take (k+1))=some (q++t.toList)):=H0 (by rw [hsn.out,ht.out])
    go_wp2_with fail;go_roundw
    case rel=>exact ⟨k+1,q++t.toList,Ql,Qa,hsn2,hbl3,hch4⟩
    case measure=>simp [intOf];omega
  ·have hI:(n:Int)<=(k:Int):=Qa
   have htk:m.take k=m:=List.take_of_length_le (by rw [hn.out];omega)
   rw [htk] at hq
   have hv2:Hid (R=(AY (Ay 46 q)).map E3):=H0 (by rw [hv.out,hq.out])
   have hbs:=H0 (Bq w.heap.size w.heap.size q wr (hbld.to (Nat.le_refl _) hs1) hbel.size);clear hrow hbld hch hszc;have hspl:=Jw q;obtain ⟨ls,hls⟩:=N2 (Ay 46 q);rw [hls] at hv2 hspl;replace hls:=H0 hls;have hq96:q.length<=96000000:=Qa;replace hql:=H0 hql;go_wp2_with fail;refine hbs.out.mono ?_;rintro e w2 ⟨told,rfl,htl,hb2⟩;have hbel2:=hbel.trans hb2
   have htz:told.size<=96000000:=by rw [<-Aa,htl.out];exact hq96
   have hsr:=H0 (V5 told w2 (hE'.out.next hbel2).ml Qa)
   go_wp2_with fail;refine hsr.out.mono ?_;rintro e w3 ⟨l,rfl,hl,rfl⟩
   have hl2:l.map (·.toList)=ls:=by rw [hl.out,htl.out];exact hls.out
   have hn2:ls.length=l.length:=by rw [<-hl2,List.length_map]
   obtain ⟨n2,hn2e⟩:=N2 (l.length);rw [hn2e] at hn2;rw [hn2e];have hn2z:n2<=96000001:=Qa;have hG0:=hbel2.size;have hhp:Hid ((w2.alloc (.cells (l.map Value.string).toArray 9)).heap[w2.heap.size]? =some (.cells (l.map Value.string).toArray 9 (0,0))):=H0 (heap_alloc_new w2 _);have hbel3:Below w.heap.size w (w2.alloc (.cells (l.map Value.string).toArray 9)):=hbel2.alloc hG0 _;obtain ⟨G,hG⟩:=N2 (w2.heap.size);rw [hG] at hhp hG0⊢;replace hG:=H0 hG;generalize (w2.alloc (.cells (l.map Value.string).toArray 9))=w3 at hhp hbel3⊢;replace hl2:=H0 hl2;replace hn2:=H0 hn2;replace hspl:=H0 hspl;clear hbs hsr hb2 hl;go_wp2_with fail
   go_loopw [35] (fun v35 wr=>∃ (k:Nat) (cur:List ByteArray) (q2:List (List UInt8)),v35= .int .i64 (k:Int)/\k<=n2/\cur.length=n2/\Hid (AY (ls.take k)=some q2)/\Hid (cur.map (·.toList)=q2++ls.drop k)/\Hid (wr.heap[G]? =some (.cells (cur.map Value.string).toArray 9 (0,0)))/\Below w.heap.size w wr) (fun v35 _=>n2 - (intOf v35).toNat)
   case atStart=>exact ⟨0,l,[],rfl,Nat.zero_le _,hn2e,H0 rfl,H0 (by rw [hl2.out];rfl),hhp,hbel3⟩
   case round=>
    clear hhp hbel3 hn2e;obtain ⟨k,cur,q2,rfl,hk,hcl,hq2,hcur,hhp,hbel3⟩:=hrel;have hszr:=hbel3.size
    by_cases hlt2:k<n2
    ·have hI2:(k:Int)<(n2:Int):=Qa;have hkl2:k<cur.length:=Qa
     have hkls:k<ls.length:=by rw [hn2.out];exact hlt2
     have hq2l:q2.length=k:=by
      have:=(Iv hq2.out).1;rw [List.length_take] at this;omega
     have hdr:ls.drop k=ls[k] :: ls.drop (k+1):=List.drop_eq_getElem_cons hkls
     have hck:cur[k].toList=ls[k]:=by
      have h1:(cur.map (·.toList))[k]? =some cur[k].toList:=by rw [List.getElem?_map,List.getElem?_eq_getElem hkl2];rfl
      rw [hcur.out,List.getElem?_append_right Qa,hq2l,Nat.sub_self,hdr] at h1;rw [List.getElem?_cons_zero] at h1;exact (Option.some.inj h1).symm
     have cc:wr.cell? ⟨G,k,none⟩=some (.string cur[k]):=by rw [cell_of_row _ _ k _ _ _ hhp.out];exact MX cur k hkl2
     have hsz1:cur[k].size<=96000000:=by
      rw [<-Aa,hck];have:=Agt (List.getElem_mem hkls);have:=hspl.out.1;omega
     have hws:=KW (ls.take k) ls[k];rw [<-List.take_succ_eq_append_getElem hkls,hq2.out] at hws;dsimp only at hws
     have hnone:Hid (AY (ls.take (k+1))=none->AY ls=none):=H0 (fun e=>by
      have:=SI (b:=ls.drop (k+1)) e
      rwa [List.take_append_drop] at this)
     obtain ⟨t,ht⟩:=N2 (cur[k]);rw [ht] at hck cc hsz1;replace ht:=H0 ht;rw [<-hck] at hws;rw [<-hck] at hdr;replace hck:=H0 hck
     have hwr:=H0 (WE t wr Qa (hE'.out.next hbel3).utf)
     have hGlt:G<wr.heap.size:=CH hhp.out
     cases hwo:AU t.toList with
     | none=>
      rw [hwo] at hwr hws
      have hf:Hid (R=none):=H0 (by rw [hv2.out,hnone.out hws];rfl)
      replace hws:=H0 hws;replace hwo:=H0 hwo;replace hdr:=H0 hdr;replace hq2l:=H0 hq2l;go_wp2_with fail;refine hwr.out.mono ?_;rintro e w5 ⟨t2,rfl,ht2,hb5⟩;go_wp2_with fail;go_ret2;exact FE hf.out (hbel3.trans (hb5.mono hszr))
     | some x=>
      rw [hwo] at hwr hws;replace hwo:=H0 hwo;replace hws:Hid (AY (ls.take (k+1))=some (q2++[x])):=H0 hws;go_wp2_with fail;refine hwr.out.mono ?_;rintro e w5 ⟨t2,rfl,ht2,hb5⟩
      have hhp5:Hid (w5.heap[G]? =some (.cells (cur.map Value.string).toArray 9 (0,0))):=H0 (by rw [hb5.block G hGlt];exact hhp.out)
      have cc5:w5.cell? ⟨G,k,none⟩=some (.string t):=by rw [cell_of_row _ _ k _ _ _ hhp5.out];rw [<-ht.out];exact MX cur k hkl2
      have fr5:w5.frozen? ⟨G,k,none⟩=false:=Lib.frozen_of_heap hhp5.out k
      have hnew:Hid ((cur.set k t2).map (·.toList)=(q2++[x])++ls.drop (k+1)):=H0 (by
       rw [List.map_set,hcur.out,hdr,<-hq2l,AgZ,ht2.out x rfl])
      have hhp6:Hid ((w5.setCell ⟨G,k,none⟩ (.string t2)).heap[G]? =some (.cells ((cur.set k t2).map Value.string).toArray 9 (0,0))):=H0 (by rw [Ba hhp5.out,Aah])
      have hbel6:Below w.heap.size w (w5.setCell ⟨G,k,none⟩ (.string t2)):=(hbel3.trans (hb5.mono hszr)).setCell (p:=⟨G,k,none⟩) hG0 _;replace hdr:=H0 hdr;replace hq2l:=H0 hq2l;go_wp2_with fail;go_roundw
      case rel=>exact ⟨k+1,cur.set k t2,q2++[x],Ql,Qa,by rw [List.length_set];exact hcl,hws,hnew,hhp6,hbel6⟩
      case measure=>simp [intOf];omega
    ·have hI2:(n2:Int)<=(k:Int):=Qa;have hkn:k=n2:=Qa
     have htk2:ls.take k=ls:=List.take_of_length_le (by rw [hn2.out];omega)
     have hdk:ls.drop k=[]:=List.drop_of_length_le (by rw [hn2.out];omega)
     have hq3:=hq2.out;rw [htk2] at hq3;have hc3:=hcur.out;rw [hdk,List.append_nil] at hc3
     have hf:Hid (R=some (E3 q2)):=H0 (by rw [hv2.out,hq3];rfl)
     have hlen2:=Iv hq3;have hjl:=Kk q2;have hsp:=hspl.out;rw [hn2.out] at hlen2;have hjb:(E3 q2).length<=140737488355328:=Qa
     have hdat:cur.map (·.data.toList)=q2:=by
      rw [<-hc3]
      exact List.map_congr_left fun t _=>(ByteArray.toList_eq ..).symm
     have hjn:=Tryz.strings_Join G 0 n2 cur ⟨#[46]⟩ wr (fun j x hx=>by
      rw [Nat.zero_add,cell_of_row _ _ j _ _ _ hhp.out];rw [List.getElem?_eq_some_iff] at hx;obtain ⟨h1,rfl⟩:=hx
      exact MX cur j h1) (CH hhp.out) Qa Qa (by rw [hdat,show (ByteArray.mk #[46]).data.toList=[46] from rfl,ZE];exact hjb)
     rw [hdat,show (ByteArray.mk #[46]).data.toList=[46] from rfl,ZE,hcl] at hjn;replace hjn:=H0 hjn;replace hjl:=H0 hjl;replace hlen2:=H0 hlen2;replace hdat:=H0 hdat;replace hc3:=H0 hc3;replace hq3:=H0 hq3;replace hsp:=H0 hsp;replace hkn:=H0 hkn;replace htk2:=H0 htk2;replace hdk:=H0 hdk;go_wp2_with fail;refine hjn.out.mono ?_;rintro e w6 ⟨rfl,hb6⟩;go_wp2_with fail;go_ret2;exact S7 hf.out (toList_mk _) (hbel3.trans (hb6.mono hszr))
def AaO (e:Ending):Prop:=∃ pv,e= .panicked [{ v:= .iface 263 pv,recovered:=false }]
def AbG (k:IntKind) (w:World) (o:Option Nat) (e:Ending) (w':World):Prop:=(match o with | some v=>e= .returned (.int k (v:Int)) | none=>AaO e)/\w=w'
theorem EN {k:IntKind} {w:World} {o:Option Nat} {pv:Value} (h:o=none):AbG k w o (.panicked [{ v:= .iface 263 pv,recovered:=false }]) w:=by subst h;exact ⟨⟨pv,rfl⟩,rfl⟩
theorem TF {k:IntKind} {w:World} {o:Option Nat} {v:Nat} {n:Int} (h:o=some v) (hn:n=(v:Int)):AbG k w o (.returned (.int k n)) w:=by subst h;subst hn;exact ⟨rfl,rfl⟩
theorem AdQ (s:ByteArray) (w:World) (hs:s.size<=1099511627776):
  Calls Tryz.prog 346 #[.string s] w (AbG .u16 w (Ep s.toList)):=by
 have hlen:=Aa s;cases hem:s.toList.isEmpty
 ·have hd1:=H0 (GT (base:=16) hem)
  by_cases h4:4<s.size
  ·have hno:Hid (Ep s.toList=none):=H0 (if_pos Qa);have h4I:(4:Int)<(s.size:Int):=Qa;replace hlen:=H0 hlen;go_enter Tryz.func346,Tryz.ntmps346;go_wp2_with fail;exact ⟨rfl,EN hno.out⟩
  ·have h4I:(s.size:Int)<=4:=Qa
   have hV:Hid (Ep s.toList=AC 16 0 s.toList):=H0 (by unfold Ep;rw [if_neg Qa,hd1.out])
   replace hlen:=H0 hlen;go_enter Tryz.func346,Tryz.ntmps346;go_wp2_with fail
   go_loop [3,17] (fun nv iv=>∃ k acc:Nat,iv= .int .i64 k/\nv= .int .i64 acc/\k<=s.size/\acc<=65535/\Hid (acc<16 ^ k)/\Hid (AC 16 acc (s.toList.drop k)=AC 16 0 s.toList)) (fun _ i=>s.size - (intOf i).toNat)
   case atStart=>exact ⟨0,0,rfl,rfl,Nat.zero_le _,Nat.zero_le _,H0 Qc,H0 QP⟩
   case round=>
    obtain ⟨k,acc,rfl,rfl,hk,hacc,hpw,hg⟩:=hrel
    by_cases hlt:k<s.size
    ·have hdr:=As s k hlt;have hltI:(k:Int)<(s.size:Int):=Qa;rw [hdr] at hg;clear hdr
     by_cases hd:Ag (s[k].toNat:Int) 16<0
     ·have hno:Hid (Ep s.toList=none):=H0 (by rw [hV.out,<-hg.out,AC,if_pos (show Ag (s[k].toNat:Int) ((16:Nat):Int)<0 from hd)])
      go_wp2_with (go_at_call 155;refine (A8 _ _ _ (AN _) (AX _)).mono ?_;rintro e w' ⟨rfl,rfl⟩);exact ⟨rfl,EN hno.out⟩
     ·have hnew:Hid (AC 16 (acc * 16+(Ag (s[k].toNat:Int) ((16:Nat):Int)).toNat) (s.toList.drop (k+1))=AC 16 0 s.toList):=H0 (by rw [<-hg.out,AC,if_neg (show ¬ Ag (s[k].toNat:Int) ((16:Nat):Int)<0 from hd)])
      obtain ⟨d,hdd⟩:∃ d:Nat,Ag (s[k].toNat:Int) 16=(d:Int):=⟨(Ag (s[k].toNat:Int) 16).toNat,Qa⟩
      have hd15:d<=15:=by
       have:Ag (s[k].toNat:Int) 16<=15:=by unfold Ag;omega
       omega
      have hdig:=fun w=>A8 (s[k].toNat:Int) 16 w (AN _) (AX _)
      rw [hdd] at hdig hd;rw [show Ag (s[k].toNat:Int) ((16:Nat):Int)=(d:Int) from hdd,Int.toNat_natCast] at hnew;replace hdig:=H0 hdig;replace hdd:=H0 hdd
      have hpw2:Hid (acc * 16+d<16 ^ (k+1)):=H0 (by have:=hpw.out;rw [Nat.pow_succ];omega)
      have hle:acc * 16+d<=65535:=by
       have h1:=hpw2.out;have h2:16 ^ (k+1)<=16 ^ 4:=Nat.pow_le_pow_right Qc Qa;omega
      have e6:IntKind.i64.wrap ((acc:Int) * 16)=(acc:Int) * 16:=IntWalk.i64_in _ Qa;have e7:IntKind.i64.wrap ((acc:Int) * 16+(d:Int))=(acc:Int) * 16+(d:Int):=IntWalk.i64_in _ Qa;go_wp2_with (go_at_call 155;refine (hdig.out _).mono ?_;rintro e w' ⟨rfl,rfl⟩);go_round
      case rel=>exact ⟨k+1,acc * 16+d,Ql,Ql,Qa,hle,hpw2,hnew⟩
      case measure=>simp [intOf];omega
    ·have hfin:Hid (Ep s.toList=some acc):=H0 (by rw [hV.out,<-hg.out,AL s k Qa];rfl)
     have hgeI:(s.size:Int)<=(k:Int):=Qa
     have hu:IntKind.u16.wrap (acc:Int)=(acc:Int):=by simp [IntKind.wrap,IntKind.bits,IntKind.signed];omega
     clear hg;go_wp2_with fail;go_ret;exact TF hfin.out rfl
 ·have hno:Hid (Ep s.toList=none):=H0 (by
   have:s.toList=[]:=AkA
   rw [this];rfl)
  replace hlen:=H0 hlen;go_enter Tryz.func346,Tryz.ntmps346;go_wp2_with fail;exact ⟨rfl,EN hno.out⟩
theorem WS (s:ByteArray) (w:World) (hs:s.size<=1099511627776):
  Calls Tryz.prog 356 #[.string s] w (AbG .i64 w (Ct s.toList)):=by
 have hlen:=Aa s
 match hL:s.toList with
 | []=>
  have hem:s.toList.isEmpty=true:=by rw [hL];rfl
  have hno:Hid (Ct []=none):=H0 rfl;replace hlen:=H0 hlen;replace hL:=H0 hL;go_enter Tryz.func356,Tryz.ntmps356;go_wp2_with fail;exact ⟨rfl,EN hno.out⟩
 | c :: r=>
  have hem:s.toList.isEmpty=false:=by rw [hL];rfl
  have hp:0<s.size:=by rw [<-hlen,hL];simp
  have hpI:(0:Int)<(s.size:Int):=Qa
  have hc:s[0]=c:=by
   have:=As s 0 hp;rw [List.drop_zero,hL] at this;exact (List.cons.inj this).1.symm
  rw [<-hL]
  by_cases h3:3<s.size
  ·have hno:Hid (Ct s.toList=none):=H0 (if_pos (.inl Qa));have h3I:(3:Int)<(s.size:Int):=Qa;replace hlen:=H0 hlen;replace hL:=H0 hL;go_enter Tryz.func356,Tryz.ntmps356;go_wp2_with fail;exact ⟨rfl,EN hno.out⟩
  have h3I:(s.size:Int)<=3:=Qa
  by_cases h0:1<s.size/\c=48
  ·have hno:Hid (Ct s.toList=none):=H0 (if_pos (.inr ⟨Qa,by rw [hL,h0.2];rfl⟩))
   have h1I:(1:Int)<(s.size:Int):=Qa
   have hcI:((c.toNat:Int)==48)=true:=by rw [h0.2];rfl
   replace hlen:=H0 hlen;replace hL:=H0 hL;clear h0;go_enter Tryz.func356,Tryz.ntmps356;go_wp2_with fail;exact ⟨rfl,EN hno.out⟩
  have hd1:=GT (base:=10) hem
  have hV:Hid (Ct s.toList=match AC 10 0 s.toList with | none=>none | some n=>if 255<n then none else some n):=H0 (by
   unfold Ct
   rw [if_neg (by
    rintro (h | ⟨h1,h2⟩)
    ·omega
    ·rw [hL] at h2;exact h0 ⟨Qa,Option.some.inj h2⟩),hd1]
   rfl)
  have hway:(s.size:Int)<=1\/((1:Int)<(s.size:Int)/\((c.toNat:Int)==48)=false):=by
   by_cases h1:1<s.size
   ·refine .inr ⟨Qa,?_⟩;simp only [beq_eq_false_iff_ne,ne_eq]
    intro h;exact h0 ⟨h1,UInt8.toNat_inj.1 (by show c.toNat=48;omega)⟩
   ·exact .inl Qa
  replace hlen:=H0 hlen;replace hL:=H0 hL;replace hd1:=H0 hd1;clear h0
  rcases hway with g1 | ⟨g1,g2⟩
  all_goals
   go_enter Tryz.func356,Tryz.ntmps356;go_wp2_with fail
   go_loop [3,27] (fun nv iv=>∃ k acc:Nat,iv= .int .i64 k/\nv= .int .i64 acc/\k<=s.size/\acc<=999/\Hid (acc<10 ^ k)/\Hid (AC 10 acc (s.toList.drop k)=AC 10 0 s.toList)) (fun _ i=>s.size - (intOf i).toNat)
   case atStart=>exact ⟨0,0,rfl,rfl,Nat.zero_le _,Nat.zero_le _,H0 Qc,H0 QP⟩
   case round=>
    obtain ⟨k,acc,rfl,rfl,hk,hacc,hpw,hg⟩:=hrel
    by_cases hlt:k<s.size
    ·have hdr:=As s k hlt;have hltI:(k:Int)<(s.size:Int):=Qa;rw [hdr] at hg;clear hdr
     by_cases hd:Ag (s[k].toNat:Int) 10<0
     ·have hno:Hid (Ct s.toList=none):=H0 (by rw [hV.out,<-hg.out,AC,if_pos (show Ag (s[k].toNat:Int) ((10:Nat):Int)<0 from hd)])
      go_wp2_with (go_at_call 155;refine (A8 _ _ _ (AN _) (AX _)).mono ?_;rintro e w' ⟨rfl,rfl⟩);exact ⟨rfl,EN hno.out⟩
     ·have hnew:Hid (AC 10 (acc * 10+(Ag (s[k].toNat:Int) ((10:Nat):Int)).toNat) (s.toList.drop (k+1))=AC 10 0 s.toList):=H0 (by rw [<-hg.out,AC,if_neg (show ¬ Ag (s[k].toNat:Int) ((10:Nat):Int)<0 from hd)])
      obtain ⟨d,hdd⟩:∃ d:Nat,Ag (s[k].toNat:Int) 10=(d:Int):=⟨(Ag (s[k].toNat:Int) 10).toNat,Qa⟩
      have hd15:d<=9:=by
       have:Ag (s[k].toNat:Int) 10<=9:=by unfold Ag;omega
       omega
      have hdig:=fun w=>A8 (s[k].toNat:Int) 10 w (AN _) (AX _)
      rw [hdd] at hdig hd;rw [show Ag (s[k].toNat:Int) ((10:Nat):Int)=(d:Int) from hdd,Int.toNat_natCast] at hnew;replace hdig:=H0 hdig;replace hdd:=H0 hdd
      have hpw2:Hid (acc * 10+d<10 ^ (k+1)):=H0 (by have:=hpw.out;rw [Nat.pow_succ];omega)
      have hle:acc * 10+d<=999:=by
       have h1:=hpw2.out;have h2:10 ^ (k+1)<=10 ^ 3:=Nat.pow_le_pow_right Qc Qa;omega
      have e6:IntKind.i64.wrap ((acc:Int) * 10)=(acc:Int) * 10:=IntWalk.i64_in _ Qa;have e7:IntKind.i64.wrap ((acc:Int) * 10+(d:Int))=(acc:Int) * 10+(d:Int):=IntWalk.i64_in _ Qa;go_wp2_with (go_at_call 155;refine (hdig.out _).mono ?_;rintro e w' ⟨rfl,rfl⟩);go_round
      case rel=>exact ⟨k+1,acc * 10+d,Ql,Ql,Qa,hle,hpw2,hnew⟩
      case measure=>simp [intOf];omega
    ·have hgeI:(s.size:Int)<=(k:Int):=Qa
     have hfin:Hid (Ct s.toList=if 255<acc then none else some acc):=H0 (by rw [hV.out,<-hg.out,AL s k Qa];rfl)
     clear hg
     by_cases h255:255<acc
     ·have hno:Hid (Ct s.toList=none):=H0 (by rw [hfin.out,if_pos h255])
      have h255I:(255:Int)<(acc:Int):=Qa;go_wp2_with fail;exact ⟨rfl,EN hno.out⟩
     ·have hyes:Hid (Ct s.toList=some acc):=H0 (by rw [hfin.out,if_neg h255])
      have h255I:(acc:Int)<=255:=Qa;go_wp2_with fail;go_ret;exact TF hyes.out rfl
theorem PF {l:List UInt8} {n:Nat} (h:Ct l=some n):n<=255:=by
 unfold Ct at h;split at h
 ·cases h
 ·split at h
  ·cases h
  ·split at h
   ·cases h
   ·have:=Option.some.inj h;omega
theorem V8 (x:Nat) (h:x<4294967296):bits .and .i64 (x:Int) 65535=((x % 65536:Nat):Int):=by
 have:=bits_mask .i64 32 Qc (fun n h0 h1=>IntWalk.i64_in _ Qa) 16 Qc (x:Int) Qa Qa
 rw [show ((2:Int) ^ 16 - 1)=65535 by decide] at this
 rw [this];omega
def NW (w:World) (o:Option Nat) (e:Ending) (w':World):Prop:=
 (match o with | some v=>e= .returned (.tuple #[.int .u16 ((v / 65536:Nat):Int),.int .u16 ((v % 65536:Nat):Int)]) | none=>AaO e)/\Below w.heap.size w w'
theorem AfE (s:ByteArray) (w:World) (hm:ML w) (hs:s.size<=1100000):
  Calls Tryz.prog 345 #[.string s] w (NW w (GE s.toList)):=by
 go_enter Tryz.func345,Tryz.ntmps345;go_wp2_with fail
 go_loopw [0,4,9] (fun sv nv iv wr=>∃ (i acc:Nat) (t:ByteArray),iv= .int .i64 i/\nv= .int .i64 acc/\sv= .string t/\i<=4/\t.size<=s.size/\acc<=4294967295/\Hid (acc<256 ^ i)/\
  Hid (if i=4 then GE s.toList=some acc else GE s.toList=Fj (3 - i) acc t.toList)/\Below w.heap.size w wr) (fun _ _ iv _=>4 - (intOf iv).toNat)
 case atStart=>exact ⟨0,0,s,rfl,rfl,rfl,Qc,Nat.le_refl _,Qc,H0 Qc,H0 rfl,Below.refl _ _⟩
 case round=>
  obtain ⟨i,acc,t,rfl,rfl,rfl,hi,htz,hacc,hpw,hg,hB⟩:=hrel
  by_cases h4:i<4
  ·have h4I:(i:Int)<4:=Qa
   have hg2:Hid (GE s.toList=Fj (3 - i) acc t.toList):=H0 (by have:=hg.out;rw [if_neg Qa] at this;exact this)
   clear hg
   have hct:=H0 (fun w hm=>FF t 46 w hm Qa)
   have hl:=Cr 46 t.toList;rw [Aa] at hl;go_wp2_with fail
   refine (hct.out _ (hm.next hB)).mono ?_
   rintro e w2 ⟨ta,tb,nd,rfl,h1,h2,rfl⟩;have hB2:=below_drewN hB nd;have haz:ta.size<=s.size:=Akr
   have hbz:tb.size<=s.size:=by rw [<-Aa,h2.out];omega
   have hcase:((i<3/\3 - i=(2 - i)+1)/\(Ak 46 t.toList).2.2=true)\/(i=3/\(Ak 46 t.toList).2.2=false)\/(i<3/\(Ak 46 t.toList).2.2=false)\/(i=3/\(Ak 46 t.toList).2.2=true):=by
    cases (Ak 46 t.toList).2.2<;>simp<;>omega
   have hdec:=H0 (fun w=>WS ta w Qa)
   rw [h1.out] at hdec;generalize hmo:(Ak 46 t.toList).2.2=mo at hcase⊢;replace hmo:=H0 hmo
   rcases hcase with ⟨⟨g1,g2⟩,rfl⟩ | ⟨rfl,rfl⟩ | ⟨g1,rfl⟩ | ⟨rfl,rfl⟩
   ·have g1I:(i:Int)<3:=Qa;rw [g2] at hg2
    cases hv:Ct (Ak 46 t.toList).1 with
    | none=>
     have hno:Hid (GE s.toList=none):=H0 (by rw [hg2.out,Fj,if_pos hmo.out,hv])
     rw [hv] at hdec;replace hv:=H0 hv;go_wp2_with fail;refine (hdec.out _).mono ?_;rintro e w3 ⟨⟨pv,rfl⟩,rfl⟩;refine ⟨rfl,?_⟩;unfold NW;rw [hno.out];exact ⟨⟨pv,rfl⟩,hB2⟩
    | some v=>
     have hv255:=PF hv
     have hacc2:acc * 256+v<256 ^ (i+1):=by have:=hpw.out;rw [Nat.pow_succ];omega
     have hpw4:256 ^ (i+1)<=256 ^ 4:=Nat.pow_le_pow_right Qc Qa;have hle:acc * 256+v<=4294967295:=Qa
     have hnew:Hid (GE s.toList=Fj (3 - (i+1)) (acc * 256+v) tb.toList):=H0 (by
      rw [hg2.out,Fj,if_pos hmo.out,hv,h2.out,show 3 - (i+1)=2 - i by omega])
     rw [hv] at hdec;replace hv:=H0 hv;replace hacc2:=H0 hacc2;clear hpw4;go_wp2_with fail;refine (hdec.out _).mono ?_;rintro e w3 ⟨rfl,rfl⟩;go_wp2_with fail;go_roundw
     case rel=>exact ⟨i+1,acc * 256+v,tb,Ql,Ql,rfl,Qa,hbz,hle,hacc2,H0 (by rw [if_neg Qa];exact hnew.out),hB2⟩
     case measure=>simp [intOf];omega
   ·rw [show 3 - 3=0 from rfl] at hg2
    cases hv:Ct (Ak 46 t.toList).1 with
    | none=>
     have hno:Hid (GE s.toList=none):=H0 (by rw [hg2.out,Fj,if_neg (by rw [hmo.out];decide),hv];rfl)
     rw [hv] at hdec;replace hv:=H0 hv;go_wp2_with fail;refine (hdec.out _).mono ?_;rintro e w3 ⟨⟨pv,rfl⟩,rfl⟩;refine ⟨rfl,?_⟩;unfold NW;rw [hno.out];exact ⟨⟨pv,rfl⟩,hB2⟩
    | some v=>
     have hv255:=PF hv
     have hacc2:acc * 256+v<256 ^ (3+1):=by have:=hpw.out;rw [Nat.pow_succ];omega
     have hle:acc * 256+v<=4294967295:=Qa
     have hnew:Hid (GE s.toList=some (acc * 256+v)):=H0 (by
      rw [hg2.out,Fj,if_neg (by rw [hmo.out];decide),hv];rfl)
     rw [hv] at hdec;replace hv:=H0 hv;replace hacc2:=H0 hacc2;go_wp2_with fail;refine (hdec.out _).mono ?_;rintro e w3 ⟨rfl,rfl⟩;go_wp2_with fail;go_roundw
     case rel=>exact ⟨4,acc * 256+v,tb,Ql,Ql,rfl,Qa,hbz,hle,hacc2,H0 (by rw [if_pos rfl];exact hnew.out),hB2⟩
     case measure=>simp [intOf]
   ·have g1I:(i:Int)<3:=Qa
    have hno:Hid (GE s.toList=none):=H0 (by rw [hg2.out,show 3 - i=(2 - i)+1 by omega,Fj,if_neg (by rw [hmo.out];decide)])
    go_wp2_with fail;refine ⟨rfl,?_⟩;unfold NW;rw [hno.out];exact ⟨⟨_,rfl⟩,hB2⟩
   ·have hno:Hid (GE s.toList=none):=H0 (by rw [hg2.out,show 3 - 3=0 from rfl,Fj,if_pos hmo.out])
    go_wp2_with fail;refine ⟨rfl,?_⟩;unfold NW;rw [hno.out];exact ⟨⟨_,rfl⟩,hB2⟩
  ·obtain rfl:i=4:=Qa
   have hfin:Hid (GE s.toList=some acc):=H0 (by have:=hg.out;rw [if_pos rfl] at this;exact this)
   have b1:=V8 acc Qa
   have b2:IntKind.u16.wrap (((acc % 65536:Nat):Int))=((acc % 65536:Nat):Int):=by
    have:acc % 65536<65536:=Nat.mod_lt _ Qc;simp [IntKind.wrap,IntKind.bits,IntKind.signed]
   have b3:Hid ((acc:Int) / 65536=((acc / 65536:Nat):Int)):=H0 Qa;generalize hmd:acc % 65536=md at b1 b2;replace hmd:=H0 hmd;clear hg hpw;go_wp2_with fail;go_ret2;unfold NW;rw [hfin.out];refine ⟨?_,hB⟩;show _=Ending.returned (.tuple #[.int .u16 ((acc / 65536:Nat):Int),.int .u16 ((acc % 65536:Nat):Int)]);rw [hmd.out,<-b3.out];rfl
theorem Aan (p q:Addr) (w:World):
  CallsD Tryz.prog 335 #[.pointer (some p),.pointer (some q)] .returning w fun e u' w'=>e= .returned (.tuple #[])/\u'= .returning/\w'=w:=by
 refine callsD_of_wpS Tryz.func335 rfl fun c₀ cs hu=> ?_
 apply wpS_seq;apply wpS_region;simp [wpOpsS,go_sem,recoverD,hu,Tryz.ntmps335,Exit.thenS];refine wpS_cond (t:=false) Agj ?_;simp only [Bool.false_eq_true,if_false];refine wpS_of_wp (wp_skip ?_);cases c₀
 simp_all [bodyPostS,results,Tryz.results335]
theorem NH {P:Program} {fn:Func} {c₀:Frame} {cs cs':List Frame} {R:Ending->FrameMode->World->Prop} {a:Act} {w:World} (u':FrameMode) (v:Value) (hd:a.defers=[]) (hcs:cs'={ c₀ with mode:=u' } :: cs)
  (hr:(results fn a.tmps).run P w= .ok v w) (hR:R (.returned v) u' w):bodyPostS P fn c₀ cs R .normal a cs' w:=⟨hd,u',hcs,v,hr,hR⟩
def Dn:Array Value:= #[.int .u16 0,.int .u16 0,.int .u16 0,.int .u16 0,.int .u16 0,.int .u16 0,.int .u16 0,.int .u16 0]
theorem U8 {w:World} {g:Nat} {cs:Array Value} {t:TypeId} (hg:w.heap[g]? =some (.cells cs t)) (i:Nat) (v:Value):(w.setCell ⟨g,i,none⟩ v).heap[g]? =some (.cells (cs.setIfInBounds i v) t):=by
 simp only [World.setCell,Array.getElem?_modify,if_true,hg];rfl
theorem HJ {w:World} {g k:Nat} (h:k≠g) (i:Nat) (v:Value):(w.setCell ⟨g,i,none⟩ v).heap[k]? =w.heap[k]? :=Below.heap_setCell w ⟨g,i,none⟩ v k h
theorem OM (g g2 B:Nat) (pv:Value) (older:List PanicEntry) (w:World) (c:Array Value) (hc:c.size=8) (b:Value) (hg:w.heap[g]? =some (.cells c 30)) (hg2:w.heap[g2]? =some (.cells #[b] 4)) (hne:g≠g2) (hB1:B<=g) (hB2:B<=g2):
  CallsD Tryz.prog 335 #[.pointer (some ⟨g,0,none⟩),.pointer (some ⟨g2,0,none⟩)] (.panicking ({ v:= .iface 263 pv,recovered:=false } :: older)) w fun e u' w'=>
   e= .returned (.tuple #[])/\u'= .panicking ({ v:= .iface 263 pv,recovered:=true } :: older)/\
    w'.heap[g]? =some (.cells Dn 30)/\w'.heap[g2]? =some (.cells #[.bool false] 4)/\Below B w w':=by
 have k2:(w.setRow g Dn).heap[g2]? =some (.cells #[b] 4):=(setRow_other w g g2 Dn (Ne.symm hne)).trans hg2;have k1:(w.setRow g Dn).heap[g]? =some (.cells Dn 30):=setRow_heap w g c Dn _ (0,0) hg
 have y0:(w.setRow g Dn).cell? ⟨g2,0,none⟩=some b:=by simp [World.cell?,k2]
 have f2:(w.setRow g Dn).frozen? ⟨g2,0,none⟩=false:=by simp [World.frozen?,k2]
 have hbel:Below B w (w.setRow g Dn):=Ae (Below.refl _ _) hB1 _
 refine callsD_of_wpS Tryz.func335 rfl fun c₀ cs hu=> ?_
 apply wpS_seq;apply wpS_region;simp [wpOpsS,go_sem,recoverD,hu,Tryz.ntmps335,Exit.thenS];refine wpS_cond (t:=true) Agj ?_;simp only [if_true];refine wpS_of_wp ?_;replace hg:=H0 hg;replace hg2:=H0 hg2;replace k1:=H0 k1;replace k2:=H0 k2;replace hu:=H0 hu;simp only [Array.replicate,List.setIfInBounds_toArray];go_wp2_with (refine wpList_store_row rfl 30 _ _ rfl g Dn rfl rfl 30 c hg.out Qb hc Qb ?_)
 refine NH _ (.tuple #[]) rfl rfl (by simp [results,Tryz.results335]) ⟨rfl,rfl,?_,?_,?_⟩
 ·rw [HJ hne];exact k1.out
 ·exact U8 (cs:= #[b]) k2.out 0 (.bool false)
 ·exact hbel.setCell (p:=⟨g2,0,none⟩) hB2 _
end Go.Proofs.YtonomfeipkdmhaaGreatDoor
