/- Part 13: lemmas. -/
import Derived.Test.YtonomfeipkdmhaaGreatDoorK11
import Derived.Test.YtonomfeipkdmhaaGreatDoorK12
import Derived.Laws.RangeAny
import Derived.Laws.Runes
import Derived.Lib.MapLaws
import Derived.Lib.OthersKept
import Derived.Lib.TrimUEq
set_option linter.unusedVariables false
set_option linter.unusedSimpArgs false
set_option maxRecDepth 100000
set_option maxHeartbeats 16000000
namespace Go.Proofs.YtonomfeipkdmhaaGreatDoor
open Go.RowKit
theorem TP (B b:Nat) (l m:List UInt8) (pa:Option Addr) (n c:Nat) (W0 w:World) (h:Kx w B b l) (hr:FV W0 pa n c m) (hW:Below B W0 w) (hWB:W0.heap.size<=B) (h0:0<n) (hl:l.length<=1099511627776) (hn:n<=1099511627776) (hB:B<=w.heap.size):
  Calls Tryz.prog 100 #[.pointer (some ⟨b,0,none⟩),.slice pa n c] w fun e w'=>e= .returned (.tuple #[.int .i64 n,.nilIface])/\Kx w' B b (l++m)/\Below B w w':=by
 obtain ⟨i0,hi,hz0,hz1,hz2⟩:=info_parts J4;have hln:=hr.len;go_enter Tryz.func100,Tryz.ntmps100;go_wp2_with fail;refine (Hg B b l _ h).mono ?_;rintro e w1 ⟨rfl,⟨hBb,v,hblk,hown,hne⟩,hb⟩;have hr1:=hr.below (hW.trans hb) hWB;obtain ⟨g,o,rfl,hcell⟩:=hr1.cells h0;have hs:=hb.size;have hlt:=Cu hblk
 have c1:w1.cell? ⟨b,1,none⟩=some v:=by rw [Lib.cell_of_heap hblk];rfl
 rw [Lib.byteCells_length] at hown
 have hnews:∀ j u,(m.map DC)[j]? =some u->w1.cell? ((⟨g,o,none⟩:Addr).add j)=some u:=by
  intro j u hj;rw [List.getElem?_map] at hj
  cases hm:m[j]? with
  | none=>rw [hm] at hj;cases hj
  | some x=>
   rw [hm] at hj;cases hj;obtain ⟨hjl,hx⟩:=List.getElem?_eq_some_iff.1 hm;have:=hcell j hjl
   have e:(⟨g,o,none⟩:Addr).add j=⟨g,o+j,none⟩:=by unfold Addr.add;split<;>simp_all
   rw [e,this,hx]
 have hone:∀ u∈m.map DC,u.oneCell'=true:=by intro u hu;obtain ⟨x,_,rfl⟩:=List.mem_map.1 hu;rfl
 have hcl:(m.map DC).length=n * 1:=by rw [List.length_map,hln,Nat.mul_one]
 replace hnews:=H0 hnews;replace hone:=H0 hone;replace hcl:=H0 hcl;replace hcell:=H0 hcell;clear hr hr1;replace hln:=H0 hln
 go_wp2_with (at_builtin;refine wpList_append_own _ rfl _ _ 25 rfl B 5 i0 (.int .u8 0) 1 1 Tryz.underlying25 hi hz0 hz1 hz2 rfl (by decide) _ _ _ rfl hown ⟨g,o,none⟩ n c (m.map DC) rfl hcl.out hnews.out hone.out (by unfold maxLen;omega) (by omega) (by omega) ?_;intro v' w2 hown' hgrow _;obtain ⟨a2,k2,c2,rfl⟩:=EI hown';have hblk2:=(hgrow.block b hlt (fun e=>hne e.symm)).trans hblk;obtain ⟨d1,f1⟩:=Gi hblk2)
 go_wp2_with fail;go_ret2;refine ⟨rfl,Or.inr ?_,?_⟩
 ·exact Lib.BuilderAt.put hBb hblk2 (by rw [Cj,List.length_append,Lib.byteCells_length,Lib.byteCells_length,hln.out];exact hown') Sd
 ·exact (hb.grown hgrow (by omega) (fun k hk=>(hown.lt k hk).1)).setCell (p:=⟨b,1,none⟩) hBb _
def Utf (w:World):Prop:=Lib.Utf8Tabs 1 2 w
theorem Utf.next {w w':World} (h:Utf w) (hb:Below w.heap.size w w'):Utf w':=by
 refine ⟨fun c hc=> ?_,fun i hi=>⟨?_,?_⟩⟩
 ·have h1:=h.1 c hc
  exact (hb.cell (by have:=World.block_lt_of_cell? w _ h1;simpa using this)).trans h1
 ·have h1:=(h.2 i hi).1
  exact (hb.cell (by have:=World.block_lt_of_cell? w _ h1;simpa using this)).trans h1
 ·have h1:=(h.2 i hi).2
  exact (hb.cell (by have:=World.block_lt_of_cell? w _ h1;simpa using this)).trans h1
structure GZ (w:World):Prop where
 tabs:Ij w
 ml:ML w
 utf:Utf w
theorem GZ.next {w w':World} (h:GZ w) (hb:Below w.heap.size w w'):GZ w':=⟨h.tabs.next hb,h.ml.next hb,h.utf.next hb⟩
theorem Ov {l:List UInt8} (h:l≠[]):(Ct l).2<=l.length:=Lib.decodeL_le l h
theorem YX {l:List UInt8} (h:l≠[]):1<=Ho l/\Ho l<=l.length:=by
 cases l with
 | nil=>exact absurd rfl h
 | cons c r=>
  rw [Zx];have:=Ue ((A9 c.toNat).2.2 - 1) (A9 c.toNat).1 (A9 c.toNat).2.1 r;simp;omega
theorem OA (pa:Option Addr) (n c:Nat) (l:List UInt8) (w:World) (h:FV w pa n c l) (h0:0<n) (hu:Utf w):
  Calls Tryz.prog 98 #[.slice pa n c] w fun e w'=>e= .returned (.tuple #[.int .i32 ((Ct l).1:Int),.int .i64 ((Ct l).2:Int)])/\Below w.heap.size w w':=by
 obtain ⟨g,o,rfl,hcell⟩:=h.cells h0;have hln:=h.len
 have hz:(⟨l.toArray⟩:ByteArray).size=n:=by rw [<-hln];rfl
 have:=Tryz.utf8_DecodeRune ⟨l.toArray⟩ g o c w hu (fun j hj=>by
  rw [hz] at hj
  have h1:=hcell j (by omega)
  rw [h1];unfold DC;congr 3
  simp [ByteArray.get!,show j<l.length by omega])
 rw [hz] at this
 have e:Lib.decodeGo ⟨l.toArray⟩=Ct l:=by unfold Lib.decodeGo;rw [if_neg (by rw [hz];omega)];rfl
 rw [e] at this;exact this
theorem Js (pa:Option Addr) (n c:Nat) (l:List UInt8) (w:World) (h:FV w pa n c l) (hn:n<=1000000000) (hu:Utf w):
  Calls Tryz.prog 51 #[.slice pa n c] w (Cy w (FY l)):=by
 have hln:=h.len;go_enter Tryz.func51,Tryz.ntmps51;go_wp2_with fail
 go_loopw [0] (fun v0 wr=>∃ (pa':Option Addr) (n' c' f:Nat) (l' out:List UInt8),v0= .slice pa' n' c'/\FV w pa' n' c' l'/\n'<f/\n'<=n/\Kx wr w.heap.size w.heap.size out/\Below w.heap.size w wr/\Hid (FY l=out++Cx f l')/\out.length+3 * n'<=3 * n) (fun v0 _=>match v0 with | .slice _ k _=>k | _=>0)
 case atStart=>exact ⟨pa,n,c,n+1,l,[],rfl,h,by omega,Nat.le_refl _,Kx.fresh w,(Below.refl _ _).alloc (Nat.le_refl _) _,H0 (by rw [<-hln];rfl),by simp⟩
 case round=>
  obtain ⟨pa',n',c',f,l',out,rfl,hr,hf,hle,hbld,hbel,hv,hol⟩:=hrel;have hsz:=hbel.size;have hl':=hr.len
  by_cases h0:0<n'
  ·have h0I:(0:Int)<(n':Int):=by omega
   have hne:l'≠[]:=by intro e;rw [e] at hl';simp at hl';omega
   obtain ⟨f1,rfl⟩:∃ f1,f=f1+1:=⟨f - 1,by omega⟩
   have hrw:=hr.below hbel (Nat.le_refl _)
   have hdr:=H0 (OA pa' n' c' l' wr hrw h0 (hu.next hbel))
   have hw1:=Lj l';have hw2:=Ov hne;rw [hl'] at hw2;have hb1:=YX hne;rw [hl'] at hb1
   have hstep:Cx (f1+1) l'=if Ct l'=(65533,1) then IX++Cx f1 (l'.drop (Ho l')) else l'.take (Ct l').2++Cx f1 (l'.drop (Ct l').2):=by rw [Cx,if_neg hne]
   obtain ⟨r,hre⟩:∃ r,(Ct l').1=r:=⟨_,rfl⟩;obtain ⟨k,hke⟩:∃ k,(Ct l').2=k:=⟨_,rfl⟩
   have hrk:Ct l'=(r,k):=by rw [<-hre,<-hke]
   rw [hre,hke] at hdr;rw [hke] at hw1 hw2
   by_cases hbad:r=65533/\k=1
   ·obtain ⟨rfl,rfl⟩:=hbad
    have hv2:Hid (FY l=(out++[239,191,189])++Cx f1 (l'.drop (Ho l'))):=H0 (by rw [hv.out,hstep,if_pos hrk,List.append_assoc];rfl)
    obtain ⟨q,hq⟩:=N2 (Ho l')
    have hbeg:=H0 (fun w hr=>QQ pa' n' c' l' w hr h0 (by unfold maxLen;omega))
    rw [hq] at hv2 hbeg hb1;obtain ⟨pa2,hsl,hr2⟩:=hr.drop q hb1.2;replace hv:=H0 hv;replace hstep:=H0 hstep;replace hre:=H0 hre;replace hke:=H0 hke;replace hrk:=H0 hrk;replace hq:=H0 hq;replace hl':=H0 hl'
    have hqI:(q:Int)<=(n':Int):=by omega
    have hq0:(0:Int)<=(q:Int):=by omega
    go_wp2_with fail;refine hdr.out.mono ?_;rintro e w2 ⟨rfl,hb2⟩;have hbel2:=hbel.trans (hb2.mono hsz);have hbld2:=hbld.keep hb2;have hsz2:=hbel2.size;go_wp2_with fail
    refine (AL w.heap.size w.heap.size out ⟨#[239,191,189]⟩ w2 hbld2 (by omega) (by decide) hsz2).mono ?_
    rintro e w3 ⟨rfl,hbld3,hb3⟩;have e3:(ByteArray.mk #[239,191,189]).toList=[239,191,189]:=toList_mk _;rw [e3] at hbld3;have hbel3:=hbel2.trans hb3;replace e3:=H0 e3;have hsz3:=hbel3.size;have hbg:=H0 (hbeg.out w3 (hr.below hbel3 (Nat.le_refl _)));go_wp2_with fail;refine hbg.out.mono ?_;rintro e w4 ⟨rfl,rfl⟩;go_wp2_with fail;go_roundw
    case rel=>exact ⟨pa2,n' - q,c' - q,f1,l'.drop q,out++[239,191,189],rfl,hr2,by omega,by omega,hbld3,hbel3,hv2,by simp;omega⟩
    case measure=>dsimp only;omega
   ·have hv2:Hid (FY l=(out++l'.take k)++Cx f1 (l'.drop k)):=H0 (by
     rw [hv.out,hstep,if_neg (by rw [hrk,Prod.mk.injEq];exact hbad),hke,List.append_assoc])
    obtain ⟨pa2,hsl,hr2⟩:=hr.drop k hw2;obtain ⟨pa3,hst,hr3⟩:=hr.take k hw2
    have hway:(((r:Int)==65533)=false)\/(((r:Int)==65533)=true/\((k:Int)==1)=false):=by
     by_cases h1:r=65533
     ·refine .inr ⟨by rw [h1];rfl,?_⟩
      rw [beq_eq_false_iff_ne];intro e
      exact hbad ⟨h1,by omega⟩
     ·left;rw [beq_eq_false_iff_ne];omega
    replace hv:=H0 hv;replace hstep:=H0 hstep;replace hre:=H0 hre;replace hke:=H0 hke;replace hrk:=H0 hrk;replace hl':=H0 hl';replace hbad:=H0 hbad
    have hqI:(k:Int)<=(n':Int):=by omega
    have hq0:(0:Int)<=(k:Int):=by omega
    rcases hway with q1 | ⟨q1,q2⟩
    all_goals
     go_wp2_with fail;refine hdr.out.mono ?_;rintro e w2 ⟨rfl,hb2⟩;have hbel2:=hbel.trans (hb2.mono hsz);have hbld2:=hbld.keep hb2;have hsz2:=hbel2.size;go_wp2_with fail
     refine (TP w.heap.size w.heap.size out (l'.take k) pa3 k c' w w2 hbld2 hr3 hbel2 (Nat.le_refl _) (by omega) (by omega) (by omega) hsz2).mono ?_
     rintro e w3 ⟨rfl,hbld3,hb3⟩;have hbel3:=hbel2.trans hb3;go_wp2_with fail;go_roundw
     case rel=>exact ⟨pa2,n' - k,c' - k,f1,l'.drop k,out++l'.take k,rfl,hr2,by omega,by omega,hbld3,hbel3,hv2,by rw [List.length_append,List.length_take];omega⟩
     case measure=>dsimp only;omega
  ·have h0I:(n':Int)<=0:=by omega
   have hnil:l'=[]:=List.eq_nil_of_length_eq_zero (by omega)
   have hv2:Hid (FY l=out):=H0 (by
    rw [hv.out,hnil]
    cases f with
    | zero=>rw [Cx,List.append_nil]
    | succ f=>rw [Cx,if_pos rfl,List.append_nil])
   replace hv:=H0 hv;replace hnil:=H0 hnil;replace hl':=H0 hl';have hst:=H0 (Bf w.heap.size w.heap.size out wr hbld hsz);go_wp2_with fail;refine hst.out.mono ?_;rintro e w2 ⟨t,rfl,ht,hb⟩;go_wp2_with fail;go_ret;exact BL (ht.out.trans hv2.out.symm) (hbel.trans hb)
theorem Ul {B k:Nat} {a w:World} (h:Below B a w) (hk:B<=k) (s:ByteArray) (p:Nat):Below B a (w.iterAt k s p):=
 ⟨h.os,h.tape,h.output,by simp only [World.iterAt,Array.size_setIfInBounds];exact h.size,fun j hj=>by
  simp only [World.iterAt]
  rw [Array.getElem?_setIfInBounds_ne (by omega)]
  exact h.block j hj⟩
theorem AaH (s:ByteArray) (pos:Nat):Ct (s.toList.drop pos)=Utf8.decode s pos:=by
 rw [ByteArray.toList_eq];exact Lib.decodeL_drop s pos
theorem RN (s:ByteArray) (w:World) (hz:s.size<=100000000) (hu:Utf w):Calls Tryz.prog 337 #[.string s] w (Ad8 (Kw s.toList) w):=by
 obtain ⟨pa,n,c,w1,hcv,hr,hb1⟩:=Xs s w;have hln:=hr.len;rw [Aa] at hln
 have hd:=H0 (Js pa n c s.toList w1 hr (by omega) (hu.next hb1))
 replace hln:=H0 hln;go_enter Tryz.func337,Tryz.ntmps337;go_wp2_with fail;refine hd.out.mono ?_;rintro e w2 ⟨t,rfl,ht,hb2⟩
 have hb:=hb1.next hb2
 clear hcv hr
 have htz:t.size<=3 * s.size:=by
  rw [<-Aa,ht.out];have:=Si s.toList;rw [Aa] at this;exact this
 go_wp2_with fail
 go_loopg [3] t.size (fun g v wx=>∃ (i f:Nat) (l:List Nat),i<=t.size/\g=t.size - i/\t.size - i<f/\wx.heap[w2.heap.size]? =some (.stringIter t i)/\Ei wx (w2.heap.size+1) v l/\w2.heap.size+1<=wx.heap.size/\Below w.heap.size w wx/\Hid (Kw s.toList=l++B7 f (t.toList.drop i))/\l.length<=i)
 case atStart=>exact ⟨0,t.size+1,[],Nat.zero_le _,rfl,by omega,World.iter_heap _ _ _,Ei.nil _ _,by simp [World.iter],hb.trans ((Below.refl _ _).alloc hb.size _),H0 (by unfold Kw Adj;rw [<-ht.out,Aa];rfl),Nat.le_refl _⟩
 case round=>
  obtain ⟨i,f,l,hi,hg,hf,hit,hown,hwz,hbel,hv,hll⟩:=hrel;have hs0:=hb.size
  by_cases hlt:i<t.size
  ·have hne:t.toList.drop i≠[]:=by
    intro e;have:=congrArg List.length e;rw [List.length_drop,Aa] at this;simp at this;omega
   obtain ⟨f1,rfl⟩:∃ f1,f=f1+1:=⟨f - 1,by omega⟩
   have hdd:=AaH t i
   have hnx:=fun ty=>Lib.run_next_any_at (P:=Tryz.prog) wr w2.heap.size t i ty hit hlt
   rw [<-hdd] at hnx;have hw1:=Lj (t.toList.drop i);have hw2:=Ov hne;rw [List.length_drop,Aa] at hw2;have hrl:=Rz (t.toList.drop i)
   have hstep:B7 (f1+1) (t.toList.drop i)=(Ct (t.toList.drop i)).1 :: B7 f1 ((t.toList.drop i).drop (Ct (t.toList.drop i)).2):=by rw [B7,if_neg hne]
   obtain ⟨r,hre⟩:∃ r,(Ct (t.toList.drop i)).1=r:=⟨_,rfl⟩;obtain ⟨k,hke⟩:∃ k,(Ct (t.toList.drop i)).2=k:=⟨_,rfl⟩;rw [hre,hke,List.drop_drop] at hstep;rw [hre,hke] at hnx;rw [hke] at hw1 hw2;rw [hre] at hrl
   have hnew:Hid (Kw s.toList=(l++[r])++B7 f1 (t.toList.drop (i+k))):=H0 (by rw [hv.out,hstep,List.append_assoc];rfl)
   have hk2:=H0 (Lib.iterAt_heap wr w2.heap.size t i (i+k) hit)
   have hb3:=H0 (Ul hbel (show w.heap.size<=w2.heap.size by omega) t (i+k))
   have ho3:=H0 (Yh hown (show w2.heap.size<w2.heap.size+1 by omega) t (i+k))
   have hz3:=H0 (show w2.heap.size+1<=(wr.iterAt w2.heap.size t (i+k)).heap.size by simp only [World.iterAt,Array.size_setIfInBounds];exact hwz)
   have hrI:(r:Int)<=1114111:=by omega
   have hr0:(0:Int)<=(r:Int):=by omega
   replace hdd:=H0 hdd;replace hre:=H0 hre;replace hke:=H0 hke;replace hstep:=H0 hstep;replace hit:=H0 hit;replace hg:=H0 hg
   go_wp2_with (at_builtin;refine LI rfl _ _ rfl r rfl rfl ho3.out (Below.refl _ _) hz3.out rfl (by omega) ?_;intro v' w' ho' hb' _)
   go_wp2_with fail
   have hlt3:w2.heap.size<(wr.iterAt w2.heap.size t (i+k)).heap.size:=by have:=hz3.out;omega
   go_roundg (t.size - (i+k))
   case measure=>have:=hg.out;omega
   case rel=>exact ⟨i+k,f1,l++[r],by omega,rfl,by omega,by rw [hb'.block _ (by omega)];exact hk2.out,ho',by have:=hb'.size;have:=hz3.out;omega,hb3.out.trans (hb'.mono (by omega)),hnew,by simp;omega⟩
  ·obtain rfl:i=t.size:=by omega
   have hnx:=fun ty=>Lib.run_next_end_at (P:=Tryz.prog) wr w2.heap.size t t.size ty hit hlt
   have hfin:Hid (Kw s.toList=l):=H0 (by
    rw [hv.out,AM t t.size (Nat.le_refl _)]
    cases f with
    | zero=>exact List.append_nil _
    | succ f=>rw [B7,if_pos rfl,List.append_nil])
   replace hg:=H0 hg;go_wp2_with fail;go_ret
   exact ⟨_,rfl,by rw [hfin.out];exact hown.mono (by omega),hbel⟩
def Acj (o:Option (List UInt8)) (w:World) (e:Ending) (w':World):Prop:=∃ t:ByteArray,e= .returned (.tuple #[.string t,.bool o.isSome])/\Hid (∀ x,o=some x->t.toList=x)/\Below w.heap.size w w'
theorem Gx {o:Option (List UInt8)} {w w':World} {t:ByteArray} (h:o=none) (hb:Below w.heap.size w w'):Acj o w (.returned (.tuple #[.string t,.bool false])) w':=by
 subst h;exact ⟨t,rfl,H0 (fun x hx=>by cases hx),hb⟩
theorem K4 {o:Option (List UInt8)} {w w':World} {t:ByteArray} {l:List UInt8} (h:o=some l) (ht:t.toList=l) (hb:Below w.heap.size w w'):Acj o w (.returned (.tuple #[.string t,.bool true])) w':=by
 subst h;exact ⟨t,rfl,H0 (fun x hx=>by cases hx;exact ht),hb⟩
theorem J3:∀ (f:Nat) (s:List UInt8) (st:Db) (m:List Nat),st.l.length<=255->Dr f s st=some m->m.length<=255
 | 0,_,_,_,_,h=>(nomatch h)
 | f+1,s,st,m,hl,h=>by
  rw [Dr] at h;split at h
  ·cases h;exact hl
  ·split at h
   ·cases h
   ·split at h
    ·cases h
    ·rename_i d n _ _ st' hs;have h1:=Wi hs
     have h2:st.l.length≠255:=by
      intro e;unfold D5 at hs
      rw [e,if_pos (by simp)] at hs
      cases hs
     exact J3 f _ st' m (by omega) h
theorem Adk {s:List UInt8} {m:List Nat} (h:MD s=some m):m.length<=255:=by
 unfold MD at h;split at h
 ·split at h
  ·exact J3 _ _ _ _ (Nat.zero_le _) h
  ·split at h
   ·cases h
   ·rename_i hl;split at h
    ·refine J3 _ _ _ _ ?_ h;show (List.map _ _).length<=255;rw [List.length_map];omega
    ·cases h
 ·exact J3 _ _ _ _ (Nat.zero_le _) h
theorem AgD (s:ByteArray) (w:World):Calls Tryz.prog 218 #[.string s,.string ⟨#[120,110,45,45]⟩] w fun e w'=>∃ r:ByteArray,e= .returned (.tuple #[.string r,.bool (Lib.hasPrefix s.toList TW)])/\r.size<=s.size/\Hid (Lib.hasPrefix s.toList TW=true->r.toList=s.toList.drop 4)/\w=w':=by
 refine (Tryz.strings_CutPrefix s ⟨#[120,110,45,45]⟩ w).mono ?_;rintro e w' ⟨rfl,rfl⟩;have e1:s.data.toList=s.toList:=(ByteArray.toList_eq ..).symm;have e2:(ByteArray.mk #[120,110,45,45]).data.toList=TW:=rfl;rw [e1,e2]
 have hl:(Lib.trimPrefix s.toList TW).length<=s.size:=by
  rw [<-Aa];unfold Lib.trimPrefix;split
  ·rw [List.length_drop];omega
  ·exact Nat.le_refl _
 refine ⟨_,rfl,by rw [<-Aa,toList_mk];exact hl,H0 (fun h=> ?_),rfl⟩
 rw [toList_mk];unfold Lib.trimPrefix;rw [if_pos h];rfl
theorem V2 (s:ByteArray) (w:World) (hz:s.size<=100000000) (hu:Utf w):Calls Tryz.prog 340 #[.string s] w (Acj (AW s.toList) w):=by
 obtain ⟨R,hR⟩:=N2 (AW s.toList);rw [hR];have hv:=hR.symm;unfold AW at hv;replace hR:=H0 hR
 have hlo:=H0 (fun w=>Aa5 s w (by omega))
 have hcp:=H0 (AgD s)
 have hsg:=H0 (fun w hu=>RN s w hz hu)
 have hsle:=H0 (YI s.toList);obtain ⟨P,hP⟩:=N2 (Lib.hasPrefix s.toList TW);obtain ⟨L,hL⟩:=N2 (IZ s.toList);rw [hP] at hv hcp;rw [hL] at hv hlo;replace hP:=H0 hP;replace hL:=H0 hL
 cases P with
 | true=>
  rw [if_pos rfl] at hv
  cases L with
  | false=>
   rw [if_neg (by decide)] at hv
   replace hv:=H0 hv;go_enter Tryz.func340,Tryz.ntmps340;go_wp2_with fail;refine (hlo.out _).mono ?_;rintro e w1 ⟨rfl,rfl⟩;go_wp2_with fail;refine (hcp.out _).mono ?_;rintro e w1 ⟨r,rfl,hrz,hr,rfl⟩;go_wp2_with fail;go_ret2;exact Gx hv.out (Below.refl _ _)
  | true=>
   rw [if_pos rfl] at hv;replace hv:=H0 hv;go_enter Tryz.func340,Tryz.ntmps340;go_wp2_with fail;refine (hlo.out _).mono ?_;rintro e w1 ⟨rfl,rfl⟩;go_wp2_with fail;refine (hcp.out _).mono ?_;rintro e w1 ⟨r,rfl,hrz,hr,rfl⟩
   have hrl:=hr.out (by simp)
   have hdc:=H0 (fun w=>WR r w (by omega))
   have hv2:=hv.out;rw [<-hrl] at hv2;replace hrl:=H0 hrl
   cases hd:MD r.toList with
   | none=>
    rw [hd] at hdc hv2;dsimp only at hv2;replace hd:=H0 hd;replace hv2:=H0 hv2;go_wp2_with fail;refine (hdc.out _).mono ?_;rintro e w2 ⟨rfl,hb2⟩;go_wp2_with fail;go_ret2;exact Gx hv2.out hb2
   | some m=>
    have hle:=Aew hd;have hml:=Adk hd;rw [hd] at hdc hv2;dsimp only at hv2;replace hd:=H0 hd;obtain ⟨B,hB⟩:=N2 (Hl m);rw [hB] at hv2;replace hv2:=H0 hv2;go_wp2_with fail;refine (hdc.out _).mono ?_;rintro e w2 ⟨v,rfl,ho,hb2⟩;obtain ⟨pa,c,rfl,hir⟩:=ho.read
    have hlb:=H0 (RM pa m.length c m w2 hir (by omega) hle)
    rw [hB] at hlb;replace hB:=H0 hB;go_wp2_with fail;refine hlb.out.mono ?_;rintro e w3 ⟨rfl,hb3⟩;have hsz2:=hb2.size;have hb4:=hb2.trans (hb3.mono hsz2);cases B
    ·have hv3:Hid (R=none):=H0 (by rw [hv2.out];rfl)
     go_wp2_with fail;go_ret2;exact Gx hv3.out hb4
    ·have hv3:Hid (R=some s.toList):=H0 (by rw [hv2.out];rfl)
     go_wp2_with fail;go_ret2;exact K4 hv3.out rfl hb4
 | false=>
  rw [if_neg (by decide)] at hv
  cases L with
  | true=>
   rw [if_pos rfl] at hv;replace hv:=H0 hv;go_enter Tryz.func340,Tryz.ntmps340;go_wp2_with fail;refine (hlo.out _).mono ?_;rintro e w1 ⟨rfl,rfl⟩;go_wp2_with fail;refine (hcp.out _).mono ?_;rintro e w1 ⟨r,rfl,hrz,hr,rfl⟩;go_wp2_with fail;go_ret2;exact K4 hv.out rfl (Below.refl _ _)
  | false=>
   rw [if_neg (by decide)] at hv
   have hlen:=Lw s.toList;rw [Aa] at hlen;obtain ⟨m,hm⟩:=N2 (Kw s.toList);rw [hm] at hv hsg hsle hlen;replace hm:=H0 hm;obtain ⟨B,hB⟩:=N2 (Hl m);rw [hB] at hv;replace hv:=H0 hv;go_enter Tryz.func340,Tryz.ntmps340;go_wp2_with fail;refine (hlo.out _).mono ?_;rintro e w1 ⟨rfl,rfl⟩;go_wp2_with fail;refine (hcp.out _).mono ?_;rintro e w1 ⟨r,rfl,hrz,hr,rfl⟩;go_wp2_with fail;refine (hsg.out _ hu).mono ?_;rintro e w2 ⟨v,rfl,ho,hb2⟩;obtain ⟨pa,c,rfl,hir⟩:=ho.read
   have hlb:=H0 (RM pa m.length c m w2 hir (by omega) hsle.out)
   rw [hB] at hlb;replace hB:=H0 hB;have hsz2:=hb2.size;go_wp2_with fail;refine hlb.out.mono ?_;rintro e w3 ⟨rfl,hb3⟩;have hb4:=hb2.trans (hb3.mono hsz2);cases B
   ·have hv3:Hid (R=none):=H0 (by rw [hv.out];rfl)
    go_wp2_with fail;go_ret2;exact Gx hv3.out hb4
   ·have hv3:Hid (R=match Li m with | some t=>some (TW++t) | none=>none):=H0 (by rw [hv.out];rfl)
    have hen:=H0 (Uu pa m.length c m w3 (hir.below hb3 (Nat.le_refl _)) (by omega))
    have hsz3:=hb4.size;go_wp2_with fail;refine hen.out.mono ?_;rintro e w4 ⟨t,rfl,ht,hb5⟩;have hb6:=hb4.trans (hb5.mono hsz3)
    cases ho2:Li m with
    | none=>
     rw [ho2] at hv3 ht;replace ho2:=H0 ho2
     have htz:t.size<=20656:=by rw [<-Aa,ht.out];decide
     go_wp2_with fail;go_ret2;exact Gx hv3.out hb6
    | some t0=>
     have htl:=UU ho2;rw [ho2] at hv3 ht;replace ho2:=H0 ho2
     have htz:t.size<=20656:=by rw [<-Aa,ht.out];exact htl
     go_wp2_with fail;go_ret2
     exact K4 hv3.out (by rw [toList_append,ht.out,show (ByteArray.mk #[120,110,45,45]).toList=TW from toList_mk [120,110,45,45]];rfl) hb6
structure BI (G:Nat->Prop) (w w':World):Prop where
 os:w'.os=w.os
 tape:w'.tape=w.tape
 output:w'.output=w.output
 size:w.heap.size<=w'.heap.size
 block:∀ k,k<w.heap.size->¬ G k->w'.heap[k]? =w.heap[k]?
theorem BI.refl (G:Nat->Prop) (w:World):BI G w w:=⟨rfl,rfl,rfl,Nat.le_refl _,fun _ _ _=>rfl⟩
theorem BI.trans {G:Nat->Prop} {a b c:World} (h:BI G a b) (k:BI G b c):BI G a c:=
 ⟨k.os.trans h.os,k.tape.trans h.tape,k.output.trans h.output,Nat.le_trans h.size k.size,fun i hi hg=>(k.block i (Nat.lt_of_lt_of_le hi h.size) hg).trans (h.block i hi hg)⟩
theorem BI.mono {G G':Nat->Prop} {a b:World} (h:BI G a b) (hg:∀ k,G k->G' k):BI G' a b:=⟨h.os,h.tape,h.output,h.size,fun k hk hn=>h.block k hk (fun x=>hn (hg k x))⟩
theorem BI.of {G:Nat->Prop} {a b:World} (h:Below a.heap.size a b):BI G a b:=⟨h.os,h.tape,h.output,h.size,fun k hk _=>h.block k hk⟩
theorem BI.below {G:Nat->Prop} {a b:World} (h:BI G a b) {B:Nat} (hB:B<=a.heap.size) (hG:∀ k,G k->B<=k):Below B a b:=
 ⟨h.os,h.tape,h.output,h.size,fun k hk=>h.block k (by omega) (fun x=>by have:=hG k x;omega)⟩
theorem BI.set {G:Nat->Prop} {a b:World} (h:BI G a b) {g:Nat} (hg:G g) (i:Nat) (v:Value):BI G a (b.setCell ⟨g,i,none⟩ v):=
 h.trans ⟨rfl,rfl,rfl,by simp [World.setCell],fun k hk hn=>Below.heap_setCell _ _ _ _ (fun e=>hn (by rw [e];exact hg))⟩
def Bl {σ:Type} (step:σ->UInt8->Bool × σ):σ->List UInt8->List UInt8 × List UInt8 × σ
 | st,[]=>([],[],st)
 | st,c :: r=>if (step st c).1=true then (c :: (Bl step (step st c).2 r).1,(Bl step (step st c).2 r).2.1,(Bl step (step st c).2 r).2.2) else ([],c :: r,(step st c).2)
theorem Mx {σ:Type} {step:σ->UInt8->Bool × σ} {st:σ} {c:UInt8} {r:List UInt8} (h:(step st c).1=true):Bl step st (c :: r)=(c :: (Bl step (step st c).2 r).1,(Bl step (step st c).2 r).2):=by rw [Bl,if_pos h]
theorem Pk {σ:Type} {step:σ->UInt8->Bool × σ} {st:σ} {c:UInt8} {r:List UInt8} (h:(step st c).1=false):Bl step st (c :: r)=([],c :: r,(step st c).2):=by rw [Bl,if_neg (by rw [h];decide)]
theorem A6 {w:World} {g i:Nat} {cs:Array Value} {T:TypeId} {v:Value} (h:w.heap[g]? =some (.cells cs T (0,0))):(w.setCell ⟨g,i,none⟩ v).heap[g]? =some (.cells (cs.setIfInBounds i v) T (0,0)):=by
 simp only [World.setCell,Array.getElem?_modify,if_true,h];rfl
def FN (w:World) (g:Nat) (n:Nat):Prop:=w.heap[g]? =some (.cells #[.int .i64 (n:Int)] 3 (0,0))
def GX (w:World) (g:Nat) (s:ByteArray):Prop:=w.heap[g]? =some (.cells #[.string s] 9 (0,0))
def AdQ {σ:Type} (step:σ->UInt8->Bool × σ) (R:σ->World->Prop) (Ga:Nat->Prop) (ga gs:Nat) (s:ByteArray) (st:σ) (k:Nat) (w:World) (e:Ending) (w':World):Prop:=
 ∃ t:ByteArray,e= .returned (.string t)/\Hid (t.toList=(Bl step st (s.toList.drop k)).1)/\k+t.size<=s.size/\FN w' ga (k+t.size)/\GX w' gs s/\R (Bl step st (s.toList.drop k)).2.2 w'/\BI (fun i=>i=ga\/Ga i) w w'
theorem LH {σ:Type} (f:Nat) (cap:Array Value) (step:σ->UInt8->Bool × σ) (R:σ->World->Prop) (Ga:Nat->Prop) (ga gs:Nat) (s:ByteArray)
  (hask:∀ (st:σ) (c:UInt8) (w:World),R st w->Calls Tryz.prog f (#[.int .u8 (c.toNat:Int)]++cap) w fun e w'=>e= .returned (.bool (step st c).1)/\R (step st c).2 w'/\BI Ga w w')
  (hcf:∀ args w,(callFunc f args).run Tryz.prog w= .ok (.enter f args) w)
  (hRs:∀ (st:σ) (w:World) (v:Value),R st w->R st (w.setCell ⟨ga,0,none⟩ v)) (hga:¬ Ga ga) (hgs:¬ Ga gs) (hne:ga≠gs) (hsz:s.size<=1099511627776)
  (st:σ) (k:Nat) (w:World) (hR:R st w) (ha:FN w ga k) (hs:GX w gs s) (hk:k<=s.size):
  Calls Tryz.prog 170 #[.func (.func f) #[] cap,.pointer (some ⟨ga,0,none⟩),.pointer (some ⟨gs,0,none⟩)] w (AdQ step R Ga ga gs s st k w):=by
 have hq:=H0 hask;have hRs':=H0 hRs;clear hask hRs;have xa:=cell_of_row _ _ 0 _ _ _ ha;have xs:=cell_of_row _ _ 0 _ _ _ hs;simp only [List.getElem?_toArray,List.getElem?_cons_zero] at xa xs;go_enter Tryz.func170,Tryz.ntmps170;go_wp2_with fail
 go_loopg [] (s.size - k) (fun g wr=>∃ (j:Nat) (st':σ),g=s.size - j/\k<=j/\j<=s.size/\Hid (Bl step st (s.toList.drop k)=((s.toList.take j).drop k++(Bl step st' (s.toList.drop j)).1,(Bl step st' (s.toList.drop j)).2))/\FN wr ga j/\GX wr gs s/\R st' wr/\BI (fun i=>i=ga\/Ga i) w wr)
 case atStart=>exact ⟨k,st,rfl,Nat.le_refl _,hk,H0 (by rw [show (s.toList.take k).drop k=[] from List.drop_eq_nil_of_le (by rw [List.length_take];omega),List.nil_append]),ha,hs,hR,BI.refl _ _⟩
 case round=>
  clear xa xs ha hs hR;obtain ⟨j,st',hgk,hkj,hj,hrun,hba,hbs,hR,hC⟩:=hrel;have xa:=cell_of_row _ _ 0 _ _ _ hba;have xs:=cell_of_row _ _ 0 _ _ _ hbs;simp only [List.getElem?_toArray,List.getElem?_cons_zero] at xa xs;have ls:gs<wr.heap.size:=(Array.getElem?_eq_some_iff.1 hbs).1;have la:ga<wr.heap.size:=(Array.getElem?_eq_some_iff.1 hba).1;replace hgk:=H0 hgk;replace hba:=H0 hba;replace hbs:=H0 hbs;replace hR:=H0 hR
  by_cases hlt:j<s.size
  ·have hltI:(j:Int)<(s.size:Int):=by omega
   have hask:=hq.out st' s[j] wr hR.out;have hdr:=Ao s j hlt;have hsn:=A5 s j hlt
   have hyes:(step st' s[j]).1=true->Hid (Bl step st (s.toList.drop k)=((s.toList.take (j+1)).drop k++(Bl step (step st' s[j]).2 (s.toList.drop (j+1))).1,(Bl step (step st' s[j]).2 (s.toList.drop (j+1))).2)):=fun h=>H0 (by
    rw [hrun.out,hdr,hsn,List.drop_append_of_le_length (by rw [List.length_take,Aa];omega),Mx h,List.append_assoc]
    rfl)
   have hno:(step st' s[j]).1=false->Hid ((s.extract k j).toList=(Bl step st (s.toList.drop k)).1/\(step st' s[j]).2=(Bl step st (s.toList.drop k)).2.2):=fun h=>H0 (by
    rw [hrun.out,hdr,Pk h,toList_extract]
    exact ⟨(List.append_nil _).symm,rfl⟩)
   have hz:(s.extract k j).size=j - k:=by rw [ByteArray.size_extract];omega
   replace hdr:=H0 hdr;replace hsn:=H0 hsn;replace hz:=H0 hz;replace hyes:=H0 hyes;replace hno:=H0 hno;replace hrun:=H0 hrun;obtain ⟨r,hr⟩:=N2 (step st' s[j]);rw [hr] at hask hyes hno;replace hr:=H0 hr;obtain ⟨b,st2⟩:=r;cases b
   ·have hn:=hno.out rfl;replace hask:=H0 hask;go_wp2_with fail;refine hask.out.mono ?_;rintro e w2 ⟨rfl,hR2,hC2⟩;have hba2:FN w2 ga j:=(hC2.block _ la hga).trans hba.out;have hbs2:GX w2 gs s:=(hC2.block _ ls hgs).trans hbs.out;have xa:=cell_of_row _ _ 0 _ _ _ hba2;have xs:=cell_of_row _ _ 0 _ _ _ hbs2;simp only [List.getElem?_toArray,List.getElem?_cons_zero] at xa xs;replace hba2:=H0 hba2;replace hbs2:=H0 hbs2
    have hC3:=hC.trans (hC2.mono (fun i h=>Or.inr h))
    clear hC hC2;replace hR2:=H0 hR2
    have hkjI:(k:Int)<=(j:Int):=by omega
    have hjI:(j:Int)<=(s.size:Int):=by omega
    go_wp2_with fail;go_ret
    exact ⟨_,rfl,H0 hn.out.1,by have:=hz.out;omega,(by rw [hz.out,show k+(j - k)=j by omega];exact hba2.out),hbs2.out,(by rw [<-hn.out.2];exact hR2.out),hC3⟩
   ·have hn:=hyes.out rfl;replace hask:=H0 hask;go_wp2_with fail;refine hask.out.mono ?_;rintro e w2 ⟨rfl,hR2,hC2⟩;have hba2:FN w2 ga j:=(hC2.block _ la hga).trans hba.out;have hbs2:GX w2 gs s:=(hC2.block _ ls hgs).trans hbs.out;have xa:=cell_of_row _ _ 0 _ _ _ hba2;have xs:=cell_of_row _ _ 0 _ _ _ hbs2;have fa:=frozen_of_row _ _ 0 _ _ hba2;simp only [List.getElem?_toArray,List.getElem?_cons_zero] at xa xs
    have hbn:FN (w2.setCell ⟨ga,0,none⟩ (.int .i64 ((j+1:Nat):Int))) ga (j+1):=by
     unfold FN;rw [A6 hba2];rfl
    have hsn2:GX (w2.setCell ⟨ga,0,none⟩ (.int .i64 ((j+1:Nat):Int))) gs s:=(Below.heap_setCell _ _ _ _ (fun e=>hne e.symm)).trans hbs2
    have hRn:=hRs'.out _ w2 (.int .i64 ((j+1:Nat):Int)) hR2
    have hC3:=(hC.trans (hC2.mono (fun i h=>Or.inr h))).set (g:=ga) (Or.inl rfl) 0 (.int .i64 ((j+1:Nat):Int))
    have ej:((j+1:Nat):Int)=(j:Int)+1:=by omega
    rw [ej] at hbn hsn2 hRn hC3;replace hba2:=H0 hba2;replace hbs2:=H0 hbs2;replace hR2:=H0 hR2;replace ej:=H0 ej;replace hbn:=H0 hbn;replace hsn2:=H0 hsn2;replace hRn:=H0 hRn;replace hC3:=H0 hC3;clear hC hC2;go_wp2_with fail;go_roundg (s.size - (j+1))
    case measure=>have:=hgk.out;omega
    case rel=>exact ⟨j+1,st2,rfl,by omega,by omega,hn,hbn.out,hsn2.out,hRn.out,hC3.out⟩
  ·have hgeI:(s.size:Int)<=(j:Int):=by omega
   obtain rfl:j=s.size:=by omega
   have hz:(s.extract k s.size).size=s.size - k:=by rw [ByteArray.size_extract];omega
   have hn:Hid ((s.extract k s.size).toList=(Bl step st (s.toList.drop k)).1/\st'=(Bl step st (s.toList.drop k)).2.2):=H0 (by
    rw [hrun.out,AM s s.size (Nat.le_refl _),toList_extract]
    exact ⟨(List.append_nil _).symm,rfl⟩)
   replace hz:=H0 hz;replace hrun:=H0 hrun
   have hkjI:(k:Int)<=(s.size:Int):=by omega
   go_wp2_with fail;go_ret
   exact ⟨_,rfl,H0 hn.out.1,by have:=hz.out;omega,(by rw [hz.out,show k+(s.size - k)=s.size by omega];exact hba.out),hbs.out,(by rw [<-hn.out.2];exact hR.out),hC⟩
def GR (w:World) (C b:Nat) (l:List UInt8):Prop:=∃ p v,(p= .pointer none\/p= .pointer (some ⟨b,0,none⟩))/\w.heap[b]? =some (.cells #[p,v] 76 (0,0))/\w.ownsRow C 5 1 v (Lib.byteCells l).length (Lib.byteCells l)/\v.ownBlock≠some b
theorem Dv {w:World} {B C n:Nat} {E:TypeId} {v:Value} {xs:List Value} (h:w.ownsRow C E 1 v n xs) (hB:B<=C):w.ownsRow B E 1 v n xs:=by
 refine ⟨h.1,?_⟩
 rcases h.2 with hn | ⟨g,cap,cur,rfl,hg,rest⟩
 ·exact .inl hn
 ·exact .inr ⟨g,cap,cur,rfl,by omega,rest⟩
theorem Ki {w w0:World} {B C n:Nat} {E:TypeId} {v:Value} {xs ys:List Value} (h:w.ownsRow B E 1 v n xs) (h0:w0.ownsRow C E 1 v n ys):w.ownsRow C E 1 v n xs:=by
 refine ⟨h.1,?_⟩
 rcases h.2 with hn | ⟨g,cap,cur,rfl,hg,rest⟩
 ·exact .inl hn
 ·rcases h0.2 with ⟨e,_⟩ | ⟨g',cap',cur',e,hg',_⟩
  ·cases e
  ·cases e;exact .inr ⟨g,cap,cur,rfl,hg',rest⟩
theorem GR.to {w:World} {C b B:Nat} {l:List UInt8} (h:GR w C b l) (h1:B<=b) (h2:B<=C):Kx w B b l:=by
 obtain ⟨p,v,rfl | rfl,hblk,hown,hne⟩:=h
 ·exact .inl ⟨h1,v,hblk,Dv hown h2,hne⟩
 ·exact .inr ⟨h1,v,hblk,Dv hown h2,hne⟩
theorem GR.fresh (w:World) (C:Nat):GR (w.alloc (.cells #[.pointer none,.slice none 0 0] 76)) C w.heap.size []:=
 ⟨_,_,.inl rfl,heap_alloc_new w _,World.ownsRow_nil _ _ _ _,by simp [Value.ownBlock]⟩
theorem GR.keep {w w':World} {C b:Nat} {l:List UInt8} (h:GR w C b l) (hb:Below w.heap.size w w'):GR w' C b l:=by
 obtain ⟨p,v,hp,hblk,hown,hne⟩:=h
 exact ⟨p,v,hp,by rw [hb.block b (Cu hblk)];exact hblk,Bp hown hb (Nat.le_refl _),hne⟩
theorem Lh (b:Nat) (l:List UInt8) (w:World) (h:Kx w 0 b l):
  Calls Tryz.prog 91 #[.pointer (some ⟨b,0,none⟩)] w fun e w'=>e= .returned (.tuple #[])/\Lib.BuilderAt 76 5 0 b (.pointer (some ⟨b,0,none⟩)) (Lib.byteCells l) w'/\(w'=w\/w'=w.setCell ⟨b,0,none⟩ (.pointer (some ⟨b,0,none⟩))):=by
 obtain ⟨j,hj,hjs⟩:=Option.map_eq_some_iff.1 Zb
 rcases h with h | h
 ·have c0:=h.cell0;have sh:=h.shape;have fz:=h.frozen0
  have k1:=Lib.run_to_unsafe (P:=Tryz.prog) w ⟨b,0,none⟩ Tryz.underlying74 Tryz.underlying158 hj (by rw [hjs];decide) sh (Nat.zero_lt_succ 1)
  have k2:=fun w=>run_callFunc_extern (P:=Tryz.prog) (w:=w) (args:= #[.pointer (some ⟨b,0,none⟩)]) Tryz.func158 (by kernel_rfl) (by kernel_rfl) (by kernel_rfl) (e:=Extern.AbiNoEscape.same) (by kernel_rfl)
  have k3:=Lib.run_from_unsafe (P:=Tryz.prog) w ⟨b,0,none⟩ Tryz.underlying158 Tryz.underlying74 hj sh Y2;have k4:=Lib.run_noEscape (P:=Tryz.prog) w (.pointer (some ⟨b,0,none⟩));go_enter Tryz.func91,Tryz.ntmps91;go_wp2;go_end0;exact ⟨rfl,h.used _,.inr rfl⟩
 ·have c0:=h.cell0;have k1:=Lib.run_neq_ptr_same (P:=Tryz.prog) w ⟨b,0,none⟩ Tryz.underlying74 hj;go_enter Tryz.func91,Tryz.ntmps91;go_wp2;go_end0;exact ⟨rfl,h,.inl rfl⟩
def I6 (b C:Nat) (k:Nat):Prop:=k=b\/C<=k
theorem S9 (C b:Nat) (l:List UInt8) (s:ByteArray) (w:World) (h:GR w C b l) (hl:l.length<=1099511627776) (hsz:s.size<=1099511627776) (hC:C<=w.heap.size):
  Calls Tryz.prog 40 #[.pointer (some ⟨b,0,none⟩),.string s] w fun e w'=>e= .returned (.tuple #[.int .i64 s.size,.nilIface])/\GR w' C b (l++s.toList)/\BI (I6 b C) w w':=by
 obtain ⟨i0,hi,hz0,hz1,hz2⟩:=info_parts J4;have h0:=h.to (Nat.zero_le _) (Nat.zero_le _);obtain ⟨p0,v0,hp0,hblk0,hown0,hne0⟩:=h;go_enter Tryz.func40,Tryz.ntmps40;go_wp2_with fail;refine (Lh b l _ h0).mono ?_;rintro e w1 ⟨rfl,⟨hBb,v,hblk,hown,hne⟩,hw1⟩
 have hv:v=v0/\BI (I6 b C) w w1/\w.heap.size<=w1.heap.size:=by
  rcases hw1 with rfl | rfl
  ·rw [hblk0] at hblk;simp only [Option.some.injEq,Obj.cells.injEq,Array.mk.injEq,List.cons.injEq,and_true] at hblk;exact ⟨hblk.2.symm,BI.refl _ _,Nat.le_refl _⟩
  ·rw [A6 hblk0] at hblk;simp only [Option.some.injEq,Obj.cells.injEq,and_true] at hblk;have:(#[p0,v0]:Array Value).setIfInBounds 0 (.pointer (some ⟨b,0,none⟩))= #[.pointer (some ⟨b,0,none⟩),v0]:=rfl;rw [this] at hblk;simp only [Array.mk.injEq,List.cons.injEq,and_true,true_and] at hblk
   exact ⟨hblk.symm,(BI.refl _ _).set (.inl rfl) _ _,by simp [World.setCell]⟩
 obtain ⟨rfl,hch,hs⟩:=hv;have hown:=Ki hown hown0;clear hw1 hown0 hblk0 h0 hp0 hne0;have hlt:=Cu hblk
 have c1:w1.cell? ⟨b,1,none⟩=some v:=by rw [Lib.cell_of_heap hblk];rfl
 rw [Lib.byteCells_length] at hown
 go_wp2_with (at_builtin;refine Lib.wpList_append_own_string _ rfl _ _ 25 9 rfl C 5 i0 Tryz.underlying25 Tryz.underlying9 hi hz0 hz1 hz2 _ _ _ rfl hown s rfl (by unfold maxLen;omega) (by omega) (by omega) ?_;intro v' w2 hown' hgrow _;obtain ⟨a2,k2,c2,rfl⟩:=EI hown';have hblk2:=(hgrow.block b hlt (fun e=>hne e.symm)).trans hblk;obtain ⟨d1,f1⟩:=Gi hblk2)
 go_wp2_with fail;go_ret2
 have hbel:Below C w1 w2:=(Below.refl C w1).grown hgrow (by omega) (fun k hk=>(hown.lt k hk).1)
 have hch2:BI (I6 b C) w1 w2:=⟨hbel.os,hbel.tape,hbel.output,hbel.size,fun k hk hn=>hbel.block k (by
  unfold I6 at hn;rw [not_or] at hn;omega)⟩
 refine ⟨rfl,?_,(hch.trans hch2).set (.inl rfl) _ _⟩
 have hout:w2.ownsRow C 5 1 (.slice a2 k2 c2) (Lib.byteCells (l++s.toList)).length (Lib.byteCells (l++s.toList)):=by
  rw [Cj,List.length_append,Lib.byteCells_length,Lib.byteCells_length,<-Jp,Aa];exact hown'
 have hput:=Lib.BuilderAt.put (B:=0) (Nat.zero_le b) hblk2 (Dv hout (Nat.zero_le _)) Sd;obtain ⟨_,v3,hblk3,hown3,hne3⟩:=hput;have e3:=(A6 (i:=1) (v:= .slice a2 k2 c2) hblk2).symm.trans hblk3;simp only [Option.some.injEq,Obj.cells.injEq,and_true] at e3;have e4:(#[.pointer (some ⟨b,0,none⟩),v]:Array Value).setIfInBounds 1 (.slice a2 k2 c2)= #[.pointer (some ⟨b,0,none⟩),.slice a2 k2 c2]:=rfl;rw [e4] at e3;simp only [Array.mk.injEq,List.cons.injEq,and_true,true_and] at e3;subst e3;exact ⟨_,_,.inr rfl,hblk3,Ki hown3 hout,hne3⟩
end Go.Proofs.YtonomfeipkdmhaaGreatDoor
