/- Part 11: lemmas. -/
import Derived.Test.YtonomfeipkdmhaaGreatDoorK10
import Derived.Lib.LastIndexByte
set_option linter.unusedVariables false
set_option linter.unusedSimpArgs false
set_option maxRecDepth 100000
set_option maxHeartbeats 16000000
namespace Go.Proofs.YtonomfeipkdmhaaGreatDoor
open Go.RowKit
theorem CX (b:Nat) (T:TypeId):∀ (vs:List Value) (o:Nat) (w:World) (cur:Array Value),w.heap[b]? =some (.cells cur T (0,0))->∃ cur':Array Value,(w.setCells b o vs).heap[b]? =some (.cells cur' T (0,0))/\cur'.size=cur.size
 | [],o,w,cur,h=>⟨cur,h,rfl⟩
 | v :: r,o,w,cur,h=>by
  obtain ⟨c',h1,h2⟩:=CX b T r (o+1) (w.setCell ⟨b,o,none⟩ v) (cur.setIfInBounds o v) (by
   simp only [World.setCell,Array.getElem?_modify,if_true,h];rfl)
  exact ⟨c',h1,by rw [h2];simp⟩
theorem CZ {B:Nat} {a:World} (b:Nat) (hb:B<=b):∀ (vs:List Value) (o:Nat) (w:World),Below B a w->Below B a (w.setCells b o vs)
 | [],_,_,h=>h
 | v :: r,o,w,h=>CZ b hb r (o+1) _ (h.setCell (p:=⟨b,o,none⟩) hb v)
theorem D7 {w:World} {g:Nat} {cur:Array Value} {T:TypeId} (h:w.heap[g]? =some (.cells cur T (0,0))) (j:Nat):w.cell? ⟨g,j,none⟩=cur[j]? :=by simp [World.cell?,h]
theorem DS (n:Nat):(Builtin.zeroCells (Value.int .i64 0).cells n).size=n:=by simp [Builtin.zeroCells,Value.cells]
theorem Hx (w:World) (p:Addr):w.drew.cell? p=w.cell? p:=rfl
theorem FA {B:Nat} {a w:World} (h:Below B a w):Below B a w.drew:=⟨h.os,h.tape,h.output,h.size,h.block⟩
theorem ER {w:World} {B g cap:Nat} {cur:Array Value} {L:List Nat} (hB:B<=g) (hg:w.heap[g]? =some (.cells cur 3 (0,0))) (hs:cur.size=cap) (hcap:cap<=maxLen) (hl:L.length<=cap)
  (hc:∀ j (h:j<L.length),w.cell? ⟨g,j,none⟩=some (F3 L[j])):Ei w B (.slice (some ⟨g,0,none⟩) L.length cap) L:=by
 refine ⟨by simp,.inr ⟨g,cap,cur,rfl,hB,hg,hl,hcap,by rw [hs,Nat.mul_one],?_⟩⟩
 rw [Nat.mul_one];apply List.ext_getElem?;intro j
 by_cases hj:j<L.length
 ·have:=hc j hj;rw [D7 hg] at this;rw [List.getElem?_take,if_pos hj,Array.getElem?_toList,this,List.getElem?_map,List.getElem?_eq_getElem hj];rfl
 ·rw [List.getElem?_take,if_neg hj,List.getElem?_eq_none (by simpa using hj)]
theorem JN (l:List Nat) (p c:Nat) (hp:p<=l.length):(Gb l p c).length=l.length+1:=by unfold Gb;simp;omega
theorem Mb (l:List Nat) (p c:Nat) (hp:p<=l.length) (j:Nat) (hj:j<(Gb l p c).length):(Gb l p c)[j]=if j<p then l.getD j 0 else if j=p then c else l.getD (j - 1) 0:=by
 have e:(Gb l p c)[j]? =some (if j<p then l.getD j 0 else if j=p then c else l.getD (j - 1) 0):=by
  rw [JN l p c hp] at hj;unfold Gb;rw [List.getElem?_append,List.length_take,Nat.min_eq_left hp]
  by_cases h1:j<p
  ·rw [if_pos h1,if_pos h1,List.getElem?_take,if_pos h1,List.getElem?_eq_getElem (by omega),List.getD_eq_getElem?_getD,List.getElem?_eq_getElem (by omega)];rfl
  ·rw [if_neg h1,if_neg h1]
   by_cases h2:j=p
   ·subst h2;rw [if_pos rfl,Nat.sub_self];rfl
   ·rw [if_neg h2]
    obtain ⟨m,hm⟩:∃ m,j - p=m+1:=⟨j - p - 1,by omega⟩
    rw [hm,List.getElem?_cons_succ,List.getElem?_drop,show p+m=j - 1 by omega,List.getD_eq_getElem?_getD,List.getElem?_eq_getElem (by omega)];rfl
 exact Option.some.inj ((List.getElem?_eq_getElem hj).symm.trans e)
def Aht (w:World) (vb c:Nat):Prop:=w.heap[vb]? =some (.cells #[.int .i64 (c:Int)] 3 (0,0))
def Afx (L:List Nat) (B:Nat) (w:World) (e:Ending) (w':World):Prop:=∃ v:Value,e= .returned v/\Ei w' B v L/\Below B w w'
theorem Hz (l:List Nat) (j:Nat) (h:j<l.length):l.getD j 0=l[j]:=by rw [List.getD_eq_getElem?_getD,List.getElem?_eq_getElem h];rfl
theorem Py (v:Value) (B:Nat) (l:List Nat) (p c vb:Nat) (w:World) (hown:Ei w B v l) (hone:Aht w vb c) (hBv:B<=w.heap.size) (hne:∀ g n k,v= .slice (some ⟨g,0,none⟩) n k->vb≠g) (hp:p<=l.length) (hl:l.length<=1000000):
  Calls Tryz.prog 363 #[v,.int .i64 (p:Int),.slice (some ⟨vb,0,none⟩) 1 1] w (Afx (Gb l p c) B w):=by
 have hone':w.heap[vb]? =some (.cells #[.int .i64 (c:Int)] 3 (0,0)):=hone
 have hvs:∀ j u,[Value.int .i64 (c:Int)][j]? =some u->w.cell? ⟨vb,0+j,none⟩=some u:=by
  intro j u hj;rw [Nat.zero_add,D7 hone]
  match j,hj with
  | 0,hj=>exact hj
 have h1v:∀ u∈[Value.int .i64 (c:Int)],u.oneCell'=true:=by intro u hu;rw [List.mem_singleton.1 hu];rfl
 have hgc:=fun (w:World) (n k:Nat)=>grownCap_ge w n k 3
 have hgm:=fun (w:World) (n k:Nat) (h:n<=maxLen)=>grownCap_le_maxLen w n k 3 h
 have hbig:(l.length+1) * 8<=140737488355328:=by omega
 have hml:l.length+1<=maxLen:=by unfold maxLen;omega
 have hil:=JN l p c hp
 rcases hown.2 with ⟨rfl,hn⟩ | ⟨g,cap,cur,rfl,hg,hh,hcap,hcm,hcs,hcur⟩
 ·have hl0:l=[]:=List.eq_nil_of_length_eq_zero hn;subst hl0
  have hp0:p=0:=by simpa using hp
  subst hp0
  refine (Any2.slices_Insert_int_end_grow Tryz.lays2_21 none 0 0 vb 0 1 1 [] [.int .i64 (c:Int)] w (by decide) (Nat.le_refl _) (by decide) (by decide) rfl rfl (fun _=>rfl) (fun a h=>nomatch h) hvs h1v).mono ?_
  rintro e w' ⟨rfl,rfl⟩;refine ⟨_,rfl,?_,(FA (Below.refl _ _)).alloc hBv _⟩;have hge:=hgc w 1 0
  refine ER (L:=Gb [] 0 c) hBv (heap_alloc_new w.drew _) ?_ (hgm w 1 0 (by unfold maxLen;omega)) (by show 1<=_;exact hge) ?_
  ·show _=grownCap w (0+1) 0 3;rw [Array.size_append,DS];show 1+_=_;have:=hgc w (0+1) 0;have e:Tryz.lays2_21_ren.t 3=3:=rfl;rw [e];omega
  ·intro j hj
   have:j=0:=by have:j<1:=hj;omega
   subst this
   rw [D7 (w:=w.drew.alloc _) (g:=w.heap.size) (heap_alloc_new w.drew _),Array.getElem?_append_left (by simp)];rfl
 ·have hnb:vb≠g:=hne g _ _ rfl
  have hcell:∀ j (h:j<l.length),w.cell? ⟨g,j,none⟩=some (F3 l[j]):=fun j hj=>by
   have:=World.ownsRow.cellAt hown j (by omega)
   rw [this];simp [hj]
  have hcsl:∀ j u,(l.map F3)[j]? =some u->w.cell? ⟨g,0+j,none⟩=some u:=by
   intro j u hj;rw [List.getElem?_map] at hj
   by_cases h:j<l.length
   ·rw [List.getElem?_eq_getElem h] at hj;rw [Nat.zero_add,hcell j h];exact hj
   ·rw [List.getElem?_eq_none (by omega)] at hj;cases hj
  have h1c:∀ u∈l.map F3,u.oneCell'=true:=by intro u hu;obtain ⟨x,_,rfl⟩:=List.mem_map.1 hu;rfl
  have hcl:(l.map F3).length=l.length:=by simp
  have hcsz:cur.size=cap:=by rw [hcs,Nat.mul_one]
  have hgs:g<w.heap.size:=(Array.getElem?_eq_some_iff.1 hh).1
  have hsome:∀ j,j<cap->(w.cell? ⟨g,j,none⟩).isSome=true:=fun j hj=>by rw [D7 hh,Array.getElem?_eq_getElem (by omega)];rfl
  have hfz:∀ j,w.frozen? ⟨g,j,none⟩=false:=fun j=>by simp [World.frozen?,hh]
  by_cases hroom:l.length+1<=cap
  ·by_cases hpe:p=l.length
   ·subst hpe
    refine (Any2.slices_Insert_int_end_room Tryz.lays2_21 g 0 l.length cap vb 0 1 1 [.int .i64 (c:Int)] w (by decide) hroom (by unfold maxLen at hcm;omega) rfl (fun j hj=>hsome _ (by omega)) (fun j _=>hfz _) hvs h1v).mono ?_
    rintro e w' ⟨rfl,rfl⟩;obtain ⟨cur',h1,h2⟩:=CX g 3 [.int .i64 (c:Int)] (0+l.length) w cur hh;refine ⟨_,rfl,?_,CZ g hg _ _ _ (Below.refl _ _)⟩;rw [<-hil]
    refine ER hg h1 (h2.trans hcsz) hcm (by omega) (fun j hj=> ?_)
    rw [Mb l _ c hp j hj];rw [hil] at hj
    by_cases hjl:j<l.length
    ·rw [if_pos hjl,World.cell?_setCells_out g _ _ _ _ (fun _ _=>Or.inl (by show j<0+l.length;omega)),hcell j hjl,Hz l j hjl]
    ·have hjn:j=l.length:=by omega
     rw [if_neg hjl,if_pos hjn]
     have:=World.cell?_setCells_in g [.int .i64 (c:Int)] (0+l.length) w (fun j hj=>hsome _ (by simp at hj;omega)) 0 (by simp)
     rw [show 0+l.length+0=j by omega] at this
     rw [this];rfl
   ·have hpl:p<l.length:=by omega
    refine (Any2.slices_Insert_int_shift Tryz.lays2_21 g 0 l.length cap p vb 0 1 1 (l.map F3) [.int .i64 (c:Int)] w hpl (by decide) hroom (by unfold maxLen at hcm;omega) hnb hcl rfl hcsl (fun j hj=>by rw [Nat.zero_add];exact hsome _ (by omega)) (fun j _=>hfz _) hvs h1c h1v 3 3 1 cap
     (by simp only [World.shape?,hone'];rfl) (by simp only [World.shape?,hh,hcsz]) (by omega) (by simp [World.frozen?,show w.heap[vb]? =_ from hone]) (by simp [World.frozen?,show w.heap[vb]? =_ from hone])).mono ?_
    rintro e w' ⟨rfl,rfl⟩;obtain ⟨cur1,h1,h2⟩:=CX g 3 ((l.map F3).drop p) (0+(p+1)) w.drew cur hh;obtain ⟨cur2,h3,h4⟩:=CX g 3 [.int .i64 (c:Int)] (0+p) _ cur1 h1;refine ⟨_,rfl,?_,CZ g hg _ _ _ (CZ g hg _ _ _ (FA (Below.refl _ _)))⟩;rw [<-hil]
    have hs1:∀ j,j<cap->((w.drew.setCells g (0+(p+1)) ((l.map F3).drop p)).cell? ⟨g,j,none⟩).isSome=true:=fun j hj=>by rw [D7 h1,Array.getElem?_eq_getElem (by omega)];rfl
    refine ER hg h3 (h4.trans (h2.trans hcsz)) hcm (by omega) (fun j hj=> ?_)
    rw [Mb l _ c hp j hj];rw [hil] at hj
    by_cases hjp:j<p
    ·rw [if_pos hjp,World.cell?_setCells_out g _ _ _ _ (fun _ _=>Or.inl (by show j<0+p;omega)),World.cell?_setCells_out g _ _ _ _ (fun _ _=>Or.inl (by show j<0+(p+1);omega)),Hx,hcell j (by omega),Hz l j (by omega)]
    ·rw [if_neg hjp]
     by_cases hjn:j=p
     ·rw [if_pos hjn]
      have:=World.cell?_setCells_in g [.int .i64 (c:Int)] (0+p) _ (fun j hj=>hs1 _ (by simp at hj;omega)) 0 (by simp)
      rw [show 0+p+0=j by omega] at this
      rw [this];rfl
     ·rw [if_neg hjn,World.cell?_setCells_out g _ _ _ _ (fun _ _=>Or.inr (by show 0+p+1<=j;omega))]
      have:=World.cell?_setCells_in g ((l.map F3).drop p) (0+(p+1)) w.drew (fun j hj=>by rw [Hx];exact hsome _ (by simp at hj;omega)) (j - (p+1)) (by simp;omega)
      rw [show 0+(p+1)+(j - (p+1))=j by omega] at this
      rw [this,Hz l (j - 1) (by omega)]
      simp only [List.getElem_drop,List.getElem_map];congr 3;omega
  ·have hnc:cap<l.length+1:=by omega
   have hge:=hgc w (l.length+1) cap;have hgl:=hgm w (l.length+1) cap hml
   by_cases hpe:p=l.length
   ·subst hpe
    refine (Any2.slices_Insert_int_end_grow Tryz.lays2_21 (some ⟨g,0,none⟩) l.length cap vb 0 1 1 (l.map F3) [.int .i64 (c:Int)] w (by decide) hcap hnc hbig hcl rfl (fun h=>nomatch h) (fun a h j u hj=>by
     cases h
     have e:(⟨g,0,none⟩:Addr).add j=⟨g,0+j,none⟩:=by unfold Addr.add;split<;>simp_all
     rw [e];exact hcsl j u hj) hvs h1v).mono ?_
    rintro e w' ⟨rfl,rfl⟩;refine ⟨_,rfl,?_,(FA (Below.refl _ _)).alloc hBv _⟩;rw [<-hil]
    refine ER hBv (heap_alloc_new w.drew _) ?_ (by rw [hil];exact hgl) (by rw [hil];exact hge) ?_
    ·rw [Array.size_append,DS,hil];have e:Tryz.lays2_21_ren.t 3=3:=rfl;rw [e];simp;omega
    ·intro j hj;rw [Mb l _ c hp j hj];rw [hil] at hj
     rw [D7 (w:=w.drew.alloc _) (g:=w.heap.size) (heap_alloc_new w.drew _),Array.getElem?_append_left (by simp;omega),List.getElem?_toArray,List.getElem?_append]
     by_cases hjl:j<l.length
     ·rw [if_pos (by simpa using hjl),if_pos hjl,List.getElem?_map,List.getElem?_eq_getElem hjl,Hz l j hjl];rfl
     ·have hjn:j=l.length:=by omega
      rw [if_neg (by simpa using hjl),if_neg hjl,if_pos hjn,hjn];simp;rfl
   ·have hpl:p<l.length:=by omega
    refine (Any2.slices_Insert_int_grow Tryz.lays2_21 g 0 l.length cap p vb 0 1 1 (l.map F3) [.int .i64 (c:Int)] w hpl (by decide) hcap hnc hbig hcl rfl hcsl hvs h1c h1v).mono ?_
    rintro e w' ⟨rfl,rfl⟩;have er:Tryz.lays2_21_ren.t 3=3:=rfl;rw [er];obtain ⟨row,hrow⟩:∃ row,((l.map F3).take p).toArray++Builtin.zeroCells (Value.int .i64 0).cells (l.length+1 - p)++Builtin.zeroCells (Value.int .i64 0).cells (grownCap w (l.length+1) cap 3 - (l.length+1))=row:=⟨_,rfl⟩;rw [hrow]
    have hrs:row.size=grownCap w (l.length+1) cap 3:=by
     rw [<-hrow,Array.size_append,Array.size_append,DS,DS];simp;omega
    have h0:(w.alloc (.cells row 3)).drew.heap[w.heap.size]? =some (.cells row 3 (0,0)):=heap_alloc_new w _;obtain ⟨cur1,h1,h2⟩:=CX w.heap.size 3 [.int .i64 (c:Int)] p _ row h0;obtain ⟨cur2,h3,h4⟩:=CX w.heap.size 3 ((l.map F3).drop p) (p+1) ((w.alloc (.cells row 3)).drew.setCells w.heap.size p [.int .i64 (c:Int)]).drew cur1 h1;have hB0:Below B w (w.alloc (.cells row 3)).drew:=FA ((Below.refl _ _).alloc hBv _);refine ⟨_,rfl,?_,CZ _ hBv _ _ _ (FA (CZ _ hBv _ _ _ hB0))⟩;rw [<-hil]
    have hs0:∀ j,j<row.size->((w.alloc (.cells row 3)).drew.cell? ⟨w.heap.size,j,none⟩).isSome=true:=fun j hj=>by rw [D7 h0,Array.getElem?_eq_getElem hj];rfl
    have hs1:∀ j,j<row.size->(((w.alloc (.cells row 3)).drew.setCells w.heap.size p [.int .i64 (c:Int)]).drew.cell? ⟨w.heap.size,j,none⟩).isSome=true:=fun j hj=>by rw [Hx,D7 h1,Array.getElem?_eq_getElem (by omega)];rfl
    refine ER hBv h3 (h4.trans (h2.trans (hrs.trans (by rw [hil])))) (by rw [hil];exact hgl) (by rw [hil];exact hge) (fun j hj=> ?_)
    rw [Mb l _ c hp j hj];rw [hil] at hj
    by_cases hjp:j<p
    ·rw [if_pos hjp,World.cell?_setCells_out _ _ _ _ _ (fun _ _=>Or.inl (by show j<p+1;omega)),Hx,World.cell?_setCells_out _ _ _ _ _ (fun _ _=>Or.inl hjp),D7 h0,<-hrow,Array.getElem?_append_left (by rw [Array.size_append,DS];simp;omega),Array.getElem?_append_left (by simp;omega),List.getElem?_toArray,List.getElem?_take,if_pos hjp,List.getElem?_map,List.getElem?_eq_getElem (by omega),Hz l j (by omega)];rfl
    ·rw [if_neg hjp]
     by_cases hjn:j=p
     ·rw [if_pos hjn,World.cell?_setCells_out _ _ _ _ _ (fun _ _=>Or.inl (by show j<p+1;omega)),Hx]
      have:=World.cell?_setCells_in w.heap.size [.int .i64 (c:Int)] p (w.alloc (.cells row 3)).drew (fun j hj=>hs0 _ (by simp at hj;omega)) 0 (by simp)
      rw [show p+0=j by omega] at this
      rw [this];rfl
     ·rw [if_neg hjn]
      have:=World.cell?_setCells_in w.heap.size ((l.map F3).drop p) (p+1) ((w.alloc (.cells row 3)).drew.setCells w.heap.size p [.int .i64 (c:Int)]).drew (fun j hj=>hs1 _ (by simp at hj;omega)) (j - (p+1)) (by simp;omega)
      rw [show p+1+(j - (p+1))=j by omega] at this
      rw [this,Hz l (j - 1) (by omega)]
      simp only [List.getElem_drop,List.getElem_map];congr 3;omega
theorem KM (s:ByteArray) (c:UInt8):(Lib.lastIndexByte s (c.toNat:Int)= -1/\CN c s.toList=none)\/∃ i:Nat,i<s.size/\Lib.lastIndexByte s (c.toNat:Int)=(i:Int)/\CN c s.toList=some (s.toList.take i,s.toList.drop (i+1)):=by
 have hget:∀ (j:Nat) (h:j<s.size),s.data[j]! =s[j]:=fun j h=>by
  rw [getElem!_pos s.data j h];rfl
 unfold Lib.lastIndexByte
 rcases Lib.lastIdx_spec s (c.toNat:Int) s.size with ⟨h1,h2⟩ | ⟨i,hi,h1,h2,h3⟩
 ·refine .inl ⟨h1,E4 fun x hx=> ?_⟩
  obtain ⟨j,hj,rfl⟩:=List.getElem_of_mem hx;rw [Aa] at hj;have:=h2 j hj;rw [hget j hj] at this;rw [CS s j hj];intro e
  exact this (by rw [e])
 ·refine .inr ⟨i,hi,h1,?_⟩;rw [hget i hi] at h2
  have e:s[i]=c:=UInt8.toNat_inj.1 (by omega)
  have hs:s.toList=s.toList.take i++c :: s.toList.drop (i+1):=by
   rw [<-e,<-Ao s i hi,List.take_append_drop]
  conv=>lhs;rw [hs]
  refine ET (fun x hx=> ?_) _
  obtain ⟨j,hj,rfl⟩:=List.getElem_of_mem hx;rw [List.length_drop,Aa] at hj
  rw [List.getElem_drop,CS s (i+1+j) (by omega)]
  have:=h3 (i+1+j) (by omega) (by omega)
  rw [hget _ (by omega)] at this
  intro e2
  exact this (by rw [e2])
def Tt (o:Option (List Nat)) (w:World) (e:Ending) (w':World):Prop:=match o with
 | none=>e= .returned (.tuple #[.slice none 0 0,.bool false])/\Below w.heap.size w w'
 | some l=>∃ v:Value,e= .returned (.tuple #[v,.bool true])/\Ei w' w.heap.size v l/\Below w.heap.size w w'
theorem CD {o:Option (List Nat)} {w w':World} (h:o=none) (hb:Below w.heap.size w w'):Tt o w (.returned (.tuple #[.slice none 0 0,.bool false])) w':=by subst h;exact ⟨rfl,hb⟩
theorem LW {o:Option (List Nat)} {w w':World} {v:Value} {l:List Nat} (h:o=some l) (ho:Ei w' w.heap.size v l) (hb:Below w.heap.size w w'):Tt o w (.returned (.tuple #[v,.bool true])) w':=by subst h;exact ⟨v,rfl,ho,hb⟩
theorem OU {f:Nat} {s:List UInt8} {st:Db} (h:s≠[]):Dr (f+1) s st=match Kv st.bias s 0 0 1 with | none=>none | some (d,n)=>match D5 st d with | none=>none | some st'=>Dr f (s.drop n) st':=by rw [Dr,if_neg h];rfl
theorem RD {f:Nat} {st:Db}:Dr (f+1) [] st=some st.l:=by rw [Dr,if_pos rfl]
theorem Wi {st st':Db} {d:Nat} (h:D5 st d=some st'):st'.l.length<=st.l.length+1:=by
 unfold D5 at h;split at h
 ·cases h
 ·cases h;show (Gb st.l ((st.p+d) % (st.l.length+1)) _).length<=_
  have:=Nat.mod_lt (st.p+d) (show 0<st.l.length+1 by omega)
  rw [JN _ _ _ (by omega)];exact Nat.le_refl _
structure AeM (R:Option (List Nat)) (W wr:World) (B:Nat) (v0 v4 v7 v8 v9 v10:Value) (r:ByteArray) (f:Nat) (st:Db):Prop where
 s:v0= .string r
 row:Ei wr B v4 st.l
 p:v7= .int .i64 (st.p:Int)
 sign:v8= .int .i64 (st.sign:Int)
 bias:v9= .int .i64 (st.bias:Int)
 first:v10= .bool st.first
 len:st.l.length<=255
 pl:st.p<=255
 sl:st.sign<=1114111
 bl:st.bias<=756
 fuel:r.size<f
 res:Hid (R=Dr f r.toList st)
 below:Below B W wr
theorem JO {w:World} {B:Nat} {v:Value} {l:List Nat} (h:Ei w B v l):∃ a c,v= .slice a l.length c/\∀ g n k,v= .slice (some ⟨g,0,none⟩) n k->g<w.heap.size:=by
 rcases h.2 with ⟨rfl,hn⟩ | ⟨g,cap,cur,rfl,hg,hh,_⟩
 ·exact ⟨none,0,by rw [hn],fun g n k e=>by cases e⟩
 ·exact ⟨_,_,rfl,fun g' n k e=>by cases e;exact (Array.getElem?_eq_some_iff.1 hh).1⟩
theorem WR (s:ByteArray) (w:World) (hz:s.size<=100000000):Calls Tryz.prog 352 #[.string s] w (Tt (MD s.toList) w):=by
 obtain ⟨R,hR⟩:=N2 (MD s.toList);rw [hR]
 have hli:=fun w=>Tryz.strings_LastIndexByte s 45 (by omega) w
 have hcut:=KM s 45;rw [show (((45:UInt8).toNat:Nat):Int)=45 from rfl] at hcut
 have hway:(∃ z:Int,Lib.lastIndexByte s 45=z/\z<=0/\Hid (R=Dr (s.size+1) s.toList (Ob [])))\/∃ i:Nat,Lib.lastIndexByte s 45=(i:Int)/\0<i/\i<s.size/\Hid (R=if 255<i then none else if (s.toList.take i).all Og=true then Dr (s.size - (i+1)+1) (s.toList.drop (i+1)) (Ob ((s.toList.take i).map (·.toNat))) else none):=by
  rcases hcut with ⟨h1,h2⟩ | ⟨i,hi,h1,h2⟩
  ·refine .inl ⟨-1,h1,by omega,H0 ?_⟩
   rw [<-hR];unfold MD;rw [h2,Aa]
  ·by_cases h0:i=0
   ·refine .inl ⟨0,by rw [h1,h0];rfl,by omega,H0 ?_⟩
    rw [<-hR];unfold MD;rw [h2,h0];dsimp only;rw [List.take_zero,if_pos rfl,Aa]
   ·refine .inr ⟨i,h1,by omega,hi,H0 ?_⟩
    have hl:(s.toList.take i).length=i:=by rw [List.length_take,Aa];omega
    have hl2:(s.toList.drop (i+1)).length=s.size - (i+1):=by rw [List.length_drop,Aa]
    rw [<-hR];unfold MD;rw [h2];dsimp only
    rw [if_neg (by intro e;rw [e] at hl;simp at hl;omega),hl,hl2]
 clear hcut;replace hR:=H0 hR
 rcases hway with ⟨z,hz1,hz0,hres0⟩ | ⟨i,hz1,hi0,hi,hres0⟩
 ·rw [hz1] at hli;replace hz1:=H0 hz1;replace hli:=H0 hli;go_enter Tryz.func352,Tryz.ntmps352;go_wp2_with fail;refine (hli.out _).mono ?_;rintro e w1 ⟨rfl,hw⟩;obtain rfl:=hw.symm;go_wp2_with fail
  go_loopw [0,4,7,8,9,10] (fun v0 v4 v7 v8 v9 v10 wr=>∃ (r:ByteArray) (f:Nat) (st:Db),r.size<=s.size/\AeM R w wr w.heap.size v0 v4 v7 v8 v9 v10 r f st) (fun v0 _ _ _ _ _ _=>LK v0)
  case atStart=>exact ⟨s,s.size+1,Ob [],Nat.le_refl _,rfl,Ei.nil _ _,rfl,rfl,rfl,rfl,Nat.zero_le _,Nat.zero_le _,by show 128<=1114111;decide,by show 72<=756;decide,by omega,hres0,Below.refl _ _⟩
  case round=>
   obtain ⟨r,f,⟨p0,sg,bs,fi,l0⟩,hrz,hD⟩:=hrel;obtain ⟨rfl,hrow,rfl,rfl,rfl,rfl,hlen,hpl,hsl,hbl,hfu,hres,hbel⟩:=hD;dsimp only at hrow hlen hpl hsl hbl hres⊢;obtain ⟨a4,c4,rfl,hlt4⟩:=JO hrow;have hszw:=hbel.size
   obtain ⟨f,rfl⟩:∃ g,f=g+1:=⟨f - 1,by omega⟩
   by_cases h0:r.size=0
   ·have hnil:=(At r).2 h0
    have hemp:r.toList.isEmpty=true:=by rw [hnil];rfl
    have hfin:Hid (R=some l0):=H0 (by rw [hres.out,hnil,RD])
    replace hnil:=H0 hnil;replace h0:=H0 h0;replace hlt4:=H0 hlt4;go_wp2_with fail;go_ret2;exact LW hfin.out hrow hbel
   ·have hne:r.toList≠[]:=fun e=>h0 ((At r).1 e)
    have hemp:r.toList.isEmpty=false:=by
     cases hr:r.toList with
     | nil=>exact absurd hr hne
     | cons a b=>rfl
    have hrd:=H0 (fun w=>Vz r bs w (by omega) (by omega))
    have hst:=hres.out;rw [OU hne] at hst;dsimp only at hst;replace hne:=H0 hne;replace h0:=H0 h0
    cases ho:Kv bs r.toList 0 0 1 with
    | none=>
     rw [ho] at hrd hst;dsimp only at hst;replace hst:=H0 hst;replace ho:=H0 ho;replace hlt4:=H0 hlt4;go_wp2_with fail;refine (hrd.out _).mono ?_;rintro e w1 ⟨rfl,rfl⟩;go_wp2_with fail;go_ret2;exact CD hst.out hbel
    | some dn=>
     obtain ⟨d,n⟩:=dn;rw [ho] at hrd hst;dsimp only at hst;obtain ⟨hn0,hnl,hdl⟩:=MO bs _ 0 0 1 d n ho;rw [Aa,Nat.zero_add] at hnl;replace ho:=H0 ho
     have en:((n:Int)==0)=false:=by rw [beq_eq_false_iff_ne];omega
     have hnI:(n:Int)<=(r.size:Int):=by omega
     have hn0I:(0:Int)<=(n:Int):=by omega
     have hC:Hid ((r.extract n r.size).toList=r.toList.drop n):=H0 (by rw [toList_extract,List.take_of_length_le (by rw [Aa];omega)])
     have hCz:Hid ((r.extract n r.size).size=r.size - n):=H0 (by rw [ByteArray.size_extract];omega)
     obtain ⟨N,hN⟩:=N2 (l0.length);obtain ⟨Q,hQ⟩:=N2 (p0+d);obtain ⟨q,hq⟩:=N2 (Q / (N+1));obtain ⟨m,hm⟩:=N2 (Q % (N+1));obtain ⟨S,hS⟩:=N2 (sg+q)
     have hstep:D5 ⟨p0,sg,bs,fi,l0⟩ d=if (decide (N=255) || !Bd S)=true then none else some ⟨m+1,S,EO d (N+1) fi,false,Gb l0 m S⟩:=by
      unfold D5;dsimp only;rw [hN,hQ,hq,hm,hS]
     rw [hstep] at hst
     have hql:q<=Q:=by rw [<-hq];exact Nat.div_le_self _ _
     have hml:m<N+1:=by rw [<-hm];exact Nat.mod_lt _ (by omega)
     have hQl:Q<=2147483902:=by omega
     have hSl:S<=2148598013:=by omega
     have eQ:(p0:Int)+(d:Int)=(Q:Int):=by omega
     have eq':(Q:Int) / ((N:Int)+1)=(q:Int):=by rw [<-hq];simp
     have em:(Q:Int) % ((N:Int)+1)=(m:Int):=by rw [<-hm];simp
     have eS:(sg:Int)+(q:Int)=(S:Int):=by omega
     have hneN:¬ ((N:Int)+1=0):=by omega
     have hneN2:(((N:Int)+1)==0)=false:=by rw [beq_eq_false_iff_ne];omega
     have Q0:(0:Int)<=(Q:Int):=by omega
     have Q1:(Q:Int)<=2147483902:=by omega
     have q0:(0:Int)<=(q:Int):=by omega
     have q1:(q:Int)<=2147483902:=by omega
     have m0:(0:Int)<=(m:Int):=by omega
     have m1:(m:Int)<=255:=by omega
     have S0:(0:Int)<=(S:Int):=by omega
     have S1:(S:Int)<=2148598013:=by omega
     have N0:(0:Int)<=(N:Int):=by omega
     have N1:(N:Int)<=255:=by omega
     have d0:(0:Int)<=(d:Int):=by omega
     have d1:(d:Int)<=2147483647:=by omega
     have p00:(0:Int)<=(p0:Int):=by omega
     have p01:(p0:Int)<=255:=by omega
     have sg0:(0:Int)<=(sg:Int):=by omega
     have sg1:(sg:Int)<=1114111:=by omega
     have hrow2:=hrow;rw [hN] at hrow2⊢;replace hN:=H0 hN;replace hQ:=H0 hQ;replace hq:=H0 hq;replace hm:=H0 hm;replace hS:=H0 hS;replace hstep:=H0 hstep
     have hsg:=H0 (fun w=>KV S w)
     by_cases h255:N=255
     ·have e255:((N:Int)==255)=true:=by rw [h255];rfl
      rw [if_pos (by rw [decide_eq_true h255];rfl)] at hst
      replace hst:=H0 hst;replace h255:=H0 h255;replace hlt4:=H0 hlt4;go_wp2_with fail;refine (hrd.out _).mono ?_;rintro e w1 ⟨rfl,rfl⟩;go_wp2_with fail;go_ret2;exact CD hst.out hbel
     ·have e255:((N:Int)==255)=false:=by rw [beq_eq_false_iff_ne];omega
      rw [decide_eq_false h255,Bool.false_or] at hst;obtain ⟨sb,hsb⟩:∃ b,Bd S=b:=⟨_,rfl⟩;rw [hsb] at hsg hst;cases sb
      ·rw [Bool.not_false,if_pos rfl] at hst;replace hst:=H0 hst;replace hsb:=H0 hsb;replace h255:=H0 h255;replace hlt4:=H0 hlt4;go_wp2_with fail;refine (hrd.out _).mono ?_;rintro e w1 ⟨rfl,rfl⟩;go_wp2_with fail;refine (hsg.out _).mono ?_;rintro e w2 ⟨rfl,rfl⟩;go_wp2_with fail;go_ret2;exact CD hst.out hbel
      ·rw [if_neg (by decide)] at hst
       dsimp only at hst
       have hS2:S<=1114111:=by
        unfold Bd at hsb;rw [Bool.and_eq_true,decide_eq_true_iff] at hsb;exact hsb.1
       have hins:=H0 (Py (.slice a4 N c4) w.heap.size l0 m S wr.heap.size (wr.alloc (.cells #[.int .i64 (S:Int)] 3)) (hrow2.below ((Below.refl wr.heap.size wr).alloc (Nat.le_refl _) _) (Nat.le_refl _)) (heap_alloc_new wr _) (by simp;omega)
        (fun g n' k e=>by have:=hlt4 g n' k (by rw [hN.out];exact e);omega) (by rw [hN.out];omega) (by rw [hN.out];omega))
       have hil:Hid ((Gb l0 m S).length=N+1):=H0 (by rw [JN _ _ _ (by rw [hN.out];omega),hN.out])
       have hnb:=H0 (fun w=>Iw d (N+1) fi w hdl (by omega) (by omega))
       have hnbl:=MI d (N+1) fi hdl;obtain ⟨nb,hnbe⟩:∃ b,EO d (N+1) fi=b:=⟨_,rfl⟩;rw [hnbe] at hnb hst hnbl
       have hnew:Hid (R=Dr f (r.extract n r.size).toList ⟨m+1,S,nb,false,Gb l0 m S⟩):=H0 (by rw [hC.out];exact hst)
       replace hst:=H0 hst;replace hsb:=H0 hsb;replace hnbe:=H0 hnbe;replace h255:=H0 h255;replace hlt4:=H0 hlt4
       have eN:(((N+1:Nat):Int))=(N:Int)+1:=by omega
       go_wp2_with fail;refine (hrd.out _).mono ?_;rintro e w1 ⟨rfl,rfl⟩;go_wp2_with fail;refine (hsg.out _).mono ?_;rintro e w2 ⟨rfl,rfl⟩;go_wp2_with fail;refine hins.out.mono ?_;rintro e w3 ⟨v3,rfl,ho3,hb3⟩;obtain ⟨a5,c5,rfl,-⟩:=JO ho3;have hbel3:=(hbel.alloc hszw _).trans hb3;have ho4:=ho3;rw [hil.out] at ho3⊢;rw [eN] at hnb;replace eN:=H0 eN;go_wp2_with fail;refine (hnb.out _).mono ?_;rintro e w4 ⟨rfl,rfl⟩;go_wp2_with fail;go_roundw
       case rel=>exact ⟨r.extract n r.size,f,⟨m+1,S,nb,false,Gb l0 m S⟩,by rw [hCz.out];omega,rfl,ho3,by first | rfl | (congr 1<;>omega),by first | rfl | (congr 1<;>omega),rfl,rfl,by rw [hil.out];have:=h255.out;omega,by show m+1<=255;have:=h255.out;omega,hS2,hnbl,by rw [hCz.out];omega,hnew,hbel3⟩
       case measure=>simp only [LK];have:=hCz.out;omega
 ·rw [hz1] at hli;replace hz1:=H0 hz1;replace hli:=H0 hli
  have hiI:(0:Int)<(i:Int):=by omega
  by_cases h255:255<i
  ·have h255I:(255:Int)<(i:Int):=by omega
   have hfin:Hid (R=none):=H0 (by rw [hres0.out,if_pos h255])
   replace h255:=H0 h255;go_enter Tryz.func352,Tryz.ntmps352;go_wp2_with fail;refine (hli.out _).mono ?_;rintro e w1 ⟨rfl,hw⟩;obtain rfl:=hw.symm;go_wp2_with fail;go_ret2;exact CD hfin.out (Below.refl _ _)
  ·have h255I:(i:Int)<=255:=by omega
   have hres1:Hid (R=if (s.toList.take i).all Og=true then Dr (s.size - (i+1)+1) (s.toList.drop (i+1)) (Ob ((s.toList.take i).map (·.toNat))) else none):=H0 (by rw [hres0.out,if_neg h255])
   replace hres0:=H0 hres0;go_enter Tryz.func352,Tryz.ntmps352;go_wp2_with fail;refine (hli.out _).mono ?_;rintro e w1 ⟨rfl,hw⟩;obtain rfl:=hw.symm;go_wp2_with fail
   go_loopw [4,20] (fun v4 v20 wr=>∃ k:Nat,v20= .int .i64 k/\k<=i/\Ei wr w.heap.size v4 ((s.toList.take k).map (·.toNat))/\Below w.heap.size w wr/\Hid ((s.toList.take k).all Og=true)) (fun _ v20 _=>i - (intOf v20).toNat)
   case atStart=>exact ⟨0,rfl,Nat.zero_le _,Ei.nil _ _,Below.refl _ _,H0 rfl⟩
   case round=>
    obtain ⟨k,rfl,hk,hown,hbel,hlow⟩:=hrel;have hszw:=hbel.size
    by_cases hlt:k<i
    ·have hltI:(k:Int)<(i:Int):=by omega
     have hks:k<s.size:=by omega
     have hksI:(k:Int)<(s.size:Int):=by omega
     have hts:=A5 s k hks;obtain ⟨c,hc⟩:=N2 (s[k]);rw [hc] at hts;have b0:=AC c;have b1:=AK c
     by_cases hlo:c.toNat<128
     ·have hloI:(c.toNat:Int)<128:=by omega
      have hln:Hid ((s.toList.take (k+1)).all Og=true):=H0 (by rw [hts,List.all_append,hlow.out];simp [Og,hlo])
      have hmp:Hid ((s.toList.take (k+1)).map (·.toNat)=(s.toList.take k).map (·.toNat)++[c.toNat]):=H0 (by rw [hts,List.map_append];rfl)
      have hll:((s.toList.take k).map (·.toNat)).length<=1000:=by rw [List.length_map,List.length_take];omega
      replace hts:=H0 hts;replace hlo:=H0 hlo
      go_wp2_with (at_builtin;refine LI rfl _ _ rfl c.toNat rfl rfl hown hbel hszw rfl (by omega) ?_;intro v' w' ho' hb' _)
      go_wp2_with fail;go_roundw
      case rel=>exact ⟨k+1,by go_num,by omega,by rw [hmp.out];exact ho',hb',hln⟩
      case measure=>simp [intOf];omega
     ·have hloI:(128:Int)<=(c.toNat:Int):=by omega
      have hfin:Hid (R=none):=H0 (by
       rw [hres1.out,if_neg];intro h
       have hm:c∈s.toList.take i:=by
        have h1:c∈s.toList.take (k+1):=by rw [hts];simp
        have e2:(s.toList.take i).take (k+1)=s.toList.take (k+1):=by rw [List.take_take];congr 1;omega
        rw [<-e2] at h1;exact List.mem_of_mem_take h1
       have:=List.all_eq_true.1 h c hm;unfold Og at this
       simp at this;omega)
      replace hts:=H0 hts;replace hlo:=H0 hlo;go_wp2_with fail;go_ret2;exact CD hfin.out hbel
    ·obtain rfl:k=i:=by omega
     have hres2:Hid (R=Dr (s.size - (k+1)+1) (s.extract (k+1) s.size).toList (Ob ((s.toList.take k).map (·.toNat)))):=H0 (by
      rw [hres1.out,if_pos hlow.out,toList_extract,List.take_of_length_le (l:=s.toList) (i:=s.size) (by rw [Aa];exact Nat.le_refl _)])
     have hz3:Hid ((s.extract (k+1) s.size).size=s.size - (k+1)):=H0 (by rw [ByteArray.size_extract];omega)
     have hll:Hid (((s.toList.take k).map (·.toNat)).length<=255):=H0 (by rw [List.length_map,List.length_take];omega)
     have k0:(0:Int)<=(k:Int)+1:=by omega
     have k1:(k:Int)+1<=(s.size:Int):=by omega
     have kt:((k:Int)+1).toNat=k+1:=by omega
     replace hres1:=H0 hres1
     obtain ⟨L,hL⟩:∃ L,(s.toList.take k).map (·.toNat)=L:=⟨_,rfl⟩
     rw [hL] at hown hres2 hll;replace hL:=H0 hL;obtain ⟨a4,c4,rfl,-⟩:=JO hown;go_wp2_with fail
     go_loopw [0,4,7,8,9,10] (fun v0 v4 v7 v8 v9 v10 wr=>∃ (r:ByteArray) (f:Nat) (st:Db),r.size<=s.size/\AeM R w wr w.heap.size v0 v4 v7 v8 v9 v10 r f st) (fun v0 _ _ _ _ _ _=>LK v0)
     case atStart=>exact ⟨s.extract (k+1) s.size,s.size - (k+1)+1,Ob L,by rw [hz3.out];omega,rfl,hown,rfl,rfl,rfl,rfl,hll.out,Nat.zero_le _,by show 128<=1114111;decide,by show 72<=756;decide,by rw [hz3.out];omega,hres2,hbel⟩
     case round=>
      obtain ⟨r,f,⟨p0,sg,bs,fi,l0⟩,hrz,hD⟩:=hrel;obtain ⟨rfl,hrow,rfl,rfl,rfl,rfl,hlen,hpl,hsl,hbl,hfu,hres,hbel⟩:=hD;dsimp only at hrow hlen hpl hsl hbl hres⊢;obtain ⟨a4,c4,rfl,hlt4⟩:=JO hrow;have hszw:=hbel.size
      obtain ⟨f,rfl⟩:∃ g,f=g+1:=⟨f - 1,by omega⟩
      by_cases h0:r.size=0
      ·have hnil:=(At r).2 h0
       have hemp:r.toList.isEmpty=true:=by rw [hnil];rfl
       have hfin:Hid (R=some l0):=H0 (by rw [hres.out,hnil,RD])
       replace hnil:=H0 hnil;replace h0:=H0 h0;replace hlt4:=H0 hlt4;go_wp2_with fail;go_ret2;exact LW hfin.out hrow hbel
      ·have hne:r.toList≠[]:=fun e=>h0 ((At r).1 e)
       have hemp:r.toList.isEmpty=false:=by
        cases hr:r.toList with
        | nil=>exact absurd hr hne
        | cons a b=>rfl
       have hrd:=H0 (fun w=>Vz r bs w (by omega) (by omega))
       have hst:=hres.out;rw [OU hne] at hst;dsimp only at hst;replace hne:=H0 hne;replace h0:=H0 h0
       cases ho:Kv bs r.toList 0 0 1 with
       | none=>
        rw [ho] at hrd hst;dsimp only at hst;replace hst:=H0 hst;replace ho:=H0 ho;replace hlt4:=H0 hlt4;go_wp2_with fail;refine (hrd.out _).mono ?_;rintro e w1 ⟨rfl,rfl⟩;go_wp2_with fail;go_ret2;exact CD hst.out hbel
       | some dn=>
        obtain ⟨d,n⟩:=dn;rw [ho] at hrd hst;dsimp only at hst;obtain ⟨hn0,hnl,hdl⟩:=MO bs _ 0 0 1 d n ho;rw [Aa,Nat.zero_add] at hnl;replace ho:=H0 ho
        have en:((n:Int)==0)=false:=by rw [beq_eq_false_iff_ne];omega
        have hnI:(n:Int)<=(r.size:Int):=by omega
        have hn0I:(0:Int)<=(n:Int):=by omega
        have hC:Hid ((r.extract n r.size).toList=r.toList.drop n):=H0 (by rw [toList_extract,List.take_of_length_le (by rw [Aa];omega)])
        have hCz:Hid ((r.extract n r.size).size=r.size - n):=H0 (by rw [ByteArray.size_extract];omega)
        obtain ⟨N,hN⟩:=N2 (l0.length);obtain ⟨Q,hQ⟩:=N2 (p0+d);obtain ⟨q,hq⟩:=N2 (Q / (N+1));obtain ⟨m,hm⟩:=N2 (Q % (N+1));obtain ⟨S,hS⟩:=N2 (sg+q)
        have hstep:D5 ⟨p0,sg,bs,fi,l0⟩ d=if (decide (N=255) || !Bd S)=true then none else some ⟨m+1,S,EO d (N+1) fi,false,Gb l0 m S⟩:=by
         unfold D5;dsimp only;rw [hN,hQ,hq,hm,hS]
        rw [hstep] at hst
        have hql:q<=Q:=by rw [<-hq];exact Nat.div_le_self _ _
        have hml:m<N+1:=by rw [<-hm];exact Nat.mod_lt _ (by omega)
        have hQl:Q<=2147483902:=by omega
        have hSl:S<=2148598013:=by omega
        have eQ:(p0:Int)+(d:Int)=(Q:Int):=by omega
        have eq':(Q:Int) / ((N:Int)+1)=(q:Int):=by rw [<-hq];simp
        have em:(Q:Int) % ((N:Int)+1)=(m:Int):=by rw [<-hm];simp
        have eS:(sg:Int)+(q:Int)=(S:Int):=by omega
        have hneN:¬ ((N:Int)+1=0):=by omega
        have hneN2:(((N:Int)+1)==0)=false:=by rw [beq_eq_false_iff_ne];omega
        have Q0:(0:Int)<=(Q:Int):=by omega
        have Q1:(Q:Int)<=2147483902:=by omega
        have q0:(0:Int)<=(q:Int):=by omega
        have q1:(q:Int)<=2147483902:=by omega
        have m0:(0:Int)<=(m:Int):=by omega
        have m1:(m:Int)<=255:=by omega
        have S0:(0:Int)<=(S:Int):=by omega
        have S1:(S:Int)<=2148598013:=by omega
        have N0:(0:Int)<=(N:Int):=by omega
        have N1:(N:Int)<=255:=by omega
        have d0:(0:Int)<=(d:Int):=by omega
        have d1:(d:Int)<=2147483647:=by omega
        have p00:(0:Int)<=(p0:Int):=by omega
        have p01:(p0:Int)<=255:=by omega
        have sg0:(0:Int)<=(sg:Int):=by omega
        have sg1:(sg:Int)<=1114111:=by omega
        have hrow2:=hrow;rw [hN] at hrow2⊢;replace hN:=H0 hN;replace hQ:=H0 hQ;replace hq:=H0 hq;replace hm:=H0 hm;replace hS:=H0 hS;replace hstep:=H0 hstep
        have hsg:=H0 (fun w=>KV S w)
        by_cases h255:N=255
        ·have e255:((N:Int)==255)=true:=by rw [h255];rfl
         rw [if_pos (by rw [decide_eq_true h255];rfl)] at hst
         replace hst:=H0 hst;replace h255:=H0 h255;replace hlt4:=H0 hlt4;go_wp2_with fail;refine (hrd.out _).mono ?_;rintro e w1 ⟨rfl,rfl⟩;go_wp2_with fail;go_ret2;exact CD hst.out hbel
        ·have e255:((N:Int)==255)=false:=by rw [beq_eq_false_iff_ne];omega
         rw [decide_eq_false h255,Bool.false_or] at hst;obtain ⟨sb,hsb⟩:∃ b,Bd S=b:=⟨_,rfl⟩;rw [hsb] at hsg hst;cases sb
         ·rw [Bool.not_false,if_pos rfl] at hst;replace hst:=H0 hst;replace hsb:=H0 hsb;replace h255:=H0 h255;replace hlt4:=H0 hlt4;go_wp2_with fail;refine (hrd.out _).mono ?_;rintro e w1 ⟨rfl,rfl⟩;go_wp2_with fail;refine (hsg.out _).mono ?_;rintro e w2 ⟨rfl,rfl⟩;go_wp2_with fail;go_ret2;exact CD hst.out hbel
         ·rw [if_neg (by decide)] at hst
          dsimp only at hst
          have hS2:S<=1114111:=by
           unfold Bd at hsb;rw [Bool.and_eq_true,decide_eq_true_iff] at hsb;exact hsb.1
          have hins:=H0 (Py (.slice a4 N c4) w.heap.size l0 m S wr.heap.size (wr.alloc (.cells #[.int .i64 (S:Int)] 3)) (hrow2.below ((Below.refl wr.heap.size wr).alloc (Nat.le_refl _) _) (Nat.le_refl _)) (heap_alloc_new wr _) (by simp;omega)
           (fun g n' k e=>by have:=hlt4 g n' k (by rw [hN.out];exact e);omega) (by rw [hN.out];omega) (by rw [hN.out];omega))
          have hil:Hid ((Gb l0 m S).length=N+1):=H0 (by rw [JN _ _ _ (by rw [hN.out];omega),hN.out])
          have hnb:=H0 (fun w=>Iw d (N+1) fi w hdl (by omega) (by omega))
          have hnbl:=MI d (N+1) fi hdl;obtain ⟨nb,hnbe⟩:∃ b,EO d (N+1) fi=b:=⟨_,rfl⟩;rw [hnbe] at hnb hst hnbl
          have hnew:Hid (R=Dr f (r.extract n r.size).toList ⟨m+1,S,nb,false,Gb l0 m S⟩):=H0 (by rw [hC.out];exact hst)
          replace hst:=H0 hst;replace hsb:=H0 hsb;replace hnbe:=H0 hnbe;replace h255:=H0 h255;replace hlt4:=H0 hlt4
          have eN:(((N+1:Nat):Int))=(N:Int)+1:=by omega
          go_wp2_with fail;refine (hrd.out _).mono ?_;rintro e w1 ⟨rfl,rfl⟩;go_wp2_with fail;refine (hsg.out _).mono ?_;rintro e w2 ⟨rfl,rfl⟩;go_wp2_with fail;refine hins.out.mono ?_;rintro e w3 ⟨v3,rfl,ho3,hb3⟩;obtain ⟨a5,c5,rfl,-⟩:=JO ho3;have hbel3:=(hbel.alloc hszw _).trans hb3;have ho4:=ho3;rw [hil.out] at ho3⊢;rw [eN] at hnb;replace eN:=H0 eN;go_wp2_with fail;refine (hnb.out _).mono ?_;rintro e w4 ⟨rfl,rfl⟩;go_wp2_with fail;go_roundw
          case rel=>exact ⟨r.extract n r.size,f,⟨m+1,S,nb,false,Gb l0 m S⟩,by rw [hCz.out];omega,rfl,ho3,by first | rfl | (congr 1<;>omega),by first | rfl | (congr 1<;>omega),rfl,rfl,by rw [hil.out];have:=h255.out;omega,by show m+1<=255;have:=h255.out;omega,hS2,hnbl,by rw [hCz.out];omega,hnew,hbel3⟩
          case measure=>simp only [LK];have:=hCz.out;omega
end Go.Proofs.YtonomfeipkdmhaaGreatDoor
