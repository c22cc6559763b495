/- Part 0: lemmas. -/
import Derived.BigQuiet
import Derived.Deep.DeepCutAuto
import Derived.Deep.LoopGhost
import Derived.Deep.QuietTactic
import Derived.Deep.RegionHeld3
import Derived.Laws.AppendOwnNone
import Derived.Lib.ConvBytes
import Derived.Lib.Hide
import Derived.Lib.TrimU
import Derived.OpenShut
import Derived.Test.YtonomfeipkdmhaaGreatDoorRows
import Derived.WalkKit
import Derived.WalkLawsBesides
import Derived.WalkSpells
set_option linter.unusedVariables false
set_option linter.unusedSimpArgs false
set_option maxRecDepth 100000
set_option maxHeartbeats 16000000
namespace Go.Proofs.YtonomfeipkdmhaaGreatDoor
open Go.RowKit
theorem H0 {p:Prop} (h:p):Hid p:=Lib.hid h
theorem N2 {α:Sort _} (a:α):∃ x,a=x:=⟨a,rfl⟩
theorem P3:(∀ (a:Act) (d:Option Tmp) (v:Value),Act.put a d v=match d with|some d=>{a with tmps:=a.tmps.setIfInBounds d v}|none=>a)∧(∀ (l:List Value) (i:Nat) (v:Value),l.toArray.setIfInBounds i v=(l.set i v).toArray)∧(∀ (x v:Value) (l:List Value),(x::l).set 0 v=v::l)∧(∀ (x v:Value) (l:List Value) (i:Nat),(x::l).set (i+1) v=x::l.set i v):=⟨fun _ _ _=>rfl,fun _ _ _=>List.setIfInBounds_toArray ..,fun _ _ _=>rfl,fun _ _ _ _=>rfl⟩
theorem T0 {P:Program} {md:Region.Mode} {ops:Array Oper} {Q:Exit→Act→World→Prop} {S:World→Prop} {fuel:Nat} {listed:Array Bool} {a:Act} {w:World} (i d:Nat) (v:Value) {op ty pos after guard} (hS:S w) (hy:∀ w,S w→(execOp a.eval ⟨some d,op,ty,pos,after,guard⟩).run P w=.ok (.value v) w) (h:wpAnyH P md ops Q S fuel (listed.setIfInBounds i true) (a.put (some d) v) w) (h1:ops[i]? =some ⟨some d,op,ty,pos,after,guard⟩:=by rfl) (h2:Region.noSelect ops=true:=by kernel_rfl) (h3:Region.free md ops listed i=true:=by kernel_rfl) (h4:(Region.ready md ops listed).contains i=true:=by kernel_rfl) (h5:Region.wanted (⟨some d,op,ty,pos,after,guard⟩:Oper) (yielded ops a.tmps)=true:=by rfl) (h6:∀ c a w,Q (.panic c) (a.put (some d) v) w→Q (.panic c) a w:=by exact fun _ _ _ h=>h):wpAnyH P md ops Q S (fuel+1) listed a w:=wpAnyH_take h1 h2 h3 h4 h6 (Or.inl ⟨h5,hy⟩) hS h
theorem AF {a b:Bool} (h:a=b):Ending.returned (.bool a)= .returned (.bool b):=by rw [h]
theorem Io {k:IntKind} {a b:Int} (h:a=b):Ending.returned (.int k a)= .returned (.int k b):=by rw [h]
theorem TS {a b:Int} (h:¬ a=b):(a==b)=false/\(a != b)=true:=by simp [h]
theorem MX {a b:Int} (h:a=b):(a==b)=true/\(a != b)=false:=by simp [h]
def DC (c:UInt8):Value:= .int .u8 (c.toNat:Int)
def Cy (w:World) (l:List UInt8) (e:Ending) (w':World):Prop:=
 ∃ t:ByteArray,e= .returned (.string t)/\Hid (t.toList=l)/\Below w.heap.size w w'
theorem BL {w w':World} {l:List UInt8} {t:ByteArray} (h:t.toList=l) (hb:Below w.heap.size w w'):Cy w l (.returned (.string t)) w':=⟨t,rfl,h,hb⟩
theorem F6 {w w':World} {l m:List UInt8} (h:m=l) (hb:Below w.heap.size w w'):Cy w l (.returned (.string ⟨m.toArray⟩)) w':=⟨_,rfl,(ByteArray.toList_mk m).trans h,hb⟩
def IY (w:World) (b:Bool) (e:Ending) (w':World):Prop:=e= .returned (.bool b)/\Below w.heap.size w w'
theorem Aa (s:ByteArray):s.toList.length=s.size:=by rw [ByteArray.toList_eq,Array.length_toList];rfl
theorem toList_extract (s:ByteArray) (a b:Nat):(s.extract a b).toList=(s.toList.take b).drop a:=by
 rw [ByteArray.toList_eq,ByteArray.toList_eq,ByteArray.data_extract,Array.toList_extract,List.extract_eq_take_drop,List.drop_take]
theorem toList_append (s t:ByteArray):(s++t).toList=s.toList++t.toList:=by
 rw [ByteArray.toList_eq,ByteArray.toList_eq,ByteArray.toList_eq];simp
theorem CS (s:ByteArray) (i:Nat) (h:i<s.size):s.toList[i]'(by rw [Aa];exact h)=s[i]:=by
 simp only [ByteArray.toList_eq];rfl
theorem toList_mk (l:List UInt8):(ByteArray.mk l.toArray).toList=l:=ByteArray.toList_mk l
theorem Df {s t:ByteArray} (h:s.toList=t.toList):s=t:=by
 rw [ByteArray.toList_eq,ByteArray.toList_eq] at h;cases s;cases t;simp at h;rw [h]
theorem Ao (s:ByteArray) (k:Nat) (h:k<s.size):s.toList.drop k=s[k] :: s.toList.drop (k+1):=by
 rw [List.drop_eq_getElem_cons (by rw [Aa];exact h),CS]
theorem AM (s:ByteArray) (k:Nat) (h:s.size<=k):s.toList.drop k=[]:=List.drop_of_length_le (by rw [Aa];exact h)
theorem AK (c:UInt8):(c.toNat:Int)<=255:=by have:=c.toNat_lt;omega
theorem AC (c:UInt8):0<=(c.toNat:Int):=by omega
theorem C4 {P:Program} {f:FuncId} {fn:Func} {c:Code} (hf:P.funcs[f]? =some fn) (hname:(fn.name== "runtime.NumGoroutine")=false) (hb:fn.body=some c) (args:Array Value) (w:World):
  (callFunc f args).run P w= .ok (.enter f args) w:=by
 have h1:fn.name≠ "runtime.NumGoroutine" :=by simpa using hname
 simp [callFunc,hf,h1,hb]
def LK:Value->Nat | .string s=>s.size | _=>0
theorem At (s:ByteArray):s.toList=[]↔s.size=0:=by rw [<-Aa,List.length_eq_zero_iff]
theorem A5 (s:ByteArray) (k:Nat) (h:k<s.size):s.toList.take (k+1)=s.toList.take k++[s[k]]:=by
 rw [List.take_succ_eq_append_getElem (by rw [Aa];exact h),CS _ _ h]
theorem Cl (s:ByteArray) (k:Nat) (h:s.size<=k):s.toList.take k=s.toList:=List.take_of_length_le (by rw [Aa];exact h)
structure E1 (P:Program) (T E:TypeId) (z:Value) (b:Nat):Prop where
 u:P.underlying T=some (.slice E)
 i:∃ i,P.info? E=some i/\i.zero=some z/\i.size=1/\i.bytes=b
 z:z.cells.size=1
theorem E1.mk' {P:Program} {T E:TypeId} {z:Value} {b:Nat} (u:P.underlying T=some (.slice E))
  (h:(P.info? E).map (fun i=>(i.zero,i.size,i.bytes))=some (some z,1,b)) (hz:z.cells.size=1):E1 P T E z b:=
 ⟨u,info_parts h,hz⟩
theorem Pn (w:World) (u:Value) (e:TypeId):∀ j x,[u][j]? =some x->(w.alloc (.cells #[u] e)).cell? ((⟨w.heap.size,0,none⟩:Addr).add j)=some x:=by
 intro j x hj
 match j,hj with
 | 0,hj=>simp at hj;subst hj;simp [Addr.add]
theorem Jk {P:Program} {T E:TypeId} {z:Value} {b:Nat} (ty:E1 P T E z b) {ops:Array Oper} {rest:List Oper} {o:Oper} {a:Act} {Q:Exit->Act->World->Prop}
  (hgd:o.guard=none) (s x:Operand) (ho:o.op= .call { callee:= .builtin .append,args:= #[s,x],argTypes:= #[T,T] })
  {W0 w0:World} {B:Nat} {v u:Value} {xs:List Value} (hu:u.oneCell'=true) (hs:a.eval s=v) (hx:a.eval x= .slice (some ⟨w0.heap.size,0,none⟩) 1 1)
  (hown:w0.ownsRow B E 1 v xs.length xs) (hbel:Below B W0 w0) (hB:B<=w0.heap.size) (h63:xs.length+1<=maxLen) (hsz:(xs.length+1) * b<=140737488355328)
  (h:∀ v' w',w'.ownsRow B E 1 v' (xs.length+1) (xs++[u])->Below B W0 w'->(v'= .slice none 0 0->False)->wpList P ops Q rest (a.put o.dst v') w'):
  wpList P ops Q (o :: rest) a (w0.alloc (.cells #[u] E)):=by
 obtain ⟨i,hi,hz,hs1,hb1⟩:=ty.i
 refine wpList_append_own (w0.alloc (.cells #[u] E)) hgd s x T ho B E i z 1 b ty.u hi hz hs1 hb1 ty.z (by decide) v xs.length xs hs (hown.alloc _) ⟨w0.heap.size,0,none⟩ 1 1 [u] hx rfl
  (Pn w0 u E) (by intro y hy;simp at hy;subst hy;exact hu) h63 hsz (by simp;omega) ?_
 intro v' w' hown' hgrow hnil
 refine h v' w' hown' ?_ (fun hv=>by have:=(hnil.1 hv).2;omega)
 exact (hbel.alloc hB _).grown hgrow (by simp;omega) (fun k hk=>(hown.lt k hk).1)
def CA (w:World) (B:Nat) (E:TypeId) (v:Value) (l:List UInt8):Prop:=w.ownsRow B E 1 v l.length (l.map DC)
def AI (w:World) (B:Nat) (E:TypeId) (v:Value) (l:List ByteArray):Prop:=w.ownsRow B E 1 v l.length (l.map Value.string)
theorem CA.nil (w:World) (B:Nat) (E:TypeId):CA w B E (.slice none 0 0) []:=World.ownsRow_nil _ _ _ _
theorem AI.nil (w:World) (B:Nat) (E:TypeId):AI w B E (.slice none 0 0) []:=World.ownsRow_nil _ _ _ _
theorem A8 {P:Program} {T E:TypeId} {z:Value} {b:Nat} (ty:E1 P T E z b) {ops:Array Oper} {rest:List Oper} {o:Oper} {a:Act} {Q:Exit->Act->World->Prop}
  (hgd:o.guard=none) (s x:Operand) (ho:o.op= .call { callee:= .builtin .append,args:= #[s,x],argTypes:= #[T,T] })
  {W0 w0:World} {B:Nat} {v:Value} {l:List UInt8} {n:Int} (c:UInt8) (hs:a.eval s=v) (hx:a.eval x= .slice (some ⟨w0.heap.size,0,none⟩) 1 1)
  (hown:CA w0 B E v l) (hbel:Below B W0 w0) (hB:B<=w0.heap.size) (hc:n=(c.toNat:Int)) (h63:l.length+1<=maxLen) (hsz:(l.length+1) * b<=140737488355328)
  (h:∀ v' w',CA w' B E v' (l++[c])->Below B W0 w'->(v'= .slice none 0 0->False)->wpList P ops Q rest (a.put o.dst v') w'):
  wpList P ops Q (o :: rest) a (w0.alloc (.cells #[.int .u8 n] E)):=by
 subst hc
 refine Jk ty hgd s x ho (xs:=l.map DC) (v:=v) rfl hs hx (by simpa [CA] using hown) hbel hB (by simpa using h63) (by simpa using hsz) ?_
 intro v' w' h1 h2 h3;refine h v' w' ?_ h2 h3;simpa [CA,DC] using h1
theorem BO {P:Program} {T E:TypeId} {z:Value} {b:Nat} (ty:E1 P T E z b) {ops:Array Oper} {rest:List Oper} {o:Oper} {a:Act} {Q:Exit->Act->World->Prop}
  (hgd:o.guard=none) (s x:Operand) (ho:o.op= .call { callee:= .builtin .append,args:= #[s,x],argTypes:= #[T,T] })
  {W0 w0:World} {B:Nat} {v:Value} {l:List ByteArray} {t:ByteArray} (hs:a.eval s=v) (hx:a.eval x= .slice (some ⟨w0.heap.size,0,none⟩) 1 1)
  (hown:AI w0 B E v l) (hbel:Below B W0 w0) (hB:B<=w0.heap.size) (h63:l.length+1<=maxLen) (hsz:(l.length+1) * b<=140737488355328)
  (h:∀ v' w',AI w' B E v' (l++[t])->Below B W0 w'->(v'= .slice none 0 0->False)->wpList P ops Q rest (a.put o.dst v') w'):
  wpList P ops Q (o :: rest) a (w0.alloc (.cells #[.string t] E)):=by
 refine Jk ty hgd s x ho (xs:=l.map Value.string) (v:=v) rfl hs hx (by simpa [AI] using hown) hbel hB (by simpa using h63) (by simpa using hsz) ?_
 intro v' w' h1 h2 h3;refine h v' w' ?_ h2 h3;simpa [AI] using h1
def Fg (w:World) (v:Value) (l:List ByteArray):Prop:=
 ∃ a c,v= .slice a l.length c/\(0<l.length->∃ g o,a=some ⟨g,o,none⟩/\∀ i (h:i<l.length),w.cell? ⟨g,o+i,none⟩=some (.string l[i]))
theorem AI.read {w:World} {B:Nat} {E:TypeId} {v:Value} {l:List ByteArray} (h:AI w B E v l):Fg w v l:=by
 rcases h.2 with ⟨rfl,hn⟩ | ⟨g,cap,cur,rfl,hg,hh,hcap,hml,hcs,hcur⟩
 ·exact ⟨none,0,by rw [hn],fun h0=>by omega⟩
 ·refine ⟨_,cap,rfl,fun _=>⟨g,0,rfl,fun i hi=> ?_⟩⟩
  have:=World.ownsRow.cellAt h i (by omega)
  rw [Nat.zero_add,this];simp [hi]
theorem AI.alloc {w:World} {B:Nat} {E:TypeId} {v:Value} {l:List ByteArray} (h:AI w B E v l) (o:Obj):AI (w.alloc o) B E v l:=World.ownsRow.alloc h o
theorem AI.below {w w':World} {B K:Nat} {E:TypeId} {v:Value} {l:List ByteArray} (h:AI w B E v l) (hb:Below K w w') (hK:w.heap.size<=K):AI w' B E v l:=by
 refine ⟨h.1,?_⟩
 rcases h.2 with hn | ⟨g,cap,cur,rfl,hg,hh,rest⟩
 ·exact .inl hn
 ·exact .inr ⟨g,cap,cur,rfl,hg,by rw [hb.block g (by have:=(Array.getElem?_eq_some_iff.1 hh).1;omega)];exact hh,rest⟩
theorem Fg.below {w w':World} {K:Nat} {v:Value} {l:List ByteArray} (h:Fg w v l) (hb:Below K w w') (hK:w.heap.size<=K):Fg w' v l:=by
 obtain ⟨a,c,rfl,hc⟩:=h
 refine ⟨a,c,rfl,fun h0=> ?_⟩
 obtain ⟨g,o,rfl,hcell⟩:=hc h0
 refine ⟨g,o,rfl,fun i hi=> ?_⟩
 have:=World.block_lt_of_cell? w _ (hcell i hi)
 rw [hb.cell (by simp at this⊢;omega)]
 exact hcell i hi
def LU (w:World) (g:Nat) (E:TypeId) (l:List UInt8):Prop:=
 ∃ (cur:Array Value) (m:Nat),w.heap[g]? =some (.cells cur E (m,m+1))/\l.length<=m/\cur.toList.take l.length=l.map DC
theorem LU.made (w:World) (E:TypeId) (s:ByteArray):LU (Lib.bytesWorld w E s) w.heap.size E s.toList:=by
 refine ⟨_,_,Lib.bytesWorld_at_new w E s,?_,?_⟩
 ·rw [ByteArray.toList_eq];simp only [Lib.bytesCells,Array.length_toList,Array.size_append,Array.size_map];omega
 ·rw [ByteArray.toList_eq];simp only [Lib.bytesCells,Array.toList_append,Array.toList_map]
  rw [List.take_append_of_le_length (by simp),List.take_of_length_le (by simp)]
  rfl
theorem Below.bytesWorld {B:Nat} {a w:World} (h:Below B a w) (hB:B<=w.heap.size) (E:TypeId) (s:ByteArray):Below B a (Lib.bytesWorld w E s):=by
 refine h.trans ⟨?_,?_,?_,by rw [Lib.bytesWorld_size];omega,fun k hk=>Lib.bytesWorld_at_old w E s k (by omega)⟩
 all_goals (unfold Lib.bytesWorld World.freeze;split<;>rfl)
theorem LU.cell {w:World} {g:Nat} {E:TypeId} {l:List UInt8} (h:LU w g E l) (j:Nat) (hj:j<l.length):w.cell? ⟨g,j,none⟩=some (DC l[j]):=by
 obtain ⟨cur,m,hh,_,ht⟩:=h
 have:cur.toList[j]? =some (DC l[j]):=by
  have h1:(cur.toList.take l.length)[j]? =(l.map DC)[j]? :=by rw [ht]
  rw [List.getElem?_take,if_pos hj] at h1;rw [h1];simp [hj]
 simpa [World.cell?,hh] using this
theorem LU.free {w:World} {g:Nat} {E:TypeId} {l:List UInt8} (h:LU w g E l) (j:Nat) (hj:j<l.length):w.frozen? ⟨g,j,none⟩=false:=by
 obtain ⟨cur,m,hh,hm,_⟩:=h;simp [World.frozen?,hh];omega
theorem LU.set {w:World} {g:Nat} {E:TypeId} {l:List UInt8} (h:LU w g E l) (j:Nat) (hj:j<l.length) (c:UInt8):LU (w.setCell ⟨g,j,none⟩ (DC c)) g E (l.set j c):=by
 obtain ⟨cur,m,hh,hm,ht⟩:=h
 refine ⟨cur.setIfInBounds j (DC c),m,?_,by simpa using hm,?_⟩
 ·simp only [World.setCell,Array.getElem?_modify,if_true,hh];rfl
 ·simp only [List.length_set,Array.toList_setIfInBounds,List.map_set];rw [<-ht,List.take_set]
theorem Ado {P:Program} {T E S:TypeId} (hT:P.underlying T=some (.slice E)) (hE:P.underlying E=some (.int .u8)) (hS:P.underlying S=some .string)
  {w:World} {g:Nat} {l:List UInt8} (h:LU w g E l) (n cap:Nat) (hn:n=l.length):
  (convert T S (.slice (some ⟨g,0,none⟩) n cap)).run P w= .ok (.string ⟨l.toArray⟩) w:=by
 subst hn
 have hx:((l.map fun c=>(c.toNat:Int)).map fun n=>UInt8.ofNat n.toNat)=l:=by
  rw [List.map_map];conv=>rhs;rw [<-List.map_id l]
  apply List.map_congr_left;intro c _;simp
 have:=run_convert_bytes_arg (P:=P) (w:=w) T E hT hE g 0 l.length cap (l.map fun c=>(c.toNat:Int)) (by simp) (fun i hi=>by
  rw [Nat.zero_add,h.cell i hi]
  simp [DC,List.getD,hi]) S hS
 rw [this];unfold strOfNums;rw [hx]
theorem Hu {P:Program} {T E S:TypeId} (hT:P.underlying T=some (.slice E)) (hE:P.underlying E=some (.int .u8)) (hS:P.underlying S=some .string)
  {w:World} {B:Nat} {v:Value} {l:List UInt8} (hown:CA w B E v l):
  (convert T S v).run P w= .ok (.string ⟨l.toArray⟩) w:=by
 rcases hown.2 with ⟨rfl,hn⟩ | ⟨g,cap,cur,rfl,hg,hh,hcap,hml,hcs,hcur⟩
 ·have:l=[]:=List.eq_nil_of_length_eq_zero hn;subst this;exact run_convert_bytes_nil w T E hT hE 0 0 S hS
 ·have hx:((l.map fun c=>(c.toNat:Int)).map fun n=>UInt8.ofNat n.toNat)=l:=by
   rw [List.map_map];conv=>rhs;rw [<-List.map_id l]
   apply List.map_congr_left;intro c _;simp
  have:=run_convert_bytes_arg (P:=P) (w:=w) T E hT hE g 0 l.length cap (l.map fun c=>(c.toNat:Int)) (by simp) (fun i hi=>by
   rw [Nat.zero_add,hown.cellAt i (by omega)]
   simp [DC,List.getD,hi]) S hS
  rw [this];unfold strOfNums;rw [hx]
theorem AH {P:Program} {ops:Array Oper} {rest:List Oper} {o:Oper} {a:Act} {w:World} {Q:Exit->Act->World->Prop} (hw:Region.wanted o (yielded ops a.tmps)=true)
  (h:wpList P ops Q ({ o with guard:=none } :: rest) a w):wpList P ops Q (o :: rest) a w:=by
 unfold wpList at h⊢;rw [if_pos hw]
 rw [if_pos (by simp [Region.wanted])] at h
 exact h
theorem Bp {w w':World} {B K size n:Nat} {E:TypeId} {v:Value} {xs:List Value} (h:w.ownsRow B E size v n xs) (hb:Below K w w') (hK:w.heap.size<=K):w'.ownsRow B E size v n xs:=by
 refine ⟨h.1,?_⟩
 rcases h.2 with hn | ⟨g,cap,cur,rfl,hg,hh,rest⟩
 ·exact .inl hn
 ·exact .inr ⟨g,cap,cur,rfl,hg,by rw [hb.block g (by have:=(Array.getElem?_eq_some_iff.1 hh).1;omega)];exact hh,rest⟩
theorem _root_.Go.RowKit.Below.next {a w w':World} (h:Below a.heap.size a w) (k:Below w.heap.size w w'):Below a.heap.size a w':=h.trans (k.mono h.size)
@[go_sem] theorem AeV (w:World) (n:Nat) (o:Obj):(w.drewN n).alloc o=(w.alloc o).drewN n:=rfl
@[go_sem] theorem AdG (w:World) (n:Nat) (a:Addr) (v:Value):(w.drewN n).setCell a v=(w.setCell a v).drewN n:=rfl
def Fb (w:World) (E:Array Obj) (d:Nat):World:={ w with heap:=w.heap++E,drawn:=d }
theorem _root_.Go.RowKit.Below.ext {w w':World} (h:Below w.heap.size w w'):∃ E d,w'=Fb w E d:=by
 refine ⟨w'.heap.extract w.heap.size w'.heap.size,w'.drawn,?_⟩;obtain ⟨h1,h2,h3,h4,h5⟩:=h
 have hh:w'.heap=w.heap++w'.heap.extract w.heap.size w'.heap.size:=by
  apply Array.ext_getElem?;intro k;rw [Array.getElem?_append,Array.getElem?_extract,Nat.min_self]
  by_cases hk:k<w.heap.size
  ·rw [if_pos hk,h5 k hk]
  ·rw [if_neg hk]
   by_cases hk2:k<w'.heap.size
   ·rw [if_pos (by omega)];congr 1;omega
   ·rw [if_neg (by omega),Array.getElem?_eq_none (by omega)]
 unfold Fb;rw [<-hh];cases w;cases w';simp only at h1 h2 h3;subst h1 h2 h3;rfl
@[simp,go_sem] theorem Af0 (w:World) (E:Array Obj) (d:Nat):(Fb w E d).heap.size=w.heap.size+E.size:=by simp [Fb]
theorem RA (w:World) (E:Array Obj) (d k:Nat) (h:k<w.heap.size):(Fb w E d).heap[k]? =w.heap[k]? :=by
 simp only [Fb];rw [Array.getElem?_append,if_pos h]
theorem DZ (w:World) (E:Array Obj) (d:Nat):Below w.heap.size w (Fb w E d):=⟨rfl,rfl,rfl,by simp,fun k h=>RA w E d k h⟩
theorem _root_.Go.RowKit.Below.toExt {B:Nat} {a w:World} (h:Below B a w) (hB:B<=w.heap.size) (E:Array Obj) (d:Nat):Below B a (Fb w E d):=h.trans ((DZ w E d).mono hB)
@[go_sem] theorem AfY (w:World) (E:Array Obj) (d n i:Nat) (h:n<w.heap.size):(Fb w E d).cell? ⟨n,i,none⟩=w.cell? ⟨n,i,none⟩:=(DZ w E d).cell (p:=⟨n,i,none⟩) h
@[go_sem] theorem Afl (w:World) (E:Array Obj) (d n i:Nat) (h:n<w.heap.size):(Fb w E d).frozen? ⟨n,i,none⟩=w.frozen? ⟨n,i,none⟩:=(DZ w E d).frozen (p:=⟨n,i,none⟩) h
@[go_sem] theorem AeG (w:World) (E:Array Obj) (d n i:Nat) (v:Value) (h:n<w.heap.size):(Fb w E d).setCell ⟨n,i,none⟩ v=Fb (w.setCell ⟨n,i,none⟩ v) E d:=by
 simp only [World.setCell,Fb];congr 1;apply Array.ext_getElem?;intro k;simp only [Array.getElem?_modify,Array.getElem?_append,Array.size_modify]
 by_cases hk:n=k
 ·subst hk;simp [h]
 ·simp [hk]
@[go_sem] theorem AfO (w:World) (E:Array Obj) (d n:Nat):(Fb w E d).drewN n=Fb w E (d+n):=rfl
@[go_sem] theorem Agm (w:World) (E:Array Obj) (d:Nat):(Fb w E d).drew=Fb w E (d+1):=rfl
@[go_sem] theorem AdT (w:World) (E:Array Obj) (d n:Nat):Fb (w.drewN n) E d=Fb w E d:=rfl
@[go_sem] theorem AeQ (w:World) (E:Array Obj) (d:Nat):Fb w.drew E d=Fb w E d:=rfl
@[simp,go_sem] theorem Agi (w:World) (E:Array Obj) (d:Nat):(Fb w E d).tape=w.tape:=rfl
@[go_sem] theorem AgV (a n:Nat) (h:0<n):a<a+n:=by omega
@[go_sem] theorem AgY (a m n:Nat) (h:m<n):a+m<a+n:=by omega
@[go_sem] theorem Ahe (a n:Nat):a<=a+n:=by omega
@[go_sem] theorem Ag6 (a m n:Nat) (h:m<=n):a+m<=a+n:=by omega
@[go_sem] theorem AgP (a n:Nat) (b0:Nat) (h:0<n):a<a+n+b0:=by omega
@[go_sem] theorem Ahg (a m n:Nat) (b0:Nat) (h:m<n):a+m<a+n+b0:=by omega
@[go_sem] theorem Ag1 (a n:Nat) (b0:Nat):a<=a+n+b0:=by omega
@[go_sem] theorem AgZ (a m n:Nat) (b0:Nat) (h:m<=n):a+m<=a+n+b0:=by omega
@[go_sem] theorem Ahk (a n:Nat) (b0 b1:Nat) (h:0<n):a<a+n+b0+b1:=by omega
@[go_sem] theorem AgW (a m n:Nat) (b0 b1:Nat) (h:m<n):a+m<a+n+b0+b1:=by omega
@[go_sem] theorem AgO (a n:Nat) (b0 b1:Nat):a<=a+n+b0+b1:=by omega
@[go_sem] theorem Ahi (a m n:Nat) (b0 b1:Nat) (h:m<=n):a+m<=a+n+b0+b1:=by omega
@[go_sem] theorem AgR (a n:Nat) (b0 b1 b2:Nat) (h:0<n):a<a+n+b0+b1+b2:=by omega
@[go_sem] theorem AgI (a m n:Nat) (b0 b1 b2:Nat) (h:m<n):a+m<a+n+b0+b1+b2:=by omega
@[go_sem] theorem Ahl (a n:Nat) (b0 b1 b2:Nat):a<=a+n+b0+b1+b2:=by omega
@[go_sem] theorem AgX (a m n:Nat) (b0 b1 b2:Nat) (h:m<=n):a+m<=a+n+b0+b1+b2:=by omega
@[go_sem] theorem Ag3 (a n:Nat) (b0 b1 b2 b3:Nat) (h:0<n):a<a+n+b0+b1+b2+b3:=by omega
@[go_sem] theorem AgU (a m n:Nat) (b0 b1 b2 b3:Nat) (h:m<n):a+m<a+n+b0+b1+b2+b3:=by omega
@[go_sem] theorem AgS (a n:Nat) (b0 b1 b2 b3:Nat):a<=a+n+b0+b1+b2+b3:=by omega
@[go_sem] theorem AgK (a m n:Nat) (b0 b1 b2 b3:Nat) (h:m<=n):a+m<=a+n+b0+b1+b2+b3:=by omega
@[go_sem] theorem Ahb (a n:Nat) (b0 b1 b2 b3 b4:Nat) (h:0<n):a<a+n+b0+b1+b2+b3+b4:=by omega
@[go_sem] theorem AgT (a m n:Nat) (b0 b1 b2 b3 b4:Nat) (h:m<n):a+m<a+n+b0+b1+b2+b3+b4:=by omega
@[go_sem] theorem Ag7 (a n:Nat) (b0 b1 b2 b3 b4:Nat):a<=a+n+b0+b1+b2+b3+b4:=by omega
@[go_sem] theorem Ahh (a m n:Nat) (b0 b1 b2 b3 b4:Nat) (h:m<=n):a+m<=a+n+b0+b1+b2+b3+b4:=by omega
@[go_sem] theorem Ag4 (a n:Nat) (b0 b1 b2 b3 b4 b5:Nat) (h:0<n):a<a+n+b0+b1+b2+b3+b4+b5:=by omega
@[go_sem] theorem Ag9 (a m n:Nat) (b0 b1 b2 b3 b4 b5:Nat) (h:m<n):a+m<a+n+b0+b1+b2+b3+b4+b5:=by omega
@[go_sem] theorem Ag0 (a n:Nat) (b0 b1 b2 b3 b4 b5:Nat):a<=a+n+b0+b1+b2+b3+b4+b5:=by omega
@[go_sem] theorem Ahc (a m n:Nat) (b0 b1 b2 b3 b4 b5:Nat) (h:m<=n):a+m<=a+n+b0+b1+b2+b3+b4+b5:=by omega
@[go_sem] theorem Ahd (a n:Nat) (b0 b1 b2 b3 b4 b5 b6:Nat) (h:0<n):a<a+n+b0+b1+b2+b3+b4+b5+b6:=by omega
@[go_sem] theorem Ag2 (a m n:Nat) (b0 b1 b2 b3 b4 b5 b6:Nat) (h:m<n):a+m<a+n+b0+b1+b2+b3+b4+b5+b6:=by omega
@[go_sem] theorem Ag5 (a n:Nat) (b0 b1 b2 b3 b4 b5 b6:Nat):a<=a+n+b0+b1+b2+b3+b4+b5+b6:=by omega
@[go_sem] theorem AgN (a m n:Nat) (b0 b1 b2 b3 b4 b5 b6:Nat) (h:m<=n):a+m<=a+n+b0+b1+b2+b3+b4+b5+b6:=by omega
@[go_sem] theorem AgJ (a n:Nat) (b0 b1 b2 b3 b4 b5 b6 b7:Nat) (h:0<n):a<a+n+b0+b1+b2+b3+b4+b5+b6+b7:=by omega
@[go_sem] theorem Ahf (a m n:Nat) (b0 b1 b2 b3 b4 b5 b6 b7:Nat) (h:m<n):a+m<a+n+b0+b1+b2+b3+b4+b5+b6+b7:=by omega
@[go_sem] theorem Ag8 (a n:Nat) (b0 b1 b2 b3 b4 b5 b6 b7:Nat):a<=a+n+b0+b1+b2+b3+b4+b5+b6+b7:=by omega
@[go_sem] theorem Ahm (a m n:Nat) (b0 b1 b2 b3 b4 b5 b6 b7:Nat) (h:m<=n):a+m<=a+n+b0+b1+b2+b3+b4+b5+b6+b7:=by omega
@[go_sem] theorem AgQ (a n:Nat) (b0 b1 b2 b3 b4 b5 b6 b7 b8:Nat) (h:0<n):a<a+n+b0+b1+b2+b3+b4+b5+b6+b7+b8:=by omega
@[go_sem] theorem AgM (a m n:Nat) (b0 b1 b2 b3 b4 b5 b6 b7 b8:Nat) (h:m<n):a+m<a+n+b0+b1+b2+b3+b4+b5+b6+b7+b8:=by omega
@[go_sem] theorem AgL (a n:Nat) (b0 b1 b2 b3 b4 b5 b6 b7 b8:Nat):a<=a+n+b0+b1+b2+b3+b4+b5+b6+b7+b8:=by omega
@[go_sem] theorem Aha (a m n:Nat) (b0 b1 b2 b3 b4 b5 b6 b7 b8:Nat) (h:m<=n):a+m<=a+n+b0+b1+b2+b3+b4+b5+b6+b7+b8:=by omega
@[go_sem] theorem Aga (a n:Nat) (b0 b1 b2 b3 b4 b5 b6 b7 b8 b9:Nat) (h:0<n):a<a+n+b0+b1+b2+b3+b4+b5+b6+b7+b8+b9:=by omega
@[go_sem] theorem Agu (a m n:Nat) (b0 b1 b2 b3 b4 b5 b6 b7 b8 b9:Nat) (h:m<n):a+m<a+n+b0+b1+b2+b3+b4+b5+b6+b7+b8+b9:=by omega
@[go_sem] theorem Agn (a n:Nat) (b0 b1 b2 b3 b4 b5 b6 b7 b8 b9:Nat):a<=a+n+b0+b1+b2+b3+b4+b5+b6+b7+b8+b9:=by omega
@[go_sem] theorem Af5 (a m n:Nat) (b0 b1 b2 b3 b4 b5 b6 b7 b8 b9:Nat) (h:m<=n):a+m<=a+n+b0+b1+b2+b3+b4+b5+b6+b7+b8+b9:=by omega
@[go_sem] theorem Af1 (a n:Nat) (b0 b1 b2 b3 b4 b5 b6 b7 b8 b9 b10:Nat) (h:0<n):a<a+n+b0+b1+b2+b3+b4+b5+b6+b7+b8+b9+b10:=by omega
@[go_sem] theorem Age (a m n:Nat) (b0 b1 b2 b3 b4 b5 b6 b7 b8 b9 b10:Nat) (h:m<n):a+m<a+n+b0+b1+b2+b3+b4+b5+b6+b7+b8+b9+b10:=by omega
@[go_sem] theorem Af9 (a n:Nat) (b0 b1 b2 b3 b4 b5 b6 b7 b8 b9 b10:Nat):a<=a+n+b0+b1+b2+b3+b4+b5+b6+b7+b8+b9+b10:=by omega
@[go_sem] theorem AfU (a m n:Nat) (b0 b1 b2 b3 b4 b5 b6 b7 b8 b9 b10:Nat) (h:m<=n):a+m<=a+n+b0+b1+b2+b3+b4+b5+b6+b7+b8+b9+b10:=by omega
@[go_sem] theorem AgC (a n:Nat) (b0 b1 b2 b3 b4 b5 b6 b7 b8 b9 b10 b11:Nat) (h:0<n):a<a+n+b0+b1+b2+b3+b4+b5+b6+b7+b8+b9+b10+b11:=by omega
@[go_sem] theorem AgH (a m n:Nat) (b0 b1 b2 b3 b4 b5 b6 b7 b8 b9 b10 b11:Nat) (h:m<n):a+m<a+n+b0+b1+b2+b3+b4+b5+b6+b7+b8+b9+b10+b11:=by omega
@[go_sem] theorem Agv (a n:Nat) (b0 b1 b2 b3 b4 b5 b6 b7 b8 b9 b10 b11:Nat):a<=a+n+b0+b1+b2+b3+b4+b5+b6+b7+b8+b9+b10+b11:=by omega
@[go_sem] theorem Ago (a m n:Nat) (b0 b1 b2 b3 b4 b5 b6 b7 b8 b9 b10 b11:Nat) (h:m<=n):a+m<=a+n+b0+b1+b2+b3+b4+b5+b6+b7+b8+b9+b10+b11:=by omega
@[go_sem] theorem Agj (a n:Nat) (b0 b1 b2 b3 b4 b5 b6 b7 b8 b9 b10 b11 b12:Nat) (h:0<n):a<a+n+b0+b1+b2+b3+b4+b5+b6+b7+b8+b9+b10+b11+b12:=by omega
@[go_sem] theorem AgG (a m n:Nat) (b0 b1 b2 b3 b4 b5 b6 b7 b8 b9 b10 b11 b12:Nat) (h:m<n):a+m<a+n+b0+b1+b2+b3+b4+b5+b6+b7+b8+b9+b10+b11+b12:=by omega
@[go_sem] theorem Agf (a n:Nat) (b0 b1 b2 b3 b4 b5 b6 b7 b8 b9 b10 b11 b12:Nat):a<=a+n+b0+b1+b2+b3+b4+b5+b6+b7+b8+b9+b10+b11+b12:=by omega
@[go_sem] theorem AgF (a m n:Nat) (b0 b1 b2 b3 b4 b5 b6 b7 b8 b9 b10 b11 b12:Nat) (h:m<=n):a+m<=a+n+b0+b1+b2+b3+b4+b5+b6+b7+b8+b9+b10+b11+b12:=by omega
@[go_sem] theorem Agk (a n:Nat) (b0 b1 b2 b3 b4 b5 b6 b7 b8 b9 b10 b11 b12 b13:Nat) (h:0<n):a<a+n+b0+b1+b2+b3+b4+b5+b6+b7+b8+b9+b10+b11+b12+b13:=by omega
@[go_sem] theorem Agy (a m n:Nat) (b0 b1 b2 b3 b4 b5 b6 b7 b8 b9 b10 b11 b12 b13:Nat) (h:m<n):a+m<a+n+b0+b1+b2+b3+b4+b5+b6+b7+b8+b9+b10+b11+b12+b13:=by omega
@[go_sem] theorem Agp (a n:Nat) (b0 b1 b2 b3 b4 b5 b6 b7 b8 b9 b10 b11 b12 b13:Nat):a<=a+n+b0+b1+b2+b3+b4+b5+b6+b7+b8+b9+b10+b11+b12+b13:=by omega
@[go_sem] theorem Af3 (a m n:Nat) (b0 b1 b2 b3 b4 b5 b6 b7 b8 b9 b10 b11 b12 b13:Nat) (h:m<=n):a+m<=a+n+b0+b1+b2+b3+b4+b5+b6+b7+b8+b9+b10+b11+b12+b13:=by omega
def Cz (c:Int):Bool:=c==9 || c==10 || c==12 || c==13 || c==32
def AU (c:Int):Bool:=decide (65<=c/\c<=90) || decide (97<=c/\c<=122)
def K2 (c:Int):Int:=if 48<=c/\c<=57 then c - 48 else if 97<=c/\c<=122 then c - 87 else if 65<=c/\c<=90 then c - 55 else -1
def Ah (c base:Int):Int:=if K2 c≥base then -1 else K2 c
def BD (c:UInt8):UInt8:=if 65<=c.toNat/\c.toNat<=90 then UInt8.ofNat (c.toNat+32) else c
def AD (l:List UInt8):List UInt8:=l.map BD
theorem Rl {c:UInt8} (h:65<=(c.toNat:Int)) (h':(c.toNat:Int)<=90):(c.toNat:Int) - 65+97=((BD c).toNat:Int):=by
 unfold BD;rw [if_pos ⟨by omega,by omega⟩];simp;omega
theorem Pf {c:UInt8} (h:¬ (65<=(c.toNat:Int)/\(c.toNat:Int)<=90)):BD c=c:=by
 unfold BD;rw [if_neg (by omega)]
theorem NJ {l:List UInt8} {c:UInt8} {k:Nat} {s:ByteArray} (hk:k<s.size) (hl:l=AD (s.toList.take k)) (hc:c=BD s[k]):l++[c]=AD (s.toList.take (k+1)):=by
 rw [A5 _ _ hk,hl,hc];simp [AD]
theorem ty8:E1 Tryz.prog 25 5 (.int .u8 0) 1:= .mk' Tryz.underlying25 (by kernel_rfl) rfl
theorem Fj (c:Int) (w:World):
  Calls Tryz.prog 110 #[.int .u8 c] w fun e w'=>e= .returned (.bool (Cz c))/\w=w':=by
 go_enter Tryz.func110,Tryz.ntmps110;go_wp2
 all_goals (go_ret;exact ⟨AF (by simp_all [Cz]),rfl⟩)
theorem HW (c:Int) (w:World):
  Calls Tryz.prog 128 #[.int .u8 c] w fun e w'=>e= .returned (.bool (Cz c))/\w=w':=by
 go_enter Tryz.func128,Tryz.ntmps128;go_wp2
 all_goals (go_ret;exact ⟨AF (by simp_all [Cz]),rfl⟩)
theorem De (c:Int) (w:World):
  Calls Tryz.prog 154 #[.int .u8 c] w fun e w'=>e= .returned (.bool (AU c))/\w=w':=by
 go_enter Tryz.func154,Tryz.ntmps154;go_wp2
 all_goals (go_ret;exact ⟨AF (by rw [Bool.eq_iff_iff];simp [AU];omega),rfl⟩)
theorem Wy (c:Int) (w:World):
  Calls Tryz.prog 187 #[.int .u8 c] w fun e w'=>e= .returned (.bool (AU c))/\w=w':=by
 go_enter Tryz.func187,Tryz.ntmps187;go_wp2
 all_goals (go_ret;exact ⟨AF (by rw [Bool.eq_iff_iff];simp [AU];omega),rfl⟩)
theorem Bu (c b:Int) (w:World) (h0:0<=c) (h1:c<=255):
  Calls Tryz.prog 155 #[.int .u8 c,.int .i64 b] w fun e w'=>e= .returned (.int .i64 (Ah c b))/\w=w':=by
 go_enter Tryz.func155,Tryz.ntmps155;go_wp2
 all_goals (go_ret;exact ⟨Io (by simp only [Ah,K2];omega),rfl⟩)
theorem Yl (c b:Int) (w:World) (h0:0<=c) (h1:c<=255):
  Calls Tryz.prog 132 #[.int .u8 c,.int .i64 b] w fun e w'=>e= .returned (.int .i64 (Ah c b))/\w=w':=by
 go_enter Tryz.func132,Tryz.ntmps132;go_wp2
 all_goals (go_ret;exact ⟨Io (by simp only [Ah,K2];omega),rfl⟩)
theorem Lg (s:ByteArray) (w:World) (hs:s.size<=1099511627776):
  Calls Tryz.prog 32 #[.string s] w (Cy w (AD s.toList)):=by
 go_enter Tryz.func32,Tryz.ntmps32;go_wp2
 go_loopw [3,4] (fun v i wr=>∃ (k:Nat) (l:List UInt8),k<=s.size/\i= .int .i64 k/\Hid (l=AD (s.toList.take k))/\l.length<=k/\CA wr w.heap.size 5 v l/\Below w.heap.size w wr) (fun _ i _=>s.size - (intOf i).toNat)
 case atStart=>exact ⟨0,[],Nat.zero_le _,rfl,rfl,Nat.zero_le _,CA.nil _ _ _,Below.refl _ _⟩
 case round=>
  obtain ⟨k,l,hk,rfl,hl,hll,hown,hbel⟩:=hrel;have hsz:=hbel.size
  by_cases hlt:k<s.size
  ·have h0:=AC s[k];have h1:=AK s[k]
   by_cases hup:65<=(s[k].toNat:Int)/\(s[k].toNat:Int)<=90
   ·obtain ⟨hu1,hu2⟩:=hup
    go_wp2_with (at_builtin;refine A8 ty8 rfl _ _ rfl (BD s[k]) rfl rfl hown hbel hsz (Rl hu1 hu2) (by unfold maxLen;omega) (by omega) ?_;intro v' w' ho' hb' _)
    go_roundw
    case rel=>exact ⟨k+1,_,by omega,by go_num,NJ hlt hl.out rfl,by simp;omega,ho',hb'⟩
    case measure=>simp [intOf];omega
   ·have hnc:=H0 (Pf hup)
    have hcase:¬ 65<=(s[k].toNat:Int)\/¬ (s[k].toNat:Int)<=90:=by omega
    clear hup
    rcases hcase with hup | hup
    all_goals
     go_wp2_with (at_builtin;refine A8 ty8 rfl _ _ rfl s[k] rfl rfl hown hbel hsz rfl (by unfold maxLen;omega) (by omega) ?_;intro v' w' ho' hb' _)
     go_roundw
     case rel=>exact ⟨k+1,_,by omega,by go_num,NJ hlt hl.out hnc.out.symm,by simp;omega,ho',hb'⟩
     case measure=>simp [intOf];omega
  ·have hcv:=Hu (P:=Tryz.prog) (S:=9) Tryz.underlying25 Tryz.underlying5 Tryz.underlying9 hown;go_wp2;go_ret
   exact F6 (by rw [hl.out,Cl _ _ (by omega)]) hbel
def Hn (c:UInt8):Bool:= !(c.toNat==9 || c.toNat==10 || c.toNat==13)
def E5 (l:List UInt8):List UInt8:=l.filter Hn
theorem O6 {c:UInt8} (h:(c.toNat:Int)=9\/(c.toNat:Int)=10\/(c.toNat:Int)=13):Hn c=false:=by simp [Hn];omega
theorem ZA {c:UInt8} (h:¬ ((c.toNat:Int)=9\/(c.toNat:Int)=10\/(c.toNat:Int)=13)):Hn c=true:=by simp [Hn];omega
theorem KR {l:List UInt8} {k:Nat} {s:ByteArray} (hk:k<s.size) (hl:l=E5 (s.toList.take k)) (hc:Hn s[k]=false):l=E5 (s.toList.take (k+1)):=by
 rw [A5 _ _ hk,hl];simp [E5,hc]
theorem Aa2 {l:List UInt8} {k:Nat} {s:ByteArray} (hk:k<s.size) (hl:l=E5 (s.toList.take k)) (hc:Hn s[k]=true):l++[s[k]]=E5 (s.toList.take (k+1)):=by
 rw [A5 _ _ hk,hl];simp [E5,hc]
theorem ZF (s:ByteArray) (w:World) (hs:s.size<=1099511627776):
  Calls Tryz.prog 89 #[.string s] w (Cy w (E5 s.toList)):=by
 obtain ⟨i0,hi,hz0,hz1,hz2⟩:=ty8.i;go_enter Tryz.func89,Tryz.ntmps89
 go_wp2_with (at_make;refine wpList_make_own _ rfl _ _ 25 rfl w.heap.size 5 i0 (.int .u8 0) 1 Tryz.underlying25 hi hz0 hz1 _ _ _ s.size rfl rfl rfl (by rw [hz2];omega) (by unfold maxLen;omega) (Nat.le_refl _) ?_;intro w1 ho1 hg1)
 have hb1:Below w.heap.size w w1:=(Below.refl _ _).grown hg1 (Nat.le_refl _) (fun k hk=>by cases hk)
 clear hg1
 go_loopw [3,11] (fun v i wr=>∃ (k:Nat) (l:List UInt8),k<=s.size/\i= .int .i64 k/\Hid (l=E5 (s.toList.take k))/\l.length<=k/\CA wr w.heap.size 5 v l/\Below w.heap.size w wr) (fun _ i _=>s.size - (intOf i).toNat)
 case atStart=>exact ⟨0,[],Nat.zero_le _,rfl,rfl,Nat.zero_le _,ho1,hb1⟩
 case round=>
  obtain ⟨k,l,hk,rfl,hl,hll,hown,hbel⟩:=hrel;have hsz:=hbel.size;clear ho1 hb1
  by_cases hlt:k<s.size
  ·have h0:=AC s[k];have h1:=AK s[k]
   by_cases h9:(s[k].toNat:Int)=9
   ·have hnc:=H0 (O6 (Or.inl h9));obtain ⟨e9,n9⟩:=MX h9;clear h9;go_wp2;go_roundw
    case rel=>exact ⟨k+1,_,by omega,by go_num,KR hlt hl.out hnc.out,by omega,hown,hbel⟩
    case measure=>simp [intOf];omega
   obtain ⟨e9,n9⟩:=TS h9
   by_cases h10:(s[k].toNat:Int)=10
   ·have hnc:=H0 (O6 (Or.inr (Or.inl h10)));obtain ⟨e10,n10⟩:=MX h10;clear h10;go_wp2;go_roundw
    case rel=>exact ⟨k+1,_,by omega,by go_num,KR hlt hl.out hnc.out,by omega,hown,hbel⟩
    case measure=>simp [intOf];omega
   obtain ⟨e10,n10⟩:=TS h10
   by_cases h13:(s[k].toNat:Int)=13
   ·have hnc:=H0 (O6 (Or.inr (Or.inr h13)));obtain ⟨e13,n13⟩:=MX h13;clear h13;go_wp2;go_roundw
    case rel=>exact ⟨k+1,_,by omega,by go_num,KR hlt hl.out hnc.out,by omega,hown,hbel⟩
    case measure=>simp [intOf];omega
   ·have hnc:=H0 (ZA (show ¬ ((s[k].toNat:Int)=9\/(s[k].toNat:Int)=10\/(s[k].toNat:Int)=13) by omega))
    obtain ⟨e13,n13⟩:=TS h13;clear h9 h10 h13
    go_wp2_with (at_builtin;refine A8 ty8 rfl _ _ rfl s[k] rfl rfl hown hbel hsz rfl (by unfold maxLen;omega) (by omega) ?_;intro v' w' ho' hb' _)
    go_roundw
    case rel=>exact ⟨k+1,_,by omega,by go_num,Aa2 hlt hl.out hnc.out,by simp;omega,ho',hb'⟩
    case measure=>simp [intOf];omega
  ·have hcv:=Hu (P:=Tryz.prog) (S:=9) Tryz.underlying25 Tryz.underlying5 Tryz.underlying9 hown;go_wp2;go_ret
   exact F6 (by rw [hl.out,Cl _ _ (by omega)]) hbel
theorem XM {l:List UInt8} {k:Nat} {s:ByteArray} (hk:k<s.size) (hl:l=AD (s.toList.take k)++s.toList.drop k):l.set k (BD s[k])=AD (s.toList.take (k+1))++s.toList.drop (k+1):=by
 have hlen:(AD (s.toList.take k)).length=k:=by simp [AD,Aa];omega
 rw [hl,List.set_append_right _ _ (by omega),hlen,Nat.sub_self,Ao _ _ hk,A5 _ _ hk]
 simp [AD]
theorem W3 {l:List UInt8} {k:Nat} {s:ByteArray} (hk:k<s.size) (hl:l=AD (s.toList.take k)++s.toList.drop k) (hc:BD s[k]=s[k]):l=AD (s.toList.take (k+1))++s.toList.drop (k+1):=by
 rw [hl,Ao _ _ hk,A5 _ _ hk];simp [AD,hc]
theorem Acm {l:List UInt8} {k:Nat} {s:ByteArray} (hk:k<s.size) (hl:l=AD (s.toList.take k)++s.toList.drop k):∃ h:k<l.length,l[k]=s[k]:=by
 have hlen:(AD (s.toList.take k)).length=k:=by simp [AD,Aa];omega
 subst hl
 refine ⟨by simp [AD,Aa];omega,?_⟩
 rw [List.getElem_append_right (by omega)]
 simp only [hlen,Nat.sub_self,Ao _ _ hk,List.getElem_cons_zero]
theorem Fl (s:ByteArray) (w:World) (hs:s.size<=1099511627776):
  Calls Tryz.prog 53 #[.string s] w (Cy w (AD s.toList)):=by
 have hcb:=fun (w:World) (s:ByteArray)=>Lib.run_convert_string_bytes (P:=Tryz.prog) w 9 25 5 s Tryz.underlying9 Tryz.underlying25 Tryz.underlying5
 have hr0:=LU.made w 5 s;have hb0:=Below.bytesWorld (Below.refl w.heap.size w) (Nat.le_refl _) 5 s;go_enter Tryz.func53,Tryz.ntmps53;go_wp2;clear hcb
 go_loopw [10] (fun i wr=>∃ (k:Nat) (l:List UInt8),k<=s.size/\i= .int .i64 k/\Hid (l=AD (s.toList.take k)++s.toList.drop k)/\LU wr w.heap.size 5 l/\Below w.heap.size w wr) (fun i _=>s.size - (intOf i).toNat)
 case atStart=>exact ⟨0,_,Nat.zero_le _,rfl,H0 (by simp [AD]),hr0,hb0⟩
 case round=>
  obtain ⟨k,l,hk,rfl,hl,hrow,hbel⟩:=hrel;clear hr0 hb0
  by_cases hlt:k<s.size
  ·have h0:=AC s[k];have h1:=AK s[k];obtain ⟨hkl,hat⟩:=Acm hlt hl.out;have hcell:=hrow.cell k hkl;have hfree:=hrow.free k hkl;rw [hat,DC] at hcell;clear hat
   by_cases hup:65<=(s[k].toNat:Int)/\(s[k].toNat:Int)<=90
   ·obtain ⟨hu1,hu2⟩:=hup;have hset:=hrow.set k hkl (BD s[k]);have hup:=H0 (Rl hu1 hu2);go_wp2;go_roundw
    case rel=>exact ⟨k+1,_,by omega,by go_num,XM hlt hl.out,by rw [hup.out];exact hset,hbel.setCell (Nat.le_refl _) _⟩
    case measure=>simp [intOf];omega
   ·have hnc:=H0 (Pf hup)
    have hcase:¬ 65<=(s[k].toNat:Int)\/¬ (s[k].toNat:Int)<=90:=by omega
    clear hup
    rcases hcase with hup | hup
    all_goals
     go_wp2;go_roundw
     case rel=>exact ⟨k+1,_,by omega,by go_num,W3 hlt hl.out hnc.out,hrow,hbel⟩
     case measure=>simp [intOf];omega
  ·have hlen:l.length=s.size:=by rw [hl.out];simp [AD,Aa];omega
   have hcv:=Ado (P:=Tryz.prog) (S:=9) Tryz.underlying25 Tryz.underlying5 Tryz.underlying9 hrow s.size (grownCap w s.size 0 5) hlen.symm;clear hlen;go_wp2;go_ret
   exact F6 (by rw [hl.out,Cl _ _ (by omega),AM _ _ (by omega),List.append_nil]) hbel
def Pp (c:Int):List UInt8:=(Utf8.encode c).data.toList
def IX:List UInt8:=[239,191,189]
def Bj (c:Nat):List UInt8:=if 0x10ffff<c\/(0xd800<=c/\c<=0xdfff) then IX else Pp (c:Int)
def A9 (c:Nat):Nat × Nat × Nat:=
 if 0xc2<=c/\c<=0xdf then (0x80,0xbf,2)
 else if c=0xe0 then (0xa0,0xbf,3)
 else if c=0xed then (0x80,0x9f,3)
 else if 0xe1<=c/\c<=0xef then (0x80,0xbf,3)
 else if c=0xf0 then (0x90,0xbf,4)
 else if 0xf1<=c/\c<=0xf3 then (0x80,0xbf,4)
 else if c=0xf4 then (0x80,0x8f,4)
 else (0,0,1)
def IH:Nat->Nat->Nat->List UInt8->Nat
 | 0,_,_,_=>0
 | k+1,_,_,[]=>0
 | k+1,lo,hi,x :: r=>if lo<=x.toNat/\x.toNat<=hi then IH k 0x80 0xbf r+1 else 0
def Ho:List UInt8->Nat
 | []=>1
 | c :: r=>IH ((A9 c.toNat).2.2 - 1) (A9 c.toNat).1 (A9 c.toNat).2.1 r+1
def Ct (l:List UInt8):Nat × Nat:=Utf8.decode ⟨l.toArray⟩ 0
def Cx:Nat->List UInt8->List UInt8
 | 0,_=>[]
 | f+1,l=>if l=[] then [] else if Ct l=(65533,1) then IX++Cx f (l.drop (Ho l)) else l.take (Ct l).2++Cx f (l.drop (Ct l).2)
def FY (l:List UInt8):List UInt8:=Cx (l.length+1) l
def B7:Nat->List UInt8->List Nat
 | 0,_=>[]
 | f+1,l=>if l=[] then [] else (Ct l).1 :: B7 f (l.drop (Ct l).2)
def Adj (l:List UInt8):List Nat:=B7 (l.length+1) l
def Kw (l:List UInt8):List Nat:=Adj (FY l)
theorem If (c:UInt8) (r:List UInt8) (h:c.toNat<128):Ct (c :: r)=(c.toNat,1):=by
 unfold Ct Utf8.decode;have e:(ByteArray.get! ⟨(c :: r).toArray⟩ (0+0)).toNat=c.toNat:=rfl;simp only [e,if_pos h]
theorem Lj (l:List UInt8):1<=(Ct l).2:=Lib.width_pos _ _
theorem Rz (l:List UInt8):(Ct l).1<=1114111:=Lib.rune_le _ _
def IZ (l:List UInt8):Bool:=l.all fun c=>decide (c.toNat<128)
theorem Rn:∀ (f:Nat) (l:List UInt8),l.length<f->IZ l=true->Cx f l=l
 | 0,_,h,_=>by omega
 | f+1,[],_,_=>by rw [Cx,if_pos rfl]
 | f+1,c :: r,h,hl=>by
  unfold IZ at hl;rw [List.all_cons,Bool.and_eq_true,decide_eq_true_iff] at hl
  rw [Cx,if_neg (by simp),If c r hl.1,if_neg (by rw [Prod.mk.injEq];omega)]
  show [c]++Cx f r=c :: r
  rw [Rn f r (by simpa using h) hl.2];rfl
theorem PJ:∀ (f:Nat) (l:List UInt8),l.length<f->IZ l=true->B7 f l=l.map (·.toNat)
 | 0,_,h,_=>by omega
 | f+1,[],_,_=>by rw [B7,if_pos rfl];rfl
 | f+1,c :: r,h,hl=>by
  unfold IZ at hl;rw [List.all_cons,Bool.and_eq_true,decide_eq_true_iff] at hl
  rw [B7,if_neg (by simp),If c r hl.1]
  show c.toNat :: B7 f r=_
  rw [PJ f r (by simpa using h) hl.2];rfl
theorem Mo {l:List UInt8} (h:IZ l=true):FY l=l:=Rn _ l (by omega) h
theorem Vb {l:List UInt8} (h:IZ l=true):Kw l=l.map (·.toNat):=by
 unfold Kw;rw [Mo h]
 exact PJ _ l (by omega) h
theorem Sj:∀ (f:Nat) (l:List UInt8),∀ c∈B7 f l,c<=1114111
 | 0,_,c,h=>(nomatch h)
 | f+1,l,c,h=>by
  rw [B7] at h;split at h
  ·cases h
  ·rcases List.mem_cons.1 h with rfl | h
   ·exact Rz l
   ·exact Sj f _ c h
theorem YI (l:List UInt8):∀ c∈Kw l,c<=1114111:=Sj _ _
theorem Ue:∀ k lo hi l,IH k lo hi l<=k/\IH k lo hi l<=l.length
 | 0,_,_,_=>⟨Nat.le_refl _,Nat.zero_le _⟩
 | k+1,_,_,[]=>⟨Nat.zero_le _,Nat.le_refl _⟩
 | k+1,lo,hi,x :: r=>by
  rw [IH];split
  ·have:=Ue k 0x80 0xbf r;simp;omega
  ·simp
theorem AdP (c:Nat):1<=(A9 c).2.2/\(A9 c).2.2<=4:=by
 unfold A9
 repeat' split
 all_goals simp
theorem MU:∀ (f:Nat) (l:List UInt8),(Cx f l).length<=3 * l.length
 | 0,l=>by simp [Cx]
 | f+1,l=>by
  rw [Cx];split
  ·simp
  ·rename_i hne;have hpos:0<l.length:=List.length_pos_iff.2 hne;split
   ·have:=MU f (l.drop (Ho l))
    have h1:1<=Ho l:=by cases l<;>simp [Ho]
    simp [IX] at this⊢;omega
   ·have:=MU f (l.drop (Ct l).2);simp at this⊢;omega
theorem Si (l:List UInt8):(FY l).length<=3 * l.length:=MU _ l
theorem PL:∀ (f:Nat) (l:List UInt8),(B7 f l).length<=l.length
 | 0,l=>by simp [B7]
 | f+1,l=>by
  rw [B7];split
  ·simp
  ·rename_i hne;have hpos:0<l.length:=List.length_pos_iff.2 hne;have:=PL f (l.drop (Ct l).2);have h1:=Lj l;simp at this⊢;omega
theorem Lw (l:List UInt8):(Kw l).length<=3 * l.length:=Nat.le_trans (PL _ _) (Si l)
end Go.Proofs.YtonomfeipkdmhaaGreatDoor
