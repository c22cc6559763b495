/- Part 0: lemmas. -/
import Derived.BigQuiet
import Derived.Deep.DeepCutAuto
import Derived.Deep.LoopGhost
import Derived.Deep.QuietTactic
import Derived.Deep.RegionHeld3
import Derived.Laws.AppendOwnNone
import Derived.Lib.ConvBytes
import Derived.Lib.Hide
import Derived.Lib.TrimU
import Derived.OpenShut
import Derived.Test.YtonomfeipkdmhaaGreatDoorRows
import Derived.WalkKit
import Derived.WalkLawsBesides
import Derived.WalkSpells
set_option linter.unusedVariables false
set_option linter.unusedSimpArgs false
set_option maxRecDepth 100000
set_option maxHeartbeats 16000000
namespace Go.Proofs
theorem Qa {p:Prop} (h:p:=by omega):p:=h
theorem Qb {p:Prop} (h:p:=by kernel_rfl):p:=h
theorem Qc {p:Prop} (h:p:=by decide):p:=h
theorem Qd {p:Prop} (h:p:=by simp only [Bool.or_self,Bool.false_or,Bool.or_false,Bool.true_or,Bool.or_true,Bool.and_true,Bool.and_self,Bool.and_false,Bool.false_eq_true,if_false,if_true]):p:=h
theorem Qe {p:Prop} (h:p:=by decide+kernel):p:=h
theorem Qf {p:Prop} (h:p:=by simp):p:=h
theorem Qg {p:Prop} (h:p:=by rw [beq_eq_false_iff_ne];omega):p:=h
theorem Qh {p:Prop} (h:p:=by rw [ByteArray.size_extract];omega):p:=h
theorem Qi {p:Prop} (h:p:=by simp;omega):p:=h
theorem Qj {p:Prop} (h:p:=by first | rfl | (congr 1<;>omega)):p:=h
theorem Qk {p:Prop} (h:p:=by simp only [List.length_append,List.length_nil,List.length_cons,Aa];omega):p:=h
theorem Ql {p:Prop} (h:p:=by go_num):p:=h
theorem Qm {p:Prop} (h:p:=by unfold maxLen;omega):p:=h
theorem Qn {p:Prop} (h:p:=by have:=hrun.out;rw [hrest.out] at this;simp only [Prod.mk.injEq] at this;exact ⟨this.1,by omega⟩):p:=h
theorem Qo {p:Prop} (h:p:=by rw [hv2.out];first | rfl | (congr 4<;>omega)):p:=h
theorem Qp {p:Prop} (h:p:=by show 18+1≤23;decide):p:=h
theorem Qq {p:Prop} (h:p:=by rw [toList_extract,List.take_of_length_le (by rw [Aa];omega)]):p:=h
theorem Qr {p:Prop} (h:p:=by cases h):p:=h
theorem Qs {p:Prop} (h:p:=by rw [List.length_take];omega):p:=h
theorem Qt {p:Prop} (h:p:=by rfl):p:=h
theorem Qu {p:Prop} (h:p:=by have:=hme.out;omega):p:=h
theorem Qv {p:Prop} (h:p:=by have:=hI.size;omega):p:=h
theorem Qw {p:Prop} (h:p:=by rw [Aa];omega):p:=h
theorem Qx {p:Prop} (h:p:=by have:=hb.size;have:=h.size;omega):p:=h
theorem Qy {p:Prop} (h:p:=by simpa using h):p:=h
theorem Qz {p:Prop} (h:p:=by rw [hv.out,if_neg hk0,hcons.out,if_neg (by intro e;exact h59 (Option.some.inj e))]):p:=h
theorem QA {p:Prop} (h:p:=by rw [hml.out];unfold maxLen;first | (simp;done) | (simp;omega)):p:=h
theorem QB {p:Prop} (h:p:=by rw [hb.block g (by have:=(Array.getElem?_eq_some_iff.1 hh).1;omega)];exact hh):p:=h
theorem QC {p:Prop} (h:p:=by rw [hv2.out];exact ht.out):p:=h
theorem QD {p:Prop} (h:p:=by rw [ht.out,hf.out]):p:=h
theorem QE {p:Prop} (h:p:=by unfold Lib.hasPrefix;simp [List.isPrefixOf]):p:=h
theorem QF {p:Prop} (h:p:=by rw [hf.out];exact toList_mk _):p:=h
theorem QG {p:Prop} (h:p:=by rw [hv2.out];exact toList_mk [38]):p:=h
theorem QH {p:Prop} (h:p:=by intro v hv;obtain ⟨n,_,rfl⟩:=List.mem_map.1 hv;rfl):p:=h
theorem QI {p:Prop} (h:p:=by dsimp only;omega):p:=h
theorem QJ {p:Prop} (h:p:=by rw [hrun.out,hrest.out];simp only [Prod.mk.injEq,true_and];omega):p:=h
theorem QK {p:Prop} (h:p:=by rw [IntWalk.i64_in _ (by omega)];omega):p:=h
theorem QL {p:Prop} (h:p:=by have:=hg.out;simp only [if_true,List.length_cons] at this;omega):p:=h
theorem QM {p:Prop} (h:p:=by rw [hml.out];first | (simp;done) | (simp;omega)):p:=h
theorem QN {p:Prop} (h:p:=by rw [Lib.cell_of_heap hblk];rfl):p:=h
theorem QO {p:Prop} (h:p:=by rw [←hS];rfl):p:=h
theorem QP {p:Prop} (h:p:=by rw [List.drop_zero]):p:=h
theorem QQ {p:Prop} (h:p:=by first | exact Below.refl _ _ | exact below_drew _ | exact below_drewN (Below.refl _ _) _):p:=h
theorem QR {p:Prop} (h:p:=by rw [hT.out,if_neg (by rw [hp];rintro (h | h);exact absurd h.1 (by decide);exact h15 h)]):p:=h
theorem QS {p:Prop} (h:p:=by rw [decide_eq_false_iff_not];omega):p:=h
theorem QT {p:Prop} (h:p:=by rw [hk.out];decide):p:=h
theorem QU {p:Prop} (h:p:=by rw [hg2.out,if_neg hvP]):p:=h
theorem QV {p:Prop} (h:p:=by rintro e w' ⟨rfl,rfl⟩;exact ⟨rfl,trivial,BY.refl _ _⟩):p:=h
theorem QW {p:Prop} (h:p:=by have:=World.block_lt_of_cell? w _ h1;simpa using this):p:=h
theorem QX {p:Prop} (h:p:=by have:=hll.out;omega):p:=h
theorem QY {p:Prop} (h:p:=by rintro (h | h);have:=hlen.out;omega;exact h hun.out):p:=h
theorem QZ {p:Prop} (h:p:=by first | exact hbel.out | exact hbel.out.drew | exact below_drewN hbel.out _):p:=h
theorem Q2 {p:Prop} (h:p:=by simpa using h1):p:=h
theorem Q3 {p:Prop} (h:p:=by have:=(Array.getElem?_eq_some_iff.1 hh).1;omega):p:=h
theorem Q4 {p:Prop} (h:p:=by rw [hF];exact List.mem_cons_self ..):p:=h
theorem Q5 {p:Prop} (h:p:=by first | rfl | (congr 1<;>omega) | (simp;omega)):p:=h
theorem Q6 {p:Prop} (h:p:=by have:=hsb.out;omega):p:=h
theorem Q7 {p:Prop} (h:p:=by have:=hs3.out;omega):p:=h
theorem Q8 {p:Prop} (h:p:=by rw [←Aa,toList_mk];exact hl):p:=h
theorem Q9 {p:Prop} (h:p:=by rw [hv.out,if_pos rfl]):p:=h
theorem AdZ {p:Prop} (h:p:=by rw [hfin.out];first | rfl | (congr 4<;>omega)):p:=h
theorem Aeb {p:Prop} (h:p:=by first | decide | omega):p:=h
theorem Aef {p:Prop} (h:p:=by rw [hv2.out];rfl):p:=h
theorem AeF {p:Prop} (h:p:=by rw [hT.out,if_neg (by rintro (h | h);exact hne h.2;exact h15 h)]):p:=h
theorem Agf {p:Prop} (h:p:=by simp at hx⊢;exact .inr hx):p:=h
theorem Agg {p:Prop} (h:p:=by rw [List.drop_of_length_le (by omega)];rfl):p:=h
theorem Agh {p:Prop} (h:p:=by rw [hp];rintro (h | h);exact absurd h.1 (by decide);exact h15 h):p:=h
theorem Agj {p:Prop} (h:p:=by simp [Act.eval,Array.replicate]):p:=h
theorem Agm {p:Prop} (h:p:=by rw [←hm,List.length_take];omega):p:=h
theorem AgU {p:Prop} (h:p:=by simp only [World.iterAt,Array.size_setIfInBounds];exact h.size):p:=h
theorem AgW {p:Prop} (h:p:=by rw [Lib.indexAny_none (by rw [←Lib.size_eq];exact HN.out)];rfl):p:=h
theorem Ag3 {p:Prop} (h:p:=by rw [AL s (2+k) (by omega)];rfl):p:=h
theorem Ag5 {p:Prop} (h:p:=by rw [AL s (3+k) (by omega)];rfl):p:=h
theorem Aho {p:Prop} (h:p:=by have:=hgs.out;simpa using this):p:=h
theorem Aht {p:Prop} (h:p:=by rw [hv.out,if_neg hk0,hcons.out,h59];rfl):p:=h
theorem Ahv {p:Prop} (h:p:=by rw [hT.out,if_pos (.inr h15)]):p:=h
theorem Ahw {p:Prop} (h:p:=by rw [List.length_append];omega):p:=h
theorem AhN {p:Prop} (h:p:=by have:=hln.out;omega):p:=h
theorem Aib {p:Prop} (h:p:=by cases h;decide):p:=h
theorem Aiw {p:Prop} (h:p:=by rw [hn.out,Nat.zero_add];rfl):p:=h
theorem AiZ {p:Prop} (h:p:=by intro e;exact h59 (Option.some.inj e)):p:=h
theorem AjX {p:Prop} (h:p:=by rw [hCz.out];omega):p:=h
theorem AjY {p:Prop} (h:p:=by have:=h.size;omega):p:=h
theorem Aj1 {p:Prop} (h:p:=by rw [hv.out];rfl):p:=h
theorem Aj2 {p:Prop} (h:p:=by rw [h];decide):p:=h
theorem Aj3 {p:Prop} (h:p:=by simp [results,Tryz.results37,go_sem]):p:=h
theorem Aj4 {p:Prop} (h:p:=by rw [hno.out];exact e0):p:=h
theorem Aj5 {p:Prop} (h:p:=by rw [hv.out,if_neg hk0,hnil.out];rfl):p:=h
theorem Aj6 {p:Prop} (h:p:=by rw [IntKind.wrap_u8];omega):p:=h
theorem Aj7 {p:Prop} (h:p:=by rw [hN.out];omega):p:=h
theorem Aj8 {p:Prop} (h:p:=by rw [←hq];exact Nat.div_le_self _ _):p:=h
theorem Aj9 {p:Prop} (h:p:=by rw [Cu];exact h.size):p:=h
theorem Aka {p:Prop} (h:p:=by simp at this⊢;omega):p:=h
theorem Akb {p:Prop} (h:p:=by show 3+11≤23;decide):p:=h
theorem Akc {p:Prop} (h:p:=by rw [Aa];exact h):p:=h
theorem Akd {p:Prop} (h:p:=by rw [ht.out];rfl):p:=h
theorem Ake {p:Prop} (h:p:=by rw [List.length_take,Aa];omega):p:=h
theorem Akf {p:Prop} (h:p:=by rw [if_neg (by omega)]):p:=h
theorem Akg {p:Prop} (h:p:=by rw [hQ.out,cN.out];rfl):p:=h
theorem Akh {p:Prop} (h:p:=by simpa using h0):p:=h
theorem Aki {p:Prop} (h:p:=by simpa using h2):p:=h
theorem Akj {p:Prop} (h:p:=by rw [List.getLast?_append];rfl):p:=h
theorem Akk {p:Prop} (h:p:=by rw [h2];decide):p:=h
theorem Akl {p:Prop} (h:p:=by rw [sp,Bool.false_and];decide):p:=h
theorem Akm {p:Prop} (h:p:=by rw [hfin.out];rfl):p:=h
theorem Akn {p:Prop} (h:p:=by have:=hf.out;simpa using this):p:=h
theorem Ako {p:Prop} (h:p:=by show c.toNat=59;omega):p:=h
theorem Akp {p:Prop} (h:p:=by rw [beq_iff_eq];omega):p:=h
theorem Akq {p:Prop} (h:p:=by cases e):p:=h
theorem Akr {p:Prop} (h:p:=by rw [←Aa,h1.out];omega):p:=h
theorem Aks {p:Prop} (h:p:=by simp at hj;omega):p:=h
theorem Akt {p:Prop} (h:p:=by rw [hml.out];rfl):p:=h
theorem Aku {p:Prop} (h:p:=by rw [hno.out];rfl):p:=h
theorem Akv {p:Prop} (h:p:=by intro i hi;omega):p:=h
theorem Akw {p:Prop} (h:p:=by rw [Ai,Ai];omega):p:=h
theorem Akx {p:Prop} (h:p:=by rw [←hf.out];rfl):p:=h
theorem Aky {p:Prop} (h:p:=by simp [World.setCell]):p:=h
theorem Akz {p:Prop} (h:p:=by first | rfl | go_num):p:=h
theorem AkA {p:Prop} (h:p:=by simpa using hem):p:=h
theorem AkB {p:Prop} (h:p:=by show 17+1≤23;decide):p:=h
theorem AkC {p:Prop} (h:p:=by rw [Ai,Ai,Ai];omega):p:=h
end Go.Proofs
namespace Go.Proofs.YtonomfeipkdmhaaGreatDoor
open Go.RowKit
theorem H0 {p:Prop} (h:p):Hid p:=Lib.hid h
theorem N2 {α:Sort _} (a:α):∃ x,a=x:=⟨a,rfl⟩
theorem P3:(∀ (a:Act) (d:Option Tmp) (v:Value),Act.put a d v=match d with|some d=>{a with tmps:=a.tmps.setIfInBounds d v}|none=>a)∧(∀ (l:List Value) (i:Nat) (v:Value),l.toArray.setIfInBounds i v=(l.set i v).toArray)∧(∀ (x v:Value) (l:List Value),(x::l).set 0 v=v::l)∧(∀ (x v:Value) (l:List Value) (i:Nat),(x::l).set (i+1) v=x::l.set i v):=⟨fun _ _ _=>rfl,fun _ _ _=>List.setIfInBounds_toArray ..,fun _ _ _=>rfl,fun _ _ _ _=>rfl⟩
theorem T0 {P:Program} {md:Region.Mode} {ops:Array Oper} {Q:Exit→Act→World→Prop} {S:World→Prop} {fuel:Nat} {listed:Array Bool} {a:Act} {w:World} (i d:Nat) (v:Value) {op ty pos after guard} (hS:S w) (hy:∀ w,S w→(execOp a.eval ⟨some d,op,ty,pos,after,guard⟩).run P w=.ok (.value v) w) (h:wpAnyH P md ops Q S fuel (listed.setIfInBounds i true) (a.put (some d) v) w) (h1:ops[i]? =some ⟨some d,op,ty,pos,after,guard⟩:=by rfl) (h2:Region.noSelect ops=true:=by kernel_rfl) (h3:Region.free md ops listed i=true:=by kernel_rfl) (h4:(Region.ready md ops listed).contains i=true:=by kernel_rfl) (h5:Region.wanted (⟨some d,op,ty,pos,after,guard⟩:Oper) (yielded ops a.tmps)=true:=by rfl) (h6:∀ c a w,Q (.panic c) (a.put (some d) v) w→Q (.panic c) a w:=by exact fun _ _ _ h=>h):wpAnyH P md ops Q S (fuel+1) listed a w:=wpAnyH_take h1 h2 h3 h4 h6 (Or.inl ⟨h5,hy⟩) hS h
theorem A7 {a b:Bool} (h:a=b):Ending.returned (.bool a)= .returned (.bool b):=by rw [h]
theorem OZ {k:IntKind} {a b:Int} (h:a=b):Ending.returned (.int k a)= .returned (.int k b):=by rw [h]
theorem O6 {a b:Int} (h:¬ a=b):(a==b)=false/\(a != b)=true:=by simp [h]
theorem MP {a b:Int} (h:a=b):(a==b)=true/\(a != b)=false:=by simp [h]
def Dy (c:UInt8):Value:= .int .u8 (c.toNat:Int)
def EI (w:World) (l:List UInt8) (e:Ending) (w':World):Prop:=
 ∃ t:ByteArray,e= .returned (.string t)/\Hid (t.toList=l)/\Below w.heap.size w w'
theorem GC {w w':World} {l:List UInt8} {t:ByteArray} (h:t.toList=l) (hb:Below w.heap.size w w'):EI w l (.returned (.string t)) w':=⟨t,rfl,h,hb⟩
theorem Hk {w w':World} {l m:List UInt8} (h:m=l) (hb:Below w.heap.size w w'):EI w l (.returned (.string ⟨m.toArray⟩)) w':=⟨_,rfl,(ByteArray.toList_mk m).trans h,hb⟩
def Lt (w:World) (b:Bool) (e:Ending) (w':World):Prop:=e= .returned (.bool b)/\Below w.heap.size w w'
theorem Aa (s:ByteArray):s.toList.length=s.size:=by rw [ByteArray.toList_eq,Array.length_toList];rfl
theorem toList_extract (s:ByteArray) (a b:Nat):(s.extract a b).toList=(s.toList.take b).drop a:=by
 rw [ByteArray.toList_eq,ByteArray.toList_eq,ByteArray.data_extract,Array.toList_extract,List.extract_eq_take_drop,List.drop_take]
theorem toList_append (s t:ByteArray):(s++t).toList=s.toList++t.toList:=by
 rw [ByteArray.toList_eq,ByteArray.toList_eq,ByteArray.toList_eq];simp
theorem EJ (s:ByteArray) (i:Nat) (h:i<s.size):s.toList[i]' Akc=s[i]:=by
 simp only [ByteArray.toList_eq];rfl
theorem toList_mk (l:List UInt8):(ByteArray.mk l.toArray).toList=l:=ByteArray.toList_mk l
theorem Bb {s t:ByteArray} (h:s.toList=t.toList):s=t:=by
 rw [ByteArray.toList_eq,ByteArray.toList_eq] at h;cases s;cases t;simp at h;rw [h]
theorem As (s:ByteArray) (k:Nat) (h:k<s.size):s.toList.drop k=s[k] :: s.toList.drop (k+1):=by
 rw [List.drop_eq_getElem_cons Akc,EJ]
theorem AL (s:ByteArray) (k:Nat) (h:s.size<=k):s.toList.drop k=[]:=List.drop_of_length_le Akc
theorem AX (c:UInt8):(c.toNat:Int)<=255:=by have:=c.toNat_lt;omega
theorem AN (c:UInt8):0<=(c.toNat:Int):=Qa
theorem Dj {P:Program} {f:FuncId} {fn:Func} {c:Code} (hf:P.funcs[f]? =some fn) (hname:(fn.name== "runtime.NumGoroutine")=false) (hb:fn.body=some c) (args:Array Value) (w:World):
  (callFunc f args).run P w= .ok (.enter f args) w:=by
 have h1:fn.name≠ "runtime.NumGoroutine" :=by simpa using hname
 simp [callFunc,hf,h1,hb]
def Su:Value->Nat | .string s=>s.size | _=>0
theorem AF (s:ByteArray):s.toList=[]↔s.size=0:=by rw [<-Aa,List.length_eq_zero_iff]
theorem Cx (s:ByteArray) (k:Nat) (h:k<s.size):s.toList.take (k+1)=s.toList.take k++[s[k]]:=by
 rw [List.take_succ_eq_append_getElem Akc,EJ _ _ h]
theorem FT (s:ByteArray) (k:Nat) (h:s.size<=k):s.toList.take k=s.toList:=List.take_of_length_le Akc
structure EZ (P:Program) (T E:TypeId) (z:Value) (b:Nat):Prop where
 u:P.underlying T=some (.slice E)
 i:∃ i,P.info? E=some i/\i.zero=some z/\i.size=1/\i.bytes=b
 z:z.cells.size=1
theorem EZ.mk' {P:Program} {T E:TypeId} {z:Value} {b:Nat} (u:P.underlying T=some (.slice E))
  (h:(P.info? E).map (fun i=>(i.zero,i.size,i.bytes))=some (some z,1,b)) (hz:z.cells.size=1):EZ P T E z b:=
 ⟨u,info_parts h,hz⟩
theorem RZ (w:World) (u:Value) (e:TypeId):∀ j x,[u][j]? =some x->(w.alloc (.cells #[u] e)).cell? ((⟨w.heap.size,0,none⟩:Addr).add j)=some x:=by
 intro j x hj
 match j,hj with
 | 0,hj=>simp at hj;subst hj;simp [Addr.add]
theorem JS {P:Program} {T E:TypeId} {z:Value} {b:Nat} (ty:EZ P T E z b) {ops:Array Oper} {rest:List Oper} {o:Oper} {a:Act} {Q:Exit->Act->World->Prop}
  (hgd:o.guard=none) (s x:Operand) (ho:o.op= .call { callee:= .builtin .append,args:= #[s,x],argTypes:= #[T,T] })
  {W0 w0:World} {B:Nat} {v u:Value} {xs:List Value} (hu:u.oneCell'=true) (hs:a.eval s=v) (hx:a.eval x= .slice (some ⟨w0.heap.size,0,none⟩) 1 1)
  (hown:w0.ownsRow B E 1 v xs.length xs) (hbel:Below B W0 w0) (hB:B<=w0.heap.size) (h63:xs.length+1<=maxLen) (hsz:(xs.length+1) * b<=140737488355328)
  (h:∀ v' w',w'.ownsRow B E 1 v' (xs.length+1) (xs++[u])->Below B W0 w'->(v'= .slice none 0 0->False)->wpList P ops Q rest (a.put o.dst v') w'):
  wpList P ops Q (o :: rest) a (w0.alloc (.cells #[u] E)):=by
 obtain ⟨i,hi,hz,hs1,hb1⟩:=ty.i
 refine wpList_append_own (w0.alloc (.cells #[u] E)) hgd s x T ho B E i z 1 b ty.u hi hz hs1 hb1 ty.z Qc v xs.length xs hs (hown.alloc _) ⟨w0.heap.size,0,none⟩ 1 1 [u] hx rfl
  (RZ w0 u E) (by intro y hy;simp at hy;subst hy;exact hu) h63 hsz Qi ?_
 intro v' w' hown' hgrow hnil
 refine h v' w' hown' ?_ (fun hv=>by have:=(hnil.1 hv).2;omega)
 exact (hbel.alloc hB _).grown hgrow Qi (fun k hk=>(hown.lt k hk).1)
def CZ (w:World) (B:Nat) (E:TypeId) (v:Value) (l:List UInt8):Prop:=w.ownsRow B E 1 v l.length (l.map Dy)
def AH (w:World) (B:Nat) (E:TypeId) (v:Value) (l:List ByteArray):Prop:=w.ownsRow B E 1 v l.length (l.map Value.string)
theorem CZ.nil (w:World) (B:Nat) (E:TypeId):CZ w B E (.slice none 0 0) []:=World.ownsRow_nil _ _ _ _
theorem AH.nil (w:World) (B:Nat) (E:TypeId):AH w B E (.slice none 0 0) []:=World.ownsRow_nil _ _ _ _
theorem By {P:Program} {T E:TypeId} {z:Value} {b:Nat} (ty:EZ P T E z b) {ops:Array Oper} {rest:List Oper} {o:Oper} {a:Act} {Q:Exit->Act->World->Prop}
  (hgd:o.guard=none) (s x:Operand) (ho:o.op= .call { callee:= .builtin .append,args:= #[s,x],argTypes:= #[T,T] })
  {W0 w0:World} {B:Nat} {v:Value} {l:List UInt8} {n:Int} (c:UInt8) (hs:a.eval s=v) (hx:a.eval x= .slice (some ⟨w0.heap.size,0,none⟩) 1 1)
  (hown:CZ w0 B E v l) (hbel:Below B W0 w0) (hB:B<=w0.heap.size) (hc:n=(c.toNat:Int)) (h63:l.length+1<=maxLen) (hsz:(l.length+1) * b<=140737488355328)
  (h:∀ v' w',CZ w' B E v' (l++[c])->Below B W0 w'->(v'= .slice none 0 0->False)->wpList P ops Q rest (a.put o.dst v') w'):
  wpList P ops Q (o :: rest) a (w0.alloc (.cells #[.int .u8 n] E)):=by
 subst hc
 refine JS ty hgd s x ho (xs:=l.map Dy) (v:=v) rfl hs hx (by simpa [CZ] using hown) hbel hB (by simpa using h63) (by simpa using hsz) ?_
 intro v' w' h1 h2 h3;refine h v' w' ?_ h2 h3;simpa [CZ,Dy] using h1
theorem Ca {P:Program} {T E:TypeId} {z:Value} {b:Nat} (ty:EZ P T E z b) {ops:Array Oper} {rest:List Oper} {o:Oper} {a:Act} {Q:Exit->Act->World->Prop}
  (hgd:o.guard=none) (s x:Operand) (ho:o.op= .call { callee:= .builtin .append,args:= #[s,x],argTypes:= #[T,T] })
  {W0 w0:World} {B:Nat} {v:Value} {l:List ByteArray} {t:ByteArray} (hs:a.eval s=v) (hx:a.eval x= .slice (some ⟨w0.heap.size,0,none⟩) 1 1)
  (hown:AH w0 B E v l) (hbel:Below B W0 w0) (hB:B<=w0.heap.size) (h63:l.length+1<=maxLen) (hsz:(l.length+1) * b<=140737488355328)
  (h:∀ v' w',AH w' B E v' (l++[t])->Below B W0 w'->(v'= .slice none 0 0->False)->wpList P ops Q rest (a.put o.dst v') w'):
  wpList P ops Q (o :: rest) a (w0.alloc (.cells #[.string t] E)):=by
 refine JS ty hgd s x ho (xs:=l.map Value.string) (v:=v) rfl hs hx (by simpa [AH] using hown) hbel hB (by simpa using h63) (by simpa using hsz) ?_
 intro v' w' h1 h2 h3;refine h v' w' ?_ h2 h3;simpa [AH] using h1
def Fv (w:World) (v:Value) (l:List ByteArray):Prop:=
 ∃ a c,v= .slice a l.length c/\(0<l.length->∃ g o,a=some ⟨g,o,none⟩/\∀ i (h:i<l.length),w.cell? ⟨g,o+i,none⟩=some (.string l[i]))
theorem AH.read {w:World} {B:Nat} {E:TypeId} {v:Value} {l:List ByteArray} (h:AH w B E v l):Fv w v l:=by
 rcases h.2 with ⟨rfl,hn⟩ | ⟨g,cap,cur,rfl,hg,hh,hcap,hml,hcs,hcur⟩
 ·exact ⟨none,0,by rw [hn],fun h0=>Qa⟩
 ·refine ⟨_,cap,rfl,fun _=>⟨g,0,rfl,fun i hi=> ?_⟩⟩
  have:=World.ownsRow.cellAt h i Qa;rw [Nat.zero_add,this];simp [hi]
theorem AH.alloc {w:World} {B:Nat} {E:TypeId} {v:Value} {l:List ByteArray} (h:AH w B E v l) (o:Obj):AH (w.alloc o) B E v l:=World.ownsRow.alloc h o
theorem AH.below {w w':World} {B K:Nat} {E:TypeId} {v:Value} {l:List ByteArray} (h:AH w B E v l) (hb:Below K w w') (hK:w.heap.size<=K):AH w' B E v l:=by
 refine ⟨h.1,?_⟩
 rcases h.2 with hn | ⟨g,cap,cur,rfl,hg,hh,rest⟩
 ·exact .inl hn
 ·exact .inr ⟨g,cap,cur,rfl,hg,QB,rest⟩
theorem Fv.below {w w':World} {K:Nat} {v:Value} {l:List ByteArray} (h:Fv w v l) (hb:Below K w w') (hK:w.heap.size<=K):Fv w' v l:=by
 obtain ⟨a,c,rfl,hc⟩:=h
 refine ⟨a,c,rfl,fun h0=> ?_⟩
 obtain ⟨g,o,rfl,hcell⟩:=hc h0
 refine ⟨g,o,rfl,fun i hi=> ?_⟩
 have:=World.block_lt_of_cell? w _ (hcell i hi);rw [hb.cell Aka];exact hcell i hi
def L7 (w:World) (g:Nat) (E:TypeId) (l:List UInt8):Prop:=
 ∃ (cur:Array Value) (m:Nat),w.heap[g]? =some (.cells cur E (m,m+1))/\l.length<=m/\cur.toList.take l.length=l.map Dy
theorem L7.made (w:World) (E:TypeId) (s:ByteArray):L7 (Lib.bytesWorld w E s) w.heap.size E s.toList:=by
 refine ⟨_,_,Lib.bytesWorld_at_new w E s,?_,?_⟩
 ·rw [ByteArray.toList_eq];simp only [Lib.bytesCells,Array.length_toList,Array.size_append,Array.size_map];omega
 ·rw [ByteArray.toList_eq];simp only [Lib.bytesCells,Array.toList_append,Array.toList_map];rw [List.take_append_of_le_length Qf,List.take_of_length_le Qf];rfl
theorem Below.bytesWorld {B:Nat} {a w:World} (h:Below B a w) (hB:B<=w.heap.size) (E:TypeId) (s:ByteArray):Below B a (Lib.bytesWorld w E s):=by
 refine h.trans ⟨?_,?_,?_,by rw [Lib.bytesWorld_size];omega,fun k hk=>Lib.bytesWorld_at_old w E s k Qa⟩
 all_goals (unfold Lib.bytesWorld World.freeze;split<;>rfl)
theorem L7.cell {w:World} {g:Nat} {E:TypeId} {l:List UInt8} (h:L7 w g E l) (j:Nat) (hj:j<l.length):w.cell? ⟨g,j,none⟩=some (Dy l[j]):=by
 obtain ⟨cur,m,hh,_,ht⟩:=h
 have:cur.toList[j]? =some (Dy l[j]):=by
  have h1:(cur.toList.take l.length)[j]? =(l.map Dy)[j]? :=by rw [ht]
  rw [List.getElem?_take,if_pos hj] at h1;rw [h1];simp [hj]
 simpa [World.cell?,hh] using this
theorem L7.free {w:World} {g:Nat} {E:TypeId} {l:List UInt8} (h:L7 w g E l) (j:Nat) (hj:j<l.length):w.frozen? ⟨g,j,none⟩=false:=by
 obtain ⟨cur,m,hh,hm,_⟩:=h;simp [World.frozen?,hh];omega
theorem L7.set {w:World} {g:Nat} {E:TypeId} {l:List UInt8} (h:L7 w g E l) (j:Nat) (hj:j<l.length) (c:UInt8):L7 (w.setCell ⟨g,j,none⟩ (Dy c)) g E (l.set j c):=by
 obtain ⟨cur,m,hh,hm,ht⟩:=h
 refine ⟨cur.setIfInBounds j (Dy c),m,?_,by simpa using hm,?_⟩
 ·simp only [World.setCell,Array.getElem?_modify,if_true,hh];rfl
 ·simp only [List.length_set,Array.toList_setIfInBounds,List.map_set];rw [<-ht,List.take_set]
theorem AfZ {P:Program} {T E S:TypeId} (hT:P.underlying T=some (.slice E)) (hE:P.underlying E=some (.int .u8)) (hS:P.underlying S=some .string)
  {w:World} {g:Nat} {l:List UInt8} (h:L7 w g E l) (n cap:Nat) (hn:n=l.length):
  (convert T S (.slice (some ⟨g,0,none⟩) n cap)).run P w= .ok (.string ⟨l.toArray⟩) w:=by
 subst hn
 have hx:((l.map fun c=>(c.toNat:Int)).map fun n=>UInt8.ofNat n.toNat)=l:=by
  rw [List.map_map];conv=>rhs;rw [<-List.map_id l]
  apply List.map_congr_left;intro c _;simp
 have:=run_convert_bytes_arg (P:=P) (w:=w) T E hT hE g 0 l.length cap (l.map fun c=>(c.toNat:Int)) Qf (fun i hi=>by
  rw [Nat.zero_add,h.cell i hi]
  simp [Dy,List.getD,hi]) S hS
 rw [this];unfold strOfNums;rw [hx]
theorem JY {P:Program} {T E S:TypeId} (hT:P.underlying T=some (.slice E)) (hE:P.underlying E=some (.int .u8)) (hS:P.underlying S=some .string)
  {w:World} {B:Nat} {v:Value} {l:List UInt8} (hown:CZ w B E v l):
  (convert T S v).run P w= .ok (.string ⟨l.toArray⟩) w:=by
 rcases hown.2 with ⟨rfl,hn⟩ | ⟨g,cap,cur,rfl,hg,hh,hcap,hml,hcs,hcur⟩
 ·have:l=[]:=List.eq_nil_of_length_eq_zero hn;subst this;exact run_convert_bytes_nil w T E hT hE 0 0 S hS
 ·have hx:((l.map fun c=>(c.toNat:Int)).map fun n=>UInt8.ofNat n.toNat)=l:=by
   rw [List.map_map];conv=>rhs;rw [<-List.map_id l]
   apply List.map_congr_left;intro c _;simp
  have:=run_convert_bytes_arg (P:=P) (w:=w) T E hT hE g 0 l.length cap (l.map fun c=>(c.toNat:Int)) Qf (fun i hi=>by
   rw [Nat.zero_add,hown.cellAt i Qa]
   simp [Dy,List.getD,hi]) S hS
  rw [this];unfold strOfNums;rw [hx]
theorem Bd {P:Program} {ops:Array Oper} {rest:List Oper} {o:Oper} {a:Act} {w:World} {Q:Exit->Act->World->Prop} (hw:Region.wanted o (yielded ops a.tmps)=true)
  (h:wpList P ops Q ({ o with guard:=none } :: rest) a w):wpList P ops Q (o :: rest) a w:=by
 unfold wpList at h⊢;rw [if_pos hw]
 rw [if_pos (by simp [Region.wanted])] at h
 exact h
theorem BC {w w':World} {B K size n:Nat} {E:TypeId} {v:Value} {xs:List Value} (h:w.ownsRow B E size v n xs) (hb:Below K w w') (hK:w.heap.size<=K):w'.ownsRow B E size v n xs:=by
 refine ⟨h.1,?_⟩
 rcases h.2 with hn | ⟨g,cap,cur,rfl,hg,hh,rest⟩
 ·exact .inl hn
 ·exact .inr ⟨g,cap,cur,rfl,hg,QB,rest⟩
theorem _root_.Go.RowKit.Below.next {a w w':World} (h:Below a.heap.size a w) (k:Below w.heap.size w w'):Below a.heap.size a w':=h.trans (k.mono h.size)
@[go_sem] theorem AhC (w:World) (n:Nat) (o:Obj):(w.drewN n).alloc o=(w.alloc o).drewN n:=rfl
@[go_sem] theorem Agi (w:World) (n:Nat) (a:Addr) (v:Value):(w.drewN n).setCell a v=(w.setCell a v).drewN n:=rfl
def Fq (w:World) (E:Array Obj) (d:Nat):World:={ w with heap:=w.heap++E,drawn:=d }
theorem _root_.Go.RowKit.Below.ext {w w':World} (h:Below w.heap.size w w'):∃ E d,w'=Fq w E d:=by
 refine ⟨w'.heap.extract w.heap.size w'.heap.size,w'.drawn,?_⟩;obtain ⟨h1,h2,h3,h4,h5⟩:=h
 have hh:w'.heap=w.heap++w'.heap.extract w.heap.size w'.heap.size:=by
  apply Array.ext_getElem?;intro k;rw [Array.getElem?_append,Array.getElem?_extract,Nat.min_self]
  by_cases hk:k<w.heap.size
  ·rw [if_pos hk,h5 k hk]
  ·rw [if_neg hk]
   by_cases hk2:k<w'.heap.size
   ·rw [if_pos Qa];congr 1;omega
   ·rw [if_neg Qa,Array.getElem?_eq_none Qa]
 unfold Fq;rw [<-hh];cases w;cases w';simp only at h1 h2 h3;subst h1 h2 h3;rfl
@[simp,go_sem] theorem Ai3 (w:World) (E:Array Obj) (d:Nat):(Fq w E d).heap.size=w.heap.size+E.size:=by simp [Fq]
theorem Kp (w:World) (E:Array Obj) (d k:Nat) (h:k<w.heap.size):(Fq w E d).heap[k]? =w.heap[k]? :=by
 simp only [Fq];rw [Array.getElem?_append,if_pos h]
theorem Gz (w:World) (E:Array Obj) (d:Nat):Below w.heap.size w (Fq w E d):=⟨rfl,rfl,rfl,Qf,fun k h=>Kp w E d k h⟩
theorem _root_.Go.RowKit.Below.toExt {B:Nat} {a w:World} (h:Below B a w) (hB:B<=w.heap.size) (E:Array Obj) (d:Nat):Below B a (Fq w E d):=h.trans ((Gz w E d).mono hB)
@[go_sem] theorem Aip (w:World) (E:Array Obj) (d n i:Nat) (h:n<w.heap.size):(Fq w E d).cell? ⟨n,i,none⟩=w.cell? ⟨n,i,none⟩:=(Gz w E d).cell (p:=⟨n,i,none⟩) h
@[go_sem] theorem AhT (w:World) (E:Array Obj) (d n i:Nat) (h:n<w.heap.size):(Fq w E d).frozen? ⟨n,i,none⟩=w.frozen? ⟨n,i,none⟩:=(Gz w E d).frozen (p:=⟨n,i,none⟩) h
@[go_sem] theorem Ag9 (w:World) (E:Array Obj) (d n i:Nat) (v:Value) (h:n<w.heap.size):(Fq w E d).setCell ⟨n,i,none⟩ v=Fq (w.setCell ⟨n,i,none⟩ v) E d:=by
 simp only [World.setCell,Fq];congr 1;apply Array.ext_getElem?;intro k;simp only [Array.getElem?_modify,Array.getElem?_append,Array.size_modify]
 by_cases hk:n=k
 ·subst hk;simp [h]
 ·simp [hk]
@[go_sem] theorem Aim (w:World) (E:Array Obj) (d n:Nat):(Fq w E d).drewN n=Fq w E (d+n):=rfl
@[go_sem] theorem Ai1 (w:World) (E:Array Obj) (d:Nat):(Fq w E d).drew=Fq w E (d+1):=rfl
@[go_sem] theorem AgH (w:World) (E:Array Obj) (d n:Nat):Fq (w.drewN n) E d=Fq w E d:=rfl
@[go_sem] theorem Ahr (w:World) (E:Array Obj) (d:Nat):Fq w.drew E d=Fq w E d:=rfl
@[simp,go_sem] theorem AiG (w:World) (E:Array Obj) (d:Nat):(Fq w E d).tape=w.tape:=rfl
@[go_sem] theorem Ajn (a n:Nat) (h:0<n):a<a+n:=Qa
@[go_sem] theorem Aju (a m n:Nat) (h:m<n):a+m<a+n:=Qa
@[go_sem] theorem Ajv (a n:Nat):a<=a+n:=Qa
@[go_sem] theorem Ajt (a m n:Nat) (h:m<=n):a+m<=a+n:=Qa
@[go_sem] theorem AjA (a n:Nat) (b0:Nat) (h:0<n):a<a+n+b0:=Qa
@[go_sem] theorem Ajh (a m n:Nat) (b0:Nat) (h:m<n):a+m<a+n+b0:=Qa
@[go_sem] theorem AjN (a n:Nat) (b0:Nat):a<=a+n+b0:=Qa
@[go_sem] theorem AjE (a m n:Nat) (b0:Nat) (h:m<=n):a+m<=a+n+b0:=Qa
@[go_sem] theorem Ajq (a n:Nat) (b0 b1:Nat) (h:0<n):a<a+n+b0+b1:=Qa
@[go_sem] theorem Ajm (a m n:Nat) (b0 b1:Nat) (h:m<n):a+m<a+n+b0+b1:=Qa
@[go_sem] theorem Ajz (a n:Nat) (b0 b1:Nat):a<=a+n+b0+b1:=Qa
@[go_sem] theorem Ajp (a m n:Nat) (b0 b1:Nat) (h:m<=n):a+m<=a+n+b0+b1:=Qa
@[go_sem] theorem Ajk (a n:Nat) (b0 b1 b2:Nat) (h:0<n):a<a+n+b0+b1+b2:=Qa
@[go_sem] theorem AjO (a m n:Nat) (b0 b1 b2:Nat) (h:m<n):a+m<a+n+b0+b1+b2:=Qa
@[go_sem] theorem AjC (a n:Nat) (b0 b1 b2:Nat):a<=a+n+b0+b1+b2:=Qa
@[go_sem] theorem Ajj (a m n:Nat) (b0 b1 b2:Nat) (h:m<=n):a+m<=a+n+b0+b1+b2:=Qa
@[go_sem] theorem AjD (a n:Nat) (b0 b1 b2 b3:Nat) (h:0<n):a<a+n+b0+b1+b2+b3:=Qa
@[go_sem] theorem AjH (a m n:Nat) (b0 b1 b2 b3:Nat) (h:m<n):a+m<a+n+b0+b1+b2+b3:=Qa
@[go_sem] theorem AjJ (a n:Nat) (b0 b1 b2 b3:Nat):a<=a+n+b0+b1+b2+b3:=Qa
@[go_sem] theorem Aji (a m n:Nat) (b0 b1 b2 b3:Nat) (h:m<=n):a+m<=a+n+b0+b1+b2+b3:=Qa
@[go_sem] theorem AjM (a n:Nat) (b0 b1 b2 b3 b4:Nat) (h:0<n):a<a+n+b0+b1+b2+b3+b4:=Qa
@[go_sem] theorem Ajx (a m n:Nat) (b0 b1 b2 b3 b4:Nat) (h:m<n):a+m<a+n+b0+b1+b2+b3+b4:=Qa
@[go_sem] theorem Ajr (a n:Nat) (b0 b1 b2 b3 b4:Nat):a<=a+n+b0+b1+b2+b3+b4:=Qa
@[go_sem] theorem Aje (a m n:Nat) (b0 b1 b2 b3 b4:Nat) (h:m<=n):a+m<=a+n+b0+b1+b2+b3+b4:=Qa
@[go_sem] theorem Ajo (a n:Nat) (b0 b1 b2 b3 b4 b5:Nat) (h:0<n):a<a+n+b0+b1+b2+b3+b4+b5:=Qa
@[go_sem] theorem AjB (a m n:Nat) (b0 b1 b2 b3 b4 b5:Nat) (h:m<n):a+m<a+n+b0+b1+b2+b3+b4+b5:=Qa
@[go_sem] theorem Ajw (a n:Nat) (b0 b1 b2 b3 b4 b5:Nat):a<=a+n+b0+b1+b2+b3+b4+b5:=Qa
@[go_sem] theorem AjR (a m n:Nat) (b0 b1 b2 b3 b4 b5:Nat) (h:m<=n):a+m<=a+n+b0+b1+b2+b3+b4+b5:=Qa
@[go_sem] theorem AjG (a n:Nat) (b0 b1 b2 b3 b4 b5 b6:Nat) (h:0<n):a<a+n+b0+b1+b2+b3+b4+b5+b6:=Qa
@[go_sem] theorem Ajy (a m n:Nat) (b0 b1 b2 b3 b4 b5 b6:Nat) (h:m<n):a+m<a+n+b0+b1+b2+b3+b4+b5+b6:=Qa
@[go_sem] theorem AjK (a n:Nat) (b0 b1 b2 b3 b4 b5 b6:Nat):a<=a+n+b0+b1+b2+b3+b4+b5+b6:=Qa
@[go_sem] theorem AjP (a m n:Nat) (b0 b1 b2 b3 b4 b5 b6:Nat) (h:m<=n):a+m<=a+n+b0+b1+b2+b3+b4+b5+b6:=Qa
@[go_sem] theorem AjQ (a n:Nat) (b0 b1 b2 b3 b4 b5 b6 b7:Nat) (h:0<n):a<a+n+b0+b1+b2+b3+b4+b5+b6+b7:=Qa
@[go_sem] theorem AjF (a m n:Nat) (b0 b1 b2 b3 b4 b5 b6 b7:Nat) (h:m<n):a+m<a+n+b0+b1+b2+b3+b4+b5+b6+b7:=Qa
@[go_sem] theorem Ajs (a n:Nat) (b0 b1 b2 b3 b4 b5 b6 b7:Nat):a<=a+n+b0+b1+b2+b3+b4+b5+b6+b7:=Qa
@[go_sem] theorem AjI (a m n:Nat) (b0 b1 b2 b3 b4 b5 b6 b7:Nat) (h:m<=n):a+m<=a+n+b0+b1+b2+b3+b4+b5+b6+b7:=Qa
@[go_sem] theorem Ajg (a n:Nat) (b0 b1 b2 b3 b4 b5 b6 b7 b8:Nat) (h:0<n):a<a+n+b0+b1+b2+b3+b4+b5+b6+b7+b8:=Qa
@[go_sem] theorem AjL (a m n:Nat) (b0 b1 b2 b3 b4 b5 b6 b7 b8:Nat) (h:m<n):a+m<a+n+b0+b1+b2+b3+b4+b5+b6+b7+b8:=Qa
@[go_sem] theorem Ajf (a n:Nat) (b0 b1 b2 b3 b4 b5 b6 b7 b8:Nat):a<=a+n+b0+b1+b2+b3+b4+b5+b6+b7+b8:=Qa
@[go_sem] theorem Ajl (a m n:Nat) (b0 b1 b2 b3 b4 b5 b6 b7 b8:Nat) (h:m<=n):a+m<=a+n+b0+b1+b2+b3+b4+b5+b6+b7+b8:=Qa
@[go_sem] theorem Ajc (a n:Nat) (b0 b1 b2 b3 b4 b5 b6 b7 b8 b9:Nat) (h:0<n):a<a+n+b0+b1+b2+b3+b4+b5+b6+b7+b8+b9:=Qa
@[go_sem] theorem Aiz (a m n:Nat) (b0 b1 b2 b3 b4 b5 b6 b7 b8 b9:Nat) (h:m<n):a+m<a+n+b0+b1+b2+b3+b4+b5+b6+b7+b8+b9:=Qa
@[go_sem] theorem AiL (a n:Nat) (b0 b1 b2 b3 b4 b5 b6 b7 b8 b9:Nat):a<=a+n+b0+b1+b2+b3+b4+b5+b6+b7+b8+b9:=Qa
@[go_sem] theorem Ai5 (a m n:Nat) (b0 b1 b2 b3 b4 b5 b6 b7 b8 b9:Nat) (h:m<=n):a+m<=a+n+b0+b1+b2+b3+b4+b5+b6+b7+b8+b9:=Qa
@[go_sem] theorem Ai7 (a n:Nat) (b0 b1 b2 b3 b4 b5 b6 b7 b8 b9 b10:Nat) (h:0<n):a<a+n+b0+b1+b2+b3+b4+b5+b6+b7+b8+b9+b10:=Qa
@[go_sem] theorem AiM (a m n:Nat) (b0 b1 b2 b3 b4 b5 b6 b7 b8 b9 b10:Nat) (h:m<n):a+m<a+n+b0+b1+b2+b3+b4+b5+b6+b7+b8+b9+b10:=Qa
@[go_sem] theorem Aiu (a n:Nat) (b0 b1 b2 b3 b4 b5 b6 b7 b8 b9 b10:Nat):a<=a+n+b0+b1+b2+b3+b4+b5+b6+b7+b8+b9+b10:=Qa
@[go_sem] theorem Ai2 (a m n:Nat) (b0 b1 b2 b3 b4 b5 b6 b7 b8 b9 b10:Nat) (h:m<=n):a+m<=a+n+b0+b1+b2+b3+b4+b5+b6+b7+b8+b9+b10:=Qa
@[go_sem] theorem AiQ (a n:Nat) (b0 b1 b2 b3 b4 b5 b6 b7 b8 b9 b10 b11:Nat) (h:0<n):a<a+n+b0+b1+b2+b3+b4+b5+b6+b7+b8+b9+b10+b11:=Qa
@[go_sem] theorem AiB (a m n:Nat) (b0 b1 b2 b3 b4 b5 b6 b7 b8 b9 b10 b11:Nat) (h:m<n):a+m<a+n+b0+b1+b2+b3+b4+b5+b6+b7+b8+b9+b10+b11:=Qa
@[go_sem] theorem Aix (a n:Nat) (b0 b1 b2 b3 b4 b5 b6 b7 b8 b9 b10 b11:Nat):a<=a+n+b0+b1+b2+b3+b4+b5+b6+b7+b8+b9+b10+b11:=Qa
@[go_sem] theorem Ai0 (a m n:Nat) (b0 b1 b2 b3 b4 b5 b6 b7 b8 b9 b10 b11:Nat) (h:m<=n):a+m<=a+n+b0+b1+b2+b3+b4+b5+b6+b7+b8+b9+b10+b11:=Qa
@[go_sem] theorem Ait (a n:Nat) (b0 b1 b2 b3 b4 b5 b6 b7 b8 b9 b10 b11 b12:Nat) (h:0<n):a<a+n+b0+b1+b2+b3+b4+b5+b6+b7+b8+b9+b10+b11+b12:=Qa
@[go_sem] theorem AiO (a m n:Nat) (b0 b1 b2 b3 b4 b5 b6 b7 b8 b9 b10 b11 b12:Nat) (h:m<n):a+m<a+n+b0+b1+b2+b3+b4+b5+b6+b7+b8+b9+b10+b11+b12:=Qa
@[go_sem] theorem Ais (a n:Nat) (b0 b1 b2 b3 b4 b5 b6 b7 b8 b9 b10 b11 b12:Nat):a<=a+n+b0+b1+b2+b3+b4+b5+b6+b7+b8+b9+b10+b11+b12:=Qa
@[go_sem] theorem Ai6 (a m n:Nat) (b0 b1 b2 b3 b4 b5 b6 b7 b8 b9 b10 b11 b12:Nat) (h:m<=n):a+m<=a+n+b0+b1+b2+b3+b4+b5+b6+b7+b8+b9+b10+b11+b12:=Qa
@[go_sem] theorem Aiv (a n:Nat) (b0 b1 b2 b3 b4 b5 b6 b7 b8 b9 b10 b11 b12 b13:Nat) (h:0<n):a<a+n+b0+b1+b2+b3+b4+b5+b6+b7+b8+b9+b10+b11+b12+b13:=Qa
@[go_sem] theorem Ain (a m n:Nat) (b0 b1 b2 b3 b4 b5 b6 b7 b8 b9 b10 b11 b12 b13:Nat) (h:m<n):a+m<a+n+b0+b1+b2+b3+b4+b5+b6+b7+b8+b9+b10+b11+b12+b13:=Qa
@[go_sem] theorem AiD (a n:Nat) (b0 b1 b2 b3 b4 b5 b6 b7 b8 b9 b10 b11 b12 b13:Nat):a<=a+n+b0+b1+b2+b3+b4+b5+b6+b7+b8+b9+b10+b11+b12+b13:=Qa
@[go_sem] theorem Aiq (a m n:Nat) (b0 b1 b2 b3 b4 b5 b6 b7 b8 b9 b10 b11 b12 b13:Nat) (h:m<=n):a+m<=a+n+b0+b1+b2+b3+b4+b5+b6+b7+b8+b9+b10+b11+b12+b13:=Qa
def Dg (c:Int):Bool:=c==9 || c==10 || c==12 || c==13 || c==32
def Bn (c:Int):Bool:=decide (65<=c/\c<=90) || decide (97<=c/\c<=122)
def Nw (c:Int):Int:=if 48<=c/\c<=57 then c - 48 else if 97<=c/\c<=122 then c - 87 else if 65<=c/\c<=90 then c - 55 else -1
def Ag (c base:Int):Int:=if Nw c≥base then -1 else Nw c
def BW (c:UInt8):UInt8:=if 65<=c.toNat/\c.toNat<=90 then UInt8.ofNat (c.toNat+32) else c
def AJ (l:List UInt8):List UInt8:=l.map BW
theorem Adg {c:UInt8} (h:65<=(c.toNat:Int)) (h':(c.toNat:Int)<=90):(c.toNat:Int) - 65+97=((BW c).toNat:Int):=by
 unfold BW;rw [if_pos ⟨Qa,Qa⟩];simp;omega
theorem AaE {c:UInt8} (h:¬ (65<=(c.toNat:Int)/\(c.toNat:Int)<=90)):BW c=c:=by
 unfold BW;rw [if_neg Qa]
theorem ty8:EZ Tryz.prog 25 5 (.int .u8 0) 1:= .mk' Tryz.underlying25 Qb rfl
theorem Dc (c:Int) (w:World):
  Calls Tryz.prog 110 #[.int .u8 c] w fun e w'=>e= .returned (.bool (Dg c))/\w=w':=by
 go_enter Tryz.func110,Tryz.ntmps110;go_wp2
 all_goals (go_ret;exact ⟨A7 (by simp_all [Dg]),rfl⟩)
theorem Dt (c:Int) (w:World):
  Calls Tryz.prog 154 #[.int .u8 c] w fun e w'=>e= .returned (.bool (Bn c))/\w=w':=by
 go_enter Tryz.func154,Tryz.ntmps154;go_wp2
 all_goals (go_ret;exact ⟨A7 (by rw [Bool.eq_iff_iff];simp [Bn];omega),rfl⟩)
theorem A8 (c b:Int) (w:World) (h0:0<=c) (h1:c<=255):
  Calls Tryz.prog 155 #[.int .u8 c,.int .i64 b] w fun e w'=>e= .returned (.int .i64 (Ag c b))/\w=w':=by
 go_enter Tryz.func155,Tryz.ntmps155;go_wp2
 all_goals (go_ret;exact ⟨OZ (by simp only [Ag,Nw];omega),rfl⟩)
def Hs (c:UInt8):Bool:= !(c.toNat==9 || c.toNat==10 || c.toNat==13)
def Fe (l:List UInt8):List UInt8:=l.filter Hs
theorem RI {c:UInt8} (h:(c.toNat:Int)=9\/(c.toNat:Int)=10\/(c.toNat:Int)=13):Hs c=false:=by simp [Hs];omega
theorem Aca {c:UInt8} (h:¬ ((c.toNat:Int)=9\/(c.toNat:Int)=10\/(c.toNat:Int)=13)):Hs c=true:=by simp [Hs];omega
theorem La {l:List UInt8} {k:Nat} {s:ByteArray} (hk:k<s.size) (hl:l=Fe (s.toList.take k)) (hc:Hs s[k]=false):l=Fe (s.toList.take (k+1)):=by
 rw [Cx _ _ hk,hl];simp [Fe,hc]
theorem Acx {l:List UInt8} {k:Nat} {s:ByteArray} (hk:k<s.size) (hl:l=Fe (s.toList.take k)) (hc:Hs s[k]=true):l++[s[k]]=Fe (s.toList.take (k+1)):=by
 rw [Cx _ _ hk,hl];simp [Fe,hc]
theorem Ac9 (s:ByteArray) (w:World) (hs:s.size<=1099511627776):
  Calls Tryz.prog 89 #[.string s] w (EI w (Fe s.toList)):=by
 obtain ⟨i0,hi,hz0,hz1,hz2⟩:=ty8.i;go_enter Tryz.func89,Tryz.ntmps89
 go_wp2_with (at_make;refine wpList_make_own _ rfl _ _ 25 rfl w.heap.size 5 i0 (.int .u8 0) 1 Tryz.underlying25 hi hz0 hz1 _ _ _ s.size rfl rfl rfl (by rw [hz2];omega) Qm (Nat.le_refl _) ?_;intro w1 ho1 hg1)
 have hb1:Below w.heap.size w w1:=(Below.refl _ _).grown hg1 (Nat.le_refl _) (fun k hk=>by cases hk)
 clear hg1
 go_loopw [3,11] (fun v i wr=>∃ (k:Nat) (l:List UInt8),k<=s.size/\i= .int .i64 k/\Hid (l=Fe (s.toList.take k))/\l.length<=k/\CZ wr w.heap.size 5 v l/\Below w.heap.size w wr) (fun _ i _=>s.size - (intOf i).toNat)
 case atStart=>exact ⟨0,[],Nat.zero_le _,rfl,rfl,Nat.zero_le _,ho1,hb1⟩
 case round=>
  obtain ⟨k,l,hk,rfl,hl,hll,hown,hbel⟩:=hrel;have hsz:=hbel.size;clear ho1 hb1
  by_cases hlt:k<s.size
  ·have h0:=AN s[k];have h1:=AX s[k]
   by_cases h9:(s[k].toNat:Int)=9
   ·have hnc:=H0 (RI (Or.inl h9));obtain ⟨e9,n9⟩:=MP h9;clear h9;go_wp2;go_roundw
    case rel=>exact ⟨k+1,_,Qa,Ql,La hlt hl.out hnc.out,Qa,hown,hbel⟩
    case measure=>simp [intOf];omega
   obtain ⟨e9,n9⟩:=O6 h9
   by_cases h10:(s[k].toNat:Int)=10
   ·have hnc:=H0 (RI (Or.inr (Or.inl h10)));obtain ⟨e10,n10⟩:=MP h10;clear h10;go_wp2;go_roundw
    case rel=>exact ⟨k+1,_,Qa,Ql,La hlt hl.out hnc.out,Qa,hown,hbel⟩
    case measure=>simp [intOf];omega
   obtain ⟨e10,n10⟩:=O6 h10
   by_cases h13:(s[k].toNat:Int)=13
   ·have hnc:=H0 (RI (Or.inr (Or.inr h13)));obtain ⟨e13,n13⟩:=MP h13;clear h13;go_wp2;go_roundw
    case rel=>exact ⟨k+1,_,Qa,Ql,La hlt hl.out hnc.out,Qa,hown,hbel⟩
    case measure=>simp [intOf];omega
   ·have hnc:=H0 (Aca (show ¬ ((s[k].toNat:Int)=9\/(s[k].toNat:Int)=10\/(s[k].toNat:Int)=13) by omega))
    obtain ⟨e13,n13⟩:=O6 h13;clear h9 h10 h13;go_wp2_with (at_builtin;refine By ty8 rfl _ _ rfl s[k] rfl rfl hown hbel hsz rfl Qm Qa ?_;intro v' w' ho' hb' _);go_roundw
    case rel=>exact ⟨k+1,_,Qa,Ql,Acx hlt hl.out hnc.out,Qi,ho',hb'⟩
    case measure=>simp [intOf];omega
  ·have hcv:=JY (P:=Tryz.prog) (S:=9) Tryz.underlying25 Tryz.underlying5 Tryz.underlying9 hown;go_wp2;go_ret
   exact Hk (by rw [hl.out,FT _ _ Qa]) hbel
theorem YX {l:List UInt8} {k:Nat} {s:ByteArray} (hk:k<s.size) (hl:l=AJ (s.toList.take k)++s.toList.drop k):l.set k (BW s[k])=AJ (s.toList.take (k+1))++s.toList.drop (k+1):=by
 have hlen:(AJ (s.toList.take k)).length=k:=by simp [AJ,Aa];omega
 rw [hl,List.set_append_right _ _ Qa,hlen,Nat.sub_self,As _ _ hk,Cx _ _ hk];simp [AJ]
theorem AaU {l:List UInt8} {k:Nat} {s:ByteArray} (hk:k<s.size) (hl:l=AJ (s.toList.take k)++s.toList.drop k) (hc:BW s[k]=s[k]):l=AJ (s.toList.take (k+1))++s.toList.drop (k+1):=by
 rw [hl,As _ _ hk,Cx _ _ hk];simp [AJ,hc]
theorem Aeo {l:List UInt8} {k:Nat} {s:ByteArray} (hk:k<s.size) (hl:l=AJ (s.toList.take k)++s.toList.drop k):∃ h:k<l.length,l[k]=s[k]:=by
 have hlen:(AJ (s.toList.take k)).length=k:=by simp [AJ,Aa];omega
 subst hl
 refine ⟨by simp [AJ,Aa];omega,?_⟩
 rw [List.getElem_append_right Qa];simp only [hlen,Nat.sub_self,As _ _ hk,List.getElem_cons_zero]
theorem EM (s:ByteArray) (w:World) (hs:s.size<=1099511627776):
  Calls Tryz.prog 53 #[.string s] w (EI w (AJ s.toList)):=by
 have hcb:=fun (w:World) (s:ByteArray)=>Lib.run_convert_string_bytes (P:=Tryz.prog) w 9 25 5 s Tryz.underlying9 Tryz.underlying25 Tryz.underlying5
 have hr0:=L7.made w 5 s;have hb0:=Below.bytesWorld (Below.refl w.heap.size w) (Nat.le_refl _) 5 s;go_enter Tryz.func53,Tryz.ntmps53;go_wp2;clear hcb
 go_loopw [10] (fun i wr=>∃ (k:Nat) (l:List UInt8),k<=s.size/\i= .int .i64 k/\Hid (l=AJ (s.toList.take k)++s.toList.drop k)/\L7 wr w.heap.size 5 l/\Below w.heap.size w wr) (fun i _=>s.size - (intOf i).toNat)
 case atStart=>exact ⟨0,_,Nat.zero_le _,rfl,H0 (by simp [AJ]),hr0,hb0⟩
 case round=>
  obtain ⟨k,l,hk,rfl,hl,hrow,hbel⟩:=hrel;clear hr0 hb0
  by_cases hlt:k<s.size
  ·have h0:=AN s[k];have h1:=AX s[k];obtain ⟨hkl,hat⟩:=Aeo hlt hl.out;have hcell:=hrow.cell k hkl;have hfree:=hrow.free k hkl;rw [hat,Dy] at hcell;clear hat
   by_cases hup:65<=(s[k].toNat:Int)/\(s[k].toNat:Int)<=90
   ·obtain ⟨hu1,hu2⟩:=hup;have hset:=hrow.set k hkl (BW s[k]);have hup:=H0 (Adg hu1 hu2);go_wp2;go_roundw
    case rel=>exact ⟨k+1,_,Qa,Ql,YX hlt hl.out,by rw [hup.out];exact hset,hbel.setCell (Nat.le_refl _) _⟩
    case measure=>simp [intOf];omega
   ·have hnc:=H0 (AaE hup)
    have hcase:¬ 65<=(s[k].toNat:Int)\/¬ (s[k].toNat:Int)<=90:=Qa
    clear hup
    rcases hcase with hup | hup
    all_goals
     go_wp2;go_roundw
     case rel=>exact ⟨k+1,_,Qa,Ql,AaU hlt hl.out hnc.out,hrow,hbel⟩
     case measure=>simp [intOf];omega
  ·have hlen:l.length=s.size:=by rw [hl.out];simp [AJ,Aa];omega
   have hcv:=AfZ (P:=Tryz.prog) (S:=9) Tryz.underlying25 Tryz.underlying5 Tryz.underlying9 hrow s.size (grownCap w s.size 0 5) hlen.symm;clear hlen;go_wp2;go_ret
   exact Hk (by rw [hl.out,FT _ _ Qa,AL _ _ Qa,List.append_nil]) hbel
def PW (c:Int):List UInt8:=(Utf8.encode c).data.toList
def FM:List UInt8:=[239,191,189]
def Bv (c:Nat):List UInt8:=if 0x10ffff<c\/(0xd800<=c/\c<=0xdfff) then FM else PW (c:Int)
def Bc (c:Nat):Nat × Nat × Nat:=
 if 0xc2<=c/\c<=0xdf then (0x80,0xbf,2)
 else if c=0xe0 then (0xa0,0xbf,3)
 else if c=0xed then (0x80,0x9f,3)
 else if 0xe1<=c/\c<=0xef then (0x80,0xbf,3)
 else if c=0xf0 then (0x90,0xbf,4)
 else if 0xf1<=c/\c<=0xf3 then (0x80,0xbf,4)
 else if c=0xf4 then (0x80,0x8f,4)
 else (0,0,1)
def IW:Nat->Nat->Nat->List UInt8->Nat
 | 0,_,_,_=>0
 | k+1,_,_,[]=>0
 | k+1,lo,hi,x :: r=>if lo<=x.toNat/\x.toNat<=hi then IW k 0x80 0xbf r+1 else 0
def Hu:List UInt8->Nat
 | []=>1
 | c :: r=>IW ((Bc c.toNat).2.2 - 1) (Bc c.toNat).1 (Bc c.toNat).2.1 r+1
def CC (l:List UInt8):Nat × Nat:=Utf8.decode ⟨l.toArray⟩ 0
def CL:Nat->List UInt8->List UInt8
 | 0,_=>[]
 | f+1,l=>if l=[] then [] else if CC l=(65533,1) then FM++CL f (l.drop (Hu l)) else l.take (CC l).2++CL f (l.drop (CC l).2)
def FQ (l:List UInt8):List UInt8:=CL (l.length+1) l
def Cn:Nat->List UInt8->List Nat
 | 0,_=>[]
 | f+1,l=>if l=[] then [] else (CC l).1 :: Cn f (l.drop (CC l).2)
def Agc (l:List UInt8):List Nat:=Cn (l.length+1) l
def KA (l:List UInt8):List Nat:=Agc (FQ l)
theorem II (c:UInt8) (r:List UInt8) (h:c.toNat<128):CC (c :: r)=(c.toNat,1):=by
 unfold CC Utf8.decode;have e:(ByteArray.get! ⟨(c :: r).toArray⟩ (0+0)).toNat=c.toNat:=rfl;simp only [e,if_pos h]
theorem Li (l:List UInt8):1<=(CC l).2:=Lib.width_pos _ _
theorem Uu (l:List UInt8):(CC l).1<=1114111:=Lib.rune_le _ _
def Ja (l:List UInt8):Bool:=l.all fun c=>decide (c.toNat<128)
theorem Uo:∀ (f:Nat) (l:List UInt8),l.length<f->Ja l=true->CL f l=l
 | 0,_,h,_=>Qa
 | f+1,[],_,_=>by rw [CL,if_pos rfl]
 | f+1,c :: r,h,hl=>by
  unfold Ja at hl;rw [List.all_cons,Bool.and_eq_true,decide_eq_true_iff] at hl
  rw [CL,if_neg Qf,II c r hl.1,if_neg (by rw [Prod.mk.injEq];omega)]
  show [c]++CL f r=c :: r;rw [Uo f r Qy hl.2];rfl
theorem Rr:∀ (f:Nat) (l:List UInt8),l.length<f->Ja l=true->Cn f l=l.map (·.toNat)
 | 0,_,h,_=>Qa
 | f+1,[],_,_=>by rw [Cn,if_pos rfl];rfl
 | f+1,c :: r,h,hl=>by
  unfold Ja at hl;rw [List.all_cons,Bool.and_eq_true,decide_eq_true_iff] at hl;rw [Cn,if_neg Qf,II c r hl.1];show c.toNat :: Cn f r=_;rw [Rr f r Qy hl.2];rfl
theorem M0 {l:List UInt8} (h:Ja l=true):FQ l=l:=Uo _ l Qa h
theorem WI {l:List UInt8} (h:Ja l=true):KA l=l.map (·.toNat):=by
 unfold KA;rw [M0 h];exact Rr _ l Qa h
theorem Tz:∀ (f:Nat) (l:List UInt8),∀ c∈Cn f l,c<=1114111
 | 0,_,c,h=>(nomatch h)
 | f+1,l,c,h=>by
  rw [Cn] at h;split at h
  ·cases h
  ·rcases List.mem_cons.1 h with rfl | h
   ·exact Uu l
   ·exact Tz f _ c h
theorem Abb (l:List UInt8):∀ c∈KA l,c<=1114111:=Tz _ _
theorem X6:∀ k lo hi l,IW k lo hi l<=k/\IW k lo hi l<=l.length
 | 0,_,_,_=>⟨Nat.le_refl _,Nat.zero_le _⟩
 | k+1,_,_,[]=>⟨Nat.zero_le _,Nat.le_refl _⟩
 | k+1,lo,hi,x :: r=>by
  rw [IW];split
  ·have:=X6 k 0x80 0xbf r;simp;omega
  ·simp
theorem Vh (c:Nat):1<=(Bc c).2.2/\(Bc c).2.2<=4:=by
 unfold Bc
 repeat' split
 all_goals simp
theorem Nv:∀ (f:Nat) (l:List UInt8),(CL f l).length<=3 * l.length
 | 0,l=>by simp [CL]
 | f+1,l=>by
  rw [CL];split
  ·simp
  ·rename_i hne;have hpos:0<l.length:=List.length_pos_iff.2 hne;split
   ·have:=Nv f (l.drop (Hu l))
    have h1:1<=Hu l:=by cases l<;>simp [Hu]
    simp [FM] at this⊢;omega
   ·have:=Nv f (l.drop (CC l).2);simp at this⊢;omega
theorem Ki (l:List UInt8):(FQ l).length<=3 * l.length:=Nv _ l
theorem RR:∀ (f:Nat) (l:List UInt8),(Cn f l).length<=l.length
 | 0,l=>by simp [Cn]
 | f+1,l=>by
  rw [Cn];split
  ·simp
  ·rename_i hne;have hpos:0<l.length:=List.length_pos_iff.2 hne;have:=RR f (l.drop (CC l).2);have h1:=Li l;simp at this⊢;omega
theorem Mo (l:List UInt8):(KA l).length<=3 * l.length:=Nat.le_trans (RR _ _) (Ki l)
end Go.Proofs.YtonomfeipkdmhaaGreatDoor
