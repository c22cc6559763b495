/- Part 16: lemmas. -/
import Derived.Test.YtonomfeipkdmhaaGreatDoorL15
import Derived.Deep.MidRow
import Derived.Shelf.Strings.SlTrimAscii
import Derived.WalkSmall
set_option linter.unusedVariables false
set_option linter.unusedSimpArgs false
set_option maxRecDepth 100000
set_option maxHeartbeats 16000000
namespace Go.Proofs.YtonomfeipkdmhaaGreatDoor
open Go.RowKit
theorem Ai (w:World) (o:Obj):(w.alloc o).heap.size=w.heap.size+1:=Qf
def AG (w:World) (g:Nat) (c:Array Value) (T:TypeId):Prop:=w.heap[g]? =some (.cells c T (0,0))
theorem AG.lt {w:World} {g:Nat} {c:Array Value} {T:TypeId} (h:AG w g c T):g<w.heap.size:=(Array.getElem?_eq_some_iff.1 h).1
theorem AG.keep {w w':World} {g:Nat} {c:Array Value} {T:TypeId} (h:AG w g c T) (hb:Below w.heap.size w w'):AG w' g c T:=(hb.block g h.lt).trans h
theorem AG.new (w:World) (c:Array Value) (T:TypeId):AG (w.alloc (.cells c T)) w.heap.size c T:=heap_alloc_new w _
theorem AG.alloc {w:World} {g:Nat} {c:Array Value} {T:TypeId} (h:AG w g c T) (o:Obj):AG (w.alloc o) g c T:=h.keep ((Below.refl _ _).alloc (Nat.le_refl _) o)
theorem AG.at {w:World} {g:Nat} {c:Array Value} {T:TypeId} (h:AG w g c T) (i:Nat):w.cell? ⟨g,i,none⟩=c[i]? :=cell_of_row _ _ _ _ _ _ h
theorem AG.set {w:World} {g:Nat} {c:Array Value} {T:TypeId} (h:AG w g c T) (c':Array Value):AG (w.setRow g c') g c' T:=B7 h
theorem Eb (w:World) (g k:Nat) (c:Array Value) (hn:k≠g):(w.setRow g c).heap[k]? =w.heap[k]? :=by
 simp only [World.setRow]
 rw [Array.getElem?_modify,if_neg (fun e=>hn e.symm)]
theorem Cu (w:World) (g:Nat) (c:Array Value):(w.setRow g c).heap.size=w.heap.size:=by simp [World.setRow]
theorem AG.other {w:World} {g g':Nat} {c:Array Value} {T:TypeId} (h:AG w g c T) (hn:g≠g') (c':Array Value):AG (w.setRow g' c') g c T:=(Eb w g' g c' hn).trans h
theorem AG.chg {w w':World} {g:Nat} {c:Array Value} {T:TypeId} {G:Nat->Prop} (h:AG w g c T) (hc:BY G w w') (hn:¬ G g):AG w' g c T:=(hc.block g h.lt hn).trans h
theorem BY.row {G:Nat->Prop} {a b:World} (h:BY G a b) {g:Nat} (hg:G g) (c:Array Value):BY G a (b.setRow g c):=
 h.trans ⟨rfl,rfl,rfl,by rw [Cu];exact Nat.le_refl _,fun k hk hn=>Eb b g k c (fun e=>hn (by rw [e];exact hg))⟩
theorem BY.next {G:Nat->Prop} {a b c:World} (h:BY G a b) (hb:Below b.heap.size b c):BY G a c:=h.trans (BY.of hb)
theorem BY.alloc {G:Nat->Prop} {a b:World} (h:BY G a b) (o:Obj):BY G a (b.alloc o):=h.next ((Below.refl _ _).alloc (Nat.le_refl _) o)
theorem BY.belowNew {a b w:World} {B:Nat} (h:Below B w a) (hB:B<=a.heap.size) {g:Nat} (hg:B<=g) (hc:BY (fun k=>k=g) a b):Below B w b:=
 h.trans (hc.below hB (fun k e=>Qa))
theorem AG.range {w:World} {g:Nat} {c:Array Value} {T:TypeId} (h:AG w g c T) (o:Nat) (cs:List Value) (hc:∀ j,j<cs.length->c[o+j]? =cs[j]?):w.rangeAt g o cs:=fun j v hv=>by
 rw [h.at,hc j (List.getElem?_eq_some_iff.1 hv).1,hv]
theorem AG.whole {w:World} {g:Nat} {c:Array Value} {T:TypeId} (h:AG w g c T):w.rangeAt g 0 c.toList:=h.range 0 _ (fun j _=>by rw [Nat.zero_add,Array.getElem?_toList])
def Aed (old:Array Value):Nat->List Value->Array Value
 | _,[]=>old
 | o,v :: r=>Aed (old.setIfInBounds o v) (o+1) r
theorem Gf {P:Program} (g o:Nat) (t:TypeId):∀ (vs:List Value) (i:Nat) (cur:Array Value) (w:World),w.heap[g]? =some (.cells cur t (0,0))->o+i+vs.length<=cur.size->(∀ v∈vs,v.oneCell'=true)->
  (storeCells ⟨g,o,none⟩ vs i).run P w= .ok () (w.setRow g (Aed cur (o+i) vs))
 | [],i,cur,w,hg,hl,_=>by
  simp only [storeCells,Aed];show Result.ok () w=_;congr 1
  cases w with
  | mk heap tape drawn os output=>
   unfold World.setRow;congr 1;apply Array.ext_getElem?;intro k;rw [Array.getElem?_modify]
   by_cases hk:g=k
   ·subst hk;rw [if_pos rfl];have hg':heap[g]? =some (.cells cur t (0,0)):=hg;rw [hg'];rfl
   ·rw [if_neg hk]
 | v :: rest,i,cur,w,hg,hl,h1=>by
  have hi:o+i<cur.size:=by simp at hl;omega
  have hadd:(⟨g,o,none⟩:Addr).add i=⟨g,o+i,none⟩:=by unfold Addr.add;split<;>simp_all
  have hcell:w.cell? ⟨g,o+i,none⟩=some cur[o+i]:=by simp [World.cell?,hg,hi]
  have hfro:w.frozen? ⟨g,o+i,none⟩=false:=by simp [World.frozen?,hg]
  have hst:(store ((⟨g,o,none⟩:Addr).add i) v).run P w= .ok () (w.setRow g (cur.setIfInBounds (o+i) v)):=by
   rw [hadd,run_store P w _ v _ (h1 v Qf),hcell];simp [hfro,setCell_eq_setRow w g (o+i) cur t (0,0) v hg]
  have ih:=Gf (P:=P) g o t rest (i+1) (cur.setIfInBounds (o+i) v) (w.setRow g (cur.setIfInBounds (o+i) v)) (setRow_heap w g cur _ t _ hg) (by simp at hl⊢;omega) (fun x hx=>h1 x (by simp [hx]))
  simp only [storeCells,Sem.run_bind,hst,Result.andThen_ok,ih,setRow_setRow];rfl
theorem MA {P:Program} (w:World) (g o:Nat) (t ty:TypeId) (old:Array Value) (v:Value) (cs:Array Value) (hv:v.cells=cs) (hg:AG w g old t) (hi:(P.info? ty).map (·.size)=some cs.size) (ho:o+cs.size<=old.size) (h1:cs.all (·.oneCell')=true):
  (storeVar ty ⟨g,o,none⟩ v).run P w= .ok () (w.setRow g (Aed old o cs.toList)):=by
 have:=Gf (P:=P) g o t cs.toList 0 old w hg Qi (fun v hv=>(Array.all_eq_true_iff_forall_mem.1 h1) v (by simpa using hv))
 subst hv
 cases hq:P.info? ty with
 | none=>simp [hq] at hi
 | some i=>
  have hs:v.cells.size=i.size:=by simp [hq] at hi;omega
  rw [Nat.add_zero] at this;simp [storeVar,sizeOf,typeInfo,hq,hs,this]
theorem BT {P:Program} {ops:Array Oper} {rest:List Oper} {x:Oper} {a:Act} {w:World} {Q:Exit->Act->World->Prop} (hgd:x.guard=none) (ty:TypeId) (p y:Operand) (hop:x.op= .store ty p y)
  (g o:Nat) (hp:a.eval p= .pointer (some ⟨g,o,none⟩)) (v:Value) (hv:a.eval y=v) (cs:Array Value) (hc:v.cells=cs) (t:TypeId) (old new:Array Value) (hg:AG w g old t) (hi:(P.info? ty).map (·.size)=some cs.size) (ho:o+cs.size<=old.size) (h1:cs.all (·.oneCell')=true)
  (hnew:Aed old o cs.toList=new) (h:wpList P ops Q rest (a.put x.dst undef) (w.setRow g new)):wpList P ops Q (x :: rest) a w:=by
 subst hnew
 refine wpList_plain hgd fun _ hK=> ?_
 unfold Oper.wp execOp;simp only [hop,hp,hv,Instr.storeAt,Instr.sureAddr,Sem.run_bind,Sem.run_pure,Result.andThen_ok,MA w g o t ty old v cs hc hg hi ho h1];exact hK _ _ h
theorem Ad {P:Program} {ops:Array Oper} {rest:List Oper} {x:Oper} {a:Act} {w:World} {Q:Exit->Act->World->Prop} (hgd:x.guard=none) (ty:TypeId) (p y:Operand) (hop:x.op= .store ty p y)
  (g o:Nat) (hp:a.eval p= .pointer (some ⟨g,o,none⟩)) (v:Value) (hv:a.eval y=v) (hc:v.cells= #[v]) (t:TypeId) (old new:Array Value) (hg:AG w g old t) (hi:(P.info? ty).map (·.size)=some 1) (ho:o+1<=old.size) (h1:v.oneCell'=true)
  (hnew:old.setIfInBounds o v=new) (h:wpList P ops Q rest (a.put x.dst undef) (w.setRow g new)):wpList P ops Q (x :: rest) a w:=
 BT hgd ty p y hop g o hp v hv #[v] hc t old new hg hi ho (by simp [h1]) hnew h
theorem AaV (l:List UInt8):Aj l=((l==[102,116,112]) || ((l==[102,105,108,101]) || ((l==[104,116,116,112]) || ((l==[104,116,116,112,115]) || ((l==[119,115]) || (l==[119,115,115])))))):=by
 unfold Aj Aw;simp only [List.contains_cons,List.contains_nil,Bool.or_false]
theorem DW (s:ByteArray) (w:World):Calls Tryz.prog 145 #[.string s] w fun e w'=>e= .returned (.bool (Aj s.toList))/\w=w':=by
 rw [AaV];obtain ⟨b1,h1⟩:∃ b,(s.toList==[102,116,112])=b:=⟨_,rfl⟩;obtain ⟨b2,h2⟩:∃ b,(s.toList==[102,105,108,101])=b:=⟨_,rfl⟩;obtain ⟨b3,h3⟩:∃ b,(s.toList==[104,116,116,112])=b:=⟨_,rfl⟩;obtain ⟨b4,h4⟩:∃ b,(s.toList==[104,116,116,112,115])=b:=⟨_,rfl⟩;obtain ⟨b5,h5⟩:∃ b,(s.toList==[119,115])=b:=⟨_,rfl⟩;obtain ⟨b6,h6⟩:∃ b,(s.toList==[119,115,115])=b:=⟨_,rfl⟩;rw [h1,h2,h3,h4,h5,h6]
 have hway:b1=true\/(b1=false/\(b2=true\/(b2=false/\(b3=true\/(b3=false/\(b4=true\/(b4=false/\(b5=true\/(b5=false/\(b6=true\/b6=false)))))))))):=by
  cases b1<;>cases b2<;>cases b3<;>cases b4<;>cases b5<;>cases b6<;>simp
 go_enter Tryz.func145,Tryz.ntmps145
 rcases hway with rfl | ⟨rfl,rfl | ⟨rfl,rfl | ⟨rfl,rfl | ⟨rfl,rfl | ⟨rfl,rfl | rfl⟩⟩⟩⟩⟩
 all_goals
  go_wp2_with fail;go_ret;exact ⟨Qf,rfl⟩
theorem Ye (s:ByteArray) (w:World):Calls Tryz.prog 309 #[.string s] w fun e w'=>e= .returned (.tuple #[.int .i64 (((Ii s.toList).getD 0:Nat):Int),.bool (Ii s.toList).isSome])/\w=w':=by
 obtain ⟨b1,h1⟩:∃ b,(s.toList==[102,116,112])=b:=⟨_,rfl⟩;obtain ⟨b3,h3⟩:∃ b,(s.toList==[104,116,116,112])=b:=⟨_,rfl⟩;obtain ⟨b4,h4⟩:∃ b,(s.toList==[104,116,116,112,115])=b:=⟨_,rfl⟩;obtain ⟨b5,h5⟩:∃ b,(s.toList==[119,115])=b:=⟨_,rfl⟩;obtain ⟨b6,h6⟩:∃ b,(s.toList==[119,115,115])=b:=⟨_,rfl⟩
 have hv:Ii s.toList=if b1=true then some 21 else if (b3 || b5)=true then some 80 else if (b4 || b6)=true then some 443 else none:=by
  unfold Ii;rw [<-h1,<-h3,<-h4,<-h5,<-h6];simp only [beq_iff_eq,Bool.or_eq_true]
 rw [hv];clear hv
 have hway:b1=true\/(b1=false/\(b3=true\/(b3=false/\(b5=true\/(b5=false/\(b4=true\/(b4=false/\(b6=true\/b6=false)))))))):=by
  cases b1<;>cases b3<;>cases b4<;>cases b5<;>cases b6<;>simp
 go_enter Tryz.func309,Tryz.ntmps309
 rcases hway with rfl | ⟨rfl,rfl | ⟨rfl,rfl | ⟨rfl,rfl | ⟨rfl,rfl | rfl⟩⟩⟩⟩
 all_goals
  go_wp2_with fail;go_ret2;exact ⟨Qf,rfl⟩
theorem XN (s:ByteArray) (h:s.size=2):s.toList=[s[0],s[1]]:=by
 have h1:=As s 0 Qa;have h2:=As s 1 Qa;have h3:=AL s 2 Qa;rw [List.drop_zero] at h1;rw [h1,h2,h3]
theorem WK {l:List UInt8} (h:l.length≠2):Ce l=false:=by
 unfold Ce;split
 ·exact absurd rfl h
 ·rfl
theorem AcG {l:List UInt8} (h:l.length≠2):CT l=false:=by
 unfold CT;split
 ·exact absurd rfl h
 ·rfl
theorem eqI (c d:UInt8):((c.toNat:Int)==(d.toNat:Int))=(c==d):=by
 rw [Bool.eq_iff_iff,beq_iff_eq,beq_iff_eq]
 exact ⟨fun h=>UInt8.toNat_inj.1 Qa,fun h=>by rw [h]⟩
theorem Ky (s:ByteArray) (w:World) (hz:s.size<=4294967296):Calls Tryz.prog 265 #[.string s] w fun e w'=>e= .returned (.bool (Ce s.toList))/\w=w':=by
 by_cases h2:s.size=2
 ·obtain ⟨e1,n1⟩:=MP (show (s.size:Int)=2 by omega)
  rw [XN s h2]
  show Calls _ _ _ _ fun e w'=>e= .returned (.bool (L1 s[0] && (s[1]==58 || s[1]==124)))/\w=w'
  have q1:((s[1].toNat:Int)==58)=(s[1]==58):=eqI _ 58;have q2:((s[1].toNat:Int)==124)=(s[1]==124):=eqI _ 124
  have hl:=H0 (fun w=>Dt (s[0].toNat:Int) w)
  rw [show Bn (s[0].toNat:Int)=L1 s[0] from rfl] at hl;generalize L1 s[0]=b0 at hl⊢;obtain ⟨b1,hb1⟩:∃ b,(s[1]==58)=b:=⟨_,rfl⟩;obtain ⟨b2,hb2⟩:∃ b,(s[1]==124)=b:=⟨_,rfl⟩;rw [hb1] at q1⊢;rw [hb2] at q2⊢;replace hb1:=H0 hb1;replace hb2:=H0 hb2;have l0:0<s.size:=Qa;have l1:1<s.size:=Qa;replace h2:=H0 h2;go_enter Tryz.func265,Tryz.ntmps265
  cases b0<;>cases b1<;>cases b2
  all_goals
   go_wp2_with (go_at_call 154;refine (hl.out _).mono ?_;rintro e w' ⟨rfl,rfl⟩);go_ret;exact ⟨Qf,rfl⟩
 ·have n1:((s.size:Int)==2)=false:=Qg
  rw [WK (by rw [Aa];exact h2)]
  replace h2:=H0 h2;go_enter Tryz.func265,Tryz.ntmps265;go_wp2_with fail;go_ret;exact ⟨rfl,rfl⟩
theorem Ace (s:ByteArray) (h:s.size=2):CT s.toList=(Ce s.toList && s[1]==58):=by
 rw [XN s h];show (L1 s[0] && s[1]==58)=((L1 s[0] && (s[1]==58 || s[1]==124)) && s[1]==58)
 cases L1 s[0]<;>cases (s[1]==58)<;>simp
theorem Lu (s:ByteArray) (w:World) (hz:s.size<=4294967296):Calls Tryz.prog 209 #[.string s] w fun e w'=>e= .returned (.bool (CT s.toList))/\w=w':=by
 have hd:=H0 (fun w=>Ky s w hz)
 by_cases h2:s.size=2
 ·rw [Ace s h2];have q1:((s[1].toNat:Int)==58)=(s[1]==58):=eqI _ 58;generalize Ce s.toList=b0 at hd⊢;obtain ⟨b1,hb1⟩:∃ b,(s[1]==58)=b:=⟨_,rfl⟩;rw [hb1] at q1⊢;replace hb1:=H0 hb1;have l1:1<s.size:=Qa;replace h2:=H0 h2;go_enter Tryz.func209,Tryz.ntmps209
  cases b0<;>cases b1
  all_goals
   go_wp2_with (go_at_call 265;refine (hd.out _).mono ?_;rintro e w' ⟨rfl,rfl⟩);go_ret;exact ⟨Qf,rfl⟩
 ·rw [WK (by rw [Aa];exact h2)] at hd
  rw [AcG (by rw [Aa];exact h2)]
  replace h2:=H0 h2;go_enter Tryz.func209,Tryz.ntmps209;go_wp2_with (go_at_call 265;refine (hd.out _).mono ?_;rintro e w' ⟨rfl,rfl⟩);go_ret;exact ⟨rfl,rfl⟩
theorem Ado:∀ n:Fin 256,(BW (UInt8.ofNat n.val)=37↔UInt8.ofNat n.val=37)/\(BW (UInt8.ofNat n.val)=50↔UInt8.ofNat n.val=50)/\(BW (UInt8.ofNat n.val)=101↔(UInt8.ofNat n.val=101\/UInt8.ofNat n.val=69)):=Qe
theorem Zk (c:UInt8):(BW c=37↔c=37)/\(BW c=50↔c=50)/\(BW c=101↔(c=101\/c=69)):=by
 have:=Ado ⟨c.toNat,c.toNat_lt⟩;simp only [UInt8.ofNat_toNat] at this;exact this
theorem Vs {a b c:UInt8} {r:List UInt8} (h:a≠46):Ev (a :: b :: c :: r)=if (AJ [a,b,c]==[37,50,101])=true then some r else none:=by
 have e:AJ [a,b,c]=[BW a,BW b,BW c]:=rfl;rw [CS,if_neg h,e];simp only [beq_iff_eq,List.cons.injEq,and_true];simp only [(Zk a).1,(Zk b).2.1,(Zk c).2.2]
 by_cases h37:a=37
 ·rw [if_pos h37];unfold Kb;dsimp only
  by_cases h2:b=50/\(c=101\/c=69)
  ·rw [if_pos h2,if_pos ⟨h37,h2⟩]
  ·rw [if_neg h2,if_neg (fun hh=>h2 hh.2)]
 ·rw [if_neg h37,if_neg (fun hh=>h37 hh.1)]
theorem VR {l:List UInt8} (h:l.head? ≠some 46) (h3:l.length<3):Ev l=none:=by
 match l,h3 with
 | [],_=>rfl
 | [a],_=>
  rw [CS,if_neg (fun e=>h (by rw [e];rfl))]
  split<;>rfl
 | [a,b],_=>
  rw [CS,if_neg (fun e=>h (by rw [e];rfl))]
  split<;>rfl
theorem PL (c:UInt8) (l:List UInt8):Lib.hasPrefix l [c]=(l.head? ==some c):=by
 unfold Lib.hasPrefix
 cases l with
 | nil=>rfl
 | cons x r=>
  rw [List.head?_cons,Bool.eq_iff_iff];simp [List.isPrefixOf]
  exact ⟨fun h=>h.symm,fun h=>h.symm⟩
def AiA (s:ByteArray) (w:World) (e:Ending) (w':World):Prop:=
 ∃ (R:ByteArray) (b:Bool),e= .returned (.tuple #[.string R,.bool b])/\Hid (Ev s.toList=if b=true then some R.toList else none)/\R.size<=s.size/\Below w.heap.size w w'
theorem Y2 (s:ByteArray) (h:3<=s.size):s.toList=s[0] :: s[1] :: s[2] :: s.toList.drop 3:=by
 have h1:=As s 0 Qa;have h2:=As s 1 Qa;have h3:=As s 2 Qa;rw [List.drop_zero] at h1;rw [h2,h3] at h1;exact h1
theorem I1 (s:ByteArray) (w:World) (hz:s.size<=4294967296):Calls Tryz.prog 306 #[.string s] w (AiA s w):=by
 have hp:=fun w=>Tryz.strings_HasPrefix s ⟨#[46]⟩ w
 have e0:Lib.hasPrefix s.data.toList (ByteArray.mk #[46]).data.toList=(s.toList.head? ==some 46):=by
  rw [<-ByteArray.toList_eq];exact PL _ _
 rw [e0] at hp;replace hp:=H0 hp;cases hb:(s.toList.head? ==some 46)
 ·rw [hb] at hp
  have hh:s.toList.head? ≠some 46:=by simpa using hb
  replace hb:=H0 hb
  by_cases h3:3<=s.size
  ·have h3I:(3:Int)<=(s.size:Int):=Qa;have hl:=Y2 s h3
   have h0:s[0]≠46:=by intro e;rw [hl,e] at hh;exact hh rfl
   have hlow:=H0 (fun w=>EM (s.extract 0 3) w Qh)
   have het:(s.extract 0 3).toList=[s[0],s[1],s[2]]:=by rw [toList_extract,hl];rfl
   rw [het] at hlow
   have hR:(s.extract 3 s.size).toList=s.toList.drop 3:=by rw [toList_extract,List.take_of_length_le Qw]
   have hv:Ev s.toList=if (AJ [s[0],s[1],s[2]]==[37,50,101])=true then some (s.extract 3 s.size).toList else none:=by
    rw [hR]
    conv=>lhs;rw [hl]
    exact Vs h0
   have hRz:(s.extract 3 s.size).size<=s.size:=Qh;generalize AJ [s[0],s[1],s[2]]=L at hlow hv;obtain ⟨b,hbb⟩:=N2 ((L==[37,50,101]));rw [hbb] at hv;replace hv:=H0 hv;replace hl:=H0 hl;replace het:=H0 het;replace hR:=H0 hR;replace hh:=H0 hh;replace h0:=H0 h0;go_enter Tryz.func306,Tryz.ntmps306;go_wp2_with (go_at_call 111;refine (hp.out _).mono ?_;rintro e w' ⟨rfl,hw'⟩;obtain rfl:=hw'.symm);refine (hlow.out _).mono ?_;rintro e w2 ⟨t,rfl,ht,hb2⟩
   have ht2:(t.toList==[37,50,101])=b:=by rw [ht.out];exact hbb
   cases b
   ·go_wp2_with fail;go_ret2
    exact ⟨⟨#[]⟩,false,rfl,by simpa using hv,Nat.zero_le _,hb2⟩
   ·go_wp2_with fail;go_ret2;exact ⟨_,true,rfl,hv,hRz,hb2⟩
  ·have h3I:(s.size:Int)<3:=Qa;have hv:=VR hh Qw;replace hv:=H0 hv;replace hh:=H0 hh;go_enter Tryz.func306,Tryz.ntmps306;go_wp2_with (go_at_call 111;refine (hp.out _).mono ?_;rintro e w' ⟨rfl,hw'⟩;obtain rfl:=hw'.symm);go_ret2
   exact ⟨⟨#[]⟩,false,rfl,by simpa using hv,Nat.zero_le _,Below.refl _ _⟩
 ·rw [hb] at hp
  have h0:0<s.size:=by
   by_cases h:0<s.size
   ·exact h
   ·rw [(AF s).2 Qa] at hb;cases hb
  have h1I:(1:Int)<=(s.size:Int):=Qa;have hl:=As s 0 h0;rw [List.drop_zero] at hl
  have h46:s[0]=46:=by rw [hl] at hb;simpa using hb
  have hR:(s.extract 1 s.size).toList=s.toList.drop 1:=by rw [toList_extract,List.take_of_length_le Qw]
  have hv:Hid (Ev s.toList=if true=true then some (s.extract 1 s.size).toList else none):=H0 (by
   rw [if_pos rfl,hR]
   conv=>lhs;rw [hl]
   rw [CS,if_pos h46])
  have hRz:(s.extract 1 s.size).size<=s.size:=Qh;replace hb:=H0 hb;replace hl:=H0 hl;replace h46:=H0 h46;replace hR:=H0 hR;go_enter Tryz.func306,Tryz.ntmps306;go_wp2_with (go_at_call 111;refine (hp.out _).mono ?_;rintro e w' ⟨rfl,hw'⟩;obtain rfl:=hw'.symm);go_ret2
  exact ⟨_,true,rfl,H0 (by rw [if_pos rfl];have:=hv.out;simpa using this),hRz,Below.refl _ _⟩
theorem Abd (s:ByteArray) (w:World) (hz:s.size<=4294967296):Calls Tryz.prog 270 #[.string s] w (Lt w (Lp s.toList)):=by
 have hb:=H0 (fun w=>I1 s w hz)
 go_enter Tryz.func270,Tryz.ntmps270;go_wp2_with fail;refine (hb.out _).mono ?_;rintro e w2 ⟨R,b,rfl,hv,-,hbl⟩
 have hD:Hid (Lp s.toList=(b && (R.toList==[]))):=H0 (by
  unfold Lp;rw [hv.out]
  cases b<;>rfl)
 obtain ⟨d,hd⟩:=N2 ((R.toList==[]))
 have he:R.toList.isEmpty=d:=by rw [<-hd];cases R.toList<;>rfl
 rw [hd] at hD;replace hv:=H0 hv
 cases b<;>cases d
 all_goals
  go_wp2_with fail;go_ret
  exact ⟨by rw [hD.out];rfl,hbl⟩
theorem Af4 (s:ByteArray) (w:World) (hz:s.size<=4294967296):Calls Tryz.prog 268 #[.string s] w (Lt w (IZ s.toList)):=by
 have hb:=H0 (fun w=>I1 s w hz)
 go_enter Tryz.func268,Tryz.ntmps268;go_wp2_with fail;refine (hb.out _).mono ?_;rintro e w2 ⟨R,b,rfl,hv,hRz,hbl⟩
 have hD:Hid (IZ s.toList=(b && Lp R.toList)):=H0 (by
  unfold IZ;rw [hv.out]
  cases b<;>rfl)
 have hd:=H0 (fun w=>Abd R w Qa)
 generalize Lp R.toList=d at hd hD;cases b
 ·go_wp2_with fail;go_ret
  exact ⟨by rw [hD.out];rfl,hbl⟩
 ·cases d
  all_goals
   go_wp2_with fail;refine (hd.out _).mono ?_;rintro e w3 ⟨rfl,hb3⟩;go_wp2_with fail;go_ret
   exact ⟨by rw [hD.out];rfl,hbl.next hb3⟩
theorem V3 {l:List UInt8} (h:l.length<2):E0 l=false:=by
 match l,h with
 | [],_=>rfl
 | [a],_=>rfl
theorem OB (a b:UInt8) (r:List UInt8):E0 (a :: b :: r)=(Ce [a,b] && (match r with | []=>true | c :: _=>[47,92,63,35].contains c)):=rfl
theorem RJ (s:ByteArray) (w:World) (hz:s.size<=4294967296):Calls Tryz.prog 210 #[.string s] w fun e w'=>e= .returned (.bool (E0 s.toList))/\w=w':=by
 by_cases h2:2<=s.size
 ·have hI:(2:Int)<=(s.size:Int):=Qa;have l0:=As s 0 Qa;have l1:=As s 1 Qa;rw [List.drop_zero] at l0;rw [l1] at l0
  have hd:=H0 (fun w=>Ky (s.extract 0 2) w Qh)
  have het:(s.extract 0 2).toList=[s[0],s[1]]:=by rw [toList_extract,l0];rfl
  rw [het] at hd
  by_cases h3:s.size=2
  ·obtain ⟨e1,n1⟩:=MP (show (s.size:Int)=2 by omega)
   have hv:Hid (E0 s.toList=Ce [s[0],s[1]]):=H0 (by
    rw [l0,OB,AL s 2 Qa]
    exact Bool.and_true _)
   generalize Ce [s[0],s[1]]=b at hd hv;replace l0:=H0 l0;replace l1:=H0 l1;replace het:=H0 het;replace h3:=H0 h3;go_enter Tryz.func210,Tryz.ntmps210;cases b
   all_goals
    go_wp2_with (go_at_call 265;refine (hd.out _).mono ?_;rintro e w' ⟨rfl,rfl⟩);go_ret;exact ⟨Aj1,rfl⟩
  ·have n1:((s.size:Int)==2)=false:=Qg;have l2:=As s 2 Qa;have hl2:2<s.size:=Qa
   have hv:Hid (E0 s.toList=(Ce [s[0],s[1]] && ([47,92,63,35]:List UInt8).contains s[2])):=H0 (by
    rw [l0,OB,l2])
   have hix:=fun w=>Tryz.strings_IndexByte ⟨#[47,92,63,35]⟩ (s[2].toNat:Int) w
   have ec:((s[2].toNat:Int)).toNat.toUInt8=s[2]:=Qf;have el:(ByteArray.mk #[47,92,63,35]).data.toList=[47,92,63,35]:=rfl;simp only [ec,el] at hix;have hcn:=I2 [47,92,63,35] s[2];generalize Lib.indexByte [47,92,63,35] s[2]=z at hix hcn;replace hix:=H0 hix;rw [hcn] at hv
   have hway:(0<=z/\Hid (decide (0<=z)=true))\/(z<0/\Hid (decide (0<=z)=false)):=by
    by_cases h:0<=z
    ·exact .inl ⟨h,H0 (decide_eq_true h)⟩
    ·exact .inr ⟨Qa,H0 (decide_eq_false h)⟩
   generalize Ce [s[0],s[1]]=b at hd hv;replace hcn:=H0 hcn;replace l0:=H0 l0;replace l1:=H0 l1;replace l2:=H0 l2;replace het:=H0 het;replace ec:=H0 ec;replace el:=H0 el;replace h3:=H0 h3;go_enter Tryz.func210,Tryz.ntmps210;cases b
   ·go_wp2_with (go_at_call 265;refine (hd.out _).mono ?_;rintro e w' ⟨rfl,rfl⟩);go_ret;exact ⟨Aj1,rfl⟩
   ·rcases hway with ⟨q1,q2⟩ | ⟨q1,q2⟩
    all_goals
     rw [q2.out] at hv
     go_wp2_with (first
      | (go_at_call 265;refine (hd.out _).mono ?_;rintro e w' ⟨rfl,rfl⟩)
      | (go_at_call 47;refine (hix.out _).mono ?_;rintro e w' ⟨rfl,hw⟩;obtain rfl:=hw.symm))
     go_ret
     exact ⟨by rw [hv.out];first | rfl | (show Ending.returned (Value.bool _)=_;simp;done) | (show Ending.returned (Value.bool _)=_;simp;omega),rfl⟩
 ·have hI:(s.size:Int)<2:=Qa;rw [V3 Qw];go_enter Tryz.func210,Tryz.ntmps210;go_wp2_with fail;go_ret;exact ⟨rfl,rfl⟩
theorem Hc:EZ Tryz.prog 22 9 (.string ByteArray.empty) 16:= .mk' Tryz.underlying22 Qb rfl
theorem Fk {P:Program} {T E:TypeId} {z:Value} {b:Nat} (ty:EZ P T E z b) {ops:Array Oper} {rest:List Oper} {o:Oper} {a:Act} {Q:Exit->Act->World->Prop}
  (hgd:o.guard=none) (s x:Operand) (ho:o.op= .call { callee:= .builtin .append,args:= #[s,x],argTypes:= #[T,T] })
  {W0 w0:World} {B:Nat} {v:Value} {l:List ByteArray} (m:List ByteArray) (pa:Option Addr) (pc:Nat) (hs:a.eval s=v) (hx:a.eval x= .slice pa m.length pc)
  (hnil:pa=none->pc=0/\m=[]) (hcell:0<m.length->∃ g o,pa=some ⟨g,o,none⟩/\∀ i (h:i<m.length),w0.cell? ⟨g,o+i,none⟩=some (.string m[i]))
  (hown:AH w0 B E v l) (hbel:Below B W0 w0) (hB:B<=w0.heap.size) (h63:l.length+m.length<=maxLen) (hsz:(l.length+m.length) * b<=140737488355328)
  (h:∀ v' w',AH w' B E v' (l++m)->Below B W0 w'->wpList P ops Q rest (a.put o.dst v') w'):
  wpList P ops Q (o :: rest) a w0:=by
 obtain ⟨i,hi,hz,hs1,hb1⟩:=ty.i
 cases hpa:pa with
 | none=>
  obtain ⟨rfl,rfl⟩:=hnil hpa;subst hpa;refine wpList_append_own_none hgd s x T ho B E i 1 ty.u hi v l.length _ hs hown hx ?_
  have:=h v w0 (by simpa using hown) hbel
  exact this
 | some ad=>
  subst hpa
  have hn:∀ j u,(m.map Value.string)[j]? =some u->w0.cell? (ad.add j)=some u:=by
   intro j u hj
   have hjl:j<m.length:=by
    have:=List.getElem?_eq_some_iff.1 hj;simpa using this.1
   obtain ⟨g,o,e,hc⟩:=hcell Qa;obtain rfl:=Option.some.inj e;rw [List.getElem?_map,List.getElem?_eq_getElem hjl] at hj;have:=hc j hjl
   have e2:(⟨g,o,none⟩:Addr).add j=⟨g,o+j,none⟩:=by cases j<;>simp [Addr.add]
   rw [e2,this];exact hj
  refine wpList_append_own w0 hgd s x T ho B E i z 1 b ty.u hi hz hs1 hb1 ty.z Qc v l.length _ hs hown ad m.length pc (m.map Value.string) hx Qf hn (by intro y hy;simp at hy;obtain ⟨t,_,rfl⟩:=hy;rfl) h63 hsz hB ?_
  intro v' w' hown' hgrow hnil
  refine h v' w' ?_ (hbel.grown hgrow hB (fun k hk=>(World.ownsRow.lt hown k hk).1))
  unfold AH;rw [List.length_append,List.map_append];exact hown'
structure DO (w:World) (pa:Option Addr) (n c:Nat) (l:List ByteArray):Prop where
 len:l.length=n
 read:Fv w (.slice pa n c) l
 nilC:pa=none->c=0
theorem DO.below {w w':World} {K:Nat} {pa:Option Addr} {n c:Nat} {l:List ByteArray} (h:DO w pa n c l) (hb:Below K w w') (hK:w.heap.size<=K):DO w' pa n c l:=⟨h.len,h.read.below hb hK,h.nilC⟩
theorem DO.own {w:World} {B:Nat} {v:Value} {l:List ByteArray} (h:AH w B 9 v l):∃ pa c,v= .slice pa l.length c/\DO w pa l.length c l:=by
 have hr:=h.read
 rcases h.2 with ⟨rfl,h0⟩ | ⟨g,cap,cur,rfl,-⟩
 ·exact ⟨none,0,by rw [h0],rfl,by rw [h0];exact hr,fun _=>rfl⟩
 ·exact ⟨_,_,rfl,rfl,hr,fun h=>Qr⟩
def OX (L:List (List UInt8)) (w:World) (e:Ending) (w':World):Prop:=
 ∃ (v:Value) (l:List ByteArray),e= .returned v/\Hid (l.map (·.toList)=L)/\AH w' w.heap.size 9 v l/\Below w.heap.size w w'
theorem Jg {l:List ByteArray} (h:l.length=1):EE (l.map (·.toList))=CT (l[0]' Qa).toList:=by
 match l,h with
 | [a],_=>rfl
theorem KL {l:List ByteArray} (h:l.length≠1):EE (l.map (·.toList))=false:=by
 match l,h with
 | [],_=>rfl
 | [a],h=>exact absurd rfl h
 | a :: b :: r,_=>rfl
theorem Ow (s:ByteArray) (pa:Option Addr) (n c:Nat) (l:List ByteArray) (w:World) (hp:DO w pa n c l) (hn:n<=1000000) (hc:n<=c) (hz:∀ t∈l,t.size<=4294967296):
  Calls Tryz.prog 213 #[.string s,.slice pa n c] w (OX (IU s.toList (l.map (·.toList))) w):=by
 obtain ⟨rfl,hr,hnil⟩:=hp;obtain ⟨a1,c1,hv,hcell⟩:=hr
 obtain ⟨rfl,-,rfl⟩:pa=a1/\l.length=l.length/\c=c1:=by simpa using hv
 clear hv
 have hnil2:pa=none->l=[]:=fun h=>by
  cases l with
  | nil=>rfl
  | cons a r=>obtain ⟨g,o,e,_⟩:=hcell Qf;rw [h] at e;cases e
 obtain ⟨bf,hbf⟩:∃ b,(s.toList==[102,105,108,101])=b:=⟨_,rfl⟩;have hfl:(s.toList==Aw)=bf:=hbf
 by_cases h0:l.length=0
 ·have hl0:l=[]:=List.eq_nil_of_length_eq_zero h0;have n0:(l.length:Int)<=0:=Qa;obtain ⟨m,hm⟩:=N2 (l.take 0);have hml:m.length=0:=Agm
  have hv:Hid (m.map (·.toList)=IU s.toList (l.map (·.toList))):=H0 (by
   rw [<-hm]
   subst hl0;unfold IU;split<;>rfl)
  have hv0:Hid (([]:List ByteArray).map (·.toList)=IU s.toList (l.map (·.toList))):=H0 (by
   rw [<-hv.out,<-hm,List.take_zero])
  have hlc:(0:Int)<=(c:Int):=Qa;rw [h0];replace hm:=H0 hm;replace hl0:=H0 hl0;replace hfl:=H0 hfl;clear hnil hnil2 hcell n0
  cases pa with
  | none=>
   go_enter Tryz.func213,Tryz.ntmps213;go_wp2_with fail;go_ret;exact ⟨_,[],rfl,hv0,AH.nil _ _ _,Below.refl _ _⟩
  | some a0=>
   have hc1:Hid ((some a0:Option Addr)=none->c=0/\m=[]):=H0 (fun h=>Qr)
   have hc2:Hid (0<m.length->∃ g o,(some a0:Option Addr)=some ⟨g,o,none⟩/\∀ i (h:i<m.length),w.cell? ⟨g,o+i,none⟩=some (.string m[i])):=H0 (fun h=>Qa)
   replace hml:=H0 hml;go_enter Tryz.func213,Tryz.ntmps213
   go_wp2_with (refine Fk Hc rfl (.const (.slice none 0 0)) (.tmp 29) rfl m (some a0) c rfl Akt hc1.out hc2.out (AH.nil _ _ _) (Below.refl w.heap.size w) (Nat.le_refl _) (by rw [hml.out];unfold maxLen;simp) (by rw [hml.out];simp) ?_;intro v' w2 ho hb)
   go_ret;rw [List.nil_append] at ho;exact ⟨_,_,rfl,hv,ho,hb⟩
 have p0:(0:Int)<(l.length:Int):=Qa;have hz0:(l[0]' Qa).size<=4294967296:=hz _ (List.getElem_mem ..)
 have hlst:l.take (l.length - 1)=l.dropLast:=by rw [List.dropLast_eq_take]
 cases bf
 ·have hi0:0<=(l.length:Int) - 1:=Qa;obtain ⟨m,hm⟩:=N2 (l.take (l.length - 1));have hml:m.length=(l.length - 1):=Agm
  have hv:Hid (m.map (·.toList)=IU s.toList (l.map (·.toList))):=H0 (by
   rw [<-hm]
   unfold IU;rw [hfl];simp only [Bool.false_and];rw [if_neg Qc,<-List.map_dropLast,hlst])
  have hc1:pa=none->c=0/\m=[]:=fun h=>⟨hnil h,by rw [<-hm,hnil2 h];simp⟩
  have hc2:0<m.length->∃ g o,pa=some ⟨g,o,none⟩/\∀ i (h:i<m.length),w.cell? ⟨g,o+i,none⟩=some (.string m[i]):=fun h=>by
   obtain ⟨g,o,e,hcc⟩:=hcell Qa
   refine ⟨g,o,e,fun i hi=> ?_⟩
   have hil:i<l.length:=Qa;rw [hcc i hil];congr 2;subst hm;rw [List.getElem_take]
  replace hc1:=H0 hc1;replace hc2:=H0 hc2;replace hml:=H0 hml;replace hm:=H0 hm;replace hfl:=H0 hfl;clear hnil hnil2;replace hcell:=H0 hcell;go_enter Tryz.func213,Tryz.ntmps213
  go_wp2_with (first
   | (go_at_call 209;refine (hno.out _).mono ?_;rintro e w' ⟨rfl,rfl⟩)
   | (refine Fk Hc rfl (.const (.slice none 0 0)) (.tmp 29) rfl m pa c rfl Akt hc1.out hc2.out (AH.nil _ _ _) (Below.refl w.heap.size w) (Nat.le_refl _) QA QM ?_;intro v' w2 ho hb))
  go_ret;rw [List.nil_append] at ho;exact ⟨_,_,rfl,hv,ho,hb⟩
 ·have hi0:0<=(l.length:Int) - 1:=Qa;obtain ⟨g0,o0,rfl,hcc⟩:=hcell Qa;have hcc0:=hcc 0 Qa;rw [Nat.add_zero] at hcc0
  by_cases h1:l.length=1
  ·rw [h1];rw [h1] at hc hlst;replace hi0:=H0 hi0;replace p0:=H0 p0;have hh1:=Jg h1;obtain ⟨x0,hx0⟩:∃ x,l[0]' Qa=x:=⟨_,rfl⟩;rw [hx0] at hcc0 hh1 hz0
   have hno:=H0 (fun w=>Lu x0 w hz0)
   obtain ⟨N,hN⟩:=N2 (CT x0.toList);rw [hN] at hno hh1;replace hN:=H0 hN;replace hx0:=H0 hx0;replace h1:=H0 h1;cases N
   ·
    obtain ⟨m,hm⟩:=N2 (l.take 0);have hml:m.length=0:=Agm
    have hv:Hid (m.map (·.toList)=IU s.toList (l.map (·.toList))):=H0 (by
     rw [<-hm]
     unfold IU;rw [hfl,hh1];simp only [Bool.and_false];rw [if_neg Qc,<-List.map_dropLast,<-hlst])
    have hc1:(some ⟨g0,o0,none⟩:Option Addr)=none->c=0/\m=[]:=fun h=>Qr
    have hc2:0<m.length->∃ g o,(some ⟨g0,o0,none⟩:Option Addr)=some ⟨g,o,none⟩/\∀ i (h:i<m.length),w.cell? ⟨g,o+i,none⟩=some (.string m[i]):=fun h=>by
     refine ⟨g0,o0,rfl,fun i hi=> ?_⟩
     have hil:i<l.length:=by have:=h1.out;omega
     rw [hcc i hil];congr 2;subst hm;rw [List.getElem_take]
    replace hc1:=H0 hc1;replace hc2:=H0 hc2;replace hml:=H0 hml;replace hm:=H0 hm;replace hfl:=H0 hfl;replace hcc:=H0 hcc;replace hlst:=H0 hlst;replace h0:=H0 h0;clear hcell hnil hnil2;replace hh1:=H0 hh1;go_enter Tryz.func213,Tryz.ntmps213
    go_wp2_with (first
     | (go_at_call 209;refine (hno.out _).mono ?_;rintro e w' ⟨rfl,rfl⟩)
     | (refine Fk Hc rfl (.const (.slice none 0 0)) (.tmp 29) rfl m (some ⟨g0,o0,none⟩) c rfl Akt hc1.out hc2.out (AH.nil _ _ _) (Below.refl w.heap.size w) (Nat.le_refl _) QA QM ?_;intro v' w2 ho hb))
    go_ret;rw [List.nil_append] at ho;exact ⟨_,_,rfl,hv,ho,hb⟩
   ·
    obtain ⟨m,hm⟩:=N2 (l.take 1)
    have hml:m.length=1:=by rw [<-hm,List.length_take];have:=h1.out;omega
    have hv:Hid (m.map (·.toList)=IU s.toList (l.map (·.toList))):=H0 (by
     rw [<-hm]
     unfold IU;rw [hfl,hh1];simp only [Bool.and_true];rw [if_pos trivial,List.take_of_length_le (by have:=h1.out;omega)])
    have hc1:(some ⟨g0,o0,none⟩:Option Addr)=none->c=0/\m=[]:=fun h=>Qr
    have hc2:0<m.length->∃ g o,(some ⟨g0,o0,none⟩:Option Addr)=some ⟨g,o,none⟩/\∀ i (h:i<m.length),w.cell? ⟨g,o+i,none⟩=some (.string m[i]):=fun h=>by
     refine ⟨g0,o0,rfl,fun i hi=> ?_⟩
     have hil:i<l.length:=by have:=h1.out;omega
     rw [hcc i hil];congr 2;subst hm;rw [List.getElem_take]
    replace hc1:=H0 hc1;replace hc2:=H0 hc2;replace hml:=H0 hml;replace hm:=H0 hm;replace hfl:=H0 hfl;replace hcc:=H0 hcc;replace hlst:=H0 hlst;replace h0:=H0 h0;clear hcell hnil hnil2;replace hh1:=H0 hh1;go_enter Tryz.func213,Tryz.ntmps213
    go_wp2_with (first
     | (go_at_call 209;refine (hno.out _).mono ?_;rintro e w' ⟨rfl,rfl⟩)
     | (refine Fk Hc rfl (.const (.slice none 0 0)) (.tmp 29) rfl m (some ⟨g0,o0,none⟩) c rfl Akt hc1.out hc2.out (AH.nil _ _ _) (Below.refl w.heap.size w) (Nat.le_refl _) QA QM ?_;intro v' w2 ho hb))
    go_ret;rw [List.nil_append] at ho;exact ⟨_,_,rfl,hv,ho,hb⟩
  ·have h1I:((l.length:Int)==1)=false:=Qg;have hh1:=KL h1;replace h1:=H0 h1;obtain ⟨m,hm⟩:=N2 (l.take (l.length - 1));have hml:m.length=(l.length - 1):=Agm
   have hv:Hid (m.map (·.toList)=IU s.toList (l.map (·.toList))):=H0 (by
    rw [<-hm]
    unfold IU;rw [hfl,hh1];simp only [Bool.and_false];rw [if_neg Qc,<-List.map_dropLast,hlst])
   have hc1:(some ⟨g0,o0,none⟩:Option Addr)=none->c=0/\m=[]:=fun h=>Qr
   have hc2:0<m.length->∃ g o,(some ⟨g0,o0,none⟩:Option Addr)=some ⟨g,o,none⟩/\∀ i (h:i<m.length),w.cell? ⟨g,o+i,none⟩=some (.string m[i]):=fun h=>by
    refine ⟨g0,o0,rfl,fun i hi=> ?_⟩
    have hil:i<l.length:=Qa;rw [hcc i hil];congr 2;subst hm;rw [List.getElem_take]
   replace hc1:=H0 hc1;replace hc2:=H0 hc2;replace hml:=H0 hml;replace hm:=H0 hm;replace hfl:=H0 hfl;replace hcc:=H0 hcc;replace hlst:=H0 hlst;replace h0:=H0 h0;clear hcell hnil hnil2;replace hh1:=H0 hh1;go_enter Tryz.func213,Tryz.ntmps213
   go_wp2_with (first
    | (go_at_call 209;refine (hno.out _).mono ?_;rintro e w' ⟨rfl,rfl⟩)
    | (refine Fk Hc rfl (.const (.slice none 0 0)) (.tmp 29) rfl m (some ⟨g0,o0,none⟩) c rfl Akt hc1.out hc2.out (AH.nil _ _ _) (Below.refl w.heap.size w) (Nat.le_refl _) QA QM ?_;intro v' w2 ho hb))
   go_ret;rw [List.nil_append] at ho;exact ⟨_,_,rfl,hv,ho,hb⟩
def Ah5 (p:List UInt8 × List UInt8) (w:World) (e:Ending) (w':World):Prop:=∃ a b:ByteArray,e= .returned (.tuple #[.string a,.string b])/\Hid (a.toList=p.1)/\Hid (b.toList=p.2)/\Below w.heap.size w w'
theorem K5 (sp:Bool) (c:UInt8):(((c.toNat:Int)==47)=true/\AB sp c=true)\/(((c.toNat:Int)==47)=false/\sp=false/\AB sp c=false)\/(((c.toNat:Int)==47)=false/\sp=true/\((c.toNat:Int)==92)=true/\AB sp c=true)\/(((c.toNat:Int)==47)=false/\sp=true/\((c.toNat:Int)==92)=false/\AB sp c=false):=by
 have e47:(c==47)=((c.toNat:Int)==47):=by
  by_cases h:c=47
  ·subst h;rfl
  ·rw [beq_eq_false_iff_ne.2 h,Eq.comm,beq_eq_false_iff_ne]
   intro e;exact h (UInt8.toNat_inj.1 (by have:(47:UInt8).toNat=47:=rfl;omega))
 have e92:(c==92)=((c.toNat:Int)==92):=by
  by_cases h:c=92
  ·subst h;rfl
  ·rw [beq_eq_false_iff_ne.2 h,Eq.comm,beq_eq_false_iff_ne]
   intro e;exact h (UInt8.toNat_inj.1 (by have:(92:UInt8).toNat=92:=rfl;omega))
 have hs:AB sp c=(((c.toNat:Int)==47) || (sp && ((c.toNat:Int)==92))):=by unfold AB;rw [e47,e92]
 rw [hs];generalize ((c.toNat:Int)==47)=b1;generalize ((c.toNat:Int)==92)=b2
 cases b1<;>cases b2<;>cases sp<;>simp
theorem TW (s:ByteArray) (sp:Bool) (w:World) (hz:s.size<=1000000000):Calls Tryz.prog 215 #[.string s,.bool sp] w (Ah5 (BZ sp s.toList) w):=by
 obtain ⟨R,hR⟩:=N2 (BZ sp s.toList);rw [hR];replace hR:=H0 hR;go_enter Tryz.func215,Tryz.ntmps215;go_wp2_with fail
 go_loop [6] (fun v7=>∃ k:Nat,v7= .int .i64 (k:Int)/\k<=s.size/\Hid (R=(s.toList.take k++(BZ sp (s.toList.drop k)).1,(BZ sp (s.toList.drop k)).2))) (fun v7=>s.size - (intOf v7).toNat)
 case atStart=>exact ⟨0,rfl,Nat.zero_le _,H0 (by rw [List.drop_zero,List.take_zero,List.nil_append,hR.out])⟩
 case round=>
  obtain ⟨k,rfl,hk,hg⟩:=hrel
  by_cases hlt:k<s.size
  ·have hI:(k:Int)<(s.size:Int):=Qa;have hgs:=hg.out;rw [As s k hlt,BZ] at hgs;have htk:=Cx s k hlt;have hdr:=As s k hlt;have hwy:=K5 sp s[k];have hc0:=AN s[k];obtain ⟨N,hN⟩:=N2 (AB sp s[k]);rw [hN] at hgs hwy;replace hN:=H0 hN
   cases N with
   | false=>
    rw [if_neg Qc] at hgs
    have hnew:Hid (R=(s.toList.take (k+1)++(BZ sp (s.toList.drop (k+1))).1,(BZ sp (s.toList.drop (k+1))).2)):=H0 (by rw [hgs,htk,List.append_assoc];rfl)
    replace hgs:=H0 hgs;replace htk:=H0 htk;replace hdr:=H0 hdr
    rcases hwy with ⟨_,h⟩ | ⟨q1,rfl,_⟩ | ⟨_,_,_,h⟩ | ⟨q1,rfl,q2,_⟩
    ·cases h
    ·go_wp2_with fail;go_round
     case rel=>exact ⟨k+1,Ql,Qa,hnew⟩
     case measure=>simp [intOf];omega
    ·cases h
    ·go_wp2_with fail;go_round
     case rel=>exact ⟨k+1,Ql,Qa,hnew⟩
     case measure=>simp [intOf];omega
   | true=>
    rw [if_pos rfl,List.append_nil,<-hdr] at hgs;have hkI:(k:Int)<=(s.size:Int):=Qa;have hk0:(0:Int)<=(k:Int):=Qa
    have h1:Hid ((s.extract 0 k).toList=R.1):=H0 (by rw [hgs,toList_extract,List.drop_zero])
    have h2:Hid ((s.extract k s.size).toList=R.2):=H0 (by rw [hgs,toList_extract,List.take_of_length_le Qw])
    replace hgs:=H0 hgs;replace htk:=H0 htk;replace hdr:=H0 hdr
    rcases hwy with ⟨q1,_⟩ | ⟨_,_,h⟩ | ⟨q1,rfl,q2,_⟩ | ⟨_,_,_,h⟩
    ·go_wp2_with fail;go_region
     all_goals
      go_wp2_with fail;go_ret2;exact ⟨_,_,rfl,h1,h2,QQ⟩
    ·cases h
    ·go_wp2_with fail;go_region
     all_goals
      go_wp2_with fail;go_ret2;exact ⟨_,_,rfl,h1,h2,QQ⟩
    ·cases h
  ·have hI:(s.size:Int)<=(k:Int):=Qa
   have hf:Hid (R=(s.toList,[])):=H0 (by
    rw [hg.out,AL s k Qa,List.take_of_length_le Qw];show (s.toList++[],[])=_
    rw [List.append_nil])
   go_wp2_with fail;go_ret2
   exact ⟨_,_,rfl,H0 (by rw [hf.out]),H0 (by rw [hf.out];exact toList_mk []),Below.refl _ _⟩
def Rx (pre:List UInt8):List (List UInt8)->List (List UInt8)
 | []=>[pre]
 | q :: qs=>(pre++q) :: qs
theorem W5 {l:List (List UInt8)} (h:l≠[]):Rx [] l=l:=by
 cases l with
 | nil=>exact absurd rfl h
 | cons q qs=>rfl
theorem Agn {p:UInt8->Bool} {c:UInt8} {r pre:List UInt8} (h:p c=false):Rx pre (Cw p (c :: r))=Rx (pre++[c]) (Cw p r):=by
 rw [Cw,if_neg Aj2]
 cases hs:Cw p r with
 | nil=>exact absurd hs (In p r)
 | cons q qs=>show (pre++(c :: q)) :: qs=((pre++[c])++q) :: qs;rw [List.append_assoc];rfl
theorem Ad7 {p:UInt8->Bool} {c:UInt8} {r pre:List UInt8} (h:p c=true):Rx pre (Cw p (c :: r))=[pre]++Rx [] (Cw p r):=by
 rw [Cw,if_pos h,W5 (In p r)];show (pre++[]) :: _=_;rw [List.append_nil];rfl
theorem Afw (s:ByteArray) (f k:Nat) (hf:f<=k) (hk:k<s.size):(s.extract f (k+1)).toList=(s.extract f k).toList++[s[k]]:=by
 rw [toList_extract,toList_extract,Cx s k hk,List.drop_append_of_le_length Ake]
theorem Aby (s:ByteArray) (k:Nat):(s.extract k k).toList=[]:=by
 rw [toList_extract,List.drop_of_length_le Qs]
theorem Vo (s:ByteArray) (sp:Bool) (w:World) (hz:s.size<=1000000000):Calls Tryz.prog 267 #[.string s,.bool sp] w (OX (Cw (AB sp) s.toList) w):=by
 obtain ⟨R,hR⟩:=N2 (Cw (AB sp) s.toList);rw [hR];replace hR:=H0 hR;have hne:=H0 (In (AB sp));go_enter Tryz.func267,Tryz.ntmps267;go_wp2_with fail
 go_loopw [5,6,7] (fun v5 v6 v7 wr=>∃ (f k:Nat) (l:List ByteArray),v6= .int .i64 (f:Int)/\v7= .int .i64 (k:Int)/\f<=k/\k<=s.size/\l.length<=k/\AH wr w.heap.size 9 v5 l/\Below w.heap.size w wr/\Hid (R=l.map (·.toList)++Rx (s.extract f k).toList (Cw (AB sp) (s.toList.drop k)))) (fun _ _ v7 _=>s.size - (intOf v7).toNat)
 case atStart=>exact ⟨0,0,[],rfl,rfl,Nat.le_refl _,Nat.zero_le _,Nat.zero_le _,AH.nil _ _ _,Below.refl _ _,H0 (by rw [List.drop_zero,Aby,W5 (hne.out _),hR.out];rfl)⟩
 case round=>
  obtain ⟨f,k,l,rfl,rfl,hfk,hk,hll,hown,hbel,hg⟩:=hrel;have hszw:=hbel.size;have hfI:(f:Int)<=(k:Int):=Qa;have hf0:(0:Int)<=(f:Int):=Qa
  by_cases hlt:k<s.size
  ·have hI:(k:Int)<(s.size:Int):=Qa;have hkI:(k:Int)<=(s.size:Int):=Qa;have hgs:=hg.out;rw [As s k hlt] at hgs;have hes:=Afw s f k hfk hlt;have hwy:=K5 sp s[k];have hc0:=AN s[k];obtain ⟨N,hN⟩:=N2 (AB sp s[k])
   cases N with
   | false=>
    rw [Agn hN,<-hes] at hgs;rw [hN] at hwy;have hnew:=H0 hgs;replace hN:=H0 hN;replace hes:=H0 hes;clear hgs
    rcases hwy with ⟨_,h⟩ | ⟨q1,rfl,_⟩ | ⟨_,_,_,h⟩ | ⟨q1,rfl,q2,_⟩
    ·cases h
    ·go_wp2_with fail;go_roundw
     case rel=>exact ⟨f,k+1,l,rfl,Ql,Qa,Qa,Qa,hown,hbel,hnew⟩
     case measure=>simp [intOf];omega
    ·cases h
    ·go_wp2_with fail;go_roundw
     case rel=>exact ⟨f,k+1,l,rfl,Ql,Qa,Qa,Qa,hown,hbel,hnew⟩
     case measure=>simp [intOf];omega
   | true=>
    rw [Ad7 hN] at hgs;rw [hN] at hwy
    have hnew:Hid (R=(l++[s.extract f k]).map (·.toList)++Rx (s.extract (k+1) (k+1)).toList (Cw (AB sp) (s.toList.drop (k+1)))):=H0 (by
     rw [hgs,Aby,List.map_append,List.append_assoc];rfl)
    replace hN:=H0 hN;replace hes:=H0 hes;clear hgs
    rcases hwy with ⟨q1,_⟩ | ⟨_,_,h⟩ | ⟨q1,rfl,q2,_⟩ | ⟨_,_,_,h⟩
    ·go_wp2_with (at_builtin;refine Ca Hc rfl _ _ rfl rfl rfl hown hbel hszw Qm Qa ?_;intro v' w' ho' hb' _);go_roundw
     case rel=>exact ⟨k+1,k+1,l++[s.extract f k],Ql,Ql,Qa,Qa,Qi,ho',hb',hnew⟩
     case measure=>simp [intOf];omega
    ·cases h
    ·go_wp2_with (at_builtin;refine Ca Hc rfl _ _ rfl rfl rfl hown hbel hszw Qm Qa ?_;intro v' w' ho' hb' _);go_roundw
     case rel=>exact ⟨k+1,k+1,l++[s.extract f k],Ql,Ql,Qa,Qa,Qi,ho',hb',hnew⟩
     case measure=>simp [intOf];omega
    ·cases h
  ·have hI:(s.size:Int)<=(k:Int):=Qa;have hks:k=s.size:=Qa;have hfs:(f:Int)<=(s.size:Int):=Qa
   have hf:Hid ((l++[s.extract f s.size]).map (·.toList)=R):=H0 (by
    rw [hg.out,AL s k Qa,hks,List.map_append];show _=_++[(s.extract f s.size).toList++[]]
    rw [List.append_nil];rfl)
   replace hks:=H0 hks;go_wp2_with (at_builtin;refine Ca Hc rfl _ _ rfl rfl rfl hown hbel hszw Qm Qa ?_;intro v' w' ho' hb' _);go_ret;exact ⟨_,_,rfl,hf,ho',hb'⟩
def AiY (s:List UInt8) (l:List ByteArray) (B:Nat) (w:World) (e:Ending) (w':World):Prop:=
 ∃ (v':Value) (l':List ByteArray),e= .returned v'/\Hid (l'.map (·.toList)=IU s (l.map (·.toList)))/\AH w B 9 v' l'/\Hid (l'=l\/l'=l.dropLast)/\w=w'
theorem Ahm {w:World} {B g c m:Nat} {l:List ByteArray} (h:AH w B 9 (.slice (some ⟨g,0,none⟩) (m+1) c) l) (hl:l.length=m+1):AH w B 9 (.slice (some ⟨g,0,none⟩) m c) l.dropLast:=by
 unfold AH at h⊢
 have hne:l≠[]:=fun e=>by rw [e] at hl;cases hl
 have hsp:l.map Value.string=l.dropLast.map Value.string++[.string (l.getLast hne)]:=by
  conv=>lhs;rw [<-List.dropLast_concat_getLast hne]
  rw [List.map_append];rfl
 have hdl:l.dropLast.length=m:=by rw [List.length_dropLast];omega
 rw [hl,hsp] at h;rw [hdl]
 exact ownsRow_pop (by rw [List.length_map,hdl,Nat.mul_one]) h
theorem Aid (s:ByteArray) (v:Value) (B:Nat) (l:List ByteArray) (w:World) (hown:AH w B 9 v l) (hn:l.length<=1000000000) (hz:∀ t∈l,t.size<=4294967296):
  Calls Tryz.prog 269 #[.string s,v] w (AiY s.toList l B w):=by
 have hr:=hown.read;obtain ⟨a1,c1,hv,hcell⟩:=hr
 by_cases h0:l.length=0
 ·have hl0:l=[]:=List.eq_nil_of_length_eq_zero h0
  have hup:Hid (l.map (·.toList)=IU s.toList (l.map (·.toList))):=H0 (by subst hl0;unfold IU;split<;>rfl)
  rw [h0] at hv;subst hv;clear hcell;replace hl0:=H0 hl0;replace h0:=H0 h0;go_enter Tryz.func269,Tryz.ntmps269;go_wp2_with fail;go_ret;exact ⟨_,l,rfl,hup,hown,H0 (.inl rfl),rfl⟩
 obtain ⟨m,hm⟩:∃ m,l.length=m+1:=⟨l.length - 1,Qa⟩;obtain ⟨g,o,rfl,hcc⟩:=hcell Qa
 have ho:o=0:=by
  rcases hown.2 with ⟨e,_⟩ | ⟨g',cap,cur,e,_⟩
  ·rw [hv] at e;cases e
  ·rw [hv] at e;cases e;rfl
 subst ho
 have hcap:l.length<=c1:=by
  rcases hown.2 with ⟨e,_⟩ | ⟨g',cap,cur,e,_,_,hcap,_⟩
  ·rw [hv] at e;cases e
  ·rw [hv] at e;cases e;exact hcap
 have hcapI:((m:Nat):Int)<=(c1:Int):=Qa;replace hcap:=H0 hcap;have hcc0:=hcc 0 Qa;rw [Nat.add_zero] at hcc0;have hz0:=hz (l[0]' Qa) (List.getElem_mem ..);rw [hm] at hv;subst hv;have hpop:=Ahm hown hm;obtain ⟨bf,hbf⟩:∃ b,(s.toList==[102,105,108,101])=b:=⟨_,rfl⟩;have hfl:(s.toList==Aw)=bf:=hbf
 have hdrop:Hid ((bf && EE (l.map (·.toList)))=false->l.dropLast.map (·.toList)=IU s.toList (l.map (·.toList))):=H0 (fun h=>by
  unfold IU;rw [hfl,h,if_neg Qc,List.map_dropLast])
 have hkeep:Hid ((bf && EE (l.map (·.toList)))=true->l.map (·.toList)=IU s.toList (l.map (·.toList))):=H0 (fun h=>by
  unfold IU;rw [hfl,h,if_pos rfl])
 have hh1:=H0 (fun h=>Jg (l:=l) h)
 have hhn:=H0 (fun h=>KL (l:=l) h)
 obtain ⟨x0,hx0⟩:∃ x,l[0]' Qa=x:=⟨_,rfl⟩;rw [hx0] at hcc0 hz0
 have hno:=H0 (fun w=>Lu x0 w hz0)
 obtain ⟨N,hN⟩:=N2 (CT x0.toList);rw [hN] at hno
 have hhead:Hid (m=0->EE (l.map (·.toList))=N):=H0 (fun e=>by rw [hh1.out Qa,hx0,hN])
 have hheadn:Hid (m≠0->EE (l.map (·.toList))=false):=H0 (fun e=>hhn.out Qa)
 replace hN:=H0 hN;replace hx0:=H0 hx0;replace hfl:=H0 hfl;replace hcc:=H0 hcc;have hm0:(0:Int)<=(m:Int):=Qa;have hmb:(m:Int)<=1000000000:=Qa;have hne0:((m:Int)+1==0)=false:=Qg;clear hcell;replace hm:=H0 hm;replace h0:=H0 h0
 cases bf with
 | false=>
  have hup:=H0 (hdrop.out rfl);go_enter Tryz.func269,Tryz.ntmps269;go_wp2_with (go_at_call 209;refine (hno.out _).mono ?_;rintro e w' ⟨rfl,rfl⟩);go_ret;exact ⟨_,l.dropLast,rfl,hup,hpop,H0 (.inr rfl),rfl⟩
 | true=>
  by_cases hm1:m=0
  ·have hhd:=hhead.out hm1
   have hup:Hid (N=false->l.dropLast.map (·.toList)=IU s.toList (l.map (·.toList))):=H0 (fun e=>hdrop.out (by rw [hhd,e];rfl))
   have hup2:Hid (N=true->l.map (·.toList)=IU s.toList (l.map (·.toList))):=H0 (fun e=>hkeep.out (by rw [hhd,e];rfl))
   replace hhd:=H0 hhd;subst hm1
   cases N with
   | false=>
    have hup3:=H0 (hup.out rfl);go_enter Tryz.func269,Tryz.ntmps269;go_wp2_with (go_at_call 209;refine (hno.out _).mono ?_;rintro e w' ⟨rfl,rfl⟩);go_ret;exact ⟨_,l.dropLast,rfl,hup3,hpop,H0 (.inr rfl),rfl⟩
   | true=>
    have hup3:=H0 (hup2.out rfl);go_enter Tryz.func269,Tryz.ntmps269;go_wp2_with (go_at_call 209;refine (hno.out _).mono ?_;rintro e w' ⟨rfl,rfl⟩);go_ret;exact ⟨_,l,rfl,hup3,hown,H0 (.inl rfl),rfl⟩
  ·have hup:=H0 (hdrop.out (by rw [hheadn.out hm1];rfl))
   have hm1I:((m:Int)+1==1)=false:=Qg;have hm1z:¬ ((m:Int)=0):=Qa;replace hm1:=H0 hm1;go_enter Tryz.func269,Tryz.ntmps269;go_wp2_with (go_at_call 209;refine (hno.out _).mono ?_;rintro e w' ⟨rfl,rfl⟩);go_ret;exact ⟨_,l.dropLast,rfl,hup,hpop,H0 (.inr rfl),rfl⟩
theorem Fy (pa:Option Addr) (n c:Nat) (l:List ByteArray) (w:World) (hp:DO w pa n c l) (hn:n<=1000000000):
  Calls Tryz.prog 104 #[.slice pa n c] w fun e w'=>∃ v:Value,e= .returned v/\AH w' w.heap.size 9 v l/\Below w.heap.size w w':=by
 obtain ⟨rfl,hr,hnil⟩:=hp;obtain ⟨a1,c1,hv,hcell⟩:=hr;cases hv
 cases pa with
 | none=>
  have hl0:l=[]:=by
   cases l with
   | nil=>rfl
   | cons a r=>obtain ⟨g,o,e,_⟩:=hcell Qf;cases e
  subst hl0;refine (Tryz.slices_Clone_string_nil _ _ w).mono ?_;rintro e w' ⟨rfl,rfl⟩;exact ⟨_,rfl,AH.nil _ _ _,Below.refl _ _⟩
 | some a=>
  by_cases h0:l.length=0
  ·have hl0:l=[]:=List.eq_nil_of_length_eq_zero h0;subst hl0;refine (Tryz.slices_Clone_string_zero a c w).mono ?_;rintro e w' ⟨v,rfl,ho,_,hb⟩;exact ⟨v,rfl,ho,hb⟩
  ·obtain ⟨g,o,e,hcc⟩:=hcell Qa;cases e
   refine (Tryz.slices_Clone_string g o l.length c l w (Nat.le_refl _) Qa (fun j hj=> ?_)).mono ?_
   ·rw [hcc j hj,List.getD_eq_getElem?_getD,List.getElem?_eq_getElem hj];rfl
   ·rintro e w' ⟨v,rfl,ho,_,hb⟩;rw [List.take_length] at ho;exact ⟨v,rfl,ho,hb⟩
theorem AeT {scheme:List UInt8} {ps out:List (List UInt8)} {k:Nat} (h:k<ps.length):Dz scheme out (ps.drop k)=Dz scheme (CV scheme out ps[k] (decide (k+1=ps.length))) (ps.drop (k+1)):=by
 rw [List.drop_eq_getElem_cons h,Dz];congr 2
 by_cases hk:k+1=ps.length
 ·rw [decide_eq_true hk,List.drop_of_length_le Qa];rfl
 ·rw [decide_eq_false hk]
  cases hd:ps.drop (k+1) with
  | nil=>
   have:=congrArg List.length hd;rw [List.length_drop] at this;simp at this;omega
  | cons a r=>rfl
structure G0 (S:Am) (u:Ao):Prop where
 scheme:S.scheme.toList=u.scheme
 user:S.user.toList=u.user
 pass:S.pass.toList=u.pass
 host:S.host=An u.host
 hasPort:S.hasPort=u.port.isSome
 port:S.port=((u.port.getD 0:Nat):Int)
 opq:S.flatP=u.opq
 flat:S.flat.toList=u.flat
 path:S.path.map (·.toList)=u.path
 hasQuery:S.hasQuery=u.query.isSome
 query:S.query.toList=u.query.getD []
 hasFrag:S.hasFrag=u.frag.isSome
 frag:S.frag.toList=u.frag.getD []
structure DM (w:World) (S:Am) (u:Ao):Prop where
 is:G0 S u
 path:DO w S.pathA S.path.length S.pathC S.path
 cap:S.path.length<=S.pathC
theorem DM.below {w w':World} {K:Nat} {S:Am} {u:Ao} (h:DM w S u) (hb:Below K w w') (hK:w.heap.size<=K):DM w' S u:=⟨h.is,h.path.below hb hK,h.cap⟩
theorem DM.next {w w':World} {S:Am} {u:Ao} (h:DM w S u) (hb:Below w.heap.size w w'):DM w' S u:=h.below hb (Nat.le_refl _)
theorem DM.inn {w:World} {S:Am} {u:Ao} (h:DM w S u):Jf w S:=by
 obtain ⟨a,c,e,hc⟩:=h.path.read;cases e;exact hc
def zS:Am:=⟨⟨#[]⟩,⟨#[]⟩,⟨#[]⟩,An .none,false,0,false,⟨#[]⟩,none,0,[],false,⟨#[]⟩,false,⟨#[]⟩⟩
theorem Da (w:World):DO w none 0 0 []:=⟨rfl,⟨none,0,rfl,fun h=>absurd h Qc⟩,fun _=>rfl⟩
theorem Pp:G0 zS FU:=⟨toList_mk [],toList_mk [],toList_mk [],rfl,rfl,rfl,rfl,toList_mk [],rfl,rfl,toList_mk [],rfl,toList_mk []⟩
theorem Ab5 (w:World):DM w zS FU:=⟨Pp,Da w,Nat.le_refl _⟩
theorem Js:Tryz.prog.built 34 []=some (Ab zS):=Qb
theorem Au (u:Am):(Ab u).all (·.oneCell')=true:=Qb
theorem Ty (u:Am):(Ab u).size=23:=rfl
theorem Ac (u:Am):(Tryz.prog.info? 34).map (·.size)=some (Ab u).size:=IA
theorem Fc:(Tryz.prog.info? 9).map (·.size)=some 1:=Qb
theorem Jv:(Tryz.prog.info? 4).map (·.size)=some 1:=Qb
theorem VX:(Tryz.prog.info? 3).map (·.size)=some 1:=Qb
theorem Bs:(Tryz.prog.info? 22).map (·.size)=some 1:=Qb
theorem BH {w:World} {B:Nat} {v:Value} {l:List ByteArray} (h:AH w B 9 v l):∃ pa c,v= .slice pa l.length c/\l.length<=c/\DO w pa l.length c l:=by
 have hr:=h.read
 rcases h.2 with ⟨rfl,h0⟩ | ⟨g,cap,cur,rfl,hg,hh,hcap,_⟩
 ·exact ⟨none,0,by rw [h0],Qa,rfl,by rw [h0];exact hr,fun _=>rfl⟩
 ·exact ⟨_,_,rfl,hcap,rfl,hr,fun h=>Qr⟩
def V9 (c:Int):Bool:=decide (c=9\/c=10\/c=13\/c=32)
def Ss (c:Int):Bool:=decide (c=32)
def M1:List UInt8:=[33,35,36,37,38,39,42,43,45,46,94,95,96,124,126]
def Rh (c:UInt8):Bool:=Bn (c.toNat:Int) || decide (0<=Ag (c.toNat:Int) 10) || M1.contains c
def Nz (l:List UInt8):Bool:= !l.isEmpty && l.all Rh
def Agl (t:List UInt8):Option (List UInt8):=
 if (Ak 47 t).2.2=false then none
 else if Nz (Ak 47 t).1=true/\Nz (Bt V9 (Ak 59 (Ak 47 t).2.1).1)=true then some (AJ (Ak 47 t).1++47 :: AJ (Bt V9 (Ak 59 (Ak 47 t).2.1).1)) else none
def Re (l:List UInt8):Option (List UInt8):=Agl (DU V9 (Bt V9 l))
def V2:List UInt8:=[98,97,115,101,54,52]
def G8 (s:List UInt8):List UInt8:=
 if 6<=s.length/\AJ (s.drop (s.length - 6))=V2 then
  (if (Bt Ss (s.take (s.length - 6))).getLast? =some 59 then (Bt Ss (s.take (s.length - 6))).dropLast else s)
 else s
def K2:List UInt8:=[116,101,120,116,47,112,108,97,105,110]
def Uj (h:List UInt8):List UInt8:=(Re (if (G8 (Sc h)).head? =some 59 then K2++G8 (Sc h) else G8 (Sc h))).getD K2
def Aa4 (t:List UInt8):Option (List UInt8):=if (Ak 44 (t.drop 5)).2.2=true then some (Uj (Ak 44 (t.drop 5)).1) else none
theorem OL (l:List UInt8) (c:UInt8):l.contains c=decide (0<=Lib.indexByte l c):=by
 induction l with
 | nil=>rfl
 | cons d r ih=>
  have hg:=Lib.indexByte_ge r c;unfold Lib.indexByte;rw [List.contains_cons]
  by_cases h:d=c
  ·subst h;simp
  ·have h2:(c==d)=false:=by simpa using Ne.symm h
   have h3:(d==c)=false:=Qy;rw [h2,Bool.false_or,ih,h3]
   by_cases h1:Lib.indexByte r c= -1
   ·simp [h1]
   ·have h0:0<=Lib.indexByte r c:=Qa;have:(Lib.indexByte r c== -1)=false:=Q2;simp [this,h0];omega
theorem NP (c:UInt8):([9,10,13,32]:List UInt8).contains c=V9 (c.toNat:Int):=by
 have h:∀ n:Fin 256,([9,10,13,32]:List UInt8).contains (UInt8.ofNat n.val)=V9 ((UInt8.ofNat n.val).toNat:Int):=Qe;have:=h ⟨c.toNat,c.toNat_lt⟩;simpa using this
theorem Aft (l:List UInt8):Lib.trimS l [9,10,13,32]=DU V9 (Bt V9 l):=by
 unfold Lib.trimS Lib.trimLeftS Lib.trimRightS DU Bt DU;simp only [NP]
theorem Sz (l:List UInt8):Lib.trimRightS l [9,10,13,32]=Bt V9 l:=by
 unfold Lib.trimRightS Bt DU;simp only [NP]
theorem TS (s:ByteArray) (w:World) (hs:s.size<=1099511627776):
  Calls Tryz.prog 249 #[.string s] w fun e w'=>e= .returned (.bool (Nz s.toList))/\w=w':=by
 have hlen:=Aa s;go_enter Tryz.func249,Tryz.ntmps249;go_wp2_with fail
 go_loop [3] (fun iv=>∃ k:Nat,iv= .int .i64 k/\k<=s.size/\Hid ((s.toList.take k).all Rh=true)) (fun iv=>s.size - (intOf iv).toNat)
 case atStart=>exact ⟨0,rfl,Nat.zero_le _,H0 rfl⟩
 case round=>
  obtain ⟨k,rfl,hk,hg⟩:=hrel
  by_cases hlt:k<s.size
  ·have hltI:(k:Int)<(s.size:Int):=Qa;have htk:=Cx s k hlt;have hdr:=As s k hlt;obtain ⟨c,hc⟩:=N2 (s[k]);rw [hc] at htk hdr
   have hbad:Rh c=false->Hid (Nz s.toList=false):=fun h=>H0 (by
    unfold Nz
    have e:s.toList=s.toList.take k++c :: s.toList.drop (k+1):=by rw [<-hdr,List.take_append_drop]
    rw [e,List.all_append,List.all_cons,h];simp)
   have hgood:Rh c=true->Hid ((s.toList.take (k+1)).all Rh=true):=fun h=>H0 (by
    rw [htk,List.all_append,hg.out];simp [h])
   have hix:=fun w=>Tryz.strings_IndexByte ⟨#[33,35,36,37,38,39,42,43,45,46,94,95,96,124,126]⟩ (c.toNat:Int) w
   have ec:((c.toNat:Int)).toNat.toUInt8=c:=Qf;simp only [ec] at hix;have hsg:=OL M1 c
   have hway:(Bn (c.toNat:Int)=true/\Rh c=true)\/(Bn (c.toNat:Int)=false/\(¬ Ag (c.toNat:Int) 10<0)/\Rh c=true)\/
     (Bn (c.toNat:Int)=false/\Ag (c.toNat:Int) 10<0/\(∃ z:Int,Lib.indexByte M1 c=z/\0<=z)/\Rh c=true)\/(Bn (c.toNat:Int)=false/\Ag (c.toNat:Int) 10<0/\(∃ z:Int,Lib.indexByte M1 c=z/\z<0)/\Rh c=false):=by
    unfold Rh;cases hl:Bn (c.toNat:Int)
    ·by_cases hd:Ag (c.toNat:Int) 10<0
     ·by_cases hz:0<=Lib.indexByte M1 c
      ·refine .inr (.inr (.inl ⟨rfl,hd,⟨_,rfl,hz⟩,?_⟩));rw [hsg,decide_eq_true hz];simp
      ·refine .inr (.inr (.inr ⟨rfl,hd,⟨_,rfl,Qa⟩,?_⟩));rw [hsg,decide_eq_false hz,decide_eq_false Qa];rfl
     ·refine .inr (.inl ⟨rfl,hd,?_⟩);rw [decide_eq_true Qa];simp
    ·exact .inl ⟨rfl,rfl⟩
   clear hsg htk hdr hg;replace hlen:=H0 hlen;rw [<-hc] at hix hway hbad hgood;replace hix:=H0 hix;replace hbad:=H0 hbad;replace hgood:=H0 hgood;replace hc:=H0 hc
   have hixz:∀ z:Int,Lib.indexByte M1 s[k]=z->Hid (∀ w,Calls Tryz.prog 47 #[.string ⟨#[33,35,36,37,38,39,42,43,45,46,94,95,96,124,126]⟩,.int .u8 (s[k].toNat:Int)] w fun e w'=>e= .returned (.int .i64 z)/\w'=w):=fun z hz=>H0 (fun w=>by
    have h:=hix.out w;rw [show Lib.indexByte [33,35,36,37,38,39,42,43,45,46,94,95,96,124,126] s[k]=z from hz] at h
    exact h)
   replace hixz:=H0 hixz
   rcases hway with ⟨q1,q2⟩ | ⟨q1,q2,q3⟩ | ⟨q1,q2,⟨z,hz,hz0⟩,q3⟩ | ⟨q1,q2,⟨z,hz,hz0⟩,q3⟩
   ·have hn:=hgood.out q2;clear q2;go_wp2_with (go_at_call 154;refine (Dt _ _).mono ?_;rintro e w' ⟨rfl,rfl⟩);go_round
    case rel=>exact ⟨k+1,Ql,Qa,hn⟩
    case measure=>simp [intOf];omega
   ·have hn:=hgood.out q3;have q4:0<=Ag (s[k].toNat:Int) 10:=Qa;clear q2 q3
    go_wp2_with (first
     | (go_at_call 154;refine (Dt _ _).mono ?_;rintro e w' ⟨rfl,rfl⟩)
     | (go_at_call 155;refine (A8 _ _ _ (AN _) (AX _)).mono ?_;rintro e w' ⟨rfl,rfl⟩))
    go_round
    case rel=>exact ⟨k+1,Ql,Qa,hn⟩
    case measure=>simp [intOf];omega
   ·have hn:=hgood.out q3;have hi:=hixz.out z hz;replace hz:=H0 hz;clear q3
    go_wp2_with (first
     | (go_at_call 154;refine (Dt _ _).mono ?_;rintro e w' ⟨rfl,rfl⟩)
     | (go_at_call 155;refine (A8 _ _ _ (AN _) (AX _)).mono ?_;rintro e w' ⟨rfl,rfl⟩)
     | (go_at_call 47;refine (hi.out _).mono ?_;rintro e w' ⟨rfl,rfl⟩))
    go_round
    case rel=>exact ⟨k+1,Ql,Qa,hn⟩
    case measure=>simp [intOf];omega
   ·have hn:=hbad.out q3;have hi:=hixz.out z hz;replace hz:=H0 hz;clear q3
    go_wp2_with (first
     | (go_at_call 154;refine (Dt _ _).mono ?_;rintro e w' ⟨rfl,rfl⟩)
     | (go_at_call 155;refine (A8 _ _ _ (AN _) (AX _)).mono ?_;rintro e w' ⟨rfl,rfl⟩)
     | (go_at_call 47;refine (hi.out _).mono ?_;rintro e w' ⟨rfl,rfl⟩))
    go_ret;exact ⟨A7 hn.out.symm,rfl⟩
  ·have hgeI:(s.size:Int)<=(k:Int):=Qa
   have hall:Hid (s.toList.all Rh=true):=H0 (by have:=hg.out;rw [FT s k Qa] at this;exact this)
   cases hem:s.toList.isEmpty
   ·have hfin:Hid (Nz s.toList=true):=H0 (by unfold Nz;rw [hem,hall.out];rfl)
    replace hlen:=H0 hlen;go_wp2_with fail;go_ret;exact ⟨A7 hfin.out.symm,rfl⟩
   ·have hfin:Hid (Nz s.toList=false):=H0 (by unfold Nz;rw [hem];rfl)
    replace hlen:=H0 hlen;go_wp2_with fail;go_ret;exact ⟨A7 hfin.out.symm,rfl⟩
def AiH (w:World) (o:Option (List UInt8)) (e:Ending) (w':World):Prop:=
 ∃ t:ByteArray,e= .returned (.tuple #[.string t,.bool o.isSome])/\Hid (t.toList=o.getD [])/\Below w.heap.size w w'
theorem ZC (s:ByteArray) (w:World) (hs:s.size<=1099511627776):
  Calls Tryz.prog 248 #[.string s,.string ⟨#[9,10,13,32]⟩] w (EI w (DU V9 (Bt V9 s.toList))):=
 (Any.strings_Trim_laid Tryz.lays160 Qb s ⟨#[9,10,13,32]⟩ w Qa Qc (ascii_of_all Qc)).mono (by
  rintro e w' ⟨rfl,hb⟩
  exact Hk (by rw [<-ByteArray.toList_eq];exact Aft _) hb)
theorem OI (s:ByteArray) (w:World) (hs:s.size<=1099511627776):
  Calls Tryz.prog 173 #[.string s,.string ⟨#[9,10,13,32]⟩] w (EI w (Bt V9 s.toList)):=
 (Any.strings_TrimRight_laid Tryz.lays162 Qb s ⟨#[9,10,13,32]⟩ w Qa Qc (ascii_of_all Qc)).mono (by
  rintro e w' ⟨rfl,hb⟩
  exact Hk (by rw [<-ByteArray.toList_eq];exact Sz _) hb)
theorem GY (p:Int->Bool) (l:List UInt8):(Bt p l).length<=l.length:=by
 unfold Bt DU;rw [List.length_reverse]
 exact Nat.le_trans (List.dropWhile_sublist _).length_le (by rw [List.length_reverse];exact Nat.le_refl _)
theorem Tk (p:Int->Bool) (l:List UInt8):(DU p l).length<=l.length:=(List.dropWhile_sublist _).length_le
theorem XL (s:ByteArray) (w:World) (hm:ML w) (hs:s.size<=1000000000):
  Calls Tryz.prog 184 #[.string s] w (AiH w (Re s.toList)):=by
 have hB:Below w.heap.size w w:=Below.refl _ _;have e0:(ByteArray.mk #[]).toList=[]:=toList_mk [];go_enter Tryz.func184,Tryz.ntmps184;go_wp2_with fail;refine (ZC s _ Qa).mono ?_;rintro e w1 ⟨t,rfl,ht,hb⟩
 replace hB:=hB.next hb
 clear hb
 have htz:t.size<=1000000000:=by
  rw [<-Aa,ht.out];have h1:=Tk V9 (Bt V9 s.toList);have h2:=GY V9 s.toList;rw [Aa] at h2;omega
 have hE:Hid (Re s.toList=Agl t.toList):=H0 Akd;clear ht
 have hct:=H0 (fun w hm=>FF t 47 w hm Qa)
 have hl:=Cr 47 t.toList;rw [Aa] at hl;go_wp2_with fail
 refine (hct.out _ (hm.next hB)).mono ?_
 rintro e w2 ⟨ta,tb,nd,rfl,h1,h2,hw⟩
 have hB2:Below w.heap.size w w2:=by rw [hw];exact below_drewN hB nd
 have haz:ta.size<=1000000000:=Akr
 have hbz:tb.size<=1000000000:=by rw [<-Aa,h2.out];omega
 obtain ⟨mo,hmo⟩:∃ mo,(Ak 47 t.toList).2.2=mo:=⟨_,rfl⟩;rw [hmo];clear hw hB hl hct;cases mo
 ·have hno:Hid (Re s.toList=none):=H0 (by rw [hE.out];unfold Agl;rw [if_pos hmo])
  replace hmo:=H0 hmo;go_wp2_with fail;go_ret2;exact ⟨⟨#[]⟩,Aku,H0 Aj4,hB2⟩
 ·have hT:Hid (Re s.toList=if Nz ta.toList=true/\Nz (Bt V9 (Ak 59 tb.toList).1)=true then some (AJ ta.toList++47 :: AJ (Bt V9 (Ak 59 tb.toList).1)) else none):=H0 (by
   rw [hE.out];unfold Agl;rw [if_neg (by rw [hmo];decide),h1.out,h2.out])
  replace hmo:=H0 hmo;clear hE
  have hct:=H0 (fun w hm=>FF tb 59 w hm Qa)
  have hl:=Cr 59 tb.toList;rw [Aa] at hl;go_wp2_with fail
  refine (hct.out _ (hm.next hB2)).mono ?_
  rintro e w3 ⟨tc,td,nd2,rfl,h3,h4,hw⟩
  have hB3:Below w.heap.size w w3:=by rw [hw];exact below_drewN hB2 nd2
  have hcz:tc.size<=1000000000:=by rw [<-Aa,h3.out];omega
  rw [<-h3.out] at hT;clear hw hB2 hl hct;go_wp2_with fail;refine (OI tc _ Qa).mono ?_;rintro e w4 ⟨te,rfl,hte,hb⟩
  have hB4:=hB3.next hb
  have hez:te.size<=1000000000:=by
   rw [<-Aa,hte.out];have:=GY V9 tc.toList;rw [Aa] at this;omega
  rw [<-hte.out] at hT;clear hb hB3 h1 h2 h3 h4 hte
  have htkA:=H0 (fun w=>TS ta w Qa)
  have htkB:=H0 (fun w=>TS te w Qa)
  cases qa:Nz ta.toList
  ·have hno:Hid (Re s.toList=none):=H0 (by rw [hT.out,qa];simp)
   rw [qa] at htkA;replace qa:=H0 qa
   go_wp2_with (first | (go_at_call 249;refine (htkA.out _).mono ?_;rintro e w' ⟨rfl,rfl⟩))
   go_ret2;exact ⟨⟨#[]⟩,Aku,H0 Aj4,hB4⟩
  cases qb:Nz te.toList
  ·have hno:Hid (Re s.toList=none):=H0 (by rw [hT.out,qb];simp)
   rw [qa] at htkA;rw [qb] at htkB;replace qa:=H0 qa;replace qb:=H0 qb;go_wp2_with fail;refine (htkA.out _).mono ?_;rintro e w' ⟨rfl,rfl⟩;go_wp2_with fail;refine (htkB.out _).mono ?_;rintro e w' ⟨rfl,rfl⟩;go_wp2_with fail;go_ret2;exact ⟨⟨#[]⟩,Aku,H0 Aj4,hB4⟩
  ·have hyes:Hid (Re s.toList=some (AJ ta.toList++47 :: AJ te.toList)):=H0 (by rw [hT.out,qa,qb];simp)
   rw [qa] at htkA;rw [qb] at htkB;replace qa:=H0 qa;replace qb:=H0 qb;go_wp2_with fail;refine (htkA.out _).mono ?_;rintro e w' ⟨rfl,rfl⟩;go_wp2_with fail;refine (htkB.out _).mono ?_;rintro e w' ⟨rfl,rfl⟩;go_wp2_with fail;refine (EM ta _ Qa).mono ?_;rintro e w5 ⟨la,rfl,hla,hb⟩
   have hB5:=hB4.next hb
   have hlaz:la.size<=1000000000:=by rw [<-Aa,hla.out];unfold AJ;rw [List.length_map,Aa];omega
   clear hb hB4;go_wp2_with fail;refine (EM te _ Qa).mono ?_;rintro e w6 ⟨lb,rfl,hlb,hb⟩
   have hB6:=hB5.next hb
   have hlbz:lb.size<=1000000000:=by rw [<-Aa,hlb.out];unfold AJ;rw [List.length_map,Aa];omega
   clear hb hB5;go_wp2_with fail;go_ret2
   exact ⟨la++⟨#[47]⟩++lb,by rw [hyes.out];rfl,H0 (by rw [hyes.out,toList_append,toList_append,hla.out,hlb.out,show (ByteArray.mk #[47]).toList=[47] from toList_mk _];simp),hB6⟩
end Go.Proofs.YtonomfeipkdmhaaGreatDoor
