/- Small laws for the walks over this seat's program: byte slices and string slices that the call builds, and strings as lists of bytes. -/
import Derived.Test.YtbejimncmfeggaaDoorRows
import Derived.WalkKit
import Derived.WalkSpells
import Derived.WalkLawsBesides
import Derived.Lib.Hide
import Derived.Lib.ConvBytes
import Derived.Deep.LoopGhost
import Derived.Deep.DeepCutAuto
import Derived.Deep.QuietTactic
import Derived.BigQuiet
import Derived.Laws.AppendOwnNone
import Derived.OpenShut
namespace Go.Proofs.YtbejimncmfeggaaDoor
open Go.RowKit
set_option linter.unusedVariables false

theorem ret_bool {a b : Bool} (h : a = b) : Ending.returned (.bool a) = .returned (.bool b) := by rw [h]
theorem ret_int {k : IntKind} {a b : Int} (h : a = b) : Ending.returned (.int k a) = .returned (.int k b) := by rw [h]

theorem bne_of {a b : Int} (h : ¬ a = b) : (a == b) = false ∧ (a != b) = true := by simp [h]
theorem beq_of {a b : Int} (h : a = b) : (a == b) = true ∧ (a != b) = false := by simp [h]
/-- A byte as a value. -/
def byteV (c : UInt8) : Value := .int .u8 (c.toNat : Int)

/-- The call hands back a string with these bytes; nothing that was there has turned. -/
def RetS (w : World) (l : List UInt8) (e : Ending) (w' : World) : Prop :=
  ∃ t : ByteArray, e = .returned (.string t) ∧ Hid (t.toList = l) ∧ Below w.heap.size w w'
theorem retS {w w' : World} {l : List UInt8} {t : ByteArray} (h : t.toList = l) (hb : Below w.heap.size w w') : RetS w l (.returned (.string t)) w' := ⟨t, rfl, h, hb⟩
theorem retS_mk {w w' : World} {l m : List UInt8} (h : m = l) (hb : Below w.heap.size w w') : RetS w l (.returned (.string ⟨m.toArray⟩)) w' := ⟨_, rfl, (ByteArray.toList_mk m).trans h, hb⟩
/-- The call hands back this bool. -/
def RetB (w : World) (b : Bool) (e : Ending) (w' : World) : Prop := e = .returned (.bool b) ∧ Below w.heap.size w w'
/-- The call hands back this number. -/
def RetI (w : World) (n : Int) (e : Ending) (w' : World) : Prop := e = .returned (.int .i64 n) ∧ Below w.heap.size w w'

theorem size_toList (s : ByteArray) : s.toList.length = s.size := by rw [ByteArray.toList_eq, Array.length_toList]; rfl
theorem toList_extract (s : ByteArray) (a b : Nat) : (s.extract a b).toList = (s.toList.take b).drop a := by
  rw [ByteArray.toList_eq, ByteArray.toList_eq, ByteArray.data_extract, Array.toList_extract, List.extract_eq_take_drop, List.drop_take]
theorem toList_append (s t : ByteArray) : (s ++ t).toList = s.toList ++ t.toList := by
  rw [ByteArray.toList_eq, ByteArray.toList_eq, ByteArray.toList_eq]; simp
theorem toList_get (s : ByteArray) (i : Nat) (h : i < s.size) : s.toList[i]'(by rw [size_toList]; exact h) = s[i] := by
  simp only [ByteArray.toList_eq]; rfl
theorem toList_mk (l : List UInt8) : (ByteArray.mk l.toArray).toList = l := ByteArray.toList_mk l
theorem eq_of_toList {s t : ByteArray} (h : s.toList = t.toList) : s = t := by
  rw [ByteArray.toList_eq, ByteArray.toList_eq] at h
  cases s; cases t; simp at h; rw [h]
theorem drop_cons (s : ByteArray) (k : Nat) (h : k < s.size) : s.toList.drop k = s[k] :: s.toList.drop (k + 1) := by
  rw [List.drop_eq_getElem_cons (by rw [size_toList]; exact h), toList_get]
theorem drop_end (s : ByteArray) (k : Nat) (h : s.size ≤ k) : s.toList.drop k = [] := List.drop_of_length_le (by rw [size_toList]; exact h)
theorem byte_lt (c : UInt8) : (c.toNat : Int) < 256 := by have := c.toNat_lt; omega
theorem byte_le (c : UInt8) : (c.toNat : Int) ≤ 255 := by have := c.toNat_lt; omega
theorem byte_nn (c : UInt8) : 0 ≤ (c.toNat : Int) := by omega

theorem callFunc_enter {P : Program} {f : FuncId} {fn : Func} {c : Code} (hf : P.funcs[f]? = some fn) (hname : (fn.name == "runtime.NumGoroutine") = false) (hb : fn.body = some c) (args : Array Value) (w : World) :
    (callFunc f args).run P w = .ok (.enter f args) w := by
  have h1 : fn.name ≠ "runtime.NumGoroutine" := by simpa using hname
  simp [callFunc, hf, h1, hb]
/-- The length of a string value. -/
def szOf : Value → Nat | .string s => s.size | _ => 0
theorem toList_empty_iff (s : ByteArray) : s.toList = [] ↔ s.size = 0 := by rw [← size_toList, List.length_eq_zero_iff]
theorem take_snoc (s : ByteArray) (k : Nat) (h : k < s.size) : s.toList.take (k + 1) = s.toList.take k ++ [s[k]] := by
  rw [List.take_succ_eq_append_getElem (by rw [size_toList]; exact h), toList_get _ _ h]
theorem take_all (s : ByteArray) (k : Nat) (h : s.size ≤ k) : s.toList.take k = s.toList := List.take_of_length_le (by rw [size_toList]; exact h)

/-- The element type of a slice whose elements take one cell. -/
structure ElemTy (P : Program) (T E : TypeId) (z : Value) (b : Nat) : Prop where
  u : P.underlying T = some (.slice E)
  i : ∃ i, P.info? E = some i ∧ i.zero = some z ∧ i.size = 1 ∧ i.bytes = b
  z : z.cells.size = 1
theorem ElemTy.mk' {P : Program} {T E : TypeId} {z : Value} {b : Nat} (u : P.underlying T = some (.slice E))
    (h : (P.info? E).map (fun i => (i.zero, i.size, i.bytes)) = some (some z, 1, b)) (hz : z.cells.size = 1) : ElemTy P T E z b :=
  ⟨u, info_parts h, hz⟩

theorem cell_box (w : World) (u : Value) (e : TypeId) : ∀ j x, [u][j]? = some x → (w.alloc (.cells #[u] e)).cell? ((⟨w.heap.size, 0, none⟩ : Addr).add j) = some x := by
  intro j x hj
  match j, hj with
  | 0, hj => simp at hj; subst hj; simp [Addr.add]

/-- 'out = append(out, u)', out nil or the call's own. -/
theorem wpList_push {P : Program} {T E : TypeId} {z : Value} {b : Nat} (ty : ElemTy P T E z b) {ops : Array Oper} {rest : List Oper} {o : Oper} {a : Act} {Q : Exit → Act → World → Prop}
    (hgd : o.guard = none) (s x : Operand) (ho : o.op = .call { callee := .builtin .append, args := #[s, x], argTypes := #[T, T] })
    {W0 w0 : World} {B : Nat} {v u : Value} {xs : List Value} (hu : u.oneCell' = true) (hs : a.eval s = v) (hx : a.eval x = .slice (some ⟨w0.heap.size, 0, none⟩) 1 1)
    (hown : w0.ownsRow B E 1 v xs.length xs) (hbel : Below B W0 w0) (hB : B ≤ w0.heap.size) (h63 : xs.length + 1 ≤ maxLen) (hsz : (xs.length + 1) * b ≤ 140737488355328)
    (h : ∀ v' w', w'.ownsRow B E 1 v' (xs.length + 1) (xs ++ [u]) → Below B W0 w' → (v' = .slice none 0 0 → False) → wpList P ops Q rest (a.put o.dst v') w') :
    wpList P ops Q (o :: rest) a (w0.alloc (.cells #[u] E)) := by
  obtain ⟨i, hi, hz, hs1, hb1⟩ := ty.i
  refine wpList_append_own (w0.alloc (.cells #[u] E)) hgd s x T ho B E i z 1 b ty.u hi hz hs1 hb1 ty.z (by decide) v xs.length xs hs (hown.alloc _) ⟨w0.heap.size, 0, none⟩ 1 1 [u] hx rfl
    (cell_box w0 u E) (by intro y hy; simp at hy; subst hy; exact hu) h63 hsz (by simp; omega) ?_
  intro v' w' hown' hgrow hnil
  refine h v' w' hown' ?_ (fun hv => by have := (hnil.1 hv).2; omega)
  exact (hbel.alloc hB _).grown hgrow (by simp; omega) (fun k hk => (hown.lt k hk).1)

/-- The call's own bytes. -/
def OwnB (w : World) (B : Nat) (E : TypeId) (v : Value) (l : List UInt8) : Prop := w.ownsRow B E 1 v l.length (l.map byteV)
/-- The call's own strings. -/
def OwnS (w : World) (B : Nat) (E : TypeId) (v : Value) (l : List ByteArray) : Prop := w.ownsRow B E 1 v l.length (l.map Value.string)
theorem OwnB.nil (w : World) (B : Nat) (E : TypeId) : OwnB w B E (.slice none 0 0) [] := World.ownsRow_nil _ _ _ _
theorem OwnS.nil (w : World) (B : Nat) (E : TypeId) : OwnS w B E (.slice none 0 0) [] := World.ownsRow_nil _ _ _ _
theorem wpList_pushB {P : Program} {T E : TypeId} {z : Value} {b : Nat} (ty : ElemTy P T E z b) {ops : Array Oper} {rest : List Oper} {o : Oper} {a : Act} {Q : Exit → Act → World → Prop}
    (hgd : o.guard = none) (s x : Operand) (ho : o.op = .call { callee := .builtin .append, args := #[s, x], argTypes := #[T, T] })
    {W0 w0 : World} {B : Nat} {v : Value} {l : List UInt8} {n : Int} (c : UInt8) (hs : a.eval s = v) (hx : a.eval x = .slice (some ⟨w0.heap.size, 0, none⟩) 1 1)
    (hown : OwnB w0 B E v l) (hbel : Below B W0 w0) (hB : B ≤ w0.heap.size) (hc : n = (c.toNat : Int)) (h63 : l.length + 1 ≤ maxLen) (hsz : (l.length + 1) * b ≤ 140737488355328)
    (h : ∀ v' w', OwnB w' B E v' (l ++ [c]) → Below B W0 w' → (v' = .slice none 0 0 → False) → wpList P ops Q rest (a.put o.dst v') w') :
    wpList P ops Q (o :: rest) a (w0.alloc (.cells #[.int .u8 n] E)) := by
  subst hc
  refine wpList_push ty hgd s x ho (xs := l.map byteV) (v := v) rfl hs hx (by simpa [OwnB] using hown) hbel hB (by simpa using h63) (by simpa using hsz) ?_
  intro v' w' h1 h2 h3
  refine h v' w' ?_ h2 h3
  simpa [OwnB, byteV] using h1
theorem wpList_pushS {P : Program} {T E : TypeId} {z : Value} {b : Nat} (ty : ElemTy P T E z b) {ops : Array Oper} {rest : List Oper} {o : Oper} {a : Act} {Q : Exit → Act → World → Prop}
    (hgd : o.guard = none) (s x : Operand) (ho : o.op = .call { callee := .builtin .append, args := #[s, x], argTypes := #[T, T] })
    {W0 w0 : World} {B : Nat} {v : Value} {l : List ByteArray} {t : ByteArray} (hs : a.eval s = v) (hx : a.eval x = .slice (some ⟨w0.heap.size, 0, none⟩) 1 1)
    (hown : OwnS w0 B E v l) (hbel : Below B W0 w0) (hB : B ≤ w0.heap.size) (h63 : l.length + 1 ≤ maxLen) (hsz : (l.length + 1) * b ≤ 140737488355328)
    (h : ∀ v' w', OwnS w' B E v' (l ++ [t]) → Below B W0 w' → (v' = .slice none 0 0 → False) → wpList P ops Q rest (a.put o.dst v') w') :
    wpList P ops Q (o :: rest) a (w0.alloc (.cells #[.string t] E)) := by
  refine wpList_push ty hgd s x ho (xs := l.map Value.string) (v := v) rfl hs hx (by simpa [OwnS] using hown) hbel hB (by simpa using h63) (by simpa using hsz) ?_
  intro v' w' h1 h2 h3
  refine h v' w' ?_ h2 h3
  simpa [OwnS] using h1

/-- The value is a slice that reads as these strings. -/
def ReadS (w : World) (v : Value) (l : List ByteArray) : Prop :=
  ∃ a c, v = .slice a l.length c ∧ (0 < l.length → ∃ g o, a = some ⟨g, o, none⟩ ∧ ∀ i (h : i < l.length), w.cell? ⟨g, o + i, none⟩ = some (.string l[i]))
theorem OwnS.read {w : World} {B : Nat} {E : TypeId} {v : Value} {l : List ByteArray} (h : OwnS w B E v l) : ReadS w v l := by
  rcases h.2 with ⟨rfl, hn⟩ | ⟨g, cap, cur, rfl, hg, hh, hcap, hml, hcs, hcur⟩
  · exact ⟨none, 0, by rw [hn], fun h0 => by omega⟩
  · refine ⟨_, cap, rfl, fun _ => ⟨g, 0, rfl, fun i hi => ?_⟩⟩
    have := World.ownsRow.cellAt h i (by omega)
    rw [Nat.zero_add, this]; simp [hi]
theorem OwnS.alloc {w : World} {B : Nat} {E : TypeId} {v : Value} {l : List ByteArray} (h : OwnS w B E v l) (o : Obj) : OwnS (w.alloc o) B E v l := World.ownsRow.alloc h o
theorem OwnS.below {w w' : World} {B K : Nat} {E : TypeId} {v : Value} {l : List ByteArray} (h : OwnS w B E v l) (hb : Below K w w') (hK : w.heap.size ≤ K) : OwnS w' B E v l := by
  refine ⟨h.1, ?_⟩
  rcases h.2 with hn | ⟨g, cap, cur, rfl, hg, hh, rest⟩
  · exact .inl hn
  · exact .inr ⟨g, cap, cur, rfl, hg, by rw [hb.block g (by have := (Array.getElem?_eq_some_iff.1 hh).1; omega)]; exact hh, rest⟩
theorem ReadS.below {w w' : World} {K : Nat} {v : Value} {l : List ByteArray} (h : ReadS w v l) (hb : Below K w w') (hK : w.heap.size ≤ K) : ReadS w' v l := by
  obtain ⟨a, c, rfl, hc⟩ := h
  refine ⟨a, c, rfl, fun h0 => ?_⟩
  obtain ⟨g, o, rfl, hcell⟩ := hc h0
  refine ⟨g, o, rfl, fun i hi => ?_⟩
  have := World.block_lt_of_cell? w _ (hcell i hi)
  rw [hb.cell (by simp at this ⊢; omega)]
  exact hcell i hi
theorem ReadS.built (w : World) (E : TypeId) (l : List ByteArray) (c : Nat) : ReadS (w.alloc (.cells (l.map Value.string).toArray E)) (.slice (some ⟨w.heap.size, 0, none⟩) l.length c) l := by
  refine ⟨_, c, rfl, fun _ => ⟨_, 0, rfl, fun i hi => ?_⟩⟩
  have : (w.alloc (.cells (l.map Value.string).toArray E)).heap[w.heap.size]? = some (.cells (l.map Value.string).toArray E) := heap_alloc_new w _
  simp only [World.cell?, this]; simp [hi]
theorem Below.step {B : Nat} {a w w' : World} (h : Below B a w) (hB : B ≤ w.heap.size) (k : Below w.heap.size w w') : Below B a w' := h.trans (k.mono hB)
def sameB (l m : List ByteArray) : Bool := l.map (·.toList) == m.map (·.toList)
/-- The call hands back a slice of its own with these strings. -/
def RetW (w : World) (E : TypeId) (ls : List (List UInt8)) (e : Ending) (w' : World) : Prop :=
  ∃ (v : Value) (l : List ByteArray), e = .returned v ∧ Hid (l.map (·.toList) = ls) ∧ OwnS w' w.heap.size E v l ∧ Below w.heap.size w w'

/-- Block g is a row that '[]byte(s)' has made: its first bytes. -/
def RowB (w : World) (g : Nat) (E : TypeId) (l : List UInt8) : Prop :=
  ∃ (cur : Array Value) (m : Nat), w.heap[g]? = some (.cells cur E (m, m + 1)) ∧ l.length ≤ m ∧ cur.toList.take l.length = l.map byteV
theorem RowB.made (w : World) (E : TypeId) (s : ByteArray) : RowB (Lib.bytesWorld w E s) w.heap.size E s.toList := by
  refine ⟨_, _, Lib.bytesWorld_at_new w E s, ?_, ?_⟩
  · rw [ByteArray.toList_eq]; simp only [Lib.bytesCells, Array.length_toList, Array.size_append, Array.size_map]; omega
  · rw [ByteArray.toList_eq]
    simp only [Lib.bytesCells, Array.toList_append, Array.toList_map]
    rw [List.take_append_of_le_length (by simp), List.take_of_length_le (by simp)]
    rfl
theorem Below.bytesWorld {B : Nat} {a w : World} (h : Below B a w) (hB : B ≤ w.heap.size) (E : TypeId) (s : ByteArray) : Below B a (Lib.bytesWorld w E s) := by
  refine h.trans ⟨?_, ?_, ?_, by rw [Lib.bytesWorld_size]; omega, fun k hk => Lib.bytesWorld_at_old w E s k (by omega)⟩
  all_goals (unfold Lib.bytesWorld World.freeze; split <;> rfl)
theorem RowB.cell {w : World} {g : Nat} {E : TypeId} {l : List UInt8} (h : RowB w g E l) (j : Nat) (hj : j < l.length) : w.cell? ⟨g, j, none⟩ = some (byteV l[j]) := by
  obtain ⟨cur, m, hh, _, ht⟩ := h
  have : cur.toList[j]? = some (byteV l[j]) := by
    have h1 : (cur.toList.take l.length)[j]? = (l.map byteV)[j]? := by rw [ht]
    rw [List.getElem?_take, if_pos hj] at h1
    rw [h1]; simp [hj]
  simpa [World.cell?, hh] using this
theorem RowB.free {w : World} {g : Nat} {E : TypeId} {l : List UInt8} (h : RowB w g E l) (j : Nat) (hj : j < l.length) : w.frozen? ⟨g, j, none⟩ = false := by
  obtain ⟨cur, m, hh, hm, _⟩ := h
  simp [World.frozen?, hh]; omega
theorem RowB.set {w : World} {g : Nat} {E : TypeId} {l : List UInt8} (h : RowB w g E l) (j : Nat) (hj : j < l.length) (c : UInt8) : RowB (w.setCell ⟨g, j, none⟩ (byteV c)) g E (l.set j c) := by
  obtain ⟨cur, m, hh, hm, ht⟩ := h
  refine ⟨cur.setIfInBounds j (byteV c), m, ?_, by simpa using hm, ?_⟩
  · simp only [World.setCell, Array.getElem?_modify, if_true, hh]; rfl
  · simp only [List.length_set, Array.toList_setIfInBounds, List.map_set]
    rw [← ht, List.take_set]
theorem conv_row {P : Program} {T E S : TypeId} (hT : P.underlying T = some (.slice E)) (hE : P.underlying E = some (.int .u8)) (hS : P.underlying S = some .string)
    {w : World} {g : Nat} {l : List UInt8} (h : RowB w g E l) (n cap : Nat) (hn : n = l.length) :
    (convert T S (.slice (some ⟨g, 0, none⟩) n cap)).run P w = .ok (.string ⟨l.toArray⟩) w := by
  subst hn
  have hx : ((l.map fun c => (c.toNat : Int)).map fun n => UInt8.ofNat n.toNat) = l := by
    rw [List.map_map]; conv => rhs; rw [← List.map_id l]
    apply List.map_congr_left; intro c _; simp
  have := run_convert_bytes_arg (P := P) (w := w) T E hT hE g 0 l.length cap (l.map fun c => (c.toNat : Int)) (by simp) (fun i hi => by
    rw [Nat.zero_add, h.cell i hi]
    simp [byteV, List.getD, hi]) S hS
  rw [this]; unfold strOfNums; rw [hx]

/-- 'string(b)' of bytes that the call owns. -/
theorem conv_own {P : Program} {T E S : TypeId} (hT : P.underlying T = some (.slice E)) (hE : P.underlying E = some (.int .u8)) (hS : P.underlying S = some .string)
    {w : World} {B : Nat} {v : Value} {l : List UInt8} (hown : OwnB w B E v l) :
    (convert T S v).run P w = .ok (.string ⟨l.toArray⟩) w := by
  rcases hown.2 with ⟨rfl, hn⟩ | ⟨g, cap, cur, rfl, hg, hh, hcap, hml, hcs, hcur⟩
  · have : l = [] := List.eq_nil_of_length_eq_zero hn
    subst this
    exact run_convert_bytes_nil w T E hT hE 0 0 S hS
  · have hx : ((l.map fun c => (c.toNat : Int)).map fun n => UInt8.ofNat n.toNat) = l := by
      rw [List.map_map]; conv => rhs; rw [← List.map_id l]
      apply List.map_congr_left; intro c _; simp
    have := run_convert_bytes_arg (P := P) (w := w) T E hT hE g 0 l.length cap (l.map fun c => (c.toNat : Int)) (by simp) (fun i hi => by
      rw [Nat.zero_add, hown.cellAt i (by omega)]
      simp [byteV, List.getD, hi]) S hS
    rw [this]; unfold strOfNums; rw [hx]

/-- A guarded operation whose guard says yes is carried out as an unguarded one. -/
theorem wpList_unguard {P : Program} {ops : Array Oper} {rest : List Oper} {o : Oper} {a : Act} {w : World} {Q : Exit → Act → World → Prop} (hw : Region.wanted o (yielded ops a.tmps) = true)
    (h : wpList P ops Q ({ o with guard := none } :: rest) a w) : wpList P ops Q (o :: rest) a w := by
  unfold wpList at h ⊢
  rw [if_pos hw]
  rw [if_pos (by simp [Region.wanted])] at h
  exact h
/-- 's = append(s, x...)', s the call's own strings, x somebody's own strings, or nil. -/
theorem wpList_extendS {P : Program} {T E : TypeId} {z : Value} {b : Nat} (ty : ElemTy P T E z b) {ops : Array Oper} {rest : List Oper} {o : Oper} {a : Act} {Q : Exit → Act → World → Prop}
    (hgd : o.guard = none) (s x : Operand) (ho : o.op = .call { callee := .builtin .append, args := #[s, x], argTypes := #[T, T] })
    {W0 w0 : World} {B B2 : Nat} {v u : Value} {l m : List ByteArray} (hs : a.eval s = v) (hx : a.eval x = u)
    (hown : OwnS w0 B E v l) (hsrc : OwnS w0 B2 E u m) (hbel : Below B W0 w0) (hB : B ≤ w0.heap.size) (h63 : l.length + m.length ≤ maxLen) (hsz : (l.length + m.length) * b ≤ 140737488355328)
    (h : ∀ v' w', OwnS w' B E v' (l ++ m) → Below B W0 w' → wpList P ops Q rest (a.put o.dst v') w') : wpList P ops Q (o :: rest) a w0 := by
  obtain ⟨i, hi, hz, hs1, hb1⟩ := ty.i
  rcases hsrc.2 with ⟨hu, hn⟩ | ⟨g, cap, cur, hu, hg, hh, hcap, hml, hcs, hcur⟩
  · have hm : m = [] := List.eq_nil_of_length_eq_zero hn
    refine wpList_append_own_none hgd s x T ho B E i 1 ty.u hi v l.length _ hs hown (hx.trans hu) ?_
    refine h v w0 ?_ hbel
    rw [hm, List.append_nil]; exact hown
  · refine wpList_append_own w0 hgd s x T ho B E i z 1 b ty.u hi hz hs1 hb1 ty.z (by decide) v l.length _ hs hown ⟨g, 0, none⟩ m.length cap (m.map Value.string) (hx.trans hu) (by simp)
      (fun j y hj => World.ownsRow.cells hsrc (by rw [hu]; rfl) j y hj) (by intro y hy; obtain ⟨t, _, rfl⟩ := List.mem_map.1 hy; rfl) h63 hsz hB ?_
    intro v' w' hown' hgrow _
    refine h v' w' ?_ (hbel.grown hgrow hB (fun k hk => (hown.lt k hk).1))
    simpa [OwnS] using hown'
theorem OwnS.made {P : Program} (w : World) (E : TypeId) : OwnS (w.alloc (.cells #[] E)) w.heap.size E (.slice (some ⟨w.heap.size, 0, none⟩) 0 0) [] :=
  World.ownsRow_made w #[] 0 (Nat.le_refl _) (by unfold maxLen; omega) rfl
theorem cell_row1 (w : World) (v : Value) (E : TypeId) : ∀ i, i < 1 → (w.alloc (.cells #[v] E)).cell? ⟨w.heap.size, 0 + i, none⟩ = some v := by
  intro i hi
  obtain rfl : i = 0 := by omega
  exact cell_box w v E 0 v rfl
/-- 'string([]byte of one byte)'. -/
theorem conv_one {P : Program} {T E S : TypeId} (hT : P.underlying T = some (.slice E)) (hE : P.underlying E = some (.int .u8)) (hS : P.underlying S = some .string) (c : UInt8) :
    ∃ s : ByteArray, Hid (s.toList = [c]) ∧ s.size ≤ 1 ∧ ∀ w : World, (convert T S (.slice (some ⟨w.heap.size, 0, none⟩) 1 1)).run P (w.alloc (.cells #[.int .u8 (c.toNat : Int)] E)) = .ok (.string s) (w.alloc (.cells #[.int .u8 (c.toNat : Int)] E)) := by
  refine ⟨⟨[c].toArray⟩, Lib.hid (toList_mk _), Nat.le_refl _, fun w => ?_⟩
  have := run_convert_bytes_arg (P := P) (w := w.alloc (.cells #[.int .u8 (c.toNat : Int)] E)) T E hT hE w.heap.size 0 1 1 [(c.toNat : Int)] rfl (fun i hi => by
    rw [cell_row1 w _ E i hi]; obtain rfl : i = 0 := by omega
    rfl) S hS
  rw [this]; unfold strOfNums; simp

theorem _root_.Go.RowKit.Below.next {a w w' : World} (h : Below a.heap.size a w) (k : Below w.heap.size w w') : Below a.heap.size a w' := h.trans (k.mono h.size)
@[go_sem] theorem alloc_drewN (w : World) (n : Nat) (o : Obj) : (w.drewN n).alloc o = (w.alloc o).drewN n := rfl
@[go_sem] theorem setCell_drewN (w : World) (n : Nat) (a : Addr) (v : Value) : (w.drewN n).setCell a v = (w.setCell a v).drewN n := rfl
/-- The world with more blocks behind its own, and so many draws. -/
def extW (w : World) (E : Array Obj) (d : Nat) : World := { w with heap := w.heap ++ E, drawn := d }
theorem _root_.Go.RowKit.Below.ext {w w' : World} (h : Below w.heap.size w w') : ∃ E d, w' = extW w E d := by
  refine ⟨w'.heap.extract w.heap.size w'.heap.size, w'.drawn, ?_⟩
  obtain ⟨h1, h2, h3, h4, h5⟩ := h
  have hh : w'.heap = w.heap ++ w'.heap.extract w.heap.size w'.heap.size := by
    apply Array.ext_getElem?
    intro k
    rw [Array.getElem?_append, Array.getElem?_extract, Nat.min_self]
    by_cases hk : k < w.heap.size
    · rw [if_pos hk, h5 k hk]
    · rw [if_neg hk]
      by_cases hk2 : k < w'.heap.size
      · rw [if_pos (by omega)]; congr 1; omega
      · rw [if_neg (by omega), Array.getElem?_eq_none (by omega)]
  unfold extW
  rw [← hh]
  cases w; cases w'
  simp only at h1 h2 h3
  subst h1 h2 h3
  rfl
@[simp, go_sem] theorem ext_size (w : World) (E : Array Obj) (d : Nat) : (extW w E d).heap.size = w.heap.size + E.size := by simp [extW]
theorem ext_block (w : World) (E : Array Obj) (d k : Nat) (h : k < w.heap.size) : (extW w E d).heap[k]? = w.heap[k]? := by
  simp only [extW]; rw [Array.getElem?_append, if_pos h]
theorem below_ext (w : World) (E : Array Obj) (d : Nat) : Below w.heap.size w (extW w E d) := ⟨rfl, rfl, rfl, by simp, fun k h => ext_block w E d k h⟩
theorem _root_.Go.RowKit.Below.toExt {B : Nat} {a w : World} (h : Below B a w) (hB : B ≤ w.heap.size) (E : Array Obj) (d : Nat) : Below B a (extW w E d) := h.trans ((below_ext w E d).mono hB)
@[go_sem] theorem ext_cell (w : World) (E : Array Obj) (d n i : Nat) (h : n < w.heap.size) : (extW w E d).cell? ⟨n, i, none⟩ = w.cell? ⟨n, i, none⟩ := (below_ext w E d).cell (p := ⟨n, i, none⟩) h
@[go_sem] theorem ext_frozen (w : World) (E : Array Obj) (d n i : Nat) (h : n < w.heap.size) : (extW w E d).frozen? ⟨n, i, none⟩ = w.frozen? ⟨n, i, none⟩ := (below_ext w E d).frozen (p := ⟨n, i, none⟩) h
@[go_sem] theorem ext_set (w : World) (E : Array Obj) (d n i : Nat) (v : Value) (h : n < w.heap.size) : (extW w E d).setCell ⟨n, i, none⟩ v = extW (w.setCell ⟨n, i, none⟩ v) E d := by
  simp only [World.setCell, extW]
  congr 1
  apply Array.ext_getElem?
  intro k
  simp only [Array.getElem?_modify, Array.getElem?_append, Array.size_modify]
  by_cases hk : n = k
  · subst hk; simp [h]
  · simp [hk]
@[go_sem] theorem ext_drewN (w : World) (E : Array Obj) (d n : Nat) : (extW w E d).drewN n = extW w E (d + n) := rfl
@[go_sem] theorem ext_drew (w : World) (E : Array Obj) (d : Nat) : (extW w E d).drew = extW w E (d + 1) := rfl
@[go_sem] theorem ext_of_drewN (w : World) (E : Array Obj) (d n : Nat) : extW (w.drewN n) E d = extW w E d := rfl
@[go_sem] theorem ext_of_drew (w : World) (E : Array Obj) (d : Nat) : extW w.drew E d = extW w E d := rfl
@[simp, go_sem] theorem ext_tape (w : World) (E : Array Obj) (d : Nat) : (extW w E d).tape = w.tape := rfl
@[go_sem] theorem grow_a0 (a n : Nat) (h : 0 < n) : a < a + n := by omega
@[go_sem] theorem grow_b0 (a m n : Nat) (h : m < n) : a + m < a + n := by omega
@[go_sem] theorem grow_c0 (a n : Nat) : a ≤ a + n := by omega
@[go_sem] theorem grow_d0 (a m n : Nat) (h : m ≤ n) : a + m ≤ a + n := by omega
@[go_sem] theorem grow_a1 (a n : Nat) (b0 : Nat) (h : 0 < n) : a < a + n + b0 := by omega
@[go_sem] theorem grow_b1 (a m n : Nat) (b0 : Nat) (h : m < n) : a + m < a + n + b0 := by omega
@[go_sem] theorem grow_c1 (a n : Nat) (b0 : Nat) : a ≤ a + n + b0 := by omega
@[go_sem] theorem grow_d1 (a m n : Nat) (b0 : Nat) (h : m ≤ n) : a + m ≤ a + n + b0 := by omega
@[go_sem] theorem grow_a2 (a n : Nat) (b0 b1 : Nat) (h : 0 < n) : a < a + n + b0 + b1 := by omega
@[go_sem] theorem grow_b2 (a m n : Nat) (b0 b1 : Nat) (h : m < n) : a + m < a + n + b0 + b1 := by omega
@[go_sem] theorem grow_c2 (a n : Nat) (b0 b1 : Nat) : a ≤ a + n + b0 + b1 := by omega
@[go_sem] theorem grow_d2 (a m n : Nat) (b0 b1 : Nat) (h : m ≤ n) : a + m ≤ a + n + b0 + b1 := by omega
@[go_sem] theorem grow_a3 (a n : Nat) (b0 b1 b2 : Nat) (h : 0 < n) : a < a + n + b0 + b1 + b2 := by omega
@[go_sem] theorem grow_b3 (a m n : Nat) (b0 b1 b2 : Nat) (h : m < n) : a + m < a + n + b0 + b1 + b2 := by omega
@[go_sem] theorem grow_c3 (a n : Nat) (b0 b1 b2 : Nat) : a ≤ a + n + b0 + b1 + b2 := by omega
@[go_sem] theorem grow_d3 (a m n : Nat) (b0 b1 b2 : Nat) (h : m ≤ n) : a + m ≤ a + n + b0 + b1 + b2 := by omega
@[go_sem] theorem grow_a4 (a n : Nat) (b0 b1 b2 b3 : Nat) (h : 0 < n) : a < a + n + b0 + b1 + b2 + b3 := by omega
@[go_sem] theorem grow_b4 (a m n : Nat) (b0 b1 b2 b3 : Nat) (h : m < n) : a + m < a + n + b0 + b1 + b2 + b3 := by omega
@[go_sem] theorem grow_c4 (a n : Nat) (b0 b1 b2 b3 : Nat) : a ≤ a + n + b0 + b1 + b2 + b3 := by omega
@[go_sem] theorem grow_d4 (a m n : Nat) (b0 b1 b2 b3 : Nat) (h : m ≤ n) : a + m ≤ a + n + b0 + b1 + b2 + b3 := by omega
@[go_sem] theorem grow_a5 (a n : Nat) (b0 b1 b2 b3 b4 : Nat) (h : 0 < n) : a < a + n + b0 + b1 + b2 + b3 + b4 := by omega
@[go_sem] theorem grow_b5 (a m n : Nat) (b0 b1 b2 b3 b4 : Nat) (h : m < n) : a + m < a + n + b0 + b1 + b2 + b3 + b4 := by omega
@[go_sem] theorem grow_c5 (a n : Nat) (b0 b1 b2 b3 b4 : Nat) : a ≤ a + n + b0 + b1 + b2 + b3 + b4 := by omega
@[go_sem] theorem grow_d5 (a m n : Nat) (b0 b1 b2 b3 b4 : Nat) (h : m ≤ n) : a + m ≤ a + n + b0 + b1 + b2 + b3 + b4 := by omega
@[go_sem] theorem grow_a6 (a n : Nat) (b0 b1 b2 b3 b4 b5 : Nat) (h : 0 < n) : a < a + n + b0 + b1 + b2 + b3 + b4 + b5 := by omega
@[go_sem] theorem grow_b6 (a m n : Nat) (b0 b1 b2 b3 b4 b5 : Nat) (h : m < n) : a + m < a + n + b0 + b1 + b2 + b3 + b4 + b5 := by omega
@[go_sem] theorem grow_c6 (a n : Nat) (b0 b1 b2 b3 b4 b5 : Nat) : a ≤ a + n + b0 + b1 + b2 + b3 + b4 + b5 := by omega
@[go_sem] theorem grow_d6 (a m n : Nat) (b0 b1 b2 b3 b4 b5 : Nat) (h : m ≤ n) : a + m ≤ a + n + b0 + b1 + b2 + b3 + b4 + b5 := by omega
@[go_sem] theorem grow_a7 (a n : Nat) (b0 b1 b2 b3 b4 b5 b6 : Nat) (h : 0 < n) : a < a + n + b0 + b1 + b2 + b3 + b4 + b5 + b6 := by omega
@[go_sem] theorem grow_b7 (a m n : Nat) (b0 b1 b2 b3 b4 b5 b6 : Nat) (h : m < n) : a + m < a + n + b0 + b1 + b2 + b3 + b4 + b5 + b6 := by omega
@[go_sem] theorem grow_c7 (a n : Nat) (b0 b1 b2 b3 b4 b5 b6 : Nat) : a ≤ a + n + b0 + b1 + b2 + b3 + b4 + b5 + b6 := by omega
@[go_sem] theorem grow_d7 (a m n : Nat) (b0 b1 b2 b3 b4 b5 b6 : Nat) (h : m ≤ n) : a + m ≤ a + n + b0 + b1 + b2 + b3 + b4 + b5 + b6 := by omega
@[go_sem] theorem grow_a8 (a n : Nat) (b0 b1 b2 b3 b4 b5 b6 b7 : Nat) (h : 0 < n) : a < a + n + b0 + b1 + b2 + b3 + b4 + b5 + b6 + b7 := by omega
@[go_sem] theorem grow_b8 (a m n : Nat) (b0 b1 b2 b3 b4 b5 b6 b7 : Nat) (h : m < n) : a + m < a + n + b0 + b1 + b2 + b3 + b4 + b5 + b6 + b7 := by omega
@[go_sem] theorem grow_c8 (a n : Nat) (b0 b1 b2 b3 b4 b5 b6 b7 : Nat) : a ≤ a + n + b0 + b1 + b2 + b3 + b4 + b5 + b6 + b7 := by omega
@[go_sem] theorem grow_d8 (a m n : Nat) (b0 b1 b2 b3 b4 b5 b6 b7 : Nat) (h : m ≤ n) : a + m ≤ a + n + b0 + b1 + b2 + b3 + b4 + b5 + b6 + b7 := by omega
@[go_sem] theorem grow_a9 (a n : Nat) (b0 b1 b2 b3 b4 b5 b6 b7 b8 : Nat) (h : 0 < n) : a < a + n + b0 + b1 + b2 + b3 + b4 + b5 + b6 + b7 + b8 := by omega
@[go_sem] theorem grow_b9 (a m n : Nat) (b0 b1 b2 b3 b4 b5 b6 b7 b8 : Nat) (h : m < n) : a + m < a + n + b0 + b1 + b2 + b3 + b4 + b5 + b6 + b7 + b8 := by omega
@[go_sem] theorem grow_c9 (a n : Nat) (b0 b1 b2 b3 b4 b5 b6 b7 b8 : Nat) : a ≤ a + n + b0 + b1 + b2 + b3 + b4 + b5 + b6 + b7 + b8 := by omega
@[go_sem] theorem grow_d9 (a m n : Nat) (b0 b1 b2 b3 b4 b5 b6 b7 b8 : Nat) (h : m ≤ n) : a + m ≤ a + n + b0 + b1 + b2 + b3 + b4 + b5 + b6 + b7 + b8 := by omega
@[go_sem] theorem grow_a10 (a n : Nat) (b0 b1 b2 b3 b4 b5 b6 b7 b8 b9 : Nat) (h : 0 < n) : a < a + n + b0 + b1 + b2 + b3 + b4 + b5 + b6 + b7 + b8 + b9 := by omega
@[go_sem] theorem grow_b10 (a m n : Nat) (b0 b1 b2 b3 b4 b5 b6 b7 b8 b9 : Nat) (h : m < n) : a + m < a + n + b0 + b1 + b2 + b3 + b4 + b5 + b6 + b7 + b8 + b9 := by omega
@[go_sem] theorem grow_c10 (a n : Nat) (b0 b1 b2 b3 b4 b5 b6 b7 b8 b9 : Nat) : a ≤ a + n + b0 + b1 + b2 + b3 + b4 + b5 + b6 + b7 + b8 + b9 := by omega
@[go_sem] theorem grow_d10 (a m n : Nat) (b0 b1 b2 b3 b4 b5 b6 b7 b8 b9 : Nat) (h : m ≤ n) : a + m ≤ a + n + b0 + b1 + b2 + b3 + b4 + b5 + b6 + b7 + b8 + b9 := by omega
@[go_sem] theorem grow_a11 (a n : Nat) (b0 b1 b2 b3 b4 b5 b6 b7 b8 b9 b10 : Nat) (h : 0 < n) : a < a + n + b0 + b1 + b2 + b3 + b4 + b5 + b6 + b7 + b8 + b9 + b10 := by omega
@[go_sem] theorem grow_b11 (a m n : Nat) (b0 b1 b2 b3 b4 b5 b6 b7 b8 b9 b10 : Nat) (h : m < n) : a + m < a + n + b0 + b1 + b2 + b3 + b4 + b5 + b6 + b7 + b8 + b9 + b10 := by omega
@[go_sem] theorem grow_c11 (a n : Nat) (b0 b1 b2 b3 b4 b5 b6 b7 b8 b9 b10 : Nat) : a ≤ a + n + b0 + b1 + b2 + b3 + b4 + b5 + b6 + b7 + b8 + b9 + b10 := by omega
@[go_sem] theorem grow_d11 (a m n : Nat) (b0 b1 b2 b3 b4 b5 b6 b7 b8 b9 b10 : Nat) (h : m ≤ n) : a + m ≤ a + n + b0 + b1 + b2 + b3 + b4 + b5 + b6 + b7 + b8 + b9 + b10 := by omega
@[go_sem] theorem grow_a12 (a n : Nat) (b0 b1 b2 b3 b4 b5 b6 b7 b8 b9 b10 b11 : Nat) (h : 0 < n) : a < a + n + b0 + b1 + b2 + b3 + b4 + b5 + b6 + b7 + b8 + b9 + b10 + b11 := by omega
@[go_sem] theorem grow_b12 (a m n : Nat) (b0 b1 b2 b3 b4 b5 b6 b7 b8 b9 b10 b11 : Nat) (h : m < n) : a + m < a + n + b0 + b1 + b2 + b3 + b4 + b5 + b6 + b7 + b8 + b9 + b10 + b11 := by omega
@[go_sem] theorem grow_c12 (a n : Nat) (b0 b1 b2 b3 b4 b5 b6 b7 b8 b9 b10 b11 : Nat) : a ≤ a + n + b0 + b1 + b2 + b3 + b4 + b5 + b6 + b7 + b8 + b9 + b10 + b11 := by omega
@[go_sem] theorem grow_d12 (a m n : Nat) (b0 b1 b2 b3 b4 b5 b6 b7 b8 b9 b10 b11 : Nat) (h : m ≤ n) : a + m ≤ a + n + b0 + b1 + b2 + b3 + b4 + b5 + b6 + b7 + b8 + b9 + b10 + b11 := by omega
@[go_sem] theorem grow_a13 (a n : Nat) (b0 b1 b2 b3 b4 b5 b6 b7 b8 b9 b10 b11 b12 : Nat) (h : 0 < n) : a < a + n + b0 + b1 + b2 + b3 + b4 + b5 + b6 + b7 + b8 + b9 + b10 + b11 + b12 := by omega
@[go_sem] theorem grow_b13 (a m n : Nat) (b0 b1 b2 b3 b4 b5 b6 b7 b8 b9 b10 b11 b12 : Nat) (h : m < n) : a + m < a + n + b0 + b1 + b2 + b3 + b4 + b5 + b6 + b7 + b8 + b9 + b10 + b11 + b12 := by omega
@[go_sem] theorem grow_c13 (a n : Nat) (b0 b1 b2 b3 b4 b5 b6 b7 b8 b9 b10 b11 b12 : Nat) : a ≤ a + n + b0 + b1 + b2 + b3 + b4 + b5 + b6 + b7 + b8 + b9 + b10 + b11 + b12 := by omega
@[go_sem] theorem grow_d13 (a m n : Nat) (b0 b1 b2 b3 b4 b5 b6 b7 b8 b9 b10 b11 b12 : Nat) (h : m ≤ n) : a + m ≤ a + n + b0 + b1 + b2 + b3 + b4 + b5 + b6 + b7 + b8 + b9 + b10 + b11 + b12 := by omega
@[go_sem] theorem grow_a14 (a n : Nat) (b0 b1 b2 b3 b4 b5 b6 b7 b8 b9 b10 b11 b12 b13 : Nat) (h : 0 < n) : a < a + n + b0 + b1 + b2 + b3 + b4 + b5 + b6 + b7 + b8 + b9 + b10 + b11 + b12 + b13 := by omega
@[go_sem] theorem grow_b14 (a m n : Nat) (b0 b1 b2 b3 b4 b5 b6 b7 b8 b9 b10 b11 b12 b13 : Nat) (h : m < n) : a + m < a + n + b0 + b1 + b2 + b3 + b4 + b5 + b6 + b7 + b8 + b9 + b10 + b11 + b12 + b13 := by omega
@[go_sem] theorem grow_c14 (a n : Nat) (b0 b1 b2 b3 b4 b5 b6 b7 b8 b9 b10 b11 b12 b13 : Nat) : a ≤ a + n + b0 + b1 + b2 + b3 + b4 + b5 + b6 + b7 + b8 + b9 + b10 + b11 + b12 + b13 := by omega
@[go_sem] theorem grow_d14 (a m n : Nat) (b0 b1 b2 b3 b4 b5 b6 b7 b8 b9 b10 b11 b12 b13 : Nat) (h : m ≤ n) : a + m ≤ a + n + b0 + b1 + b2 + b3 + b4 + b5 + b6 + b7 + b8 + b9 + b10 + b11 + b12 + b13 := by omega
end Go.Proofs.YtbejimncmfeggaaDoor
