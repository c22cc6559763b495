/- Part 2: lemmas. -/
import Derived.Test.YtonomfeipkdmhaaGreatDoorL01
import Derived.Deep.WholeRow
import Derived.Great.BuildSlice
set_option linter.unusedVariables false
set_option linter.unusedSimpArgs false
set_option maxRecDepth 100000
set_option maxHeartbeats 16000000
namespace Go.Proofs.YtonomfeipkdmhaaGreatDoor
open Go.RowKit
structure F9 (w:World) (pa:Option Addr) (n c:Nat) (l:List UInt8):Prop where
 len:l.length=n
 cap:n<=c
 cells:0<n->∃ g o,pa=some ⟨g,o,none⟩/\∀ i (h:i<l.length),w.cell? ⟨g,o+i,none⟩=some (Dy l[i])
theorem F9.below {w w':World} {K:Nat} {pa:Option Addr} {n c:Nat} {l:List UInt8} (h:F9 w pa n c l) (hb:Below K w w') (hK:w.heap.size<=K):F9 w' pa n c l:=by
 refine ⟨h.len,h.cap,fun h0=> ?_⟩
 obtain ⟨g,o,e,hc⟩:=h.cells h0
 refine ⟨g,o,e,fun i hi=> ?_⟩
 have:=World.block_lt_of_cell? w _ (hc i hi);rw [hb.cell Aka];exact hc i hi
theorem Rz:Tryz.prog.underlying 25=some (.slice (Tryz.prog.elem 25)):=Qb
theorem FC (w:World):(sizeOf (Tryz.prog.elem 25)).run Tryz.prog w= .ok 1 w:=Qb
theorem F9.drop {w:World} {pa:Option Addr} {n c:Nat} {l:List UInt8} (h:F9 w pa n c l) (k:Nat) (hk:k<=n):
  ∃ pa',(∀ w0,(Instr.slice 25 (.slice pa n c) (some (.int .i64 (k:Int))) none none).run Tryz.prog w0= .ok (.slice pa' (n - k) (c - k)) w0)/\F9 w pa' (n - k) (c - k) (l.drop k):=by
 refine ⟨if c=k then pa else pa.map (·.add (k * 1)),fun w0=> ?_,?_⟩
 ·rw [run_slice_l w0 _ pa n c Rz .i64 (k:Int) Qa Qa,FC];rfl
 ·have hcp:=h.cap
  refine ⟨by rw [List.length_drop,h.len],Qa,fun h0=> ?_⟩
  obtain ⟨g,o,e,hc⟩:=h.cells Qa;rw [if_neg Qa,e]
  refine ⟨g,o+k,by simp [Addr.add],fun i hi=> ?_⟩
  rw [List.length_drop] at hi;have:=hc (k+i) Qa;rw [Nat.add_assoc,this,List.getElem_drop]
theorem F9.take {w:World} {pa:Option Addr} {n c:Nat} {l:List UInt8} (h:F9 w pa n c l) (k:Nat) (hk:k<=n):
  ∃ pa',(∀ w0,(Instr.slice 25 (.slice pa n c) none (some (.int .i64 (k:Int))) none).run Tryz.prog w0= .ok (.slice pa' k c) w0)/\F9 w pa' k c (l.take k):=by
 have hcp:=h.cap
 refine ⟨if c=0 then pa else pa.map (·.add (0 * 1)),fun w0=> ?_,?_⟩
 ·rw [run_slice_h w0 _ pa n c Rz .i64 (k:Int) Qa Qa,FC];rfl
 ·refine ⟨by rw [List.length_take,h.len];omega,Qa,fun h0=> ?_⟩
  obtain ⟨g,o,e,hc⟩:=h.cells Qa;rw [if_neg Qa,e]
  refine ⟨g,o,by simp [Addr.add],fun i hi=> ?_⟩
  rw [List.length_take] at hi;rw [hc i Qa,List.getElem_take]
theorem Aak (s:ByteArray) (w:World):∃ (pa:Option Addr) (n c:Nat) (w':World),(convert 9 25 (.string s)).run Tryz.prog w= .ok (.slice pa n c) w'/\F9 w' pa n c s.toList/\Below w.heap.size w w':=by
 have h:=Lib.run_convert_string_bytes (P:=Tryz.prog) w 9 25 5 s Tryz.underlying9 Tryz.underlying25 Tryz.underlying5
 refine ⟨_,_,_,_,h,⟨Aa s,grownCap_ge w s.size 0 _,fun _=>⟨w.heap.size,0,rfl,fun i hi=> ?_⟩⟩,Below.bytesWorld (Below.refl _ _) (Nat.le_refl _) _ s⟩
 rw [Nat.zero_add];exact (L7.made w _ s).cell i hi
def Aba (l:List UInt8) (w:World) (e:Ending) (w':World):Prop:=∃ t:ByteArray,e= .returned (.string t)/\Hid (t.toList=l)/\w=w'
theorem Jp (c:Nat) (hc:c<=2147483647) (w:World):Calls Tryz.prog 49 #[.int .i64 (c:Int)] w (Aba (Bv c) w):=by
 have h0:(0:Int)<=(c:Int):=Qa
 have hw:IntKind.i32.wrap (c:Int)=(c:Int):=by rw [IntKind.wrap_i32];omega
 have henc:∀ w,(convert 21 9 (.int .i32 (c:Int))).run Tryz.prog w= .ok (.string (Utf8.encode (c:Int))) w:=fun w=>run_convert_int_string w _ _ _ (c:Int) (by rw [Tryz.underlying21];rfl) Tryz.underlying9
 have hway:((1114111:Int)<(c:Int)/\Hid (Bv c=FM))\/((c:Int)<=1114111/\(c:Int)<55296/\Hid (Bv c=PW (c:Int)))\/((c:Int)<=1114111/\(55296:Int)<=(c:Int)/\(c:Int)<=57343/\Hid (Bv c=FM))\/((c:Int)<=1114111/\(55296:Int)<=(c:Int)/\(57343:Int)<(c:Int)/\Hid (Bv c=PW (c:Int))):=by
  unfold Bv
  by_cases h1:1114111<c
  ·exact .inl ⟨Qa,H0 (by rw [if_pos (.inl h1)])⟩
  ·by_cases h2:c<55296
   ·exact .inr (.inl ⟨Qa,Qa,H0 Akf⟩)
   ·by_cases h3:c<=57343
    ·exact .inr (.inr (.inl ⟨Qa,Qa,Qa,H0 (by rw [if_pos (.inr ⟨Qa,h3⟩)])⟩))
    ·exact .inr (.inr (.inr ⟨Qa,Qa,Qa,H0 Akf⟩))
 generalize (c:Int)=z at *;go_enter Tryz.func49,Tryz.ntmps49
 rcases hway with ⟨q1,hv⟩ | ⟨q1,q2,hv⟩ | ⟨q1,q2,q3,hv⟩ | ⟨q1,q2,q3,hv⟩
 ·go_wp2_with fail;go_ret
  exact ⟨_,rfl,H0 (by rw [hv.out];exact toList_mk _),rfl⟩
 ·go_wp2_with fail;go_ret
  exact ⟨_,rfl,H0 (by rw [hv.out];exact ByteArray.toList_eq ..),rfl⟩
 ·go_wp2_with fail;go_ret
  exact ⟨_,rfl,H0 (by rw [hv.out];exact toList_mk _),rfl⟩
 ·go_wp2_with fail;go_ret
  exact ⟨_,rfl,H0 (by rw [hv.out];exact ByteArray.toList_eq ..),rfl⟩
def Y8 (c:Nat) (w:World) (e:Ending) (w':World):Prop:=e= .returned (.tuple #[.int .u8 ((Bc c).1:Int),.int .u8 ((Bc c).2.1:Int),.int .i64 ((Bc c).2.2:Int)])/\w=w'
theorem AaT (c:Nat) (hc:c<256) (w:World):Calls Tryz.prog 169 #[.int .u8 (c:Int)] w (Y8 c w):=by
 unfold Y8
 have eqf:∀ k:Nat,c≠k->(((c:Int)==(k:Int))=false):=fun k h=>Qg
 have lit:∀ (k:Nat) (a b d:Nat),Bc k=(a,b,d)->c=k->Calls Tryz.prog 169 #[.int .u8 (k:Int)] w (fun e w'=>e= .returned (.tuple #[.int .u8 (a:Int),.int .u8 (b:Int),.int .i64 (d:Int)])/\w=w')->Calls Tryz.prog 169 #[.int .u8 (c:Int)] w fun e w'=>e= .returned (.tuple #[.int .u8 ((Bc c).1:Int),.int .u8 ((Bc c).2.1:Int),.int .i64 ((Bc c).2.2:Int)])/\w=w':=by
  intro k a b d h1 h2 h3;subst h2;rw [h1];exact h3
 by_cases h1:c=224
 ·refine lit 224 160 191 3 Qc h1 ?_;go_enter Tryz.func169,Tryz.ntmps169;go_wp2_with fail;go_ret3;exact ⟨rfl,rfl⟩
 by_cases h2:c=237
 ·refine lit 237 128 159 3 Qc h2 ?_;go_enter Tryz.func169,Tryz.ntmps169;go_wp2_with fail;go_ret3;exact ⟨rfl,rfl⟩
 by_cases h3:c=240
 ·refine lit 240 144 191 4 Qc h3 ?_;go_enter Tryz.func169,Tryz.ntmps169;go_wp2_with fail;go_ret3;exact ⟨rfl,rfl⟩
 by_cases h4:c=244
 ·refine lit 244 128 143 4 Qc h4 ?_;go_enter Tryz.func169,Tryz.ntmps169;go_wp2_with fail;go_ret3;exact ⟨rfl,rfl⟩
 have e1:=eqf 224 h1;have e2:=eqf 237 h2;have e3:=eqf 240 h3;have e4:=eqf 244 h4
 have hway:((c:Int)<194/\(c:Int)<225/\(c:Int)<241/\Bc c=(0,0,1))\/((194:Int)<=(c:Int)/\(c:Int)<=223/\Bc c=(128,191,2))\/((194:Int)<=(c:Int)/\(223:Int)<(c:Int)/\(225:Int)<=(c:Int)/\(c:Int)<=239/\Bc c=(128,191,3))\/
   ((194:Int)<=(c:Int)/\(223:Int)<(c:Int)/\(225:Int)<=(c:Int)/\(239:Int)<(c:Int)/\(241:Int)<=(c:Int)/\(c:Int)<=243/\Bc c=(128,191,4))\/((194:Int)<=(c:Int)/\(223:Int)<(c:Int)/\(225:Int)<=(c:Int)/\(239:Int)<(c:Int)/\(241:Int)<=(c:Int)/\(243:Int)<(c:Int)/\Bc c=(0,0,1)):=by
  unfold Bc
  by_cases a1:c<194
  ·refine .inl ⟨Qa,Qa,Qa,?_⟩
   repeat (first | rw [if_neg Qa] | rfl)
  by_cases a2:c<=223
  ·refine .inr (.inl ⟨Qa,Qa,?_⟩);rw [if_pos Qa]
  by_cases a3:c<=239
  ·refine .inr (.inr (.inl ⟨Qa,Qa,Qa,Qa,?_⟩));rw [if_neg Qa,if_neg Qa,if_neg Qa,if_pos Qa]
  by_cases a4:c<=243
  ·refine .inr (.inr (.inr (.inl ⟨Qa,Qa,Qa,Qa,Qa,Qa,?_⟩)));rw [if_neg Qa,if_neg Qa,if_neg Qa,if_neg Qa,if_neg Qa,if_pos Qa]
  ·refine .inr (.inr (.inr (.inr ⟨Qa,Qa,Qa,Qa,Qa,Qa,?_⟩)))
   repeat (first | rw [if_neg Qa] | rfl)
 clear lit h1 h2 h3 h4 eqf;generalize (c:Int)=z at *;go_enter Tryz.func169,Tryz.ntmps169
 rcases hway with ⟨q1,q2,q3,hv⟩ | ⟨q1,q2,hv⟩ | ⟨q1,q2,q3,q4,hv⟩ | ⟨q1,q2,q3,q4,q5,q6,hv⟩ | ⟨q1,q2,q3,q4,q5,q6,hv⟩
 all_goals
  rw [hv];clear hv;go_wp2_with fail;go_ret3;exact ⟨rfl,rfl⟩
theorem Ap {P:Program} {s:Code} {Q:Exit->Act->World->Prop} {a:Act} {w:World} {R:World->Prop} (h:R w) (k:∀ w',R w'->s.wp P Q a w'):s.wp P Q a w:=k w h
theorem Af {P:Program} {ops:Array Oper} {rest:List Oper} {o:Oper} {a:Act} {w:World} {Q:Exit->Act->World->Prop} (hgd:o.guard=none) (ty:TypeId) (x y:Operand) (ho:o.op= .store ty x y) (hd:o.dst=none)
  (cells:Array Value) (t:TypeId) (old:Array Value) (g:Nat) (hx:a.eval x= .pointer (some ⟨g,0,none⟩)) (hgw:g=w.heap.size) (hy:a.eval y= .agg cells) (hi:(P.info? ty).map (·.size)=some cells.size)
  (hold:old.size=cells.size) (h1:cells.all (·.oneCell')=true)
  (h:wpList P ops Q rest a (w.alloc (.cells cells t))):wpList P ops Q (o :: rest) a (w.alloc (.cells old t)):=by
 subst hgw
 refine wpList_store_row hgd ty x y ho w.heap.size cells hx hy t old (by show (w.heap.push _)[w.heap.size]? =_;simp) hi hold h1 ?_
 rw [World.setRow_alloc_new,hd];exact h
theorem PB {w:World} {o:Obj} {i:Nat} (h:i=w.heap.size):(w.alloc o).heap[i]? =some o:=by subst h;exact heap_alloc_new w o
theorem X4 {w:World} {o p:Obj} {i:Nat} (hi:i<w.heap.size) (h:w.heap[i]? =some p):(w.alloc o).heap[i]? =some p:=by
 have:(w.heap.push o)[i]? =some p:=by rw [Array.getElem?_push_lt hi];rw [<-h];simp [hi]
 exact this
theorem Mx {t:ByteArray} {l:List UInt8} (h:t.toList=l):t=⟨l.toArray⟩:=by
 obtain ⟨⟨m⟩⟩:=t;have:m=l:=(toList_mk m).symm.trans h;rw [this]
def W1 (o:Option (List UInt8)) (w:World) (e:Ending) (w':World):Prop:=∃ t:ByteArray,e= .returned (.tuple #[.string t,.bool o.isSome])/\Hid (t.toList=o.getD [])/\Below w.heap.size w w'
theorem AT {o:Option (List UInt8)} {w w':World} {l:List UInt8} (h:o=some l) (hb:Below w.heap.size w w'):W1 o w (.returned (.tuple #[.string ⟨l.toArray⟩,.bool true])) w':=by
 subst h;exact ⟨_,rfl,H0 (toList_mk l),hb⟩
theorem FE {o:Option (List UInt8)} {w w':World} (h:o=none) (hb:Below w.heap.size w w'):W1 o w (.returned (.tuple #[.string ⟨#[]⟩,.bool false])) w':=by
 subst h;exact ⟨_,rfl,H0 (toList_mk []),hb⟩
theorem BJ {s:ByteArray} {l:List UInt8} (h:s.toList=l):s=⟨l.toArray⟩:=Bb (h.trans (toList_mk l).symm)
theorem UK {t:List (List UInt8 × List UInt8)} {s:List UInt8} (h:∀ p∈t,p.1≠s):C3 t s=none:=by
 unfold C3;rw [List.find?_eq_none.2,Option.map_none];intro p hp;rw [beq_iff_eq];exact h p hp
theorem XU (s:ByteArray) (w:World):Calls Tryz.prog 235 #[.string s] w (W1 (CM s.toList) w):=by
 by_cases h0:s.toList=[97,109,112]
 ·obtain rfl:=BJ h0
  have hv:CM (ByteArray.mk #[97,109,112]).toList=some [38]:=by rw [h0];decide+kernel
  clear h0;go_enter Tryz.func235,Tryz.ntmps235;go_wp2_with fail;go_ret2;exact AT hv (Below.refl _ _)
 by_cases h1:s.toList=[65,77,80]
 ·obtain rfl:=BJ h1
  have hv:CM (ByteArray.mk #[65,77,80]).toList=some [38]:=by rw [h1];decide+kernel
  clear h1;go_enter Tryz.func235,Tryz.ntmps235;go_wp2_with fail;go_ret2;exact AT hv (Below.refl _ _)
 by_cases h2:s.toList=[108,116]
 ·obtain rfl:=BJ h2
  have hv:CM (ByteArray.mk #[108,116]).toList=some [60]:=by rw [h2];decide+kernel
  clear h2;go_enter Tryz.func235,Tryz.ntmps235;go_wp2_with fail;go_ret2;exact AT hv (Below.refl _ _)
 by_cases h3:s.toList=[76,84]
 ·obtain rfl:=BJ h3
  have hv:CM (ByteArray.mk #[76,84]).toList=some [60]:=by rw [h3];decide+kernel
  clear h3;go_enter Tryz.func235,Tryz.ntmps235;go_wp2_with fail;go_ret2;exact AT hv (Below.refl _ _)
 by_cases h4:s.toList=[103,116]
 ·obtain rfl:=BJ h4
  have hv:CM (ByteArray.mk #[103,116]).toList=some [62]:=by rw [h4];decide+kernel
  clear h4;go_enter Tryz.func235,Tryz.ntmps235;go_wp2_with fail;go_ret2;exact AT hv (Below.refl _ _)
 by_cases h5:s.toList=[71,84]
 ·obtain rfl:=BJ h5
  have hv:CM (ByteArray.mk #[71,84]).toList=some [62]:=by rw [h5];decide+kernel
  clear h5;go_enter Tryz.func235,Tryz.ntmps235;go_wp2_with fail;go_ret2;exact AT hv (Below.refl _ _)
 by_cases h6:s.toList=[113,117,111,116]
 ·obtain rfl:=BJ h6
  have hv:CM (ByteArray.mk #[113,117,111,116]).toList=some [34]:=by rw [h6];decide+kernel
  clear h6;go_enter Tryz.func235,Tryz.ntmps235;go_wp2_with fail;go_ret2;exact AT hv (Below.refl _ _)
 by_cases h7:s.toList=[81,85,79,84]
 ·obtain rfl:=BJ h7
  have hv:CM (ByteArray.mk #[81,85,79,84]).toList=some [34]:=by rw [h7];decide+kernel
  clear h7;go_enter Tryz.func235,Tryz.ntmps235;go_wp2_with fail;go_ret2;exact AT hv (Below.refl _ _)
 by_cases h8:s.toList=[110,98,115,112]
 ·obtain rfl:=BJ h8
  have hv:CM (ByteArray.mk #[110,98,115,112]).toList=some [194,160]:=by rw [h8];decide+kernel
  clear h8;go_enter Tryz.func235,Tryz.ntmps235;go_wp2_with fail;go_ret2;exact AT hv (Below.refl _ _)
 by_cases h9:s.toList=[115,104,121]
 ·obtain rfl:=BJ h9
  have hv:CM (ByteArray.mk #[115,104,121]).toList=some [194,173]:=by rw [h9];decide+kernel
  clear h9;go_enter Tryz.func235,Tryz.ntmps235;go_wp2_with fail;go_ret2;exact AT hv (Below.refl _ _)
 by_cases h10:s.toList=[110,111,116]
 ·obtain rfl:=BJ h10
  have hv:CM (ByteArray.mk #[110,111,116]).toList=some [194,172]:=by rw [h10];decide+kernel
  clear h10;go_enter Tryz.func235,Tryz.ntmps235;go_wp2_with fail;go_ret2;exact AT hv (Below.refl _ _)
 by_cases h11:s.toList=[114,101,103]
 ·obtain rfl:=BJ h11
  have hv:CM (ByteArray.mk #[114,101,103]).toList=some [194,174]:=by rw [h11];decide+kernel
  clear h11;go_enter Tryz.func235,Tryz.ntmps235;go_wp2_with fail;go_ret2;exact AT hv (Below.refl _ _)
 by_cases h12:s.toList=[99,111,112,121]
 ·obtain rfl:=BJ h12
  have hv:CM (ByteArray.mk #[99,111,112,121]).toList=some [194,169]:=by rw [h12];decide+kernel
  clear h12;go_enter Tryz.func235,Tryz.ntmps235;go_wp2_with fail;go_ret2;exact AT hv (Below.refl _ _)
 by_cases h13:s.toList=[112,97,114,97]
 ·obtain rfl:=BJ h13
  have hv:CM (ByteArray.mk #[112,97,114,97]).toList=some [194,182]:=by rw [h13];decide+kernel
  clear h13;go_enter Tryz.func235,Tryz.ntmps235;go_wp2_with fail;go_ret2;exact AT hv (Below.refl _ _)
 by_cases h14:s.toList=[115,101,99,116]
 ·obtain rfl:=BJ h14
  have hv:CM (ByteArray.mk #[115,101,99,116]).toList=some [194,167]:=by rw [h14];decide+kernel
  clear h14;go_enter Tryz.func235,Tryz.ntmps235;go_wp2_with fail;go_ret2;exact AT hv (Below.refl _ _)
 by_cases h15:s.toList=[121,101,110]
 ·obtain rfl:=BJ h15
  have hv:CM (ByteArray.mk #[121,101,110]).toList=some [194,165]:=by rw [h15];decide+kernel
  clear h15;go_enter Tryz.func235,Tryz.ntmps235;go_wp2_with fail;go_ret2;exact AT hv (Below.refl _ _)
 by_cases h16:s.toList=[100,101,103]
 ·obtain rfl:=BJ h16
  have hv:CM (ByteArray.mk #[100,101,103]).toList=some [194,176]:=by rw [h16];decide+kernel
  clear h16;go_enter Tryz.func235,Tryz.ntmps235;go_wp2_with fail;go_ret2;exact AT hv (Below.refl _ _)
 by_cases h17:s.toList=[116,105,109,101,115]
 ·obtain rfl:=BJ h17
  have hv:CM (ByteArray.mk #[116,105,109,101,115]).toList=some [195,151]:=by rw [h17];decide+kernel
  clear h17;go_enter Tryz.func235,Tryz.ntmps235;go_wp2_with fail;go_ret2;exact AT hv (Below.refl _ _)
 by_cases h18:s.toList=[101,97,99,117,116,101]
 ·obtain rfl:=BJ h18
  have hv:CM (ByteArray.mk #[101,97,99,117,116,101]).toList=some [195,169]:=by rw [h18];decide+kernel
  clear h18;go_enter Tryz.func235,Tryz.ntmps235;go_wp2_with fail;go_ret2;exact AT hv (Below.refl _ _)
 by_cases h19:s.toList=[111,117,109,108]
 ·obtain rfl:=BJ h19
  have hv:CM (ByteArray.mk #[111,117,109,108]).toList=some [195,182]:=by rw [h19];decide+kernel
  clear h19;go_enter Tryz.func235,Tryz.ntmps235;go_wp2_with fail;go_ret2;exact AT hv (Below.refl _ _)
 by_cases h20:s.toList=[115,122,108,105,103]
 ·obtain rfl:=BJ h20
  have hv:CM (ByteArray.mk #[115,122,108,105,103]).toList=some [195,159]:=by rw [h20];decide+kernel
  clear h20;go_enter Tryz.func235,Tryz.ntmps235;go_wp2_with fail;go_ret2;exact AT hv (Below.refl _ _)
 have hv:CM s.toList=none:=UK (by
  intro p hp;simp only [Ot,List.mem_cons,List.not_mem_nil,or_false] at hp
  rcases hp with rfl | rfl | rfl | rfl | rfl | rfl | rfl | rfl | rfl | rfl | rfl | rfl | rfl | rfl | rfl | rfl | rfl | rfl | rfl | rfl | rfl
  all_goals (intro e;first | exact h0 e.symm | exact h1 e.symm | exact h2 e.symm | exact h3 e.symm | exact h4 e.symm | exact h5 e.symm | exact h6 e.symm | exact h7 e.symm | exact h8 e.symm | exact h9 e.symm | exact h10 e.symm | exact h11 e.symm | exact h12 e.symm | exact h13 e.symm | exact h14 e.symm | exact h15 e.symm | exact h16 e.symm | exact h17 e.symm | exact h18 e.symm | exact h19 e.symm | exact h20 e.symm))
 have n0:(s.toList==[97,109,112])=false:=Akh;have n1:(s.toList==[65,77,80])=false:=Q2;have n2:(s.toList==[108,116])=false:=Aki
 have n3:(s.toList==[76,84])=false:=by simpa using h3
 have n4:(s.toList==[103,116])=false:=by simpa using h4
 have n5:(s.toList==[71,84])=false:=by simpa using h5
 have n6:(s.toList==[113,117,111,116])=false:=by simpa using h6
 have n7:(s.toList==[81,85,79,84])=false:=by simpa using h7
 have n8:(s.toList==[110,98,115,112])=false:=by simpa using h8
 have n9:(s.toList==[115,104,121])=false:=by simpa using h9
 have n10:(s.toList==[110,111,116])=false:=by simpa using h10
 have n11:(s.toList==[114,101,103])=false:=by simpa using h11
 have n12:(s.toList==[99,111,112,121])=false:=by simpa using h12
 have n13:(s.toList==[112,97,114,97])=false:=by simpa using h13
 have n14:(s.toList==[115,101,99,116])=false:=by simpa using h14
 have n15:(s.toList==[121,101,110])=false:=by simpa using h15
 have n16:(s.toList==[100,101,103])=false:=by simpa using h16
 have n17:(s.toList==[116,105,109,101,115])=false:=by simpa using h17
 have n18:(s.toList==[101,97,99,117,116,101])=false:=by simpa using h18
 have n19:(s.toList==[111,117,109,108])=false:=by simpa using h19
 have n20:(s.toList==[115,122,108,105,103])=false:=by simpa using h20
 clear h0 h1 h2 h3 h4 h5 h6 h7 h8 h9 h10 h11 h12 h13 h14 h15 h16 h17 h18 h19 h20;go_enter Tryz.func235,Tryz.ntmps235;go_wp2_with fail;go_ret2;exact FE hv (Below.refl _ _)
def OV:Array Value:= #[.string ⟨#[97,112,111,115]⟩,.int .u8 39,.string ⟨#[99,111,108,111,110]⟩,.int .u8 58,.string ⟨#[115,111,108]⟩,.int .u8 47,.string ⟨#[98,115,111,108]⟩,.int .u8 92,.string ⟨#[113,117,101,115,116]⟩,.int .u8 63,.string ⟨#[110,117,109]⟩,.int .u8 35,.string ⟨#[112,101,114,99,110,116]⟩,.int .u8 37,.string ⟨#[99,111,109,109,97,116]⟩,.int .u8 64,.string ⟨#[101,113,117,97,108,115]⟩,.int .u8 61,.string ⟨#[112,108,117,115]⟩,.int .u8 43,.string ⟨#[99,111,109,109,97]⟩,.int .u8 44,.string ⟨#[112,101,114,105,111,100]⟩,.int .u8 46,.string ⟨#[115,101,109,105]⟩,.int .u8 59,.string ⟨#[101,120,99,108]⟩,.int .u8 33,.string ⟨#[100,111,108,108,97,114]⟩,.int .u8 36,.string ⟨#[97,115,116]⟩,.int .u8 42,.string ⟨#[108,111,119,98,97,114]⟩,.int .u8 95,.string ⟨#[103,114,97,118,101]⟩,.int .u8 96,.string ⟨#[72,97,116]⟩,.int .u8 94,.string ⟨#[108,112,97,114]⟩,.int .u8 40,.string ⟨#[114,112,97,114]⟩,.int .u8 41,.string ⟨#[108,115,113,98]⟩,.int .u8 91,.string ⟨#[114,115,113,98]⟩,.int .u8 93,.string ⟨#[108,99,117,98]⟩,.int .u8 123,.string ⟨#[114,99,117,98]⟩,.int .u8 125,.string ⟨#[118,101,114,98,97,114]⟩,.int .u8 124,.string ⟨#[84,97,98]⟩,.int .u8 9,.string ⟨#[78,101,119,76,105,110,101]⟩,.int .u8 10]
def My (k:Nat):List UInt8:=(DE.getD k ([],[])).1
def Ud (k:Nat):UInt8:=((DE.getD k ([],[])).2).headD 0
theorem ZA (w:World):∀ k:Nat,k<28->(Instr.index 243 (.agg OV) (.int .i64 (k:Int))).run Tryz.prog w= .ok (.agg #[.string ⟨(My k).toArray⟩,.int .u8 ((Ud k).toNat:Int)]) w
 | 0,_=>Qb
 | 1,_=>Qb
 | 2,_=>Qb
 | 3,_=>Qb
 | 4,_=>Qb
 | 5,_=>Qb
 | 6,_=>Qb
 | 7,_=>Qb
 | 8,_=>Qb
 | 9,_=>Qb
 | 10,_=>Qb
 | 11,_=>Qb
 | 12,_=>Qb
 | 13,_=>Qb
 | 14,_=>Qb
 | 15,_=>Qb
 | 16,_=>Qb
 | 17,_=>Qb
 | 18,_=>Qb
 | 19,_=>Qb
 | 20,_=>Qb
 | 21,_=>Qb
 | 22,_=>Qb
 | 23,_=>Qb
 | 24,_=>Qb
 | 25,_=>Qb
 | 26,_=>Qb
 | 27,_=>Qb
 | n+28,h=>Qa
theorem ZY:∀ k:Fin 28,C3 DE (My k.val)=some [Ud k.val]/\Ud k.val≠0/\PW ((Ud k.val).toNat:Int)=[Ud k.val]:=Qe
theorem AdL {s:List UInt8} (h:∀ k,k<28->My k≠s):C3 DE s=none:=by
 refine UK fun p hp=> ?_
 obtain ⟨k,hk,rfl⟩:=List.getElem_of_mem hp;have h28:DE.length=28:=rfl;have:=h k Qa;unfold My at this;rw [List.getD_eq_getElem?_getD,List.getElem?_eq_getElem hk] at this;exact this
def Aja (s:List UInt8) (w:World) (e:Ending) (w':World):Prop:=∃ b:UInt8,e= .returned (.int .u8 (b.toNat:Int))/\Hid ((b=0/\C3 DE s=none)\/(b≠0/\C3 DE s=some [b]/\PW (b.toNat:Int)=[b]))/\Below w.heap.size w w'
theorem AbD:(Tryz.prog.info? 243).map (·.size)=some 56:=Qb
theorem SO (s:ByteArray) (w:World):Calls Tryz.prog 288 #[.string s] w (Aja s.toList w):=by
 go_enter Tryz.func288,Tryz.ntmps288
 go_wp2_with (first
  | (refine Af rfl 243 _ _ rfl rfl OV _ _ _ rfl Qf rfl AbD rfl Qb ?_)
  | (refine wpList_load_row rfl 243 _ rfl w.heap.size rfl _ OV _ _ (heap_alloc_new w _) Tryz.underlying243 rfl AbD ?_))
 have hbw:Below w.heap.size w (w.alloc (.cells OV 243)):=(Below.refl _ _).alloc (Nat.le_refl _) _
 go_loopw [36] (fun v wr=>∃ k:Nat,v= .int .i64 k/\k<=28/\Below w.heap.size w wr/\Hid (∀ j,j<k->My j≠s.toList)) (fun v _=>28 - (intOf v).toNat)
 case atStart=>exact ⟨0,rfl,Qa,hbw,H0 (fun j hj=>absurd hj (Nat.not_lt_zero _))⟩
 case round=>
  clear hbw;obtain ⟨k,rfl,hk,hbel,hno⟩:=hrel;have hsz:=hbel.size
  by_cases hlt:k<28
  ·have hltI:(k:Int)<28:=Qa
   have hix:=fun w=>ZA w k hlt
   obtain ⟨t,ht⟩:∃ t:ByteArray,(⟨(My k).toArray⟩:ByteArray)=t:=⟨_,rfl⟩
   have htl:Hid (t.toList=My k):=H0 (by rw [<-ht];exact toList_mk _)
   rw [ht] at hix;replace ht:=H0 ht;have hlook:=H0 (ZY ⟨k,hlt⟩);obtain ⟨b,hb⟩:=N2 (Ud k);dsimp only at hlook;rw [hb] at hlook hix;replace hb:=H0 hb;obtain ⟨q,hq⟩:=N2 ((t.toList==s.toList))
   have hq2:Hid ((My k==s.toList)=q):=H0 (by rw [<-htl.out];exact hq)
   cases q
   ·have hne:Hid (∀ j,j<k+1->My j≠s.toList):=H0 (fun j hj=>by
     by_cases e:j=k
     ·subst e;have:=hq2.out;simpa using this
     ·exact hno.out j Qa)
    go_wp2_with fail;go_roundw
    case rel=>exact ⟨k+1,Ql,Qa,((hbel.alloc hsz _)),hne⟩
    case measure=>simp [intOf];omega
   ·have hfin:Hid (C3 DE s.toList=some [b]):=H0 (by
     have:=hq2.out;rw [beq_iff_eq] at this
     rw [<-this];exact hlook.out.1)
    go_wp2_with fail;go_ret;exact ⟨b,rfl,H0 (.inr ⟨hlook.out.2.1,hfin.out,hlook.out.2.2⟩),hbel.alloc hsz _⟩
  ·have hltI:(28:Int)<=(k:Int):=Qa
   have hfin:Hid (C3 DE s.toList=none):=H0 (AdL (fun j hj=>hno.out j Qa))
   go_wp2_with fail;go_ret;exact ⟨0,rfl,H0 (.inl ⟨rfl,hfin.out⟩),hbel⟩
theorem Ac4 (s:ByteArray) (w:World):Calls Tryz.prog 236 #[.string s] w (W1 (BA s.toList) w):=by
 have hbb:=H0 (SO s)
 have henc:∀ (b:UInt8) w,(convert 21 9 (.int .i32 (b.toNat:Int))).run Tryz.prog w= .ok (.string (Utf8.encode (b.toNat:Int))) w:=fun b w=>run_convert_int_string w _ _ _ (b.toNat:Int) (by rw [Tryz.underlying21];rfl) Tryz.underlying9
 replace henc:=H0 henc
 by_cases h0:s.toList=[110,111,116,105,110]
 ·have hno:C3 DE s.toList=none:=by rw [h0];decide+kernel
  obtain rfl:=BJ h0
  have hv:BA (ByteArray.mk #[110,111,116,105,110]).toList=some [226,136,137]:=by unfold BA;rw [hno,h0];decide+kernel
  clear h0;replace hno:=H0 hno;replace hv:=H0 hv;go_enter Tryz.func236,Tryz.ntmps236;go_wp2_with fail;refine (hbb.out _).mono ?_;rintro e w1 ⟨b,rfl,hw,hb⟩
  rcases hw.out with ⟨rfl,-⟩ | ⟨-,h1,-⟩
  ·go_wp2_with fail;go_ret2;exact AT hv.out hb
  ·rw [hno.out] at h1;cases h1
 by_cases h1:s.toList=[110,118,108,116]
 ·have hno:C3 DE s.toList=none:=by rw [h1];decide+kernel
  obtain rfl:=BJ h1
  have hv:BA (ByteArray.mk #[110,118,108,116]).toList=some [60,226,131,146]:=by unfold BA;rw [hno,h1];decide+kernel
  clear h1;replace hno:=H0 hno;replace hv:=H0 hv;go_enter Tryz.func236,Tryz.ntmps236;go_wp2_with fail;refine (hbb.out _).mono ?_;rintro e w1 ⟨b,rfl,hw,hb⟩
  rcases hw.out with ⟨rfl,-⟩ | ⟨-,h1,-⟩
  ·go_wp2_with fail;go_ret2;exact AT hv.out hb
  ·rw [hno.out] at h1;cases h1
 by_cases h2:s.toList=[110,118,103,116]
 ·have hno:C3 DE s.toList=none:=by rw [h2];decide+kernel
  obtain rfl:=BJ h2
  have hv:BA (ByteArray.mk #[110,118,103,116]).toList=some [62,226,131,146]:=by unfold BA;rw [hno,h2];decide+kernel
  clear h2;replace hno:=H0 hno;replace hv:=H0 hv;go_enter Tryz.func236,Tryz.ntmps236;go_wp2_with fail;refine (hbb.out _).mono ?_;rintro e w1 ⟨b,rfl,hw,hb⟩
  rcases hw.out with ⟨rfl,-⟩ | ⟨-,h1,-⟩
  ·go_wp2_with fail;go_ret2;exact AT hv.out hb
  ·rw [hno.out] at h1;cases h1
 by_cases h3:s.toList=[122,119,110,106]
 ·have hno:C3 DE s.toList=none:=by rw [h3];decide+kernel
  obtain rfl:=BJ h3
  have hv:BA (ByteArray.mk #[122,119,110,106]).toList=some [226,128,140]:=by unfold BA;rw [hno,h3];decide+kernel
  clear h3;replace hno:=H0 hno;replace hv:=H0 hv;go_enter Tryz.func236,Tryz.ntmps236;go_wp2_with fail;refine (hbb.out _).mono ?_;rintro e w1 ⟨b,rfl,hw,hb⟩
  rcases hw.out with ⟨rfl,-⟩ | ⟨-,h1,-⟩
  ·go_wp2_with fail;go_ret2;exact AT hv.out hb
  ·rw [hno.out] at h1;cases h1
 by_cases h4:s.toList=[122,119,106]
 ·have hno:C3 DE s.toList=none:=by rw [h4];decide+kernel
  obtain rfl:=BJ h4
  have hv:BA (ByteArray.mk #[122,119,106]).toList=some [226,128,141]:=by unfold BA;rw [hno,h4];decide+kernel
  clear h4;replace hno:=H0 hno;replace hv:=H0 hv;go_enter Tryz.func236,Tryz.ntmps236;go_wp2_with fail;refine (hbb.out _).mono ?_;rintro e w1 ⟨b,rfl,hw,hb⟩
  rcases hw.out with ⟨rfl,-⟩ | ⟨-,h1,-⟩
  ·go_wp2_with fail;go_ret2;exact AT hv.out hb
  ·rw [hno.out] at h1;cases h1
 by_cases h5:s.toList=[90,101,114,111,87,105,100,116,104,83,112,97,99,101]
 ·have hno:C3 DE s.toList=none:=by rw [h5];decide+kernel
  obtain rfl:=BJ h5
  have hv:BA (ByteArray.mk #[90,101,114,111,87,105,100,116,104,83,112,97,99,101]).toList=some [226,128,139]:=by unfold BA;rw [hno,h5];decide+kernel
  clear h5;replace hno:=H0 hno;replace hv:=H0 hv;go_enter Tryz.func236,Tryz.ntmps236;go_wp2_with fail;refine (hbb.out _).mono ?_;rintro e w1 ⟨b,rfl,hw,hb⟩
  rcases hw.out with ⟨rfl,-⟩ | ⟨-,h1,-⟩
  ·go_wp2_with fail;go_ret2;exact AT hv.out hb
  ·rw [hno.out] at h1;cases h1
 by_cases h6:s.toList=[78,111,66,114,101,97,107]
 ·have hno:C3 DE s.toList=none:=by rw [h6];decide+kernel
  obtain rfl:=BJ h6
  have hv:BA (ByteArray.mk #[78,111,66,114,101,97,107]).toList=some [226,129,160]:=by unfold BA;rw [hno,h6];decide+kernel
  clear h6;replace hno:=H0 hno;replace hv:=H0 hv;go_enter Tryz.func236,Tryz.ntmps236;go_wp2_with fail;refine (hbb.out _).mono ?_;rintro e w1 ⟨b,rfl,hw,hb⟩
  rcases hw.out with ⟨rfl,-⟩ | ⟨-,h1,-⟩
  ·go_wp2_with fail;go_ret2;exact AT hv.out hb
  ·rw [hno.out] at h1;cases h1
 by_cases h7:s.toList=[102,106,108,105,103]
 ·have hno:C3 DE s.toList=none:=by rw [h7];decide+kernel
  obtain rfl:=BJ h7
  have hv:BA (ByteArray.mk #[102,106,108,105,103]).toList=some [102,106]:=by unfold BA;rw [hno,h7];decide+kernel
  clear h7;replace hno:=H0 hno;replace hv:=H0 hv;go_enter Tryz.func236,Tryz.ntmps236;go_wp2_with fail;refine (hbb.out _).mono ?_;rintro e w1 ⟨b,rfl,hw,hb⟩
  rcases hw.out with ⟨rfl,-⟩ | ⟨-,h1,-⟩
  ·go_wp2_with fail;go_ret2;exact AT hv.out hb
  ·rw [hno.out] at h1;cases h1
 by_cases h8:s.toList=[99,111,112,121,115,114]
 ·have hno:C3 DE s.toList=none:=by rw [h8];decide+kernel
  obtain rfl:=BJ h8
  have hv:BA (ByteArray.mk #[99,111,112,121,115,114]).toList=some [226,132,151]:=by unfold BA;rw [hno,h8];decide+kernel
  clear h8;replace hno:=H0 hno;replace hv:=H0 hv;go_enter Tryz.func236,Tryz.ntmps236;go_wp2_with fail;refine (hbb.out _).mono ?_;rintro e w1 ⟨b,rfl,hw,hb⟩
  rcases hw.out with ⟨rfl,-⟩ | ⟨-,h1,-⟩
  ·go_wp2_with fail;go_ret2;exact AT hv.out hb
  ·rw [hno.out] at h1;cases h1
 by_cases h9:s.toList=[116,105,109,101,115,98,97,114]
 ·have hno:C3 DE s.toList=none:=by rw [h9];decide+kernel
  obtain rfl:=BJ h9
  have hv:BA (ByteArray.mk #[116,105,109,101,115,98,97,114]).toList=some [226,168,177]:=by unfold BA;rw [hno,h9];decide+kernel
  clear h9;replace hno:=H0 hno;replace hv:=H0 hv;go_enter Tryz.func236,Tryz.ntmps236;go_wp2_with fail;refine (hbb.out _).mono ?_;rintro e w1 ⟨b,rfl,hw,hb⟩
  rcases hw.out with ⟨rfl,-⟩ | ⟨-,h1,-⟩
  ·go_wp2_with fail;go_ret2;exact AT hv.out hb
  ·rw [hno.out] at h1;cases h1
 have hl:C3 NX s.toList=none:=UK (by
  intro p hp;simp only [NX,List.mem_cons,List.not_mem_nil,or_false] at hp
  rcases hp with rfl | rfl | rfl | rfl | rfl | rfl | rfl | rfl | rfl | rfl
  all_goals (intro e;first | exact h0 e.symm | exact h1 e.symm | exact h2 e.symm | exact h3 e.symm | exact h4 e.symm | exact h5 e.symm | exact h6 e.symm | exact h7 e.symm | exact h8 e.symm | exact h9 e.symm))
 have n0:(s.toList==[110,111,116,105,110])=false:=Akh;have n1:(s.toList==[110,118,108,116])=false:=Q2;have n2:(s.toList==[110,118,103,116])=false:=Aki
 have n3:(s.toList==[122,119,110,106])=false:=by simpa using h3
 have n4:(s.toList==[122,119,106])=false:=by simpa using h4
 have n5:(s.toList==[90,101,114,111,87,105,100,116,104,83,112,97,99,101])=false:=by simpa using h5
 have n6:(s.toList==[78,111,66,114,101,97,107])=false:=by simpa using h6
 have n7:(s.toList==[102,106,108,105,103])=false:=by simpa using h7
 have n8:(s.toList==[99,111,112,121,115,114])=false:=by simpa using h8
 have n9:(s.toList==[116,105,109,101,115,98,97,114])=false:=by simpa using h9
 clear h0 h1 h2 h3 h4 h5 h6 h7 h8 h9;replace hl:=H0 hl;go_enter Tryz.func236,Tryz.ntmps236;go_wp2_with fail;refine (hbb.out _).mono ?_;rintro e w1 ⟨b,rfl,hw,hb⟩
 rcases hw.out with ⟨rfl,h1⟩ | ⟨h0,h1,h2⟩
 ·have hv:Hid (BA s.toList=none):=H0 (by unfold BA;rw [h1,hl.out])
  clear h1 hw;go_wp2_with fail;go_ret2;exact FE hv.out hb
 ·have hv:Hid (BA s.toList=some [b]):=H0 (by unfold BA;rw [h1])
  have hn0:((b.toNat:Int) != 0)=true:=by
   rw [bne_iff_ne];intro e
   exact h0 (UInt8.toNat_inj.1 (by show b.toNat=0;omega))
  have hn1:((b.toNat:Int)==0)=false:=by
   rw [beq_eq_false_iff_ne];intro e
   exact h0 (UInt8.toNat_inj.1 (by show b.toNat=0;omega))
  have hen:=henc.out b
  have hel:Hid ((Utf8.encode (b.toNat:Int)).toList=[b]):=H0 (by rw [ByteArray.toList_eq];exact h2)
  obtain ⟨t,ht⟩:=N2 (Utf8.encode (b.toNat:Int));rw [ht] at hen hel;replace ht:=H0 ht;have b0:=AN b;have b1:=AX b;replace h0:=H0 h0;clear h1 h2 hw;go_wp2_with fail;go_ret2
  exact ⟨t,Aj1,H0 (by rw [hv.out];exact hel.out),hb⟩
def LK:Array Value:= #[.int .i64 8364,.int .i64 129,.int .i64 8218,.int .i64 402,.int .i64 8222,.int .i64 8230,.int .i64 8224,.int .i64 8225,.int .i64 710,.int .i64 8240,.int .i64 352,.int .i64 8249,.int .i64 338,.int .i64 141,.int .i64 381,.int .i64 143,.int .i64 144,.int .i64 8216,.int .i64 8217,.int .i64 8220,.int .i64 8221,.int .i64 8226,.int .i64 8211,.int .i64 8212,.int .i64 732,.int .i64 8482,.int .i64 353,.int .i64 8250,.int .i64 339,.int .i64 157,.int .i64 382,.int .i64 376]
theorem WZ:(Tryz.prog.info? 241).map (·.size)=some 32:=Qb
theorem Zo:∀ k:Fin 32,LK[k.val]? =some (.int .i64 ((XR.getD k.val 0:Nat):Int)):=by
 intro k
 match k with
 | ⟨0,_⟩=>rfl
 | ⟨1,_⟩=>rfl
 | ⟨2,_⟩=>rfl
 | ⟨3,_⟩=>rfl
 | ⟨4,_⟩=>rfl
 | ⟨5,_⟩=>rfl
 | ⟨6,_⟩=>rfl
 | ⟨7,_⟩=>rfl
 | ⟨8,_⟩=>rfl
 | ⟨9,_⟩=>rfl
 | ⟨10,_⟩=>rfl
 | ⟨11,_⟩=>rfl
 | ⟨12,_⟩=>rfl
 | ⟨13,_⟩=>rfl
 | ⟨14,_⟩=>rfl
 | ⟨15,_⟩=>rfl
 | ⟨16,_⟩=>rfl
 | ⟨17,_⟩=>rfl
 | ⟨18,_⟩=>rfl
 | ⟨19,_⟩=>rfl
 | ⟨20,_⟩=>rfl
 | ⟨21,_⟩=>rfl
 | ⟨22,_⟩=>rfl
 | ⟨23,_⟩=>rfl
 | ⟨24,_⟩=>rfl
 | ⟨25,_⟩=>rfl
 | ⟨26,_⟩=>rfl
 | ⟨27,_⟩=>rfl
 | ⟨28,_⟩=>rfl
 | ⟨29,_⟩=>rfl
 | ⟨30,_⟩=>rfl
 | ⟨31,_⟩=>rfl
 | ⟨n+32,h⟩=>omega
theorem AcV (n:Nat) (w:World):Calls Tryz.prog 287 #[.int .i64 (n:Int)] w fun e w'=>e= .returned (.int .i64 (F0 n:Int))/\Below w.heap.size w w':=by
 have hbw:Below w.heap.size w (w.alloc (.cells LK 241)):=(Below.refl _ _).alloc (Nat.le_refl _) _
 by_cases h:128<=n/\n<=159
 ·obtain ⟨k,rfl⟩:∃ k,n=128+k:=⟨n - 128,Qa⟩;have hk:k<32:=Qa
  have hv:Hid (F0 (128+k)=XR.getD k 0):=H0 (by unfold F0;rw [if_pos h,Nat.add_sub_cancel_left])
  have hat:=Zo ⟨k,hk⟩;dsimp only at hat;obtain ⟨v,hve⟩:=N2 (XR.getD k 0);rw [hve] at hv hat;replace hve:=H0 hve;have h1:(128:Int)<=((128+k:Nat):Int):=Qa;have h2:((128+k:Nat):Int)<=159:=Qa;have h3:((128+k:Nat):Int) - 128=(k:Int):=Qa;have hc:(w.alloc (.cells LK 241)).cell? ⟨w.heap.size,k,none⟩=some (.int .i64 (v:Int)):=(World.cell?_alloc_at _ _ _ _ rfl).trans hat;have hkI:(k:Int)<32:=Qa;obtain ⟨z,hz⟩:∃ z:Int,((128+k:Nat):Int)=z:=⟨_,rfl⟩;rw [hz] at h1 h2 h3⊢;clear h hat;replace hz:=H0 hz;go_enter Tryz.func287,Tryz.ntmps287;go_wp2_with (refine Af rfl 241 _ _ rfl rfl LK _ _ _ rfl Qf rfl WZ rfl Qb ?_);go_ret;exact ⟨Aj1,hbw⟩
 ·have hv:Hid (F0 n=n):=H0 (by unfold F0;rw [if_neg h])
  have hway:((n:Int)<128)\/((128:Int)<=(n:Int)/\(159:Int)<(n:Int)):=Qa
  clear h
  rcases hway with q1 | ⟨q1,q2⟩
  all_goals
   go_enter Tryz.func287,Tryz.ntmps287;go_wp2_with (refine Af rfl 241 _ _ rfl rfl LK _ _ _ rfl Qf rfl WZ rfl Qb ?_);go_ret;exact ⟨Aj1,hbw⟩
theorem MF (l:List UInt8) (h:Lib.hasSuffix l [59]=true):Lib.trimSuffix l [59]=l.dropLast:=by
 unfold Lib.trimSuffix;rw [if_pos h,List.dropLast_eq_take];rfl
theorem ON (l:List UInt8) (h:Lib.hasSuffix l [59]=false):Lib.trimSuffix l [59]=l:=by
 unfold Lib.trimSuffix;rw [if_neg Aj2]
theorem ZJ (s:ByteArray) (w:World) (hz:s.size<=1099511627776):Calls Tryz.prog 166 #[.string s] w (W1 (EA s.toList) w):=by
 have hcs:=fun w=>Tryz.strings_CutSuffix s ⟨#[59]⟩ w Qa
 have e0:(ByteArray.mk #[59]).data.toList=[59]:=rfl;simp only [e0,<-ByteArray.toList_eq] at hcs;cases hb:Lib.hasSuffix s.toList [59]
 ·have hv:EA s.toList=CM s.toList:=by unfold EA;rw [if_neg (by rw [hb];decide)]
  have ht:(⟨(Lib.trimSuffix s.toList [59]).toArray⟩:ByteArray)=s:=by
   rw [ON _ hb];exact Bb (toList_mk _)
  simp only [hb,ht] at hcs;have hf:=H0 (XU s);rw [hv];obtain ⟨o,ho⟩:=N2 (CM s.toList);rw [ho] at hf⊢;replace hb:=H0 hb;replace hv:=H0 hv;replace ho:=H0 ho;replace hcs:=H0 hcs;replace ht:=H0 ht;go_enter Tryz.func166,Tryz.ntmps166;go_wp2_with fail;refine (hcs.out _).mono ?_;rintro e w1 ⟨rfl,rfl⟩;go_wp2_with fail;refine (hf.out _).mono ?_;rintro e w2 ⟨t,rfl,ht,hb⟩
  cases o with
  | none=>
   go_wp2_with fail;go_ret2;exact FE rfl hb
  | some x=>
   go_wp2_with fail;go_ret2;exact ⟨t,rfl,ht,hb⟩
 ·obtain ⟨t,ht⟩:∃ t:ByteArray,(⟨(Lib.trimSuffix s.toList [59]).toArray⟩:ByteArray)=t:=⟨_,rfl⟩
  have htl:t.toList=s.toList.dropLast:=by rw [<-ht,MF _ hb];exact toList_mk _
  simp only [hb,ht] at hcs
  have hv:EA s.toList=match CM t.toList with | some x=>some x | none=>BA t.toList:=by unfold EA;rw [if_pos hb,htl];rfl
  have hf:=H0 (XU t);have hbd:=H0 (Ac4 t);rw [hv];obtain ⟨o,ho⟩:=N2 (CM t.toList);obtain ⟨o2,ho2⟩:∃ o,BA t.toList=o:=⟨_,rfl⟩;rw [ho] at hf⊢;rw [ho2] at hbd⊢;replace hb:=H0 hb;replace hv:=H0 hv;replace ho:=H0 ho;replace ho2:=H0 ho2;replace hcs:=H0 hcs;replace ht:=H0 ht;replace htl:=H0 htl;go_enter Tryz.func166,Tryz.ntmps166;go_wp2_with fail;refine (hcs.out _).mono ?_;rintro e w1 ⟨rfl,rfl⟩;go_wp2_with fail;refine (hf.out _).mono ?_;rintro e w2 ⟨t2,rfl,ht2,hb⟩
  cases o with
  | none=>
   go_wp2_with fail;refine (hbd.out _).mono ?_;rintro e w3 ⟨t3,rfl,ht3,hb3⟩;go_wp2_with fail;go_ret2
   exact ⟨t3,rfl,ht3,hb.next hb3⟩
  | some x=>
   go_wp2_with fail;go_ret2;exact ⟨t2,rfl,ht2,hb⟩
theorem Afd:∀ k:Fin 32,XR.getD k.val 0<=65536:=Qe
theorem Acn (n:Nat) (h:n<=2147483647):F0 n<=2147483647:=by
 unfold F0;split
 ·rename_i hh;have:=Afd ⟨n - 0x80,Qa⟩;dsimp only at this;omega
 ·exact h
theorem ER (n:Nat) (w:World) (hn:n<=1114112):Calls Tryz.prog 234 #[.int .i64 (n:Int)] w (EI w (Cs n)):=by
 by_cases h0:n=0
 ·subst h0
  have hs:=H0 (fun w=>Jp 65533 Qc w)
  have hv:Cs 0=Bv 65533:=rfl;rw [hv];obtain ⟨L,hL⟩:=N2 (Bv 65533);rw [hL] at hs⊢;replace hv:=H0 hv;replace hL:=H0 hL;go_enter Tryz.func234,Tryz.ntmps234;go_wp2_with fail;refine (hs.out _).mono ?_;rintro e w1 ⟨t,rfl,ht,rfl⟩;go_wp2_with fail;go_ret;exact ⟨t,rfl,ht,Below.refl _ _⟩
 ·have hv:Cs n=Bv (F0 n):=by unfold Cs;rw [if_neg h0]
  have hsh:=H0 (AcV n);have hle:=Acn n Qa
  have hs:=H0 (fun w=>Jp (F0 n) hle w)
  rw [hv];obtain ⟨L,hL⟩:=N2 (Bv (F0 n));rw [hL] at hs⊢;obtain ⟨m,hm⟩:=N2 (F0 n);rw [hm] at hs hsh;have e0:((n:Int)==0)=false:=Qg;replace hv:=H0 hv;replace hL:=H0 hL;replace hm:=H0 hm;replace hle:=H0 hle;go_enter Tryz.func234,Tryz.ntmps234;go_wp2_with fail;refine (hsh.out _).mono ?_;rintro e w1 ⟨rfl,hb⟩;go_wp2_with fail;refine (hs.out _).mono ?_;rintro e w2 ⟨t,rfl,ht,rfl⟩;go_wp2_with fail;go_ret;exact ⟨t,rfl,ht,hb⟩
theorem ZP (c:UInt8) (w:World):Calls Tryz.prog 167 #[.int .u8 (c.toNat:Int)] w fun e w'=>e= .returned (.bool (Ke c))/\w=w':=by
 have hl:=H0 (fun w=>Dt (c.toNat:Int) w)
 have b0:=AN c;have b1:=AX c
 have hd:=H0 (fun w=>A8 (c.toNat:Int) 10 w b0 b1)
 have q1:((c.toNat:Int)==61)=(c==61):=by
  rw [Bool.eq_iff_iff,beq_iff_eq,beq_iff_eq]
  exact ⟨fun h=>UInt8.toNat_inj.1 (by show c.toNat=61;omega),fun h=>by rw [h];rfl⟩
 have hv:Ke c=(Bn (c.toNat:Int) || (decide (0<=Ag (c.toNat:Int) 10) || (c==61))):=by unfold Ke;rw [Bool.or_assoc]
 rw [hv];replace hv:=H0 hv;generalize Bn (c.toNat:Int)=a at hl⊢;generalize Ag (c.toNat:Int) 10=d at hd⊢;generalize (c==61)=b at q1⊢
 have hway:(0<=d/\decide (0<=d)=true)\/(d<0/\decide (0<=d)=false):=by
  by_cases h:0<=d
  ·exact .inl ⟨h,decide_eq_true h⟩
  ·exact .inr ⟨Qa,decide_eq_false h⟩
 go_enter Tryz.func167,Tryz.ntmps167;cases a
 ·rcases hway with ⟨h1,h2⟩ | ⟨h1,h2⟩
  all_goals
   rw [h2];replace h2:=H0 h2
   go_wp2_with (first
    | (go_at_call 154;refine (hl.out _).mono ?_;rintro e w' ⟨rfl,rfl⟩)
    | (go_at_call 155;refine (hd.out _).mono ?_;rintro e w' ⟨rfl,rfl⟩))
   go_ret
   exact ⟨by first | (simp;done) | (simp;intro h;omega),rfl⟩
 ·clear hway
  go_wp2_with (first
   | (go_at_call 154;refine (hl.out _).mono ?_;rintro e w' ⟨rfl,rfl⟩)
   | (go_at_call 155;refine (hd.out _).mono ?_;rintro e w' ⟨rfl,rfl⟩))
  go_ret;exact ⟨Qf,rfl⟩
def Aas (o:List UInt8 × Nat) (w:World) (e:Ending) (w':World):Prop:=∃ t:ByteArray,e= .returned (.tuple #[.string t,.int .i64 (o.2:Int)])/\Hid (t.toList=o.1)/\Below w.heap.size w w'
theorem Kr {base n:Nat} {c:UInt8} {r:List UInt8} (h:Ag (c.toNat:Int) (base:Int)<0):AE base n (c :: r)=(n,0):=by rw [AE,if_pos h]
theorem It {base n:Nat} {c:UInt8} {r:List UInt8} (h:0<=Ag (c.toNat:Int) (base:Int)):
  AE base n (c :: r)=((AE base (min (n * base+(Ag (c.toNat:Int) (base:Int)).toNat) 0x110000) r).1,(AE base (min (n * base+(Ag (c.toNat:Int) (base:Int)).toNat) 0x110000) r).2+1):=by rw [AE,if_neg Qa]
theorem Ng (base:Nat):∀ (l:List UInt8) (n:Nat),n<=1114112->(AE base n l).1<=1114112/\(AE base n l).2<=l.length
 | [],n,h=>⟨h,Nat.le_refl _⟩
 | c :: r,n,h=>by
  by_cases hd:Ag (c.toNat:Int) (base:Int)<0
  ·rw [Kr hd];exact ⟨h,Nat.zero_le _⟩
  ·rw [It Qa];have:=Ng base r (min (n * base+(Ag (c.toNat:Int) (base:Int)).toNat) 0x110000) Qa;exact ⟨this.1,Qi⟩
theorem Lw (c:Int) (b:Int) (hb:b<=36):Ag c b<=35:=by
 unfold Ag;split
 ·omega
 ·omega
theorem MO {l:List UInt8} (h:l.length<=2):isX l=false:=by
 match l,h with
 | [],_=>rfl
 | [a],_=>rfl
 | [a,b],_=>rfl
theorem AhO {l:List UInt8} (h:2<l.length):isX l=(l[2]==120 || l[2]==88):=by
 match l,h with
 | a :: b :: c :: r,_=>rfl
theorem SZ (s:ByteArray) (w:World) (hz:s.size<=1099511627776) (h2:2<=s.size):Calls Tryz.prog 165 #[.string s] w (Aas (AR s.toList) w):=by
 have hsl:=Aa s
 have hF:Hid (AK s.toList=if isX s.toList=true then 3 else 2):=rfl
 have hB:Hid (CK s.toList=if isX s.toList=true then 16 else 10):=rfl
 have hv:Hid (AR s.toList=if (AE (CK s.toList) 0 (s.toList.drop (AK s.toList))).2=0 then ([38],1) else (Cs (AE (CK s.toList) 0 (s.toList.drop (AK s.toList))).1,if (s.toList.drop (AK s.toList+(AE (CK s.toList) 0 (s.toList.drop (AK s.toList))).2)).head? =some 59 then AK s.toList+(AE (CK s.toList) 0 (s.toList.drop (AK s.toList))).2+1 else AK s.toList+(AE (CK s.toList) 0 (s.toList.drop (AK s.toList))).2)):=rfl
 have hfl:AK s.toList<=s.size:=by
  unfold AK;split
  ·rename_i hx
   by_cases h:s.size<=2
   ·rw [MO Qa] at hx;cases hx
   ·omega
  ·exact h2
 have hfb:2<=AK s.toList/\AK s.toList<=3/\CK s.toList<=16/\10<=CK s.toList:=by
  unfold AK CK
  split<;>decide
 obtain ⟨F,hFe⟩:=N2 (AK s.toList);obtain ⟨B,hBe⟩:=N2 (CK s.toList);rw [hFe] at hF hv hfl hfb;rw [hBe] at hB hv hfb;replace hFe:=H0 hFe;replace hBe:=H0 hBe;obtain ⟨R,hR⟩:=N2 (AE B 0 (s.toList.drop F));rw [hR] at hv;have hdl:=Ng B (s.toList.drop F) 0 Qc;rw [hR,List.length_drop,hsl] at hdl;obtain ⟨N,K⟩:=R;dsimp only at hv hdl
 have hway:(s.size<=2/\F=2/\B=10)\/(∃ h:2<s.size,(s[2]=120\/(s[2]≠120/\s[2]=88))/\F=3/\B=16)\/(∃ h:2<s.size,(s[2]≠120/\s[2]≠88)/\F=2/\B=10):=by
  by_cases h:s.size<=2
  ·left;have e:=MO (l:=s.toList) Qa;rw [e] at hF hB;exact ⟨h,hF.out,hB.out⟩
  ·have h3:2<s.size:=Qa;have e:=AhO (l:=s.toList) Qa;rw [EJ s 2 h3] at e;rw [e] at hF hB;right
   by_cases e1:s[2]=120
   ·left;rw [e1] at hF hB;exact ⟨h3,.inl e1,hF.out,hB.out⟩
   ·by_cases e2:s[2]=88
    ·left;rw [e2] at hF hB;exact ⟨h3,.inr ⟨e1,e2⟩,hF.out,hB.out⟩
    ·right
     have f1:(s[2]==120)=false:=by simpa using e1
     have f2:(s[2]==88)=false:=by simpa using e2
     rw [f1,f2] at hF hB;exact ⟨h3,⟨e1,e2⟩,hF.out,hB.out⟩
 clear hF hB;replace hR:=H0 hR
 rcases hway with ⟨q1,rfl,rfl⟩ | ⟨h3,⟨q1 | ⟨q1,q2⟩,rfl,rfl⟩⟩ | ⟨h3,⟨⟨q1,q2⟩,rfl,rfl⟩⟩
 ·have q2:(s.size:Int)<=2:=Qa;go_enter Tryz.func165,Tryz.ntmps165;go_wp2_with fail
  go_loop [6,7] (fun v6 v7=>∃ n k:Nat,v6= .int .i64 n/\v7= .int .i64 ((2:Int)+(k:Int))/\n<=1114112/\2+k<=s.size/\Hid ((N,K)=((AE 10 n (s.toList.drop (2+k))).1,(AE 10 n (s.toList.drop (2+k))).2+k))) (fun _ v7=>s.size - (intOf v7).toNat)
  case atStart=>exact ⟨0,0,rfl,rfl,Qc,hfl,H0 (by rw [<-hR.out];rfl)⟩
  case round=>
   obtain ⟨n,k,rfl,rfl,hn,hkz,hrun⟩:=hrel;have hi0:(0:Int)<=(2:Int)+(k:Int):=Qa;have hiz:(2:Int)+(k:Int)<=(s.size:Int):=Qa;have hit:((2:Int)+(k:Int)).toNat=2+k:=Qa
   by_cases hlt:2+k<s.size
   ·exact absurd hlt Qa
   ·have hge:(s.size:Int)<=(2:Int)+(k:Int):=Qa;have hnil:Hid ((s.toList.drop (2+k)).head? =none):=H0 Ag3;have hrest:Hid (AE 10 n (s.toList.drop (2+k))=(n,0)):=H0 Ag3
    have hfin:Hid (N=n/\K=k):=H0 Qn
    obtain ⟨hN,hK⟩:=hfin.out;clear hfin;rw [hN,hK] at hv;replace hN:=H0 hN;replace hK:=H0 hK;replace hrest:=H0 hrest;replace hrun:=H0 hrun
    by_cases hk0:k=0
    ·subst hk0;have hv2:Hid (AR s.toList=([38],1)):=H0 Q9;clear hv;go_wp2_with fail;go_ret2;exact ⟨_,Aef,H0 QG,Below.refl _ _⟩
    ·exact absurd hk0 Qa
 ·have q2:((s[2].toNat:Int)==120)=true:=by rw [q1];rfl
  have h3I:(2:Int)<(s.size:Int):=Qa;replace q1:=H0 q1;go_enter Tryz.func165,Tryz.ntmps165;go_wp2_with fail;clear q1 q2
  go_loop [6,7] (fun v6 v7=>∃ n k:Nat,v6= .int .i64 n/\v7= .int .i64 ((3:Int)+(k:Int))/\n<=1114112/\3+k<=s.size/\Hid ((N,K)=((AE 16 n (s.toList.drop (3+k))).1,(AE 16 n (s.toList.drop (3+k))).2+k))) (fun _ v7=>s.size - (intOf v7).toNat)
  case atStart=>exact ⟨0,0,rfl,rfl,Qc,hfl,H0 (by rw [<-hR.out];rfl)⟩
  case round=>
   obtain ⟨n,k,rfl,rfl,hn,hkz,hrun⟩:=hrel;have hi0:(0:Int)<=(3:Int)+(k:Int):=Qa;have hiz:(3:Int)+(k:Int)<=(s.size:Int):=Qa;have hit:((3:Int)+(k:Int)).toNat=3+k:=Qa
   by_cases hlt:3+k<s.size
   ·have hltI:(3:Int)+(k:Int)<(s.size:Int):=Qa;have hdr:=As s (3+k) hlt;obtain ⟨c,hc⟩:=N2 (s[3+k]);rw [hc] at hdr;have b0:=AN c;have b1:=AX c
    have hdg:=H0 (fun w=>A8 (c.toNat:Int) 16 w b0 b1)
    have hcons:Hid ((s.toList.drop (3+k)).head? =some c):=H0 (by rw [hdr];rfl)
    by_cases hd:Ag (c.toNat:Int) (16:Int)<0
    ·have hrest:Hid (AE 16 n (s.toList.drop (3+k))=(n,0)):=H0 (by rw [hdr];exact Kr hd)
     have hdz:=hd;replace hdr:=H0 hdr;generalize Ag (c.toNat:Int) (16:Int)=d at hdg hd hdz
     have hfin:Hid (N=n/\K=k):=H0 Qn
     obtain ⟨hN,hK⟩:=hfin.out;clear hfin;rw [hN,hK] at hv;replace hN:=H0 hN;replace hK:=H0 hK;replace hrest:=H0 hrest;replace hrun:=H0 hrun
     by_cases hk0:k=0
     ·subst hk0;have hv2:Hid (AR s.toList=([38],1)):=H0 Q9;clear hv;go_wp2_with (go_at_call 155;refine (hdg.out _).mono ?_;rintro e w' ⟨rfl,rfl⟩);go_ret2;exact ⟨_,Aef,H0 QG,Below.refl _ _⟩
     ·have k0:(((3:Int)+(k:Int))==(3:Int))=false:=Qg
      have hnum:=H0 (fun w=>ER n w hn)
      by_cases h59:c=59
      ·have e59:((c.toNat:Int)==59)=true:=by rw [h59];rfl
       have hv2:Hid (AR s.toList=(Cs n,3+k+1)):=H0 Aht;clear hv;replace h59:=H0 h59;go_wp2_with (go_at_call 155;refine (hdg.out _).mono ?_;rintro e w' ⟨rfl,rfl⟩);refine (hnum.out _).mono ?_;rintro e w2 ⟨t,rfl,ht,hb⟩;go_wp2_with fail;go_ret2;exact ⟨t,Qo,H0 QC,hb⟩
      ·have e59:((c.toNat:Int)==59)=false:=by rw [beq_eq_false_iff_ne];intro e;exact h59 (UInt8.toNat_inj.1 Ako)
       have hv2:Hid (AR s.toList=(Cs n,3+k)):=H0 Qz;clear hv;replace h59:=H0 h59;go_wp2_with (go_at_call 155;refine (hdg.out _).mono ?_;rintro e w' ⟨rfl,rfl⟩);refine (hnum.out _).mono ?_;rintro e w2 ⟨t,rfl,ht,hb⟩;go_wp2_with fail;go_ret2;exact ⟨t,Qo,H0 QC,hb⟩
    ·have hd0:0<=Ag (c.toNat:Int) (16:Int):=Qa;have hd1:=Lw (c.toNat:Int) (16:Int) Qc
     have hrest:Hid (AE 16 n (s.toList.drop (3+k))=((AE 16 (min (n * 16+(Ag (c.toNat:Int) (16:Int)).toNat) 0x110000) (s.toList.drop (3+(k+1)))).1,(AE 16 (min (n * 16+(Ag (c.toNat:Int) (16:Int)).toNat) 0x110000) (s.toList.drop (3+(k+1)))).2+1)):=H0 (by rw [hdr];exact It hd0)
     obtain ⟨m,hm⟩:∃ m:Nat,Ag (c.toNat:Int) (16:Int)=m:=⟨(Ag (c.toNat:Int) (16:Int)).toNat,Qa⟩;rw [hm] at hdg hrest hd1;rw [Int.toNat_natCast] at hrest;have hnx:Hid ((N,K)=((AE 16 (min (n * 16+m) 0x110000) (s.toList.drop (3+(k+1)))).1,(AE 16 (min (n * 16+m) 0x110000) (s.toList.drop (3+(k+1)))).2+(k+1))):=H0 QJ;replace hdr:=H0 hdr;replace hd:=H0 hd;replace hm:=H0 hm;clear hd0;go_wp2_with (go_at_call 155;refine (hdg.out _).mono ?_;rintro e w' ⟨rfl,rfl⟩);go_round
     case rel=>exact ⟨min (n * 16+m) 0x110000,k+1,Q5,Qj,Qa,Qa,hnx⟩
     case measure=>simp [intOf];omega
   ·have hge:(s.size:Int)<=(3:Int)+(k:Int):=Qa;have hnil:Hid ((s.toList.drop (3+k)).head? =none):=H0 Ag5;have hrest:Hid (AE 16 n (s.toList.drop (3+k))=(n,0)):=H0 Ag5
    have hfin:Hid (N=n/\K=k):=H0 Qn
    obtain ⟨hN,hK⟩:=hfin.out;clear hfin;rw [hN,hK] at hv;replace hN:=H0 hN;replace hK:=H0 hK;replace hrest:=H0 hrest;replace hrun:=H0 hrun
    by_cases hk0:k=0
    ·subst hk0;have hv2:Hid (AR s.toList=([38],1)):=H0 Q9;clear hv;go_wp2_with fail;go_ret2;exact ⟨_,Aef,H0 QG,Below.refl _ _⟩
    ·have k0:(((3:Int)+(k:Int))==(3:Int))=false:=Qg
     have hnum:=H0 (fun w=>ER n w hn)
     have hv2:Hid (AR s.toList=(Cs n,3+k)):=H0 Aj5;clear hv;go_wp2_with fail;refine (hnum.out _).mono ?_;rintro e w2 ⟨t,rfl,ht,hb⟩;go_wp2_with fail;go_ret2;exact ⟨t,Qo,H0 QC,hb⟩
 ·have q3:((s[2].toNat:Int)==120)=false:=by rw [q2];rfl
  have q4:((s[2].toNat:Int)==88)=true:=by rw [q2];rfl
  have h3I:(2:Int)<(s.size:Int):=Qa;replace q1:=H0 q1;replace q2:=H0 q2;go_enter Tryz.func165,Tryz.ntmps165;go_wp2_with fail;clear q1 q2
  go_loop [6,7] (fun v6 v7=>∃ n k:Nat,v6= .int .i64 n/\v7= .int .i64 ((3:Int)+(k:Int))/\n<=1114112/\3+k<=s.size/\Hid ((N,K)=((AE 16 n (s.toList.drop (3+k))).1,(AE 16 n (s.toList.drop (3+k))).2+k))) (fun _ v7=>s.size - (intOf v7).toNat)
  case atStart=>exact ⟨0,0,rfl,rfl,Qc,hfl,H0 (by rw [<-hR.out];rfl)⟩
  case round=>
   obtain ⟨n,k,rfl,rfl,hn,hkz,hrun⟩:=hrel;have hi0:(0:Int)<=(3:Int)+(k:Int):=Qa;have hiz:(3:Int)+(k:Int)<=(s.size:Int):=Qa;have hit:((3:Int)+(k:Int)).toNat=3+k:=Qa
   by_cases hlt:3+k<s.size
   ·have hltI:(3:Int)+(k:Int)<(s.size:Int):=Qa;have hdr:=As s (3+k) hlt;obtain ⟨c,hc⟩:=N2 (s[3+k]);rw [hc] at hdr;have b0:=AN c;have b1:=AX c
    have hdg:=H0 (fun w=>A8 (c.toNat:Int) 16 w b0 b1)
    have hcons:Hid ((s.toList.drop (3+k)).head? =some c):=H0 (by rw [hdr];rfl)
    by_cases hd:Ag (c.toNat:Int) (16:Int)<0
    ·have hrest:Hid (AE 16 n (s.toList.drop (3+k))=(n,0)):=H0 (by rw [hdr];exact Kr hd)
     have hdz:=hd;replace hdr:=H0 hdr;generalize Ag (c.toNat:Int) (16:Int)=d at hdg hd hdz
     have hfin:Hid (N=n/\K=k):=H0 Qn
     obtain ⟨hN,hK⟩:=hfin.out;clear hfin;rw [hN,hK] at hv;replace hN:=H0 hN;replace hK:=H0 hK;replace hrest:=H0 hrest;replace hrun:=H0 hrun
     by_cases hk0:k=0
     ·subst hk0;have hv2:Hid (AR s.toList=([38],1)):=H0 Q9;clear hv;go_wp2_with (go_at_call 155;refine (hdg.out _).mono ?_;rintro e w' ⟨rfl,rfl⟩);go_ret2;exact ⟨_,Aef,H0 QG,Below.refl _ _⟩
     ·have k0:(((3:Int)+(k:Int))==(3:Int))=false:=Qg
      have hnum:=H0 (fun w=>ER n w hn)
      by_cases h59:c=59
      ·have e59:((c.toNat:Int)==59)=true:=by rw [h59];rfl
       have hv2:Hid (AR s.toList=(Cs n,3+k+1)):=H0 Aht;clear hv;replace h59:=H0 h59;go_wp2_with (go_at_call 155;refine (hdg.out _).mono ?_;rintro e w' ⟨rfl,rfl⟩);refine (hnum.out _).mono ?_;rintro e w2 ⟨t,rfl,ht,hb⟩;go_wp2_with fail;go_ret2;exact ⟨t,Qo,H0 QC,hb⟩
      ·have e59:((c.toNat:Int)==59)=false:=by rw [beq_eq_false_iff_ne];intro e;exact h59 (UInt8.toNat_inj.1 Ako)
       have hv2:Hid (AR s.toList=(Cs n,3+k)):=H0 Qz;clear hv;replace h59:=H0 h59;go_wp2_with (go_at_call 155;refine (hdg.out _).mono ?_;rintro e w' ⟨rfl,rfl⟩);refine (hnum.out _).mono ?_;rintro e w2 ⟨t,rfl,ht,hb⟩;go_wp2_with fail;go_ret2;exact ⟨t,Qo,H0 QC,hb⟩
    ·have hd0:0<=Ag (c.toNat:Int) (16:Int):=Qa;have hd1:=Lw (c.toNat:Int) (16:Int) Qc
     have hrest:Hid (AE 16 n (s.toList.drop (3+k))=((AE 16 (min (n * 16+(Ag (c.toNat:Int) (16:Int)).toNat) 0x110000) (s.toList.drop (3+(k+1)))).1,(AE 16 (min (n * 16+(Ag (c.toNat:Int) (16:Int)).toNat) 0x110000) (s.toList.drop (3+(k+1)))).2+1)):=H0 (by rw [hdr];exact It hd0)
     obtain ⟨m,hm⟩:∃ m:Nat,Ag (c.toNat:Int) (16:Int)=m:=⟨(Ag (c.toNat:Int) (16:Int)).toNat,Qa⟩;rw [hm] at hdg hrest hd1;rw [Int.toNat_natCast] at hrest;have hnx:Hid ((N,K)=((AE 16 (min (n * 16+m) 0x110000) (s.toList.drop (3+(k+1)))).1,(AE 16 (min (n * 16+m) 0x110000) (s.toList.drop (3+(k+1)))).2+(k+1))):=H0 QJ;replace hdr:=H0 hdr;replace hd:=H0 hd;replace hm:=H0 hm;clear hd0;go_wp2_with (go_at_call 155;refine (hdg.out _).mono ?_;rintro e w' ⟨rfl,rfl⟩);go_round
     case rel=>exact ⟨min (n * 16+m) 0x110000,k+1,Q5,Qj,Qa,Qa,hnx⟩
     case measure=>simp [intOf];omega
   ·have hge:(s.size:Int)<=(3:Int)+(k:Int):=Qa;have hnil:Hid ((s.toList.drop (3+k)).head? =none):=H0 Ag5;have hrest:Hid (AE 16 n (s.toList.drop (3+k))=(n,0)):=H0 Ag5
    have hfin:Hid (N=n/\K=k):=H0 Qn
    obtain ⟨hN,hK⟩:=hfin.out;clear hfin;rw [hN,hK] at hv;replace hN:=H0 hN;replace hK:=H0 hK;replace hrest:=H0 hrest;replace hrun:=H0 hrun
    by_cases hk0:k=0
    ·subst hk0;have hv2:Hid (AR s.toList=([38],1)):=H0 Q9;clear hv;go_wp2_with fail;go_ret2;exact ⟨_,Aef,H0 QG,Below.refl _ _⟩
    ·have k0:(((3:Int)+(k:Int))==(3:Int))=false:=Qg
     have hnum:=H0 (fun w=>ER n w hn)
     have hv2:Hid (AR s.toList=(Cs n,3+k)):=H0 Aj5;clear hv;go_wp2_with fail;refine (hnum.out _).mono ?_;rintro e w2 ⟨t,rfl,ht,hb⟩;go_wp2_with fail;go_ret2;exact ⟨t,Qo,H0 QC,hb⟩
 ·have q3:((s[2].toNat:Int)==120)=false:=by rw [beq_eq_false_iff_ne];intro e;exact q1 (UInt8.toNat_inj.1 (by show s[2].toNat=120;omega))
  have q4:((s[2].toNat:Int)==88)=false:=by rw [beq_eq_false_iff_ne];intro e;exact q2 (UInt8.toNat_inj.1 (by show s[2].toNat=88;omega))
  have h3I:(2:Int)<(s.size:Int):=Qa;replace q1:=H0 q1;replace q2:=H0 q2;go_enter Tryz.func165,Tryz.ntmps165;go_wp2_with fail;clear q1 q2
  go_loop [6,7] (fun v6 v7=>∃ n k:Nat,v6= .int .i64 n/\v7= .int .i64 ((2:Int)+(k:Int))/\n<=1114112/\2+k<=s.size/\Hid ((N,K)=((AE 10 n (s.toList.drop (2+k))).1,(AE 10 n (s.toList.drop (2+k))).2+k))) (fun _ v7=>s.size - (intOf v7).toNat)
  case atStart=>exact ⟨0,0,rfl,rfl,Qc,hfl,H0 (by rw [<-hR.out];rfl)⟩
  case round=>
   obtain ⟨n,k,rfl,rfl,hn,hkz,hrun⟩:=hrel;have hi0:(0:Int)<=(2:Int)+(k:Int):=Qa;have hiz:(2:Int)+(k:Int)<=(s.size:Int):=Qa;have hit:((2:Int)+(k:Int)).toNat=2+k:=Qa
   by_cases hlt:2+k<s.size
   ·have hltI:(2:Int)+(k:Int)<(s.size:Int):=Qa;have hdr:=As s (2+k) hlt;obtain ⟨c,hc⟩:=N2 (s[2+k]);rw [hc] at hdr;have b0:=AN c;have b1:=AX c
    have hdg:=H0 (fun w=>A8 (c.toNat:Int) 10 w b0 b1)
    have hcons:Hid ((s.toList.drop (2+k)).head? =some c):=H0 (by rw [hdr];rfl)
    by_cases hd:Ag (c.toNat:Int) (10:Int)<0
    ·have hrest:Hid (AE 10 n (s.toList.drop (2+k))=(n,0)):=H0 (by rw [hdr];exact Kr hd)
     have hdz:=hd;replace hdr:=H0 hdr;generalize Ag (c.toNat:Int) (10:Int)=d at hdg hd hdz
     have hfin:Hid (N=n/\K=k):=H0 Qn
     obtain ⟨hN,hK⟩:=hfin.out;clear hfin;rw [hN,hK] at hv;replace hN:=H0 hN;replace hK:=H0 hK;replace hrest:=H0 hrest;replace hrun:=H0 hrun
     by_cases hk0:k=0
     ·subst hk0;have hv2:Hid (AR s.toList=([38],1)):=H0 Q9;clear hv;go_wp2_with (go_at_call 155;refine (hdg.out _).mono ?_;rintro e w' ⟨rfl,rfl⟩);go_ret2;exact ⟨_,Aef,H0 QG,Below.refl _ _⟩
     ·have k0:(((2:Int)+(k:Int))==(2:Int))=false:=Qg
      have hnum:=H0 (fun w=>ER n w hn)
      by_cases h59:c=59
      ·have e59:((c.toNat:Int)==59)=true:=by rw [h59];rfl
       have hv2:Hid (AR s.toList=(Cs n,2+k+1)):=H0 Aht;clear hv;replace h59:=H0 h59;go_wp2_with (go_at_call 155;refine (hdg.out _).mono ?_;rintro e w' ⟨rfl,rfl⟩);refine (hnum.out _).mono ?_;rintro e w2 ⟨t,rfl,ht,hb⟩;go_wp2_with fail;go_ret2;exact ⟨t,Qo,H0 QC,hb⟩
      ·have e59:((c.toNat:Int)==59)=false:=by rw [beq_eq_false_iff_ne];intro e;exact h59 (UInt8.toNat_inj.1 Ako)
       have hv2:Hid (AR s.toList=(Cs n,2+k)):=H0 Qz;clear hv;replace h59:=H0 h59;go_wp2_with (go_at_call 155;refine (hdg.out _).mono ?_;rintro e w' ⟨rfl,rfl⟩);refine (hnum.out _).mono ?_;rintro e w2 ⟨t,rfl,ht,hb⟩;go_wp2_with fail;go_ret2;exact ⟨t,Qo,H0 QC,hb⟩
    ·have hd0:0<=Ag (c.toNat:Int) (10:Int):=Qa;have hd1:=Lw (c.toNat:Int) (10:Int) Qc
     have hrest:Hid (AE 10 n (s.toList.drop (2+k))=((AE 10 (min (n * 10+(Ag (c.toNat:Int) (10:Int)).toNat) 0x110000) (s.toList.drop (2+(k+1)))).1,(AE 10 (min (n * 10+(Ag (c.toNat:Int) (10:Int)).toNat) 0x110000) (s.toList.drop (2+(k+1)))).2+1)):=H0 (by rw [hdr];exact It hd0)
     obtain ⟨m,hm⟩:∃ m:Nat,Ag (c.toNat:Int) (10:Int)=m:=⟨(Ag (c.toNat:Int) (10:Int)).toNat,Qa⟩;rw [hm] at hdg hrest hd1;rw [Int.toNat_natCast] at hrest;have hnx:Hid ((N,K)=((AE 10 (min (n * 10+m) 0x110000) (s.toList.drop (2+(k+1)))).1,(AE 10 (min (n * 10+m) 0x110000) (s.toList.drop (2+(k+1)))).2+(k+1))):=H0 QJ;replace hdr:=H0 hdr;replace hd:=H0 hd;replace hm:=H0 hm;clear hd0;go_wp2_with (go_at_call 155;refine (hdg.out _).mono ?_;rintro e w' ⟨rfl,rfl⟩);go_round
     case rel=>exact ⟨min (n * 10+m) 0x110000,k+1,Q5,Qj,Qa,Qa,hnx⟩
     case measure=>simp [intOf];omega
   ·have hge:(s.size:Int)<=(2:Int)+(k:Int):=Qa;have hnil:Hid ((s.toList.drop (2+k)).head? =none):=H0 Ag3;have hrest:Hid (AE 10 n (s.toList.drop (2+k))=(n,0)):=H0 Ag3
    have hfin:Hid (N=n/\K=k):=H0 Qn
    obtain ⟨hN,hK⟩:=hfin.out;clear hfin;rw [hN,hK] at hv;replace hN:=H0 hN;replace hK:=H0 hK;replace hrest:=H0 hrest;replace hrun:=H0 hrun
    by_cases hk0:k=0
    ·exfalso;omega
    ·have k0:(((2:Int)+(k:Int))==(2:Int))=false:=Qg
     have hnum:=H0 (fun w=>ER n w hn)
     have hv2:Hid (AR s.toList=(Cs n,2+k)):=H0 Aj5;clear hv;go_wp2_with fail;refine (hnum.out _).mono ?_;rintro e w2 ⟨t,rfl,ht,hb⟩;go_wp2_with fail;go_ret2;exact ⟨t,Qo,H0 QC,hb⟩
end Go.Proofs.YtonomfeipkdmhaaGreatDoor
