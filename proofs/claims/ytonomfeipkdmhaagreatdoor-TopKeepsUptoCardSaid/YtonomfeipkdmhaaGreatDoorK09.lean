/- Part 9: lemmas. -/
import Derived.Test.YtonomfeipkdmhaaGreatDoorK08
import Derived.Deep.WholeRow
import Derived.Great.BuildSlice
import Derived.Laws.ResultCell
import Derived.Lib.Join
set_option linter.unusedVariables false
set_option linter.unusedSimpArgs false
set_option maxRecDepth 100000
set_option maxHeartbeats 16000000
namespace Go.Proofs.YtonomfeipkdmhaaGreatDoor
open Go.RowKit
theorem L3:∀ (f:Nat) (s:List UInt8) (st:Db) (m:List Nat),(∀ x∈st.l,x<=1114111)->Dr f s st=some m->∀ x∈m,x<=1114111
 | 0,_,_,_,_,h=>(nomatch h)
 | f+1,s,st,m,hl,h=>by
  rw [Dr] at h;split at h
  ·cases h;exact hl
  ·split at h
   ·cases h
   ·split at h
    ·cases h
    ·rename_i d n _ _ st' hs;refine L3 f _ st' m ?_ h;unfold D5 at hs;split at hs
     ·cases hs
     ·rename_i hq;cases hs;intro x hx;rw [Bool.or_eq_true,not_or] at hq;have hsg:=hq.2;rw [Bool.not_eq_true,Bool.not_eq_false'] at hsg
      rcases List.mem_append.1 (show x∈List.take _ st.l++_ :: List.drop _ st.l from hx) with hx | hx
      ·exact hl x (List.mem_of_mem_take hx)
      ·rcases List.mem_cons.1 hx with rfl | hx
       ·exact Qu hsg
       ·exact hl x (List.mem_of_mem_drop hx)
theorem Aew {s:List UInt8} {m:List Nat} (h:MD s=some m):∀ x∈m,x<=1114111:=by
 unfold MD at h;split at h
 ·split at h
  ·exact L3 _ _ _ _ (fun x hx=>by cases (show x∈([]:List Nat) from hx)) h
  ·split at h
   ·cases h
   ·split at h
    ·refine L3 _ _ _ _ (fun x hx=> ?_) h
     obtain ⟨c,_,rfl⟩:=List.mem_map.1 (show x∈List.map _ _ from hx);have:=c.toNat_lt;omega
    ·cases h
 ·exact L3 _ _ _ _ (fun x hx=>by cases (show x∈([]:List Nat) from hx)) h
theorem NF (m:Nat):∀ (l:List Nat) (st:CM),st.out.length<=256+40 * st.done->(l.foldl (AX m) st).out.length<=256+40 * (l.foldl (AX m) st).done
 | [],st,h=>h
 | x :: r,st,h=>by
  rw [List.foldl_cons];refine NF m r _ ?_;unfold AX;split
  ·have:=Tb st.d st.bias;show (st.out++RH st.d st.bias).length<=256+40 * (st.done+1);rw [List.length_append];omega
  ·split
   ·exact h
   ·exact h
theorem Qk (l:List Nat):∀ (f sg:Nat) (st:CM),st.out.length<=256+40 * st.done->st.done<=2 * l.length->(Fh l f sg st).out.length<=256+80 * l.length
 | 0,_,st,h,h2=>by show st.out.length<=_;omega
 | f+1,sg,st,h,h2=>by
  rw [Fh];split
  ·rename_i hlt;dsimp only;refine Qk l f _ _ ?_ ?_
   ·exact NF _ l _ h
   ·dsimp only;rw [F5];have:=List.count_le_length (a:=(Cs l sg).toNat) (l:=l);dsimp only;omega
  ·omega
theorem UU {l:List Nat} {t:List UInt8} (h:Li l=some t):t.length<=20656:=by
 unfold Li at h;split at h
 ·cases h
 ·rename_i hl;split at h
  ·cases h;have hb:=Ev l;have hb2:=L2 128 l
   have:=Qk l (l.length+1) 128 (EU l) (by
    show (EU l).out.length<=256+40 * (BS l).length;unfold EU;dsimp only;split
    ·simp
    ·rw [List.length_append,List.length_singleton];omega) (by show (BS l).length<=_;omega)
   omega
  ·cases h
theorem Td {l t:List UInt8} (h:AW l=some t):t.length<=l.length+20660:=by
 unfold AW at h;split at h
 ·split at h
  ·split at h
   ·split at h
    ·cases h;omega
    ·cases h
   ·cases h
  ·cases h
 ·split at h
  ·cases h;omega
  ·split at h
   ·split at h
    ·rename_i t' he;cases h;have:=UU he;rw [List.length_append];have:TW.length=4:=rfl;omega
    ·cases h
   ·cases h
def Ky (ls:List (List UInt8)):Nat:=(ls.map List.length).sum
theorem Kc:∀ ls:List (List UInt8),(EZ ls).length<=Ky ls+ls.length
 | []=>Nat.zero_le _
 | [t]=>by show t.length<=_;unfold Ky;simp
 | t :: u :: r=>by
  show (t++46 :: EZ (u :: r)).length<=_;have:=Kc (u :: r);unfold Ky at this⊢;rw [List.length_append,List.length_cons,List.map_cons,List.sum_cons,List.length_cons];omega
theorem Ji (l:List UInt8):Ky (Ay 46 l)<=l.length/\(Ay 46 l).length<=l.length+1:=by
 induction l with
 | nil=>exact ⟨Nat.le_refl _,Nat.le_refl _⟩
 | cons d r ih=>
  rw [Da];have hne:=Ds 46 r
  cases hs:Ay 46 r with
  | nil=>exact absurd hs hne
  | cons a q=>
   rw [hs] at ih;unfold Ky at ih⊢
   by_cases h:d=46
   ·rw [if_pos h];simp only [List.map_cons,List.sum_cons,List.length_cons,List.length_nil] at ih⊢;omega
   ·rw [if_neg h]
    show (List.map List.length ((d :: a) :: q)).sum<=_/\((d :: a) :: q).length<=_
    simp only [List.map_cons,List.sum_cons,List.length_cons] at ih⊢;omega
theorem XA:∀ ls:List (List UInt8),Lib.join ls [46]=EZ ls
 | []=>rfl
 | [t]=>by simp [Lib.join,EZ]
 | t :: u :: r=>by
  have:=XA (u :: r);simp only [Lib.join] at this⊢;show _=t++46 :: EZ (u :: r);rw [<-this];simp
theorem KB:∀ (a:List (List UInt8)) (x:List UInt8),A0 (a++[x])=match A0 a with | none=>none | some q=>(AW x).map (fun t=>q++[t])
 | [],x=>by
  show (match AW x with | none=>none | some t=>(A0 []).map (t :: ·))=_
  cases AW x<;>rfl
 | y :: r,x=>by
  have ih:=KB r x
  show (match AW y with | none=>none | some t=>(A0 (r++[x])).map (t :: ·))=_
  show _=match (match AW y with | none=>none | some t=>(A0 r).map (t :: ·)) with | none=>none | some q=>(AW x).map (fun t=>q++[t])
  cases AW y with
  | none=>rfl
  | some t=>
   dsimp only;rw [ih]
   cases A0 r with
   | none=>rfl
   | some q=>
    dsimp only [Option.map_some]
    cases AW x<;>rfl
theorem QX {a b:List (List UInt8)} (h:A0 a=none):A0 (a++b)=none:=by
 induction a with
 | nil=>cases h
 | cons y r ih=>
  rw [List.cons_append];unfold A0 at h⊢
  cases hy:AW y with
  | none=>rfl
  | some t=>
   rw [hy] at h;dsimp only at h⊢;rw [Option.map_eq_none_iff] at h;rw [ih h];rfl
theorem HP:∀ {a b:List (List UInt8)},A0 a=some b->b.length=a.length/\Ky b<=Ky a+20660 * a.length
 | [],b,h=>by cases h;exact ⟨rfl,Nat.le_refl _⟩
 | y :: r,b,h=>by
  unfold A0 at h
  cases hy:AW y with
  | none=>rw [hy] at h;cases h
  | some t=>
   rw [hy] at h;dsimp only at h;rw [Option.map_eq_some_iff] at h;obtain ⟨q,hq,rfl⟩:=h;have ih:=HP hq;have:=Td hy;unfold Ky at ih⊢;simp only [List.map_cons,List.sum_cons,List.length_cons] at ih⊢;omega
theorem Nh:∀ (a:List Nat) (x:Nat),Ck (a++[x])=match Ck a with | none=>none | some q=>if (Fc x).2=0 then none else some (q++(Fc x).1)
 | [],x=>by
  show (if (Fc x).2=0 then none else (Ck []).map ((Fc x).1++ ·))=_
  show _=if (Fc x).2=0 then none else some ([]++(Fc x).1)
  split
  ·rfl
  ·show some ((Fc x).1++[])=_;rw [List.append_nil];rfl
 | y :: r,x=>by
  have ih:=Nh r x
  show (if (Fc y).2=0 then none else (Ck (r++[x])).map ((Fc y).1++ ·))=match (if (Fc y).2=0 then none else (Ck r).map ((Fc y).1++ ·)) with | none=>none | some q=>if (Fc x).2=0 then none else some (q++(Fc x).1)
  rw [ih]
  by_cases h:(Fc y).2=0
  ·rw [if_pos h,if_pos h]
  ·rw [if_neg h,if_neg h]
   cases Ck r with
   | none=>rfl
   | some q=>
    dsimp only [Option.map_some];split
    ·rfl
    ·rw [Option.map_some,List.append_assoc]
theorem Uq {a b:List Nat} (h:Ck a=none):Ck (a++b)=none:=by
 induction a with
 | nil=>cases h
 | cons y r ih=>
  rw [List.cons_append];unfold Ck at h⊢;split at h
  ·rename_i hy;rw [if_pos hy]
  ·rename_i hy;rw [Option.map_eq_none_iff] at h;rw [if_neg hy,ih h];rfl
theorem Lq (K m:Nat):∀ (l:List Nat) (st:CM),st.out.length<=K+40 * st.done->(l.foldl (AX m) st).out.length<=K+40 * (l.foldl (AX m) st).done
 | [],st,h=>h
 | x :: r,st,h=>by
  rw [List.foldl_cons];refine Lq K m r _ ?_;unfold AX;split
  ·have:=Tb st.d st.bias;show (st.out++RH st.d st.bias).length<=K+40 * (st.done+1);rw [List.length_append];omega
  ·split
   ·exact h
   ·exact h
theorem Qp (K:Nat) (l:List Nat):∀ (f sg:Nat) (st:CM),st.out.length<=K+40 * st.done->st.done<=2 * l.length->(Fh l f sg st).out.length<=K+80 * l.length
 | 0,_,st,h,h2=>by show st.out.length<=_;omega
 | f+1,sg,st,h,h2=>by
  rw [Fh];split
  ·rename_i hlt;dsimp only;refine Qp K l f _ _ ?_ ?_
   ·exact Lq K _ l _ h
   ·dsimp only;rw [F5];have:=List.count_le_length (a:=(Cs l sg).toNat) (l:=l);dsimp only;omega
  ·omega
theorem Sq {l:List Nat} {t:List UInt8} (h:Li l=some t):t.length<=81 * l.length+1:=by
 unfold Li at h;split at h
 ·cases h
 ·split at h
  ·cases h;have hb:=Ev l;have hb2:=L2 128 l
   have:=Qp (l.length+1) l (l.length+1) 128 (EU l) (by
    show (EU l).out.length<=l.length+1+40 * (BS l).length;unfold EU;dsimp only;split
    ·simp
    ·rw [List.length_append,List.length_singleton];omega) (by show (BS l).length<=_;omega)
   omega
  ·cases h
theorem Q6 {l t:List UInt8} (h:AW l=some t):t.length<=248 * l.length:=by
 unfold AW at h;split at h
 ·split at h
  ·split at h
   ·split at h
    ·cases h;omega
    ·cases h
   ·cases h
  ·cases h
 ·split at h
  ·cases h;omega
  ·rename_i hlo;split at h
   ·split at h
    ·rename_i t' he;cases h;have h1:=Sq he;have h2:=Lw l
     have h3:0<l.length:=by
      cases l with
      | nil=>exact absurd rfl hlo
      | cons a r=>simp
     rw [List.length_append];have:TW.length=4:=rfl;omega
    ·cases h
   ·cases h
theorem KN:∀ {a b:List (List UInt8)},A0 a=some b->Ky b<=248 * Ky a/\b.length=a.length
 | [],b,h=>by cases h;exact ⟨Nat.le_refl _,rfl⟩
 | y :: r,b,h=>by
  unfold A0 at h
  cases hy:AW y with
  | none=>rw [hy] at h;cases h
  | some t=>
   rw [hy] at h;dsimp only at h;rw [Option.map_eq_some_iff] at h;obtain ⟨q,hq,rfl⟩:=h;have ih:=KN hq;have:=Q6 hy;unfold Ky at ih⊢;simp only [List.map_cons,List.sum_cons,List.length_cons] at ih⊢;omega
def Am:Bz->CL
 | .none=>⟨0,⟨#[]⟩,0,[0,0,0,0,0,0,0,0]⟩
 | .empty=>⟨1,⟨#[]⟩,0,[0,0,0,0,0,0,0,0]⟩
 | .name n=>⟨2,⟨n.toArray⟩,0,[0,0,0,0,0,0,0,0]⟩
 | .four n=>⟨3,⟨#[]⟩,n,[0,0,0,0,0,0,0,0]⟩
 | .six l=>⟨4,⟨#[]⟩,0,l⟩
 | .opaqueN n=>⟨5,⟨n.toArray⟩,0,[0,0,0,0,0,0,0,0]⟩
def Agl (h:Bz):Value:= .agg (An (Am h))
theorem AN:(Tryz.prog.info? 32).map (·.size)=some 11:=by kernel_rfl
theorem A2 (h:CL):(An h).all (·.oneCell')=true:=by unfold An;simp [Value.oneCell']
def Kn (o:Option Bz) (w:World) (e:Ending) (w':World):Prop:=e= .returned (.tuple #[Agl (o.getD .none),.bool o.isSome])/\Below w.heap.size w w'
theorem BM {w:World} {g:Nat} {old c:Array Value} {T:TypeId} {fr:Nat × Nat} (h:w.heap[g]? =some (.cells old T fr)):(w.setRow g c).heap[g]? =some (.cells c T fr):=by
 simp only [World.setRow];rw [Array.getElem?_modify,if_pos rfl,h];rfl
theorem Ae {B:Nat} {w0 w:World} (h:Below B w0 w) {g:Nat} (hg:B<=g) (c:Array Value):Below B w0 (w.setRow g c):=by
 refine h.trans ⟨rfl,rfl,rfl,by simp [World.setRow],fun k hk=> ?_⟩
 simp only [World.setRow]
 rw [Array.getElem?_modify,if_neg (by omega)]
theorem B0 {f:Func} {R:Ending->World->Prop} {a:Act} {w:World} {g:Nat} {h:CL} {b:Bool} {p u:Nat} (hf:f.results= #[.cell p 32,.tmp u]) (h2:a.tmps.getD p undef= .pointer (some ⟨g,0,none⟩)) (h3:a.tmps.getD u undef= .bool b) (hd:a.defers=[])
  (hg:w.heap[g]? =some (.cells (An h) 32)) (hR:R (.returned (.tuple #[.agg (An h),.bool b])) w):
  bodyPost Tryz.prog f R .ret a w:=by
 refine bodyPost_ret (v:= .tuple #[.agg (An h),.bool b]) ?_ hd hR;rw [results_cell_tmp hf,h2,h3]
 simp [asAddr,Result.andThen,run_loadVar_row (P:=Tryz.prog) w g _ 32 _ _ _ hg Tryz.underlying32 rfl (by kernel_rfl)]
theorem YS (c:UInt8) (w:World):Calls Tryz.prog 305 #[.int .u8 (c.toNat:Int)] w fun e w'=>e= .returned (.bool (EN c))/\w=w':=by
 have key:∀ (k:UInt8),c=k->EN k=true->(Calls Tryz.prog 305 #[.int .u8 (k.toNat:Int)] w fun e w'=>e= .returned (.bool true)/\w=w')->Calls Tryz.prog 305 #[.int .u8 (c.toNat:Int)] w fun e w'=>e= .returned (.bool (EN c))/\w=w':=by
  intro k h1 h2 h3;subst h1;rw [h2];exact h3
 by_cases h0:c=0
 ·refine key 0 h0 (by decide) ?_
  show Calls _ _ #[.int .u8 0] _ _;go_enter Tryz.func305,Tryz.ntmps305;go_wp2_with fail;go_ret;exact ⟨rfl,rfl⟩
 by_cases h9:c=9
 ·refine key 9 h9 (by decide) ?_
  show Calls _ _ #[.int .u8 9] _ _;go_enter Tryz.func305,Tryz.ntmps305;go_wp2_with fail;go_ret;exact ⟨rfl,rfl⟩
 by_cases h10:c=10
 ·refine key 10 h10 (by decide) ?_
  show Calls _ _ #[.int .u8 10] _ _;go_enter Tryz.func305,Tryz.ntmps305;go_wp2_with fail;go_ret;exact ⟨rfl,rfl⟩
 by_cases h13:c=13
 ·refine key 13 h13 (by decide) ?_
  show Calls _ _ #[.int .u8 13] _ _;go_enter Tryz.func305,Tryz.ntmps305;go_wp2_with fail;go_ret;exact ⟨rfl,rfl⟩
 by_cases h32:c=32
 ·refine key 32 h32 (by decide) ?_
  show Calls _ _ #[.int .u8 32] _ _;go_enter Tryz.func305,Tryz.ntmps305;go_wp2_with fail;go_ret;exact ⟨rfl,rfl⟩
 by_cases h35:c=35
 ·refine key 35 h35 (by decide) ?_
  show Calls _ _ #[.int .u8 35] _ _;go_enter Tryz.func305,Tryz.ntmps305;go_wp2_with fail;go_ret;exact ⟨rfl,rfl⟩
 by_cases h47:c=47
 ·refine key 47 h47 (by decide) ?_
  show Calls _ _ #[.int .u8 47] _ _;go_enter Tryz.func305,Tryz.ntmps305;go_wp2_with fail;go_ret;exact ⟨rfl,rfl⟩
 by_cases h58:c=58
 ·refine key 58 h58 (by decide) ?_
  show Calls _ _ #[.int .u8 58] _ _;go_enter Tryz.func305,Tryz.ntmps305;go_wp2_with fail;go_ret;exact ⟨rfl,rfl⟩
 by_cases h60:c=60
 ·refine key 60 h60 (by decide) ?_
  show Calls _ _ #[.int .u8 60] _ _;go_enter Tryz.func305,Tryz.ntmps305;go_wp2_with fail;go_ret;exact ⟨rfl,rfl⟩
 by_cases h62:c=62
 ·refine key 62 h62 (by decide) ?_
  show Calls _ _ #[.int .u8 62] _ _;go_enter Tryz.func305,Tryz.ntmps305;go_wp2_with fail;go_ret;exact ⟨rfl,rfl⟩
 by_cases h63:c=63
 ·refine key 63 h63 (by decide) ?_
  show Calls _ _ #[.int .u8 63] _ _;go_enter Tryz.func305,Tryz.ntmps305;go_wp2_with fail;go_ret;exact ⟨rfl,rfl⟩
 by_cases h64:c=64
 ·refine key 64 h64 (by decide) ?_
  show Calls _ _ #[.int .u8 64] _ _;go_enter Tryz.func305,Tryz.ntmps305;go_wp2_with fail;go_ret;exact ⟨rfl,rfl⟩
 by_cases h91:c=91
 ·refine key 91 h91 (by decide) ?_
  show Calls _ _ #[.int .u8 91] _ _;go_enter Tryz.func305,Tryz.ntmps305;go_wp2_with fail;go_ret;exact ⟨rfl,rfl⟩
 by_cases h92:c=92
 ·refine key 92 h92 (by decide) ?_
  show Calls _ _ #[.int .u8 92] _ _;go_enter Tryz.func305,Tryz.ntmps305;go_wp2_with fail;go_ret;exact ⟨rfl,rfl⟩
 by_cases h93:c=93
 ·refine key 93 h93 (by decide) ?_
  show Calls _ _ #[.int .u8 93] _ _;go_enter Tryz.func305,Tryz.ntmps305;go_wp2_with fail;go_ret;exact ⟨rfl,rfl⟩
 by_cases h94:c=94
 ·refine key 94 h94 (by decide) ?_
  show Calls _ _ #[.int .u8 94] _ _;go_enter Tryz.func305,Tryz.ntmps305;go_wp2_with fail;go_ret;exact ⟨rfl,rfl⟩
 by_cases h124:c=124
 ·refine key 124 h124 (by decide) ?_
  show Calls _ _ #[.int .u8 124] _ _;go_enter Tryz.func305,Tryz.ntmps305;go_wp2_with fail;go_ret;exact ⟨rfl,rfl⟩
 clear key
 have hv:EN c=false:=by
  unfold EN Af8;simp only [List.contains_cons,List.contains_nil,Bool.or_false,Bool.or_eq_false_iff,beq_eq_false_iff_ne];exact ⟨h0,h9,h10,h13,h32,h35,h47,h58,h60,h62,h63,h64,h91,h92,h93,h94,h124⟩
 rw [hv]
 have ne:∀ k:UInt8,c≠k->((c.toNat:Int)==(k.toNat:Int))=false:=fun k h=>by rw [beq_eq_false_iff_ne];intro e;exact h (UInt8.toNat_inj.1 (by omega))
 have n0:((c.toNat:Int)==0)=false:=ne 0 h0;have n9:((c.toNat:Int)==9)=false:=ne 9 h9;have n10:((c.toNat:Int)==10)=false:=ne 10 h10;have n13:((c.toNat:Int)==13)=false:=ne 13 h13;have n32:((c.toNat:Int)==32)=false:=ne 32 h32;have n35:((c.toNat:Int)==35)=false:=ne 35 h35;have n47:((c.toNat:Int)==47)=false:=ne 47 h47;have n58:((c.toNat:Int)==58)=false:=ne 58 h58;have n60:((c.toNat:Int)==60)=false:=ne 60 h60;have n62:((c.toNat:Int)==62)=false:=ne 62 h62;have n63:((c.toNat:Int)==63)=false:=ne 63 h63;have n64:((c.toNat:Int)==64)=false:=ne 64 h64;have n91:((c.toNat:Int)==91)=false:=ne 91 h91;have n92:((c.toNat:Int)==92)=false:=ne 92 h92;have n93:((c.toNat:Int)==93)=false:=ne 93 h93;have n94:((c.toNat:Int)==94)=false:=ne 94 h94;have n124:((c.toNat:Int)==124)=false:=ne 124 h124;clear ne hv h0 h9 h10 h13 h32 h35 h47 h58 h60 h62 h63 h64 h91 h92 h93 h94 h124;generalize (c.toNat:Int)=z at *;go_enter Tryz.func305,Tryz.ntmps305;go_wp2_with fail;go_ret;exact ⟨rfl,rfl⟩
structure FV (w:World) (pa:Option Addr) (n c:Nat) (l:List UInt8):Prop where
 len:l.length=n
 cap:n<=c
 cells:0<n->∃ g o,pa=some ⟨g,o,none⟩/\∀ i (h:i<l.length),w.cell? ⟨g,o+i,none⟩=some (DC l[i])
theorem FV.below {w w':World} {K:Nat} {pa:Option Addr} {n c:Nat} {l:List UInt8} (h:FV w pa n c l) (hb:Below K w w') (hK:w.heap.size<=K):FV w' pa n c l:=by
 refine ⟨h.len,h.cap,fun h0=> ?_⟩
 obtain ⟨g,o,e,hc⟩:=h.cells h0
 refine ⟨g,o,e,fun i hi=> ?_⟩
 have:=World.block_lt_of_cell? w _ (hc i hi)
 rw [hb.cell (by simp at this⊢;omega)]
 exact hc i hi
theorem Adv:Tryz.prog.underlying 25=some (.slice (Tryz.prog.elem 25)):=by kernel_rfl
theorem R3 (w:World):(sizeOf (Tryz.prog.elem 25)).run Tryz.prog w= .ok 1 w:=by kernel_rfl
theorem FV.drop {w:World} {pa:Option Addr} {n c:Nat} {l:List UInt8} (h:FV w pa n c l) (k:Nat) (hk:k<=n):
  ∃ pa',(∀ w0,(Instr.slice 25 (.slice pa n c) (some (.int .i64 (k:Int))) none none).run Tryz.prog w0= .ok (.slice pa' (n - k) (c - k)) w0)/\FV w pa' (n - k) (c - k) (l.drop k):=by
 refine ⟨if c=k then pa else pa.map (·.add (k * 1)),fun w0=> ?_,?_⟩
 ·rw [run_slice_l w0 _ pa n c Adv .i64 (k:Int) (by omega) (by omega),R3]
  rfl
 ·have hcp:=h.cap
  refine ⟨by rw [List.length_drop,h.len],by omega,fun h0=> ?_⟩
  obtain ⟨g,o,e,hc⟩:=h.cells (by omega)
  rw [if_neg (by omega),e]
  refine ⟨g,o+k,by simp [Addr.add],fun i hi=> ?_⟩
  rw [List.length_drop] at hi
  have:=hc (k+i) (by omega)
  rw [Nat.add_assoc,this,List.getElem_drop]
theorem FV.take {w:World} {pa:Option Addr} {n c:Nat} {l:List UInt8} (h:FV w pa n c l) (k:Nat) (hk:k<=n):
  ∃ pa',(∀ w0,(Instr.slice 25 (.slice pa n c) none (some (.int .i64 (k:Int))) none).run Tryz.prog w0= .ok (.slice pa' k c) w0)/\FV w pa' k c (l.take k):=by
 have hcp:=h.cap
 refine ⟨if c=0 then pa else pa.map (·.add (0 * 1)),fun w0=> ?_,?_⟩
 ·rw [run_slice_h w0 _ pa n c Adv .i64 (k:Int) (by omega) (by omega),R3]
  rfl
 ·refine ⟨by rw [List.length_take,h.len];omega,by omega,fun h0=> ?_⟩
  obtain ⟨g,o,e,hc⟩:=h.cells (by omega)
  rw [if_neg (by omega),e]
  refine ⟨g,o,by simp [Addr.add],fun i hi=> ?_⟩
  rw [List.length_take] at hi
  rw [hc i (by omega),List.getElem_take]
theorem Xs (s:ByteArray) (w:World):∃ (pa:Option Addr) (n c:Nat) (w':World),(convert 9 25 (.string s)).run Tryz.prog w= .ok (.slice pa n c) w'/\FV w' pa n c s.toList/\Below w.heap.size w w':=by
 have h:=Lib.run_convert_string_bytes (P:=Tryz.prog) w 9 25 5 s Tryz.underlying9 Tryz.underlying25 Tryz.underlying5
 refine ⟨_,_,_,_,h,⟨Aa s,grownCap_ge w s.size 0 _,fun _=>⟨w.heap.size,0,rfl,fun i hi=> ?_⟩⟩,Below.bytesWorld (Below.refl _ _) (Nat.le_refl _) _ s⟩
 rw [Nat.zero_add];exact (LU.made w _ s).cell i hi
def YV (l:List UInt8) (w:World) (e:Ending) (w':World):Prop:=∃ t:ByteArray,e= .returned (.string t)/\Hid (t.toList=l)/\w=w'
theorem JI (c:Nat) (hc:c<=2147483647) (w:World):Calls Tryz.prog 49 #[.int .i64 (c:Int)] w (YV (Bj c) w):=by
 have h0:(0:Int)<=(c:Int):=by omega
 have hw:IntKind.i32.wrap (c:Int)=(c:Int):=by rw [IntKind.wrap_i32];omega
 have henc:∀ w,(convert 21 9 (.int .i32 (c:Int))).run Tryz.prog w= .ok (.string (Utf8.encode (c:Int))) w:=fun w=>run_convert_int_string w _ _ _ (c:Int) (by rw [Tryz.underlying21];rfl) Tryz.underlying9
 have hway:((1114111:Int)<(c:Int)/\Hid (Bj c=IX))\/((c:Int)<=1114111/\(c:Int)<55296/\Hid (Bj c=Pp (c:Int)))\/((c:Int)<=1114111/\(55296:Int)<=(c:Int)/\(c:Int)<=57343/\Hid (Bj c=IX))\/((c:Int)<=1114111/\(55296:Int)<=(c:Int)/\(57343:Int)<(c:Int)/\Hid (Bj c=Pp (c:Int))):=by
  unfold Bj
  by_cases h1:1114111<c
  ·exact .inl ⟨by omega,H0 (by rw [if_pos (.inl h1)])⟩
  ·by_cases h2:c<55296
   ·exact .inr (.inl ⟨by omega,by omega,H0 (by rw [if_neg (by omega)])⟩)
   ·by_cases h3:c<=57343
    ·exact .inr (.inr (.inl ⟨by omega,by omega,by omega,H0 (by rw [if_pos (.inr ⟨by omega,h3⟩)])⟩))
    ·exact .inr (.inr (.inr ⟨by omega,by omega,by omega,H0 (by rw [if_neg (by omega)])⟩))
 generalize (c:Int)=z at *;go_enter Tryz.func49,Tryz.ntmps49
 rcases hway with ⟨q1,hv⟩ | ⟨q1,q2,hv⟩ | ⟨q1,q2,q3,hv⟩ | ⟨q1,q2,q3,hv⟩
 ·go_wp2_with fail;go_ret
  exact ⟨_,rfl,H0 (by rw [hv.out];exact toList_mk _),rfl⟩
 ·go_wp2_with fail;go_ret
  exact ⟨_,rfl,H0 (by rw [hv.out];exact ByteArray.toList_eq ..),rfl⟩
 ·go_wp2_with fail;go_ret
  exact ⟨_,rfl,H0 (by rw [hv.out];exact toList_mk _),rfl⟩
 ·go_wp2_with fail;go_ret
  exact ⟨_,rfl,H0 (by rw [hv.out];exact ByteArray.toList_eq ..),rfl⟩
def Yu (c:Nat) (w:World) (e:Ending) (w':World):Prop:=e= .returned (.tuple #[.int .u8 ((A9 c).1:Int),.int .u8 ((A9 c).2.1:Int),.int .i64 ((A9 c).2.2:Int)])/\w=w'
theorem WW (c:Nat) (hc:c<256) (w:World):Calls Tryz.prog 169 #[.int .u8 (c:Int)] w (Yu c w):=by
 unfold Yu
 have eqf:∀ k:Nat,c≠k->(((c:Int)==(k:Int))=false):=fun k h=>by rw [beq_eq_false_iff_ne];omega
 have lit:∀ (k:Nat) (a b d:Nat),A9 k=(a,b,d)->c=k->Calls Tryz.prog 169 #[.int .u8 (k:Int)] w (fun e w'=>e= .returned (.tuple #[.int .u8 (a:Int),.int .u8 (b:Int),.int .i64 (d:Int)])/\w=w')->Calls Tryz.prog 169 #[.int .u8 (c:Int)] w fun e w'=>e= .returned (.tuple #[.int .u8 ((A9 c).1:Int),.int .u8 ((A9 c).2.1:Int),.int .i64 ((A9 c).2.2:Int)])/\w=w':=by
  intro k a b d h1 h2 h3;subst h2;rw [h1];exact h3
 by_cases h1:c=224
 ·refine lit 224 160 191 3 (by decide) h1 ?_
  go_enter Tryz.func169,Tryz.ntmps169;go_wp2_with fail;go_ret3;exact ⟨rfl,rfl⟩
 by_cases h2:c=237
 ·refine lit 237 128 159 3 (by decide) h2 ?_
  go_enter Tryz.func169,Tryz.ntmps169;go_wp2_with fail;go_ret3;exact ⟨rfl,rfl⟩
 by_cases h3:c=240
 ·refine lit 240 144 191 4 (by decide) h3 ?_
  go_enter Tryz.func169,Tryz.ntmps169;go_wp2_with fail;go_ret3;exact ⟨rfl,rfl⟩
 by_cases h4:c=244
 ·refine lit 244 128 143 4 (by decide) h4 ?_
  go_enter Tryz.func169,Tryz.ntmps169;go_wp2_with fail;go_ret3;exact ⟨rfl,rfl⟩
 have e1:=eqf 224 h1;have e2:=eqf 237 h2;have e3:=eqf 240 h3;have e4:=eqf 244 h4
 have hway:((c:Int)<194/\(c:Int)<225/\(c:Int)<241/\A9 c=(0,0,1))\/((194:Int)<=(c:Int)/\(c:Int)<=223/\A9 c=(128,191,2))\/((194:Int)<=(c:Int)/\(223:Int)<(c:Int)/\(225:Int)<=(c:Int)/\(c:Int)<=239/\A9 c=(128,191,3))\/
   ((194:Int)<=(c:Int)/\(223:Int)<(c:Int)/\(225:Int)<=(c:Int)/\(239:Int)<(c:Int)/\(241:Int)<=(c:Int)/\(c:Int)<=243/\A9 c=(128,191,4))\/((194:Int)<=(c:Int)/\(223:Int)<(c:Int)/\(225:Int)<=(c:Int)/\(239:Int)<(c:Int)/\(241:Int)<=(c:Int)/\(243:Int)<(c:Int)/\A9 c=(0,0,1)):=by
  unfold A9
  by_cases a1:c<194
  ·refine .inl ⟨by omega,by omega,by omega,?_⟩
   repeat (first | rw [if_neg (by omega)] | rfl)
  by_cases a2:c<=223
  ·refine .inr (.inl ⟨by omega,by omega,?_⟩)
   rw [if_pos (by omega)]
  by_cases a3:c<=239
  ·refine .inr (.inr (.inl ⟨by omega,by omega,by omega,by omega,?_⟩))
   rw [if_neg (by omega),if_neg (by omega),if_neg (by omega),if_pos (by omega)]
  by_cases a4:c<=243
  ·refine .inr (.inr (.inr (.inl ⟨by omega,by omega,by omega,by omega,by omega,by omega,?_⟩)))
   rw [if_neg (by omega),if_neg (by omega),if_neg (by omega),if_neg (by omega),if_neg (by omega),if_pos (by omega)]
  ·refine .inr (.inr (.inr (.inr ⟨by omega,by omega,by omega,by omega,by omega,by omega,?_⟩)))
   repeat (first | rw [if_neg (by omega)] | rfl)
 clear lit h1 h2 h3 h4 eqf;generalize (c:Int)=z at *;go_enter Tryz.func169,Tryz.ntmps169
 rcases hway with ⟨q1,q2,q3,hv⟩ | ⟨q1,q2,hv⟩ | ⟨q1,q2,q3,q4,hv⟩ | ⟨q1,q2,q3,q4,q5,q6,hv⟩ | ⟨q1,q2,q3,q4,q5,q6,hv⟩
 all_goals
  rw [hv];clear hv;go_wp2_with fail;go_ret3;exact ⟨rfl,rfl⟩
def QD (c lo hi:Int):Bool:=decide (lo<=c) && decide (c<=hi)
theorem DA (c lo hi:Nat):QD (c:Int) (lo:Int) (hi:Int)=D9 c lo hi:=by
 unfold QD D9
 congr 1<;>exact decide_eq_decide.2 (by omega)
theorem Cr (c lo hi:Int) (w:World):Calls Tryz.prog 357 #[.int .i64 c,.int .i64 lo,.int .i64 hi] w fun e w'=>e= .returned (.bool (QD c lo hi))/\w=w':=by
 have hway:(lo<=c/\c<=hi/\QD c lo hi=true)\/(lo<=c/\hi<c/\QD c lo hi=false)\/(c<lo/\QD c lo hi=false):=by
  unfold QD
  by_cases h1:lo<=c
  ·by_cases h2:c<=hi
   ·exact .inl ⟨h1,h2,by simp [h1,h2]⟩
   ·exact .inr (.inl ⟨h1,by omega,by simp [h1,h2]⟩)
  ·exact .inr (.inr ⟨by omega,by simp [h1]⟩)
 obtain ⟨B,hB⟩:=N2 (QD c lo hi);rw [hB] at hway⊢;replace hB:=H0 hB;go_enter Tryz.func357,Tryz.ntmps357
 rcases hway with ⟨q1,q2,rfl⟩ | ⟨q1,q2,rfl⟩ | ⟨q1,rfl⟩
 all_goals
  go_wp2_with fail;go_ret
  first | exact ⟨rfl,rfl⟩ | exact ⟨by simp;omega,rfl⟩
theorem Ac3 (c:Nat) (w:World):Calls Tryz.prog 348 #[.int .i64 (c:Int)] w fun e w'=>e= .returned (.bool (Wk c))/\w=w':=by
 have eqz:∀ k:Nat,((c:Int)==(k:Int))=(c==k):=fun k=>by
  by_cases h:c=k
  ·subst h;simp
  ·rw [beq_eq_false_iff_ne.2 (show (c:Int)≠(k:Int) by omega),beq_eq_false_iff_ne.2 h]
 have z1:=eqz 0xad;have z2:=eqz 0x200b;have z3:=eqz 0x2060;have z4:=eqz 0xfeff;clear eqz;obtain ⟨b1,h1⟩:∃ b,(c==0xad)=b:=⟨_,rfl⟩;obtain ⟨b2,h2⟩:∃ b,(c==0x200b)=b:=⟨_,rfl⟩;obtain ⟨b3,h3⟩:∃ b,(c==0x2060)=b:=⟨_,rfl⟩;obtain ⟨b4,h4⟩:∃ b,(c==0xfeff)=b:=⟨_,rfl⟩;unfold Wk;rw [h1] at z1⊢;rw [h2] at z2⊢;rw [h3] at z3⊢;rw [h4] at z4⊢;replace h1:=H0 h1;replace h2:=H0 h2;replace h3:=H0 h3;replace h4:=H0 h4;have z1:((c:Int)==173)=b1:=z1;have z2:((c:Int)==8203)=b2:=z2;have z3:((c:Int)==8288)=b3:=z3;have z4:((c:Int)==65279)=b4:=z4;go_enter Tryz.func348,Tryz.ntmps348;cases b1
 ·cases b2
  ·cases b3
   ·go_wp2_with fail;go_ret
    exact ⟨by simp,rfl⟩
   ·go_wp2_with fail;go_ret
    exact ⟨by simp,rfl⟩
  ·go_wp2_with fail;go_ret
   exact ⟨by simp,rfl⟩
 ·go_wp2_with fail;go_ret
  exact ⟨by simp,rfl⟩
theorem Aa5 (s:ByteArray) (w:World) (hz:s.size<=1000000000):Calls Tryz.prog 351 #[.string s] w fun e w'=>e= .returned (.bool (IZ s.toList))/\w=w':=by
 go_enter Tryz.func351,Tryz.ntmps351;go_wp2_with fail
 go_loop [3,6] (fun _ v6=>∃ k:Nat,v6= .int .i64 k/\k<=s.size/\Hid (IZ s.toList=IZ (s.toList.drop k))) (fun _ v6=>s.size - (intOf v6).toNat)
 case atStart=>exact ⟨0,rfl,Nat.zero_le _,H0 (by rw [List.drop_zero])⟩
 case round=>
  obtain ⟨k,rfl,hk,hv⟩:=hrel
  by_cases hlt:k<s.size
  ·have hI:(k:Int)<(s.size:Int):=by omega
   have hdr:=Ao s k hlt;have hst:=hv.out;rw [hdr] at hst
   have hst2:IZ s.toList=(decide (s[k].toNat<128) && IZ (s.toList.drop (k+1))):=by rw [hst];rfl
   clear hdr hst
   by_cases hb:s[k].toNat<128
   ·have hbI:(s[k].toNat:Int)<128:=by omega
    rw [decide_eq_true hb,Bool.true_and] at hst2;replace hst2:=H0 hst2;go_wp2_with fail;go_round
    case rel=>exact ⟨k+1,by go_num,by omega,hst2⟩
    case measure=>simp [intOf];omega
   ·have hbI:(128:Int)<=(s[k].toNat:Int):=by omega
    rw [decide_eq_false hb,Bool.false_and] at hst2;replace hst2:=H0 hst2;go_wp2_with fail;go_ret
    exact ⟨by rw [hst2.out];rfl,rfl⟩
  ·have hI:(s.size:Int)<=(k:Int):=by omega
   have hfin:Hid (IZ s.toList=true):=H0 (by rw [hv.out,AM s k (by omega)];rfl)
   go_wp2_with fail;go_ret
   exact ⟨by rw [hfin.out];rfl,rfl⟩
theorem Ab7 (c:Nat):E2 c=
 if (D9 c 0x41 0x5a || D9 c 0xc0 0xd6 || D9 c 0xd8 0xde || D9 c 0x391 0x3a1 || D9 c 0x3a3 0x3a9 || D9 c 0x410 0x42f)=true then Bj (c+0x20)
 else if (D9 c 0x100 0x12e && c % 2==0)=true then Bj (c+1)
 else if (c==0x130)=true then [105,204,135]
 else if D9 c 0x400 0x40f=true then Bj (c+0x50)
 else if (c==0x2024 || c==0x3002 || c==0xff61)=true then [46]
 else if (c==0x2100)=true then [97,47,99]
 else if (c==0x2105)=true then [99,47,111]
 else if D9 c 0x2460 0x2468=true then Bj (c - 0x2460+49)
 else if D9 c 0xff01 0xff5e=true then Bj (if D9 (c - 0xfee0) 65 90=true then c - 0xfee0+0x20 else c - 0xfee0)
 else if D9 c 0x1d7ce 0x1d7ff=true then Bj (48+(c - 0x1d7ce) % 10)
 else []:=by
 unfold E2;simp only [beq_iff_eq,Bool.or_eq_true,or_assoc]
theorem GJ {c lo hi:Nat} (h:D9 c lo hi=true):lo<=c/\c<=hi:=by unfold D9 at h;simpa using h
theorem Z2 (c:Nat) (w:World) (hc:c<=1114111):Calls Tryz.prog 347 #[.int .i64 (c:Int)] w (YV (E2 c) w):=by
 have c0:(0:Int)<=(c:Int):=by omega
 have c1:(c:Int)<=1114111:=by omega
 have eqz:∀ k:Nat,((c:Int)==(k:Int))=(c==k):=fun k=>by
  by_cases h:c=k
  ·subst h;simp
  ·rw [beq_eq_false_iff_ne.2 (show (c:Int)≠(k:Int) by omega),beq_eq_false_iff_ne.2 h]
 have hv:=Ab7 c
 have hSg:=H0 (fun (x:Nat) (h:x<=2147483647) w=>JI x h w)
 obtain ⟨R,hR⟩:=N2 (E2 c);rw [hR] at hv⊢;replace hR:=H0 hR;obtain ⟨a1,ha1⟩:∃ b,D9 c 65 90=b:=⟨_,rfl⟩;have za1:QD (c:Int) 65 90=a1:=(DA c 65 90).trans ha1;obtain ⟨a2,ha2⟩:∃ b,D9 c 192 214=b:=⟨_,rfl⟩;have za2:QD (c:Int) 192 214=a2:=(DA c 192 214).trans ha2;obtain ⟨a3,ha3⟩:∃ b,D9 c 216 222=b:=⟨_,rfl⟩;have za3:QD (c:Int) 216 222=a3:=(DA c 216 222).trans ha3;obtain ⟨a4,ha4⟩:∃ b,D9 c 913 929=b:=⟨_,rfl⟩;have za4:QD (c:Int) 913 929=a4:=(DA c 913 929).trans ha4;obtain ⟨a5,ha5⟩:∃ b,D9 c 931 937=b:=⟨_,rfl⟩;have za5:QD (c:Int) 931 937=a5:=(DA c 931 937).trans ha5;obtain ⟨a6,ha6⟩:∃ b,D9 c 1040 1071=b:=⟨_,rfl⟩;have za6:QD (c:Int) 1040 1071=a6:=(DA c 1040 1071).trans ha6;obtain ⟨a7,ha7⟩:∃ b,D9 c 256 302=b:=⟨_,rfl⟩;have za7:QD (c:Int) 256 302=a7:=(DA c 256 302).trans ha7;obtain ⟨a8,ha8⟩:∃ b,D9 c 1024 1039=b:=⟨_,rfl⟩;have za8:QD (c:Int) 1024 1039=a8:=(DA c 1024 1039).trans ha8;obtain ⟨a9,ha9⟩:∃ b,D9 c 9312 9320=b:=⟨_,rfl⟩;have za9:QD (c:Int) 9312 9320=a9:=(DA c 9312 9320).trans ha9;obtain ⟨aa,haa⟩:∃ b,D9 c 65281 65374=b:=⟨_,rfl⟩;have zaa:QD (c:Int) 65281 65374=aa:=(DA c 65281 65374).trans haa;obtain ⟨ab,hab⟩:∃ b,D9 c 120782 120831=b:=⟨_,rfl⟩;have zab:QD (c:Int) 120782 120831=ab:=(DA c 120782 120831).trans hab;obtain ⟨e1,he1⟩:∃ b,(c==304)=b:=⟨_,rfl⟩;have ze1:((c:Int)==304)=e1:=(eqz 304).trans he1;obtain ⟨e2,he2⟩:∃ b,(c==8228)=b:=⟨_,rfl⟩;have ze2:((c:Int)==8228)=e2:=(eqz 8228).trans he2;obtain ⟨e3,he3⟩:∃ b,(c==12290)=b:=⟨_,rfl⟩;have ze3:((c:Int)==12290)=e3:=(eqz 12290).trans he3;obtain ⟨e4,he4⟩:∃ b,(c==65377)=b:=⟨_,rfl⟩;have ze4:((c:Int)==65377)=e4:=(eqz 65377).trans he4;obtain ⟨e5,he5⟩:∃ b,(c==8448)=b:=⟨_,rfl⟩;have ze5:((c:Int)==8448)=e5:=(eqz 8448).trans he5;obtain ⟨e6,he6⟩:∃ b,(c==8453)=b:=⟨_,rfl⟩;have ze6:((c:Int)==8453)=e6:=(eqz 8453).trans he6;obtain ⟨bm,hbm⟩:∃ b,(c % 2==0)=b:=⟨_,rfl⟩
 have zbm:((c:Int) % 2==0)=bm:=by
  rw [<-hbm]
  by_cases h:c % 2=0
  ·rw [beq_iff_eq.2 h,beq_iff_eq];omega
  ·rw [beq_eq_false_iff_ne.2 h,beq_eq_false_iff_ne];omega
 rw [ha1,ha2,ha3,ha4,ha5,ha6,ha7,ha8,ha9,haa,hab,he1,he2,he3,he4,he5,he6,hbm] at hv;clear eqz;have hbmv:=H0 hbm;replace hbm:=H0 hbm
 have ka1:=H0 (fun e:a1=true=>GJ (ha1.trans e))
 replace ha1:=H0 ha1
 have ka2:=H0 (fun e:a2=true=>GJ (ha2.trans e))
 replace ha2:=H0 ha2
 have ka3:=H0 (fun e:a3=true=>GJ (ha3.trans e))
 replace ha3:=H0 ha3
 have ka4:=H0 (fun e:a4=true=>GJ (ha4.trans e))
 replace ha4:=H0 ha4
 have ka5:=H0 (fun e:a5=true=>GJ (ha5.trans e))
 replace ha5:=H0 ha5
 have ka6:=H0 (fun e:a6=true=>GJ (ha6.trans e))
 replace ha6:=H0 ha6
 have ka7:=H0 (fun e:a7=true=>GJ (ha7.trans e))
 replace ha7:=H0 ha7
 have ka8:=H0 (fun e:a8=true=>GJ (ha8.trans e))
 replace ha8:=H0 ha8
 have ka9:=H0 (fun e:a9=true=>GJ (ha9.trans e))
 replace ha9:=H0 ha9
 have kaa:=H0 (fun e:aa=true=>GJ (haa.trans e))
 replace haa:=H0 haa
 have kab:=H0 (fun e:ab=true=>GJ (hab.trans e))
 replace hab:=H0 hab;replace he1:=H0 he1;replace he2:=H0 he2;replace he3:=H0 he3;replace he4:=H0 he4;replace he5:=H0 he5;replace he6:=H0 he6;go_enter Tryz.func347,Tryz.ntmps347
 cases a1 with
 | true=>
  have hf:Hid (R=Bj (c+32)):=H0 (hv.trans (by simp only [Bool.or_self,Bool.false_or,Bool.or_false,Bool.true_or,Bool.or_true,Bool.and_true,Bool.and_self,Bool.and_false,Bool.false_eq_true,if_false,if_true]))
  have hs:=H0 (hSg.out (c+32) (by omega))
  rw [show (((c+32:Nat)):Int)=(c:Int)+32 from by omega] at hs
  replace hv:=H0 hv;go_wp2_with (go_at_call 357;refine (Cr _ _ _ _).mono ?_;rintro e w' ⟨rfl,rfl⟩);refine (hs.out _).mono ?_;rintro e w1 ⟨t,rfl,ht,rfl⟩;go_wp2_with fail;go_ret
  exact ⟨t,rfl,H0 (by rw [ht.out,hf.out]),rfl⟩
 | false=>
  cases a2 with
  | true=>
   have hf:Hid (R=Bj (c+32)):=H0 (hv.trans (by simp only [Bool.or_self,Bool.false_or,Bool.or_false,Bool.true_or,Bool.or_true,Bool.and_true,Bool.and_self,Bool.and_false,Bool.false_eq_true,if_false,if_true]))
   have hs:=H0 (hSg.out (c+32) (by omega))
   rw [show (((c+32:Nat)):Int)=(c:Int)+32 from by omega] at hs
   replace hv:=H0 hv;go_wp2_with (go_at_call 357;refine (Cr _ _ _ _).mono ?_;rintro e w' ⟨rfl,rfl⟩);refine (hs.out _).mono ?_;rintro e w1 ⟨t,rfl,ht,rfl⟩;go_wp2_with fail;go_ret
   exact ⟨t,rfl,H0 (by rw [ht.out,hf.out]),rfl⟩
  | false=>
   cases a3 with
   | true=>
    have hf:Hid (R=Bj (c+32)):=H0 (hv.trans (by simp only [Bool.or_self,Bool.false_or,Bool.or_false,Bool.true_or,Bool.or_true,Bool.and_true,Bool.and_self,Bool.and_false,Bool.false_eq_true,if_false,if_true]))
    have hs:=H0 (hSg.out (c+32) (by omega))
    rw [show (((c+32:Nat)):Int)=(c:Int)+32 from by omega] at hs
    replace hv:=H0 hv;go_wp2_with (go_at_call 357;refine (Cr _ _ _ _).mono ?_;rintro e w' ⟨rfl,rfl⟩);refine (hs.out _).mono ?_;rintro e w1 ⟨t,rfl,ht,rfl⟩;go_wp2_with fail;go_ret
    exact ⟨t,rfl,H0 (by rw [ht.out,hf.out]),rfl⟩
   | false=>
    cases a4 with
    | true=>
     have hf:Hid (R=Bj (c+32)):=H0 (hv.trans (by simp only [Bool.or_self,Bool.false_or,Bool.or_false,Bool.true_or,Bool.or_true,Bool.and_true,Bool.and_self,Bool.and_false,Bool.false_eq_true,if_false,if_true]))
     have hs:=H0 (hSg.out (c+32) (by omega))
     rw [show (((c+32:Nat)):Int)=(c:Int)+32 from by omega] at hs
     replace hv:=H0 hv;go_wp2_with (go_at_call 357;refine (Cr _ _ _ _).mono ?_;rintro e w' ⟨rfl,rfl⟩);refine (hs.out _).mono ?_;rintro e w1 ⟨t,rfl,ht,rfl⟩;go_wp2_with fail;go_ret
     exact ⟨t,rfl,H0 (by rw [ht.out,hf.out]),rfl⟩
    | false=>
     cases a5 with
     | true=>
      have hf:Hid (R=Bj (c+32)):=H0 (hv.trans (by simp only [Bool.or_self,Bool.false_or,Bool.or_false,Bool.true_or,Bool.or_true,Bool.and_true,Bool.and_self,Bool.and_false,Bool.false_eq_true,if_false,if_true]))
      have hs:=H0 (hSg.out (c+32) (by omega))
      rw [show (((c+32:Nat)):Int)=(c:Int)+32 from by omega] at hs
      replace hv:=H0 hv;go_wp2_with (go_at_call 357;refine (Cr _ _ _ _).mono ?_;rintro e w' ⟨rfl,rfl⟩);refine (hs.out _).mono ?_;rintro e w1 ⟨t,rfl,ht,rfl⟩;go_wp2_with fail;go_ret
      exact ⟨t,rfl,H0 (by rw [ht.out,hf.out]),rfl⟩
     | false=>
      cases a6 with
      | true=>
       have hf:Hid (R=Bj (c+32)):=H0 (hv.trans (by simp only [Bool.or_self,Bool.false_or,Bool.or_false,Bool.true_or,Bool.or_true,Bool.and_true,Bool.and_self,Bool.and_false,Bool.false_eq_true,if_false,if_true]))
       have hs:=H0 (hSg.out (c+32) (by omega))
       rw [show (((c+32:Nat)):Int)=(c:Int)+32 from by omega] at hs
       replace hv:=H0 hv;go_wp2_with (go_at_call 357;refine (Cr _ _ _ _).mono ?_;rintro e w' ⟨rfl,rfl⟩);refine (hs.out _).mono ?_;rintro e w1 ⟨t,rfl,ht,rfl⟩;go_wp2_with fail;go_ret
       exact ⟨t,rfl,H0 (by rw [ht.out,hf.out]),rfl⟩
      | false=>
       have h7:(a7=true/\bm=true)\/(a7=true/\bm=false)\/a7=false:=by cases a7<;>cases bm<;>simp
       rcases h7 with ⟨rfl,rfl⟩ | h7
       ·
        have hf:Hid (R=Bj (c+1)):=H0 (hv.trans (by simp only [Bool.or_self,Bool.false_or,Bool.or_false,Bool.true_or,Bool.or_true,Bool.and_true,Bool.and_self,Bool.and_false,Bool.false_eq_true,if_false,if_true]))
        have hs:=H0 (hSg.out (c+1) (by omega))
        rw [show (((c+1:Nat)):Int)=(c:Int)+1 from by omega] at hs
        replace hv:=H0 hv;go_wp2_with (go_at_call 357;refine (Cr _ _ _ _).mono ?_;rintro e w' ⟨rfl,rfl⟩);refine (hs.out _).mono ?_;rintro e w1 ⟨t,rfl,ht,rfl⟩;go_wp2_with fail;go_ret
        exact ⟨t,rfl,H0 (by rw [ht.out,hf.out]),rfl⟩
       have h7v:Hid ((a7 && bm)=false):=H0 (by rcases h7 with ⟨rfl,rfl⟩ | rfl<;>rfl)
       rw [h7v.out] at hv
       have hA:Hid (∀ (Q:Bool->Bool->Prop),Q true false->(Q false bm)->Q a7 bm):=H0 (fun Q q1 q2=>by rcases h7 with ⟨rfl,rfl⟩ | rfl<;>assumption)
       rcases h7 with ⟨rfl,rfl⟩ | rfl
       all_goals
        cases e1 with
        | true=>
         have hf:Hid (R=[105,204,135]):=H0 (hv.trans (by rfl))
         replace hv:=H0 hv;go_wp2_with (go_at_call 357;refine (Cr _ _ _ _).mono ?_;rintro e w' ⟨rfl,rfl⟩);go_ret
         exact ⟨_,rfl,H0 (by rw [hf.out];exact toList_mk _),rfl⟩
        | false=>
         cases a8 with
         | true=>
          have hf:Hid (R=Bj (c+80)):=H0 (hv.trans (by simp only [Bool.or_self,Bool.false_or,Bool.or_false,Bool.true_or,Bool.or_true,Bool.and_true,Bool.and_self,Bool.and_false,Bool.false_eq_true,if_false,if_true]))
          have hs:=H0 (hSg.out (c+80) (by omega))
          rw [show (((c+80:Nat)):Int)=(c:Int)+80 from by omega] at hs
          replace hv:=H0 hv;go_wp2_with (go_at_call 357;refine (Cr _ _ _ _).mono ?_;rintro e w' ⟨rfl,rfl⟩);refine (hs.out _).mono ?_;rintro e w1 ⟨t,rfl,ht,rfl⟩;go_wp2_with fail;go_ret
          exact ⟨t,rfl,H0 (by rw [ht.out,hf.out]),rfl⟩
         | false=>
          cases e2 with
          | true=>
           have hf:Hid (R=[46]):=H0 (hv.trans (by rfl))
           replace hv:=H0 hv;go_wp2_with (go_at_call 357;refine (Cr _ _ _ _).mono ?_;rintro e w' ⟨rfl,rfl⟩);go_ret
           exact ⟨_,rfl,H0 (by rw [hf.out];exact toList_mk _),rfl⟩
          | false=>
           cases e3 with
           | true=>
            have hf:Hid (R=[46]):=H0 (hv.trans (by rfl))
            replace hv:=H0 hv;go_wp2_with (go_at_call 357;refine (Cr _ _ _ _).mono ?_;rintro e w' ⟨rfl,rfl⟩);go_ret
            exact ⟨_,rfl,H0 (by rw [hf.out];exact toList_mk _),rfl⟩
           | false=>
            cases e4 with
            | true=>
             have hf:Hid (R=[46]):=H0 (hv.trans (by rfl))
             replace hv:=H0 hv;go_wp2_with (go_at_call 357;refine (Cr _ _ _ _).mono ?_;rintro e w' ⟨rfl,rfl⟩);go_ret
             exact ⟨_,rfl,H0 (by rw [hf.out];exact toList_mk _),rfl⟩
            | false=>
             cases e5 with
             | true=>
              have hf:Hid (R=[97,47,99]):=H0 (hv.trans (by rfl))
              replace hv:=H0 hv;go_wp2_with (go_at_call 357;refine (Cr _ _ _ _).mono ?_;rintro e w' ⟨rfl,rfl⟩);go_ret
              exact ⟨_,rfl,H0 (by rw [hf.out];exact toList_mk _),rfl⟩
             | false=>
              cases e6 with
              | true=>
               have hf:Hid (R=[99,47,111]):=H0 (hv.trans (by rfl))
               replace hv:=H0 hv;go_wp2_with (go_at_call 357;refine (Cr _ _ _ _).mono ?_;rintro e w' ⟨rfl,rfl⟩);go_ret
               exact ⟨_,rfl,H0 (by rw [hf.out];exact toList_mk _),rfl⟩
              | false=>
               cases a9 with
               | true=>
                have hf:Hid (R=Bj (c - 9312+49)):=H0 (hv.trans (by simp only [Bool.or_self,Bool.false_or,Bool.or_false,Bool.true_or,Bool.or_true,Bool.and_true,Bool.and_self,Bool.and_false,Bool.false_eq_true,if_false,if_true]))
                have hr:=ka9.out rfl
                have hs:=H0 (hSg.out (c - 9312+49) (by omega))
                rw [show (((c - 9312+49:Nat)):Int)=(c:Int) - 9312+49 from by omega] at hs
                replace hv:=H0 hv;go_wp2_with (go_at_call 357;refine (Cr _ _ _ _).mono ?_;rintro e w' ⟨rfl,rfl⟩);refine (hs.out _).mono ?_;rintro e w1 ⟨t,rfl,ht,rfl⟩;go_wp2_with fail;go_ret
                exact ⟨t,rfl,H0 (by rw [ht.out,hf.out]),rfl⟩
               | false=>
                cases aa with
                | true=>
                 have hr:=kaa.out rfl;obtain ⟨ac,hac⟩:∃ b,D9 (c - 65248) 65 90=b:=⟨_,rfl⟩
                 have zac:QD ((c:Int) - 65248) 65 90=ac:=by
                  rw [<-hac,<-DA (c - 65248) 65 90,show ((c - 65248:Nat):Int)=(c:Int) - 65248 from by omega];rfl
                 rw [hac] at hv;replace hac:=H0 hac
                 cases ac with
                 | true=>
                  have hf:Hid (R=Bj (c - 65248+32)):=H0 (hv.trans (by simp only [Bool.or_self,Bool.false_or,Bool.or_false,Bool.true_or,Bool.or_true,Bool.and_true,Bool.and_self,Bool.and_false,Bool.false_eq_true,if_false,if_true]))
                  have hs:=H0 (hSg.out (c - 65248+32) (by omega))
                  rw [show (((c - 65248+32:Nat)):Int)=(c:Int) - 65248+32 from by omega] at hs
                  replace hv:=H0 hv;go_wp2_with (go_at_call 357;refine (Cr _ _ _ _).mono ?_;rintro e w' ⟨rfl,rfl⟩);refine (hs.out _).mono ?_;rintro e w1 ⟨t,rfl,ht,rfl⟩;go_wp2_with fail;go_ret
                  exact ⟨t,rfl,H0 (by rw [ht.out,hf.out]),rfl⟩
                 | false=>
                  have hf:Hid (R=Bj (c - 65248)):=H0 (hv.trans (by simp only [Bool.or_self,Bool.false_or,Bool.or_false,Bool.true_or,Bool.or_true,Bool.and_true,Bool.and_self,Bool.and_false,Bool.false_eq_true,if_false,if_true]))
                  have hs:=H0 (hSg.out (c - 65248) (by omega))
                  rw [show (((c - 65248:Nat)):Int)=(c:Int) - 65248 from by omega] at hs
                  replace hv:=H0 hv;go_wp2_with (go_at_call 357;refine (Cr _ _ _ _).mono ?_;rintro e w' ⟨rfl,rfl⟩);refine (hs.out _).mono ?_;rintro e w1 ⟨t,rfl,ht,rfl⟩;go_wp2_with fail;go_ret
                  exact ⟨t,rfl,H0 (by rw [ht.out,hf.out]),rfl⟩
                | false=>
                 cases ab with
                 | true=>
                  have hr:=kab.out rfl
                  have hf:Hid (R=Bj (48+(c - 120782) % 10)):=H0 (hv.trans (by simp only [Bool.or_self,Bool.false_or,Bool.or_false,Bool.true_or,Bool.or_true,Bool.and_true,Bool.and_self,Bool.and_false,Bool.false_eq_true,if_false,if_true]))
                  have hs:=H0 (hSg.out (48+(c - 120782) % 10) (by omega))
                  rw [show (((48+(c - 120782) % 10:Nat)):Int)=48+((c:Int) - 120782) % 10 from by omega] at hs
                  replace hv:=H0 hv;go_wp2_with (go_at_call 357;refine (Cr _ _ _ _).mono ?_;rintro e w' ⟨rfl,rfl⟩);refine (hs.out _).mono ?_;rintro e w1 ⟨t,rfl,ht,rfl⟩;go_wp2_with fail;go_ret
                  exact ⟨t,rfl,H0 (by rw [ht.out,hf.out]),rfl⟩
                 | false=>
                  have hf:Hid (R=[]):=H0 (hv.trans (by rfl))
                  replace hv:=H0 hv;go_wp2_with (go_at_call 357;refine (Cr _ _ _ _).mono ?_;rintro e w' ⟨rfl,rfl⟩);go_ret
                  exact ⟨_,rfl,H0 (by rw [hf.out];exact toList_mk _),rfl⟩
theorem Ar {P:Program} {s:Code} {Q:Exit->Act->World->Prop} {a:Act} {w:World} {R:World->Prop} (h:R w) (k:∀ w',R w'->s.wp P Q a w'):s.wp P Q a w:=k w h
theorem Ag {P:Program} {ops:Array Oper} {rest:List Oper} {o:Oper} {a:Act} {w:World} {Q:Exit->Act->World->Prop} (hgd:o.guard=none) (ty:TypeId) (x y:Operand) (ho:o.op= .store ty x y) (hd:o.dst=none)
  (cells:Array Value) (t:TypeId) (old:Array Value) (g:Nat) (hx:a.eval x= .pointer (some ⟨g,0,none⟩)) (hgw:g=w.heap.size) (hy:a.eval y= .agg cells) (hi:(P.info? ty).map (·.size)=some cells.size)
  (hold:old.size=cells.size) (h1:cells.all (·.oneCell')=true)
  (h:wpList P ops Q rest a (w.alloc (.cells cells t))):wpList P ops Q (o :: rest) a (w.alloc (.cells old t)):=by
 subst hgw
 refine wpList_store_row hgd ty x y ho w.heap.size cells hx hy t old (by show (w.heap.push _)[w.heap.size]? =_;simp) hi hold h1 ?_
 rw [World.setRow_alloc_new,hd];exact h
theorem Mm {w:World} {o:Obj} {i:Nat} (h:i=w.heap.size):(w.alloc o).heap[i]? =some o:=by subst h;exact heap_alloc_new w o
theorem US {w:World} {o p:Obj} {i:Nat} (hi:i<w.heap.size) (h:w.heap[i]? =some p):(w.alloc o).heap[i]? =some p:=by
 have:(w.heap.push o)[i]? =some p:=by rw [Array.getElem?_push_lt hi];rw [<-h];simp [hi]
 exact this
theorem Me {t:ByteArray} {l:List UInt8} (h:t.toList=l):t=⟨l.toArray⟩:=by
 obtain ⟨⟨m⟩⟩:=t;have:m=l:=(toList_mk m).symm.trans h;rw [this]
end Go.Proofs.YtonomfeipkdmhaaGreatDoor
