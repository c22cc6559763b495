/- Part 11: lemmas. -/
import Derived.Test.YtonomfeipkdmhaaGreatDoorL10
import Derived.Lib.Join
set_option linter.unusedVariables false
set_option linter.unusedSimpArgs false
set_option maxRecDepth 100000
set_option maxHeartbeats 16000000
namespace Go.Proofs.YtonomfeipkdmhaaGreatDoor
open Go.RowKit
theorem L6:∀ (f:Nat) (s:List UInt8) (st:Dm) (m:List Nat),(∀ x∈st.l,x<=1114111)->DD f s st=some m->∀ x∈m,x<=1114111
 | 0,_,_,_,_,h=>(nomatch h)
 | f+1,s,st,m,hl,h=>by
  rw [DD] at h;split at h
  ·cases h;exact hl
  ·split at h
   ·cases h
   ·split at h
    ·cases h
    ·rename_i d n _ _ st' hs;refine L6 f _ st' m ?_ h;unfold D9 at hs;split at hs
     ·cases hs
     ·rename_i hq;cases hs;intro x hx;rw [Bool.or_eq_true,not_or] at hq;have hsg:=hq.2;rw [Bool.not_eq_true,Bool.not_eq_false'] at hsg
      rcases List.mem_append.1 (show x∈List.take _ st.l++_ :: List.drop _ st.l from hx) with hx | hx
      ·exact hl x (List.mem_of_mem_take hx)
      ·rcases List.mem_cons.1 hx with rfl | hx
       ·exact Rv hsg
       ·exact hl x (List.mem_of_mem_drop hx)
theorem AgN {s:List UInt8} {m:List Nat} (h:Nf s=some m):∀ x∈m,x<=1114111:=by
 unfold Nf at h;split at h
 ·split at h
  ·exact L6 _ _ _ _ (fun x hx=>by cases (show x∈([]:List Nat) from hx)) h
  ·split at h
   ·cases h
   ·split at h
    ·refine L6 _ _ _ _ (fun x hx=> ?_) h
     obtain ⟨c,_,rfl⟩:=List.mem_map.1 (show x∈List.map _ _ from hx);have:=c.toNat_lt;omega
    ·cases h
 ·exact L6 _ _ _ _ (fun x hx=>by cases (show x∈([]:List Nat) from hx)) h
theorem Ob (m:Nat):∀ (l:List Nat) (st:CU),st.out.length<=256+40 * st.done->(l.foldl (AV m) st).out.length<=256+40 * (l.foldl (AV m) st).done
 | [],st,h=>h
 | x :: r,st,h=>by
  rw [List.foldl_cons];refine Ob m r _ ?_;unfold AV;split
  ·have:=U3 st.d st.bias;show (st.out++TD st.d st.bias).length<=256+40 * (st.done+1);rw [List.length_append];omega
  ·split
   ·exact h
   ·exact h
theorem PS (l:List Nat):∀ (f sg:Nat) (st:CU),st.out.length<=256+40 * st.done->st.done<=2 * l.length->(Fu l f sg st).out.length<=256+80 * l.length
 | 0,_,st,h,h2=>by show st.out.length<=_;omega
 | f+1,sg,st,h,h2=>by
  rw [Fu];split
  ·rename_i hlt;dsimp only;refine PS l f _ _ ?_ ?_
   ·exact Ob _ l _ h
   ·dsimp only;rw [Gi];have:=List.count_le_length (a:=(Cz l sg).toNat) (l:=l);dsimp only;omega
  ·omega
theorem XY {l:List Nat} {t:List UInt8} (h:Ld l=some t):t.length<=20656:=by
 unfold Ld at h;split at h
 ·cases h
 ·rename_i hl;split at h
  ·cases h;have hb:=Ez l;have hb2:=Mt 128 l
   have:=PS l (l.length+1) 128 (Ff l) (by
    show (Ff l).out.length<=256+40 * (Cd l).length;unfold Ff;dsimp only;split
    ·simp
    ·rw [List.length_append,List.length_singleton];omega) (by show (Cd l).length<=_;omega)
   omega
  ·cases h
theorem Vu {l t:List UInt8} (h:AU l=some t):t.length<=l.length+20660:=by
 unfold AU at h;split at h
 ·split at h
  ·split at h
   ·split at h
    ·cases h;omega
    ·cases h
   ·cases h
  ·cases h
 ·split at h
  ·cases h;omega
  ·split at h
   ·split at h
    ·rename_i t' he;cases h;have:=XY he;rw [List.length_append];have:Wa.length=4:=rfl;omega
    ·cases h
   ·cases h
def KI (ls:List (List UInt8)):Nat:=(ls.map List.length).sum
theorem Kk:∀ ls:List (List UInt8),(E3 ls).length<=KI ls+ls.length
 | []=>Nat.zero_le _
 | [t]=>by show t.length<=_;unfold KI;simp
 | t :: u :: r=>by
  show (t++46 :: E3 (u :: r)).length<=_;have:=Kk (u :: r);unfold KI at this⊢;rw [List.length_append,List.length_cons,List.map_cons,List.sum_cons,List.length_cons];omega
theorem Jw (l:List UInt8):KI (Ay 46 l)<=l.length/\(Ay 46 l).length<=l.length+1:=by
 induction l with
 | nil=>exact ⟨Nat.le_refl _,Nat.le_refl _⟩
 | cons d r ih=>
  rw [Do];have hne:=DI 46 r
  cases hs:Ay 46 r with
  | nil=>exact absurd hs hne
  | cons a q=>
   rw [hs] at ih;unfold KI at ih⊢
   by_cases h:d=46
   ·rw [if_pos h];simp only [List.map_cons,List.sum_cons,List.length_cons,List.length_nil] at ih⊢;omega
   ·rw [if_neg h]
    show (List.map List.length ((d :: a) :: q)).sum<=_/\((d :: a) :: q).length<=_
    simp only [List.map_cons,List.sum_cons,List.length_cons] at ih⊢;omega
theorem ZE:∀ ls:List (List UInt8),Lib.join ls [46]=E3 ls
 | []=>rfl
 | [t]=>by simp [Lib.join,E3]
 | t :: u :: r=>by
  have:=ZE (u :: r);simp only [Lib.join] at this⊢;show _=t++46 :: E3 (u :: r);rw [<-this];simp
theorem KW:∀ (a:List (List UInt8)) (x:List UInt8),AY (a++[x])=match AY a with | none=>none | some q=>(AU x).map (fun t=>q++[t])
 | [],x=>by
  show (match AU x with | none=>none | some t=>(AY []).map (t :: ·))=_
  cases AU x<;>rfl
 | y :: r,x=>by
  have ih:=KW r x
  show (match AU y with | none=>none | some t=>(AY (r++[x])).map (t :: ·))=_
  show _=match (match AU y with | none=>none | some t=>(AY r).map (t :: ·)) with | none=>none | some q=>(AU x).map (fun t=>q++[t])
  cases AU y with
  | none=>rfl
  | some t=>
   dsimp only;rw [ih]
   cases AY r with
   | none=>rfl
   | some q=>
    dsimp only [Option.map_some]
    cases AU x<;>rfl
theorem SI {a b:List (List UInt8)} (h:AY a=none):AY (a++b)=none:=by
 induction a with
 | nil=>cases h
 | cons y r ih=>
  rw [List.cons_append];unfold AY at h⊢
  cases hy:AU y with
  | none=>rfl
  | some t=>
   rw [hy] at h;dsimp only at h⊢;rw [Option.map_eq_none_iff] at h;rw [ih h];rfl
theorem Iv:∀ {a b:List (List UInt8)},AY a=some b->b.length=a.length/\KI b<=KI a+20660 * a.length
 | [],b,h=>by cases h;exact ⟨rfl,Nat.le_refl _⟩
 | y :: r,b,h=>by
  unfold AY at h
  cases hy:AU y with
  | none=>rw [hy] at h;cases h
  | some t=>
   rw [hy] at h;dsimp only at h;rw [Option.map_eq_some_iff] at h;obtain ⟨q,hq,rfl⟩:=h;have ih:=Iv hq;have:=Vu hy;unfold KI at ih⊢;simp only [List.map_cons,List.sum_cons,List.length_cons] at ih⊢;omega
theorem ND:∀ (a:List Nat) (x:Nat),CF (a++[x])=match CF a with | none=>none | some q=>if (Fp x).2=0 then none else some (q++(Fp x).1)
 | [],x=>by
  show (if (Fp x).2=0 then none else (CF []).map ((Fp x).1++ ·))=_
  show _=if (Fp x).2=0 then none else some ([]++(Fp x).1)
  split
  ·rfl
  ·show some ((Fp x).1++[])=_;rw [List.append_nil];rfl
 | y :: r,x=>by
  have ih:=ND r x
  show (if (Fp y).2=0 then none else (CF (r++[x])).map ((Fp y).1++ ·))=match (if (Fp y).2=0 then none else (CF r).map ((Fp y).1++ ·)) with | none=>none | some q=>if (Fp x).2=0 then none else some (q++(Fp x).1)
  rw [ih]
  by_cases h:(Fp y).2=0
  ·rw [if_pos h,if_pos h]
  ·rw [if_neg h,if_neg h]
   cases CF r with
   | none=>rfl
   | some q=>
    dsimp only [Option.map_some];split
    ·rfl
    ·rw [Option.map_some,List.append_assoc]
theorem Xe {a b:List Nat} (h:CF a=none):CF (a++b)=none:=by
 induction a with
 | nil=>cases h
 | cons y r ih=>
  rw [List.cons_append];unfold CF at h⊢;split at h
  ·rename_i hy;rw [if_pos hy]
  ·rename_i hy;rw [Option.map_eq_none_iff] at h;rw [if_neg hy,ih h];rfl
theorem Mh (K m:Nat):∀ (l:List Nat) (st:CU),st.out.length<=K+40 * st.done->(l.foldl (AV m) st).out.length<=K+40 * (l.foldl (AV m) st).done
 | [],st,h=>h
 | x :: r,st,h=>by
  rw [List.foldl_cons];refine Mh K m r _ ?_;unfold AV;split
  ·have:=U3 st.d st.bias;show (st.out++TD st.d st.bias).length<=K+40 * (st.done+1);rw [List.length_append];omega
  ·split
   ·exact h
   ·exact h
theorem Pw (K:Nat) (l:List Nat):∀ (f sg:Nat) (st:CU),st.out.length<=K+40 * st.done->st.done<=2 * l.length->(Fu l f sg st).out.length<=K+80 * l.length
 | 0,_,st,h,h2=>by show st.out.length<=_;omega
 | f+1,sg,st,h,h2=>by
  rw [Fu];split
  ·rename_i hlt;dsimp only;refine Pw K l f _ _ ?_ ?_
   ·exact Mh K _ l _ h
   ·dsimp only;rw [Gi];have:=List.count_le_length (a:=(Cz l sg).toNat) (l:=l);dsimp only;omega
  ·omega
theorem Tx {l:List Nat} {t:List UInt8} (h:Ld l=some t):t.length<=81 * l.length+1:=by
 unfold Ld at h;split at h
 ·cases h
 ·split at h
  ·cases h;have hb:=Ez l;have hb2:=Mt 128 l
   have:=Pw (l.length+1) l (l.length+1) 128 (Ff l) (by
    show (Ff l).out.length<=l.length+1+40 * (Cd l).length;unfold Ff;dsimp only;split
    ·simp
    ·rw [List.length_append,List.length_singleton];omega) (by show (Cd l).length<=_;omega)
   omega
  ·cases h
theorem SG {l t:List UInt8} (h:AU l=some t):t.length<=248 * l.length:=by
 unfold AU at h;split at h
 ·split at h
  ·split at h
   ·split at h
    ·cases h;omega
    ·cases h
   ·cases h
  ·cases h
 ·split at h
  ·cases h;omega
  ·rename_i hlo;split at h
   ·split at h
    ·rename_i t' he;cases h;have h1:=Tx he;have h2:=Mo l
     have h3:0<l.length:=by
      cases l with
      | nil=>exact absurd rfl hlo
      | cons a r=>simp
     rw [List.length_append];have:Wa.length=4:=rfl;omega
    ·cases h
   ·cases h
theorem KX:∀ {a b:List (List UInt8)},AY a=some b->KI b<=248 * KI a/\b.length=a.length
 | [],b,h=>by cases h;exact ⟨Nat.le_refl _,rfl⟩
 | y :: r,b,h=>by
  unfold AY at h
  cases hy:AU y with
  | none=>rw [hy] at h;cases h
  | some t=>
   rw [hy] at h;dsimp only at h;rw [Option.map_eq_some_iff] at h;obtain ⟨q,hq,rfl⟩:=h;have ih:=KX hq;have:=SG hy;unfold KI at ih⊢;simp only [List.map_cons,List.sum_cons,List.length_cons] at ih⊢;omega
def An:BO->Dd
 | .none=>⟨0,⟨#[]⟩,0,[0,0,0,0,0,0,0,0]⟩
 | .empty=>⟨1,⟨#[]⟩,0,[0,0,0,0,0,0,0,0]⟩
 | .name n=>⟨2,⟨n.toArray⟩,0,[0,0,0,0,0,0,0,0]⟩
 | .four n=>⟨3,⟨#[]⟩,n,[0,0,0,0,0,0,0,0]⟩
 | .six l=>⟨4,⟨#[]⟩,0,l⟩
 | .opaqueN n=>⟨5,⟨n.toArray⟩,0,[0,0,0,0,0,0,0,0]⟩
def AiU (h:BO):Value:= .agg (Aq (An h))
theorem AP:(Tryz.prog.info? 32).map (·.size)=some 11:=Qb
theorem A1 (h:Dd):(Aq h).all (·.oneCell')=true:=by unfold Aq;simp [Value.oneCell']
def Kq (o:Option BO) (w:World) (e:Ending) (w':World):Prop:=e= .returned (.tuple #[AiU (o.getD .none),.bool o.isSome])/\Below w.heap.size w w'
theorem B7 {w:World} {g:Nat} {old c:Array Value} {T:TypeId} {fr:Nat × Nat} (h:w.heap[g]? =some (.cells old T fr)):(w.setRow g c).heap[g]? =some (.cells c T fr):=by
 simp only [World.setRow];rw [Array.getElem?_modify,if_pos rfl,h];rfl
theorem Ae {B:Nat} {w0 w:World} (h:Below B w0 w) {g:Nat} (hg:B<=g) (c:Array Value):Below B w0 (w.setRow g c):=by
 refine h.trans ⟨rfl,rfl,rfl,by simp [World.setRow],fun k hk=> ?_⟩
 simp only [World.setRow];rw [Array.getElem?_modify,if_neg Qa]
theorem Cl {f:Func} {R:Ending->World->Prop} {a:Act} {w:World} {g:Nat} {h:Dd} {b:Bool} {p u:Nat} (hf:f.results= #[.cell p 32,.tmp u]) (h2:a.tmps.getD p undef= .pointer (some ⟨g,0,none⟩)) (h3:a.tmps.getD u undef= .bool b) (hd:a.defers=[])
  (hg:w.heap[g]? =some (.cells (Aq h) 32)) (hR:R (.returned (.tuple #[.agg (Aq h),.bool b])) w):
  bodyPost Tryz.prog f R .ret a w:=by
 refine bodyPost_ret (v:= .tuple #[.agg (Aq h),.bool b]) ?_ hd hR;rw [results_cell_tmp hf,h2,h3];simp [asAddr,Result.andThen,run_loadVar_row (P:=Tryz.prog) w g _ 32 _ _ _ hg Tryz.underlying32 rfl Qb]
theorem Abs (c:UInt8) (w:World):Calls Tryz.prog 305 #[.int .u8 (c.toNat:Int)] w fun e w'=>e= .returned (.bool (EV c))/\w=w':=by
 have key:∀ (k:UInt8),c=k->EV k=true->(Calls Tryz.prog 305 #[.int .u8 (k.toNat:Int)] w fun e w'=>e= .returned (.bool true)/\w=w')->Calls Tryz.prog 305 #[.int .u8 (c.toNat:Int)] w fun e w'=>e= .returned (.bool (EV c))/\w=w':=by
  intro k h1 h2 h3;subst h1;rw [h2];exact h3
 by_cases h0:c=0
 ·refine key 0 h0 Qc ?_;show Calls _ _ #[.int .u8 0] _ _;go_enter Tryz.func305,Tryz.ntmps305;go_wp2_with fail;go_ret;exact ⟨rfl,rfl⟩
 by_cases h9:c=9
 ·refine key 9 h9 Qc ?_;show Calls _ _ #[.int .u8 9] _ _;go_enter Tryz.func305,Tryz.ntmps305;go_wp2_with fail;go_ret;exact ⟨rfl,rfl⟩
 by_cases h10:c=10
 ·refine key 10 h10 Qc ?_;show Calls _ _ #[.int .u8 10] _ _;go_enter Tryz.func305,Tryz.ntmps305;go_wp2_with fail;go_ret;exact ⟨rfl,rfl⟩
 by_cases h13:c=13
 ·refine key 13 h13 Qc ?_;show Calls _ _ #[.int .u8 13] _ _;go_enter Tryz.func305,Tryz.ntmps305;go_wp2_with fail;go_ret;exact ⟨rfl,rfl⟩
 by_cases h32:c=32
 ·refine key 32 h32 Qc ?_;show Calls _ _ #[.int .u8 32] _ _;go_enter Tryz.func305,Tryz.ntmps305;go_wp2_with fail;go_ret;exact ⟨rfl,rfl⟩
 by_cases h35:c=35
 ·refine key 35 h35 Qc ?_;show Calls _ _ #[.int .u8 35] _ _;go_enter Tryz.func305,Tryz.ntmps305;go_wp2_with fail;go_ret;exact ⟨rfl,rfl⟩
 by_cases h47:c=47
 ·refine key 47 h47 Qc ?_;show Calls _ _ #[.int .u8 47] _ _;go_enter Tryz.func305,Tryz.ntmps305;go_wp2_with fail;go_ret;exact ⟨rfl,rfl⟩
 by_cases h58:c=58
 ·refine key 58 h58 Qc ?_;show Calls _ _ #[.int .u8 58] _ _;go_enter Tryz.func305,Tryz.ntmps305;go_wp2_with fail;go_ret;exact ⟨rfl,rfl⟩
 by_cases h60:c=60
 ·refine key 60 h60 Qc ?_;show Calls _ _ #[.int .u8 60] _ _;go_enter Tryz.func305,Tryz.ntmps305;go_wp2_with fail;go_ret;exact ⟨rfl,rfl⟩
 by_cases h62:c=62
 ·refine key 62 h62 Qc ?_;show Calls _ _ #[.int .u8 62] _ _;go_enter Tryz.func305,Tryz.ntmps305;go_wp2_with fail;go_ret;exact ⟨rfl,rfl⟩
 by_cases h63:c=63
 ·refine key 63 h63 Qc ?_;show Calls _ _ #[.int .u8 63] _ _;go_enter Tryz.func305,Tryz.ntmps305;go_wp2_with fail;go_ret;exact ⟨rfl,rfl⟩
 by_cases h64:c=64
 ·refine key 64 h64 Qc ?_;show Calls _ _ #[.int .u8 64] _ _;go_enter Tryz.func305,Tryz.ntmps305;go_wp2_with fail;go_ret;exact ⟨rfl,rfl⟩
 by_cases h91:c=91
 ·refine key 91 h91 Qc ?_;show Calls _ _ #[.int .u8 91] _ _;go_enter Tryz.func305,Tryz.ntmps305;go_wp2_with fail;go_ret;exact ⟨rfl,rfl⟩
 by_cases h92:c=92
 ·refine key 92 h92 Qc ?_;show Calls _ _ #[.int .u8 92] _ _;go_enter Tryz.func305,Tryz.ntmps305;go_wp2_with fail;go_ret;exact ⟨rfl,rfl⟩
 by_cases h93:c=93
 ·refine key 93 h93 Qc ?_;show Calls _ _ #[.int .u8 93] _ _;go_enter Tryz.func305,Tryz.ntmps305;go_wp2_with fail;go_ret;exact ⟨rfl,rfl⟩
 by_cases h94:c=94
 ·refine key 94 h94 Qc ?_;show Calls _ _ #[.int .u8 94] _ _;go_enter Tryz.func305,Tryz.ntmps305;go_wp2_with fail;go_ret;exact ⟨rfl,rfl⟩
 by_cases h124:c=124
 ·refine key 124 h124 Qc ?_;show Calls _ _ #[.int .u8 124] _ _;go_enter Tryz.func305,Tryz.ntmps305;go_wp2_with fail;go_ret;exact ⟨rfl,rfl⟩
 clear key
 have hv:EV c=false:=by
  unfold EV Aio;simp only [List.contains_cons,List.contains_nil,Bool.or_false,Bool.or_eq_false_iff,beq_eq_false_iff_ne];exact ⟨h0,h9,h10,h13,h32,h35,h47,h58,h60,h62,h63,h64,h91,h92,h93,h94,h124⟩
 rw [hv]
 have ne:∀ k:UInt8,c≠k->((c.toNat:Int)==(k.toNat:Int))=false:=fun k h=>by rw [beq_eq_false_iff_ne];intro e;exact h (UInt8.toNat_inj.1 Qa)
 have n0:((c.toNat:Int)==0)=false:=ne 0 h0;have n9:((c.toNat:Int)==9)=false:=ne 9 h9;have n10:((c.toNat:Int)==10)=false:=ne 10 h10;have n13:((c.toNat:Int)==13)=false:=ne 13 h13;have n32:((c.toNat:Int)==32)=false:=ne 32 h32;have n35:((c.toNat:Int)==35)=false:=ne 35 h35;have n47:((c.toNat:Int)==47)=false:=ne 47 h47;have n58:((c.toNat:Int)==58)=false:=ne 58 h58;have n60:((c.toNat:Int)==60)=false:=ne 60 h60;have n62:((c.toNat:Int)==62)=false:=ne 62 h62;have n63:((c.toNat:Int)==63)=false:=ne 63 h63;have n64:((c.toNat:Int)==64)=false:=ne 64 h64;have n91:((c.toNat:Int)==91)=false:=ne 91 h91;have n92:((c.toNat:Int)==92)=false:=ne 92 h92;have n93:((c.toNat:Int)==93)=false:=ne 93 h93;have n94:((c.toNat:Int)==94)=false:=ne 94 h94;have n124:((c.toNat:Int)==124)=false:=ne 124 h124;clear ne hv h0 h9 h10 h13 h32 h35 h47 h58 h60 h62 h63 h64 h91 h92 h93 h94 h124;generalize (c.toNat:Int)=z at *;go_enter Tryz.func305,Tryz.ntmps305;go_wp2_with fail;go_ret;exact ⟨rfl,rfl⟩
def SX (c lo hi:Int):Bool:=decide (lo<=c) && decide (c<=hi)
theorem DQ (c lo hi:Nat):SX (c:Int) (lo:Int) (hi:Int)=En c lo hi:=by
 unfold SX En
 congr 1<;>exact decide_eq_decide.2 Qa
theorem CB (c lo hi:Int) (w:World):Calls Tryz.prog 357 #[.int .i64 c,.int .i64 lo,.int .i64 hi] w fun e w'=>e= .returned (.bool (SX c lo hi))/\w=w':=by
 have hway:(lo<=c/\c<=hi/\SX c lo hi=true)\/(lo<=c/\hi<c/\SX c lo hi=false)\/(c<lo/\SX c lo hi=false):=by
  unfold SX
  by_cases h1:lo<=c
  ·by_cases h2:c<=hi
   ·exact .inl ⟨h1,h2,by simp [h1,h2]⟩
   ·exact .inr (.inl ⟨h1,Qa,by simp [h1,h2]⟩)
  ·exact .inr (.inr ⟨Qa,by simp [h1]⟩)
 obtain ⟨B,hB⟩:=N2 (SX c lo hi);rw [hB] at hway⊢;replace hB:=H0 hB;go_enter Tryz.func357,Tryz.ntmps357
 rcases hway with ⟨q1,q2,rfl⟩ | ⟨q1,q2,rfl⟩ | ⟨q1,rfl⟩
 all_goals
  go_wp2_with fail;go_ret
  first | exact ⟨rfl,rfl⟩ | exact ⟨Qi,rfl⟩
theorem Aeh (c:Nat) (w:World):Calls Tryz.prog 348 #[.int .i64 (c:Int)] w fun e w'=>e= .returned (.bool (Wl c))/\w=w':=by
 have eqz:∀ k:Nat,((c:Int)==(k:Int))=(c==k):=fun k=>by
  by_cases h:c=k
  ·subst h;simp
  ·rw [beq_eq_false_iff_ne.2 (show (c:Int)≠(k:Int) by omega),beq_eq_false_iff_ne.2 h]
 have z1:=eqz 0xad;have z2:=eqz 0x200b;have z3:=eqz 0x2060;have z4:=eqz 0xfeff;clear eqz;obtain ⟨b1,h1⟩:∃ b,(c==0xad)=b:=⟨_,rfl⟩;obtain ⟨b2,h2⟩:∃ b,(c==0x200b)=b:=⟨_,rfl⟩;obtain ⟨b3,h3⟩:∃ b,(c==0x2060)=b:=⟨_,rfl⟩;obtain ⟨b4,h4⟩:∃ b,(c==0xfeff)=b:=⟨_,rfl⟩;unfold Wl;rw [h1] at z1⊢;rw [h2] at z2⊢;rw [h3] at z3⊢;rw [h4] at z4⊢;replace h1:=H0 h1;replace h2:=H0 h2;replace h3:=H0 h3;replace h4:=H0 h4;have z1:((c:Int)==173)=b1:=z1;have z2:((c:Int)==8203)=b2:=z2;have z3:((c:Int)==8288)=b3:=z3;have z4:((c:Int)==65279)=b4:=z4;go_enter Tryz.func348,Tryz.ntmps348;cases b1
 ·cases b2
  ·cases b3
   ·go_wp2_with fail;go_ret;exact ⟨Qf,rfl⟩
   ·go_wp2_with fail;go_ret;exact ⟨Qf,rfl⟩
  ·go_wp2_with fail;go_ret;exact ⟨Qf,rfl⟩
 ·go_wp2_with fail;go_ret;exact ⟨Qf,rfl⟩
theorem AcS (s:ByteArray) (w:World) (hz:s.size<=1000000000):Calls Tryz.prog 351 #[.string s] w fun e w'=>e= .returned (.bool (Ja s.toList))/\w=w':=by
 go_enter Tryz.func351,Tryz.ntmps351;go_wp2_with fail
 go_loop [3,6] (fun _ v6=>∃ k:Nat,v6= .int .i64 k/\k<=s.size/\Hid (Ja s.toList=Ja (s.toList.drop k))) (fun _ v6=>s.size - (intOf v6).toNat)
 case atStart=>exact ⟨0,rfl,Nat.zero_le _,H0 QP⟩
 case round=>
  obtain ⟨k,rfl,hk,hv⟩:=hrel
  by_cases hlt:k<s.size
  ·have hI:(k:Int)<(s.size:Int):=Qa;have hdr:=As s k hlt;have hst:=hv.out;rw [hdr] at hst
   have hst2:Ja s.toList=(decide (s[k].toNat<128) && Ja (s.toList.drop (k+1))):=by rw [hst];rfl
   clear hdr hst
   by_cases hb:s[k].toNat<128
   ·have hbI:(s[k].toNat:Int)<128:=Qa;rw [decide_eq_true hb,Bool.true_and] at hst2;replace hst2:=H0 hst2;go_wp2_with fail;go_round
    case rel=>exact ⟨k+1,Ql,Qa,hst2⟩
    case measure=>simp [intOf];omega
   ·have hbI:(128:Int)<=(s[k].toNat:Int):=Qa;rw [decide_eq_false hb,Bool.false_and] at hst2;replace hst2:=H0 hst2;go_wp2_with fail;go_ret
    exact ⟨by rw [hst2.out];rfl,rfl⟩
  ·have hI:(s.size:Int)<=(k:Int):=Qa
   have hfin:Hid (Ja s.toList=true):=H0 (by rw [hv.out,AL s k Qa];rfl)
   go_wp2_with fail;go_ret;exact ⟨Akm,rfl⟩
theorem Ae6 (c:Nat):Fd c=
 if (En c 0x41 0x5a || En c 0xc0 0xd6 || En c 0xd8 0xde || En c 0x391 0x3a1 || En c 0x3a3 0x3a9 || En c 0x410 0x42f)=true then Bv (c+0x20)
 else if (En c 0x100 0x12e && c % 2==0)=true then Bv (c+1)
 else if (c==0x130)=true then [105,204,135]
 else if En c 0x400 0x40f=true then Bv (c+0x50)
 else if (c==0x2024 || c==0x3002 || c==0xff61)=true then [46]
 else if (c==0x2100)=true then [97,47,99]
 else if (c==0x2105)=true then [99,47,111]
 else if En c 0x2460 0x2468=true then Bv (c - 0x2460+49)
 else if En c 0xff01 0xff5e=true then Bv (if En (c - 0xfee0) 65 90=true then c - 0xfee0+0x20 else c - 0xfee0)
 else if En c 0x1d7ce 0x1d7ff=true then Bv (48+(c - 0x1d7ce) % 10)
 else []:=by
 unfold Fd;simp only [beq_iff_eq,Bool.or_eq_true,or_assoc]
theorem GQ {c lo hi:Nat} (h:En c lo hi=true):lo<=c/\c<=hi:=by unfold En at h;simpa using h
theorem AdD (c:Nat) (w:World) (hc:c<=1114111):Calls Tryz.prog 347 #[.int .i64 (c:Int)] w (Aba (Fd c) w):=by
 have c0:(0:Int)<=(c:Int):=Qa;have c1:(c:Int)<=1114111:=Qa
 have eqz:∀ k:Nat,((c:Int)==(k:Int))=(c==k):=fun k=>by
  by_cases h:c=k
  ·subst h;simp
  ·rw [beq_eq_false_iff_ne.2 (show (c:Int)≠(k:Int) by omega),beq_eq_false_iff_ne.2 h]
 have hv:=Ae6 c
 have hSg:=H0 (fun (x:Nat) (h:x<=2147483647) w=>Jp x h w)
 obtain ⟨R,hR⟩:=N2 (Fd c);rw [hR] at hv⊢;replace hR:=H0 hR;obtain ⟨a1,ha1⟩:∃ b,En c 65 90=b:=⟨_,rfl⟩;have za1:SX (c:Int) 65 90=a1:=(DQ c 65 90).trans ha1;obtain ⟨a2,ha2⟩:∃ b,En c 192 214=b:=⟨_,rfl⟩;have za2:SX (c:Int) 192 214=a2:=(DQ c 192 214).trans ha2;obtain ⟨a3,ha3⟩:∃ b,En c 216 222=b:=⟨_,rfl⟩;have za3:SX (c:Int) 216 222=a3:=(DQ c 216 222).trans ha3;obtain ⟨a4,ha4⟩:∃ b,En c 913 929=b:=⟨_,rfl⟩;have za4:SX (c:Int) 913 929=a4:=(DQ c 913 929).trans ha4;obtain ⟨a5,ha5⟩:∃ b,En c 931 937=b:=⟨_,rfl⟩;have za5:SX (c:Int) 931 937=a5:=(DQ c 931 937).trans ha5;obtain ⟨a6,ha6⟩:∃ b,En c 1040 1071=b:=⟨_,rfl⟩;have za6:SX (c:Int) 1040 1071=a6:=(DQ c 1040 1071).trans ha6;obtain ⟨a7,ha7⟩:∃ b,En c 256 302=b:=⟨_,rfl⟩;have za7:SX (c:Int) 256 302=a7:=(DQ c 256 302).trans ha7;obtain ⟨a8,ha8⟩:∃ b,En c 1024 1039=b:=⟨_,rfl⟩;have za8:SX (c:Int) 1024 1039=a8:=(DQ c 1024 1039).trans ha8;obtain ⟨a9,ha9⟩:∃ b,En c 9312 9320=b:=⟨_,rfl⟩;have za9:SX (c:Int) 9312 9320=a9:=(DQ c 9312 9320).trans ha9;obtain ⟨aa,haa⟩:∃ b,En c 65281 65374=b:=⟨_,rfl⟩;have zaa:SX (c:Int) 65281 65374=aa:=(DQ c 65281 65374).trans haa;obtain ⟨ab,hab⟩:∃ b,En c 120782 120831=b:=⟨_,rfl⟩;have zab:SX (c:Int) 120782 120831=ab:=(DQ c 120782 120831).trans hab;obtain ⟨e1,he1⟩:∃ b,(c==304)=b:=⟨_,rfl⟩;have ze1:((c:Int)==304)=e1:=(eqz 304).trans he1;obtain ⟨e2,he2⟩:∃ b,(c==8228)=b:=⟨_,rfl⟩;have ze2:((c:Int)==8228)=e2:=(eqz 8228).trans he2;obtain ⟨e3,he3⟩:∃ b,(c==12290)=b:=⟨_,rfl⟩;have ze3:((c:Int)==12290)=e3:=(eqz 12290).trans he3;obtain ⟨e4,he4⟩:∃ b,(c==65377)=b:=⟨_,rfl⟩;have ze4:((c:Int)==65377)=e4:=(eqz 65377).trans he4;obtain ⟨e5,he5⟩:∃ b,(c==8448)=b:=⟨_,rfl⟩;have ze5:((c:Int)==8448)=e5:=(eqz 8448).trans he5;obtain ⟨e6,he6⟩:∃ b,(c==8453)=b:=⟨_,rfl⟩;have ze6:((c:Int)==8453)=e6:=(eqz 8453).trans he6;obtain ⟨bm,hbm⟩:∃ b,(c % 2==0)=b:=⟨_,rfl⟩
 have zbm:((c:Int) % 2==0)=bm:=by
  rw [<-hbm]
  by_cases h:c % 2=0
  ·rw [beq_iff_eq.2 h,beq_iff_eq];omega
  ·rw [beq_eq_false_iff_ne.2 h,beq_eq_false_iff_ne];omega
 rw [ha1,ha2,ha3,ha4,ha5,ha6,ha7,ha8,ha9,haa,hab,he1,he2,he3,he4,he5,he6,hbm] at hv;clear eqz;have hbmv:=H0 hbm;replace hbm:=H0 hbm
 have ka1:=H0 (fun e:a1=true=>GQ (ha1.trans e))
 replace ha1:=H0 ha1
 have ka2:=H0 (fun e:a2=true=>GQ (ha2.trans e))
 replace ha2:=H0 ha2
 have ka3:=H0 (fun e:a3=true=>GQ (ha3.trans e))
 replace ha3:=H0 ha3
 have ka4:=H0 (fun e:a4=true=>GQ (ha4.trans e))
 replace ha4:=H0 ha4
 have ka5:=H0 (fun e:a5=true=>GQ (ha5.trans e))
 replace ha5:=H0 ha5
 have ka6:=H0 (fun e:a6=true=>GQ (ha6.trans e))
 replace ha6:=H0 ha6
 have ka7:=H0 (fun e:a7=true=>GQ (ha7.trans e))
 replace ha7:=H0 ha7
 have ka8:=H0 (fun e:a8=true=>GQ (ha8.trans e))
 replace ha8:=H0 ha8
 have ka9:=H0 (fun e:a9=true=>GQ (ha9.trans e))
 replace ha9:=H0 ha9
 have kaa:=H0 (fun e:aa=true=>GQ (haa.trans e))
 replace haa:=H0 haa
 have kab:=H0 (fun e:ab=true=>GQ (hab.trans e))
 replace hab:=H0 hab;replace he1:=H0 he1;replace he2:=H0 he2;replace he3:=H0 he3;replace he4:=H0 he4;replace he5:=H0 he5;replace he6:=H0 he6;go_enter Tryz.func347,Tryz.ntmps347
 cases a1 with
 | true=>
  have hf:Hid (R=Bv (c+32)):=H0 (hv.trans Qd);have hs:=H0 (hSg.out (c+32) Qa);rw [show (((c+32:Nat)):Int)=(c:Int)+32 from Qa] at hs;replace hv:=H0 hv;go_wp2_with (go_at_call 357;refine (CB _ _ _ _).mono ?_;rintro e w' ⟨rfl,rfl⟩);refine (hs.out _).mono ?_;rintro e w1 ⟨t,rfl,ht,rfl⟩;go_wp2_with fail;go_ret;exact ⟨t,rfl,H0 QD,rfl⟩
 | false=>
  cases a2 with
  | true=>
   have hf:Hid (R=Bv (c+32)):=H0 (hv.trans Qd);have hs:=H0 (hSg.out (c+32) Qa);rw [show (((c+32:Nat)):Int)=(c:Int)+32 from Qa] at hs;replace hv:=H0 hv;go_wp2_with (go_at_call 357;refine (CB _ _ _ _).mono ?_;rintro e w' ⟨rfl,rfl⟩);refine (hs.out _).mono ?_;rintro e w1 ⟨t,rfl,ht,rfl⟩;go_wp2_with fail;go_ret;exact ⟨t,rfl,H0 QD,rfl⟩
  | false=>
   cases a3 with
   | true=>
    have hf:Hid (R=Bv (c+32)):=H0 (hv.trans Qd);have hs:=H0 (hSg.out (c+32) Qa);rw [show (((c+32:Nat)):Int)=(c:Int)+32 from Qa] at hs;replace hv:=H0 hv;go_wp2_with (go_at_call 357;refine (CB _ _ _ _).mono ?_;rintro e w' ⟨rfl,rfl⟩);refine (hs.out _).mono ?_;rintro e w1 ⟨t,rfl,ht,rfl⟩;go_wp2_with fail;go_ret;exact ⟨t,rfl,H0 QD,rfl⟩
   | false=>
    cases a4 with
    | true=>
     have hf:Hid (R=Bv (c+32)):=H0 (hv.trans Qd);have hs:=H0 (hSg.out (c+32) Qa);rw [show (((c+32:Nat)):Int)=(c:Int)+32 from Qa] at hs;replace hv:=H0 hv;go_wp2_with (go_at_call 357;refine (CB _ _ _ _).mono ?_;rintro e w' ⟨rfl,rfl⟩);refine (hs.out _).mono ?_;rintro e w1 ⟨t,rfl,ht,rfl⟩;go_wp2_with fail;go_ret;exact ⟨t,rfl,H0 QD,rfl⟩
    | false=>
     cases a5 with
     | true=>
      have hf:Hid (R=Bv (c+32)):=H0 (hv.trans Qd);have hs:=H0 (hSg.out (c+32) Qa);rw [show (((c+32:Nat)):Int)=(c:Int)+32 from Qa] at hs;replace hv:=H0 hv;go_wp2_with (go_at_call 357;refine (CB _ _ _ _).mono ?_;rintro e w' ⟨rfl,rfl⟩);refine (hs.out _).mono ?_;rintro e w1 ⟨t,rfl,ht,rfl⟩;go_wp2_with fail;go_ret;exact ⟨t,rfl,H0 QD,rfl⟩
     | false=>
      cases a6 with
      | true=>
       have hf:Hid (R=Bv (c+32)):=H0 (hv.trans Qd);have hs:=H0 (hSg.out (c+32) Qa);rw [show (((c+32:Nat)):Int)=(c:Int)+32 from Qa] at hs;replace hv:=H0 hv;go_wp2_with (go_at_call 357;refine (CB _ _ _ _).mono ?_;rintro e w' ⟨rfl,rfl⟩);refine (hs.out _).mono ?_;rintro e w1 ⟨t,rfl,ht,rfl⟩;go_wp2_with fail;go_ret;exact ⟨t,rfl,H0 QD,rfl⟩
      | false=>
       have h7:(a7=true/\bm=true)\/(a7=true/\bm=false)\/a7=false:=by cases a7<;>cases bm<;>simp
       rcases h7 with ⟨rfl,rfl⟩ | h7
       ·
        have hf:Hid (R=Bv (c+1)):=H0 (hv.trans Qd);have hs:=H0 (hSg.out (c+1) Qa);rw [show (((c+1:Nat)):Int)=(c:Int)+1 from Qa] at hs;replace hv:=H0 hv;go_wp2_with (go_at_call 357;refine (CB _ _ _ _).mono ?_;rintro e w' ⟨rfl,rfl⟩);refine (hs.out _).mono ?_;rintro e w1 ⟨t,rfl,ht,rfl⟩;go_wp2_with fail;go_ret;exact ⟨t,rfl,H0 QD,rfl⟩
       have h7v:Hid ((a7 && bm)=false):=H0 (by rcases h7 with ⟨rfl,rfl⟩ | rfl<;>rfl)
       rw [h7v.out] at hv
       have hA:Hid (∀ (Q:Bool->Bool->Prop),Q true false->(Q false bm)->Q a7 bm):=H0 (fun Q q1 q2=>by rcases h7 with ⟨rfl,rfl⟩ | rfl<;>assumption)
       rcases h7 with ⟨rfl,rfl⟩ | rfl
       all_goals
        cases e1 with
        | true=>
         have hf:Hid (R=[105,204,135]):=H0 (hv.trans Qt);replace hv:=H0 hv;go_wp2_with (go_at_call 357;refine (CB _ _ _ _).mono ?_;rintro e w' ⟨rfl,rfl⟩);go_ret;exact ⟨_,rfl,H0 QF,rfl⟩
        | false=>
         cases a8 with
         | true=>
          have hf:Hid (R=Bv (c+80)):=H0 (hv.trans Qd);have hs:=H0 (hSg.out (c+80) Qa);rw [show (((c+80:Nat)):Int)=(c:Int)+80 from Qa] at hs;replace hv:=H0 hv;go_wp2_with (go_at_call 357;refine (CB _ _ _ _).mono ?_;rintro e w' ⟨rfl,rfl⟩);refine (hs.out _).mono ?_;rintro e w1 ⟨t,rfl,ht,rfl⟩;go_wp2_with fail;go_ret;exact ⟨t,rfl,H0 QD,rfl⟩
         | false=>
          cases e2 with
          | true=>
           have hf:Hid (R=[46]):=H0 (hv.trans Qt);replace hv:=H0 hv;go_wp2_with (go_at_call 357;refine (CB _ _ _ _).mono ?_;rintro e w' ⟨rfl,rfl⟩);go_ret;exact ⟨_,rfl,H0 QF,rfl⟩
          | false=>
           cases e3 with
           | true=>
            have hf:Hid (R=[46]):=H0 (hv.trans Qt);replace hv:=H0 hv;go_wp2_with (go_at_call 357;refine (CB _ _ _ _).mono ?_;rintro e w' ⟨rfl,rfl⟩);go_ret;exact ⟨_,rfl,H0 QF,rfl⟩
           | false=>
            cases e4 with
            | true=>
             have hf:Hid (R=[46]):=H0 (hv.trans Qt);replace hv:=H0 hv;go_wp2_with (go_at_call 357;refine (CB _ _ _ _).mono ?_;rintro e w' ⟨rfl,rfl⟩);go_ret;exact ⟨_,rfl,H0 QF,rfl⟩
            | false=>
             cases e5 with
             | true=>
              have hf:Hid (R=[97,47,99]):=H0 (hv.trans Qt);replace hv:=H0 hv;go_wp2_with (go_at_call 357;refine (CB _ _ _ _).mono ?_;rintro e w' ⟨rfl,rfl⟩);go_ret;exact ⟨_,rfl,H0 QF,rfl⟩
             | false=>
              cases e6 with
              | true=>
               have hf:Hid (R=[99,47,111]):=H0 (hv.trans Qt);replace hv:=H0 hv;go_wp2_with (go_at_call 357;refine (CB _ _ _ _).mono ?_;rintro e w' ⟨rfl,rfl⟩);go_ret;exact ⟨_,rfl,H0 QF,rfl⟩
              | false=>
               cases a9 with
               | true=>
                have hf:Hid (R=Bv (c - 9312+49)):=H0 (hv.trans Qd);have hr:=ka9.out rfl;have hs:=H0 (hSg.out (c - 9312+49) Qa);rw [show (((c - 9312+49:Nat)):Int)=(c:Int) - 9312+49 from Qa] at hs;replace hv:=H0 hv;go_wp2_with (go_at_call 357;refine (CB _ _ _ _).mono ?_;rintro e w' ⟨rfl,rfl⟩);refine (hs.out _).mono ?_;rintro e w1 ⟨t,rfl,ht,rfl⟩;go_wp2_with fail;go_ret;exact ⟨t,rfl,H0 QD,rfl⟩
               | false=>
                cases aa with
                | true=>
                 have hr:=kaa.out rfl;obtain ⟨ac,hac⟩:∃ b,En (c - 65248) 65 90=b:=⟨_,rfl⟩
                 have zac:SX ((c:Int) - 65248) 65 90=ac:=by
                  rw [<-hac,<-DQ (c - 65248) 65 90,show ((c - 65248:Nat):Int)=(c:Int) - 65248 from Qa];rfl
                 rw [hac] at hv;replace hac:=H0 hac
                 cases ac with
                 | true=>
                  have hf:Hid (R=Bv (c - 65248+32)):=H0 (hv.trans Qd);have hs:=H0 (hSg.out (c - 65248+32) Qa);rw [show (((c - 65248+32:Nat)):Int)=(c:Int) - 65248+32 from Qa] at hs;replace hv:=H0 hv;go_wp2_with (go_at_call 357;refine (CB _ _ _ _).mono ?_;rintro e w' ⟨rfl,rfl⟩);refine (hs.out _).mono ?_;rintro e w1 ⟨t,rfl,ht,rfl⟩;go_wp2_with fail;go_ret;exact ⟨t,rfl,H0 QD,rfl⟩
                 | false=>
                  have hf:Hid (R=Bv (c - 65248)):=H0 (hv.trans Qd);have hs:=H0 (hSg.out (c - 65248) Qa);rw [show (((c - 65248:Nat)):Int)=(c:Int) - 65248 from Qa] at hs;replace hv:=H0 hv;go_wp2_with (go_at_call 357;refine (CB _ _ _ _).mono ?_;rintro e w' ⟨rfl,rfl⟩);refine (hs.out _).mono ?_;rintro e w1 ⟨t,rfl,ht,rfl⟩;go_wp2_with fail;go_ret;exact ⟨t,rfl,H0 QD,rfl⟩
                | false=>
                 cases ab with
                 | true=>
                  have hr:=kab.out rfl;have hf:Hid (R=Bv (48+(c - 120782) % 10)):=H0 (hv.trans Qd);have hs:=H0 (hSg.out (48+(c - 120782) % 10) Qa);rw [show (((48+(c - 120782) % 10:Nat)):Int)=48+((c:Int) - 120782) % 10 from Qa] at hs;replace hv:=H0 hv;go_wp2_with (go_at_call 357;refine (CB _ _ _ _).mono ?_;rintro e w' ⟨rfl,rfl⟩);refine (hs.out _).mono ?_;rintro e w1 ⟨t,rfl,ht,rfl⟩;go_wp2_with fail;go_ret;exact ⟨t,rfl,H0 QD,rfl⟩
                 | false=>
                  have hf:Hid (R=[]):=H0 (hv.trans Qt);replace hv:=H0 hv;go_wp2_with (go_at_call 357;refine (CB _ _ _ _).mono ?_;rintro e w' ⟨rfl,rfl⟩);go_ret;exact ⟨_,rfl,H0 QF,rfl⟩
def Gg (n:Nat):Value:= .int .i64 (n:Int)
def Es (w:World) (B:Nat) (v:Value) (l:List Nat):Prop:=w.ownsRow B 3 1 v l.length (l.map Gg)
theorem Es.nil (w:World) (B:Nat):Es w B (.slice none 0 0) []:=World.ownsRow_nil _ _ _ _
theorem AiT:EZ Tryz.prog 150 3 (.int .i64 0) 8:=EZ.mk' Tryz.underlying150 Qb rfl
theorem Es.below {w w':World} {B K:Nat} {v:Value} {l:List Nat} (h:Es w B v l) (hb:Below K w w') (hK:w.heap.size<=K):Es w' B v l:=BC h hb hK
theorem Es.mono {w:World} {B C:Nat} {v:Value} {l:List Nat} (h:Es w B v l) (hC:C<=B):Es w C v l:=by
 refine ⟨h.1,?_⟩
 rcases h.2 with hn | ⟨g,cap,cur,rfl,hg,rest⟩
 ·exact .inl hn
 ·exact .inr ⟨g,cap,cur,rfl,Qa,rest⟩
structure Wg (w:World) (pa:Option Addr) (n c:Nat) (l:List Nat):Prop where
 len:l.length=n
 cap:n<=c
 cells:0<n->∃ g o,pa=some ⟨g,o,none⟩/\∀ i (h:i<l.length),w.cell? ⟨g,o+i,none⟩=some (Gg l[i])
theorem Es.read {w:World} {B:Nat} {v:Value} {l:List Nat} (h:Es w B v l):∃ pa c,v= .slice pa l.length c/\Wg w pa l.length c l:=by
 rcases h.2 with ⟨rfl,hn⟩ | ⟨g,cap,cur,rfl,hg,hh,hcap,hml,hcs,hcur⟩
 ·exact ⟨none,0,by rw [hn],rfl,Qa,fun h0=>Qa⟩
 ·refine ⟨_,cap,rfl,rfl,hcap,fun _=>⟨g,0,rfl,fun i hi=> ?_⟩⟩
  have:=World.ownsRow.cellAt h i Qa;rw [Nat.zero_add,this];simp [hi]
theorem Wg.below {w w':World} {K:Nat} {pa:Option Addr} {n c:Nat} {l:List Nat} (h:Wg w pa n c l) (hb:Below K w w') (hK:w.heap.size<=K):Wg w' pa n c l:=by
 refine ⟨h.len,h.cap,fun h0=> ?_⟩
 obtain ⟨g,o,e,hc⟩:=h.cells h0
 refine ⟨g,o,e,fun i hi=> ?_⟩
 have:=World.block_lt_of_cell? w _ (hc i hi);rw [hb.cell Aka];exact hc i hi
theorem L9 {ops:Array Oper} {rest:List Oper} {o:Oper} {a:Act} {Q:Exit->Act->World->Prop}
  (hgd:o.guard=none) (s x:Operand) (ho:o.op= .call { callee:= .builtin .append,args:= #[s,x],argTypes:= #[150,150] })
  {W0 w0:World} {B:Nat} {v:Value} {l:List Nat} {n:Int} (c:Nat) (hs:a.eval s=v) (hx:a.eval x= .slice (some ⟨w0.heap.size,0,none⟩) 1 1)
  (hown:Es w0 B v l) (hbel:Below B W0 w0) (hB:B<=w0.heap.size) (hc:n=(c:Int)) (h63:l.length<=1000000000)
  (h:∀ v' w',Es w' B v' (l++[c])->Below B W0 w'->(v'= .slice none 0 0->False)->wpList Tryz.prog ops Q rest (a.put o.dst v') w'):
  wpList Tryz.prog ops Q (o :: rest) a (w0.alloc (.cells #[.int .i64 n] 3)):=by
 subst hc
 refine JS AiT hgd s x ho (xs:=l.map Gg) (v:=v) rfl hs hx (by simpa [Es] using hown) hbel hB (by unfold maxLen;simp;omega) Qi ?_
 intro v' w' h1 h2 h3;refine h v' w' ?_ h2 h3;simpa [Es,Gg] using h1
theorem ZD {w:World} {B k:Nat} {v:Value} {l:List Nat} (h:Es w B v l) (hk:k<B) (s:ByteArray) (p:Nat):Es (w.iterAt k s p) B v l:=by
 refine ⟨h.1,?_⟩
 rcases h.2 with hn | ⟨g,cap,cur,rfl,hg,hh,rest⟩
 ·exact .inl hn
 ·refine .inr ⟨g,cap,cur,rfl,hg,?_,rest⟩;simp only [World.iterAt];rw [Array.getElem?_setIfInBounds_ne Qa];exact hh
def Ag1 (l:List Nat) (w:World) (e:Ending) (w':World):Prop:=∃ v:Value,e= .returned v/\Es w' w.heap.size v l/\Below w.heap.size w w'
def UX:Array Value:= #[.int .i64 0,.int .i64 0x7f,.int .i64 0xdf,.int .i64 0xf6,.int .i64 0xf8,.int .i64 0xff,.int .i64 0x101,.int .i64 0x12f,.int .i64 0x300,.int .i64 0x36f,.int .i64 0x3b1,.int .i64 0x3c9,.int .i64 0x430,.int .i64 0x45f,.int .i64 0x3041,.int .i64 0x3096,.int .i64 0x30a1,.int .i64 0x30fa,.int .i64 0x4e00,.int .i64 0x9fff,.int .i64 0xac00,.int .i64 0xd7a3,.int .i64 0x1f300,.int .i64 0x1f5ff]
def KU (k:Nat):Nat:=(Ih.getD k (0,0)).1
def KO (k:Nat):Nat:=(Ih.getD k (0,0)).2
theorem AcI (w:World):∀ k:Nat,k<12->(Instr.index 267 (.agg UX) (.int .i64 (k:Int))).run Tryz.prog w= .ok (.agg #[.int .i64 (KU k:Int),.int .i64 (KO k:Int)]) w
 | 0,_=>Qb
 | 1,_=>Qb
 | 2,_=>Qb
 | 3,_=>Qb
 | 4,_=>Qb
 | 5,_=>Qb
 | 6,_=>Qb
 | 7,_=>Qb
 | 8,_=>Qb
 | 9,_=>Qb
 | 10,_=>Qb
 | 11,_=>Qb
 | n+12,h=>Qa
theorem Abv:(Tryz.prog.info? 267).map (·.size)=some 24:=Qb
theorem AcY {c k:Nat} (hk:k<12) (h:En c (KU k) (KO k)=true):Ix c=true:=by
 unfold Ix;rw [List.any_eq_true];have hl:k<Ih.length:=hk;refine ⟨Ih[k],List.getElem_mem hl,?_⟩;unfold KU KO at h;rw [List.getD_eq_getElem?_getD,List.getElem?_eq_getElem hl] at h;exact h
theorem Aff {c:Nat} (h:∀ k,k<12->En c (KU k) (KO k)=false):Ix c=false:=by
 unfold Ix;rw [List.any_eq_false];intro r hr;obtain ⟨k,hk,rfl⟩:=List.getElem_of_mem hr;have:=h k hk;unfold KU KO at this;rw [List.getD_eq_getElem?_getD,List.getElem?_eq_getElem hk] at this;rw [show En c Ih[k].1 Ih[k].2=false from this];decide
theorem Acr (c:Nat) (w:World):Calls Tryz.prog 349 #[.int .i64 (c:Int)] w fun e w'=>e= .returned (.bool (Ix c))/\Below w.heap.size w w':=by
 obtain ⟨R,hR⟩:=N2 (Ix c);rw [hR];replace hR:=H0 hR;go_enter Tryz.func349,Tryz.ntmps349
 go_wp2_with (first
  | (refine Af rfl 267 _ _ rfl rfl UX _ _ _ rfl Qf rfl Abv rfl Qb ?_)
  | (refine wpList_load_row rfl 267 _ rfl w.heap.size rfl _ UX _ _ (heap_alloc_new w _) Tryz.underlying267 rfl Abv ?_))
 have hbw:Below w.heap.size w (w.alloc (.cells UX 267)):=(Below.refl _ _).alloc (Nat.le_refl _) _
 go_loopw [20] (fun v wr=>∃ k:Nat,v= .int .i64 k/\k<=12/\Below w.heap.size w wr/\Hid (∀ j,j<k->En c (KU j) (KO j)=false)) (fun v _=>12 - (intOf v).toNat)
 case atStart=>exact ⟨0,rfl,Qa,hbw,H0 (fun j hj=>absurd hj (Nat.not_lt_zero _))⟩
 case round=>
  clear hbw;obtain ⟨k,rfl,hk,hbel,hno⟩:=hrel;have hsz:=hbel.size
  by_cases hlt:k<12
  ·have hltI:(k:Int)<12:=Qa
   have hix:=fun w=>AcI w k hlt
   have hz:=DQ c (KU k) (KO k);obtain ⟨q,hq⟩:=N2 (En c (KU k) (KO k));rw [hq] at hz;have hyes:=H0 (AcY (c:=c) hlt);replace hq:=H0 hq;obtain ⟨lo,hlo⟩:∃ x,KU k=x:=⟨_,rfl⟩;obtain ⟨hi,hhi⟩:∃ x,KO k=x:=⟨_,rfl⟩;rw [hlo,hhi] at hix hz;replace hlo:=H0 hlo;replace hhi:=H0 hhi;cases q
   ·have hne:Hid (∀ j,j<k+1->En c (KU j) (KO j)=false):=H0 (fun j hj=>by
     by_cases e:j=k
     ·subst e;exact hq.out
     ·exact hno.out j Qa)
    go_wp2_with (go_at_call 357;refine (CB _ _ _ _).mono ?_;rintro e w' ⟨rfl,rfl⟩);go_roundw
    case rel=>exact ⟨k+1,Ql,Qa,hbel.alloc hsz _,hne⟩
    case measure=>simp [intOf];omega
   ·have hfin:Hid (R=true):=H0 (hR.out.symm.trans (hyes.out hq.out));go_wp2_with (go_at_call 357;refine (CB _ _ _ _).mono ?_;rintro e w' ⟨rfl,rfl⟩);go_ret;exact ⟨Akm,hbel.alloc hsz _⟩
  ·have hltI:(12:Int)<=(k:Int):=Qa
   have hfin:Hid (R=false):=H0 (hR.out.symm.trans (Aff (fun j hj=>hno.out j Qa)))
   go_wp2_with fail;go_ret;exact ⟨Akm,hbel⟩
def Afj (m:List UInt8 × Nat) (w:World) (e:Ending) (w':World):Prop:=∃ t:ByteArray,e= .returned (.tuple #[.string t,.int .i64 (m.2:Int)])/\Hid (t.toList=m.1)/\Below w.heap.size w w'
theorem J4 {m:List UInt8 × Nat} {l:List UInt8} {n:Nat} {t:ByteArray} {w w':World} (h:m=(l,n)) (ht:t.toList=l) (hb:Below w.heap.size w w'):Afj m w (.returned (.tuple #[.string t,.int .i64 (n:Int)])) w':=by
 subst h;exact ⟨t,rfl,H0 ht,hb⟩
theorem Abf (c:Nat) (w:World) (hc:c<=1114111):Calls Tryz.prog 338 #[.int .i64 (c:Int)] w (Afj (Fp c) w):=by
 obtain ⟨R,hR⟩:=N2 (Fp c);rw [hR]
 have hv:R=if Fd c≠[] then (Fd c,2) else if Wl c=true then ([],3) else if Ix c=true then (Bv c,1) else ([],0):=hR.symm
 replace hR:=H0 hR
 have hot:=H0 (fun w=>AdD c w hc)
 have hgo:=Aeh c;have hva:=Acr c;have hsi:=H0 (Jp c Qa);obtain ⟨O,hO⟩:=N2 (Fd c);obtain ⟨G,hG⟩:=N2 (Wl c);obtain ⟨V,hV⟩:=N2 (Ix c);rw [hO] at hv hot;rw [hG] at hv hgo;rw [hV] at hv hva;replace hgo:=H0 hgo;replace hva:=H0 hva;replace hO:=H0 hO;replace hG:=H0 hG;replace hV:=H0 hV
 cases O with
 | cons x r=>
  have hf:Hid (R=(x :: r,2)):=H0 (hv.trans (if_pos Qf));replace hv:=H0 hv;go_enter Tryz.func338,Tryz.ntmps338;go_wp2_with fail;refine (hot.out _).mono ?_;rintro e w1 ⟨t,rfl,ht,rfl⟩;have hem:t.toList.isEmpty=false:=Akd;go_wp2_with fail;go_ret2;exact J4 hf.out ht.out (Below.refl _ _)
 | nil=>
  rw [if_neg Qf] at hv
  cases G with
  | true=>
   have hf:Hid (R=([],3)):=H0 (hv.trans (if_pos rfl));replace hv:=H0 hv;go_enter Tryz.func338,Tryz.ntmps338;go_wp2_with fail;refine (hot.out _).mono ?_;rintro e w1 ⟨t,rfl,ht,rfl⟩;have hem:t.toList.isEmpty=true:=Akd;go_wp2_with fail;refine (hgo.out _).mono ?_;rintro e w2 ⟨rfl,rfl⟩;go_wp2_with fail;go_ret2;exact J4 hf.out (toList_mk []) (Below.refl _ _)
  | false=>
   rw [if_neg Qc] at hv
   cases V with
   | true=>
    have hf:Hid (R=(Bv c,1)):=H0 (hv.trans (if_pos rfl));replace hv:=H0 hv;go_enter Tryz.func338,Tryz.ntmps338;go_wp2_with fail;refine (hot.out _).mono ?_;rintro e w1 ⟨t,rfl,ht,rfl⟩;have hem:t.toList.isEmpty=true:=Akd;go_wp2_with fail;refine (hgo.out _).mono ?_;rintro e w2 ⟨rfl,rfl⟩;go_wp2_with fail;refine (hva.out _).mono ?_;rintro e w3 ⟨rfl,hb3⟩;go_wp2_with fail;refine (hsi.out _).mono ?_;rintro e w4 ⟨t2,rfl,ht2,rfl⟩;go_wp2_with fail;go_ret2;exact J4 hf.out ht2.out hb3
   | false=>
    have hf:Hid (R=([],0)):=H0 (hv.trans (if_neg Qc));replace hv:=H0 hv;go_enter Tryz.func338,Tryz.ntmps338;go_wp2_with fail;refine (hot.out _).mono ?_;rintro e w1 ⟨t,rfl,ht,rfl⟩;have hem:t.toList.isEmpty=true:=Akd;go_wp2_with fail;refine (hgo.out _).mono ?_;rintro e w2 ⟨rfl,rfl⟩;go_wp2_with fail;refine (hva.out _).mono ?_;rintro e w3 ⟨rfl,hb3⟩;go_wp2_with fail;go_ret2;exact J4 hf.out (toList_mk []) hb3
theorem Yf {l:List Nat} {c:Nat} (h:l≠[]) (hc:l.headD 0=c):Hz l=(!En c 0x300 0x36f && l.all G1 && l.any fun c=>decide (0x7f<c)):=by
 cases l with
 | nil=>exact absurd rfl h
 | cons a r=>rw [<-hc];rfl
theorem AfV (l:List Nat) (p:Nat->Bool) (k:Nat) (h:k<l.length):(l.take (k+1)).any p=((l.take k).any p || p l[k]):=by
 rw [List.take_succ_eq_append_getElem h,List.any_append];simp
theorem Ah7 {l:List Nat} {p:Nat->Bool} {k:Nat} (h:k<l.length) (hp:p l[k]=false):l.all p=false:=by
 rw [List.all_eq_false]
 exact ⟨l[k],List.getElem_mem h,by rw [hp];decide⟩
theorem TC (pa:Option Addr) (n c:Nat) (l:List Nat) (w:World) (h:Wg w pa n c l) (hn:n<=1000000000) (hs:∀ x∈l,x<=1114111):Calls Tryz.prog 353 #[.slice pa n c] w fun e w'=>e= .returned (.bool (Hz l))/\Below w.heap.size w w':=by
 have hln:=h.len;have hread:=H0 h;clear h
 by_cases h0:n=0
 ·have hf:Hz l=false:=by rw [List.length_eq_zero_iff.1 (hln.trans h0)];rfl
  subst h0;rw [hf];replace hln:=H0 hln;replace hf:=H0 hf;go_enter Tryz.func353,Tryz.ntmps353;go_wp2_with fail;go_ret;exact ⟨rfl,Below.refl _ _⟩
 have hneI:((n:Int)==0)=false:=Qg;have hnI:(0:Int)<(n:Int):=Qa;obtain ⟨g,o,rfl,hc0⟩:=hread.out.cells Qa;have hl0:0<l.length:=Qa;have ck0:=hc0 0 hl0;unfold Gg at ck0;rw [Nat.add_zero] at ck0;obtain ⟨x0,hx0⟩:∃ x,l[0]=x:=⟨_,rfl⟩;rw [hx0] at ck0
 have hlab:=Yf (l:=l) (c:=x0) (fun e=>by rw [e] at hl0;cases hl0) (by
  cases l with
  | nil=>cases hl0
  | cons a r=>exact hx0)
 have hz0:=DQ x0 0x300 0x36f;obtain ⟨q0,hq0⟩:∃ q,En x0 0x300 0x36f=q:=⟨_,rfl⟩;have hz0:SX (x0:Int) 768 879=q0:=hz0.trans hq0;rw [hq0] at hlab;replace hq0:=H0 hq0;replace hx0:=H0 hx0;replace hc0:=H0 hc0;obtain ⟨R,hR⟩:=N2 (Hz l);rw [hR] at hlab⊢;replace hR:=H0 hR;replace h0:=H0 h0;replace hln:=H0 hln;replace hs:=H0 hs;cases q0
 case true=>
  have hf:Hid (R=false):=H0 (hlab.trans Qf);replace hlab:=H0 hlab;go_enter Tryz.func353,Tryz.ntmps353;go_wp2_with (go_at_call 357;refine (CB _ _ _ _).mono ?_;rintro e w' ⟨rfl,rfl⟩)
  all_goals
   go_ret
   exact ⟨by rw [hf.out];rfl,Below.refl _ _⟩
 have hlab:R=(l.all G1 && l.any fun c=>decide (0x7f<c)):=hlab.trans Qf
 replace hlab:=H0 hlab;go_enter Tryz.func353,Tryz.ntmps353;go_wp2_with (go_at_call 357;refine (CB _ _ _ _).mono ?_;rintro e w' ⟨rfl,rfl⟩)
 go_loopw [3,19] (fun v3 v19 wr=>∃ k:Nat,v19= .int .i64 (k:Int)/\k<=n/\v3= .bool ((l.take k).any fun c=>decide (0x7f<c))/\Below w.heap.size w wr/\Hid ((l.take k).all G1=true)) (fun _ v19 _=>n - (intOf v19).toNat)
 case atStart=>exact ⟨0,rfl,Nat.zero_le _,rfl,Below.refl _ _,H0 rfl⟩
 case round=>
  obtain ⟨k,rfl,hk,rfl,hbel,hall⟩:=hrel;clear ck0;have hszw:=hbel.size
  by_cases hlt:k<n
  ·have hI:(k:Int)<(n:Int):=Qa;have hr:=hread.out.below hbel (Nat.le_refl _);obtain ⟨g',o',e1,hc⟩:=hr.cells Qa;cases e1;have hkl:k<l.length:=AhN;have ck:=hc k hkl;unfold Gg at ck
   have hany:=AfV l (fun c=>decide (0x7f<c)) k hkl
   have hano:=H0 (Ah7 (p:=G1) hkl);have hmem:=List.getElem_mem hkl
   have hall2:Hid (G1 l[k]=true->(l.take (k+1)).all G1=true):=H0 (fun e=>by
    rw [List.take_succ_eq_append_getElem hkl,List.all_append,hall.out,Bool.true_and,List.all_cons,e];rfl)
   obtain ⟨x,hx⟩:=N2 (l[k]);rw [hx] at ck hany hano hmem hall2;have hx11:=hs.out x hmem;replace hmem:=H0 hmem;replace hx:=H0 hx;replace hc:=H0 hc;clear hr
   obtain ⟨A,hA⟩:∃ A,((l.take k).any fun c=>decide (0x7f<c))=A:=⟨_,rfl⟩
   rw [hA] at hany⊢;replace hA:=H0 hA
   have hmp:=H0 (fun w=>Abf x w hx11)
   have hoks:G1 x=(decide ((Fp x).2=1) && decide (x≠46)):=rfl;obtain ⟨m,hm⟩:=N2 (Fp x);rw [hm] at hmp hoks;replace hm:=H0 hm;obtain ⟨ml,mn⟩:=m;dsimp only at hoks
   by_cases h1:mn=1
   ·subst h1
    by_cases h46:x=46
    ·subst h46
     have hf:Hid (R=false):=H0 (by rw [hlab.out,hano.out (by rw [hoks];rfl)];rfl)
     replace hoks:=H0 hoks;replace hany:=H0 hany;go_wp2_with fail;refine (hmp.out _).mono ?_;rintro e w1 ⟨t,rfl,ht,hb1⟩;go_wp2_with fail;go_ret
     exact ⟨by rw [hf.out];rfl,hbel.trans (hb1.mono hszw)⟩
    ·have hx46:((x:Int)==46)=false:=Qg
     have hnew:=H0 (hall2.out (by rw [hoks];simp [h46]))
     replace hoks:=H0 hoks;have hgt:decide (0x7f<x)=decide (127<(x:Int)):=decide_eq_decide.2 Qa;rw [hgt] at hany;obtain ⟨D,hD⟩:=N2 (decide (127<(x:Int)));rw [hD] at hany;have hnat:decide (127<x)=D:=hgt.trans hD;replace hgt:=H0 hgt;replace h46:=H0 h46;replace hany:=H0 hany;go_wp2_with fail;refine (hmp.out _).mono ?_;rintro e w1 ⟨t,rfl,ht,hb1⟩;have hb2:=hbel.trans (hb1.mono hszw);cases A
     all_goals
      go_wp2_with fail;go_roundw
      case rel=>exact ⟨k+1,Ql,Qa,by rw [hany.out];simp,hb2,hnew⟩
      case measure=>simp [intOf];omega
   ·have hmn:((mn:Int)==1)=false:=Qg
    have hf:Hid (R=false):=H0 (by rw [hlab.out,hano.out (by rw [hoks];simp [h1])];rfl)
    replace hoks:=H0 hoks;replace hany:=H0 hany;replace h1:=H0 h1;go_wp2_with fail;refine (hmp.out _).mono ?_;rintro e w1 ⟨t,rfl,ht,hb1⟩;go_wp2_with fail;go_ret
    exact ⟨by rw [hf.out];rfl,hbel.trans (hb1.mono hszw)⟩
  ·have hI:(n:Int)<=(k:Int):=Qa;have htk:l.take k=l:=List.take_of_length_le AhN
   have hf:Hid (R=(l.take k).any fun c=>decide (0x7f<c)):=H0 (by rw [hlab.out,htk];rw [htk] at hall;rw [hall.out];simp)
   replace htk:=H0 htk;go_wp2_with fail;go_ret
   exact ⟨by rw [hf.out];rfl,hbel⟩
def Xl (n:Int) (w:World) (e:Ending) (w':World):Prop:=e= .returned (.int .i64 n)/\w=w'
theorem Adj (c:UInt8) (r:List UInt8):Hu (c :: r)=IW ((Bc c.toNat).2.2 - 1) (Bc c.toNat).1 (Bc c.toNat).2.1 r+1:=rfl
theorem SJ (pa:Option Addr) (n c:Nat) (l:List UInt8) (w:World) (h:F9 w pa n c l) (h0:0<n) (hm:n<=maxLen):
  Calls Tryz.prog 99 #[.slice pa n c] w (Xl (Hu l:Int) w):=by
 obtain ⟨g,o,rfl,hcell⟩:=h.cells h0;have hln:=h.len;unfold maxLen at hm;have h0l:0<l.length:=Qa;have c0:=hcell 0 h0l;rw [Nat.add_zero] at c0;unfold Dy at c0;have h0n:(0:Nat)<n:=h0
 obtain ⟨x,r,hl⟩:∃ x r,l=x :: r:=by
  cases l with
  | nil=>simp at h0l
  | cons x r=>exact ⟨x,r,rfl⟩
 have hx:l[0]=x:=by subst hl;rfl
 rw [hx] at c0
 have hb:Hid (Hu l=IW ((Bc x.toNat).2.2 - 1) (Bc x.toNat).1 (Bc x.toNat).2.1 (l.drop 1)+1):=H0 (by rw [hl];rfl)
 have hbeh:=AaT x.toNat x.toNat_lt;unfold Y8 at hbeh;have hsz:=Vh x.toNat;obtain ⟨lo0,hlo⟩:∃ v,(Bc x.toNat).1=v:=⟨_,rfl⟩;obtain ⟨hi0,hhi⟩:∃ v,(Bc x.toNat).2.1=v:=⟨_,rfl⟩;obtain ⟨sz,hsze⟩:∃ v,(Bc x.toNat).2.2=v:=⟨_,rfl⟩;rw [hlo,hhi,hsze] at hb hbeh;rw [hsze] at hsz;replace hbeh:=H0 hbeh;replace hcell:=H0 hcell;replace hlo:=H0 hlo;replace hhi:=H0 hhi;replace hsze:=H0 hsze;replace hl:=H0 hl;replace hx:=H0 hx;replace hln:=H0 hln;clear h;go_enter Tryz.func99,Tryz.ntmps99;go_wp2_with (go_at_call 169;refine (hbeh.out _).mono ?_;rintro e w' ⟨rfl,rfl⟩);clear c0
 go_loop [3,4,6] (fun v3 v4 v6=>∃ k lo hi:Nat,v3= .int .u8 lo/\v4= .int .u8 hi/\v6= .int .i64 k/\1<=k/\k<=sz/\k<=n/\Hid (Hu l=IW (sz - k) lo hi (l.drop k)+k)) (fun _ _ v6=>sz - (intOf v6).toNat)
 case atStart=>exact ⟨1,lo0,hi0,rfl,rfl,rfl,Nat.le_refl _,hsz.1,h0n,hb⟩
 case round=>
  obtain ⟨k,lo,hi,rfl,rfl,rfl,hk1,hks,hkn,hv⟩:=hrel;clear hb
  have fin:∀ m,Hid (IW (sz - k) lo hi (l.drop k)=m)->Hid (Hu l=m+k):=fun m e=>H0 (by rw [hv.out,e.out])
  replace fin:=H0 fin
  by_cases h1:k<sz
  ·have h1I:(k:Int)<(sz:Int):=Qa;obtain ⟨m,hm1⟩:∃ m,sz - k=m+1:=⟨sz - k - 1,Qa⟩;have hm2:sz - (k+1)=m:=Qa
   by_cases h2:k<n
   ·have h2I:(k:Int)<(n:Int):=Qa
    have hkl:k<l.length:=by rw [hln.out];exact h2
    have ck:=hcell.out k hkl;unfold Dy at ck;have hd:Hid (l.drop k=l[k] :: l.drop (k+1)):=H0 (List.drop_eq_getElem_cons hkl);obtain ⟨y,hy⟩:=N2 (l[k]);rw [hy] at ck hd;replace hy:=H0 hy
    by_cases h3:lo<=y.toNat/\y.toNat<=hi
    ·have hn:Hid (Hu l=IW (sz - (k+1)) 128 191 (l.drop (k+1))+(k+1)):=H0 (by
      rw [hv.out,hd.out,hm1,IW,if_pos h3,hm2];omega)
     obtain ⟨h4,h5⟩:=h3;have h4I:(lo:Int)<=(y.toNat:Int):=Qa;have h5I:(y.toNat:Int)<=(hi:Int):=Qa;replace hm1:=H0 hm1;replace hm2:=H0 hm2;go_wp2_with fail;go_round
     case rel=>exact ⟨k+1,128,191,rfl,rfl,Ql,Qa,Qa,Qa,hn⟩
     case measure=>simp [intOf];omega
    ·have hn:Hid (Hu l=0+k):=fin.out 0 (H0 (by rw [hd.out,hm1,IW,if_neg h3]))
     replace hm1:=H0 hm1;replace hm2:=H0 hm2
     by_cases h4:lo<=y.toNat
     ·have h4I:(lo:Int)<=(y.toNat:Int):=Qa;have h5I:(hi:Int)<(y.toNat:Int):=Qa;replace h3:=H0 h3;go_wp2_with fail;go_ret;exact ⟨Aiw,rfl⟩
     ·have h4I:(y.toNat:Int)<(lo:Int):=Qa;replace h3:=H0 h3;go_wp2_with fail;go_ret;exact ⟨Aiw,rfl⟩
   ·have h2I:(n:Int)<=(k:Int):=Qa
    have hn:Hid (Hu l=0+k):=fin.out 0 (H0 (by
     rw [List.drop_of_length_le (by rw [hln.out];omega),hm1];rfl))
    replace hm1:=H0 hm1;replace hm2:=H0 hm2;go_wp2_with fail;go_ret;exact ⟨Aiw,rfl⟩
  ·have h1I:(sz:Int)<=(k:Int):=Qa
   have hn:Hid (Hu l=0+k):=fin.out 0 (H0 (by rw [show sz - k=0 by omega];rfl))
   go_wp2_with fail;go_ret;exact ⟨Aiw,rfl⟩
theorem PK (j bias:Nat) (w:World) (hj:j<=1000000000) (hb:bias<=1000000000):Calls Tryz.prog 370 #[.int .i64 (j:Int),.int .i64 (bias:Int)] w (Xl (BP j bias:Int) w):=by
 have h1:(j:Int)<=1000000000:=Qa;have h2:(bias:Int)<=1000000000:=Qa;have h3:(0:Int)<=(j:Int):=Qa;have h4:(0:Int)<=(bias:Int):=Qa;go_enter Tryz.func370,Tryz.ntmps370;go_wp2_with fail
 all_goals
  go_ret;refine ⟨OZ ?_,rfl⟩;unfold BP;omega
def Dr (c:UInt8):Int:=match JE c with | none=> -1 | some d=>(d:Int)
theorem AcP (c:UInt8) (w:World):Calls Tryz.prog 369 #[.int .u8 (c.toNat:Int)] w (Xl (Dr c) w):=by
 have b0:=AN c;have b1:=AX c
 have hway:((97:Int)<=(c.toNat:Int)/\(c.toNat:Int)<=122/\Dr c=(c.toNat:Int) - 97)\/((c.toNat:Int)<97/\(65:Int)<=(c.toNat:Int)/\(c.toNat:Int)<=90/\Dr c=(c.toNat:Int) - 65)\/((c.toNat:Int)<97/\(c.toNat:Int)<65/\(48:Int)<=(c.toNat:Int)/\(c.toNat:Int)<=57/\Dr c=(c.toNat:Int) - 48+26)\/
   ((97:Int)<=(c.toNat:Int)/\(122:Int)<(c.toNat:Int)/\(90:Int)<(c.toNat:Int)/\(57:Int)<(c.toNat:Int)/\Dr c= -1)\/((c.toNat:Int)<97/\(65:Int)<=(c.toNat:Int)/\(90:Int)<(c.toNat:Int)/\(57:Int)<(c.toNat:Int)/\Dr c= -1)\/((c.toNat:Int)<97/\(c.toNat:Int)<65/\(48:Int)<=(c.toNat:Int)/\(57:Int)<(c.toNat:Int)/\Dr c= -1)\/((c.toNat:Int)<97/\(c.toNat:Int)<65/\(c.toNat:Int)<48/\(c.toNat:Int)<=57/\Dr c= -1):=by
  have key:∀ n:Fin 256,((97:Int)<=((UInt8.ofNat n.val).toNat:Int)/\((UInt8.ofNat n.val).toNat:Int)<=122/\Dr (UInt8.ofNat n.val)=((UInt8.ofNat n.val).toNat:Int) - 97)\/(((UInt8.ofNat n.val).toNat:Int)<97/\(65:Int)<=((UInt8.ofNat n.val).toNat:Int)/\((UInt8.ofNat n.val).toNat:Int)<=90/\Dr (UInt8.ofNat n.val)=((UInt8.ofNat n.val).toNat:Int) - 65)\/(((UInt8.ofNat n.val).toNat:Int)<97/\((UInt8.ofNat n.val).toNat:Int)<65/\(48:Int)<=((UInt8.ofNat n.val).toNat:Int)/\((UInt8.ofNat n.val).toNat:Int)<=57/\Dr (UInt8.ofNat n.val)=((UInt8.ofNat n.val).toNat:Int) - 48+26)\/
   ((97:Int)<=((UInt8.ofNat n.val).toNat:Int)/\(122:Int)<((UInt8.ofNat n.val).toNat:Int)/\(90:Int)<((UInt8.ofNat n.val).toNat:Int)/\(57:Int)<((UInt8.ofNat n.val).toNat:Int)/\Dr (UInt8.ofNat n.val)= -1)\/(((UInt8.ofNat n.val).toNat:Int)<97/\(65:Int)<=((UInt8.ofNat n.val).toNat:Int)/\(90:Int)<((UInt8.ofNat n.val).toNat:Int)/\(57:Int)<((UInt8.ofNat n.val).toNat:Int)/\Dr (UInt8.ofNat n.val)= -1)\/(((UInt8.ofNat n.val).toNat:Int)<97/\((UInt8.ofNat n.val).toNat:Int)<65/\(48:Int)<=((UInt8.ofNat n.val).toNat:Int)/\(57:Int)<((UInt8.ofNat n.val).toNat:Int)/\Dr (UInt8.ofNat n.val)= -1)\/(((UInt8.ofNat n.val).toNat:Int)<97/\((UInt8.ofNat n.val).toNat:Int)<65/\((UInt8.ofNat n.val).toNat:Int)<48/\((UInt8.ofNat n.val).toNat:Int)<=57/\Dr (UInt8.ofNat n.val)= -1):=Qe
  have:=key ⟨c.toNat,c.toNat_lt⟩;simp only [UInt8.ofNat_toNat] at this;exact this
 generalize Dr c=v at hway⊢;generalize (c.toNat:Int)=z at *;go_enter Tryz.func369,Tryz.ntmps369
 rcases hway with ⟨h1,h2,rfl⟩ | ⟨h1,h2,h3,rfl⟩ | ⟨h1,h2,h3,h4,rfl⟩ | ⟨h1,h2,h3,h4,rfl⟩ | ⟨h1,h2,h3,h4,rfl⟩ | ⟨h1,h2,h3,h4,rfl⟩ | ⟨h1,h2,h3,h4,rfl⟩
 all_goals
  go_wp2_with fail;go_ret;exact ⟨rfl,rfl⟩
theorem Pe (d:Nat) (w:World) (hd:d<36):Calls Tryz.prog 373 #[.int .i64 (d:Int)] w fun e w'=>e= .returned (.int .u8 ((Gl d).toNat:Int))/\w=w':=by
 have hway:((d:Int)<26/\Hid (((Gl d).toNat:Int)=97+(d:Int)))\/((26:Int)<=(d:Int)/\Hid (((Gl d).toNat:Int)=48+(d:Int) - 26)):=by
  have key:∀ d:Fin 36,((d.val:Int)<26/\((Gl d.val).toNat:Int)=97+(d.val:Int))\/((26:Int)<=(d.val:Int)/\((Gl d.val).toNat:Int)=48+(d.val:Int) - 26):=Qe
  rcases key ⟨d,hd⟩ with ⟨h1,h2⟩ | ⟨h1,h2⟩
  ·exact .inl ⟨h1,H0 h2⟩
  ·exact .inr ⟨h1,H0 h2⟩
 have h0:(0:Int)<=(d:Int):=Qa;have h36:(d:Int)<36:=Qa;generalize ((Gl d).toNat:Int)=v at hway⊢;generalize (d:Int)=z at *;go_enter Tryz.func373,Tryz.ntmps373
 rcases hway with ⟨h1,h2⟩ | ⟨h1,h2⟩
 ·have hw:IntKind.u8.wrap (97+z)=97+z:=Aj6;go_wp2_with fail;go_ret
  exact ⟨by rw [h2.out];rfl,rfl⟩
 ·have hw:IntKind.u8.wrap (48+z - 26)=48+z - 26:=Aj6;go_wp2_with fail;go_ret
  exact ⟨by rw [h2.out];rfl,rfl⟩
theorem K7 (c:Nat) (w:World):Calls Tryz.prog 362 #[.int .i64 (c:Int)] w fun e w'=>e= .returned (.bool (Bj c))/\w=w':=by
 have h0:(0:Int)<=(c:Int):=Qa
 have hway:((c:Int)<55296/\(c:Int)<=1114111/\Bj c=true)\/((55296:Int)<=(c:Int)/\(c:Int)<=1114111/\(57343:Int)<(c:Int)/\Bj c=true)\/((55296:Int)<=(c:Int)/\(c:Int)<=1114111/\(c:Int)<=57343/\Bj c=false)\/((1114111:Int)<(c:Int)/\Bj c=false):=by
  unfold Bj
  by_cases h1:c<55296
  ·exact .inl ⟨Qa,Qa,Qi⟩
  by_cases h2:c<=57343
  ·exact .inr (.inr (.inl ⟨Qa,Qa,Qa,Qi⟩))
  by_cases h3:c<=1114111
  ·exact .inr (.inl ⟨Qa,Qa,Qa,Qi⟩)
  ·exact .inr (.inr (.inr ⟨Qa,Qi⟩))
 generalize Bj c=v at hway⊢;generalize (c:Int)=z at *;go_enter Tryz.func362,Tryz.ntmps362
 rcases hway with ⟨h1,h2,rfl⟩ | ⟨h1,h2,h3,rfl⟩ | ⟨h1,h2,h3,rfl⟩ | ⟨h1,rfl⟩
 all_goals
  go_wp2_with fail;go_ret
  refine ⟨?_,rfl⟩;first | rfl | (show Ending.returned (Value.bool _)=_;congr 2;simp<;>omega)
theorem V1 {f d k:Nat} (h:d<=455):Dq f d k=k+36 * d / (d+38):=by
 cases f with
 | zero=>rfl
 | succ f=>rw [Dq,if_neg Qa]
theorem Vr {f d k:Nat} (h:455<d):Dq (f+1) d k=Dq f (d / 35) (k+36):=by rw [Dq,if_pos h]
theorem IS (d n:Nat) (first:Bool) (w:World) (hd:d<=2147483647) (hn:1<=n) (hn2:n<=1000000000):Calls Tryz.prog 364 #[.int .i64 (d:Int),.int .i64 (n:Int),.bool first] w (Xl (E9 d n first:Int) w):=by
 have h0:(0:Int)<=(d:Int):=Qa;have h1:(d:Int)<=2147483647:=Qa;have h2:(1:Int)<=(n:Int):=Qa;have h3:(n:Int)<=1000000000:=Qa;have hn0:((n:Int)==0)=false:=Qg;have hne:¬ ((n:Int)=0):=Qa
 have hA:Hid (E9 d n first=Dq 20 (Fx d first+Fx d first / n) 0):=rfl
 have ha:Fx d first<=2147483647:=by unfold Fx;split<;>omega
 have haI:Hid ((Fx d first:Int)=if first=true then (d:Int) / 700 else (d:Int) / 2):=H0 (by unfold Fx;split<;>omega)
 obtain ⟨a,hae⟩:=N2 (Fx d first)
 rw [hae] at hA ha haI;replace hae:=H0 hae;have hq:a / n<=a:=Nat.div_le_self _ _;have hqI:(a:Int) / (n:Int)=((a / n:Nat):Int):=Qf;obtain ⟨q,hqe⟩:=N2 (a / n);rw [hqe] at hA hq hqI;replace hqe:=H0 hqe
 have hbd:a+q<456 * 35 ^ 20:=Nat.lt_of_le_of_lt (show a+q<=4294967294 by omega) Qc
 have hrest:∀ (wx:World),True:=fun _=>trivial
 cases first
 all_goals
  have hdI:=haI.out;simp only [if_true,Bool.false_eq_true,if_false] at hdI;have hdI2:=hdI.symm;have a0:(0:Int)<=(a:Int):=Qa;have a1:(a:Int)<=2147483647:=Qa;have q0:(0:Int)<=(q:Int):=Qa;have q1:(q:Int)<=2147483647:=Qa;clear hdI haI;go_enter Tryz.func364,Tryz.ntmps364;go_wp2_with fail
  go_loop [0,7] (fun v0 v7=>∃ f x k:Nat,v0= .int .i64 x/\v7= .int .i64 k/\x<456 * 35 ^ f/\x<=4294967294/\k+36 * f<=720/\Hid (Dq 20 (a+q) 0=Dq f x k)) (fun v0 _=>(intOf v0).toNat)
  case atStart=>exact ⟨20,a+q,0,Qj,rfl,hbd,Qa,Qa,H0 rfl⟩
  case round=>
   clear hdI2 hqI hn0 hne;obtain ⟨f,x,k,rfl,rfl,hx,hxl,hk,hv⟩:=hrel;have xl:(x:Int)<=4294967294:=Qa;have x0:(0:Int)<=(x:Int):=Qa;have k0:(0:Int)<=(k:Int):=Qa;have k1:(k:Int)<=720:=Qa
   by_cases h455:455<x
   ·have hI:(455:Int)<(x:Int):=Qa
    cases f with
    | zero=>rw [Nat.pow_zero] at hx;omega
    | succ f=>
     have hnx:Hid (Dq 20 (a+q) 0=Dq f (x / 35) (k+36)):=H0 (by rw [hv.out,Vr h455])
     have hxn:x / 35<456 * 35 ^ f:=Nat.div_lt_of_lt_mul (by rw [Nat.pow_succ] at hx;omega)
     replace hx:=H0 hx;replace hbd:=H0 hbd;go_wp2_with fail;go_round
     case rel=>exact ⟨f,x / 35,k+36,Qj,Qj,hxn,Qa,Qa,hnx⟩
     case measure=>simp [intOf];omega
   ·have hI:(x:Int)<=455:=Qa
    have hfin:Hid (Dq 20 (a+q) 0=k+36 * x / (x+38)):=H0 (by rw [hv.out,V1 Qa])
    have hs0:¬ ((x:Int)+38=0):=Qa;have hs1:(((x:Int)+38)==0)=false:=Qg;have hz:36 * (x:Int) / ((x:Int)+38)=((36 * x / (x+38):Nat):Int):=Qf;have hzl:36 * x / (x+38)<=36:=Nat.div_le_of_le_mul Qa;obtain ⟨z,hze⟩:=N2 (36 * x / (x+38));rw [hze] at hz hzl hfin;replace hze:=H0 hze;have z0:(0:Int)<=(z:Int):=Qa;have z1:(z:Int)<=36:=Qa;replace hx:=H0 hx;replace hbd:=H0 hbd;go_wp2_with fail;go_ret
    exact ⟨OZ (by rw [hA.out,hfin.out];omega),rfl⟩
end Go.Proofs.YtonomfeipkdmhaaGreatDoor
