/- The statement Rows.TopSafeUptoCardSaid: for every input that the row lets in the law returns true, and nothing that was there has turned. No condition beyond the row's own. -/
import Derived.Test.YtonomfeipkdmhaaGreatDoorZm25
import Derived.Deep.DeepHandedRow
import Derived.Test.YtonomfeipkdmhaaGreatDoorCards
import Derived.Test.YtonomfeipkdmhaaGreatDoorTie
namespace Go.Proofs.YtonomfeipkdmhaaGreatDoor.topSafe
open Go.ChangeShapes Go.WideShapes Go.ChangeAt Go.RowKit
open Go.ChangeMaps (open_string shut_string)
set_option linter.all false
set_option maxHeartbeats 16000000
theorem zc:joinedFacts Tryz.prog 3 Tryz.f3 (Rows.OpenSpec.upto Rows.topSafeSpec).bare Rows.topSafeUptoRow=true:=by simp only[joinedFacts,Bool.and_eq_true];and_intros<;>as_aux_lemma=>kernel_rfl
theorem own:ownKnob Tryz.prog.godebug=none:=by kernel_rfl
theorem laidOut:laidOutB Tryz.prog=true:=by kernel_rfl
theorem laid_met (os:Os):laidMet Tryz.prog Rows.topSafeRow.laid ((ZK Tryz.prog os Rows.topSafeRow.laid).forCall (fun _ _=>0) ⟨#[],#[.agg #[.slice none 0 0,.slice none 0 0,.slice none 0 0,.int .i64 0],.string ByteArray.empty,.int .i64 0,.slice none 0 0],[]⟩).memory:=
  laidMet_of_run' 8 (by kernel_rfl) (by kernel_rfl)
theorem reads (os:Os) {H:Type} (enc:TypeId × Value→H):∃ places,DataW.whole enc Tryz.prog ((ZK Tryz.prog os Rows.topSafeRow.laid).forCall (fun _ _=>0) ⟨#[],#[.agg #[.slice none 0 0,.slice none 0 0,.slice none 0 0,.int .i64 0],.string ByteArray.empty,.int .i64 0,.slice none 0 0],[]⟩).memory Tryz.f3.params.toList Rows.topSafeSpec.vars false #[.agg #[.slice none 0 0,.slice none 0 0,.slice none 0 0,.int .i64 0],.string ByteArray.empty,.int .i64 0,.slice none 0 0].toList 8=some ([.agg [.nil,.nil,.nil,.lit (.int .i64 0)],.lit (.string []),.lit (.int .i64 0),.nil],[],places):=
  ⟨[],by kernel_rfl⟩
set_option maxRecDepth 100000 in
theorem lifted (os:Os) (started:os.Started) (H:Type) (enc:TypeId × Value→H) (F:Stop.Interp):
    ReturnsInHanded {} Tryz.checked os 3 .any ((Rows.OpenSpec.upto Rows.topSafeSpec).preRow enc Tryz.prog Tryz.f3 Rows.topSafeUptoRow.domain false Rows.topSafeUptoRow.laid) (((Rows.OpenSpec.upto Rows.topSafeSpec).at F).post enc Tryz.prog Tryz.f3 false true false false):=by
  obtain ⟨places,hx⟩:=reads os enc
  refine returnsInHanded_of_row (C:=Tryz.checked) (s:=Rows.OpenSpec.upto Rows.topSafeSpec) own started (by kernel_rfl) Tryz.func3
    (witness_row_at (enc:=enc) (C:=Tryz.checked) false (ZK Tryz.prog os Rows.topSafeRow.laid) #[.agg #[.slice none 0 0,.slice none 0 0,.slice none 0 0,.int .i64 0],.string ByteArray.empty,.int .i64 0,.slice none 0 0] rfl (by kernel_rfl) (by kernel_rfl) (by kernel_rfl)
      (OpenSpec.preRow_of_cond 8 hx (by kernel_rfl) (fun k hk=>by cases hk;kernel_rfl) (by kernel_rfl) (laid_met os))) ?_
  intro W base args ds gs before hval0 hW hcnd hcond hrc hL vP _
  have gL:∀ (j:Nat) t v,Tryz.f3.params[j]? =some t→args[j]? =some v→Value.okWide Tryz.prog W .any base t v:=hval0
  have hW':=hW
  obtain ⟨p,q,vL,hV,rfl,hfz,hnd⟩:=hW
  have hA:DataW.TrodAll enc Tryz.prog W 0 (fun _=>true) true Tryz.f3.params.toList args.toList ds p:=vL
  rw [Tryz.params3] at hA gL
  obtain ⟨v0,vs0,d0,ds0,p0,q0,hargs,rfl,rfl,h0,r0⟩:=trodAll_cons hA
  obtain ⟨v1,vs1,d1,ds1,p1,q1,rfl,rfl,rfl,h1,r1⟩:=trodAll_cons r0
  obtain ⟨v2,vs2,d2,ds2,p2,q2,rfl,rfl,rfl,h2,r2⟩:=trodAll_cons r1
  obtain ⟨v3,vs3,d3,ds3,p3,q3,rfl,rfl,rfl,h3,r3⟩:=trodAll_cons r2
  obtain ⟨rfl,rfl,rfl⟩:=trodAll_nil r3
  obtain rfl:args= #[v0,v1,v2,v3]:=by cases args;simp_all
  obtain ⟨rfl,rfl⟩:=trodVars_none hV
  have k0:=h0
  have lt0:∀ x∈p0,x.block<W.heap.size:=by obtain ⟨m,hm⟩:=k0;exact DataW.trod_lt m _ _ _ hm
  obtain ⟨a0,rfl,w0⟩:=Asa (gL 0 24 v0 rfl rfl) h0
  obtain ⟨a1,rfl,rfl,rfl,w1⟩:=open_string Tryz.underlying9 (gL 1 9 v1 rfl rfl) h1
  obtain ⟨a2,rfl,rfl,rfl,w2⟩:=open_int Tryz.underlying3 (gL 2 3 v2 rfl rfl) h2
  have k3:=h3
  have lt3:∀ x∈p3,x.block<W.heap.size:=by obtain ⟨m,hm⟩:=k3;exact DataW.trod_lt m _ _ _ hm
  obtain ⟨pa3,n3,c3,l3,rfl,w3⟩:=Anm (gL 3 25 v3 rfl rfl) h3
  clear vL hval0
  have hk:=of_decide_eq_true (hcond _ rfl)
  simp only [List.append_nil,Rows.uptoBulkAll,Rows.uptoBulk] at hk
  have z1:a1.size≤1048576:=by
    rw [Lib.size_eq]
    omega
  have aY:DW W:=cell_of_shapedOpen_int (P:=Tryz.prog) (g:=0) (t:=3) (zero:= #[.int .i64 0]) vP (of_decide_eq_true (by kernel_rfl)) (by kernel_rfl) rfl (by kernel_rfl) (by kernel_rfl) Tryz.underlying3
  have henv:CD W:=Ax2 hL aY
  refine (Asr a0 a1 a2 pa3 n3 c3 l3 W w0 w3 henv (by omega)).mono fun e W' ⟨he,bel⟩=> ?_
  subst he
  exact ⟨_,rfl,_,_,_,[],_,[],hW',trodAll_mk1 (shut_bool Tryz.underlying4 _),(trodAll_cons_mk (Below.trod laidOut (by kernel_rfl) (of_decide_eq_true (by kernel_rfl)) k0 bel lt0) (trodAll_cons_mk (shut_string Tryz.underlying9 w1) (trodAll_cons_mk (shut_int Tryz.underlying3 w2) (trodAll_cons_mk (Below.trod laidOut (by kernel_rfl) (of_decide_eq_true (by kernel_rfl)) k3 bel lt3) trodAll_mk0)))),rfl,bel.frame _,fun h=>by cases h⟩
theorem saidUpto:Rows.TopSafeUptoSaid:=
  OpenClaim.holds_of_cond 3 Tryz.f3 rfl rfl rfl rfl rfl rfl rfl ⟨rfl,rfl,rfl,rfl,rfl⟩ rfl rfl rfl rfl rfl (by kernel_rfl) Tryz.func3 zc
    (of_decide_eq_true (by kernel_rfl)) (by unfold Func.isWrapper;first | (rw [if_pos (by decide+kernel)];kernel_rfl) | (rw [if_neg (by decide+kernel)];exact ⟨rfl,rfl⟩))
    (fun os started H enc _ F=>by rw [OpenClaim.pre_eq_preRow];exact lifted os started H enc F)
theorem plain (f:FuncId) (fn:Func) (hf:Tryz.pinned.checked.prog.funcNamed "tamis/tamistop.TopSafe" =some f) (zW:Tryz.pinned.checked.prog.funcs[f]? =some fn):
    false=Tryz.pinned.checked.prog.looks []∧∀ (j:Nat) t,fn.params[j]? =some t→Tryz.pinned.checked.prog.wantsStandIn t=false:=by
  obtain rfl:f=3:=Option.some.inj (hf.symm.trans (by kernel_rfl))
  obtain rfl:fn=Tryz.f3:=(Option.some.inj (Tryz.func3.symm.trans zW)).symm
  exact ⟨by kernel_rfl,fun j t ht=>by
    rw [Tryz.params3] at ht
    have hm:t∈[24,9,3,25]:=by simpa using Array.mem_of_getElem? ht
    have hall:[24,9,3,25].all (fun t=> !(Tryz.prog.wantsStandIn t))=true:=by kernel_rfl
    have hb:(!(Tryz.prog.wantsStandIn t))=true:=List.all_eq_true.1 hall t hm
    exact (Bool.not_eq_true' _).mp hb⟩
theorem cardUpto:Rows.TopSafeUptoCardSaid:=
  Claim7.holds_tied_plain_at .later [] _ _ _ _ saidUpto (fun _ h=>by cases h) (by kernel_rfl) (fun _ h=>by cases h) topSafeUpto_row_tie rfl ⟨rfl,rfl⟩ (by kernel_rfl) rfl plain (by kernel_rfl)
#print axioms cardUpto
end Go.Proofs.YtonomfeipkdmhaaGreatDoor.topSafe
