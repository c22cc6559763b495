/- The statement Rows.TopStaysUptoCardSaid, proved out of its walk topStays_walk: for every input that the row lets in the law returns true, and nothing that was there has turned. No condition beyond the row's own. -/
import Derived.Test.YtonomfeipkdmhaaGreatDoorL00
import Derived.Test.YtonomfeipkdmhaaGreatDoorL01
import Derived.Test.YtonomfeipkdmhaaGreatDoorL02
import Derived.Test.YtonomfeipkdmhaaGreatDoorL03
import Derived.Test.YtonomfeipkdmhaaGreatDoorL04
import Derived.Test.YtonomfeipkdmhaaGreatDoorL05
import Derived.Test.YtonomfeipkdmhaaGreatDoorL06
import Derived.Test.YtonomfeipkdmhaaGreatDoorL07
import Derived.Test.YtonomfeipkdmhaaGreatDoorL08
import Derived.Test.YtonomfeipkdmhaaGreatDoorL09
import Derived.Test.YtonomfeipkdmhaaGreatDoorL10
import Derived.Test.YtonomfeipkdmhaaGreatDoorL11
import Derived.Test.YtonomfeipkdmhaaGreatDoorL12
import Derived.Test.YtonomfeipkdmhaaGreatDoorL13
import Derived.Test.YtonomfeipkdmhaaGreatDoorL14
import Derived.Test.YtonomfeipkdmhaaGreatDoorL15
import Derived.Test.YtonomfeipkdmhaaGreatDoorL16
import Derived.Test.YtonomfeipkdmhaaGreatDoorL17
import Derived.Test.YtonomfeipkdmhaaGreatDoorL18
import Derived.Test.YtonomfeipkdmhaaGreatDoorL19
import Derived.Test.YtonomfeipkdmhaaGreatDoorL20
import Derived.Test.YtonomfeipkdmhaaGreatDoorL21
import Derived.Test.YtonomfeipkdmhaaGreatDoorL22
import Derived.Test.YtonomfeipkdmhaaGreatDoorL23
import Derived.Test.YtonomfeipkdmhaaGreatDoorL24
import Derived.Test.YtonomfeipkdmhaaGreatDoorL25
import Derived.Test.YtonomfeipkdmhaaGreatDoorL26
import Derived.Test.YtonomfeipkdmhaaGreatDoorL27
import Derived.Below
import Derived.ChangeOld
import Derived.Deep.DeepHandedRow
import Derived.HandedShaped
import Derived.OpenShut
import Derived.ProofKit
import Derived.SevenTiedAt
import Derived.Shelf.Vars
import Derived.ShutString
import Derived.SizedLaws
import Derived.Test.YtonomfeipkdmhaaGreatDoorCards
import Derived.Test.YtonomfeipkdmhaaGreatDoorTie
namespace Go.Proofs.YtonomfeipkdmhaaGreatDoor.topStays
open Go.ChangeShapes Go.WideShapes Go.ChangeAt Go.RowKit
open Go.ChangeMaps (open_string shut_string)
set_option linter.unusedVariables false
set_option linter.unusedSimpArgs false

theorem own:ownKnob Tryz.prog.godebug=none:=by kernel_rfl
theorem laidOut:laidOutB Tryz.prog=true:=by kernel_rfl
theorem laid_met (os:Os):laidMet Tryz.prog Rows.topStaysRow.laid ((M7 Tryz.prog os Rows.topStaysRow.laid).forCall (fun _ _=>0) ⟨#[],#[.agg #[.slice none 0 0,.slice none 0 0,.slice none 0 0,.int .i64 0],.string ByteArray.empty,.int .i64 0,.slice none 0 0],[]⟩).memory:=
  laidMet_of_run' 8 (by kernel_rfl) (by kernel_rfl)
theorem reads (os:Os) {H:Type} (enc:TypeId × Value→H):∃ places,DataW.whole enc Tryz.prog ((M7 Tryz.prog os Rows.topStaysRow.laid).forCall (fun _ _=>0) ⟨#[],#[.agg #[.slice none 0 0,.slice none 0 0,.slice none 0 0,.int .i64 0],.string ByteArray.empty,.int .i64 0,.slice none 0 0],[]⟩).memory Tryz.f5.params.toList Rows.topStaysSpec.vars false #[.agg #[.slice none 0 0,.slice none 0 0,.slice none 0 0,.int .i64 0],.string ByteArray.empty,.int .i64 0,.slice none 0 0].toList 8=some ([.agg [.nil,.nil,.nil,.lit (.int .i64 0)],.lit (.string []),.lit (.int .i64 0),.nil],[],places):=
  ⟨[],by kernel_rfl⟩
set_option maxRecDepth 100000 in
theorem lifted (os:Os) (started:os.Started) (H:Type) (enc:TypeId × Value→H) (F:Stop.Interp):
    ReturnsInHanded {} Tryz.checked os 5 .any ((Rows.OpenSpec.upto Rows.topStaysSpec).preRow enc Tryz.prog Tryz.f5 Rows.topStaysUptoRow.domain false Rows.topStaysUptoRow.laid) (((Rows.OpenSpec.upto Rows.topStaysSpec).at F).post enc Tryz.prog Tryz.f5 false true false false):=by
  obtain ⟨places,hx⟩:=reads os enc
  refine returnsInHanded_of_row (C:=Tryz.checked) (s:=Rows.OpenSpec.upto Rows.topStaysSpec) own started (by kernel_rfl) Tryz.func5
    (witness_row_at (enc:=enc) (C:=Tryz.checked) false (M7 Tryz.prog os Rows.topStaysRow.laid) #[.agg #[.slice none 0 0,.slice none 0 0,.slice none 0 0,.int .i64 0],.string ByteArray.empty,.int .i64 0,.slice none 0 0] rfl (by kernel_rfl) (by kernel_rfl) (by kernel_rfl)
      (OpenSpec.preRow_of_cond 8 hx (by kernel_rfl) (fun k hk=>by cases hk;kernel_rfl) (by kernel_rfl) (laid_met os))) ?_
  intro W base args ds gs before hval0 hW hcnd hcond hrc hL hsh _
  have hval:∀ (j:Nat) t v,Tryz.f5.params[j]? =some t→args[j]? =some v→Value.okWide Tryz.prog W .any base t v:=hval0
  have hW':=hW
  obtain ⟨p,q,hA0,hV,rfl,hfz,hnd⟩:=hW
  have hA:DataW.TrodAll enc Tryz.prog W 0 (fun _=>true) true Tryz.f5.params.toList args.toList ds p:=hA0
  rw [Tryz.params5] at hA hval
  obtain ⟨v0,vs0,d0,ds0,p0,q0,hargs,rfl,rfl,h0,r0⟩:=trodAll_cons hA
  obtain ⟨v1,vs1,d1,ds1,p1,q1,rfl,rfl,rfl,h1,r1⟩:=trodAll_cons r0
  obtain ⟨v2,vs2,d2,ds2,p2,q2,rfl,rfl,rfl,h2,r2⟩:=trodAll_cons r1
  obtain ⟨v3,vs3,d3,ds3,p3,q3,rfl,rfl,rfl,h3,r3⟩:=trodAll_cons r2
  obtain ⟨rfl,rfl,rfl⟩:=trodAll_nil r3
  obtain rfl:args= #[v0,v1,v2,v3]:=by cases args;simp_all
  obtain ⟨rfl,rfl⟩:=trodVars_none hV
  have k0:=h0
  have lt0:∀ x∈p0,x.block<W.heap.size:=by obtain ⟨m,hm⟩:=k0;exact DataW.trod_lt m _ _ _ hm
  obtain ⟨a0,rfl,w0⟩:=Aex (hval 0 24 v0 rfl rfl) h0
  obtain ⟨a1,rfl,rfl,rfl,w1⟩:=open_string Tryz.underlying9 (hval 1 9 v1 rfl rfl) h1
  obtain ⟨a2,rfl,rfl,rfl,w2⟩:=open_int Tryz.underlying3 (hval 2 3 v2 rfl rfl) h2
  have k3:=h3
  have lt3:∀ x∈p3,x.block<W.heap.size:=by obtain ⟨m,hm⟩:=k3;exact DataW.trod_lt m _ _ _ hm
  obtain ⟨pa3,n3,c3,l3,rfl,w3⟩:=AaF (hval 3 25 v3 rfl rfl) h3
  clear hA0 hval0
  have hk:=of_decide_eq_true (hcond _ rfl)
  simp only [List.append_nil,Rows.uptoBulkAll,Rows.uptoBulk] at hk
  have z1:a1.size≤1048576:=by
    rw [Lib.size_eq]
    omega
  have hml:ML W:=cell_of_shapedOpen_int (P:=Tryz.prog) (g:=0) (t:=3) (zero:= #[.int .i64 0]) hsh (of_decide_eq_true (by kernel_rfl)) (by kernel_rfl) rfl (by kernel_rfl) (by kernel_rfl) Tryz.underlying3
  have henv:Gu W:=WO hL hml
  refine (SV a0 a1 a2 pa3 n3 c3 l3 W w0 w3 henv (by omega)).mono fun e W' ⟨he,bel⟩=> ?_
  subst he
  exact ⟨_,rfl,_,_,_,[],_,[],hW',trodAll_mk1 (shut_bool Tryz.underlying4 _),(trodAll_cons_mk (Below.trod laidOut (by kernel_rfl) (of_decide_eq_true (by kernel_rfl)) k0 bel lt0) (trodAll_cons_mk (shut_string Tryz.underlying9 w1) (trodAll_cons_mk (shut_int Tryz.underlying3 w2) (trodAll_cons_mk (Below.trod laidOut (by kernel_rfl) (of_decide_eq_true (by kernel_rfl)) k3 bel lt3) trodAll_mk0)))),rfl,bel.frame _,fun h=>by cases h⟩
theorem saidUpto:Rows.TopStaysUptoSaid:=
  OpenClaim.holds_of_cond 5 Tryz.f5 rfl rfl rfl rfl rfl rfl rfl ⟨rfl,rfl,rfl,rfl,rfl⟩ rfl rfl rfl rfl rfl funcNamed Tryz.func5 closed
    (of_decide_eq_true (by kernel_rfl)) (by unfold Func.isWrapper;first | (rw [if_pos (by decide+kernel)];kernel_rfl) | (rw [if_neg (by decide+kernel)];exact ⟨rfl,rfl⟩))
    (fun os started H enc _ F=>by rw [OpenClaim.pre_eq_preRow];exact lifted os started H enc F)
theorem plain (f:FuncId) (fn:Func) (hf:Tryz.pinned.checked.prog.funcNamed "tamis/tamistop.TopStays" =some f) (hfn:Tryz.pinned.checked.prog.funcs[f]? =some fn):
    false=Tryz.pinned.checked.prog.looks []∧∀ (j:Nat) t,fn.params[j]? =some t→Tryz.pinned.checked.prog.wantsStandIn t=false:=by
  obtain rfl:f=5:=Option.some.inj (funcNamed.symm.trans hf) |>.symm
  obtain rfl:fn=Tryz.f5:=(Option.some.inj (Tryz.func5.symm.trans hfn)).symm
  exact ⟨looksNot,fun j t ht=>by
    rw [Tryz.params5] at ht
    have hm:t∈[24,9,3,25]:=by simpa using Array.mem_of_getElem? ht
    have hall:[24,9,3,25].all (fun t=> !(Tryz.prog.wantsStandIn t))=true:=by kernel_rfl
    have hb:(!(Tryz.prog.wantsStandIn t))=true:=List.all_eq_true.1 hall t hm
    exact (Bool.not_eq_true' _).mp hb⟩
/-- The second form's card. -/
theorem cardUpto:Rows.TopStaysUptoCardSaid:=
  Claim7.holds_tied_plain_at .later [] _ _ _ _ saidUpto (fun _ h=>by cases h) byText (fun _ h=>by cases h) topStaysUpto_row_tie rfl ⟨rfl,rfl⟩ (by kernel_rfl) rfl plain goesNot
#print axioms cardUpto
end Go.Proofs.YtonomfeipkdmhaaGreatDoor.topStays
