/- Part 27: lemmas. -/
import Derived.Test.YtonomfeipkdmhaaGreatDoorL23
import Derived.ChangeSlices
import Derived.JoinedCond
import Derived.ProofKit
import Derived.SevenTiedAt
import Derived.WideShapes
set_option linter.unusedVariables false
set_option linter.unusedSimpArgs false
set_option maxRecDepth 100000
set_option maxHeartbeats 16000000
namespace Go.Proofs.YtonomfeipkdmhaaGreatDoor.topStays
theorem fact0:(Rows.topStaysUptoRow.wf (OpenSpec.ofChange (Rows.OpenSpec.upto Rows.topStaysSpec).bare))=true:=Qb
theorem fact1:(laidOutB Tryz.prog)=true:=Qb
theorem fact2:(mapsRowed Tryz.prog)=true:=Qb
theorem fact3:(Tryz.f5.params.all (Tryz.prog.readableRec ·))=true:=Qb
theorem fact4:(namedTie Tryz.prog Rows.topStaysUptoRow.named (Rows.OpenSpec.upto Rows.topStaysSpec).bare.vars)=true:=Qb
theorem fact5:((Rows.topStaysUptoRow.stops==[]))=true:=Qb
theorem fact6:((Tryz.prog.stops==[]))=true:=Qb
theorem fact7:((Rows.topStaysUptoRow.knobs==[]))=true:=Qb
theorem fact8:((Tryz.prog.stopKnobs==[]))=true:=Qb
theorem fact9:((Rows.topStaysUptoRow.inPlace==Tryz.prog.inPlace 5))=true:=Qb
theorem fact10:((Rows.topStaysUptoRow.unfollowed==Tryz.prog.unfollowed 5))=true:=Qb
theorem fact11:((Rows.topStaysUptoRow.recurses==Tryz.prog.recurses 5))=true:=Qb
theorem fact12:((Rows.topStaysUptoRow.named==Tryz.prog.varsNamed 5))=true:=Qb
theorem fact13:((Rows.topStaysUptoRow.maps==(Tryz.f5.params.toList++(Rows.OpenSpec.upto Rows.topStaysSpec).bare.plain.varTypes Tryz.prog).any (Tryz.prog.mapsRec ·)))=true:=Qb
theorem fact14:((Rows.topStaysUptoRow.ifaces==(Tryz.f5.params.toList++(Rows.OpenSpec.upto Rows.topStaysSpec).bare.plain.varTypes Tryz.prog).any (Tryz.prog.ifacesRec ·)))=true:=Qb
theorem fact15:((Rows.topStaysUptoRow.mapsOut==Tryz.prog.mapsAmong Tryz.f5.resultTypes.toList))=true:=Qb
theorem fact16:((Rows.topStaysUptoRow.loops==(Tryz.f5.params.toList++(Rows.OpenSpec.upto Rows.topStaysSpec).bare.plain.varTypes Tryz.prog).any (Tryz.prog.loopsFrom ·)))=true:=Qb
theorem fact17:((Rows.topStaysUptoRow.wideKeys==(Tryz.f5.params.toList++(Rows.OpenSpec.upto Rows.topStaysSpec).bare.plain.varTypes Tryz.prog++Tryz.f5.resultTypes.toList).any (Tryz.prog.wideKeysFrom ·)))=true:=Qb
theorem fact18:((Rows.OpenSpec.upto Rows.topStaysSpec).bare.vars.all (Tryz.prog.varReadable ·))=true:=Qb
theorem fact19:(Tryz.f5.resultTypes.all (fun t=>Tryz.prog.readableRec t && decide (t<Tryz.prog.types.size)))=true:=Qb
theorem fact20:((Rows.topStaysUptoRow.ifacesOut==Tryz.f5.resultTypes.toList.any (Tryz.prog.ifacesRec ·)))=true:=Qb
theorem fact21:((Rows.topStaysUptoRow.loopsOut==Tryz.f5.resultTypes.toList.any (Tryz.prog.loopsFrom ·)))=true:=Qb
theorem fact22:((Rows.topStaysUptoRow.plainKeys==Tryz.prog.plainKeys))=true:=Qb
theorem fact23:(Rows.topStaysUptoRow.shortTexts.isNone)=true:=Qb
theorem fact24:(Tryz.prog.stopsHeard)=true:=Qb
theorem fact25:(Tryz.prog.mayEnter)=true:=Qb
theorem fact26:((Rows.topStaysUptoRow.lifted==Tryz.prog.liftsFinal))=true:=Qb
theorem fact27:((Tryz.prog.make==some Rows.topStaysUptoRow.make))=true:=Qb
theorem fact28:((Rows.topStaysUptoRow.kinds==(if Rows.topStaysUptoRow.domain.isEmpty then [] else Tryz.f5.params.toList.map fun t=>match Tryz.prog.underlying t with | some (.int k)=>some k | _=>none)))=true:=Qb
theorem fact29:((Rows.topStaysUptoRow.pinned==Rows.topStaysUptoRow.pinnedBy))=true:=Qb
theorem fact30:((Rows.topStaysUptoRow.veiled==(Tryz.f5.params.toList++(Rows.OpenSpec.upto Rows.topStaysSpec).bare.plain.varTypes Tryz.prog++Tryz.f5.resultTypes.toList).any (Tryz.prog.veiledRec ·)))=true:=Qb
theorem fact31:(Rows.topStaysUptoRow.veiledFits Tryz.prog Tryz.f5.params.toList (Tryz.f5.params.toList++(Rows.OpenSpec.upto Rows.topStaysSpec).bare.plain.varTypes Tryz.prog++Tryz.f5.resultTypes.toList))=true:=Qb
theorem both {a b:Bool} (h:a=true) (k:b=true):(a && b)=true:=by rw [h,k];rfl
theorem closed:joinedFacts Tryz.prog 5 Tryz.f5 (Rows.OpenSpec.upto Rows.topStaysSpec).bare Rows.topStaysUptoRow=true:=(both (both (both (both (both (both (both (both (both (both (both (both (both (both (both (both (both (both (both (both (both (both (both (both (both (both (both (both (both (both (both fact0 fact1) fact2) fact3) fact4) fact5) fact6) fact7) fact8) fact9) fact10) fact11) fact12) fact13) fact14) fact15) fact16) fact17) fact18) fact19) fact20) fact21) fact22) fact23) fact24) fact25) fact26) fact27) fact28) fact29) fact30) fact31)
theorem looksNot:false=Tryz.prog.looks []:=Qb
theorem goesNot:false=Rows.topStaysUptoRow.goesBy Tryz.prog:=Qb
theorem byText:Rows.topStaysUptoRow.wfByText (Rows.OpenSpec.upto Rows.topStaysSpec)=true:=Qb
theorem funcNamed:Tryz.prog.funcNamed "tamis/tamistop.TopStays" =some 5:=by kernel_rfl
end Go.Proofs.YtonomfeipkdmhaaGreatDoor.topStays
namespace Go.Proofs.YtonomfeipkdmhaaGreatDoor
open Go.RowKit
def Afg (k:IntKind) (w:World) (a:Option Addr) (len cap:Nat) (zs:List Int):Prop:=
 (a=none/\len=0/\cap=0/\zs=[])\/∃ x:Addr,a=some x/\len<=cap/\cap<=maxLen/\zs.length=cap/\(∀ i,i<zs.length->w.cell? (x.add i)=some (.int k (zs.getD i 0)))/\(∀ n∈zs,(Lit.int k n).wf=true)
def AiR (w:World) (v:Value) (l:List UInt8):Prop:=
 ∃ a c,v= .slice a l.length c/\(0<l.length->∃ g o,a=some ⟨g,o,none⟩/\∀ i (h:i<l.length),w.cell? ⟨g,o+i,none⟩=some (.int .u8 (l[i].toNat:Int)))
theorem YU {w:World} {x:Addr} {v:Value} (h:w.cell? x=some v):x=⟨x.block,x.off,none⟩:=by
 obtain ⟨b,o,sp⟩:=x
 cases sp with
 | none=>rfl
 | some s=>
  exfalso;simp only [World.cell?] at h;split at h
  ·simp at h
  ·cases h
theorem AcM (b o i:Nat):(⟨b,o,none⟩:Addr).add i=⟨b,o+i,none⟩:=by
 unfold Addr.add;split<;>simp_all
theorem Afg.bytes {w:World} {a:Option Addr} {len cap:Nat} {zs:List Int} (h:Afg .u8 w a len cap zs):∃ l:List UInt8,l.length=len/\AiR w (.slice a len cap) l/\len<=maxLen:=by
 rcases h with ⟨rfl,rfl,rfl,rfl⟩ | ⟨x,rfl,hl,hm,hz,hcell,hwf⟩
 ·exact ⟨[],rfl,⟨none,0,rfl,fun h=>absurd h Qc⟩,Nat.zero_le _⟩
 ·refine ⟨(zs.take len).map fun n=>UInt8.ofNat n.toNat,Qi,⟨some x,cap,Qi,fun h0=> ?_⟩,Qa⟩
  have hx:=YU (show w.cell? x=_ from hcell 0 (by simp at h0;omega))
  refine ⟨x.block,x.off,by rw [<-hx],fun i hi=> ?_⟩
  have hi2:i<zs.length:=by simp at hi;omega
  have hc:=hcell i hi2;rw [hx] at hc;have hw:=bounds_u8 (hwf _ (List.getElem_mem hi2))
  have e:zs.getD i 0=zs[i]:=by simp [List.getD,hi2]
  rw [e] at hc;rw [AcM] at hc;rw [hc];simp;omega
end Go.Proofs.YtonomfeipkdmhaaGreatDoor
namespace Go.Proofs.YtonomfeipkdmhaaGreatDoor
open Go.RowKit Go.ChangeShapes Go.WideShapes
theorem AaF {H:Type} {enc:TypeId × Value->H} {w:World} {held:Bool} {v:Value} {d:DataW H} {ps:List MemPlace} {r:Reach} {b0:Nat} (hval:Value.okWide Tryz.prog w r b0 25 v) (h:DataW.Trod enc Tryz.prog w 0 (fun _=>true) held 25 v d ps):
  ∃ (pa:Option Addr) (n c:Nat) (l:List UInt8),v= .slice pa n c/\BU w pa n c l:=by
 obtain ⟨a,len,cap,rfl⟩:=okWide_slice Tryz.underlying25 hval;obtain ⟨fuel,hf⟩:=h
 obtain ⟨zs,hr⟩:∃ zs,Afg .u8 w a len cap zs:=by
  rcases open_ints Tryz.underlying25 Tryz.underlying5 Qb hf with ⟨hcs,_⟩ | ⟨x,l,c,zs,hcs,_,hl,hm,hz,_,hcell,hwz⟩
  ·simp [Value.cells] at hcs;obtain ⟨rfl,rfl,rfl⟩:=hcs;exact ⟨[],.inl ⟨rfl,rfl,rfl,rfl⟩⟩
  ·simp [Value.cells] at hcs;obtain ⟨rfl,rfl,rfl⟩:=hcs
   exact ⟨zs,.inr ⟨_,rfl,hl,hm,by simpa using hz,hcell,hwz⟩⟩
 obtain ⟨l,hl,⟨a',c',e,hc⟩,-⟩:=hr.bytes;cases e
 refine ⟨a,l.length,cap,l,rfl,⟨⟨rfl,?_,fun h0=> ?_⟩,fun e=> ?_⟩⟩
 ·rcases hr with ⟨-,h0,-,-⟩ | ⟨x,-,hl2,-⟩
  ·omega
  ·exact hl2
 ·obtain ⟨g,o,e1,h1⟩:=hc h0
  exact ⟨g,o,e1,fun i hi=>h1 i hi⟩
 ·rcases hr with ⟨-,-,h0,-⟩ | ⟨x,e2,-⟩
  ·exact h0
  ·rw [e] at e2;cases e2
end Go.Proofs.YtonomfeipkdmhaaGreatDoor
