/- Part 26: lemmas. -/
import Derived.Test.YtonomfeipkdmhaaGreatDoorL25
import Derived.ChangeSame
import Derived.Handed
import Derived.HandedShaped
import Derived.LaidLaws
set_option linter.unusedVariables false
set_option linter.unusedSimpArgs false
set_option maxRecDepth 100000
set_option maxHeartbeats 16000000
namespace Go.Proofs.YtonomfeipkdmhaaGreatDoor
open Go.RowKit
def SU (p:Df):Nat->I3 | 0=>p.schemes | 1=>p.hosts | _=>p.types
structure AhY (p:Df):Prop where
 s:p.schemes.l.length<=20
 h:p.hosts.l.length<=20
 t:p.types.l.length<=20
def Nk (w:World) (p:Df) (e:Ending) (w':World):Prop:=∃ b:Bool,e= .returned (.bool b)/\(b=true->AhY p)/\Below w.heap.size w w'
theorem L0 {w w':World} {p:Df} (hb:Below w.heap.size w w'):Nk w p (.returned (.bool false)) w':=⟨false,rfl,fun e=>Akq,hb⟩
theorem So {w w':World} {p:Df} (h:∀ j,j<3->(SU p j).l.length<=20) (hb:Below w.heap.size w w'):Nk w p (.returned (.bool true)) w':=
 ⟨true,rfl,fun _=>⟨h 0 Qc,h 1 Qc,h 2 Qc⟩,hb⟩
theorem AaK (p:Df) (w:World) (hp:Em w p):Calls Tryz.prog 7 #[.agg (BK p)] w (Nk w p):=by
 have hB1:Below w.heap.size w (w.alloc (.cells (BK p) 24)):=(Below.refl _ _).alloc (Nat.le_refl _) _;have x0:(w.alloc (.cells (BK p) 24)).cell? ⟨w.heap.size,0,none⟩=some (.slice p.schemes.a p.schemes.l.length p.schemes.c):=(World.cell?_alloc_at _ _ _ _ rfl).trans rfl;have x1:(w.alloc (.cells (BK p) 24)).cell? ⟨w.heap.size,1,none⟩=some (.slice p.hosts.a p.hosts.l.length p.hosts.c):=(World.cell?_alloc_at _ _ _ _ rfl).trans rfl;have x2:(w.alloc (.cells (BK p) 24)).cell? ⟨w.heap.size,2,none⟩=some (.slice p.types.a p.types.l.length p.types.c):=(World.cell?_alloc_at _ _ _ _ rfl).trans rfl;go_enter Tryz.func7,Tryz.ntmps7;go_wp2_with fail
 refine Ap (R:=fun wx=>Below w.heap.size w wx/\Hid (∀ k,k<3->wx.cell? ⟨w.heap.size+1,k,none⟩=some (.slice (SU p k).a (SU p k).l.length (SU p k).c))) ⟨hB1.alloc hB1.size _,H0 ?_⟩ ?_
 ·intro k hk;have e:=cell_of_row ((w.alloc (.cells (BK p) 24)).alloc (.cells #[.slice p.schemes.a p.schemes.l.length p.schemes.c,.slice p.hosts.a p.hosts.l.length p.hosts.c,.slice p.types.a p.types.l.length p.types.c] 22)) (w.heap.size+1) k _ _ _ (PB Qf);rw [e]
  match k,hk with
  | 0,_=>rfl
  | 1,_=>rfl
  | 2,_=>rfl
 rintro wx ⟨hB,hX⟩
 have hok:Hid (∀ k,k<3->GJ w (SU p k)):=H0 (fun k hk=>by
  match k,hk with
  | 0,_=>exact hp.schemes
  | 1,_=>exact hp.hosts
  | 2,_=>exact hp.types)
 clear x0 x1 x2 hB1;generalize w.heap.size+1=g0 at hX⊢
 go_loop [4,5] (fun kv _=>∃ k:Nat,kv= .int .i64 k/\k<=3/\Hid (∀ j,j<k->(SU p j).l.length<=20)) (fun kv _=>3 - (intOf kv).toNat)
 case atStart=>exact ⟨0,rfl,Qa,H0 (fun j hj=>Qa)⟩
 case round=>
  obtain ⟨k,rfl,hk,hg⟩:=hrel
  by_cases hk3:k<3
  ·have hkI:(k:Int)<3:=Qa;have cX:=hX.out k hk3;obtain ⟨hcells,hn,heach,-⟩:=hok.out k hk3
   have hnext:(SU p k).l.length<=20->Hid (∀ j,j<k+1->(SU p j).l.length<=20):=fun h=>H0 (fun j hj=>by
    by_cases e:j=k
    ·subst e;exact h
    ·exact hg.out j Qa)
   replace hnext:=H0 hnext;unfold maxLen at hn heach;unfold MW at hcells;generalize SU p k=x at cX hcells hn heach hnext;obtain ⟨pa,pc,l⟩:=x;dsimp only at cX hcells hn heach;replace hcells:=H0 hcells;replace heach:=H0 heach;go_wp2_with fail
   go_loop [5] (fun iv=>∃ i:Nat,iv= .int .i64 i/\i<=30) (fun iv=>30 - (intOf iv).toNat)
   case atStart=>exact ⟨0,rfl,Qa⟩
   case round=>
    obtain ⟨i,rfl,hi⟩:=hrel
    by_cases hin:i<l.length/\i<30
    ·obtain ⟨h1,h2⟩:=hin;obtain ⟨g,o,rfl,hc⟩:=hcells.out Qa
     have c1:=(hB.cell (p:=⟨g,o+i,none⟩) (by have:=World.block_lt_of_cell? w _ (hc i h1);simpa using this)).trans (hc i h1)
     clear hc;have hez:=heach.out l[i] (List.getElem_mem _);obtain ⟨e,he⟩:=N2 (l[i]);rw [he] at c1 hez;replace he:=H0 he;have h1I:(i:Int)<(l.length:Int):=Qa;have h2I:(i:Int)<30:=Qa
     by_cases h200:200<e.size
     ·have q:(200:Int)<(e.size:Int):=Qa;go_wp2_with fail;go_ret;exact L0 hB
     ·have q:(e.size:Int)<=200:=Qa;go_wp2_with fail;go_round
      case rel=>exact ⟨i+1,Ql,Qa⟩
      case measure=>simp [intOf];omega
    ·have hor:(l.length:Int)<=(i:Int)\/((i:Int)<(l.length:Int)/\(30:Int)<=(i:Int)):=Qa
     clear hin
     by_cases h20:20<l.length
     ·have q:(20:Int)<(l.length:Int):=Qa
      rcases hor with r | ⟨r,r2⟩
      all_goals
       go_wp2_with fail;go_ret;exact L0 hB
     ·have q:(l.length:Int)<=20:=Qa
      have hnew:=hnext.out (by show l.length<=20;omega)
      have r:(l.length:Int)<=(i:Int):=Qa;clear hor;go_wp2_with fail;go_round
      case rel=>exact ⟨k+1,Ql,Qa,hnew⟩
      case measure=>simp [intOf];omega
  ·have hge:(3:Int)<=(k:Int):=Qa
   have hall:Hid (∀ j,j<3->(SU p j).l.length<=20):=H0 (fun j hj=>hg.out j Qa)
   go_wp2_with fail;go_ret;exact So hall.out hB
structure TkI (w wx:World) (p:Df):Prop where
 below:Below w.heap.size w wx
 pc:AG wx w.heap.size (BK p) 24
 pi:Em wx p
theorem TkI.keep {w wx wy:World} {p:Df} (h:TkI w wx p) (hb:Below wx.heap.size wx wy):TkI w wy p:=⟨h.below.next hb,h.pc.keep hb,h.pi.below hb (Nat.le_refl _)⟩
theorem TkI.alloc {w wx:World} {p:Df} (h:TkI w wx p) (o:Obj):TkI w (wx.alloc o) p:=h.keep ((Below.refl _ _).alloc (Nat.le_refl _) o)
theorem Mr:∀ (s r:List UInt8) (q:UInt8),(∀ c∈s,c≠q)->Lib.indexByte (s++q :: r) q=(s.length:Int)
 | [],r,q,_=>by
  rw [List.nil_append];unfold Lib.indexByte;rw [if_pos Qf];rfl
 | d :: s,r,q,h=>by
  have ih:=Mr s r q fun c hc=>h c (List.mem_cons_of_mem _ hc)
  rw [List.cons_append];unfold Lib.indexByte
  rw [if_neg (by simpa using h d (List.mem_cons_self ..)),ih]
  have hn:¬ (((s.length:Int)== -1)=true):=Akp;rw [if_neg hn,List.length_cons];omega
theorem TR (s T:ByteArray) (q:UInt8) (r:List UInt8) (hs:∀ c∈s.toList,c≠q) (hT:T.toList=s.toList++q :: r) (hz:s.size<=4294967296) (w:World):
  Calls Tryz.prog 18 #[.string T,.int .u8 (q.toNat:Int)] w fun e w'=>e= .returned (.string s)/\w'=w:=by
 have hix:=fun w=>Tryz.strings_IndexByte T (q.toNat:Int) w
 have ec:((q.toNat:Int)).toNat.toUInt8=q:=Qf;have h1:=Mr s.toList r q hs;rw [Aa] at h1;simp only [ec,<-ByteArray.toList_eq,hT,h1] at hix
 have hle:(s.size:Int)<=(T.size:Int):=by
  have:=congrArg List.length hT;rw [Aa,List.length_append,Aa] at this;omega
 have h0:(0:Int)<=(s.size:Int):=Qa
 have he:T.extract 0 s.size=s:=Bb (by
  rw [toList_extract,hT]
  simp [<-Aa])
 replace hix:=H0 hix;replace hT:=H0 hT;clear hs h1;go_enter Tryz.func18,Tryz.ntmps18;go_wp2_with fail;refine (hix.out _).mono ?_;rintro e w1 ⟨rfl,hw⟩;obtain rfl:=hw.symm;go_wp2_with fail;go_ret;exact ⟨rfl,rfl⟩
def Nm:Nat->ByteArray × ByteArray
 | 1=>(⟨#[105,109,103]⟩,⟨#[115,114,99,115,101,116]⟩)
 | 2=>(⟨#[77,101,116,97]⟩,⟨#[67,79,78,84,69,78,84]⟩)
 | 3=>(⟨#[115,111,117,114,99,101]⟩,⟨#[115,114,99,115,101,116]⟩)
 | 4=>(⟨#[115,99,114,105,112,116]⟩,⟨#[115,114,99]⟩)
 | 5=>(⟨#[111,98,106,101,99,116]⟩,⟨#[100,97,116,97]⟩)
 | 6=>(⟨#[102,111,114,109]⟩,⟨#[97,99,116,105,111,110]⟩)
 | 7=>(⟨#[108,105,110,107]⟩,⟨#[105,109,97,103,101,115,114,99,115,101,116]⟩)
 | 8=>(⟨#[97]⟩,⟨#[116,105,116,108,101]⟩)
 | _=>(⟨#[97]⟩,⟨#[104,114,101,102]⟩)
theorem PR (r:Nat) (h:r<9):r=0\/r=1\/r=2\/r=3\/r=4\/r=5\/r=6\/r=7\/r=8:=Qa
theorem Acs (n:Int) (hn:0<=n) (w:World):Calls Tryz.prog 9 #[.int .i64 n] w fun e w'=>∃ r,r<9/\e= .returned (.tuple #[.string (Nm r).1,.string (Nm r).2])/\w'=w:=by
 have hm:n.tmod 9=n % 9:=Int.tmod_eq_emod_of_nonneg hn;obtain ⟨r,hr⟩:∃ r:Nat,n % 9=(r:Int):=⟨(n % 9).toNat,Qa⟩;have h9:r<9:=Qa;rw [hr] at hm;clear hr
 rcases PR r h9 with rfl | rfl | rfl | rfl | rfl | rfl | rfl | rfl | rfl
 all_goals
  go_enter Tryz.func9,Tryz.ntmps9;go_wp2_with fail;go_ret2
 ·exact ⟨0,h9,rfl,rfl⟩
 ·exact ⟨1,h9,rfl,rfl⟩
 ·exact ⟨2,h9,rfl,rfl⟩
 ·exact ⟨3,h9,rfl,rfl⟩
 ·exact ⟨4,h9,rfl,rfl⟩
 ·exact ⟨5,h9,rfl,rfl⟩
 ·exact ⟨6,h9,rfl,rfl⟩
 ·exact ⟨7,h9,rfl,rfl⟩
 ·exact ⟨8,h9,rfl,rfl⟩
theorem AG.rng {w:World} {g:Nat} {C:Array Value} {T:TypeId} (h:AG w g C T):w.rangeAt g 0 C.toList:=fun j v hv=>by
 rw [Nat.zero_add];have:=h.at j;rw [this]
 rwa [Array.getElem?_toList] at hv
theorem U4:∀ r,r<9->∃ k:Nat,(k=0\/k=1\/k=2\/k=3)/\Ij (Nm r).1 (Nm r).2 k:=by
 have mk:∀ (el nm:ByteArray) (e n:List UInt8) (kq:Option Nat) (x:Int),AJ el.toList=e->AJ nm.toList=n->el.size<=1000->nm.size<=1000->(∀ k,k<27->(keyBytes [.string (Ib.getD k ([],[],0)).1,.string (Ib.getD k ([],[],0)).2.1]=keyBytes [.string e,.string n]↔kq=some k))->(∀ k,kq=some k->k<27)->VM kq (fun _=>true)=x->keyOf Tryz.prog 91 (Ah8 e n)=some (Hl e n)->Ij el nm x:=fun el nm e n kq x a1 a2 a3 a4 a5 a6 a7 a8 w=>Si el nm e n kq x a1 a2 a3 a4 (Afb a5) a6 a7 a8 w
 intro r hr
 rcases PR r hr with rfl | rfl | rfl | rfl | rfl | rfl | rfl | rfl | rfl
 ·exact ⟨1,Qc,L5⟩
 ·exact ⟨2,Qc,KP⟩
 ·exact ⟨3,Qc,mk _ _ [109,101,116,97] [99,111,110,116,101,110,116] (some 26) 3 Qe Qe Qc Qc Qe (fun k h=>Aib) Qe Qb⟩
 ·exact ⟨2,Qc,mk _ _ [115,111,117,114,99,101] [115,114,99,115,101,116] (some 24) 2 Qe Qe Qc Qc Qe (fun k h=>Aib) Qe Qb⟩
 ·exact ⟨1,Qc,mk _ _ [115,99,114,105,112,116] [115,114,99] (some 5) 1 Qe Qe Qc Qc Qe (fun k h=>Aib) Qe Qb⟩
 ·exact ⟨1,Qc,mk _ _ [111,98,106,101,99,116] [100,97,116,97] (some 8) 1 Qe Qe Qc Qc Qe (fun k h=>Aib) Qe Qb⟩
 ·exact ⟨1,Qc,mk _ _ [102,111,114,109] [97,99,116,105,111,110] (some 17) 1 Qe Qe Qc Qc Qe (fun k h=>Aib) Qe Qb⟩
 ·exact ⟨2,Qc,mk _ _ [108,105,110,107] [105,109,97,103,101,115,114,99,115,101,116] (some 25) 2 Qe Qe Qc Qc Qe (fun k h=>Aib) Qe Qb⟩
 ·exact ⟨0,Qc,mk _ _ [97] [116,105,116,108,101] none 0 Qe Qe Qc Qc Qe (fun k h=>Qr) Qe Qb⟩
theorem YE (p:Df) (B:Am) (el nm:ByteArray) (pa:Option Addr) (n c:Nat) (w:World) (hK:Ij el nm 0):
  Calls Tryz.prog 10 #[.agg (BK p),.agg (Ab B),.string el,.string nm,.slice pa n c] w (fun e w'=>e= .returned (.agg (Bh 1 0 ⟨#[]⟩))/\Below w.heap.size w w'):=by
 have hI:=Z5.start w p B (Bh 0 0 ⟨#[]⟩);replace hK:=H0 hK;go_enter Tryz.func10,Tryz.ntmps10
 go_upto_region 1 with (fail)
 refine Ap (R:=fun wx=>Z5 w wx p B (Bh 0 0 ⟨#[]⟩)) hI ?_
 clear hI;intro w1 hI;go_wp2_with fail;refine (hK.out w1).mono ?_;rintro e w2 ⟨rfl,hb⟩;replace hI:=hI.keep hb;clear hb hK
 go_wp2_with (first
  | (refine wpList_buildTo rfl _ _ rfl _ rfl (Bh 1 0 ⟨#[]⟩) Qb ?_)
  | (refine wpList_store_row rfl 40 _ _ rfl (w.heap.size+2) (Bh 1 0 ⟨#[]⟩) rfl rfl 40 _ hI.o (CW _ _ _) rfl (D5 _ _ _) ?_))
 have hI2:=hI.setO (Bh 1 0 ⟨#[]⟩);refine C7 rfl rfl rfl hI2.o Tryz.underlying40 (CW _ _ _) ?_;exact ⟨rfl,hI2.below⟩
theorem AeL {c:UInt8} (h:NC c=true):((c.toNat:Int)<32)=False/\(126<(c.toNat:Int))=False/\((c.toNat:Int)==34)=false/\((c.toNat:Int)==39)=false/\((c.toNat:Int)==60)=false/\((c.toNat:Int)==62)=false/\((c.toNat:Int)==96)=false:=by
 have key:∀ n:Fin 256,NC (UInt8.ofNat n.val)=true->(decide (((UInt8.ofNat n.val).toNat:Int)<32)=false/\decide (126<((UInt8.ofNat n.val).toNat:Int))=false)/\(((UInt8.ofNat n.val).toNat:Int)==34)=false/\(((UInt8.ofNat n.val).toNat:Int)==39)=false/\(((UInt8.ofNat n.val).toNat:Int)==60)=false/\(((UInt8.ofNat n.val).toNat:Int)==62)=false/\(((UInt8.ofNat n.val).toNat:Int)==96)=false:=Qe
 have:=key ⟨c.toNat,c.toNat_lt⟩;simp only [UInt8.ofNat_toNat] at this;obtain ⟨⟨a1,a2⟩,a3⟩:=this h;exact ⟨eq_false (of_decide_eq_false a1),eq_false (of_decide_eq_false a2),a3⟩
theorem SV (p:Df) (t:ByteArray) (at_:Int) (pa:Option Addr) (n c:Nat) (l:List UInt8) (w:World) (hp:Em w p) (hraw:BU w pa n c l) (hE:Gu w) (ht:t.size<=1100000):Calls Tryz.prog 5 #[.agg (BK p),.string t,.int .i64 at_,.slice pa n c] w (Lt w true):=by
 have hI0:TkI w (w.alloc (.cells (BK p) 24)) p:=⟨(Below.refl _ _).alloc (Nat.le_refl _) _,AG.new _ _ _,hp.below ((Below.refl _ _).alloc (Nat.le_refl _) _) (Nat.le_refl _)⟩;replace hE:=H0 hE;replace hraw:=H0 hraw;have hln:=H0 hraw.out.len;clear hp;go_enter Tryz.func5,Tryz.ntmps5
 go_upto_region 1 with (fail)
 refine Ap (R:=fun wx=>TkI w wx p) hI0 ?_
 clear hI0;intro w1 hI;go_wp2_with fail
 refine (Aet w1 (hE.out.next hI.below)).mono ?_
 rintro e w2 ⟨rfl,hb⟩;replace hI:=hI.keep hb;clear hb;go_wp2_with (refine wpList_load_row rfl 24 _ rfl w.heap.size rfl _ (BK p) _ _ hI.pc Tryz.underlying24 rfl DP ?_);refine (AaK p w2 hI.pi).mono ?_;rintro e w3 ⟨few,rfl,-,hb⟩;replace hI:=hI.keep hb;clear hb;go_wp2_with fail
 refine (Af6 t w3 (hE.out.next hI.below) ht).mono ?_
 rintro e w4 ⟨S,is,rfl,hu,his,hb⟩;have hI5:=(hI.keep hb).alloc (.cells (Ab S) 34);have hn5:AG (w4.alloc (.cells (Ab S) 34)) w4.heap.size (Ab S) 34:=AG.new _ _ _
 have hu5:=hu.w.next ((Below.refl _ _).alloc (Nat.le_refl _) (.cells (Ab S) 34))
 obtain ⟨w5,hw5⟩:∃ w5,w4.alloc (.cells (Ab S) 34)=w5:=⟨_,rfl⟩
 go_upto_region 4 with (refine Af rfl 34 _ _ rfl rfl (Ab S) _ _ _ rfl Qf rfl (Ac _) rfl (Au _) ?_)
 rw [hw5] at hI5 hn5 hu5⊢;obtain ⟨g1,hg1⟩:∃ g,w4.heap.size=g:=⟨_,rfl⟩;rw [hg1] at hn5⊢;clear hw5 hg1 hu hb hI;have hI:=hI5;clear hI5;replace his:=H0 his;replace hu5:=H0 hu5
 cases few with
 | false=>
  go_wp2_with fail;go_ret;exact ⟨rfl,hI.below⟩
 | true=>
 cases is with
 | false=>
  go_wp2_with fail;go_ret;exact ⟨rfl,hI.below⟩
 | true=>
 obtain ⟨⟨b,hb⟩,ht3⟩:=his.out rfl;have hu6:=hu5.out;rw [hb] at hu6;replace hu6:DM w5 S b:=hu6;have gb:=H0 (NV hb);have lb0:=ZN hb;rw [Aa] at lb0;have lb:Hid (A6 b<=104460):=H0 Qa;replace hb:=H0 hb;replace hu6:=H0 hu6;clear his hu5 ht lb0
 by_cases hs:n<=300
 ·have q:(n:Int)<=300:=Qa
  by_cases ha:at_<0
  ·go_wp2_with fail;go_ret;exact ⟨rfl,hI.below⟩
  have ha0:0<=at_:=Qa
  go_upto_region 6 with fail
  go_wp2_with fail;refine (Acs at_ ha0 w5).mono ?_;rintro e w6 ⟨r,hr,rfl,hw6⟩;obtain rfl:=hw6.symm;obtain ⟨k,hk,hKA⟩:=U4 r hr;obtain ⟨el,hel⟩:∃ x,(Nm r).1=x:=⟨_,rfl⟩;obtain ⟨nm,hnm⟩:∃ x,(Nm r).2=x:=⟨_,rfl⟩;rw [hel,hnm] at hKA⊢;replace hel:=H0 hel;replace hnm:=H0 hnm;replace hKA:=H0 hKA;have hraw5:=H0 (hraw.out.below hI.below (Nat.le_refl _))
  by_cases hk0:k=0
  ·subst hk0
   go_wp2_with (first
    | (refine wpList_load_row rfl 24 _ rfl w.heap.size rfl _ (BK p) _ _ hI.pc Tryz.underlying24 rfl DP ?_)
    | (refine wpList_load_row rfl 34 _ rfl g1 rfl _ (Ab S) _ _ hn5 Tryz.underlying34 rfl (Ac _) ?_))
   refine (YE p S el nm pa n c w5 hKA.out).mono ?_;rintro e w7 ⟨rfl,hb7⟩;replace hI:=hI.keep hb7;clear hb7;have hI8:=hI.alloc (.cells (Bh 1 0 ⟨#[]⟩) 40);have hv8:AG (w7.alloc (.cells (Bh 1 0 ⟨#[]⟩) 40)) w7.heap.size (Bh 1 0 ⟨#[]⟩) 40:=AG.new _ _ _;obtain ⟨w8,hw8⟩:∃ w8,w7.alloc (.cells (Bh 1 0 ⟨#[]⟩) 40)=w8:=⟨_,rfl⟩
   go_upto_region 8 with (refine Af rfl 40 _ _ rfl rfl (Bh 1 0 ⟨#[]⟩) _ _ _ rfl Qf rfl (Mj _ _ _) rfl (D5 _ _ _) ?_)
   rw [hw8] at hI8 hv8⊢;clear hw8;have y0:=(hv8.at 0).trans (show (Bh 1 0 ⟨#[]⟩)[0]? =some (.int .i64 1) from rfl);go_wp2_with fail;go_ret;exact ⟨rfl,hI8.below⟩
  have hk3:k=1\/k=2\/k=3:=hk.elim (fun e=>absurd e hk0) id
  have hfl:=H0 (U1 k hk3 p S b el nm pa n c l w5 (hE.out.next hI.below) hI.pi hu6.out gb.out lb.out hKA.out hraw5.out AhN)
  obtain ⟨A,hA⟩:=N2 (A5 (Eu p.schemes.l p.hosts.l p.types.l) p.most k b l);rw [hA] at hfl;replace hA:=H0 hA;clear hk;replace hk3:=H0 hk3
  go_wp2_with (first
   | (refine wpList_load_row rfl 24 _ rfl w.heap.size rfl _ (BK p) _ _ hI.pc Tryz.underlying24 rfl DP ?_)
   | (refine wpList_load_row rfl 34 _ rfl g1 rfl _ (Ab S) _ _ hn5 Tryz.underlying34 rfl (Ac _) ?_))
  refine hfl.out.mono ?_;rintro e w7 ⟨x,rfl,hx,hb7⟩;replace hI:=hI.keep hb7;have hn7:=hn5.keep hb7
  have hu7:=H0 (hu6.out.next hb7)
  clear hb7 hfl hn5 hu6 hraw5 hraw;have hI8:=hI.alloc (.cells (Bh A.kind A.why x) 40);have hn8:=hn7.alloc (.cells (Bh A.kind A.why x) 40)
  have hu8:=H0 (hu7.out.next ((Below.refl _ _).alloc (Nat.le_refl _) (.cells (Bh A.kind A.why x) 40)))
  have hv8:AG (w7.alloc (.cells (Bh A.kind A.why x) 40)) w7.heap.size (Bh A.kind A.why x) 40:=AG.new _ _ _;obtain ⟨w8,hw8⟩:∃ w8,w7.alloc (.cells (Bh A.kind A.why x) 40)=w8:=⟨_,rfl⟩
  go_upto_region 8 with (refine Af rfl 40 _ _ rfl rfl (Bh A.kind A.why x) _ _ _ rfl Qf rfl (Mj _ _ _) rfl (D5 _ _ _) ?_)
  rw [hw8] at hI8 hv8 hn8 hu8⊢;obtain ⟨g2,hg2⟩:∃ g,w7.heap.size=g:=⟨_,rfl⟩;rw [hg2] at hv8⊢;clear hw8 hg2 hI hn7 hu7;have hI:=hI8;clear hI8;have y0:=(hv8.at 0).trans (show (Bh A.kind A.why x)[0]? =some (.int .i64 (A.kind:Int)) from rfl)
  by_cases hA3:A.kind=3
  ·obtain ⟨W,L,D,hq,hkp,hf1,hf2,hf3⟩:=LV (alw:=Eu p.schemes.l p.hosts.l p.types.l) (most:=p.most) (kind:=k) (raw:=l) gb.out (by rw [hA.out];exact hA3)
   rw [hA.out] at hq;subst hq;have hxW:Hid (x.toList=BL W):=hx;have hv:AG w8 g2 (Bh 3 0 x) 40:=hv8;have y0:w8.cell? ⟨g2,0,none⟩=some (.int .i64 3):=(hv.at 0).trans (show (Bh 3 0 x)[0]? =some (.int .i64 3) from rfl);have y2:=(hv.at 2).trans (show (Bh 3 0 x)[2]? =some (.string x) from rfl);have hsafe:=H0 (Rb hkp.clean);have hvl:=Lg l;have hlen300:l.length<=300:=AhN
   have hWl:W.length<=150000000:=by
    have:=(MH (k:=k) (V:=AD l) (alw:=Eu p.schemes.l p.hosts.l p.types.l) gb.out lb.out Qa).1;rw [hf2,hf3,hkp.text] at this;exact this
   have hxz:x.size<=750000000:=by
    have:=(JU W).2;rw [<-Aa,hxW.out];omega
   have hA2:Hid (A5 (Eu p.schemes.l p.hosts.l p.types.l) p.most k b l=⟨3,0,x.toList⟩):=H0 (by rw [hxW.out];exact hA.out)
   have hclean:=H0 hkp.clean
   have hagain:=H0 (fun (wx:World) (hb:Below w8.heap.size w8 wx) (pb:Addr) (nb cb:Nat) (hbn:BU wx (some pb) nb cb x.toList)=>Vi k hk3.out p S b el nm (some pb) nb cb l x wx (hE.out.next (hI.below.next hb)) (hI.pi.below hb (Nat.le_refl _)) (hu8.out.next hb) gb.out lb.out hKA.out hlen300 hA2.out hbn)
   clear hkp hf1 hf2 hf3 hvl hlen300 hA hx hA3 hv8;go_wp2_with fail
   go_loop [17,18,19,20] (fun v17 v18 v19 v20=>∃ i:Nat,v17= .int .i64 (i:Int)/\i<=x.size) (fun v17 _ _ _=>x.size - (intOf v17).toNat)
   case atStart=>exact ⟨0,rfl,Nat.zero_le _⟩
   case round=>
    obtain ⟨i,rfl,hi⟩:=hrel
    by_cases hlt:i<x.size
    ·have hltI:(i:Int)<(x.size:Int):=Qa;have hdr:=As x i hlt;obtain ⟨ch,hch⟩:=N2 (x[i]);rw [hch] at hdr
     have hm:NC ch=true:=hsafe.out ch (by
      rw [<-hxW.out]
      exact List.mem_of_mem_drop (by rw [hdr];exact List.mem_cons_self ..))
     obtain ⟨s1,s2,s3,s4,s5,s6,s7⟩:=AeL hm
     by_cases h38:ch=38
     ·have e38:((ch.toNat:Int)==38)=true:=by rw [h38];rfl
      have hamp:=Abl W i (by rw [<-hxW.out,hdr,h38];rfl)
      rw [<-hxW.out] at hamp
      have h5:i+5<=x.size:=by
       have:=V7 _ hamp;rw [List.length_take,List.length_drop,Aa] at this;omega
      have h5I:(i:Int)+5<=(x.size:Int):=Qa
      have hex:(x.extract i (i+5)).toList=(x.toList.drop i).take 5:=by
       rw [toList_extract,List.drop_take];congr 1;omega
      rw [<-hex] at hamp
      have hways:x.extract i (i+5)=⟨#[38,97,109,112,59]⟩\/x.extract i (i+5)=⟨#[38,35,51,52,59]⟩\/x.extract i (i+5)=⟨#[38,35,51,57,59]⟩\/x.extract i (i+5)=⟨#[38,35,54,48,59]⟩\/x.extract i (i+5)=⟨#[38,35,54,50,59]⟩\/x.extract i (i+5)=⟨#[38,35,57,54,59]⟩:=by
       have hq:∀ t∈Af0,t=[38,97,109,112,59]\/t=[38,35,51,52,59]\/t=[38,35,51,57,59]\/t=[38,35,54,48,59]\/t=[38,35,54,50,59]\/t=[38,35,57,54,59]:=Qc
       rcases hq _ hamp with e | e | e | e | e | e
       ·exact .inl (Bb (e.trans (toList_mk _).symm))
       ·exact .inr (.inl (Bb (e.trans (toList_mk _).symm)))
       ·exact .inr (.inr (.inl (Bb (e.trans (toList_mk _).symm))))
       ·exact .inr (.inr (.inr (.inl (Bb (e.trans (toList_mk _).symm)))))
       ·exact .inr (.inr (.inr (.inr (.inl (Bb (e.trans (toList_mk _).symm))))))
       ·exact .inr (.inr (.inr (.inr (.inr (Bb (e.trans (toList_mk _).symm))))))
      replace hdr:=H0 hdr;replace h38:=H0 h38;replace hamp:=H0 hamp;replace hex:=H0 hex;have t5:((i:Int)+5).toNat=i+5:=Qa;have g5:(0:Int)<=(i:Int)+5:=Qa;have g55:(i:Int)<=(i:Int)+5:=Qa;have m5:¬ (x.size:Int)<(i:Int)+5:=Qa;clear hm
      go_upto_region 19 with fail
      have hmin:min (x.size:Int) ((i:Int)+5)=(i:Int)+5:=Qa
      go_upto_region 19 with fail
      rw [hmin];clear hmin
      go_upto_region 20 with fail
      rcases hways with he | he | he | he | he | he
      all_goals
       try rw [he]
       go_wp2_with fail;go_round
      case rel=>exact ⟨i+1,Qj,Qa⟩
      case measure=>simp [intOf];omega
      case rel=>exact ⟨i+1,Qj,Qa⟩
      case measure=>simp [intOf];omega
      case rel=>exact ⟨i+1,Qj,Qa⟩
      case measure=>simp [intOf];omega
      case rel=>exact ⟨i+1,Qj,Qa⟩
      case measure=>simp [intOf];omega
      case rel=>exact ⟨i+1,Qj,Qa⟩
      case measure=>simp [intOf];omega
      case rel=>exact ⟨i+1,Qj,Qa⟩
      case measure=>simp [intOf];omega
     ·have e38:((ch.toNat:Int)==38)=false:=by
       rw [beq_eq_false_iff_ne];intro e
       exact h38 (by
        apply UInt8.toNat_inj.1;show ch.toNat=38
        omega)
      replace hdr:=H0 hdr;replace h38:=H0 h38;clear hm;go_wp2_with fail;go_round
      case rel=>exact ⟨i+1,Qj,Qa⟩
      case measure=>simp [intOf];omega
    ·have hxc:∀ q:UInt8,NC q=false->∀ c∈x.toList,c≠q:=fun q hq c hc e=>by
      subst e;rw [hxW.out] at hc;have:=hsafe.out c hc;rw [hq] at this;cases this
     have ha1:=H0 (fun w'=>TR x (x++⟨#[34,32,120]⟩) 34 [32,120] (hxc 34 Qc) (by rw [toList_append,show (⟨#[34,32,120]⟩:ByteArray).toList=[34,32,120] from toList_mk _]) Qa w')
     have ha2:=H0 (fun w'=>TR x (x++⟨#[39,32,120]⟩) 39 [32,120] (hxc 39 Qc) (by rw [toList_append,show (⟨#[39,32,120]⟩:ByteArray).toList=[39,32,120] from toList_mk _]) Qa w')
     have z1:¬ (9223372036854775807<x.size+3):=Qa;clear hxc;go_wp2_with fail;refine (ha1.out _).mono ?_;rintro e wa ⟨rfl,hwa⟩;obtain rfl:=hwa.symm;go_wp2_with fail;refine (ha2.out _).mono ?_;rintro e wa2 ⟨rfl,hwa2⟩;obtain rfl:=hwa2.symm;clear ha1 ha2 z1;obtain ⟨xv,hxv⟩:∃ xv:ByteArray,xv.toList=W:=⟨⟨W.toArray⟩,toList_mk W⟩;replace hxv:=H0 hxv
     have hxe:Hid (BL xv.toList=x.toList):=H0 (by rw [hxv.out,hxW.out])
     have hxz2:Hid (xv.size<=4294967296):=H0 (by rw [<-Aa,hxv.out];omega)
     obtain ⟨pb1,nb1,cb1,wc1,hconv1,hbn1,hbc1⟩:=Ji x w8.drew
     have hbel1:Below w8.heap.size w8 wc1:=(Below.refl w8.heap.size w8).drew.next hbc1
     have hval:Hid (Calls Tryz.prog 19 #[.slice (some pb1) nb1 cb1] wc1 (EI wc1 W)):=H0 (by
      have hl1:=hbn1.len;rw [Aa] at hl1;rw [hxW.out] at hbn1;obtain ⟨e0,e1,e2⟩:=XS hclean.out;have hee:=(JU W).2
      have:=TT (some pb1) nb1 cb1 (BL W) wc1 hbn1 Qa (IE e0) (hE.out.next (hI.below.next hbel1)) (by rw [e1];omega) (by rw [e1,e2];omega)
      rw [MN hclean.out] at this
      exact this)
     have hgd:=Oh
     have hq:=fun w=>F4 w 3 0 x
     clear hbn1
     go_upto_region 24 with fail
     refine wp_region_noPanic ?_
     refine wp_region_held_drew (S:=fun w'=>AG w' w.heap.size (BK p) 24/\AG w' g1 (Ab S) 34/\AG w' g2 (Bh 3 0 x) 40) Qb (⟨hI.pc.keep (Below.refl _ _).drew,hn8.keep (Below.refl _ _).drew,hv.keep (Below.refl _ _).drew⟩) (fun hHeld=> ?_)
     refine T0 0 138 ?_ hHeld ?_ ?_;rotate_left
     ·intro w hSw;(try dsimp only at hSw);go_simp;try with_reducible rfl
     try simp only [P3]
     refine T0 1 139 ?_ hHeld ?_ ?_;rotate_left
     ·intro w hSw;(try dsimp only at hSw);go_simp;try with_reducible rfl
     try simp only [P3]
     refine T0 2 140 ?_ hHeld ?_ ?_;rotate_left
     ·intro w hSw;(try dsimp only at hSw);go_simp;try with_reducible rfl
     try simp only [P3]
     refine T0 3 141 ?_ hHeld ?_ ?_;rotate_left
     ·intro w hSw;(try dsimp only at hSw);go_simp;try with_reducible rfl
     try simp only [P3]
     refine T0 4 142 ?_ hHeld ?_ ?_;rotate_left
     ·intro w hSw;(try dsimp only at hSw);go_simp;try with_reducible rfl
     try simp only [P3]
     refine T0 5 143 ?_ hHeld ?_ ?_;rotate_left
     ·intro w hSw;(try dsimp only at hSw);go_simp;try with_reducible rfl
     try simp only [P3]
     refine T0 6 144 ?_ hHeld ?_ ?_;rotate_left
     ·intro w hSw;(try dsimp only at hSw);go_simp;try with_reducible rfl
     try simp only [P3]
     refine T0 7 145 ?_ hHeld ?_ ?_;rotate_left
     ·intro w hSw;(try dsimp only at hSw);go_simp;try with_reducible rfl
     try simp only [P3]
     refine T0 8 146 ?_ hHeld ?_ ?_;rotate_left
     ·intro w hSw;(try dsimp only at hSw);go_simp;try with_reducible rfl
     try simp only [P3]
     refine T0 9 147 ?_ hHeld ?_ ?_;rotate_left
     ·intro w hSw;(try dsimp only at hSw);go_simp;try with_reducible rfl
     try simp only [P3]
     refine T0 10 148 ?_ hHeld ?_ ?_;rotate_left
     ·intro w hSw;(try dsimp only at hSw);go_simp;try with_reducible rfl
     try simp only [P3]
     refine T0 11 149 ?_ hHeld ?_ ?_;rotate_left
     ·intro w hSw;(try dsimp only at hSw);go_simp;try with_reducible rfl
     try simp only [P3]
     refine T0 12 150 ?_ hHeld ?_ ?_;rotate_left
     ·intro w hSw;(try dsimp only at hSw);go_simp;try with_reducible rfl
     try simp only [P3]
     refine T0 16 154 ?_ hHeld ?_ ?_;rotate_left
     ·intro w hSw;(try dsimp only at hSw);go_simp;try with_reducible rfl
     try simp only [P3]
     refine wpAnyH_ready (rs:=[13]) Qb Qf ?_
     refine AllReadyH.cons rfl (fun K hK=> ?_) AllReadyH.nil
     go_simp
     refine hK.out _ _ (⟨hHeld.1.keep hbc1,hHeld.2.1.keep hbc1,hHeld.2.2.keep hbc1⟩) (fun hHeld=> ?_)
     clear hK K
     try simp only [P3]
     refine wpAnyH_ready (rs:=[14]) Qb Qf ?_
     refine AllReadyH.cons rfl (fun K hK=> ?_) AllReadyH.nil
     go_simp;refine hval.out.mono ?_;rintro e wv ⟨tv,rfl,htv,hbv⟩;have htx:tv=xv:=toList_inj (htv.out.trans hxv.out.symm);rw [htx];clear htx htv;go_wp2_with fail
     refine hK.out _ _ (⟨hHeld.1.keep hbv,hHeld.2.1.keep hbv,hHeld.2.2.keep hbv⟩) (fun hHeld=> ?_)
     clear hK K
     try simp only [P3]
     have hbel2:=hbel1.next hbv
     have hesc:=H0 (IH xv wv hxz2.out);refine wpAnyH_ready (rs:=[15]) Qb Qf ?_
     refine AllReadyH.cons rfl (fun K hK=> ?_) AllReadyH.nil
     go_simp;refine hesc.out.mono ?_;rintro e we ⟨te,rfl,hte,hbe⟩;have htx:te=x:=toList_inj (hte.out.trans hxe.out);rw [htx];clear htx hte;go_wp2_with fail
     refine hK.out _ _ (⟨hHeld.1.keep hbe,hHeld.2.1.keep hbe,hHeld.2.2.keep hbe⟩) (fun hHeld=> ?_)
     clear hK K
     try simp only [P3]
     have hbel3:=hbel2.next hbe
     obtain ⟨pb,nb,cb,wc2,hconv2,hbn2,hbc2⟩:=Ji x we
     have hbel4:=hbel3.next hbc2
     have hag:=H0 (hagain.out wc2 hbel4 pb nb cb hbn2);refine T0 17 155 ?_ hHeld ?_ ?_;rotate_left
     ·intro w hSw;(try dsimp only at hSw);go_simp;try with_reducible rfl
     try simp only [P3]
     refine T0 18 156 ?_ hHeld ?_ ?_;rotate_left
     ·intro w hSw;(try dsimp only at hSw);go_simp;try with_reducible rfl
     try simp only [P3]
     refine T0 19 157 ?_ hHeld ?_ ?_;rotate_left
     ·intro w hSw;(try dsimp only at hSw);go_simp;try with_reducible rfl
     try simp only [P3]
     refine wpAnyH_take (i:=20) (oi:=⟨some 158,_,_,_,_,_⟩) (v:= .agg (BK p).toList.toArray) rfl Qb Qb Qb (fun _ _ _ h=>h) (yieldsIf_load_mid Qt 24 _ rfl w.heap.size 0 rfl (BK p).toList _ (fun w hS=>hS.1.rng) Tryz.underlying24 rfl (by show _=some 4;exact DP)) hHeld ?_
     try simp only [P3]
     refine wpAnyH_take (i:=21) (oi:=⟨some 159,_,_,_,_,_⟩) (v:= .agg (Ab S).toList.toArray) rfl Qb Qb Qb (fun _ _ _ h=>h) (yieldsIf_load_mid Qt 34 _ rfl g1 0 rfl (Ab S).toList _ (fun w hS=>hS.2.1.rng) Tryz.underlying34 rfl (Gv _)) hHeld ?_
     try simp only [P3]
     refine T0 22 160 ?_ hHeld ?_ ?_;rotate_left
     ·intro w hSw;(try dsimp only at hSw);go_simp;try with_reducible rfl
     try simp only [P3]
     refine T0 23 161 ?_ hHeld ?_ ?_;rotate_left
     ·intro w hSw;(try dsimp only at hSw);go_simp;try with_reducible rfl
     try simp only [P3]
     refine T0 24 162 ?_ hHeld ?_ ?_;rotate_left
     ·intro w hSw;(try dsimp only at hSw);go_simp;try with_reducible rfl
     try simp only [P3]
     refine wpAnyH_take (i:=27) (oi:=⟨some 165,_,_,_,_,_⟩) (v:= .agg (Bh 3 0 x).toList.toArray) rfl Qb Qb Qb (fun _ _ _ h=>h) (yieldsIf_load_mid Qt 40 _ rfl g2 0 rfl (Bh 3 0 x).toList _ (fun w hS=>hS.2.2.rng) Tryz.underlying40 rfl (by show _=some 3;exact CW 3 0 x)) hHeld ?_
     try simp only [P3]
     try simp only [Array.toArray_toList]
     refine wpAnyH_ready (rs:=[25]) Qb Qf ?_
     refine AllReadyH.cons rfl (fun K hK=> ?_) AllReadyH.nil
     go_simp
     refine hK.out _ _ (⟨hHeld.1.keep hbc2,hHeld.2.1.keep hbc2,hHeld.2.2.keep hbc2⟩) (fun hHeld=> ?_)
     clear hK K
     try simp only [P3]
     refine wpAnyH_ready (rs:=[26]) Qb Qf ?_
     refine AllReadyH.cons rfl (fun K hK=> ?_) AllReadyH.nil
     go_simp;refine hag.out.mono ?_;rintro e wf ⟨rfl,hbf⟩;go_wp2_with fail
     refine hK.out _ _ (⟨hHeld.1.keep hbf,hHeld.2.1.keep hbf,hHeld.2.2.keep hbf⟩) (fun hHeld=> ?_)
     clear hK K
     try simp only [P3]
     refine T0 28 166 ?_ hHeld ?_ ?_;rotate_left
     ·intro w hSw;(try dsimp only at hSw);go_simp;try with_reducible rfl
     try simp only [P3]
     refine T0 29 167 ?_ hHeld ?_ ?_;rotate_left
     ·intro w hSw;(try dsimp only at hSw);go_simp;try with_reducible rfl
     try simp only [P3]
     refine wpAnyH_ready (rs:=[30]) Qb Qf ?_
     refine AllReadyH.cons rfl (fun K hK=> ?_) AllReadyH.nil
     go_simp
     refine hK.out _ _ (hHeld) (fun hHeld=> ?_)
     clear hK K
     try simp only [P3]
     refine wpAnyH_done Qb ?_ _;refine NoPanic.normal ?_;go_wp2_with fail;go_ret
     exact ⟨rfl,hI.below.next (hbel4.next hbf)⟩
  ·have hne:((A.kind:Int)==3)=false:=Qg;go_wp2_with fail;go_ret;exact ⟨rfl,hI.below⟩
 ·have q:300<(n:Int):=Qa;go_wp2_with fail;go_ret;exact ⟨rfl,hI.below⟩
end Go.Proofs.YtonomfeipkdmhaaGreatDoor
namespace Go.Proofs.YtonomfeipkdmhaaGreatDoor
open Go.RowKit Go.ChangeShapes Go.WideShapes
def cell0:DataW Unit->List Value
 | .lit (.int k n)=>[.int k n]
 | _=>[]
def Ahu:DataW Unit->List Value
 | .agg l=>l.flatMap cell0
 | d=>cell0 d
def Ai9:DataW Unit->List Value
 | .agg l=>l.flatMap Ahu
 | d=>Ahu d
def AiW:DataW Unit->List Int
 | .agg l=>l.map fun | .lit (.int _ n)=>n | _=>0
 | _=>[]
def AhV (l:List Value):Obj->Obj
 | .cells _ t fr=> .cells l.toArray t fr
 | o=>o
def AfY (P:Program) (h:Array Obj):List (String × DataW Unit)->Array Obj
 | []=>h
 | x :: r=>AfY P (match P.globalNamed x.1 with | some g=>h.modify g (AhV (Ai9 x.2)) | none=>h) r
noncomputable def M7 (P:Program) (os:Os) (l:List (String × DataW Unit)):World:=
 let w0:=World.holding P os ⟨#[],#[],[]⟩
 { w0 with heap:=AfY P w0.heap l }
theorem Gq {P:Program} {x:String × DataW Unit} {rest:List (String × DataW Unit)} {W:World} (h:laidMet P (x :: rest) W):laidMet P rest W:=by
 obtain ⟨ps,⟨g,t,cs,fuel,p,q,_,_,_,_,hq,rfl⟩,hn,hc⟩:=h
 exact ⟨q,hq,(List.nodup_append.1 hn).2.1,fun b off hm=>hc b off (List.mem_append_right _ hm)⟩
theorem AbT:(Rows.laid_internal_strconv_uint64pow10:DataW Unit)=Lib.tabData .u64 Lib.pow10Tab:=Qb
theorem Aaf:(Rows.laid_math_bits_deBruijn64tab:DataW Unit)=Lib.tabData .u8 (AiW Rows.laid_math_bits_deBruijn64tab):=Qb
theorem VA {rest:List (String × DataW Unit)} {W:World}
  (h:laidMet Tryz.prog (("math/bits.deBruijn32tab",Rows.laid_math_bits_deBruijn32tab) :: ("math/bits.deBruijn64tab",Rows.laid_math_bits_deBruijn64tab) :: ("internal/strconv.uint64pow10",Rows.laid_internal_strconv_uint64pow10) :: rest) W):IG W:=by
 have h2:=Gq h;have h3:=Gq h2;rw [Aaf] at h2;rw [AbT] at h3
 have hb:Tryz.prog.globalNamed "math/bits.deBruijn64tab" =some 5:=by kernel_rfl
 refine ⟨Lib.tabIs_of_head Wo Qb Tryz.underlying224 Tryz.underlying161 Qb Qb h3,?_⟩;have ht:=Lib.tabIs_of_head hb Qb Tryz.underlying252 Tryz.underlying5 Qb Qb h2;exact (ht.cell hb 15 Qc).trans rfl
end Go.Proofs.YtonomfeipkdmhaaGreatDoor
namespace Go.Proofs.YtonomfeipkdmhaaGreatDoor
open Go.RowKit Go.ChangeShapes Go.WideShapes
def ZO:List Int:=Go.Pinned.utf8FirstZ.map fun (n:Nat)=>(n:Int)
theorem AcE:(Rows.laid_unicode_utf8_first:DataW Unit)=Lib.tabData .u8 ZO:=Qb
theorem Tp:ZO.length=256/\∀ c,c<256->ZO.getD c 0=Lib.firstT c:=Qe
theorem XA:Tryz.prog.globalNamed "unicode/utf8.first" =some 1:=by kernel_rfl
theorem M5:Tryz.prog.globalNamed "unicode/utf8.acceptRanges" =some 2:=by kernel_rfl
def Aes (i:Nat):DataW Unit:= .agg [.lit (.int .u8 (Lib.accLo i)),.lit (.int .u8 (Lib.accHi i))]
theorem Ag2:(Rows.laid_unicode_utf8_acceptRanges:DataW Unit)= .agg ((List.range 16).map Aes):=Qb
theorem Aia {α:Type} {l:List α} (h:l.length=2):∃ a b,l=[a,b]:=by
 match l,h with
 | [a,b],_=>exact ⟨a,b,rfl⟩
theorem Ahl {w:World} {enc:TypeId × Value->Unit} {base:Nat} {sp:Nat->Bool} {held:Bool} {fuel:Nat} {cs:List Value} {x:DataW Unit × List MemPlace} (h:DataW.trod enc Tryz.prog w base sp held fuel 203 cs=some x):
  ∃ a b,cs=[.int .u8 a,.int .u8 b]/\x.1= .agg [.lit (.int .u8 a),.lit (.int .u8 b)]:=by
 obtain ⟨y0,y1,n,rfl,hl,h0,h1⟩:=trod_struct2 Tryz.underlying203 h;have hl2:cs.length=2:=hl.trans Qb;obtain ⟨c0,c1,rfl⟩:=Aia hl2;have k:Tryz.prog.cellsOf 5=1:=Qb;dsimp only at h0 h1;rw [k] at h0 h1;obtain ⟨a,e0,rfl,-⟩:=DataW.trod_int Tryz.underlying5 h0;obtain ⟨b,e1,rfl,-⟩:=DataW.trod_int Tryz.underlying5 h1;simp only [List.drop_zero,List.drop_succ_cons,List.take_succ_cons,List.take_zero,List.cons.injEq,and_true] at e0 e1
 exact ⟨a,b,by rw [e0,e1],rfl⟩
theorem AcC {w:World} {enc:TypeId × Value->Unit} {base:Nat} {sp:Nat->Bool} {held:Bool} {fuel:Nat} {cs:List Value} {p:List MemPlace}
  (h:DataW.trod enc Tryz.prog w base sp held fuel 204 cs=some (.agg ((List.range 16).map Aes),p)) (i:Nat) (hi:i<16):
  cs[2 * i]? =some (.int .u8 (Lib.accLo i))/\cs[2 * i+1]? =some (.int .u8 (Lib.accHi i)):=by
 have ht:=Tryz.underlying204;have hc2:Tryz.prog.cellsOf 203=2:=Qb
 cases fuel with
 | zero=>simp [DataW.trod] at h
 | succ fuel=>
  simp only [DataW.trod,ht,hc2] at h;split at h
  ·obtain ⟨xs,hm,hx⟩:=Option.map_eq_some_iff.1 h
   have hxs:xs.map (·.1)=(List.range 16).map Aes:=by
    have:=congrArg Prod.fst hx;simpa using this
   obtain ⟨b,hb,hf⟩:=Lib.mapM_at hm i i (by simp [hi])
   obtain ⟨x,y,hc,hd⟩:=Ahl hf
   have h2:(xs.map (·.1))[i]? =some b.1:=by rw [List.getElem?_map,hb];rfl
   rw [hxs,List.getElem?_map,List.getElem?_range hi,hd] at h2;have h3:Aes i= .agg [.lit (.int .u8 x),.lit (.int .u8 y)]:=Option.some.inj h2;unfold Aes at h3;simp only [DataW.agg.injEq,List.cons.injEq,DataW.lit.injEq,Lit.int.injEq,true_and,and_true] at h3;obtain ⟨rfl,rfl⟩:=h3
   have g0:=congrArg (·[0]?) hc
   have g1:=congrArg (·[1]?) hc
   simp only [List.getElem?_take,List.getElem?_drop] at g0 g1;refine ⟨?_,?_⟩
   ·have:i * 2+0=2 * i:=Qa;simpa [this] using g0
   ·have:i * 2+1=2 * i+1:=Qa;simpa [this] using g1
  ·cases h
theorem Xn {W:World} (h:laidMet Tryz.prog (("unicode/utf8.acceptRanges",Rows.laid_unicode_utf8_acceptRanges) :: ("unicode/utf8.first",Rows.laid_unicode_utf8_first) :: []) W):Utf W:=by
 have h2:=Gq h;rw [AcE] at h2;have hF:=Lib.tabIs_of_head XA Qb Tryz.underlying201 Tryz.underlying5 Qb Qb h2
 refine ⟨fun c hc=> ?_,fun i hi=> ?_⟩
 ·rw [hF.cell XA c (by rw [Tp.1];exact hc),Tp.2 c hc]
 ·obtain ⟨ps,⟨g',t',cs,fuel,p,q,hg',ht',hvar,hd,_,_⟩,_⟩:=h;obtain rfl:=Option.some.inj (M5.symm.trans hg')
  have hty:(Tryz.prog.globals[2]?).map (·.type)=some 204:=Qb
  obtain rfl:=Option.some.inj (hty.symm.trans ht');rw [Ag2] at hd;obtain ⟨a0,a1⟩:=AcC hd i hi
  exact ⟨(World.var?_cell M5 hvar (2 * i)).trans (by simpa using a0),(World.var?_cell M5 hvar (2 * i+1)).trans (by simpa using a1)⟩
theorem WO {W:World} (h:laidMet Tryz.prog (("math/bits.deBruijn32tab",Rows.laid_math_bits_deBruijn32tab) :: ("math/bits.deBruijn64tab",Rows.laid_math_bits_deBruijn64tab) :: ("internal/strconv.uint64pow10",Rows.laid_internal_strconv_uint64pow10) :: ("unicode/utf8.acceptRanges",Rows.laid_unicode_utf8_acceptRanges) :: ("unicode/utf8.first",Rows.laid_unicode_utf8_first) :: []) W) (hml:ML W):Gu W:=
 ⟨VA h,hml,Xn (Gq (Gq (Gq h)))⟩
end Go.Proofs.YtonomfeipkdmhaaGreatDoor
