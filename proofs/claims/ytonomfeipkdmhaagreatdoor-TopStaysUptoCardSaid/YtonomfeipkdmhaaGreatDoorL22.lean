/- Part 22: lemmas. -/
import Derived.Test.YtonomfeipkdmhaaGreatDoorL21
import Derived.ChangeOld
import Derived.Lib.SlicesS
import Derived.ShutString
set_option linter.unusedVariables false
set_option linter.unusedSimpArgs false
set_option maxRecDepth 100000
set_option maxHeartbeats 16000000
namespace Go.Proofs.YtonomfeipkdmhaaGreatDoor
open Go.RowKit
def readC (v:Value) (t:ByteArray):Array Value:= #[v,.string t]
theorem Bw (v:Value) (t:ByteArray):(Tryz.prog.info? 44).map (·.size)=some (readC v t).size:=by show _=some 2;kernel_rfl
theorem Km:(Tryz.prog.info? 42).map (·.size)=some 1:=Qb
theorem EQ {v:Value} (t:ByteArray) (h:v.oneCell'=true):(readC v t).all (·.oneCell')=true:=by
 rw [Array.all_eq_true_iff_forall_mem];intro x hx
 have hx2:x=v\/x= .string t:=by simpa [readC] using hx
 rcases hx2 with rfl | rfl
 ·exact h
 ·rfl
def Mf (r:List BG × List UInt8) (w:World) (e:Ending) (w':World):Prop:=
 ∃ (v:Value) (l:List AO) (t:ByteArray),e= .returned (.agg (readC v t))/\DK l r.1/\Hid (t.toList=r.2)/\Cc w' w.heap.size v l/\Below w.heap.size w w'
theorem Cc.one {w:World} {B:Nat} {v:Value} {l:List AO} (h:Cc w B v l):v.oneCell'=true:=by
 rcases h.1.2 with ⟨rfl,_⟩ | ⟨k,cap,cur,rfl,_⟩<;>rfl
theorem Cc.row {w:World} {B:Nat} {v:Value} {l:List AO} (h:Cc w B v l) {g:Nat} (hg:g<B) (C:Array Value):Cc (w.setRow g C) B v l:=
 h.chg fun k hk _=>Eb w g k C Qa
structure Mb (w wx:World) (B:Am) (C D:Array Value):Prop where
 below:Below w.heap.size w wx
 size:w.heap.size+3<=wx.heap.size
 a:AG wx w.heap.size (Ab B) 34
 o:AG wx (w.heap.size+1) C 44
 r:AG wx (w.heap.size+2) D 44
theorem Mb.start (w:World) (B:Am) (C D:Array Value):Mb w (((w.alloc (.cells (Ab B) 34)).alloc (.cells C 44)).alloc (.cells D 44)) B C D:=by
 have h:=MJ.start w (Ab B) 34 C 44;have hn:=AG.new ((w.alloc (.cells (Ab B) 34)).alloc (.cells C 44)) D 44;rw [Ai,Ai] at hn;exact ⟨h.below.alloc Akw _,AkC,h.a.alloc _,h.b.alloc _,hn⟩
theorem Mb.keep {w wx wy:World} {B:Am} {C D:Array Value} (h:Mb w wx B C D) (hb:Below wx.heap.size wx wy):Mb w wy B C D:=⟨h.below.next hb,Qx,h.a.keep hb,h.o.keep hb,h.r.keep hb⟩
theorem Mb.alloc {w wx:World} {B:Am} {C D:Array Value} (h:Mb w wx B C D) (o:Obj):Mb w (wx.alloc o) B C D:=h.keep ((Below.refl _ _).alloc (Nat.le_refl _) o)
theorem Mb.setR {w wx:World} {B:Am} {C D:Array Value} (h:Mb w wx B C D) (E:Array Value):Mb w (wx.setRow (w.heap.size+2) E) B C E:=
 ⟨Ae h.below Qa _,Aj9,h.a.other Qa _,h.o.other Qa _,h.r.set _⟩
theorem Mb.setO {w wx:World} {B:Am} {C D:Array Value} (h:Mb w wx B C D) (E:Array Value):Mb w (wx.setRow (w.heap.size+1) E) B E D:=
 ⟨Ae h.below Qa _,Aj9,h.a.other Qa _,h.o.set _,h.r.other Qa _⟩
def r0:Array Value:=readC (.slice none 0 0) ⟨#[]⟩
theorem PI (B:Am) (b:Ao) (s:ByteArray) (w:World) (hE:Gu w) (hB:DM w B b) (bk:F2 B) (hz:s.size<=1100000):Calls Tryz.prog 55 #[.int .i64 1,.agg (Ab B),.string s] w (Mf (Al 1 b s.toList) w):=by
 have hI:=Mb.start w B r0 r0
 have hit:=H0 (fun w hE hB=>RO B b s w hE hB bk hz)
 have hE':=H0 hE;have hB':=H0 hB;clear hE hB;have hv:Hid (Al 1 b s.toList=([BI b s.toList []],[])):=rfl;obtain ⟨it,hiz⟩:=N2 (BI b s.toList []);rw [hiz] at hit hv;rw [hv.out];replace hiz:=H0 hiz;go_enter Tryz.func55,Tryz.ntmps55
 go_upto_region 2 with (fail)
 refine Ap (R:=fun wx=>Mb w wx B r0 r0) hI ?_
 clear hI;intro w1 hI;go_wp2_with (refine wpList_load_row rfl 34 _ rfl w.heap.size rfl _ (Ab B) _ _ hI.a Tryz.underlying34 rfl (Ac _) ?_)
 refine (hit.out _ (hE'.out.next hI.below) (hB'.out.next hI.below)).mono ?_
 rintro e w2 ⟨x,rfl,hx,ho,hwv,hb⟩;have hs1:=hI.size;replace hI:=hI.keep hb;have hs2:=hI.size;have hb1:=hb.size;have hI5:=hI.alloc (.cells (At x.right x.url x.wv) 48);have ho5:=H0 (Nt ho hb1);clear hb hit hB' hE' hI ho;replace hwv:=H0 hwv;obtain ⟨w5,hw5⟩:∃ w5,w2.alloc (.cells (At x.right x.url x.wv) 48)=w5:=⟨_,rfl⟩;rw [hw5] at hI5 ho5
 go_wp2_with (first
  | (refine Fh rfl _ rfl x.right x.url x.wv rfl ?_;rw [hw5];clear hw5)
  | (refine Ad rfl 42 _ _ rfl (w.heap.size+2) 0 rfl (.slice (some ⟨w2.heap.size,0,none⟩) 1 1) rfl rfl 44 r0 (readC (.slice (some ⟨w2.heap.size,0,none⟩) 1 1) ⟨#[]⟩) hI5.r Km Qc rfl Qb ?_)
  | (refine wpList_load_row rfl 44 _ rfl (w.heap.size+2) rfl _ (readC (.slice (some ⟨w2.heap.size,0,none⟩) 1 1) ⟨#[]⟩) _ _ (hI5.setR _).r Tryz.underlying44 rfl (Bw _ _) ?_)
  | (refine wpList_store_row rfl 44 _ _ rfl (w.heap.size+1) (readC (.slice (some ⟨w2.heap.size,0,none⟩) 1 1) ⟨#[]⟩) rfl rfl 44 _ (hI5.setR _).o (Bw _ _) rfl (EQ _ rfl) ?_))
 have hI6:=(hI5.setR (readC (.slice (some ⟨w2.heap.size,0,none⟩) 1 1) ⟨#[]⟩)).setO (readC (.slice (some ⟨w2.heap.size,0,none⟩) 1 1) ⟨#[]⟩);refine C7 rfl rfl rfl hI6.o Tryz.underlying44 (Bw _ _) ?_;refine ⟨_,[x],⟨#[]⟩,rfl,⟨hx,trivial⟩,toList_mk [],?_,hI6.below⟩;exact (((ho5.out.row (g:=w.heap.size+2) Qa _).row (g:=w.heap.size+1) Qa _)).low Qa
def OC (c:UInt8):List UInt8:=if c=38 then [38,97,109,112,59] else if c=34 then [38,35,51,52,59] else if c=39 then [38,35,51,57,59] else if c=60 then [38,35,54,48,59] else if c=62 then [38,35,54,50,59] else if c=96 then [38,35,57,54,59] else []
theorem Aie (c:UInt8):(OC c≠[]/\EY c=OC c)\/(OC c=[]/\EY c=[c]):=by
 unfold OC EY
 repeat' split
 all_goals first | exact .inl ⟨Qf,rfl⟩ | exact .inr ⟨rfl,rfl⟩
theorem WG (c:UInt8) (w:World):Calls Tryz.prog 39 #[.int .u8 (c.toNat:Int)] w (Aba (OC c) w):=by
 have key:∀ (k:UInt8) (l:List UInt8),OC k=l->c=k->(Calls Tryz.prog 39 #[.int .u8 (k.toNat:Int)] w fun e w'=>e= .returned (.string ⟨l.toArray⟩)/\w=w')->Calls Tryz.prog 39 #[.int .u8 (c.toNat:Int)] w (Aba (OC c) w):=by
  intro k l h1 h2 h3;subst h2;rw [h1]
  exact h3.mono fun e w' ⟨he,hw⟩=>⟨_,he,H0 (toList_mk l),hw⟩
 by_cases h1:c=38
 ·refine key 38 [38,97,109,112,59] rfl h1 ?_;show Calls _ _ #[.int .u8 38] _ _;go_enter Tryz.func39,Tryz.ntmps39;go_wp2_with fail;go_ret;exact ⟨rfl,rfl⟩
 by_cases h2:c=34
 ·refine key 34 [38,35,51,52,59] rfl h2 ?_;show Calls _ _ #[.int .u8 34] _ _;go_enter Tryz.func39,Tryz.ntmps39;go_wp2_with fail;go_ret;exact ⟨rfl,rfl⟩
 by_cases h3:c=39
 ·refine key 39 [38,35,51,57,59] rfl h3 ?_;show Calls _ _ #[.int .u8 39] _ _;go_enter Tryz.func39,Tryz.ntmps39;go_wp2_with fail;go_ret;exact ⟨rfl,rfl⟩
 by_cases h4:c=60
 ·refine key 60 [38,35,54,48,59] rfl h4 ?_;show Calls _ _ #[.int .u8 60] _ _;go_enter Tryz.func39,Tryz.ntmps39;go_wp2_with fail;go_ret;exact ⟨rfl,rfl⟩
 by_cases h5:c=62
 ·refine key 62 [38,35,54,50,59] rfl h5 ?_;show Calls _ _ #[.int .u8 62] _ _;go_enter Tryz.func39,Tryz.ntmps39;go_wp2_with fail;go_ret;exact ⟨rfl,rfl⟩
 by_cases h6:c=96
 ·refine key 96 [38,35,57,54,59] rfl h6 ?_;show Calls _ _ #[.int .u8 96] _ _;go_enter Tryz.func39,Tryz.ntmps39;go_wp2_with fail;go_ret;exact ⟨rfl,rfl⟩
 clear key
 have hv:OC c=[]:=by unfold OC;rw [if_neg h1,if_neg h2,if_neg h3,if_neg h4,if_neg h5,if_neg h6]
 have ne:∀ k:UInt8,c≠k->((c.toNat:Int)==(k.toNat:Int))=false:=fun k h=>by rw [beq_eq_false_iff_ne];intro e;exact h (UInt8.toNat_inj.1 Qa)
 have n1:((c.toNat:Int)==38)=false:=ne 38 h1;have n2:((c.toNat:Int)==34)=false:=ne 34 h2;have n3:((c.toNat:Int)==39)=false:=ne 39 h3;have n4:((c.toNat:Int)==60)=false:=ne 60 h4;have n5:((c.toNat:Int)==62)=false:=ne 62 h5;have n6:((c.toNat:Int)==96)=false:=ne 96 h6;clear ne h1 h2 h3 h4 h5 h6;rw [hv];clear hv;generalize (c.toNat:Int)=z at *;go_enter Tryz.func39,Tryz.ntmps39;go_wp2_with fail;go_ret;exact ⟨_,rfl,H0 (toList_mk []),rfl⟩
theorem AcL (l:List UInt8) (c:UInt8):BL (l++[c])=BL l++EY c:=by unfold BL;rw [List.flatMap_append];simp
theorem AeB (c:UInt8):(OC c).length<=5:=by
 unfold OC
 repeat' split
 all_goals simp
theorem IH (s:ByteArray) (w:World) (hz:s.size<=4294967296):Calls Tryz.prog 16 #[.string s] w (EI w (BL s.toList)):=by
 go_enter Tryz.func16,Tryz.ntmps16;go_wp2_with fail
 go_loopw [8] (fun iv wr=>∃ k:Nat,iv= .int .i64 k/\k<=s.size/\Kz wr w.heap.size w.heap.size (BL (s.toList.take k))/\Below w.heap.size w wr) (fun iv _=>s.size - (intOf iv).toNat)
 case atStart=>exact ⟨0,rfl,Nat.zero_le _,Kz.fresh w,(Below.refl _ _).alloc (Nat.le_refl _) _⟩
 case round=>
  obtain ⟨k,rfl,hk,hbld,hbel⟩:=hrel;have hsz:=hbel.size
  have hlen:(BL (s.toList.take k)).length<=21474836480:=by
   have:=(JU (s.toList.take k)).2;rw [List.length_take] at this;omega
  by_cases hkl:k<s.size
  ·have hkI:(k:Int)<(s.size:Int):=Qa;have hsn:=H0 ((congrArg BL (Cx s k hkl)).trans (AcL _ _));obtain ⟨c,hc⟩:=N2 (s[k]);rw [hc] at hsn
   have hes:=H0 (fun w=>WG c w)
   generalize BL (s.toList.take k)=P at hsn hlen hbld;have hwl:=AeB c
   rcases Aie c with ⟨h1,h2⟩ | ⟨h1,h2⟩
   ·rw [h2] at hsn;obtain ⟨E,hE⟩:=N2 (OC c);rw [hE] at hes hsn h1 hwl;replace hE:=H0 hE;replace h2:=H0 h2;go_wp2_with fail;refine (hes.out _).mono ?_;rintro e w2 ⟨t,rfl,ht,rfl⟩
    have hne:t.toList.isEmpty=false:=by rw [ht.out];cases E with | nil=>exact absurd rfl h1 | cons a b=>rfl
    have htz:t.size<=5:=by rw [<-Aa,ht.out];exact hwl
    replace h1:=H0 h1;have hw:=H0 (AM w.heap.size w.heap.size P t wr hbld Qa Qa hsz);go_wp2_with fail;refine hw.out.mono ?_;rintro e w3 ⟨rfl,hb2,hbb⟩;have hbel2:=hbel.trans hbb
    have hb3:Kz w3 w.heap.size w.heap.size (BL (s.toList.take (k+1))):=by rw [hsn.out,<-ht.out];exact hb2
    clear hb2;go_wp2_with fail;go_roundw
    case rel=>exact ⟨k+1,Ql,Qa,hb3,hbel2⟩
    case measure=>simp [intOf];omega
   ·rw [h2] at hsn;rw [h1] at hes;replace h1:=H0 h1;replace h2:=H0 h2;go_wp2_with fail;refine (hes.out _).mono ?_;rintro e w2 ⟨t,rfl,ht,rfl⟩;have hne:t.toList.isEmpty=true:=Akd;have hw:=H0 (BQ w.heap.size w.heap.size P c (c.toNat:Int) rfl wr hbld Qa hsz);go_wp2_with fail;refine hw.out.mono ?_;rintro e w3 ⟨rfl,hb2,hbb⟩;have hbel2:=hbel.trans hbb;rw [<-hsn.out] at hb2;go_wp2_with fail;go_roundw
    case rel=>exact ⟨k+1,Ql,Qa,hb2,hbel2⟩
    case measure=>simp [intOf];omega
  ·have hkI:(s.size:Int)<=(k:Int):=Qa;have he:s.toList.take k=s.toList:=FT s k Qa;rw [he] at hbld hlen;have hw:=H0 (Bq w.heap.size w.heap.size _ wr hbld hsz);replace he:=H0 he;go_wp2_with fail;refine hw.out.mono ?_;rintro e w2 ⟨t,rfl,ht,hb⟩;go_wp2_with fail;go_ret;exact GC ht.out (hbel.trans hb)
theorem Fg {w:World} {g o:Nat} {x:AO} (h:w.rangeAt g o (Dv x)):w.rangeAt g (o+1) (Ab x.url).toList:=fun j v hv=>by
 have hj:j<23:=by
  have:=(List.getElem?_eq_some_iff.1 hv).1
  rwa [Array.length_toList,Ty] at this
 have hc:=AbQ x.right x.url x.wv j hj
 have:=h (1+j) v (by
  unfold Dv AO.c;rw [Array.getElem?_toList,hc]
  rwa [Array.getElem?_toList] at hv)
 rw [Nat.add_assoc];exact this
theorem Gv (u:Am):(Tryz.prog.info? 34).map (·.size)=some (Ab u).toList.length:=by show _=some 23;kernel_rfl
theorem Ac5 (v:Value) (t:ByteArray) (x:AO) (l:List AO) (u:Ao) (w:World) (hE:Gu w) (hr:FA w v (x :: l)) (hx:G0 x.url u) (g:AI u) (hz:A6 u<=1000000000):
  Calls Tryz.prog 28 #[.int .i64 1,.agg (readC v t)] w (EI w (BL (AW u true))):=by
 have hb0:Below w.heap.size w (w.alloc (.cells (readC v t) 44)):=(Below.refl _ _).alloc (Nat.le_refl _) _;have hc0:AG (w.alloc (.cells (readC v t) 44)) w.heap.size (readC v t) 44:=AG.new _ _ _;have hlen:=CY g true;have hfit:=H0 (EO hx g Qa);have hwr:=H0 (FD hx true);obtain ⟨w0,hw0⟩:∃ w0,w.alloc (.cells (readC v t) 44)=w0:=⟨_,rfl⟩;rw [hw0] at hb0 hc0;have hr0:=hr.below hb0 (Nat.le_refl _);obtain ⟨pa,c,rfl,hcap,hrow,hreads⟩:=hr0;obtain ⟨g1,o1,rfl,hcell⟩:=hrow Qf;have y:w0.rangeAt g1 (o1+0 * 25+1) (Ab x.url).toList:=Fg (hcell 0 Qf);rw [Nat.zero_mul,Nat.add_zero] at y;have hX:=hreads x (List.mem_cons_self ..);have hpin:=(hX.urlW hx).inn;have y0:=(hc0.at 0).trans (show (readC (.slice (some ⟨g1,o1,none⟩) (x :: l).length c) t)[0]? =some (.slice (some ⟨g1,o1,none⟩) (x :: l).length c) from rfl)
 have hle:(1:Int)<=((x :: l).length:Int):=by rw [List.length_cons];omega
 obtain ⟨N,hN⟩:∃ N,(x :: l).length=N:=⟨_,rfl⟩;rw [hN] at y0 hle hcap hw0⊢;have hN0:decide ((N:Int)=0)=false:=QS;obtain ⟨L,hL⟩:=N2 (AW u true);rw [hL] at hwr hlen⊢;replace hL:=H0 hL;replace hN:=H0 hN;replace hE:=H0 hE;replace hX:=H0 hX;replace hpin:=H0 hpin;clear hr hrow hcell hreads hc0;go_enter Tryz.func28,Tryz.ntmps28;go_wp2_with (refine wpList_load_mid rfl 34 _ rfl g1 (o1+1) rfl (Ab x.url).toList _ y Tryz.underlying34 rfl (Gv _) ?_);clear hw0
 refine (Gr x.url true w0 hpin.out hfit.out (hE.out.next hb0).tabs).mono ?_
 rintro e w1 ⟨tw,rfl,htw,hb1⟩
 have hb2:=hb0.next hb1
 have htz:tw.size<=4294967296:=by rw [<-Aa,htw.out,hwr.out];omega
 clear hb0 hb1 y y0;go_wp2_with fail;refine (IH tw w1 htz).mono ?_;rintro e w2 ⟨te,rfl,hte,hb3⟩
 have hfin:Hid (te.toList=BL L):=H0 (by rw [hte.out,htw.out,hwr.out])
 have hb4:=hb2.next hb3
 clear hb3 hb2;go_wp2_with fail;go_ret;exact ⟨_,rfl,hfin,hb4⟩
theorem AcJ (s:ByteArray) (w:World):Calls Tryz.prog 111 #[.string s,.string ⟨#[44]⟩] w fun e w'=>e= .returned (.bool (s.toList.head? ==some 44))/\w=w':=by
 refine (Tryz.strings_HasPrefix s ⟨#[44]⟩ w).mono ?_;rintro e w' ⟨rfl,rfl⟩;have e1:s.data.toList=s.toList:=(ByteArray.toList_eq ..).symm;have e2:(ByteArray.mk #[44]).data.toList=[44]:=rfl;rw [e1,e2,PL];exact ⟨rfl,rfl⟩
theorem Ab9 (s:ByteArray) (w:World) (hz:s.size<=9223372036854775807):Calls Tryz.prog 112 #[.string s,.string ⟨#[44]⟩] w fun e w'=>e= .returned (.bool (s.toList.getLast? ==some 44))/\w=w':=by
 refine (Tryz.strings_HasSuffix s ⟨#[44]⟩ w hz).mono ?_;rintro e w' ⟨rfl,rfl⟩;have e1:s.data.toList=s.toList:=(ByteArray.toList_eq ..).symm;have e2:(ByteArray.mk #[44]).data.toList=[44]:=rfl
 have e3:decide (s.toList.getLast? =some 44)=(s.toList.getLast? ==some 44):=by rw [Bool.eq_iff_iff];simp
 rw [e1,e2,PP,e3];exact ⟨rfl,rfl⟩
theorem Afk (S:Am) (u:Ao) (w:World) (hE:Gu w) (hS:DM w S u) (g:AI u) (hz:A6 u<=1000000000):Calls Tryz.prog 60 #[.agg (Ab S)] w (Lt w (Oz (AW u true))):=by
 have hb0:Below w.heap.size w (w.alloc (.cells (Ab S) 34)):=(Below.refl _ _).alloc (Nat.le_refl _) _;have hc0:AG (w.alloc (.cells (Ab S) 34)) w.heap.size (Ab S) 34:=AG.new _ _ _;have hlen:=CY g true;have hfit:=H0 (EO hS.is g Qa);have hwr:=H0 (FD hS.is true);obtain ⟨L,hL⟩:=N2 (AW u true);rw [hL] at hwr hlen⊢;replace hL:=H0 hL;obtain ⟨R,hR⟩:=N2 (Oz L);rw [hR];unfold Oz at hR;replace hR:=H0 hR;obtain ⟨w0,hw0⟩:∃ w0,w.alloc (.cells (Ab S) 34)=w0:=⟨_,rfl⟩;rw [hw0] at hb0 hc0;replace hS:=H0 hS;replace hE:=H0 hE;go_enter Tryz.func60,Tryz.ntmps60;go_wp2_with (refine wpList_load_row rfl 34 _ rfl w.heap.size rfl 34 (Ab S) _ _ hc0 Tryz.underlying34 rfl (Ac _) ?_);clear hw0
 refine (Gr S true w0 (hS.out.below hb0 (Nat.le_refl _)).inn hfit.out (hE.out.next hb0).tabs).mono ?_
 rintro e w1 ⟨t,rfl,ht,hb1⟩
 have hb2:=hb0.next hb1
 have htl:Hid (t.toList=L):=H0 (ht.out.trans hwr.out)
 have htz:t.size<=1000000050:=by rw [<-Aa,htl.out];omega
 rw [<-htl.out] at hR;clear hb0 hc0 hb1 ht hwr
 have hpc:=H0 (fun w=>AcJ t w)
 have hsc:=H0 (fun w=>Ab9 t w Qa)
 obtain ⟨b1,hb1⟩:∃ b,t.toList.isEmpty=b:=⟨_,rfl⟩;obtain ⟨b2,hb2x⟩:∃ b,(t.toList.head? ==some 44)=b:=⟨_,rfl⟩;obtain ⟨b3,hb3⟩:∃ b,(t.toList.getLast? ==some 44)=b:=⟨_,rfl⟩;rw [hb2x] at hpc hR;rw [hb3] at hsc hR;rw [hb1] at hR;replace hb2x:=H0 hb2x;replace hb3:=H0 hb3;go_wp2_with fail
 go_loop [4] (fun v4=>∃ k:Nat,v4= .int .i64 (k:Int)/\k<=t.size/\Hid (((t.toList.drop k).all A0 && (!b1 && (!b2 && !b3)))=R)) (fun v4=>t.size - (intOf v4).toNat)
 case atStart=>exact ⟨0,rfl,Nat.zero_le _,by rw [List.drop_zero];exact hR⟩
 case round=>
  obtain ⟨k,rfl,hk,hg⟩:=hrel
  by_cases hlt:k<t.size
  ·have hltI:(k:Int)<(t.size:Int):=Qa;have hgs:=hg.out;rw [As t k hlt,List.all_cons] at hgs;have hc0:=AN t[k];obtain ⟨bb,hbb⟩:∃ bb,Dg (t[k].toNat:Int)=bb:=⟨_,rfl⟩
   have hnb:A0 t[k]= !bb:=by rw [<-hbb];rfl
   rw [hnb] at hgs;have hwr:IntKind.i64.wrap ((k:Int)+1)=(k:Int)+1:=IntWalk.i64_in _ Qa
   have hbl:=H0 (fun w=>Dc (t[k].toNat:Int) w)
   rw [hbb] at hbl;replace hbb:=H0 hbb;replace hnb:=H0 hnb;replace hgs:=H0 hgs
   cases bb with
   | true=>
    have hf:Hid (false=R):=H0 Aho;go_wp2_with (go_at_call 110;refine (hbl.out _).mono ?_;rintro e w' ⟨rfl,rfl⟩);go_ret;exact ⟨Akx,hb2⟩
   | false=>
    have hnew:Hid (((t.toList.drop (k+1)).all A0 && (!b1 && (!b2 && !b3)))=R):=H0 Aho;go_wp2_with (go_at_call 110;refine (hbl.out _).mono ?_;rintro e w' ⟨rfl,rfl⟩);refine ⟨⟨k+1,Ql,Qa,hnew⟩,?_⟩;simp [intOf];omega
  ·have hltI:(t.size:Int)<=(k:Int):=Qa
   have hf:Hid ((!b1 && (!b2 && !b3))=R):=H0 (by have:=hg.out;rw [AL t k Qa] at this;simpa using this)
   cases b1 with
   | true=>
    have hf2:Hid (false=R):=H0 Akn;go_wp2_with fail;go_ret
    exact ⟨by rw [<-hf2.out];rfl,hb2⟩
   | false=>
    cases b2 with
    | true=>
     have hf2:Hid (false=R):=H0 Akn;go_wp2_with (go_at_call 111;refine (hpc.out _).mono ?_;rintro e w' ⟨rfl,rfl⟩);go_ret
     exact ⟨by rw [<-hf2.out];rfl,hb2⟩
    | false=>
     have hf2:Hid ((!b3)=R):=H0 Akn
     go_wp2_with (first
      | (go_at_call 111;refine (hpc.out _).mono ?_;rintro e w' ⟨rfl,rfl⟩)
      | (go_at_call 112;refine (hsc.out _).mono ?_;rintro e w' ⟨rfl,rfl⟩))
     go_ret
     exact ⟨by rw [<-hf2.out];rfl,hb2⟩
end Go.Proofs.YtonomfeipkdmhaaGreatDoor
namespace Go.Proofs.YtonomfeipkdmhaaGreatDoor
open Go.RowKit Go.ChangeShapes Go.WideShapes
theorem AhI:Tryz.prog.cellsOf 9=1:=Qb
theorem AhS:Tryz.prog.cellsOf 3=1:=Qb
theorem YZ:Tryz.prog.cellsOf 22=1:=Qb
theorem Agy {Q:Nat->ByteArray->Prop} {n:Nat} (h:∀ i,i<n->∃ s,Q i s):∃ l:List ByteArray,l.length=n/\∀ i (hi:i<l.length),Q i l[i]:=by
 refine ⟨(List.range n).map fun i=>if hi:i<n then Classical.choose (h i hi) else ByteArray.empty,Qf,fun i hi=> ?_⟩
 have hi2:i<n:=by simpa using hi
 simp only [List.getElem_map,List.getElem_range,hi2,dif_pos];exact Classical.choose_spec (h i hi2)
theorem Ah3 {w:World} {a:Addr} {v:Value} (h:w.cells? 0 a 1=some [v]):w.cell? a=some v:=by
 have e:=(World.cells?_some h).2.2 0 Qc
 have e0:a.add 0=a:=by simp [Addr.add]
 rw [e0] at e;simpa using e
theorem Aig {α:Type} {a b:α} (h:[a]=[b]):a=b:=(List.cons.inj h).1
theorem AdY {w:World} {x:Addr} {v:Value} (h:w.cell? (x.add 0)=some v):x=⟨x.block,x.off,none⟩:=by
 have h:w.cell? x=some v:=h;obtain ⟨b,o,s⟩:=x
 cases s with
 | none=>rfl
 | some q=>
  exfalso;simp only [World.cell?] at h;split at h
  ·simp at h
  ·cases h
section
variable {H:Type} {enc:TypeId × Value→H} {w:World} {base:Nat} {sp:Nat→Bool} {held:Bool}
theorem Ab3 {n:Nat} {c:Value} {x:DataW H × List MemPlace} (h:DataW.trod enc Tryz.prog w 0 sp held n 22 [c]=some x):
  ∃ (a:Option Addr) (k:Nat) (l:List ByteArray),c= .slice a l.length k/\(0<l.length->∃ g o,a=some ⟨g,o,none⟩/\∀ i (hi:i<l.length),w.cell? ⟨g,o+i,none⟩=some (.string l[i]))/\l.length<=maxLen/\(∀ t∈l,t.size<=maxLen)/\(a=none->k=0):=by
 rcases DataW.trod_slice Tryz.underlying22 h with ⟨hc,-⟩ | ⟨a,len,cap,elems,rest,m,rfl,hc,-,hb,hl,hm,hel,hx,-⟩
 ·obtain rfl:c= .slice none 0 0:=by simpa using hc
  exact ⟨none,0,[],rfl,fun h=>absurd h Qc,Nat.zero_le _,fun t ht=>absurd ht Qf,fun _=>rfl⟩
 ·obtain rfl:c= .slice (some a) len cap:=by simpa using hc
  have key:∀ i,i<len->∃ s:ByteArray,w.cell? (a.add i)=some (.string s)/\s.size<=maxLen:=by
   intro i hi;have e:=hx i hi
   rw [List.getElem?_eq_getElem (show i<elems.length by omega)] at e
   simp only [AhI,Nat.mul_one] at e;obtain ⟨cs,hcs,ht⟩:=Option.bind_eq_some_iff.1 e;obtain ⟨s,rfl,-,hs⟩:=DataW.trod_string Tryz.underlying9 ht;exact ⟨s,Ah3 hcs,hs⟩
  obtain ⟨l,hll,hlc⟩:=Agy key;subst hll
  refine ⟨some a,cap,l,rfl,fun h0=> ?_,Qa,fun t ht=> ?_,fun h=>Qr⟩
  ·have hp:=AdY ((hlc 0 h0).1)
   refine ⟨a.block,a.off,by rw [<-hp],fun i hi=> ?_⟩
   have:=(hlc i hi).1;rw [hp] at this
   have e2:(⟨a.block,a.off,none⟩:Addr).add i=⟨a.block,a.off+i,none⟩:=by cases i<;>simp [Addr.add]
   rwa [e2] at this
  ·obtain ⟨i,hi,rfl⟩:=List.getElem_of_mem ht;exact (hlc i hi).2
end
end Go.Proofs.YtonomfeipkdmhaaGreatDoor
namespace Go.Proofs.YtonomfeipkdmhaaGreatDoor
open Go.RowKit Go.ChangeShapes Go.WideShapes
structure I3 where
 a:Option Addr
 c:Nat
 l:List ByteArray
def I3.v (x:I3):Value:= .slice x.a x.l.length x.c
def MW (w:World) (x:I3):Prop:=0<x.l.length->∃ g o,x.a=some ⟨g,o,none⟩/\∀ i (hi:i<x.l.length),w.cell? ⟨g,o+i,none⟩=some (.string x.l[i])
theorem MW.below {w w':World} {K:Nat} {x:I3} (h:MW w x) (hb:Below K w w') (hK:w.heap.size<=K):MW w' x:=by
 intro h0;obtain ⟨g,o,e,hc⟩:=h h0
 refine ⟨g,o,e,fun i hi=> ?_⟩
 have:=World.block_lt_of_cell? w _ (hc i hi);rw [hb.cell Aka];exact hc i hi
structure GJ (w:World) (x:I3):Prop where
 cells:MW w x
 n:x.l.length<=maxLen
 each:∀ t∈x.l,t.size<=maxLen
 nilC:x.a=none->x.c=0
structure Df where
 schemes:I3
 hosts:I3
 types:I3
 most:Int
def BK (p:Df):Array Value:= #[p.schemes.v,p.hosts.v,p.types.v,.int .i64 p.most]
structure Em (w:World) (p:Df):Prop where
 schemes:GJ w p.schemes
 hosts:GJ w p.hosts
 types:GJ w p.types
 most:(Lit.int .i64 p.most).wf=true
theorem AfG:Tryz.prog.cellsOf 24=4:=Qb
section
variable {H:Type} {enc:TypeId × Value→H} {w:World} {base:Nat} {sp:Nat→Bool} {held:Bool}
theorem Ail {α:Type} {l:List α} (h:l.length=4):∃ a b c d,l=[a,b,c,d]:=by
 match l,h with
 | [a,b,c,d],_=>exact ⟨a,b,c,d,rfl⟩
theorem MV {n:Nat} {c:Value} {x:DataW H × List MemPlace} (h:DataW.trod enc Tryz.prog w 0 sp held n 22 [c]=some x):∃ s:I3,c=s.v/\GJ w s:=by
 obtain ⟨a,k,l,rfl,h1,h2,h3,h4⟩:=Ab3 h;exact ⟨⟨a,k,l⟩,rfl,h1,h2,h3,h4⟩
theorem AeW {n:Nat} {cs:List Value} {x:DataW H × List MemPlace} (h:DataW.trod enc Tryz.prog w 0 sp held n 24 cs=some x):∃ p:Df,Em w p/\cs=(BK p).toList:=by
 obtain ⟨xs,m,rfl,-,hl,hxl,hx⟩:=DataW.trod_struct Tryz.underlying24 h;rw [AfG] at hl;have hxl:xs.length=4:=hxl;obtain ⟨a0,a1,a2,a3,rfl⟩:=Ail hl;have e0:=hx 0 _ rfl
 rw [List.getElem?_eq_getElem (show 0<xs.length by omega)] at e0
 try simp only [YZ,List.drop_zero,List.drop_succ_cons,List.take_succ_cons,List.take_zero] at e0
 obtain ⟨x0,rfl,o0⟩:=MV e0;have e1:=hx 1 _ rfl
 rw [List.getElem?_eq_getElem (show 1<xs.length by omega)] at e1
 try simp only [YZ,List.drop_zero,List.drop_succ_cons,List.take_succ_cons,List.take_zero] at e1
 obtain ⟨x1,rfl,o1⟩:=MV e1;have e2:=hx 2 _ rfl
 rw [List.getElem?_eq_getElem (show 2<xs.length by omega)] at e2
 try simp only [YZ,List.drop_zero,List.drop_succ_cons,List.take_succ_cons,List.take_zero] at e2
 obtain ⟨x2,rfl,o2⟩:=MV e2;have e3:=hx 3 _ rfl
 rw [List.getElem?_eq_getElem (show 3<xs.length by omega)] at e3
 try simp only [AhS,List.drop_zero,List.drop_succ_cons,List.take_succ_cons,List.take_zero] at e3
 obtain ⟨s3,q3,-,f3⟩:=DataW.trod_int Tryz.underlying3 e3;obtain rfl:a3= .int .i64 s3:=Aig q3;exact ⟨⟨x0,x1,x2,s3⟩,⟨o0,o1,o2,f3⟩,rfl⟩
theorem Aex {v:Value} {d:DataW H} {ps:List MemPlace} {r:Reach} {b0:Nat} (hval:Value.okWide Tryz.prog w r b0 24 v) (h:DataW.Trod enc Tryz.prog w 0 sp held 24 v d ps):
  ∃ p:Df,v= .agg (BK p)/\Em w p:=by
 simp only [Value.okWide,Tryz.underlying24] at hval;obtain ⟨cs,rfl,-,-⟩:=hval;obtain ⟨fuel,hf⟩:=h;obtain ⟨p,hp,hc⟩:=AeW hf;refine ⟨p,?_,hp⟩;have:cs.toList=(BK p).toList:=hc;rw [Array.toList_inj.1 this]
end
end Go.Proofs.YtonomfeipkdmhaaGreatDoor
namespace Go.Proofs.YtonomfeipkdmhaaGreatDoor
open Go.RowKit
theorem toList_inj {s t:ByteArray} (h:s.toList=t.toList):s=t:=(Mx h).trans (Mx rfl).symm
theorem OO (l:List ByteArray) (s:ByteArray):Lib.containsS l s=HP l s.toList:=by
 rw [Bool.eq_iff_iff,Lib.containsS_iff];unfold HP;rw [List.any_eq_true];constructor
 ·intro h;exact ⟨s,h,beq_self_eq_true _⟩
 ·rintro ⟨x,hx,he⟩
  have:x=s:=Bb (by simpa using he)
  rwa [this] at hx
theorem ME (x:I3) (s:ByteArray) (w:World) (hx:GJ w x):
  Calls Tryz.prog 180 #[.slice x.a x.l.length x.c,.string s] w fun e w'=>e= .returned (.bool (HP x.l s.toList))/\w=w':=by
 have hn:=hx.n;unfold maxLen at hn
 by_cases h0:0<x.l.length
 ·obtain ⟨g,o,e,hc⟩:=hx.cells h0;rw [e]
  refine (Tryz.slices_Contains_string g o x.l.length x.c x.l s w (Nat.le_refl _) Qa (fun j hj=>by rw [hc j hj];simp [hj])).mono ?_
  rintro e w' ⟨rfl,rfl⟩
  exact ⟨by rw [List.take_length,OO],rfl⟩
 ·have e0:x.l=[]:=List.eq_nil_of_length_eq_zero Qa;rw [e0];refine (Tryz.slices_Contains_string_empty x.a x.c s w).mono ?_;rintro e w' ⟨rfl,rfl⟩;exact ⟨rfl,rfl⟩
theorem GJ.below {w w':World} {K:Nat} {x:I3} (h:GJ w x) (hb:Below K w w') (hK:w.heap.size<=K):GJ w' x:=⟨h.cells.below hb hK,h.n,h.each,h.nilC⟩
theorem Em.below {w w':World} {K:Nat} {p:Df} (h:Em w p) (hb:Below K w w') (hK:w.heap.size<=K):Em w' p:=⟨h.schemes.below hb hK,h.hosts.below hb hK,h.types.below hb hK,h.most⟩
theorem WJ (p:Df) (s:ByteArray) (w:World) (hp:Em w p):
  Calls Tryz.prog 106 #[.agg (BK p),.string s] w (Lt w (HP p.schemes.l s.toList)):=by
 have hB:Below w.heap.size w (w.alloc (.cells (BK p) 24)):=(Below.refl _ _).alloc (Nat.le_refl _) _;have x0:(w.alloc (.cells (BK p) 24)).cell? ⟨w.heap.size,0,none⟩=some (.slice p.schemes.a p.schemes.l.length p.schemes.c):=(World.cell?_alloc_at _ _ _ _ rfl).trans rfl;have hok:=hp.schemes.below hB (Nat.le_refl _);go_enter Tryz.func106,Tryz.ntmps106;go_wp2_with fail;refine (ME p.schemes s _ hok).mono ?_;rintro e w' ⟨rfl,rfl⟩;go_wp2_with fail;go_ret;exact ⟨rfl,hB⟩
theorem Ach (p:Df) (s:ByteArray) (w:World) (hp:Em w p):
  Calls Tryz.prog 109 #[.agg (BK p),.string s] w (Lt w (HP p.types.l s.toList)):=by
 have hB:Below w.heap.size w (w.alloc (.cells (BK p) 24)):=(Below.refl _ _).alloc (Nat.le_refl _) _;have x0:(w.alloc (.cells (BK p) 24)).cell? ⟨w.heap.size,2,none⟩=some (.slice p.types.a p.types.l.length p.types.c):=(World.cell?_alloc_at _ _ _ _ rfl).trans rfl;have hok:=hp.types.below hB (Nat.le_refl _);go_enter Tryz.func109,Tryz.ntmps109;go_wp2_with fail;refine (ME p.types s _ hok).mono ?_;rintro e w' ⟨rfl,rfl⟩;go_wp2_with fail;go_ret;exact ⟨rfl,hB⟩
theorem XO:(Tryz.prog.info? 32).map (·.size)=some 11:=Qb
theorem DP:(Tryz.prog.info? 24).map (·.size)=some 4:=Qb
theorem AaH (h:Dd) (t e:ByteArray) (ht:t.toList=GP h):
  (LP h e=true/\((e.toList==t.toList)=true\/((e.toList==t.toList)=false/\(e.toList==[42])=true)))\/
  ((e.toList==t.toList)=false/\(e.toList==[42])=false/\∃ b1 b2 b3 b4,Lib.hasPrefix e.toList [46]=b1/\(h.kind==2)=b2/\decide ((e.size:Int)<(h.name.size:Int))=b3/\Lib.hasSuffix h.name.toList e.toList=b4/\LP h e=(b1 && b2 && b3 && b4)):=by
 unfold LP;rw [<-ht];cases h1:e.toList==t.toList
 ·cases h2:e.toList==[42]
  ·refine .inr ⟨rfl,rfl,_,_,_,_,rfl,rfl,rfl,rfl,?_⟩
   have e2:decide (h.kind=2)=(h.kind==2):=by rw [Bool.eq_iff_iff];simp
   have e3:decide (e.size<h.name.size)=decide ((e.size:Int)<(h.name.size:Int)):=by rw [Bool.eq_iff_iff];simp
   rw [e2,e3];rfl
  ·exact .inl ⟨rfl,.inr ⟨rfl,rfl⟩⟩
 ·exact .inl ⟨rfl,.inl rfl⟩
theorem Adb (p:Df) (h:Dd) (w:World) (hp:Em w p) (ok:Ry h) (ht:IG w):
  Calls Tryz.prog 107 #[.agg (BK p),.agg (Aq h)] w (Lt w (hostA p.hosts.l h)):=by
 obtain ⟨ps,⟨pa,pc,l⟩,pt,pm⟩:=p;obtain ⟨P,hPd⟩:∃ P:Array Value,BK ⟨ps,⟨pa,pc,l⟩,pt,pm⟩=P:=⟨_,rfl⟩
 have hP1:P[1]? =some (.slice pa l.length pc):=by rw [<-hPd];rfl
 have hp2:GJ w ⟨pa,pc,l⟩:=hp.hosts;rw [hPd];show Calls _ _ _ w (Lt w (hostA l h));replace hPd:=H0 hPd;clear hp;have hB1:Below w.heap.size w (w.alloc (.cells P 24)):=(Below.refl _ _).alloc (Nat.le_refl _) _;have hB:Below w.heap.size w ((w.alloc (.cells P 24)).alloc (.cells (Aq h) 32)):=hB1.alloc hB1.size _;have hP:((w.alloc (.cells P 24)).alloc (.cells (Aq h) 32)).heap[w.heap.size]? =some (.cells P 24 (0,0)):=heap_alloc2_old w _ _;have hH:((w.alloc (.cells P 24)).alloc (.cells (Aq h) 32)).heap[w.heap.size+1]? =some (.cells (Aq h) 32 (0,0)):=PB Qf;have hsz:w.heap.size+1<((w.alloc (.cells P 24)).alloc (.cells (Aq h) 32)).heap.size:=Qf;have x1:=(cell_of_row _ _ 1 _ _ _ hP).trans hP1;have y0:=(cell_of_row _ _ 0 _ _ _ hH).trans (show (Aq h)[0]? =some (.int .i64 h.kind) from rfl);have y1:=(cell_of_row _ _ 1 _ _ _ hH).trans (show (Aq h)[1]? =some (.string h.name) from rfl);have hmx:=ok.name;unfold maxLen at hmx;have hok:=hp2.below hB (Nat.le_refl _)
 have htw:=ht.next hB
 replace hP:=H0 hP;go_enter Tryz.func107,Tryz.ntmps107
 by_cases hno:Pb h=true
 ·have hfin:Hid (hostA l h=true):=H0 (by unfold hostA;rw [hno];rfl)
  have hway:(h.kind==0)=true\/((h.kind==0)=false/\(h.kind==1)=true):=by
   unfold Pb at hno;rw [Bool.or_eq_true,decide_eq_true_eq,decide_eq_true_eq] at hno;simp only [beq_iff_eq,beq_eq_false_iff_ne,ne_eq];omega
  clear hno
  rcases hway with q | ⟨q,q2⟩
  all_goals
   go_wp2_with fail;go_ret;exact ⟨A7 hfin.out.symm,hB⟩
 have q0:(h.kind==0)=false/\(h.kind==1)=false:=by
  unfold Pb at hno;rw [Bool.or_eq_true,decide_eq_true_eq,decide_eq_true_eq] at hno;simp only [beq_eq_false_iff_ne,ne_eq];omega
 obtain ⟨q0,q1⟩:=q0
 have hV:Hid (hostA l h=l.any (LP h)):=H0 (by
  unfold hostA;cases hh:Pb h
  ·rfl
  ·exact absurd hh hno)
 clear hno;go_wp2_with (refine wpList_load_row rfl 32 _ rfl (w.heap.size+1) rfl _ (Aq h) _ _ hH Tryz.underlying32 rfl XO ?_);refine (KM h ok _ htw).mono ?_;rintro e w1 ⟨t,rfl,htx,hb⟩
 have hB1:=hB.next hb
 have hok1:=hok.below hb (Nat.le_refl _);have z1:=(hb.cell (p:=⟨w.heap.size,1,none⟩) Qi).trans x1;have z2:=(hb.cell (p:=⟨w.heap.size+1,0,none⟩) Qf).trans y0;have z3:=(hb.cell (p:=⟨w.heap.size+1,1,none⟩) Qf).trans y1;clear hb hB hok x1 y0 y1 hP hH hsz htw
 have htl:t.size<=9223372036854775807:=by
  rw [<-Aa,htx.out];have h1:=Ni h.four;have h2:=LR h.six;unfold GP;split
  ·rw [Aa];exact hmx
  ·split
   ·omega
   ·split<;>simp<;>omega
 obtain ⟨hcells,hn,heach,-⟩:=hok1;unfold maxLen at hn heach;dsimp only [MW] at hcells hn heach;replace hcells:=H0 hcells;replace heach:=H0 heach;go_wp2_with fail
 go_loop [21] (fun iv=>∃ k:Nat,iv= .int .i64 k/\k<=l.length/\Hid ((l.take k).any (LP h)=false)) (fun iv=>l.length - (intOf iv).toNat)
 case atStart=>exact ⟨0,rfl,Nat.zero_le _,H0 rfl⟩
 case round=>
  obtain ⟨k,rfl,hk,hg⟩:=hrel
  by_cases hlt:k<l.length
  ·have hltI:(k:Int)<(l.length:Int):=Qa;obtain ⟨g,o,rfl,hc⟩:=hcells.out Qa;have c1:=hc k hlt;clear hc;have hez:=heach.out l[k] (List.getElem_mem _);have hsn:l.take (k+1)=l.take k++[l[k]]:=List.take_succ_eq_append_getElem hlt
   have hyes:LP h l[k]=true->Hid (hostA l h=true):=fun e=>H0 (by
    rw [hV.out,<-List.take_append_drop (k+1) l,List.any_append,hsn,List.any_append]
    simp [e])
   have hnew:LP h l[k]=false->Hid ((l.take (k+1)).any (LP h)=false):=fun e=>H0 (by
    rw [hsn,List.any_append,hg.out]
    simp [e])
   have hw:=AaH h t l[k] htx.out;replace hsn:=H0 hsn;obtain ⟨e,he⟩:=N2 (l[k]);rw [he] at c1 hez hyes hnew hw;replace he:=H0 he;have hezI:(e.size:Int)<=9223372036854775807:=Qa
   rcases hw with ⟨hE,q1 | ⟨q1,q2⟩⟩ | ⟨q1,q2,b1,b2,b3,b4,r1,r2,r3,r4,hE⟩
   ·have hfin:=hyes hE;replace hE:=H0 hE;replace hnew:=H0 hnew;replace hyes:=H0 hyes;go_wp2_with fail;go_ret;exact ⟨A7 hfin.out.symm,hB1⟩
   ·have hfin:=hyes hE;replace hE:=H0 hE;replace hnew:=H0 hnew;replace hyes:=H0 hyes;go_wp2_with fail;go_ret;exact ⟨A7 hfin.out.symm,hB1⟩
   ·have hpf:=fun w=>Tryz.strings_HasPrefix e ⟨#[46]⟩ w
    have hsf:=fun w=>Tryz.strings_HasSuffix h.name e w hmx
    have e1:Lib.hasPrefix e.data.toList (ByteArray.mk #[46]).data.toList=b1:=by rw [<-r1,<-ByteArray.toList_eq]
    have e2:Lib.hasSuffix h.name.data.toList e.data.toList=b4:=by rw [<-r4,<-ByteArray.toList_eq,<-ByteArray.toList_eq]
    simp only [e1] at hpf;simp only [e2] at hsf
    have r3':decide (e.size<h.name.size)=b3:=by rw [<-r3,Bool.eq_iff_iff];simp
    replace r1:=H0 r1;replace r4:=H0 r4;replace hpf:=H0 hpf;replace hsf:=H0 hsf;clear e1 e2;cases b1
    ·have hn2:=hnew (by rw [hE];rfl)
     replace hE:=H0 hE;replace hnew:=H0 hnew;replace hyes:=H0 hyes;go_wp2_with (go_at_call 111;refine (hpf.out _).mono ?_;rintro e w' ⟨rfl,rfl⟩);go_round
     case rel=>exact ⟨k+1,Ql,Qa,hn2⟩
     case measure=>simp [intOf];omega
    cases b2
    ·have hn2:=hnew (by rw [hE];rfl)
     replace hE:=H0 hE;replace hnew:=H0 hnew;replace hyes:=H0 hyes;go_wp2_with (go_at_call 111;refine (hpf.out _).mono ?_;rintro e w' ⟨rfl,rfl⟩);go_round
     case rel=>exact ⟨k+1,Ql,Qa,hn2⟩
     case measure=>simp [intOf];omega
    cases b3
    ·have hn2:=hnew (by rw [hE];rfl)
     replace hE:=H0 hE;replace hnew:=H0 hnew;replace hyes:=H0 hyes;go_wp2_with (go_at_call 111;refine (hpf.out _).mono ?_;rintro e w' ⟨rfl,rfl⟩);go_round
     case rel=>exact ⟨k+1,Ql,Qa,hn2⟩
     case measure=>simp [intOf];omega
    cases b4
    ·have hn2:=hnew (by rw [hE];rfl)
     replace hE:=H0 hE;replace hnew:=H0 hnew;replace hyes:=H0 hyes
     go_wp2_with (first
      | (go_at_call 111;refine (hpf.out _).mono ?_;rintro e w' ⟨rfl,rfl⟩)
      | (go_at_call 112;refine (hsf.out _).mono ?_;rintro e w' ⟨rfl,rfl⟩))
     go_round
     case rel=>exact ⟨k+1,Ql,Qa,hn2⟩
     case measure=>simp [intOf];omega
    ·have hfin:=hyes (by rw [hE];rfl)
     replace hE:=H0 hE;replace hnew:=H0 hnew;replace hyes:=H0 hyes
     go_wp2_with (first
      | (go_at_call 111;refine (hpf.out _).mono ?_;rintro e w' ⟨rfl,rfl⟩)
      | (go_at_call 112;refine (hsf.out _).mono ?_;rintro e w' ⟨rfl,rfl⟩))
     go_ret;exact ⟨A7 hfin.out.symm,hB1⟩
  ·have hgeI:(l.length:Int)<=(k:Int):=Qa
   have hfin:Hid (hostA l h=false):=H0 (by
    rw [hV.out,<-hg.out,List.take_of_length_le Qa])
   go_wp2_with fail;go_ret;exact ⟨A7 hfin.out.symm,hB1⟩
structure AdB (w wx:World) (A:Array Value) (TA:TypeId) (B:Array Value) (TB:TypeId):Prop where
 below:Below w.heap.size w wx
 a:wx.heap[w.heap.size]? =some (.cells A TA (0,0))
 b:wx.heap[w.heap.size+1]? =some (.cells B TB (0,0))
 size:w.heap.size+2<=wx.heap.size
theorem AdB.start (w:World) (A:Array Value) (TA:TypeId) (B:Array Value) (TB:TypeId):AdB w ((w.alloc (.cells A TA)).alloc (.cells B TB)) A TA B TB:=
 ⟨((Below.refl _ _).alloc (Nat.le_refl _) _).alloc Qf _,heap_alloc2_old w _ _,PB Qf,Qf⟩
theorem AdB.keep {w wx w':World} {A:Array Value} {TA:TypeId} {B:Array Value} {TB:TypeId} (h:AdB w wx A TA B TB) (hb:Below wx.heap.size wx w'):AdB w w' A TA B TB:=
 ⟨h.below.next hb,(hb.block _ AjY).trans h.a,(hb.block _ AjY).trans h.b,Qx⟩
theorem R1 {w:World} {g:Nat} {u:Am} {T:TypeId} (h:w.heap[g]? =some (.cells (Ab u) T (0,0))):w.rangeAt g 3 (Aq u.host).toList:=fun j v hv=>by
 have e:=cell_of_row w g (3+j) _ _ _ h;rw [e]
 match j,hv with
 | 0,hv=>exact hv
 | 1,hv=>exact hv
 | 2,hv=>exact hv
 | 3,hv=>exact hv
 | 4,hv=>exact hv
 | 5,hv=>exact hv
 | 6,hv=>exact hv
 | 7,hv=>exact hv
 | 8,hv=>exact hv
 | 9,hv=>exact hv
 | 10,hv=>exact hv
 | n+11,hv=>exact absurd (List.getElem?_eq_some_iff.1 hv).1 (by show ¬ n+11<11;omega)
theorem TK (h:Dd):(Tryz.prog.info? 32).map (·.size)=some (Aq h).toList.length:=by rw [XO];rfl
theorem Aat (p:Df) (u:Am) (w:World) (hp:Em w p) (hpu:Jf w u) (fit:R7 u) (hz:(GL u false).length<=900000000) (ht:IG w) (hm:ML w):
  Calls Tryz.prog 59 #[.agg (BK p),.agg (Ab u)] w (Lt w (FH p.schemes.l p.hosts.l p.types.l u)):=by
 have hI:=AdB.start w (BK p) 24 (Ab u) 34;have x0:=(cell_of_row _ _ 0 _ _ _ hI.b).trans (show (Ab u)[0]? =some (.string u.scheme) from rfl);have hA:Hid (FH p.schemes.l p.hosts.l p.types.l u=(HP p.schemes.l u.scheme.toList && hostA p.hosts.l u.host && WM p.types.l u)):=rfl;go_enter Tryz.func59,Tryz.ntmps59;go_wp2_with (refine wpList_load_row rfl 24 _ rfl w.heap.size rfl _ (BK p) _ _ hI.a Tryz.underlying24 rfl DP ?_);refine (WJ p u.scheme _ (hp.below hI.below (Nat.le_refl _))).mono ?_;rintro e w1 ⟨rfl,hb⟩;replace hI:=hI.keep hb;clear hb x0;have x0:=(cell_of_row _ _ 0 _ _ _ hI.b).trans (show (Ab u)[0]? =some (.string u.scheme) from rfl);obtain ⟨b1,hb1⟩:∃ b,HP p.schemes.l u.scheme.toList=b:=⟨_,rfl⟩;rw [hb1] at hA⊢;replace hb1:=H0 hb1;cases b1
 ·have hno:Hid (FH p.schemes.l p.hosts.l p.types.l u=false):=H0 (by rw [hA.out];rfl)
  go_wp2_with fail;go_ret;exact ⟨A7 hno.out.symm,hI.below⟩
 go_wp2_with (first
  | (refine wpList_load_row rfl 24 _ rfl w.heap.size rfl _ (BK p) _ _ hI.a Tryz.underlying24 rfl DP ?_)
  | (refine Bd Qt ?_;refine wpList_load_row rfl 24 _ rfl w.heap.size rfl _ (BK p) _ _ hI.a Tryz.underlying24 rfl DP ?_)
  | (refine wpList_load_mid rfl 32 _ rfl (w.heap.size+1) 3 rfl (Aq u.host).toList _ (R1 hI.b) Tryz.underlying32 rfl (TK _) ?_)
  | (refine Bd Qt ?_;refine wpList_load_mid rfl 32 _ rfl (w.heap.size+1) 3 rfl (Aq u.host).toList _ (R1 hI.b) Tryz.underlying32 rfl (TK _) ?_))
 refine (Adb p u.host _ (hp.below hI.below (Nat.le_refl _)) fit.host (ht.next hI.below)).mono ?_
 rintro e w2 ⟨rfl,hb⟩;replace hI:=hI.keep hb;clear hb x0;have x0:=(cell_of_row _ _ 0 _ _ _ hI.b).trans (show (Ab u)[0]? =some (.string u.scheme) from rfl);obtain ⟨b2,hb2⟩:∃ b,hostA p.hosts.l u.host=b:=⟨_,rfl⟩;rw [hb2] at hA⊢;replace hb2:=H0 hb2;cases b2
 ·have hno:Hid (FH p.schemes.l p.hosts.l p.types.l u=false):=H0 (by rw [hA.out];rfl)
  go_wp2_with fail;go_ret;exact ⟨A7 hno.out.symm,hI.below⟩
 by_cases hd:u.scheme.toList=JG
 ·have hdI:(u.scheme.toList==[100,97,116,97])=true:=by rw [hd];rfl
  have hdN:(u.scheme.toList != [100,97,116,97])=false:=by rw [hd];rfl
  have hT:Hid (FH p.schemes.l p.hosts.l p.types.l u=match Ig u with | none=>false | some e=>HP p.types.l e):=H0 (by
   rw [hA.out];unfold WM;rw [if_pos hd];rfl)
  clear hA;replace hd:=H0 hd;go_wp2_with (refine wpList_load_row rfl 34 _ rfl (w.heap.size+1) rfl _ (Ab u) _ _ hI.b Tryz.underlying34 rfl IA ?_)
  refine (Aea u _ (hpu.below hI.below (Nat.le_refl _)) fit hz (ht.next hI.below) (hm.next hI.below)).mono ?_
  rintro e w3 ⟨t,rfl,htx,hb⟩;replace hI:=hI.keep hb;clear hb x0;obtain ⟨o,ho⟩:=N2 (Ig u);rw [ho] at hT htx⊢;replace ho:=H0 ho
  cases o with
  | none=>
   have hno:Hid (FH p.schemes.l p.hosts.l p.types.l u=false):=hT;go_wp2_with fail;go_ret;exact ⟨A7 hno.out.symm,hI.below⟩
  | some l=>
   have hyes:Hid (FH p.schemes.l p.hosts.l p.types.l u=HP p.types.l t.toList):=H0 (by rw [hT.out,htx.out];rfl)
   clear htx hT
   go_wp2_with (first
    | (refine wpList_load_row rfl 24 _ rfl w.heap.size rfl _ (BK p) _ _ hI.a Tryz.underlying24 rfl DP ?_)
    | (refine Bd Qt ?_;refine wpList_load_row rfl 24 _ rfl w.heap.size rfl _ (BK p) _ _ hI.a Tryz.underlying24 rfl DP ?_))
   refine (Ach p t _ (hp.below hI.below (Nat.le_refl _))).mono ?_;rintro e w4 ⟨rfl,hb⟩;replace hI:=hI.keep hb;clear hb;go_wp2_with fail;go_ret;exact ⟨A7 hyes.out.symm,hI.below⟩
 ·have hdI:(u.scheme.toList==[100,97,116,97])=false:=by simpa [JG] using hd
  have hdN:(u.scheme.toList != [100,97,116,97])=true:=by simpa [JG] using hd
  have hyes:Hid (FH p.schemes.l p.hosts.l p.types.l u=true):=H0 (by
   rw [hA.out];unfold WM;rw [if_neg hd];rfl)
  replace hd:=H0 hd;go_wp2_with fail;go_ret;exact ⟨A7 hyes.out.symm,hI.below⟩
theorem AG.irange {w:World} {g:Nat} {r:Bool} {u:Am} {wv:Value} {T:TypeId} (h:AG w g (At r u wv) T):w.rangeAt g 1 (Ab u).toList:=by
 have:=Fg (x:=⟨r,u,wv,[]⟩) (o:=0) h.whole;simpa using this
theorem AfF (p:Df) (k:Nat) (x:AO) (it:BG) (p3 p4:Nat) (w:World) (hE:Gu w) (hp:Em w p) (h3:AG w p3 (BK p) 24) (h4:w.cell? ⟨p4,0,none⟩=some (.int .i64 (k:Int))) (hX:Jy w x) (hI:Wb x it) (hg:it.right=true->AI it.url/\A6 it.url<=800000000):
  Calls Tryz.prog 58 #[.agg (At x.right x.url x.wv),.pointer (some ⟨p3,0,none⟩),.pointer (some ⟨p4,0,none⟩)] w (Lt w (AS (Eu p.schemes.l p.hosts.l p.types.l) k it)):=by
 obtain ⟨xr,xu,xw,xws⟩:=x;obtain ⟨i1,i2,i3⟩:=hI;dsimp only at i1 i2 i3 hX⊢;subst i1;obtain ⟨R,hR⟩:=N2 (AS (Eu p.schemes.l p.hosts.l p.types.l) k it);rw [hR];unfold AS at hR;have hlt3:=h3.lt;have hlt4:=World.block_lt_of_cell? w _ h4;have hb0:Below w.heap.size w (w.alloc (.cells (At it.right xu xw) 48)):=(Below.refl _ _).alloc (Nat.le_refl _) _;have hc0:AG (w.alloc (.cells (At it.right xu xw) 48)) w.heap.size (At it.right xu xw) 48:=AG.new _ _ _;have h30:=h3.keep hb0
 have h40:=(hb0.cell (p:=⟨p4,0,none⟩) (by simpa using hlt4)).trans h4
 obtain ⟨w0,hw0⟩:∃ w0,w.alloc (.cells (At it.right xu xw) 48)=w0:=⟨_,rfl⟩;rw [hw0] at hb0 hc0 h30 h40
 cases hr:it.right with
 | false=>
  rw [hr] at hR hw0 hc0
  have hf:Hid (false=R):=H0 (by rw [<-hR];rfl)
  have x0:=(hc0.at 0).trans (show (At false xu xw)[0]? =some (.bool false) from rfl);replace hR:=H0 hR;replace hr:=H0 hr;clear hg hX h4 h3;go_enter Tryz.func58,Tryz.ntmps58;go_wp2_with fail;go_ret;exact ⟨Akx,hb0⟩
 | true=>
  obtain ⟨g,gz⟩:=hg hr;rw [hr] at hR hw0 hc0;have x0:=(hc0.at 0).trans (show (At true xu xw)[0]? =some (.bool true) from rfl);have hyU:=hc0.irange;have hlen:=CY g false;have hUW:DM w xu it.url:=⟨i2,hX.path,hX.cap⟩;have hfit:=H0 (EO i2 g Qa);have hal:=H0 (ZB (S:=p.schemes.l) (H:=p.hosts.l) (T:=p.types.l) i2);have hwf:=H0 (FD i2 false);obtain ⟨A,hA⟩:=N2 (Eu p.schemes.l p.hosts.l p.types.l it.url);rw [hA] at hal hR;obtain ⟨F,hF⟩:=N2 (Oz (AW it.url true));rw [hF] at hR
  have hallow:=H0 (fun (w':World) (hb:Below w.heap.size w w')=>Aat p xu w' (hp.below hb (Nat.le_refl _)) ((hUW.below hb (Nat.le_refl _)).inn) hfit.out (by rw [hwf.out];omega) (hE.next hb).tabs (hE.next hb).ml)
  rw [hal.out] at hallow
  have hfits:=H0 (fun (w':World) (hb:Below w.heap.size w w')=>Afk xu it.url w' (hE.next hb) (hUW.below hb (Nat.le_refl _)) g Qa)
  rw [hF] at hfits;replace hA:=H0 hA;replace hF:=H0 hF;replace hR:=H0 hR;replace hr:=H0 hr;replace hUW:=H0 hUW;clear hX h4 h3 hg hwf hal i2 i3;go_enter Tryz.func58,Tryz.ntmps58
  go_wp2_with (first
   | (refine Bd Qt ?_;refine wpList_load_row rfl 24 _ rfl p3 rfl _ (BK p) _ _ h30 Tryz.underlying24 rfl DP ?_)
   | (refine Bd Qt ?_;refine wpList_load_mid rfl 34 _ rfl w.heap.size 1 rfl (Ab xu).toList _ hyU Tryz.underlying34 rfl (Gv _) ?_))
  clear hw0;refine (hallow.out w0 hb0).mono ?_;rintro e w1 ⟨rfl,hb1⟩
  have hb2:=hb0.next hb1
  have h41:=(hb1.cell (p:=⟨p4,0,none⟩) (by have:=World.block_lt_of_cell? w0 _ h40;simpa using this)).trans h40
  have hc1:=hc0.keep hb1;have hyU1:=hc1.irange;clear hb0 hb1 h40 h30 x0 hyU hc0 hallow
  cases A with
  | false=>
   have hf:Hid (false=R):=H0 (by have:=hR.out;simpa using this)
   go_wp2_with fail;go_ret;exact ⟨Akx,hb2⟩
  | true=>
   by_cases hk2:k=2
   ·subst hk2
    have hf:Hid (F=R):=H0 (by have:=hR.out;simpa using this)
    go_wp2_with (refine Bd Qt ?_;refine wpList_load_mid rfl 34 _ rfl w.heap.size 1 rfl (Ab xu).toList _ hyU1 Tryz.underlying34 rfl (Gv _) ?_);refine (hfits.out w1 hb2).mono ?_;rintro e w2 ⟨rfl,hb3⟩
    have hb4:=hb2.next hb3
    clear hb3 hb2 hyU1;go_wp2_with fail;go_ret;exact ⟨Akx,hb4⟩
   ·have hkn:((k:Int) != 2)=true:=by simp only [bne_iff_ne,ne_eq];omega
    have hke:((k:Int)==2)=false:=by simp only [beq_eq_false_iff_ne,ne_eq];omega
    have hf:Hid (true=R):=H0 (by
     have:=hR.out
     rw [show (k != 2)=true by simpa using hk2] at this
     simpa using this)
    go_wp2_with fail;go_ret;exact ⟨Akx,hb2⟩
def OF (d:ByteArray) (h:Bool) (u:ByteArray):Array Value:= #[.string d,.bool h,.string u]
theorem Ahg (d:ByteArray) (h:Bool) (u:ByteArray):(Tryz.prog.info? 98).map (·.size)=some (OF d h u).size:=by show _=some 3;kernel_rfl
theorem Af5 (d:ByteArray) (h:Bool) (u:ByteArray):(OF d h u).all (·.oneCell')=true:=Qb
theorem Mb.setG {w wx:World} {B:Am} {C D:Array Value} (h:Mb w wx B C D) {g:Nat} (hg:w.heap.size+3<=g) (E:Array Value):Mb w (wx.setRow g E) B C D:=
 ⟨Ae h.below Qa _,Aj9,h.a.other Qa _,h.o.other Qa _,h.r.other Qa _⟩
theorem TO {B:Am} {b:Ao} (h:G0 B b) (pa:Option Addr) (c:Nat):G0 (Ah B pa c B.path) b:=⟨h.scheme,h.user,h.pass,h.host,h.hasPort,h.port,h.opq,h.flat,h.path,h.hasQuery,h.query,h.hasFrag,h.frag⟩
theorem YS (B:Am) (b:Ao) (s:ByteArray) (w:World) (hE:Gu w) (hB:DM w B b) (bk:F2 B) (hz:s.size<=1000000000) (hx:∀ d h x,Bi s.toList=some (d,h,x)->x.length<=1100000):Calls Tryz.prog 55 #[.int .i64 3,.agg (Ab B),.string s] w (Mf (Al 3 b s.toList) w):=by
 have hI:=Mb.start w B r0 r0
 have hpr:=H0 (fun w hm=>AaB s w hz hm)
 have hit:=H0 (fun (u:ByteArray) (hu:u.size<=1100000) w hE hB=>RO B b u w hE hB bk hu)
 have hcl:=H0 (fun (w:World) (h:DO w B.pathA B.path.length B.pathC B.path)=>Fy B.pathA B.path.length B.pathC B.path w h (by have:=bk.n;omega))
 have hE':=H0 hE;have hB':=H0 hB;clear hE hB bk;obtain ⟨R,hR⟩:=N2 (Al 3 b s.toList);rw [hR];have hRv:Hid (R=E5 b (Bi s.toList)):=H0 hR.symm;clear hR;go_enter Tryz.func55,Tryz.ntmps55
 go_upto_region 2 with (fail)
 refine Ap (R:=fun wx=>Mb w wx B r0 r0) hI ?_
 clear hI;intro w1 hI;go_wp2_with fail
 refine (hpr.out _ (hE'.out.next hI.below).ml).mono ?_
 rintro e w2 ⟨d,u,h,ok,rfl,hb,hdz,huz,hres⟩;replace hI:=hI.keep hb;clear hb hpr;have hs2:=hI.size;have hI5:=hI.alloc (.cells (OF d h u) 98);have hc5:AG (w2.alloc (.cells (OF d h u) 98)) w2.heap.size (OF d h u) 98:=AG.new _ _ _;obtain ⟨g,hg⟩:=N2 (w2.heap.size);obtain ⟨w5,hw5⟩:∃ w5,w2.alloc (.cells (OF d h u) 98)=w5:=⟨_,rfl⟩;rw [hw5] at hI5 hc5;rw [hg] at hc5 hs2
 go_upto_region 15 with (refine Af rfl 98 _ _ rfl rfl (OF d h u) _ _ _ rfl Qf rfl (Ahg _ _ _) rfl (Af5 _ _ _) ?_)
 refine Ap (R:=fun wx=>w5=wx) hw5.symm ?_
 rintro _ rfl;clear hw5 hI hg
 rcases hres.out with ⟨h1,rfl,-⟩ | ⟨h1,rfl⟩
 ·have hRx:Hid (R=([],[])):=H0 (by rw [hRv.out,h1];rfl)
  clear hRv;replace h1:=H0 h1
  go_wp2_with (first
   | (refine wpList_load_row rfl 44 _ rfl (w.heap.size+2) rfl _ r0 _ _ hI5.r Tryz.underlying44 rfl (Bw _ _) ?_)
   | (refine wpList_store_row rfl 44 _ _ rfl (w.heap.size+1) r0 rfl rfl 44 _ hI5.o (Bw _ _) rfl Qb ?_))
  have hI6:=hI5.setO r0;refine C7 rfl rfl rfl hI6.o Tryz.underlying44 (Bw _ _) ?_
  exact ⟨_,[],⟨#[]⟩,rfl,by rw [hRx.out];trivial,H0 (by rw [hRx.out];exact toList_mk []),Cc.nil _ _,hI6.below⟩
 ·have hRx:Hid (R=E5 b (some (d.toList,h,u.toList))):=H0 (by rw [hRv.out,h1])
  clear hRv;have hux:=hx _ _ _ h1;rw [Aa] at hux;clear hx;replace h1:=H0 h1;have z0:=(hc5.at 0).trans (show (OF d h u)[0]? =some (.string d) from rfl);have z1:=(hc5.at 1).trans (show (OF d h u)[1]? =some (.bool h) from rfl);have z2:=(hc5.at 2).trans (show (OF d h u)[2]? =some (.string u) from rfl);have hI6:=hI5.setR (readC (.slice none 0 0) d);have hc6:=hc5.other (g':=w.heap.size+2) Qa (readC (.slice none 0 0) d);have y1:=(hc6.at 1).trans (show (OF d h u)[1]? =some (.bool h) from rfl);have y2:=(hc6.at 2).trans (show (OF d h u)[2]? =some (.string u) from rfl);obtain ⟨w6,hw6⟩:∃ w6,w5.setRow (w.heap.size+2) (readC (.slice none 0 0) d)=w6:=⟨_,rfl⟩
  go_upto_region 18 with (refine Ad rfl 9 _ _ rfl (w.heap.size+2) 1 rfl (.string d) rfl rfl 44 r0 (readC (.slice none 0 0) d) hI5.r Fc Qc rfl Qb ?_)
  refine Ap (R:=fun wx=>w6=wx) hw6.symm ?_
  rintro _ rfl;rw [hw6] at hI6 hc6 y1 y2;clear hw6 z0 z1 z2 hI5 hc5
  cases h with
  | true=>
   obtain ⟨it,hiz⟩:=N2 (BI b u.toList []);have hit1:=hit.out u hux
   have hR2:Hid (R=([it],d.toList)):=H0 (by rw [hRx.out,<-hiz];rfl)
   rw [hiz] at hit1;replace hit1:=H0 hit1;replace hiz:=H0 hiz;clear hRx;go_wp2_with (refine wpList_load_row rfl 34 _ rfl w.heap.size rfl _ (Ab B) _ _ hI6.a Tryz.underlying34 rfl (Ac _) ?_)
   refine (hit1.out _ (hE'.out.next hI6.below) (hB'.out.next hI6.below)).mono ?_
   rintro e w7 ⟨x,rfl,hxi,ho,hwv,hb⟩;have hs1:=hI6.size;replace hI6:=hI6.keep hb;have hs2:=hI6.size;have hb1:=hb.size;have hI7:=hI6.alloc (.cells (At x.right x.url x.wv) 48);have ho7:=H0 (Nt ho hb1);clear hb hit hit1 hB' hE' hI6 ho hcl y1 y2 hc6;replace hwv:=H0 hwv;obtain ⟨w8,hw8⟩:∃ w8,w7.alloc (.cells (At x.right x.url x.wv) 48)=w8:=⟨_,rfl⟩;rw [hw8] at hI7 ho7
   go_wp2_with (first
    | (refine Fh rfl _ rfl x.right x.url x.wv rfl ?_;rw [hw8];clear hw8)
    | (refine Ad rfl 42 _ _ rfl (w.heap.size+2) 0 rfl (.slice (some ⟨w7.heap.size,0,none⟩) 1 1) rfl rfl 44 (readC (.slice none 0 0) d) (readC (.slice (some ⟨w7.heap.size,0,none⟩) 1 1) d) hI7.r Km (by show 0+1<=2;decide) rfl Qb ?_)
    | (refine wpList_load_row rfl 44 _ rfl (w.heap.size+2) rfl _ (readC (.slice (some ⟨w7.heap.size,0,none⟩) 1 1) d) _ _ (hI7.setR _).r Tryz.underlying44 rfl (Bw _ _) ?_)
    | (refine wpList_store_row rfl 44 _ _ rfl (w.heap.size+1) (readC (.slice (some ⟨w7.heap.size,0,none⟩) 1 1) d) rfl rfl 44 _ (hI7.setR _).o (Bw _ _) rfl (EQ _ rfl) ?_))
   have hI8:=(hI7.setR (readC (.slice (some ⟨w7.heap.size,0,none⟩) 1 1) d)).setO (readC (.slice (some ⟨w7.heap.size,0,none⟩) 1 1) d);refine C7 rfl rfl rfl hI8.o Tryz.underlying44 (Bw _ _) ?_
   refine ⟨_,[x],d,rfl,by rw [hR2.out];exact ⟨hxi,trivial⟩,H0 (by rw [hR2.out]),?_,hI8.below⟩
   exact (((ho7.out.row (g:=w.heap.size+2) Qa _).row (g:=w.heap.size+1) Qa _)).low Qa
  | false=>
   have hR2:Hid (R=([⟨true,b,[]⟩],d.toList)):=hRx;clear hRx;have hlt6:=hI6.size;have hI7:=hI6.alloc (.cells (Ab B) 34);have hc7:AG (w6.alloc (.cells (Ab B) 34)) w6.heap.size (Ab B) 34:=AG.new _ _ _;obtain ⟨w7,hw7⟩:∃ w7,w6.alloc (.cells (Ab B) 34)=w7:=⟨_,rfl⟩;rw [hw7] at hI7 hc7
   go_upto_region 21 with (first
    | (refine wpList_load_row rfl 34 _ rfl w.heap.size rfl _ (Ab B) _ _ hI6.a Tryz.underlying34 rfl (Ac _) ?_)
    | (refine Af rfl 34 _ _ rfl rfl (Ab B) _ _ _ rfl Qf rfl (Ac _) rfl (Au _) ?_))
   refine Ap (R:=fun wx=>w7=wx) hw7.symm ?_
   rintro _ rfl;obtain ⟨k,hk⟩:=N2 (w6.heap.size);rw [hk] at hc7 hlt6⊢;clear hw7 hk hI6 y1 y2 hc6;have x18:=(hI7.a.at 18).trans (show (Ab B)[18]? =some (.slice B.pathA B.path.length B.pathC) from rfl);go_wp2_with fail;refine (hcl.out _ (hB'.out.path.below hI7.below (Nat.le_refl _))).mono ?_;rintro e w8 ⟨v,rfl,hov,hb⟩;have hs7:=hI7.size;have hc8:=hc7.keep hb;have hlt7:=hc7.lt;replace hI7:=hI7.keep hb;have hb1:=hb.size;obtain ⟨pa,c,rfl,hcap,hpr2⟩:=BH hov;have hov2:=hov;clear hb x18 hcl hit;have hcp:=hc8.set (Ab (Ah B pa c B.path));have hIp:=hI7.setG hlt6 (Ab (Ah B pa c B.path));have hop:HZ (w8.setRow k (Ab (Ah B pa c B.path))) w7.heap.size ⟨true,Ah B pa c B.path,.slice none 0 0,[]⟩:=⟨AH.row hov2 hlt7 _,AH.nil _ _ _⟩;obtain ⟨w9,hw9⟩:=N2 (w8.setRow k (Ab (Ah B pa c B.path)))
   have hb2:w7.heap.size<=w9.heap.size:=by rw [<-hw9,Cu];exact hb1
   go_upto_region 22 with (refine Ad rfl 22 _ _ rfl k 18 rfl (.slice pa B.path.length c) rfl rfl 34 (Ab B) (Ab (Ah B pa c B.path)) hc8 Bs Qp rfl Qb ?_)
   refine Ap (R:=fun wx=>w9=wx) hw9.symm ?_
   rintro _ rfl;rw [hw9] at hcp hIp hop;clear hw9 hI7 hc8 hov hov2 hpr2;have hIq:=hIp.alloc (.cells (At true (Ah B pa c B.path) (.slice none 0 0)) 48);have hoq:=H0 (Nt hop hb2);obtain ⟨w10,hw10⟩:∃ w10,w9.alloc (.cells (At true (Ah B pa c B.path) (.slice none 0 0)) 48)=w10:=⟨_,rfl⟩;rw [hw10] at hIq
   have hoq2:Hid (Cc w10 w7.heap.size (.slice (some ⟨w9.heap.size,0,none⟩) 1 1) [⟨true,Ah B pa c B.path,.slice none 0 0,[]⟩]):=H0 (by have:=hoq.out;rwa [hw10] at this)
   clear hoq hop
   go_wp2_with (first
    | (refine wpList_load_row rfl 34 _ rfl k rfl _ (Ab (Ah B pa c B.path)) _ _ hcp Tryz.underlying34 rfl (Ac _) ?_)
    | (refine wpList_buildTo rfl _ _ rfl _ rfl (At true (Ah B pa c B.path) (.slice none 0 0)) Qb ?_)
    | (refine Fh rfl _ rfl true (Ah B pa c B.path) (.slice none 0 0) rfl ?_;rw [hw10];clear hw10)
    | (refine Ad rfl 42 _ _ rfl (w.heap.size+2) 0 rfl (.slice (some ⟨w9.heap.size,0,none⟩) 1 1) rfl rfl 44 (readC (.slice none 0 0) d) (readC (.slice (some ⟨w9.heap.size,0,none⟩) 1 1) d) hIq.r Km (by show 0+1<=2;decide) rfl Qb ?_)
    | (refine wpList_load_row rfl 44 _ rfl (w.heap.size+2) rfl _ (readC (.slice (some ⟨w9.heap.size,0,none⟩) 1 1) d) _ _ (hIq.setR _).r Tryz.underlying44 rfl (Bw _ _) ?_)
    | (refine wpList_store_row rfl 44 _ _ rfl (w.heap.size+1) (readC (.slice (some ⟨w9.heap.size,0,none⟩) 1 1) d) rfl rfl 44 _ (hIq.setR _).o (Bw _ _) rfl (EQ _ rfl) ?_))
   have hI8:=(hIq.setR (readC (.slice (some ⟨w9.heap.size,0,none⟩) 1 1) d)).setO (readC (.slice (some ⟨w9.heap.size,0,none⟩) 1 1) d);refine C7 rfl rfl rfl hI8.o Tryz.underlying44 (Bw _ _) ?_
   refine ⟨_,[⟨true,Ah B pa c B.path,.slice none 0 0,[]⟩],d,rfl,by rw [hR2.out];exact ⟨⟨rfl,TO hB'.out.is pa c,rfl⟩,trivial⟩,H0 (by rw [hR2.out]),?_,hI8.below⟩
   exact (((hoq2.out.row (g:=w.heap.size+2) Qa _).row (g:=w.heap.size+1) Qa _)).low Qa
theorem AcU (u:ByteArray) (wv:Value) (st:Mp):(Tryz.prog.info? 109).map (·.size)=some (Ar u wv st).toList.length:=Qb
def sT (l:List UInt8):ByteArray:=⟨l.toArray⟩
def Du (ws:List ByteArray):List UInt8:=ws.flatMap (fun t=>32 :: t.toList)
theorem Yp {ws:List ByteArray} {k:Nat} (h:k<ws.length):Du (ws.take (k+1))=Du (ws.take k)++32 :: ws[k].toList:=by
 unfold Du;rw [List.take_add_one,List.getElem?_eq_getElem h,Option.toList_some,List.flatMap_append];simp only [List.flatMap_cons,List.flatMap_nil,List.append_nil]
theorem Rq (ws:List ByteArray) (k:Nat):(Du (ws.take k)).length<=(Du ws).length:=by
 have e:Du ws=Du (ws.take k)++Du (ws.drop k):=by unfold Du;rw [<-List.flatMap_append,List.take_append_drop]
 rw [e,List.length_append];omega
def Aeu (k:Nat):List UInt8:=if k=0 then [] else [44,32]
end Go.Proofs.YtonomfeipkdmhaaGreatDoor
