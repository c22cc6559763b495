/- Part 24: lemmas. -/
import Derived.Test.YtonomfeipkdmhaaGreatDoorL23
import Derived.DeepKeys4
import Derived.Maps.Own
import Derived.Maps.Views
import Derived.Orders
import Derived.RegionTactic
set_option linter.unusedVariables false
set_option linter.unusedSimpArgs false
set_option maxRecDepth 100000
set_option maxHeartbeats 16000000
namespace Go.Proofs.YtonomfeipkdmhaaGreatDoor
open Go.RowKit
structure Z5 (w wx:World) (p:Df) (B:Am) (D:Array Value):Prop where
 below:Below w.heap.size w wx
 size:w.heap.size+3<=wx.heap.size
 a:AG wx w.heap.size (BK p) 24
 b:AG wx (w.heap.size+1) (Ab B) 34
 o:AG wx (w.heap.size+2) D 40
theorem Z5.start (w:World) (p:Df) (B:Am) (D:Array Value):Z5 w (((w.alloc (.cells (BK p) 24)).alloc (.cells (Ab B) 34)).alloc (.cells D 40)) p B D:=by
 have h:=MJ.start w (BK p) 24 (Ab B) 34;have hn:=AG.new ((w.alloc (.cells (BK p) 24)).alloc (.cells (Ab B) 34)) D 40;rw [Ai,Ai] at hn;exact ⟨h.below.alloc Akw _,AkC,h.a.alloc _,h.b.alloc _,hn⟩
theorem Z5.keep {w wx wy:World} {p:Df} {B:Am} {D:Array Value} (h:Z5 w wx p B D) (hb:Below wx.heap.size wx wy):Z5 w wy p B D:=⟨h.below.next hb,Qx,h.a.keep hb,h.b.keep hb,h.o.keep hb⟩
theorem Z5.alloc {w wx:World} {p:Df} {B:Am} {D:Array Value} (h:Z5 w wx p B D) (o:Obj):Z5 w (wx.alloc o) p B D:=h.keep ((Below.refl _ _).alloc (Nat.le_refl _) o)
theorem Z5.setO {w wx:World} {p:Df} {B:Am} {D:Array Value} (h:Z5 w wx p B D) (E:Array Value):Z5 w (wx.setRow (w.heap.size+2) E) p B E:=
 ⟨Ae h.below Qa _,Aj9,h.a.other Qa _,h.b.other Qa _,h.o.set _⟩
def Zr (V:AeK) (w:World) (e:Ending) (w':World):Prop:=∃ t:ByteArray,e= .returned (.agg (Bh V.kind V.why t))/\Hid (t.toList=V.out)/\Below w.heap.size w w'
theorem UL {V:AeK} {y:Nat} {w w':World} (h:Wz y=V) (hb:Below w.heap.size w w'):Zr V w (.returned (.agg (Bh 2 y ⟨#[]⟩))) w':=by
 subst h;exact ⟨⟨#[]⟩,rfl,toList_mk [],hb⟩
theorem WW:∀ {l:List AO} {L:List BG},DK l L->∀ x∈l,∃ it∈L,Wb x it
 | [],[],_,x,hx=>by cases hx
 | y :: l,it :: L,h,x,hx=>by
  rcases List.mem_cons.1 hx with rfl | hx
  ·exact ⟨it,List.mem_cons_self ..,h.1⟩
  ·obtain ⟨j,hj,hi⟩:=WW h.2 x hx;exact ⟨j,List.mem_cons_of_mem _ hj,hi⟩
 | [],_ :: _,h,_,_=>h.elim
 | _ :: _,[],h,_,_=>h.elim
def Pq (k:Nat) (L:List BG) (d:List UInt8):Prop:=∀ (v:Value) (t:ByteArray) (l:List AO) (w:World),t.toList=d->Gu w->FA w v l->DK l L->0<l.length->l.length<=900000000->(∀ x∈l,x.ws.length<=1000000000)->Calls Tryz.prog 28 #[.int .i64 (k:Int),.agg (readC v t)] w (EI w (BL (DR k L d)))
theorem IR (p:Df) (B:Am) (b:Ao) (el nm:ByteArray) (k:Nat) (pa:Option Addr) (n c:Nat) (raw:List UInt8) (w:World) (hE:Gu w) (hp:Em w p) (hB:DM w B b) (g:AI b) (gz:A6 b<=1000000)
  (hK:∀ w',Calls Tryz.prog 21 #[.string el,.string nm] w' fun r w''=>r= .returned (.int .i64 (k:Int))/\Below w'.heap.size w' w'') (hk:k≠0)
  (h:BU w pa n c raw) (hz:n<=1000000000) (hra:Ww raw) (hzd:(C6 raw).length<=1000000000) (hzt:(FQ (C6 raw)).length<=1000000000) (hia:O0 k B b (AD raw))
  (hg:∀ it∈(Al k b (AD raw)).1,(it.right=true->AI it.url/\A6 it.url<=800000000)/\it.ws.length<=1000000000/\it.url.path.length<=1000000000) (hln:(Al k b (AD raw)).1.length<=900000000)
  (hem:(Al k b (AD raw)).1.filter (AS (Eu p.schemes.l p.hosts.l p.types.l) k)≠[]->Pq k ((Al k b (AD raw)).1.filter (AS (Eu p.schemes.l p.hosts.l p.types.l) k)) (Al k b (AD raw)).2)
  (hez:(BL (DR k ((Al k b (AD raw)).1.filter (AS (Eu p.schemes.l p.hosts.l p.types.l) k)) (Al k b (AD raw)).2)).length<=4000000000):
  Calls Tryz.prog 10 #[.agg (BK p),.agg (Ab B),.string el,.string nm,.slice pa n c] w (Zr (A5 (Eu p.schemes.l p.hosts.l p.types.l) p.most k b raw) w):=by
 have hI:=Z5.start w p B (Bh 0 0 ⟨#[]⟩);have hn:=h.len;obtain ⟨V,hV⟩:=N2 (A5 (Eu p.schemes.l p.hosts.l p.types.l) p.most k b raw);rw [hV];unfold A5 at hV;rw [if_neg hk,hn] at hV;obtain ⟨L,hL⟩:∃ L,(Al k b (AD raw)).1=L:=⟨_,rfl⟩;obtain ⟨d,hd⟩:∃ d,(Al k b (AD raw)).2=d:=⟨_,rfl⟩;rw [hL,hd] at hem hez hV;rw [hL] at hg hln;obtain ⟨A,hA⟩:=N2 (Eu p.schemes.l p.hosts.l p.types.l);rw [hA] at hem hez hV;obtain ⟨F,hF⟩:=N2 (L.filter (AS A k));rw [hF] at hem hez hV;have hbn:=H0 h
 have hread:=H0 (fun (w':World) (hb:Below w.heap.size w w')=>Zu k B b pa n c raw w' (hE.next hb) (hB.next hb) (h.below hb (Nat.le_refl _)) hz hra hzd hzt hia)
 have hright:=H0 (fun (w':World) (hb:Below w.heap.size w w')=>AbU B b w' (hE.next hb) (hB.next hb) g Qa)
 replace hE:=H0 hE;replace hp:=H0 hp;replace hK:=H0 hK;replace hL:=H0 hL;replace hd:=H0 hd;replace hA:=H0 hA;replace hF:=H0 hF;replace hV:=H0 hV;replace hg:=H0 hg;replace hem:=H0 hem;replace hez:=H0 hez
 have hk0:((k:Int)==0)=false:=by simp only [beq_eq_false_iff_ne,ne_eq];omega
 clear hia h hB g hra hn hzd hzt;go_enter Tryz.func10,Tryz.ntmps10
 go_upto_region 1 with (fail)
 refine Ap (R:=fun wx=>Z5 w wx p B (Bh 0 0 ⟨#[]⟩)) hI ?_
 clear hI;intro w1 hI;go_wp2_with fail;refine (hK.out w1).mono ?_;rintro e w2 ⟨rfl,hb⟩;replace hI:=hI.keep hb;clear hb hK;have y3:=(hI.a.at 3).trans (show (BK p)[3]? =some (.int .i64 p.most) from rfl)
 by_cases hm:p.most<(n:Int)
 ·have hv1:=H0 (hV.out.symm.trans (if_pos hm));clear hread hright;go_wp2_with fail;refine (LD 1 _).mono ?_;rintro e wd ⟨rfl,hbd⟩;have hId:=hI.keep hbd;clear hbd;go_wp2_with (refine wpList_store_row rfl 40 _ _ rfl (w.heap.size+2) (Bh 2 1 ⟨#[]⟩) rfl rfl 40 _ hId.o (CW _ _ _) rfl (D5 _ _ _) ?_);have hId2:=hId.setO (Bh 2 1 ⟨#[]⟩);refine C7 rfl rfl rfl hId2.o Tryz.underlying40 (CW _ _ _) ?_;exact UL (hv1.out.symm) hId2.below
 ·have hv1:=H0 (hV.out.symm.trans (if_neg hm));have hm2:(n:Int)<=p.most:=Qa;clear hV;go_wp2_with (refine wpList_load_row rfl 34 _ rfl (w.heap.size+1) rfl _ (Ab B) _ _ hI.b Tryz.underlying34 rfl (Ac _) ?_);refine (hright.out w2 hI.below).mono ?_;rintro e w3 ⟨rfl,hb⟩;replace hI:=hI.keep hb;clear hb hright y3;go_wp2_with (refine wpList_load_row rfl 34 _ rfl (w.heap.size+1) rfl _ (Ab B) _ _ hI.b Tryz.underlying34 rfl (Ac _) ?_);refine (hread.out w3 hI.below).mono ?_;rintro e w4 ⟨v,l,t,rfl,his,ht,ho,hb⟩;rw [hL.out] at his;rw [hd.out] at ht;have hlen:=his.len;have hs3:=hI.size;have hsz34:=hb.size;replace hI:=hI.keep hb;obtain ⟨va,vc,rfl,-,-,-⟩:=ho.read;have hI5:=hI.alloc (.cells (readC (.slice va l.length vc) t) 44);have hc5:AG (w4.alloc (.cells (readC (.slice va l.length vc) t) 44)) w4.heap.size (readC (.slice va l.length vc) t) 44:=AG.new _ _ _;have ho5:=ho.below ((Below.refl _ _).alloc (Nat.le_refl _) (.cells (readC (.slice va l.length vc) t) 44));obtain ⟨w5,hw5⟩:∃ w5,w4.alloc (.cells (readC (.slice va l.length vc) t) 44)=w5:=⟨_,rfl⟩;rw [hw5] at hI5 hc5 ho5;have hlz:l.length<=900000000:=Qa;replace hlen:=H0 hlen;replace his:=H0 his;replace ho5:=H0 ho5;clear hb hread ho
  go_upto_region 9 with (refine Af rfl 44 _ _ rfl rfl (readC (.slice va l.length vc) t) _ _ _ rfl Qf rfl (Bw _ _) rfl (EQ _ rfl) ?_)
  refine Ap (R:=fun wx=>w5=wx) hw5.symm ?_
  rintro _ rfl;obtain ⟨g12,hg12⟩:∃ g,w4.heap.size=g:=⟨_,rfl⟩;rw [hg12] at hc5⊢;clear hw5 hI hg12;have y0:=(hc5.at 0).trans (show (readC (.slice va l.length vc) t)[0]? =some (.slice va l.length vc) from rfl);go_wp2_with fail;refine (O7 (.slice va l.length vc) l L w5 ho5.out.read his.out Qa).mono ?_;rintro e w6 ⟨rfl,hb⟩;replace hI5:=hI5.keep hb;have hc6:=hc5.keep hb;have ho6:=H0 (ho5.out.below hb);clear hb hc5 ho5 y0
  obtain ⟨any,hany⟩:∃ x,L.any (·.right)=x:=⟨_,rfl⟩
  rw [hany] at hv1⊢;replace hany:=H0 hany;have hI:=hI5;clear hI5
  cases any with
  | false=>
   have hv2:=H0 (hv1.out.trans (if_pos rfl));clear hv1;go_wp2_with fail;refine (LD 3 _).mono ?_;rintro e wd ⟨rfl,hbd⟩;have hId:=hI.keep hbd;clear hbd;go_wp2_with (refine wpList_store_row rfl 40 _ _ rfl (w.heap.size+2) (Bh 2 3 ⟨#[]⟩) rfl rfl 40 _ hId.o (CW _ _ _) rfl (D5 _ _ _) ?_);have hId2:=hId.setO (Bh 2 3 ⟨#[]⟩);refine C7 rfl rfl rfl hId2.o Tryz.underlying40 (CW _ _ _) ?_;exact UL (hv2.out.symm) hId2.below
  | true=>
   have hv2:=H0 (hv1.out.trans (if_neg Qc));clear hv1
   have hww:∀ x∈l,x.ws.length<=1000000000/\x.url.path.length<=1000000000:=fun x hx=>by
    obtain ⟨it,hit,hi⟩:=WW his.out x hx;have:=(hg.out it hit).2;rw [<-hi.ws,List.length_map,<-hi.url.path,List.length_map] at this;exact this
   have hkeeps:=AcZ p k (.slice va l.length vc) t l L w6 (hE.out.next hI.below) (hp.out.below hI.below (Nat.le_refl _)) ho6.out.read his.out hlz (fun it hit=>(hg.out it hit).1) hww
   rw [hA.out,hF.out] at hkeeps;replace hkeeps:=H0 hkeeps;replace hww:=H0 hww
   go_wp2_with (first
    | (refine wpList_load_row rfl 24 _ rfl w.heap.size rfl _ (BK p) _ _ hI.a Tryz.underlying24 rfl DP ?_)
    | (refine wpList_load_row rfl 44 _ rfl g12 rfl _ (readC (.slice va l.length vc) t) _ _ hc6 Tryz.underlying44 rfl (Bw _ _) ?_))
   refine hkeeps.out.mono ?_;rintro e w7 ⟨v2,l2,rfl,hi2,ho2,hl2,hw2,hb⟩;replace hI:=hI.keep hb;have hlen2:=hi2.len;obtain ⟨vb,vd,rfl,-,-,-⟩:=ho2.read;have hI8:=hI.alloc (.cells (readC (.slice vb l2.length vd) t) 44);have hc8:AG (w7.alloc (.cells (readC (.slice vb l2.length vd) t) 44)) w7.heap.size (readC (.slice vb l2.length vd) t) 44:=AG.new _ _ _;have ho8:=ho2.below ((Below.refl _ _).alloc (Nat.le_refl _) (.cells (readC (.slice vb l2.length vd) t) 44));obtain ⟨w8,hw8⟩:∃ w8,w7.alloc (.cells (readC (.slice vb l2.length vd) t) 44)=w8:=⟨_,rfl⟩;rw [hw8] at hI8 hc8 ho8;have hl2z:l2.length<=900000000:=Qa;replace hlen2:=H0 hlen2;replace hi2:=H0 hi2;replace hw2:=H0 hw2;replace ho8:=H0 ho8;clear hb hkeeps ho2 hc6 ho6
   go_upto_region 12 with (refine Af rfl 44 _ _ rfl rfl (readC (.slice vb l2.length vd) t) _ _ _ rfl Qf rfl (Bw _ _) rfl (EQ _ rfl) ?_)
   refine Ap (R:=fun wx=>w8=wx) hw8.symm ?_
   rintro _ rfl;obtain ⟨g13,hg13⟩:∃ g,w7.heap.size=g:=⟨_,rfl⟩;rw [hg13] at hc8⊢;clear hw8 hI hg13;have hI:=hI8;clear hI8;have y0:=(hc8.at 0).trans (show (readC (.slice vb l2.length vd) t)[0]? =some (.slice vb l2.length vd) from rfl)
   by_cases hF0:F=[]
   ·have hv3:=H0 (hv2.out.trans (if_pos hF0))
    have hl0:l2.length=0:=by rw [hlen2.out,hF0];rfl
    rw [hl0] at y0;have hl00:l2=[]:=List.eq_nil_of_length_eq_zero hl0;clear hv2;subst hl00;replace hF0:=H0 hF0;go_wp2_with fail;refine (LD 4 _).mono ?_;rintro e wd ⟨rfl,hbd⟩;have hId:=hI.keep hbd;clear hbd;go_wp2_with (refine wpList_store_row rfl 40 _ _ rfl (w.heap.size+2) (Bh 2 4 ⟨#[]⟩) rfl rfl 40 _ hId.o (CW _ _ _) rfl (D5 _ _ _) ?_);have hId2:=hId.setO (Bh 2 4 ⟨#[]⟩);refine C7 rfl rfl rfl hId2.o Tryz.underlying40 (CW _ _ _) ?_;exact UL (hv3.out.symm) hId2.below
   ·have hv3:=H0 (hv2.out.trans (if_neg hF0));clear hv2
    have hlp:0<l2.length:=by
     rw [hlen2.out];exact List.length_pos_iff.2 hF0
    have hemit:=H0 (hem.out hF0 (.slice vb l2.length vd) t l2 w8 ht.out (hE.out.next hI.below) ho8.out.read hi2.out hlp hl2z hw2.out)
    obtain ⟨N,hN⟩:=N2 (l2.length);rw [hN] at y0 hc8 hemit hlp⊢;replace hN:=H0 hN;have hle:(1:Int)<=(N:Int):=Qa;have hN0:decide ((N:Int)=0)=false:=QS;replace hF0:=H0 hF0;go_wp2_with (refine wpList_load_row rfl 44 _ rfl g13 rfl _ (readC (.slice vb N vd) t) _ _ hc8 Tryz.underlying44 rfl (Bw _ _) ?_);refine hemit.out.mono ?_;rintro e w9 ⟨ts,rfl,hts,hb⟩;replace hI:=hI.keep hb;have y3:=(hI.a.at 3).trans (show (BK p)[3]? =some (.int .i64 p.most) from rfl)
    have hlen3:(BL (DR k F d)).length=ts.size:=by rw [<-hts.out,Aa]
    have htz:ts.size<=4000000000:=by rw [<-hlen3];exact hez.out
    have hv4:=hv3.out;rw [hlen3] at hv4;replace hlen3:=H0 hlen3;clear hb hemit hc8 y0 hv3 hle hN0
    by_cases hm3:p.most<(ts.size:Int)
    ·have hv5:=H0 (hv4.trans (if_pos hm3));clear hv4;go_wp2_with fail;refine (LD 1 _).mono ?_;rintro e wd ⟨rfl,hbd⟩;have hId:=hI.keep hbd;clear hbd;go_wp2_with (refine wpList_store_row rfl 40 _ _ rfl (w.heap.size+2) (Bh 2 1 ⟨#[]⟩) rfl rfl 40 _ hId.o (CW _ _ _) rfl (D5 _ _ _) ?_);have hId2:=hId.setO (Bh 2 1 ⟨#[]⟩);refine C7 rfl rfl rfl hId2.o Tryz.underlying40 (CW _ _ _) ?_;exact UL (hv5.out.symm) hId2.below
    ·have hv5:=H0 (hv4.trans (if_neg hm3));have hm4:(ts.size:Int)<=p.most:=Qa;clear hv4
     go_wp2_with (first
      | (refine wpList_buildTo rfl _ _ rfl _ rfl (Bh 3 0 ts) Qb ?_)
      | (refine wpList_store_row rfl 40 _ _ rfl (w.heap.size+2) (Bh 3 0 ts) rfl rfl 40 _ hI.o (CW _ _ _) rfl (D5 _ _ _) ?_))
     have hI9:=hI.setO (Bh 3 0 ts);refine C7 rfl rfl rfl hI9.o Tryz.underlying40 (CW _ _ _) ?_
     exact ⟨ts,by rw [hv5.out],H0 (by rw [hv5.out];exact hts.out),hI9.below⟩
open Go.Maps (Keyed IsMap)
open Go.WideMaps Go.WideElems
def Ib:List (List UInt8 × List UInt8 × Int):=[
 ([97],[104,114,101,102],1),
 ([97,114,101,97],[104,114,101,102],1),
 ([108,105,110,107],[104,114,101,102],1),
 ([105,109,103],[115,114,99],1),
 ([105,109,103],[108,111,110,103,100,101,115,99],1),
 ([115,99,114,105,112,116],[115,114,99],1),
 ([105,102,114,97,109,101],[115,114,99],1),
 ([101,109,98,101,100],[115,114,99],1),
 ([111,98,106,101,99,116],[100,97,116,97],1),
 ([118,105,100,101,111],[115,114,99],1),
 ([118,105,100,101,111],[112,111,115,116,101,114],1),
 ([97,117,100,105,111],[115,114,99],1),
 ([115,111,117,114,99,101],[115,114,99],1),
 ([116,114,97,99,107],[115,114,99],1),
 ([105,110,112,117,116],[115,114,99],1),
 ([105,110,112,117,116],[102,111,114,109,97,99,116,105,111,110],1),
 ([98,117,116,116,111,110],[102,111,114,109,97,99,116,105,111,110],1),
 ([102,111,114,109],[97,99,116,105,111,110],1),
 ([98,108,111,99,107,113,117,111,116,101],[99,105,116,101],1),
 ([113],[99,105,116,101],1),
 ([105,110,115],[99,105,116,101],1),
 ([100,101,108],[99,105,116,101],1),
 ([98,111,100,121],[98,97,99,107,103,114,111,117,110,100],1),
 ([105,109,103],[115,114,99,115,101,116],2),
 ([115,111,117,114,99,101],[115,114,99,115,101,116],2),
 ([108,105,110,107],[105,109,97,103,101,115,114,99,115,101,116],2),
 ([109,101,116,97],[99,111,110,116,101,110,116],3)]
def EH (k:Nat):Value:= .agg #[.string ⟨(Ib.getD k ([],[],0)).1.toArray⟩,.string ⟨(Ib.getD k ([],[],0)).2.1.toArray⟩]
def KF (k:Nat):Int:=(Ib.getD k ([],[],0)).2.2
def Ah8 (e n:List UInt8):Value:= .agg #[.string ⟨e.toArray⟩,.string ⟨n.toArray⟩]
theorem Aal:laidOutB Tryz.prog=true:=Qb
theorem AhX:(91:TypeId)<Tryz.prog.types.size:=of_decide_eq_true Qb
theorem AgR:(match Tryz.prog.underlying 91 with | some (.array _ _) | some (.struct _)=>true | _=>false)=true:=Qb
theorem Ah0:KeyLaw Tryz.prog 91:=deep_law_laid Aal (m:=2) Qa AhX Qb AgR
theorem W9:Keyed Tryz.prog 91:=Keyed.of_law Ah0
def Hl (e n:List UInt8):Lit:= .string (keyBytes [.string e,.string n])
theorem Ade:∀ k,k<27->keyOf Tryz.prog 91 (EH k)=some (Hl (Ib.getD k ([],[],0)).1 (Ib.getD k ([],[],0)).2.1):=by
 intro k hk
 have h:(List.range 27).map (fun k=>keyOf Tryz.prog 91 (EH k))=(List.range 27).map (fun k=>some (Hl (Ib.getD k ([],[],0)).1 (Ib.getD k ([],[],0)).2.1)):=Qb
 have:=congrArg (fun l=>l[k]?) h
 simpa [hk] using this
def AeH (k:Nat):Lit:=Hl (Ib.getD k ([],[],0)).1 (Ib.getD k ([],[],0)).2.1
def Hv (d:Nat->Bool):Array Bool:=Array.ofFn (n:=57) fun i=>if i.val<=54 then (if i.val % 2=0/\2<=i.val then d (i.val / 2 - 1) else true) else false
def Jc (d:Nat->Bool) (k:Nat):Nat->Bool:=fun j=>if j=k then true else d j
theorem Kd (d:Nat->Bool) (i:Nat) (h:i<57) (x:Bool):(Hv d).getD i x=if i<=54 then (if i % 2=0/\2<=i then d (i / 2 - 1) else true) else false:=by
 unfold Hv;rw [Array.getD_eq_getD_getElem?,Array.getElem?_ofFn,dif_pos h];rfl
theorem AfC (d:Nat->Bool) (k:Nat) (hk:k<27):(Hv d).setIfInBounds (2 * k+2) true=Hv (Jc d k):=by
 apply Array.ext_getElem?;intro i;rw [Array.getElem?_setIfInBounds]
 have hs:(Hv d).size=57:=by simp [Hv]
 by_cases hi:2 * k+2=i
 ·rw [if_pos hi,if_pos (by rw [hs];omega)]
  subst hi;unfold Hv;rw [Array.getElem?_ofFn,dif_pos Qa];dsimp only;rw [if_pos Qa,if_pos Qa];unfold Jc;rw [if_pos Qa]
 ·rw [if_neg hi];unfold Hv;rw [Array.getElem?_ofFn,Array.getElem?_ofFn]
  by_cases h57:i<57
  ·rw [dif_pos h57,dif_pos h57];dsimp only
   by_cases h54:i<=54
   ·rw [if_pos h54,if_pos h54]
    by_cases hp:i % 2=0/\2<=i
    ·rw [if_pos hp,if_pos hp];unfold Jc;rw [if_neg Qa]
    ·rw [if_neg hp,if_neg hp]
   ·rw [if_neg h54,if_neg h54]
  ·rw [dif_neg h57,dif_neg h57]
theorem Abk (d:Nat->Bool) (k:Nat):∀ l:List Nat,l.Nodup->k∈l->d k=false->(l.filter (fun j=> !(Jc d k j))).length+1=(l.filter (fun j=> !(d j))).length
 | [],_,h,_=>Qr
 | x :: l,hn,h,hd=>by
  rw [List.nodup_cons] at hn
  by_cases hx:x=k
  ·subst hx
   have e:l.filter (fun j=> !(Jc d x j))=l.filter (fun j=> !(d j)):=by
    apply List.filter_congr;intro j hj;unfold Jc
    rw [if_neg (fun e=>hn.1 (by rw [<-e];exact hj))]
   rw [List.filter_cons,if_neg (by unfold Jc;rw [if_pos rfl];decide),List.filter_cons,if_pos (by rw [hd];decide),e,List.length_cons]
  ·have hm:k∈l:=by
    rcases List.mem_cons.1 h with e | e
    ·exact absurd e.symm hx
    ·exact e
   have ih:=Abk d k l hn.2 hm hd
   have e:Jc d k x=d x:=by unfold Jc;rw [if_neg hx]
   rw [List.filter_cons,List.filter_cons,e];cases d x
   ·rw [if_pos Qc,if_pos Qc,List.length_cons,List.length_cons,ih]
   ·rw [if_neg Qc,if_neg Qc,ih]
def Adw (d:Nat->Bool):Nat:=((List.range 27).filter fun j=> !(d j)).length
theorem Sh (d:Nat->Bool) (k:Nat) (hk:k<27) (hd:d k=false):Adw (Jc d k)+1=Adw d:=Abk d k _ List.nodup_range (List.mem_range.2 hk) hd
theorem Acd {d:Nat->Bool} (h:Adw d=0):∀ k,k<27->d k=true:=by
 intro k hk
 cases hd:d k with
 | true=>rfl
 | false=>
  have:=Sh d k hk hd;omega
def Sf (k:Nat):Oper:={ dst:=none,op:=Op.insert 88 (.tmp 1) (.tmp (k+2)) (.const (.int .i64 (KF k))),type:=0,pos:= "class.go:22",after:= #[{ on:=0,ground:= .data },{ on:=2 * k+1,ground:= .data }],guard:=none }
theorem AaL {ops:Array Oper} {d:Nat->Bool} {i:Nat} (hsz:ops.size=57)
  (h55:∃ o,ops[55]? =some o/\((List.range 27).all fun k=>o.after.any fun e=>(e.on==2 * k+2) && Region.binds .any e)=true)
  (h56:∃ o,ops[56]? =some o/\(o.after.any fun e=>(e.on==55) && Region.binds .any e)=true)
  (hi:i∈Region.ready .any ops (Hv d)):(∃ k,k<27/\i=2 * k+2/\d k=false)\/∀ k,k<27->d k=true:=by
 unfold Region.ready at hi;rw [List.mem_filter,List.mem_range,hsz,Bool.and_eq_true] at hi;obtain ⟨h57,hl,hr⟩:=hi;rw [Kd d i h57] at hl
 by_cases h54:i<=54
 ·rw [if_pos h54] at hl
  by_cases hp:i % 2=0/\2<=i
  ·rw [if_pos hp] at hl
   exact .inl ⟨i / 2 - 1,Qa,Qa,by simpa using hl⟩
  ·rw [if_neg hp] at hl;cases hl
 ·have hcase:i=55\/i=56:=Qa
  rcases hcase with rfl | rfl
  ·obtain ⟨o,ho,ha⟩:=h55;rw [ho] at hr
   have hall:∀ e∈o.after,(!Region.binds .any e || (Hv d).getD e.on false)=true:=by
    have:(o.after.all fun e=> !Region.binds .any e || (Hv d).getD e.on false)=true:=hr
    exact fun e he=>Array.all_eq_true'.1 this e he
   right;intro k hk;have h1:=List.all_eq_true.1 ha k (List.mem_range.2 hk);obtain ⟨e,he,hb⟩:=Array.any_eq_true'.1 h1;rw [Bool.and_eq_true,beq_iff_eq] at hb;have h2:=hall e he;rw [hb.2,hb.1,Kd d _ Qa,if_pos Qa,if_pos Qa] at h2;have e3:(2 * k+2) / 2 - 1=k:=Qa;rw [e3] at h2;simpa using h2
  ·obtain ⟨o,ho,ha⟩:=h56;rw [ho] at hr
   have hall:∀ e∈o.after,(!Region.binds .any e || (Hv d).getD e.on false)=true:=by
    have:(o.after.all fun e=> !Region.binds .any e || (Hv d).getD e.on false)=true:=hr
    exact fun e he=>Array.all_eq_true'.1 this e he
   obtain ⟨e,he,hb⟩:=Array.any_eq_true'.1 ha;rw [Bool.and_eq_true,beq_iff_eq] at hb;have h2:=hall e he;rw [hb.2,hb.1,Kd d _ Qa,if_neg Qa] at h2;cases h2
theorem AeP {P:Program} {ops:Array Oper} {Q:Exit->Act->World->Prop} {a:Act} {I:(Nat->Bool)->World->Prop} (hsz:ops.size=57)
  (hins:∀ k,k<27->ops[2 * k+2]? =some (Sf k))
  (h55:∃ o,ops[55]? =some o/\((List.range 27).all fun k=>o.after.any fun e=>(e.on==2 * k+2) && Region.binds .any e)=true)
  (h56:∃ o,ops[56]? =some o/\(o.after.any fun e=>(e.on==55) && Region.binds .any e)=true)
  (hstep:∀ d w k,k<27->d k=false->I d w->(Sf k).wp P a w (fun a' w'=>a'=a/\I (Jc d k) w') Q)
  (hend:∀ d w,(∀ k,k<27->d k=true)->I d w->wpAny P .any ops Q 2 (Hv d) a w):∀ n d w,Adw d=n->I d w->wpAny P .any ops Q (n+2) (Hv d) a w
 | 0,d,w,hn,hI=>hend d w (Acd hn) hI
 | n+1,d,w,hn,hI=>by
  have hne:∃ k,k<27/\d k=false:=by
   cases hq:(List.range 27).filter (fun j=> !(d j)) with
   | nil=>unfold Adw at hn;rw [hq] at hn;cases hn
   | cons x r=>
    have hx:x∈(List.range 27).filter (fun j=> !(d j)):=by rw [hq];exact List.mem_cons_self ..
    rw [List.mem_filter,List.mem_range] at hx
    exact ⟨x,hx.1,by simpa using hx.2⟩
  refine ⟨fun h0=> ?_,fun i hi=> ?_⟩
  ·exfalso;obtain ⟨k,hk,hd⟩:=hne
   have hm:2 * k+2∈Region.ready .any ops (Hv d):=by
    unfold Region.ready;rw [List.mem_filter,List.mem_range,hsz,Bool.and_eq_true];refine ⟨Qa,?_,?_⟩
    ·rw [Kd d _ Qa,if_pos Qa,if_pos Qa,show (2 * k+2) / 2 - 1=k by omega,hd];rfl
    ·rw [hins k hk]
     show ((Sf k).after.all fun e=> !Region.binds .any e || (Hv d).getD e.on false)=true
     rw [Array.all_eq_true'];intro e he
     have hc:e={ on:=0,ground:= .data }\/e={ on:=2 * k+1,ground:= .data }:=by simpa [Sf] using he
     rcases hc with rfl | rfl
     ·rw [Kd d _ QI,if_pos QI,if_neg QI];simp
     ·rw [Kd d _ QI,if_pos QI,if_neg QI];simp
   rw [h0] at hm;cases hm
  ·rcases AaL hsz h55 h56 hi with ⟨k,hk,rfl,hd⟩ | hall
   ·unfold wpOp;rw [hins k hk];have hw:Region.wanted (Sf k) (yielded ops a.tmps)=true:=rfl;simp only [hw,if_true];refine .inl (Oper.wp_mono ?_ (hstep d w k hk hd hI));rintro a' w' ⟨rfl,hI'⟩;rw [AfC d k hk]
    exact AeP hsz hins h55 h56 hstep hend n _ w' (by have:=Sh d k hk hd;omega) hI'
   ·obtain ⟨k,hk,hd⟩:=hne;rw [hall k hk] at hd;cases hd
theorem KN {w w':World} {P:Program} {k:TypeId} {R:Value->Option (DataW Unit × List MemPlace)} {b n:Nat} {D:DataW Unit} (h:w.ownsMap P k R b n D) (hb:Below w.heap.size w w'):w'.ownsMap P k R b n D:=by
 obtain ⟨es,clock,h1,h2⟩:=h;exact ⟨es,clock,(hb.block b (Array.getElem?_eq_some_iff.1 h1).1).trans h1,h2⟩
def z64:DataW Unit:= .lit (.int .i64 0)
def VM (kq:Option Nat) (d:Nat->Bool):Int:=match kq with | none=>0 | some k=>if d k=true then KF k else 0
structure Ah6 (B:Nat) (w0:World) (b:Nat) (lq:Lit) (kq:Option Nat) (d:Nat->Bool) (w:World):Prop where
 own:∃ D m,w.ownsMap Tryz.prog 91 (plainElem Tryz.prog 3) b m D/\m+Adw d<=27/\IsMap D/\D.atKey lq z64= .lit (.int .i64 (VM kq d))
 below:Below B w0 w
def AeN (e n:List UInt8) (kq:Option Nat):Prop:=∀ k,k<27->(AeH k=Hl e n↔kq=some k)
theorem Agv:∀ k,(Lit.int .i64 (KF k)).wf=true:=by
 intro k
 by_cases hk:k<27
 ·have h:((List.range 27).all fun k=>(Lit.int .i64 (KF k)).wf)=true:=Qe
  exact List.all_eq_true.1 h k (List.mem_range.2 hk)
 ·have:KF k=0:=by unfold KF;rw [List.getD_eq_getElem?_getD,List.getElem?_eq_none (by show 27<=k;omega)];rfl
  rw [this];decide
theorem Abi {e n:List UInt8} {kq:Option Nat} (hq:AeN e n kq) {d:Nat->Bool} {k:Nat} (hk:k<27):(AeH k=Hl e n->VM kq (Jc d k)=KF k)/\(AeH k≠Hl e n->VM kq (Jc d k)=VM kq d):=by
 constructor
 ·intro h;rw [(hq k hk).1 h]
  show (if Jc d k k=true then KF k else 0)=KF k
  rw [if_pos (by unfold Jc;rw [if_pos rfl])]
 ·intro h
  cases kq with
  | none=>rfl
  | some j=>
   have hj:j≠k:=fun e=>h ((hq k hk).2 (by rw [e]))
   show (if Jc d k j=true then KF j else 0)=(if d j=true then KF j else 0)
   unfold Jc;rw [if_neg hj]
theorem Ad1 {B b:Nat} {w0 w:World} {e n:List UInt8} {kq:Option Nat} (hq:AeN e n kq) {d:Nat->Bool} {k:Nat} (hk:k<27) (hd:d k=false) (hB:B<=b) {a:Act} {Q:Exit->Act->World->Prop}
  (h1:a.eval (.tmp 1)= .map (some b)) (h2:a.eval (.tmp (k+2))=EH k) (hI:Ah6 B w0 b (Hl e n) kq d w):(Sf k).wp Tryz.prog a w (fun a' w'=>a'=a/\Ah6 B w0 b (Hl e n) kq (Jc d k) w') Q:=by
 obtain ⟨D,m,hown,hm,hD,hat⟩:=hI.own;have hc:=Sh d k hk hd;obtain ⟨w',hrun,hown',hg⟩:=hown.update (t:=88) (key:=EH k) (val:= .int .i64 (KF k)) W9 Tryz.underlying88 Qm (Ade k hk) (plainElem_int Tryz.underlying3 (Agv k));have hb:=hown.lt;unfold Oper.wp;have e3:a.eval (.const (.int .i64 (KF k)))= .int .i64 (KF k):=rfl;simp only [execOp,Sf,h1,h2,e3,Sem.run_bind,hrun,Result.andThen]
 refine ⟨rfl,⟨_,m+1,hown',Qa,hD.put _ _,?_⟩,hI.below.grown hg (by have:=hI.below.size;omega) (fun k hk=> ?_)⟩
 ·by_cases hl:AeH k=Hl e n
  ·rw [(Abi hq hk).1 hl,<-hl]
   exact Maps.atKey_put_same hD (by trivial) _ _
  ·rw [(Abi hq hk).2 hl,<-hat]
   exact Maps.atKey_put_other (fun e=>hl e.symm) _ _
 ·cases hk;exact hB
open Go.Maps (Keyed IsMap)
open Go.WideMaps Go.WideElems
theorem Va {P:Program} {md:Region.Mode} {ops:Array Oper} {Q:Exit->Act->World->Prop} {f:Nat} {L L':Array Bool} {a:Act} {w:World} (e:L=L') (h:wpAny P md ops Q f L' a w):wpAny P md ops Q f L a w:=e ▸ h
theorem AfX {d:Nat->Bool} (h:∀ k,k<27->d k=true):Hv d=Hv (fun _=>true):=by
 apply Array.ext_getElem?;intro i;unfold Hv;rw [Array.getElem?_ofFn,Array.getElem?_ofFn]
 by_cases h57:i<57
 ·rw [dif_pos h57,dif_pos h57];dsimp only
  by_cases h54:i<=54
  ·rw [if_pos h54,if_pos h54]
   by_cases hp:i % 2=0/\2<=i
   ·rw [if_pos hp,if_pos hp,h _ Qa]
   ·rw [if_neg hp,if_neg hp]
  ·rw [if_neg h54,if_neg h54]
 ·rw [dif_neg h57,dif_neg h57]
theorem AeM {α:Type} {f g:Nat->α} (h:(List.range 27).map f=(List.range 27).map g):∀ k,k<27->f k=g k:=by
 intro k hk
 have:=congrArg (fun l=>l[k]?) h
 simpa [hk] using this
def AfR (e n:List UInt8) (kq:Option Nat) (w:World) (r:Ending) (w':World):Prop:=
 ∃ b D m,r= .returned (.map (some b))/\w'.ownsMap Tryz.prog 91 (plainElem Tryz.prog 3) b m D/\D.atKey (Hl e n) z64= .lit (.int .i64 (VM kq fun _=>true))/\Below w.heap.size w w'
theorem Afy {kq:Option Nat} {d:Nat->Bool} (hk:∀ k,kq=some k->k<27) (h:∀ k,k<27->d k=true):VM kq d=VM kq fun _=>true:=by
 cases kq with
 | none=>rfl
 | some k=>show (if d k=true then KF k else 0)=(if true=true then KF k else 0);rw [h k (hk k rfl)]
theorem AcW (e n:List UInt8) (kq:Option Nat) (hq:AeN e n kq) (hk:∀ k,kq=some k->k<27) (w:World):Calls Tryz.prog 52 #[] w (AfR e n kq w):=by
 go_enter Tryz.func52,Tryz.ntmps52
 go_upto_region 1 with (fail)
 refine wp_region_noPanic ?_;refine wp_region_any Qb ?_
 refine wpAny_take (i:=1) (oi:=⟨some 2,_,_,_,_,_⟩) (v:=EH 0) rfl Qb Qb Qb (fun _ _ _ h=>h) (Or.inl ⟨Qt,?_⟩) ?_
 ·intro w;kernel_rfl
 try simp only [P3]
 refine wpAny_take (i:=3) (oi:=⟨some 3,_,_,_,_,_⟩) (v:=EH 1) rfl Qb Qb Qb (fun _ _ _ h=>h) (Or.inl ⟨Qt,?_⟩) ?_
 ·intro w;kernel_rfl
 try simp only [P3]
 refine wpAny_take (i:=5) (oi:=⟨some 4,_,_,_,_,_⟩) (v:=EH 2) rfl Qb Qb Qb (fun _ _ _ h=>h) (Or.inl ⟨Qt,?_⟩) ?_
 ·intro w;kernel_rfl
 try simp only [P3]
 refine wpAny_take (i:=7) (oi:=⟨some 5,_,_,_,_,_⟩) (v:=EH 3) rfl Qb Qb Qb (fun _ _ _ h=>h) (Or.inl ⟨Qt,?_⟩) ?_
 ·intro w;kernel_rfl
 try simp only [P3]
 refine wpAny_take (i:=9) (oi:=⟨some 6,_,_,_,_,_⟩) (v:=EH 4) rfl Qb Qb Qb (fun _ _ _ h=>h) (Or.inl ⟨Qt,?_⟩) ?_
 ·intro w;kernel_rfl
 try simp only [P3]
 refine wpAny_take (i:=11) (oi:=⟨some 7,_,_,_,_,_⟩) (v:=EH 5) rfl Qb Qb Qb (fun _ _ _ h=>h) (Or.inl ⟨Qt,?_⟩) ?_
 ·intro w;kernel_rfl
 try simp only [P3]
 refine wpAny_take (i:=13) (oi:=⟨some 8,_,_,_,_,_⟩) (v:=EH 6) rfl Qb Qb Qb (fun _ _ _ h=>h) (Or.inl ⟨Qt,?_⟩) ?_
 ·intro w;kernel_rfl
 try simp only [P3]
 refine wpAny_take (i:=15) (oi:=⟨some 9,_,_,_,_,_⟩) (v:=EH 7) rfl Qb Qb Qb (fun _ _ _ h=>h) (Or.inl ⟨Qt,?_⟩) ?_
 ·intro w;kernel_rfl
 try simp only [P3]
 refine wpAny_take (i:=17) (oi:=⟨some 10,_,_,_,_,_⟩) (v:=EH 8) rfl Qb Qb Qb (fun _ _ _ h=>h) (Or.inl ⟨Qt,?_⟩) ?_
 ·intro w;kernel_rfl
 try simp only [P3]
 refine wpAny_take (i:=19) (oi:=⟨some 11,_,_,_,_,_⟩) (v:=EH 9) rfl Qb Qb Qb (fun _ _ _ h=>h) (Or.inl ⟨Qt,?_⟩) ?_
 ·intro w;kernel_rfl
 try simp only [P3]
 refine wpAny_take (i:=21) (oi:=⟨some 12,_,_,_,_,_⟩) (v:=EH 10) rfl Qb Qb Qb (fun _ _ _ h=>h) (Or.inl ⟨Qt,?_⟩) ?_
 ·intro w;kernel_rfl
 try simp only [P3]
 refine wpAny_take (i:=23) (oi:=⟨some 13,_,_,_,_,_⟩) (v:=EH 11) rfl Qb Qb Qb (fun _ _ _ h=>h) (Or.inl ⟨Qt,?_⟩) ?_
 ·intro w;kernel_rfl
 try simp only [P3]
 refine wpAny_take (i:=25) (oi:=⟨some 14,_,_,_,_,_⟩) (v:=EH 12) rfl Qb Qb Qb (fun _ _ _ h=>h) (Or.inl ⟨Qt,?_⟩) ?_
 ·intro w;kernel_rfl
 try simp only [P3]
 refine wpAny_take (i:=27) (oi:=⟨some 15,_,_,_,_,_⟩) (v:=EH 13) rfl Qb Qb Qb (fun _ _ _ h=>h) (Or.inl ⟨Qt,?_⟩) ?_
 ·intro w;kernel_rfl
 try simp only [P3]
 refine wpAny_take (i:=29) (oi:=⟨some 16,_,_,_,_,_⟩) (v:=EH 14) rfl Qb Qb Qb (fun _ _ _ h=>h) (Or.inl ⟨Qt,?_⟩) ?_
 ·intro w;kernel_rfl
 try simp only [P3]
 refine wpAny_take (i:=31) (oi:=⟨some 17,_,_,_,_,_⟩) (v:=EH 15) rfl Qb Qb Qb (fun _ _ _ h=>h) (Or.inl ⟨Qt,?_⟩) ?_
 ·intro w;kernel_rfl
 try simp only [P3]
 refine wpAny_take (i:=33) (oi:=⟨some 18,_,_,_,_,_⟩) (v:=EH 16) rfl Qb Qb Qb (fun _ _ _ h=>h) (Or.inl ⟨Qt,?_⟩) ?_
 ·intro w;kernel_rfl
 try simp only [P3]
 refine wpAny_take (i:=35) (oi:=⟨some 19,_,_,_,_,_⟩) (v:=EH 17) rfl Qb Qb Qb (fun _ _ _ h=>h) (Or.inl ⟨Qt,?_⟩) ?_
 ·intro w;kernel_rfl
 try simp only [P3]
 refine wpAny_take (i:=37) (oi:=⟨some 20,_,_,_,_,_⟩) (v:=EH 18) rfl Qb Qb Qb (fun _ _ _ h=>h) (Or.inl ⟨Qt,?_⟩) ?_
 ·intro w;kernel_rfl
 try simp only [P3]
 refine wpAny_take (i:=39) (oi:=⟨some 21,_,_,_,_,_⟩) (v:=EH 19) rfl Qb Qb Qb (fun _ _ _ h=>h) (Or.inl ⟨Qt,?_⟩) ?_
 ·intro w;kernel_rfl
 try simp only [P3]
 refine wpAny_take (i:=41) (oi:=⟨some 22,_,_,_,_,_⟩) (v:=EH 20) rfl Qb Qb Qb (fun _ _ _ h=>h) (Or.inl ⟨Qt,?_⟩) ?_
 ·intro w;kernel_rfl
 try simp only [P3]
 refine wpAny_take (i:=43) (oi:=⟨some 23,_,_,_,_,_⟩) (v:=EH 21) rfl Qb Qb Qb (fun _ _ _ h=>h) (Or.inl ⟨Qt,?_⟩) ?_
 ·intro w;kernel_rfl
 try simp only [P3]
 refine wpAny_take (i:=45) (oi:=⟨some 24,_,_,_,_,_⟩) (v:=EH 22) rfl Qb Qb Qb (fun _ _ _ h=>h) (Or.inl ⟨Qt,?_⟩) ?_
 ·intro w;kernel_rfl
 try simp only [P3]
 refine wpAny_take (i:=47) (oi:=⟨some 25,_,_,_,_,_⟩) (v:=EH 23) rfl Qb Qb Qb (fun _ _ _ h=>h) (Or.inl ⟨Qt,?_⟩) ?_
 ·intro w;kernel_rfl
 try simp only [P3]
 refine wpAny_take (i:=49) (oi:=⟨some 26,_,_,_,_,_⟩) (v:=EH 24) rfl Qb Qb Qb (fun _ _ _ h=>h) (Or.inl ⟨Qt,?_⟩) ?_
 ·intro w;kernel_rfl
 try simp only [P3]
 refine wpAny_take (i:=51) (oi:=⟨some 27,_,_,_,_,_⟩) (v:=EH 25) rfl Qb Qb Qb (fun _ _ _ h=>h) (Or.inl ⟨Qt,?_⟩) ?_
 ·intro w;kernel_rfl
 try simp only [P3]
 refine wpAny_take (i:=53) (oi:=⟨some 28,_,_,_,_,_⟩) (v:=EH 26) rfl Qb Qb Qb (fun _ _ _ h=>h) (Or.inl ⟨Qt,?_⟩) ?_
 ·intro w;kernel_rfl
 try simp only [P3]
 refine wpAny_ready (rs:=[0]) Qb Qf ?_
 refine AllReady.cons rfl (fun K hK=> ?_) AllReady.nil
 go_simp;simp only [run_makeMap,Result.andThen_ok];refine hK _ _ ?_;clear hK K
 try simp only [P3]
 refine Va (L':=Hv (fun _=>false)) Qb ?_
 refine AeP (I:=Ah6 w.heap.size w w.heap.size (Hl e n) kq) rfl ?_ ?_ ?_ ?_ ?_ 27 _ _ Qc ?_
 ·exact AeM Qb
 ·exact ⟨_,rfl,Qb⟩
 ·exact ⟨_,rfl,Qb⟩
 ·intro d w1 k hk1 hd hI
  exact Ad1 hq hk1 hd (Nat.le_refl _) rfl (AeM (f:=fun k=>Act.eval _ (.tmp (k+2))) Qb k hk1) hI
 ·intro d w1 hd hI;obtain ⟨D,m,hown,-,-,hat⟩:=hI.own;have hbel:=hI.below;rw [Afy hk hd] at hat;rw [AfX hd];clear hI;refine wpAny_ready (rs:=[55]) Qb Qf ?_
  refine AllReady.cons rfl (fun K hK=> ?_) AllReady.nil
  go_simp;refine hK _ _ ?_;clear hK K;refine wpAny_ready (rs:=[56]) Qb Qf ?_
  refine AllReady.cons rfl (fun K hK=> ?_) AllReady.nil
  go_simp;refine hK _ _ ?_;clear hK K;refine wpAny_done Qb ?_ _;refine NoPanic.normal ?_;go_wp2_with fail;go_ret;exact ⟨_,D,m,rfl,hown,hat,hbel⟩
 ·refine ⟨⟨.map [],0,?_,Qc,Maps.isMap_empty,?_⟩,(Below.refl _ _).drew.alloc (Nat.le_refl _) _⟩
  ·exact World.ownsMap_made w.drew _ _ _
  ·cases kq<;>rfl
theorem Ad2 {s t:ByteArray} {l:List UInt8} (h:t.toList=AJ s.toList) (hl:AJ s.toList=l):t=⟨l.toArray⟩:=Bb ((h.trans hl).trans (toList_mk l).symm)
theorem Si (s t:ByteArray) (e n:List UInt8) (kq:Option Nat) (x:Int) (he:AJ s.toList=e) (hn:AJ t.toList=n) (hs:s.size<=1000) (ht:t.size<=1000) (hq:AeN e n kq) (hk:∀ k,kq=some k->k<27) (hx:VM kq (fun _=>true)=x) (hko:keyOf Tryz.prog 91 (Ah8 e n)=some (Hl e n)) (w:World):
  Calls Tryz.prog 21 #[.string s,.string t] w fun r w'=>r= .returned (.int .i64 x)/\Below w.heap.size w w':=by
 have hB:Below w.heap.size w w:=Below.refl _ _;go_enter Tryz.func21,Tryz.ntmps21;go_wp2_with fail;refine (AcW e n kq hq hk _).mono ?_;rintro r w1 ⟨b,D,m,rfl,hown,hat,hb⟩
 replace hB:=hB.next hb
 clear hb;go_wp2_with fail;refine (EM _ _ Qa).mono ?_;rintro r w2 ⟨e1,rfl,he1,hb⟩
 replace hB:=hB.next hb
 replace hown:=KN hown hb;clear hb;obtain rfl:=Ad2 he1.out he;go_wp2_with fail;refine (EM _ _ Qa).mono ?_;rintro r w3 ⟨n1,rfl,hn1,hb⟩
 replace hB:=hB.next hb
 replace hown:=KN hown hb;clear hb;obtain rfl:=Ad2 hn1.out hn;obtain ⟨c,hrun,hatc,-⟩:=hown.lookup_int W9 Tryz.underlying88 Tryz.underlying3 Qb hko
 have hc:c=x:=by
  have e1:=hatc.symm.trans hat;rw [hx] at e1;cases e1;rfl
 subst hc;unfold Ah8 at hrun;clear hatc hat hown he1 hn1 hko;go_wp2_with fail;go_ret;exact ⟨rfl,hB⟩
def FP (b:Nat) (w w':World):Prop:=∀ g c T,T≠5->g≠b->AG w g c T->AG w' g c T
theorem FP.refl (b:Nat) (w:World):FP b w w:=fun _ _ _ _ _ h=>h
theorem FP.trans {b:Nat} {u v w:World} (h:FP b u v) (k:FP b v w):FP b u w:=fun g c T h1 h2 h3=>k g c T h1 h2 (h g c T h1 h2 h3)
theorem FP.of {b:Nat} {v w:World} (h:Below v.heap.size v w):FP b v w:=fun _ _ _ _ _ h3=>h3.keep h
theorem TQ {b C n:Nat} {v:Value} {xs:List Value} {w1 w2:World} (hown:w1.ownsRow C 5 1 v n xs) (hg:w1.grownBy w2 v.ownBlock):FP b w1 w2:=fun g c T hT _ h3=>by
 refine (hg.block g h3.lt ?_).trans h3
 rcases hown.2 with ⟨rfl,_⟩ | ⟨k,cap,cur,rfl,_,hh,_⟩
 ·exact fun e=>by cases e
 ·intro e
  obtain rfl:g=k:=by simpa [Value.ownBlock] using e
  have h4:w1.heap[g]? =some (.cells c T (0,0)):=h3;rw [hh] at h4;simp only [Option.some.injEq,Obj.cells.injEq] at h4;exact hT h4.2.1.symm
theorem Kx {b:Nat} {w:World} (i:Nat) (v:Value):FP b w (w.setCell ⟨b,i,none⟩ v):=fun g c T _ hgb h3=>(Below.heap_setCell _ _ _ _ hgb).trans h3
theorem Io (C b:Nat) (l:List UInt8) (s:ByteArray) (w:World) (h:G5 w C b l) (hl:l.length<=1099511627776) (hsz:s.size<=1099511627776) (hC:C<=w.heap.size):
  Calls Tryz.prog 40 #[.pointer (some ⟨b,0,none⟩),.string s] w fun e w'=>e= .returned (.tuple #[.int .i64 s.size,.nilIface])/\G5 w' C b (l++s.toList)/\BY (JQ b C) w w'/\FP b w w':=by
 obtain ⟨i0,hi,hz0,hz1,hz2⟩:=info_parts Kl;have h0:=h.to (Nat.zero_le _) (Nat.zero_le _);obtain ⟨p0,v0,hp0,hblk0,hown0,hne0⟩:=h;go_enter Tryz.func40,Tryz.ntmps40;go_wp2_with fail;refine (Lx b l _ h0).mono ?_;rintro e w1 ⟨rfl,⟨hBb,v,hblk,hown,hne⟩,hw1⟩
 have hkt1:FP b w w1:=by
  rcases hw1 with rfl | rfl
  ·exact FP.refl _ _
  ·exact Kx _ _
 have hv:v=v0/\BY (JQ b C) w w1/\w.heap.size<=w1.heap.size:=by
  rcases hw1 with rfl | rfl
  ·rw [hblk0] at hblk;simp only [Option.some.injEq,Obj.cells.injEq,Array.mk.injEq,List.cons.injEq,and_true] at hblk;exact ⟨hblk.2.symm,BY.refl _ _,Nat.le_refl _⟩
  ·rw [Ba hblk0] at hblk;simp only [Option.some.injEq,Obj.cells.injEq,and_true] at hblk;have:(#[p0,v0]:Array Value).setIfInBounds 0 (.pointer (some ⟨b,0,none⟩))= #[.pointer (some ⟨b,0,none⟩),v0]:=rfl;rw [this] at hblk;simp only [Array.mk.injEq,List.cons.injEq,and_true,true_and] at hblk;exact ⟨hblk.symm,(BY.refl _ _).set (.inl rfl) _ _,Aky⟩
 obtain ⟨rfl,hch,hs⟩:=hv;have hown:=J1 hown hown0;clear hw1 hown0 hblk0 h0 hp0 hne0;have hlt:=CH hblk;have c1:w1.cell? ⟨b,1,none⟩=some v:=QN;rw [Lib.byteCells_length] at hown
 go_wp2_with (at_builtin;refine Lib.wpList_append_own_string _ rfl _ _ 25 9 rfl C 5 i0 Tryz.underlying25 Tryz.underlying9 hi hz0 hz1 hz2 _ _ _ rfl hown s rfl Qm Qa Qa ?_;intro v' w2 hown' hgrow _;obtain ⟨a2,k2,c2,rfl⟩:=ES hown';have hblk2:=(hgrow.block b hlt (fun e=>hne e.symm)).trans hblk;obtain ⟨d1,f1⟩:=GA hblk2)
 go_wp2_with fail;go_ret2
 have hbel:Below C w1 w2:=(Below.refl C w1).grown hgrow Qa (fun k hk=>(hown.lt k hk).1)
 have hch2:BY (JQ b C) w1 w2:=⟨hbel.os,hbel.tape,hbel.output,hbel.size,fun k hk hn=>hbel.block k (by
  unfold JQ at hn;rw [not_or] at hn;omega)⟩
 refine ⟨rfl,?_,(hch.trans hch2).set (.inl rfl) _ _,(hkt1.trans (TQ hown hgrow)).trans (Kx _ _)⟩
 have hout:w2.ownsRow C 5 1 (.slice a2 k2 c2) (Lib.byteCells (l++s.toList)).length (Lib.byteCells (l++s.toList)):=by
  rw [Cv,List.length_append,Lib.byteCells_length,Lib.byteCells_length,<-JX,Aa];exact hown'
 have hput:=Lib.BuilderAt.put (B:=0) (Nat.zero_le b) hblk2 (DG hout (Nat.zero_le _)) Ut;obtain ⟨_,v3,hblk3,hown3,hne3⟩:=hput;have e3:=(Ba (i:=1) (v:= .slice a2 k2 c2) hblk2).symm.trans hblk3;simp only [Option.some.injEq,Obj.cells.injEq,and_true] at e3;have e4:(#[.pointer (some ⟨b,0,none⟩),v]:Array Value).setIfInBounds 1 (.slice a2 k2 c2)= #[.pointer (some ⟨b,0,none⟩),.slice a2 k2 c2]:=rfl;rw [e4] at e3;simp only [Array.mk.injEq,List.cons.injEq,and_true,true_and] at e3;subst e3;exact ⟨_,_,.inr rfl,hblk3,J1 hown3 hout,hne3⟩
theorem ZG (C b:Nat) (l:List UInt8) (c:UInt8) (w:World) (h:G5 w C b l) (hl:l.length<=1099511627776) (hC:C<=w.heap.size):
  Calls Tryz.prog 41 #[.pointer (some ⟨b,0,none⟩),.int .u8 (c.toNat:Int)] w fun e w'=>e= .returned .nilIface/\G5 w' C b (l++[c])/\BY (JQ b C) w w'/\FP b w w':=by
 obtain ⟨i0,hi,hz0,hz1,hz2⟩:=info_parts Kl;have h0:=h.to (Nat.zero_le _) (Nat.zero_le _);obtain ⟨p0,v0,hp0,hblk0,hown0,hne0⟩:=h;go_enter Tryz.func41,Tryz.ntmps41;go_wp2_with fail;refine (Lx b l _ h0).mono ?_;rintro e w1 ⟨rfl,⟨hBb,v,hblk,hown,hne⟩,hw1⟩
 have hkt1:FP b w w1:=by
  rcases hw1 with rfl | rfl
  ·exact FP.refl _ _
  ·exact Kx _ _
 have hv:v=v0/\BY (JQ b C) w w1/\w.heap.size<=w1.heap.size:=by
  rcases hw1 with rfl | rfl
  ·rw [hblk0] at hblk;simp only [Option.some.injEq,Obj.cells.injEq,Array.mk.injEq,List.cons.injEq,and_true] at hblk;exact ⟨hblk.2.symm,BY.refl _ _,Nat.le_refl _⟩
  ·rw [Ba hblk0] at hblk;simp only [Option.some.injEq,Obj.cells.injEq,and_true] at hblk;have:(#[p0,v0]:Array Value).setIfInBounds 0 (.pointer (some ⟨b,0,none⟩))= #[.pointer (some ⟨b,0,none⟩),v0]:=rfl;rw [this] at hblk;simp only [Array.mk.injEq,List.cons.injEq,and_true,true_and] at hblk;exact ⟨hblk.symm,(BY.refl _ _).set (.inl rfl) _ _,Aky⟩
 obtain ⟨rfl,hch,hs⟩:=hv;have hown:=J1 hown hown0;clear hw1 hown0 hblk0 h0 hp0 hne0;have hlt:=CH hblk;have c1:w1.cell? ⟨b,1,none⟩=some v:=QN;rw [Lib.byteCells_length] at hown
 go_wp2_with (at_builtin;refine wpList_append_own _ rfl _ _ 25 rfl C 5 i0 (.int .u8 0) 1 1 Tryz.underlying25 hi hz0 hz1 hz2 rfl Qc _ _ _ rfl (hown.alloc _) ⟨w1.heap.size,0,none⟩ 1 1 [.int .u8 (c.toNat:Int)] rfl rfl (RZ w1 _ _) (by intro u hu;simp at hu;subst hu;rfl) Qm Qa Qi ?_;intro v' w2 hown' hgrow _;obtain ⟨a2,k2,c2,rfl⟩:=ES hown';have hblk2:=(hgrow.block b Qi (fun e=>hne e.symm)).trans ((Lib.alloc_old w1 _ b hlt).trans hblk);obtain ⟨d1,f1⟩:=GA hblk2)
 go_wp2_with fail;go_ret
 have hbel:Below C w1 w2:=((Below.refl C w1).alloc Qa _).grown hgrow Qi (fun k hk=>(hown.lt k hk).1)
 have hch2:BY (JQ b C) w1 w2:=⟨hbel.os,hbel.tape,hbel.output,hbel.size,fun k hk hn=>hbel.block k (by
  unfold JQ at hn;rw [not_or] at hn;omega)⟩
 refine ⟨rfl,?_,(hch.trans hch2).set (.inl rfl) _ _,(hkt1.trans ((FP.of ((Below.refl _ _).alloc (Nat.le_refl _) _)).trans (TQ (hown.alloc _) hgrow))).trans (Kx _ _)⟩
 have hout:w2.ownsRow C 5 1 (.slice a2 k2 c2) (Lib.byteCells (l++[c])).length (Lib.byteCells (l++[c])):=by
  rw [Cv,List.length_append,Lib.byteCells_length];exact hown'
 have hput:=Lib.BuilderAt.put (B:=0) (Nat.zero_le b) hblk2 (DG hout (Nat.zero_le _)) Ut;obtain ⟨_,v3,hblk3,hown3,hne3⟩:=hput;have e3:=(Ba (i:=1) (v:= .slice a2 k2 c2) hblk2).symm.trans hblk3;simp only [Option.some.injEq,Obj.cells.injEq,and_true] at e3;have e4:(#[.pointer (some ⟨b,0,none⟩),v]:Array Value).setIfInBounds 1 (.slice a2 k2 c2)= #[.pointer (some ⟨b,0,none⟩),.slice a2 k2 c2]:=rfl;rw [e4] at e3;simp only [Array.mk.injEq,List.cons.injEq,and_true,true_and] at e3;subst e3;exact ⟨_,_,.inr rfl,hblk3,J1 hown3 hout,hne3⟩
theorem Aax (a b:List EW):∃ t,A9 (a++b)=A9 a++t:=by
 cases a with
 | nil=>exact ⟨A9 b,rfl⟩
 | cons c r=>
  refine ⟨Ch b,?_⟩;show Ck c++Ch (r++b)=(Ck c++Ch r)++Ch b;unfold Ch;rw [List.flatMap_append,List.append_assoc]
theorem WU (M:List EW) (k:Nat):(A9 (M.take k)).length<=(A9 M).length:=by
 obtain ⟨t,ht⟩:=Aax (M.take k) (M.drop k);rw [List.take_append_drop] at ht;rw [ht,List.length_append];omega
theorem AcX {M:List EW} {k:Nat} (h:k<M.length):A9 (M.take (k+1))=(A9 (M.take k)++Aeu k)++Ck M[k]:=by
 rw [List.take_succ_eq_append_getElem h,Xz];congr 2;unfold Aeu
 by_cases h0:k=0
 ·subst h0;rfl
 ·rw [if_neg h0,if_neg (by
   intro e;have:=congrArg List.length e
   rw [List.length_take,List.length_nil] at this;omega)]
theorem WT {x:AO} {it:BG} (h:Wb x it):Ck (Co it)=AW it.url true++Du x.ws:=by
 show AW it.url true++it.ws.flatMap (fun t=>32 :: t)=_
 rw [<-h.ws];unfold Du;rw [List.flatMap_map]
theorem Af2 (v:Value) (l:List AO) (L:List BG) (w:World) (hE:Gu w) (hr:FA w v l) (his:DK l L) (hg:∀ it∈L,AI it.url/\A6 it.url<=1000000000) (hn:l.length<=1000000000) (hw:∀ x∈l,x.ws.length<=1000000000) (hz:(A9 (L.map Co)).length<=1000000000):
  Calls Tryz.prog 61 #[v] w (EI w (A9 (L.map Co))):=by
 have hlen:=his.len;obtain ⟨M,hM⟩:=N2 (L.map Co)
 have hMl:M.length=l.length:=by rw [<-hM,List.length_map,hlen]
 have hMk:∀ k (h:k<L.length),M[k]? =some (Co L[k]):=fun k h=>by rw [<-hM,List.getElem?_map,List.getElem?_eq_getElem h];rfl
 rw [hM] at hz⊢;replace hM:=H0 hM;have hbl:=G5.fresh w w.heap.size;have hb0:Below w.heap.size w (w.alloc (.cells #[.pointer none,.slice none 0 0] 76)):=(Below.refl _ _).alloc (Nat.le_refl _) _
 have hsz0:w.heap.size+1<=(w.alloc (.cells #[.pointer none,.slice none 0 0] 76)).heap.size:=by rw [Ai];omega
 obtain ⟨w0,hw0⟩:∃ w0,w.alloc (.cells #[.pointer none,.slice none 0 0] 76)=w0:=⟨_,rfl⟩;rw [hw0] at hbl hb0 hsz0;obtain ⟨b,hbb⟩:=N2 (w.heap.size);obtain ⟨pa,c,rfl,hcap,hrow,hreads⟩:=hr;have hE':=H0 hE;replace hrow:=H0 hrow;replace hreads:=H0 hreads;replace hg:=H0 hg;replace hw:=H0 hw;replace his:=H0 his;replace hMk:=H0 hMk;replace hlen:=H0 hlen;replace hMl:=H0 hMl;clear hE;go_enter Tryz.func61,Tryz.ntmps61;go_wp2_with fail;rw [hbb] at hbl hb0 hsz0
 go_loopw [4,5,7,10] (fun v4 v5 v7 iv wr=>∃ k:Nat,iv= .int .i64 (k:Int)/\k<=l.length/\G5 wr b b (A9 (M.take k))/\Below b w wr/\b+1<=wr.heap.size) (fun _ _ _ i _=>l.length - (intOf i).toNat)
 case atStart=>exact ⟨0,rfl,Nat.zero_le _,hbl,hb0,hsz0⟩
 case round=>
  obtain ⟨k,rfl,hk,hbld,hbel,hsz⟩:=hrel;clear hbl hb0 hsz0
  by_cases hlt:k<l.length
  ·have hlen2:=hlen.out;have hMl2:=hMl.out;obtain ⟨g1,o1,rfl,hcell⟩:=hrow.out Qa;have y0:=hcell k hlt;have hX:=hreads.out l[k] (List.getElem_mem ..);have hI:=his.out.get k hlt Qa;have hG:=hg.out L[k] (List.getElem_mem ..);have hW:=hw.out l[k] (List.getElem_mem ..);have hMe:=AcX (M:=M) (k:=k) Qa;have hMp:=WU M (k+1)
   have hMv:M[k]' Qa=Co L[k]:=by
    have:=hMk.out k Qa;rw [List.getElem?_eq_getElem Qa] at this;exact Option.some.inj this
   rw [hMv] at hMe;obtain ⟨x,hx⟩:=N2 (l[k]);obtain ⟨it,hit⟩:=N2 (L[k]' Qa);rw [hx] at y0 hX hI hW;rw [hit] at hI hG hMe;rw [WT hI] at hMe;obtain ⟨xr,xu,xw,xws⟩:=x;obtain ⟨hXp,hXc,hXw⟩:=hX;dsimp only at hXp hXc hXw hI hW hMe;obtain ⟨ga,gc,rfl,hwc⟩:=hXw;have hy:wr.rangeAt g1 (o1+k * 25) (At xr xu (.slice ga xws.length gc)).toList:=FG y0 hbel Qa;have hltI:(k:Int)<(l.length:Int):=Qa;have hc3:AG (wr.alloc (.cells (At xr xu (.slice ga xws.length gc)) 48)) wr.heap.size (At xr xu (.slice ga xws.length gc)) 48:=AG.new _ _ _;have hb3:G5 (wr.alloc (.cells (At xr xu (.slice ga xws.length gc)) 48)) b b (A9 (M.take k)):=hbld.keep ((Below.refl _ _).alloc (Nat.le_refl _) _);have hbe3:Below b w (wr.alloc (.cells (At xr xu (.slice ga xws.length gc)) 48)):=hbel.alloc Qa _;have hs3:(wr.alloc (.cells (At xr xu (.slice ga xws.length gc)) 48)).heap.size=wr.heap.size+1:=Ai _ _;obtain ⟨w3,hw3⟩:∃ w3,wr.alloc (.cells (At xr xu (.slice ga xws.length gc)) 48)=w3:=⟨_,rfl⟩;rw [hw3] at hc3 hb3 hbe3 hs3;replace hI:=H0 hI;replace hx:=H0 hx;replace hit:=H0 hit;replace hMe:=H0 hMe;clear y0 hcell hMv hbld hit hlen2 hMl2
   go_upto_region 5 with (first
    | (refine wpList_load_mid rfl 48 _ rfl g1 (o1+k * 25) rfl (At xr xu (.slice ga xws.length gc)).toList _ hy Tryz.underlying48 rfl (J8 ⟨xr,xu,.slice ga xws.length gc,xws⟩) ?_)
    | (refine Af rfl 48 _ _ rfl rfl (At xr xu (.slice ga xws.length gc)) _ _ _ rfl Qf rfl (D7 _ _ _) rfl (JH _ _ _ rfl) ?_))
   refine Ap (R:=fun wx=>w3=wx) hw3.symm ?_
   rintro _ rfl;clear hw3 hy;obtain ⟨p5,hp5⟩:∃ p,wr.heap.size=p:=⟨_,rfl⟩;rw [hp5] at hc3 hs3 hsz⊢;obtain ⟨P0,hP0⟩:∃ P,A9 (M.take k)++Aeu k=P:=⟨_,rfl⟩;rw [hP0] at hMe
   have hP0z:(A9 (M.take k)++Aeu k).length<=1000000000:=by
    have e:=hMe.out;rw [<-hP0] at e;rw [e,List.length_append] at hMp;omega
   have hPk:(A9 (M.take k)).length<=1000000000:=by rw [List.length_append] at hP0z;omega
   replace hP0:=H0 hP0;have hbb1:b<=w3.heap.size:=Qa
   go_upto_if 16 with (fail)
   go_cut [17] (fun s17 wx=>G5 wx b b P0/\Below b w wx/\AG wx p5 (At xr xu (.slice ga xws.length gc)) 48/\b+1<=wx.heap.size)
   case first=>
    by_cases hk0:k=0
    ·subst hk0
     have hsep:P0=A9 (M.take 0):=by rw [<-hP0.out];rfl
     rw [<-hsep] at hb3;replace hsep:=H0 hsep;go_wp2_with fail;go_meet;exact ⟨hb3,hbe3,hc3,Qa⟩
    ·have hkI:(0:Int)<(k:Int):=Qa
     have hsep:P0=A9 (M.take k)++[44,32]:=by rw [<-hP0.out];unfold Aeu;rw [if_neg hk0]
     replace hsep:=H0 hsep;go_wp2_with fail;refine (Io b b _ ⟨#[44,32]⟩ w3 hb3 Qa Qc hbb1).mono ?_;rintro e w4 ⟨rfl,hb4,hch4,hkt4⟩
     have hb4':G5 w4 b b P0:=by rw [hsep.out];rwa [show (ByteArray.mk #[44,32]).toList=[44,32] from toList_mk _] at hb4
     have hbe4:Below b w w4:=hbe3.trans (hch4.below hbb1 (fun k hk=>by rcases hk with rfl | hk;exact Nat.le_refl _;exact hk))
     have hc4:=hkt4 _ _ _ Qc Qa hc3;have hs4:=hch4.size;clear hb4 hch4 hkt4 hb3 hbe3 hc3;go_wp2_with fail;go_meet;exact ⟨hb4',hbe4,hc4,Qa⟩
   case rest=>
    obtain ⟨hb4,hbe4,hc4,hs4⟩:=hcut;clear hb3 hbe3 hc3;have hp5b:b+1<=p5:=hsz
    have hyU:wc.rangeAt p5 1 (Ab xu).toList:=by
     have:=Fg (x:=⟨xr,xu,.slice ga xws.length gc,xws⟩) (o:=0) hc4.whole;simpa using this
    have hUW:DM wc xu it.url:=⟨hI.out.url,hXp.below hbe4 Qa,hXc⟩;have hfit:=H0 (EO hI.out.url hG.1 Qa);have hwx:=H0 (FD hI.out.url true);have hlenu:=CY hG.1 true;go_wp2_with (refine wpList_load_mid rfl 34 _ rfl p5 1 rfl (Ab xu).toList _ hyU Tryz.underlying34 rfl (Gv _) ?_)
    refine (Gr xu true wc hUW.inn hfit.out (hE'.out.next (by rw [hbb];exact hbe4)).tabs).mono ?_
    rintro e w5 ⟨tw,rfl,htw,hb45⟩;have htwl:Hid (tw.toList=AW it.url true):=H0 (htw.out.trans hwx.out)
    have htz:tw.size<=1000000050:=by rw [<-Aa,htwl.out];omega
    have hb5:=hb4.keep hb45;have hc5:=hc4.keep hb45;have hbe5:Below b w w5:=hbe4.trans (hb45.mono Qa);have hs5:=hb45.size
    have hPz:P0.length<=1000000000:=by rw [<-hP0.out];exact hP0z
    clear hyU hUW hb4 hc4 hbe4 hb45 htw;go_wp2_with fail;refine (Io b b P0 tw w5 hb5 Qa Qa Qa).mono ?_;rintro e w6 ⟨rfl,hb6,hch6,hkt6⟩
    have hbe6:Below b w w6:=hbe5.trans (hch6.below Qa (fun k hk=>by rcases hk with rfl | hk;exact Nat.le_refl _;exact hk))
    have hc6:=hkt6 _ _ _ Qc Qa hc5;have hs6:=hch6.size;have y24:=(hc6.at 24).trans (show (At xr xu (.slice ga xws.length gc))[24]? =some (.slice ga xws.length gc) from rfl);obtain ⟨P1,hP1⟩:∃ P,P0++tw.toList=P:=⟨_,rfl⟩;rw [hP1] at hb6
    have hMe2:Hid (A9 (M.take (k+1))=P1++Du xws):=H0 (by rw [hMe.out,<-hP1,htwl.out,List.append_assoc])
    have hP1z:(P1++Du xws).length<=1000000000:=by rw [<-hMe2.out];omega
    rw [List.length_append] at hP1z;replace hP1:=H0 hP1;clear hb5 hc5 hbe5 hch6 hkt6 hMe;go_wp2_with fail
    go_loopw [7,25] (fun v7 jv wq=>∃ j:Nat,jv= .int .i64 (j:Int)/\j<=xws.length/\G5 wq b b (P1++Du (xws.take j))/\Below b w wq/\b+1<=wq.heap.size) (fun _ i _=>xws.length - (intOf i).toNat)
    case atStart=>exact ⟨0,rfl,Nat.zero_le _,by rw [List.take_zero];simpa [Du] using hb6,hbe6,Qa⟩
    case round=>
     obtain ⟨j,rfl,hj,hbq,hbeq,hsq⟩:=hrel;clear hb6 hbe6 hc6 y24
     by_cases hjl:j<xws.length
     ·obtain ⟨g2,o2,rfl,hwcell⟩:=hwc Qa;have y2:=hwcell j hjl;have hlt2:=World.block_lt_of_cell? w _ y2
      have y3:wr.cell? ⟨g2,o2+j,none⟩=some (.string xws[j]):=(hbeq.cell (by simp at hlt2⊢;omega)).trans y2
      have hsn:=Yp hjl;have hpre:=Rq xws (j+1);have hpre0:=Rq xws j;rw [hsn,List.length_append,List.length_cons,Aa] at hpre;have hjI:(j:Int)<(xws.length:Int):=Qa;have hz1:(P1++Du (xws.take j)).length<=1000000000:=Ahw;have hz2:xws[j].size<=1000000000:=Qa;obtain ⟨tj,htj⟩:=N2 (xws[j]);rw [htj] at y3 hsn hz2;obtain ⟨P2,hP2⟩:∃ P,P1++Du (xws.take j)=P:=⟨_,rfl⟩;rw [hP2] at hbq hz1
      have hnext:Hid (P1++Du (xws.take (j+1))=(P2++[32])++tj.toList):=H0 (by rw [hsn,<-hP2];simp)
      replace htj:=H0 htj;replace hP2:=H0 hP2;clear hsn hpre y2 hwcell;go_wp2_with fail;refine (ZG b b P2 32 wr hbq Qa Qa).mono ?_;rintro e w7 ⟨rfl,hb7,hch7,-⟩
      have hbe7:Below b w w7:=hbeq.trans (hch7.below Qa (fun k hk=>by rcases hk with rfl | hk;exact Nat.le_refl _;exact hk))
      have hs7:=hch7.size;clear hbq hbeq hch7 y3;go_wp2_with fail
      refine (Io b b (P2++[32]) tj w7 hb7 (by rw [List.length_append,List.length_singleton];omega) Qa Qa).mono ?_
      rintro e w8 ⟨rfl,hb8,hch8,-⟩
      have hbe8:Below b w w8:=hbe7.trans (hch8.below Qa (fun k hk=>by rcases hk with rfl | hk;exact Nat.le_refl _;exact hk))
      have hs8:=hch8.size;clear hb7 hbe7 hch8;go_wp2_with fail
      refine ⟨⟨j+1,Ql,Qa,by rw [hnext.out];exact hb8,hbe8,Qa⟩,?_⟩
      simp [intOf];omega
     ·have hjI:(xws.length:Int)<=(j:Int):=Qa
      have hfin:A9 (M.take (k+1))=P1++Du (xws.take j):=by rw [hMe2.out,List.take_of_length_le Qa]
      rw [<-hfin] at hbq;replace hfin:=H0 hfin;go_wp2_with fail;go_roundw
      case rel=>exact ⟨k+1,Ql,Qa,hbq,hbeq,hsq⟩
      case measure=>simp [intOf];omega
  ·have hltI:(l.length:Int)<=(k:Int):=Qa
   have hall:M.take k=M:=List.take_of_length_le (by rw [hMl.out];omega)
   rw [hall] at hbld;have hBl:Kz wr b b (A9 M):=hbld.to (Nat.le_refl _) (Nat.le_refl _);replace hall:=H0 hall;go_wp2_with fail;refine (Bq b b _ wr hBl Qa).mono ?_;rintro e w3 ⟨tt,rfl,htt,hb3⟩;have hbe3:=hbel.trans hb3;clear hb3 hBl hbld;go_wp2_with fail;go_ret
   exact ⟨tt,rfl,htt,by rw [hbb];exact hbe3⟩
theorem Acu (v:Value) (t:ByteArray) (l:List AO) (L:List BG) (w:World) (hE:Gu w) (hr:FA w v l) (his:DK l L) (hg:∀ it∈L,AI it.url/\A6 it.url<=1000000000) (h0:0<l.length) (hn:l.length<=1000000000) (hw:∀ x∈l,x.ws.length<=1000000000) (hz:(A9 (L.map Co)).length<=1000000000):
  Calls Tryz.prog 28 #[.int .i64 2,.agg (readC v t)] w (EI w (BL (A9 (L.map Co)))):=by
 have hb0:Below w.heap.size w (w.alloc (.cells (readC v t) 44)):=(Below.refl _ _).alloc (Nat.le_refl _) _;have hc0:AG (w.alloc (.cells (readC v t) 44)) w.heap.size (readC v t) 44:=AG.new _ _ _;obtain ⟨w0,hw0⟩:∃ w0,w.alloc (.cells (readC v t) 44)=w0:=⟨_,rfl⟩;rw [hw0] at hb0 hc0;have hr0:=hr.below hb0 (Nat.le_refl _)
 have hlist:=Af2 v l L w0 (hE.next hb0) hr0 his hg hn hw hz
 obtain ⟨pa,c,rfl,-,-,-⟩:=hr0;have y0:=(hc0.at 0).trans (show (readC (.slice pa l.length c) t)[0]? =some (.slice pa l.length c) from rfl);obtain ⟨N,hN⟩:=N2 (l.length);rw [hN] at y0 hw0 hlist h0⊢;have hN0:decide ((N:Int)=0)=false:=QS;obtain ⟨W,hW⟩:=N2 (A9 (L.map Co));rw [hW] at hlist hz⊢;replace hW:=H0 hW;replace hN:=H0 hN;replace hlist:=H0 hlist;clear hr his hg hw hE hc0;go_enter Tryz.func28,Tryz.ntmps28;go_wp2_with fail;clear hw0;refine hlist.out.mono ?_;rintro e w1 ⟨tw,rfl,htw,hb1⟩
 have hb2:=hb0.next hb1
 have htz:tw.size<=4294967296:=by rw [<-Aa,htw.out];omega
 clear hb0 hb1 y0 hlist;go_wp2_with fail;refine (IH tw w1 htz).mono ?_;rintro e w2 ⟨te,rfl,hte,hb3⟩
 have hfin:Hid (te.toList=BL W):=H0 (by rw [hte.out,htw.out])
 have hb4:=hb2.next hb3
 clear hb3 hb2;go_wp2_with fail;go_ret;exact ⟨_,rfl,hfin,hb4⟩
def I6:Ao:=(DJ [104,116,116,112,115,58,47,47,104,47,97,47,98]).getD FU
theorem Af1:(DJ [104,116,116,112,115,58,47,47,104,47,97,47,98]).isSome=true:=Qe
def Er:Ao->Bool:=Eu [⟨#[104,116,116,112,115]⟩,⟨#[100,97,116,97]⟩] [⟨#[104]⟩,⟨#[46,99,46,100]⟩] [⟨#[105,109,97,103,101,47,112,110,103]⟩]
theorem goV:A5 Er 200 2 I6 [120,32,49,120,44,47,47,101,32,50,120,44,32,104,116,116,112,115,58,47,47,81,46,67,46,68,47,39,38,97,109,112,59,44,32,100,97,116,97,58,105,109,97,103,101,47,103,105,102,44,97]=⟨3,0,[104,116,116,112,115,58,47,47,104,47,97,47,120,32,49,120,44,32,104,116,116,112,115,58,47,47,113,46,99,46,100,47,38,35,51,57,59,38,97,109,112,59]⟩:=by
 have h0:(A5 Er 200 2 I6 [120,32,49,120,44,47,47,101,32,50,120,44,32,104,116,116,112,115,58,47,47,81,46,67,46,68,47,39,38,97,109,112,59,44,32,100,97,116,97,58,105,109,97,103,101,47,103,105,102,44,97]).kind=3:=Qe;have h1:(A5 Er 200 2 I6 [120,32,49,120,44,47,47,101,32,50,120,44,32,104,116,116,112,115,58,47,47,81,46,67,46,68,47,39,38,97,109,112,59,44,32,100,97,116,97,58,105,109,97,103,101,47,103,105,102,44,97]).why=0:=Qe;have h2:(A5 Er 200 2 I6 [120,32,49,120,44,47,47,101,32,50,120,44,32,104,116,116,112,115,58,47,47,81,46,67,46,68,47,39,38,97,109,112,59,44,32,100,97,116,97,58,105,109,97,103,101,47,103,105,102,44,97]).out=[104,116,116,112,115,58,47,47,104,47,97,47,120,32,49,120,44,32,104,116,116,112,115,58,47,47,113,46,99,46,100,47,38,35,51,57,59,38,97,109,112,59]:=Qe;generalize A5 Er 200 2 I6 _=v at h0 h1 h2⊢;cases v
 simp_all
theorem goW:(A5 Er 200 1 I6 [106,97,118,97,38,84,97,98,59,115,99,114,105,112,116,58,120]).kind=2/\(A5 Er 200 1 I6 [106,97,118,97,38,84,97,98,59,115,99,114,105,112,116,58,120]).why=4/\(A5 Er 200 1 I6 [106,97,118,97,38,84,97,98,59,115,99,114,105,112,116,58,120]).out=[]:=Qe
theorem AfA:DJ [104,116,116,112,115,58,47,47,104,47,97,47,98]=some I6:=by
 unfold I6;have h:=Af1
 cases e:DJ [104,116,116,112,115,58,47,47,104,47,97,47,98] with
 | none=>rw [e] at h;cases h
 | some u=>rfl
theorem Me:AI I6:=NV AfA
theorem OR:A6 I6<=1000000:=Qe
theorem Afa:List.count 0 ([120,32,49,120,44,47,47,101,32,50,120,44,32,104,116,116,112,115,58,47,47,81,46,67,46,68,47,39,38,97,109,112,59,44,32,100,97,116,97,58,105,109,97,103,101,47,103,105,102,44,97]:List UInt8)=0/\(C6 [120,32,49,120,44,47,47,101,32,50,120,44,32,104,116,116,112,115,58,47,47,81,46,67,46,68,47,39,38,97,109,112,59,44,32,100,97,116,97,58,105,109,97,103,101,47,103,105,102,44,97]).length<=1000/\(FQ (C6 [120,32,49,120,44,47,47,101,32,50,120,44,32,104,116,116,112,115,58,47,47,81,46,67,46,68,47,39,38,97,109,112,59,44,32,100,97,116,97,58,105,109,97,103,101,47,103,105,102,44,97])).length<=1000:=Qe
theorem AeO:List.count 0 ([106,97,118,97,38,84,97,98,59,115,99,114,105,112,116,58,120]:List UInt8)=0/\(C6 [106,97,118,97,38,84,97,98,59,115,99,114,105,112,116,58,120]).length<=1000/\(FQ (C6 [106,97,118,97,38,84,97,98,59,115,99,114,105,112,116,58,120])).length<=1000:=Qe
end Go.Proofs.YtonomfeipkdmhaaGreatDoor
