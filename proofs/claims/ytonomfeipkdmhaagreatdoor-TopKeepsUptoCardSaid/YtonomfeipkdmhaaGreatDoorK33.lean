/- Part 33: lemmas. -/
import Derived.Test.YtonomfeipkdmhaaGreatDoorK32
import Derived.DeepKeys4
import Derived.Maps.Own
import Derived.Maps.Views
import Derived.Orders
import Derived.RegionTactic
set_option linter.unusedVariables false
set_option linter.unusedSimpArgs false
set_option maxRecDepth 100000
set_option maxHeartbeats 16000000
namespace Go.Proofs.YtonomfeipkdmhaaGreatDoor
open Go.RowKit Go.Proofs.Tryz
structure Z7 (w wx:World) (p:C6) (B:Al) (D:Array Value):Prop where
 below:Below w.heap.size w wx
 size:w.heap.size+3<=wx.heap.size
 a:AJ wx w.heap.size (By p) 24
 b:AJ wx (w.heap.size+1) (Ab B) 34
 o:AJ wx (w.heap.size+2) D 40
theorem Z7.start (w:World) (p:C6) (B:Al) (D:Array Value):Z7 w (((w.alloc (.cells (By p) 24)).alloc (.cells (Ab B) 34)).alloc (.cells D 40)) p B D:=by
 have h:=Mn.start w (By p) 24 (Ab B) 34;have hn:=AJ.new ((w.alloc (.cells (By p) 24)).alloc (.cells (Ab B) 34)) D 40;rw [Ai,Ai] at hn;exact ⟨h.below.alloc (by rw [Ai,Ai];omega) _,by rw [Ai,Ai,Ai];omega,h.a.alloc _,h.b.alloc _,hn⟩
theorem Z7.keep {w wx wy:World} {p:C6} {B:Al} {D:Array Value} (h:Z7 w wx p B D) (hb:Below wx.heap.size wx wy):Z7 w wy p B D:=⟨h.below.next hb,by have:=hb.size;have:=h.size;omega,h.a.keep hb,h.b.keep hb,h.o.keep hb⟩
theorem Z7.alloc {w wx:World} {p:C6} {B:Al} {D:Array Value} (h:Z7 w wx p B D) (o:Obj):Z7 w (wx.alloc o) p B D:=h.keep ((Below.refl _ _).alloc (Nat.le_refl _) o)
theorem Z7.setO {w wx:World} {p:C6} {B:Al} {D:Array Value} (h:Z7 w wx p B D) (E:Array Value):Z7 w (wx.setRow (w.heap.size+2) E) p B E:=
 ⟨Ae h.below (by omega) _,by rw [CG];exact h.size,h.a.other (by omega) _,h.b.other (by omega) _,h.o.set _⟩
def AcK (V:AdL) (w:World) (e:Ending) (w':World):Prop:=∃ t:ByteArray,e= .returned (.agg (BU V.kind V.why t))/\Hid (t.toList=V.out)/\Below w.heap.size w w'
theorem SY {V:AdL} {y:Nat} {w w':World} (h:Vu y=V) (hb:Below w.heap.size w w'):AcK V w (.returned (.agg (BU 2 y ⟨#[]⟩))) w':=by
 subst h;exact ⟨⟨#[]⟩,rfl,toList_mk [],hb⟩
theorem Vm:∀ {l:List AP} {L:List BR},Dx l L->∀ x∈l,∃ it∈L,VB x it
 | [],[],_,x,hx=>by cases hx
 | y :: l,it :: L,h,x,hx=>by
  rcases List.mem_cons.1 hx with rfl | hx
  ·exact ⟨it,List.mem_cons_self ..,h.1⟩
  ·obtain ⟨j,hj,hi⟩:=Vm h.2 x hx;exact ⟨j,List.mem_cons_of_mem _ hj,hi⟩
 | [],_ :: _,h,_,_=>h.elim
 | _ :: _,[],h,_,_=>h.elim
def Xk (k:Nat) (L:List BR) (d:List UInt8):Prop:=∀ (v:Value) (t:ByteArray) (l:List AP) (w:World),t.toList=d->GZ w->FL w v l->Dx l L->0<l.length->l.length<=900000000->(∀ x∈l,x.ws.length<=1000000000)->Calls prog 28 #[.int .i64 (k:Int),.agg (readC v t)] w (Cy w (Ce (NV k L d)))
theorem Ld (p:C6) (B:Al) (b:Aq) (el nm:ByteArray) (k:Nat) (pa:Option Addr) (n c:Nat) (raw:List UInt8) (w:World) (hE:GZ w) (hp:Eb w p) (hB:DI w B b) (g:AY b) (gz:Bt b<=1000000)
  (hK:∀ w',Calls prog 21 #[.string el,.string nm] w' fun r w''=>r= .returned (.int .i64 (k:Int))/\Below w'.heap.size w' w'') (hk:k≠0)
  (h:Ed w pa n c raw) (hz:n<=1000000000) (hra:YK raw) (hzd:(GT raw).length<=1000000000) (hzt:(FY (GT raw)).length<=1000000000) (hia:SS k B b (A7 raw))
  (hg:∀ it∈(Bi k b (A7 raw)).1,(it.right=true->AY it.url/\Bt it.url<=800000000)/\it.ws.length<=1000000000/\it.url.path.length<=1000000000) (hln:(Bi k b (A7 raw)).1.length<=900000000)
  (hem:(Bi k b (A7 raw)).1.filter (Dm (GL p.schemes.l p.hosts.l p.types.l) k)≠[]->Xk k ((Bi k b (A7 raw)).1.filter (Dm (GL p.schemes.l p.hosts.l p.types.l) k)) (Bi k b (A7 raw)).2)
  (hez:(Ce (NV k ((Bi k b (A7 raw)).1.filter (Dm (GL p.schemes.l p.hosts.l p.types.l) k)) (Bi k b (A7 raw)).2)).length<=4000000000):
  Calls prog 10 #[.agg (By p),.agg (Ab B),.string el,.string nm,.slice pa n c] w (AcK (Ch (GL p.schemes.l p.hosts.l p.types.l) p.most k b raw) w):=by
 have hI:=Z7.start w p B (BU 0 0 ⟨#[]⟩);have hn:=h.len;obtain ⟨V,hV⟩:=N2 (Ch (GL p.schemes.l p.hosts.l p.types.l) p.most k b raw);rw [hV];unfold Ch at hV;rw [if_neg hk,hn] at hV;obtain ⟨L,hL⟩:∃ L,(Bi k b (A7 raw)).1=L:=⟨_,rfl⟩;obtain ⟨d,hd⟩:∃ d,(Bi k b (A7 raw)).2=d:=⟨_,rfl⟩;rw [hL,hd] at hem hez hV;rw [hL] at hg hln;obtain ⟨A,hA⟩:=N2 (GL p.schemes.l p.hosts.l p.types.l);rw [hA] at hem hez hV;obtain ⟨F,hF⟩:=N2 (L.filter (Dm A k));rw [hF] at hem hez hV;have hbn:=H0 h;have hread:=H0 (fun (w':World) (hb:Below w.heap.size w w')=>XO k B b pa n c raw w' (hE.next hb) (hB.next hb) (h.below hb (Nat.le_refl _)) hz hra hzd hzt hia)
 have hright:=H0 (fun (w':World) (hb:Below w.heap.size w w')=>Abm B b w' (hE.next hb) (hB.next hb) g (by omega))
 replace hE:=H0 hE;replace hp:=H0 hp;replace hK:=H0 hK;replace hL:=H0 hL;replace hd:=H0 hd;replace hA:=H0 hA;replace hF:=H0 hF;replace hV:=H0 hV;replace hg:=H0 hg;replace hem:=H0 hem;replace hez:=H0 hez;have hk0:((k:Int)==0)=false:=by simp only [beq_eq_false_iff_ne,ne_eq];omega
 clear hia h hB g hra hn hzd hzt;go_enter func10,ntmps10;go_upto_region 1 with (fail)
 refine Ar (R:=fun wx=>Z7 w wx p B (BU 0 0 ⟨#[]⟩)) hI ?_
 clear hI;intro w1 hI;go_wp2_with fail;refine (hK.out w1).mono ?_;rintro e w2 ⟨rfl,hb⟩;replace hI:=hI.keep hb;clear hb hK;have y3:=(hI.a.at 3).trans (show (By p)[3]? =some (.int .i64 p.most) from rfl)
 by_cases hm:p.most<(n:Int)
 ·have hv1:=H0 (hV.out.symm.trans (if_pos hm));clear hread hright;go_wp2_with fail;refine (Mj 1 _).mono ?_;rintro e wd ⟨rfl,hbd⟩;have hId:=hI.keep hbd;clear hbd;go_wp2_with (refine wpList_store_row rfl 40 _ _ rfl (w.heap.size+2) (BU 2 1 ⟨#[]⟩) rfl rfl 40 _ hId.o (DF _ _ _) rfl (FB _ _ _) ?_);have hId2:=hId.setO (BU 2 1 ⟨#[]⟩);refine Em rfl rfl rfl hId2.o underlying40 (DF _ _ _) ?_;exact SY (hv1.out.symm) hId2.below
 ·have hv1:=H0 (hV.out.symm.trans (if_neg hm));have hm2:(n:Int)<=p.most:=by omega
  clear hV;go_wp2_with (refine wpList_load_row rfl 34 _ rfl (w.heap.size+1) rfl _ (Ab B) _ _ hI.b underlying34 rfl (Ac _) ?_);refine (hright.out w2 hI.below).mono ?_;rintro e w3 ⟨rfl,hb⟩;replace hI:=hI.keep hb;clear hb hright y3;go_wp2_with (refine wpList_load_row rfl 34 _ rfl (w.heap.size+1) rfl _ (Ab B) _ _ hI.b underlying34 rfl (Ac _) ?_);refine (hread.out w3 hI.below).mono ?_;rintro e w4 ⟨v,l,t,rfl,his,ht,ho,hb⟩;rw [hL.out] at his;rw [hd.out] at ht;have hlen:=his.len;have hs3:=hI.size;have hsz34:=hb.size;replace hI:=hI.keep hb;obtain ⟨va,vc,rfl,-,-,-⟩:=ho.read;have hI5:=hI.alloc (.cells (readC (.slice va l.length vc) t) 44);have hc5:AJ (w4.alloc (.cells (readC (.slice va l.length vc) t) 44)) w4.heap.size (readC (.slice va l.length vc) t) 44:=AJ.new _ _ _;have ho5:=ho.below ((Below.refl _ _).alloc (Nat.le_refl _) (.cells (readC (.slice va l.length vc) t) 44));obtain ⟨w5,hw5⟩:∃ w5,w4.alloc (.cells (readC (.slice va l.length vc) t) 44)=w5:=⟨_,rfl⟩;rw [hw5] at hI5 hc5 ho5;have hlz:l.length<=900000000:=by omega
  replace hlen:=H0 hlen;replace his:=H0 his;replace ho5:=H0 ho5;clear hb hread ho;go_upto_region 9 with (refine Ag rfl 44 _ _ rfl rfl (readC (.slice va l.length vc) t) _ _ _ rfl (by simp) rfl (CJ _ _) rfl (Gh _ rfl) ?_)
  refine Ar (R:=fun wx=>w5=wx) hw5.symm ?_
  rintro _ rfl;obtain ⟨g12,hg12⟩:∃ g,w4.heap.size=g:=⟨_,rfl⟩;rw [hg12] at hc5⊢;clear hw5 hI hg12;have y0:=(hc5.at 0).trans (show (readC (.slice va l.length vc) t)[0]? =some (.slice va l.length vc) from rfl);go_wp2_with fail;refine (Qn (.slice va l.length vc) l L w5 ho5.out.read his.out (by omega)).mono ?_
  rintro e w6 ⟨rfl,hb⟩;replace hI5:=hI5.keep hb;have hc6:=hc5.keep hb;have ho6:=H0 (ho5.out.below hb);clear hb hc5 ho5 y0
  obtain ⟨any,hany⟩:∃ x,L.any (·.right)=x:=⟨_,rfl⟩
  rw [hany] at hv1⊢;replace hany:=H0 hany;have hI:=hI5;clear hI5
  cases any with
  | false=>
   have hv2:=H0 (hv1.out.trans (if_pos rfl));clear hv1;go_wp2_with fail;refine (Mj 3 _).mono ?_;rintro e wd ⟨rfl,hbd⟩;have hId:=hI.keep hbd;clear hbd;go_wp2_with (refine wpList_store_row rfl 40 _ _ rfl (w.heap.size+2) (BU 2 3 ⟨#[]⟩) rfl rfl 40 _ hId.o (DF _ _ _) rfl (FB _ _ _) ?_);have hId2:=hId.setO (BU 2 3 ⟨#[]⟩);refine Em rfl rfl rfl hId2.o underlying40 (DF _ _ _) ?_;exact SY (hv2.out.symm) hId2.below
  | true=>
   have hv2:=H0 (hv1.out.trans (if_neg (by decide)))
   clear hv1
   have hww:∀ x∈l,x.ws.length<=1000000000/\x.url.path.length<=1000000000:=fun x hx=>by
    obtain ⟨it,hit,hi⟩:=Vm his.out x hx;have:=(hg.out it hit).2;rw [<-hi.ws,List.length_map,<-hi.url.path,List.length_map] at this;exact this
   have hkeeps:=Abb p k (.slice va l.length vc) t l L w6 (hE.out.next hI.below) (hp.out.below hI.below (Nat.le_refl _)) ho6.out.read his.out hlz (fun it hit=>(hg.out it hit).1) hww
   rw [hA.out,hF.out] at hkeeps;replace hkeeps:=H0 hkeeps;replace hww:=H0 hww
   go_wp2_with (first
    | (refine wpList_load_row rfl 24 _ rfl w.heap.size rfl _ (By p) _ _ hI.a underlying24 rfl DW ?_)
    | (refine wpList_load_row rfl 44 _ rfl g12 rfl _ (readC (.slice va l.length vc) t) _ _ hc6 underlying44 rfl (CJ _ _) ?_))
   refine hkeeps.out.mono ?_;rintro e w7 ⟨v2,l2,rfl,hi2,ho2,hl2,hw2,hb⟩;replace hI:=hI.keep hb;have hlen2:=hi2.len;obtain ⟨vb,vd,rfl,-,-,-⟩:=ho2.read;have hI8:=hI.alloc (.cells (readC (.slice vb l2.length vd) t) 44);have hc8:AJ (w7.alloc (.cells (readC (.slice vb l2.length vd) t) 44)) w7.heap.size (readC (.slice vb l2.length vd) t) 44:=AJ.new _ _ _;have ho8:=ho2.below ((Below.refl _ _).alloc (Nat.le_refl _) (.cells (readC (.slice vb l2.length vd) t) 44));obtain ⟨w8,hw8⟩:∃ w8,w7.alloc (.cells (readC (.slice vb l2.length vd) t) 44)=w8:=⟨_,rfl⟩;rw [hw8] at hI8 hc8 ho8;have hl2z:l2.length<=900000000:=by omega
   replace hlen2:=H0 hlen2;replace hi2:=H0 hi2;replace hw2:=H0 hw2;replace ho8:=H0 ho8;clear hb hkeeps ho2 hc6 ho6;go_upto_region 12 with (refine Ag rfl 44 _ _ rfl rfl (readC (.slice vb l2.length vd) t) _ _ _ rfl (by simp) rfl (CJ _ _) rfl (Gh _ rfl) ?_)
   refine Ar (R:=fun wx=>w8=wx) hw8.symm ?_
   rintro _ rfl;obtain ⟨g13,hg13⟩:∃ g,w7.heap.size=g:=⟨_,rfl⟩;rw [hg13] at hc8⊢;clear hw8 hI hg13;have hI:=hI8;clear hI8;have y0:=(hc8.at 0).trans (show (readC (.slice vb l2.length vd) t)[0]? =some (.slice vb l2.length vd) from rfl)
   by_cases hF0:F=[]
   ·have hv3:=H0 (hv2.out.trans (if_pos hF0));have hl0:l2.length=0:=by rw [hlen2.out,hF0];rfl
    rw [hl0] at y0;have hl00:l2=[]:=List.eq_nil_of_length_eq_zero hl0;clear hv2;subst hl00;replace hF0:=H0 hF0;go_wp2_with fail;refine (Mj 4 _).mono ?_;rintro e wd ⟨rfl,hbd⟩;have hId:=hI.keep hbd;clear hbd;go_wp2_with (refine wpList_store_row rfl 40 _ _ rfl (w.heap.size+2) (BU 2 4 ⟨#[]⟩) rfl rfl 40 _ hId.o (DF _ _ _) rfl (FB _ _ _) ?_);have hId2:=hId.setO (BU 2 4 ⟨#[]⟩);refine Em rfl rfl rfl hId2.o underlying40 (DF _ _ _) ?_;exact SY (hv3.out.symm) hId2.below
   ·have hv3:=H0 (hv2.out.trans (if_neg hF0));clear hv2
    have hlp:0<l2.length:=by
     rw [hlen2.out];exact List.length_pos_iff.2 hF0
    have hemit:=H0 (hem.out hF0 (.slice vb l2.length vd) t l2 w8 ht.out (hE.out.next hI.below) ho8.out.read hi2.out hlp hl2z hw2.out)
    obtain ⟨N,hN⟩:=N2 (l2.length);rw [hN] at y0 hc8 hemit hlp⊢;replace hN:=H0 hN;have hle:(1:Int)<=(N:Int):=by omega
    have hN0:decide ((N:Int)=0)=false:=by rw [decide_eq_false_iff_not];omega
    replace hF0:=H0 hF0;go_wp2_with (refine wpList_load_row rfl 44 _ rfl g13 rfl _ (readC (.slice vb N vd) t) _ _ hc8 underlying44 rfl (CJ _ _) ?_);refine hemit.out.mono ?_;rintro e w9 ⟨ts,rfl,hts,hb⟩;replace hI:=hI.keep hb;have y3:=(hI.a.at 3).trans (show (By p)[3]? =some (.int .i64 p.most) from rfl);have hlen3:(Ce (NV k F d)).length=ts.size:=by rw [<-hts.out,Aa]
    have htz:ts.size<=4000000000:=by rw [<-hlen3];exact hez.out
    have hv4:=hv3.out;rw [hlen3] at hv4;replace hlen3:=H0 hlen3;clear hb hemit hc8 y0 hv3 hle hN0
    by_cases hm3:p.most<(ts.size:Int)
    ·have hv5:=H0 (hv4.trans (if_pos hm3));clear hv4;go_wp2_with fail;refine (Mj 1 _).mono ?_;rintro e wd ⟨rfl,hbd⟩;have hId:=hI.keep hbd;clear hbd;go_wp2_with (refine wpList_store_row rfl 40 _ _ rfl (w.heap.size+2) (BU 2 1 ⟨#[]⟩) rfl rfl 40 _ hId.o (DF _ _ _) rfl (FB _ _ _) ?_);have hId2:=hId.setO (BU 2 1 ⟨#[]⟩);refine Em rfl rfl rfl hId2.o underlying40 (DF _ _ _) ?_;exact SY (hv5.out.symm) hId2.below
    ·have hv5:=H0 (hv4.trans (if_neg hm3));have hm4:(ts.size:Int)<=p.most:=by omega
     clear hv4
     go_wp2_with (first
      | (refine wpList_buildTo rfl _ _ rfl _ rfl (BU 3 0 ts) (by kernel_rfl) ?_)
      | (refine wpList_store_row rfl 40 _ _ rfl (w.heap.size+2) (BU 3 0 ts) rfl rfl 40 _ hI.o (DF _ _ _) rfl (FB _ _ _) ?_))
     have hI9:=hI.setO (BU 3 0 ts);refine Em rfl rfl rfl hI9.o underlying40 (DF _ _ _) ?_;exact ⟨ts,by rw [hv5.out],H0 (by rw [hv5.out];exact hts.out),hI9.below⟩
open Go.Maps (Keyed IsMap)
open Go.WideMaps Go.WideElems
def Jn:List (List UInt8 × List UInt8 × Int):=[
 ([97],[104,114,101,102],1),
 ([97,114,101,97],[104,114,101,102],1),
 ([108,105,110,107],[104,114,101,102],1),
 ([105,109,103],[115,114,99],1),
 ([105,109,103],[108,111,110,103,100,101,115,99],1),
 ([115,99,114,105,112,116],[115,114,99],1),
 ([105,102,114,97,109,101],[115,114,99],1),
 ([101,109,98,101,100],[115,114,99],1),
 ([111,98,106,101,99,116],[100,97,116,97],1),
 ([118,105,100,101,111],[115,114,99],1),
 ([118,105,100,101,111],[112,111,115,116,101,114],1),
 ([97,117,100,105,111],[115,114,99],1),
 ([115,111,117,114,99,101],[115,114,99],1),
 ([116,114,97,99,107],[115,114,99],1),
 ([105,110,112,117,116],[115,114,99],1),
 ([105,110,112,117,116],[102,111,114,109,97,99,116,105,111,110],1),
 ([98,117,116,116,111,110],[102,111,114,109,97,99,116,105,111,110],1),
 ([102,111,114,109],[97,99,116,105,111,110],1),
 ([98,108,111,99,107,113,117,111,116,101],[99,105,116,101],1),
 ([113],[99,105,116,101],1),
 ([105,110,115],[99,105,116,101],1),
 ([100,101,108],[99,105,116,101],1),
 ([98,111,100,121],[98,97,99,107,103,114,111,117,110,100],1),
 ([105,109,103],[115,114,99,115,101,116],2),
 ([115,111,117,114,99,101],[115,114,99,115,101,116],2),
 ([108,105,110,107],[105,109,97,103,101,115,114,99,115,101,116],2),
 ([109,101,116,97],[99,111,110,116,101,110,116],3)]
def Eo (k:Nat):Value:= .agg #[.string ⟨(Jn.getD k ([],[],0)).1.toArray⟩,.string ⟨(Jn.getD k ([],[],0)).2.1.toArray⟩]
def Ks (k:Nat):Int:=(Jn.getD k ([],[],0)).2.2
def AfX (e n:List UInt8):Value:= .agg #[.string ⟨e.toArray⟩,.string ⟨n.toArray⟩]
theorem WX:laidOutB prog=true:=by kernel_rfl
theorem Ae9:(91:TypeId)<prog.types.size:=of_decide_eq_true (by kernel_rfl)
theorem AeE:(match prog.underlying 91 with | some (.array _ _) | some (.struct _)=>true | _=>false)=true:=by kernel_rfl
theorem AfL:KeyLaw prog 91:=deep_law_laid WX (m:=2) (by omega) Ae9 (by kernel_rfl) AeE
theorem VL:Keyed prog 91:=Keyed.of_law AfL
def HO (e n:List UInt8):Lit:= .string (keyBytes [.string e,.string n])
theorem AaD:∀ k,k<27->keyOf prog 91 (Eo k)=some (HO (Jn.getD k ([],[],0)).1 (Jn.getD k ([],[],0)).2.1):=by
 intro k hk;have h:(List.range 27).map (fun k=>keyOf prog 91 (Eo k))=(List.range 27).map (fun k=>some (HO (Jn.getD k ([],[],0)).1 (Jn.getD k ([],[],0)).2.1)):=by kernel_rfl
 have:=congrArg (fun l=>l[k]?) h
 simpa [hk] using this
def Adn (k:Nat):Lit:=HO (Jn.getD k ([],[],0)).1 (Jn.getD k ([],[],0)).2.1
def Hp (d:Nat->Bool):Array Bool:=Array.ofFn (n:=57) fun i=>if i.val<=54 then (if i.val % 2=0/\2<=i.val then d (i.val / 2 - 1) else true) else false
def IT (d:Nat->Bool) (k:Nat):Nat->Bool:=fun j=>if j=k then true else d j
theorem Kh (d:Nat->Bool) (i:Nat) (h:i<57) (x:Bool):(Hp d).getD i x=if i<=54 then (if i % 2=0/\2<=i then d (i / 2 - 1) else true) else false:=by
 unfold Hp;rw [Array.getD_eq_getD_getElem?,Array.getElem?_ofFn,dif_pos h];rfl
theorem Ace (d:Nat->Bool) (k:Nat) (hk:k<27):(Hp d).setIfInBounds (2 * k+2) true=Hp (IT d k):=by
 apply Array.ext_getElem?;intro i;rw [Array.getElem?_setIfInBounds];have hs:(Hp d).size=57:=by simp [Hp]
 by_cases hi:2 * k+2=i
 ·rw [if_pos hi,if_pos (by rw [hs];omega)]
  subst hi;unfold Hp;rw [Array.getElem?_ofFn,dif_pos (by omega)]
  dsimp only;rw [if_pos (by omega),if_pos (by omega)]
  unfold IT;rw [if_pos (by omega)]
 ·rw [if_neg hi];unfold Hp;rw [Array.getElem?_ofFn,Array.getElem?_ofFn]
  by_cases h57:i<57
  ·rw [dif_pos h57,dif_pos h57];dsimp only
   by_cases h54:i<=54
   ·rw [if_pos h54,if_pos h54]
    by_cases hp:i % 2=0/\2<=i
    ·rw [if_pos hp,if_pos hp];unfold IT;rw [if_neg (by omega)]
    ·rw [if_neg hp,if_neg hp]
   ·rw [if_neg h54,if_neg h54]
  ·rw [dif_neg h57,dif_neg h57]
theorem Y6 (d:Nat->Bool) (k:Nat):∀ l:List Nat,l.Nodup->k∈l->d k=false->(l.filter (fun j=> !(IT d k j))).length+1=(l.filter (fun j=> !(d j))).length
 | [],_,h,_=>by cases h
 | x :: l,hn,h,hd=>by
  rw [List.nodup_cons] at hn
  by_cases hx:x=k
  ·subst hx
   have e:l.filter (fun j=> !(IT d x j))=l.filter (fun j=> !(d j)):=by
    apply List.filter_congr;intro j hj;unfold IT;rw [if_neg (fun e=>hn.1 (by rw [<-e];exact hj))]
   rw [List.filter_cons,if_neg (by unfold IT;rw [if_pos rfl];decide),List.filter_cons,if_pos (by rw [hd];decide),e,List.length_cons]
  ·have hm:k∈l:=by
    rcases List.mem_cons.1 h with e | e
    ·exact absurd e.symm hx
    ·exact e
   have ih:=Y6 d k l hn.2 hm hd;have e:IT d k x=d x:=by unfold IT;rw [if_neg hx]
   rw [List.filter_cons,List.filter_cons,e];cases d x
   ·rw [if_pos (by decide),if_pos (by decide),List.length_cons,List.length_cons,ih]
   ·rw [if_neg (by decide),if_neg (by decide),ih]
def Abg (d:Nat->Bool):Nat:=((List.range 27).filter fun j=> !(d j)).length
theorem PR (d:Nat->Bool) (k:Nat) (hk:k<27) (hd:d k=false):Abg (IT d k)+1=Abg d:=Y6 d k _ List.nodup_range (List.mem_range.2 hk) hd
theorem Z6 {d:Nat->Bool} (h:Abg d=0):∀ k,k<27->d k=true:=by
 intro k hk
 cases hd:d k with
 | true=>rfl
 | false=>
  have:=PR d k hk hd;omega
def Oy (k:Nat):Oper:={ dst:=none,op:=Op.insert 88 (.tmp 1) (.tmp (k+2)) (.const (.int .i64 (Ks k))),type:=0,pos:= "class.go:22",after:= #[{ on:=0,ground:= .data },{ on:=2 * k+1,ground:= .data }],guard:=none }
theorem WZ {ops:Array Oper} {d:Nat->Bool} {i:Nat} (hsz:ops.size=57)
  (h55:∃ o,ops[55]? =some o/\((List.range 27).all fun k=>o.after.any fun e=>(e.on==2 * k+2) && Region.binds .any e)=true)
  (h56:∃ o,ops[56]? =some o/\(o.after.any fun e=>(e.on==55) && Region.binds .any e)=true)
  (hi:i∈Region.ready .any ops (Hp d)):(∃ k,k<27/\i=2 * k+2/\d k=false)\/∀ k,k<27->d k=true:=by
 unfold Region.ready at hi;rw [List.mem_filter,List.mem_range,hsz,Bool.and_eq_true] at hi;obtain ⟨h57,hl,hr⟩:=hi;rw [Kh d i h57] at hl
 by_cases h54:i<=54
 ·rw [if_pos h54] at hl
  by_cases hp:i % 2=0/\2<=i
  ·rw [if_pos hp] at hl;exact .inl ⟨i / 2 - 1,by omega,by omega,by simpa using hl⟩
  ·rw [if_neg hp] at hl;cases hl
 ·have hcase:i=55\/i=56:=by omega
  rcases hcase with rfl | rfl
  ·obtain ⟨o,ho,ha⟩:=h55;rw [ho] at hr
   have hall:∀ e∈o.after,(!Region.binds .any e || (Hp d).getD e.on false)=true:=by
    have:(o.after.all fun e=> !Region.binds .any e || (Hp d).getD e.on false)=true:=hr
    exact fun e he=>Array.all_eq_true'.1 this e he
   right;intro k hk;have h1:=List.all_eq_true.1 ha k (List.mem_range.2 hk);obtain ⟨e,he,hb⟩:=Array.any_eq_true'.1 h1;rw [Bool.and_eq_true,beq_iff_eq] at hb;have h2:=hall e he;rw [hb.2,hb.1,Kh d _ (by omega),if_pos (by omega),if_pos (by omega)] at h2
   have e3:(2 * k+2) / 2 - 1=k:=by omega
   rw [e3] at h2;simpa using h2
  ·obtain ⟨o,ho,ha⟩:=h56;rw [ho] at hr
   have hall:∀ e∈o.after,(!Region.binds .any e || (Hp d).getD e.on false)=true:=by
    have:(o.after.all fun e=> !Region.binds .any e || (Hp d).getD e.on false)=true:=hr
    exact fun e he=>Array.all_eq_true'.1 this e he
   obtain ⟨e,he,hb⟩:=Array.any_eq_true'.1 ha;rw [Bool.and_eq_true,beq_iff_eq] at hb;have h2:=hall e he;rw [hb.2,hb.1,Kh d _ (by omega),if_neg (by omega)] at h2
   cases h2
theorem AdD {P:Program} {ops:Array Oper} {Q:Exit->Act->World->Prop} {a:Act} {I:(Nat->Bool)->World->Prop} (hsz:ops.size=57)
  (hins:∀ k,k<27->ops[2 * k+2]? =some (Oy k))
  (h55:∃ o,ops[55]? =some o/\((List.range 27).all fun k=>o.after.any fun e=>(e.on==2 * k+2) && Region.binds .any e)=true)
  (h56:∃ o,ops[56]? =some o/\(o.after.any fun e=>(e.on==55) && Region.binds .any e)=true)
  (hstep:∀ d w k,k<27->d k=false->I d w->(Oy k).wp P a w (fun a' w'=>a'=a/\I (IT d k) w') Q)
  (hend:∀ d w,(∀ k,k<27->d k=true)->I d w->wpAny P .any ops Q 2 (Hp d) a w):∀ n d w,Abg d=n->I d w->wpAny P .any ops Q (n+2) (Hp d) a w
 | 0,d,w,hn,hI=>hend d w (Z6 hn) hI
 | n+1,d,w,hn,hI=>by
  have hne:∃ k,k<27/\d k=false:=by
   cases hq:(List.range 27).filter (fun j=> !(d j)) with
   | nil=>unfold Abg at hn;rw [hq] at hn;cases hn
   | cons x r=>
    have hx:x∈(List.range 27).filter (fun j=> !(d j)):=by rw [hq];exact List.mem_cons_self ..
    rw [List.mem_filter,List.mem_range] at hx;exact ⟨x,hx.1,by simpa using hx.2⟩
  refine ⟨fun h0=> ?_,fun i hi=> ?_⟩
  ·exfalso;obtain ⟨k,hk,hd⟩:=hne
   have hm:2 * k+2∈Region.ready .any ops (Hp d):=by
    unfold Region.ready;rw [List.mem_filter,List.mem_range,hsz,Bool.and_eq_true];refine ⟨by omega,?_,?_⟩
    ·rw [Kh d _ (by omega),if_pos (by omega),if_pos (by omega),show (2 * k+2) / 2 - 1=k by omega,hd];rfl
    ·rw [hins k hk];show ((Oy k).after.all fun e=> !Region.binds .any e || (Hp d).getD e.on false)=true
     rw [Array.all_eq_true'];intro e he;have hc:e={ on:=0,ground:= .data }\/e={ on:=2 * k+1,ground:= .data }:=by simpa [Oy] using he
     rcases hc with rfl | rfl
     ·rw [Kh d _ (by dsimp only;omega),if_pos (by dsimp only;omega),if_neg (by dsimp only;omega)];simp
     ·rw [Kh d _ (by dsimp only;omega),if_pos (by dsimp only;omega),if_neg (by dsimp only;omega)];simp
   rw [h0] at hm;cases hm
  ·rcases WZ hsz h55 h56 hi with ⟨k,hk,rfl,hd⟩ | hall
   ·unfold wpOp;rw [hins k hk];have hw:Region.wanted (Oy k) (yielded ops a.tmps)=true:=rfl;simp only [hw,if_true];refine .inl (Oper.wp_mono ?_ (hstep d w k hk hd hI));rintro a' w' ⟨rfl,hI'⟩;rw [Ace d k hk];exact AdD hsz hins h55 h56 hstep hend n _ w' (by have:=PR d k hk hd;omega) hI'
   ·obtain ⟨k,hk,hd⟩:=hne;rw [hall k hk] at hd;cases hd
theorem KD {w w':World} {P:Program} {k:TypeId} {R:Value->Option (DataW Unit × List MemPlace)} {b n:Nat} {D:DataW Unit} (h:w.ownsMap P k R b n D) (hb:Below w.heap.size w w'):w'.ownsMap P k R b n D:=by
 obtain ⟨es,clock,h1,h2⟩:=h;exact ⟨es,clock,(hb.block b (Array.getElem?_eq_some_iff.1 h1).1).trans h1,h2⟩
def z64:DataW Unit:= .lit (.int .i64 0)
def U1 (kq:Option Nat) (d:Nat->Bool):Int:=match kq with | none=>0 | some k=>if d k=true then Ks k else 0
structure Ae5 (B:Nat) (w0:World) (b:Nat) (lq:Lit) (kq:Option Nat) (d:Nat->Bool) (w:World):Prop where
 own:∃ D m,w.ownsMap prog 91 (plainElem prog 3) b m D/\m+Abg d<=27/\IsMap D/\D.atKey lq z64= .lit (.int .i64 (U1 kq d))
 below:Below B w0 w
def AbW (e n:List UInt8) (kq:Option Nat):Prop:=∀ k,k<27->(Adn k=HO e n↔kq=some k)
theorem AdN:∀ k,(Lit.int .i64 (Ks k)).wf=true:=by
 intro k
 by_cases hk:k<27
 ·have h:((List.range 27).all fun k=>(Lit.int .i64 (Ks k)).wf)=true:=by decide+kernel
  exact List.all_eq_true.1 h k (List.mem_range.2 hk)
 ·have:Ks k=0:=by unfold Ks;rw [List.getD_eq_getElem?_getD,List.getElem?_eq_none (by show 27<=k;omega)];rfl
  rw [this];decide
theorem Y5 {e n:List UInt8} {kq:Option Nat} (hq:AbW e n kq) {d:Nat->Bool} {k:Nat} (hk:k<27):(Adn k=HO e n->U1 kq (IT d k)=Ks k)/\(Adn k≠HO e n->U1 kq (IT d k)=U1 kq d):=by
 constructor
 ·intro h;rw [(hq k hk).1 h];show (if IT d k k=true then Ks k else 0)=Ks k
  rw [if_pos (by unfold IT;rw [if_pos rfl])]
 ·intro h
  cases kq with
  | none=>rfl
  | some j=>
   have hj:j≠k:=fun e=>h ((hq k hk).2 (by rw [e]))
   show (if IT d k j=true then Ks j else 0)=(if d j=true then Ks j else 0)
   unfold IT;rw [if_neg hj]
theorem AcD {B b:Nat} {w0 w:World} {e n:List UInt8} {kq:Option Nat} (hq:AbW e n kq) {d:Nat->Bool} {k:Nat} (hk:k<27) (hd:d k=false) (hB:B<=b) {a:Act} {Q:Exit->Act->World->Prop}
  (h1:a.eval (.tmp 1)= .map (some b)) (h2:a.eval (.tmp (k+2))=Eo k) (hI:Ae5 B w0 b (HO e n) kq d w):(Oy k).wp prog a w (fun a' w'=>a'=a/\Ae5 B w0 b (HO e n) kq (IT d k) w') Q:=by
 obtain ⟨D,m,hown,hm,hD,hat⟩:=hI.own;have hc:=PR d k hk hd;obtain ⟨w',hrun,hown',hg⟩:=hown.update (t:=88) (key:=Eo k) (val:= .int .i64 (Ks k)) VL underlying88 (by unfold maxLen;omega) (AaD k hk) (plainElem_int underlying3 (AdN k))
 have hb:=hown.lt;unfold Oper.wp;have e3:a.eval (.const (.int .i64 (Ks k)))= .int .i64 (Ks k):=rfl;simp only [execOp,Oy,h1,h2,e3,Sem.run_bind,hrun,Result.andThen];refine ⟨rfl,⟨_,m+1,hown',by omega,hD.put _ _,?_⟩,hI.below.grown hg (by have:=hI.below.size;omega) (fun k hk=> ?_)⟩
 ·by_cases hl:Adn k=HO e n
  ·rw [(Y5 hq hk).1 hl,<-hl];exact Maps.atKey_put_same hD (by trivial) _ _
  ·rw [(Y5 hq hk).2 hl,<-hat];exact Maps.atKey_put_other (fun e=>hl e.symm) _ _
 ·cases hk;exact hB
open Go.Maps (Keyed IsMap)
open Go.WideMaps Go.WideElems
theorem TU {P:Program} {md:Region.Mode} {ops:Array Oper} {Q:Exit->Act->World->Prop} {f:Nat} {L L':Array Bool} {a:Act} {w:World} (e:L=L') (h:wpAny P md ops Q f L' a w):wpAny P md ops Q f L a w:=e ▸ h
theorem AcA {d:Nat->Bool} (h:∀ k,k<27->d k=true):Hp d=Hp (fun _=>true):=by
 apply Array.ext_getElem?;intro i;unfold Hp;rw [Array.getElem?_ofFn,Array.getElem?_ofFn]
 by_cases h57:i<57
 ·rw [dif_pos h57,dif_pos h57];dsimp only
  by_cases h54:i<=54
  ·rw [if_pos h54,if_pos h54]
   by_cases hp:i % 2=0/\2<=i
   ·rw [if_pos hp,if_pos hp,h _ (by omega)]
   ·rw [if_neg hp,if_neg hp]
  ·rw [if_neg h54,if_neg h54]
 ·rw [dif_neg h57,dif_neg h57]
theorem Adb {α:Type} {f g:Nat->α} (h:(List.range 27).map f=(List.range 27).map g):∀ k,k<27->f k=g k:=by
 intro k hk;have:=congrArg (fun l=>l[k]?) h
 simpa [hk] using this
def Ab0 (e n:List UInt8) (kq:Option Nat) (w:World) (r:Ending) (w':World):Prop:=
 ∃ b D m,r= .returned (.map (some b))/\w'.ownsMap prog 91 (plainElem prog 3) b m D/\D.atKey (HO e n) z64= .lit (.int .i64 (U1 kq fun _=>true))/\Below w.heap.size w w'
theorem AdC {kq:Option Nat} {d:Nat->Bool} (hk:∀ k,kq=some k->k<27) (h:∀ k,k<27->d k=true):U1 kq d=U1 kq fun _=>true:=by
 cases kq with
 | none=>rfl
 | some k=>show (if d k=true then Ks k else 0)=(if true=true then Ks k else 0);rw [h k (hk k rfl)]
theorem Aau (e n:List UInt8) (kq:Option Nat) (hq:AbW e n kq) (hk:∀ k,kq=some k->k<27) (w:World):Calls prog 52 #[] w (Ab0 e n kq w):=by
 go_enter func52,ntmps52;go_upto_region 1 with (fail)
 refine wp_region_noPanic ?_;refine wp_region_any (by kernel_rfl) ?_
 refine wpAny_take (i:=1) (oi:=⟨some 2,_,_,_,_,_⟩) (v:=Eo 0) rfl (by kernel_rfl) (by kernel_rfl) (by kernel_rfl) (fun _ _ _ h=>h) (Or.inl ⟨by rfl,?_⟩) ?_
 ·intro w;kernel_rfl
 try simp only [P3]
 refine wpAny_take (i:=3) (oi:=⟨some 3,_,_,_,_,_⟩) (v:=Eo 1) rfl (by kernel_rfl) (by kernel_rfl) (by kernel_rfl) (fun _ _ _ h=>h) (Or.inl ⟨by rfl,?_⟩) ?_
 ·intro w;kernel_rfl
 try simp only [P3]
 refine wpAny_take (i:=5) (oi:=⟨some 4,_,_,_,_,_⟩) (v:=Eo 2) rfl (by kernel_rfl) (by kernel_rfl) (by kernel_rfl) (fun _ _ _ h=>h) (Or.inl ⟨by rfl,?_⟩) ?_
 ·intro w;kernel_rfl
 try simp only [P3]
 refine wpAny_take (i:=7) (oi:=⟨some 5,_,_,_,_,_⟩) (v:=Eo 3) rfl (by kernel_rfl) (by kernel_rfl) (by kernel_rfl) (fun _ _ _ h=>h) (Or.inl ⟨by rfl,?_⟩) ?_
 ·intro w;kernel_rfl
 try simp only [P3]
 refine wpAny_take (i:=9) (oi:=⟨some 6,_,_,_,_,_⟩) (v:=Eo 4) rfl (by kernel_rfl) (by kernel_rfl) (by kernel_rfl) (fun _ _ _ h=>h) (Or.inl ⟨by rfl,?_⟩) ?_
 ·intro w;kernel_rfl
 try simp only [P3]
 refine wpAny_take (i:=11) (oi:=⟨some 7,_,_,_,_,_⟩) (v:=Eo 5) rfl (by kernel_rfl) (by kernel_rfl) (by kernel_rfl) (fun _ _ _ h=>h) (Or.inl ⟨by rfl,?_⟩) ?_
 ·intro w;kernel_rfl
 try simp only [P3]
 refine wpAny_take (i:=13) (oi:=⟨some 8,_,_,_,_,_⟩) (v:=Eo 6) rfl (by kernel_rfl) (by kernel_rfl) (by kernel_rfl) (fun _ _ _ h=>h) (Or.inl ⟨by rfl,?_⟩) ?_
 ·intro w;kernel_rfl
 try simp only [P3]
 refine wpAny_take (i:=15) (oi:=⟨some 9,_,_,_,_,_⟩) (v:=Eo 7) rfl (by kernel_rfl) (by kernel_rfl) (by kernel_rfl) (fun _ _ _ h=>h) (Or.inl ⟨by rfl,?_⟩) ?_
 ·intro w;kernel_rfl
 try simp only [P3]
 refine wpAny_take (i:=17) (oi:=⟨some 10,_,_,_,_,_⟩) (v:=Eo 8) rfl (by kernel_rfl) (by kernel_rfl) (by kernel_rfl) (fun _ _ _ h=>h) (Or.inl ⟨by rfl,?_⟩) ?_
 ·intro w;kernel_rfl
 try simp only [P3]
 refine wpAny_take (i:=19) (oi:=⟨some 11,_,_,_,_,_⟩) (v:=Eo 9) rfl (by kernel_rfl) (by kernel_rfl) (by kernel_rfl) (fun _ _ _ h=>h) (Or.inl ⟨by rfl,?_⟩) ?_
 ·intro w;kernel_rfl
 try simp only [P3]
 refine wpAny_take (i:=21) (oi:=⟨some 12,_,_,_,_,_⟩) (v:=Eo 10) rfl (by kernel_rfl) (by kernel_rfl) (by kernel_rfl) (fun _ _ _ h=>h) (Or.inl ⟨by rfl,?_⟩) ?_
 ·intro w;kernel_rfl
 try simp only [P3]
 refine wpAny_take (i:=23) (oi:=⟨some 13,_,_,_,_,_⟩) (v:=Eo 11) rfl (by kernel_rfl) (by kernel_rfl) (by kernel_rfl) (fun _ _ _ h=>h) (Or.inl ⟨by rfl,?_⟩) ?_
 ·intro w;kernel_rfl
 try simp only [P3]
 refine wpAny_take (i:=25) (oi:=⟨some 14,_,_,_,_,_⟩) (v:=Eo 12) rfl (by kernel_rfl) (by kernel_rfl) (by kernel_rfl) (fun _ _ _ h=>h) (Or.inl ⟨by rfl,?_⟩) ?_
 ·intro w;kernel_rfl
 try simp only [P3]
 refine wpAny_take (i:=27) (oi:=⟨some 15,_,_,_,_,_⟩) (v:=Eo 13) rfl (by kernel_rfl) (by kernel_rfl) (by kernel_rfl) (fun _ _ _ h=>h) (Or.inl ⟨by rfl,?_⟩) ?_
 ·intro w;kernel_rfl
 try simp only [P3]
 refine wpAny_take (i:=29) (oi:=⟨some 16,_,_,_,_,_⟩) (v:=Eo 14) rfl (by kernel_rfl) (by kernel_rfl) (by kernel_rfl) (fun _ _ _ h=>h) (Or.inl ⟨by rfl,?_⟩) ?_
 ·intro w;kernel_rfl
 try simp only [P3]
 refine wpAny_take (i:=31) (oi:=⟨some 17,_,_,_,_,_⟩) (v:=Eo 15) rfl (by kernel_rfl) (by kernel_rfl) (by kernel_rfl) (fun _ _ _ h=>h) (Or.inl ⟨by rfl,?_⟩) ?_
 ·intro w;kernel_rfl
 try simp only [P3]
 refine wpAny_take (i:=33) (oi:=⟨some 18,_,_,_,_,_⟩) (v:=Eo 16) rfl (by kernel_rfl) (by kernel_rfl) (by kernel_rfl) (fun _ _ _ h=>h) (Or.inl ⟨by rfl,?_⟩) ?_
 ·intro w;kernel_rfl
 try simp only [P3]
 refine wpAny_take (i:=35) (oi:=⟨some 19,_,_,_,_,_⟩) (v:=Eo 17) rfl (by kernel_rfl) (by kernel_rfl) (by kernel_rfl) (fun _ _ _ h=>h) (Or.inl ⟨by rfl,?_⟩) ?_
 ·intro w;kernel_rfl
 try simp only [P3]
 refine wpAny_take (i:=37) (oi:=⟨some 20,_,_,_,_,_⟩) (v:=Eo 18) rfl (by kernel_rfl) (by kernel_rfl) (by kernel_rfl) (fun _ _ _ h=>h) (Or.inl ⟨by rfl,?_⟩) ?_
 ·intro w;kernel_rfl
 try simp only [P3]
 refine wpAny_take (i:=39) (oi:=⟨some 21,_,_,_,_,_⟩) (v:=Eo 19) rfl (by kernel_rfl) (by kernel_rfl) (by kernel_rfl) (fun _ _ _ h=>h) (Or.inl ⟨by rfl,?_⟩) ?_
 ·intro w;kernel_rfl
 try simp only [P3]
 refine wpAny_take (i:=41) (oi:=⟨some 22,_,_,_,_,_⟩) (v:=Eo 20) rfl (by kernel_rfl) (by kernel_rfl) (by kernel_rfl) (fun _ _ _ h=>h) (Or.inl ⟨by rfl,?_⟩) ?_
 ·intro w;kernel_rfl
 try simp only [P3]
 refine wpAny_take (i:=43) (oi:=⟨some 23,_,_,_,_,_⟩) (v:=Eo 21) rfl (by kernel_rfl) (by kernel_rfl) (by kernel_rfl) (fun _ _ _ h=>h) (Or.inl ⟨by rfl,?_⟩) ?_
 ·intro w;kernel_rfl
 try simp only [P3]
 refine wpAny_take (i:=45) (oi:=⟨some 24,_,_,_,_,_⟩) (v:=Eo 22) rfl (by kernel_rfl) (by kernel_rfl) (by kernel_rfl) (fun _ _ _ h=>h) (Or.inl ⟨by rfl,?_⟩) ?_
 ·intro w;kernel_rfl
 try simp only [P3]
 refine wpAny_take (i:=47) (oi:=⟨some 25,_,_,_,_,_⟩) (v:=Eo 23) rfl (by kernel_rfl) (by kernel_rfl) (by kernel_rfl) (fun _ _ _ h=>h) (Or.inl ⟨by rfl,?_⟩) ?_
 ·intro w;kernel_rfl
 try simp only [P3]
 refine wpAny_take (i:=49) (oi:=⟨some 26,_,_,_,_,_⟩) (v:=Eo 24) rfl (by kernel_rfl) (by kernel_rfl) (by kernel_rfl) (fun _ _ _ h=>h) (Or.inl ⟨by rfl,?_⟩) ?_
 ·intro w;kernel_rfl
 try simp only [P3]
 refine wpAny_take (i:=51) (oi:=⟨some 27,_,_,_,_,_⟩) (v:=Eo 25) rfl (by kernel_rfl) (by kernel_rfl) (by kernel_rfl) (fun _ _ _ h=>h) (Or.inl ⟨by rfl,?_⟩) ?_
 ·intro w;kernel_rfl
 try simp only [P3]
 refine wpAny_take (i:=53) (oi:=⟨some 28,_,_,_,_,_⟩) (v:=Eo 26) rfl (by kernel_rfl) (by kernel_rfl) (by kernel_rfl) (fun _ _ _ h=>h) (Or.inl ⟨by rfl,?_⟩) ?_
 ·intro w;kernel_rfl
 try simp only [P3]
 refine wpAny_ready (rs:=[0]) (by kernel_rfl) (by simp) ?_
 refine AllReady.cons rfl (fun K hK=> ?_) AllReady.nil
 go_simp;simp only [run_makeMap,Result.andThen_ok];refine hK _ _ ?_;clear hK K
 try simp only [P3]
 refine TU (L':=Hp (fun _=>false)) (by kernel_rfl) ?_
 refine AdD (I:=Ae5 w.heap.size w w.heap.size (HO e n) kq) rfl ?_ ?_ ?_ ?_ ?_ 27 _ _ (by decide) ?_
 ·exact Adb (by kernel_rfl)
 ·exact ⟨_,rfl,by kernel_rfl⟩
 ·exact ⟨_,rfl,by kernel_rfl⟩
 ·intro d w1 k hk1 hd hI;exact AcD hq hk1 hd (Nat.le_refl _) rfl (Adb (f:=fun k=>Act.eval _ (.tmp (k+2))) (by kernel_rfl) k hk1) hI
 ·intro d w1 hd hI;obtain ⟨D,m,hown,-,-,hat⟩:=hI.own;have hbel:=hI.below;rw [AdC hk hd] at hat;rw [AcA hd];clear hI;refine wpAny_ready (rs:=[55]) (by kernel_rfl) (by simp) ?_
  refine AllReady.cons rfl (fun K hK=> ?_) AllReady.nil
  go_simp;refine hK _ _ ?_;clear hK K;refine wpAny_ready (rs:=[56]) (by kernel_rfl) (by simp) ?_
  refine AllReady.cons rfl (fun K hK=> ?_) AllReady.nil
  go_simp;refine hK _ _ ?_;clear hK K;refine wpAny_done (by kernel_rfl) ?_ _
  refine NoPanic.normal ?_;go_wp2_with fail;go_ret;exact ⟨_,D,m,rfl,hown,hat,hbel⟩
 ·refine ⟨⟨.map [],0,?_,by decide,Maps.isMap_empty,?_⟩,(Below.refl _ _).drew.alloc (Nat.le_refl _) _⟩
  ·exact World.ownsMap_made w.drew _ _ _
  ·cases kq<;>rfl
theorem Abv {s t:ByteArray} {l:List UInt8} (h:t.toList=AD s.toList) (hl:AD s.toList=l):t=⟨l.toArray⟩:=Df ((h.trans hl).trans (toList_mk l).symm)
theorem UW (s t:ByteArray) (e n:List UInt8) (kq:Option Nat) (x:Int) (he:AD s.toList=e) (hn:AD t.toList=n) (hs:s.size<=1000) (ht:t.size<=1000) (hq:AbW e n kq) (hk:∀ k,kq=some k->k<27) (hx:U1 kq (fun _=>true)=x) (hko:keyOf prog 91 (AfX e n)=some (HO e n)) (w:World):
  Calls prog 21 #[.string s,.string t] w fun r w'=>r= .returned (.int .i64 x)/\Below w.heap.size w w':=by
 have hB:Below w.heap.size w w:=Below.refl _ _;go_enter func21,ntmps21;go_wp2_with fail;refine (Aau e n kq hq hk _).mono ?_;rintro r w1 ⟨b,D,m,rfl,hown,hat,hb⟩;replace hB:=hB.next hb
 clear hb;go_wp2_with fail;refine (Fl _ _ (by omega)).mono ?_
 rintro r w2 ⟨e1,rfl,he1,hb⟩;replace hB:=hB.next hb
 replace hown:=KD hown hb;clear hb;obtain rfl:=Abv he1.out he;go_wp2_with fail;refine (Fl _ _ (by omega)).mono ?_
 rintro r w3 ⟨n1,rfl,hn1,hb⟩;replace hB:=hB.next hb
 replace hown:=KD hown hb;clear hb;obtain rfl:=Abv hn1.out hn;obtain ⟨c,hrun,hatc,-⟩:=hown.lookup_int VL underlying88 underlying3 (by kernel_rfl) hko
 have hc:c=x:=by
  have e1:=hatc.symm.trans hat;rw [hx] at e1;cases e1;rfl
 subst hc;unfold AfX at hrun;clear hatc hat hown he1 hn1 hko;go_wp2_with fail;go_ret;exact ⟨rfl,hB⟩
def FH (b:Nat) (w w':World):Prop:=∀ g c T,T≠5->g≠b->AJ w g c T->AJ w' g c T
theorem FH.refl (b:Nat) (w:World):FH b w w:=fun _ _ _ _ _ h=>h
theorem FH.trans {b:Nat} {u v w:World} (h:FH b u v) (k:FH b v w):FH b u w:=fun g c T h1 h2 h3=>k g c T h1 h2 (h g c T h1 h2 h3)
theorem FH.of {b:Nat} {v w:World} (h:Below v.heap.size v w):FH b v w:=fun _ _ _ _ _ h3=>h3.keep h
theorem Sa {b C n:Nat} {v:Value} {xs:List Value} {w1 w2:World} (hown:w1.ownsRow C 5 1 v n xs) (hg:w1.grownBy w2 v.ownBlock):FH b w1 w2:=fun g c T hT _ h3=>by
 refine (hg.block g h3.lt ?_).trans h3;rcases hown.2 with ⟨rfl,_⟩ | ⟨k,cap,cur,rfl,_,hh,_⟩
 ·exact fun e=>by cases e
 ·intro e;obtain rfl:g=k:=by simpa [Value.ownBlock] using e
  have h4:w1.heap[g]? =some (.cells c T (0,0)):=h3;rw [hh] at h4;simp only [Option.some.injEq,Obj.cells.injEq] at h4;exact hT h4.2.1.symm
theorem JY {b:Nat} {w:World} (i:Nat) (v:Value):FH b w (w.setCell ⟨b,i,none⟩ v):=fun g c T _ hgb h3=>(Below.heap_setCell _ _ _ _ hgb).trans h3
theorem IB (C b:Nat) (l:List UInt8) (s:ByteArray) (w:World) (h:GR w C b l) (hl:l.length<=1099511627776) (hsz:s.size<=1099511627776) (hC:C<=w.heap.size):
  Calls prog 40 #[.pointer (some ⟨b,0,none⟩),.string s] w fun e w'=>e= .returned (.tuple #[.int .i64 s.size,.nilIface])/\GR w' C b (l++s.toList)/\BI (I6 b C) w w'/\FH b w w':=by
 obtain ⟨i0,hi,hz0,hz1,hz2⟩:=info_parts J4;have h0:=h.to (Nat.zero_le _) (Nat.zero_le _);obtain ⟨p0,v0,hp0,hblk0,hown0,hne0⟩:=h;go_enter func40,ntmps40;go_wp2_with fail;refine (Lh b l _ h0).mono ?_;rintro e w1 ⟨rfl,⟨hBb,v,hblk,hown,hne⟩,hw1⟩
 have hkt1:FH b w w1:=by
  rcases hw1 with rfl | rfl
  ·exact FH.refl _ _
  ·exact JY _ _
 have hv:v=v0/\BI (I6 b C) w w1/\w.heap.size<=w1.heap.size:=by
  rcases hw1 with rfl | rfl
  ·rw [hblk0] at hblk;simp only [Option.some.injEq,Obj.cells.injEq,Array.mk.injEq,List.cons.injEq,and_true] at hblk;exact ⟨hblk.2.symm,BI.refl _ _,Nat.le_refl _⟩
  ·rw [A6 hblk0] at hblk;simp only [Option.some.injEq,Obj.cells.injEq,and_true] at hblk;have:(#[p0,v0]:Array Value).setIfInBounds 0 (.pointer (some ⟨b,0,none⟩))= #[.pointer (some ⟨b,0,none⟩),v0]:=rfl;rw [this] at hblk;simp only [Array.mk.injEq,List.cons.injEq,and_true,true_and] at hblk;exact ⟨hblk.symm,(BI.refl _ _).set (.inl rfl) _ _,by simp [World.setCell]⟩
 obtain ⟨rfl,hch,hs⟩:=hv;have hown:=Ki hown hown0;clear hw1 hown0 hblk0 h0 hp0 hne0;have hlt:=Cu hblk;have c1:w1.cell? ⟨b,1,none⟩=some v:=by rw [Lib.cell_of_heap hblk];rfl
 rw [Lib.byteCells_length] at hown;go_wp2_with (at_builtin;refine Lib.wpList_append_own_string _ rfl _ _ 25 9 rfl C 5 i0 underlying25 underlying9 hi hz0 hz1 hz2 _ _ _ rfl hown s rfl (by unfold maxLen;omega) (by omega) (by omega) ?_;intro v' w2 hown' hgrow _;obtain ⟨a2,k2,c2,rfl⟩:=EI hown';have hblk2:=(hgrow.block b hlt (fun e=>hne e.symm)).trans hblk;obtain ⟨d1,f1⟩:=Gi hblk2)
 go_wp2_with fail;go_ret2;have hbel:Below C w1 w2:=(Below.refl C w1).grown hgrow (by omega) (fun k hk=>(hown.lt k hk).1)
 have hch2:BI (I6 b C) w1 w2:=⟨hbel.os,hbel.tape,hbel.output,hbel.size,fun k hk hn=>hbel.block k (by
  unfold I6 at hn;rw [not_or] at hn;omega)⟩
 refine ⟨rfl,?_,(hch.trans hch2).set (.inl rfl) _ _,(hkt1.trans (Sa hown hgrow)).trans (JY _ _)⟩
 have hout:w2.ownsRow C 5 1 (.slice a2 k2 c2) (Lib.byteCells (l++s.toList)).length (Lib.byteCells (l++s.toList)):=by
  rw [Cj,List.length_append,Lib.byteCells_length,Lib.byteCells_length,<-Jp,Aa];exact hown'
 have hput:=Lib.BuilderAt.put (B:=0) (Nat.zero_le b) hblk2 (Dv hout (Nat.zero_le _)) Sd;obtain ⟨_,v3,hblk3,hown3,hne3⟩:=hput;have e3:=(A6 (i:=1) (v:= .slice a2 k2 c2) hblk2).symm.trans hblk3;simp only [Option.some.injEq,Obj.cells.injEq,and_true] at e3;have e4:(#[.pointer (some ⟨b,0,none⟩),v]:Array Value).setIfInBounds 1 (.slice a2 k2 c2)= #[.pointer (some ⟨b,0,none⟩),.slice a2 k2 c2]:=rfl;rw [e4] at e3;simp only [Array.mk.injEq,List.cons.injEq,and_true,true_and] at e3;subst e3;exact ⟨_,_,.inr rfl,hblk3,Ki hown3 hout,hne3⟩
theorem Ya (C b:Nat) (l:List UInt8) (c:UInt8) (w:World) (h:GR w C b l) (hl:l.length<=1099511627776) (hC:C<=w.heap.size):
  Calls prog 41 #[.pointer (some ⟨b,0,none⟩),.int .u8 (c.toNat:Int)] w fun e w'=>e= .returned .nilIface/\GR w' C b (l++[c])/\BI (I6 b C) w w'/\FH b w w':=by
 obtain ⟨i0,hi,hz0,hz1,hz2⟩:=info_parts J4;have h0:=h.to (Nat.zero_le _) (Nat.zero_le _);obtain ⟨p0,v0,hp0,hblk0,hown0,hne0⟩:=h;go_enter func41,ntmps41;go_wp2_with fail;refine (Lh b l _ h0).mono ?_;rintro e w1 ⟨rfl,⟨hBb,v,hblk,hown,hne⟩,hw1⟩
 have hkt1:FH b w w1:=by
  rcases hw1 with rfl | rfl
  ·exact FH.refl _ _
  ·exact JY _ _
 have hv:v=v0/\BI (I6 b C) w w1/\w.heap.size<=w1.heap.size:=by
  rcases hw1 with rfl | rfl
  ·rw [hblk0] at hblk;simp only [Option.some.injEq,Obj.cells.injEq,Array.mk.injEq,List.cons.injEq,and_true] at hblk;exact ⟨hblk.2.symm,BI.refl _ _,Nat.le_refl _⟩
  ·rw [A6 hblk0] at hblk;simp only [Option.some.injEq,Obj.cells.injEq,and_true] at hblk;have:(#[p0,v0]:Array Value).setIfInBounds 0 (.pointer (some ⟨b,0,none⟩))= #[.pointer (some ⟨b,0,none⟩),v0]:=rfl;rw [this] at hblk;simp only [Array.mk.injEq,List.cons.injEq,and_true,true_and] at hblk;exact ⟨hblk.symm,(BI.refl _ _).set (.inl rfl) _ _,by simp [World.setCell]⟩
 obtain ⟨rfl,hch,hs⟩:=hv;have hown:=Ki hown hown0;clear hw1 hown0 hblk0 h0 hp0 hne0;have hlt:=Cu hblk;have c1:w1.cell? ⟨b,1,none⟩=some v:=by rw [Lib.cell_of_heap hblk];rfl
 rw [Lib.byteCells_length] at hown;go_wp2_with (at_builtin;refine wpList_append_own _ rfl _ _ 25 rfl C 5 i0 (.int .u8 0) 1 1 underlying25 hi hz0 hz1 hz2 rfl (by decide) _ _ _ rfl (hown.alloc _) ⟨w1.heap.size,0,none⟩ 1 1 [.int .u8 (c.toNat:Int)] rfl rfl (Pn w1 _ _) (by intro u hu;simp at hu;subst hu;rfl) (by unfold maxLen;omega) (by omega) (by simp;omega) ?_;intro v' w2 hown' hgrow _;obtain ⟨a2,k2,c2,rfl⟩:=EI hown';have hblk2:=(hgrow.block b (by simp;omega) (fun e=>hne e.symm)).trans ((Lib.alloc_old w1 _ b hlt).trans hblk);obtain ⟨d1,f1⟩:=Gi hblk2)
 go_wp2_with fail;go_ret;have hbel:Below C w1 w2:=((Below.refl C w1).alloc (by omega) _).grown hgrow (by simp;omega) (fun k hk=>(hown.lt k hk).1)
 have hch2:BI (I6 b C) w1 w2:=⟨hbel.os,hbel.tape,hbel.output,hbel.size,fun k hk hn=>hbel.block k (by
  unfold I6 at hn;rw [not_or] at hn;omega)⟩
 refine ⟨rfl,?_,(hch.trans hch2).set (.inl rfl) _ _,(hkt1.trans ((FH.of ((Below.refl _ _).alloc (Nat.le_refl _) _)).trans (Sa (hown.alloc _) hgrow))).trans (JY _ _)⟩
 have hout:w2.ownsRow C 5 1 (.slice a2 k2 c2) (Lib.byteCells (l++[c])).length (Lib.byteCells (l++[c])):=by
  rw [Cj,List.length_append,Lib.byteCells_length];exact hown'
 have hput:=Lib.BuilderAt.put (B:=0) (Nat.zero_le b) hblk2 (Dv hout (Nat.zero_le _)) Sd;obtain ⟨_,v3,hblk3,hown3,hne3⟩:=hput;have e3:=(A6 (i:=1) (v:= .slice a2 k2 c2) hblk2).symm.trans hblk3;simp only [Option.some.injEq,Obj.cells.injEq,and_true] at e3;have e4:(#[.pointer (some ⟨b,0,none⟩),v]:Array Value).setIfInBounds 1 (.slice a2 k2 c2)= #[.pointer (some ⟨b,0,none⟩),.slice a2 k2 c2]:=rfl;rw [e4] at e3;simp only [Array.mk.injEq,List.cons.injEq,and_true,true_and] at e3;subst e3;exact ⟨_,_,.inr rfl,hblk3,Ki hown3 hout,hne3⟩
end Go.Proofs.YtonomfeipkdmhaaGreatDoor
