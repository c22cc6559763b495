/- Part 21: lemmas. -/
import Derived.Test.YtonomfeipkdmhaaGreatDoorL20
set_option linter.unusedVariables false
set_option linter.unusedSimpArgs false
set_option maxRecDepth 100000
set_option maxHeartbeats 16000000
namespace Go.Proofs.YtonomfeipkdmhaaGreatDoor
open Go.RowKit
theorem Ab1 {S B:Am} {u b:Ao} (h:G0 S u) (hB:G0 B b):G0 (Ek S B.host) (Bu u b.host):=
 ⟨h.scheme,h.user,h.pass,hB.host,h.hasPort,h.port,h.opq,h.flat,h.path,h.hasQuery,h.query,h.hasFrag,h.frag⟩
def Dp:ByteArray:=⟨#[102,105,108,101]⟩
theorem C2:Dp.toList=Aw:=toList_mk _
theorem XB (B:Am) (b:Ao) (p:DB) (w:World) (hE:Gu w) (hB:DM w B b) (bk:F2 B) (ok:Lj p):Calls Tryz.prog 146 #[.agg (Ab B),.agg (Av p)] w (LF (LW b p.l) w):=by
 obtain ⟨R,hR⟩:=N2 (LW b p.l);rw [hR];have hv:=hR.symm;unfold LW at hv
 try dsimp only at hv
 replace hR:=H0 hR;have hI:=YR.start w (Ab B) 34 (Av p) 72;have hPB:=H0 hB.path;have hiB:=H0 hB.is;have hcap:=hB.cap;have hn:=bk.n;have hz:=bk.z;have hrz:=ok.rz;have hqz:=ok.qz;have hfz:=ok.fz;have hkq:=H0 ok.q;have hkf:=H0 ok.f;have hE':=H0 hE;clear ok hE hB bk
 have hst:=H0 (fun w=>Kc Dp p w Qa Qa)
 have hsl:=H0 (fun w=>Hn Dp p.rest w Qa)
 have hsh:=H0 (fun w hp=>Ow Dp B.pathA B.path.length B.pathC B.path w hp hn hcap hz)
 have hle:=FO true p.rest.toList;rw [Aa] at hle
 rw [show Aj Dp.toList=true by rw [C2];rfl] at hsl
 rw [C2] at hsh;rw [show p.l.rest=p.rest.toList from rfl] at hv;obtain ⟨fr,hfr⟩:∃ x,(b.scheme==Aw)=x:=⟨_,rfl⟩
 have hfr2:(B.scheme.toList==[102,105,108,101])=fr:=by rw [hiB.out.scheme];exact hfr
 rw [hfr] at hv;replace hfr:=H0 hfr;obtain ⟨n,hnn⟩:=N2 (A4 true p.rest.toList);rw [hnn] at hsl hv hle;replace hnn:=H0 hnn;replace hv:=H0 hv;go_enter Tryz.func146,Tryz.ntmps146
 go_upto_region 1 with (fail)
 refine Ap (R:=fun wx=>YR w wx (Ab B) 34 (Av p) 72) hI ?_
 clear hI;intro w1 hI;go_wp2_with (refine wpList_load_row rfl 72 _ rfl (w.heap.size+1) rfl _ (Av p) _ _ hI.b Tryz.underlying72 rfl (CA p) ?_);refine (hst.out _).mono ?_;rintro e w2 ⟨q,f,rfl,hqv,hfv,hb⟩;have hI2:=hI.keep hb;have hF:=hI2.fr (DN Dp p q f);have hF2:=hF.set (Ek (DN Dp p q f) (An .empty));have his:=YL (HW hqv.out hfv.out hkq.out hkf.out) .empty;rw [C2] at his
 go_upto_region 3 with (first
 | (refine Af rfl 34 _ _ rfl rfl (Ab (DN Dp p q f)) _ _ _ rfl Qf rfl (Ac _) rfl (Au _) ?_)
 | (refine Ad rfl _ _ _ rfl w2.heap.size 3 rfl (.int .i64 1) rfl rfl _ (Ab (DN Dp p q f)) (Ab (Ek (DN Dp p q f) (An .empty))) hF.g VX (by show 3+1<=23;decide) rfl Qb ?_))
 refine Ap (R:=fun wx=>Fr w wx (w.heap.size) (Ab B) 34 (w.heap.size+1) (Av p) 72 (w.heap.size+2) w2.heap.size (Ek (DN Dp p q f) (An .empty))) hF2 ?_
 clear hI hI2 hb hst hF hF2;intro w3 hI;obtain ⟨g,hg⟩:=N2 (w2.heap.size);rw [hg] at hI⊢;obtain ⟨U,hU⟩:∃ U,U=Ek (DN Dp p q f) (An .empty):=⟨_,rfl⟩;rw [<-hU] at his hI
 have hUs:U.scheme=Dp:=by rw [hU];rfl
 replace hU:=H0 hU;clear hg;obtain ⟨u,hu⟩:∃ u,Bu (Ax Aw p.l) .empty=u:=⟨_,rfl⟩
 have hus:u.scheme=Aw:=by rw [<-hu];rfl
 rw [hu] at hv his;replace hu:=H0 hu;replace hus:=H0 hus;replace his:=H0 his;have z0:=(hI.a.at 0).trans (show (Ab B)[0]? =some (.string B.scheme) from rfl);have y2:=(hI.b.at 2).trans (show (Av p)[2]? =some (.string p.rest) from rfl)
 have x0:=(hI.g.at 0).trans (show (Ab U)[0]? =some (.string Dp) by rw [<-hUs];rfl)
 by_cases hn2:2<=n
 ·have hn2I:(2:Int)<=(n:Int):=Qa;have hv1:=hv.out;rw [if_pos hn2] at hv1;have h2r:(2:Int)<=(p.rest.size:Int):=Qa
  have hr1:(p.rest.extract 2 p.rest.size).toList=p.rest.toList.drop 2:=by rw [toList_extract,List.take_of_length_le Qw]
  have hr2:(p.rest.extract 2 p.rest.size).size<=1100000:=Qh;rw [<-hr1] at hv1;replace hr1:=H0 hr1;replace hv1:=H0 hv1;go_wp2_with (go_at_call 207;refine (hsl.out _).mono ?_;rintro e w' ⟨rfl,rfl⟩);refine (VV g U u (p.rest.extract 2 p.rest.size) _ (hI.env hE'.out) hI.g his.out hr2).mono ?_;rintro e w4 ⟨hres,hc⟩;replace hv1:=hv1.out;clear y2 x0 z0 hv;obtain ⟨O,hO⟩:∃ O,GM u (p.rest.extract 2 p.rest.size).toList=O:=⟨_,rfl⟩;rw [hO] at hv1 hres;replace hO:=H0 hO
  cases O with
  | none=>
   obtain ⟨pv,rfl⟩:=hres;exact ⟨rfl,BS hv1 (hI.out hc)⟩
  | some u2=>
   obtain ⟨rfl,S',hcel,hu⟩:=hres;have hs5:=hI.below.size;have hr5:=hI.r.lt;replace hI:=hI.chg hc hcel;have hf:=H0 hv1;clear hc hcel hv1
   go_wp2_with (first
    | (refine wpList_load_row rfl 34 _ rfl g rfl _ (Ab (S')) _ _ hI.g Tryz.underlying34 rfl (Ac _) ?_)
    | (refine wpList_store_row rfl 34 _ _ rfl (w.heap.size+2) (Ab (S')) rfl rfl 34 _ hI.r (Ac _) rfl (Au _) ?_))
   refine Bl rfl rfl rfl (hI.r.set _) (Ac _) ?_;exact hI.fin ⟨hu,hr5,hs5⟩ hf.out
 ·have hv1:=hv.out;rw [if_neg hn2] at hv1;have hn2I:(n:Int)<2:=Qa
  cases fr with
  | true=>
   rw [if_pos rfl] at hv1;have hV:=H0 (Ab1 his.out hiB.out);have hI2:=hI.set (Ek U B.host)
   go_upto_region 11 with (first
    | (go_at_call 207;refine (hsl.out _).mono ?_;rintro e w' ⟨rfl,rfl⟩)
    | (refine wpList_load_mid Qt 32 _ rfl w.heap.size 3 rfl (Aq B.host).toList _ hI.a.host Tryz.underlying32 rfl (GF _) ?_)
    | (refine BT rfl _ _ _ rfl g 3 rfl (.agg (Aq B.host)) rfl (Aq B.host) rfl _ (Ab U) (Ab (Ek U B.host)) hI.g AP Akb (A1 _) Qb ?_))
   refine Ap (R:=fun wx=>Fr w wx (w.heap.size) (Ab B) 34 (w.heap.size+1) (Av p) 72 (w.heap.size+2) g (Ek U B.host)) hI2 ?_
   clear hI hI2 x0 y2 z0;intro w4 hI;obtain ⟨V,hVe⟩:∃ V,V=Ek U B.host:=⟨_,rfl⟩;rw [<-hVe] at hV hI
   have hVs:V.scheme=Dp:=by rw [hVe];exact hUs
   replace hVe:=H0 hVe;obtain ⟨v,hv0⟩:=N2 (Bu u b.host);rw [hv0] at hV hv1;replace hv0:=H0 hv0
   have x0:=(hI.g.at 0).trans (show (Ab (V))[0]? =some (.string Dp) by rw [<-hVs];rfl)
   have y2:=(hI.b.at 2).trans (show (Av p)[2]? =some (.string p.rest) from rfl)
   by_cases hn1:n=1
   ·subst hn1;rw [if_pos rfl] at hv1;have h1r:(1:Int)<=(p.rest.size:Int):=Qa
    have hr1:(p.rest.extract 1 p.rest.size).toList=p.rest.toList.drop 1:=by rw [toList_extract,List.take_of_length_le Qw]
    have hr2:(p.rest.extract 1 p.rest.size).size<=1100000:=Qh;rw [<-hr1] at hv1;obtain ⟨r,hre⟩:=N2 (p.rest.extract 1 p.rest.size);rw [hre] at hv1 hr2;have hre2:=hre;replace hre:=H0 hre;replace hr1:=H0 hr1
    have hstr:=H0 (fun w=>RJ r w Qa)
    cases hpl:B.path with
    | nil=>
     have hlen:B.path.length=0:=by rw [hpl];rfl
     have x18:=(hI.a.at 18).trans (show (Ab B)[18]? =some (.slice B.pathA 0 B.pathC) by rw [<-hlen];rfl)
     have hfn:EU b.path=false:=by rw [<-hiB.out.path,hpl];rfl
     rw [hfn] at hv1
     have hf:=H0 (hv1.trans (congrArg some (congrArg (BF (v)) (congrArg (fun l=>Dx Aw l r.toList) (if_neg Qf)))))
     replace hpl:=H0 hpl;replace hv1:=H0 hv1;replace hlen:=H0 hlen;replace hfn:=H0 hfn;go_wp2_with (go_at_call 207;refine (hsl.out _).mono ?_;rintro e w' ⟨rfl,rfl⟩)
     refine (BB Dp none 0 0 [] r _ (Da _) Aeb Qa (fun t h=>Qr)).mono ?_
     rintro e w6 ⟨v,l5,rfl,hl5,ho,hb⟩;have hg5:=hI.g.lt;have hs5:=hI.below.size;have hr5:=hI.r.lt;obtain ⟨pa,c,rfl,-,-⟩:=BH ho;replace hI:=hI.keep hb;have hI2:=hI.set (Ah (V) pa c l5);have ho2:=AH.row ho hg5 (Ab (Ah (V) pa c l5));have hl6:=hl5.out;rw [C2] at hl6;replace hl6:=H0 hl6;clear hb
     go_wp2_with (first
      | (refine Ad rfl _ _ _ rfl g 18 rfl (.slice pa l5.length c) rfl rfl _ (Ab (V)) (Ab (Ah (V) pa c l5)) hI.g Bs Qp rfl Qb ?_)
      | (refine wpList_load_row rfl 34 _ rfl g rfl _ (Ab (Ah (V) pa c l5)) _ _ hI2.g Tryz.underlying34 rfl (Ac _) ?_)
      | (refine wpList_store_row rfl 34 _ _ rfl (w.heap.size+2) (Ab (Ah (V) pa c l5)) rfl rfl 34 _ hI2.r (Ac _) rfl (Au _) ?_))
     refine Bl rfl rfl rfl (hI2.r.set _) (Ac _) ?_;exact hI2.fin ⟨⟨Cy hV.out (hl6.out),ho2⟩,hr5,hs5⟩ hf.out
    | cons t0 tr=>
     have hlen:B.path.length=tr.length+1:=by rw [hpl];rfl
     have hlI:(0:Int)<(B.path.length:Int):=Qa;obtain ⟨pa0,pc0,pe0,hcell⟩:=(hPB.out.below hI.below (Nat.le_refl _)).read;obtain ⟨g0,o0,pe1,hcell⟩:=hcell Qa;have hc0:=hcell 0 Qa;rw [Nat.add_zero] at hc0
     have ht0:B.path[0]' Qa=t0:=by simp [hpl]
     rw [ht0] at hc0
     have hpa:B.pathA=some ⟨g0,o0,none⟩:=by cases pe0;exact pe1
     have x18:=(hI.a.at 18).trans (show (Ab B)[18]? =some (.slice (some ⟨g0,o0,none⟩) B.path.length B.pathC) by rw [<-hpa];rfl)
     have hz0:t0.size<=4294967296:=hz t0 (by rw [hpl];exact List.mem_cons_self ..)
     have hno:=H0 (fun w=>Lu t0 w hz0)
     have hfn:EU b.path=CT t0.toList:=by rw [<-hiB.out.path,hpl];rfl
     have htk:b.path.take 1=[t0].map (·.toList):=by rw [<-hiB.out.path,hpl];rfl
     rw [hfn,htk] at hv1;obtain ⟨N0,hN0⟩:∃ x,CT t0.toList=x:=⟨_,rfl⟩;obtain ⟨S0,hS0⟩:∃ x,E0 r.toList=x:=⟨_,rfl⟩;rw [hN0,hS0] at hv1;rw [hN0] at hno;rw [hS0] at hstr;replace hN0:=H0 hN0;replace hS0:=H0 hS0;replace hpl:=H0 hpl;replace hlen:=H0 hlen;replace hfn:=H0 hfn;replace htk:=H0 htk;replace ht0:=H0 ht0;replace hcell:=H0 @hcell;clear hcell pe0 pe1
     by_cases hall:(N0 && !S0)=true
     ·obtain ⟨rfl,rfl⟩:N0=true/\S0=false:=by cases N0<;>cases S0<;>simp at hall⊢
      have hf:=H0 (hv1.trans (congrArg some (congrArg (BF (v)) (congrArg (fun l=>Dx Aw l r.toList) (if_pos rfl)))))
      replace hall:=H0 hall;replace hv1:=H0 hv1
      go_upto_region 16 with (first
       | (go_at_call 207;refine (hsl.out _).mono ?_;rintro e w' ⟨rfl,rfl⟩)
       | (go_at_call 209;refine (hno.out _).mono ?_;rintro e w' ⟨rfl,rfl⟩)
       | (go_at_call 210;refine (hstr.out _).mono ?_;rintro e w' ⟨rfl,rfl⟩))
      have hP1:Hid (∀ wx,AG wx w4.heap.size #[.string t0] 9->DO wx (some ⟨w4.heap.size,0,none⟩) 1 1 [t0]):=H0 (fun wx h=>⟨rfl,⟨_,1,rfl,fun _=>⟨_,0,rfl,fun i hi=>by
       have hi0:i=0:=by simp at hi;omega
       subst hi0
       exact h.at 0⟩⟩,fun h=>Qr⟩)
      have hnew:=AG.new w4 #[.string t0] 9;replace hI:=hI.keep ((Below.refl _ _).alloc (Nat.le_refl _) (.cells #[.string t0] 9))
      have x0':=(hI.g.at 0).trans (show (Ab V)[0]? =some (.string Dp) by rw [<-hVs];rfl)
      refine Ap (R:=fun wx=>Fr w wx (w.heap.size) (Ab B) 34 (w.heap.size+1) (Av p) 72 (w.heap.size+2) g (V)/\AG wx w4.heap.size #[.string t0] 9) ⟨hI,hnew⟩ ?_
      clear hI hnew x0 x0' y2 x18 hc0;rintro w5 ⟨hI,hnew⟩
      have x0:=(hI.g.at 0).trans (show (Ab V)[0]? =some (.string Dp) by rw [<-hVs];rfl)
      go_wp2_with fail
      refine (BB Dp (some ⟨w4.heap.size,0,none⟩) 1 1 [t0] r _ (hP1.out _ hnew) Aeb Qa (fun t h=>by rw [List.mem_singleton.1 h];exact hz0)).mono ?_
      rintro e w6 ⟨v,l5,rfl,hl5,ho,hb⟩;have hg5:=hI.g.lt;have hs5:=hI.below.size;have hr5:=hI.r.lt;obtain ⟨pa,c,rfl,-,-⟩:=BH ho;replace hI:=hI.keep hb;have hI2:=hI.set (Ah (V) pa c l5);have ho2:=AH.row ho hg5 (Ab (Ah (V) pa c l5));have hl6:=hl5.out;rw [C2] at hl6;replace hl6:=H0 hl6;clear hb
      go_wp2_with (first
       | (refine Ad rfl _ _ _ rfl g 18 rfl (.slice pa l5.length c) rfl rfl _ (Ab (V)) (Ab (Ah (V) pa c l5)) hI.g Bs Qp rfl Qb ?_)
       | (refine wpList_load_row rfl 34 _ rfl g rfl _ (Ab (Ah (V) pa c l5)) _ _ hI2.g Tryz.underlying34 rfl (Ac _) ?_)
       | (refine wpList_store_row rfl 34 _ _ rfl (w.heap.size+2) (Ab (Ah (V) pa c l5)) rfl rfl 34 _ hI2.r (Ac _) rfl (Au _) ?_))
      refine Bl rfl rfl rfl (hI2.r.set _) (Ac _) ?_;exact hI2.fin ⟨⟨Cy hV.out (hl6.out),ho2⟩,hr5,hs5⟩ hf.out
     ·have hf:=H0 (hv1.trans (congrArg some (congrArg (BF (v)) (congrArg (fun l=>Dx Aw l r.toList) (if_neg (by rw [Bool.true_and];exact hall))))))
      have hcase:N0=false\/(N0=true/\S0=true):=by cases N0<;>cases S0<;>simp at hall⊢
      replace hall:=H0 hall;replace hv1:=H0 hv1
      rcases hcase with rfl | ⟨rfl,rfl⟩
      all_goals
       go_wp2_with (first
        | (go_at_call 207;refine (hsl.out _).mono ?_;rintro e w' ⟨rfl,rfl⟩)
        | (go_at_call 209;refine (hno.out _).mono ?_;rintro e w' ⟨rfl,rfl⟩)
        | (go_at_call 210;refine (hstr.out _).mono ?_;rintro e w' ⟨rfl,rfl⟩))
       refine (BB Dp none 0 0 [] r _ (Da _) Aeb Qa (fun t h=>Qr)).mono ?_
       rintro e w6 ⟨v,l5,rfl,hl5,ho,hb⟩;have hg5:=hI.g.lt;have hs5:=hI.below.size;have hr5:=hI.r.lt;obtain ⟨pa,c,rfl,-,-⟩:=BH ho;replace hI:=hI.keep hb;have hI2:=hI.set (Ah (V) pa c l5);have ho2:=AH.row ho hg5 (Ab (Ah (V) pa c l5));have hl6:=hl5.out;rw [C2] at hl6;replace hl6:=H0 hl6;clear hb
       go_wp2_with (first
        | (refine Ad rfl _ _ _ rfl g 18 rfl (.slice pa l5.length c) rfl rfl _ (Ab (V)) (Ab (Ah (V) pa c l5)) hI.g Bs Qp rfl Qb ?_)
        | (refine wpList_load_row rfl 34 _ rfl g rfl _ (Ab (Ah (V) pa c l5)) _ _ hI2.g Tryz.underlying34 rfl (Ac _) ?_)
        | (refine wpList_store_row rfl 34 _ _ rfl (w.heap.size+2) (Ab (Ah (V) pa c l5)) rfl rfl 34 _ hI2.r (Ac _) rfl (Au _) ?_))
       refine Bl rfl rfl rfl (hI2.r.set _) (Ac _) ?_;exact hI2.fin ⟨⟨Cy hV.out (hl6.out),ho2⟩,hr5,hs5⟩ hf.out
   ·obtain rfl:n=0:=Qa;rw [if_neg Qc] at hv1;obtain ⟨re,hre⟩:∃ b,p.rest.toList.isEmpty=b:=⟨_,rfl⟩;rw [hre] at hv1
    cases re with
    | true=>
     have hf:=H0 (hv1.trans (if_pos rfl));clear hv1 hv
     go_upto_region 18 with (go_at_call 207;refine (hsl.out _).mono ?_;rintro e w' ⟨rfl,rfl⟩)
     clear x0 y2;have hg5:=hI.g.lt;have hs5:=hI.below.size;have hr5:=hI.r.lt;go_wp2_with (refine wpList_load_row rfl 34 _ rfl w.heap.size rfl _ (Ab B) _ _ hI.a Tryz.underlying34 rfl (Ac _) ?_);refine (Mu g (V) B _ hI.g (hPB.out.below hI.below (Nat.le_refl _)) Qa).mono ?_;rintro e w6 ⟨pa,c,rfl,hcel,ho,hch⟩;have hip:=LA hV.out hiB.out pa c
     have hpath:(if (V:Am).hasQuery=true then Ah (V) pa c B.path else I5 (Ah (V) pa c B.path) B).path=B.path/\(if (V:Am).hasQuery=true then Ah (V) pa c B.path else I5 (Ah (V) pa c B.path) B).pathA=pa/\(if (V:Am).hasQuery=true then Ah (V) pa c B.path else I5 (Ah (V) pa c B.path) B).pathC=c:=by
      split<;>exact ⟨rfl,rfl,rfl⟩
     obtain ⟨T,hT⟩:∃ T,(if (V:Am).hasQuery=true then Ah (V) pa c B.path else I5 (Ah (V) pa c B.path) B)=T:=⟨_,rfl⟩
     rw [hT] at hcel hip hpath;replace hT:=H0 hT;replace hI:=hI.chg hch hcel;replace hip:=H0 hip;clear hcel hch;obtain ⟨e1,e2,e3⟩:=hpath;rw [<-e1,<-e2,<-e3] at ho;replace e1:=H0 e1;replace e2:=H0 e2;replace e3:=H0 e3;replace ho:=H0 ho
     go_wp2_with (first
      | (refine wpList_load_row rfl 34 _ rfl g rfl _ (Ab (T)) _ _ hI.g Tryz.underlying34 rfl (Ac _) ?_)
      | (refine wpList_store_row rfl 34 _ _ rfl (w.heap.size+2) (Ab (T)) rfl rfl 34 _ hI.r (Ac _) rfl (Au _) ?_))
     refine Bl rfl rfl rfl (hI.r.set _) (Ac _) ?_;exact hI.fin ⟨⟨hip.out,ho.out⟩,hr5,hs5⟩ hf.out
    | false=>
     have hv2:=hv1.trans (if_neg Qc);clear hv1
     have hstr:=H0 (fun w=>RJ p.rest w Qa)
     obtain ⟨S0,hS0⟩:∃ x,E0 p.rest.toList=x:=⟨_,rfl⟩;rw [hS0] at hv2 hstr;replace hS0:=H0 hS0
     cases S0 with
     | false=>
      have hf:=H0 (hv2.trans (if_pos rfl));clear hv2 hv
      go_upto_region 20 with (first
       | (go_at_call 207;refine (hsl.out _).mono ?_;rintro e w' ⟨rfl,rfl⟩)
       | (go_at_call 210;refine (hstr.out _).mono ?_;rintro e w' ⟨rfl,rfl⟩))
      clear x0 y2
      refine Ap (R:=fun wx=>Fr w wx (w.heap.size) (Ab B) 34 (w.heap.size+1) (Av p) 72 (w.heap.size+2) g (V)) hI ?_
      clear hI;intro w5 hI;have hP1:=hPB.out.below hI.below (Nat.le_refl _);replace hP1:=H0 (hP1.below (Below.refl _ _).drew (Nat.le_refl _));replace hI:=hI.drew;refine wp_region_noPanic ?_
      refine wp_region_held_drew (S:=fun w'=>w'.cell? ⟨g,0,none⟩=some (.string (V).scheme)/\w'.cell? ⟨w.heap.size,18,none⟩=some (.slice B.pathA B.path.length B.pathC)/\w'.cell? ⟨w.heap.size+1,2,none⟩=some (.string p.rest)) Qb (hI.rel.2) (fun hHeld=> ?_)
      refine T0 0 92 ?_ hHeld ?_ ?_;rotate_left
      ·intro w hSw;(try dsimp only at hSw);go_simp;try with_reducible rfl
      try simp only [P3]
      refine T0 1 93 ?_ hHeld ?_ ?_;rotate_left
      ·intro w hSw;(try dsimp only at hSw);go_simp;try with_reducible rfl
      try simp only [P3]
      refine T0 2 94 ?_ hHeld ?_ ?_;rotate_left
      ·intro w hSw;(try dsimp only at hSw);go_simp;try with_reducible rfl
      try simp only [P3]
      refine T0 3 95 ?_ hHeld ?_ ?_;rotate_left
      ·intro w hSw;(try dsimp only at hSw);go_simp;try with_reducible rfl
      try simp only [P3]
      refine T0 4 96 ?_ hHeld ?_ ?_;rotate_left
      ·intro w hSw;(try dsimp only at hSw);go_simp;try with_reducible rfl
      try simp only [P3]
      refine T0 5 97 ?_ hHeld ?_ ?_;rotate_left
      ·intro w hSw;(try dsimp only at hSw);go_simp;try with_reducible rfl
      try simp only [P3]
      refine T0 7 99 ?_ hHeld ?_ ?_;rotate_left
      ·intro w hSw;(try dsimp only at hSw);go_simp;try with_reducible rfl
      try simp only [P3]
      refine T0 8 100 ?_ hHeld ?_ ?_;rotate_left
      ·intro w hSw;(try dsimp only at hSw);go_simp;try with_reducible rfl
      try simp only [P3]
      refine wpAnyH_ready (rs:=[6]) Qb Qf ?_
      refine AllReadyH.cons rfl (fun K hK=> ?_) AllReadyH.nil
      go_simp;refine (hsh.out _ hP1.out).mono ?_;rintro e w4 ⟨v,l,rfl,hl,ho,hb⟩;have hll:=Ad4 hl.out hn hz;obtain ⟨hn4,hz4⟩:=hll;obtain ⟨pa4,c4,rfl,hP4⟩:=DO.own ho;replace hI:=hI.keep hb;replace hP4:=H0 hP4;clear hb hHeld ho hP1;go_wp2_with fail
      refine hK.out _ _ (hI.rel.2) (fun hHeld=> ?_)
      clear hK K
      try simp only [P3]
      refine wpAnyH_ready (rs:=[9]) Qb Qf ?_
      refine AllReadyH.cons rfl (fun K hK=> ?_) AllReadyH.nil
      go_simp;refine (BB Dp pa4 l.length c4 l p.rest _ hP4.out hn4 hrz hz4).mono ?_;rintro e w5 ⟨v,l5,rfl,hl5,ho,hb⟩;have hg5:=hI.g.lt;have hs5:=hI.below.size;have hr5:=hI.r.lt;obtain ⟨pa,c,rfl,-,-⟩:=BH ho;replace hI:=hI.keep hb;replace ho:=H0 ho;clear hb hHeld;go_wp2_with fail
      refine hK.out _ _ (hI.rel.2) (fun hHeld=> ?_)
      clear hK K
      try simp only [P3]
      refine T0 10 102 ?_ hHeld ?_ ?_;rotate_left
      ·intro w hSw;(try dsimp only at hSw);go_simp;try with_reducible rfl
      try simp only [P3]
      refine wpAnyH_ready (rs:=[11]) Qb Qf ?_
      refine AllReadyH.cons rfl (fun K hK=> ?_) AllReadyH.nil
      refine AQ Qb (fun Q' hQ'=> ?_)
      refine Ad rfl _ _ _ rfl g 18 rfl (.slice pa l5.length c) rfl rfl _ (Ab (V)) (Ab (Ah (V) pa c l5)) hI.g Bs Qp rfl Qb ?_;replace hI:=hI.set (Ah (V) pa c l5);refine hQ' _ _ ?_
      refine hK.out _ _ (hI.rel.2) (fun hHeld=> ?_)
      clear hK K hQ' Q'
      try simp only [P3]
      refine wpAnyH_done Qb ?_ _;refine NoPanic.normal ?_
      go_upto_region 21 with (fail)
      refine Ap (R:=fun wx=>Fr w wx (w.heap.size) (Ab B) 34 (w.heap.size+1) (Av p) 72 (w.heap.size+2) g (Ah (V) pa c l5)/\AH wx w4.heap.size 9 (.slice pa l5.length c) l5) ⟨hI,AH.row ho.out hg5 _⟩ ?_
      clear hI ho hHeld;rintro w6 ⟨hI,ho⟩;have hl2:=hl5.out;rw [hl.out,hiB.out.path,C2] at hl2
      go_wp2_with (first
       | (refine wpList_load_row rfl 34 _ rfl g rfl _ (Ab (Ah (V) pa c l5)) _ _ hI.g Tryz.underlying34 rfl (Ac _) ?_)
       | (refine wpList_store_row rfl 34 _ _ rfl (w.heap.size+2) (Ab (Ah (V) pa c l5)) rfl rfl 34 _ hI.r (Ac _) rfl (Au _) ?_))
      refine Bl rfl rfl rfl (hI.r.set _) (Ac _) ?_;exact hI.fin ⟨⟨Cy hV.out hl2,ho⟩,hr5,hs5⟩ hf.out
     | true=>
      have hf:=H0 (hv2.trans (if_neg Qc));clear hv2 hv
      go_wp2_with (first
       | (go_at_call 207;refine (hsl.out _).mono ?_;rintro e w' ⟨rfl,rfl⟩)
       | (go_at_call 210;refine (hstr.out _).mono ?_;rintro e w' ⟨rfl,rfl⟩))
      refine (BB Dp none 0 0 [] p.rest _ (Da _) Aeb hrz (fun t h=>Qr)).mono ?_
      rintro e w6 ⟨v,l5,rfl,hl5,ho,hb⟩;have hg5:=hI.g.lt;have hs5:=hI.below.size;have hr5:=hI.r.lt;obtain ⟨pa,c,rfl,-,-⟩:=BH ho;replace hI:=hI.keep hb;have hI2:=hI.set (Ah (V) pa c l5);have ho2:=AH.row ho hg5 (Ab (Ah (V) pa c l5));have hl6:=hl5.out;rw [C2] at hl6;replace hl6:=H0 hl6;clear hb
      go_wp2_with (first
       | (refine Ad rfl _ _ _ rfl g 18 rfl (.slice pa l5.length c) rfl rfl _ (Ab (V)) (Ab (Ah (V) pa c l5)) hI.g Bs Qp rfl Qb ?_)
       | (refine wpList_load_row rfl 34 _ rfl g rfl _ (Ab (Ah (V) pa c l5)) _ _ hI2.g Tryz.underlying34 rfl (Ac _) ?_)
       | (refine wpList_store_row rfl 34 _ _ rfl (w.heap.size+2) (Ab (Ah (V) pa c l5)) rfl rfl 34 _ hI2.r (Ac _) rfl (Au _) ?_))
      refine Bl rfl rfl rfl (hI2.r.set _) (Ac _) ?_;exact hI2.fin ⟨⟨Cy hV.out (hl6.out),ho2⟩,hr5,hs5⟩ hf.out
  | false=>
   rw [show (if false=true then Bu u b.host else u)=u from if_neg Qc] at hv1
   go_upto_region 11 with (go_at_call 207;refine (hsl.out _).mono ?_;rintro e w' ⟨rfl,rfl⟩)
   clear x0 y2 z0
   have x0:=(hI.g.at 0).trans (show (Ab (U))[0]? =some (.string Dp) by rw [<-hUs];rfl)
   have y2:=(hI.b.at 2).trans (show (Av p)[2]? =some (.string p.rest) from rfl)
   by_cases hn1:n=1
   ·subst hn1;rw [if_pos rfl] at hv1;have h1r:(1:Int)<=(p.rest.size:Int):=Qa
    have hr1:(p.rest.extract 1 p.rest.size).toList=p.rest.toList.drop 1:=by rw [toList_extract,List.take_of_length_le Qw]
    have hr2:(p.rest.extract 1 p.rest.size).size<=1100000:=Qh;rw [<-hr1] at hv1;obtain ⟨r,hre⟩:=N2 (p.rest.extract 1 p.rest.size);rw [hre] at hv1 hr2;have hre2:=hre;replace hre:=H0 hre;replace hr1:=H0 hr1
    have hf:=H0 (hv1.trans (congrArg some (congrArg (BF (u)) (congrArg (fun l=>Dx Aw l r.toList) (if_neg Qf)))))
    replace hv1:=H0 hv1;go_wp2_with (go_at_call 207;refine (hsl.out _).mono ?_;rintro e w' ⟨rfl,rfl⟩)
    refine (BB Dp none 0 0 [] r _ (Da _) Aeb Qa (fun t h=>Qr)).mono ?_
    rintro e w6 ⟨v,l5,rfl,hl5,ho,hb⟩;have hg5:=hI.g.lt;have hs5:=hI.below.size;have hr5:=hI.r.lt;obtain ⟨pa,c,rfl,-,-⟩:=BH ho;replace hI:=hI.keep hb;have hI2:=hI.set (Ah (U) pa c l5);have ho2:=AH.row ho hg5 (Ab (Ah (U) pa c l5));have hl6:=hl5.out;rw [C2] at hl6;replace hl6:=H0 hl6;clear hb
    go_wp2_with (first
     | (refine Ad rfl _ _ _ rfl g 18 rfl (.slice pa l5.length c) rfl rfl _ (Ab (U)) (Ab (Ah (U) pa c l5)) hI.g Bs Qp rfl Qb ?_)
     | (refine wpList_load_row rfl 34 _ rfl g rfl _ (Ab (Ah (U) pa c l5)) _ _ hI2.g Tryz.underlying34 rfl (Ac _) ?_)
     | (refine wpList_store_row rfl 34 _ _ rfl (w.heap.size+2) (Ab (Ah (U) pa c l5)) rfl rfl 34 _ hI2.r (Ac _) rfl (Au _) ?_))
    refine Bl rfl rfl rfl (hI2.r.set _) (Ac _) ?_;exact hI2.fin ⟨⟨Cy his.out (hl6.out),ho2⟩,hr5,hs5⟩ hf.out
   ·obtain rfl:n=0:=Qa;rw [if_neg Qc] at hv1;have hf:=H0 (hv1.trans ((if_neg Qf).trans (if_neg Qf)));clear hv1 hv;go_wp2_with (go_at_call 207;refine (hsl.out _).mono ?_;rintro e w' ⟨rfl,rfl⟩)
    refine (BB Dp none 0 0 [] p.rest _ (Da _) Aeb hrz (fun t h=>Qr)).mono ?_
    rintro e w6 ⟨v,l5,rfl,hl5,ho,hb⟩;have hg5:=hI.g.lt;have hs5:=hI.below.size;have hr5:=hI.r.lt;obtain ⟨pa,c,rfl,-,-⟩:=BH ho;replace hI:=hI.keep hb;have hI2:=hI.set (Ah (U) pa c l5);have ho2:=AH.row ho hg5 (Ab (Ah (U) pa c l5));have hl6:=hl5.out;rw [C2] at hl6;replace hl6:=H0 hl6;clear hb
    go_wp2_with (first
     | (refine Ad rfl _ _ _ rfl g 18 rfl (.slice pa l5.length c) rfl rfl _ (Ab (U)) (Ab (Ah (U) pa c l5)) hI.g Bs Qp rfl Qb ?_)
     | (refine wpList_load_row rfl 34 _ rfl g rfl _ (Ab (Ah (U) pa c l5)) _ _ hI2.g Tryz.underlying34 rfl (Ac _) ?_)
     | (refine wpList_store_row rfl 34 _ _ rfl (w.heap.size+2) (Ab (Ah (U) pa c l5)) rfl rfl 34 _ hI2.r (Ac _) rfl (Au _) ?_))
    refine Bl rfl rfl rfl (hI2.r.set _) (Ac _) ?_;exact hI2.fin ⟨⟨Cy his.out (hl6.out),ho2⟩,hr5,hs5⟩ hf.out
theorem AgK (s:ByteArray) (w:World):Calls Tryz.prog 111 #[.string s,.string ⟨#[47,47]⟩] w fun e w'=>e= .returned (.bool (Lib.hasPrefix s.toList [47,47]))/\w=w':=by
 refine (Tryz.strings_HasPrefix s ⟨#[47,47]⟩ w).mono ?_;rintro e w' ⟨rfl,rfl⟩;have e1:s.data.toList=s.toList:=(ByteArray.toList_eq ..).symm;have e2:(ByteArray.mk #[47,47]).data.toList=[47,47]:=rfl;rw [e1,e2];exact ⟨rfl,rfl⟩
theorem YD (B:Am) (b:Ao) (p:DB) (w:World) (hE:Gu w) (hB:DM w B b) (bk:F2 B) (ok:Lj p):Calls Tryz.prog 86 #[.agg (Ab B),.agg (Av p)] w (LF (I7 b p.l) w):=by
 obtain ⟨R,hR⟩:=N2 (I7 b p.l);rw [hR];have hv:=hR.symm;unfold I7 at hv;replace hR:=H0 hR;have hI:=YR.start w (Ab B) 34 (Av p) 72
 have hfile:=H0 (fun w hE hB=>XB B b p w hE hB bk ok)
 have hother:=H0 (fun w hE=>V6 p w hE ok)
 have hflat:=H0 (fun w hB=>Yb B b p w hB bk ok)
 have hrel:=H0 (fun w hE hB=>Y0 B b p w hE hB bk ok)
 have hsp:=H0 (fun w=>DW p.sch w)
 have hhp:=H0 (fun w=>AgK p.rest w)
 have hrz:=ok.rz;have hqz:=ok.qz;have hfz:=ok.fz;have hkq:=H0 ok.q;have hkf:=H0 ok.f
 have hst:=H0 (fun w=>Kc p.sch p w Qa Qa)
 have hun:=H0 (fun w=>KJ p.sch p.rest w Qa)
 have hE':=H0 hE;have hB':=H0 hB;have hiB:=H0 hB.is;clear ok hE hB bk;rw [show p.l.hs=p.hs from rfl,show p.l.sch=p.sch.toList from rfl,show p.l.rest=p.rest.toList from rfl] at hv;obtain ⟨hs,hhs⟩:∃ x,p.hs=x:=⟨_,rfl⟩;obtain ⟨A,hA⟩:∃ x,(p.sch.toList==Aw)=x:=⟨_,rfl⟩;have hA2:(p.sch.toList==[102,105,108,101])=A:=hA;obtain ⟨SP,hSP⟩:∃ x,Aj p.sch.toList=x:=⟨_,rfl⟩;obtain ⟨O,hO⟩:∃ x,b.opq=x:=⟨_,rfl⟩;obtain ⟨F,hF⟩:∃ x,(b.scheme==Aw)=x:=⟨_,rfl⟩
 have hF2:(B.scheme.toList==[102,105,108,101])=F:=by rw [hiB.out.scheme];exact hF
 obtain ⟨D,hD⟩:∃ x,(p.sch.toList==b.scheme)=x:=⟨_,rfl⟩
 have hD2:(p.sch.toList==B.scheme.toList)=D:=by rw [hiB.out.scheme];exact hD
 obtain ⟨P2,hP2⟩:∃ x,Lib.hasPrefix p.rest.toList [47,47]=x:=⟨_,rfl⟩;rw [hhs,hA,hSP,hO,hF,hD,hP2] at hv;rw [hSP] at hsp;rw [hP2] at hhp
 have w0:∀ {wx:World},AG wx (w.heap.size+1) (Av p) 72->wx.cell? ⟨w.heap.size+1,0,none⟩=some (.bool hs):=fun h=>(h.at 0).trans (by rw [<-hhs];rfl)
 have w6:∀ {wx:World},AG wx w.heap.size (Ab B) 34->wx.cell? ⟨w.heap.size,16,none⟩=some (.bool O):=fun h=>(h.at 16).trans (by rw [<-hO,<-hiB.out.opq];rfl)
 replace hhs:=H0 hhs;replace hA:=H0 hA;replace hSP:=H0 hSP;replace hO:=H0 hO;replace hF:=H0 hF;replace hD:=H0 hD;replace hP2:=H0 hP2;replace hv:=H0 hv;go_enter Tryz.func86,Tryz.ntmps86
 go_upto_region 1 with (fail)
 refine Ap (R:=fun wx=>YR w wx (Ab B) 34 (Av p) 72) hI ?_
 clear hI;intro w1 hI;have y0:=w0 hI.b;have y1:=(hI.b.at 1).trans (show (Av p)[1]? =some (.string p.sch) from rfl);have y2:=(hI.b.at 2).trans (show (Av p)[2]? =some (.string p.rest) from rfl);have z6:=w6 hI.a;have z0:=(hI.a.at 0).trans (show (Ab B)[0]? =some (.string B.scheme) from rfl);have z18:=0;clear w0 w6
 cases hs with
 | true=>
  cases A with
  | true=>
   have hf:=H0 (hv.out.trans (if_pos rfl))
   go_upto_region 4 with (first
    | ((go_at_call 145;refine (hsp.out _).mono ?_;rintro e w' ⟨rfl,rfl⟩))
    | ((go_at_call 111;refine (hhp.out _).mono ?_;rintro e w' ⟨rfl,rfl⟩)))
   go_wp2_with (first
    | (refine wpList_load_row rfl 34 _ rfl w.heap.size rfl _ (Ab B) _ _ hI.a Tryz.underlying34 rfl (Ac _) ?_)
    | (refine wpList_load_row rfl 72 _ rfl (w.heap.size+1) rfl _ (Av p) _ _ hI.b Tryz.underlying72 rfl (CA p) ?_))
   refine (hfile.out _ (hE'.out.next hI.below) (hB'.out.next hI.below)).mono ?_
   rintro e w4 ⟨hres,hb4⟩;rw [<-hf.out] at hres;have hr4:=hI.r.lt;have hs4:=hI.below.size;have hI2:=hI.keep hb4;clear hv
   cases R with
   | none=>obtain ⟨pv,rfl⟩:=hres;exact ⟨rfl,BS rfl hI2.below⟩
   | some u=>
    obtain ⟨S,rfl,hu⟩:=hres;go_wp2_with (refine wpList_store_row rfl 34 _ _ rfl (w.heap.size+2) (Ab S) rfl rfl 34 _ hI2.r (Ac _) rfl (Au _) ?_);refine Bl rfl rfl rfl (hI2.r.set _) (Ac _) ?_;exact CE rfl (hu.row hr4 hs4 _) (Ae hI2.below Qa _)
  | false=>
   have hv1:=hv.out.trans (if_neg (by cases O<;>cases F<;>decide))
   cases SP with
   | true=>
    cases D with
    | false=>
     have hD3:(p.sch.toList != B.scheme.toList)=true:=by rw [bne,hD2];rfl
     have hf:=H0 (hv1.trans (if_pos rfl));clear hv1
     go_upto_region 6 with (first
      | ((go_at_call 145;refine (hsp.out _).mono ?_;rintro e w' ⟨rfl,rfl⟩))
      | ((go_at_call 111;refine (hhp.out _).mono ?_;rintro e w' ⟨rfl,rfl⟩)))
     go_wp2_with (refine wpList_load_row rfl 72 _ rfl (w.heap.size+1) rfl _ (Av p) _ _ hI.b Tryz.underlying72 rfl (CA p) ?_);refine (hst.out _).mono ?_;rintro e w2 ⟨q,f,rfl,hqv,hfv,hb⟩;have his:=HW hqv.out hfv.out hkq.out hkf.out;obtain ⟨S,hS⟩:=N2 (DN p.sch p q f);have h0:S.pathA=none:=QO;have h1:S.pathC=0:=QO;have h2:S.path=[]:=QO;rw [hS] at his⊢;replace his:=H0 his;replace hS:=H0 hS;replace h0:=H0 h0;replace h1:=H0 h1;replace h2:=H0 h2;have hI2:=hI.keep hb;have hF:=hI2.fr S;clear hI hI2 hb hst z6 z0 z18 y0 y1 y2
     go_upto_region 7 with (refine Af rfl 34 _ _ rfl rfl (Ab (S)) _ _ _ rfl Qf rfl (Ac _) rfl (Au _) ?_)
     refine Ap (R:=fun wx=>Fr w wx (w.heap.size) (Ab B) 34 (w.heap.size+1) (Av p) 72 (w.heap.size+2) w2.heap.size S) hF ?_
     clear hF;intro w3 hI;obtain ⟨g,hg⟩:=N2 (w2.heap.size);rw [hg] at hI⊢;clear hg;have y1:=(hI.b.at 1).trans (show (Av p)[1]? =some (.string p.sch) from rfl);have y2:=(hI.b.at 2).trans (show (Av p)[2]? =some (.string p.rest) from rfl);go_wp2_with (go_at_call 149;refine (hun.out _).mono ?_;rintro e w' ⟨⟨r,rfl,hr1,hr2⟩,rfl⟩);refine (LU g S (Ax p.sch.toList p.l) r _ (hI.env hE'.out) hI.g his.out h0.out h1.out h2.out Qa).mono ?_;rintro e w4 ⟨hres,hc⟩;have hv1:=hf.out;have hr1x:=hr1.out;rw [hSP.out] at hr1x;rw [<-hr1x] at hv1;clear hr1x;clear y1 y2 hv hf;obtain ⟨O,hO⟩:=N2 (IP (Ax p.sch.toList p.l) r.toList);rw [hO] at hv1 hres;replace hO:=H0 hO
     cases O with
     | none=>
      obtain ⟨pv,rfl⟩:=hres;exact ⟨rfl,BS hv1 (hI.out hc)⟩
     | some u=>
      obtain ⟨rfl,S',hcel,hu⟩:=hres;have hs5:=hI.below.size;have hr5:=hI.r.lt;replace hI:=hI.chg hc hcel;have hf:=H0 hv1;clear hc hcel hv1
      go_wp2_with (first
       | (refine wpList_load_row rfl 34 _ rfl g rfl _ (Ab (S')) _ _ hI.g Tryz.underlying34 rfl (Ac _) ?_)
       | (refine wpList_store_row rfl 34 _ _ rfl (w.heap.size+2) (Ab (S')) rfl rfl 34 _ hI.r (Ac _) rfl (Au _) ?_))
      refine Bl rfl rfl rfl (hI.r.set _) (Ac _) ?_;exact hI.fin ⟨hu,hr5,hs5⟩ hf.out
    | true=>
     have hD3:(p.sch.toList != B.scheme.toList)=false:=by rw [bne,hD2];rfl
     cases P2 with
     | true=>
      have hf:=H0 (hv1.trans (if_pos rfl));clear hv1
      go_upto_region 6 with (first
       | ((go_at_call 145;refine (hsp.out _).mono ?_;rintro e w' ⟨rfl,rfl⟩))
       | ((go_at_call 111;refine (hhp.out _).mono ?_;rintro e w' ⟨rfl,rfl⟩)))
      go_wp2_with (refine wpList_load_row rfl 72 _ rfl (w.heap.size+1) rfl _ (Av p) _ _ hI.b Tryz.underlying72 rfl (CA p) ?_);refine (hst.out _).mono ?_;rintro e w2 ⟨q,f,rfl,hqv,hfv,hb⟩;have his:=HW hqv.out hfv.out hkq.out hkf.out;obtain ⟨S,hS⟩:=N2 (DN p.sch p q f);have h0:S.pathA=none:=QO;have h1:S.pathC=0:=QO;have h2:S.path=[]:=QO;rw [hS] at his⊢;replace his:=H0 his;replace hS:=H0 hS;replace h0:=H0 h0;replace h1:=H0 h1;replace h2:=H0 h2;have hI2:=hI.keep hb;have hF:=hI2.fr S;clear hI hI2 hb hst z6 z0 z18 y0 y1 y2
      go_upto_region 7 with (refine Af rfl 34 _ _ rfl rfl (Ab (S)) _ _ _ rfl Qf rfl (Ac _) rfl (Au _) ?_)
      refine Ap (R:=fun wx=>Fr w wx (w.heap.size) (Ab B) 34 (w.heap.size+1) (Av p) 72 (w.heap.size+2) w2.heap.size S) hF ?_
      clear hF;intro w3 hI;obtain ⟨g,hg⟩:=N2 (w2.heap.size);rw [hg] at hI⊢;clear hg;have y1:=(hI.b.at 1).trans (show (Av p)[1]? =some (.string p.sch) from rfl);have y2:=(hI.b.at 2).trans (show (Av p)[2]? =some (.string p.rest) from rfl);go_wp2_with (go_at_call 149;refine (hun.out _).mono ?_;rintro e w' ⟨⟨r,rfl,hr1,hr2⟩,rfl⟩);refine (LU g S (Ax p.sch.toList p.l) r _ (hI.env hE'.out) hI.g his.out h0.out h1.out h2.out Qa).mono ?_;rintro e w4 ⟨hres,hc⟩;have hv1:=hf.out;have hr1x:=hr1.out;rw [hSP.out] at hr1x;rw [<-hr1x] at hv1;clear hr1x;clear y1 y2 hv hf;obtain ⟨O,hO⟩:=N2 (IP (Ax p.sch.toList p.l) r.toList);rw [hO] at hv1 hres;replace hO:=H0 hO
      cases O with
      | none=>
       obtain ⟨pv,rfl⟩:=hres;exact ⟨rfl,BS hv1 (hI.out hc)⟩
      | some u=>
       obtain ⟨rfl,S',hcel,hu⟩:=hres;have hs5:=hI.below.size;have hr5:=hI.r.lt;replace hI:=hI.chg hc hcel;have hf:=H0 hv1;clear hc hcel hv1
       go_wp2_with (first
        | (refine wpList_load_row rfl 34 _ rfl g rfl _ (Ab (S')) _ _ hI.g Tryz.underlying34 rfl (Ac _) ?_)
        | (refine wpList_store_row rfl 34 _ _ rfl (w.heap.size+2) (Ab (S')) rfl rfl 34 _ hI.r (Ac _) rfl (Au _) ?_))
       refine Bl rfl rfl rfl (hI.r.set _) (Ac _) ?_;exact hI.fin ⟨hu,hr5,hs5⟩ hf.out
     | false=>
      have hv2:=hv1.trans (if_neg Qc);replace hv2:=hv2.trans (if_neg Qc);clear hv1
      cases O with
      | true=>
       have hf:=H0 (hv2.trans (if_pos rfl));clear hv2
       go_upto_region 12 with (first
        | ((go_at_call 145;refine (hsp.out _).mono ?_;rintro e w' ⟨rfl,rfl⟩))
        | ((go_at_call 111;refine (hhp.out _).mono ?_;rintro e w' ⟨rfl,rfl⟩)))
       go_wp2_with (first
        | (refine wpList_load_row rfl 34 _ rfl w.heap.size rfl _ (Ab B) _ _ hI.a Tryz.underlying34 rfl (Ac _) ?_)
        | (refine wpList_load_row rfl 72 _ rfl (w.heap.size+1) rfl _ (Av p) _ _ hI.b Tryz.underlying72 rfl (CA p) ?_))
       refine (hflat.out _ (hB'.out.next hI.below)).mono ?_
       rintro e w4 ⟨hres,hb4⟩;rw [<-hf.out] at hres;have hr4:=hI.r.lt;have hs4:=hI.below.size;have hI2:=hI.keep hb4;clear hv
       cases R with
       | none=>obtain ⟨pv,rfl⟩:=hres;exact ⟨rfl,BS rfl hI2.below⟩
       | some u=>
        obtain ⟨S,rfl,hu⟩:=hres;go_wp2_with (refine wpList_store_row rfl 34 _ _ rfl (w.heap.size+2) (Ab S) rfl rfl 34 _ hI2.r (Ac _) rfl (Au _) ?_);refine Bl rfl rfl rfl (hI2.r.set _) (Ac _) ?_;exact CE rfl (hu.row hr4 hs4 _) (Ae hI2.below Qa _)
      | false=>
       have hf:=H0 (hv2.trans (if_neg Qc));clear hv2
       go_upto_region 13 with (first
        | ((go_at_call 145;refine (hsp.out _).mono ?_;rintro e w' ⟨rfl,rfl⟩))
        | ((go_at_call 111;refine (hhp.out _).mono ?_;rintro e w' ⟨rfl,rfl⟩)))
       go_wp2_with (first
        | (refine wpList_load_row rfl 34 _ rfl w.heap.size rfl _ (Ab B) _ _ hI.a Tryz.underlying34 rfl (Ac _) ?_)
        | (refine wpList_load_row rfl 72 _ rfl (w.heap.size+1) rfl _ (Av p) _ _ hI.b Tryz.underlying72 rfl (CA p) ?_))
       refine (hrel.out _ (hE'.out.next hI.below) (hB'.out.next hI.below)).mono ?_
       rintro e w4 ⟨hres,hb4⟩;rw [<-hf.out] at hres;have hr4:=hI.r.lt;have hs4:=hI.below.size;have hI2:=hI.keep hb4;clear hv
       cases R with
       | none=>obtain ⟨pv,rfl⟩:=hres;exact ⟨rfl,BS rfl hI2.below⟩
       | some u=>
        obtain ⟨S,rfl,hu⟩:=hres;go_wp2_with (refine wpList_store_row rfl 34 _ _ rfl (w.heap.size+2) (Ab S) rfl rfl 34 _ hI2.r (Ac _) rfl (Au _) ?_);refine Bl rfl rfl rfl (hI2.r.set _) (Ac _) ?_;exact CE rfl (hu.row hr4 hs4 _) (Ae hI2.below Qa _)
   | false=>
    have hf:=H0 ((hv1.trans (if_neg (by cases D<;>cases P2<;>decide))).trans (if_pos rfl))
    clear hv1
    go_upto_region 10 with (first
     | ((go_at_call 145;refine (hsp.out _).mono ?_;rintro e w' ⟨rfl,rfl⟩))
     | ((go_at_call 111;refine (hhp.out _).mono ?_;rintro e w' ⟨rfl,rfl⟩)))
    go_wp2_with (first
     | (refine wpList_load_row rfl 72 _ rfl (w.heap.size+1) rfl _ (Av p) _ _ hI.b Tryz.underlying72 rfl (CA p) ?_))
    refine (hother.out _ (hE'.out.next hI.below)).mono ?_
    rintro e w4 ⟨hres,hb4⟩;rw [<-hf.out] at hres;have hr4:=hI.r.lt;have hs4:=hI.below.size;have hI2:=hI.keep hb4;clear hv
    cases R with
    | none=>obtain ⟨pv,rfl⟩:=hres;exact ⟨rfl,BS rfl hI2.below⟩
    | some u=>
     obtain ⟨S,rfl,hu⟩:=hres;go_wp2_with (refine wpList_store_row rfl 34 _ _ rfl (w.heap.size+2) (Ab S) rfl rfl 34 _ hI2.r (Ac _) rfl (Au _) ?_);refine Bl rfl rfl rfl (hI2.r.set _) (Ac _) ?_;exact CE rfl (hu.row hr4 hs4 _) (Ae hI2.below Qa _)
 | false=>
  cases O with
  | true=>
   have hf:=H0 ((((hv.out.trans (if_neg (by cases A<;>cases F<;>decide))).trans (if_neg (by cases SP<;>cases D<;>cases P2<;>decide))).trans (if_neg (by cases SP<;>decide))).trans (if_pos rfl))
   go_upto_region 12 with (first
    | ((go_at_call 145;refine (hsp.out _).mono ?_;rintro e w' ⟨rfl,rfl⟩))
    | ((go_at_call 111;refine (hhp.out _).mono ?_;rintro e w' ⟨rfl,rfl⟩)))
   go_wp2_with (first
    | (refine wpList_load_row rfl 34 _ rfl w.heap.size rfl _ (Ab B) _ _ hI.a Tryz.underlying34 rfl (Ac _) ?_)
    | (refine wpList_load_row rfl 72 _ rfl (w.heap.size+1) rfl _ (Av p) _ _ hI.b Tryz.underlying72 rfl (CA p) ?_))
   refine (hflat.out _ (hB'.out.next hI.below)).mono ?_
   rintro e w4 ⟨hres,hb4⟩;rw [<-hf.out] at hres;have hr4:=hI.r.lt;have hs4:=hI.below.size;have hI2:=hI.keep hb4;clear hv
   cases R with
   | none=>obtain ⟨pv,rfl⟩:=hres;exact ⟨rfl,BS rfl hI2.below⟩
   | some u=>
    obtain ⟨S,rfl,hu⟩:=hres;go_wp2_with (refine wpList_store_row rfl 34 _ _ rfl (w.heap.size+2) (Ab S) rfl rfl 34 _ hI2.r (Ac _) rfl (Au _) ?_);refine Bl rfl rfl rfl (hI2.r.set _) (Ac _) ?_;exact CE rfl (hu.row hr4 hs4 _) (Ae hI2.below Qa _)
  | false=>
   cases F with
   | true=>
    have hf:=H0 (hv.out.trans (if_pos (by cases A<;>decide)))
    go_upto_region 4 with (first
     | ((go_at_call 145;refine (hsp.out _).mono ?_;rintro e w' ⟨rfl,rfl⟩))
     | ((go_at_call 111;refine (hhp.out _).mono ?_;rintro e w' ⟨rfl,rfl⟩)))
    go_wp2_with (first
     | (refine wpList_load_row rfl 34 _ rfl w.heap.size rfl _ (Ab B) _ _ hI.a Tryz.underlying34 rfl (Ac _) ?_)
     | (refine wpList_load_row rfl 72 _ rfl (w.heap.size+1) rfl _ (Av p) _ _ hI.b Tryz.underlying72 rfl (CA p) ?_))
    refine (hfile.out _ (hE'.out.next hI.below) (hB'.out.next hI.below)).mono ?_
    rintro e w4 ⟨hres,hb4⟩;rw [<-hf.out] at hres;have hr4:=hI.r.lt;have hs4:=hI.below.size;have hI2:=hI.keep hb4;clear hv
    cases R with
    | none=>obtain ⟨pv,rfl⟩:=hres;exact ⟨rfl,BS rfl hI2.below⟩
    | some u=>
     obtain ⟨S,rfl,hu⟩:=hres;go_wp2_with (refine wpList_store_row rfl 34 _ _ rfl (w.heap.size+2) (Ab S) rfl rfl 34 _ hI2.r (Ac _) rfl (Au _) ?_);refine Bl rfl rfl rfl (hI2.r.set _) (Ac _) ?_;exact CE rfl (hu.row hr4 hs4 _) (Ae hI2.below Qa _)
   | false=>
    have hf:=H0 ((((hv.out.trans (if_neg (by cases A<;>decide))).trans (if_neg (by cases SP<;>cases D<;>cases P2<;>decide))).trans (if_neg (by cases SP<;>decide))).trans (if_neg Qc))
    go_upto_region 13 with (first
     | ((go_at_call 145;refine (hsp.out _).mono ?_;rintro e w' ⟨rfl,rfl⟩))
     | ((go_at_call 111;refine (hhp.out _).mono ?_;rintro e w' ⟨rfl,rfl⟩)))
    go_wp2_with (first
     | (refine wpList_load_row rfl 34 _ rfl w.heap.size rfl _ (Ab B) _ _ hI.a Tryz.underlying34 rfl (Ac _) ?_)
     | (refine wpList_load_row rfl 72 _ rfl (w.heap.size+1) rfl _ (Av p) _ _ hI.b Tryz.underlying72 rfl (CA p) ?_))
    refine (hrel.out _ (hE'.out.next hI.below) (hB'.out.next hI.below)).mono ?_
    rintro e w4 ⟨hres,hb4⟩;rw [<-hf.out] at hres;have hr4:=hI.r.lt;have hs4:=hI.below.size;have hI2:=hI.keep hb4;clear hv
    cases R with
    | none=>obtain ⟨pv,rfl⟩:=hres;exact ⟨rfl,BS rfl hI2.below⟩
    | some u=>
     obtain ⟨S,rfl,hu⟩:=hres;go_wp2_with (refine wpList_store_row rfl 34 _ _ rfl (w.heap.size+2) (Ab S) rfl rfl 34 _ hI2.r (Ac _) rfl (Au _) ?_);refine Bl rfl rfl rfl (hI2.r.set _) (Ac _) ?_;exact CE rfl (hu.row hr4 hs4 _) (Ae hI2.below Qa _)
theorem Yg (p q:Addr) (w:World):
  CallsD Tryz.prog 85 #[.pointer (some p),.pointer (some q)] .returning w fun e u' w'=>e= .returned (.tuple #[])/\u'= .returning/\w'=w:=by
 refine callsD_of_wpS Tryz.func85 rfl fun c₀ cs hu=> ?_
 apply wpS_seq;apply wpS_region;simp [wpOpsS,go_sem,recoverD,hu,Tryz.ntmps85,Exit.thenS];refine wpS_cond (t:=false) Agj ?_;simp only [Bool.false_eq_true,if_false];refine wpS_of_wp (wp_skip ?_);cases c₀
 simp_all [bodyPostS,results,Tryz.results85]
theorem MT (g g2 B:Nat) (pv:Value) (older:List PanicEntry) (w:World) (c:Array Value) (b:Value) (hg:AG w g c 34) (hc:c.size=23) (hg2:w.heap[g2]? =some (.cells #[b] 4)) (hne:g≠g2) (hB1:B<=g) (hB2:B<=g2):
  CallsD Tryz.prog 85 #[.pointer (some ⟨g,0,none⟩),.pointer (some ⟨g2,0,none⟩)] (.panicking ({ v:= .iface 190 pv,recovered:=false } :: older)) w fun e u' w'=>
   e= .returned (.tuple #[])/\u'= .panicking ({ v:= .iface 190 pv,recovered:=true } :: older)/\
    AG w' g (Ab zS) 34/\w'.heap[g2]? =some (.cells #[.bool false] 4)/\Below B w w':=by
 have k2:(w.setRow g (Ab zS)).heap[g2]? =some (.cells #[b] 4):=(Eb w g g2 (Ab zS) (Ne.symm hne)).trans hg2;have k1:AG (w.setRow g (Ab zS)) g (Ab zS) 34:=hg.set _
 have y0:(w.setRow g (Ab zS)).cell? ⟨g2,0,none⟩=some b:=by simp [World.cell?,k2]
 have f2:(w.setRow g (Ab zS)).frozen? ⟨g2,0,none⟩=false:=by simp [World.frozen?,k2]
 have hbel:Below B w (w.setRow g (Ab zS)):=Ae (Below.refl _ _) hB1 _
 refine callsD_of_wpS Tryz.func85 rfl fun c₀ cs hu=> ?_
 apply wpS_seq;apply wpS_region;simp [wpOpsS,go_sem,recoverD,hu,Tryz.ntmps85,Exit.thenS];refine wpS_cond (t:=true) Agj ?_;simp only [if_true];refine wpS_of_wp ?_;replace hg:=H0 hg;replace hg2:=H0 hg2;replace k1:=H0 k1;replace k2:=H0 k2;replace hu:=H0 hu;simp only [Array.replicate,List.setIfInBounds_toArray]
 go_wp2_with (first
  | (refine wpList_buildTo rfl _ _ rfl _ rfl (Ab zS) Js ?_)
  | (refine wpList_store_row rfl 34 _ _ rfl g (Ab zS) rfl rfl 34 c hg.out (Ac _) hc (Au _) ?_))
 refine NH _ (.tuple #[]) rfl rfl (by simp [results,Tryz.results85]) ⟨rfl,rfl,?_,?_,?_⟩
 ·exact (HJ hne 0 _).trans k1.out
 ·exact U8 (cs:= #[b]) k2.out 0 (.bool false)
 ·exact hbel.setCell (p:=⟨g2,0,none⟩) hB2 _
theorem Ma {tmps:Array Value} {w:World} {g g2:Nat} {S:Am} {b:Bool} (h2:tmps.getD 4 undef= .pointer (some ⟨g,0,none⟩)) (h3:tmps.getD 5 undef= .pointer (some ⟨g2,0,none⟩))
  (hg:AG w g (Ab S) 34) (hg2:w.heap[g2]? =some (.cells #[.bool b] 4)):(results Tryz.f36 tmps).run Tryz.prog w= .ok (.tuple #[.agg (Ab S),.bool b]) w:=by
 have y0:w.cell? ⟨g2,0,none⟩=some (.bool b):=by simp [World.cell?,hg2]
 have hb:(loadVar 4 ⟨g2,0,none⟩).run Tryz.prog w= .ok (.bool b) w:=by simp [go_sem,y0]
 have ha:=run_loadVar_row (P:=Tryz.prog) w g 34 34 (Ab S) _ _ hg Tryz.underlying34 rfl (Ac _);rw [KV rfl,h2,h3];simp only [asAddr,Sem.run_pure,Result.andThen,ha,hb]
def Uw (g g2:Nat):List Deferred:=[{ target:= .fn (.func 85) #[.pointer (some ⟨g,0,none⟩),.pointer (some ⟨g2,0,none⟩)],args:= #[] }]
theorem AdH {R:Ending->World->Prop} {tmps:Array Value} {w:World} {g g2:Nat} {S:Am} {b:Bool} (h2:tmps.getD 4 undef= .pointer (some ⟨g,0,none⟩)) (h3:tmps.getD 5 undef= .pointer (some ⟨g2,0,none⟩))
  (hg:AG w g (Ab S) 34) (hg2:w.heap[g2]? =some (.cells #[.bool b] 4)) (hR:R (.returned (.tuple #[.agg (Ab S),.bool b])) w):
  Leaves Tryz.prog Tryz.f36 tmps R (Uw g g2) .returning w:=by
 refine leaves_cons (f:=85) (args:= #[.pointer (some ⟨g,0,none⟩),.pointer (some ⟨g2,0,none⟩)]) Qf (by simp [go_sem]) ?_
 refine (Yg ⟨g,0,none⟩ ⟨g2,0,none⟩ w).mono ?_;rintro e u' w' ⟨rfl,rfl,rfl⟩;exact ⟨_,Ma h2 h3 hg hg2,hR⟩
theorem YY {R:Ending->World->Prop} {tmps:Array Value} {w:World} {g g2 B:Nat} {S:Am} {b pv:Value} (h2:tmps.getD 4 undef= .pointer (some ⟨g,0,none⟩)) (h3:tmps.getD 5 undef= .pointer (some ⟨g2,0,none⟩))
  (hg:AG w g (Ab S) 34) (hg2:w.heap[g2]? =some (.cells #[b] 4)) (hne:g≠g2) (hB1:B<=g) (hB2:B<=g2) (hR:∀ w',Below B w w'->R (.returned (.tuple #[.agg (Ab zS),.bool false])) w'):
  Leaves Tryz.prog Tryz.f36 tmps R (Uw g g2) (.panicking [{ v:= .iface 190 pv,recovered:=false }]) w:=by
 refine leaves_cons (f:=85) (args:= #[.pointer (some ⟨g,0,none⟩),.pointer (some ⟨g2,0,none⟩)]) Qf (by simp [go_sem]) ?_
 refine (MT g g2 B pv [] w (Ab S) b hg (Ty _) hg2 hne hB1 hB2).mono ?_;rintro e u' w' ⟨rfl,rfl,k1,k2,hb⟩;exact ⟨_,Ma h2 h3 k1 k2,hR _ hb⟩
def Yt (o:Option Ao) (w:World) (e:Ending) (w':World):Prop:=∃ S:Am,e= .returned (.tuple #[.agg (Ab S),.bool o.isSome])/\Ew w' w.heap.size S (o.getD FU)/\Below w.heap.size w w'
theorem RM {o:Option Ao} {w w':World} (h:o=none) (hb:Below w.heap.size w w'):Yt o w (.returned (.tuple #[.agg (Ab zS),.bool false])) w':=by
 subst h;exact ⟨zS,rfl,RA Pp rfl rfl rfl,hb⟩
theorem Y6 {o:Option Ao} {u:Ao} {S:Am} {w w':World} (h:o=some u) (hu:Ew w' w.heap.size S u) (hb:Below w.heap.size w w'):Yt o w (.returned (.tuple #[.agg (Ab S),.bool true])) w':=by subst h;exact ⟨S,rfl,hu,hb⟩
structure RdW (w wx:World) (B:Am) (p:DB) (S:Am):Prop where
 below:Below w.heap.size w wx
 size:w.heap.size+4<=wx.heap.size
 a:AG wx w.heap.size (Ab B) 34
 b:AG wx (w.heap.size+1) (Av p) 72
 r:AG wx (w.heap.size+2) (Ab S) 34
 o:wx.heap[w.heap.size+3]? =some (.cells #[.bool false] 4)
theorem RdW.start (w:World) (B:Am) (p:DB):RdW w ((((w.alloc (.cells (Ab B) 34)).alloc (.cells (Av p) 72)).alloc (.cells (Ab zS) 34)).alloc (.cells #[.bool false] 4)) B p zS:=by
 have h:=YR.start w (Ab B) 34 (Av p) 72
 refine ⟨h.below.alloc AkC _,by rw [Ai,Ai,Ai,Ai];omega,h.a.alloc _,h.b.alloc _,h.r.alloc _,?_⟩
 have:=heap_alloc_new (((w.alloc (.cells (Ab B) 34)).alloc (.cells (Av p) 72)).alloc (.cells (Ab zS) 34)) (.cells #[.bool false] 4)
 rwa [Ai,Ai,Ai] at this
theorem RdW.next {w wx wy:World} {B:Am} {p:DB} {S:Am} (h:RdW w wx B p S) (hb:Below wx.heap.size wx wy):RdW w wy B p S:=
 ⟨h.below.next hb,Qx,h.a.keep hb,h.b.keep hb,h.r.keep hb,(hb.block _ AjY).trans h.o⟩
theorem RdW.setRow {w wx:World} {B:Am} {p:DB} {S:Am} (h:RdW w wx B p S) (T:Am):RdW w (wx.setRow (w.heap.size+2) (Ab T)) B p T:=
 ⟨Ae h.below Qa _,by have:=h.size;rw [Cu];exact this,h.a.other Qa _,h.b.other Qa _,h.r.set _,(Eb _ _ _ _ Qa).trans h.o⟩
theorem RdW.cello {w wx:World} {B:Am} {p:DB} {S:Am} (h:RdW w wx B p S):wx.cell? ⟨w.heap.size+3,0,none⟩=some (.bool false)/\wx.frozen? ⟨w.heap.size+3,0,none⟩=false:=by
 constructor
 ·simp [World.cell?,h.o]
 ·simp [World.frozen?,h.o]
theorem Ew.cellSet {w:World} {B K:Nat} {S:Am} {u:Ao} (h:Ew w B S u) {g:Nat} (hg:g<B) (hK:K<=B) (i:Nat) (v:Value):Ew (w.setCell ⟨g,i,none⟩ v) K S u:=by
 refine ⟨h.is,DG (B:=K) (C:=B) ⟨h.own.1,?_⟩ hK⟩
 rcases h.own.2 with hn | ⟨g2,cap,cur,e,hg2,hh,rest⟩
 ·exact .inl hn
 ·exact .inr ⟨g2,cap,cur,e,hg2,by rw [HJ Qa];exact hh,rest⟩
theorem Of (B:Am) (b:Ao) (p:DB) (w:World) (hE:Gu w) (hB:DM w B b) (bk:F2 B) (ok:Lj p):Calls Tryz.prog 36 #[.agg (Ab B),.agg (Av p)] w (Yt (I7 b p.l) w):=by
 have hmf:∀ (fn:Fn) (first cap:Array Value) (w:World),(Instr.makeFunc fn first cap).run Tryz.prog w= .ok (.func fn first cap) w:=fun _ _ _ _=>rfl
 have hW:=RdW.start w B p;obtain ⟨w0,hw0⟩:∃ w0,(((w.alloc (.cells (Ab B) 34)).alloc (.cells (Av p) 72)).alloc (.cells (Ab zS) 34)).alloc (.cells #[.bool false] 4)=w0:=⟨_,rfl⟩
 have hjo:=YD B b p w0 (by have:=hW.below;rw [hw0] at this;exact hE.next this) (by have:=hW.below;rw [hw0] at this;exact hB.next this) bk ok
 rw [hw0] at hW;obtain ⟨R,hR⟩:=N2 (I7 b p.l);rw [hR] at hjo⊢;replace hjo:=H0 hjo;replace hR:=H0 hR;clear hE hB bk ok;go_enter_defers Tryz.func36,Tryz.ntmps36
 go_upto_region 2 with (fail)
 refine Ap (R:=fun wx=>wx=w0) hw0 ?_
 clear hw0;rintro _ rfl
 go_wp2_with (first
  | (refine wpList_load_row rfl 34 _ rfl w.heap.size rfl _ (Ab B) _ _ hW.a Tryz.underlying34 rfl (Ac _) ?_)
  | (refine wpList_load_row rfl 72 _ rfl (w.heap.size+1) rfl _ (Av p) _ _ hW.b Tryz.underlying72 rfl (CA p) ?_))
 refine hjo.out.mono ?_;rintro e w4 ⟨hres,hb4⟩;have hsz:=hW.size
 have hW4:=hW.next hb4
 cases R with
 | none=>
  obtain ⟨pv,rfl⟩:=hres
  exact YY (B:=w.heap.size) rfl rfl hW4.r hW4.o Qa Qa Qa (fun w' hb=>RM rfl (hW4.below.trans hb))
 | some u=>
  obtain ⟨S,rfl,hu⟩:=hres;have hW5:=hW4.setRow S;obtain ⟨y0,f2⟩:=hW5.cello;have hu5:Ew ((w4.setRow (w.heap.size+2) (Ab S)).setCell ⟨w.heap.size+3,0,none⟩ (.bool true)) w.heap.size S u:=Ew.cellSet (hu.row Qa (Nat.le_refl _) _) Qa Qa 0 _;replace hu5:=H0 hu5;go_wp2_with (refine wpList_store_row rfl 34 _ _ rfl (w.heap.size+2) (Ab S) rfl rfl 34 _ hW4.r (Ac _) rfl (Au _) ?_);exact AdH rfl rfl ((HJ Qa 0 _).trans hW5.r) (U8 (cs:= #[.bool false]) hW5.o 0 (.bool true)) (Y6 rfl hu5.out (hW5.below.setCell (p:=⟨w.heap.size+3,0,none⟩) Qf _))
theorem YC (l:List UInt8):((Cp l).hq=false->(Cp l).qry=[])/\((Cp l).hf=false->(Cp l).frg=[])/\(Cp l).rest.length<=l.length/\(Cp l).qry.length<=l.length/\(Cp l).frg.length<=l.length/\(Cp l).sch.length<=l.length:=by
 have h0:=Cr 35 l;have h1:=Cr 63 (Ak 35 l).1;have h2:=Cr 58 (Ak 63 (Ak 35 l).1).1
 have hn:∀ c (m:List UInt8),(Ak c m).2.2=false->(Ak c m).2.1=[]:=fun c m h=>(Tq c m h).2
 unfold Cp;dsimp only;split
 ·refine ⟨hn _ _,hn _ _,QI,QI,QI,?_⟩;dsimp only;rw [RQ];omega
 ·exact ⟨hn _ _,hn _ _,QI,QI,QI,Nat.zero_le _⟩
theorem AbA {p:DB} {l:List UInt8} (h:p.l=Cp l) (hz:l.length<=1100000):Lj p:=by
 have hs:=YC l;rw [<-h] at hs;obtain ⟨h1,h2,h3,h4,h5,h6⟩:=hs
 exact ⟨h1,h2,by rw [<-Aa];exact Nat.le_trans h3 hz,by rw [<-Aa];exact Nat.le_trans h4 hz,by rw [<-Aa];exact Nat.le_trans h5 hz⟩
theorem Xc:F2 zS:=⟨Nat.zero_le _,fun t h=>Qr⟩
theorem PC {w w':World} {P:Cq} {e:Ending} (h:YI w P e w'):∃ p:DB,e= .returned (.agg (Av p))/\Hid (p.l=P)/\Below w.heap.size w w':=by
 obtain ⟨a,b,c,d,rfl,h1,h2,h3,h4,hb⟩:=h;refine ⟨⟨P.hs,a,b,P.hq,c,P.hf,d⟩,rfl,H0 ?_,hb⟩;show (⟨P.hs,a.toList,b.toList,P.hq,c.toList,P.hf,d.toList⟩:Cq)=P;rw [h1.out,h2.out,h3.out,h4.out]
theorem Ps (l:List UInt8):(DL l).length<=l.length:=by
 unfold DL;exact Nat.le_trans (K4 _) (Kt _)
theorem HH {f:Func} {R:Ending->World->Prop} {a:Act} {w:World} {g:Nat} {c:Array Value} {b:Bool} {p u:Nat} (hf:f.results= #[.cell p 34,.tmp u]) (h2:a.tmps.getD p undef= .pointer (some ⟨g,0,none⟩)) (h3:a.tmps.getD u undef= .bool b) (hd:a.defers=[])
  (hg:AG w g c 34) (hi:(Tryz.prog.info? 34).map (·.size)=some c.size) (hR:R (.returned (.tuple #[.agg c,.bool b])) w):
  bodyPost Tryz.prog f R .ret a w:=by
 refine bodyPost_ret (v:= .tuple #[.agg c,.bool b]) ?_ hd hR;rw [results_cell_tmp hf,h2,h3];simp [asAddr,Result.andThen,run_loadVar_row (P:=Tryz.prog) w g _ 34 _ _ _ hg Tryz.underlying34 rfl hi]
theorem Ac8 (B:Am) (b:Ao) (s:ByteArray) (w:World) (hE:Gu w) (hB:DM w B b) (bk:F2 B) (hz:s.size<=1100000):Calls Tryz.prog 15 #[.agg (Ab B),.string s] w (Yt (Ho b s.toList) w):=by
 have hI:=MJ.start w (Ab B) 34 (Ab zS) 34
 have hcl:=H0 (fun w=>Ua s w Qa)
 have hE':=H0 hE;have hB':=H0 hB;clear hE hB;have hlen:=Ps s.toList;rw [Aa] at hlen;obtain ⟨R,hR⟩:=N2 (Ho b s.toList);rw [hR];unfold Ho at hR;obtain ⟨C,hC⟩:=N2 (DL s.toList);rw [hC] at hR hcl hlen;replace hR:=H0 hR;replace hC:=H0 hC;go_enter Tryz.func15,Tryz.ntmps15
 go_upto_region 1 with (fail)
 refine Ap (R:=fun wx=>MJ w wx (Ab B) 34 (Ab zS) 34) hI ?_
 clear hI;intro w1 hI;replace hI:=hI.drew;refine wp_region_noPanic ?_
 refine wp_region_held_drew (S:=fun w'=>AG w' w.heap.size (Ab B) 34) Qb (hI.a) (fun hHeld=> ?_)
 refine T0 1 7 ?_ hHeld ?_ ?_;rotate_left
 ·intro w hSw;(try dsimp only at hSw);go_simp;try with_reducible rfl
 try simp only [P3]
 refine wpAnyH_take (i:=0) (oi:=⟨some 6,_,_,_,_,_⟩) (v:= .agg (Ab B).toList.toArray) rfl Qb Qb Qb (fun _ _ _ h=>h) (yieldsIf_load_mid Qt 34 _ rfl w.heap.size 0 rfl (Ab B).toList _ (fun _ h=>h.whole) Tryz.underlying34 rfl IA) hHeld ?_
 try simp only [P3]
 refine wpAnyH_ready (rs:=[2]) Qb Qf ?_
 refine AllReadyH.cons rfl (fun K hK=> ?_) AllReadyH.nil
 go_simp;refine (hcl.out _).mono ?_;rintro e w2 ⟨t,rfl,ht,hb⟩;replace hI:=hI.keep hb;clear hb hHeld;go_wp2_with fail
 refine hK.out _ _ (hI.a) (fun hHeld=> ?_)
 clear hK K
 try simp only [P3]
 have htz:t.size<=1100000:=by rw [<-Aa,ht.out];omega
 refine wpAnyH_ready (rs:=[3]) Qb Qf ?_
 refine AllReadyH.cons rfl (fun K hK=> ?_) AllReadyH.nil
 go_simp
 refine (Je t _ (hE'.out.next hI.below).ml Qa).mono ?_
 intro e w3 hres;obtain ⟨p,rfl,hp,hb⟩:=PC hres;rw [ht.out] at hp;have pok:=AbA hp.out Qa;replace hI:=hI.keep hb;clear hb hHeld hres;go_wp2_with fail
 refine hK.out _ _ (hI.a) (fun hHeld=> ?_)
 clear hK K
 try simp only [P3]
 refine wpAnyH_ready (rs:=[4]) Qb Qf ?_
 refine AllReadyH.cons rfl (fun K hK=> ?_) AllReadyH.nil
 go_simp
 refine (Of B b p _ (hE'.out.next hI.below) (hB'.out.next hI.below) bk pok).mono ?_
 rintro e w4 ⟨S,rfl,hu,hb⟩;have hlt4:=hI.b.lt;have hs4:=hI.below.size;replace hI:=hI.keep hb;rw [hp.out,hR.out] at hu⊢;replace hu:=H0 hu;clear hb hHeld;go_wp2_with fail
 refine hK.out _ _ (hI.a) (fun hHeld=> ?_)
 clear hK K
 try simp only [P3]
 refine T0 5 11 ?_ hHeld ?_ ?_;rotate_left
 ·intro w hSw;(try dsimp only at hSw);go_simp;try with_reducible rfl
 try simp only [P3]
 refine T0 6 12 ?_ hHeld ?_ ?_;rotate_left
 ·intro w hSw;(try dsimp only at hSw);go_simp;try with_reducible rfl
 try simp only [P3]
 refine wpAnyH_ready (rs:=[7]) Qb Qf ?_
 refine AllReadyH.cons rfl (fun K hK=> ?_) AllReadyH.nil
 refine AQ Qb (fun Q' hQ'=> ?_)
 refine wpList_store_row rfl 34 _ _ rfl (w.heap.size+1) (Ab S) rfl rfl 34 _ hI.b (Ac _) rfl (Au _) ?_;replace hI:=hI.setB (Ab S);refine hQ' _ _ ?_
 refine hK.out _ _ (hI.a) (fun hHeld=> ?_)
 clear hK K hQ' Q'
 try simp only [P3]
 refine T0 8 5 ?_ hHeld ?_ ?_;rotate_left
 ·intro w hSw;(try dsimp only at hSw);go_simp;try with_reducible rfl
 try simp only [P3]
 refine wpAnyH_done Qb ?_ _;refine NoPanic.normal ?_;go_wp2_with fail;refine HH rfl rfl rfl rfl hI.b (Ac _) ?_;exact ⟨S,rfl,hu.out.row hlt4 hs4 _,hI.below⟩
theorem Ls (s:ByteArray) (w:World) (hE:Gu w) (hz:s.size<=1100000):Calls Tryz.prog 20 #[.string s] w (Yt (DJ s.toList) w):=by
 have hcl:=H0 (fun w=>Ua s w Qa)
 have hE':=H0 hE;clear hE;have hlen:=Ps s.toList;rw [Aa] at hlen;obtain ⟨R,hR⟩:=N2 (DJ s.toList);rw [hR];unfold DJ at hR;obtain ⟨C,hC⟩:=N2 (DL s.toList);rw [hC] at hR hcl hlen;replace hR:=H0 hR;replace hC:=H0 hC;have hb0:Below w.heap.size w (w.alloc (.cells (Ab zS) 34)):=(Below.refl _ _).alloc (Nat.le_refl _) _;have hr0:AG (w.alloc (.cells (Ab zS) 34)) w.heap.size (Ab zS) 34:=AG.new _ _ _;go_enter Tryz.func20,Tryz.ntmps20
 go_upto_region 1 with (fail)
 refine Ap (R:=fun wx=>Below w.heap.size w wx/\AG wx w.heap.size (Ab zS) 34) ⟨hb0,hr0⟩ ?_
 clear hb0 hr0;rintro w1 ⟨hb1,hr1⟩;go_wp2_with fail;refine (hcl.out _).mono ?_;rintro e w2 ⟨t,rfl,ht,hb⟩
 have hb2:=hb1.next hb
 have hr2:=hr1.keep hb
 have htz:t.size<=1100000:=by rw [<-Aa,ht.out];omega
 clear hb hb1 hr1;go_wp2_with fail
 refine (Je t _ (hE'.out.next hb2).ml Qa).mono ?_
 intro e w3 hres;obtain ⟨p,rfl,hp,hb⟩:=PC hres;rw [ht.out] at hp;have pok:=AbA hp.out Qa
 have hb3:=hb2.next hb
 have hr3:=hr2.keep hb;have hs3:=hb3.size;clear hb hres hb2 hr2
 have hI:Below w.heap.size w (w3.alloc (.cells (Av p) 72))/\AG (w3.alloc (.cells (Av p) 72)) w.heap.size (Ab zS) 34/\AG (w3.alloc (.cells (Av p) 72)) w3.heap.size (Av p) 72:=⟨hb3.alloc hs3 _,hr3.alloc _,AG.new _ _ _⟩
 go_upto_region 2 with (refine Af rfl 72 _ _ rfl rfl (Av p) _ _ _ rfl Qf rfl (CA p) rfl Qb ?_)
 refine Ap (R:=fun wx=>Below w.heap.size w wx/\AG wx w.heap.size (Ab zS) 34/\AG wx w3.heap.size (Av p) 72) hI ?_
 clear hI hb3 hr3;rintro w5 ⟨hb5,hr5,hp5⟩;have hf:=hR.out;rw [<-hp.out] at hf;obtain ⟨hs,hhs⟩:∃ x,p.hs=x:=⟨_,rfl⟩
 have y0:=(hp5.at 0).trans (show (Av p)[0]? =some (.bool hs) by rw [<-hhs];rfl)
 rw [show p.l.hs=p.hs from rfl,hhs] at hf;replace hhs:=H0 hhs
 cases hs with
 | false=>
  have hf2:=H0 (hf.symm.trans (if_neg Qc));replace hf:=H0 hf
  go_wp2_with (first
   | (refine wpList_buildTo rfl _ _ rfl _ rfl (Ab zS) Js ?_)
   | (refine wpList_store_row rfl 34 _ _ rfl w.heap.size (Ab zS) rfl rfl 34 _ hr5 (Ac _) rfl (Au _) ?_))
  refine HH rfl rfl rfl rfl (hr5.set _) (Ac _) ?_;exact RM hf2.out (Ae hb5 (Nat.le_refl _) _)
 | true=>
  have hf2:=H0 (hf.symm.trans (if_pos rfl));replace hf:=H0 hf
  go_wp2_with (first
   | (refine wpList_buildTo rfl _ _ rfl _ rfl (Ab zS) Js ?_)
   | (refine wpList_load_row rfl 72 _ rfl w3.heap.size rfl _ (Av p) _ _ hp5 Tryz.underlying72 rfl (CA p) ?_))
  refine (Of zS FU p _ (hE'.out.next hb5) (Ab5 _) Xc pok).mono ?_
  rintro e w6 ⟨S,rfl,hu,hb⟩;rw [<-hf2.out] at hu⊢;have hlt:=hr5.lt;have hs5:=hb5.size
  have hb6:=hb5.next hb
  have hr6:=hr5.keep hb;replace hu:=H0 hu;clear hb y0;go_wp2_with (refine wpList_store_row rfl 34 _ _ rfl w.heap.size (Ab S) rfl rfl 34 _ hr6 (Ac _) rfl (Au _) ?_);refine HH rfl rfl rfl rfl (hr6.set _) (Ac _) ?_;exact ⟨S,rfl,hu.out.row hlt hs5 _,Ae hb6 (Nat.le_refl _) _⟩
theorem C7 {f:Func} {R:Ending->World->Prop} {a:Act} {w:World} {g:Nat} {c:Array Value} {p:Nat} {T:TypeId} {fs:Array Field} (hf:f.results= #[.cell p T]) (h2:a.tmps.getD p undef= .pointer (some ⟨g,0,none⟩)) (hd:a.defers=[])
  (hg:AG w g c T) (hu:Tryz.prog.underlying T=some (.struct fs)) (hi:(Tryz.prog.info? T).map (·.size)=some c.size) (hR:R (.returned (.agg c)) w):
  bodyPost Tryz.prog f R .ret a w:=by
 refine bodyPost_ret (v:= .agg c) ?_ hd hR;rw [HO hf,h2];simp [asAddr,Result.andThen,run_loadVar_row (P:=Tryz.prog) w g _ T _ _ _ hg hu rfl hi]
theorem WL:Tryz.prog.built 48 []=some (At false zS (.slice none 0 0)):=Qb
def Aha (it:BG) (w:World) (e:Ending) (w':World):Prop:=∃ x:AO,e= .returned (.agg (At x.right x.url x.wv))/\Wb x it/\HZ w' w.heap.size x/\x.wv= .slice none 0 0/\Below w.heap.size w w'
theorem AdT:Wb ⟨false,zS,.slice none 0 0,[]⟩ ⟨false,FU,[]⟩:=⟨rfl,Pp,rfl⟩
theorem AbI (w:World) (B:Nat):HZ w B ⟨false,zS,.slice none 0 0,[]⟩:=⟨AH.nil _ _ _,AH.nil _ _ _⟩
theorem RO (B:Am) (b:Ao) (s:ByteArray) (w:World) (hE:Gu w) (hB:DM w B b) (bk:F2 B) (hz:s.size<=1100000):Calls Tryz.prog 102 #[.agg (Ab B),.string s] w (Aha (BI b s.toList []) w):=by
 have hI:=MJ.start w (Ab B) 34 (At false zS (.slice none 0 0)) 48;have hE':=H0 hE;have hB':=H0 hB
 have hJ:=H0 (fun w hE hB=>Ac8 B b s w hE hB bk hz)
 clear hE hB;unfold BI;obtain ⟨R,hR⟩:=N2 (Ho b s.toList);rw [hR] at hJ⊢;replace hR:=H0 hR;go_enter Tryz.func102,Tryz.ntmps102
 go_upto_region 1 with (fail)
 refine Ap (R:=fun wx=>MJ w wx (Ab B) 34 (At false zS (.slice none 0 0)) 48) hI ?_
 clear hI;intro w1 hI;go_wp2_with (refine wpList_load_row rfl 34 _ rfl w.heap.size rfl _ (Ab B) _ _ hI.a Tryz.underlying34 rfl (Ac _) ?_)
 refine (hJ.out _ (hE'.out.next hI.below) (hB'.out.next hI.below)).mono ?_
 rintro e w2 ⟨S,rfl,hu,hb⟩;have hs1:=hI.below.size;have hlt1:=hI.b.lt;replace hI:=hI.keep hb;have hs2:=hI.below.size;have hown:=hu.own;have his:=hu.is;clear hb hu hJ hB' hE';have hI5:MJ w (w2.alloc (.cells (Ab S) 34)) (Ab B) 34 (At false zS (.slice none 0 0)) 48:=hI.keep ((Below.refl _ _).alloc (Nat.le_refl _) _);have hc5:AG (w2.alloc (.cells (Ab S) 34)) w2.heap.size (Ab S) 34:=AG.new _ _ _;have ho5:=hown.alloc (.cells (Ab S) 34);obtain ⟨w5,hw5⟩:∃ w5,w2.alloc (.cells (Ab S) 34)=w5:=⟨_,rfl⟩;replace his:=H0 his;replace hown:=H0 hown;replace ho5:=H0 ho5
 cases R with
 | none=>
  go_upto_region 2 with (refine Af rfl 34 _ _ rfl rfl (Ab S) _ _ _ rfl Qf rfl (Ac _) rfl (Au _) ?_)
  rw [hw5] at hI5 hc5 ho5⊢;clear hw5 hI hown;have hlt:=hI5.b.lt
  go_wp2_with (first
   | (refine wpList_buildTo rfl _ _ rfl _ rfl (At false zS (.slice none 0 0)) WL ?_)
   | (refine wpList_store_row rfl 48 _ _ rfl (w.heap.size+1) (At false zS (.slice none 0 0)) rfl rfl 48 _ hI5.b (D7 _ _ _) rfl (JH _ _ _ rfl) ?_))
  refine C7 rfl rfl rfl (hI5.setB _).b Tryz.underlying48 (D7 _ _ _) ?_;exact ⟨⟨false,zS,.slice none 0 0,[]⟩,rfl,AdT,AbI _ _,rfl,(hI5.setB _).below⟩
 | some u=>
  go_upto_region 2 with (refine Af rfl 34 _ _ rfl rfl (Ab S) _ _ _ rfl Qf rfl (Ac _) rfl (Au _) ?_)
  rw [hw5] at hI5 hc5 ho5⊢;clear hw5 hI hown;have hlt:=hI5.b.lt
  go_wp2_with (first
   | (refine wpList_load_row rfl 34 _ rfl w2.heap.size rfl _ (Ab S) _ _ hc5 Tryz.underlying34 rfl (Ac _) ?_)
   | (refine wpList_buildTo rfl _ _ rfl _ rfl (At true S (.slice none 0 0)) Qb ?_)
   | (refine wpList_store_row rfl 48 _ _ rfl (w.heap.size+1) (At true S (.slice none 0 0)) rfl rfl 48 _ hI5.b (D7 _ _ _) rfl (JH _ _ _ rfl) ?_))
  refine C7 rfl rfl rfl (hI5.setB _).b Tryz.underlying48 (D7 _ _ _) ?_;refine ⟨⟨true,S,.slice none 0 0,[]⟩,rfl,⟨rfl,his.out,rfl⟩,⟨?_,AH.nil _ _ _⟩,rfl,(hI5.setB _).below⟩;exact (AH.row ho5.out hlt1 _).low hs1
end Go.Proofs.YtonomfeipkdmhaaGreatDoor
