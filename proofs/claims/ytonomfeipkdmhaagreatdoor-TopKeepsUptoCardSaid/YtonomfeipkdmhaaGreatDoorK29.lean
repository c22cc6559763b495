/- Part 29: lemmas. -/
import Derived.Test.YtonomfeipkdmhaaGreatDoorK28
set_option linter.unusedVariables false
set_option linter.unusedSimpArgs false
set_option maxRecDepth 100000
set_option maxHeartbeats 16000000
namespace Go.Proofs.YtonomfeipkdmhaaGreatDoor
open Go.RowKit Go.Proofs.Tryz
theorem ZM {S B:Al} {u b:Aq} (h:Gt S u) (hB:Gt B b):Gt (Ec S B.host) (Bk u b.host):=
 ⟨h.scheme,h.user,h.pass,hB.host,h.hasPort,h.port,h.opq,h.flat,h.path,h.hasQuery,h.query,h.hasFrag,h.frag⟩
def C7:ByteArray:=⟨#[102,105,108,101]⟩
theorem CT:C7.toList=Aw:=toList_mk _
theorem VX (B:Al) (b:Aq) (p:Dq) (w:World) (hE:GZ w) (hB:DI w B b) (bk:GC B) (ok:KZ p):Calls prog 146 #[.agg (Ab B),.agg (Av p)] w (Mc (LQ b p.l) w):=by
 obtain ⟨R,hR⟩:=N2 (LQ b p.l);rw [hR];have hv:=hR.symm;unfold LQ at hv
 try dsimp only at hv
 replace hR:=H0 hR;have hI:=WE.start w (Ab B) 34 (Av p) 72;have hPB:=H0 hB.path;have hiB:=H0 hB.is;have hcap:=hB.cap;have hn:=bk.n;have hz:=bk.z;have hrz:=ok.rz;have hqz:=ok.qz;have hfz:=ok.fz;have hkq:=H0 ok.q;have hkf:=H0 ok.f;have hE':=H0 hE;clear ok hE hB bk;have hst:=H0 (fun w=>Kf C7 p w (by omega) (by omega))
 have hsl:=H0 (fun w=>G2 C7 p.rest w (by omega))
 have hsh:=H0 (fun w hp=>Nf C7 B.pathA B.path.length B.pathC B.path w hp hn hcap hz)
 have hle:=FE true p.rest.toList;rw [Aa] at hle;rw [show Aj C7.toList=true by rw [CT];rfl] at hsl
 rw [CT] at hsh;rw [show p.l.rest=p.rest.toList from rfl] at hv;obtain ⟨fr,hfr⟩:∃ x,(b.scheme==Aw)=x:=⟨_,rfl⟩;have hfr2:(B.scheme.toList==[102,105,108,101])=fr:=by rw [hiB.out.scheme];exact hfr
 rw [hfr] at hv;replace hfr:=H0 hfr;obtain ⟨n,hnn⟩:=N2 (A3 true p.rest.toList);rw [hnn] at hsl hv hle;replace hnn:=H0 hnn;replace hv:=H0 hv;go_enter func146,ntmps146;go_upto_region 1 with (fail)
 refine Ar (R:=fun wx=>WE w wx (Ab B) 34 (Av p) 72) hI ?_
 clear hI;intro w1 hI;go_wp2_with (refine wpList_load_row rfl 72 _ rfl (w.heap.size+1) rfl _ (Av p) _ _ hI.b underlying72 rfl (Cm p) ?_);refine (hst.out _).mono ?_;rintro e w2 ⟨q,f,rfl,hqv,hfv,hb⟩;have hI2:=hI.keep hb;have hF:=hI2.fr (Dw C7 p q f);have hF2:=hF.set (Ec (Dw C7 p q f) (Am .empty));have his:=Wm (Hs hqv.out hfv.out hkq.out hkf.out) .empty;rw [CT] at his
 go_upto_region 3 with (first
 | (refine Ag rfl 34 _ _ rfl rfl (Ab (Dw C7 p q f)) _ _ _ rfl (by simp) rfl (Ac _) rfl (As _) ?_)
 | (refine Ad rfl _ _ _ rfl w2.heap.size 3 rfl (.int .i64 1) rfl rfl _ (Ab (Dw C7 p q f)) (Ab (Ec (Dw C7 p q f) (Am .empty))) hF.g To (by show 3+1<=23;decide) rfl (by kernel_rfl) ?_))
 refine Ar (R:=fun wx=>Fr w wx (w.heap.size) (Ab B) 34 (w.heap.size+1) (Av p) 72 (w.heap.size+2) w2.heap.size (Ec (Dw C7 p q f) (Am .empty))) hF2 ?_
 clear hI hI2 hb hst hF hF2;intro w3 hI;obtain ⟨g,hg⟩:=N2 (w2.heap.size);rw [hg] at hI⊢;obtain ⟨U,hU⟩:∃ U,U=Ec (Dw C7 p q f) (Am .empty):=⟨_,rfl⟩;rw [<-hU] at his hI;have hUs:U.scheme=C7:=by rw [hU];rfl
 replace hU:=H0 hU;clear hg;obtain ⟨u,hu⟩:∃ u,Bk (Ax Aw p.l) .empty=u:=⟨_,rfl⟩;have hus:u.scheme=Aw:=by rw [<-hu];rfl
 rw [hu] at hv his;replace hu:=H0 hu;replace hus:=H0 hus;replace his:=H0 his;have z0:=(hI.a.at 0).trans (show (Ab B)[0]? =some (.string B.scheme) from rfl);have y2:=(hI.b.at 2).trans (show (Av p)[2]? =some (.string p.rest) from rfl);have x0:=(hI.g.at 0).trans (show (Ab U)[0]? =some (.string C7) by rw [<-hUs];rfl)
 by_cases hn2:2<=n
 ·have hn2I:(2:Int)<=(n:Int):=by omega
  have hv1:=hv.out;rw [if_pos hn2] at hv1;have h2r:(2:Int)<=(p.rest.size:Int):=by omega
  have hr1:(p.rest.extract 2 p.rest.size).toList=p.rest.toList.drop 2:=by rw [toList_extract,List.take_of_length_le (by rw [Aa];omega)]
  have hr2:(p.rest.extract 2 p.rest.size).size<=1100000:=by rw [ByteArray.size_extract];omega
  rw [<-hr1] at hv1;replace hr1:=H0 hr1;replace hv1:=H0 hv1;go_wp2_with (go_at_call 207;refine (hsl.out _).mono ?_;rintro e w' ⟨rfl,rfl⟩);refine (Tw g U u (p.rest.extract 2 p.rest.size) _ (hI.env hE'.out) hI.g his.out hr2).mono ?_;rintro e w4 ⟨hres,hc⟩;replace hv1:=hv1.out;clear y2 x0 z0 hv;obtain ⟨O,hO⟩:∃ O,GO u (p.rest.extract 2 p.rest.size).toList=O:=⟨_,rfl⟩;rw [hO] at hv1 hres;replace hO:=H0 hO
  cases O with
  | none=>
   obtain ⟨pv,rfl⟩:=hres;exact ⟨rfl,BG hv1 (hI.out hc)⟩
  | some u2=>
   obtain ⟨rfl,S',hcel,hu⟩:=hres;have hs5:=hI.below.size;have hr5:=hI.r.lt;replace hI:=hI.chg hc hcel;have hf:=H0 hv1;clear hc hcel hv1
   go_wp2_with (first
    | (refine wpList_load_row rfl 34 _ rfl g rfl _ (Ab (S')) _ _ hI.g underlying34 rfl (Ac _) ?_)
    | (refine wpList_store_row rfl 34 _ _ rfl (w.heap.size+2) (Ab (S')) rfl rfl 34 _ hI.r (Ac _) rfl (As _) ?_))
   refine Bc rfl rfl rfl (hI.r.set _) (Ac _) ?_;exact hI.fin ⟨hu,hr5,hs5⟩ hf.out
 ·have hv1:=hv.out;rw [if_neg hn2] at hv1;have hn2I:(n:Int)<2:=by omega
  cases fr with
  | true=>
   rw [if_pos rfl] at hv1;have hV:=H0 (ZM his.out hiB.out);have hI2:=hI.set (Ec U B.host)
   go_upto_region 11 with (first
    | (go_at_call 207;refine (hsl.out _).mono ?_;rintro e w' ⟨rfl,rfl⟩)
    | (refine wpList_load_mid (by rfl) 32 _ rfl w.heap.size 3 rfl (An B.host).toList _ hI.a.host underlying32 rfl (Gv _) ?_)
    | (refine BF rfl _ _ _ rfl g 3 rfl (.agg (An B.host)) rfl (An B.host) rfl _ (Ab U) (Ab (Ec U B.host)) hI.g AN (by show 3+11<=23;decide) (A2 _) (by kernel_rfl) ?_))
   refine Ar (R:=fun wx=>Fr w wx (w.heap.size) (Ab B) 34 (w.heap.size+1) (Av p) 72 (w.heap.size+2) g (Ec U B.host)) hI2 ?_
   clear hI hI2 x0 y2 z0;intro w4 hI;obtain ⟨V,hVe⟩:∃ V,V=Ec U B.host:=⟨_,rfl⟩;rw [<-hVe] at hV hI;have hVs:V.scheme=C7:=by rw [hVe];exact hUs
   replace hVe:=H0 hVe;obtain ⟨v,hv0⟩:=N2 (Bk u b.host);rw [hv0] at hV hv1;replace hv0:=H0 hv0;have x0:=(hI.g.at 0).trans (show (Ab (V))[0]? =some (.string C7) by rw [<-hVs];rfl)
   have y2:=(hI.b.at 2).trans (show (Av p)[2]? =some (.string p.rest) from rfl)
   by_cases hn1:n=1
   ·subst hn1;rw [if_pos rfl] at hv1;have h1r:(1:Int)<=(p.rest.size:Int):=by omega
    have hr1:(p.rest.extract 1 p.rest.size).toList=p.rest.toList.drop 1:=by rw [toList_extract,List.take_of_length_le (by rw [Aa];omega)]
    have hr2:(p.rest.extract 1 p.rest.size).size<=1100000:=by rw [ByteArray.size_extract];omega
    rw [<-hr1] at hv1;obtain ⟨r,hre⟩:=N2 (p.rest.extract 1 p.rest.size);rw [hre] at hv1 hr2;have hre2:=hre;replace hre:=H0 hre;replace hr1:=H0 hr1;have hstr:=H0 (fun w=>OK r w (by omega))
    cases hpl:B.path with
    | nil=>
     have hlen:B.path.length=0:=by rw [hpl];rfl
     have x18:=(hI.a.at 18).trans (show (Ab B)[18]? =some (.slice B.pathA 0 B.pathC) by rw [<-hlen];rfl)
     have hfn:EK b.path=false:=by rw [<-hiB.out.path,hpl];rfl
     rw [hfn] at hv1;have hf:=H0 (hv1.trans (congrArg some (congrArg (Bw (v)) (congrArg (fun l=>Dl Aw l r.toList) (if_neg (by simp))))))
     replace hpl:=H0 hpl;replace hv1:=H0 hv1;replace hlen:=H0 hlen;replace hfn:=H0 hfn;go_wp2_with (go_at_call 207;refine (hsl.out _).mono ?_;rintro e w' ⟨rfl,rfl⟩);refine (Bm C7 none 0 0 [] r _ (C2 _) (by first | decide | omega) (by omega) (fun t h=>by cases h)).mono ?_
     rintro e w6 ⟨v,l5,rfl,hl5,ho,hb⟩;have hg5:=hI.g.lt;have hs5:=hI.below.size;have hr5:=hI.r.lt;obtain ⟨pa,c,rfl,-,-⟩:=BA ho;replace hI:=hI.keep hb;have hI2:=hI.set (Ak (V) pa c l5);have ho2:=AI.row ho hg5 (Ab (Ak (V) pa c l5));have hl6:=hl5.out;rw [CT] at hl6;replace hl6:=H0 hl6;clear hb
     go_wp2_with (first
      | (refine Ad rfl _ _ _ rfl g 18 rfl (.slice pa l5.length c) rfl rfl _ (Ab (V)) (Ab (Ak (V) pa c l5)) hI.g Bn (by show 18+1<=23;decide) rfl (by kernel_rfl) ?_)
      | (refine wpList_load_row rfl 34 _ rfl g rfl _ (Ab (Ak (V) pa c l5)) _ _ hI2.g underlying34 rfl (Ac _) ?_)
      | (refine wpList_store_row rfl 34 _ _ rfl (w.heap.size+2) (Ab (Ak (V) pa c l5)) rfl rfl 34 _ hI2.r (Ac _) rfl (As _) ?_))
     refine Bc rfl rfl rfl (hI2.r.set _) (Ac _) ?_;exact hI2.fin ⟨⟨Co hV.out (hl6.out),ho2⟩,hr5,hs5⟩ hf.out
    | cons t0 tr=>
     have hlen:B.path.length=tr.length+1:=by rw [hpl];rfl
     have hlI:(0:Int)<(B.path.length:Int):=by omega
     obtain ⟨pa0,pc0,pe0,hcell⟩:=(hPB.out.below hI.below (Nat.le_refl _)).read;obtain ⟨g0,o0,pe1,hcell⟩:=hcell (by omega)
     have hc0:=hcell 0 (by omega)
     rw [Nat.add_zero] at hc0;have ht0:B.path[0]'(by omega)=t0:=by simp [hpl]
     rw [ht0] at hc0;have hpa:B.pathA=some ⟨g0,o0,none⟩:=by cases pe0;exact pe1
     have x18:=(hI.a.at 18).trans (show (Ab B)[18]? =some (.slice (some ⟨g0,o0,none⟩) B.path.length B.pathC) by rw [<-hpa];rfl)
     have hz0:t0.size<=4294967296:=hz t0 (by rw [hpl];exact List.mem_cons_self ..)
     have hno:=H0 (fun w=>Lc t0 w hz0)
     have hfn:EK b.path=CK t0.toList:=by rw [<-hiB.out.path,hpl];rfl
     have htk:b.path.take 1=[t0].map (·.toList):=by rw [<-hiB.out.path,hpl];rfl
     rw [hfn,htk] at hv1;obtain ⟨N0,hN0⟩:∃ x,CK t0.toList=x:=⟨_,rfl⟩;obtain ⟨S0,hS0⟩:∃ x,EX r.toList=x:=⟨_,rfl⟩;rw [hN0,hS0] at hv1;rw [hN0] at hno;rw [hS0] at hstr;replace hN0:=H0 hN0;replace hS0:=H0 hS0;replace hpl:=H0 hpl;replace hlen:=H0 hlen;replace hfn:=H0 hfn;replace htk:=H0 htk;replace ht0:=H0 ht0;replace hcell:=H0 @hcell;clear hcell pe0 pe1
     by_cases hall:(N0 && !S0)=true
     ·obtain ⟨rfl,rfl⟩:N0=true/\S0=false:=by cases N0<;>cases S0<;>simp at hall⊢
      have hf:=H0 (hv1.trans (congrArg some (congrArg (Bw (v)) (congrArg (fun l=>Dl Aw l r.toList) (if_pos rfl)))))
      replace hall:=H0 hall;replace hv1:=H0 hv1
      go_upto_region 16 with (first
       | (go_at_call 207;refine (hsl.out _).mono ?_;rintro e w' ⟨rfl,rfl⟩)
       | (go_at_call 209;refine (hno.out _).mono ?_;rintro e w' ⟨rfl,rfl⟩)
       | (go_at_call 210;refine (hstr.out _).mono ?_;rintro e w' ⟨rfl,rfl⟩))
      have hP1:Hid (∀ wx,AJ wx w4.heap.size #[.string t0] 9->DJ wx (some ⟨w4.heap.size,0,none⟩) 1 1 [t0]):=H0 (fun wx h=>⟨rfl,⟨_,1,rfl,fun _=>⟨_,0,rfl,fun i hi=>by
       have hi0:i=0:=by simp at hi;omega
       subst hi0
       exact h.at 0⟩⟩,fun h=>by cases h⟩)
      have hnew:=AJ.new w4 #[.string t0] 9;replace hI:=hI.keep ((Below.refl _ _).alloc (Nat.le_refl _) (.cells #[.string t0] 9));have x0':=(hI.g.at 0).trans (show (Ab V)[0]? =some (.string C7) by rw [<-hVs];rfl)
      refine Ar (R:=fun wx=>Fr w wx (w.heap.size) (Ab B) 34 (w.heap.size+1) (Av p) 72 (w.heap.size+2) g (V)/\AJ wx w4.heap.size #[.string t0] 9) ⟨hI,hnew⟩ ?_
      clear hI hnew x0 x0' y2 x18 hc0;rintro w5 ⟨hI,hnew⟩;have x0:=(hI.g.at 0).trans (show (Ab V)[0]? =some (.string C7) by rw [<-hVs];rfl)
      go_wp2_with fail;refine (Bm C7 (some ⟨w4.heap.size,0,none⟩) 1 1 [t0] r _ (hP1.out _ hnew) (by first | decide | omega) (by omega) (fun t h=>by rw [List.mem_singleton.1 h];exact hz0)).mono ?_
      rintro e w6 ⟨v,l5,rfl,hl5,ho,hb⟩;have hg5:=hI.g.lt;have hs5:=hI.below.size;have hr5:=hI.r.lt;obtain ⟨pa,c,rfl,-,-⟩:=BA ho;replace hI:=hI.keep hb;have hI2:=hI.set (Ak (V) pa c l5);have ho2:=AI.row ho hg5 (Ab (Ak (V) pa c l5));have hl6:=hl5.out;rw [CT] at hl6;replace hl6:=H0 hl6;clear hb
      go_wp2_with (first
       | (refine Ad rfl _ _ _ rfl g 18 rfl (.slice pa l5.length c) rfl rfl _ (Ab (V)) (Ab (Ak (V) pa c l5)) hI.g Bn (by show 18+1<=23;decide) rfl (by kernel_rfl) ?_)
       | (refine wpList_load_row rfl 34 _ rfl g rfl _ (Ab (Ak (V) pa c l5)) _ _ hI2.g underlying34 rfl (Ac _) ?_)
       | (refine wpList_store_row rfl 34 _ _ rfl (w.heap.size+2) (Ab (Ak (V) pa c l5)) rfl rfl 34 _ hI2.r (Ac _) rfl (As _) ?_))
      refine Bc rfl rfl rfl (hI2.r.set _) (Ac _) ?_;exact hI2.fin ⟨⟨Co hV.out (hl6.out),ho2⟩,hr5,hs5⟩ hf.out
     ·have hf:=H0 (hv1.trans (congrArg some (congrArg (Bw (v)) (congrArg (fun l=>Dl Aw l r.toList) (if_neg (by rw [Bool.true_and];exact hall))))))
      have hcase:N0=false\/(N0=true/\S0=true):=by cases N0<;>cases S0<;>simp at hall⊢
      replace hall:=H0 hall;replace hv1:=H0 hv1;rcases hcase with rfl | ⟨rfl,rfl⟩
      all_goals
       go_wp2_with (first
        | (go_at_call 207;refine (hsl.out _).mono ?_;rintro e w' ⟨rfl,rfl⟩)
        | (go_at_call 209;refine (hno.out _).mono ?_;rintro e w' ⟨rfl,rfl⟩)
        | (go_at_call 210;refine (hstr.out _).mono ?_;rintro e w' ⟨rfl,rfl⟩))
       refine (Bm C7 none 0 0 [] r _ (C2 _) (by first | decide | omega) (by omega) (fun t h=>by cases h)).mono ?_
       rintro e w6 ⟨v,l5,rfl,hl5,ho,hb⟩;have hg5:=hI.g.lt;have hs5:=hI.below.size;have hr5:=hI.r.lt;obtain ⟨pa,c,rfl,-,-⟩:=BA ho;replace hI:=hI.keep hb;have hI2:=hI.set (Ak (V) pa c l5);have ho2:=AI.row ho hg5 (Ab (Ak (V) pa c l5));have hl6:=hl5.out;rw [CT] at hl6;replace hl6:=H0 hl6;clear hb
       go_wp2_with (first
        | (refine Ad rfl _ _ _ rfl g 18 rfl (.slice pa l5.length c) rfl rfl _ (Ab (V)) (Ab (Ak (V) pa c l5)) hI.g Bn (by show 18+1<=23;decide) rfl (by kernel_rfl) ?_)
        | (refine wpList_load_row rfl 34 _ rfl g rfl _ (Ab (Ak (V) pa c l5)) _ _ hI2.g underlying34 rfl (Ac _) ?_)
        | (refine wpList_store_row rfl 34 _ _ rfl (w.heap.size+2) (Ab (Ak (V) pa c l5)) rfl rfl 34 _ hI2.r (Ac _) rfl (As _) ?_))
       refine Bc rfl rfl rfl (hI2.r.set _) (Ac _) ?_;exact hI2.fin ⟨⟨Co hV.out (hl6.out),ho2⟩,hr5,hs5⟩ hf.out
   ·obtain rfl:n=0:=by omega
    rw [if_neg (by decide)] at hv1
    obtain ⟨re,hre⟩:∃ b,p.rest.toList.isEmpty=b:=⟨_,rfl⟩;rw [hre] at hv1
    cases re with
    | true=>
     have hf:=H0 (hv1.trans (if_pos rfl));clear hv1 hv;go_upto_region 18 with (go_at_call 207;refine (hsl.out _).mono ?_;rintro e w' ⟨rfl,rfl⟩)
     clear x0 y2;have hg5:=hI.g.lt;have hs5:=hI.below.size;have hr5:=hI.r.lt;go_wp2_with (refine wpList_load_row rfl 34 _ rfl w.heap.size rfl _ (Ab B) _ _ hI.a underlying34 rfl (Ac _) ?_);refine (LG g (V) B _ hI.g (hPB.out.below hI.below (Nat.le_refl _)) (by omega)).mono ?_
     rintro e w6 ⟨pa,c,rfl,hcel,ho,hch⟩;have hip:=Ml hV.out hiB.out pa c
     have hpath:(if (V:Al).hasQuery=true then Ak (V) pa c B.path else IR (Ak (V) pa c B.path) B).path=B.path/\(if (V:Al).hasQuery=true then Ak (V) pa c B.path else IR (Ak (V) pa c B.path) B).pathA=pa/\(if (V:Al).hasQuery=true then Ak (V) pa c B.path else IR (Ak (V) pa c B.path) B).pathC=c:=by
      split<;>exact ⟨rfl,rfl,rfl⟩
     obtain ⟨T,hT⟩:∃ T,(if (V:Al).hasQuery=true then Ak (V) pa c B.path else IR (Ak (V) pa c B.path) B)=T:=⟨_,rfl⟩
     rw [hT] at hcel hip hpath;replace hT:=H0 hT;replace hI:=hI.chg hch hcel;replace hip:=H0 hip;clear hcel hch;obtain ⟨e1,e2,e3⟩:=hpath;rw [<-e1,<-e2,<-e3] at ho;replace e1:=H0 e1;replace e2:=H0 e2;replace e3:=H0 e3;replace ho:=H0 ho
     go_wp2_with (first
      | (refine wpList_load_row rfl 34 _ rfl g rfl _ (Ab (T)) _ _ hI.g underlying34 rfl (Ac _) ?_)
      | (refine wpList_store_row rfl 34 _ _ rfl (w.heap.size+2) (Ab (T)) rfl rfl 34 _ hI.r (Ac _) rfl (As _) ?_))
     refine Bc rfl rfl rfl (hI.r.set _) (Ac _) ?_;exact hI.fin ⟨⟨hip.out,ho.out⟩,hr5,hs5⟩ hf.out
    | false=>
     have hv2:=hv1.trans (if_neg (by decide))
     clear hv1;have hstr:=H0 (fun w=>OK p.rest w (by omega))
     obtain ⟨S0,hS0⟩:∃ x,EX p.rest.toList=x:=⟨_,rfl⟩;rw [hS0] at hv2 hstr;replace hS0:=H0 hS0
     cases S0 with
     | false=>
      have hf:=H0 (hv2.trans (if_pos rfl));clear hv2 hv
      go_upto_region 20 with (first
       | (go_at_call 207;refine (hsl.out _).mono ?_;rintro e w' ⟨rfl,rfl⟩)
       | (go_at_call 210;refine (hstr.out _).mono ?_;rintro e w' ⟨rfl,rfl⟩))
      clear x0 y2;refine Ar (R:=fun wx=>Fr w wx (w.heap.size) (Ab B) 34 (w.heap.size+1) (Av p) 72 (w.heap.size+2) g (V)) hI ?_
      clear hI;intro w5 hI;have hP1:=hPB.out.below hI.below (Nat.le_refl _);replace hP1:=H0 (hP1.below (Below.refl _ _).drew (Nat.le_refl _));replace hI:=hI.drew;refine wp_region_noPanic ?_;refine wp_region_held_drew (S:=fun w'=>w'.cell? ⟨g,0,none⟩=some (.string (V).scheme)/\w'.cell? ⟨w.heap.size,18,none⟩=some (.slice B.pathA B.path.length B.pathC)/\w'.cell? ⟨w.heap.size+1,2,none⟩=some (.string p.rest)) (by kernel_rfl) (hI.rel.2) (fun hHeld=> ?_)
      refine T0 0 92 ?_ hHeld ?_ ?_;rotate_left
      ·intro w hSw;(try dsimp only at hSw);go_simp;try with_reducible rfl
      try simp only [P3]
      refine T0 1 93 ?_ hHeld ?_ ?_;rotate_left
      ·intro w hSw;(try dsimp only at hSw);go_simp;try with_reducible rfl
      try simp only [P3]
      refine T0 2 94 ?_ hHeld ?_ ?_;rotate_left
      ·intro w hSw;(try dsimp only at hSw);go_simp;try with_reducible rfl
      try simp only [P3]
      refine T0 3 95 ?_ hHeld ?_ ?_;rotate_left
      ·intro w hSw;(try dsimp only at hSw);go_simp;try with_reducible rfl
      try simp only [P3]
      refine T0 4 96 ?_ hHeld ?_ ?_;rotate_left
      ·intro w hSw;(try dsimp only at hSw);go_simp;try with_reducible rfl
      try simp only [P3]
      refine T0 5 97 ?_ hHeld ?_ ?_;rotate_left
      ·intro w hSw;(try dsimp only at hSw);go_simp;try with_reducible rfl
      try simp only [P3]
      refine T0 7 99 ?_ hHeld ?_ ?_;rotate_left
      ·intro w hSw;(try dsimp only at hSw);go_simp;try with_reducible rfl
      try simp only [P3]
      refine T0 8 100 ?_ hHeld ?_ ?_;rotate_left
      ·intro w hSw;(try dsimp only at hSw);go_simp;try with_reducible rfl
      try simp only [P3]
      refine wpAnyH_ready (rs:=[6]) (by kernel_rfl) (by simp) ?_
      refine AllReadyH.cons rfl (fun K hK=> ?_) AllReadyH.nil
      go_simp;refine (hsh.out _ hP1.out).mono ?_;rintro e w4 ⟨v,l,rfl,hl,ho,hb⟩;have hll:=Ac6 hl.out hn hz;obtain ⟨hn4,hz4⟩:=hll;obtain ⟨pa4,c4,rfl,hP4⟩:=DJ.own ho;replace hI:=hI.keep hb;replace hP4:=H0 hP4;clear hb hHeld ho hP1;go_wp2_with fail;refine hK.out _ _ (hI.rel.2) (fun hHeld=> ?_)
      clear hK K
      try simp only [P3]
      refine wpAnyH_ready (rs:=[9]) (by kernel_rfl) (by simp) ?_
      refine AllReadyH.cons rfl (fun K hK=> ?_) AllReadyH.nil
      go_simp;refine (Bm C7 pa4 l.length c4 l p.rest _ hP4.out hn4 hrz hz4).mono ?_;rintro e w5 ⟨v,l5,rfl,hl5,ho,hb⟩;have hg5:=hI.g.lt;have hs5:=hI.below.size;have hr5:=hI.r.lt;obtain ⟨pa,c,rfl,-,-⟩:=BA ho;replace hI:=hI.keep hb;replace ho:=H0 ho;clear hb hHeld;go_wp2_with fail;refine hK.out _ _ (hI.rel.2) (fun hHeld=> ?_)
      clear hK K
      try simp only [P3]
      refine T0 10 102 ?_ hHeld ?_ ?_;rotate_left
      ·intro w hSw;(try dsimp only at hSw);go_simp;try with_reducible rfl
      try simp only [P3]
      refine wpAnyH_ready (rs:=[11]) (by kernel_rfl) (by simp) ?_
      refine AllReadyH.cons rfl (fun K hK=> ?_) AllReadyH.nil
      refine AO (by kernel_rfl) (fun Q' hQ'=> ?_)
      refine Ad rfl _ _ _ rfl g 18 rfl (.slice pa l5.length c) rfl rfl _ (Ab (V)) (Ab (Ak (V) pa c l5)) hI.g Bn (by show 18+1<=23;decide) rfl (by kernel_rfl) ?_
      replace hI:=hI.set (Ak (V) pa c l5);refine hQ' _ _ ?_;refine hK.out _ _ (hI.rel.2) (fun hHeld=> ?_)
      clear hK K hQ' Q'
      try simp only [P3]
      refine wpAnyH_done (by kernel_rfl) ?_ _
      refine NoPanic.normal ?_;go_upto_region 21 with (fail)
      refine Ar (R:=fun wx=>Fr w wx (w.heap.size) (Ab B) 34 (w.heap.size+1) (Av p) 72 (w.heap.size+2) g (Ak (V) pa c l5)/\AI wx w4.heap.size 9 (.slice pa l5.length c) l5) ⟨hI,AI.row ho.out hg5 _⟩ ?_
      clear hI ho hHeld;rintro w6 ⟨hI,ho⟩;have hl2:=hl5.out;rw [hl.out,hiB.out.path,CT] at hl2
      go_wp2_with (first
       | (refine wpList_load_row rfl 34 _ rfl g rfl _ (Ab (Ak (V) pa c l5)) _ _ hI.g underlying34 rfl (Ac _) ?_)
       | (refine wpList_store_row rfl 34 _ _ rfl (w.heap.size+2) (Ab (Ak (V) pa c l5)) rfl rfl 34 _ hI.r (Ac _) rfl (As _) ?_))
      refine Bc rfl rfl rfl (hI.r.set _) (Ac _) ?_;exact hI.fin ⟨⟨Co hV.out hl2,ho⟩,hr5,hs5⟩ hf.out
     | true=>
      have hf:=H0 (hv2.trans (if_neg (by decide)))
      clear hv2 hv
      go_wp2_with (first
       | (go_at_call 207;refine (hsl.out _).mono ?_;rintro e w' ⟨rfl,rfl⟩)
       | (go_at_call 210;refine (hstr.out _).mono ?_;rintro e w' ⟨rfl,rfl⟩))
      refine (Bm C7 none 0 0 [] p.rest _ (C2 _) (by first | decide | omega) hrz (fun t h=>by cases h)).mono ?_
      rintro e w6 ⟨v,l5,rfl,hl5,ho,hb⟩;have hg5:=hI.g.lt;have hs5:=hI.below.size;have hr5:=hI.r.lt;obtain ⟨pa,c,rfl,-,-⟩:=BA ho;replace hI:=hI.keep hb;have hI2:=hI.set (Ak (V) pa c l5);have ho2:=AI.row ho hg5 (Ab (Ak (V) pa c l5));have hl6:=hl5.out;rw [CT] at hl6;replace hl6:=H0 hl6;clear hb
      go_wp2_with (first
       | (refine Ad rfl _ _ _ rfl g 18 rfl (.slice pa l5.length c) rfl rfl _ (Ab (V)) (Ab (Ak (V) pa c l5)) hI.g Bn (by show 18+1<=23;decide) rfl (by kernel_rfl) ?_)
       | (refine wpList_load_row rfl 34 _ rfl g rfl _ (Ab (Ak (V) pa c l5)) _ _ hI2.g underlying34 rfl (Ac _) ?_)
       | (refine wpList_store_row rfl 34 _ _ rfl (w.heap.size+2) (Ab (Ak (V) pa c l5)) rfl rfl 34 _ hI2.r (Ac _) rfl (As _) ?_))
      refine Bc rfl rfl rfl (hI2.r.set _) (Ac _) ?_;exact hI2.fin ⟨⟨Co hV.out (hl6.out),ho2⟩,hr5,hs5⟩ hf.out
  | false=>
   rw [show (if false=true then Bk u b.host else u)=u from if_neg (by decide)] at hv1
   go_upto_region 11 with (go_at_call 207;refine (hsl.out _).mono ?_;rintro e w' ⟨rfl,rfl⟩)
   clear x0 y2 z0;have x0:=(hI.g.at 0).trans (show (Ab (U))[0]? =some (.string C7) by rw [<-hUs];rfl)
   have y2:=(hI.b.at 2).trans (show (Av p)[2]? =some (.string p.rest) from rfl)
   by_cases hn1:n=1
   ·subst hn1;rw [if_pos rfl] at hv1;have h1r:(1:Int)<=(p.rest.size:Int):=by omega
    have hr1:(p.rest.extract 1 p.rest.size).toList=p.rest.toList.drop 1:=by rw [toList_extract,List.take_of_length_le (by rw [Aa];omega)]
    have hr2:(p.rest.extract 1 p.rest.size).size<=1100000:=by rw [ByteArray.size_extract];omega
    rw [<-hr1] at hv1;obtain ⟨r,hre⟩:=N2 (p.rest.extract 1 p.rest.size);rw [hre] at hv1 hr2;have hre2:=hre;replace hre:=H0 hre;replace hr1:=H0 hr1;have hf:=H0 (hv1.trans (congrArg some (congrArg (Bw (u)) (congrArg (fun l=>Dl Aw l r.toList) (if_neg (by simp))))))
    replace hv1:=H0 hv1;go_wp2_with (go_at_call 207;refine (hsl.out _).mono ?_;rintro e w' ⟨rfl,rfl⟩);refine (Bm C7 none 0 0 [] r _ (C2 _) (by first | decide | omega) (by omega) (fun t h=>by cases h)).mono ?_
    rintro e w6 ⟨v,l5,rfl,hl5,ho,hb⟩;have hg5:=hI.g.lt;have hs5:=hI.below.size;have hr5:=hI.r.lt;obtain ⟨pa,c,rfl,-,-⟩:=BA ho;replace hI:=hI.keep hb;have hI2:=hI.set (Ak (U) pa c l5);have ho2:=AI.row ho hg5 (Ab (Ak (U) pa c l5));have hl6:=hl5.out;rw [CT] at hl6;replace hl6:=H0 hl6;clear hb
    go_wp2_with (first
     | (refine Ad rfl _ _ _ rfl g 18 rfl (.slice pa l5.length c) rfl rfl _ (Ab (U)) (Ab (Ak (U) pa c l5)) hI.g Bn (by show 18+1<=23;decide) rfl (by kernel_rfl) ?_)
     | (refine wpList_load_row rfl 34 _ rfl g rfl _ (Ab (Ak (U) pa c l5)) _ _ hI2.g underlying34 rfl (Ac _) ?_)
     | (refine wpList_store_row rfl 34 _ _ rfl (w.heap.size+2) (Ab (Ak (U) pa c l5)) rfl rfl 34 _ hI2.r (Ac _) rfl (As _) ?_))
    refine Bc rfl rfl rfl (hI2.r.set _) (Ac _) ?_;exact hI2.fin ⟨⟨Co his.out (hl6.out),ho2⟩,hr5,hs5⟩ hf.out
   ·obtain rfl:n=0:=by omega
    rw [if_neg (by decide)] at hv1
    have hf:=H0 (hv1.trans ((if_neg (by simp)).trans (if_neg (by simp))))
    clear hv1 hv;go_wp2_with (go_at_call 207;refine (hsl.out _).mono ?_;rintro e w' ⟨rfl,rfl⟩);refine (Bm C7 none 0 0 [] p.rest _ (C2 _) (by first | decide | omega) hrz (fun t h=>by cases h)).mono ?_
    rintro e w6 ⟨v,l5,rfl,hl5,ho,hb⟩;have hg5:=hI.g.lt;have hs5:=hI.below.size;have hr5:=hI.r.lt;obtain ⟨pa,c,rfl,-,-⟩:=BA ho;replace hI:=hI.keep hb;have hI2:=hI.set (Ak (U) pa c l5);have ho2:=AI.row ho hg5 (Ab (Ak (U) pa c l5));have hl6:=hl5.out;rw [CT] at hl6;replace hl6:=H0 hl6;clear hb
    go_wp2_with (first
     | (refine Ad rfl _ _ _ rfl g 18 rfl (.slice pa l5.length c) rfl rfl _ (Ab (U)) (Ab (Ak (U) pa c l5)) hI.g Bn (by show 18+1<=23;decide) rfl (by kernel_rfl) ?_)
     | (refine wpList_load_row rfl 34 _ rfl g rfl _ (Ab (Ak (U) pa c l5)) _ _ hI2.g underlying34 rfl (Ac _) ?_)
     | (refine wpList_store_row rfl 34 _ _ rfl (w.heap.size+2) (Ab (Ak (U) pa c l5)) rfl rfl 34 _ hI2.r (Ac _) rfl (As _) ?_))
    refine Bc rfl rfl rfl (hI2.r.set _) (Ac _) ?_;exact hI2.fin ⟨⟨Co his.out (hl6.out),ho2⟩,hr5,hs5⟩ hf.out
theorem Ad2 (s:ByteArray) (w:World):Calls prog 111 #[.string s,.string ⟨#[47,47]⟩] w fun e w'=>e= .returned (.bool (Lib.hasPrefix s.toList [47,47]))/\w=w':=by
 refine (Tryz.strings_HasPrefix s ⟨#[47,47]⟩ w).mono ?_;rintro e w' ⟨rfl,rfl⟩;have e1:s.data.toList=s.toList:=(ByteArray.toList_eq ..).symm;have e2:(ByteArray.mk #[47,47]).data.toList=[47,47]:=rfl;rw [e1,e2];exact ⟨rfl,rfl⟩
theorem VN (B:Al) (b:Aq) (p:Dq) (w:World) (hE:GZ w) (hB:DI w B b) (bk:GC B) (ok:KZ p):Calls prog 86 #[.agg (Ab B),.agg (Av p)] w (Mc (IP b p.l) w):=by
 obtain ⟨R,hR⟩:=N2 (IP b p.l);rw [hR];have hv:=hR.symm;unfold IP at hv;replace hR:=H0 hR;have hI:=WE.start w (Ab B) 34 (Av p) 72;have hfile:=H0 (fun w hE hB=>VX B b p w hE hB bk ok)
 have hother:=H0 (fun w hE=>Tj p w hE ok)
 have hflat:=H0 (fun w hB=>VZ B b p w hB bk ok)
 have hrel:=H0 (fun w hE hB=>WP B b p w hE hB bk ok)
 have hsp:=H0 (fun w=>DN p.sch w)
 have hhp:=H0 (fun w=>Ad2 p.rest w)
 have hrz:=ok.rz;have hqz:=ok.qz;have hfz:=ok.fz;have hkq:=H0 ok.q;have hkf:=H0 ok.f;have hst:=H0 (fun w=>Kf p.sch p w (by omega) (by omega))
 have hun:=H0 (fun w=>KG p.sch p.rest w (by omega))
 have hE':=H0 hE;have hB':=H0 hB;have hiB:=H0 hB.is;clear ok hE hB bk;rw [show p.l.hs=p.hs from rfl,show p.l.sch=p.sch.toList from rfl,show p.l.rest=p.rest.toList from rfl] at hv;obtain ⟨hs,hhs⟩:∃ x,p.hs=x:=⟨_,rfl⟩;obtain ⟨A,hA⟩:∃ x,(p.sch.toList==Aw)=x:=⟨_,rfl⟩;have hA2:(p.sch.toList==[102,105,108,101])=A:=hA;obtain ⟨SP,hSP⟩:∃ x,Aj p.sch.toList=x:=⟨_,rfl⟩;obtain ⟨O,hO⟩:∃ x,b.opq=x:=⟨_,rfl⟩;obtain ⟨F,hF⟩:∃ x,(b.scheme==Aw)=x:=⟨_,rfl⟩;have hF2:(B.scheme.toList==[102,105,108,101])=F:=by rw [hiB.out.scheme];exact hF
 obtain ⟨D,hD⟩:∃ x,(p.sch.toList==b.scheme)=x:=⟨_,rfl⟩;have hD2:(p.sch.toList==B.scheme.toList)=D:=by rw [hiB.out.scheme];exact hD
 obtain ⟨P2,hP2⟩:∃ x,Lib.hasPrefix p.rest.toList [47,47]=x:=⟨_,rfl⟩;rw [hhs,hA,hSP,hO,hF,hD,hP2] at hv;rw [hSP] at hsp;rw [hP2] at hhp;have w0:∀ {wx:World},AJ wx (w.heap.size+1) (Av p) 72->wx.cell? ⟨w.heap.size+1,0,none⟩=some (.bool hs):=fun h=>(h.at 0).trans (by rw [<-hhs];rfl)
 have w6:∀ {wx:World},AJ wx w.heap.size (Ab B) 34->wx.cell? ⟨w.heap.size,16,none⟩=some (.bool O):=fun h=>(h.at 16).trans (by rw [<-hO,<-hiB.out.opq];rfl)
 replace hhs:=H0 hhs;replace hA:=H0 hA;replace hSP:=H0 hSP;replace hO:=H0 hO;replace hF:=H0 hF;replace hD:=H0 hD;replace hP2:=H0 hP2;replace hv:=H0 hv;go_enter func86,ntmps86;go_upto_region 1 with (fail)
 refine Ar (R:=fun wx=>WE w wx (Ab B) 34 (Av p) 72) hI ?_
 clear hI;intro w1 hI;have y0:=w0 hI.b;have y1:=(hI.b.at 1).trans (show (Av p)[1]? =some (.string p.sch) from rfl);have y2:=(hI.b.at 2).trans (show (Av p)[2]? =some (.string p.rest) from rfl);have z6:=w6 hI.a;have z0:=(hI.a.at 0).trans (show (Ab B)[0]? =some (.string B.scheme) from rfl);have z18:=0;clear w0 w6
 cases hs with
 | true=>
  cases A with
  | true=>
   have hf:=H0 (hv.out.trans (if_pos rfl))
   go_upto_region 4 with (first
    | ((go_at_call 145;refine (hsp.out _).mono ?_;rintro e w' ⟨rfl,rfl⟩))
    | ((go_at_call 111;refine (hhp.out _).mono ?_;rintro e w' ⟨rfl,rfl⟩)))
   go_wp2_with (first
    | (refine wpList_load_row rfl 34 _ rfl w.heap.size rfl _ (Ab B) _ _ hI.a underlying34 rfl (Ac _) ?_)
    | (refine wpList_load_row rfl 72 _ rfl (w.heap.size+1) rfl _ (Av p) _ _ hI.b underlying72 rfl (Cm p) ?_))
   refine (hfile.out _ (hE'.out.next hI.below) (hB'.out.next hI.below)).mono ?_
   rintro e w4 ⟨hres,hb4⟩;rw [<-hf.out] at hres;have hr4:=hI.r.lt;have hs4:=hI.below.size;have hI2:=hI.keep hb4;clear hv
   cases R with
   | none=>obtain ⟨pv,rfl⟩:=hres;exact ⟨rfl,BG rfl hI2.below⟩
   | some u=>
    obtain ⟨S,rfl,hu⟩:=hres;go_wp2_with (refine wpList_store_row rfl 34 _ _ rfl (w.heap.size+2) (Ab S) rfl rfl 34 _ hI2.r (Ac _) rfl (As _) ?_);refine Bc rfl rfl rfl (hI2.r.set _) (Ac _) ?_;exact Cn rfl (hu.row hr4 hs4 _) (Ae hI2.below (by omega) _)
  | false=>
   have hv1:=hv.out.trans (if_neg (by cases O<;>cases F<;>decide))
   cases SP with
   | true=>
    cases D with
    | false=>
     have hD3:(p.sch.toList != B.scheme.toList)=true:=by rw [bne,hD2];rfl
     have hf:=H0 (hv1.trans (if_pos rfl));clear hv1
     go_upto_region 6 with (first
      | ((go_at_call 145;refine (hsp.out _).mono ?_;rintro e w' ⟨rfl,rfl⟩))
      | ((go_at_call 111;refine (hhp.out _).mono ?_;rintro e w' ⟨rfl,rfl⟩)))
     go_wp2_with (refine wpList_load_row rfl 72 _ rfl (w.heap.size+1) rfl _ (Av p) _ _ hI.b underlying72 rfl (Cm p) ?_);refine (hst.out _).mono ?_;rintro e w2 ⟨q,f,rfl,hqv,hfv,hb⟩;have his:=Hs hqv.out hfv.out hkq.out hkf.out;obtain ⟨S,hS⟩:=N2 (Dw p.sch p q f);have h0:S.pathA=none:=by rw [<-hS];rfl
     have h1:S.pathC=0:=by rw [<-hS];rfl
     have h2:S.path=[]:=by rw [<-hS];rfl
     rw [hS] at his⊢;replace his:=H0 his;replace hS:=H0 hS;replace h0:=H0 h0;replace h1:=H0 h1;replace h2:=H0 h2;have hI2:=hI.keep hb;have hF:=hI2.fr S;clear hI hI2 hb hst z6 z0 z18 y0 y1 y2;go_upto_region 7 with (refine Ag rfl 34 _ _ rfl rfl (Ab (S)) _ _ _ rfl (by simp) rfl (Ac _) rfl (As _) ?_)
     refine Ar (R:=fun wx=>Fr w wx (w.heap.size) (Ab B) 34 (w.heap.size+1) (Av p) 72 (w.heap.size+2) w2.heap.size S) hF ?_
     clear hF;intro w3 hI;obtain ⟨g,hg⟩:=N2 (w2.heap.size);rw [hg] at hI⊢;clear hg;have y1:=(hI.b.at 1).trans (show (Av p)[1]? =some (.string p.sch) from rfl);have y2:=(hI.b.at 2).trans (show (Av p)[2]? =some (.string p.rest) from rfl);go_wp2_with (go_at_call 149;refine (hun.out _).mono ?_;rintro e w' ⟨⟨r,rfl,hr1,hr2⟩,rfl⟩);refine (LN g S (Ax p.sch.toList p.l) r _ (hI.env hE'.out) hI.g his.out h0.out h1.out h2.out (by omega)).mono ?_
     rintro e w4 ⟨hres,hc⟩;have hv1:=hf.out;have hr1x:=hr1.out;rw [hSP.out] at hr1x;rw [<-hr1x] at hv1;clear hr1x;clear y1 y2 hv hf;obtain ⟨O,hO⟩:=N2 (Ig (Ax p.sch.toList p.l) r.toList);rw [hO] at hv1 hres;replace hO:=H0 hO
     cases O with
     | none=>
      obtain ⟨pv,rfl⟩:=hres;exact ⟨rfl,BG hv1 (hI.out hc)⟩
     | some u=>
      obtain ⟨rfl,S',hcel,hu⟩:=hres;have hs5:=hI.below.size;have hr5:=hI.r.lt;replace hI:=hI.chg hc hcel;have hf:=H0 hv1;clear hc hcel hv1
      go_wp2_with (first
       | (refine wpList_load_row rfl 34 _ rfl g rfl _ (Ab (S')) _ _ hI.g underlying34 rfl (Ac _) ?_)
       | (refine wpList_store_row rfl 34 _ _ rfl (w.heap.size+2) (Ab (S')) rfl rfl 34 _ hI.r (Ac _) rfl (As _) ?_))
      refine Bc rfl rfl rfl (hI.r.set _) (Ac _) ?_;exact hI.fin ⟨hu,hr5,hs5⟩ hf.out
    | true=>
     have hD3:(p.sch.toList != B.scheme.toList)=false:=by rw [bne,hD2];rfl
     cases P2 with
     | true=>
      have hf:=H0 (hv1.trans (if_pos rfl));clear hv1
      go_upto_region 6 with (first
       | ((go_at_call 145;refine (hsp.out _).mono ?_;rintro e w' ⟨rfl,rfl⟩))
       | ((go_at_call 111;refine (hhp.out _).mono ?_;rintro e w' ⟨rfl,rfl⟩)))
      go_wp2_with (refine wpList_load_row rfl 72 _ rfl (w.heap.size+1) rfl _ (Av p) _ _ hI.b underlying72 rfl (Cm p) ?_);refine (hst.out _).mono ?_;rintro e w2 ⟨q,f,rfl,hqv,hfv,hb⟩;have his:=Hs hqv.out hfv.out hkq.out hkf.out;obtain ⟨S,hS⟩:=N2 (Dw p.sch p q f);have h0:S.pathA=none:=by rw [<-hS];rfl
      have h1:S.pathC=0:=by rw [<-hS];rfl
      have h2:S.path=[]:=by rw [<-hS];rfl
      rw [hS] at his⊢;replace his:=H0 his;replace hS:=H0 hS;replace h0:=H0 h0;replace h1:=H0 h1;replace h2:=H0 h2;have hI2:=hI.keep hb;have hF:=hI2.fr S;clear hI hI2 hb hst z6 z0 z18 y0 y1 y2;go_upto_region 7 with (refine Ag rfl 34 _ _ rfl rfl (Ab (S)) _ _ _ rfl (by simp) rfl (Ac _) rfl (As _) ?_)
      refine Ar (R:=fun wx=>Fr w wx (w.heap.size) (Ab B) 34 (w.heap.size+1) (Av p) 72 (w.heap.size+2) w2.heap.size S) hF ?_
      clear hF;intro w3 hI;obtain ⟨g,hg⟩:=N2 (w2.heap.size);rw [hg] at hI⊢;clear hg;have y1:=(hI.b.at 1).trans (show (Av p)[1]? =some (.string p.sch) from rfl);have y2:=(hI.b.at 2).trans (show (Av p)[2]? =some (.string p.rest) from rfl);go_wp2_with (go_at_call 149;refine (hun.out _).mono ?_;rintro e w' ⟨⟨r,rfl,hr1,hr2⟩,rfl⟩);refine (LN g S (Ax p.sch.toList p.l) r _ (hI.env hE'.out) hI.g his.out h0.out h1.out h2.out (by omega)).mono ?_
      rintro e w4 ⟨hres,hc⟩;have hv1:=hf.out;have hr1x:=hr1.out;rw [hSP.out] at hr1x;rw [<-hr1x] at hv1;clear hr1x;clear y1 y2 hv hf;obtain ⟨O,hO⟩:=N2 (Ig (Ax p.sch.toList p.l) r.toList);rw [hO] at hv1 hres;replace hO:=H0 hO
      cases O with
      | none=>
       obtain ⟨pv,rfl⟩:=hres;exact ⟨rfl,BG hv1 (hI.out hc)⟩
      | some u=>
       obtain ⟨rfl,S',hcel,hu⟩:=hres;have hs5:=hI.below.size;have hr5:=hI.r.lt;replace hI:=hI.chg hc hcel;have hf:=H0 hv1;clear hc hcel hv1
       go_wp2_with (first
        | (refine wpList_load_row rfl 34 _ rfl g rfl _ (Ab (S')) _ _ hI.g underlying34 rfl (Ac _) ?_)
        | (refine wpList_store_row rfl 34 _ _ rfl (w.heap.size+2) (Ab (S')) rfl rfl 34 _ hI.r (Ac _) rfl (As _) ?_))
       refine Bc rfl rfl rfl (hI.r.set _) (Ac _) ?_;exact hI.fin ⟨hu,hr5,hs5⟩ hf.out
     | false=>
      have hv2:=hv1.trans (if_neg (by decide))
      replace hv2:=hv2.trans (if_neg (by decide))
      clear hv1
      cases O with
      | true=>
       have hf:=H0 (hv2.trans (if_pos rfl));clear hv2
       go_upto_region 12 with (first
        | ((go_at_call 145;refine (hsp.out _).mono ?_;rintro e w' ⟨rfl,rfl⟩))
        | ((go_at_call 111;refine (hhp.out _).mono ?_;rintro e w' ⟨rfl,rfl⟩)))
       go_wp2_with (first
        | (refine wpList_load_row rfl 34 _ rfl w.heap.size rfl _ (Ab B) _ _ hI.a underlying34 rfl (Ac _) ?_)
        | (refine wpList_load_row rfl 72 _ rfl (w.heap.size+1) rfl _ (Av p) _ _ hI.b underlying72 rfl (Cm p) ?_))
       refine (hflat.out _ (hB'.out.next hI.below)).mono ?_
       rintro e w4 ⟨hres,hb4⟩;rw [<-hf.out] at hres;have hr4:=hI.r.lt;have hs4:=hI.below.size;have hI2:=hI.keep hb4;clear hv
       cases R with
       | none=>obtain ⟨pv,rfl⟩:=hres;exact ⟨rfl,BG rfl hI2.below⟩
       | some u=>
        obtain ⟨S,rfl,hu⟩:=hres;go_wp2_with (refine wpList_store_row rfl 34 _ _ rfl (w.heap.size+2) (Ab S) rfl rfl 34 _ hI2.r (Ac _) rfl (As _) ?_);refine Bc rfl rfl rfl (hI2.r.set _) (Ac _) ?_;exact Cn rfl (hu.row hr4 hs4 _) (Ae hI2.below (by omega) _)
      | false=>
       have hf:=H0 (hv2.trans (if_neg (by decide)))
       clear hv2
       go_upto_region 13 with (first
        | ((go_at_call 145;refine (hsp.out _).mono ?_;rintro e w' ⟨rfl,rfl⟩))
        | ((go_at_call 111;refine (hhp.out _).mono ?_;rintro e w' ⟨rfl,rfl⟩)))
       go_wp2_with (first
        | (refine wpList_load_row rfl 34 _ rfl w.heap.size rfl _ (Ab B) _ _ hI.a underlying34 rfl (Ac _) ?_)
        | (refine wpList_load_row rfl 72 _ rfl (w.heap.size+1) rfl _ (Av p) _ _ hI.b underlying72 rfl (Cm p) ?_))
       refine (hrel.out _ (hE'.out.next hI.below) (hB'.out.next hI.below)).mono ?_
       rintro e w4 ⟨hres,hb4⟩;rw [<-hf.out] at hres;have hr4:=hI.r.lt;have hs4:=hI.below.size;have hI2:=hI.keep hb4;clear hv
       cases R with
       | none=>obtain ⟨pv,rfl⟩:=hres;exact ⟨rfl,BG rfl hI2.below⟩
       | some u=>
        obtain ⟨S,rfl,hu⟩:=hres;go_wp2_with (refine wpList_store_row rfl 34 _ _ rfl (w.heap.size+2) (Ab S) rfl rfl 34 _ hI2.r (Ac _) rfl (As _) ?_);refine Bc rfl rfl rfl (hI2.r.set _) (Ac _) ?_;exact Cn rfl (hu.row hr4 hs4 _) (Ae hI2.below (by omega) _)
   | false=>
    have hf:=H0 ((hv1.trans (if_neg (by cases D<;>cases P2<;>decide))).trans (if_pos rfl))
    clear hv1
    go_upto_region 10 with (first
     | ((go_at_call 145;refine (hsp.out _).mono ?_;rintro e w' ⟨rfl,rfl⟩))
     | ((go_at_call 111;refine (hhp.out _).mono ?_;rintro e w' ⟨rfl,rfl⟩)))
    go_wp2_with (first
     | (refine wpList_load_row rfl 72 _ rfl (w.heap.size+1) rfl _ (Av p) _ _ hI.b underlying72 rfl (Cm p) ?_))
    refine (hother.out _ (hE'.out.next hI.below)).mono ?_
    rintro e w4 ⟨hres,hb4⟩;rw [<-hf.out] at hres;have hr4:=hI.r.lt;have hs4:=hI.below.size;have hI2:=hI.keep hb4;clear hv
    cases R with
    | none=>obtain ⟨pv,rfl⟩:=hres;exact ⟨rfl,BG rfl hI2.below⟩
    | some u=>
     obtain ⟨S,rfl,hu⟩:=hres;go_wp2_with (refine wpList_store_row rfl 34 _ _ rfl (w.heap.size+2) (Ab S) rfl rfl 34 _ hI2.r (Ac _) rfl (As _) ?_);refine Bc rfl rfl rfl (hI2.r.set _) (Ac _) ?_;exact Cn rfl (hu.row hr4 hs4 _) (Ae hI2.below (by omega) _)
 | false=>
  cases O with
  | true=>
   have hf:=H0 ((((hv.out.trans (if_neg (by cases A<;>cases F<;>decide))).trans (if_neg (by cases SP<;>cases D<;>cases P2<;>decide))).trans (if_neg (by cases SP<;>decide))).trans (if_pos rfl))
   go_upto_region 12 with (first
    | ((go_at_call 145;refine (hsp.out _).mono ?_;rintro e w' ⟨rfl,rfl⟩))
    | ((go_at_call 111;refine (hhp.out _).mono ?_;rintro e w' ⟨rfl,rfl⟩)))
   go_wp2_with (first
    | (refine wpList_load_row rfl 34 _ rfl w.heap.size rfl _ (Ab B) _ _ hI.a underlying34 rfl (Ac _) ?_)
    | (refine wpList_load_row rfl 72 _ rfl (w.heap.size+1) rfl _ (Av p) _ _ hI.b underlying72 rfl (Cm p) ?_))
   refine (hflat.out _ (hB'.out.next hI.below)).mono ?_
   rintro e w4 ⟨hres,hb4⟩;rw [<-hf.out] at hres;have hr4:=hI.r.lt;have hs4:=hI.below.size;have hI2:=hI.keep hb4;clear hv
   cases R with
   | none=>obtain ⟨pv,rfl⟩:=hres;exact ⟨rfl,BG rfl hI2.below⟩
   | some u=>
    obtain ⟨S,rfl,hu⟩:=hres;go_wp2_with (refine wpList_store_row rfl 34 _ _ rfl (w.heap.size+2) (Ab S) rfl rfl 34 _ hI2.r (Ac _) rfl (As _) ?_);refine Bc rfl rfl rfl (hI2.r.set _) (Ac _) ?_;exact Cn rfl (hu.row hr4 hs4 _) (Ae hI2.below (by omega) _)
  | false=>
   cases F with
   | true=>
    have hf:=H0 (hv.out.trans (if_pos (by cases A<;>decide)))
    go_upto_region 4 with (first
     | ((go_at_call 145;refine (hsp.out _).mono ?_;rintro e w' ⟨rfl,rfl⟩))
     | ((go_at_call 111;refine (hhp.out _).mono ?_;rintro e w' ⟨rfl,rfl⟩)))
    go_wp2_with (first
     | (refine wpList_load_row rfl 34 _ rfl w.heap.size rfl _ (Ab B) _ _ hI.a underlying34 rfl (Ac _) ?_)
     | (refine wpList_load_row rfl 72 _ rfl (w.heap.size+1) rfl _ (Av p) _ _ hI.b underlying72 rfl (Cm p) ?_))
    refine (hfile.out _ (hE'.out.next hI.below) (hB'.out.next hI.below)).mono ?_
    rintro e w4 ⟨hres,hb4⟩;rw [<-hf.out] at hres;have hr4:=hI.r.lt;have hs4:=hI.below.size;have hI2:=hI.keep hb4;clear hv
    cases R with
    | none=>obtain ⟨pv,rfl⟩:=hres;exact ⟨rfl,BG rfl hI2.below⟩
    | some u=>
     obtain ⟨S,rfl,hu⟩:=hres;go_wp2_with (refine wpList_store_row rfl 34 _ _ rfl (w.heap.size+2) (Ab S) rfl rfl 34 _ hI2.r (Ac _) rfl (As _) ?_);refine Bc rfl rfl rfl (hI2.r.set _) (Ac _) ?_;exact Cn rfl (hu.row hr4 hs4 _) (Ae hI2.below (by omega) _)
   | false=>
    have hf:=H0 ((((hv.out.trans (if_neg (by cases A<;>decide))).trans (if_neg (by cases SP<;>cases D<;>cases P2<;>decide))).trans (if_neg (by cases SP<;>decide))).trans (if_neg (by decide)))
    go_upto_region 13 with (first
     | ((go_at_call 145;refine (hsp.out _).mono ?_;rintro e w' ⟨rfl,rfl⟩))
     | ((go_at_call 111;refine (hhp.out _).mono ?_;rintro e w' ⟨rfl,rfl⟩)))
    go_wp2_with (first
     | (refine wpList_load_row rfl 34 _ rfl w.heap.size rfl _ (Ab B) _ _ hI.a underlying34 rfl (Ac _) ?_)
     | (refine wpList_load_row rfl 72 _ rfl (w.heap.size+1) rfl _ (Av p) _ _ hI.b underlying72 rfl (Cm p) ?_))
    refine (hrel.out _ (hE'.out.next hI.below) (hB'.out.next hI.below)).mono ?_
    rintro e w4 ⟨hres,hb4⟩;rw [<-hf.out] at hres;have hr4:=hI.r.lt;have hs4:=hI.below.size;have hI2:=hI.keep hb4;clear hv
    cases R with
    | none=>obtain ⟨pv,rfl⟩:=hres;exact ⟨rfl,BG rfl hI2.below⟩
    | some u=>
     obtain ⟨S,rfl,hu⟩:=hres;go_wp2_with (refine wpList_store_row rfl 34 _ _ rfl (w.heap.size+2) (Ab S) rfl rfl 34 _ hI2.r (Ac _) rfl (As _) ?_);refine Bc rfl rfl rfl (hI2.r.set _) (Ac _) ?_;exact Cn rfl (hu.row hr4 hs4 _) (Ae hI2.below (by omega) _)
end Go.Proofs.YtonomfeipkdmhaaGreatDoor
