/- Part 28: lemmas. -/
import Derived.Test.YtonomfeipkdmhaaGreatDoorK27
set_option linter.unusedVariables false
set_option linter.unusedSimpArgs false
set_option maxRecDepth 100000
set_option maxHeartbeats 16000000
namespace Go.Proofs.YtonomfeipkdmhaaGreatDoor
open Go.RowKit Go.Proofs.Tryz
structure WE (w wx:World) (A:Array Value) (TA:TypeId) (B:Array Value) (TB:TypeId):Prop where
 below:Below w.heap.size w wx
 a:AJ wx w.heap.size A TA
 b:AJ wx (w.heap.size+1) B TB
 r:AJ wx (w.heap.size+2) (Ab zS) 34
section
variable {w wx w':World} {A B:Array Value} {TA TB:TypeId}
theorem WE.start (w:World) (A:Array Value) (TA:TypeId) (B:Array Value) (TB:TypeId):WE w (((w.alloc (.cells A TA)).alloc (.cells B TB)).alloc (.cells (Ab zS) 34)) A TA B TB:=by
 have h:=Mn.start w A TA B TB;refine ⟨h.below.alloc (by rw [Ai,Ai];omega) _,h.a.alloc _,h.b.alloc _,?_⟩
 have:=AJ.new ((w.alloc (.cells A TA)).alloc (.cells B TB)) (Ab zS) 34
 rwa [Ai,Ai] at this
theorem WE.keep (h:WE w wx A TA B TB) (hb:Below wx.heap.size wx w'):WE w w' A TA B TB:=⟨h.below.next hb,h.a.keep hb,h.b.keep hb,h.r.keep hb⟩
theorem WE.fr (h:WE w wx A TA B TB) (S:Al):Fr w (wx.alloc (.cells (Ab S) 34)) w.heap.size A TA (w.heap.size+1) B TB (w.heap.size+2) wx.heap.size S:=
 ⟨Nat.ne_of_lt h.a.lt,Nat.ne_of_lt h.b.lt,Nat.ne_of_lt h.r.lt,h.below.size,by omega,h.below.alloc h.below.size _,h.a.alloc _,h.b.alloc _,h.r.alloc _,AJ.new _ _ _⟩
end
theorem Fr.fin {w wx:World} {a b r g K:Nat} {A B:Array Value} {TA TB:TypeId} {S:Al} {u:Aq} {R:Option Aq} (h:Fr w wx a A TA b B TB r g S) (hO:Er wx K S u/\r<K/\w.heap.size<=K) (hR:R=some u):Mc R w (.returned (.agg (Ab S))) (wx.setRow r (Ab S)):=
 Cn hR (hO.1.row hO.2.1 hO.2.2 _) (Ae h.below h.rw _)
theorem Fr.rel {w wx:World} {a b r g:Nat} {B:Al} {p:Dq} {S:Al} (h:Fr w wx a (Ab B) 34 b (Av p) 72 r g S):
  AJ wx g (Ab S) 34/\wx.cell? ⟨g,0,none⟩=some (.string S.scheme)/\wx.cell? ⟨a,18,none⟩=some (.slice B.pathA B.path.length B.pathC)/\wx.cell? ⟨b,2,none⟩=some (.string p.rest):=
 ⟨h.g,(h.g.at 0).trans rfl,(h.a.at 18).trans rfl,(h.b.at 2).trans rfl⟩
theorem Ac6 {B:Al} {s:List UInt8} {l:List ByteArray} (h:l.map (·.toList)=HY s (B.path.map (·.toList))) (hn:B.path.length<=1000000) (hz:∀ t∈B.path,t.size<=4294967296):l.length<=1000000/\∀ t∈l,t.size<=4294967296:=by
 have hsub:∀ x∈HY s (B.path.map (·.toList)),x∈B.path.map (·.toList):=by
  intro x hx;unfold HY at hx;split at hx
  ·exact hx
  ·exact List.dropLast_subset _ hx
 have hlen:(HY s (B.path.map (·.toList))).length<=B.path.length:=by
  unfold HY;split
  ·rw [List.length_map];exact Nat.le_refl _
  ·rw [List.length_dropLast,List.length_map];omega
 constructor
 ·have:=congrArg List.length h;rw [List.length_map] at this;omega
 ·intro t ht;have:=hsub t.toList (h ▸ List.mem_map_of_mem ht);obtain ⟨x,hx,e⟩:=List.mem_map.1 this;rw [<-Aa,<-e,Aa];exact hz x hx
structure GC (B:Al):Prop where
 n:B.path.length<=1000000
 z:∀ t∈B.path,t.size<=4294967296
theorem Aa3 {S B:Al} {u b:Aq} (h:Gt S u) (hB:Gt B b):Gt (BJ S B) (Dt u b):=
 ⟨h.scheme,hB.user,hB.pass,hB.host,hB.hasPort,hB.port,h.opq,h.flat,h.path,h.hasQuery,h.query,h.hasFrag,h.frag⟩
theorem Ml {S B:Al} {u b:Aq} (h:Gt S u) (hB:Gt B b) (pa:Option Addr) (c:Nat):Gt (if S.hasQuery=true then Ak S pa c B.path else IR (Ak S pa c B.path) B) (Gk u b):=by
 unfold Gk
 cases hq:u.query with
 | none=>
  have h1:¬ S.hasQuery=true:=by rw [h.hasQuery,hq];decide
  rw [if_neg h1,if_pos rfl];exact ⟨h.scheme,h.user,h.pass,h.host,h.hasPort,h.port,h.opq,h.flat,hB.path,hB.hasQuery,hB.query,h.hasFrag,h.frag⟩
 | some q=>
  have h1:S.hasQuery=true:=by rw [h.hasQuery,hq];rfl
  rw [if_pos h1,if_neg (by simp)]
  exact ⟨h.scheme,h.user,h.pass,h.host,h.hasPort,h.port,h.opq,h.flat,hB.path,by rw [<-hq];exact h.hasQuery,by rw [<-hq];exact h.query,h.hasFrag,h.frag⟩
def SK (S:Al):Al:=⟨S.scheme,S.user,S.pass,S.host,S.hasPort,S.port,S.flatP,S.flat,S.pathA,S.pathC,S.path,S.hasQuery,S.query,true,S.frag⟩
def VU (S:Al) (f:ByteArray):Al:=⟨S.scheme,S.user,S.pass,S.host,S.hasPort,S.port,S.flatP,S.flat,S.pathA,S.pathC,S.path,S.hasQuery,S.query,true,f⟩
theorem Ab4 {B:Al} {b:Aq} (h:Gt B b) (pa:Option Addr) (c:Nat) {f:ByteArray} {l:List UInt8} (hf:f.toList=l):Gt (VU (Ak B pa c B.path) f) ⟨b.scheme,b.user,b.pass,b.host,b.port,b.opq,b.flat,b.path,b.query,some l⟩:=
 ⟨h.scheme,h.user,h.pass,h.host,h.hasPort,h.port,h.opq,h.flat,h.path,h.hasQuery,h.query,rfl,hf⟩
theorem VZ (B:Al) (b:Aq) (p:Dq) (w:World) (hB:DI w B b) (bk:GC B) (ok:KZ p):Calls prog 151 #[.agg (Ab B),.agg (Av p)] w (Mc (OQ b p.l) w):=by
 obtain ⟨R,hR⟩:=N2 (OQ b p.l);rw [hR];have hv:=hR.symm;unfold OQ at hv
 try dsimp only at hv
 replace hR:=H0 hR;have hI:=WE.start w (Ab B) 34 (Av p) 72;have hPB:=H0 hB.path;have hiB:=H0 hB.is;have hcap:=hB.cap;have hn:=bk.n;have hz:=bk.z;have hrz:=ok.rz;have hqz:=ok.qz;have hfz:=ok.fz;have hkq:=H0 ok.q;have hkf:=H0 ok.f;clear ok hB bk;have hen:=H0 (fun w=>DR p.frg 1 (by decide) w (by omega))
 rw [show p.l.hf=p.hf from rfl,show p.l.hq=p.hq from rfl,show p.l.rest=p.rest.toList from rfl,show p.l.frg=p.frg.toList from rfl] at hv;obtain ⟨hf1,hfe⟩:∃ b,p.hf=b:=⟨_,rfl⟩;obtain ⟨hq1,hqe⟩:∃ b,p.hq=b:=⟨_,rfl⟩;obtain ⟨re1,hre⟩:∃ b,p.rest.toList.isEmpty=b:=⟨_,rfl⟩;rw [hfe,hqe,hre] at hv;have y5:∀ {wx:World},AJ wx (w.heap.size+1) (Av p) 72->wx.cell? ⟨w.heap.size+1,5,none⟩=some (.bool hf1):=fun h=>(h.at 5).trans (by rw [<-hfe];rfl)
 have y3:∀ {wx:World},AJ wx (w.heap.size+1) (Av p) 72->wx.cell? ⟨w.heap.size+1,3,none⟩=some (.bool hq1):=fun h=>(h.at 3).trans (by rw [<-hqe];rfl)
 replace hfe:=H0 hfe;replace hqe:=H0 hqe;go_enter func151,ntmps151;go_upto_region 1 with (fail)
 refine Ar (R:=fun wx=>WE w wx (Ab B) 34 (Av p) 72) hI ?_
 clear hI;intro w1 hI;have z5:=y5 hI.b;have z3:=y3 hI.b;have z2:=(hI.b.at 2).trans (show (Av p)[2]? =some (.string p.rest) from rfl);have x18:=(hI.a.at 18).trans (show (Ab B)[18]? =some (.slice B.pathA B.path.length B.pathC) from rfl);clear y5 y3
 by_cases hbad:(!hf1 || hq1 || !re1)=true
 ·rw [if_pos hbad] at hv;replace hv:=H0 hv
  have hcase:hf1=false\/(hf1=true/\hq1=true)\/(hf1=true/\hq1=false/\re1=false):=by
   cases hf1<;>cases hq1<;>cases re1<;>simp at hbad⊢
  replace hbad:=H0 hbad;have hbl:=H0 hI.below;clear hI;rcases hcase with rfl | ⟨rfl,rfl⟩ | ⟨rfl,rfl,rfl⟩
  all_goals
   go_wp2_with fail;exact ⟨rfl,BG hv.out hbl.out⟩
 ·rw [if_neg hbad] at hv
  have hcase:hf1=true/\hq1=false/\re1=true:=by
   cases hf1<;>cases hq1<;>cases re1<;>simp at hbad⊢
  replace hbad:=H0 hbad;have hf:=H0 hv;clear hv;obtain ⟨rfl,rfl,rfl⟩:=hcase;have hF:=hI.fr B
  go_upto_region 4 with (first
 | (refine wpList_load_row rfl 34 _ rfl w.heap.size rfl _ (Ab B) _ _ hI.a underlying34 rfl (Ac _) ?_)
 | (refine Ag rfl 34 _ _ rfl rfl (Ab (B)) _ _ _ rfl (by simp) rfl (Ac _) rfl (As _) ?_))
  clear z5 z3 z2 x18;refine Ar (R:=fun wx=>Fr w wx (w.heap.size) (Ab B) 34 (w.heap.size+1) (Av p) 72 (w.heap.size+2) w1.heap.size B) hF ?_
  clear hF hI;intro w3 hF;obtain ⟨g,hg⟩:=N2 (w1.heap.size);rw [hg] at hF⊢;clear hg;have x18:=(hF.a.at 18).trans (show (Ab B)[18]? =some (.slice B.pathA B.path.length B.pathC) from rfl);go_wp2_with fail;refine (GM B.pathA B.path.length B.pathC B.path _ (hPB.out.below hF.below (Nat.le_refl _)) (by omega)).mono ?_
  rintro e w5 ⟨v,rfl,ho,hb5⟩;have hg5:=hF.g.lt;have hr5:=hF.r.lt;have hs5:=hF.below.size;obtain ⟨pa,c,rfl,-,-⟩:=BA ho;replace hF:=hF.keep hb5;clear hb5 x18;have hF1:=hF.set (Ak B pa c B.path);have hF2:=hF1.set (SK (Ak B pa c B.path));have y6:=(hF2.b.at 6).trans (show (Av p)[6]? =some (.string p.frg) from rfl);have ho2:=AI.row (AI.row ho hg5 (Ab (Ak B pa c B.path))) hg5 (Ab (SK (Ak B pa c B.path)))
  go_wp2_with (first
 | (refine Ad rfl _ _ _ rfl g 18 rfl (.slice pa B.path.length c) rfl rfl _ (Ab (B)) (Ab (Ak B pa c B.path)) hF.g Bn (by show 18+1<=23;decide) rfl (by kernel_rfl) ?_)
 | (refine Ad rfl _ _ _ rfl g 21 rfl (.bool true) rfl rfl _ (Ab (Ak B pa c B.path)) (Ab (SK (Ak B pa c B.path))) hF1.g Jt (by show 21+1<=23;decide) rfl (by kernel_rfl) ?_))
  refine (hen.out _).mono ?_;rintro e w6 ⟨t,rfl,ht,hb6⟩;have hF3:=hF2.keep hb6;have hF4:=hF3.set (VU (Ak B pa c B.path) t);have ho3:=Bp ho2 hb6 (Nat.le_refl _);clear y6 hb6 hF hF1 hF2 ho ho2
  go_wp2_with (first
 | (refine Ad rfl _ _ _ rfl g 22 rfl (.string t) rfl rfl _ (Ab (SK (Ak B pa c B.path))) (Ab (VU (Ak B pa c B.path) t)) hF3.g Fy (by show 22+1<=23;decide) rfl (by kernel_rfl) ?_)
 | (refine wpList_load_row rfl 34 _ rfl g rfl _ (Ab (VU (Ak B pa c B.path) t)) _ _ hF4.g underlying34 rfl (Ac _) ?_)
 | (refine wpList_store_row rfl 34 _ _ rfl (w.heap.size+2) (Ab (VU (Ak B pa c B.path) t)) rfl rfl 34 _ hF4.r (Ac _) rfl (As _) ?_))
  refine Bc rfl rfl rfl (hF4.r.set _) (Ac _) ?_;exact hF4.fin ⟨⟨Ab4 hiB.out pa c ht.out,AI.row ho3 hg5 _⟩,hr5,hs5⟩ hf.out
theorem WP (B:Al) (b:Aq) (p:Dq) (w:World) (hE:GZ w) (hB:DI w B b) (bk:GC B) (ok:KZ p):Calls prog 152 #[.agg (Ab B),.agg (Av p)] w (Mc (ED b p.l) w):=by
 obtain ⟨R,hR⟩:=N2 (ED b p.l);rw [hR];have hv:=hR.symm;unfold ED at hv
 try dsimp only at hv
 replace hR:=H0 hR;have hI:=WE.start w (Ab B) 34 (Av p) 72;have hPB:=H0 hB.path;have hiB:=H0 hB.is;have hcap:=hB.cap;have hn:=bk.n;have hz:=bk.z;have hrz:=ok.rz;have hqz:=ok.qz;have hfz:=ok.fz;have hkq:=H0 ok.q;have hkf:=H0 ok.f;have hE':=H0 hE;clear ok hE hB bk;have hst:=H0 (fun w=>Kf B.scheme p w (by omega) (by omega))
 have hsl:=H0 (fun w=>G2 B.scheme p.rest w (by omega))
 have hsp:=H0 (fun w=>DN B.scheme w)
 have hun:=H0 (fun w=>KG B.scheme p.rest w (by omega))
 have hsh:=H0 (fun w hp=>Nf B.scheme B.pathA B.path.length B.pathC B.path w hp hn hcap hz)
 have hle:=FE (Aj b.scheme) p.rest.toList;rw [Aa] at hle;rw [<-hiB.out.scheme,show p.l.rest=p.rest.toList from rfl] at hv;rw [<-hiB.out.scheme] at hle;obtain ⟨SP,hSP⟩:∃ b,Aj B.scheme.toList=b:=⟨_,rfl⟩;rw [hSP] at hsl hsp hv hun hle;obtain ⟨n,hnn⟩:=N2 (A3 SP p.rest.toList);rw [hnn] at hsl hv hle;replace hnn:=H0 hnn;replace hv:=H0 hv;go_enter func152,ntmps152;go_upto_region 1 with (fail)
 refine Ar (R:=fun wx=>WE w wx (Ab B) 34 (Av p) 72) hI ?_
 clear hI;intro w1 hI;have y0:=(hI.a.at 0).trans (show (Ab B)[0]? =some (.string B.scheme) from rfl);go_wp2_with (refine wpList_load_row rfl 72 _ rfl (w.heap.size+1) rfl _ (Av p) _ _ hI.b underlying72 rfl (Cm p) ?_);refine (hst.out _).mono ?_;rintro e w2 ⟨q,f,rfl,hqv,hfv,hb⟩;have his:=Hs hqv.out hfv.out hkq.out hkf.out;obtain ⟨S,hS⟩:=N2 (Dw B.scheme p q f);have h0:S.pathA=none:=by rw [<-hS];rfl
 have h1:S.pathC=0:=by rw [<-hS];rfl
 have h2:S.path=[]:=by rw [<-hS];rfl
 have h3:S.scheme=B.scheme:=by rw [<-hS];rfl
 rw [hS] at his⊢;replace his:=H0 his;replace hS:=H0 hS;replace h0:=H0 h0;replace h1:=H0 h1;replace h2:=H0 h2;have hI2:=hI.keep hb;have hF:=hI2.fr S;clear hI hI2 hb y0 hst;go_upto_region 2 with (refine Ag rfl 34 _ _ rfl rfl (Ab (S)) _ _ _ rfl (by simp) rfl (Ac _) rfl (As _) ?_)
 refine Ar (R:=fun wx=>Fr w wx (w.heap.size) (Ab B) 34 (w.heap.size+1) (Av p) 72 (w.heap.size+2) w2.heap.size S) hF ?_
 clear hF;intro w3 hI;obtain ⟨g,hg⟩:=N2 (w2.heap.size);rw [hg] at hI⊢;clear hg;have x0:=(hI.g.at 0).trans (show (Ab S)[0]? =some (.string B.scheme) by rw [<-h3];rfl)
 have y2:=(hI.b.at 2).trans (show (Av p)[2]? =some (.string p.rest) from rfl);rw [<-h3] at hsh;replace h3:=H0 h3
 by_cases hn2:2<=n
 ·have hn2I:(2:Int)<=(n:Int):=by omega
  have hv1:=hv.out;rw [if_pos hn2] at hv1
  cases SP with
  | true=>
   rw [if_pos rfl] at hv1;replace hv1:=H0 hv1
   go_wp2_with (first
    | (go_at_call 207;refine (hsl.out _).mono ?_;rintro e w' ⟨rfl,rfl⟩)
    | (go_at_call 145;refine (hsp.out _).mono ?_;rintro e w' ⟨rfl,rfl⟩)
    | (go_at_call 149;refine (hun.out _).mono ?_;rintro e w' ⟨⟨r,rfl,hr1,hr2⟩,rfl⟩))
   refine (LN g S (Ax B.scheme.toList p.l) r _ (hI.env hE'.out) hI.g his.out h0.out h1.out h2.out (by omega)).mono ?_
   rintro e w4 ⟨hres,hc⟩;replace hv1:=hv1.out;rw [<-hr1.out] at hv1;clear y2 x0 hv;obtain ⟨O,hO⟩:=N2 (Ig (Ax B.scheme.toList p.l) r.toList);rw [hO] at hv1 hres;replace hO:=H0 hO
   cases O with
   | none=>
    obtain ⟨pv,rfl⟩:=hres;exact ⟨rfl,BG hv1 (hI.out hc)⟩
   | some u=>
    obtain ⟨rfl,S',hcel,hu⟩:=hres;have hs5:=hI.below.size;have hr5:=hI.r.lt;replace hI:=hI.chg hc hcel;have hf:=H0 hv1;clear hc hcel hv1
    go_wp2_with (first
     | (refine wpList_load_row rfl 34 _ rfl g rfl _ (Ab (S')) _ _ hI.g underlying34 rfl (Ac _) ?_)
     | (refine wpList_store_row rfl 34 _ _ rfl (w.heap.size+2) (Ab (S')) rfl rfl 34 _ hI.r (Ac _) rfl (As _) ?_))
    refine Bc rfl rfl rfl (hI.r.set _) (Ac _) ?_;exact hI.fin ⟨hu,hr5,hs5⟩ hf.out
  | false=>
   rw [if_neg (by decide)] at hv1
   have h2r:(2:Int)<=(p.rest.size:Int):=by omega
   have hr1:Hid ((p.rest.extract 2 p.rest.size).toList=p.rest.toList.drop 2):=H0 (by rw [toList_extract,List.take_of_length_le (by rw [Aa];omega)])
   have hr2:(p.rest.extract 2 p.rest.size).size<=p.rest.size:=by rw [ByteArray.size_extract];omega
   obtain ⟨r,hre⟩:=N2 (p.rest.extract 2 p.rest.size);rw [hre] at hr1 hr2;replace hv1:=H0 hv1
   go_wp2_with (first
    | (go_at_call 207;refine (hsl.out _).mono ?_;rintro e w' ⟨rfl,rfl⟩)
    | (go_at_call 145;refine (hsp.out _).mono ?_;rintro e w' ⟨rfl,rfl⟩))
   refine (LN g S (Ax B.scheme.toList p.l) r _ (hI.env hE'.out) hI.g his.out h0.out h1.out h2.out (by omega)).mono ?_
   rintro e w4 ⟨hres,hc⟩;replace hv1:=hv1.out;rw [<-hr1.out] at hv1;clear y2 x0 hv;obtain ⟨O,hO⟩:=N2 (Ig (Ax B.scheme.toList p.l) r.toList);rw [hO] at hv1 hres;replace hO:=H0 hO
   cases O with
   | none=>
    obtain ⟨pv,rfl⟩:=hres;exact ⟨rfl,BG hv1 (hI.out hc)⟩
   | some u=>
    obtain ⟨rfl,S',hcel,hu⟩:=hres;have hs5:=hI.below.size;have hr5:=hI.r.lt;replace hI:=hI.chg hc hcel;have hf:=H0 hv1;clear hc hcel hv1
    go_wp2_with (first
     | (refine wpList_load_row rfl 34 _ rfl g rfl _ (Ab (S')) _ _ hI.g underlying34 rfl (Ac _) ?_)
     | (refine wpList_store_row rfl 34 _ _ rfl (w.heap.size+2) (Ab (S')) rfl rfl 34 _ hI.r (Ac _) rfl (As _) ?_))
    refine Bc rfl rfl rfl (hI.r.set _) (Ac _) ?_;exact hI.fin ⟨hu,hr5,hs5⟩ hf.out
 ·have hv1:=hv.out;rw [if_neg hn2] at hv1;have hn2I:(n:Int)<2:=by omega
  by_cases hn1:n=1
  ·subst hn1;rw [if_pos rfl] at hv1;have h1r:(1:Int)<=(p.rest.size:Int):=by omega
   have hr1:Hid ((p.rest.extract 1 p.rest.size).toList=p.rest.toList.drop 1):=H0 (by rw [toList_extract,List.take_of_length_le (by rw [Aa];omega)])
   have hr2:(p.rest.extract 1 p.rest.size).size<=1100000:=by rw [ByteArray.size_extract];omega
   rw [<-hr1.out] at hv1;have hf:=H0 hv1;clear hv1 hv
   go_upto_region 10 with (first
    | (go_at_call 207;refine (hsl.out _).mono ?_;rintro e w' ⟨rfl,rfl⟩)
    | (go_at_call 145;refine (hsp.out _).mono ?_;rintro e w' ⟨rfl,rfl⟩))
   go_wp2_with (refine wpList_load_row rfl 34 _ rfl w.heap.size rfl _ (Ab B) _ _ hI.a underlying34 rfl (Ac _) ?_);refine (IG g S B _ hI.g).mono ?_;rintro e w4 ⟨rfl,hcel,hch⟩;replace hI:=hI.chg hch hcel;clear hcel hch;clear x0 y2;go_upto_region 11 with (fail)
   refine Ar (R:=fun wx=>Fr w wx (w.heap.size) (Ab B) 34 (w.heap.size+1) (Av p) 72 (w.heap.size+2) g (BJ S B)) hI ?_
   clear hI;intro w5 hI;replace hI:=hI.drew;refine wp_region_noPanic ?_;refine wp_region_held_drew (S:=fun w'=>w'.cell? ⟨g,0,none⟩=some (.string (BJ S B).scheme)/\w'.cell? ⟨w.heap.size,18,none⟩=some (.slice B.pathA B.path.length B.pathC)/\w'.cell? ⟨w.heap.size+1,2,none⟩=some (.string p.rest)) (by kernel_rfl) (hI.rel.2) (fun hHeld=> ?_)
   refine T0 0 55 ?_ hHeld ?_ ?_;rotate_left
   ·intro w hSw;(try dsimp only at hSw);go_simp;try with_reducible rfl
   try simp only [P3]
   refine T0 1 56 ?_ hHeld ?_ ?_;rotate_left
   ·intro w hSw;(try dsimp only at hSw);go_simp;try with_reducible rfl
   try simp only [P3]
   refine T0 2 57 ?_ hHeld ?_ ?_;rotate_left
   ·intro w hSw;(try dsimp only at hSw);go_simp;try with_reducible rfl
   try simp only [P3]
   refine T0 3 58 ?_ hHeld ?_ ?_;rotate_left
   ·intro w hSw;(try dsimp only at hSw);go_simp;try with_reducible rfl
   try simp only [P3]
   refine T0 4 59 ?_ hHeld ?_ ?_;rotate_left
   ·intro w hSw;(try dsimp only at hSw);go_simp;try with_reducible rfl
   try simp only [P3]
   refine wpAnyH_ready (rs:=[5]) (by kernel_rfl) (by simp) ?_
   refine AllReadyH.cons rfl (fun K hK=> ?_) AllReadyH.nil
   go_simp;refine (Bm (BJ S B).scheme none 0 0 [] (p.rest.extract 1 p.rest.size) _ (C2 _) (by decide) hr2 (fun t h=>by cases h)).mono ?_
   rintro e w6 ⟨v,l5,rfl,hl5,ho,hb⟩;have hg5:=hI.g.lt;have hs5:=hI.below.size;have hr5:=hI.r.lt;obtain ⟨pa,c,rfl,-,-⟩:=BA ho;replace hI:=hI.keep hb;replace ho:=H0 ho;clear hb hHeld;go_wp2_with fail;refine hK.out _ _ (hI.rel.2) (fun hHeld=> ?_)
   clear hK K
   try simp only [P3]
   refine T0 6 61 ?_ hHeld ?_ ?_;rotate_left
   ·intro w hSw;(try dsimp only at hSw);go_simp;try with_reducible rfl
   try simp only [P3]
   refine wpAnyH_ready (rs:=[7]) (by kernel_rfl) (by simp) ?_
   refine AllReadyH.cons rfl (fun K hK=> ?_) AllReadyH.nil
   refine AO (by kernel_rfl) (fun Q' hQ'=> ?_)
   refine Ad rfl _ _ _ rfl g 18 rfl (.slice pa l5.length c) rfl rfl _ (Ab (BJ S B)) (Ab (Ak (BJ S B) pa c l5)) hI.g Bn (by show 18+1<=23;decide) rfl (by kernel_rfl) ?_
   replace hI:=hI.set (Ak (BJ S B) pa c l5);refine hQ' _ _ ?_;refine hK.out _ _ (hI.rel.2) (fun hHeld=> ?_)
   clear hK K hQ' Q'
   try simp only [P3]
   refine wpAnyH_done (by kernel_rfl) ?_ _
   refine NoPanic.normal ?_;go_upto_region 15 with (fail)
   refine Ar (R:=fun wx=>Fr w wx (w.heap.size) (Ab B) 34 (w.heap.size+1) (Av p) 72 (w.heap.size+2) g (Ak (BJ S B) pa c l5)/\AI wx w5.drew.heap.size 9 (.slice pa l5.length c) l5) ⟨hI,AI.row ho.out hg5 _⟩ ?_
   clear hI ho hHeld;rintro w7 ⟨hI,ho⟩;have hl2:=hl5.out;rw [show (BJ S B).scheme=S.scheme from rfl,h3.out] at hl2
   go_wp2_with (first
    | (refine wpList_load_row rfl 34 _ rfl g rfl _ (Ab (Ak (BJ S B) pa c l5)) _ _ hI.g underlying34 rfl (Ac _) ?_)
    | (refine wpList_store_row rfl 34 _ _ rfl (w.heap.size+2) (Ab (Ak (BJ S B) pa c l5)) rfl rfl 34 _ hI.r (Ac _) rfl (As _) ?_))
   refine Bc rfl rfl rfl (hI.r.set _) (Ac _) ?_;exact hI.fin ⟨⟨Co (Aa3 his.out hiB.out) hl2,ho⟩,hr5,hs5⟩ hf.out
  ·obtain rfl:n=0:=by omega
   rw [if_neg (by decide)] at hv1
   obtain ⟨re,hre⟩:∃ b,p.rest.toList.isEmpty=b:=⟨_,rfl⟩;rw [hre] at hv1
   cases re with
   | true=>
    have hf:=H0 (hv1.trans (if_pos rfl));clear hv1 hv
    go_upto_region 13 with (first
     | (go_at_call 207;refine (hsl.out _).mono ?_;rintro e w' ⟨rfl,rfl⟩)
     | (go_at_call 145;refine (hsp.out _).mono ?_;rintro e w' ⟨rfl,rfl⟩))
    go_wp2_with (refine wpList_load_row rfl 34 _ rfl w.heap.size rfl _ (Ab B) _ _ hI.a underlying34 rfl (Ac _) ?_);refine (IG g S B _ hI.g).mono ?_;rintro e w4 ⟨rfl,hcel,hch⟩;replace hI:=hI.chg hch hcel;clear hcel hch;clear x0 y2;have hg5:=hI.g.lt;have hs5:=hI.below.size;have hr5:=hI.r.lt;go_wp2_with (refine wpList_load_row rfl 34 _ rfl w.heap.size rfl _ (Ab B) _ _ hI.a underlying34 rfl (Ac _) ?_);refine (LG g (BJ S B) B _ hI.g (hPB.out.below hI.below (Nat.le_refl _)) (by omega)).mono ?_
    rintro e w6 ⟨pa,c,rfl,hcel,ho,hch⟩;have hip:=Ml (Aa3 his.out hiB.out) hiB.out pa c
    have hpath:(if (BJ S B).hasQuery=true then Ak (BJ S B) pa c B.path else IR (Ak (BJ S B) pa c B.path) B).path=B.path/\(if (BJ S B).hasQuery=true then Ak (BJ S B) pa c B.path else IR (Ak (BJ S B) pa c B.path) B).pathA=pa/\(if (BJ S B).hasQuery=true then Ak (BJ S B) pa c B.path else IR (Ak (BJ S B) pa c B.path) B).pathC=c:=by
     split<;>exact ⟨rfl,rfl,rfl⟩
    obtain ⟨T,hT⟩:∃ T,(if (BJ S B).hasQuery=true then Ak (BJ S B) pa c B.path else IR (Ak (BJ S B) pa c B.path) B)=T:=⟨_,rfl⟩
    rw [hT] at hcel hip hpath;replace hT:=H0 hT;replace hI:=hI.chg hch hcel;replace hip:=H0 hip;clear hcel hch;obtain ⟨e1,e2,e3⟩:=hpath;rw [<-e1,<-e2,<-e3] at ho;replace e1:=H0 e1;replace e2:=H0 e2;replace e3:=H0 e3;replace ho:=H0 ho
    go_wp2_with (first
     | (refine wpList_load_row rfl 34 _ rfl g rfl _ (Ab (T)) _ _ hI.g underlying34 rfl (Ac _) ?_)
     | (refine wpList_store_row rfl 34 _ _ rfl (w.heap.size+2) (Ab (T)) rfl rfl 34 _ hI.r (Ac _) rfl (As _) ?_))
    refine Bc rfl rfl rfl (hI.r.set _) (Ac _) ?_;exact hI.fin ⟨⟨hip.out,ho.out⟩,hr5,hs5⟩ hf.out
   | false=>
    have hf:=H0 (hv1.trans (if_neg (by decide)))
    clear hv1 hv
    go_upto_region 3 with (first
     | (go_at_call 207;refine (hsl.out _).mono ?_;rintro e w' ⟨rfl,rfl⟩)
     | (go_at_call 145;refine (hsp.out _).mono ?_;rintro e w' ⟨rfl,rfl⟩))
    go_wp2_with (refine wpList_load_row rfl 34 _ rfl w.heap.size rfl _ (Ab B) _ _ hI.a underlying34 rfl (Ac _) ?_);refine (IG g S B _ hI.g).mono ?_;rintro e w4 ⟨rfl,hcel,hch⟩;replace hI:=hI.chg hch hcel;clear hcel hch;clear x0 y2;go_upto_region 4 with (fail)
    refine Ar (R:=fun wx=>Fr w wx (w.heap.size) (Ab B) 34 (w.heap.size+1) (Av p) 72 (w.heap.size+2) g (BJ S B)) hI ?_
    clear hI;intro w5 hI;have hP1:=hPB.out.below hI.below (Nat.le_refl _);replace hP1:=H0 (hP1.below (Below.refl _ _).drew (Nat.le_refl _));replace hI:=hI.drew;refine wp_region_noPanic ?_;refine wp_region_held_drew (S:=fun w'=>w'.cell? ⟨g,0,none⟩=some (.string (BJ S B).scheme)/\w'.cell? ⟨w.heap.size,18,none⟩=some (.slice B.pathA B.path.length B.pathC)/\w'.cell? ⟨w.heap.size+1,2,none⟩=some (.string p.rest)) (by kernel_rfl) (hI.rel.2) (fun hHeld=> ?_)
    refine T0 0 18 ?_ hHeld ?_ ?_;rotate_left
    ·intro w hSw;(try dsimp only at hSw);go_simp;try with_reducible rfl
    try simp only [P3]
    refine T0 1 19 ?_ hHeld ?_ ?_;rotate_left
    ·intro w hSw;(try dsimp only at hSw);go_simp;try with_reducible rfl
    try simp only [P3]
    refine T0 2 20 ?_ hHeld ?_ ?_;rotate_left
    ·intro w hSw;(try dsimp only at hSw);go_simp;try with_reducible rfl
    try simp only [P3]
    refine T0 3 21 ?_ hHeld ?_ ?_;rotate_left
    ·intro w hSw;(try dsimp only at hSw);go_simp;try with_reducible rfl
    try simp only [P3]
    refine T0 4 22 ?_ hHeld ?_ ?_;rotate_left
    ·intro w hSw;(try dsimp only at hSw);go_simp;try with_reducible rfl
    try simp only [P3]
    refine T0 5 23 ?_ hHeld ?_ ?_;rotate_left
    ·intro w hSw;(try dsimp only at hSw);go_simp;try with_reducible rfl
    try simp only [P3]
    refine T0 7 25 ?_ hHeld ?_ ?_;rotate_left
    ·intro w hSw;(try dsimp only at hSw);go_simp;try with_reducible rfl
    try simp only [P3]
    refine T0 8 26 ?_ hHeld ?_ ?_;rotate_left
    ·intro w hSw;(try dsimp only at hSw);go_simp;try with_reducible rfl
    try simp only [P3]
    refine wpAnyH_ready (rs:=[6]) (by kernel_rfl) (by simp) ?_
    refine AllReadyH.cons rfl (fun K hK=> ?_) AllReadyH.nil
    go_simp;refine (hsh.out _ hP1.out).mono ?_;rintro e w4 ⟨v,l,rfl,hl,ho,hb⟩;have hll:=Ac6 hl.out hn hz;obtain ⟨hn4,hz4⟩:=hll;obtain ⟨pa4,c4,rfl,hP4⟩:=DJ.own ho;replace hI:=hI.keep hb;replace hP4:=H0 hP4;clear hb hHeld ho hP1;go_wp2_with fail;refine hK.out _ _ (hI.rel.2) (fun hHeld=> ?_)
    clear hK K
    try simp only [P3]
    refine wpAnyH_ready (rs:=[9]) (by kernel_rfl) (by simp) ?_
    refine AllReadyH.cons rfl (fun K hK=> ?_) AllReadyH.nil
    go_simp;refine (Bm (BJ S B).scheme pa4 l.length c4 l p.rest _ hP4.out hn4 hrz hz4).mono ?_;rintro e w5 ⟨v,l5,rfl,hl5,ho,hb⟩;have hg5:=hI.g.lt;have hs5:=hI.below.size;have hr5:=hI.r.lt;obtain ⟨pa,c,rfl,-,-⟩:=BA ho;replace hI:=hI.keep hb;replace ho:=H0 ho;clear hb hHeld;go_wp2_with fail;refine hK.out _ _ (hI.rel.2) (fun hHeld=> ?_)
    clear hK K
    try simp only [P3]
    refine T0 10 28 ?_ hHeld ?_ ?_;rotate_left
    ·intro w hSw;(try dsimp only at hSw);go_simp;try with_reducible rfl
    try simp only [P3]
    refine wpAnyH_ready (rs:=[11]) (by kernel_rfl) (by simp) ?_
    refine AllReadyH.cons rfl (fun K hK=> ?_) AllReadyH.nil
    refine AO (by kernel_rfl) (fun Q' hQ'=> ?_)
    refine Ad rfl _ _ _ rfl g 18 rfl (.slice pa l5.length c) rfl rfl _ (Ab (BJ S B)) (Ab (Ak (BJ S B) pa c l5)) hI.g Bn (by show 18+1<=23;decide) rfl (by kernel_rfl) ?_
    replace hI:=hI.set (Ak (BJ S B) pa c l5);refine hQ' _ _ ?_;refine hK.out _ _ (hI.rel.2) (fun hHeld=> ?_)
    clear hK K hQ' Q'
    try simp only [P3]
    refine wpAnyH_done (by kernel_rfl) ?_ _
    refine NoPanic.normal ?_;go_upto_region 15 with (fail)
    refine Ar (R:=fun wx=>Fr w wx (w.heap.size) (Ab B) 34 (w.heap.size+1) (Av p) 72 (w.heap.size+2) g (Ak (BJ S B) pa c l5)/\AI wx w4.heap.size 9 (.slice pa l5.length c) l5) ⟨hI,AI.row ho.out hg5 _⟩ ?_
    clear hI ho hHeld;rintro w6 ⟨hI,ho⟩;have hl2:=hl5.out;rw [hl.out,hiB.out.path,show (BJ S B).scheme=S.scheme from rfl,h3.out] at hl2
    go_wp2_with (first
     | (refine wpList_load_row rfl 34 _ rfl g rfl _ (Ab (Ak (BJ S B) pa c l5)) _ _ hI.g underlying34 rfl (Ac _) ?_)
     | (refine wpList_store_row rfl 34 _ _ rfl (w.heap.size+2) (Ab (Ak (BJ S B) pa c l5)) rfl rfl 34 _ hI.r (Ac _) rfl (As _) ?_))
    refine Bc rfl rfl rfl (hI.r.set _) (Ac _) ?_;exact hI.fin ⟨⟨Co (Aa3 his.out hiB.out) hl2,ho⟩,hr5,hs5⟩ hf.out
end Go.Proofs.YtonomfeipkdmhaaGreatDoor
