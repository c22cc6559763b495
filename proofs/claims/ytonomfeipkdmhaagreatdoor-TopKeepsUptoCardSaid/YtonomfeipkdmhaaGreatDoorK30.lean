/- Part 30: lemmas. -/
import Derived.Test.YtonomfeipkdmhaaGreatDoorK29
import Derived.ChangeOld
import Derived.ShutString
set_option linter.unusedVariables false
set_option linter.unusedSimpArgs false
set_option maxRecDepth 100000
set_option maxHeartbeats 16000000
namespace Go.Proofs.YtonomfeipkdmhaaGreatDoor
open Go.RowKit Go.Proofs.Tryz
theorem TY (p q:Addr) (w:World):
  CallsD prog 85 #[.pointer (some p),.pointer (some q)] .returning w fun e u' w'=>e= .returned (.tuple #[])/\u'= .returning/\w'=w:=by
 refine callsD_of_wpS func85 rfl fun c₀ cs hu=> ?_
 apply wpS_seq;apply wpS_region;simp [wpOpsS,go_sem,recoverD,hu,ntmps85,Exit.thenS];refine wpS_cond (t:=false) (by simp [Act.eval,Array.replicate]) ?_
 simp only [Bool.false_eq_true,if_false];refine wpS_of_wp (wp_skip ?_);cases c₀
 simp_all [bodyPostS,results,Tryz.results85]
theorem MK (g g2 B:Nat) (pv:Value) (older:List PanicEntry) (w:World) (c:Array Value) (b:Value) (hg:AJ w g c 34) (hc:c.size=23) (hg2:w.heap[g2]? =some (.cells #[b] 4)) (hne:g≠g2) (hB1:B<=g) (hB2:B<=g2):
  CallsD prog 85 #[.pointer (some ⟨g,0,none⟩),.pointer (some ⟨g2,0,none⟩)] (.panicking ({ v:= .iface 190 pv,recovered:=false } :: older)) w fun e u' w'=>
   e= .returned (.tuple #[])/\u'= .panicking ({ v:= .iface 190 pv,recovered:=true } :: older)/\
    AJ w' g (Ab zS) 34/\w'.heap[g2]? =some (.cells #[.bool false] 4)/\Below B w w':=by
 have k2:(w.setRow g (Ab zS)).heap[g2]? =some (.cells #[b] 4):=(D8 w g g2 (Ab zS) (Ne.symm hne)).trans hg2;have k1:AJ (w.setRow g (Ab zS)) g (Ab zS) 34:=hg.set _;have y0:(w.setRow g (Ab zS)).cell? ⟨g2,0,none⟩=some b:=by simp [World.cell?,k2]
 have f2:(w.setRow g (Ab zS)).frozen? ⟨g2,0,none⟩=false:=by simp [World.frozen?,k2]
 have hbel:Below B w (w.setRow g (Ab zS)):=Ae (Below.refl _ _) hB1 _;refine callsD_of_wpS func85 rfl fun c₀ cs hu=> ?_
 apply wpS_seq;apply wpS_region;simp [wpOpsS,go_sem,recoverD,hu,ntmps85,Exit.thenS];refine wpS_cond (t:=true) (by simp [Act.eval,Array.replicate]) ?_
 simp only [if_true];refine wpS_of_wp ?_;replace hg:=H0 hg;replace hg2:=H0 hg2;replace k1:=H0 k1;replace k2:=H0 k2;replace hu:=H0 hu;simp only [Array.replicate,List.setIfInBounds_toArray]
 go_wp2_with (first
  | (refine wpList_buildTo rfl _ _ rfl _ rfl (Ab zS) Jb ?_)
  | (refine wpList_store_row rfl 34 _ _ rfl g (Ab zS) rfl rfl 34 c hg.out (Ac _) hc (As _) ?_))
 refine M8 _ (.tuple #[]) rfl rfl (by simp [results,Tryz.results85]) ⟨rfl,rfl,?_,?_,?_⟩
 ·exact (HF hne 0 _).trans k1.out
 ·exact SZ (cs:= #[b]) k2.out 0 (.bool false)
 ·exact hbel.setCell (p:=⟨g2,0,none⟩) hB2 _
theorem Mf {tmps:Array Value} {w:World} {g g2:Nat} {S:Al} {b:Bool} (h2:tmps.getD 4 undef= .pointer (some ⟨g,0,none⟩)) (h3:tmps.getD 5 undef= .pointer (some ⟨g2,0,none⟩))
  (hg:AJ w g (Ab S) 34) (hg2:w.heap[g2]? =some (.cells #[.bool b] 4)):(results Tryz.f36 tmps).run prog w= .ok (.tuple #[.agg (Ab S),.bool b]) w:=by
 have y0:w.cell? ⟨g2,0,none⟩=some (.bool b):=by simp [World.cell?,hg2]
 have hb:(loadVar 4 ⟨g2,0,none⟩).run prog w= .ok (.bool b) w:=by simp [go_sem,y0]
 have ha:=run_loadVar_row (P:=prog) w g 34 34 (Ab S) _ _ hg underlying34 rfl (Ac _);rw [KO rfl,h2,h3];simp only [asAddr,Sem.run_pure,Result.andThen,ha,hb]
def RT (g g2:Nat):List Deferred:=[{ target:= .fn (.func 85) #[.pointer (some ⟨g,0,none⟩),.pointer (some ⟨g2,0,none⟩)],args:= #[] }]
theorem Zf {R:Ending->World->Prop} {tmps:Array Value} {w:World} {g g2:Nat} {S:Al} {b:Bool} (h2:tmps.getD 4 undef= .pointer (some ⟨g,0,none⟩)) (h3:tmps.getD 5 undef= .pointer (some ⟨g2,0,none⟩))
  (hg:AJ w g (Ab S) 34) (hg2:w.heap[g2]? =some (.cells #[.bool b] 4)) (hR:R (.returned (.tuple #[.agg (Ab S),.bool b])) w):
  Leaves prog Tryz.f36 tmps R (RT g g2) .returning w:=by
 refine leaves_cons (f:=85) (args:= #[.pointer (some ⟨g,0,none⟩),.pointer (some ⟨g2,0,none⟩)]) (by simp) (by simp [go_sem]) ?_
 refine (TY ⟨g,0,none⟩ ⟨g2,0,none⟩ w).mono ?_;rintro e u' w' ⟨rfl,rfl,rfl⟩;exact ⟨_,Mf h2 h3 hg hg2,hR⟩
theorem Xe {R:Ending->World->Prop} {tmps:Array Value} {w:World} {g g2 B:Nat} {S:Al} {b pv:Value} (h2:tmps.getD 4 undef= .pointer (some ⟨g,0,none⟩)) (h3:tmps.getD 5 undef= .pointer (some ⟨g2,0,none⟩))
  (hg:AJ w g (Ab S) 34) (hg2:w.heap[g2]? =some (.cells #[b] 4)) (hne:g≠g2) (hB1:B<=g) (hB2:B<=g2) (hR:∀ w',Below B w w'->R (.returned (.tuple #[.agg (Ab zS),.bool false])) w'):
  Leaves prog Tryz.f36 tmps R (RT g g2) (.panicking [{ v:= .iface 190 pv,recovered:=false }]) w:=by
 refine leaves_cons (f:=85) (args:= #[.pointer (some ⟨g,0,none⟩),.pointer (some ⟨g2,0,none⟩)]) (by simp) (by simp [go_sem]) ?_
 refine (MK g g2 B pv [] w (Ab S) b hg (R2 _) hg2 hne hB1 hB2).mono ?_;rintro e u' w' ⟨rfl,rfl,k1,k2,hb⟩;exact ⟨_,Mf h2 h3 k1 k2,hR _ hb⟩
def VM (o:Option Aq) (w:World) (e:Ending) (w':World):Prop:=∃ S:Al,e= .returned (.tuple #[.agg (Ab S),.bool o.isSome])/\Er w' w.heap.size S (o.getD Ea)/\Below w.heap.size w w'
theorem PE {o:Option Aq} {w w':World} (h:o=none) (hb:Below w.heap.size w w'):VM o w (.returned (.tuple #[.agg (Ab zS),.bool false])) w':=by
 subst h;exact ⟨zS,rfl,Pg Ps rfl rfl rfl,hb⟩
theorem XT {o:Option Aq} {u:Aq} {S:Al} {w w':World} (h:o=some u) (hu:Er w' w.heap.size S u) (hb:Below w.heap.size w w'):VM o w (.returned (.tuple #[.agg (Ab S),.bool true])) w':=by subst h;exact ⟨S,rfl,hu,hb⟩
structure RdW (w wx:World) (B:Al) (p:Dq) (S:Al):Prop where
 below:Below w.heap.size w wx
 size:w.heap.size+4<=wx.heap.size
 a:AJ wx w.heap.size (Ab B) 34
 b:AJ wx (w.heap.size+1) (Av p) 72
 r:AJ wx (w.heap.size+2) (Ab S) 34
 o:wx.heap[w.heap.size+3]? =some (.cells #[.bool false] 4)
theorem RdW.start (w:World) (B:Al) (p:Dq):RdW w ((((w.alloc (.cells (Ab B) 34)).alloc (.cells (Av p) 72)).alloc (.cells (Ab zS) 34)).alloc (.cells #[.bool false] 4)) B p zS:=by
 have h:=WE.start w (Ab B) 34 (Av p) 72;refine ⟨h.below.alloc (by rw [Ai,Ai,Ai];omega) _,by rw [Ai,Ai,Ai,Ai];omega,h.a.alloc _,h.b.alloc _,h.r.alloc _,?_⟩
 have:=heap_alloc_new (((w.alloc (.cells (Ab B) 34)).alloc (.cells (Av p) 72)).alloc (.cells (Ab zS) 34)) (.cells #[.bool false] 4)
 rwa [Ai,Ai,Ai] at this
theorem RdW.next {w wx wy:World} {B:Al} {p:Dq} {S:Al} (h:RdW w wx B p S) (hb:Below wx.heap.size wx wy):RdW w wy B p S:=
 ⟨h.below.next hb,by have:=hb.size;have:=h.size;omega,h.a.keep hb,h.b.keep hb,h.r.keep hb,(hb.block _ (by have:=h.size;omega)).trans h.o⟩
theorem RdW.setRow {w wx:World} {B:Al} {p:Dq} {S:Al} (h:RdW w wx B p S) (T:Al):RdW w (wx.setRow (w.heap.size+2) (Ab T)) B p T:=
 ⟨Ae h.below (by omega) _,by have:=h.size;rw [CG];exact this,h.a.other (by omega) _,h.b.other (by omega) _,h.r.set _,(D8 _ _ _ _ (by omega)).trans h.o⟩
theorem RdW.cello {w wx:World} {B:Al} {p:Dq} {S:Al} (h:RdW w wx B p S):wx.cell? ⟨w.heap.size+3,0,none⟩=some (.bool false)/\wx.frozen? ⟨w.heap.size+3,0,none⟩=false:=by
 constructor
 ·simp [World.cell?,h.o]
 ·simp [World.frozen?,h.o]
theorem Er.cellSet {w:World} {B K:Nat} {S:Al} {u:Aq} (h:Er w B S u) {g:Nat} (hg:g<B) (hK:K<=B) (i:Nat) (v:Value):Er (w.setCell ⟨g,i,none⟩ v) K S u:=by
 refine ⟨h.is,Dv (B:=K) (C:=B) ⟨h.own.1,?_⟩ hK⟩;rcases h.own.2 with hn | ⟨g2,cap,cur,e,hg2,hh,rest⟩
 ·exact .inl hn
 ·exact .inr ⟨g2,cap,cur,e,hg2,by rw [HF (by omega)];exact hh,rest⟩
theorem NE (B:Al) (b:Aq) (p:Dq) (w:World) (hE:GZ w) (hB:DI w B b) (bk:GC B) (ok:KZ p):Calls prog 36 #[.agg (Ab B),.agg (Av p)] w (VM (IP b p.l) w):=by
 have hmf:∀ (fn:Fn) (first cap:Array Value) (w:World),(Instr.makeFunc fn first cap).run prog w= .ok (.func fn first cap) w:=fun _ _ _ _=>rfl
 have hW:=RdW.start w B p;obtain ⟨w0,hw0⟩:∃ w0,(((w.alloc (.cells (Ab B) 34)).alloc (.cells (Av p) 72)).alloc (.cells (Ab zS) 34)).alloc (.cells #[.bool false] 4)=w0:=⟨_,rfl⟩;have hjo:=VN B b p w0 (by have:=hW.below;rw [hw0] at this;exact hE.next this) (by have:=hW.below;rw [hw0] at this;exact hB.next this) bk ok
 rw [hw0] at hW;obtain ⟨R,hR⟩:=N2 (IP b p.l);rw [hR] at hjo⊢;replace hjo:=H0 hjo;replace hR:=H0 hR;clear hE hB bk ok;go_enter_defers func36,ntmps36;go_upto_region 2 with (fail)
 refine Ar (R:=fun wx=>wx=w0) hw0 ?_
 clear hw0;rintro _ rfl
 go_wp2_with (first
  | (refine wpList_load_row rfl 34 _ rfl w.heap.size rfl _ (Ab B) _ _ hW.a underlying34 rfl (Ac _) ?_)
  | (refine wpList_load_row rfl 72 _ rfl (w.heap.size+1) rfl _ (Av p) _ _ hW.b underlying72 rfl (Cm p) ?_))
 refine hjo.out.mono ?_;rintro e w4 ⟨hres,hb4⟩;have hsz:=hW.size;have hW4:=hW.next hb4
 cases R with
 | none=>
  obtain ⟨pv,rfl⟩:=hres;exact Xe (B:=w.heap.size) rfl rfl hW4.r hW4.o (by omega) (by omega) (by omega) (fun w' hb=>PE rfl (hW4.below.trans hb))
 | some u=>
  obtain ⟨S,rfl,hu⟩:=hres;have hW5:=hW4.setRow S;obtain ⟨y0,f2⟩:=hW5.cello;have hu5:Er ((w4.setRow (w.heap.size+2) (Ab S)).setCell ⟨w.heap.size+3,0,none⟩ (.bool true)) w.heap.size S u:=Er.cellSet (hu.row (by omega) (Nat.le_refl _) _) (by omega) (by omega) 0 _
  replace hu5:=H0 hu5;go_wp2_with (refine wpList_store_row rfl 34 _ _ rfl (w.heap.size+2) (Ab S) rfl rfl 34 _ hW4.r (Ac _) rfl (As _) ?_);exact Zf rfl rfl ((HF (by omega) 0 _).trans hW5.r) (SZ (cs:= #[.bool false]) hW5.o 0 (.bool true)) (XT rfl hu5.out (hW5.below.setCell (p:=⟨w.heap.size+3,0,none⟩) (by simp) _))
theorem Vt (l:List UInt8):((B6 l).hq=false->(B6 l).qry=[])/\((B6 l).hf=false->(B6 l).frg=[])/\(B6 l).rest.length<=l.length/\(B6 l).qry.length<=l.length/\(B6 l).frg.length<=l.length/\(B6 l).sch.length<=l.length:=by
 have h0:=Cc 35 l;have h1:=Cc 63 (Af 35 l).1;have h2:=Cc 58 (Af 63 (Af 35 l).1).1;have hn:∀ c (m:List UInt8),(Af c m).2.2=false->(Af c m).2.1=[]:=fun c m h=>(MN c m h).2
 unfold B6;dsimp only;split
 ·refine ⟨hn _ _,hn _ _,by dsimp only;omega,by dsimp only;omega,by dsimp only;omega,?_⟩
  dsimp only;rw [Il];omega
 ·exact ⟨hn _ _,hn _ _,by dsimp only;omega,by dsimp only;omega,by dsimp only;omega,Nat.zero_le _⟩
theorem YT {p:Dq} {l:List UInt8} (h:p.l=B6 l) (hz:l.length<=1100000):KZ p:=by
 have hs:=Vt l;rw [<-h] at hs;obtain ⟨h1,h2,h3,h4,h5,h6⟩:=hs;exact ⟨h1,h2,by rw [<-Aa];exact Nat.le_trans h3 hz,by rw [<-Aa];exact Nat.le_trans h4 hz,by rw [<-Aa];exact Nat.le_trans h5 hz⟩
theorem V6:GC zS:=⟨Nat.zero_le _,fun t h=>by cases h⟩
theorem Qz {w w':World} {P:B9} {e:Ending} (h:Vl w P e w'):∃ p:Dq,e= .returned (.agg (Av p))/\Hid (p.l=P)/\Below w.heap.size w w':=by
 obtain ⟨a,b,c,d,rfl,h1,h2,h3,h4,hb⟩:=h;refine ⟨⟨P.hs,a,b,P.hq,c,P.hf,d⟩,rfl,H0 ?_,hb⟩;show (⟨P.hs,a.toList,b.toList,P.hq,c.toList,P.hf,d.toList⟩:B9)=P;rw [h1.out,h2.out,h3.out,h4.out]
theorem PF (l:List UInt8):(Dy l).length<=l.length:=by
 unfold Dy;exact Nat.le_trans (K5 _) (JQ _)
theorem HM {f:Func} {R:Ending->World->Prop} {a:Act} {w:World} {g:Nat} {c:Array Value} {b:Bool} {p u:Nat} (hf:f.results= #[.cell p 34,.tmp u]) (h2:a.tmps.getD p undef= .pointer (some ⟨g,0,none⟩)) (h3:a.tmps.getD u undef= .bool b) (hd:a.defers=[])
  (hg:AJ w g c 34) (hi:(prog.info? 34).map (·.size)=some c.size) (hR:R (.returned (.tuple #[.agg c,.bool b])) w):
  bodyPost prog f R .ret a w:=by
 refine bodyPost_ret (v:= .tuple #[.agg c,.bool b]) ?_ hd hR;rw [results_cell_tmp hf,h2,h3];simp [asAddr,Result.andThen,run_loadVar_row (P:=prog) w g _ 34 _ _ _ hg underlying34 rfl hi]
theorem R7 (B:Al) (b:Aq) (s:ByteArray) (w:World) (hE:GZ w) (hB:DI w B b) (bk:GC B) (hz:s.size<=1100000):Calls prog 15 #[.agg (Ab B),.string s] w (VM (G0 b s.toList) w):=by
 have hI:=Mn.start w (Ab B) 34 (Ab zS) 34;have hcl:=H0 (fun w=>RP s w (by omega))
 have hE':=H0 hE;have hB':=H0 hB;clear hE hB;have hlen:=PF s.toList;rw [Aa] at hlen;obtain ⟨R,hR⟩:=N2 (G0 b s.toList);rw [hR];unfold G0 at hR;obtain ⟨C,hC⟩:=N2 (Dy s.toList);rw [hC] at hR hcl hlen;replace hR:=H0 hR;replace hC:=H0 hC;go_enter func15,ntmps15;go_upto_region 1 with (fail)
 refine Ar (R:=fun wx=>Mn w wx (Ab B) 34 (Ab zS) 34) hI ?_
 clear hI;intro w1 hI;replace hI:=hI.drew;refine wp_region_noPanic ?_;refine wp_region_held_drew (S:=fun w'=>AJ w' w.heap.size (Ab B) 34) (by kernel_rfl) (hI.a) (fun hHeld=> ?_)
 refine T0 1 7 ?_ hHeld ?_ ?_;rotate_left
 ·intro w hSw;(try dsimp only at hSw);go_simp;try with_reducible rfl
 try simp only [P3]
 refine wpAnyH_take (i:=0) (oi:=⟨some 6,_,_,_,_,_⟩) (v:= .agg (Ab B).toList.toArray) rfl (by kernel_rfl) (by kernel_rfl) (by kernel_rfl) (fun _ _ _ h=>h) (yieldsIf_load_mid (by rfl) 34 _ rfl w.heap.size 0 rfl (Ab B).toList _ (fun _ h=>h.whole) underlying34 rfl Fv) hHeld ?_
 try simp only [P3]
 refine wpAnyH_ready (rs:=[2]) (by kernel_rfl) (by simp) ?_
 refine AllReadyH.cons rfl (fun K hK=> ?_) AllReadyH.nil
 go_simp;refine (hcl.out _).mono ?_;rintro e w2 ⟨t,rfl,ht,hb⟩;replace hI:=hI.keep hb;clear hb hHeld;go_wp2_with fail;refine hK.out _ _ (hI.a) (fun hHeld=> ?_)
 clear hK K
 try simp only [P3]
 have htz:t.size<=1100000:=by rw [<-Aa,ht.out];omega
 refine wpAnyH_ready (rs:=[3]) (by kernel_rfl) (by simp) ?_
 refine AllReadyH.cons rfl (fun K hK=> ?_) AllReadyH.nil
 go_simp;refine (Jg t _ (hE'.out.next hI.below).ml (by omega)).mono ?_
 intro e w3 hres;obtain ⟨p,rfl,hp,hb⟩:=Qz hres;rw [ht.out] at hp;have pok:=YT hp.out (by omega)
 replace hI:=hI.keep hb;clear hb hHeld hres;go_wp2_with fail;refine hK.out _ _ (hI.a) (fun hHeld=> ?_)
 clear hK K
 try simp only [P3]
 refine wpAnyH_ready (rs:=[4]) (by kernel_rfl) (by simp) ?_
 refine AllReadyH.cons rfl (fun K hK=> ?_) AllReadyH.nil
 go_simp;refine (NE B b p _ (hE'.out.next hI.below) (hB'.out.next hI.below) bk pok).mono ?_
 rintro e w4 ⟨S,rfl,hu,hb⟩;have hlt4:=hI.b.lt;have hs4:=hI.below.size;replace hI:=hI.keep hb;rw [hp.out,hR.out] at hu⊢;replace hu:=H0 hu;clear hb hHeld;go_wp2_with fail;refine hK.out _ _ (hI.a) (fun hHeld=> ?_)
 clear hK K
 try simp only [P3]
 refine T0 5 11 ?_ hHeld ?_ ?_;rotate_left
 ·intro w hSw;(try dsimp only at hSw);go_simp;try with_reducible rfl
 try simp only [P3]
 refine T0 6 12 ?_ hHeld ?_ ?_;rotate_left
 ·intro w hSw;(try dsimp only at hSw);go_simp;try with_reducible rfl
 try simp only [P3]
 refine wpAnyH_ready (rs:=[7]) (by kernel_rfl) (by simp) ?_
 refine AllReadyH.cons rfl (fun K hK=> ?_) AllReadyH.nil
 refine AO (by kernel_rfl) (fun Q' hQ'=> ?_)
 refine wpList_store_row rfl 34 _ _ rfl (w.heap.size+1) (Ab S) rfl rfl 34 _ hI.b (Ac _) rfl (As _) ?_;replace hI:=hI.setB (Ab S);refine hQ' _ _ ?_;refine hK.out _ _ (hI.a) (fun hHeld=> ?_)
 clear hK K hQ' Q'
 try simp only [P3]
 refine T0 8 5 ?_ hHeld ?_ ?_;rotate_left
 ·intro w hSw;(try dsimp only at hSw);go_simp;try with_reducible rfl
 try simp only [P3]
 refine wpAnyH_done (by kernel_rfl) ?_ _
 refine NoPanic.normal ?_;go_wp2_with fail;refine HM rfl rfl rfl rfl hI.b (Ac _) ?_;exact ⟨S,rfl,hu.out.row hlt4 hs4 _,hI.below⟩
theorem K6 (s:ByteArray) (w:World) (hE:GZ w) (hz:s.size<=1100000):Calls prog 20 #[.string s] w (VM (Dz s.toList) w):=by
 have hcl:=H0 (fun w=>RP s w (by omega))
 have hE':=H0 hE;clear hE;have hlen:=PF s.toList;rw [Aa] at hlen;obtain ⟨R,hR⟩:=N2 (Dz s.toList);rw [hR];unfold Dz at hR;obtain ⟨C,hC⟩:=N2 (Dy s.toList);rw [hC] at hR hcl hlen;replace hR:=H0 hR;replace hC:=H0 hC;have hb0:Below w.heap.size w (w.alloc (.cells (Ab zS) 34)):=(Below.refl _ _).alloc (Nat.le_refl _) _;have hr0:AJ (w.alloc (.cells (Ab zS) 34)) w.heap.size (Ab zS) 34:=AJ.new _ _ _;go_enter func20,ntmps20;go_upto_region 1 with (fail)
 refine Ar (R:=fun wx=>Below w.heap.size w wx/\AJ wx w.heap.size (Ab zS) 34) ⟨hb0,hr0⟩ ?_
 clear hb0 hr0;rintro w1 ⟨hb1,hr1⟩;go_wp2_with fail;refine (hcl.out _).mono ?_;rintro e w2 ⟨t,rfl,ht,hb⟩;have hb2:=hb1.next hb
 have hr2:=hr1.keep hb;have htz:t.size<=1100000:=by rw [<-Aa,ht.out];omega
 clear hb hb1 hr1;go_wp2_with fail;refine (Jg t _ (hE'.out.next hb2).ml (by omega)).mono ?_
 intro e w3 hres;obtain ⟨p,rfl,hp,hb⟩:=Qz hres;rw [ht.out] at hp;have pok:=YT hp.out (by omega)
 have hb3:=hb2.next hb
 have hr3:=hr2.keep hb;have hs3:=hb3.size;clear hb hres hb2 hr2;have hI:Below w.heap.size w (w3.alloc (.cells (Av p) 72))/\AJ (w3.alloc (.cells (Av p) 72)) w.heap.size (Ab zS) 34/\AJ (w3.alloc (.cells (Av p) 72)) w3.heap.size (Av p) 72:=⟨hb3.alloc hs3 _,hr3.alloc _,AJ.new _ _ _⟩
 go_upto_region 2 with (refine Ag rfl 72 _ _ rfl rfl (Av p) _ _ _ rfl (by simp) rfl (Cm p) rfl (by kernel_rfl) ?_)
 refine Ar (R:=fun wx=>Below w.heap.size w wx/\AJ wx w.heap.size (Ab zS) 34/\AJ wx w3.heap.size (Av p) 72) hI ?_
 clear hI hb3 hr3;rintro w5 ⟨hb5,hr5,hp5⟩;have hf:=hR.out;rw [<-hp.out] at hf;obtain ⟨hs,hhs⟩:∃ x,p.hs=x:=⟨_,rfl⟩;have y0:=(hp5.at 0).trans (show (Av p)[0]? =some (.bool hs) by rw [<-hhs];rfl)
 rw [show p.l.hs=p.hs from rfl,hhs] at hf;replace hhs:=H0 hhs
 cases hs with
 | false=>
  have hf2:=H0 (hf.symm.trans (if_neg (by decide)))
  replace hf:=H0 hf
  go_wp2_with (first
   | (refine wpList_buildTo rfl _ _ rfl _ rfl (Ab zS) Jb ?_)
   | (refine wpList_store_row rfl 34 _ _ rfl w.heap.size (Ab zS) rfl rfl 34 _ hr5 (Ac _) rfl (As _) ?_))
  refine HM rfl rfl rfl rfl (hr5.set _) (Ac _) ?_;exact PE hf2.out (Ae hb5 (Nat.le_refl _) _)
 | true=>
  have hf2:=H0 (hf.symm.trans (if_pos rfl));replace hf:=H0 hf
  go_wp2_with (first
   | (refine wpList_buildTo rfl _ _ rfl _ rfl (Ab zS) Jb ?_)
   | (refine wpList_load_row rfl 72 _ rfl w3.heap.size rfl _ (Av p) _ _ hp5 underlying72 rfl (Cm p) ?_))
  refine (NE zS Ea p _ (hE'.out.next hb5) (AaU _) V6 pok).mono ?_
  rintro e w6 ⟨S,rfl,hu,hb⟩;rw [<-hf2.out] at hu⊢;have hlt:=hr5.lt;have hs5:=hb5.size;have hb6:=hb5.next hb
  have hr6:=hr5.keep hb;replace hu:=H0 hu;clear hb y0;go_wp2_with (refine wpList_store_row rfl 34 _ _ rfl w.heap.size (Ab S) rfl rfl 34 _ hr6 (Ac _) rfl (As _) ?_);refine HM rfl rfl rfl rfl (hr6.set _) (Ac _) ?_;exact ⟨S,rfl,hu.out.row hlt hs5 _,Ae hb6 (Nat.le_refl _) _⟩
theorem Em {f:Func} {R:Ending->World->Prop} {a:Act} {w:World} {g:Nat} {c:Array Value} {p:Nat} {T:TypeId} {fs:Array Field} (hf:f.results= #[.cell p T]) (h2:a.tmps.getD p undef= .pointer (some ⟨g,0,none⟩)) (hd:a.defers=[])
  (hg:AJ w g c T) (hu:prog.underlying T=some (.struct fs)) (hi:(prog.info? T).map (·.size)=some c.size) (hR:R (.returned (.agg c)) w):
  bodyPost prog f R .ret a w:=by
 refine bodyPost_ret (v:= .agg c) ?_ hd hR;rw [Hw hf,h2];simp [asAddr,Result.andThen,run_loadVar_row (P:=prog) w g _ T _ _ _ hg hu rfl hi]
theorem VG:prog.built 48 []=some (Au false zS (.slice none 0 0)):=by kernel_rfl
def AeD (it:BR) (w:World) (e:Ending) (w':World):Prop:=∃ x:AP,e= .returned (.agg (Au x.right x.url x.wv))/\VB x it/\HQ w' w.heap.size x/\x.wv= .slice none 0 0/\Below w.heap.size w w'
theorem Zr:VB ⟨false,zS,.slice none 0 0,[]⟩ ⟨false,Ea,[]⟩:=⟨rfl,Ps,rfl⟩
theorem AaW (w:World) (B:Nat):HQ w B ⟨false,zS,.slice none 0 0,[]⟩:=⟨AI.nil _ _ _,AI.nil _ _ _⟩
theorem Vy (B:Al) (b:Aq) (s:ByteArray) (w:World) (hE:GZ w) (hB:DI w B b) (bk:GC B) (hz:s.size<=1100000):Calls prog 102 #[.agg (Ab B),.string s] w (AeD (Do b s.toList []) w):=by
 have hI:=Mn.start w (Ab B) 34 (Au false zS (.slice none 0 0)) 48;have hE':=H0 hE;have hB':=H0 hB;have hJ:=H0 (fun w hE hB=>R7 B b s w hE hB bk hz)
 clear hE hB;unfold Do;obtain ⟨R,hR⟩:=N2 (G0 b s.toList);rw [hR] at hJ⊢;replace hR:=H0 hR;go_enter func102,ntmps102;go_upto_region 1 with (fail)
 refine Ar (R:=fun wx=>Mn w wx (Ab B) 34 (Au false zS (.slice none 0 0)) 48) hI ?_
 clear hI;intro w1 hI;go_wp2_with (refine wpList_load_row rfl 34 _ rfl w.heap.size rfl _ (Ab B) _ _ hI.a underlying34 rfl (Ac _) ?_);refine (hJ.out _ (hE'.out.next hI.below) (hB'.out.next hI.below)).mono ?_
 rintro e w2 ⟨S,rfl,hu,hb⟩;have hs1:=hI.below.size;have hlt1:=hI.b.lt;replace hI:=hI.keep hb;have hs2:=hI.below.size;have hown:=hu.own;have his:=hu.is;clear hb hu hJ hB' hE';have hI5:Mn w (w2.alloc (.cells (Ab S) 34)) (Ab B) 34 (Au false zS (.slice none 0 0)) 48:=hI.keep ((Below.refl _ _).alloc (Nat.le_refl _) _);have hc5:AJ (w2.alloc (.cells (Ab S) 34)) w2.heap.size (Ab S) 34:=AJ.new _ _ _;have ho5:=hown.alloc (.cells (Ab S) 34);obtain ⟨w5,hw5⟩:∃ w5,w2.alloc (.cells (Ab S) 34)=w5:=⟨_,rfl⟩;replace his:=H0 his;replace hown:=H0 hown;replace ho5:=H0 ho5
 cases R with
 | none=>
  go_upto_region 2 with (refine Ag rfl 34 _ _ rfl rfl (Ab S) _ _ _ rfl (by simp) rfl (Ac _) rfl (As _) ?_)
  rw [hw5] at hI5 hc5 ho5⊢;clear hw5 hI hown;have hlt:=hI5.b.lt
  go_wp2_with (first
   | (refine wpList_buildTo rfl _ _ rfl _ rfl (Au false zS (.slice none 0 0)) VG ?_)
   | (refine wpList_store_row rfl 48 _ _ rfl (w.heap.size+1) (Au false zS (.slice none 0 0)) rfl rfl 48 _ hI5.b (DT _ _ _) rfl (Jh _ _ _ rfl) ?_))
  refine Em rfl rfl rfl (hI5.setB _).b underlying48 (DT _ _ _) ?_;exact ⟨⟨false,zS,.slice none 0 0,[]⟩,rfl,Zr,AaW _ _,rfl,(hI5.setB _).below⟩
 | some u=>
  go_upto_region 2 with (refine Ag rfl 34 _ _ rfl rfl (Ab S) _ _ _ rfl (by simp) rfl (Ac _) rfl (As _) ?_)
  rw [hw5] at hI5 hc5 ho5⊢;clear hw5 hI hown;have hlt:=hI5.b.lt
  go_wp2_with (first
   | (refine wpList_load_row rfl 34 _ rfl w2.heap.size rfl _ (Ab S) _ _ hc5 underlying34 rfl (Ac _) ?_)
   | (refine wpList_buildTo rfl _ _ rfl _ rfl (Au true S (.slice none 0 0)) (by kernel_rfl) ?_)
   | (refine wpList_store_row rfl 48 _ _ rfl (w.heap.size+1) (Au true S (.slice none 0 0)) rfl rfl 48 _ hI5.b (DT _ _ _) rfl (Jh _ _ _ rfl) ?_))
  refine Em rfl rfl rfl (hI5.setB _).b underlying48 (DT _ _ _) ?_;refine ⟨⟨true,S,.slice none 0 0,[]⟩,rfl,⟨rfl,his.out,rfl⟩,⟨?_,AI.nil _ _ _⟩,rfl,(hI5.setB _).below⟩;exact (AI.row ho5.out hlt1 _).low hs1
def readC (v:Value) (t:ByteArray):Array Value:= #[v,.string t]
theorem CJ (v:Value) (t:ByteArray):(prog.info? 44).map (·.size)=some (readC v t).size:=by show _=some 2;kernel_rfl
theorem Sb:(prog.info? 42).map (·.size)=some 1:=by kernel_rfl
theorem Gh {v:Value} (t:ByteArray) (h:v.oneCell'=true):(readC v t).all (·.oneCell')=true:=by
 rw [Array.all_eq_true_iff_forall_mem];intro x hx;have hx2:x=v\/x= .string t:=by simpa [readC] using hx
 rcases hx2 with rfl | rfl
 ·exact h
 ·rfl
def Oo (r:List BR × List UInt8) (w:World) (e:Ending) (w':World):Prop:=
 ∃ (v:Value) (l:List AP) (t:ByteArray),e= .returned (.agg (readC v t))/\Dx l r.1/\Hid (t.toList=r.2)/\Cb w' w.heap.size v l/\Below w.heap.size w w'
theorem Cb.one {w:World} {B:Nat} {v:Value} {l:List AP} (h:Cb w B v l):v.oneCell'=true:=by
 rcases h.1.2 with ⟨rfl,_⟩ | ⟨k,cap,cur,rfl,_⟩<;>rfl
theorem Cb.row {w:World} {B:Nat} {v:Value} {l:List AP} (h:Cb w B v l) {g:Nat} (hg:g<B) (C:Array Value):Cb (w.setRow g C) B v l:=
 h.chg fun k hk _=>D8 w g k C (by omega)
structure M0 (w wx:World) (B:Al) (C D:Array Value):Prop where
 below:Below w.heap.size w wx
 size:w.heap.size+3<=wx.heap.size
 a:AJ wx w.heap.size (Ab B) 34
 o:AJ wx (w.heap.size+1) C 44
 r:AJ wx (w.heap.size+2) D 44
theorem M0.start (w:World) (B:Al) (C D:Array Value):M0 w (((w.alloc (.cells (Ab B) 34)).alloc (.cells C 44)).alloc (.cells D 44)) B C D:=by
 have h:=Mn.start w (Ab B) 34 C 44;have hn:=AJ.new ((w.alloc (.cells (Ab B) 34)).alloc (.cells C 44)) D 44;rw [Ai,Ai] at hn;exact ⟨h.below.alloc (by rw [Ai,Ai];omega) _,by rw [Ai,Ai,Ai];omega,h.a.alloc _,h.b.alloc _,hn⟩
theorem M0.keep {w wx wy:World} {B:Al} {C D:Array Value} (h:M0 w wx B C D) (hb:Below wx.heap.size wx wy):M0 w wy B C D:=⟨h.below.next hb,by have:=hb.size;have:=h.size;omega,h.a.keep hb,h.o.keep hb,h.r.keep hb⟩
theorem M0.alloc {w wx:World} {B:Al} {C D:Array Value} (h:M0 w wx B C D) (o:Obj):M0 w (wx.alloc o) B C D:=h.keep ((Below.refl _ _).alloc (Nat.le_refl _) o)
theorem M0.setR {w wx:World} {B:Al} {C D:Array Value} (h:M0 w wx B C D) (E:Array Value):M0 w (wx.setRow (w.heap.size+2) E) B C E:=
 ⟨Ae h.below (by omega) _,by rw [CG];exact h.size,h.a.other (by omega) _,h.o.other (by omega) _,h.r.set _⟩
theorem M0.setO {w wx:World} {B:Al} {C D:Array Value} (h:M0 w wx B C D) (E:Array Value):M0 w (wx.setRow (w.heap.size+1) E) B E D:=
 ⟨Ae h.below (by omega) _,by rw [CG];exact h.size,h.a.other (by omega) _,h.o.set _,h.r.other (by omega) _⟩
def r0:Array Value:=readC (.slice none 0 0) ⟨#[]⟩
theorem PO (B:Al) (b:Aq) (s:ByteArray) (w:World) (hE:GZ w) (hB:DI w B b) (bk:GC B) (hz:s.size<=1100000):Calls prog 55 #[.int .i64 1,.agg (Ab B),.string s] w (Oo (Bi 1 b s.toList) w):=by
 have hI:=M0.start w B r0 r0;have hit:=H0 (fun w hE hB=>Vy B b s w hE hB bk hz)
 have hE':=H0 hE;have hB':=H0 hB;clear hE hB;have hv:Hid (Bi 1 b s.toList=([Do b s.toList []],[])):=rfl;obtain ⟨it,hiz⟩:=N2 (Do b s.toList []);rw [hiz] at hit hv;rw [hv.out];replace hiz:=H0 hiz;go_enter func55,ntmps55;go_upto_region 2 with (fail)
 refine Ar (R:=fun wx=>M0 w wx B r0 r0) hI ?_
 clear hI;intro w1 hI;go_wp2_with (refine wpList_load_row rfl 34 _ rfl w.heap.size rfl _ (Ab B) _ _ hI.a underlying34 rfl (Ac _) ?_);refine (hit.out _ (hE'.out.next hI.below) (hB'.out.next hI.below)).mono ?_
 rintro e w2 ⟨x,rfl,hx,ho,hwv,hb⟩;have hs1:=hI.size;replace hI:=hI.keep hb;have hs2:=hI.size;have hb1:=hb.size;have hI5:=hI.alloc (.cells (Au x.right x.url x.wv) 48);have ho5:=H0 (Zw ho hb1);clear hb hit hB' hE' hI ho;replace hwv:=H0 hwv;obtain ⟨w5,hw5⟩:∃ w5,w2.alloc (.cells (Au x.right x.url x.wv) 48)=w5:=⟨_,rfl⟩;rw [hw5] at hI5 ho5
 go_wp2_with (first
  | (refine Iq rfl _ rfl x.right x.url x.wv rfl ?_;rw [hw5];clear hw5)
  | (refine Ad rfl 42 _ _ rfl (w.heap.size+2) 0 rfl (.slice (some ⟨w2.heap.size,0,none⟩) 1 1) rfl rfl 44 r0 (readC (.slice (some ⟨w2.heap.size,0,none⟩) 1 1) ⟨#[]⟩) hI5.r Sb (by decide) rfl (by kernel_rfl) ?_)
  | (refine wpList_load_row rfl 44 _ rfl (w.heap.size+2) rfl _ (readC (.slice (some ⟨w2.heap.size,0,none⟩) 1 1) ⟨#[]⟩) _ _ (hI5.setR _).r underlying44 rfl (CJ _ _) ?_)
  | (refine wpList_store_row rfl 44 _ _ rfl (w.heap.size+1) (readC (.slice (some ⟨w2.heap.size,0,none⟩) 1 1) ⟨#[]⟩) rfl rfl 44 _ (hI5.setR _).o (CJ _ _) rfl (Gh _ rfl) ?_))
 have hI6:=(hI5.setR (readC (.slice (some ⟨w2.heap.size,0,none⟩) 1 1) ⟨#[]⟩)).setO (readC (.slice (some ⟨w2.heap.size,0,none⟩) 1 1) ⟨#[]⟩);refine Em rfl rfl rfl hI6.o underlying44 (CJ _ _) ?_;refine ⟨_,[x],⟨#[]⟩,rfl,⟨hx,trivial⟩,toList_mk [],?_,hI6.below⟩;exact (((ho5.out.row (g:=w.heap.size+2) (by omega) _).row (g:=w.heap.size+1) (by omega) _)).low (by omega)
def Od (c:UInt8):List UInt8:=if c=38 then [38,97,109,112,59] else if c=34 then [38,35,51,52,59] else if c=39 then [38,35,51,57,59] else if c=60 then [38,35,54,48,59] else if c=62 then [38,35,54,50,59] else if c=96 then [38,35,57,54,59] else []
theorem Afr (c:UInt8):(Od c≠[]/\HT c=Od c)\/(Od c=[]/\HT c=[c]):=by
 unfold Od HT
 repeat' split
 all_goals first | exact .inl ⟨by simp,rfl⟩ | exact .inr ⟨rfl,rfl⟩
theorem VQ (c:UInt8) (w:World):Calls prog 39 #[.int .u8 (c.toNat:Int)] w (YV (Od c) w):=by
 have key:∀ (k:UInt8) (l:List UInt8),Od k=l->c=k->(Calls prog 39 #[.int .u8 (k.toNat:Int)] w fun e w'=>e= .returned (.string ⟨l.toArray⟩)/\w=w')->Calls prog 39 #[.int .u8 (c.toNat:Int)] w (YV (Od c) w):=by
  intro k l h1 h2 h3;subst h2;rw [h1];exact h3.mono fun e w' ⟨he,hw⟩=>⟨_,he,H0 (toList_mk l),hw⟩
 by_cases h1:c=38
 ·refine key 38 [38,97,109,112,59] rfl h1 ?_;show Calls _ _ #[.int .u8 38] _ _;go_enter func39,ntmps39;go_wp2_with fail;go_ret;exact ⟨rfl,rfl⟩
 by_cases h2:c=34
 ·refine key 34 [38,35,51,52,59] rfl h2 ?_;show Calls _ _ #[.int .u8 34] _ _;go_enter func39,ntmps39;go_wp2_with fail;go_ret;exact ⟨rfl,rfl⟩
 by_cases h3:c=39
 ·refine key 39 [38,35,51,57,59] rfl h3 ?_;show Calls _ _ #[.int .u8 39] _ _;go_enter func39,ntmps39;go_wp2_with fail;go_ret;exact ⟨rfl,rfl⟩
 by_cases h4:c=60
 ·refine key 60 [38,35,54,48,59] rfl h4 ?_;show Calls _ _ #[.int .u8 60] _ _;go_enter func39,ntmps39;go_wp2_with fail;go_ret;exact ⟨rfl,rfl⟩
 by_cases h5:c=62
 ·refine key 62 [38,35,54,50,59] rfl h5 ?_;show Calls _ _ #[.int .u8 62] _ _;go_enter func39,ntmps39;go_wp2_with fail;go_ret;exact ⟨rfl,rfl⟩
 by_cases h6:c=96
 ·refine key 96 [38,35,57,54,59] rfl h6 ?_;show Calls _ _ #[.int .u8 96] _ _;go_enter func39,ntmps39;go_wp2_with fail;go_ret;exact ⟨rfl,rfl⟩
 clear key;have hv:Od c=[]:=by unfold Od;rw [if_neg h1,if_neg h2,if_neg h3,if_neg h4,if_neg h5,if_neg h6]
 have ne:∀ k:UInt8,c≠k->((c.toNat:Int)==(k.toNat:Int))=false:=fun k h=>by rw [beq_eq_false_iff_ne];intro e;exact h (UInt8.toNat_inj.1 (by omega))
 have n1:((c.toNat:Int)==38)=false:=ne 38 h1;have n2:((c.toNat:Int)==34)=false:=ne 34 h2;have n3:((c.toNat:Int)==39)=false:=ne 39 h3;have n4:((c.toNat:Int)==60)=false:=ne 60 h4;have n5:((c.toNat:Int)==62)=false:=ne 62 h5;have n6:((c.toNat:Int)==96)=false:=ne 96 h6;clear ne h1 h2 h3 h4 h5 h6;rw [hv];clear hv;generalize (c.toNat:Int)=z at *;go_enter func39,ntmps39;go_wp2_with fail;go_ret;exact ⟨_,rfl,H0 (toList_mk []),rfl⟩
theorem Aai (l:List UInt8) (c:UInt8):Ce (l++[c])=Ce l++HT c:=by unfold Ce;rw [List.flatMap_append];simp
theorem Ab9 (c:UInt8):(Od c).length<=5:=by
 unfold Od
 repeat' split
 all_goals simp
theorem Lk (s:ByteArray) (w:World) (hz:s.size<=4294967296):Calls prog 16 #[.string s] w (Cy w (Ce s.toList)):=by
 go_enter func16,ntmps16;go_wp2_with fail;go_loopw [8] (fun iv wr=>∃ k:Nat,iv= .int .i64 k/\k<=s.size/\Kx wr w.heap.size w.heap.size (Ce (s.toList.take k))/\Below w.heap.size w wr) (fun iv _=>s.size - (intOf iv).toNat)
 case atStart=>exact ⟨0,rfl,Nat.zero_le _,Kx.fresh w,(Below.refl _ _).alloc (Nat.le_refl _) _⟩
 case round=>
  obtain ⟨k,rfl,hk,hbld,hbel⟩:=hrel;have hsz:=hbel.size
  have hlen:(Ce (s.toList.take k)).length<=21474836480:=by
   have:=(Qh (s.toList.take k)).2;rw [List.length_take] at this;omega
  by_cases hkl:k<s.size
  ·have hkI:(k:Int)<(s.size:Int):=by omega
   have hsn:=H0 ((congrArg Ce (A5 s k hkl)).trans (Aai _ _));obtain ⟨c,hc⟩:=N2 (s[k]);rw [hc] at hsn;have hes:=H0 (fun w=>VQ c w)
   generalize Ce (s.toList.take k)=P at hsn hlen hbld;have hwl:=Ab9 c;rcases Afr c with ⟨h1,h2⟩ | ⟨h1,h2⟩
   ·rw [h2] at hsn;obtain ⟨E,hE⟩:=N2 (Od c);rw [hE] at hes hsn h1 hwl;replace hE:=H0 hE;replace h2:=H0 h2;go_wp2_with fail;refine (hes.out _).mono ?_;rintro e w2 ⟨t,rfl,ht,rfl⟩;have hne:t.toList.isEmpty=false:=by rw [ht.out];cases E with | nil=>exact absurd rfl h1 | cons a b=>rfl
    have htz:t.size<=5:=by rw [<-Aa,ht.out];exact hwl
    replace h1:=H0 h1;have hw:=H0 (AL w.heap.size w.heap.size P t wr hbld (by omega) (by omega) hsz)
    go_wp2_with fail;refine hw.out.mono ?_;rintro e w3 ⟨rfl,hb2,hbb⟩;have hbel2:=hbel.trans hbb;have hb3:Kx w3 w.heap.size w.heap.size (Ce (s.toList.take (k+1))):=by rw [hsn.out,<-ht.out];exact hb2
    clear hb2;go_wp2_with fail;go_roundw
    case rel=>exact ⟨k+1,by go_num,by omega,hb3,hbel2⟩
    case measure=>simp [intOf];omega
   ·rw [h2] at hsn;rw [h1] at hes;replace h1:=H0 h1;replace h2:=H0 h2;go_wp2_with fail;refine (hes.out _).mono ?_;rintro e w2 ⟨t,rfl,ht,rfl⟩;have hne:t.toList.isEmpty=true:=by rw [ht.out];rfl
    have hw:=H0 (BE w.heap.size w.heap.size P c (c.toNat:Int) rfl wr hbld (by omega) hsz)
    go_wp2_with fail;refine hw.out.mono ?_;rintro e w3 ⟨rfl,hb2,hbb⟩;have hbel2:=hbel.trans hbb;rw [<-hsn.out] at hb2;go_wp2_with fail;go_roundw
    case rel=>exact ⟨k+1,by go_num,by omega,hb2,hbel2⟩
    case measure=>simp [intOf];omega
  ·have hkI:(s.size:Int)<=(k:Int):=by omega
   have he:s.toList.take k=s.toList:=Cl s k (by omega)
   rw [he] at hbld hlen;have hw:=H0 (Bf w.heap.size w.heap.size _ wr hbld hsz);replace he:=H0 he;go_wp2_with fail;refine hw.out.mono ?_;rintro e w2 ⟨t,rfl,ht,hb⟩;go_wp2_with fail;go_ret;exact BL ht.out (hbel.trans hb)
theorem GI {w:World} {g o:Nat} {x:AP} (h:w.rangeAt g o (Dh x)):w.rangeAt g (o+1) (Ab x.url).toList:=fun j v hv=>by
 have hj:j<23:=by
  have:=(List.getElem?_eq_some_iff.1 hv).1
  rwa [Array.length_toList,R2] at this
 have hc:=Zk x.right x.url x.wv j hj
 have:=h (1+j) v (by
  unfold Dh AP.c;rw [Array.getElem?_toList,hc]
  rwa [Array.getElem?_toList] at hv)
 rw [Nat.add_assoc];exact this
theorem JP (u:Al):(prog.info? 34).map (·.size)=some (Ab u).toList.length:=by show _=some 23;kernel_rfl
theorem Abi (v:Value) (t:ByteArray) (x:AP) (l:List AP) (u:Aq) (w:World) (hE:GZ w) (hr:FL w v (x :: l)) (hx:Gt x.url u) (g:AY u) (hz:Bt u<=1000000000):
  Calls prog 28 #[.int .i64 1,.agg (readC v t)] w (Cy w (Ce (AS u true))):=by
 have hb0:Below w.heap.size w (w.alloc (.cells (readC v t) 44)):=(Below.refl _ _).alloc (Nat.le_refl _) _;have hc0:AJ (w.alloc (.cells (readC v t) 44)) w.heap.size (readC v t) 44:=AJ.new _ _ _;have hlen:=DQ g true;have hfit:=H0 (EF hx g (by omega))
 have hwr:=H0 (EG hx true);obtain ⟨w0,hw0⟩:∃ w0,w.alloc (.cells (readC v t) 44)=w0:=⟨_,rfl⟩;rw [hw0] at hb0 hc0;have hr0:=hr.below hb0 (Nat.le_refl _);obtain ⟨pa,c,rfl,hcap,hrow,hreads⟩:=hr0;obtain ⟨g1,o1,rfl,hcell⟩:=hrow (by simp)
 have y:w0.rangeAt g1 (o1+0 * 25+1) (Ab x.url).toList:=GI (hcell 0 (by simp))
 rw [Nat.zero_mul,Nat.add_zero] at y;have hX:=hreads x (List.mem_cons_self ..);have hpin:=(hX.urlW hx).inn;have y0:=(hc0.at 0).trans (show (readC (.slice (some ⟨g1,o1,none⟩) (x :: l).length c) t)[0]? =some (.slice (some ⟨g1,o1,none⟩) (x :: l).length c) from rfl);have hle:(1:Int)<=((x :: l).length:Int):=by rw [List.length_cons];omega
 obtain ⟨N,hN⟩:∃ N,(x :: l).length=N:=⟨_,rfl⟩;rw [hN] at y0 hle hcap hw0⊢;have hN0:decide ((N:Int)=0)=false:=by rw [decide_eq_false_iff_not];omega
 obtain ⟨L,hL⟩:=N2 (AS u true);rw [hL] at hwr hlen⊢;replace hL:=H0 hL;replace hN:=H0 hN;replace hE:=H0 hE;replace hX:=H0 hX;replace hpin:=H0 hpin;clear hr hrow hcell hreads hc0;go_enter func28,ntmps28;go_wp2_with (refine wpList_load_mid rfl 34 _ rfl g1 (o1+1) rfl (Ab x.url).toList _ y underlying34 rfl (JP _) ?_);clear hw0;refine (Gj x.url true w0 hpin.out hfit.out (hE.out.next hb0).tabs).mono ?_
 rintro e w1 ⟨tw,rfl,htw,hb1⟩;have hb2:=hb0.next hb1
 have htz:tw.size<=4294967296:=by rw [<-Aa,htw.out,hwr.out];omega
 clear hb0 hb1 y y0;go_wp2_with fail;refine (Lk tw w1 htz).mono ?_;rintro e w2 ⟨te,rfl,hte,hb3⟩;have hfin:Hid (te.toList=Ce L):=H0 (by rw [hte.out,htw.out,hwr.out])
 have hb4:=hb2.next hb3
 clear hb3 hb2;go_wp2_with fail;go_ret;exact ⟨_,rfl,hfin,hb4⟩
theorem Abf (s:ByteArray) (w:World):Calls prog 111 #[.string s,.string ⟨#[44]⟩] w fun e w'=>e= .returned (.bool (s.toList.head? ==some 44))/\w=w':=by
 refine (Tryz.strings_HasPrefix s ⟨#[44]⟩ w).mono ?_;rintro e w' ⟨rfl,rfl⟩;have e1:s.data.toList=s.toList:=(ByteArray.toList_eq ..).symm;have e2:(ByteArray.mk #[44]).data.toList=[44]:=rfl;rw [e1,e2,OF];exact ⟨rfl,rfl⟩
theorem AaE (s:ByteArray) (w:World) (hz:s.size<=9223372036854775807):Calls prog 112 #[.string s,.string ⟨#[44]⟩] w fun e w'=>e= .returned (.bool (s.toList.getLast? ==some 44))/\w=w':=by
 refine (Tryz.strings_HasSuffix s ⟨#[44]⟩ w hz).mono ?_;rintro e w' ⟨rfl,rfl⟩;have e1:s.data.toList=s.toList:=(ByteArray.toList_eq ..).symm;have e2:(ByteArray.mk #[44]).data.toList=[44]:=rfl;have e3:decide (s.toList.getLast? =some 44)=(s.toList.getLast? ==some 44):=by rw [Bool.eq_iff_iff];simp
 rw [e1,e2,PI,e3];exact ⟨rfl,rfl⟩
theorem Adh (S:Al) (u:Aq) (w:World) (hE:GZ w) (hS:DI w S u) (g:AY u) (hz:Bt u<=1000000000):Calls prog 60 #[.agg (Ab S)] w (IY w (V4 (AS u true))):=by
 have hb0:Below w.heap.size w (w.alloc (.cells (Ab S) 34)):=(Below.refl _ _).alloc (Nat.le_refl _) _;have hc0:AJ (w.alloc (.cells (Ab S) 34)) w.heap.size (Ab S) 34:=AJ.new _ _ _;have hlen:=DQ g true;have hfit:=H0 (EF hS.is g (by omega))
 have hwr:=H0 (EG hS.is true);obtain ⟨L,hL⟩:=N2 (AS u true);rw [hL] at hwr hlen⊢;replace hL:=H0 hL;obtain ⟨R,hR⟩:=N2 (V4 L);rw [hR];unfold V4 at hR;replace hR:=H0 hR;obtain ⟨w0,hw0⟩:∃ w0,w.alloc (.cells (Ab S) 34)=w0:=⟨_,rfl⟩;rw [hw0] at hb0 hc0;replace hS:=H0 hS;replace hE:=H0 hE;go_enter func60,ntmps60;go_wp2_with (refine wpList_load_row rfl 34 _ rfl w.heap.size rfl 34 (Ab S) _ _ hc0 underlying34 rfl (Ac _) ?_);clear hw0;refine (Gj S true w0 (hS.out.below hb0 (Nat.le_refl _)).inn hfit.out (hE.out.next hb0).tabs).mono ?_
 rintro e w1 ⟨t,rfl,ht,hb1⟩;have hb2:=hb0.next hb1
 have htl:Hid (t.toList=L):=H0 (ht.out.trans hwr.out);have htz:t.size<=1000000050:=by rw [<-Aa,htl.out];omega
 rw [<-htl.out] at hR;clear hb0 hc0 hb1 ht hwr;have hpc:=H0 (fun w=>Abf t w)
 have hsc:=H0 (fun w=>AaE t w (by omega))
 obtain ⟨b1,hb1⟩:∃ b,t.toList.isEmpty=b:=⟨_,rfl⟩;obtain ⟨b2,hb2x⟩:∃ b,(t.toList.head? ==some 44)=b:=⟨_,rfl⟩;obtain ⟨b3,hb3⟩:∃ b,(t.toList.getLast? ==some 44)=b:=⟨_,rfl⟩;rw [hb2x] at hpc hR;rw [hb3] at hsc hR;rw [hb1] at hR;replace hb2x:=H0 hb2x;replace hb3:=H0 hb3;go_wp2_with fail;go_loop [4] (fun v4=>∃ k:Nat,v4= .int .i64 (k:Int)/\k<=t.size/\Hid (((t.toList.drop k).all Ff && (!b1 && (!b2 && !b3)))=R)) (fun v4=>t.size - (intOf v4).toNat)
 case atStart=>exact ⟨0,rfl,Nat.zero_le _,by rw [List.drop_zero];exact hR⟩
 case round=>
  obtain ⟨k,rfl,hk,hg⟩:=hrel
  by_cases hlt:k<t.size
  ·have hltI:(k:Int)<(t.size:Int):=by omega
   have hgs:=hg.out;rw [Ao t k hlt,List.all_cons] at hgs;have hc0:=AC t[k];obtain ⟨bb,hbb⟩:∃ bb,Cz (t[k].toNat:Int)=bb:=⟨_,rfl⟩;have hnb:Ff t[k]= !bb:=by rw [<-hbb];rfl
   rw [hnb] at hgs;have hwr:IntKind.i64.wrap ((k:Int)+1)=(k:Int)+1:=IntWalk.i64_in _ (by omega)
   have hbl:=H0 (fun w=>Fj (t[k].toNat:Int) w)
   rw [hbb] at hbl;replace hbb:=H0 hbb;replace hnb:=H0 hnb;replace hgs:=H0 hgs
   cases bb with
   | true=>
    have hf:Hid (false=R):=H0 (by have:=hgs.out;simpa using this)
    go_wp2_with (go_at_call 110;refine (hbl.out _).mono ?_;rintro e w' ⟨rfl,rfl⟩);go_ret;exact ⟨by rw [<-hf.out];rfl,hb2⟩
   | false=>
    have hnew:Hid (((t.toList.drop (k+1)).all Ff && (!b1 && (!b2 && !b3)))=R):=H0 (by have:=hgs.out;simpa using this)
    go_wp2_with (go_at_call 110;refine (hbl.out _).mono ?_;rintro e w' ⟨rfl,rfl⟩);refine ⟨⟨k+1,by go_num,by omega,hnew⟩,?_⟩
    simp [intOf];omega
  ·have hltI:(t.size:Int)<=(k:Int):=by omega
   have hf:Hid ((!b1 && (!b2 && !b3))=R):=H0 (by have:=hg.out;rw [AM t k (by omega)] at this;simpa using this)
   cases b1 with
   | true=>
    have hf2:Hid (false=R):=H0 (by have:=hf.out;simpa using this)
    go_wp2_with fail;go_ret;exact ⟨by rw [<-hf2.out];rfl,hb2⟩
   | false=>
    cases b2 with
    | true=>
     have hf2:Hid (false=R):=H0 (by have:=hf.out;simpa using this)
     go_wp2_with (go_at_call 111;refine (hpc.out _).mono ?_;rintro e w' ⟨rfl,rfl⟩);go_ret;exact ⟨by rw [<-hf2.out];rfl,hb2⟩
    | false=>
     have hf2:Hid ((!b3)=R):=H0 (by have:=hf.out;simpa using this)
     go_wp2_with (first
      | (go_at_call 111;refine (hpc.out _).mono ?_;rintro e w' ⟨rfl,rfl⟩)
      | (go_at_call 112;refine (hsc.out _).mono ?_;rintro e w' ⟨rfl,rfl⟩))
     go_ret;exact ⟨by rw [<-hf2.out];rfl,hb2⟩
end Go.Proofs.YtonomfeipkdmhaaGreatDoor
namespace Go.Proofs.YtonomfeipkdmhaaGreatDoor
open Go.Proofs.Tryz
open Go.RowKit Go.ChangeShapes Go.WideShapes
set_option maxRecDepth 100000
theorem AfC:prog.cellsOf 9=1:=by kernel_rfl
theorem Ae6:prog.cellsOf 3=1:=by kernel_rfl
theorem Xh:prog.cellsOf 22=1:=by kernel_rfl
theorem AdJ {Q:Nat->ByteArray->Prop} {n:Nat} (h:∀ i,i<n->∃ s,Q i s):∃ l:List ByteArray,l.length=n/\∀ i (hi:i<l.length),Q i l[i]:=by
 refine ⟨(List.range n).map fun i=>if hi:i<n then Classical.choose (h i hi) else ByteArray.empty,by simp,fun i hi=> ?_⟩
 have hi2:i<n:=by simpa using hi
 simp only [List.getElem_map,List.getElem_range,hi2,dif_pos];exact Classical.choose_spec (h i hi2)
theorem Ae8 {w:World} {a:Addr} {v:Value} (h:w.cells? 0 a 1=some [v]):w.cell? a=some v:=by
 have e:=(World.cells?_some h).2.2 0 (by decide)
 have e0:a.add 0=a:=by simp [Addr.add]
 rw [e0] at e;simpa using e
theorem Afk {α:Type} {a b:α} (h:[a]=[b]):a=b:=(List.cons.inj h).1
theorem AaG {w:World} {x:Addr} {v:Value} (h:w.cell? (x.add 0)=some v):x=⟨x.block,x.off,none⟩:=by
 have h:w.cell? x=some v:=h;obtain ⟨b,o,s⟩:=x
 cases s with
 | none=>rfl
 | some q=>
  exfalso;simp only [World.cell?] at h;split at h
  ·simp at h
  ·cases h
section
variable {H:Type} {enc:TypeId × Value→H} {w:World} {base:Nat} {sp:Nat→Bool} {held:Bool}
theorem Abs {n:Nat} {c:Value} {x:DataW H × List MemPlace} (h:DataW.trod enc prog w 0 sp held n 22 [c]=some x):
  ∃ (a:Option Addr) (k:Nat) (l:List ByteArray),c= .slice a l.length k/\(0<l.length->∃ g o,a=some ⟨g,o,none⟩/\∀ i (hi:i<l.length),w.cell? ⟨g,o+i,none⟩=some (.string l[i]))/\l.length<=maxLen/\(∀ t∈l,t.size<=maxLen)/\(a=none->k=0):=by
 rcases DataW.trod_slice underlying22 h with ⟨hc,-⟩ | ⟨a,len,cap,elems,rest,m,rfl,hc,-,hb,hl,hm,hel,hx,-⟩
 ·obtain rfl:c= .slice none 0 0:=by simpa using hc
  exact ⟨none,0,[],rfl,fun h=>absurd h (by decide),Nat.zero_le _,fun t ht=>absurd ht (by simp),fun _=>rfl⟩
 ·obtain rfl:c= .slice (some a) len cap:=by simpa using hc
  have key:∀ i,i<len->∃ s:ByteArray,w.cell? (a.add i)=some (.string s)/\s.size<=maxLen:=by
   intro i hi;have e:=hx i hi;rw [List.getElem?_eq_getElem (show i<elems.length by omega)] at e
   simp only [AfC,Nat.mul_one] at e;obtain ⟨cs,hcs,ht⟩:=Option.bind_eq_some_iff.1 e;obtain ⟨s,rfl,-,hs⟩:=DataW.trod_string underlying9 ht;exact ⟨s,Ae8 hcs,hs⟩
  obtain ⟨l,hll,hlc⟩:=AdJ key;subst hll;refine ⟨some a,cap,l,rfl,fun h0=> ?_,by omega,fun t ht=> ?_,fun h=>by cases h⟩
  ·have hp:=AaG ((hlc 0 h0).1);refine ⟨a.block,a.off,by rw [<-hp],fun i hi=> ?_⟩
   have:=(hlc i hi).1;rw [hp] at this
   have e2:(⟨a.block,a.off,none⟩:Addr).add i=⟨a.block,a.off+i,none⟩:=by cases i<;>simp [Addr.add]
   rwa [e2] at this
  ·obtain ⟨i,hi,rfl⟩:=List.getElem_of_mem ht;exact (hlc i hi).2
end
end Go.Proofs.YtonomfeipkdmhaaGreatDoor
namespace Go.Proofs.YtonomfeipkdmhaaGreatDoor
open Go.Proofs.Tryz
open Go.RowKit Go.ChangeShapes Go.WideShapes
set_option maxRecDepth 100000
structure Abt where
 a:Option Addr
 c:Nat
 l:List ByteArray
def Abt.v (x:Abt):Value:= .slice x.a x.l.length x.c
def Mt (w:World) (x:Abt):Prop:=0<x.l.length->∃ g o,x.a=some ⟨g,o,none⟩/\∀ i (hi:i<x.l.length),w.cell? ⟨g,o+i,none⟩=some (.string x.l[i])
theorem Mt.below {w w':World} {K:Nat} {x:Abt} (h:Mt w x) (hb:Below K w w') (hK:w.heap.size<=K):Mt w' x:=by
 intro h0;obtain ⟨g,o,e,hc⟩:=h h0;refine ⟨g,o,e,fun i hi=> ?_⟩
 have:=World.block_lt_of_cell? w _ (hc i hi);rw [hb.cell (by simp at this⊢;omega)]
 exact hc i hi
structure EY (w:World) (x:Abt):Prop where
 cells:Mt w x
 n:x.l.length<=maxLen
 each:∀ t∈x.l,t.size<=maxLen
 nilC:x.a=none->x.c=0
structure C6 where
 schemes:Abt
 hosts:Abt
 types:Abt
 most:Int
def By (p:C6):Array Value:= #[p.schemes.v,p.hosts.v,p.types.v,.int .i64 p.most]
structure Eb (w:World) (p:C6):Prop where
 schemes:EY w p.schemes
 hosts:EY w p.hosts
 types:EY w p.types
 most:(Lit.int .i64 p.most).wf=true
theorem Ab1:prog.cellsOf 24=4:=by kernel_rfl
section
variable {H:Type} {enc:TypeId × Value→H} {w:World} {base:Nat} {sp:Nat→Bool} {held:Bool}
theorem AfI {α:Type} {l:List α} (h:l.length=4):∃ a b c d,l=[a,b,c,d]:=by
 match l,h with
 | [a,b,c,d],_=>exact ⟨a,b,c,d,rfl⟩
theorem MB {n:Nat} {c:Value} {x:DataW H × List MemPlace} (h:DataW.trod enc prog w 0 sp held n 22 [c]=some x):∃ s:Abt,c=s.v/\EY w s:=by
 obtain ⟨a,k,l,rfl,h1,h2,h3,h4⟩:=Abs h;exact ⟨⟨a,k,l⟩,rfl,h1,h2,h3,h4⟩
theorem Adc {n:Nat} {cs:List Value} {x:DataW H × List MemPlace} (h:DataW.trod enc prog w 0 sp held n 24 cs=some x):∃ p:C6,Eb w p/\cs=(By p).toList:=by
 obtain ⟨xs,m,rfl,-,hl,hxl,hx⟩:=DataW.trod_struct underlying24 h;rw [Ab1] at hl;have hxl:xs.length=4:=hxl;obtain ⟨a0,a1,a2,a3,rfl⟩:=AfI hl;have e0:=hx 0 _ rfl;rw [List.getElem?_eq_getElem (show 0<xs.length by omega)] at e0
 try simp only [Xh,List.drop_zero,List.drop_succ_cons,List.take_succ_cons,List.take_zero] at e0
 obtain ⟨x0,rfl,o0⟩:=MB e0;have e1:=hx 1 _ rfl;rw [List.getElem?_eq_getElem (show 1<xs.length by omega)] at e1
 try simp only [Xh,List.drop_zero,List.drop_succ_cons,List.take_succ_cons,List.take_zero] at e1
 obtain ⟨x1,rfl,o1⟩:=MB e1;have e2:=hx 2 _ rfl;rw [List.getElem?_eq_getElem (show 2<xs.length by omega)] at e2
 try simp only [Xh,List.drop_zero,List.drop_succ_cons,List.take_succ_cons,List.take_zero] at e2
 obtain ⟨x2,rfl,o2⟩:=MB e2;have e3:=hx 3 _ rfl;rw [List.getElem?_eq_getElem (show 3<xs.length by omega)] at e3
 try simp only [Ae6,List.drop_zero,List.drop_succ_cons,List.take_succ_cons,List.take_zero] at e3
 obtain ⟨s3,q3,-,f3⟩:=DataW.trod_int underlying3 e3;obtain rfl:a3= .int .i64 s3:=Afk q3;exact ⟨⟨x0,x1,x2,s3⟩,⟨o0,o1,o2,f3⟩,rfl⟩
theorem Ags {v:Value} {d:DataW H} {ps:List MemPlace} {r:Reach} {b0:Nat} (hval:Value.okWide prog w r b0 24 v) (h:DataW.Trod enc prog w 0 sp held 24 v d ps):
  ∃ p:C6,v= .agg (By p)/\Eb w p:=by
 simp only [Value.okWide,underlying24] at hval;obtain ⟨cs,rfl,-,-⟩:=hval;obtain ⟨fuel,hf⟩:=h;obtain ⟨p,hp,hc⟩:=Adc hf;refine ⟨p,?_,hp⟩;have:cs.toList=(By p).toList:=hc;rw [Array.toList_inj.1 this]
end
end Go.Proofs.YtonomfeipkdmhaaGreatDoor
