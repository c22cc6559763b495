/- Part 26: lemmas. -/
import Derived.Test.YtonomfeipkdmhaaGreatDoorK25
set_option linter.unusedVariables false
set_option linter.unusedSimpArgs false
set_option maxRecDepth 100000
set_option maxHeartbeats 16000000
namespace Go.Proofs.YtonomfeipkdmhaaGreatDoor
open Go.RowKit Go.Proofs.Tryz
structure Dq where
 hs:Bool
 sch:ByteArray
 rest:ByteArray
 hq:Bool
 qry:ByteArray
 hf:Bool
 frg:ByteArray
def Av (p:Dq):Array Value:= #[.bool p.hs,.string p.sch,.string p.rest,.bool p.hq,.string p.qry,.bool p.hf,.string p.frg]
def Dq.l (p:Dq):B9:=⟨p.hs,p.sch.toList,p.rest.toList,p.hq,p.qry.toList,p.hf,p.frg.toList⟩
theorem Cm (p:Dq):(prog.info? 72).map (·.size)=some (Av p).size:=by show _=some 7;kernel_rfl
structure Mn (w wx:World) (A:Array Value) (TA:TypeId) (B:Array Value) (TB:TypeId):Prop where
 below:Below w.heap.size w wx
 a:AJ wx w.heap.size A TA
 b:AJ wx (w.heap.size+1) B TB
theorem Mn.start (w:World) (A:Array Value) (TA:TypeId) (B:Array Value) (TB:TypeId):Mn w ((w.alloc (.cells A TA)).alloc (.cells B TB)) A TA B TB:=
 ⟨((Below.refl _ _).alloc (Nat.le_refl _) _).alloc (by simp) _,(AJ.new _ _ _).alloc _,by have:=AJ.new (w.alloc (.cells A TA)) B TB;rwa [Ai] at this⟩
theorem Mn.keep {w wx w':World} {A:Array Value} {TA:TypeId} {B:Array Value} {TB:TypeId} (h:Mn w wx A TA B TB) (hb:Below wx.heap.size wx w'):Mn w w' A TA B TB:=⟨h.below.next hb,h.a.keep hb,h.b.keep hb⟩
theorem Mn.drew {w wx:World} {A:Array Value} {TA:TypeId} {B:Array Value} {TB:TypeId} (h:Mn w wx A TA B TB):Mn w wx.drew A TA B TB:=h.keep (Below.refl _ _).drew
theorem Mn.setB {w wx:World} {A:Array Value} {TA:TypeId} {B:Array Value} {TB:TypeId} (h:Mn w wx A TA B TB) (C:Array Value):Mn w (wx.setRow (w.heap.size+1) C) A TA C TB:=
 ⟨Ae h.below (by omega) _,h.a.other (by omega) _,h.b.set _⟩
theorem Hw {fn:Func} {p:Tmp} {ty:TypeId} (h:fn.results= #[.cell p ty]) (tmps:Array Value) (P:Program) (w:World):
  (results fn tmps).run P w=((asAddr (tmps.getD p undef)).run P w).andThen fun a w₁=>(loadVar ty a).run P w₁:=by
 simp only [results,h];simp [Sem.run_bind,Result.andThen]
theorem Bc {f:Func} {R:Ending->World->Prop} {a:Act} {w:World} {g:Nat} {c:Array Value} {p:Nat} (hf:f.results= #[.cell p 34]) (h2:a.tmps.getD p undef= .pointer (some ⟨g,0,none⟩)) (hd:a.defers=[])
  (hg:AJ w g c 34) (hi:(prog.info? 34).map (·.size)=some c.size) (hR:R (.returned (.agg c)) w):
  bodyPost prog f R .ret a w:=by
 refine bodyPost_ret (v:= .agg c) ?_ hd hR;rw [Hw hf,h2];simp [asAddr,Result.andThen,run_loadVar_row (P:=prog) w g _ 34 _ _ _ hg underlying34 rfl hi]
def Dw (sch:ByteArray) (p:Dq) (q f:ByteArray):Al:=⟨sch,⟨#[]⟩,⟨#[]⟩,Am .none,false,0,false,⟨#[]⟩,none,0,[],p.hq,q,p.hf,f⟩
theorem Hs {sch:ByteArray} {p:Dq} {q f:ByteArray} (h1:q.toList=A1 (GU sch.toList) p.qry.toList) (h2:f.toList=A1 1 p.frg.toList) (k1:p.hq=false->p.qry.toList=[]) (k2:p.hf=false->p.frg.toList=[]):Gt (Dw sch p q f) (Ax sch.toList p.l):=by
 refine ⟨rfl,toList_mk [],toList_mk [],rfl,rfl,rfl,rfl,toList_mk [],rfl,?_,?_,?_,?_⟩
 ·show p.hq=(Hh p.hq _).isSome
  cases p.hq<;>rfl
 ·show q.toList=(Hh p.hq (A1 _ p.qry.toList)).getD [];rw [h1];cases h:p.hq
  ·rw [k1 h];rfl
  ·rfl
 ·show p.hf=(Hh p.hf _).isSome
  cases p.hf<;>rfl
 ·show f.toList=(Hh p.hf (A1 1 p.frg.toList)).getD [];rw [h2];cases h:p.hf
  ·rw [k2 h];rfl
  ·rfl
theorem AJ.partAll {w:World} {g:Nat} {p:Dq} (h:AJ w g (Av p) 72):AJ w g (Av p) 72/\w.cell? ⟨g,0,none⟩=some (.bool p.hs)/\w.cell? ⟨g,1,none⟩=some (.string p.sch)/\w.cell? ⟨g,2,none⟩=some (.string p.rest)/\w.cell? ⟨g,3,none⟩=some (.bool p.hq)/\w.cell? ⟨g,4,none⟩=some (.string p.qry)/\w.cell? ⟨g,5,none⟩=some (.bool p.hf)/\w.cell? ⟨g,6,none⟩=some (.string p.frg):=⟨h,(h.at 0).trans rfl,(h.at 1).trans rfl,(h.at 2).trans rfl,(h.at 3).trans rfl,(h.at 4).trans rfl,(h.at 5).trans rfl,(h.at 6).trans rfl⟩
def VS (sch:ByteArray) (p:Dq) (w:World) (e:Ending) (w':World):Prop:=∃ q f:ByteArray,e= .returned (.agg (Ab (Dw sch p q f)))/\Hid (q.toList=A1 (GU sch.toList) p.qry.toList)/\Hid (f.toList=A1 1 p.frg.toList)/\Below w.heap.size w w'
theorem Kf (sch:ByteArray) (p:Dq) (w:World) (hq:p.qry.size<=4294967296) (hf:p.frg.size<=4294967296):Calls prog 147 #[.string sch,.agg (Av p)] w (VS sch p w):=by
 have hI:=Mn.start w (Av p) 72 (Ab zS) 34;have hsp:=H0 (fun w=>DN sch w)
 have hen:=H0 (fun k (hk:k<6) w=>DR p.qry k hk w hq)
 have hen2:=H0 (fun w=>DR p.frg 1 (by decide) w hf)
 have hset:GU sch.toList=if Aj sch.toList=true then 3 else 2:=rfl
 unfold VS;obtain ⟨SP,hSP⟩:∃ b,Aj sch.toList=b:=⟨_,rfl⟩;rw [hSP] at hset hsp;obtain ⟨k,hk⟩:=N2 (GU sch.toList);rw [hk] at hset⊢;replace hk:=H0 hk;replace hSP:=H0 hSP;go_enter func147,ntmps147;go_upto_region 1 with (fail)
 refine Ar (R:=fun wx=>Mn w wx (Av p) 72 (Ab zS) 34) hI ?_
 clear hI;intro w1 hI;go_upto_if 7 with (go_at_call 145;refine (hsp.out _).mono ?_;rintro e w' ⟨rfl,rfl⟩)
 go_cut [5] (fun s5 wx=>s5= .int .i64 (k:Int)/\k<6/\Mn w wx (Av p) 72 (Ab zS) 34)
 case first=>
  cases SP with
  | true=>
   have hk3:k=3:=hset;clear hset;subst hk3;go_wp2_with fail;go_meet;exact ⟨rfl,by decide,hI⟩
  | false=>
   have hk2:k=2:=hset;clear hset;subst hk2;go_wp2_with fail;go_meet;exact ⟨rfl,by decide,hI⟩
 case rest=>
  clear hI hset hsp;obtain ⟨rfl,hk6,hI⟩:=hcut;go_upto_region 4 with (fail)
  replace hI:=hI.drew;refine wp_region_noPanic ?_;refine wp_region_held_drew (S:=fun w'=>AJ w' w.heap.size (Av p) 72/\w'.cell? ⟨w.heap.size,0,none⟩=some (.bool p.hs)/\w'.cell? ⟨w.heap.size,1,none⟩=some (.string p.sch)/\w'.cell? ⟨w.heap.size,2,none⟩=some (.string p.rest)/\w'.cell? ⟨w.heap.size,3,none⟩=some (.bool p.hq)/\w'.cell? ⟨w.heap.size,4,none⟩=some (.string p.qry)/\w'.cell? ⟨w.heap.size,5,none⟩=some (.bool p.hf)/\w'.cell? ⟨w.heap.size,6,none⟩=some (.string p.frg)) (by kernel_rfl) (hI.a.partAll) (fun hHeld=> ?_)
  refine T0 0 8 ?_ hHeld ?_ ?_;rotate_left
  ·intro w hSw;(try dsimp only at hSw);go_simp;try with_reducible rfl
  try simp only [P3]
  refine T0 1 9 ?_ hHeld ?_ ?_;rotate_left
  ·intro w hSw;(try dsimp only at hSw);go_simp;try with_reducible rfl
  try simp only [P3]
  refine T0 2 10 ?_ hHeld ?_ ?_;rotate_left
  ·intro w hSw;(try dsimp only at hSw);go_simp;try with_reducible rfl
  try simp only [P3]
  refine T0 3 11 ?_ hHeld ?_ ?_;rotate_left
  ·intro w hSw;(try dsimp only at hSw);go_simp;try with_reducible rfl
  try simp only [P3]
  refine T0 4 12 ?_ hHeld ?_ ?_;rotate_left
  ·intro w hSw;(try dsimp only at hSw);go_simp;try with_reducible rfl
  try simp only [P3]
  refine T0 5 13 ?_ hHeld ?_ ?_;rotate_left
  ·intro w hSw;(try dsimp only at hSw);go_simp;try with_reducible rfl
  try simp only [P3]
  refine T0 7 15 ?_ hHeld ?_ ?_;rotate_left
  ·intro w hSw;(try dsimp only at hSw);go_simp;try with_reducible rfl
  try simp only [P3]
  refine T0 8 16 ?_ hHeld ?_ ?_;rotate_left
  ·intro w hSw;(try dsimp only at hSw);go_simp;try with_reducible rfl
  try simp only [P3]
  refine T0 9 17 ?_ hHeld ?_ ?_;rotate_left
  ·intro w hSw;(try dsimp only at hSw);go_simp;try with_reducible rfl
  try simp only [P3]
  refine T0 10 18 ?_ hHeld ?_ ?_;rotate_left
  ·intro w hSw;(try dsimp only at hSw);go_simp;try with_reducible rfl
  try simp only [P3]
  refine wpAnyH_ready (rs:=[6]) (by kernel_rfl) (by simp) ?_
  refine AllReadyH.cons rfl (fun K hK=> ?_) AllReadyH.nil
  go_simp;refine (hen.out k hk6 _).mono ?_;rintro e w2 ⟨q,rfl,hqv,hb⟩;replace hI:=hI.keep hb;clear hb hHeld;go_wp2_with fail;refine hK.out _ _ (hI.a.partAll) (fun hHeld=> ?_)
  clear hK K
  try simp only [P3]
  refine wpAnyH_ready (rs:=[11]) (by kernel_rfl) (by simp) ?_
  refine AllReadyH.cons rfl (fun K hK=> ?_) AllReadyH.nil
  go_simp;refine (hen2.out _).mono ?_;rintro e w3 ⟨f,rfl,hfv,hb⟩;replace hI:=hI.keep hb;clear hb hHeld;go_wp2_with fail;refine hK.out _ _ (hI.a.partAll) (fun hHeld=> ?_)
  clear hK K
  try simp only [P3]
  refine wpAnyH_ready (rs:=[12]) (by kernel_rfl) (by simp) ?_
  refine AllReadyH.cons rfl (fun K hK=> ?_) AllReadyH.nil
  refine AO (by kernel_rfl) (fun Q' hQ'=> ?_)
  refine wpList_buildTo rfl _ _ rfl (some 20) rfl (Ab (Dw sch p q f)) (by kernel_rfl) ?_
  refine hQ' _ _ ?_;refine hK.out _ _ (hI.a.partAll) (fun hHeld=> ?_)
  clear hK K hQ' Q'
  try simp only [P3]
  refine wpAnyH_ready (rs:=[13]) (by kernel_rfl) (by simp) ?_
  refine AllReadyH.cons rfl (fun K hK=> ?_) AllReadyH.nil
  refine AO (by kernel_rfl) (fun Q' hQ'=> ?_)
  refine wpList_store_row rfl 34 _ _ rfl (w.heap.size+1) (Ab (Dw sch p q f)) rfl rfl 34 _ hI.b (Ac _) rfl (As _) ?_;replace hI:=hI.setB (Ab (Dw sch p q f));refine hQ' _ _ ?_;refine hK.out _ _ (hI.a.partAll) (fun hHeld=> ?_)
  clear hK K hQ' Q'
  try simp only [P3]
  refine wpAnyH_done (by kernel_rfl) ?_ _
  refine NoPanic.normal ?_;go_wp2_with fail;refine Bc rfl rfl rfl hI.b (Ac _) ?_;exact ⟨q,f,rfl,hqv,hfv,hI.below⟩
def BJ (S B:Al):Al:=⟨S.scheme,B.user,B.pass,B.host,B.hasPort,B.port,S.flatP,S.flat,S.pathA,S.pathC,S.path,S.hasQuery,S.query,S.hasFrag,S.frag⟩
def Yd (S B:Al):Al:=⟨S.scheme,B.user,S.pass,S.host,S.hasPort,S.port,S.flatP,S.flat,S.pathA,S.pathC,S.path,S.hasQuery,S.query,S.hasFrag,S.frag⟩
def XX (S B:Al):Al:=⟨S.scheme,B.user,B.pass,S.host,S.hasPort,S.port,S.flatP,S.flat,S.pathA,S.pathC,S.path,S.hasQuery,S.query,S.hasFrag,S.frag⟩
def X6 (S B:Al):Al:=⟨S.scheme,B.user,B.pass,B.host,S.hasPort,S.port,S.flatP,S.flat,S.pathA,S.pathC,S.path,S.hasQuery,S.query,S.hasFrag,S.frag⟩
def WL (S B:Al):Al:=⟨S.scheme,B.user,B.pass,B.host,B.hasPort,S.port,S.flatP,S.flat,S.pathA,S.pathC,S.path,S.hasQuery,S.query,S.hasFrag,S.frag⟩
theorem AJ.host {w:World} {g:Nat} {u:Al} {T:TypeId} (h:AJ w g (Ab u) T):w.rangeAt g 3 (An u.host).toList:=h.range 3 _ (fun j hj=>by
 match j,hj with
 | 0,_=>rfl
 | 1,_=>rfl
 | 2,_=>rfl
 | 3,_=>rfl
 | 4,_=>rfl
 | 5,_=>rfl
 | 6,_=>rfl
 | 7,_=>rfl
 | 8,_=>rfl
 | 9,_=>rfl
 | 10,_=>rfl
 | n+11,h=>exact absurd h (by show ¬ n+11<11;omega))
theorem Gv (h:CL):(prog.info? 32).map (·.size)=some (An h).toList.length:=by rw [AN];rfl
def Afp (g:Nat) (c:Array Value) (w:World) (e:Ending) (w':World):Prop:=e= .returned (.tuple #[])/\AJ w' g c 34/\BI (fun k=>k=g) w w'
structure GB (w wx:World) (g:Nat) (G:Array Value) (A:Array Value):Prop where
 ne:w.heap.size≠g
 chg:BI (fun k=>k=g) w wx
 g:AJ wx g G 34
 a:AJ wx w.heap.size A 34
theorem GB.start {w:World} {g:Nat} {G:Array Value} (h:AJ w g G 34) (A:Array Value):GB w (w.alloc (.cells A 34)) g G A:=
 ⟨Nat.ne_of_gt h.lt,(BI.refl _ _).alloc _,h.alloc _,AJ.new _ _ _⟩
theorem GB.keep {w wx w':World} {g:Nat} {G A:Array Value} (h:GB w wx g G A) (hb:Below wx.heap.size wx w'):GB w w' g G A:=⟨h.ne,h.chg.next hb,h.g.keep hb,h.a.keep hb⟩
theorem GB.drew {w wx:World} {g:Nat} {G A:Array Value} (h:GB w wx g G A):GB w wx.drew g G A:=h.keep (Below.refl _ _).drew
theorem GB.set {w wx:World} {g:Nat} {G A:Array Value} (h:GB w wx g G A) (C:Array Value):GB w (wx.setRow g C) g C A:=⟨h.ne,h.chg.row rfl _,h.g.set _,h.a.other h.ne _⟩
theorem AJ.who {w:World} {g:Nat} {B:Al} (h:AJ w g (Ab B) 34):AJ w g (Ab B) 34/\w.cell? ⟨g,1,none⟩=some (.string B.user)/\w.cell? ⟨g,2,none⟩=some (.string B.pass)/\w.cell? ⟨g,14,none⟩=some (.bool B.hasPort)/\w.cell? ⟨g,15,none⟩=some (.int .i64 B.port):=⟨h,(h.at 1).trans rfl,(h.at 2).trans rfl,(h.at 14).trans rfl,(h.at 15).trans rfl⟩
theorem IG (g:Nat) (S B:Al) (w:World) (hg:AJ w g (Ab S) 34):Calls prog 220 #[.pointer (some ⟨g,0,none⟩),.agg (Ab B)] w (Afp g (Ab (BJ S B)) w):=by
 have hI:=GB.start hg (Ab B);clear hg;go_enter func220,ntmps220;go_upto_region 1 with (fail)
 refine Ar (R:=fun wx=>GB w wx g (Ab S) (Ab B)) hI ?_
 clear hI;intro w1 hI;replace hI:=hI.drew;refine wp_region_noPanic ?_;refine wp_region_held_drew (S:=fun w'=>AJ w' w.heap.size (Ab B) 34/\w'.cell? ⟨w.heap.size,1,none⟩=some (.string B.user)/\w'.cell? ⟨w.heap.size,2,none⟩=some (.string B.pass)/\w'.cell? ⟨w.heap.size,14,none⟩=some (.bool B.hasPort)/\w'.cell? ⟨w.heap.size,15,none⟩=some (.int .i64 B.port)) (by kernel_rfl) (hI.a.who) (fun hHeld=> ?_)
 refine T0 0 4 ?_ hHeld ?_ ?_;rotate_left
 ·intro w hSw;(try dsimp only at hSw);go_simp;try with_reducible rfl
 try simp only [P3]
 refine T0 1 5 ?_ hHeld ?_ ?_;rotate_left
 ·intro w hSw;(try dsimp only at hSw);go_simp;try with_reducible rfl
 try simp only [P3]
 refine T0 2 6 ?_ hHeld ?_ ?_;rotate_left
 ·intro w hSw;(try dsimp only at hSw);go_simp;try with_reducible rfl
 try simp only [P3]
 refine T0 3 7 ?_ hHeld ?_ ?_;rotate_left
 ·intro w hSw;(try dsimp only at hSw);go_simp;try with_reducible rfl
 try simp only [P3]
 refine T0 4 8 ?_ hHeld ?_ ?_;rotate_left
 ·intro w hSw;(try dsimp only at hSw);go_simp;try with_reducible rfl
 try simp only [P3]
 refine T0 5 9 ?_ hHeld ?_ ?_;rotate_left
 ·intro w hSw;(try dsimp only at hSw);go_simp;try with_reducible rfl
 try simp only [P3]
 refine T0 6 10 ?_ hHeld ?_ ?_;rotate_left
 ·intro w hSw;(try dsimp only at hSw);go_simp;try with_reducible rfl
 try simp only [P3]
 refine T0 7 11 ?_ hHeld ?_ ?_;rotate_left
 ·intro w hSw;(try dsimp only at hSw);go_simp;try with_reducible rfl
 try simp only [P3]
 refine T0 8 12 ?_ hHeld ?_ ?_;rotate_left
 ·intro w hSw;(try dsimp only at hSw);go_simp;try with_reducible rfl
 try simp only [P3]
 refine T0 9 13 ?_ hHeld ?_ ?_;rotate_left
 ·intro w hSw;(try dsimp only at hSw);go_simp;try with_reducible rfl
 try simp only [P3]
 refine wpAnyH_take (i:=10) (oi:=⟨some 14,_,_,_,_,_⟩) (v:= .agg (An B.host).toList.toArray) rfl (by kernel_rfl) (by kernel_rfl) (by kernel_rfl) (fun _ _ _ h=>h) (yieldsIf_load_mid (by rfl) 32 _ rfl w.heap.size 3 rfl (An B.host).toList _ (fun _ h=>h.1.host) underlying32 rfl (Gv _)) hHeld ?_
 try simp only [P3]
 simp only [Array.toArray_toList];refine T0 11 15 ?_ hHeld ?_ ?_;rotate_left
 ·intro w hSw;(try dsimp only at hSw);go_simp;try with_reducible rfl
 try simp only [P3]
 refine T0 12 16 ?_ hHeld ?_ ?_;rotate_left
 ·intro w hSw;(try dsimp only at hSw);go_simp;try with_reducible rfl
 try simp only [P3]
 refine T0 13 17 ?_ hHeld ?_ ?_;rotate_left
 ·intro w hSw;(try dsimp only at hSw);go_simp;try with_reducible rfl
 try simp only [P3]
 refine T0 14 18 ?_ hHeld ?_ ?_;rotate_left
 ·intro w hSw;(try dsimp only at hSw);go_simp;try with_reducible rfl
 try simp only [P3]
 refine T0 15 19 ?_ hHeld ?_ ?_;rotate_left
 ·intro w hSw;(try dsimp only at hSw);go_simp;try with_reducible rfl
 try simp only [P3]
 refine T0 16 20 ?_ hHeld ?_ ?_;rotate_left
 ·intro w hSw;(try dsimp only at hSw);go_simp;try with_reducible rfl
 try simp only [P3]
 refine wpAnyH_ready (rs:=[17]) (by kernel_rfl) (by simp) ?_
 refine AllReadyH.cons (o:=⟨none,.store 9 (.tmp 20) (.tmp 10),_,_,_,_⟩) rfl (fun K hK=> ?_) AllReadyH.nil
 refine AO (by kernel_rfl) (fun Q' hQ'=> ?_)
 refine Ad rfl _ _ _ rfl g 1 rfl (.string B.user) rfl rfl _ (Ab (S)) (Ab (Yd S B)) hI.g Fy (by show 1+1<=23;decide) rfl (by kernel_rfl) ?_
 replace hI:=hI.set (Ab (Yd S B));refine hQ' _ _ ?_;refine hK.out _ _ (hI.a.who) (fun hHeld=> ?_)
 clear hK K hQ' Q'
 try simp only [P3]
 refine T0 18 21 ?_ hHeld ?_ ?_;rotate_left
 ·intro w hSw;(try dsimp only at hSw);go_simp;try with_reducible rfl
 try simp only [P3]
 refine T0 19 22 ?_ hHeld ?_ ?_;rotate_left
 ·intro w hSw;(try dsimp only at hSw);go_simp;try with_reducible rfl
 try simp only [P3]
 refine wpAnyH_ready (rs:=[20]) (by kernel_rfl) (by simp) ?_
 refine AllReadyH.cons (o:=⟨none,.store 9 (.tmp 22) (.tmp 12),_,_,_,_⟩) rfl (fun K hK=> ?_) AllReadyH.nil
 refine AO (by kernel_rfl) (fun Q' hQ'=> ?_)
 refine Ad rfl _ _ _ rfl g 2 rfl (.string B.pass) rfl rfl _ (Ab (Yd S B)) (Ab (XX S B)) hI.g Fy (by show 2+1<=23;decide) rfl (by kernel_rfl) ?_
 replace hI:=hI.set (Ab (XX S B));refine hQ' _ _ ?_;refine hK.out _ _ (hI.a.who) (fun hHeld=> ?_)
 clear hK K hQ' Q'
 try simp only [P3]
 refine T0 21 23 ?_ hHeld ?_ ?_;rotate_left
 ·intro w hSw;(try dsimp only at hSw);go_simp;try with_reducible rfl
 try simp only [P3]
 refine T0 22 24 ?_ hHeld ?_ ?_;rotate_left
 ·intro w hSw;(try dsimp only at hSw);go_simp;try with_reducible rfl
 try simp only [P3]
 refine wpAnyH_ready (rs:=[23]) (by kernel_rfl) (by simp) ?_
 refine AllReadyH.cons (o:=⟨none,.store 32 (.tmp 24) (.tmp 14),_,_,_,_⟩) rfl (fun K hK=> ?_) AllReadyH.nil
 refine AO (by kernel_rfl) (fun Q' hQ'=> ?_)
 refine BF rfl _ _ _ rfl g 3 rfl (.agg (An B.host)) rfl (An B.host) rfl _ (Ab (XX S B)) (Ab (X6 S B)) hI.g AN (by show 3+11<=23;decide) (A2 _) (by kernel_rfl) ?_
 replace hI:=hI.set (Ab (X6 S B));refine hQ' _ _ ?_;refine hK.out _ _ (hI.a.who) (fun hHeld=> ?_)
 clear hK K hQ' Q'
 try simp only [P3]
 refine T0 24 25 ?_ hHeld ?_ ?_;rotate_left
 ·intro w hSw;(try dsimp only at hSw);go_simp;try with_reducible rfl
 try simp only [P3]
 refine T0 25 26 ?_ hHeld ?_ ?_;rotate_left
 ·intro w hSw;(try dsimp only at hSw);go_simp;try with_reducible rfl
 try simp only [P3]
 refine wpAnyH_ready (rs:=[26]) (by kernel_rfl) (by simp) ?_
 refine AllReadyH.cons (o:=⟨none,.store 4 (.tmp 26) (.tmp 16),_,_,_,_⟩) rfl (fun K hK=> ?_) AllReadyH.nil
 refine AO (by kernel_rfl) (fun Q' hQ'=> ?_)
 refine Ad rfl _ _ _ rfl g 14 rfl (.bool B.hasPort) rfl rfl _ (Ab (X6 S B)) (Ab (WL S B)) hI.g Jt (by show 14+1<=23;decide) rfl (by kernel_rfl) ?_
 replace hI:=hI.set (Ab (WL S B));refine hQ' _ _ ?_;refine hK.out _ _ (hI.a.who) (fun hHeld=> ?_)
 clear hK K hQ' Q'
 try simp only [P3]
 refine T0 27 27 ?_ hHeld ?_ ?_;rotate_left
 ·intro w hSw;(try dsimp only at hSw);go_simp;try with_reducible rfl
 try simp only [P3]
 refine T0 28 28 ?_ hHeld ?_ ?_;rotate_left
 ·intro w hSw;(try dsimp only at hSw);go_simp;try with_reducible rfl
 try simp only [P3]
 refine wpAnyH_ready (rs:=[29]) (by kernel_rfl) (by simp) ?_
 refine AllReadyH.cons (o:=⟨none,.store 3 (.tmp 28) (.tmp 18),_,_,_,_⟩) rfl (fun K hK=> ?_) AllReadyH.nil
 refine AO (by kernel_rfl) (fun Q' hQ'=> ?_)
 refine Ad rfl _ _ _ rfl g 15 rfl (.int .i64 B.port) rfl rfl _ (Ab (WL S B)) (Ab (BJ S B)) hI.g To (by show 15+1<=23;decide) rfl (by kernel_rfl) ?_
 replace hI:=hI.set (Ab (BJ S B));refine hQ' _ _ ?_;refine hK.out _ _ (hI.a.who) (fun hHeld=> ?_)
 clear hK K hQ' Q'
 try simp only [P3]
 refine wpAnyH_done (by kernel_rfl) ?_ _
 refine NoPanic.normal ?_;go_wp2_with fail;go_end0;exact ⟨rfl,hI.g,hI.chg⟩
def Ak (S:Al) (pa:Option Addr) (c:Nat) (l:List ByteArray):Al:=⟨S.scheme,S.user,S.pass,S.host,S.hasPort,S.port,S.flatP,S.flat,pa,c,l,S.hasQuery,S.query,S.hasFrag,S.frag⟩
def IR (S B:Al):Al:=⟨S.scheme,S.user,S.pass,S.host,S.hasPort,S.port,S.flatP,S.flat,S.pathA,S.pathC,S.path,B.hasQuery,B.query,S.hasFrag,S.frag⟩
def YB (S B:Al):Al:=⟨S.scheme,S.user,S.pass,S.host,S.hasPort,S.port,S.flatP,S.flat,S.pathA,S.pathC,S.path,B.hasQuery,S.query,S.hasFrag,S.frag⟩
def Wj (g:Nat) (S B:Al) (w:World) (e:Ending) (w':World):Prop:=∃ (pa:Option Addr) (c:Nat),e= .returned (.tuple #[])/\AJ w' g (Ab (if S.hasQuery=true then Ak S pa c B.path else IR (Ak S pa c B.path) B)) 34/\AI w' w.heap.size 9 (.slice pa B.path.length c) B.path/\BI (fun k=>k=g) w w'
theorem AJ.qry {w:World} {g:Nat} {B:Al} (h:AJ w g (Ab B) 34):AJ w g (Ab B) 34/\w.cell? ⟨g,18,none⟩=some (.slice B.pathA B.path.length B.pathC)/\w.cell? ⟨g,19,none⟩=some (.bool B.hasQuery)/\w.cell? ⟨g,20,none⟩=some (.string B.query):=⟨h,(h.at 18).trans rfl,(h.at 19).trans rfl,(h.at 20).trans rfl⟩
theorem AI.row {w:World} {B:Nat} {E:TypeId} {v:Value} {l:List ByteArray} (h:AI w B E v l) {g:Nat} (hg:g<B) (C:Array Value):AI (w.setRow g C) B E v l:=by
 refine ⟨h.1,?_⟩;rcases h.2 with hn | ⟨g2,cap,cur,rfl,hg2,hh,rest⟩
 ·exact .inl hn
 ·exact .inr ⟨g2,cap,cur,rfl,hg2,by rw [D8 _ _ _ _ (by omega)];exact hh,rest⟩
theorem LG (g:Nat) (S B:Al) (w:World) (hg:AJ w g (Ab S) 34) (hp:DJ w B.pathA B.path.length B.pathC B.path) (hn:B.path.length<=1000000000):Calls prog 212 #[.pointer (some ⟨g,0,none⟩),.agg (Ab B)] w (Wj g S B w):=by
 have hI:=GB.start hg (Ab B);have hp1:DJ (w.alloc (.cells (Ab B) 34)) B.pathA B.path.length B.pathC B.path:=hp.below ((Below.refl _ _).alloc (Nat.le_refl _) _) (Nat.le_refl _);clear hg hp;obtain ⟨w1,hw1⟩:∃ w1,w.alloc (.cells (Ab B) 34)=w1:=⟨_,rfl⟩;rw [hw1] at hI hp1;have hcl:=H0 (GM B.pathA B.path.length B.pathC B.path w1 hp1 hn);clear hp1;have hgl:=hI.g.lt;have hs1:=hI.chg.size;have x18:=hI.a.qry.2.1;unfold Wj;obtain ⟨hq,hqv⟩:∃ b,S.hasQuery=b:=⟨_,rfl⟩;rw [hqv];go_enter func212,ntmps212;go_wp2_with fail;clear hw1 x18;refine hcl.out.mono ?_;rintro e w2 ⟨v,rfl,ho,hb⟩;replace hI:=hI.keep hb;obtain ⟨pa,c,rfl,hlc,-⟩:=BA ho;have hgo:=hI.g;replace hI:=hI.set (Ab (Ak S pa c B.path));replace ho:=AI.row ho hgl (Ab (Ak S pa c B.path));have x19:=(hI.g.at 19).trans (show (Ab (Ak S pa c B.path))[19]? =some (.bool S.hasQuery) from rfl);rw [hqv] at x19;replace hqv:=H0 hqv;replace hgl:=H0 hgl
 cases hq with
 | true=>
  go_wp2_with (refine Ad rfl _ _ _ rfl g 18 rfl (.slice pa B.path.length c) rfl rfl _ (Ab S) (Ab (Ak S pa c B.path)) hgo Bn (by show 18+1<=23;decide) rfl (by kernel_rfl) ?_)
  go_end0;exact ⟨rfl,pa,c,hI.g,Dv ho hs1,hI.chg⟩
 | false=>
  go_upto_region 3 with (refine Ad rfl _ _ _ rfl g 18 rfl (.slice pa B.path.length c) rfl rfl _ (Ab S) (Ab (Ak S pa c B.path)) hgo Bn (by show 18+1<=23;decide) rfl (by kernel_rfl) ?_)
  refine Ar (R:=fun wx=>GB w wx g (Ab (Ak S pa c B.path)) (Ab B)/\AI wx w1.heap.size 9 (.slice pa B.path.length c) B.path) ⟨hI,ho⟩ ?_
  clear hI ho x19 hgo;rintro w3 ⟨hI,ho⟩;have ho0:=ho;clear ho;have ho:Hid (AI w3.drew w1.heap.size 9 (.slice pa B.path.length c) B.path):=H0 (Bp ho0 (Below.refl _ _).drew (Nat.le_refl _));clear ho0;replace hI:=hI.drew;refine wp_region_noPanic ?_;refine wp_region_held_drew (S:=fun w'=>AJ w' w.heap.size (Ab B) 34/\w'.cell? ⟨w.heap.size,18,none⟩=some (.slice B.pathA B.path.length B.pathC)/\w'.cell? ⟨w.heap.size,19,none⟩=some (.bool B.hasQuery)/\w'.cell? ⟨w.heap.size,20,none⟩=some (.string B.query)) (by kernel_rfl) (hI.a.qry) (fun hHeld=> ?_)
  refine T0 0 15 ?_ hHeld ?_ ?_;rotate_left
  ·intro w hSw;(try dsimp only at hSw);go_simp;try with_reducible rfl
  try simp only [P3]
  refine T0 1 16 ?_ hHeld ?_ ?_;rotate_left
  ·intro w hSw;(try dsimp only at hSw);go_simp;try with_reducible rfl
  try simp only [P3]
  refine T0 2 17 ?_ hHeld ?_ ?_;rotate_left
  ·intro w hSw;(try dsimp only at hSw);go_simp;try with_reducible rfl
  try simp only [P3]
  refine T0 3 18 ?_ hHeld ?_ ?_;rotate_left
  ·intro w hSw;(try dsimp only at hSw);go_simp;try with_reducible rfl
  try simp only [P3]
  refine T0 4 19 ?_ hHeld ?_ ?_;rotate_left
  ·intro w hSw;(try dsimp only at hSw);go_simp;try with_reducible rfl
  try simp only [P3]
  refine T0 5 20 ?_ hHeld ?_ ?_;rotate_left
  ·intro w hSw;(try dsimp only at hSw);go_simp;try with_reducible rfl
  try simp only [P3]
  refine T0 6 21 ?_ hHeld ?_ ?_;rotate_left
  ·intro w hSw;(try dsimp only at hSw);go_simp;try with_reducible rfl
  try simp only [P3]
  refine T0 7 22 ?_ hHeld ?_ ?_;rotate_left
  ·intro w hSw;(try dsimp only at hSw);go_simp;try with_reducible rfl
  try simp only [P3]
  refine wpAnyH_ready (rs:=[8]) (by kernel_rfl) (by simp) ?_
  refine AllReadyH.cons rfl (fun K hK=> ?_) AllReadyH.nil
  refine AO (by kernel_rfl) (fun Q' hQ'=> ?_)
  refine Ad rfl _ _ _ rfl g 19 rfl (.bool B.hasQuery) rfl rfl _ (Ab (Ak S pa c B.path)) (Ab (YB (Ak S pa c B.path) B)) hI.g Jt (by show 19+1<=23;decide) rfl (by kernel_rfl) ?_
  replace hI:=hI.set (Ab (YB (Ak S pa c B.path) B));refine hQ' _ _ ?_;refine hK.out _ _ (hI.a.qry) (fun hHeld=> ?_)
  clear hK K hQ' Q'
  try simp only [P3]
  refine T0 9 23 ?_ hHeld ?_ ?_;rotate_left
  ·intro w hSw;(try dsimp only at hSw);go_simp;try with_reducible rfl
  try simp only [P3]
  refine T0 10 24 ?_ hHeld ?_ ?_;rotate_left
  ·intro w hSw;(try dsimp only at hSw);go_simp;try with_reducible rfl
  try simp only [P3]
  refine wpAnyH_ready (rs:=[11]) (by kernel_rfl) (by simp) ?_
  refine AllReadyH.cons rfl (fun K hK=> ?_) AllReadyH.nil
  refine AO (by kernel_rfl) (fun Q' hQ'=> ?_)
  refine Ad rfl _ _ _ rfl g 20 rfl (.string B.query) rfl rfl _ (Ab (YB (Ak S pa c B.path) B)) (Ab (IR (Ak S pa c B.path) B)) hI.g Fy (by show 20+1<=23;decide) rfl (by kernel_rfl) ?_
  replace hI:=hI.set (Ab (IR (Ak S pa c B.path) B));refine hQ' _ _ ?_;refine hK.out _ _ (hI.a.qry) (fun hHeld=> ?_)
  clear hK K hQ' Q'
  try simp only [P3]
  refine wpAnyH_done (by kernel_rfl) ?_ _
  refine NoPanic.normal ?_;go_wp2_with fail;go_end0;exact ⟨rfl,pa,c,hI.g,Dv (AI.row (AI.row ho.out hgl.out _) hgl.out _) hs1,hI.chg⟩
structure Er (w:World) (B:Nat) (S:Al) (u:Aq):Prop where
 is:Gt S u
 own:AI w B 9 (.slice S.pathA S.path.length S.pathC) S.path
theorem Er.w {w:World} {B:Nat} {S:Al} {u:Aq} (h:Er w B S u):DI w S u:=by
 obtain ⟨pa,c,e,hc,hr⟩:=BA h.own;cases e;exact ⟨h.is,hr,hc⟩
theorem Er.row {w:World} {B K:Nat} {S:Al} {u:Aq} (h:Er w B S u) {g:Nat} (hg:g<B) (hK:K<=B) (C:Array Value):Er (w.setRow g C) K S u:=⟨h.is,Dv (AI.row h.own hg C) hK⟩
theorem Er.next {w w':World} {B:Nat} {S:Al} {u:Aq} (h:Er w B S u) (hb:Below w.heap.size w w'):Er w' B S u:=⟨h.is,h.own.below hb (Nat.le_refl _)⟩
theorem Pg {w:World} {B:Nat} {S:Al} {u:Aq} (hi:Gt S u) (h0:S.pathA=none) (h1:S.pathC=0) (h2:S.path=[]):Er w B S u:=by
 refine ⟨hi,?_⟩;rw [h0,h1,h2];exact AI.nil _ _ _
def AeW (e:Ending):Prop:=∃ pv,e= .panicked [{ v:= .iface 190 pv,recovered:=false }]
def Ot (g:Nat) (o:Option Aq) (w:World) (e:Ending) (w':World):Prop:=(match o with | none=>AeW e | some u=>e= .returned (.tuple #[])/\∃ S:Al,AJ w' g (Ab S) 34/\Er w' w.heap.size S u)/\BI (fun k=>k=g) w w'
theorem Ly {g:Nat} {o:Option Aq} {w w':World} {pv:Value} (h:o=none) (hc:BI (fun k=>k=g) w w'):Ot g o w (.panicked [{ v:= .iface 190 pv,recovered:=false }]) w':=by subst h;exact ⟨⟨pv,rfl⟩,hc⟩
theorem Dc {g:Nat} {o:Option Aq} {u:Aq} {S:Al} {w w':World} (h:o=some u) (hs:AJ w' g (Ab S) 34) (hu:Er w' w.heap.size S u) (hc:BI (fun k=>k=g) w w'):Ot g o w (.returned (.tuple #[])) w':=by subst h;exact ⟨⟨rfl,S,hs,hu⟩,hc⟩
def Vx (S:Al) (us ps:ByteArray) (h:CL) (hp:Bool) (p:Int):Al:=⟨S.scheme,us,ps,h,hp,p,S.flatP,S.flat,S.pathA,S.pathC,S.path,S.hasQuery,S.query,S.hasFrag,S.frag⟩
theorem AeH {S:Al} {u:Aq} {us ps:ByteArray} {a:FF} {r:List UInt8} (h:Gt S u) (h1:us.toList=a.user) (h2:ps.toList=a.pass) (hn:(Aj u.scheme || !r.isEmpty)=false):Gt (Vx S us ps (Am a.host) a.port.isSome (II a.port)) (SW u a r):=
 ⟨h.scheme,h1,h2,rfl,rfl,rfl,h.opq,h.flat,by rw [show (SW u a r).path=u.path from if_neg (by rw [hn];decide)];exact h.path,h.hasQuery,h.query,h.hasFrag,h.frag⟩
theorem Abq {S:Al} {u:Aq} {us ps:ByteArray} {a:FF} {r:List UInt8} {pa:Option Addr} {c:Nat} {l:List ByteArray} (h:Gt S u) (h1:us.toList=a.user) (h2:ps.toList=a.pass) (hn:(Aj u.scheme || !r.isEmpty)=true) (hl:l.map (·.toList)=BZ u.scheme r):Gt (Ak (Vx S us ps (Am a.host) a.port.isSome (II a.port)) pa c l) (SW u a r):=
 ⟨h.scheme,h1,h2,rfl,rfl,rfl,h.opq,h.flat,by rw [show (SW u a r).path=BZ u.scheme r from if_pos hn];exact hl,h.hasQuery,h.query,h.hasFrag,h.frag⟩
structure G5 (w wx:World) (g:Nat) (G:Array Value) (b:Nat) (A:Array Value) (T:TypeId):Prop where
 ne:b≠g
 chg:BI (fun k=>k=g) w wx
 g:AJ wx g G 34
 a:AJ wx b A T
theorem G5.keep {w wx w':World} {g b:Nat} {G A:Array Value} {T:TypeId} (h:G5 w wx g G b A T) (hb:Below wx.heap.size wx w'):G5 w w' g G b A T:=⟨h.ne,h.chg.next hb,h.g.keep hb,h.a.keep hb⟩
theorem G5.drew {w wx:World} {g b:Nat} {G A:Array Value} {T:TypeId} (h:G5 w wx g G b A T):G5 w wx.drew g G b A T:=h.keep (Below.refl _ _).drew
theorem G5.set {w wx:World} {g b:Nat} {G A:Array Value} {T:TypeId} (h:G5 w wx g G b A T) (C:Array Value):G5 w (wx.setRow g C) g C b A T:=⟨h.ne,h.chg.row rfl _,h.g.set _,h.a.other h.ne _⟩
theorem AJ.hostA {w:World} {g:Nat} {us ps:ByteArray} {h:CL} {hp:Bool} {p:Int} {T:TypeId} (hc:AJ w g (Bg us ps h hp p) T):w.rangeAt g 2 (An h).toList:=hc.range 2 _ (fun j hj=>by
 match j,hj with
 | 0,_=>rfl
 | 1,_=>rfl
 | 2,_=>rfl
 | 3,_=>rfl
 | 4,_=>rfl
 | 5,_=>rfl
 | 6,_=>rfl
 | 7,_=>rfl
 | 8,_=>rfl
 | 9,_=>rfl
 | 10,_=>rfl
 | n+11,h=>exact absurd h (by show ¬ n+11<11;omega))
theorem MH (sp:Bool):∀ l,(BK sp l).1.length+(BK sp l).2.length=l.length
 | []=>rfl
 | c :: r=>by
  rw [BK];split
  ·simp
  ·have:=MH sp r;simp only [List.length_cons];omega
theorem AJ.authAll {w:World} {g:Nat} {us ps:ByteArray} {h:CL} {hp:Bool} {p:Int} (hc:AJ w g (Bg us ps h hp p) 141):AJ w g (Bg us ps h hp p) 141/\w.cell? ⟨g,0,none⟩=some (.string us)/\w.cell? ⟨g,1,none⟩=some (.string ps)/\w.cell? ⟨g,13,none⟩=some (.bool hp)/\w.cell? ⟨g,14,none⟩=some (.int .i64 p):=⟨hc,(hc.at 0).trans rfl,(hc.at 1).trans rfl,(hc.at 13).trans rfl,(hc.at 14).trans rfl⟩
theorem LN (g:Nat) (S:Al) (u:Aq) (s:ByteArray) (w:World) (hE:GZ w) (hg:AJ w g (Ab S) 34) (hi:Gt S u) (h0:S.pathA=none) (h1:S.pathC=0) (h2:S.path=[]) (hz:s.size<=1100000):
  Calls prog 148 #[.pointer (some ⟨g,0,none⟩),.string s] w (Ot g (Ig u s.toList) w):=by
 obtain ⟨R,hR⟩:=N2 (Ig u s.toList);rw [hR];have hv:=hR.symm;unfold Ig at hv;replace hR:=H0 hR;have hsp:=H0 (fun w=>DN S.scheme w)
 have hcs:=H0 (fun sp w=>Sv s sp w (by omega))
 have hcl:=MH (Aj u.scheme) s.toList;have hau:=H0 (fun (x:ByteArray) w hE hz=>QB S.scheme x w hE hz)
 have hpo:=H0 (fun (x:ByteArray) w hz=>Qd S.scheme x w hz)
 rw [hi.scheme] at hsp hau hpo;obtain ⟨SP,hSP⟩:∃ b,Aj u.scheme=b:=⟨_,rfl⟩;rw [hSP] at hsp hcl hv;obtain ⟨C,hC⟩:=N2 (BK SP s.toList);rw [hC] at hcl hv;rw [Aa] at hcl;obtain ⟨O,hO⟩:=N2 (Gy u.scheme C.1);rw [hO] at hv;replace hv:=H0 hv;replace hSP:=H0 hSP;replace hC:=H0 hC;replace hO:=H0 hO;have hE':=H0 hE;have hi':=H0 hi;have hgl:=H0 hg.lt;have x0:=(hg.at 0).trans (show (Ab S)[0]? =some (.string S.scheme) from rfl);replace hg:=H0 hg;replace h0:=H0 h0;replace h1:=H0 h1;replace h2:=H0 h2;clear hE hi;go_enter func148,ntmps148;go_wp2_with (go_at_call 145;refine (hsp.out _).mono ?_;rintro e w' ⟨rfl,rfl⟩);refine (hcs.out SP _).mono ?_;rintro e w1 ⟨a,b,rfl,ha,hb,hbel⟩;have hb1:Below w.heap.size w w1:=hbel;rw [hC.out] at ha hb;have haz:a.size<=1100000:=by rw [<-Aa,ha.out];omega
 have hbz:b.size<=1100000:=by rw [<-Aa,hb.out];omega
 have hg1:=hg.out.keep hbel;have hc1:BI (fun k=>k=g) w w1:=(BI.refl _ _).next hbel
 replace x0:=(hg1.at 0).trans (show (Ab S)[0]? =some (.string S.scheme) from rfl);have hE1:=hE'.out.next hbel
 clear hbel;have haU:=hau.out a w1 hE1 haz;rw [ha.out,hO.out] at haU;replace haU:=H0 haU;replace hE1:=H0 hE1;replace hg1:=H0 hg1;replace hc1:=H0 hc1;replace hb1:=H0 hb1;clear hau hcs;go_wp2_with fail;clear x0;refine haU.out.mono ?_;rintro e w2 ⟨us,ps,rfl,hus,hps,hb2⟩;have hE2:=hE1.out.next hb2
 have hg2:=hg1.out.keep hb2;have hc2:=hc1.out.next hb2
 have hs2:=hb2.size;have hs1:=hb1.out.size;have hgl2:g<w2.heap.size:=hg2.lt;clear hb2 haU hg1 hc1 hE1
 cases O with
 | none=>
  have hf:Hid (R=none):=H0 hv.out;replace hg2:=H0 hg2;replace hc2:=H0 hc2;replace hE2:=H0 hE2;go_wp2_with (refine Ag rfl 141 _ _ rfl rfl (NL us ps YO) _ _ _ rfl (by simp) rfl (C5 _ _ _ _ _) rfl (Fo _ _ _ _ _) ?_)
  exact ⟨rfl,Ly hf.out (hc2.out.alloc _)⟩
 | some A=>
  have hf:Hid (R=some (SW u A C.2)):=H0 hv.out;have hI:G5 w (w2.alloc (.cells (NL us ps A) 141)) g (Ab S) w2.heap.size (NL us ps A) 141:=⟨Nat.ne_of_gt hgl2,hc2.alloc _,hg2.alloc _,AJ.new _ _ _⟩;have hE3:=hE2.next ((Below.refl _ _).alloc (Nat.le_refl _) (.cells (NL us ps A) 141))
  clear hv hg2 hc2 hE2;go_upto_region 5 with (refine Ag rfl 141 _ _ rfl rfl (NL us ps A) _ _ _ rfl (by simp) rfl (C5 _ _ _ _ _) rfl (Fo _ _ _ _ _) ?_)
  refine Ar (R:=fun wx=>G5 w wx g (Ab S) w2.heap.size (NL us ps A) 141/\GZ wx) ⟨hI,hE3⟩ ?_
  clear hI hE3;rintro w3 ⟨hI,hE3⟩;obtain ⟨q,hq⟩:=N2 (w2.heap.size);rw [hq] at hI⊢;obtain ⟨h,hh⟩:=N2 (Am A.host);obtain ⟨hp,hhp⟩:=N2 (A.port.isSome);obtain ⟨p,hpv⟩:=N2 (II A.port);rw [show NL us ps A=Bg us ps h hp p by rw [<-hh,<-hhp,<-hpv];rfl] at hI
  replace hh:=H0 hh;replace hhp:=H0 hhp;replace hpv:=H0 hpv;clear hq hs2 hgl2;replace hE3:=H0 (hE3.next (Below.refl _ _).drew)
  replace hI:=hI.drew;refine wp_region_noPanic ?_;refine wp_region_held_drew (S:=fun w'=>AJ w' q (Bg us ps h hp p) 141/\w'.cell? ⟨q,0,none⟩=some (.string us)/\w'.cell? ⟨q,1,none⟩=some (.string ps)/\w'.cell? ⟨q,13,none⟩=some (.bool hp)/\w'.cell? ⟨q,14,none⟩=some (.int .i64 p)) (by kernel_rfl) (hI.a.authAll) (fun hHeld=> ?_)
  refine T0 0 33 ?_ hHeld ?_ ?_;rotate_left
  ·intro w hSw;(try dsimp only at hSw);go_simp;try with_reducible rfl
  try simp only [P3]
  refine T0 1 34 ?_ hHeld ?_ ?_;rotate_left
  ·intro w hSw;(try dsimp only at hSw);go_simp;try with_reducible rfl
  try simp only [P3]
  refine T0 2 35 ?_ hHeld ?_ ?_;rotate_left
  ·intro w hSw;(try dsimp only at hSw);go_simp;try with_reducible rfl
  try simp only [P3]
  refine T0 3 36 ?_ hHeld ?_ ?_;rotate_left
  ·intro w hSw;(try dsimp only at hSw);go_simp;try with_reducible rfl
  try simp only [P3]
  refine T0 4 37 ?_ hHeld ?_ ?_;rotate_left
  ·intro w hSw;(try dsimp only at hSw);go_simp;try with_reducible rfl
  try simp only [P3]
  refine T0 5 38 ?_ hHeld ?_ ?_;rotate_left
  ·intro w hSw;(try dsimp only at hSw);go_simp;try with_reducible rfl
  try simp only [P3]
  refine T0 6 39 ?_ hHeld ?_ ?_;rotate_left
  ·intro w hSw;(try dsimp only at hSw);go_simp;try with_reducible rfl
  try simp only [P3]
  refine T0 7 40 ?_ hHeld ?_ ?_;rotate_left
  ·intro w hSw;(try dsimp only at hSw);go_simp;try with_reducible rfl
  try simp only [P3]
  refine T0 8 41 ?_ hHeld ?_ ?_;rotate_left
  ·intro w hSw;(try dsimp only at hSw);go_simp;try with_reducible rfl
  try simp only [P3]
  refine T0 9 42 ?_ hHeld ?_ ?_;rotate_left
  ·intro w hSw;(try dsimp only at hSw);go_simp;try with_reducible rfl
  try simp only [P3]
  refine wpAnyH_take (i:=10) (oi:=⟨some 43,_,_,_,_,_⟩) (v:= .agg (An h).toList.toArray) rfl (by kernel_rfl) (by kernel_rfl) (by kernel_rfl) (fun _ _ _ h=>h) (yieldsIf_load_mid (by rfl) 32 _ rfl q 2 rfl (An h).toList _ (fun _ h=>h.1.hostA) underlying32 rfl (Gv _)) hHeld ?_
  try simp only [P3]
  simp only [Array.toArray_toList];refine T0 11 44 ?_ hHeld ?_ ?_;rotate_left
  ·intro w hSw;(try dsimp only at hSw);go_simp;try with_reducible rfl
  try simp only [P3]
  refine T0 12 45 ?_ hHeld ?_ ?_;rotate_left
  ·intro w hSw;(try dsimp only at hSw);go_simp;try with_reducible rfl
  try simp only [P3]
  refine T0 13 46 ?_ hHeld ?_ ?_;rotate_left
  ·intro w hSw;(try dsimp only at hSw);go_simp;try with_reducible rfl
  try simp only [P3]
  refine T0 14 47 ?_ hHeld ?_ ?_;rotate_left
  ·intro w hSw;(try dsimp only at hSw);go_simp;try with_reducible rfl
  try simp only [P3]
  refine T0 15 48 ?_ hHeld ?_ ?_;rotate_left
  ·intro w hSw;(try dsimp only at hSw);go_simp;try with_reducible rfl
  try simp only [P3]
  refine T0 16 49 ?_ hHeld ?_ ?_;rotate_left
  ·intro w hSw;(try dsimp only at hSw);go_simp;try with_reducible rfl
  try simp only [P3]
  refine wpAnyH_ready (rs:=[17]) (by kernel_rfl) (by simp) ?_
  refine AllReadyH.cons (o:=⟨none,.store 9 (.tmp 49) (.tmp 39),_,_,_,_⟩) rfl (fun K hK=> ?_) AllReadyH.nil
  refine AO (by kernel_rfl) (fun Q' hQ'=> ?_)
  refine Ad rfl _ _ _ rfl g 1 rfl (.string us) rfl rfl _ (Ab S) (Ab (⟨S.scheme,us,S.pass,S.host,S.hasPort,S.port,S.flatP,S.flat,S.pathA,S.pathC,S.path,S.hasQuery,S.query,S.hasFrag,S.frag⟩:Al)) hI.g Fy (by show 1+1<=23;decide) rfl (by kernel_rfl) ?_
  replace hI:=hI.set (Ab (⟨S.scheme,us,S.pass,S.host,S.hasPort,S.port,S.flatP,S.flat,S.pathA,S.pathC,S.path,S.hasQuery,S.query,S.hasFrag,S.frag⟩:Al));refine hQ' _ _ ?_;refine hK.out _ _ (hI.a.authAll) (fun hHeld=> ?_)
  clear hK K hQ' Q'
  try simp only [P3]
  refine T0 18 50 ?_ hHeld ?_ ?_;rotate_left
  ·intro w hSw;(try dsimp only at hSw);go_simp;try with_reducible rfl
  try simp only [P3]
  refine T0 19 51 ?_ hHeld ?_ ?_;rotate_left
  ·intro w hSw;(try dsimp only at hSw);go_simp;try with_reducible rfl
  try simp only [P3]
  refine wpAnyH_ready (rs:=[20]) (by kernel_rfl) (by simp) ?_
  refine AllReadyH.cons (o:=⟨none,.store 9 (.tmp 51) (.tmp 41),_,_,_,_⟩) rfl (fun K hK=> ?_) AllReadyH.nil
  refine AO (by kernel_rfl) (fun Q' hQ'=> ?_)
  refine Ad rfl _ _ _ rfl g 2 rfl (.string ps) rfl rfl _ (Ab (⟨S.scheme,us,S.pass,S.host,S.hasPort,S.port,S.flatP,S.flat,S.pathA,S.pathC,S.path,S.hasQuery,S.query,S.hasFrag,S.frag⟩:Al)) (Ab (⟨S.scheme,us,ps,S.host,S.hasPort,S.port,S.flatP,S.flat,S.pathA,S.pathC,S.path,S.hasQuery,S.query,S.hasFrag,S.frag⟩:Al)) hI.g Fy (by show 2+1<=23;decide) rfl (by kernel_rfl) ?_
  replace hI:=hI.set (Ab (⟨S.scheme,us,ps,S.host,S.hasPort,S.port,S.flatP,S.flat,S.pathA,S.pathC,S.path,S.hasQuery,S.query,S.hasFrag,S.frag⟩:Al));refine hQ' _ _ ?_;refine hK.out _ _ (hI.a.authAll) (fun hHeld=> ?_)
  clear hK K hQ' Q'
  try simp only [P3]
  refine T0 21 52 ?_ hHeld ?_ ?_;rotate_left
  ·intro w hSw;(try dsimp only at hSw);go_simp;try with_reducible rfl
  try simp only [P3]
  refine T0 22 53 ?_ hHeld ?_ ?_;rotate_left
  ·intro w hSw;(try dsimp only at hSw);go_simp;try with_reducible rfl
  try simp only [P3]
  refine wpAnyH_ready (rs:=[23]) (by kernel_rfl) (by simp) ?_
  refine AllReadyH.cons (o:=⟨none,.store 32 (.tmp 53) (.tmp 43),_,_,_,_⟩) rfl (fun K hK=> ?_) AllReadyH.nil
  refine AO (by kernel_rfl) (fun Q' hQ'=> ?_)
  refine BF rfl _ _ _ rfl g 3 rfl (.agg (An h)) rfl (An h) rfl _ (Ab (⟨S.scheme,us,ps,S.host,S.hasPort,S.port,S.flatP,S.flat,S.pathA,S.pathC,S.path,S.hasQuery,S.query,S.hasFrag,S.frag⟩:Al)) (Ab (⟨S.scheme,us,ps,h,S.hasPort,S.port,S.flatP,S.flat,S.pathA,S.pathC,S.path,S.hasQuery,S.query,S.hasFrag,S.frag⟩:Al)) hI.g AN (by show 3+11<=23;decide) (A2 _) (by kernel_rfl) ?_
  replace hI:=hI.set (Ab (⟨S.scheme,us,ps,h,S.hasPort,S.port,S.flatP,S.flat,S.pathA,S.pathC,S.path,S.hasQuery,S.query,S.hasFrag,S.frag⟩:Al));refine hQ' _ _ ?_;refine hK.out _ _ (hI.a.authAll) (fun hHeld=> ?_)
  clear hK K hQ' Q'
  try simp only [P3]
  refine T0 24 54 ?_ hHeld ?_ ?_;rotate_left
  ·intro w hSw;(try dsimp only at hSw);go_simp;try with_reducible rfl
  try simp only [P3]
  refine T0 25 55 ?_ hHeld ?_ ?_;rotate_left
  ·intro w hSw;(try dsimp only at hSw);go_simp;try with_reducible rfl
  try simp only [P3]
  refine wpAnyH_ready (rs:=[26]) (by kernel_rfl) (by simp) ?_
  refine AllReadyH.cons (o:=⟨none,.store 4 (.tmp 55) (.tmp 45),_,_,_,_⟩) rfl (fun K hK=> ?_) AllReadyH.nil
  refine AO (by kernel_rfl) (fun Q' hQ'=> ?_)
  refine Ad rfl _ _ _ rfl g 14 rfl (.bool hp) rfl rfl _ (Ab (⟨S.scheme,us,ps,h,S.hasPort,S.port,S.flatP,S.flat,S.pathA,S.pathC,S.path,S.hasQuery,S.query,S.hasFrag,S.frag⟩:Al)) (Ab (⟨S.scheme,us,ps,h,hp,S.port,S.flatP,S.flat,S.pathA,S.pathC,S.path,S.hasQuery,S.query,S.hasFrag,S.frag⟩:Al)) hI.g Jt (by show 14+1<=23;decide) rfl (by kernel_rfl) ?_
  replace hI:=hI.set (Ab (⟨S.scheme,us,ps,h,hp,S.port,S.flatP,S.flat,S.pathA,S.pathC,S.path,S.hasQuery,S.query,S.hasFrag,S.frag⟩:Al));refine hQ' _ _ ?_;refine hK.out _ _ (hI.a.authAll) (fun hHeld=> ?_)
  clear hK K hQ' Q'
  try simp only [P3]
  refine T0 27 56 ?_ hHeld ?_ ?_;rotate_left
  ·intro w hSw;(try dsimp only at hSw);go_simp;try with_reducible rfl
  try simp only [P3]
  refine T0 28 57 ?_ hHeld ?_ ?_;rotate_left
  ·intro w hSw;(try dsimp only at hSw);go_simp;try with_reducible rfl
  try simp only [P3]
  refine wpAnyH_ready (rs:=[29]) (by kernel_rfl) (by simp) ?_
  refine AllReadyH.cons (o:=⟨none,.store 3 (.tmp 57) (.tmp 47),_,_,_,_⟩) rfl (fun K hK=> ?_) AllReadyH.nil
  refine AO (by kernel_rfl) (fun Q' hQ'=> ?_)
  refine Ad rfl _ _ _ rfl g 15 rfl (.int .i64 p) rfl rfl _ (Ab (⟨S.scheme,us,ps,h,hp,S.port,S.flatP,S.flat,S.pathA,S.pathC,S.path,S.hasQuery,S.query,S.hasFrag,S.frag⟩:Al)) (Ab (Vx S us ps h hp p)) hI.g To (by show 15+1<=23;decide) rfl (by kernel_rfl) ?_
  replace hI:=hI.set (Ab (Vx S us ps h hp p));refine hQ' _ _ ?_;refine hK.out _ _ (hI.a.authAll) (fun hHeld=> ?_)
  clear hK K hQ' Q'
  try simp only [P3]
  refine wpAnyH_done (by kernel_rfl) ?_ _
  refine NoPanic.normal ?_;go_upto_region 6 with (fail)
  refine Ar (R:=fun wx=>G5 w wx g (Ab (Vx S us ps h hp p)) q (Bg us ps h hp p) 141) hI ?_
  clear hI hHeld;intro w4 hI;have x0:=(hI.g.at 0).trans (show (Ab (Vx S us ps h hp p))[0]? =some (.string S.scheme) from rfl);have hb0:=hb.out
  by_cases hT:(SP || !b.toList.isEmpty)=true
  ·have hn:(Aj u.scheme || !C.2.isEmpty)=true:=by rw [hSP.out,<-hb0];exact hT
   replace hn:=H0 hn
   have hcase:SP=true\/(SP=false/\b.toList.isEmpty=false):=by
    cases SP
    ·exact .inr ⟨rfl,by simpa using hT⟩
    ·exact .inl rfl
   replace hT:=H0 hT;replace hb0:=H0 hb0;rcases hcase with rfl | ⟨rfl,hbe⟩
   all_goals
    go_wp2_with fail;refine (hpo.out b _ hbz).mono ?_;rintro e w5 ⟨v,l,rfl,hl,ho,hb5⟩;have hg4:=hI.g.lt;have hs4:=hI.chg.size;replace hI:=hI.keep hb5;obtain ⟨pa,c,rfl,hlc,-⟩:=BA ho;clear x0 hb5;go_wp2_with (refine Ad rfl _ _ _ rfl g 18 rfl (.slice pa l.length c) rfl rfl _ (Ab (Vx S us ps h hp p)) (Ab (Ak (Vx S us ps h hp p) pa c l)) hI.g Bn (by show 18+1<=23;decide) rfl (by kernel_rfl) ?_)
    go_end0;refine Dc hf.out (hI.g.set _) (Er.row (B:=w4.heap.size) ⟨?_,ho⟩ hg4 hs4 _) (hI.set _).chg;have hx:=Abq (a:=A) hi'.out hus.out hps.out hn.out (pa:=pa) (c:=c) (l:=l) (by rw [hl.out,hb0.out])
    rw [hh.out,hhp.out,hpv.out] at hx;exact hx
  ·have hn:(Aj u.scheme || !C.2.isEmpty)=false:=by rw [hSP.out,<-hb0];simpa using hT
   replace hn:=H0 hn
   have hcase:SP=false/\b.toList.isEmpty=true:=by
    cases SP
    ·exact ⟨rfl,by simpa using hT⟩
    ·exact absurd rfl hT
   replace hT:=H0 hT;obtain ⟨rfl,hbe⟩:=hcase;replace hb0:=H0 hb0;go_wp2_with fail;go_end0;refine Dc hf.out hI.g (Pg ?_ h0.out h1.out h2.out) hI.chg;have hx:=AeH (a:=A) hi'.out hus.out hps.out hn.out;rw [hh.out,hhp.out,hpv.out] at hx;exact hx
end Go.Proofs.YtonomfeipkdmhaaGreatDoor
