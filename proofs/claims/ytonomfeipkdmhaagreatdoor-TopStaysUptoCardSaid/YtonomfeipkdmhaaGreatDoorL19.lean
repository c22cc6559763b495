/- Part 19: lemmas. -/
import Derived.Test.YtonomfeipkdmhaaGreatDoorL17
import Derived.Test.YtonomfeipkdmhaaGreatDoorL18
set_option linter.unusedVariables false
set_option linter.unusedSimpArgs false
set_option maxRecDepth 100000
set_option maxHeartbeats 16000000
namespace Go.Proofs.YtonomfeipkdmhaaGreatDoor
open Go.RowKit
structure DB where
 hs:Bool
 sch:ByteArray
 rest:ByteArray
 hq:Bool
 qry:ByteArray
 hf:Bool
 frg:ByteArray
def Av (p:DB):Array Value:= #[.bool p.hs,.string p.sch,.string p.rest,.bool p.hq,.string p.qry,.bool p.hf,.string p.frg]
def DB.l (p:DB):Cq:=⟨p.hs,p.sch.toList,p.rest.toList,p.hq,p.qry.toList,p.hf,p.frg.toList⟩
theorem CA (p:DB):(Tryz.prog.info? 72).map (·.size)=some (Av p).size:=by show _=some 7;kernel_rfl
structure MJ (w wx:World) (A:Array Value) (TA:TypeId) (B:Array Value) (TB:TypeId):Prop where
 below:Below w.heap.size w wx
 a:AG wx w.heap.size A TA
 b:AG wx (w.heap.size+1) B TB
theorem MJ.start (w:World) (A:Array Value) (TA:TypeId) (B:Array Value) (TB:TypeId):MJ w ((w.alloc (.cells A TA)).alloc (.cells B TB)) A TA B TB:=
 ⟨((Below.refl _ _).alloc (Nat.le_refl _) _).alloc Qf _,(AG.new _ _ _).alloc _,by have:=AG.new (w.alloc (.cells A TA)) B TB;rwa [Ai] at this⟩
theorem MJ.keep {w wx w':World} {A:Array Value} {TA:TypeId} {B:Array Value} {TB:TypeId} (h:MJ w wx A TA B TB) (hb:Below wx.heap.size wx w'):MJ w w' A TA B TB:=⟨h.below.next hb,h.a.keep hb,h.b.keep hb⟩
theorem MJ.drew {w wx:World} {A:Array Value} {TA:TypeId} {B:Array Value} {TB:TypeId} (h:MJ w wx A TA B TB):MJ w wx.drew A TA B TB:=h.keep (Below.refl _ _).drew
theorem MJ.setB {w wx:World} {A:Array Value} {TA:TypeId} {B:Array Value} {TB:TypeId} (h:MJ w wx A TA B TB) (C:Array Value):MJ w (wx.setRow (w.heap.size+1) C) A TA C TB:=
 ⟨Ae h.below Qa _,h.a.other Qa _,h.b.set _⟩
theorem HO {fn:Func} {p:Tmp} {ty:TypeId} (h:fn.results= #[.cell p ty]) (tmps:Array Value) (P:Program) (w:World):
  (results fn tmps).run P w=((asAddr (tmps.getD p undef)).run P w).andThen fun a w₁=>(loadVar ty a).run P w₁:=by
 simp only [results,h];simp [Sem.run_bind,Result.andThen]
theorem Bl {f:Func} {R:Ending->World->Prop} {a:Act} {w:World} {g:Nat} {c:Array Value} {p:Nat} (hf:f.results= #[.cell p 34]) (h2:a.tmps.getD p undef= .pointer (some ⟨g,0,none⟩)) (hd:a.defers=[])
  (hg:AG w g c 34) (hi:(Tryz.prog.info? 34).map (·.size)=some c.size) (hR:R (.returned (.agg c)) w):
  bodyPost Tryz.prog f R .ret a w:=by
 refine bodyPost_ret (v:= .agg c) ?_ hd hR;rw [HO hf,h2];simp [asAddr,Result.andThen,run_loadVar_row (P:=Tryz.prog) w g _ 34 _ _ _ hg Tryz.underlying34 rfl hi]
def DN (sch:ByteArray) (p:DB) (q f:ByteArray):Am:=⟨sch,⟨#[]⟩,⟨#[]⟩,An .none,false,0,false,⟨#[]⟩,none,0,[],p.hq,q,p.hf,f⟩
theorem HW {sch:ByteArray} {p:DB} {q f:ByteArray} (h1:q.toList=AZ (G3 sch.toList) p.qry.toList) (h2:f.toList=AZ 1 p.frg.toList) (k1:p.hq=false->p.qry.toList=[]) (k2:p.hf=false->p.frg.toList=[]):G0 (DN sch p q f) (Ax sch.toList p.l):=by
 refine ⟨rfl,toList_mk [],toList_mk [],rfl,rfl,rfl,rfl,toList_mk [],rfl,?_,?_,?_,?_⟩
 ·show p.hq=(Hw p.hq _).isSome
  cases p.hq<;>rfl
 ·show q.toList=(Hw p.hq (AZ _ p.qry.toList)).getD [];rw [h1];cases h:p.hq
  ·rw [k1 h];rfl
  ·rfl
 ·show p.hf=(Hw p.hf _).isSome
  cases p.hf<;>rfl
 ·show f.toList=(Hw p.hf (AZ 1 p.frg.toList)).getD [];rw [h2];cases h:p.hf
  ·rw [k2 h];rfl
  ·rfl
theorem AG.partAll {w:World} {g:Nat} {p:DB} (h:AG w g (Av p) 72):AG w g (Av p) 72/\w.cell? ⟨g,0,none⟩=some (.bool p.hs)/\w.cell? ⟨g,1,none⟩=some (.string p.sch)/\w.cell? ⟨g,2,none⟩=some (.string p.rest)/\w.cell? ⟨g,3,none⟩=some (.bool p.hq)/\w.cell? ⟨g,4,none⟩=some (.string p.qry)/\w.cell? ⟨g,5,none⟩=some (.bool p.hf)/\w.cell? ⟨g,6,none⟩=some (.string p.frg):=⟨h,(h.at 0).trans rfl,(h.at 1).trans rfl,(h.at 2).trans rfl,(h.at 3).trans rfl,(h.at 4).trans rfl,(h.at 5).trans rfl,(h.at 6).trans rfl⟩
def XK (sch:ByteArray) (p:DB) (w:World) (e:Ending) (w':World):Prop:=∃ q f:ByteArray,e= .returned (.agg (Ab (DN sch p q f)))/\Hid (q.toList=AZ (G3 sch.toList) p.qry.toList)/\Hid (f.toList=AZ 1 p.frg.toList)/\Below w.heap.size w w'
theorem Kc (sch:ByteArray) (p:DB) (w:World) (hq:p.qry.size<=4294967296) (hf:p.frg.size<=4294967296):Calls Tryz.prog 147 #[.string sch,.agg (Av p)] w (XK sch p w):=by
 have hI:=MJ.start w (Av p) 72 (Ab zS) 34
 have hsp:=H0 (fun w=>DW sch w)
 have hen:=H0 (fun k (hk:k<6) w=>D3 p.qry k hk w hq)
 have hen2:=H0 (fun w=>D3 p.frg 1 Qc w hf)
 have hset:G3 sch.toList=if Aj sch.toList=true then 3 else 2:=rfl
 unfold XK;obtain ⟨SP,hSP⟩:∃ b,Aj sch.toList=b:=⟨_,rfl⟩;rw [hSP] at hset hsp;obtain ⟨k,hk⟩:=N2 (G3 sch.toList);rw [hk] at hset⊢;replace hk:=H0 hk;replace hSP:=H0 hSP;go_enter Tryz.func147,Tryz.ntmps147
 go_upto_region 1 with (fail)
 refine Ap (R:=fun wx=>MJ w wx (Av p) 72 (Ab zS) 34) hI ?_
 clear hI;intro w1 hI
 go_upto_if 7 with (go_at_call 145;refine (hsp.out _).mono ?_;rintro e w' ⟨rfl,rfl⟩)
 go_cut [5] (fun s5 wx=>s5= .int .i64 (k:Int)/\k<6/\MJ w wx (Av p) 72 (Ab zS) 34)
 case first=>
  cases SP with
  | true=>
   have hk3:k=3:=hset;clear hset;subst hk3;go_wp2_with fail;go_meet;exact ⟨rfl,Qc,hI⟩
  | false=>
   have hk2:k=2:=hset;clear hset;subst hk2;go_wp2_with fail;go_meet;exact ⟨rfl,Qc,hI⟩
 case rest=>
  clear hI hset hsp;obtain ⟨rfl,hk6,hI⟩:=hcut
  go_upto_region 4 with (fail)
  replace hI:=hI.drew;refine wp_region_noPanic ?_
  refine wp_region_held_drew (S:=fun w'=>AG w' w.heap.size (Av p) 72/\w'.cell? ⟨w.heap.size,0,none⟩=some (.bool p.hs)/\w'.cell? ⟨w.heap.size,1,none⟩=some (.string p.sch)/\w'.cell? ⟨w.heap.size,2,none⟩=some (.string p.rest)/\w'.cell? ⟨w.heap.size,3,none⟩=some (.bool p.hq)/\w'.cell? ⟨w.heap.size,4,none⟩=some (.string p.qry)/\w'.cell? ⟨w.heap.size,5,none⟩=some (.bool p.hf)/\w'.cell? ⟨w.heap.size,6,none⟩=some (.string p.frg)) Qb (hI.a.partAll) (fun hHeld=> ?_)
  refine T0 0 8 ?_ hHeld ?_ ?_;rotate_left
  ·intro w hSw;(try dsimp only at hSw);go_simp;try with_reducible rfl
  try simp only [P3]
  refine T0 1 9 ?_ hHeld ?_ ?_;rotate_left
  ·intro w hSw;(try dsimp only at hSw);go_simp;try with_reducible rfl
  try simp only [P3]
  refine T0 2 10 ?_ hHeld ?_ ?_;rotate_left
  ·intro w hSw;(try dsimp only at hSw);go_simp;try with_reducible rfl
  try simp only [P3]
  refine T0 3 11 ?_ hHeld ?_ ?_;rotate_left
  ·intro w hSw;(try dsimp only at hSw);go_simp;try with_reducible rfl
  try simp only [P3]
  refine T0 4 12 ?_ hHeld ?_ ?_;rotate_left
  ·intro w hSw;(try dsimp only at hSw);go_simp;try with_reducible rfl
  try simp only [P3]
  refine T0 5 13 ?_ hHeld ?_ ?_;rotate_left
  ·intro w hSw;(try dsimp only at hSw);go_simp;try with_reducible rfl
  try simp only [P3]
  refine T0 7 15 ?_ hHeld ?_ ?_;rotate_left
  ·intro w hSw;(try dsimp only at hSw);go_simp;try with_reducible rfl
  try simp only [P3]
  refine T0 8 16 ?_ hHeld ?_ ?_;rotate_left
  ·intro w hSw;(try dsimp only at hSw);go_simp;try with_reducible rfl
  try simp only [P3]
  refine T0 9 17 ?_ hHeld ?_ ?_;rotate_left
  ·intro w hSw;(try dsimp only at hSw);go_simp;try with_reducible rfl
  try simp only [P3]
  refine T0 10 18 ?_ hHeld ?_ ?_;rotate_left
  ·intro w hSw;(try dsimp only at hSw);go_simp;try with_reducible rfl
  try simp only [P3]
  refine wpAnyH_ready (rs:=[6]) Qb Qf ?_
  refine AllReadyH.cons rfl (fun K hK=> ?_) AllReadyH.nil
  go_simp;refine (hen.out k hk6 _).mono ?_;rintro e w2 ⟨q,rfl,hqv,hb⟩;replace hI:=hI.keep hb;clear hb hHeld;go_wp2_with fail
  refine hK.out _ _ (hI.a.partAll) (fun hHeld=> ?_)
  clear hK K
  try simp only [P3]
  refine wpAnyH_ready (rs:=[11]) Qb Qf ?_
  refine AllReadyH.cons rfl (fun K hK=> ?_) AllReadyH.nil
  go_simp;refine (hen2.out _).mono ?_;rintro e w3 ⟨f,rfl,hfv,hb⟩;replace hI:=hI.keep hb;clear hb hHeld;go_wp2_with fail
  refine hK.out _ _ (hI.a.partAll) (fun hHeld=> ?_)
  clear hK K
  try simp only [P3]
  refine wpAnyH_ready (rs:=[12]) Qb Qf ?_
  refine AllReadyH.cons rfl (fun K hK=> ?_) AllReadyH.nil
  refine AQ Qb (fun Q' hQ'=> ?_)
  refine wpList_buildTo rfl _ _ rfl (some 20) rfl (Ab (DN sch p q f)) Qb ?_;refine hQ' _ _ ?_
  refine hK.out _ _ (hI.a.partAll) (fun hHeld=> ?_)
  clear hK K hQ' Q'
  try simp only [P3]
  refine wpAnyH_ready (rs:=[13]) Qb Qf ?_
  refine AllReadyH.cons rfl (fun K hK=> ?_) AllReadyH.nil
  refine AQ Qb (fun Q' hQ'=> ?_)
  refine wpList_store_row rfl 34 _ _ rfl (w.heap.size+1) (Ab (DN sch p q f)) rfl rfl 34 _ hI.b (Ac _) rfl (Au _) ?_;replace hI:=hI.setB (Ab (DN sch p q f));refine hQ' _ _ ?_
  refine hK.out _ _ (hI.a.partAll) (fun hHeld=> ?_)
  clear hK K hQ' Q'
  try simp only [P3]
  refine wpAnyH_done Qb ?_ _;refine NoPanic.normal ?_;go_wp2_with fail;refine Bl rfl rfl rfl hI.b (Ac _) ?_;exact ⟨q,f,rfl,hqv,hfv,hI.below⟩
def B0 (S B:Am):Am:=⟨S.scheme,B.user,B.pass,B.host,B.hasPort,B.port,S.flatP,S.flat,S.pathA,S.pathC,S.path,S.hasQuery,S.query,S.hasFrag,S.frag⟩
def Zd (S B:Am):Am:=⟨S.scheme,B.user,S.pass,S.host,S.hasPort,S.port,S.flatP,S.flat,S.pathA,S.pathC,S.path,S.hasQuery,S.query,S.hasFrag,S.frag⟩
def Aar (S B:Am):Am:=⟨S.scheme,B.user,B.pass,S.host,S.hasPort,S.port,S.flatP,S.flat,S.pathA,S.pathC,S.path,S.hasQuery,S.query,S.hasFrag,S.frag⟩
def Z7 (S B:Am):Am:=⟨S.scheme,B.user,B.pass,B.host,S.hasPort,S.port,S.flatP,S.flat,S.pathA,S.pathC,S.path,S.hasQuery,S.query,S.hasFrag,S.frag⟩
def Y3 (S B:Am):Am:=⟨S.scheme,B.user,B.pass,B.host,B.hasPort,S.port,S.flatP,S.flat,S.pathA,S.pathC,S.path,S.hasQuery,S.query,S.hasFrag,S.frag⟩
theorem AG.host {w:World} {g:Nat} {u:Am} {T:TypeId} (h:AG w g (Ab u) T):w.rangeAt g 3 (Aq u.host).toList:=h.range 3 _ (fun j hj=>by
 match j,hj with
 | 0,_=>rfl
 | 1,_=>rfl
 | 2,_=>rfl
 | 3,_=>rfl
 | 4,_=>rfl
 | 5,_=>rfl
 | 6,_=>rfl
 | 7,_=>rfl
 | 8,_=>rfl
 | 9,_=>rfl
 | 10,_=>rfl
 | n+11,h=>exact absurd h (by show ¬ n+11<11;omega))
theorem GF (h:Dd):(Tryz.prog.info? 32).map (·.size)=some (Aq h).toList.length:=by rw [AP];rfl
def Aif (g:Nat) (c:Array Value) (w:World) (e:Ending) (w':World):Prop:=e= .returned (.tuple #[])/\AG w' g c 34/\BY (fun k=>k=g) w w'
structure GS (w wx:World) (g:Nat) (G:Array Value) (A:Array Value):Prop where
 ne:w.heap.size≠g
 chg:BY (fun k=>k=g) w wx
 g:AG wx g G 34
 a:AG wx w.heap.size A 34
theorem GS.start {w:World} {g:Nat} {G:Array Value} (h:AG w g G 34) (A:Array Value):GS w (w.alloc (.cells A 34)) g G A:=
 ⟨Nat.ne_of_gt h.lt,(BY.refl _ _).alloc _,h.alloc _,AG.new _ _ _⟩
theorem GS.keep {w wx w':World} {g:Nat} {G A:Array Value} (h:GS w wx g G A) (hb:Below wx.heap.size wx w'):GS w w' g G A:=⟨h.ne,h.chg.next hb,h.g.keep hb,h.a.keep hb⟩
theorem GS.drew {w wx:World} {g:Nat} {G A:Array Value} (h:GS w wx g G A):GS w wx.drew g G A:=h.keep (Below.refl _ _).drew
theorem GS.set {w wx:World} {g:Nat} {G A:Array Value} (h:GS w wx g G A) (C:Array Value):GS w (wx.setRow g C) g C A:=⟨h.ne,h.chg.row rfl _,h.g.set _,h.a.other h.ne _⟩
theorem AG.who {w:World} {g:Nat} {B:Am} (h:AG w g (Ab B) 34):AG w g (Ab B) 34/\w.cell? ⟨g,1,none⟩=some (.string B.user)/\w.cell? ⟨g,2,none⟩=some (.string B.pass)/\w.cell? ⟨g,14,none⟩=some (.bool B.hasPort)/\w.cell? ⟨g,15,none⟩=some (.int .i64 B.port):=⟨h,(h.at 1).trans rfl,(h.at 2).trans rfl,(h.at 14).trans rfl,(h.at 15).trans rfl⟩
theorem IN (g:Nat) (S B:Am) (w:World) (hg:AG w g (Ab S) 34):Calls Tryz.prog 220 #[.pointer (some ⟨g,0,none⟩),.agg (Ab B)] w (Aif g (Ab (B0 S B)) w):=by
 have hI:=GS.start hg (Ab B);clear hg;go_enter Tryz.func220,Tryz.ntmps220
 go_upto_region 1 with (fail)
 refine Ap (R:=fun wx=>GS w wx g (Ab S) (Ab B)) hI ?_
 clear hI;intro w1 hI;replace hI:=hI.drew;refine wp_region_noPanic ?_
 refine wp_region_held_drew (S:=fun w'=>AG w' w.heap.size (Ab B) 34/\w'.cell? ⟨w.heap.size,1,none⟩=some (.string B.user)/\w'.cell? ⟨w.heap.size,2,none⟩=some (.string B.pass)/\w'.cell? ⟨w.heap.size,14,none⟩=some (.bool B.hasPort)/\w'.cell? ⟨w.heap.size,15,none⟩=some (.int .i64 B.port)) Qb (hI.a.who) (fun hHeld=> ?_)
 refine T0 0 4 ?_ hHeld ?_ ?_;rotate_left
 ·intro w hSw;(try dsimp only at hSw);go_simp;try with_reducible rfl
 try simp only [P3]
 refine T0 1 5 ?_ hHeld ?_ ?_;rotate_left
 ·intro w hSw;(try dsimp only at hSw);go_simp;try with_reducible rfl
 try simp only [P3]
 refine T0 2 6 ?_ hHeld ?_ ?_;rotate_left
 ·intro w hSw;(try dsimp only at hSw);go_simp;try with_reducible rfl
 try simp only [P3]
 refine T0 3 7 ?_ hHeld ?_ ?_;rotate_left
 ·intro w hSw;(try dsimp only at hSw);go_simp;try with_reducible rfl
 try simp only [P3]
 refine T0 4 8 ?_ hHeld ?_ ?_;rotate_left
 ·intro w hSw;(try dsimp only at hSw);go_simp;try with_reducible rfl
 try simp only [P3]
 refine T0 5 9 ?_ hHeld ?_ ?_;rotate_left
 ·intro w hSw;(try dsimp only at hSw);go_simp;try with_reducible rfl
 try simp only [P3]
 refine T0 6 10 ?_ hHeld ?_ ?_;rotate_left
 ·intro w hSw;(try dsimp only at hSw);go_simp;try with_reducible rfl
 try simp only [P3]
 refine T0 7 11 ?_ hHeld ?_ ?_;rotate_left
 ·intro w hSw;(try dsimp only at hSw);go_simp;try with_reducible rfl
 try simp only [P3]
 refine T0 8 12 ?_ hHeld ?_ ?_;rotate_left
 ·intro w hSw;(try dsimp only at hSw);go_simp;try with_reducible rfl
 try simp only [P3]
 refine T0 9 13 ?_ hHeld ?_ ?_;rotate_left
 ·intro w hSw;(try dsimp only at hSw);go_simp;try with_reducible rfl
 try simp only [P3]
 refine wpAnyH_take (i:=10) (oi:=⟨some 14,_,_,_,_,_⟩) (v:= .agg (Aq B.host).toList.toArray) rfl Qb Qb Qb (fun _ _ _ h=>h) (yieldsIf_load_mid Qt 32 _ rfl w.heap.size 3 rfl (Aq B.host).toList _ (fun _ h=>h.1.host) Tryz.underlying32 rfl (GF _)) hHeld ?_
 try simp only [P3]
 simp only [Array.toArray_toList];refine T0 11 15 ?_ hHeld ?_ ?_;rotate_left
 ·intro w hSw;(try dsimp only at hSw);go_simp;try with_reducible rfl
 try simp only [P3]
 refine T0 12 16 ?_ hHeld ?_ ?_;rotate_left
 ·intro w hSw;(try dsimp only at hSw);go_simp;try with_reducible rfl
 try simp only [P3]
 refine T0 13 17 ?_ hHeld ?_ ?_;rotate_left
 ·intro w hSw;(try dsimp only at hSw);go_simp;try with_reducible rfl
 try simp only [P3]
 refine T0 14 18 ?_ hHeld ?_ ?_;rotate_left
 ·intro w hSw;(try dsimp only at hSw);go_simp;try with_reducible rfl
 try simp only [P3]
 refine T0 15 19 ?_ hHeld ?_ ?_;rotate_left
 ·intro w hSw;(try dsimp only at hSw);go_simp;try with_reducible rfl
 try simp only [P3]
 refine T0 16 20 ?_ hHeld ?_ ?_;rotate_left
 ·intro w hSw;(try dsimp only at hSw);go_simp;try with_reducible rfl
 try simp only [P3]
 refine wpAnyH_ready (rs:=[17]) Qb Qf ?_
 refine AllReadyH.cons (o:=⟨none,.store 9 (.tmp 20) (.tmp 10),_,_,_,_⟩) rfl (fun K hK=> ?_) AllReadyH.nil
 refine AQ Qb (fun Q' hQ'=> ?_)
 refine Ad rfl _ _ _ rfl g 1 rfl (.string B.user) rfl rfl _ (Ab (S)) (Ab (Zd S B)) hI.g Fc (by show 1+1<=23;decide) rfl Qb ?_
 replace hI:=hI.set (Ab (Zd S B));refine hQ' _ _ ?_
 refine hK.out _ _ (hI.a.who) (fun hHeld=> ?_)
 clear hK K hQ' Q'
 try simp only [P3]
 refine T0 18 21 ?_ hHeld ?_ ?_;rotate_left
 ·intro w hSw;(try dsimp only at hSw);go_simp;try with_reducible rfl
 try simp only [P3]
 refine T0 19 22 ?_ hHeld ?_ ?_;rotate_left
 ·intro w hSw;(try dsimp only at hSw);go_simp;try with_reducible rfl
 try simp only [P3]
 refine wpAnyH_ready (rs:=[20]) Qb Qf ?_
 refine AllReadyH.cons (o:=⟨none,.store 9 (.tmp 22) (.tmp 12),_,_,_,_⟩) rfl (fun K hK=> ?_) AllReadyH.nil
 refine AQ Qb (fun Q' hQ'=> ?_)
 refine Ad rfl _ _ _ rfl g 2 rfl (.string B.pass) rfl rfl _ (Ab (Zd S B)) (Ab (Aar S B)) hI.g Fc (by show 2+1<=23;decide) rfl Qb ?_
 replace hI:=hI.set (Ab (Aar S B));refine hQ' _ _ ?_
 refine hK.out _ _ (hI.a.who) (fun hHeld=> ?_)
 clear hK K hQ' Q'
 try simp only [P3]
 refine T0 21 23 ?_ hHeld ?_ ?_;rotate_left
 ·intro w hSw;(try dsimp only at hSw);go_simp;try with_reducible rfl
 try simp only [P3]
 refine T0 22 24 ?_ hHeld ?_ ?_;rotate_left
 ·intro w hSw;(try dsimp only at hSw);go_simp;try with_reducible rfl
 try simp only [P3]
 refine wpAnyH_ready (rs:=[23]) Qb Qf ?_
 refine AllReadyH.cons (o:=⟨none,.store 32 (.tmp 24) (.tmp 14),_,_,_,_⟩) rfl (fun K hK=> ?_) AllReadyH.nil
 refine AQ Qb (fun Q' hQ'=> ?_)
 refine BT rfl _ _ _ rfl g 3 rfl (.agg (Aq B.host)) rfl (Aq B.host) rfl _ (Ab (Aar S B)) (Ab (Z7 S B)) hI.g AP Akb (A1 _) Qb ?_;replace hI:=hI.set (Ab (Z7 S B));refine hQ' _ _ ?_
 refine hK.out _ _ (hI.a.who) (fun hHeld=> ?_)
 clear hK K hQ' Q'
 try simp only [P3]
 refine T0 24 25 ?_ hHeld ?_ ?_;rotate_left
 ·intro w hSw;(try dsimp only at hSw);go_simp;try with_reducible rfl
 try simp only [P3]
 refine T0 25 26 ?_ hHeld ?_ ?_;rotate_left
 ·intro w hSw;(try dsimp only at hSw);go_simp;try with_reducible rfl
 try simp only [P3]
 refine wpAnyH_ready (rs:=[26]) Qb Qf ?_
 refine AllReadyH.cons (o:=⟨none,.store 4 (.tmp 26) (.tmp 16),_,_,_,_⟩) rfl (fun K hK=> ?_) AllReadyH.nil
 refine AQ Qb (fun Q' hQ'=> ?_)
 refine Ad rfl _ _ _ rfl g 14 rfl (.bool B.hasPort) rfl rfl _ (Ab (Z7 S B)) (Ab (Y3 S B)) hI.g Jv (by show 14+1<=23;decide) rfl Qb ?_
 replace hI:=hI.set (Ab (Y3 S B));refine hQ' _ _ ?_
 refine hK.out _ _ (hI.a.who) (fun hHeld=> ?_)
 clear hK K hQ' Q'
 try simp only [P3]
 refine T0 27 27 ?_ hHeld ?_ ?_;rotate_left
 ·intro w hSw;(try dsimp only at hSw);go_simp;try with_reducible rfl
 try simp only [P3]
 refine T0 28 28 ?_ hHeld ?_ ?_;rotate_left
 ·intro w hSw;(try dsimp only at hSw);go_simp;try with_reducible rfl
 try simp only [P3]
 refine wpAnyH_ready (rs:=[29]) Qb Qf ?_
 refine AllReadyH.cons (o:=⟨none,.store 3 (.tmp 28) (.tmp 18),_,_,_,_⟩) rfl (fun K hK=> ?_) AllReadyH.nil
 refine AQ Qb (fun Q' hQ'=> ?_)
 refine Ad rfl _ _ _ rfl g 15 rfl (.int .i64 B.port) rfl rfl _ (Ab (Y3 S B)) (Ab (B0 S B)) hI.g VX (by show 15+1<=23;decide) rfl Qb ?_
 replace hI:=hI.set (Ab (B0 S B));refine hQ' _ _ ?_
 refine hK.out _ _ (hI.a.who) (fun hHeld=> ?_)
 clear hK K hQ' Q'
 try simp only [P3]
 refine wpAnyH_done Qb ?_ _;refine NoPanic.normal ?_;go_wp2_with fail;go_end0;exact ⟨rfl,hI.g,hI.chg⟩
def Ah (S:Am) (pa:Option Addr) (c:Nat) (l:List ByteArray):Am:=⟨S.scheme,S.user,S.pass,S.host,S.hasPort,S.port,S.flatP,S.flat,pa,c,l,S.hasQuery,S.query,S.hasFrag,S.frag⟩
def I5 (S B:Am):Am:=⟨S.scheme,S.user,S.pass,S.host,S.hasPort,S.port,S.flatP,S.flat,S.pathA,S.pathC,S.path,B.hasQuery,B.query,S.hasFrag,S.frag⟩
def Aai (S B:Am):Am:=⟨S.scheme,S.user,S.pass,S.host,S.hasPort,S.port,S.flatP,S.flat,S.pathA,S.pathC,S.path,B.hasQuery,S.query,S.hasFrag,S.frag⟩
def Xt (g:Nat) (S B:Am) (w:World) (e:Ending) (w':World):Prop:=∃ (pa:Option Addr) (c:Nat),e= .returned (.tuple #[])/\AG w' g (Ab (if S.hasQuery=true then Ah S pa c B.path else I5 (Ah S pa c B.path) B)) 34/\AH w' w.heap.size 9 (.slice pa B.path.length c) B.path/\BY (fun k=>k=g) w w'
theorem AG.qry {w:World} {g:Nat} {B:Am} (h:AG w g (Ab B) 34):AG w g (Ab B) 34/\w.cell? ⟨g,18,none⟩=some (.slice B.pathA B.path.length B.pathC)/\w.cell? ⟨g,19,none⟩=some (.bool B.hasQuery)/\w.cell? ⟨g,20,none⟩=some (.string B.query):=⟨h,(h.at 18).trans rfl,(h.at 19).trans rfl,(h.at 20).trans rfl⟩
theorem AH.row {w:World} {B:Nat} {E:TypeId} {v:Value} {l:List ByteArray} (h:AH w B E v l) {g:Nat} (hg:g<B) (C:Array Value):AH (w.setRow g C) B E v l:=by
 refine ⟨h.1,?_⟩
 rcases h.2 with hn | ⟨g2,cap,cur,rfl,hg2,hh,rest⟩
 ·exact .inl hn
 ·exact .inr ⟨g2,cap,cur,rfl,hg2,by rw [Eb _ _ _ _ Qa];exact hh,rest⟩
theorem Mu (g:Nat) (S B:Am) (w:World) (hg:AG w g (Ab S) 34) (hp:DO w B.pathA B.path.length B.pathC B.path) (hn:B.path.length<=1000000000):Calls Tryz.prog 212 #[.pointer (some ⟨g,0,none⟩),.agg (Ab B)] w (Xt g S B w):=by
 have hI:=GS.start hg (Ab B);have hp1:DO (w.alloc (.cells (Ab B) 34)) B.pathA B.path.length B.pathC B.path:=hp.below ((Below.refl _ _).alloc (Nat.le_refl _) _) (Nat.le_refl _);clear hg hp;obtain ⟨w1,hw1⟩:∃ w1,w.alloc (.cells (Ab B) 34)=w1:=⟨_,rfl⟩;rw [hw1] at hI hp1;have hcl:=H0 (Fy B.pathA B.path.length B.pathC B.path w1 hp1 hn);clear hp1;have hgl:=hI.g.lt;have hs1:=hI.chg.size;have x18:=hI.a.qry.2.1;unfold Xt;obtain ⟨hq,hqv⟩:∃ b,S.hasQuery=b:=⟨_,rfl⟩;rw [hqv];go_enter Tryz.func212,Tryz.ntmps212;go_wp2_with fail;clear hw1 x18;refine hcl.out.mono ?_;rintro e w2 ⟨v,rfl,ho,hb⟩;replace hI:=hI.keep hb;obtain ⟨pa,c,rfl,hlc,-⟩:=BH ho;have hgo:=hI.g;replace hI:=hI.set (Ab (Ah S pa c B.path));replace ho:=AH.row ho hgl (Ab (Ah S pa c B.path));have x19:=(hI.g.at 19).trans (show (Ab (Ah S pa c B.path))[19]? =some (.bool S.hasQuery) from rfl);rw [hqv] at x19;replace hqv:=H0 hqv;replace hgl:=H0 hgl
 cases hq with
 | true=>
  go_wp2_with (refine Ad rfl _ _ _ rfl g 18 rfl (.slice pa B.path.length c) rfl rfl _ (Ab S) (Ab (Ah S pa c B.path)) hgo Bs Qp rfl Qb ?_);go_end0;exact ⟨rfl,pa,c,hI.g,DG ho hs1,hI.chg⟩
 | false=>
  go_upto_region 3 with (refine Ad rfl _ _ _ rfl g 18 rfl (.slice pa B.path.length c) rfl rfl _ (Ab S) (Ab (Ah S pa c B.path)) hgo Bs Qp rfl Qb ?_)
  refine Ap (R:=fun wx=>GS w wx g (Ab (Ah S pa c B.path)) (Ab B)/\AH wx w1.heap.size 9 (.slice pa B.path.length c) B.path) ⟨hI,ho⟩ ?_
  clear hI ho x19 hgo;rintro w3 ⟨hI,ho⟩;have ho0:=ho;clear ho;have ho:Hid (AH w3.drew w1.heap.size 9 (.slice pa B.path.length c) B.path):=H0 (BC ho0 (Below.refl _ _).drew (Nat.le_refl _));clear ho0;replace hI:=hI.drew;refine wp_region_noPanic ?_
  refine wp_region_held_drew (S:=fun w'=>AG w' w.heap.size (Ab B) 34/\w'.cell? ⟨w.heap.size,18,none⟩=some (.slice B.pathA B.path.length B.pathC)/\w'.cell? ⟨w.heap.size,19,none⟩=some (.bool B.hasQuery)/\w'.cell? ⟨w.heap.size,20,none⟩=some (.string B.query)) Qb (hI.a.qry) (fun hHeld=> ?_)
  refine T0 0 15 ?_ hHeld ?_ ?_;rotate_left
  ·intro w hSw;(try dsimp only at hSw);go_simp;try with_reducible rfl
  try simp only [P3]
  refine T0 1 16 ?_ hHeld ?_ ?_;rotate_left
  ·intro w hSw;(try dsimp only at hSw);go_simp;try with_reducible rfl
  try simp only [P3]
  refine T0 2 17 ?_ hHeld ?_ ?_;rotate_left
  ·intro w hSw;(try dsimp only at hSw);go_simp;try with_reducible rfl
  try simp only [P3]
  refine T0 3 18 ?_ hHeld ?_ ?_;rotate_left
  ·intro w hSw;(try dsimp only at hSw);go_simp;try with_reducible rfl
  try simp only [P3]
  refine T0 4 19 ?_ hHeld ?_ ?_;rotate_left
  ·intro w hSw;(try dsimp only at hSw);go_simp;try with_reducible rfl
  try simp only [P3]
  refine T0 5 20 ?_ hHeld ?_ ?_;rotate_left
  ·intro w hSw;(try dsimp only at hSw);go_simp;try with_reducible rfl
  try simp only [P3]
  refine T0 6 21 ?_ hHeld ?_ ?_;rotate_left
  ·intro w hSw;(try dsimp only at hSw);go_simp;try with_reducible rfl
  try simp only [P3]
  refine T0 7 22 ?_ hHeld ?_ ?_;rotate_left
  ·intro w hSw;(try dsimp only at hSw);go_simp;try with_reducible rfl
  try simp only [P3]
  refine wpAnyH_ready (rs:=[8]) Qb Qf ?_
  refine AllReadyH.cons rfl (fun K hK=> ?_) AllReadyH.nil
  refine AQ Qb (fun Q' hQ'=> ?_)
  refine Ad rfl _ _ _ rfl g 19 rfl (.bool B.hasQuery) rfl rfl _ (Ab (Ah S pa c B.path)) (Ab (Aai (Ah S pa c B.path) B)) hI.g Jv (by show 19+1<=23;decide) rfl Qb ?_
  replace hI:=hI.set (Ab (Aai (Ah S pa c B.path) B));refine hQ' _ _ ?_
  refine hK.out _ _ (hI.a.qry) (fun hHeld=> ?_)
  clear hK K hQ' Q'
  try simp only [P3]
  refine T0 9 23 ?_ hHeld ?_ ?_;rotate_left
  ·intro w hSw;(try dsimp only at hSw);go_simp;try with_reducible rfl
  try simp only [P3]
  refine T0 10 24 ?_ hHeld ?_ ?_;rotate_left
  ·intro w hSw;(try dsimp only at hSw);go_simp;try with_reducible rfl
  try simp only [P3]
  refine wpAnyH_ready (rs:=[11]) Qb Qf ?_
  refine AllReadyH.cons rfl (fun K hK=> ?_) AllReadyH.nil
  refine AQ Qb (fun Q' hQ'=> ?_)
  refine Ad rfl _ _ _ rfl g 20 rfl (.string B.query) rfl rfl _ (Ab (Aai (Ah S pa c B.path) B)) (Ab (I5 (Ah S pa c B.path) B)) hI.g Fc (by show 20+1<=23;decide) rfl Qb ?_
  replace hI:=hI.set (Ab (I5 (Ah S pa c B.path) B));refine hQ' _ _ ?_
  refine hK.out _ _ (hI.a.qry) (fun hHeld=> ?_)
  clear hK K hQ' Q'
  try simp only [P3]
  refine wpAnyH_done Qb ?_ _;refine NoPanic.normal ?_;go_wp2_with fail;go_end0;exact ⟨rfl,pa,c,hI.g,DG (AH.row (AH.row ho.out hgl.out _) hgl.out _) hs1,hI.chg⟩
structure Ew (w:World) (B:Nat) (S:Am) (u:Ao):Prop where
 is:G0 S u
 own:AH w B 9 (.slice S.pathA S.path.length S.pathC) S.path
theorem Ew.w {w:World} {B:Nat} {S:Am} {u:Ao} (h:Ew w B S u):DM w S u:=by
 obtain ⟨pa,c,e,hc,hr⟩:=BH h.own;cases e;exact ⟨h.is,hr,hc⟩
theorem Ew.row {w:World} {B K:Nat} {S:Am} {u:Ao} (h:Ew w B S u) {g:Nat} (hg:g<B) (hK:K<=B) (C:Array Value):Ew (w.setRow g C) K S u:=⟨h.is,DG (AH.row h.own hg C) hK⟩
theorem Ew.next {w w':World} {B:Nat} {S:Am} {u:Ao} (h:Ew w B S u) (hb:Below w.heap.size w w'):Ew w' B S u:=⟨h.is,h.own.below hb (Nat.le_refl _)⟩
theorem RA {w:World} {B:Nat} {S:Am} {u:Ao} (hi:G0 S u) (h0:S.pathA=none) (h1:S.pathC=0) (h2:S.path=[]):Ew w B S u:=by
 refine ⟨hi,?_⟩;rw [h0,h1,h2];exact AH.nil _ _ _
def AhA (e:Ending):Prop:=∃ pv,e= .panicked [{ v:= .iface 190 pv,recovered:=false }]
def OQ (g:Nat) (o:Option Ao) (w:World) (e:Ending) (w':World):Prop:=(match o with | none=>AhA e | some u=>e= .returned (.tuple #[])/\∃ S:Am,AG w' g (Ab S) 34/\Ew w' w.heap.size S u)/\BY (fun k=>k=g) w w'
theorem Mi {g:Nat} {o:Option Ao} {w w':World} {pv:Value} (h:o=none) (hc:BY (fun k=>k=g) w w'):OQ g o w (.panicked [{ v:= .iface 190 pv,recovered:=false }]) w':=by subst h;exact ⟨⟨pv,rfl⟩,hc⟩
theorem Ds {g:Nat} {o:Option Ao} {u:Ao} {S:Am} {w w':World} (h:o=some u) (hs:AG w' g (Ab S) 34) (hu:Ew w' w.heap.size S u) (hc:BY (fun k=>k=g) w w'):OQ g o w (.returned (.tuple #[])) w':=by subst h;exact ⟨⟨rfl,S,hs,hu⟩,hc⟩
def XJ (S:Am) (us ps:ByteArray) (h:Dd) (hp:Bool) (p:Int):Am:=⟨S.scheme,us,ps,h,hp,p,S.flatP,S.flat,S.pathA,S.pathC,S.path,S.hasQuery,S.query,S.hasFrag,S.frag⟩
theorem AgI {S:Am} {u:Ao} {us ps:ByteArray} {a:FW} {r:List UInt8} (h:G0 S u) (h1:us.toList=a.user) (h2:ps.toList=a.pass) (hn:(Aj u.scheme || !r.isEmpty)=false):G0 (XJ S us ps (An a.host) a.port.isSome (I0 a.port)) (VS u a r):=
 ⟨h.scheme,h1,h2,rfl,rfl,rfl,h.opq,h.flat,by rw [show (VS u a r).path=u.path from if_neg (by rw [hn];decide)];exact h.path,h.hasQuery,h.query,h.hasFrag,h.frag⟩
theorem Ac3 {S:Am} {u:Ao} {us ps:ByteArray} {a:FW} {r:List UInt8} {pa:Option Addr} {c:Nat} {l:List ByteArray} (h:G0 S u) (h1:us.toList=a.user) (h2:ps.toList=a.pass) (hn:(Aj u.scheme || !r.isEmpty)=true) (hl:l.map (·.toList)=Cj u.scheme r):G0 (Ah (XJ S us ps (An a.host) a.port.isSome (I0 a.port)) pa c l) (VS u a r):=
 ⟨h.scheme,h1,h2,rfl,rfl,rfl,h.opq,h.flat,by rw [show (VS u a r).path=Cj u.scheme r from if_pos hn];exact hl,h.hasQuery,h.query,h.hasFrag,h.frag⟩
structure G7 (w wx:World) (g:Nat) (G:Array Value) (b:Nat) (A:Array Value) (T:TypeId):Prop where
 ne:b≠g
 chg:BY (fun k=>k=g) w wx
 g:AG wx g G 34
 a:AG wx b A T
theorem G7.keep {w wx w':World} {g b:Nat} {G A:Array Value} {T:TypeId} (h:G7 w wx g G b A T) (hb:Below wx.heap.size wx w'):G7 w w' g G b A T:=⟨h.ne,h.chg.next hb,h.g.keep hb,h.a.keep hb⟩
theorem G7.drew {w wx:World} {g b:Nat} {G A:Array Value} {T:TypeId} (h:G7 w wx g G b A T):G7 w wx.drew g G b A T:=h.keep (Below.refl _ _).drew
theorem G7.set {w wx:World} {g b:Nat} {G A:Array Value} {T:TypeId} (h:G7 w wx g G b A T) (C:Array Value):G7 w (wx.setRow g C) g C b A T:=⟨h.ne,h.chg.row rfl _,h.g.set _,h.a.other h.ne _⟩
theorem AG.hostA {w:World} {g:Nat} {us ps:ByteArray} {h:Dd} {hp:Bool} {p:Int} {T:TypeId} (hc:AG w g (Bp us ps h hp p) T):w.rangeAt g 2 (Aq h).toList:=hc.range 2 _ (fun j hj=>by
 match j,hj with
 | 0,_=>rfl
 | 1,_=>rfl
 | 2,_=>rfl
 | 3,_=>rfl
 | 4,_=>rfl
 | 5,_=>rfl
 | 6,_=>rfl
 | 7,_=>rfl
 | 8,_=>rfl
 | 9,_=>rfl
 | 10,_=>rfl
 | n+11,h=>exact absurd h (by show ¬ n+11<11;omega))
theorem MS (sp:Bool):∀ l,(BZ sp l).1.length+(BZ sp l).2.length=l.length
 | []=>rfl
 | c :: r=>by
  rw [BZ];split
  ·simp
  ·have:=MS sp r;simp only [List.length_cons];omega
theorem AG.authAll {w:World} {g:Nat} {us ps:ByteArray} {h:Dd} {hp:Bool} {p:Int} (hc:AG w g (Bp us ps h hp p) 141):AG w g (Bp us ps h hp p) 141/\w.cell? ⟨g,0,none⟩=some (.string us)/\w.cell? ⟨g,1,none⟩=some (.string ps)/\w.cell? ⟨g,13,none⟩=some (.bool hp)/\w.cell? ⟨g,14,none⟩=some (.int .i64 p):=⟨hc,(hc.at 0).trans rfl,(hc.at 1).trans rfl,(hc.at 13).trans rfl,(hc.at 14).trans rfl⟩
theorem LU (g:Nat) (S:Am) (u:Ao) (s:ByteArray) (w:World) (hE:Gu w) (hg:AG w g (Ab S) 34) (hi:G0 S u) (h0:S.pathA=none) (h1:S.pathC=0) (h2:S.path=[]) (hz:s.size<=1100000):
  Calls Tryz.prog 148 #[.pointer (some ⟨g,0,none⟩),.string s] w (OQ g (IP u s.toList) w):=by
 obtain ⟨R,hR⟩:=N2 (IP u s.toList);rw [hR];have hv:=hR.symm;unfold IP at hv;replace hR:=H0 hR
 have hsp:=H0 (fun w=>DW S.scheme w)
 have hcs:=H0 (fun sp w=>TW s sp w Qa)
 have hcl:=MS (Aj u.scheme) s.toList
 have hau:=H0 (fun (x:ByteArray) w hE hz=>SL S.scheme x w hE hz)
 have hpo:=H0 (fun (x:ByteArray) w hz=>RU S.scheme x w hz)
 rw [hi.scheme] at hsp hau hpo;obtain ⟨SP,hSP⟩:∃ b,Aj u.scheme=b:=⟨_,rfl⟩;rw [hSP] at hsp hcl hv;obtain ⟨C,hC⟩:=N2 (BZ SP s.toList);rw [hC] at hcl hv;rw [Aa] at hcl;obtain ⟨O,hO⟩:=N2 (GG u.scheme C.1);rw [hO] at hv;replace hv:=H0 hv;replace hSP:=H0 hSP;replace hC:=H0 hC;replace hO:=H0 hO;have hE':=H0 hE;have hi':=H0 hi;have hgl:=H0 hg.lt;have x0:=(hg.at 0).trans (show (Ab S)[0]? =some (.string S.scheme) from rfl);replace hg:=H0 hg;replace h0:=H0 h0;replace h1:=H0 h1;replace h2:=H0 h2;clear hE hi;go_enter Tryz.func148,Tryz.ntmps148;go_wp2_with (go_at_call 145;refine (hsp.out _).mono ?_;rintro e w' ⟨rfl,rfl⟩);refine (hcs.out SP _).mono ?_;rintro e w1 ⟨a,b,rfl,ha,hb,hbel⟩;have hb1:Below w.heap.size w w1:=hbel;rw [hC.out] at ha hb
 have haz:a.size<=1100000:=by rw [<-Aa,ha.out];omega
 have hbz:b.size<=1100000:=by rw [<-Aa,hb.out];omega
 have hg1:=hg.out.keep hbel
 have hc1:BY (fun k=>k=g) w w1:=(BY.refl _ _).next hbel
 replace x0:=(hg1.at 0).trans (show (Ab S)[0]? =some (.string S.scheme) from rfl)
 have hE1:=hE'.out.next hbel
 clear hbel;have haU:=hau.out a w1 hE1 haz;rw [ha.out,hO.out] at haU;replace haU:=H0 haU;replace hE1:=H0 hE1;replace hg1:=H0 hg1;replace hc1:=H0 hc1;replace hb1:=H0 hb1;clear hau hcs;go_wp2_with fail;clear x0;refine haU.out.mono ?_;rintro e w2 ⟨us,ps,rfl,hus,hps,hb2⟩
 have hE2:=hE1.out.next hb2
 have hg2:=hg1.out.keep hb2
 have hc2:=hc1.out.next hb2
 have hs2:=hb2.size;have hs1:=hb1.out.size;have hgl2:g<w2.heap.size:=hg2.lt;clear hb2 haU hg1 hc1 hE1
 cases O with
 | none=>
  have hf:Hid (R=none):=H0 hv.out;replace hg2:=H0 hg2;replace hc2:=H0 hc2;replace hE2:=H0 hE2;go_wp2_with (refine Af rfl 141 _ _ rfl rfl (Oc us ps Abc) _ _ _ rfl Qf rfl (De _ _ _ _ _) rfl (FB _ _ _ _ _) ?_);exact ⟨rfl,Mi hf.out (hc2.out.alloc _)⟩
 | some A=>
  have hf:Hid (R=some (VS u A C.2)):=H0 hv.out;have hI:G7 w (w2.alloc (.cells (Oc us ps A) 141)) g (Ab S) w2.heap.size (Oc us ps A) 141:=⟨Nat.ne_of_gt hgl2,hc2.alloc _,hg2.alloc _,AG.new _ _ _⟩
  have hE3:=hE2.next ((Below.refl _ _).alloc (Nat.le_refl _) (.cells (Oc us ps A) 141))
  clear hv hg2 hc2 hE2
  go_upto_region 5 with (refine Af rfl 141 _ _ rfl rfl (Oc us ps A) _ _ _ rfl Qf rfl (De _ _ _ _ _) rfl (FB _ _ _ _ _) ?_)
  refine Ap (R:=fun wx=>G7 w wx g (Ab S) w2.heap.size (Oc us ps A) 141/\Gu wx) ⟨hI,hE3⟩ ?_
  clear hI hE3;rintro w3 ⟨hI,hE3⟩;obtain ⟨q,hq⟩:=N2 (w2.heap.size);rw [hq] at hI⊢;obtain ⟨h,hh⟩:=N2 (An A.host);obtain ⟨hp,hhp⟩:=N2 (A.port.isSome);obtain ⟨p,hpv⟩:=N2 (I0 A.port)
  rw [show Oc us ps A=Bp us ps h hp p by rw [<-hh,<-hhp,<-hpv];rfl] at hI
  replace hh:=H0 hh;replace hhp:=H0 hhp;replace hpv:=H0 hpv;clear hq hs2 hgl2
  replace hE3:=H0 (hE3.next (Below.refl _ _).drew)
  replace hI:=hI.drew;refine wp_region_noPanic ?_
  refine wp_region_held_drew (S:=fun w'=>AG w' q (Bp us ps h hp p) 141/\w'.cell? ⟨q,0,none⟩=some (.string us)/\w'.cell? ⟨q,1,none⟩=some (.string ps)/\w'.cell? ⟨q,13,none⟩=some (.bool hp)/\w'.cell? ⟨q,14,none⟩=some (.int .i64 p)) Qb (hI.a.authAll) (fun hHeld=> ?_)
  refine T0 0 33 ?_ hHeld ?_ ?_;rotate_left
  ·intro w hSw;(try dsimp only at hSw);go_simp;try with_reducible rfl
  try simp only [P3]
  refine T0 1 34 ?_ hHeld ?_ ?_;rotate_left
  ·intro w hSw;(try dsimp only at hSw);go_simp;try with_reducible rfl
  try simp only [P3]
  refine T0 2 35 ?_ hHeld ?_ ?_;rotate_left
  ·intro w hSw;(try dsimp only at hSw);go_simp;try with_reducible rfl
  try simp only [P3]
  refine T0 3 36 ?_ hHeld ?_ ?_;rotate_left
  ·intro w hSw;(try dsimp only at hSw);go_simp;try with_reducible rfl
  try simp only [P3]
  refine T0 4 37 ?_ hHeld ?_ ?_;rotate_left
  ·intro w hSw;(try dsimp only at hSw);go_simp;try with_reducible rfl
  try simp only [P3]
  refine T0 5 38 ?_ hHeld ?_ ?_;rotate_left
  ·intro w hSw;(try dsimp only at hSw);go_simp;try with_reducible rfl
  try simp only [P3]
  refine T0 6 39 ?_ hHeld ?_ ?_;rotate_left
  ·intro w hSw;(try dsimp only at hSw);go_simp;try with_reducible rfl
  try simp only [P3]
  refine T0 7 40 ?_ hHeld ?_ ?_;rotate_left
  ·intro w hSw;(try dsimp only at hSw);go_simp;try with_reducible rfl
  try simp only [P3]
  refine T0 8 41 ?_ hHeld ?_ ?_;rotate_left
  ·intro w hSw;(try dsimp only at hSw);go_simp;try with_reducible rfl
  try simp only [P3]
  refine T0 9 42 ?_ hHeld ?_ ?_;rotate_left
  ·intro w hSw;(try dsimp only at hSw);go_simp;try with_reducible rfl
  try simp only [P3]
  refine wpAnyH_take (i:=10) (oi:=⟨some 43,_,_,_,_,_⟩) (v:= .agg (Aq h).toList.toArray) rfl Qb Qb Qb (fun _ _ _ h=>h) (yieldsIf_load_mid Qt 32 _ rfl q 2 rfl (Aq h).toList _ (fun _ h=>h.1.hostA) Tryz.underlying32 rfl (GF _)) hHeld ?_
  try simp only [P3]
  simp only [Array.toArray_toList];refine T0 11 44 ?_ hHeld ?_ ?_;rotate_left
  ·intro w hSw;(try dsimp only at hSw);go_simp;try with_reducible rfl
  try simp only [P3]
  refine T0 12 45 ?_ hHeld ?_ ?_;rotate_left
  ·intro w hSw;(try dsimp only at hSw);go_simp;try with_reducible rfl
  try simp only [P3]
  refine T0 13 46 ?_ hHeld ?_ ?_;rotate_left
  ·intro w hSw;(try dsimp only at hSw);go_simp;try with_reducible rfl
  try simp only [P3]
  refine T0 14 47 ?_ hHeld ?_ ?_;rotate_left
  ·intro w hSw;(try dsimp only at hSw);go_simp;try with_reducible rfl
  try simp only [P3]
  refine T0 15 48 ?_ hHeld ?_ ?_;rotate_left
  ·intro w hSw;(try dsimp only at hSw);go_simp;try with_reducible rfl
  try simp only [P3]
  refine T0 16 49 ?_ hHeld ?_ ?_;rotate_left
  ·intro w hSw;(try dsimp only at hSw);go_simp;try with_reducible rfl
  try simp only [P3]
  refine wpAnyH_ready (rs:=[17]) Qb Qf ?_
  refine AllReadyH.cons (o:=⟨none,.store 9 (.tmp 49) (.tmp 39),_,_,_,_⟩) rfl (fun K hK=> ?_) AllReadyH.nil
  refine AQ Qb (fun Q' hQ'=> ?_)
  refine Ad rfl _ _ _ rfl g 1 rfl (.string us) rfl rfl _ (Ab S) (Ab (⟨S.scheme,us,S.pass,S.host,S.hasPort,S.port,S.flatP,S.flat,S.pathA,S.pathC,S.path,S.hasQuery,S.query,S.hasFrag,S.frag⟩:Am)) hI.g Fc (by show 1+1<=23;decide) rfl Qb ?_
  replace hI:=hI.set (Ab (⟨S.scheme,us,S.pass,S.host,S.hasPort,S.port,S.flatP,S.flat,S.pathA,S.pathC,S.path,S.hasQuery,S.query,S.hasFrag,S.frag⟩:Am));refine hQ' _ _ ?_
  refine hK.out _ _ (hI.a.authAll) (fun hHeld=> ?_)
  clear hK K hQ' Q'
  try simp only [P3]
  refine T0 18 50 ?_ hHeld ?_ ?_;rotate_left
  ·intro w hSw;(try dsimp only at hSw);go_simp;try with_reducible rfl
  try simp only [P3]
  refine T0 19 51 ?_ hHeld ?_ ?_;rotate_left
  ·intro w hSw;(try dsimp only at hSw);go_simp;try with_reducible rfl
  try simp only [P3]
  refine wpAnyH_ready (rs:=[20]) Qb Qf ?_
  refine AllReadyH.cons (o:=⟨none,.store 9 (.tmp 51) (.tmp 41),_,_,_,_⟩) rfl (fun K hK=> ?_) AllReadyH.nil
  refine AQ Qb (fun Q' hQ'=> ?_)
  refine Ad rfl _ _ _ rfl g 2 rfl (.string ps) rfl rfl _ (Ab (⟨S.scheme,us,S.pass,S.host,S.hasPort,S.port,S.flatP,S.flat,S.pathA,S.pathC,S.path,S.hasQuery,S.query,S.hasFrag,S.frag⟩:Am)) (Ab (⟨S.scheme,us,ps,S.host,S.hasPort,S.port,S.flatP,S.flat,S.pathA,S.pathC,S.path,S.hasQuery,S.query,S.hasFrag,S.frag⟩:Am)) hI.g Fc (by show 2+1<=23;decide) rfl Qb ?_
  replace hI:=hI.set (Ab (⟨S.scheme,us,ps,S.host,S.hasPort,S.port,S.flatP,S.flat,S.pathA,S.pathC,S.path,S.hasQuery,S.query,S.hasFrag,S.frag⟩:Am));refine hQ' _ _ ?_
  refine hK.out _ _ (hI.a.authAll) (fun hHeld=> ?_)
  clear hK K hQ' Q'
  try simp only [P3]
  refine T0 21 52 ?_ hHeld ?_ ?_;rotate_left
  ·intro w hSw;(try dsimp only at hSw);go_simp;try with_reducible rfl
  try simp only [P3]
  refine T0 22 53 ?_ hHeld ?_ ?_;rotate_left
  ·intro w hSw;(try dsimp only at hSw);go_simp;try with_reducible rfl
  try simp only [P3]
  refine wpAnyH_ready (rs:=[23]) Qb Qf ?_
  refine AllReadyH.cons (o:=⟨none,.store 32 (.tmp 53) (.tmp 43),_,_,_,_⟩) rfl (fun K hK=> ?_) AllReadyH.nil
  refine AQ Qb (fun Q' hQ'=> ?_)
  refine BT rfl _ _ _ rfl g 3 rfl (.agg (Aq h)) rfl (Aq h) rfl _ (Ab (⟨S.scheme,us,ps,S.host,S.hasPort,S.port,S.flatP,S.flat,S.pathA,S.pathC,S.path,S.hasQuery,S.query,S.hasFrag,S.frag⟩:Am)) (Ab (⟨S.scheme,us,ps,h,S.hasPort,S.port,S.flatP,S.flat,S.pathA,S.pathC,S.path,S.hasQuery,S.query,S.hasFrag,S.frag⟩:Am)) hI.g AP Akb (A1 _) Qb ?_;replace hI:=hI.set (Ab (⟨S.scheme,us,ps,h,S.hasPort,S.port,S.flatP,S.flat,S.pathA,S.pathC,S.path,S.hasQuery,S.query,S.hasFrag,S.frag⟩:Am));refine hQ' _ _ ?_
  refine hK.out _ _ (hI.a.authAll) (fun hHeld=> ?_)
  clear hK K hQ' Q'
  try simp only [P3]
  refine T0 24 54 ?_ hHeld ?_ ?_;rotate_left
  ·intro w hSw;(try dsimp only at hSw);go_simp;try with_reducible rfl
  try simp only [P3]
  refine T0 25 55 ?_ hHeld ?_ ?_;rotate_left
  ·intro w hSw;(try dsimp only at hSw);go_simp;try with_reducible rfl
  try simp only [P3]
  refine wpAnyH_ready (rs:=[26]) Qb Qf ?_
  refine AllReadyH.cons (o:=⟨none,.store 4 (.tmp 55) (.tmp 45),_,_,_,_⟩) rfl (fun K hK=> ?_) AllReadyH.nil
  refine AQ Qb (fun Q' hQ'=> ?_)
  refine Ad rfl _ _ _ rfl g 14 rfl (.bool hp) rfl rfl _ (Ab (⟨S.scheme,us,ps,h,S.hasPort,S.port,S.flatP,S.flat,S.pathA,S.pathC,S.path,S.hasQuery,S.query,S.hasFrag,S.frag⟩:Am)) (Ab (⟨S.scheme,us,ps,h,hp,S.port,S.flatP,S.flat,S.pathA,S.pathC,S.path,S.hasQuery,S.query,S.hasFrag,S.frag⟩:Am)) hI.g Jv (by show 14+1<=23;decide) rfl Qb ?_
  replace hI:=hI.set (Ab (⟨S.scheme,us,ps,h,hp,S.port,S.flatP,S.flat,S.pathA,S.pathC,S.path,S.hasQuery,S.query,S.hasFrag,S.frag⟩:Am));refine hQ' _ _ ?_
  refine hK.out _ _ (hI.a.authAll) (fun hHeld=> ?_)
  clear hK K hQ' Q'
  try simp only [P3]
  refine T0 27 56 ?_ hHeld ?_ ?_;rotate_left
  ·intro w hSw;(try dsimp only at hSw);go_simp;try with_reducible rfl
  try simp only [P3]
  refine T0 28 57 ?_ hHeld ?_ ?_;rotate_left
  ·intro w hSw;(try dsimp only at hSw);go_simp;try with_reducible rfl
  try simp only [P3]
  refine wpAnyH_ready (rs:=[29]) Qb Qf ?_
  refine AllReadyH.cons (o:=⟨none,.store 3 (.tmp 57) (.tmp 47),_,_,_,_⟩) rfl (fun K hK=> ?_) AllReadyH.nil
  refine AQ Qb (fun Q' hQ'=> ?_)
  refine Ad rfl _ _ _ rfl g 15 rfl (.int .i64 p) rfl rfl _ (Ab (⟨S.scheme,us,ps,h,hp,S.port,S.flatP,S.flat,S.pathA,S.pathC,S.path,S.hasQuery,S.query,S.hasFrag,S.frag⟩:Am)) (Ab (XJ S us ps h hp p)) hI.g VX (by show 15+1<=23;decide) rfl Qb ?_
  replace hI:=hI.set (Ab (XJ S us ps h hp p));refine hQ' _ _ ?_
  refine hK.out _ _ (hI.a.authAll) (fun hHeld=> ?_)
  clear hK K hQ' Q'
  try simp only [P3]
  refine wpAnyH_done Qb ?_ _;refine NoPanic.normal ?_
  go_upto_region 6 with (fail)
  refine Ap (R:=fun wx=>G7 w wx g (Ab (XJ S us ps h hp p)) q (Bp us ps h hp p) 141) hI ?_
  clear hI hHeld;intro w4 hI;have x0:=(hI.g.at 0).trans (show (Ab (XJ S us ps h hp p))[0]? =some (.string S.scheme) from rfl);have hb0:=hb.out
  by_cases hT:(SP || !b.toList.isEmpty)=true
  ·have hn:(Aj u.scheme || !C.2.isEmpty)=true:=by rw [hSP.out,<-hb0];exact hT
   replace hn:=H0 hn
   have hcase:SP=true\/(SP=false/\b.toList.isEmpty=false):=by
    cases SP
    ·exact .inr ⟨rfl,by simpa using hT⟩
    ·exact .inl rfl
   replace hT:=H0 hT;replace hb0:=H0 hb0
   rcases hcase with rfl | ⟨rfl,hbe⟩
   all_goals
    go_wp2_with fail;refine (hpo.out b _ hbz).mono ?_;rintro e w5 ⟨v,l,rfl,hl,ho,hb5⟩;have hg4:=hI.g.lt;have hs4:=hI.chg.size;replace hI:=hI.keep hb5;obtain ⟨pa,c,rfl,hlc,-⟩:=BH ho;clear x0 hb5;go_wp2_with (refine Ad rfl _ _ _ rfl g 18 rfl (.slice pa l.length c) rfl rfl _ (Ab (XJ S us ps h hp p)) (Ab (Ah (XJ S us ps h hp p) pa c l)) hI.g Bs Qp rfl Qb ?_);go_end0;refine Ds hf.out (hI.g.set _) (Ew.row (B:=w4.heap.size) ⟨?_,ho⟩ hg4 hs4 _) (hI.set _).chg
    have hx:=Ac3 (a:=A) hi'.out hus.out hps.out hn.out (pa:=pa) (c:=c) (l:=l) (by rw [hl.out,hb0.out])
    rw [hh.out,hhp.out,hpv.out] at hx;exact hx
  ·have hn:(Aj u.scheme || !C.2.isEmpty)=false:=by rw [hSP.out,<-hb0];simpa using hT
   replace hn:=H0 hn
   have hcase:SP=false/\b.toList.isEmpty=true:=by
    cases SP
    ·exact ⟨rfl,by simpa using hT⟩
    ·exact absurd rfl hT
   replace hT:=H0 hT;obtain ⟨rfl,hbe⟩:=hcase;replace hb0:=H0 hb0;go_wp2_with fail;go_end0;refine Ds hf.out hI.g (RA ?_ h0.out h1.out h2.out) hI.chg;have hx:=AgI (a:=A) hi'.out hus.out hps.out hn.out;rw [hh.out,hhp.out,hpv.out] at hx;exact hx
structure AO where
 right:Bool
 url:Am
 wv:Value
 ws:List ByteArray
def At (r:Bool) (u:Am) (wv:Value):Array Value:= #[.bool r,.string u.scheme,.string u.user,.string u.pass,.int .i64 u.host.kind,.string u.host.name,.int .u32 (u.host.four:Int),.int .u16 ((pc u.host.six 0:Nat):Int),.int .u16 ((pc u.host.six 1:Nat):Int),.int .u16 ((pc u.host.six 2:Nat):Int),.int .u16 ((pc u.host.six 3:Nat):Int),.int .u16 ((pc u.host.six 4:Nat):Int),.int .u16 ((pc u.host.six 5:Nat):Int),.int .u16 ((pc u.host.six 6:Nat):Int),.int .u16 ((pc u.host.six 7:Nat):Int),
 .bool u.hasPort,.int .i64 u.port,.bool u.flatP,.string u.flat,.slice u.pathA u.path.length u.pathC,.bool u.hasQuery,.string u.query,.bool u.hasFrag,.string u.frag,wv]
def AO.c (x:AO):Array Value:=At x.right x.url x.wv
def Dv (x:AO):List Value:=x.c.toList
theorem G9 (x:AO):(Dv x).length=25:=rfl
theorem AbQ (r:Bool) (u:Am) (wv:Value) (j:Nat) (h:j<23):(At r u wv)[1+j]? =(Ab u)[j]? :=by
 match j,h with
 | 0,_=>rfl | 1,_=>rfl | 2,_=>rfl | 3,_=>rfl | 4,_=>rfl | 5,_=>rfl | 6,_=>rfl | 7,_=>rfl | 8,_=>rfl | 9,_=>rfl | 10,_=>rfl | 11,_=>rfl
 | 12,_=>rfl | 13,_=>rfl | 14,_=>rfl | 15,_=>rfl | 16,_=>rfl | 17,_=>rfl | 18,_=>rfl | 19,_=>rfl | 20,_=>rfl | 21,_=>rfl | 22,_=>rfl
 | n+23,h=>omega
structure Wb (x:AO) (it:BG):Prop where
 right:x.right=it.right
 url:G0 x.url it.url
 ws:x.ws.map (·.toList)=it.ws
def DK:List AO->List BG->Prop
 | [],[]=>True
 | x :: l,it :: L=>Wb x it/\DK l L
 | _,_=>False
theorem DK.len:∀ {l:List AO} {L:List BG},DK l L->l.length=L.length
 | [],[],_=>rfl
 | _ :: _,_ :: _,h=>by rw [List.length_cons,List.length_cons,DK.len h.2]
 | [],_ :: _,h=>h.elim
 | _ :: _,[],h=>h.elim
theorem DK.snoc:∀ {l:List AO} {L:List BG} {x:AO} {it:BG},DK l L->Wb x it->DK (l++[x]) (L++[it])
 | [],[],_,_,_,h=>⟨h,trivial⟩
 | _ :: _,_ :: _,_,_,h,h2=>⟨h.1,DK.snoc h.2 h2⟩
 | [],_ :: _,_,_,h,_=>h.elim
 | _ :: _,[],_,_,h,_=>h.elim
theorem DK.get:∀ {l:List AO} {L:List BG},DK l L->∀ (i:Nat) (h:i<l.length) (h2:i<L.length),Wb l[i] L[i]
 | _ :: _,_ :: _,h,0,_,_=>h.1
 | _ :: _,_ :: _,h,i+1,h1,h2=>DK.get h.2 i Q2 Aki
 | [],[],_,i,h1,_=>absurd h1 Qf
 | [],_ :: _,h,_,_,_=>h.elim
 | _ :: _,[],h,_,_,_=>h.elim
structure HZ (w:World) (B:Nat) (x:AO):Prop where
 path:AH w B 9 (.slice x.url.pathA x.url.path.length x.url.pathC) x.url.path
 words:AH w B 9 x.wv x.ws
structure Jy (w:World) (x:AO):Prop where
 path:DO w x.url.pathA x.url.path.length x.url.pathC x.url.path
 cap:x.url.path.length<=x.url.pathC
 words:Fv w x.wv x.ws
theorem HZ.read {w:World} {B:Nat} {x:AO} (h:HZ w B x):Jy w x:=by
 obtain ⟨pa,c,e,hc,hr⟩:=BH h.path;cases e;exact ⟨hr,hc,h.words.read⟩
theorem HZ.chg {w w':World} {B:Nat} {x:AO} (h:HZ w B x) (hc:∀ k,B<=k->k<w.heap.size->w'.heap[k]? =w.heap[k]?):HZ w' B x:=⟨h.path.chg hc,h.words.chg hc⟩
theorem HZ.low {w:World} {B B':Nat} {x:AO} (h:HZ w B' x) (hB:B<=B'):HZ w B x:=⟨h.path.low hB,h.words.low hB⟩
theorem Jy.below {w w':World} {K:Nat} {x:AO} (h:Jy w x) (hb:Below K w w') (hK:w.heap.size<=K):Jy w' x:=⟨h.path.below hb hK,h.cap,h.words.below hb hK⟩
theorem Jy.urlW {w:World} {x:AO} {u:Ao} (h:Jy w x) (hi:G0 x.url u):DM w x.url u:=⟨hi,h.path,h.cap⟩
def Cc (w:World) (B:Nat) (v:Value) (l:List AO):Prop:=w.ownsRow B 48 25 v l.length (l.flatMap Dv)/\∀ x∈l,HZ w B x
def FA (w:World) (v:Value) (l:List AO):Prop:=
 ∃ pa c,v= .slice pa l.length c/\l.length<=c/\(0<l.length->∃ g o,pa=some ⟨g,o,none⟩/\∀ i (h:i<l.length),w.rangeAt g (o+i * 25) (Dv l[i]))/\∀ x∈l,Jy w x
theorem Cc.nil (w:World) (B:Nat):Cc w B (.slice none 0 0) []:=⟨World.ownsRow_nil _ _ _ _,fun c hc=>by cases hc⟩
theorem Cc.chg {w w':World} {B:Nat} {v:Value} {l:List AO} (h:Cc w B v l) (hc:∀ k,B<=k->k<w.heap.size->w'.heap[k]? =w.heap[k]?):Cc w' B v l:=
 ⟨NQ h.1 hc,fun c hm=>(h.2 c hm).chg hc⟩
theorem Cc.low {w:World} {B B':Nat} {v:Value} {l:List AO} (h:Cc w B' v l) (hB:B<=B'):Cc w B v l:=⟨NJ h.1 hB,fun c hm=>(h.2 c hm).low hB⟩
theorem Cc.below {w w':World} {B:Nat} {v:Value} {l:List AO} (h:Cc w B v l) (hb:Below w.heap.size w w'):Cc w' B v l:=h.chg fun k _ hk=>hb.block k hk
theorem FA.below {w w':World} {K:Nat} {v:Value} {l:List AO} (h:FA w v l) (hb:Below K w w') (hK:w.heap.size<=K):FA w' v l:=by
 obtain ⟨pa,c,rfl,hc,h1,h2⟩:=h
 refine ⟨pa,c,rfl,hc,fun h0=> ?_,fun x hx=>(h2 x hx).below hb hK⟩
 obtain ⟨g,o,e,hr⟩:=h1 h0
 exact ⟨g,o,e,fun i hi=>FG (hr i hi) hb hK⟩
theorem Ae1:∀ (l:List AO) (i:Nat) (h:i<l.length) (j:Nat),j<25->(l.flatMap Dv)[i * 25+j]? =(Dv l[i])[j]?
 | [],i,h,j,hj=>by simp at h
 | a :: r,0,h,j,hj=>by
  rw [List.flatMap_cons,Nat.zero_mul,Nat.zero_add,List.getElem?_append_left (by rw [G9];exact hj)];rfl
 | a :: r,i+1,h,j,hj=>by
  rw [List.flatMap_cons,List.getElem?_append_right (by rw [G9];omega),G9,show (i+1) * 25+j - 25=i * 25+j by omega]
  exact Ae1 r i Qy j hj
theorem Cc.read {w:World} {B:Nat} {v:Value} {l:List AO} (h:Cc w B v l):FA w v l:=by
 obtain ⟨hr,hw⟩:=h;have hr2:=hr
 rcases hr.2 with ⟨rfl,hn⟩ | ⟨g,cap,cur,rfl,hg,hh,hcap,hml,hcs,hcur⟩
 ·exact ⟨none,0,by rw [hn],Qa,fun h0=>Qa,fun c hc=>(hw c hc).read⟩
 ·refine ⟨_,cap,rfl,hcap,fun _=>⟨g,0,rfl,fun i hi j v hv=> ?_⟩,fun c hc=>(hw c hc).read⟩
  have hj:j<25:=by
   have:=(List.getElem?_eq_some_iff.1 hv).1
   rwa [G9] at this
  have hlt:i * 25+j<l.length * 25:=Qa;rw [Nat.zero_add];have e:=World.ownsRow.cellAt hr2 (i * 25+j) hlt;rw [e,Ae1 l i hi j hj];exact hv
theorem AeY:∃ i,Tryz.prog.info? 48=some i/\i.zero=some (.agg (At false zS (.slice none 0 0)))/\i.size=25/\i.bytes=240:=info_parts Qb
theorem D7 (r:Bool) (u:Am) (wv:Value):(Tryz.prog.info? 48).map (·.size)=some (At r u wv).size:=by show _=some 25;kernel_rfl
theorem J8 (x:AO):(Tryz.prog.info? 48).map (·.size)=some (Dv x).length:=by show _=some 25;kernel_rfl
theorem AH.off2 {w w':World} {B B':Nat} {v u:Value} {l:List ByteArray} {n:Nat} {xs:List Value} (h:AH w B 9 v l) (hr:w.ownsRow B' 48 25 u n xs) (hg:w.grownBy w' u.ownBlock):AH w' B 9 v l:=by
 refine ⟨h.1,?_⟩
 rcases h.2 with hn | ⟨k,cap,cur,rfl,hk,hh,rest⟩
 ·exact .inl hn
 ·refine .inr ⟨k,cap,cur,rfl,hk,(hg.block k (Array.getElem?_eq_some_iff.1 hh).1 ?_).trans hh,rest⟩
  rcases hr.2 with ⟨rfl,_⟩ | ⟨g,cap2,cur2,rfl,_,hh2,_⟩
  ·exact fun e=>by cases e
  ·intro e
   obtain rfl:k=g:=by simpa [Value.ownBlock] using e
   rw [hh] at hh2;simp at hh2
theorem HZ.off {w w':World} {B B':Nat} {x:AO} {u:Value} {n:Nat} {xs:List Value} (h:HZ w B x) (hr:w.ownsRow B' 48 25 u n xs) (hg:w.grownBy w' u.ownBlock):HZ w' B x:=⟨h.path.off2 hr hg,h.words.off2 hr hg⟩
theorem Xm (r:Bool) (u:Am) (wv:Value) (h:wv.oneCell'=true):∀ v∈(At r u wv).toList,v.oneCell'=true:=by
 intro v hv;simp only [At,List.mem_cons,List.not_mem_nil,or_false] at hv
 rcases hv with rfl | rfl | rfl | rfl | rfl | rfl | rfl | rfl | rfl | rfl | rfl | rfl | rfl | rfl | rfl | rfl | rfl | rfl | rfl | rfl | rfl | rfl | rfl | rfl | rfl
 all_goals first | rfl | exact h
theorem JH (r:Bool) (u:Am) (wv:Value) (h:wv.oneCell'=true):(At r u wv).all (·.oneCell')=true:=by
 rw [Array.all_eq_true_iff_forall_mem]
 exact fun v hv=>Xm r u wv h v (by simpa using hv)
theorem KR {ops:Array Oper} {rest:List Oper} {o:Oper} {a:Act} {Q:Exit->Act->World->Prop}
  (hgd:o.guard=none) (s x:Operand) (ho:o.op= .call { callee:= .builtin .append,args:= #[s,x],argTypes:= #[42,42] })
  {W0 w0:World} {B:Nat} {v:Value} {l:List AO} (c:AO) (hs:a.eval s=v) (hx:a.eval x= .slice (some ⟨w0.heap.size,0,none⟩) 1 1)
  (hown:Cc w0 B v l) (hnew:HZ w0 B c) (hbel:Below B W0 w0) (hB:B<=w0.heap.size) (hl:l.length<=1000000000)
  (h:∀ v' w',Cc w' B v' (l++[c])->Below B W0 w'->w0.grownBy w' v.ownBlock->wpList Tryz.prog ops Q rest (a.put o.dst v') w'):
  wpList Tryz.prog ops Q (o :: rest) a (w0.alloc (.cells (At c.right c.url c.wv) 48)):=by
 obtain ⟨i,hi,hz,hs1,hb1⟩:=AeY;have hgr:w0.grownBy (w0.alloc (.cells (At c.right c.url c.wv) 48)) none:=World.grownBy_alloc _ _ _;have hgr2:w0.grownBy (w0.alloc (.cells (At c.right c.url c.wv) 48)) v.ownBlock:=World.grownBy_alloc _ _ _;have hr:=hown.1.alloc (.cells (At c.right c.url c.wv) 48)
 have hws:∀ d∈l++[c],HZ (w0.alloc (.cells (At c.right c.url c.wv) 48)) B d:=by
  intro d hd
  rcases List.mem_append.1 hd with hd | hd
  ·exact ⟨(hown.2 d hd).path.alloc _,(hown.2 d hd).words.alloc _⟩
  ·rw [List.mem_singleton.1 hd];exact ⟨hnew.path.alloc _,hnew.words.alloc _⟩
 refine wpList_append_own _ hgd s x 42 ho B 48 i _ 25 240 Tryz.underlying42 hi hz hs1 hb1 rfl Qc v l.length _ hs hr ⟨w0.heap.size,0,none⟩ 1 1 (Dv c) hx rfl ?_ (Xm _ _ _ hnew.words.one) Qm Qa Qi ?_
 ·intro j u hj;have hc:=cell_of_row (w0.alloc (.cells (At c.right c.url c.wv) 48)) w0.heap.size j _ _ _ (heap_alloc_new w0 _)
  have e:(⟨w0.heap.size,0,none⟩:Addr).add j=⟨w0.heap.size,j,none⟩:=by cases j<;>simp [Addr.add]
  rw [e,hc];unfold Dv AO.c at hj;rw [Array.getElem?_toList] at hj;exact hj
 ·intro v' w' hown' hgrow hnil
  refine h v' w' ⟨?_,?_⟩ ((hbel.alloc hB _).grown hgrow Qi (fun k hk=>(World.ownsRow.lt hr k hk).1)) (hgr2.trans hgrow)
  ·rw [List.length_append,List.flatMap_append];simpa using hown'
  ·exact fun d hd=>(hws d hd).off hr hgrow
theorem Fh {ops:Array Oper} {rest:List Oper} {o:Oper} {a:Act} {w:World} {Q:Exit->Act->World->Prop} (hg:o.guard=none) (x:Operand) (ho:o.op= .buildSlice 42 1 #[(0,x)])
  (r:Bool) (u:Am) (wv:Value) (hx:a.eval x= .agg (At r u wv))
  (h:wpList Tryz.prog ops Q rest (a.put o.dst (.slice (some ⟨w.heap.size,0,none⟩) 1 1)) (w.alloc (.cells (At r u wv) 48))):wpList Tryz.prog ops Q (o :: rest) a w:=by
 obtain ⟨i,hi,hz,hs1,hb1⟩:=AeY
 refine wpList_buildSlice hg 42 48 1 _ ho (At r u wv) i _ Tryz.underlying42 hi hz (by rw [hs1];omega) (by rw [hs1];omega) ?_ h
 rw [hs1];rw [Array.toList_map];show Instr.fill _ _ [(0,a.eval x)]=_;rw [hx]
 kernel_rfl
theorem Nt {w:World} {B:Nat} {x:AO} (h:HZ w B x) (hB:B<=w.heap.size):Cc (w.alloc (.cells (At x.right x.url x.wv) 48)) B (.slice (some ⟨w.heap.size,0,none⟩) 1 1) [x]:=by
 refine ⟨⟨by show ([x].flatMap Dv).length=1 * 25;rfl,.inr ⟨w.heap.size,1,At x.right x.url x.wv,rfl,hB,heap_alloc_new w _,Nat.le_refl _,by unfold maxLen;decide,rfl,?_⟩⟩,?_⟩
 ·show (At x.right x.url x.wv).toList.take (1 * 25)=Dv x++[];rw [List.append_nil]
  kernel_rfl
 ·intro d hd;rw [List.mem_singleton.1 hd];exact ⟨h.path.alloc _,h.words.alloc _⟩
end Go.Proofs.YtonomfeipkdmhaaGreatDoor
