/- Part 20: lemmas. -/
import Derived.Test.YtonomfeipkdmhaaGreatDoorL19
set_option linter.unusedVariables false
set_option linter.unusedSimpArgs false
set_option maxRecDepth 100000
set_option maxHeartbeats 16000000
namespace Go.Proofs.YtonomfeipkdmhaaGreatDoor
open Go.RowKit
theorem Cy {S:Am} {u:Ao} (h:G0 S u) {L:List (List UInt8)} {pa:Option Addr} {c:Nat} {l:List ByteArray} (hl:l.map (·.toList)=L):G0 (Ah S pa c l) (BF u L):=
 ⟨h.scheme,h.user,h.pass,h.host,h.hasPort,h.port,h.opq,h.flat,hl,h.hasQuery,h.query,h.hasFrag,h.frag⟩
def Ek (S:Am) (h:Dd):Am:=⟨S.scheme,S.user,S.pass,h,S.hasPort,S.port,S.flatP,S.flat,S.pathA,S.pathC,S.path,S.hasQuery,S.query,S.hasFrag,S.frag⟩
theorem YL {S:Am} {u:Ao} (h:G0 S u) (x:BO):G0 (Ek S (An x)) (Bu u x):=
 ⟨h.scheme,h.user,h.pass,rfl,h.hasPort,h.port,h.opq,h.flat,h.path,h.hasQuery,h.query,h.hasFrag,h.frag⟩
theorem Rt (h:BO):(h= .name EB/\(An h).kind=2/\((An h).name.toList==EB)=true)\/(h≠ .name EB/\(An h).kind=2/\((An h).name.toList==EB)=false)\/(h≠ .name EB/\((An h).kind==2)=false):=by
 cases h with
 | name n=>
  by_cases hn:n=EB
  ·left;subst hn;exact ⟨rfl,rfl,by rw [show (An (.name EB)).name.toList=EB from toList_mk _];exact beq_self_eq_true _⟩
  ·right;left;exact ⟨fun e=>hn (BO.name.inj e),rfl,by rw [show (An (.name n)).name.toList=n from toList_mk _];simpa using hn⟩
 | none=>exact .inr (.inr ⟨Qf,Qc⟩)
 | empty=>exact .inr (.inr ⟨Qf,Qc⟩)
 | four n=>exact .inr (.inr ⟨Qf,by show ((3:Int)==2)=false;decide⟩)
 | six l=>exact .inr (.inr ⟨Qf,by show ((4:Int)==2)=false;decide⟩)
 | opaqueN n=>exact .inr (.inr ⟨Qf,by show ((5:Int)==2)=false;decide⟩)
theorem AG.keepS {w w':World} {g:Nat} {S:Am} (h:AG w g (Ab S) 34) (hb:Below w.heap.size w w'):AG w' g (Ab S) 34/\w'.cell? ⟨g,0,none⟩=some (.string S.scheme):=⟨h.keep hb,((h.keep hb).at 0).trans rfl⟩
theorem VV (g:Nat) (S:Am) (u:Ao) (s:ByteArray) (w:World) (hE:Gu w) (hg:AG w g (Ab S) 34) (hi:G0 S u) (hz:s.size<=1100000):
  Calls Tryz.prog 208 #[.pointer (some ⟨g,0,none⟩),.string s] w (OQ g (GM u s.toList) w):=by
 obtain ⟨R,hR⟩:=N2 (GM u s.toList);rw [hR];have hv:=hR.symm;unfold GM at hv;replace hR:=H0 hR
 have hcs:=H0 (fun w=>TW s true w Qa)
 have hcl:=MS true s.toList
 have hpo:=H0 (fun (x:ByteArray) w hz=>RU S.scheme x w hz)
 have hse:=H0 (fun w=>BB S.scheme none 0 0 [] s w (Da w) Qc hz (fun t h=>Qr))
 rw [hi.scheme] at hpo hse;obtain ⟨C,hC⟩:=N2 (BZ true s.toList);rw [hC] at hcl hv hcs;rw [Aa] at hcl;replace hv:=H0 hv;replace hC:=H0 hC;have hE':=H0 hE;have hi':=H0 hi;replace hg:=H0 hg;clear hE hi;go_enter Tryz.func208,Tryz.ntmps208;go_wp2_with fail;refine (hcs.out _).mono ?_;rintro e w1 ⟨a,b,rfl,ha,hb,hbel⟩
 have haz:a.size<=1100000:=by rw [<-Aa,ha.out];omega
 have hbz:b.size<=1100000:=by rw [<-Aa,hb.out];omega
 have hdr:=H0 (fun w=>Ky a w Qa)
 rw [ha.out] at hdr;obtain ⟨hg1,x0⟩:=hg.out.keepS hbel
 have hc1:BY (fun k=>k=g) w w1:=(BY.refl _ _).next hbel
 have hE1:=hE'.out.next hbel
 clear hbel hcs hg;replace hg1:=H0 hg1;replace hc1:=H0 hc1;replace hE1:=H0 hE1;obtain ⟨D,hD⟩:=N2 (Ce C.1);rw [hD] at hdr hv;replace hD:=H0 hD
 cases D with
 | true=>
  have hf:Hid (R=some (BF u (Dx u.scheme [] s.toList))):=H0 (hv.out.trans (if_pos rfl));clear hv hpo;go_wp2_with (go_at_call 265;refine (hdr.out _).mono ?_;rintro e w' ⟨rfl,rfl⟩);refine (hse.out _).mono ?_;rintro e w5 ⟨v,l,rfl,hl,ho,hb5⟩;have hg4:=hg1.out.lt;have hs4:=hc1.out.size;have hg5:=hg1.out.keep hb5
  have hc5:=hc1.out.next hb5
  obtain ⟨pa,c,rfl,hlc,-⟩:=BH ho;clear x0 hb5 hse;go_wp2_with (refine Ad rfl _ _ _ rfl g 18 rfl (.slice pa l.length c) rfl rfl _ (Ab S) (Ab (Ah S pa c l)) hg5 Bs Qp rfl Qb ?_);go_end0;exact Ds hf.out (hg5.set _) (Ew.row (B:=w1.heap.size) ⟨Cy hi'.out hl.out,ho⟩ hg4 hs4 _) (hc5.row rfl _)
 | false=>
  have hv1:=hv.out;rw [if_neg Qc] at hv1;clear hv hse
  by_cases hne:C.1=[]
  ·rw [if_pos hne] at hv1
   have hae:a.toList.isEmpty=true:=by rw [ha.out,hne];rfl
   have hf:Hid (R=some (BF u (Cj u.scheme b.toList))):=H0 (hv1.trans (by rw [hb.out]))
   replace hv1:=H0 hv1;replace hne:=H0 hne;go_wp2_with (go_at_call 265;refine (hdr.out _).mono ?_;rintro e w' ⟨rfl,rfl⟩);refine (hpo.out b _ hbz).mono ?_;rintro e w5 ⟨v,l,rfl,hl,ho,hb5⟩;have hg4:=hg1.out.lt;have hs4:=hc1.out.size;have hg5:=hg1.out.keep hb5
   have hc5:=hc1.out.next hb5
   obtain ⟨pa,c,rfl,hlc,-⟩:=BH ho;clear x0 hb5 hpo;go_wp2_with (refine Ad rfl _ _ _ rfl g 18 rfl (.slice pa l.length c) rfl rfl _ (Ab S) (Ab (Ah S pa c l)) hg5 Bs Qp rfl Qb ?_);go_end0;exact Ds hf.out (hg5.set _) (Ew.row (B:=w1.heap.size) ⟨Cy hi'.out hl.out,ho⟩ hg4 hs4 _) (hc5.row rfl _)
  ·rw [if_neg hne] at hv1
   have hae:a.toList.isEmpty=false:=by
    rw [ha.out]
    cases hx:C.1 with
    | nil=>exact absurd hx hne
    | cons p q=>rfl
   replace hne:=H0 hne
   have hho:=H0 (fun w hE=>KT a true w hE haz)
   rw [ha.out] at hho;obtain ⟨O,hO⟩:=N2 (D6 C.1 true);rw [hO] at hv1 hho;replace hO:=H0 hO;replace hv1:=H0 hv1;go_wp2_with (go_at_call 265;refine (hdr.out _).mono ?_;rintro e w' ⟨rfl,rfl⟩);refine (hho.out _ hE1.out).mono ?_;rintro e w2 ⟨rfl,hb2⟩;have hg2:=hg1.out.keep hb2
   have hc2:=hc1.out.next hb2
   have hgl2:g<w2.heap.size:=hg2.lt;clear hb2 hho hg1 hc1 hE1 x0
   cases O with
   | none=>
    have hf:Hid (R=none):=H0 hv1.out;replace hg2:=H0 hg2;replace hc2:=H0 hc2;go_wp2_with (refine Af rfl 32 _ _ rfl rfl (Aq (An .none)) _ _ _ rfl Qf rfl AP rfl (A1 _) ?_);exact ⟨rfl,Mi hf.out (hc2.out.alloc _)⟩
   | some h=>
    have hf:Hid (R=some (BF (if h= .name EB then u else Bu u h) (Cj u.scheme b.toList))):=H0 (hv1.out.trans (by rw [hb.out]))
    clear hv1;have hI:G7 w (w2.alloc (.cells (Aq (An h)) 32)) g (Ab S) w2.heap.size (Aq (An h)) 32:=⟨Nat.ne_of_gt hgl2,hc2.alloc _,hg2.alloc _,AG.new _ _ _⟩;clear hg2 hc2
    go_upto_region 5 with (refine Af rfl 32 _ _ rfl rfl (Aq (An h)) _ _ _ rfl Qf rfl AP rfl (A1 _) ?_)
    refine Ap (R:=fun wx=>G7 w wx g (Ab S) w2.heap.size (Aq (An h)) 32) hI ?_
    clear hI;intro w3 hI;obtain ⟨q,hq⟩:=N2 (w2.heap.size);rw [hq] at hI⊢;have hways:=Rt h;have hi2:=H0 (YL hi'.out h);obtain ⟨H,hH⟩:=N2 (An h);rw [hH] at hI hways hi2;have y0:=(hI.a.at 0).trans (show (Aq H)[0]? =some (.int .i64 H.kind) from rfl);have y1:=(hI.a.at 1).trans (show (Aq H)[1]? =some (.string H.name) from rfl);have x0:=(hI.g.at 0).trans (show (Ab S)[0]? =some (.string S.scheme) from rfl);replace hH:=H0 hH;obtain ⟨k,hk⟩:=N2 (H.kind);rw [hk] at hways y0;replace hk:=H0 hk;clear hq hgl2 hae
    have same:∀ (wy:World) (S2:Am) (u2:Ao),G0 S2 u2->u2.scheme=u.scheme->S2.scheme=S.scheme->True:=fun _ _ _ _ _ _=>trivial
    clear same
    rcases hways with ⟨e1,rfl,nm⟩ | ⟨e1,rfl,nm⟩ | ⟨e1,kk⟩
    ·rw [if_pos e1] at hf;replace e1:=H0 e1;rw [show EB=[108,111,99,97,108,104,111,115,116] from rfl] at nm;go_wp2_with fail;refine (hpo.out b _ hbz).mono ?_;rintro e w5 ⟨v,l,rfl,hl,ho,hb5⟩;have hg4:=hI.g.lt;have hs4:=hI.chg.size;replace hI:=hI.keep hb5;obtain ⟨pa,c,rfl,hlc,-⟩:=BH ho;clear x0 y0 y1 hb5 hpo;go_wp2_with (refine Ad rfl _ _ _ rfl g 18 rfl (.slice pa l.length c) rfl rfl _ (Ab S) (Ab (Ah S pa c l)) hI.g Bs Qp rfl Qb ?_);go_end0;exact Ds hf.out (hI.g.set _) (Ew.row (B:=w3.heap.size) ⟨Cy hi'.out hl.out,ho⟩ hg4 hs4 _) (hI.set _).chg
    ·rw [if_neg e1] at hf;replace e1:=H0 e1;rw [show EB=[108,111,99,97,108,104,111,115,116] from rfl] at nm;have hI2:=hI.set (Ab (Ek S H));have x02:=(hI2.g.at 0).trans (show (Ab (Ek S H))[0]? =some (.string S.scheme) from rfl);replace hI2:=H0 hI2
     go_wp2_with (first
      | (refine wpList_load_row rfl 32 _ rfl q rfl _ (Aq H) _ _ hI.a Tryz.underlying32 rfl AP ?_)
      | (refine BT rfl _ _ _ rfl g 3 rfl (.agg (Aq H)) rfl (Aq H) rfl _ (Ab S) (Ab (Ek S H)) hI.g AP Akb (A1 _) Qb ?_))
     refine (hpo.out b _ hbz).mono ?_;rintro e w5 ⟨v,l,rfl,hl,ho,hb5⟩;have hg4:=hI2.out.g.lt;have hs4:=hI2.out.chg.size;replace hI:=hI2.out.keep hb5;obtain ⟨pa,c,rfl,hlc,-⟩:=BH ho;clear x0 x02 y0 y1 hb5 hpo hI2;go_wp2_with (refine Ad rfl _ _ _ rfl g 18 rfl (.slice pa l.length c) rfl rfl _ (Ab (Ek S H)) (Ab (Ah (Ek S H) pa c l)) hI.g Bs Qp rfl Qb ?_);go_end0;exact Ds hf.out (hI.g.set _) (Ew.row (B:=(w3.setRow g (Ab (Ek S H))).heap.size) ⟨Cy hi2.out hl.out,ho⟩ hg4 hs4 _) (hI.set _).chg
    ·rw [if_neg e1] at hf
     have kk2:(k != 2)=true:=by rw [bne,kk];rfl
     replace e1:=H0 e1;have hI2:=hI.set (Ab (Ek S H));have x02:=(hI2.g.at 0).trans (show (Ab (Ek S H))[0]? =some (.string S.scheme) from rfl);replace hI2:=H0 hI2
     go_wp2_with (first
      | (refine wpList_load_row rfl 32 _ rfl q rfl _ (Aq H) _ _ hI.a Tryz.underlying32 rfl AP ?_)
      | (refine BT rfl _ _ _ rfl g 3 rfl (.agg (Aq H)) rfl (Aq H) rfl _ (Ab S) (Ab (Ek S H)) hI.g AP Akb (A1 _) Qb ?_))
     refine (hpo.out b _ hbz).mono ?_;rintro e w5 ⟨v,l,rfl,hl,ho,hb5⟩;have hg4:=hI2.out.g.lt;have hs4:=hI2.out.chg.size;replace hI:=hI2.out.keep hb5;obtain ⟨pa,c,rfl,hlc,-⟩:=BH ho;clear x0 x02 y0 y1 hb5 hpo hI2;go_wp2_with (refine Ad rfl _ _ _ rfl g 18 rfl (.slice pa l.length c) rfl rfl _ (Ab (Ek S H)) (Ab (Ah (Ek S H) pa c l)) hI.g Bs Qp rfl Qb ?_);go_end0;exact Ds hf.out (hI.g.set _) (Ew.row (B:=(w3.setRow g (Ab (Ek S H))).heap.size) ⟨Cy hi2.out hl.out,ho⟩ hg4 hs4 _) (hI.set _).chg
structure Lj (p:DB):Prop where
 q:p.hq=false->p.qry.toList=[]
 f:p.hf=false->p.frg.toList=[]
 rz:p.rest.size<=1100000
 qz:p.qry.size<=1100000
 fz:p.frg.size<=1100000
def LF (o:Option Ao) (w:World) (e:Ending) (w':World):Prop:=(match o with | none=>AhA e | some u=>∃ S:Am,e= .returned (.agg (Ab S))/\Ew w' w.heap.size S u)/\Below w.heap.size w w'
theorem BS {o:Option Ao} {w w':World} {pv:Value} (h:o=none) (hb:Below w.heap.size w w'):LF o w (.panicked [{ v:= .iface 190 pv,recovered:=false }]) w':=by subst h;exact ⟨⟨pv,rfl⟩,hb⟩
theorem CE {o:Option Ao} {u:Ao} {S:Am} {w w':World} (h:o=some u) (hu:Ew w' w.heap.size S u) (hb:Below w.heap.size w w'):LF o w (.returned (.agg (Ab S))) w':=by subst h;exact ⟨⟨S,rfl,hu⟩,hb⟩
structure Fr (w wx:World) (a:Nat) (A:Array Value) (TA:TypeId) (b:Nat) (B:Array Value) (TB:TypeId) (r g:Nat) (S:Am):Prop where
 ag:a≠g
 bg:b≠g
 rg:r≠g
 gw:w.heap.size<=g
 rw:w.heap.size<=r
 below:Below w.heap.size w wx
 a:AG wx a A TA
 b:AG wx b B TB
 r:AG wx r (Ab zS) 34
 g:AG wx g (Ab S) 34
section
variable {w wx w':World} {a b r g:Nat} {A B:Array Value} {TA TB:TypeId} {S S':Am}
theorem Fr.keep (h:Fr w wx a A TA b B TB r g S) (hb:Below wx.heap.size wx w'):Fr w w' a A TA b B TB r g S:=⟨h.ag,h.bg,h.rg,h.gw,h.rw,h.below.next hb,h.a.keep hb,h.b.keep hb,h.r.keep hb,h.g.keep hb⟩
theorem Fr.drew (h:Fr w wx a A TA b B TB r g S):Fr w wx.drew a A TA b B TB r g S:=h.keep (Below.refl _ _).drew
theorem Fr.set (h:Fr w wx a A TA b B TB r g S) (S':Am):Fr w (wx.setRow g (Ab S')) a A TA b B TB r g S':=⟨h.ag,h.bg,h.rg,h.gw,h.rw,Ae h.below h.gw _,h.a.other h.ag _,h.b.other h.bg _,h.r.other h.rg _,h.g.set _⟩
theorem Fr.chg (h:Fr w wx a A TA b B TB r g S) (hc:BY (fun k=>k=g) wx w') (hg:AG w' g (Ab S') 34):Fr w w' a A TA b B TB r g S':=
 ⟨h.ag,h.bg,h.rg,h.gw,h.rw,BY.belowNew h.below h.below.size h.gw hc,h.a.chg hc h.ag,h.b.chg hc h.bg,h.r.chg hc h.rg,hg⟩
theorem Fr.out (h:Fr w wx a A TA b B TB r g S) (hc:BY (fun k=>k=g) wx w'):Below w.heap.size w w':=BY.belowNew h.below h.below.size h.gw hc
theorem Fr.env (h:Fr w wx a A TA b B TB r g S) (hE:Gu w):Gu wx:=hE.next h.below
end
theorem AiV (s:ByteArray) (w:World):Calls Tryz.prog 218 #[.string s,.string ⟨#[47,47]⟩] w fun e w'=>∃ r:ByteArray,e= .returned (.tuple #[.string r,.bool (Lib.hasPrefix s.toList [47,47])])/\r.size<=s.size/\Hid (Lib.hasPrefix s.toList [47,47]=true->r.toList=s.toList.drop 2)/\w=w':=by
 refine (Tryz.strings_CutPrefix s ⟨#[47,47]⟩ w).mono ?_;rintro e w' ⟨rfl,rfl⟩;have e1:s.data.toList=s.toList:=(ByteArray.toList_eq ..).symm;have e2:(ByteArray.mk #[47,47]).data.toList=[47,47]:=rfl;rw [e1,e2]
 have hl:(Lib.trimPrefix s.toList [47,47]).length<=s.size:=by
  rw [<-Aa];unfold Lib.trimPrefix;split
  ·rw [List.length_drop];omega
  ·exact Nat.le_refl _
 refine ⟨_,rfl,Q8,H0 (fun h=> ?_),rfl⟩
 rw [toList_mk];unfold Lib.trimPrefix;rw [if_pos h];rfl
theorem AiP (s:ByteArray) (w:World):Calls Tryz.prog 218 #[.string s,.string ⟨#[47]⟩] w fun e w'=>∃ r:ByteArray,e= .returned (.tuple #[.string r,.bool (Lib.hasPrefix s.toList [47])])/\r.size<=s.size/\Hid (Lib.hasPrefix s.toList [47]=true->r.toList=s.toList.drop 1)/\w=w':=by
 refine (Tryz.strings_CutPrefix s ⟨#[47]⟩ w).mono ?_;rintro e w' ⟨rfl,rfl⟩;have e1:s.data.toList=s.toList:=(ByteArray.toList_eq ..).symm;have e2:(ByteArray.mk #[47]).data.toList=[47]:=rfl;rw [e1,e2]
 have hl:(Lib.trimPrefix s.toList [47]).length<=s.size:=by
  rw [<-Aa];unfold Lib.trimPrefix;split
  ·rw [List.length_drop];omega
  ·exact Nat.le_refl _
 refine ⟨_,rfl,Q8,H0 (fun h=> ?_),rfl⟩
 rw [toList_mk];unfold Lib.trimPrefix;rw [if_pos h];rfl
theorem AiI (s:ByteArray) (w:World) (hz:s.size<=4294967296):Calls Tryz.prog 219 #[.string s,.string ⟨#[32]⟩] w fun e w'=>∃ r:ByteArray,e= .returned (.tuple #[.string r,.bool (Lib.hasSuffix s.toList [32])])/\r.size<=s.size/\Hid (Lib.hasSuffix s.toList [32]=true->r.toList=s.toList.dropLast)/\w=w':=by
 refine (Tryz.strings_CutSuffix s ⟨#[32]⟩ w Qa).mono ?_;rintro e w' ⟨rfl,rfl⟩;have e1:s.data.toList=s.toList:=(ByteArray.toList_eq ..).symm;have e2:(ByteArray.mk #[32]).data.toList=[32]:=rfl;rw [e1,e2]
 have hl:(Lib.trimSuffix s.toList [32]).length<=s.size:=by
  rw [<-Aa];unfold Lib.trimSuffix;split
  ·rw [List.length_take];omega
  ·exact Nat.le_refl _
 refine ⟨_,rfl,Q8,H0 (fun h=> ?_),rfl⟩
 rw [toList_mk];unfold Lib.trimSuffix;rw [if_pos h,List.dropLast_eq_take];rfl
def Dh (S:Am) (b:Bool) (f:ByteArray):Am:=⟨S.scheme,S.user,S.pass,S.host,S.hasPort,S.port,b,f,S.pathA,S.pathC,S.path,S.hasQuery,S.query,S.hasFrag,S.frag⟩
theorem AfJ {sch:ByteArray} {p:DB} {q f t:ByteArray} {l:List UInt8} (h:G0 (DN sch p q f) (Ax sch.toList p.l)) (ht:t.toList=l):G0 (Dh (DN sch p q f) true t) ⟨(Ax sch.toList p.l).scheme,[],[],.none,none,true,l,[],(Ax sch.toList p.l).query,(Ax sch.toList p.l).frag⟩:=
 ⟨h.scheme,toList_mk [],toList_mk [],rfl,rfl,rfl,rfl,ht,rfl,h.hasQuery,h.query,h.hasFrag,h.frag⟩
theorem V6 (p:DB) (w:World) (hE:Gu w) (ok:Lj p):Calls Tryz.prog 150 #[.agg (Av p)] w (LF (GI p.l) w):=by
 obtain ⟨R,hR⟩:=N2 (GI p.l);rw [hR];have hv:=hR.symm;unfold GI at hv;dsimp only at hv;replace hR:=H0 hR;have hI:=MJ.start w (Av p) 72 (Ab zS) 34
 have hst:=H0 (fun w=>Kc p.sch p w (by have:=ok.qz;omega) (by have:=ok.fz;omega))
 have hcp:=H0 (fun w=>AiV p.rest w)
 have hcp1:=H0 (fun w=>AiP p.rest w)
 have hen:=H0 (fun w=>D3 p.rest 0 Qc w (by have:=ok.rz;omega))
 rw [show p.l.rest=p.rest.toList from rfl,show p.l.sch=p.sch.toList from rfl,show p.l.hq=p.hq from rfl,show p.l.hf=p.hf from rfl] at hv;replace hv:=H0 hv;have ok':=H0 ok;have hE':=H0 hE;clear ok hE;go_enter Tryz.func150,Tryz.ntmps150
 go_upto_region 1 with (fail)
 refine Ap (R:=fun wx=>MJ w wx (Av p) 72 (Ab zS) 34) hI ?_
 clear hI;intro w1 hI;have y1:=(hI.a.at 1).trans (show (Av p)[1]? =some (.string p.sch) from rfl);go_wp2_with (refine wpList_load_row rfl 72 _ rfl w.heap.size rfl _ (Av p) _ _ hI.a Tryz.underlying72 rfl (CA p) ?_);refine (hst.out _).mono ?_;rintro e w2 ⟨q,f,rfl,hqv,hfv,hb⟩;have hsz1:=hI.below.size;have hsz2:=hb.size;have hbl:=hI.b.lt;have hI2:=hI.keep hb;have his:=HW hqv.out hfv.out ok'.out.q ok'.out.f;obtain ⟨S,hS⟩:=N2 (DN p.sch p q f);have h0:S.pathA=none:=QO;have h1:S.pathC=0:=QO;have h2:S.path=[]:=QO;have h3:S.scheme=p.sch:=QO
 have his2:∀ t:ByteArray,G0 (Dh S true t) ⟨(Ax p.sch.toList p.l).scheme,[],[],.none,none,true,t.toList,[],(Ax p.sch.toList p.l).query,(Ax p.sch.toList p.l).frag⟩:=fun t=>by
  rw [<-hS];exact AfJ his rfl
 rw [hS] at his⊢;replace his:=H0 his;replace his2:=H0 his2;replace hS:=H0 hS;replace h0:=H0 h0;replace h1:=H0 h1;replace h2:=H0 h2;replace h3:=H0 h3
 have hF:Fr w (w2.alloc (.cells (Ab S) 34)) w.heap.size (Av p) 72 w.heap.size (Av p) 72 (w.heap.size+1) w2.heap.size S:=
  ⟨by have:=hI2.a.lt;omega,by have:=hI2.a.lt;omega,by have:=hI2.b.lt;omega,Qa,Qa,hI2.below.alloc Qa _,hI2.a.alloc _,hI2.a.alloc _,hI2.b.alloc _,AG.new _ _ _⟩
 clear hI hI2 hb y1 hbl
 go_upto_region 2 with (refine Af rfl 34 _ _ rfl rfl (Ab S) _ _ _ rfl Qf rfl (Ac _) rfl (Au _) ?_)
 refine Ap (R:=fun wx=>Fr w wx w.heap.size (Av p) 72 w.heap.size (Av p) 72 (w.heap.size+1) w2.heap.size S) hF ?_
 clear hF;intro w3 hF;obtain ⟨g,hg⟩:=N2 (w2.heap.size);rw [hg] at hF⊢;clear hg hsz1 hsz2;have y2:=(hF.a.at 2).trans (show (Av p)[2]? =some (.string p.rest) from rfl);have y3:=(hF.a.at 3).trans (show (Av p)[3]? =some (.bool p.hq) from rfl);have y5:=(hF.a.at 5).trans (show (Av p)[5]? =some (.bool p.hf) from rfl);have x0:=(hF.g.at 0).trans (show (Ab S)[0]? =some (.string S.scheme) from rfl);obtain ⟨b2,hb2⟩:∃ b,Lib.hasPrefix p.rest.toList [47,47]=b:=⟨_,rfl⟩;rw [hb2] at hcp hv;replace hb2:=H0 hb2
 cases b2 with
 | true=>
  have hf:=hv.out.trans (if_pos rfl);replace hf:=H0 hf;clear hv;go_wp2_with (go_at_call 218;refine (hcp.out _).mono ?_;rintro e w' ⟨r,rfl,hr1,hr2,rfl⟩);have hF':=hF
  refine (LU g S (Ax p.sch.toList p.l) r _ (hF'.env hE'.out) hF'.g his.out h0.out h1.out h2.out (by have:=ok'.out.rz;omega)).mono ?_
  rintro e w4 ⟨hres,hc⟩
  have hr1l:r.toList=p.rest.toList.drop 2:=by first | exact hr2.out rfl | exact hr2.out | exact hr2.out trivial
  have hf:=hf.out;rw [<-hr1l] at hf;clear y2 y3 y5 x0;obtain ⟨O,hO⟩:=N2 (IP (Ax p.sch.toList p.l) r.toList);rw [hO] at hf hres;replace hO:=H0 hO
  cases O with
  | none=>
   obtain ⟨pv,rfl⟩:=hres;exact ⟨rfl,BS hf (hF'.out hc)⟩
  | some u=>
   obtain ⟨rfl,S',hcel,hu⟩:=hres;have hF2:=hF'.chg hc hcel;have hrl:=hF'.r.lt;have hs5:=hF'.below.size;replace hf:=H0 hf;clear hF hF' hc hcel
   go_wp2_with (first
    | (refine wpList_load_row rfl 34 _ rfl g rfl _ (Ab S') _ _ hF2.g Tryz.underlying34 rfl (Ac _) ?_)
    | (refine wpList_store_row rfl 34 _ _ rfl (w.heap.size+1) (Ab S') rfl rfl 34 _ hF2.r (Ac _) rfl (Au _) ?_))
   refine Bl rfl rfl rfl (hF2.r.set _) (Ac _) ?_;exact CE hf.out (hu.row hrl hs5 _) (Ae hF2.below hF2.rw _)
 | false=>
  have hv1:=hv.out.trans (if_neg Qc);clear hv;obtain ⟨b1,hb1⟩:∃ b,Lib.hasPrefix p.rest.toList [47]=b:=⟨_,rfl⟩;rw [hb1] at hcp1 hv1;replace hb1:=H0 hb1
  cases b1 with
  | true=>
   have hv2:=hv1.trans (if_pos rfl);replace hv1:=H0 hv1;replace hv2:=H0 hv2
   go_upto_region 6 with (go_at_call 218;refine (hcp.out _).mono ?_;rintro e w' ⟨r,rfl,hr1,hr2,rfl⟩)
   go_upto_region 8 with (go_at_call 218;refine (hcp1.out _).mono ?_;rintro e w' ⟨r1,rfl,hs1,hs2,rfl⟩)
   have hr1l:r1.toList=p.rest.toList.drop 1:=by first | exact hs2.out rfl | exact hs2.out | exact hs2.out trivial
   replace hv2:=hv2.out;rw [<-hr1l] at hv2;replace hv2:=H0 hv2;replace hr1l:=H0 hr1l;go_wp2_with fail
   refine (BB S.scheme none 0 0 [] r1 _ (Da _) Qc (by have:=ok'.out.rz;omega) (fun t h=>Qr)).mono ?_
   rintro e w5 ⟨v,l,rfl,hl,ho,hb5⟩;have hg4:=hF.g.lt;have hr4:=hF.r.lt;have hs4:=hF.below.size;have hF2:=hF.keep hb5;obtain ⟨pa,c,rfl,hlc,-⟩:=BH ho;have hF3:=hF2.set (Ah S pa c l);have hl2:=hl.out;rw [h3.out] at hl2;have hO:Ew w5 _ (Ah S pa c l) _:=⟨Cy his.out hl2,ho⟩;replace hl:=H0 hl;clear x0 y2 y3 y5 hb5 hl2 hF
   go_wp2_with (first
    | (refine Ad rfl _ _ _ rfl g 18 rfl (.slice pa l.length c) rfl rfl _ (Ab S) (Ab (Ah S pa c l)) hF2.g Bs Qp rfl Qb ?_)
    | (refine wpList_load_row rfl 34 _ rfl g rfl _ (Ab (Ah S pa c l)) _ _ hF3.g Tryz.underlying34 rfl (Ac _) ?_)
    | (refine wpList_store_row rfl 34 _ _ rfl (w.heap.size+1) (Ab (Ah S pa c l)) rfl rfl 34 _ hF3.r (Ac _) rfl (Au _) ?_))
   refine Bl rfl rfl rfl (hF3.r.set _) (Ac _) ?_;exact CE hv2.out ((hO.row hg4 (Nat.le_refl _) _).row hr4 hs4 _) (Ae hF3.below hF3.rw _)
  | false=>
   have hv2:=hv1.trans (if_neg Qc);replace hv1:=H0 hv1;replace hv2:=H0 hv2
   go_upto_region 6 with (go_at_call 218;refine (hcp.out _).mono ?_;rintro e w' ⟨r,rfl,hr1,hr2,rfl⟩)
   go_upto_region 10 with (go_at_call 218;refine (hcp1.out _).mono ?_;rintro e w' ⟨r1,rfl,hs1,hs2,rfl⟩)
   clear x0;have hF1:=H0 (hF.set (Dh S true S.flat));have y2':=H0 ((hF1.out.a.at 2).trans (show (Av p)[2]? =some (.string p.rest) from rfl));have z2:=y2'.out
   go_wp2_with (refine Ad rfl _ _ _ rfl g 16 rfl (.bool true) rfl rfl _ (Ab S) (Ab (Dh S true S.flat)) hF.g Jv (by show 16+1<=23;decide) rfl Qb ?_)
   refine (hen.out _).mono ?_;rintro e w4 ⟨t,rfl,ht,hb4⟩
   have htz:t.size<=4294967296:=by
    rw [<-Aa,ht.out];have hl0:=C8 0 p.rest.toList;have hr0:=ok'.out.rz;rw [Aa] at hl0;omega
   have hF2:=hF1.out.keep hb4;have hF3:=hF2.set (Dh S true t);have y3':=(hF3.a.at 3).trans (show (Av p)[3]? =some (.bool p.hq) from rfl);have y5':=(hF3.a.at 5).trans (show (Av p)[5]? =some (.bool p.hf) from rfl);have x17:=(hF3.g.at 17).trans (show (Ab (Dh S true t))[17]? =some (.string t) from rfl);clear y2 y3 y5 y2' z2 hb4 hF;replace hF3:=H0 hF3;obtain ⟨hq,hqe⟩:∃ b,p.hq=b:=⟨_,rfl⟩;obtain ⟨hfr,hfe⟩:∃ b,p.hf=b:=⟨_,rfl⟩;rw [hqe] at y3' hv2;rw [hfe] at y5' hv2;replace hqe:=H0 hqe;replace hfe:=H0 hfe
   have fin:∀ (wx:World) (t2:ByteArray),R=some ⟨(Ax p.sch.toList p.l).scheme,[],[],.none,none,true,t2.toList,[],(Ax p.sch.toList p.l).query,(Ax p.sch.toList p.l).frag⟩->Fr w wx w.heap.size (Av p) 72 w.heap.size (Av p) 72 (w.heap.size+1) g (Dh S true t2)->LF R w (.returned (.agg (Ab (Dh S true t2)))) (wx.setRow (w.heap.size+1) (Ab (Dh S true t2))):=fun wx t2 hr hF=>by
    refine CE hr ?_ (Ae hF.below hF.rw _);exact RA (his2.out t2) h0.out h1.out h2.out
   replace fin:=H0 fin
   by_cases hqf:(hq || hfr)=true
   ·have hcs:=H0 (fun w=>AiI t w htz)
    obtain ⟨sx,hsx⟩:∃ b,Lib.hasSuffix t.toList [32]=b:=⟨_,rfl⟩
    have hfl:R=some ⟨(Ax p.sch.toList p.l).scheme,[],[],.none,none,true,if sx=true then t.toList.dropLast++[37,50,48] else t.toList,[],(Ax p.sch.toList p.l).query,(Ax p.sch.toList p.l).frag⟩:=by
     rw [hv2.out,<-ht.out];unfold Eh;rw [hqf,hsx,Bool.true_and]
    rw [hsx] at hcs;replace hsx:=H0 hsx;replace hfl:=H0 hfl
    have hcase:hq=true\/(hq=false/\hfr=true):=by
     cases hq
     ·exact .inr ⟨rfl,by simpa using hqf⟩
     ·exact .inl rfl
    replace hqf:=H0 hqf
    cases sx with
    | true=>
     have hf3:=hfl.out;rw [if_pos rfl] at hf3;replace hf3:=H0 hf3
     rcases hcase with rfl | ⟨rfl,rfl⟩
     all_goals
      go_upto_region 15 with (first
       | (refine Ad rfl _ _ _ rfl g 17 rfl (.string t) rfl rfl _ (Ab (Dh S true S.flat)) (Ab (Dh S true t)) hF2.g Fc AkB rfl Qb ?_)
       | (go_at_call 219;refine (hcs.out _).mono ?_;rintro e w' ⟨h,rfl,hh1,hh2,rfl⟩))
      have hfin:=hf3.out
      have hh3:h.toList=t.toList.dropLast:=by first | exact hh2.out rfl | exact hh2.out | exact hh2.out trivial
      rw [<-hh3,show (h.toList++[37,50,48]:List UInt8)=(h++⟨#[37,50,48]⟩).toList by rw [toList_append,show (⟨#[37,50,48]⟩:ByteArray).toList=[37,50,48] from toList_mk _]] at hfin
      replace hfin:=H0 hfin;have hcat:¬ (9223372036854775807<h.size+3):=Qa;clear x17 y3' y5';obtain ⟨t3,ht3⟩:∃ t3,h++⟨#[37,50,48]⟩=t3:=⟨_,rfl⟩;rw [ht3] at hfin
      have hF5:Hid (∀ x,x=t3->Fr w ((w4.setRow g (Ab (Dh S true t))).setRow g (Ab (Dh S true x))) w.heap.size (Av p) 72 w.heap.size (Av p) 72 (w.heap.size+1) g (Dh S true t3)):=H0 (fun x e=>by subst e;exact hF3.out.set _)
      replace ht3:=H0 ht3
      go_upto_region 16 with (refine Ad rfl _ _ _ rfl g 17 rfl (.string (h++⟨#[37,50,48]⟩)) rfl rfl _ (Ab (Dh S true t)) (Ab (Dh S true (h++⟨#[37,50,48]⟩))) hF3.out.g Fc AkB rfl Qb ?_)
      refine Ap (R:=fun wx=>Fr w wx w.heap.size (Av p) 72 w.heap.size (Av p) 72 (w.heap.size+1) g (Dh S true t3)) (by first | exact hF5.out _ ht3.out | exact ht3.out ▸ hF3.out.set _) ?_
      clear hF5;intro w7 hF7
      go_wp2_with (first
       | (refine wpList_load_row rfl 34 _ rfl g rfl _ (Ab (Dh S true t3)) _ _ hF7.g Tryz.underlying34 rfl (Ac _) ?_)
       | (refine wpList_store_row rfl 34 _ _ rfl (w.heap.size+1) (Ab (Dh S true t3)) rfl rfl 34 _ hF7.r (Ac _) rfl (Au _) ?_))
      refine Bl rfl rfl rfl (hF7.r.set _) (Ac _) ?_;exact fin.out _ _ hfin.out hF7
    | false=>
     have hf3:=hfl.out;rw [if_neg Qc] at hf3;replace hf3:=H0 hf3
     rcases hcase with rfl | ⟨rfl,rfl⟩
     all_goals
      go_wp2_with (first
       | (refine Ad rfl _ _ _ rfl g 17 rfl (.string t) rfl rfl _ (Ab (Dh S true S.flat)) (Ab (Dh S true t)) hF2.g Fc AkB rfl Qb ?_)
       | (go_at_call 219;refine (hcs.out _).mono ?_;rintro e w' ⟨h,rfl,hh1,hh2,rfl⟩)
       | (refine wpList_load_row rfl 34 _ rfl g rfl _ (Ab (Dh S true t)) _ _ hF3.out.g Tryz.underlying34 rfl (Ac _) ?_)
       | (refine wpList_store_row rfl 34 _ _ rfl (w.heap.size+1) (Ab (Dh S true t)) rfl rfl 34 _ hF3.out.r (Ac _) rfl (Au _) ?_))
      refine Bl rfl rfl rfl (hF3.out.r.set _) (Ac _) ?_;exact fin.out _ _ hf3.out hF3.out
   ·have hcase:hq=false/\hfr=false:=by
     cases hq
     ·exact ⟨rfl,by simpa using hqf⟩
     ·exact absurd rfl hqf
    replace hqf:=H0 hqf;obtain ⟨rfl,rfl⟩:=hcase
    have hf3:Hid (R=some ⟨(Ax p.sch.toList p.l).scheme,[],[],.none,none,true,t.toList,[],(Ax p.sch.toList p.l).query,(Ax p.sch.toList p.l).frag⟩):=H0 (by
     rw [hv2.out,<-ht.out];rfl)
    go_wp2_with (first
     | (refine Ad rfl _ _ _ rfl g 17 rfl (.string t) rfl rfl _ (Ab (Dh S true S.flat)) (Ab (Dh S true t)) hF2.g Fc AkB rfl Qb ?_)
     | (refine wpList_load_row rfl 34 _ rfl g rfl _ (Ab (Dh S true t)) _ _ hF3.out.g Tryz.underlying34 rfl (Ac _) ?_)
     | (refine wpList_store_row rfl 34 _ _ rfl (w.heap.size+1) (Ab (Dh S true t)) rfl rfl 34 _ hF3.out.r (Ac _) rfl (Au _) ?_))
    refine Bl rfl rfl rfl (hF3.out.r.set _) (Ac _) ?_;exact fin.out _ _ hf3.out hF3.out
structure YR (w wx:World) (A:Array Value) (TA:TypeId) (B:Array Value) (TB:TypeId):Prop where
 below:Below w.heap.size w wx
 a:AG wx w.heap.size A TA
 b:AG wx (w.heap.size+1) B TB
 r:AG wx (w.heap.size+2) (Ab zS) 34
section
variable {w wx w':World} {A B:Array Value} {TA TB:TypeId}
theorem YR.start (w:World) (A:Array Value) (TA:TypeId) (B:Array Value) (TB:TypeId):YR w (((w.alloc (.cells A TA)).alloc (.cells B TB)).alloc (.cells (Ab zS) 34)) A TA B TB:=by
 have h:=MJ.start w A TA B TB;refine ⟨h.below.alloc Akw _,h.a.alloc _,h.b.alloc _,?_⟩;have:=AG.new ((w.alloc (.cells A TA)).alloc (.cells B TB)) (Ab zS) 34
 rwa [Ai,Ai] at this
theorem YR.keep (h:YR w wx A TA B TB) (hb:Below wx.heap.size wx w'):YR w w' A TA B TB:=⟨h.below.next hb,h.a.keep hb,h.b.keep hb,h.r.keep hb⟩
theorem YR.fr (h:YR w wx A TA B TB) (S:Am):Fr w (wx.alloc (.cells (Ab S) 34)) w.heap.size A TA (w.heap.size+1) B TB (w.heap.size+2) wx.heap.size S:=
 ⟨Nat.ne_of_lt h.a.lt,Nat.ne_of_lt h.b.lt,Nat.ne_of_lt h.r.lt,h.below.size,Qa,h.below.alloc h.below.size _,h.a.alloc _,h.b.alloc _,h.r.alloc _,AG.new _ _ _⟩
end
theorem Fr.fin {w wx:World} {a b r g K:Nat} {A B:Array Value} {TA TB:TypeId} {S:Am} {u:Ao} {R:Option Ao} (h:Fr w wx a A TA b B TB r g S) (hO:Ew wx K S u/\r<K/\w.heap.size<=K) (hR:R=some u):LF R w (.returned (.agg (Ab S))) (wx.setRow r (Ab S)):=
 CE hR (hO.1.row hO.2.1 hO.2.2 _) (Ae h.below h.rw _)
theorem Fr.rel {w wx:World} {a b r g:Nat} {B:Am} {p:DB} {S:Am} (h:Fr w wx a (Ab B) 34 b (Av p) 72 r g S):
  AG wx g (Ab S) 34/\wx.cell? ⟨g,0,none⟩=some (.string S.scheme)/\wx.cell? ⟨a,18,none⟩=some (.slice B.pathA B.path.length B.pathC)/\wx.cell? ⟨b,2,none⟩=some (.string p.rest):=
 ⟨h.g,(h.g.at 0).trans rfl,(h.a.at 18).trans rfl,(h.b.at 2).trans rfl⟩
theorem Ad4 {B:Am} {s:List UInt8} {l:List ByteArray} (h:l.map (·.toList)=IU s (B.path.map (·.toList))) (hn:B.path.length<=1000000) (hz:∀ t∈B.path,t.size<=4294967296):l.length<=1000000/\∀ t∈l,t.size<=4294967296:=by
 have hsub:∀ x∈IU s (B.path.map (·.toList)),x∈B.path.map (·.toList):=by
  intro x hx;unfold IU at hx;split at hx
  ·exact hx
  ·exact List.dropLast_subset _ hx
 have hlen:(IU s (B.path.map (·.toList))).length<=B.path.length:=by
  unfold IU;split
  ·rw [List.length_map];exact Nat.le_refl _
  ·rw [List.length_dropLast,List.length_map];omega
 constructor
 ·have:=congrArg List.length h;rw [List.length_map] at this;omega
 ·intro t ht;have:=hsub t.toList (h ▸ List.mem_map_of_mem ht);obtain ⟨x,hx,e⟩:=List.mem_map.1 this;rw [<-Aa,<-e,Aa];exact hz x hx
structure F2 (B:Am):Prop where
 n:B.path.length<=1000000
 z:∀ t∈B.path,t.size<=4294967296
theorem Iq {S B:Am} {u b:Ao} (h:G0 S u) (hB:G0 B b):G0 (B0 S B) (DH u b):=
 ⟨h.scheme,hB.user,hB.pass,hB.host,hB.hasPort,hB.port,h.opq,h.flat,h.path,h.hasQuery,h.query,h.hasFrag,h.frag⟩
theorem LA {S B:Am} {u b:Ao} (h:G0 S u) (hB:G0 B b) (pa:Option Addr) (c:Nat):G0 (if S.hasQuery=true then Ah S pa c B.path else I5 (Ah S pa c B.path) B) (Gw u b):=by
 unfold Gw
 cases hq:u.query with
 | none=>
  have h1:¬ S.hasQuery=true:=by rw [h.hasQuery,hq];decide
  rw [if_neg h1,if_pos rfl];exact ⟨h.scheme,h.user,h.pass,h.host,h.hasPort,h.port,h.opq,h.flat,hB.path,hB.hasQuery,hB.query,h.hasFrag,h.frag⟩
 | some q=>
  have h1:S.hasQuery=true:=by rw [h.hasQuery,hq];rfl
  rw [if_pos h1,if_neg Qf]
  exact ⟨h.scheme,h.user,h.pass,h.host,h.hasPort,h.port,h.opq,h.flat,hB.path,by rw [<-hq];exact h.hasQuery,by rw [<-hq];exact h.query,h.hasFrag,h.frag⟩
def UN (S:Am):Am:=⟨S.scheme,S.user,S.pass,S.host,S.hasPort,S.port,S.flatP,S.flat,S.pathA,S.pathC,S.path,S.hasQuery,S.query,true,S.frag⟩
def Xo (S:Am) (f:ByteArray):Am:=⟨S.scheme,S.user,S.pass,S.host,S.hasPort,S.port,S.flatP,S.flat,S.pathA,S.pathC,S.path,S.hasQuery,S.query,true,f⟩
theorem AeZ {B:Am} {b:Ao} (h:G0 B b) (pa:Option Addr) (c:Nat) {f:ByteArray} {l:List UInt8} (hf:f.toList=l):G0 (Xo (Ah B pa c B.path) f) ⟨b.scheme,b.user,b.pass,b.host,b.port,b.opq,b.flat,b.path,b.query,some l⟩:=
 ⟨h.scheme,h.user,h.pass,h.host,h.hasPort,h.port,h.opq,h.flat,h.path,h.hasQuery,h.query,rfl,hf⟩
theorem Yb (B:Am) (b:Ao) (p:DB) (w:World) (hB:DM w B b) (bk:F2 B) (ok:Lj p):Calls Tryz.prog 151 #[.agg (Ab B),.agg (Av p)] w (LF (Ro b p.l) w):=by
 obtain ⟨R,hR⟩:=N2 (Ro b p.l);rw [hR];have hv:=hR.symm;unfold Ro at hv
 try dsimp only at hv
 replace hR:=H0 hR;have hI:=YR.start w (Ab B) 34 (Av p) 72;have hPB:=H0 hB.path;have hiB:=H0 hB.is;have hcap:=hB.cap;have hn:=bk.n;have hz:=bk.z;have hrz:=ok.rz;have hqz:=ok.qz;have hfz:=ok.fz;have hkq:=H0 ok.q;have hkf:=H0 ok.f;clear ok hB bk
 have hen:=H0 (fun w=>D3 p.frg 1 Qc w Qa)
 rw [show p.l.hf=p.hf from rfl,show p.l.hq=p.hq from rfl,show p.l.rest=p.rest.toList from rfl,show p.l.frg=p.frg.toList from rfl] at hv;obtain ⟨hf1,hfe⟩:∃ b,p.hf=b:=⟨_,rfl⟩;obtain ⟨hq1,hqe⟩:∃ b,p.hq=b:=⟨_,rfl⟩;obtain ⟨re1,hre⟩:∃ b,p.rest.toList.isEmpty=b:=⟨_,rfl⟩;rw [hfe,hqe,hre] at hv
 have y5:∀ {wx:World},AG wx (w.heap.size+1) (Av p) 72->wx.cell? ⟨w.heap.size+1,5,none⟩=some (.bool hf1):=fun h=>(h.at 5).trans (by rw [<-hfe];rfl)
 have y3:∀ {wx:World},AG wx (w.heap.size+1) (Av p) 72->wx.cell? ⟨w.heap.size+1,3,none⟩=some (.bool hq1):=fun h=>(h.at 3).trans (by rw [<-hqe];rfl)
 replace hfe:=H0 hfe;replace hqe:=H0 hqe;go_enter Tryz.func151,Tryz.ntmps151
 go_upto_region 1 with (fail)
 refine Ap (R:=fun wx=>YR w wx (Ab B) 34 (Av p) 72) hI ?_
 clear hI;intro w1 hI;have z5:=y5 hI.b;have z3:=y3 hI.b;have z2:=(hI.b.at 2).trans (show (Av p)[2]? =some (.string p.rest) from rfl);have x18:=(hI.a.at 18).trans (show (Ab B)[18]? =some (.slice B.pathA B.path.length B.pathC) from rfl);clear y5 y3
 by_cases hbad:(!hf1 || hq1 || !re1)=true
 ·rw [if_pos hbad] at hv;replace hv:=H0 hv
  have hcase:hf1=false\/(hf1=true/\hq1=true)\/(hf1=true/\hq1=false/\re1=false):=by
   cases hf1<;>cases hq1<;>cases re1<;>simp at hbad⊢
  replace hbad:=H0 hbad;have hbl:=H0 hI.below;clear hI
  rcases hcase with rfl | ⟨rfl,rfl⟩ | ⟨rfl,rfl,rfl⟩
  all_goals
   go_wp2_with fail;exact ⟨rfl,BS hv.out hbl.out⟩
 ·rw [if_neg hbad] at hv
  have hcase:hf1=true/\hq1=false/\re1=true:=by
   cases hf1<;>cases hq1<;>cases re1<;>simp at hbad⊢
  replace hbad:=H0 hbad;have hf:=H0 hv;clear hv;obtain ⟨rfl,rfl,rfl⟩:=hcase;have hF:=hI.fr B
  go_upto_region 4 with (first
 | (refine wpList_load_row rfl 34 _ rfl w.heap.size rfl _ (Ab B) _ _ hI.a Tryz.underlying34 rfl (Ac _) ?_)
 | (refine Af rfl 34 _ _ rfl rfl (Ab (B)) _ _ _ rfl Qf rfl (Ac _) rfl (Au _) ?_))
  clear z5 z3 z2 x18
  refine Ap (R:=fun wx=>Fr w wx (w.heap.size) (Ab B) 34 (w.heap.size+1) (Av p) 72 (w.heap.size+2) w1.heap.size B) hF ?_
  clear hF hI;intro w3 hF;obtain ⟨g,hg⟩:=N2 (w1.heap.size);rw [hg] at hF⊢;clear hg;have x18:=(hF.a.at 18).trans (show (Ab B)[18]? =some (.slice B.pathA B.path.length B.pathC) from rfl);go_wp2_with fail;refine (Fy B.pathA B.path.length B.pathC B.path _ (hPB.out.below hF.below (Nat.le_refl _)) Qa).mono ?_;rintro e w5 ⟨v,rfl,ho,hb5⟩;have hg5:=hF.g.lt;have hr5:=hF.r.lt;have hs5:=hF.below.size;obtain ⟨pa,c,rfl,-,-⟩:=BH ho;replace hF:=hF.keep hb5;clear hb5 x18;have hF1:=hF.set (Ah B pa c B.path);have hF2:=hF1.set (UN (Ah B pa c B.path));have y6:=(hF2.b.at 6).trans (show (Av p)[6]? =some (.string p.frg) from rfl);have ho2:=AH.row (AH.row ho hg5 (Ab (Ah B pa c B.path))) hg5 (Ab (UN (Ah B pa c B.path)))
  go_wp2_with (first
 | (refine Ad rfl _ _ _ rfl g 18 rfl (.slice pa B.path.length c) rfl rfl _ (Ab (B)) (Ab (Ah B pa c B.path)) hF.g Bs Qp rfl Qb ?_)
 | (refine Ad rfl _ _ _ rfl g 21 rfl (.bool true) rfl rfl _ (Ab (Ah B pa c B.path)) (Ab (UN (Ah B pa c B.path))) hF1.g Jv (by show 21+1<=23;decide) rfl Qb ?_))
  refine (hen.out _).mono ?_;rintro e w6 ⟨t,rfl,ht,hb6⟩;have hF3:=hF2.keep hb6;have hF4:=hF3.set (Xo (Ah B pa c B.path) t);have ho3:=BC ho2 hb6 (Nat.le_refl _);clear y6 hb6 hF hF1 hF2 ho ho2
  go_wp2_with (first
 | (refine Ad rfl _ _ _ rfl g 22 rfl (.string t) rfl rfl _ (Ab (UN (Ah B pa c B.path))) (Ab (Xo (Ah B pa c B.path) t)) hF3.g Fc (by show 22+1<=23;decide) rfl Qb ?_)
 | (refine wpList_load_row rfl 34 _ rfl g rfl _ (Ab (Xo (Ah B pa c B.path) t)) _ _ hF4.g Tryz.underlying34 rfl (Ac _) ?_)
 | (refine wpList_store_row rfl 34 _ _ rfl (w.heap.size+2) (Ab (Xo (Ah B pa c B.path) t)) rfl rfl 34 _ hF4.r (Ac _) rfl (Au _) ?_))
  refine Bl rfl rfl rfl (hF4.r.set _) (Ac _) ?_;exact hF4.fin ⟨⟨AeZ hiB.out pa c ht.out,AH.row ho3 hg5 _⟩,hr5,hs5⟩ hf.out
theorem Y0 (B:Am) (b:Ao) (p:DB) (w:World) (hE:Gu w) (hB:DM w B b) (bk:F2 B) (ok:Lj p):Calls Tryz.prog 152 #[.agg (Ab B),.agg (Av p)] w (LF (EL b p.l) w):=by
 obtain ⟨R,hR⟩:=N2 (EL b p.l);rw [hR];have hv:=hR.symm;unfold EL at hv
 try dsimp only at hv
 replace hR:=H0 hR;have hI:=YR.start w (Ab B) 34 (Av p) 72;have hPB:=H0 hB.path;have hiB:=H0 hB.is;have hcap:=hB.cap;have hn:=bk.n;have hz:=bk.z;have hrz:=ok.rz;have hqz:=ok.qz;have hfz:=ok.fz;have hkq:=H0 ok.q;have hkf:=H0 ok.f;have hE':=H0 hE;clear ok hE hB bk
 have hst:=H0 (fun w=>Kc B.scheme p w Qa Qa)
 have hsl:=H0 (fun w=>Hn B.scheme p.rest w Qa)
 have hsp:=H0 (fun w=>DW B.scheme w)
 have hun:=H0 (fun w=>KJ B.scheme p.rest w Qa)
 have hsh:=H0 (fun w hp=>Ow B.scheme B.pathA B.path.length B.pathC B.path w hp hn hcap hz)
 have hle:=FO (Aj b.scheme) p.rest.toList;rw [Aa] at hle;rw [<-hiB.out.scheme,show p.l.rest=p.rest.toList from rfl] at hv;rw [<-hiB.out.scheme] at hle;obtain ⟨SP,hSP⟩:∃ b,Aj B.scheme.toList=b:=⟨_,rfl⟩;rw [hSP] at hsl hsp hv hun hle;obtain ⟨n,hnn⟩:=N2 (A4 SP p.rest.toList);rw [hnn] at hsl hv hle;replace hnn:=H0 hnn;replace hv:=H0 hv;go_enter Tryz.func152,Tryz.ntmps152
 go_upto_region 1 with (fail)
 refine Ap (R:=fun wx=>YR w wx (Ab B) 34 (Av p) 72) hI ?_
 clear hI;intro w1 hI;have y0:=(hI.a.at 0).trans (show (Ab B)[0]? =some (.string B.scheme) from rfl);go_wp2_with (refine wpList_load_row rfl 72 _ rfl (w.heap.size+1) rfl _ (Av p) _ _ hI.b Tryz.underlying72 rfl (CA p) ?_);refine (hst.out _).mono ?_;rintro e w2 ⟨q,f,rfl,hqv,hfv,hb⟩;have his:=HW hqv.out hfv.out hkq.out hkf.out;obtain ⟨S,hS⟩:=N2 (DN B.scheme p q f);have h0:S.pathA=none:=QO;have h1:S.pathC=0:=QO;have h2:S.path=[]:=QO;have h3:S.scheme=B.scheme:=QO;rw [hS] at his⊢;replace his:=H0 his;replace hS:=H0 hS;replace h0:=H0 h0;replace h1:=H0 h1;replace h2:=H0 h2;have hI2:=hI.keep hb;have hF:=hI2.fr S;clear hI hI2 hb y0 hst
 go_upto_region 2 with (refine Af rfl 34 _ _ rfl rfl (Ab (S)) _ _ _ rfl Qf rfl (Ac _) rfl (Au _) ?_)
 refine Ap (R:=fun wx=>Fr w wx (w.heap.size) (Ab B) 34 (w.heap.size+1) (Av p) 72 (w.heap.size+2) w2.heap.size S) hF ?_
 clear hF;intro w3 hI;obtain ⟨g,hg⟩:=N2 (w2.heap.size);rw [hg] at hI⊢;clear hg
 have x0:=(hI.g.at 0).trans (show (Ab S)[0]? =some (.string B.scheme) by rw [<-h3];rfl)
 have y2:=(hI.b.at 2).trans (show (Av p)[2]? =some (.string p.rest) from rfl);rw [<-h3] at hsh;replace h3:=H0 h3
 by_cases hn2:2<=n
 ·have hn2I:(2:Int)<=(n:Int):=Qa;have hv1:=hv.out;rw [if_pos hn2] at hv1
  cases SP with
  | true=>
   rw [if_pos rfl] at hv1;replace hv1:=H0 hv1
   go_wp2_with (first
    | (go_at_call 207;refine (hsl.out _).mono ?_;rintro e w' ⟨rfl,rfl⟩)
    | (go_at_call 145;refine (hsp.out _).mono ?_;rintro e w' ⟨rfl,rfl⟩)
    | (go_at_call 149;refine (hun.out _).mono ?_;rintro e w' ⟨⟨r,rfl,hr1,hr2⟩,rfl⟩))
   refine (LU g S (Ax B.scheme.toList p.l) r _ (hI.env hE'.out) hI.g his.out h0.out h1.out h2.out Qa).mono ?_;rintro e w4 ⟨hres,hc⟩;replace hv1:=hv1.out;rw [<-hr1.out] at hv1;clear y2 x0 hv;obtain ⟨O,hO⟩:=N2 (IP (Ax B.scheme.toList p.l) r.toList);rw [hO] at hv1 hres;replace hO:=H0 hO
   cases O with
   | none=>
    obtain ⟨pv,rfl⟩:=hres;exact ⟨rfl,BS hv1 (hI.out hc)⟩
   | some u=>
    obtain ⟨rfl,S',hcel,hu⟩:=hres;have hs5:=hI.below.size;have hr5:=hI.r.lt;replace hI:=hI.chg hc hcel;have hf:=H0 hv1;clear hc hcel hv1
    go_wp2_with (first
     | (refine wpList_load_row rfl 34 _ rfl g rfl _ (Ab (S')) _ _ hI.g Tryz.underlying34 rfl (Ac _) ?_)
     | (refine wpList_store_row rfl 34 _ _ rfl (w.heap.size+2) (Ab (S')) rfl rfl 34 _ hI.r (Ac _) rfl (Au _) ?_))
    refine Bl rfl rfl rfl (hI.r.set _) (Ac _) ?_;exact hI.fin ⟨hu,hr5,hs5⟩ hf.out
  | false=>
   rw [if_neg Qc] at hv1;have h2r:(2:Int)<=(p.rest.size:Int):=Qa;have hr1:Hid ((p.rest.extract 2 p.rest.size).toList=p.rest.toList.drop 2):=H0 Qq;have hr2:(p.rest.extract 2 p.rest.size).size<=p.rest.size:=Qh;obtain ⟨r,hre⟩:=N2 (p.rest.extract 2 p.rest.size);rw [hre] at hr1 hr2;replace hv1:=H0 hv1
   go_wp2_with (first
    | (go_at_call 207;refine (hsl.out _).mono ?_;rintro e w' ⟨rfl,rfl⟩)
    | (go_at_call 145;refine (hsp.out _).mono ?_;rintro e w' ⟨rfl,rfl⟩))
   refine (LU g S (Ax B.scheme.toList p.l) r _ (hI.env hE'.out) hI.g his.out h0.out h1.out h2.out Qa).mono ?_;rintro e w4 ⟨hres,hc⟩;replace hv1:=hv1.out;rw [<-hr1.out] at hv1;clear y2 x0 hv;obtain ⟨O,hO⟩:=N2 (IP (Ax B.scheme.toList p.l) r.toList);rw [hO] at hv1 hres;replace hO:=H0 hO
   cases O with
   | none=>
    obtain ⟨pv,rfl⟩:=hres;exact ⟨rfl,BS hv1 (hI.out hc)⟩
   | some u=>
    obtain ⟨rfl,S',hcel,hu⟩:=hres;have hs5:=hI.below.size;have hr5:=hI.r.lt;replace hI:=hI.chg hc hcel;have hf:=H0 hv1;clear hc hcel hv1
    go_wp2_with (first
     | (refine wpList_load_row rfl 34 _ rfl g rfl _ (Ab (S')) _ _ hI.g Tryz.underlying34 rfl (Ac _) ?_)
     | (refine wpList_store_row rfl 34 _ _ rfl (w.heap.size+2) (Ab (S')) rfl rfl 34 _ hI.r (Ac _) rfl (Au _) ?_))
    refine Bl rfl rfl rfl (hI.r.set _) (Ac _) ?_;exact hI.fin ⟨hu,hr5,hs5⟩ hf.out
 ·have hv1:=hv.out;rw [if_neg hn2] at hv1;have hn2I:(n:Int)<2:=Qa
  by_cases hn1:n=1
  ·subst hn1;rw [if_pos rfl] at hv1;have h1r:(1:Int)<=(p.rest.size:Int):=Qa;have hr1:Hid ((p.rest.extract 1 p.rest.size).toList=p.rest.toList.drop 1):=H0 Qq;have hr2:(p.rest.extract 1 p.rest.size).size<=1100000:=Qh;rw [<-hr1.out] at hv1;have hf:=H0 hv1;clear hv1 hv
   go_upto_region 10 with (first
    | (go_at_call 207;refine (hsl.out _).mono ?_;rintro e w' ⟨rfl,rfl⟩)
    | (go_at_call 145;refine (hsp.out _).mono ?_;rintro e w' ⟨rfl,rfl⟩))
   go_wp2_with (refine wpList_load_row rfl 34 _ rfl w.heap.size rfl _ (Ab B) _ _ hI.a Tryz.underlying34 rfl (Ac _) ?_);refine (IN g S B _ hI.g).mono ?_;rintro e w4 ⟨rfl,hcel,hch⟩;replace hI:=hI.chg hch hcel;clear hcel hch;clear x0 y2
   go_upto_region 11 with (fail)
   refine Ap (R:=fun wx=>Fr w wx (w.heap.size) (Ab B) 34 (w.heap.size+1) (Av p) 72 (w.heap.size+2) g (B0 S B)) hI ?_
   clear hI;intro w5 hI;replace hI:=hI.drew;refine wp_region_noPanic ?_
   refine wp_region_held_drew (S:=fun w'=>w'.cell? ⟨g,0,none⟩=some (.string (B0 S B).scheme)/\w'.cell? ⟨w.heap.size,18,none⟩=some (.slice B.pathA B.path.length B.pathC)/\w'.cell? ⟨w.heap.size+1,2,none⟩=some (.string p.rest)) Qb (hI.rel.2) (fun hHeld=> ?_)
   refine T0 0 55 ?_ hHeld ?_ ?_;rotate_left
   ·intro w hSw;(try dsimp only at hSw);go_simp;try with_reducible rfl
   try simp only [P3]
   refine T0 1 56 ?_ hHeld ?_ ?_;rotate_left
   ·intro w hSw;(try dsimp only at hSw);go_simp;try with_reducible rfl
   try simp only [P3]
   refine T0 2 57 ?_ hHeld ?_ ?_;rotate_left
   ·intro w hSw;(try dsimp only at hSw);go_simp;try with_reducible rfl
   try simp only [P3]
   refine T0 3 58 ?_ hHeld ?_ ?_;rotate_left
   ·intro w hSw;(try dsimp only at hSw);go_simp;try with_reducible rfl
   try simp only [P3]
   refine T0 4 59 ?_ hHeld ?_ ?_;rotate_left
   ·intro w hSw;(try dsimp only at hSw);go_simp;try with_reducible rfl
   try simp only [P3]
   refine wpAnyH_ready (rs:=[5]) Qb Qf ?_
   refine AllReadyH.cons rfl (fun K hK=> ?_) AllReadyH.nil
   go_simp
   refine (BB (B0 S B).scheme none 0 0 [] (p.rest.extract 1 p.rest.size) _ (Da _) Qc hr2 (fun t h=>Qr)).mono ?_
   rintro e w6 ⟨v,l5,rfl,hl5,ho,hb⟩;have hg5:=hI.g.lt;have hs5:=hI.below.size;have hr5:=hI.r.lt;obtain ⟨pa,c,rfl,-,-⟩:=BH ho;replace hI:=hI.keep hb;replace ho:=H0 ho;clear hb hHeld;go_wp2_with fail
   refine hK.out _ _ (hI.rel.2) (fun hHeld=> ?_)
   clear hK K
   try simp only [P3]
   refine T0 6 61 ?_ hHeld ?_ ?_;rotate_left
   ·intro w hSw;(try dsimp only at hSw);go_simp;try with_reducible rfl
   try simp only [P3]
   refine wpAnyH_ready (rs:=[7]) Qb Qf ?_
   refine AllReadyH.cons rfl (fun K hK=> ?_) AllReadyH.nil
   refine AQ Qb (fun Q' hQ'=> ?_)
   refine Ad rfl _ _ _ rfl g 18 rfl (.slice pa l5.length c) rfl rfl _ (Ab (B0 S B)) (Ab (Ah (B0 S B) pa c l5)) hI.g Bs Qp rfl Qb ?_;replace hI:=hI.set (Ah (B0 S B) pa c l5);refine hQ' _ _ ?_
   refine hK.out _ _ (hI.rel.2) (fun hHeld=> ?_)
   clear hK K hQ' Q'
   try simp only [P3]
   refine wpAnyH_done Qb ?_ _;refine NoPanic.normal ?_
   go_upto_region 15 with (fail)
   refine Ap (R:=fun wx=>Fr w wx (w.heap.size) (Ab B) 34 (w.heap.size+1) (Av p) 72 (w.heap.size+2) g (Ah (B0 S B) pa c l5)/\AH wx w5.drew.heap.size 9 (.slice pa l5.length c) l5) ⟨hI,AH.row ho.out hg5 _⟩ ?_
   clear hI ho hHeld;rintro w7 ⟨hI,ho⟩;have hl2:=hl5.out;rw [show (B0 S B).scheme=S.scheme from rfl,h3.out] at hl2
   go_wp2_with (first
    | (refine wpList_load_row rfl 34 _ rfl g rfl _ (Ab (Ah (B0 S B) pa c l5)) _ _ hI.g Tryz.underlying34 rfl (Ac _) ?_)
    | (refine wpList_store_row rfl 34 _ _ rfl (w.heap.size+2) (Ab (Ah (B0 S B) pa c l5)) rfl rfl 34 _ hI.r (Ac _) rfl (Au _) ?_))
   refine Bl rfl rfl rfl (hI.r.set _) (Ac _) ?_;exact hI.fin ⟨⟨Cy (Iq his.out hiB.out) hl2,ho⟩,hr5,hs5⟩ hf.out
  ·obtain rfl:n=0:=Qa;rw [if_neg Qc] at hv1;obtain ⟨re,hre⟩:∃ b,p.rest.toList.isEmpty=b:=⟨_,rfl⟩;rw [hre] at hv1
   cases re with
   | true=>
    have hf:=H0 (hv1.trans (if_pos rfl));clear hv1 hv
    go_upto_region 13 with (first
     | (go_at_call 207;refine (hsl.out _).mono ?_;rintro e w' ⟨rfl,rfl⟩)
     | (go_at_call 145;refine (hsp.out _).mono ?_;rintro e w' ⟨rfl,rfl⟩))
    go_wp2_with (refine wpList_load_row rfl 34 _ rfl w.heap.size rfl _ (Ab B) _ _ hI.a Tryz.underlying34 rfl (Ac _) ?_);refine (IN g S B _ hI.g).mono ?_;rintro e w4 ⟨rfl,hcel,hch⟩;replace hI:=hI.chg hch hcel;clear hcel hch;clear x0 y2;have hg5:=hI.g.lt;have hs5:=hI.below.size;have hr5:=hI.r.lt;go_wp2_with (refine wpList_load_row rfl 34 _ rfl w.heap.size rfl _ (Ab B) _ _ hI.a Tryz.underlying34 rfl (Ac _) ?_);refine (Mu g (B0 S B) B _ hI.g (hPB.out.below hI.below (Nat.le_refl _)) Qa).mono ?_;rintro e w6 ⟨pa,c,rfl,hcel,ho,hch⟩;have hip:=LA (Iq his.out hiB.out) hiB.out pa c
    have hpath:(if (B0 S B).hasQuery=true then Ah (B0 S B) pa c B.path else I5 (Ah (B0 S B) pa c B.path) B).path=B.path/\(if (B0 S B).hasQuery=true then Ah (B0 S B) pa c B.path else I5 (Ah (B0 S B) pa c B.path) B).pathA=pa/\(if (B0 S B).hasQuery=true then Ah (B0 S B) pa c B.path else I5 (Ah (B0 S B) pa c B.path) B).pathC=c:=by
     split<;>exact ⟨rfl,rfl,rfl⟩
    obtain ⟨T,hT⟩:∃ T,(if (B0 S B).hasQuery=true then Ah (B0 S B) pa c B.path else I5 (Ah (B0 S B) pa c B.path) B)=T:=⟨_,rfl⟩
    rw [hT] at hcel hip hpath;replace hT:=H0 hT;replace hI:=hI.chg hch hcel;replace hip:=H0 hip;clear hcel hch;obtain ⟨e1,e2,e3⟩:=hpath;rw [<-e1,<-e2,<-e3] at ho;replace e1:=H0 e1;replace e2:=H0 e2;replace e3:=H0 e3;replace ho:=H0 ho
    go_wp2_with (first
     | (refine wpList_load_row rfl 34 _ rfl g rfl _ (Ab (T)) _ _ hI.g Tryz.underlying34 rfl (Ac _) ?_)
     | (refine wpList_store_row rfl 34 _ _ rfl (w.heap.size+2) (Ab (T)) rfl rfl 34 _ hI.r (Ac _) rfl (Au _) ?_))
    refine Bl rfl rfl rfl (hI.r.set _) (Ac _) ?_;exact hI.fin ⟨⟨hip.out,ho.out⟩,hr5,hs5⟩ hf.out
   | false=>
    have hf:=H0 (hv1.trans (if_neg Qc));clear hv1 hv
    go_upto_region 3 with (first
     | (go_at_call 207;refine (hsl.out _).mono ?_;rintro e w' ⟨rfl,rfl⟩)
     | (go_at_call 145;refine (hsp.out _).mono ?_;rintro e w' ⟨rfl,rfl⟩))
    go_wp2_with (refine wpList_load_row rfl 34 _ rfl w.heap.size rfl _ (Ab B) _ _ hI.a Tryz.underlying34 rfl (Ac _) ?_);refine (IN g S B _ hI.g).mono ?_;rintro e w4 ⟨rfl,hcel,hch⟩;replace hI:=hI.chg hch hcel;clear hcel hch;clear x0 y2
    go_upto_region 4 with (fail)
    refine Ap (R:=fun wx=>Fr w wx (w.heap.size) (Ab B) 34 (w.heap.size+1) (Av p) 72 (w.heap.size+2) g (B0 S B)) hI ?_
    clear hI;intro w5 hI;have hP1:=hPB.out.below hI.below (Nat.le_refl _);replace hP1:=H0 (hP1.below (Below.refl _ _).drew (Nat.le_refl _));replace hI:=hI.drew;refine wp_region_noPanic ?_
    refine wp_region_held_drew (S:=fun w'=>w'.cell? ⟨g,0,none⟩=some (.string (B0 S B).scheme)/\w'.cell? ⟨w.heap.size,18,none⟩=some (.slice B.pathA B.path.length B.pathC)/\w'.cell? ⟨w.heap.size+1,2,none⟩=some (.string p.rest)) Qb (hI.rel.2) (fun hHeld=> ?_)
    refine T0 0 18 ?_ hHeld ?_ ?_;rotate_left
    ·intro w hSw;(try dsimp only at hSw);go_simp;try with_reducible rfl
    try simp only [P3]
    refine T0 1 19 ?_ hHeld ?_ ?_;rotate_left
    ·intro w hSw;(try dsimp only at hSw);go_simp;try with_reducible rfl
    try simp only [P3]
    refine T0 2 20 ?_ hHeld ?_ ?_;rotate_left
    ·intro w hSw;(try dsimp only at hSw);go_simp;try with_reducible rfl
    try simp only [P3]
    refine T0 3 21 ?_ hHeld ?_ ?_;rotate_left
    ·intro w hSw;(try dsimp only at hSw);go_simp;try with_reducible rfl
    try simp only [P3]
    refine T0 4 22 ?_ hHeld ?_ ?_;rotate_left
    ·intro w hSw;(try dsimp only at hSw);go_simp;try with_reducible rfl
    try simp only [P3]
    refine T0 5 23 ?_ hHeld ?_ ?_;rotate_left
    ·intro w hSw;(try dsimp only at hSw);go_simp;try with_reducible rfl
    try simp only [P3]
    refine T0 7 25 ?_ hHeld ?_ ?_;rotate_left
    ·intro w hSw;(try dsimp only at hSw);go_simp;try with_reducible rfl
    try simp only [P3]
    refine T0 8 26 ?_ hHeld ?_ ?_;rotate_left
    ·intro w hSw;(try dsimp only at hSw);go_simp;try with_reducible rfl
    try simp only [P3]
    refine wpAnyH_ready (rs:=[6]) Qb Qf ?_
    refine AllReadyH.cons rfl (fun K hK=> ?_) AllReadyH.nil
    go_simp;refine (hsh.out _ hP1.out).mono ?_;rintro e w4 ⟨v,l,rfl,hl,ho,hb⟩;have hll:=Ad4 hl.out hn hz;obtain ⟨hn4,hz4⟩:=hll;obtain ⟨pa4,c4,rfl,hP4⟩:=DO.own ho;replace hI:=hI.keep hb;replace hP4:=H0 hP4;clear hb hHeld ho hP1;go_wp2_with fail
    refine hK.out _ _ (hI.rel.2) (fun hHeld=> ?_)
    clear hK K
    try simp only [P3]
    refine wpAnyH_ready (rs:=[9]) Qb Qf ?_
    refine AllReadyH.cons rfl (fun K hK=> ?_) AllReadyH.nil
    go_simp;refine (BB (B0 S B).scheme pa4 l.length c4 l p.rest _ hP4.out hn4 hrz hz4).mono ?_;rintro e w5 ⟨v,l5,rfl,hl5,ho,hb⟩;have hg5:=hI.g.lt;have hs5:=hI.below.size;have hr5:=hI.r.lt;obtain ⟨pa,c,rfl,-,-⟩:=BH ho;replace hI:=hI.keep hb;replace ho:=H0 ho;clear hb hHeld;go_wp2_with fail
    refine hK.out _ _ (hI.rel.2) (fun hHeld=> ?_)
    clear hK K
    try simp only [P3]
    refine T0 10 28 ?_ hHeld ?_ ?_;rotate_left
    ·intro w hSw;(try dsimp only at hSw);go_simp;try with_reducible rfl
    try simp only [P3]
    refine wpAnyH_ready (rs:=[11]) Qb Qf ?_
    refine AllReadyH.cons rfl (fun K hK=> ?_) AllReadyH.nil
    refine AQ Qb (fun Q' hQ'=> ?_)
    refine Ad rfl _ _ _ rfl g 18 rfl (.slice pa l5.length c) rfl rfl _ (Ab (B0 S B)) (Ab (Ah (B0 S B) pa c l5)) hI.g Bs Qp rfl Qb ?_;replace hI:=hI.set (Ah (B0 S B) pa c l5);refine hQ' _ _ ?_
    refine hK.out _ _ (hI.rel.2) (fun hHeld=> ?_)
    clear hK K hQ' Q'
    try simp only [P3]
    refine wpAnyH_done Qb ?_ _;refine NoPanic.normal ?_
    go_upto_region 15 with (fail)
    refine Ap (R:=fun wx=>Fr w wx (w.heap.size) (Ab B) 34 (w.heap.size+1) (Av p) 72 (w.heap.size+2) g (Ah (B0 S B) pa c l5)/\AH wx w4.heap.size 9 (.slice pa l5.length c) l5) ⟨hI,AH.row ho.out hg5 _⟩ ?_
    clear hI ho hHeld;rintro w6 ⟨hI,ho⟩;have hl2:=hl5.out;rw [hl.out,hiB.out.path,show (B0 S B).scheme=S.scheme from rfl,h3.out] at hl2
    go_wp2_with (first
     | (refine wpList_load_row rfl 34 _ rfl g rfl _ (Ab (Ah (B0 S B) pa c l5)) _ _ hI.g Tryz.underlying34 rfl (Ac _) ?_)
     | (refine wpList_store_row rfl 34 _ _ rfl (w.heap.size+2) (Ab (Ah (B0 S B) pa c l5)) rfl rfl 34 _ hI.r (Ac _) rfl (Au _) ?_))
    refine Bl rfl rfl rfl (hI.r.set _) (Ac _) ?_;exact hI.fin ⟨⟨Cy (Iq his.out hiB.out) hl2,ho⟩,hr5,hs5⟩ hf.out
end Go.Proofs.YtonomfeipkdmhaaGreatDoor
