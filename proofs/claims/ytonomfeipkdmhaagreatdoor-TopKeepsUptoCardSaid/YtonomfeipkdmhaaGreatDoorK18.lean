/- Part 18: lemmas. -/
import Derived.Test.YtonomfeipkdmhaaGreatDoorK17
import Derived.Deep.MidRow
import Derived.Lib.AppendIntMem
set_option linter.unusedVariables false
set_option linter.unusedSimpArgs false
set_option maxRecDepth 100000
set_option maxHeartbeats 16000000
namespace Go.Proofs.YtonomfeipkdmhaaGreatDoor
open Go.RowKit
def F4 (u:Al):List UInt8:=if u.user.toList=[]/\u.pass.toList=[] then [] else if u.pass.toList=[] then u.user.toList++[64] else u.user.toList++[58]++u.pass.toList++[64]
def Ex (b:Bool) (l:List UInt8):List UInt8:=if b then l else []
def Jj (u:Al):List UInt8:=Ex u.hasPort ([58]++Lib.itoa u.port)
def Yq:List ByteArray->Bool
 | []=>false
 | t :: _=>t.toList.isEmpty
theorem EP (b:Bool):b=false\/b=true:=by cases b<;>simp
def K9 (u:Al):Bool:= !u.flatP && (decide (2<=u.path.length) && Yq u.path)
def CQ (u:Al):List UInt8:=if u.host.kind=0 then Ex (K9 u) [47,46] else [47,47]++F4 u++Fa u.host++Jj u
def Eg (u:Al) (f:Bool):List UInt8:=u.scheme.toList++[58]++CQ u++E3 u++Ex u.hasQuery ([63]++u.query.toList)++Ex (u.hasFrag && f) ([35]++u.frag.toList)
structure Gs (u:Al):Prop where
 scheme:u.scheme.size<=34359738368
 user:u.user.size<=34359738368
 pass:u.pass.size<=34359738368
 name:u.host.name.size<=34359738368
 flat:u.flat.size<=34359738368
 query:u.query.size<=34359738368
 frag:u.frag.size<=34359738368
 path:(DK u.path).length<=34359738368
 pieces:u.path.length<=maxLen
 port: -9223372036854775808<=u.port/\u.port<=9223372036854775807
 host:ME u.host
structure WD (w wx:World) (u:Al) (P:List UInt8):Prop where
 bld:Kx wx (w.heap.size+1) (w.heap.size+1) P
 below:Below w.heap.size w wx
 blk:wx.heap[w.heap.size]? =some (.cells (Ab u) 34 (0,0))
 size:w.heap.size+2<=wx.heap.size
theorem WD.write {w wx w':World} {u:Al} {P Q:List UInt8} (h:WD w wx u P) (hb:Below (w.heap.size+1) wx w') (hq:Kx w' (w.heap.size+1) (w.heap.size+1) Q):WD w w' u Q:=
 ⟨hq,h.below.trans (hb.mono (by omega)),(hb.block _ (by omega)).trans h.blk,by have:=hb.size;have:=h.size;omega⟩
theorem WD.box {w wx:World} {u:Al} {P:List UInt8} (h:WD w wx u P) (i:Nat):wx.cell? ⟨w.heap.size,i,none⟩=(Ab u)[i]? :=cell_of_row _ _ _ _ _ _ h.blk
theorem Fv:(Tryz.prog.info? 34).map (·.size)=some 23:=by kernel_rfl
theorem WD.keep {w wx w':World} {u:Al} {P:List UInt8} (h:WD w wx u P) (hb:Below wx.heap.size wx w'):WD w w' u P:=
 h.write (hb.mono (by have:=h.size;omega)) (h.bld.keep hb)
theorem WD.cast {w wx:World} {u:Al} {P Q:List UInt8} (h:WD w wx u P) (e:P=Q):WD w wx u Q:=e ▸ h
theorem Adq (n:Int) (h0: -9223372036854775808<=n) (h1:n<=9223372036854775807) (w:World) (ht:Ij w):
  Calls Tryz.prog 45 #[.int .i64 n] w (Cy w (Lib.itoa n)):=by
 refine (Tryz.strconv_Itoa n h0 h1 w ht.1).mono ?_;rintro e w' ⟨rfl,k,os,rfl⟩;exact F6 rfl (Lib.below_grow _ w (Nat.le_refl _) k os)
theorem SC:∀ (k u:Nat),u<10 ^ (k+1)->(Lib.decDigits u).length<=k+1
 | 0,u,h=>by rw [Lib.decDigits,dif_pos (by omega)];simp
 | k+1,u,h=>by
  rw [Lib.decDigits];split
  ·simp
  ·have:=SC k (u / 10) (by rw [Nat.pow_succ] at h;exact Nat.div_lt_of_lt_mul (by omega))
   rw [List.length_append];simp;omega
theorem Lo (n:Int) (h0: -9223372036854775808<=n) (h1:n<=9223372036854775807):(Lib.itoa n).length<=40:=by
 unfold Lib.itoa;split
 ·have:=SC 19 n.natAbs (by omega)
  simp;omega
 ·have:=SC 19 n.toNat (by omega)
  omega
theorem AdI (u:Al) (w:World) (h1:u.user.size<=34359738368) (h2:u.pass.size<=34359738368):
  Calls Tryz.prog 43 #[.agg (Ab u)] w (Cy w (F4 u)):=by
 have hb1:Below w.heap.size w (w.alloc (.cells (Ab u) 34)):=(Below.refl _ _).alloc (Nat.le_refl _) _;unfold Ab at hb1⊢
 have hcs:(u.user.toList.isEmpty=true/\u.pass.toList.isEmpty=true/\Hid (F4 u=[]))\/(u.user.toList.isEmpty=false/\u.pass.toList.isEmpty=true/\Hid (F4 u=u.user.toList++[64]))\/(u.pass.toList.isEmpty=false/\Hid (F4 u=u.user.toList++[58]++u.pass.toList++[64])):=by
  cases hu:u.user.toList<;>cases hp:u.pass.toList
  ·exact .inl ⟨rfl,rfl,H0 (by simp [F4,hu,hp])⟩
  ·exact .inr (.inr ⟨rfl,H0 (by simp [F4,hu,hp])⟩)
  ·exact .inr (.inl ⟨rfl,rfl,H0 (by simp [F4,hu,hp])⟩)
  ·exact .inr (.inr ⟨rfl,H0 (by simp [F4,hu,hp])⟩)
 rcases hcs with ⟨e1,e2,e3⟩ | ⟨e1,e2,e3⟩ | ⟨e2,e3⟩
 ·go_enter Tryz.func43,Tryz.ntmps43;go_wp2_with fail;go_ret;exact BL ((toList_mk []).trans e3.out.symm) hb1
 ·go_enter Tryz.func43,Tryz.ntmps43;go_wp2_with fail;go_ret
  exact BL (by rw [e3.out,toList_append,show (ByteArray.mk #[64]).toList=[64] from toList_mk _]) hb1
 ·cases hu:u.user.toList.isEmpty
  all_goals
   go_enter Tryz.func43,Tryz.ntmps43;go_wp2_with fail;go_ret
   exact BL (by rw [e3.out,toList_append,toList_append,toList_append,show (ByteArray.mk #[64]).toList=[64] from toList_mk _,show (ByteArray.mk #[58]).toList=[58] from toList_mk _]) hb1
theorem Nn (l:List ByteArray) (h:0<l.length):Yq l=l[0].toList.isEmpty:=by
 cases l with
 | nil=>simp at h
 | cons t r=>rfl
theorem LJ (u:Al):(Ab u)[0]? =some (.string u.scheme)/\(Ab u)[1]? =some (.string u.user)/\(Ab u)[2]? =some (.string u.pass)/\(Ab u)[3]? =some (.int .i64 u.host.kind)/\(Ab u)[4]? =some (.string u.host.name)/\(Ab u)[5]? =some (.int .u32 (u.host.four:Int))/\(Ab u)[6]? =some (.int .u16 ((pc u.host.six 0:Nat):Int))/\(Ab u)[7]? =some (.int .u16 ((pc u.host.six 1:Nat):Int))/\(Ab u)[8]? =some (.int .u16 ((pc u.host.six 2:Nat):Int))/\(Ab u)[9]? =some (.int .u16 ((pc u.host.six 3:Nat):Int))/\(Ab u)[10]? =some (.int .u16 ((pc u.host.six 4:Nat):Int))/\(Ab u)[11]? =some (.int .u16 ((pc u.host.six 5:Nat):Int))/\(Ab u)[12]? =some (.int .u16 ((pc u.host.six 6:Nat):Int))/\(Ab u)[13]? =some (.int .u16 ((pc u.host.six 7:Nat):Int))/\(Ab u)[14]? =some (.bool u.hasPort)/\(Ab u)[15]? =some (.int .i64 u.port)/\(Ab u)[16]? =some (.bool u.flatP)/\(Ab u)[17]? =some (.string u.flat)/\(Ab u)[18]? =some (.slice u.pathA u.path.length u.pathC)/\(Ab u)[19]? =some (.bool u.hasQuery)/\(Ab u)[20]? =some (.string u.query)/\(Ab u)[21]? =some (.bool u.hasFrag)/\(Ab u)[22]? =some (.string u.frag):=
 ⟨rfl,rfl,rfl,rfl,rfl,rfl,rfl,rfl,rfl,rfl,rfl,rfl,rfl,rfl,rfl,rfl,rfl,rfl,rfl,rfl,rfl,rfl,rfl⟩
theorem Pb (u:Al) (h1:u.user.size<=34359738368) (h2:u.pass.size<=34359738368):(F4 u).length<=68719476738:=by
 unfold F4;split
 ·simp
 ·split<;>simp only [List.length_append,List.length_cons,List.length_nil,Aa]<;>omega
theorem JS (h:CL) (hn:h.name.size<=34359738368):(Fa h).length<=34359738368:=by
 have h1:=Mu h.four;have h2:=Jy h.six;unfold Fa;split
 ·rw [Aa];exact hn
 ·split
  ·omega
  ·split<;>simp<;>omega
theorem OE (u:Al) (fit:Gs u):(CQ u).length<=103079215300:=by
 have h1:=Pb u fit.user fit.pass;have h2:=JS u.host fit.name;have h3:=Lo u.port fit.port.1 fit.port.2;unfold CQ Jj Ex;split
 ·split<;>simp
 ·split<;>simp<;>omega
theorem Gj (u:Al) (f:Bool) (w:World) (hp:Fs w u) (fit:Gs u) (ht:Ij w):
  Calls Tryz.prog 17 #[.agg (Ab u),.bool f] w (Cy w (Eg u f)):=by
 have hI:WD w ((w.alloc (.cells (Ab u) 34)).alloc (.cells #[.pointer none,.slice none 0 0] 76)) u []:=by
  refine ⟨?_,((Below.refl _ _).alloc (Nat.le_refl _) _).alloc (by simp) _,heap_alloc2_old w _ _,by simp⟩
  have:=Kx.fresh (w.alloc (.cells (Ab u) 34));simpa using this
 have f1:=fit.scheme;have f2:=fit.query;have f3:=fit.frag;have f4:=fit.path;have f5:=fit.flat;have hwl:=Pb u fit.user fit.pass;have hhl:=JS u.host fit.name;have hal:=OE u fit
 have hpx:(E3 u).length<=34359738368:=by
  unfold E3;split
  ·rw [Aa];exact f5
  ·exact f4
 replace hp:=H0 hp;have hX:Hid (Eg u f=u.scheme.toList++[58]++CQ u++E3 u++Ex u.hasQuery ([63]++u.query.toList)++Ex (u.hasFrag && f) ([35]++u.frag.toList)):=rfl;obtain ⟨x0,x1,x2,x3,x4,x5,x6,x7,x8,x9,x10,x11,x12,x13,x14,x15,x16,x17,x18,x19,x20,x21,x22⟩:=LJ u;go_enter Tryz.func17,Tryz.ntmps17;go_wp2_with fail
 refine (AL _ _ _ _ _ hI.bld (by simp) (by omega) (by have:=hI.size;omega)).mono ?_
 rintro e w1 ⟨rfl,hbq,hbb⟩;replace hI:=hI.write hbb hbq;clear hbq hbb;rw [List.nil_append] at hI;go_wp2_with fail
 refine (BE _ _ _ 58 _ rfl _ hI.bld (by rw [Aa];omega) (by have:=hI.size;omega)).mono ?_
 rintro e w2 ⟨rfl,hbq,hbb⟩;replace hI:=hI.write hbb hbq;clear hbq hbb;have hbx:=hI.box
 go_upto_if 13 with (fail)
 go_cut [] (fun wx=>WD w wx u (u.scheme.toList++[58]++CQ u))
 case first=>as_aux_lemma=>
  clear hbx
  by_cases hk:u.host.kind=0
  ·have k1:(u.host.kind != 0)=false:=by simp [hk]
   have hdot:(u.flatP=true/\K9 u=false)\/(u.flatP=false/\(u.path.length:Int)<2/\K9 u=false)\/(u.flatP=false/\(2:Int)<=(u.path.length:Int)/\∃ g o t,u.pathA=some ⟨g,o,none⟩/\w2.cell? ⟨g,o,none⟩=some (.string t)/\t.toList.isEmpty=K9 u):=by
    unfold K9;cases hfl:u.flatP
    ·by_cases h2:2<=u.path.length
     ·have hpw:=hp.out.below hI.below (Nat.le_refl _)
      obtain ⟨g,o,e1,hc⟩:=hpw (by omega)
      have h0:=hc 0 (by omega)
      refine .inr (.inr ⟨rfl,by omega,g,o,u.path[0],e1,h0,?_⟩)
      rw [Nn u.path (by omega)];simp [h2]
     ·exact .inr (.inl ⟨rfl,by omega,by simp [h2]⟩)
    ·exact .inl ⟨rfl,rfl⟩
   have hah:Hid (CQ u=Ex (K9 u) [47,46]):=H0 (by unfold CQ;rw [if_pos hk])
   clear hk;have hbx:=hI.box
   rcases hdot with ⟨d1,d2⟩ | ⟨d1,d2,d3⟩ | ⟨d1,d2,g,o,t0,d3,d4,d5⟩
   ·replace d2:=H0 d2;go_wp2_with fail;go_meet
    exact hI.cast (by rw [hah.out,d2.out];simp [Ex])
   ·replace d3:=H0 d3;go_wp2_with fail;go_meet
    exact hI.cast (by rw [hah.out,d3.out];simp [Ex])
   ·rcases EP (K9 u) with hd | hd
    ·rw [hd] at d5;replace hd:=H0 hd;go_wp2_with fail;go_meet
     exact hI.cast (by rw [hah.out,hd.out];simp [Ex])
    ·rw [hd] at d5;replace hd:=H0 hd;go_wp2_with fail
     refine (AL _ _ _ ⟨#[47,46]⟩ _ hI.bld (by simp only [List.length_append,List.length_nil,List.length_cons,Aa];omega) (by decide) (by have:=hI.size;omega)).mono ?_
     rintro e w3 ⟨rfl,hbq,hbb⟩;replace hI:=hI.write hbb hbq;clear hbq hbb hbx;go_wp2_with fail;go_meet
     exact hI.cast (by rw [hah.out,hd.out,show (ByteArray.mk #[47,46]).toList=[47,46] from toList_mk _];simp [Ex])
  ·have k1:(u.host.kind != 0)=true:=by simp [hk]
   have hah:Hid (CQ u=[47,47]++F4 u++Fa u.host++Jj u):=H0 (by unfold CQ;rw [if_neg hk])
   clear hk;have hbx:=hI.box;go_wp2_with fail
   refine (AL _ _ _ ⟨#[47,47]⟩ _ hI.bld (by simp only [List.length_append,List.length_nil,List.length_cons,Aa];omega) (by decide) (by have:=hI.size;omega)).mono ?_
   rintro e w3 ⟨rfl,hbq,hbb⟩;replace hI:=hI.write hbb hbq;rw [show (ByteArray.mk #[47,47]).toList=[47,47] from toList_mk _] at hI;clear hbq hbb hbx;have hbx:=hI.box;go_wp2_with (refine wpList_load_row rfl 34 _ rfl w.heap.size rfl _ (Ab u) _ _ hI.blk Tryz.underlying34 rfl Fv ?_);refine (AdI u _ fit.user fit.pass).mono ?_;rintro e w4 ⟨t1,rfl,htt1,hbb⟩;replace hI:=hI.keep hbb;have hts1:=G4 htt1.out hwl;clear hbb hbx;go_wp2_with fail
   refine (AL _ _ _ _ _ hI.bld (by simp only [List.length_append,List.length_nil,List.length_cons,Aa];omega) (by omega) (by have:=hI.size;omega)).mono ?_
   rintro e w5 ⟨rfl,hbq,hbb⟩;replace hI:=hI.write hbb hbq;clear hbq hbb;have hbx:=hI.box
   have htw:=ht.next hI.below
   go_wp2_with fail;refine (Kz u.host fit.host _ htw).mono ?_;rintro e w6 ⟨t2,rfl,htt2,hbb⟩;replace hI:=hI.keep hbb;have hts2:=G4 htt2.out hhl;clear hbb hbx htw;go_wp2_with fail
   refine (AL _ _ _ _ _ hI.bld (by simp only [List.length_append,List.length_nil,List.length_cons,Aa];omega) (by omega) (by have:=hI.size;omega)).mono ?_
   rintro e w7 ⟨rfl,hbq,hbb⟩;replace hI:=hI.write hbb hbq;clear hbq hbb
   rcases EP u.hasPort with hpt | hpt
   ·have hbx:=hI.box;go_wp2_with fail;go_meet
    exact hI.cast (by rw [hah.out,htt1.out,htt2.out];simp [Jj,Ex,hpt])
   ·have hpl:Hid (Jj u=[58]++Lib.itoa u.port):=H0 (by simp [Jj,Ex,hpt])
    have hbx:=hI.box;go_wp2_with fail
    refine (BE _ _ _ 58 _ rfl _ hI.bld (by simp only [List.length_append,List.length_nil,List.length_cons,Aa];omega) (by have:=hI.size;omega)).mono ?_
    rintro e w3 ⟨rfl,hbq,hbb⟩;replace hI:=hI.write hbb hbq;clear hbq hbb hbx;have hbx:=hI.box
    have htw:=ht.next hI.below
    go_wp2_with fail;refine (Adq u.port fit.port.1 fit.port.2 _ htw).mono ?_;rintro e w3 ⟨t3,rfl,htt3,hbb⟩;replace hI:=hI.keep hbb;have hts3:=G4 htt3.out (Lo u.port fit.port.1 fit.port.2);clear hbb hbx;go_wp2_with fail
    refine (AL _ _ _ _ _ hI.bld (by simp only [List.length_append,List.length_nil,List.length_cons,Aa];omega) (by omega) (by have:=hI.size;omega)).mono ?_
    rintro e w4 ⟨rfl,hbq,hbb⟩;replace hI:=hI.write hbb hbq;clear hbq hbb;go_wp2_with fail;go_meet
    exact hI.cast (by rw [hah.out,htt1.out,htt2.out,htt3.out,hpl.out];simp)
 case rest=>
  clear hI hbx;replace hI:=hcut;clear hcut;have hbx:=hI.box
  have htw:=ht.next hI.below
  go_wp2_with (refine wpList_load_row rfl 34 _ rfl w.heap.size rfl _ (Ab u) _ _ hI.blk Tryz.underlying34 rfl Fv ?_)
  refine (AbG u _ (hp.out.below hI.below (Nat.le_refl _)) (by omega) fit.pieces).mono ?_
  rintro e w3 ⟨t1,rfl,htt1,hbb⟩;replace hI:=hI.keep hbb;have hts1:=G4 htt1.out hpx;clear hbb hbx htw;go_wp2_with fail
  refine (AL _ _ _ _ _ hI.bld (by simp only [List.length_append,List.length_nil,List.length_cons,Aa];omega) (by omega) (by have:=hI.size;omega)).mono ?_
  rintro e w4 ⟨rfl,hbq,hbb⟩;replace hI:=hI.write hbb hbq;rw [htt1.out] at hI;clear hbq hbb htt1 hts1;have hbx:=hI.box
  go_upto_if 50 with (fail)
  go_cut [] (fun wx=>WD w wx u (u.scheme.toList++[58]++CQ u++E3 u++Ex u.hasQuery ([63]++u.query.toList)))
  case first=>as_aux_lemma=>
   rcases EP u.hasQuery with hq | hq
   ·rw [hq];go_wp2_with fail;go_meet
    exact hI.cast (by rw [hq];simp [Ex])
   ·rw [hq];go_wp2_with fail
    refine (BE _ _ _ 63 _ rfl _ hI.bld (by simp only [List.length_append,List.length_nil,List.length_cons,Aa];omega) (by have:=hI.size;omega)).mono ?_
    rintro e w5 ⟨rfl,hbq,hbb⟩;replace hI:=hI.write hbb hbq;clear hbq hbb hbx;have hbx:=hI.box;go_wp2_with fail
    refine (AL _ _ _ _ _ hI.bld (by simp only [List.length_append,List.length_nil,List.length_cons,Aa];omega) (by omega) (by have:=hI.size;omega)).mono ?_
    rintro e w6 ⟨rfl,hbq,hbb⟩;replace hI:=hI.write hbb hbq;clear hbq hbb hbx;go_wp2_with fail;go_meet
    exact hI.cast (by rw [hq];simp [Ex])
  case rest=>
   clear hI hbx;replace hI:=hcut;clear hcut;have hbx:=hI.box
   have hql:(Ex u.hasQuery ([63]++u.query.toList)).length<=34359738369:=by
    unfold Ex;split<;>simp [Aa]<;>omega
   go_upto_region 17 with fail
   go_cut [59] (fun s59 wx=>s59= .bool (u.hasFrag && f)/\WD w wx u (u.scheme.toList++[58]++CQ u++E3 u++Ex u.hasQuery ([63]++u.query.toList)))
   case first=>as_aux_lemma=>
    rcases EP u.hasFrag with hq | hq
    ·go_wp2_with fail;go_meet
     exact ⟨by rw [hq];rfl,hI⟩
    ·go_wp2_with fail;go_meet
     exact ⟨by rw [hq];rfl,hI⟩
   case' rest=>
    clear hI hbx;obtain ⟨rfl,hI⟩:=hcut;have hbx:=hI.box
   go_upto_if 59 with (fail)
   go_cut [] (fun wx=>WD w wx u (Eg u f))
   case first=>as_aux_lemma=>
    rcases EP (u.hasFrag && f) with hq | hq
    ·rw [hq];go_wp2_with fail;go_meet
     exact hI.cast (by rw [hX.out,hq];simp [Ex])
    ·rw [hq];go_wp2_with fail
     refine (BE _ _ _ 35 _ rfl _ hI.bld (by simp only [List.length_append,List.length_nil,List.length_cons,Aa];omega) (by have:=hI.size;omega)).mono ?_
     rintro e w5 ⟨rfl,hbq,hbb⟩;replace hI:=hI.write hbb hbq;clear hbq hbb hbx;have hbx:=hI.box;go_wp2_with fail
     refine (AL _ _ _ _ _ hI.bld (by simp only [List.length_append,List.length_nil,List.length_cons,Aa];omega) (by omega) (by have:=hI.size;omega)).mono ?_
     rintro e w6 ⟨rfl,hbq,hbb⟩;replace hI:=hI.write hbb hbq;clear hbq hbb hbx;go_wp2_with fail;go_meet
     exact hI.cast (by rw [hX.out,hq];simp [Ex])
   case rest=>
    clear hI hbx;replace hI:=hcut;clear hcut;go_wp2_with fail
    refine (Bf _ _ _ _ hI.bld (by have:=hI.size;omega)).mono ?_
    rintro e w7 ⟨t,rfl,htt,hbb⟩;go_wp2_with fail;go_ret
    exact BL htt.out (hI.below.trans (hbb.mono (by omega)))
def QV (n b0 b1 b2 b3:Nat):Nat × Nat:=
 if b0<0x80 then (b0,1)
 else if b0 / 32=6/\1<n/\b1 / 64=2 then (if (b0 % 32) * 64+b1 % 64≥0x80 then ((b0 % 32) * 64+b1 % 64,2) else (65533,1))
 else if b0 / 16=14/\1<n/\b1 / 64=2/\2<n/\b2 / 64=2 then (if (b0 % 16) * 4096+(b1 % 64) * 64+b2 % 64≥0x800/\Utf8.valid ((((b0 % 16) * 4096+(b1 % 64) * 64+b2 % 64:Nat)):Int)=true then ((b0 % 16) * 4096+(b1 % 64) * 64+b2 % 64,3) else (65533,1))
 else if b0 / 8=30/\1<n/\b1 / 64=2/\2<n/\b2 / 64=2/\3<n/\b3 / 64=2 then (if (b0 % 8) * 262144+(b1 % 64) * 4096+(b2 % 64) * 64+b3 % 64≥0x10000/\Utf8.valid ((((b0 % 8) * 262144+(b1 % 64) * 4096+(b2 % 64) * 64+b3 % 64:Nat)):Int)=true then ((b0 % 8) * 262144+(b1 % 64) * 4096+(b2 % 64) * 64+b3 % 64,4) else (65533,1))
 else (65533,1)
def QM (l:List UInt8) (i:Nat):Nat:=(l.getD i 0).toNat
theorem AdR (l:List UInt8) (i:Nat):(ByteArray.get! ⟨l.toArray⟩ i).toNat=QM l i:=by
 unfold QM ByteArray.get!;simp [List.getD_eq_getElem?_getD];rfl
theorem Om (l:List UInt8):Ct l=QV l.length (QM l 0) (QM l 1) (QM l 2) (QM l 3):=by
 unfold Ct Utf8.decode QV
 have hs:(ByteArray.mk l.toArray).size=l.length:=by simp [ByteArray.size]
 simp only [Nat.zero_add,AdR,hs,Bool.and_eq_true,beq_iff_eq,decide_eq_true_eq,ge_iff_le,Utf8.runeError,and_assoc]
theorem Aco {n m b0 b1 b2 b3 c1 c2 c3:Nat} (h2:2<=(QV n b0 b1 b2 b3).2) (hm:(QV n b0 b1 b2 b3).2<=m) (e1:c1=b1) (e2:3<=(QV n b0 b1 b2 b3).2->c2=b2) (e3:4<=(QV n b0 b1 b2 b3).2->c3=b3):
  QV m b0 c1 c2 c3=QV n b0 b1 b2 b3:=by
 subst e1;unfold QV at h2 hm e2 e3⊢
 by_cases k0:b0<0x80
 ·rw [if_pos k0] at h2;simp at h2
 rw [if_neg k0] at h2 hm e2 e3⊢;rw [if_neg k0]
 by_cases k1:b0 / 32=6/\1<n/\c1 / 64=2
 ·rw [if_pos k1] at h2 hm e2 e3⊢
  by_cases k2:(b0 % 32) * 64+c1 % 64≥0x80
  ·rw [if_pos k2] at h2 hm e2 e3⊢;dsimp only at hm
   rw [if_pos ⟨k1.1,by omega,k1.2.2⟩]
  ·rw [if_neg k2] at h2;simp at h2
 rw [if_neg k1] at h2 hm e2 e3⊢
 by_cases k3:b0 / 16=14/\1<n/\c1 / 64=2/\2<n/\b2 / 64=2
 ·rw [if_pos k3] at h2 hm e2 e3⊢
  by_cases k4:(b0 % 16) * 4096+(c1 % 64) * 64+b2 % 64≥0x800/\Utf8.valid ((((b0 % 16) * 4096+(c1 % 64) * 64+b2 % 64:Nat)):Int)=true
  ·rw [if_pos k4] at h2 hm e2 e3⊢;dsimp only at hm e2
   obtain rfl:=e2 (by omega)
   rw [if_neg (by omega),if_pos ⟨k3.1,by omega,k3.2.2.1,by omega,k3.2.2.2.2⟩,if_pos k4]
  ·rw [if_neg k4] at h2;simp at h2
 rw [if_neg k3] at h2 hm e2 e3⊢
 by_cases k5:b0 / 8=30/\1<n/\c1 / 64=2/\2<n/\b2 / 64=2/\3<n/\b3 / 64=2
 ·rw [if_pos k5] at h2 hm e2 e3⊢
  by_cases k6:(b0 % 8) * 262144+(c1 % 64) * 4096+(b2 % 64) * 64+b3 % 64≥0x10000/\Utf8.valid ((((b0 % 8) * 262144+(c1 % 64) * 4096+(b2 % 64) * 64+b3 % 64:Nat)):Int)=true
  ·rw [if_pos k6] at h2 hm e2 e3⊢;dsimp only at hm e2 e3
   obtain rfl:=e2 (by omega)
   obtain rfl:=e3 (by omega)
   rw [if_neg (by omega),if_neg (by omega),if_pos ⟨k5.1,by omega,k5.2.2.1,by omega,k5.2.2.2.2.1,by omega,k5.2.2.2.2.2.2⟩,if_pos k6]
  ·rw [if_neg k6] at h2;simp at h2
 ·rw [if_neg k5] at h2;simp at h2
theorem VI {l:List UInt8} (X:List UInt8) (h:2<=(Ct l).2):Ct (l.take (Ct l).2++X)=Ct l:=by
 have hl:l≠[]:=by
  rintro rfl;revert h;decide
 have hle:=Ov hl;obtain ⟨k,hk⟩:∃ k,(Ct l).2=k:=⟨_,rfl⟩;rw [hk] at h hle⊢
 have hn:∀ i,i<k->QM (l.take k++X) i=QM l i:=fun i hi=>by
  unfold QM
  rw [List.getD_eq_getElem?_getD,List.getD_eq_getElem?_getD,List.getElem?_append_left (by rw [List.length_take];omega),List.getElem?_take_of_lt hi]
 rw [Om (l.take k++X),Om l];rw [Om l] at hk
 rw [hn 0 (by omega)]
 exact Aco (by rw [hk];exact h) (by rw [hk,List.length_append,List.length_take];omega) (hn 1 (by omega)) (fun h3=>hn 2 (by rw [hk] at h3;omega)) (fun h4=>hn 3 (by rw [hk] at h4;omega))
theorem Ab5 (X:List UInt8):Ct (IX++X)=(65533,3):=by
 have:=VI (l:=IX) X (by decide+kernel)
 rw [show Ct IX=(65533,3) by decide+kernel] at this
 exact this
theorem AbE {l:List UInt8} (hl:l≠[]) (h:(Ct l).2<2) (h2:Ct l≠(65533,1)):∃ c r,l=c :: r/\c.toNat<128:=by
 cases l with
 | nil=>exact absurd rfl hl
 | cons c r=>
  refine ⟨c,r,rfl,?_⟩;rw [Om] at h h2;unfold QV at h h2;have e:QM (c :: r) 0=c.toNat:=rfl;rw [e] at h h2
  by_cases k0:c.toNat<128
  ·exact k0
  exfalso;rw [if_neg k0] at h h2;split at h
  ·rename_i k1;rw [if_pos k1] at h2;split at h
   ·simp at h
   ·rename_i k2;rw [if_neg k2] at h2;exact h2 rfl
  ·rename_i k1;rw [if_neg k1] at h2;split at h
   ·rename_i k3;rw [if_pos k3] at h2;split at h
    ·simp at h
    ·rename_i k4;rw [if_neg k4] at h2;exact h2 rfl
   ·rename_i k3;rw [if_neg k3] at h2;split at h
    ·rename_i k5;rw [if_pos k5] at h2;split at h
     ·simp at h
     ·rename_i k6;rw [if_neg k6] at h2;exact h2 rfl
    ·rename_i k5;rw [if_neg k5] at h2;exact h2 rfl
theorem Kl:∀ (f g:Nat) (l:List UInt8),(B7 f (Cx g l)).length<=l.length
 | 0,_,l=>Nat.zero_le _
 | f+1,0,l=>by
  rw [Cx,B7,if_pos rfl];exact Nat.zero_le _
 | f+1,g+1,l=>by
  rw [Cx]
  by_cases hl:l=[]
  ·rw [if_pos hl,B7,if_pos rfl];exact Nat.zero_le _
  rw [if_neg hl]
  by_cases hb:Ct l=(65533,1)
  ·rw [if_pos hb,B7,if_neg (by simp [IX]),Ab5]
   have e:(IX++Cx g (l.drop (Ho l))).drop 3=Cx g (l.drop (Ho l)):=rfl;dsimp only;rw [e,List.length_cons];have ih:=Kl f g (l.drop (Ho l));have:=YX hl;rw [List.length_drop] at ih;omega
  rw [if_neg hb];have hle:=Ov hl
  by_cases h2:2<=(Ct l).2
  ·have e1:=VI (Cx g (l.drop (Ct l).2)) h2
   have hne:l.take (Ct l).2++Cx g (l.drop (Ct l).2)≠[]:=by
    intro e;have:=congrArg List.length e;rw [List.length_append,List.length_take,List.length_nil] at this;omega
   rw [B7,if_neg hne,e1,List.length_cons]
   have e2:(l.take (Ct l).2++Cx g (l.drop (Ct l).2)).drop (Ct l).2=Cx g (l.drop (Ct l).2):=by
    rw [List.drop_append_of_le_length (by rw [List.length_take];omega),List.drop_eq_nil_of_le (by rw [List.length_take];omega),List.nil_append]
   rw [e2];have ih:=Kl f g (l.drop (Ct l).2);rw [List.length_drop] at ih;omega
  ·obtain ⟨c,r,rfl,hc⟩:=AbE hl (by omega) hb
   have e1:=If c r hc;rw [e1];show (B7 (f+1) (c :: Cx g r)).length<=_
   rw [B7,if_neg (by simp),If c _ hc,List.length_cons]
   have ih:=Kl f g r;show (B7 f (Cx g r)).length+1<=r.length+1;omega
theorem Rx (l:List UInt8):(Kw l).length<=l.length:=Kl _ _ l
theorem QN {l t:List UInt8} (h:AW l=some t):t.length<=86 * l.length:=by
 unfold AW at h;split at h
 ·split at h
  ·split at h
   ·split at h
    ·cases h;omega
    ·cases h
   ·cases h
  ·cases h
 ·split at h
  ·cases h;omega
  ·rename_i hlo;split at h
   ·split at h
    ·rename_i t' he;cases h;have h1:=Sq he;have h2:=Rx l
     have h3:0<l.length:=by
      cases l with
      | nil=>exact absurd rfl hlo
      | cons a r=>simp
     rw [List.length_append];have:TW.length=4:=rfl;omega
    ·cases h
   ·cases h
theorem KE:∀ {a b:List (List UInt8)},A0 a=some b->Ky b<=86 * Ky a/\b.length=a.length
 | [],b,h=>by cases h;exact ⟨Nat.le_refl _,rfl⟩
 | y :: r,b,h=>by
  unfold A0 at h
  cases hy:AW y with
  | none=>rw [hy] at h;cases h
  | some t=>
   rw [hy] at h;dsimp only at h;rw [Option.map_eq_some_iff] at h;obtain ⟨q,hq,rfl⟩:=h;have ih:=KE hq;have:=QN hy;unfold Ky at ih⊢;simp only [List.map_cons,List.sum_cons,List.length_cons] at ih⊢;omega
theorem SB {s n:List UInt8} (h:Cv s=some n):n.length<=348 * s.length+1:=by
 unfold Cv at h;split at h
 ·cases h
 ·rename_i t ht;rw [Option.map_eq_some_iff] at h;obtain ⟨q,hq,rfl⟩:=h;have h1:=Iv ht;have h2:=Rx s;have h3:=KE hq;have h4:=Ji t;have h5:=Kc q;omega
theorem R8 {n:List UInt8} {sp:Bool} {h:Bz} (e:DO n sp=some h):h.text.length<=348 * n.length+42:=by
 unfold DO at e;split at e
 ·unfold Ts at e;split at e
  ·rw [Option.map_eq_some_iff] at e;obtain ⟨l,-,rfl⟩:=e;have:=Jy l;show ([91]++Ey l++[93]).length<=_;simp only [List.length_append,List.length_cons,List.length_nil];omega
  ·cases e
 ·split at e
  ·unfold KI at e;split at e
   ·cases e
   ·rename_i m hm;have h1:=SB hm;have h2:=Ka _ n (Nat.le_refl _);split at e
    ·cases e
    ·split at e
     ·rw [Option.map_eq_some_iff] at e;obtain ⟨k,-,rfl⟩:=e;have:=Mu k;show (DD k).length<=_;omega
     ·cases e;show m.length<=_;omega
  ·unfold PQ at e;split at e
   ·cases e;exact Nat.zero_le _
   ·split at e
    ·cases e
    ·cases e;have:=CW 0 n;show (A1 0 n).length<=_;omega
def AfK (a:FF):Nat:=a.user.length+a.pass.length+a.host.text.length
theorem JW:∀ {b:Bool} {l n p:List UInt8},Br b l=some (n,p)->n.length<=l.length
 | _,[],_,_,h=>by cases h
 | b,c :: r,n,p,h=>by
  rw [Br] at h;split at h
  ·rw [Option.map_eq_some_iff] at h;obtain ⟨⟨x,y⟩,hx,e⟩:=h;have:=JW hx;cases e;simp only [List.length_cons];omega
  ·split at h
   ·rw [Option.map_eq_some_iff] at h;obtain ⟨⟨x,y⟩,hx,e⟩:=h;have:=JW hx;cases e;simp only [List.length_cons];omega
   ·split at h
    ·cases h;exact Nat.zero_le _
    ·rw [Option.map_eq_some_iff] at h;obtain ⟨⟨x,y⟩,hx,e⟩:=h;have:=JW hx;cases e;simp only [List.length_cons];omega
theorem Ry {scheme user pass s:List UInt8} {a:FF} (h:E7 scheme user pass s=some a):AfK a<=user.length+pass.length+348 * s.length+42:=by
 unfold E7 at h;split at h
 ·cases h
 ·rename_i n p hn
  have hle:n.length<=s.length:=by
   unfold Fz at hn;split at hn
   ·rename_i n2 p2 hc;split at hn
    ·cases hn
    ·cases hn;exact JW hc
   ·cases hn;exact Nat.le_refl _
  split at h
  ·cases h
  ·rename_i ho hh;have:=R8 hh;split at h
   ·cases h
   ·cases h;show user.length+pass.length+ho.text.length<=_;omega
theorem Abl {scheme s:List UInt8} {a:FF} (h:Gy scheme s=some a):AfK a<=348 * s.length+42:=by
 unfold Gy at h;split at h
 ·rename_i w r hc;split at h
  ·cases h
  ·have h1:=Ry h;have h2:=CW 5 (Af 58 w).1;have h3:=CW 5 (Af 58 w).2.1;have h4:=Cc 58 w;have h5:=congrArg List.length (Qt hc).1;rw [List.length_append,List.length_cons] at h5;omega
 ·have:=Ry h;rw [List.length_nil] at this;omega
theorem D6 (a b:List (List UInt8)):Az (a++b)=Az a++Az b:=by unfold Az;rw [List.flatMap_append]
theorem R4 (p:List UInt8):(Az [p]).length=p.length+1:=by unfold Az;simp
theorem WJ (l:List (List UInt8)):(Az l.dropLast).length<=(Az l).length:=by
 rcases List.eq_nil_or_concat l with rfl | ⟨a,x,rfl⟩
 ·exact Nat.le_refl _
 ·rw [List.concat_eq_append,List.dropLast_concat,D6,List.length_append];omega
theorem WG (l:List (List UInt8)) (k:Nat):(Az (l.take k)).length<=(Az l).length:=by
 have:Az l=Az (l.take k)++Az (l.drop k):=by rw [<-D6,List.take_append_drop]
 rw [this,List.length_append];omega
theorem Tm (scheme:List UInt8) (path:List (List UInt8)):(Az (HY scheme path)).length<=(Az path).length:=by
 unfold HY;split
 ·exact Nat.le_refl _
 ·exact WJ _
theorem UK (scheme:List UInt8) (out:List (List UInt8)) (p:List UInt8) (last:Bool):(Az (CC scheme out p last)).length<=(Az out).length+3 * p.length+1:=by
 have hu:=Tm scheme out;have he:=CW 4 p;have h0:(Az [[]]).length=1:=rfl;unfold CC;split
 ·split
  ·rw [D6,List.length_append,h0];omega
  ·omega
 ·split
  ·split
   ·rw [D6,List.length_append,h0];omega
   ·omega
  ·split
   ·rename_i hd;rw [Bool.and_eq_true] at hd;obtain ⟨a,b,rfl,-⟩:=HB hd.2;rw [D6,List.length_append,R4];show _+(2+1)<=_+3 * 2+1;omega
   ·rw [D6,List.length_append,R4];omega
def Je (ps:List (List UInt8)):Nat:=(ps.map fun p=>3 * p.length+1).sum
theorem RL (scheme:List UInt8):∀ (ps out:List (List UInt8)),(Az (Dn scheme out ps)).length<=(Az out).length+Je ps
 | [],out=>Nat.le_add_right _ _
 | p :: r,out=>by
  rw [Dn];have h1:=RL scheme r (CC scheme out p r.isEmpty);have h2:=UK scheme out p r.isEmpty
  have h3:Je (p :: r)=3 * p.length+1+Je r:=by unfold Je;rw [List.map_cons,List.sum_cons]
  omega
theorem U4 (p:UInt8->Bool):∀ l,Je (Ci p l)<=3 * l.length+1
 | []=>by rw [Ci];decide
 | c :: r=>by
  have ih:=U4 p r;rw [Ci];split
  ·have h3:Je ([] :: Ci p r)=1+Je (Ci p r):=by unfold Je;rw [List.map_cons,List.sum_cons];rfl
   rw [h3,List.length_cons];omega
  ·cases h:Ci p r with
   | nil=>rw [h] at ih;show Je [[c]]<=_;rw [List.length_cons];have:Je [[c]]=4:=rfl;omega
   | cons q qs=>
    rw [h] at ih
    have h3:Je (q :: qs)=3 * q.length+1+Je qs:=by unfold Je;rw [List.map_cons,List.sum_cons]
    have h4:Je ((c :: q) :: qs)=3 * (q.length+1)+1+Je qs:=by unfold Je;rw [List.map_cons,List.sum_cons];rfl
    show Je ((c :: q) :: qs)<=_;rw [h4,List.length_cons];omega
theorem EW (scheme:List UInt8) (path:List (List UInt8)) (s:List UInt8):(Az (Dl scheme path s)).length<=(Az path).length+3 * s.length+1:=by
 have h1:=RL scheme (Ci (AB (Aj scheme)) s) path;have h2:=U4 (AB (Aj scheme)) s;unfold Dl;omega
theorem I2 (scheme s:List UInt8):(Az (BZ scheme s)).length<=3 * s.length+1:=by
 unfold BZ;have h0:(Az []).length=0:=rfl;split
 ·have:=EW scheme [] (s.drop 1);rw [List.length_drop] at this;omega
 ·have:=EW scheme [] s;omega
def Bt (u:Aq):Nat:=u.scheme.length+u.user.length+u.pass.length+u.host.text.length+u.flat.length+(Az u.path).length+(FQ 63 u.query).length+(FQ 35 u.frag).length
theorem KW (sp:Bool):∀ l,(BK sp l).1.length+(BK sp l).2.length=l.length
 | []=>rfl
 | c :: r=>by
  rw [BK];split
  ·simp
  ·have:=KW sp r;simp only [List.length_cons];omega
theorem Ui (d:UInt8) (b:Bool) (set:Nat) (l:List UInt8):(FQ d (Hh b (A1 set l))).length<=3 * l.length+1:=by
 have:=CW set l;unfold Hh;split
 ·show (d :: A1 set l).length<=_;rw [List.length_cons];omega
 ·exact Nat.zero_le _
theorem Yp:Bz.empty.text.length=0:=rfl
theorem HU (scheme:List UInt8) (p:B9):Bt (Ax scheme p)<=scheme.length+3 * p.qry.length+3 * p.frg.length+2:=by
 have h1:=Ui 63 p.hq (GU scheme) p.qry;have h2:=Ui 35 p.hf 1 p.frg;show scheme.length+0+0+0+0+0+(FQ 63 (Hh p.hq (A1 (GU scheme) p.qry))).length+(FQ 35 (Hh p.hf (A1 1 p.frg))).length<=_;omega
theorem BQ (u:Aq) (l:List (List UInt8)):Bt (Bw u l)+(Az u.path).length=Bt u+(Az l).length:=by
 unfold Bt Bw;dsimp only;omega
theorem Ix (u:Aq) (h:Bz):Bt (Bk u h)+u.host.text.length=Bt u+h.text.length:=by
 unfold Bt Bk;dsimp only;omega
theorem L4 {u v:Aq} {s:List UInt8} (h:Ig u s=some v):Bt v<=Bt u+348 * s.length+43:=by
 unfold Ig at h;rw [Option.map_eq_some_iff] at h;obtain ⟨a,ha,rfl⟩:=h;have h1:=Abl ha;have h2:=KW (Aj u.scheme) s;have h3:=I2 u.scheme (BK (Aj u.scheme) s).2;unfold AfK at h1;unfold SW Bt;dsimp only
 split<;>omega
theorem WV {u v:Aq} {s:List UInt8} (h:GO u s=some v):Bt v<=Bt u+348 * s.length+43:=by
 have h2:=KW true s;have h0:(Az []).length=0:=rfl;unfold GO at h;split at h
 ·cases h;have:=BQ u (Dl u.scheme [] s);have:=EW u.scheme [] s;omega
 ·split at h
  ·cases h;have:=BQ u (BZ u.scheme (BK true s).2);have:=I2 u.scheme (BK true s).2;omega
  ·split at h
   ·cases h
   ·rename_i ho hh;cases h;have h4:=R8 hh;have h3:=I2 u.scheme (BK true s).2;split
    ·have:=BQ u (BZ u.scheme (BK true s).2);omega
    ·have h5:=BQ (Bk u ho) (BZ u.scheme (BK true s).2);have h6:=Ix u ho;have h7:(Bk u ho).path=u.path:=rfl;omega
theorem TG (u b:Aq):Bt (Dt u b)<=Bt u+(b.user.length+b.pass.length+b.host.text.length):=by
 unfold Bt Dt;dsimp only;omega
theorem Lt (u b:Aq):Bt (Gk u b)<=Bt u+((Az b.path).length+(FQ 63 b.query).length):=by
 unfold Bt Gk;dsimp only
 split<;>omega
theorem Qo (b:Aq):b.user.length+b.pass.length+b.host.text.length+(Az b.path).length+(FQ 63 b.query).length+b.scheme.length<=Bt b:=by unfold Bt;omega
def NZ (p:B9):Nat:=p.sch.length+p.rest.length+p.qry.length+p.frg.length
theorem ZH {b u:Aq} {p:B9} (h:LQ b p=some u):Bt u<=Bt b+348 * NZ p+60:=by
 have hb:=Qo b;have hs:=HU Aw p;have hh:=Ix (Ax Aw p) .empty;have hfl:Aw.length=4:=rfl;have h0:(Az []).length=0:=rfl;have ht:NZ p=p.sch.length+p.rest.length+p.qry.length+p.frg.length:=rfl;rw [Yp] at hh
 have hh2:Bt (Bk (Ax Aw p) .empty)<=6+3 * p.qry.length+3 * p.frg.length:=by omega
 have hp2:(Bk (Ax Aw p) .empty).path=[]:=rfl;unfold LQ at h;dsimp only at h;split at h
 ·have:=WV h;rw [List.length_drop] at this;omega
 ·obtain ⟨v,hv,hvl,hvp⟩:∃ v,(if (b.scheme==Aw)=true then Bk (Bk (Ax Aw p) .empty) b.host else Bk (Ax Aw p) .empty)=v/\Bt v<=6+3 * p.qry.length+3 * p.frg.length+b.host.text.length/\v.path=[]:=by
   refine ⟨_,rfl,?_,?_⟩
   ·split
    ·have h5:=Ix (Bk (Ax Aw p) .empty) b.host;omega
    ·omega
   ·split<;>rfl
  rw [hv] at h;split at h
  ·obtain ⟨ah,hah,hal⟩:∃ ah,(if (b.scheme==Aw && (EK b.path && !EX (p.rest.drop 1)))=true then b.path.take 1 else [])=ah/\(Az ah).length<=(Az b.path).length:=by
    refine ⟨_,rfl,?_⟩;split
    ·exact WG b.path 1
    ·exact Nat.zero_le _
   rw [hah] at h;cases h;have h5:=BQ v (Dl Aw ah (p.rest.drop 1));have h6:=EW Aw ah (p.rest.drop 1);rw [List.length_drop] at h6;rw [hvp] at h5;omega
  ·split at h
   ·cases h;have:=Lt v b;omega
   ·split at h
    ·cases h;have h5:=BQ v (Dl Aw (HY Aw b.path) p.rest);have h6:=EW Aw (HY Aw b.path) p.rest;have h7:=Tm Aw b.path;omega
    ·cases h;have h5:=BQ v (Dl Aw [] p.rest);have h6:=EW Aw [] p.rest;omega
theorem Uc (b:Bool) (s:List UInt8):(D3 b s).length<=s.length+3:=by
 unfold D3;split
 ·rw [List.length_append,List.length_dropLast];simp only [List.length_cons,List.length_nil];omega
 ·omega
theorem Yo {u:Aq} {p:B9} (h:GE p=some u):Bt u<=348 * NZ p+60:=by
 have hs:=HU p.sch p;have h0:(Az []).length=0:=rfl;have ht:NZ p=p.sch.length+p.rest.length+p.qry.length+p.frg.length:=rfl;unfold GE at h;dsimp only at h;split at h
 ·have:=L4 h;rw [List.length_drop] at this;omega
 ·split at h
  ·cases h;have h5:=BQ (Ax p.sch p) (Dl (Ax p.sch p).scheme [] (p.rest.drop 1));have h6:=EW (Ax p.sch p).scheme [] (p.rest.drop 1);rw [List.length_drop] at h6;omega
  ·cases h;have h6:=Uc (p.hq || p.hf) (A1 0 p.rest);have h7:=CW 0 p.rest;have h8:Bt (Ax p.sch p)=p.sch.length+0+0+0+0+0+(FQ 63 (Ax p.sch p).query).length+(FQ 35 (Ax p.sch p).frag).length:=rfl;show p.sch.length+0+0+0+(D3 (p.hq || p.hf) (A1 0 p.rest)).length+0+(FQ 63 (Ax p.sch p).query).length+(FQ 35 (Ax p.sch p).frag).length<=_;omega
theorem AaC {b u:Aq} {p:B9} (h:OQ b p=some u):Bt u<=Bt b+348 * NZ p+60:=by
 have ht:NZ p=p.sch.length+p.rest.length+p.qry.length+p.frg.length:=rfl;unfold OQ at h;split at h
 ·cases h
 ·cases h;have:=CW 1 p.frg;unfold Bt;show _+_+_+_+_+_+_+(35 :: A1 1 p.frg).length<=_;rw [List.length_cons];dsimp only;omega
theorem QR {b u:Aq} {p:B9} (h:ED b p=some u):Bt u<=Bt b+348 * NZ p+60:=by
 have hb:=Qo b;have hs:=HU b.scheme p;have ha:=TG (Ax b.scheme p) b;have h0:(Az []).length=0:=rfl;have hp0:(Dt (Ax b.scheme p) b).path=[]:=rfl;have ht:NZ p=p.sch.length+p.rest.length+p.qry.length+p.frg.length:=rfl;unfold ED at h;dsimp only at h;split at h
 ·split at h
  ·have:=L4 h;unfold FK at this;rw [List.length_drop] at this;omega
  ·have:=L4 h;rw [List.length_drop] at this;omega
 ·split at h
  ·cases h;have h5:=BQ (Dt (Ax b.scheme p) b) (Dl (Ax b.scheme p).scheme [] (p.rest.drop 1));have h6:=EW (Ax b.scheme p).scheme [] (p.rest.drop 1);rw [List.length_drop] at h6;omega
  ·split at h
   ·cases h;have:=Lt (Dt (Ax b.scheme p) b) b;omega
   ·cases h;have h5:=BQ (Dt (Ax b.scheme p) b) (Dl (Ax b.scheme p).scheme (HY (Ax b.scheme p).scheme b.path) p.rest);have h6:=EW (Ax b.scheme p).scheme (HY (Ax b.scheme p).scheme b.path) p.rest;have h7:=Tm (Ax b.scheme p).scheme b.path;omega
theorem Sh {b u:Aq} {p:B9} (h:IP b p=some u):Bt u<=Bt b+348 * NZ p+60:=by
 unfold IP at h;split at h
 ·exact ZH h
 ·split at h
  ·have h1:=L4 h;have h2:=HU p.sch p;have ht:NZ p=p.sch.length+p.rest.length+p.qry.length+p.frg.length:=rfl;unfold FK at h1;rw [List.length_drop] at h1;omega
  ·split at h
   ·have:=Yo h;omega
   ·split at h
    ·exact AaC h
    ·exact QR h
theorem Qw (l:List UInt8):NZ (B6 l)<=l.length:=by
 have h0:=Cc 35 l;have h1:=Cc 63 (Af 35 l).1;have h2:=Cc 58 (Af 63 (Af 35 l).1).1;unfold B6 NZ;dsimp only;split
 ·dsimp only;rw [Il];omega
 ·dsimp only;rw [List.length_nil];omega
theorem Zh {b u:Aq} {s:List UInt8} (h:G0 b s=some u):Bt u<=Bt b+348 * s.length+60:=by
 have h1:=Sh h;have h2:=Qw (Dy s);have h3:(Dy s).length<=s.length:=Nat.le_trans (K5 _) (JQ _);omega
theorem Aba:Bt Ea=0:=rfl
theorem Yc {u:Aq} {s:List UInt8} (h:Dz s=some u):Bt u<=348 * s.length+60:=by
 unfold Dz at h;split at h
 ·have h1:=Sh h;have h2:=Qw (Dy s);have h3:(Dy s).length<=s.length:=Nat.le_trans (K5 _) (JQ _);rw [Aba] at h1;omega
 ·cases h
theorem RI {u:Aq} (g:AY u):∀ n,u.port=some n->n<=65535:=by
 intro n hn
 cases g.kind with
 | file s o us ps po pa h=>rw [po] at hn;cases hn
 | special s sp o pa h po=>exact (po n hn).1
 | net sp o h po e=>exact (po n hn).1
 | plain sp o h us ps po pa=>rw [po] at hn;cases hn
 | flat sp o h us ps po pa fl hd la=>rw [po] at hn;cases hn
theorem ZZ (n:Nat) (h:n<=65535):(Lib.itoa (n:Int)).length<=40:=Lo _ (by omega) (by omega)
theorem DQ {u:Aq} (g:AY u) (f:Bool):(AS u f).length<=Bt u+50:=by
 have h1:(FT u).length<=u.user.length+u.pass.length+u.host.text.length+46:=by
  unfold FT;split
  ·split
   ·simp
   ·simp
  ·have hw:(IE u.user u.pass).length<=u.user.length+u.pass.length+2:=by
    unfold IE;split
    ·simp
    ·split<;>simp only [List.length_append,List.length_cons,List.length_nil]<;>omega
   have hp:(DM u.port).length<=41:=by
    cases hq:u.port with
    | none=>exact Nat.zero_le _
    | some n=>
     have:=ZZ n (RI g n hq);show ([58]++Lib.itoa (n:Int)).length<=_;rw [List.length_append];simp only [List.length_cons,List.length_nil];omega
   simp only [List.length_append,List.length_cons,List.length_nil];omega
 have h2:(Hd u).length<=u.flat.length+(Az u.path).length:=by unfold Hd;split<;>omega
 have h3:(if f=true then FQ 35 u.frag else []).length<=(FQ 35 u.frag).length:=by split<;>simp
 unfold AS Bt;simp only [List.length_append,List.length_cons,List.length_nil];omega
theorem Ai (w:World) (o:Obj):(w.alloc o).heap.size=w.heap.size+1:=by simp
def AJ (w:World) (g:Nat) (c:Array Value) (T:TypeId):Prop:=w.heap[g]? =some (.cells c T (0,0))
theorem AJ.lt {w:World} {g:Nat} {c:Array Value} {T:TypeId} (h:AJ w g c T):g<w.heap.size:=(Array.getElem?_eq_some_iff.1 h).1
theorem AJ.keep {w w':World} {g:Nat} {c:Array Value} {T:TypeId} (h:AJ w g c T) (hb:Below w.heap.size w w'):AJ w' g c T:=(hb.block g h.lt).trans h
theorem AJ.new (w:World) (c:Array Value) (T:TypeId):AJ (w.alloc (.cells c T)) w.heap.size c T:=heap_alloc_new w _
theorem AJ.alloc {w:World} {g:Nat} {c:Array Value} {T:TypeId} (h:AJ w g c T) (o:Obj):AJ (w.alloc o) g c T:=h.keep ((Below.refl _ _).alloc (Nat.le_refl _) o)
theorem AJ.at {w:World} {g:Nat} {c:Array Value} {T:TypeId} (h:AJ w g c T) (i:Nat):w.cell? ⟨g,i,none⟩=c[i]? :=cell_of_row _ _ _ _ _ _ h
theorem AJ.set {w:World} {g:Nat} {c:Array Value} {T:TypeId} (h:AJ w g c T) (c':Array Value):AJ (w.setRow g c') g c' T:=BM h
theorem D8 (w:World) (g k:Nat) (c:Array Value) (hn:k≠g):(w.setRow g c).heap[k]? =w.heap[k]? :=by
 simp only [World.setRow]
 rw [Array.getElem?_modify,if_neg (fun e=>hn e.symm)]
theorem CG (w:World) (g:Nat) (c:Array Value):(w.setRow g c).heap.size=w.heap.size:=by simp [World.setRow]
theorem AJ.other {w:World} {g g':Nat} {c:Array Value} {T:TypeId} (h:AJ w g c T) (hn:g≠g') (c':Array Value):AJ (w.setRow g' c') g c T:=(D8 w g' g c' hn).trans h
theorem AJ.chg {w w':World} {g:Nat} {c:Array Value} {T:TypeId} {G:Nat->Prop} (h:AJ w g c T) (hc:BI G w w') (hn:¬ G g):AJ w' g c T:=(hc.block g h.lt hn).trans h
theorem BI.row {G:Nat->Prop} {a b:World} (h:BI G a b) {g:Nat} (hg:G g) (c:Array Value):BI G a (b.setRow g c):=
 h.trans ⟨rfl,rfl,rfl,by rw [CG];exact Nat.le_refl _,fun k hk hn=>D8 b g k c (fun e=>hn (by rw [e];exact hg))⟩
theorem BI.next {G:Nat->Prop} {a b c:World} (h:BI G a b) (hb:Below b.heap.size b c):BI G a c:=h.trans (BI.of hb)
theorem BI.alloc {G:Nat->Prop} {a b:World} (h:BI G a b) (o:Obj):BI G a (b.alloc o):=h.next ((Below.refl _ _).alloc (Nat.le_refl _) o)
theorem BI.belowNew {a b w:World} {B:Nat} (h:Below B w a) (hB:B<=a.heap.size) {g:Nat} (hg:B<=g) (hc:BI (fun k=>k=g) a b):Below B w b:=
 h.trans (hc.below hB (fun k e=>by omega))
theorem AJ.range {w:World} {g:Nat} {c:Array Value} {T:TypeId} (h:AJ w g c T) (o:Nat) (cs:List Value) (hc:∀ j,j<cs.length->c[o+j]? =cs[j]?):w.rangeAt g o cs:=fun j v hv=>by
 rw [h.at,hc j (List.getElem?_eq_some_iff.1 hv).1,hv]
theorem AJ.whole {w:World} {g:Nat} {c:Array Value} {T:TypeId} (h:AJ w g c T):w.rangeAt g 0 c.toList:=h.range 0 _ (fun j _=>by rw [Nat.zero_add,Array.getElem?_toList])
def AcT (old:Array Value):Nat->List Value->Array Value
 | _,[]=>old
 | o,v :: r=>AcT (old.setIfInBounds o v) (o+1) r
theorem F0 {P:Program} (g o:Nat) (t:TypeId):∀ (vs:List Value) (i:Nat) (cur:Array Value) (w:World),w.heap[g]? =some (.cells cur t (0,0))->o+i+vs.length<=cur.size->(∀ v∈vs,v.oneCell'=true)->
  (storeCells ⟨g,o,none⟩ vs i).run P w= .ok () (w.setRow g (AcT cur (o+i) vs))
 | [],i,cur,w,hg,hl,_=>by
  simp only [storeCells,AcT];show Result.ok () w=_;congr 1
  cases w with
  | mk heap tape drawn os output=>
   unfold World.setRow;congr 1;apply Array.ext_getElem?;intro k;rw [Array.getElem?_modify]
   by_cases hk:g=k
   ·subst hk;rw [if_pos rfl];have hg':heap[g]? =some (.cells cur t (0,0)):=hg;rw [hg'];rfl
   ·rw [if_neg hk]
 | v :: rest,i,cur,w,hg,hl,h1=>by
  have hi:o+i<cur.size:=by simp at hl;omega
  have hadd:(⟨g,o,none⟩:Addr).add i=⟨g,o+i,none⟩:=by unfold Addr.add;split<;>simp_all
  have hcell:w.cell? ⟨g,o+i,none⟩=some cur[o+i]:=by simp [World.cell?,hg,hi]
  have hfro:w.frozen? ⟨g,o+i,none⟩=false:=by simp [World.frozen?,hg]
  have hst:(store ((⟨g,o,none⟩:Addr).add i) v).run P w= .ok () (w.setRow g (cur.setIfInBounds (o+i) v)):=by
   rw [hadd,run_store P w _ v _ (h1 v (by simp)),hcell]
   simp [hfro,setCell_eq_setRow w g (o+i) cur t (0,0) v hg]
  have ih:=F0 (P:=P) g o t rest (i+1) (cur.setIfInBounds (o+i) v) (w.setRow g (cur.setIfInBounds (o+i) v)) (setRow_heap w g cur _ t _ hg) (by simp at hl⊢;omega) (fun x hx=>h1 x (by simp [hx]))
  simp only [storeCells,Sem.run_bind,hst,Result.andThen_ok,ih,setRow_setRow];rfl
theorem LD {P:Program} (w:World) (g o:Nat) (t ty:TypeId) (old:Array Value) (v:Value) (cs:Array Value) (hv:v.cells=cs) (hg:AJ w g old t) (hi:(P.info? ty).map (·.size)=some cs.size) (ho:o+cs.size<=old.size) (h1:cs.all (·.oneCell')=true):
  (storeVar ty ⟨g,o,none⟩ v).run P w= .ok () (w.setRow g (AcT old o cs.toList)):=by
 have:=F0 (P:=P) g o t cs.toList 0 old w hg (by simp;omega) (fun v hv=>(Array.all_eq_true_iff_forall_mem.1 h1) v (by simpa using hv))
 subst hv
 cases hq:P.info? ty with
 | none=>simp [hq] at hi
 | some i=>
  have hs:v.cells.size=i.size:=by simp [hq] at hi;omega
  rw [Nat.add_zero] at this;simp [storeVar,sizeOf,typeInfo,hq,hs,this]
theorem BF {P:Program} {ops:Array Oper} {rest:List Oper} {x:Oper} {a:Act} {w:World} {Q:Exit->Act->World->Prop} (hgd:x.guard=none) (ty:TypeId) (p y:Operand) (hop:x.op= .store ty p y)
  (g o:Nat) (hp:a.eval p= .pointer (some ⟨g,o,none⟩)) (v:Value) (hv:a.eval y=v) (cs:Array Value) (hc:v.cells=cs) (t:TypeId) (old new:Array Value) (hg:AJ w g old t) (hi:(P.info? ty).map (·.size)=some cs.size) (ho:o+cs.size<=old.size) (h1:cs.all (·.oneCell')=true)
  (hnew:AcT old o cs.toList=new) (h:wpList P ops Q rest (a.put x.dst undef) (w.setRow g new)):wpList P ops Q (x :: rest) a w:=by
 subst hnew
 refine wpList_plain hgd fun _ hK=> ?_
 unfold Oper.wp execOp;simp only [hop,hp,hv,Instr.storeAt,Instr.sureAddr,Sem.run_bind,Sem.run_pure,Result.andThen_ok,LD w g o t ty old v cs hc hg hi ho h1];exact hK _ _ h
theorem Ad {P:Program} {ops:Array Oper} {rest:List Oper} {x:Oper} {a:Act} {w:World} {Q:Exit->Act->World->Prop} (hgd:x.guard=none) (ty:TypeId) (p y:Operand) (hop:x.op= .store ty p y)
  (g o:Nat) (hp:a.eval p= .pointer (some ⟨g,o,none⟩)) (v:Value) (hv:a.eval y=v) (hc:v.cells= #[v]) (t:TypeId) (old new:Array Value) (hg:AJ w g old t) (hi:(P.info? ty).map (·.size)=some 1) (ho:o+1<=old.size) (h1:v.oneCell'=true)
  (hnew:old.setIfInBounds o v=new) (h:wpList P ops Q rest (a.put x.dst undef) (w.setRow g new)):wpList P ops Q (x :: rest) a w:=
 BF hgd ty p y hop g o hp v hv #[v] hc t old new hg hi ho (by simp [h1]) hnew h
end Go.Proofs.YtonomfeipkdmhaaGreatDoor
