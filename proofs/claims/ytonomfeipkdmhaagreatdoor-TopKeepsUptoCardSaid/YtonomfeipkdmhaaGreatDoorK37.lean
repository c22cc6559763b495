/- Part 37: lemmas. -/
import Derived.Test.YtonomfeipkdmhaaGreatDoorK36
import Derived.ChangeSame
import Derived.Handed
import Derived.HandedShaped
import Derived.LaidLaws
set_option linter.unusedVariables false
set_option linter.unusedSimpArgs false
set_option maxRecDepth 100000
set_option maxHeartbeats 16000000
namespace Go.Proofs.YtonomfeipkdmhaaGreatDoor
open Go.RowKit Go.Proofs.Tryz
theorem Acs {T:Al} (h:Gt T Ea):Gs T:=by
 refine ⟨El h.scheme (by decide),El h.user (by decide),El h.pass (by decide),(by rw [h.host];decide),El h.flat (by decide),El h.query (by decide),El h.frag (by decide),(by rw [Pw,h.path];decide),?_,?_,(by rw [h.host];exact NM)⟩
 ·have:T.path.length=Ea.path.length:=by rw [<-h.path,List.length_map]
  rw [this];unfold maxLen;decide
 ·rw [h.port];decide
theorem XB:(AS Ea true).length<=100:=by decide+kernel
structure TkI (w wx:World) (p:C6):Prop where
 below:Below w.heap.size w wx
 pc:AJ wx w.heap.size (By p) 24
 pi:Eb wx p
theorem TkI.keep {w wx wy:World} {p:C6} (h:TkI w wx p) (hb:Below wx.heap.size wx wy):TkI w wy p:=⟨h.below.next hb,h.pc.keep hb,h.pi.below hb (Nat.le_refl _)⟩
theorem TkI.alloc {w wx:World} {p:C6} (h:TkI w wx p) (o:Obj):TkI w (wx.alloc o) p:=h.keep ((Below.refl _ _).alloc (Nat.le_refl _) o)
theorem AdF (p:C6) (t s:ByteArray) (w:World) (hp:Eb w p) (hE:GZ w) (ht:t.size<=1100000):Calls prog 4 #[.agg (By p),.string t,.string s] w (IY w true):=by
 have hI0:TkI w (w.alloc (.cells (By p) 24)) p:=⟨(Below.refl _ _).alloc (Nat.le_refl _) _,AJ.new _ _ _,hp.below ((Below.refl _ _).alloc (Nat.le_refl _) _) (Nat.le_refl _)⟩;replace hE:=H0 hE;clear hp;go_enter func4,ntmps4;go_upto_region 1 with (fail)
 refine Ar (R:=fun wx=>TkI w wx p) hI0 ?_
 clear hI0;intro w1 hI;go_wp2_with fail;refine (Adf w1 (hE.out.next hI.below)).mono ?_
 rintro e w2 ⟨rfl,hb⟩;replace hI:=hI.keep hb;clear hb;go_wp2_with (refine wpList_load_row rfl 24 _ rfl w.heap.size rfl _ (By p) _ _ hI.pc underlying24 rfl DW ?_);refine (Yw p w2 hI.pi).mono ?_;rintro e w3 ⟨few,rfl,-,hb⟩;replace hI:=hI.keep hb;clear hb;go_wp2_with fail;refine (Ach t w3 (hE.out.next hI.below) ht).mono ?_
 rintro e w4 ⟨S,is,rfl,hu,his,hb⟩;have hI5:=(hI.keep hb).alloc (.cells (Ab S) 34);have hn5:AJ (w4.alloc (.cells (Ab S) 34)) w4.heap.size (Ab S) 34:=AJ.new _ _ _;have hu5:=hu.w.next ((Below.refl _ _).alloc (Nat.le_refl _) (.cells (Ab S) 34))
 obtain ⟨w5,hw5⟩:∃ w5,w4.alloc (.cells (Ab S) 34)=w5:=⟨_,rfl⟩;go_upto_region 4 with (refine Ag rfl 34 _ _ rfl rfl (Ab S) _ _ _ rfl (by simp) rfl (Ac _) rfl (As _) ?_)
 rw [hw5] at hI5 hn5 hu5⊢;obtain ⟨g1,hg1⟩:∃ g,w4.heap.size=g:=⟨_,rfl⟩;rw [hg1] at hn5⊢;clear hw5 hg1 hu hb hI;have hI:=hI5;clear hI5;replace his:=H0 his;replace hu5:=H0 hu5
 cases few with
 | false=>
  go_wp2_with fail;go_ret;exact ⟨rfl,hI.below⟩
 | true=>
 cases is with
 | false=>
  go_wp2_with fail;go_ret;exact ⟨rfl,hI.below⟩
 | true=>
 obtain ⟨⟨b,hb⟩,ht3⟩:=his.out rfl;have hu6:=hu5.out;rw [hb] at hu6;replace hu6:DI w5 S b:=hu6;have gb:=M6 hb;have lb:=Yc hb;rw [Aa] at lb;replace hb:=H0 hb;clear his hu5 ht
 by_cases hs:s.size<=300
 ·have q:(s.size:Int)<=300:=by omega
  have hjn:=R7 S b s w5 (hE.out.next hI.below) hu6 (Kj hu6.is (by omega)) (by omega)
  obtain ⟨o,ho⟩:=N2 (G0 b s.toList);rw [ho] at hjn
  have huo:(AS (o.getD Ea) true).length<=1000000/\(∀ T,Gt T (o.getD Ea)->Gs T)/\(∀ u,o=some u->AY u/\Bt u<=1000000):=by
   cases o with
   | none=>exact ⟨Nat.le_trans XB (by decide),fun T h=>Acs h,fun u e=>by cases e⟩
   | some u=>
    have g:=OL gb ho;have l:=Zh ho;rw [Aa] at l;have wl:=DQ g true;exact ⟨by show (AS u true).length<=_;omega,fun T h=>EF (u:=u) h g (by omega),fun v e=>by cases e;exact ⟨g,by omega⟩⟩
  replace ho:=H0 ho;replace huo:=H0 huo;replace gb:=H0 gb;replace lb:=H0 lb;replace ht3:=H0 ht3;replace hu6:=H0 hu6;go_wp2_with (refine wpList_load_row rfl 34 _ rfl g1 rfl _ (Ab S) _ _ hn5 underlying34 rfl (Ac _) ?_);refine hjn.mono ?_;rintro e w6 ⟨T,rfl,hT,hb6⟩;have hI7:=(hI.keep hb6).alloc (.cells (Ab T) 34);have hn6:=(hn5.keep hb6).alloc (.cells (Ab T) 34);have hn7:AJ (w6.alloc (.cells (Ab T) 34)) w6.heap.size (Ab T) 34:=AJ.new _ _ _;have hT7:=hT.w.next ((Below.refl _ _).alloc (Nat.le_refl _) (.cells (Ab T) 34))
  have hu7:=H0 ((hu6.out.next hb6).next ((Below.refl _ _).alloc (Nat.le_refl _) (.cells (Ab T) 34)))
  obtain ⟨w7,hw7⟩:∃ w7,w6.alloc (.cells (Ab T) 34)=w7:=⟨_,rfl⟩;go_upto_region 7 with (refine Ag rfl 34 _ _ rfl rfl (Ab T) _ _ _ rfl (by simp) rfl (Ac _) rfl (As _) ?_)
  rw [hw7] at hI7 hn6 hn7 hT7 hu7⊢;obtain ⟨g2,hg2⟩:∃ g,w6.heap.size=g:=⟨_,rfl⟩;rw [hg2] at hn7⊢;clear hw7 hg2 hT hb6 hI hn5 hu6 hjn;have hI:=hI7;clear hI7;have hfit:=H0 (huo.out.2.1 T hT7.is);have hwx:=H0 (EG hT7.is true);have hw:=Gj T true w7 hT7.inn hfit.out (hE.out.next hI.below).tabs
  rw [hwx.out] at hw;replace hT7:=H0 hT7;obtain ⟨can,hcan⟩:∃ k,o.isSome=k:=⟨_,rfl⟩;rw [hcan];replace hcan:=H0 hcan;obtain ⟨Wr,hWr⟩:∃ l,AS (o.getD Ea) true=l:=⟨_,rfl⟩;rw [hWr] at hw;replace hWr:=H0 hWr;have hwl:=H0 (show Wr.length<=1000000 by rw [<-hWr.out];exact huo.out.1)
  go_wp2_with (refine wpList_load_row rfl 34 _ rfl g2 rfl _ (Ab T) _ _ hn7 underlying34 rfl (Ac _) ?_);refine hw.mono ?_;rintro e w8 ⟨x0,rfl,hx0,hb8⟩;replace hI:=hI.keep hb8;replace hn6:=hn6.keep hb8;replace hn7:=hn7.keep hb8;replace hT7:=H0 (hT7.out.next hb8)
  replace hu7:=H0 (hu7.out.next hb8)
  have hx0z:x0.size<=1000000:=by rw [<-Aa,hx0.out];exact hwl.out
  clear hb8 hw;go_wp2_with fail;refine (Lk x0 w8 (by omega)).mono ?_
  rintro e w9 ⟨x,rfl,hx,hb9⟩;replace hI:=hI.keep hb9;replace hn6:=hn6.keep hb9;replace hn7:=hn7.keep hb9;replace hT7:=H0 (hT7.out.next hb9)
  replace hu7:=H0 (hu7.out.next hb9)
  have hxw:Hid (x.toList=Ce Wr):=H0 (by rw [hx.out,hx0.out])
  have hxz:x.size<=5000000:=by
   have:=(Qh Wr).2;have h2:=hwl.out;rw [<-Aa,hxw.out];omega
  clear hb9 hx hx0 hx0z;go_upto_region 8 with fail
  cases can with
  | false=>
   go_wp2_with fail;go_ret;exact ⟨rfl,hI.below⟩
  | true=>
  obtain ⟨u,hou⟩:∃ u,o=some u:=by
   cases o with
   | none=>cases hcan.out
   | some u=>exact ⟨u,rfl⟩
  subst hou;obtain ⟨gu,lu⟩:=huo.out.2.2 u rfl;have hWu:Wr=AS u true:=hWr.out.symm;subst hWu;replace hT7:Hid (DI w9 T u):=hT7
  have hal:=Up p T w9 hI.pi hT7.out.inn hfit.out (by
   rw [EG hT7.out.is false];have:=DQ gu false
   omega)
  rw [PN hT7.out.is] at hal;obtain ⟨al,hall⟩:∃ k,GL p.schemes.l p.hosts.l p.types.l u=k:=⟨_,rfl⟩;rw [hall] at hal;replace hall:=H0 hall;replace gu:=H0 gu;replace lu:=H0 lu
  go_wp2_with (first
   | (refine AH (by rfl) ?_;refine wpList_load_row rfl 24 _ rfl w.heap.size rfl _ (By p) _ _ hI.pc underlying24 rfl DW ?_)
   | (refine AH (by rfl) ?_;refine wpList_load_row rfl 34 _ rfl g2 rfl _ (Ab T) _ _ hn7 underlying34 rfl (Ac _) ?_))
  refine hal.mono ?_;rintro e wa ⟨rfl,hba⟩;replace hI:=hI.keep hba;replace hn6:=hn6.keep hba;replace hu7:=H0 (hu7.out.next hba)
  have y3:=(hI.pc.at 3).trans (show (By p)[3]? =some (.int .i64 p.most) from rfl);clear hba hal hn7 hT7
  cases al with
  | false=>
   go_wp2_with fail;go_ret;exact ⟨rfl,hI.below⟩
  | true=>
  by_cases hm:p.most<(x.size:Int)
  ·go_wp2_with fail;go_ret;exact ⟨rfl,hI.below⟩
  ·have hm2:(x.size:Int)<=p.most:=by omega
   go_upto_region 10 with fail
   obtain ⟨pa,n,c,wc,hconv,hbn,hbc⟩:=NG x wa;have hIc:=hI.keep hbc;have huc:=hu7.out.next hbc
   have hfl:=W6 p S b u ⟨#[97]⟩ ⟨#[104,114,101,102]⟩ (some pa) n c x wc (hE.out.next hIc.below) hIc.pi huc gb.out (by have:=lb.out;have:=ht3.out;omega) Mh gu.out lu.out hall.out hxw.out hbn hm2
   have hgd:=Nz;have hq:=fun w=>FM w 3 0 x
   replace hfl:=H0 hfl;clear hbn hbc y3
   go_wp2_with (first
    | (refine AH (by rfl) ?_;refine wpList_load_row rfl 24 _ rfl w.heap.size rfl _ (By p) _ _ hI.pc underlying24 rfl DW ?_)
    | (refine AH (by rfl) ?_;refine wpList_load_row rfl 34 _ rfl g1 rfl _ (Ab S) _ _ hn6 underlying34 rfl (Ac _) ?_))
   refine hfl.out.mono ?_;rintro e wd ⟨rfl,hbd⟩;replace hIc:=hIc.keep hbd;clear hbd;go_wp2_with (refine AH (by rfl) ?_;refine wpList_buildTo rfl _ _ rfl _ rfl (BU 3 0 x) (by kernel_rfl) ?_)
   go_ret;exact ⟨rfl,hIc.below⟩
 ·have q:300<(s.size:Int):=by omega
  go_wp2_with fail;go_ret;exact ⟨rfl,hI.below⟩
end Go.Proofs.YtonomfeipkdmhaaGreatDoor
namespace Go.Proofs.YtonomfeipkdmhaaGreatDoor
open Go.Proofs.Tryz
open Go.RowKit Go.ChangeShapes Go.WideShapes
def cell0:DataW Unit->List Value
 | .lit (.int k n)=>[.int k n]
 | _=>[]
def Ae1:DataW Unit->List Value
 | .agg l=>l.flatMap cell0
 | d=>cell0 d
def Af7:DataW Unit->List Value
 | .agg l=>l.flatMap Ae1
 | d=>Ae1 d
def Agz:DataW Unit->List Int
 | .agg l=>l.map fun | .lit (.int _ n)=>n | _=>0
 | _=>[]
def Afv (l:List Value):Obj->Obj
 | .cells _ t fr=> .cells l.toArray t fr
 | o=>o
def AcY (P:Program) (h:Array Obj):List (String × DataW Unit)->Array Obj
 | []=>h
 | x :: r=>AcY P (match P.globalNamed x.1 with | some g=>h.modify g (Afv (Af7 x.2)) | none=>h) r
noncomputable def AfP (P:Program) (os:Os) (l:List (String × DataW Unit)):World:=
 let w0:=World.holding P os ⟨#[],#[],[]⟩
 { w0 with heap:=AcY P w0.heap l }
theorem Gl {P:Program} {x:String × DataW Unit} {rest:List (String × DataW Unit)} {W:World} (h:laidMet P (x :: rest) W):laidMet P rest W:=by
 obtain ⟨ps,⟨g,t,cs,fuel,p,q,_,_,_,_,hq,rfl⟩,hn,hc⟩:=h;exact ⟨q,hq,(List.nodup_append.1 hn).2.1,fun b off hm=>hc b off (List.mem_append_right _ hm)⟩
theorem Abc:(Rows.laid_internal_strconv_uint64pow10:DataW Unit)=Lib.tabData .u64 Lib.pow10Tab:=by kernel_rfl
theorem W9:(Rows.laid_math_bits_deBruijn64tab:DataW Unit)=Lib.tabData .u8 (Agz Rows.laid_math_bits_deBruijn64tab):=by kernel_rfl
theorem Sy {rest:List (String × DataW Unit)} {W:World}
  (h:laidMet prog (("math/bits.deBruijn32tab",Rows.laid_math_bits_deBruijn32tab) :: ("math/bits.deBruijn64tab",Rows.laid_math_bits_deBruijn64tab) :: ("internal/strconv.uint64pow10",Rows.laid_internal_strconv_uint64pow10) :: rest) W):Ij W:=by
 have h2:=Gl h;have h3:=Gl h2;rw [W9] at h2;rw [Abc] at h3
 have hb:prog.globalNamed "math/bits.deBruijn64tab" =some 5:=by kernel_rfl
 refine ⟨Lib.tabIs_of_head U3 (by kernel_rfl) underlying224 underlying161 (by kernel_rfl) (by kernel_rfl) h3,?_⟩
 have ht:=Lib.tabIs_of_head hb (by kernel_rfl) underlying252 underlying5 (by kernel_rfl) (by kernel_rfl) h2
 exact (ht.cell hb 15 (by decide)).trans rfl
end Go.Proofs.YtonomfeipkdmhaaGreatDoor
namespace Go.Proofs.YtonomfeipkdmhaaGreatDoor
open Go.Proofs.Tryz
open Go.RowKit Go.ChangeShapes Go.WideShapes
def X1:List Int:=Go.Pinned.utf8FirstZ.map fun (n:Nat)=>(n:Int)
theorem Aa1:(Rows.laid_unicode_utf8_first:DataW Unit)=Lib.tabData .u8 X1:=by kernel_rfl
theorem RU:X1.length=256/\∀ c,c<256->X1.getD c 0=Lib.firstT c:=by decide+kernel
theorem VH:prog.globalNamed "unicode/utf8.first" =some 1:=by kernel_rfl
theorem MP:prog.globalNamed "unicode/utf8.acceptRanges" =some 2:=by kernel_rfl
def AcO (i:Nat):DataW Unit:= .agg [.lit (.int .u8 (Lib.accLo i)),.lit (.int .u8 (Lib.accHi i))]
theorem AdK:(Rows.laid_unicode_utf8_acceptRanges:DataW Unit)= .agg ((List.range 16).map AcO):=by kernel_rfl
theorem Afi {α:Type} {l:List α} (h:l.length=2):∃ a b,l=[a,b]:=by
 match l,h with
 | [a,b],_=>exact ⟨a,b,rfl⟩
theorem Aeb {w:World} {enc:TypeId × Value->Unit} {base:Nat} {sp:Nat->Bool} {held:Bool} {fuel:Nat} {cs:List Value} {x:DataW Unit × List MemPlace} (h:DataW.trod enc prog w base sp held fuel 203 cs=some x):
  ∃ a b,cs=[.int .u8 a,.int .u8 b]/\x.1= .agg [.lit (.int .u8 a),.lit (.int .u8 b)]:=by
 obtain ⟨y0,y1,n,rfl,hl,h0,h1⟩:=trod_struct2 underlying203 h;have hl2:cs.length=2:=hl.trans (by kernel_rfl)
 obtain ⟨c0,c1,rfl⟩:=Afi hl2;have k:prog.cellsOf 5=1:=by kernel_rfl
 dsimp only at h0 h1;rw [k] at h0 h1;obtain ⟨a,e0,rfl,-⟩:=DataW.trod_int underlying5 h0;obtain ⟨b,e1,rfl,-⟩:=DataW.trod_int underlying5 h1;simp only [List.drop_zero,List.drop_succ_cons,List.take_succ_cons,List.take_zero,List.cons.injEq,and_true] at e0 e1;exact ⟨a,b,by rw [e0,e1],rfl⟩
theorem ZO {w:World} {enc:TypeId × Value->Unit} {base:Nat} {sp:Nat->Bool} {held:Bool} {fuel:Nat} {cs:List Value} {p:List MemPlace}
  (h:DataW.trod enc prog w base sp held fuel 204 cs=some (.agg ((List.range 16).map AcO),p)) (i:Nat) (hi:i<16):
  cs[2 * i]? =some (.int .u8 (Lib.accLo i))/\cs[2 * i+1]? =some (.int .u8 (Lib.accHi i)):=by
 have ht:=underlying204;have hc2:prog.cellsOf 203=2:=by kernel_rfl
 cases fuel with
 | zero=>simp [DataW.trod] at h
 | succ fuel=>
  simp only [DataW.trod,ht,hc2] at h;split at h
  ·obtain ⟨xs,hm,hx⟩:=Option.map_eq_some_iff.1 h
   have hxs:xs.map (·.1)=(List.range 16).map AcO:=by
    have:=congrArg Prod.fst hx;simpa using this
   obtain ⟨b,hb,hf⟩:=Lib.mapM_at hm i i (by simp [hi])
   obtain ⟨x,y,hc,hd⟩:=Aeb hf
   have h2:(xs.map (·.1))[i]? =some b.1:=by rw [List.getElem?_map,hb];rfl
   rw [hxs,List.getElem?_map,List.getElem?_range hi,hd] at h2;have h3:AcO i= .agg [.lit (.int .u8 x),.lit (.int .u8 y)]:=Option.some.inj h2;unfold AcO at h3;simp only [DataW.agg.injEq,List.cons.injEq,DataW.lit.injEq,Lit.int.injEq,true_and,and_true] at h3;obtain ⟨rfl,rfl⟩:=h3
   have g0:=congrArg (·[0]?) hc
   have g1:=congrArg (·[1]?) hc
   simp only [List.getElem?_take,List.getElem?_drop] at g0 g1;refine ⟨?_,?_⟩
   ·have:i * 2+0=2 * i:=by omega
    simpa [this] using g0
   ·have:i * 2+1=2 * i+1:=by omega
    simpa [this] using g1
  ·cases h
theorem Wd {W:World} (h:laidMet prog (("unicode/utf8.acceptRanges",Rows.laid_unicode_utf8_acceptRanges) :: ("unicode/utf8.first",Rows.laid_unicode_utf8_first) :: []) W):Utf W:=by
 have h2:=Gl h;rw [Aa1] at h2;have hF:=Lib.tabIs_of_head VH (by kernel_rfl) underlying201 underlying5 (by kernel_rfl) (by kernel_rfl) h2
 refine ⟨fun c hc=> ?_,fun i hi=> ?_⟩
 ·rw [hF.cell VH c (by rw [RU.1];exact hc),RU.2 c hc]
 ·obtain ⟨ps,⟨g',t',cs,fuel,p,q,hg',ht',hvar,hd,_,_⟩,_⟩:=h;obtain rfl:=Option.some.inj (MP.symm.trans hg')
  have hty:(prog.globals[2]?).map (·.type)=some 204:=by kernel_rfl
  obtain rfl:=Option.some.inj (hty.symm.trans ht');rw [AdK] at hd;obtain ⟨a0,a1⟩:=ZO hd i hi;exact ⟨(World.var?_cell MP hvar (2 * i)).trans (by simpa using a0),(World.var?_cell MP hvar (2 * i+1)).trans (by simpa using a1)⟩
theorem AeU {W:World} (h:laidMet prog (("math/bits.deBruijn32tab",Rows.laid_math_bits_deBruijn32tab) :: ("math/bits.deBruijn64tab",Rows.laid_math_bits_deBruijn64tab) :: ("internal/strconv.uint64pow10",Rows.laid_internal_strconv_uint64pow10) :: ("unicode/utf8.acceptRanges",Rows.laid_unicode_utf8_acceptRanges) :: ("unicode/utf8.first",Rows.laid_unicode_utf8_first) :: []) W) (hml:ML W):GZ W:=
 ⟨Sy h,hml,Wd (Gl (Gl (Gl h)))⟩
end Go.Proofs.YtonomfeipkdmhaaGreatDoor
