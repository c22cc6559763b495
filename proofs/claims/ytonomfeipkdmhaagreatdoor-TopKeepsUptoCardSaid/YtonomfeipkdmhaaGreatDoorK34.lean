/- Part 34: lemmas. -/
import Derived.Test.YtonomfeipkdmhaaGreatDoorK33
import Derived.Lib.SlBytesConst
set_option linter.unusedVariables false
set_option linter.unusedSimpArgs false
set_option maxRecDepth 100000
set_option maxHeartbeats 16000000
namespace Go.Proofs.YtonomfeipkdmhaaGreatDoor
open Go.RowKit Go.Proofs.Tryz
theorem Xo (a b:List LC):∃ t,BC (a++b)=BC a++t:=by
 cases a with
 | nil=>exact ⟨BC b,rfl⟩
 | cons c r=>
  refine ⟨Np b,?_⟩;show Qi c++Np (r++b)=(Qi c++Np r)++Np b;unfold Np;rw [List.flatMap_append,List.append_assoc]
theorem Vg (M:List LC) (k:Nat):(BC (M.take k)).length<=(BC M).length:=by
 obtain ⟨t,ht⟩:=Xo (M.take k) (M.drop k);rw [List.take_append_drop] at ht;rw [ht,List.length_append];omega
theorem ZT {M:List LC} {k:Nat} (h:k<M.length):BC (M.take (k+1))=(BC (M.take k)++Acr k)++Qi M[k]:=by
 rw [List.take_succ_eq_append_getElem h,Vv];congr 2;unfold Acr
 by_cases h0:k=0
 ·subst h0;rfl
 ·rw [if_neg h0,if_neg (by
   intro e;have:=congrArg List.length e
   rw [List.length_take,List.length_nil] at this;omega)]
theorem WA {x:AP} {it:BR} (h:VB x it):Qi (Fp it)=AS it.url true++Dk x.ws:=by
 show AS it.url true++it.ws.flatMap (fun t=>32 :: t)=_
 rw [<-h.ws];unfold Dk;rw [List.flatMap_map]
theorem AbH (v:Value) (l:List AP) (L:List BR) (w:World) (hE:GZ w) (hr:FL w v l) (his:Dx l L) (hg:∀ it∈L,AY it.url/\Bt it.url<=1000000000) (hn:l.length<=1000000000) (hw:∀ x∈l,x.ws.length<=1000000000) (hz:(BC (L.map Fp)).length<=1000000000):
  Calls prog 61 #[v] w (Cy w (BC (L.map Fp))):=by
 have hlen:=his.len;obtain ⟨M,hM⟩:=N2 (L.map Fp);have hMl:M.length=l.length:=by rw [<-hM,List.length_map,hlen]
 have hMk:∀ k (h:k<L.length),M[k]? =some (Fp L[k]):=fun k h=>by rw [<-hM,List.getElem?_map,List.getElem?_eq_getElem h];rfl
 rw [hM] at hz⊢;replace hM:=H0 hM;have hbl:=GR.fresh w w.heap.size;have hb0:Below w.heap.size w (w.alloc (.cells #[.pointer none,.slice none 0 0] 76)):=(Below.refl _ _).alloc (Nat.le_refl _) _;have hsz0:w.heap.size+1<=(w.alloc (.cells #[.pointer none,.slice none 0 0] 76)).heap.size:=by rw [Ai];omega
 obtain ⟨w0,hw0⟩:∃ w0,w.alloc (.cells #[.pointer none,.slice none 0 0] 76)=w0:=⟨_,rfl⟩;rw [hw0] at hbl hb0 hsz0;obtain ⟨b,hbb⟩:=N2 (w.heap.size);obtain ⟨pa,c,rfl,hcap,hrow,hreads⟩:=hr;have hE':=H0 hE;replace hrow:=H0 hrow;replace hreads:=H0 hreads;replace hg:=H0 hg;replace hw:=H0 hw;replace his:=H0 his;replace hMk:=H0 hMk;replace hlen:=H0 hlen;replace hMl:=H0 hMl;clear hE;go_enter func61,ntmps61;go_wp2_with fail;rw [hbb] at hbl hb0 hsz0;go_loopw [4,5,7,10] (fun v4 v5 v7 iv wr=>∃ k:Nat,iv= .int .i64 (k:Int)/\k<=l.length/\GR wr b b (BC (M.take k))/\Below b w wr/\b+1<=wr.heap.size) (fun _ _ _ i _=>l.length - (intOf i).toNat)
 case atStart=>exact ⟨0,rfl,Nat.zero_le _,hbl,hb0,hsz0⟩
 case round=>
  obtain ⟨k,rfl,hk,hbld,hbel,hsz⟩:=hrel;clear hbl hb0 hsz0
  by_cases hlt:k<l.length
  ·have hlen2:=hlen.out;have hMl2:=hMl.out;obtain ⟨g1,o1,rfl,hcell⟩:=hrow.out (by omega)
   have y0:=hcell k hlt;have hX:=hreads.out l[k] (List.getElem_mem ..);have hI:=his.out.get k hlt (by omega)
   have hG:=hg.out L[k] (List.getElem_mem ..);have hW:=hw.out l[k] (List.getElem_mem ..);have hMe:=ZT (M:=M) (k:=k) (by omega)
   have hMp:=Vg M (k+1)
   have hMv:M[k]'(by omega)=Fp L[k]:=by
    have:=hMk.out k (by omega)
    rw [List.getElem?_eq_getElem (by omega)] at this
    exact Option.some.inj this
   rw [hMv] at hMe;obtain ⟨x,hx⟩:=N2 (l[k]);obtain ⟨it,hit⟩:=N2 (L[k]'(by omega))
   rw [hx] at y0 hX hI hW;rw [hit] at hI hG hMe;rw [WA hI] at hMe;obtain ⟨xr,xu,xw,xws⟩:=x;obtain ⟨hXp,hXc,hXw⟩:=hX;dsimp only at hXp hXc hXw hI hW hMe;obtain ⟨ga,gc,rfl,hwc⟩:=hXw;have hy:wr.rangeAt g1 (o1+k * 25) (Au xr xu (.slice ga xws.length gc)).toList:=Fu y0 hbel (by omega)
   have hltI:(k:Int)<(l.length:Int):=by omega
   have hc3:AJ (wr.alloc (.cells (Au xr xu (.slice ga xws.length gc)) 48)) wr.heap.size (Au xr xu (.slice ga xws.length gc)) 48:=AJ.new _ _ _;have hb3:GR (wr.alloc (.cells (Au xr xu (.slice ga xws.length gc)) 48)) b b (BC (M.take k)):=hbld.keep ((Below.refl _ _).alloc (Nat.le_refl _) _);have hbe3:Below b w (wr.alloc (.cells (Au xr xu (.slice ga xws.length gc)) 48)):=hbel.alloc (by omega) _
   have hs3:(wr.alloc (.cells (Au xr xu (.slice ga xws.length gc)) 48)).heap.size=wr.heap.size+1:=Ai _ _;obtain ⟨w3,hw3⟩:∃ w3,wr.alloc (.cells (Au xr xu (.slice ga xws.length gc)) 48)=w3:=⟨_,rfl⟩;rw [hw3] at hc3 hb3 hbe3 hs3;replace hI:=H0 hI;replace hx:=H0 hx;replace hit:=H0 hit;replace hMe:=H0 hMe;clear y0 hcell hMv hbld hit hlen2 hMl2
   go_upto_region 5 with (first
    | (refine wpList_load_mid rfl 48 _ rfl g1 (o1+k * 25) rfl (Au xr xu (.slice ga xws.length gc)).toList _ hy underlying48 rfl (JZ ⟨xr,xu,.slice ga xws.length gc,xws⟩) ?_)
    | (refine Ag rfl 48 _ _ rfl rfl (Au xr xu (.slice ga xws.length gc)) _ _ _ rfl (by simp) rfl (DT _ _ _) rfl (Jh _ _ _ rfl) ?_))
   refine Ar (R:=fun wx=>w3=wx) hw3.symm ?_
   rintro _ rfl;clear hw3 hy;obtain ⟨p5,hp5⟩:∃ p,wr.heap.size=p:=⟨_,rfl⟩;rw [hp5] at hc3 hs3 hsz⊢;obtain ⟨P0,hP0⟩:∃ P,BC (M.take k)++Acr k=P:=⟨_,rfl⟩;rw [hP0] at hMe
   have hP0z:(BC (M.take k)++Acr k).length<=1000000000:=by
    have e:=hMe.out;rw [<-hP0] at e;rw [e,List.length_append] at hMp;omega
   have hPk:(BC (M.take k)).length<=1000000000:=by rw [List.length_append] at hP0z;omega
   replace hP0:=H0 hP0;have hbb1:b<=w3.heap.size:=by omega
   go_upto_if 16 with (fail)
   go_cut [17] (fun s17 wx=>GR wx b b P0/\Below b w wx/\AJ wx p5 (Au xr xu (.slice ga xws.length gc)) 48/\b+1<=wx.heap.size)
   case first=>
    by_cases hk0:k=0
    ·subst hk0;have hsep:P0=BC (M.take 0):=by rw [<-hP0.out];rfl
     rw [<-hsep] at hb3;replace hsep:=H0 hsep;go_wp2_with fail;go_meet;exact ⟨hb3,hbe3,hc3,by omega⟩
    ·have hkI:(0:Int)<(k:Int):=by omega
     have hsep:P0=BC (M.take k)++[44,32]:=by rw [<-hP0.out];unfold Acr;rw [if_neg hk0]
     replace hsep:=H0 hsep;go_wp2_with fail;refine (IB b b _ ⟨#[44,32]⟩ w3 hb3 (by omega) (by decide) hbb1).mono ?_
     rintro e w4 ⟨rfl,hb4,hch4,hkt4⟩;have hb4':GR w4 b b P0:=by rw [hsep.out];rwa [show (ByteArray.mk #[44,32]).toList=[44,32] from toList_mk _] at hb4
     have hbe4:Below b w w4:=hbe3.trans (hch4.below hbb1 (fun k hk=>by rcases hk with rfl | hk;exact Nat.le_refl _;exact hk))
     have hc4:=hkt4 _ _ _ (by decide) (by omega) hc3
     have hs4:=hch4.size;clear hb4 hch4 hkt4 hb3 hbe3 hc3;go_wp2_with fail;go_meet;exact ⟨hb4',hbe4,hc4,by omega⟩
   case rest=>
    obtain ⟨hb4,hbe4,hc4,hs4⟩:=hcut;clear hb3 hbe3 hc3;have hp5b:b+1<=p5:=hsz
    have hyU:wc.rangeAt p5 1 (Ab xu).toList:=by
     have:=GI (x:=⟨xr,xu,.slice ga xws.length gc,xws⟩) (o:=0) hc4.whole;simpa using this
    have hUW:DI wc xu it.url:=⟨hI.out.url,hXp.below hbe4 (by omega),hXc⟩
    have hfit:=H0 (EF hI.out.url hG.1 (by omega))
    have hwx:=H0 (EG hI.out.url true);have hlenu:=DQ hG.1 true;go_wp2_with (refine wpList_load_mid rfl 34 _ rfl p5 1 rfl (Ab xu).toList _ hyU underlying34 rfl (JP _) ?_);refine (Gj xu true wc hUW.inn hfit.out (hE'.out.next (by rw [hbb];exact hbe4)).tabs).mono ?_
    rintro e w5 ⟨tw,rfl,htw,hb45⟩;have htwl:Hid (tw.toList=AS it.url true):=H0 (htw.out.trans hwx.out);have htz:tw.size<=1000000050:=by rw [<-Aa,htwl.out];omega
    have hb5:=hb4.keep hb45;have hc5:=hc4.keep hb45;have hbe5:Below b w w5:=hbe4.trans (hb45.mono (by omega))
    have hs5:=hb45.size;have hPz:P0.length<=1000000000:=by rw [<-hP0.out];exact hP0z
    clear hyU hUW hb4 hc4 hbe4 hb45 htw;go_wp2_with fail;refine (IB b b P0 tw w5 hb5 (by omega) (by omega) (by omega)).mono ?_
    rintro e w6 ⟨rfl,hb6,hch6,hkt6⟩;have hbe6:Below b w w6:=hbe5.trans (hch6.below (by omega) (fun k hk=>by rcases hk with rfl | hk;exact Nat.le_refl _;exact hk))
    have hc6:=hkt6 _ _ _ (by decide) (by omega) hc5
    have hs6:=hch6.size;have y24:=(hc6.at 24).trans (show (Au xr xu (.slice ga xws.length gc))[24]? =some (.slice ga xws.length gc) from rfl);obtain ⟨P1,hP1⟩:∃ P,P0++tw.toList=P:=⟨_,rfl⟩;rw [hP1] at hb6;have hMe2:Hid (BC (M.take (k+1))=P1++Dk xws):=H0 (by rw [hMe.out,<-hP1,htwl.out,List.append_assoc])
    have hP1z:(P1++Dk xws).length<=1000000000:=by rw [<-hMe2.out];omega
    rw [List.length_append] at hP1z;replace hP1:=H0 hP1;clear hb5 hc5 hbe5 hch6 hkt6 hMe;go_wp2_with fail;go_loopw [7,25] (fun v7 jv wq=>∃ j:Nat,jv= .int .i64 (j:Int)/\j<=xws.length/\GR wq b b (P1++Dk (xws.take j))/\Below b w wq/\b+1<=wq.heap.size) (fun _ i _=>xws.length - (intOf i).toNat)
    case atStart=>exact ⟨0,rfl,Nat.zero_le _,by rw [List.take_zero];simpa [Dk] using hb6,hbe6,by omega⟩
    case round=>
     obtain ⟨j,rfl,hj,hbq,hbeq,hsq⟩:=hrel;clear hb6 hbe6 hc6 y24
     by_cases hjl:j<xws.length
     ·obtain ⟨g2,o2,rfl,hwcell⟩:=hwc (by omega)
      have y2:=hwcell j hjl;have hlt2:=World.block_lt_of_cell? w _ y2;have y3:wr.cell? ⟨g2,o2+j,none⟩=some (.string xws[j]):=(hbeq.cell (by simp at hlt2⊢;omega)).trans y2
      have hsn:=UZ hjl;have hpre:=Pm xws (j+1);have hpre0:=Pm xws j;rw [hsn,List.length_append,List.length_cons,Aa] at hpre;have hjI:(j:Int)<(xws.length:Int):=by omega
      have hz1:(P1++Dk (xws.take j)).length<=1000000000:=by rw [List.length_append];omega
      have hz2:xws[j].size<=1000000000:=by omega
      obtain ⟨tj,htj⟩:=N2 (xws[j]);rw [htj] at y3 hsn hz2;obtain ⟨P2,hP2⟩:∃ P,P1++Dk (xws.take j)=P:=⟨_,rfl⟩;rw [hP2] at hbq hz1;have hnext:Hid (P1++Dk (xws.take (j+1))=(P2++[32])++tj.toList):=H0 (by rw [hsn,<-hP2];simp)
      replace htj:=H0 htj;replace hP2:=H0 hP2;clear hsn hpre y2 hwcell;go_wp2_with fail;refine (Ya b b P2 32 wr hbq (by omega) (by omega)).mono ?_
      rintro e w7 ⟨rfl,hb7,hch7,-⟩;have hbe7:Below b w w7:=hbeq.trans (hch7.below (by omega) (fun k hk=>by rcases hk with rfl | hk;exact Nat.le_refl _;exact hk))
      have hs7:=hch7.size;clear hbq hbeq hch7 y3;go_wp2_with fail;refine (IB b b (P2++[32]) tj w7 hb7 (by rw [List.length_append,List.length_singleton];omega) (by omega) (by omega)).mono ?_
      rintro e w8 ⟨rfl,hb8,hch8,-⟩;have hbe8:Below b w w8:=hbe7.trans (hch8.below (by omega) (fun k hk=>by rcases hk with rfl | hk;exact Nat.le_refl _;exact hk))
      have hs8:=hch8.size;clear hb7 hbe7 hch8;go_wp2_with fail;refine ⟨⟨j+1,by go_num,by omega,by rw [hnext.out];exact hb8,hbe8,by omega⟩,?_⟩
      simp [intOf];omega
     ·have hjI:(xws.length:Int)<=(j:Int):=by omega
      have hfin:BC (M.take (k+1))=P1++Dk (xws.take j):=by rw [hMe2.out,List.take_of_length_le (by omega)]
      rw [<-hfin] at hbq;replace hfin:=H0 hfin;go_wp2_with fail;go_roundw
      case rel=>exact ⟨k+1,by go_num,by omega,hbq,hbeq,hsq⟩
      case measure=>simp [intOf];omega
  ·have hltI:(l.length:Int)<=(k:Int):=by omega
   have hall:M.take k=M:=List.take_of_length_le (by rw [hMl.out];omega)
   rw [hall] at hbld;have hBl:Kx wr b b (BC M):=hbld.to (Nat.le_refl _) (Nat.le_refl _);replace hall:=H0 hall;go_wp2_with fail;refine (Bf b b _ wr hBl (by omega)).mono ?_
   rintro e w3 ⟨tt,rfl,htt,hb3⟩;have hbe3:=hbel.trans hb3;clear hb3 hBl hbld;go_wp2_with fail;go_ret;exact ⟨tt,rfl,htt,by rw [hbb];exact hbe3⟩
theorem Aah (v:Value) (t:ByteArray) (l:List AP) (L:List BR) (w:World) (hE:GZ w) (hr:FL w v l) (his:Dx l L) (hg:∀ it∈L,AY it.url/\Bt it.url<=1000000000) (h0:0<l.length) (hn:l.length<=1000000000) (hw:∀ x∈l,x.ws.length<=1000000000) (hz:(BC (L.map Fp)).length<=1000000000):
  Calls prog 28 #[.int .i64 2,.agg (readC v t)] w (Cy w (Ce (BC (L.map Fp)))):=by
 have hb0:Below w.heap.size w (w.alloc (.cells (readC v t) 44)):=(Below.refl _ _).alloc (Nat.le_refl _) _;have hc0:AJ (w.alloc (.cells (readC v t) 44)) w.heap.size (readC v t) 44:=AJ.new _ _ _;obtain ⟨w0,hw0⟩:∃ w0,w.alloc (.cells (readC v t) 44)=w0:=⟨_,rfl⟩;rw [hw0] at hb0 hc0;have hr0:=hr.below hb0 (Nat.le_refl _);have hlist:=AbH v l L w0 (hE.next hb0) hr0 his hg hn hw hz
 obtain ⟨pa,c,rfl,-,-,-⟩:=hr0;have y0:=(hc0.at 0).trans (show (readC (.slice pa l.length c) t)[0]? =some (.slice pa l.length c) from rfl);obtain ⟨N,hN⟩:=N2 (l.length);rw [hN] at y0 hw0 hlist h0⊢;have hN0:decide ((N:Int)=0)=false:=by rw [decide_eq_false_iff_not];omega
 obtain ⟨W,hW⟩:=N2 (BC (L.map Fp));rw [hW] at hlist hz⊢;replace hW:=H0 hW;replace hN:=H0 hN;replace hlist:=H0 hlist;clear hr his hg hw hE hc0;go_enter func28,ntmps28;go_wp2_with fail;clear hw0;refine hlist.out.mono ?_;rintro e w1 ⟨tw,rfl,htw,hb1⟩;have hb2:=hb0.next hb1
 have htz:tw.size<=4294967296:=by rw [<-Aa,htw.out];omega
 clear hb0 hb1 y0 hlist;go_wp2_with fail;refine (Lk tw w1 htz).mono ?_;rintro e w2 ⟨te,rfl,hte,hb3⟩;have hfin:Hid (te.toList=Ce W):=H0 (by rw [hte.out,htw.out])
 have hb4:=hb2.next hb3
 clear hb3 hb2;go_wp2_with fail;go_ret;exact ⟨_,rfl,hfin,hb4⟩
set_option maxRecDepth 100000
def IQ:Aq:=(Dz [104,116,116,112,115,58,47,47,104,47,97,47,98]).getD Ea
theorem Acc:(Dz [104,116,116,112,115,58,47,47,104,47,97,47,98]).isSome=true:=by decide+kernel
def Ej:Aq->Bool:=GL [⟨#[104,116,116,112,115]⟩,⟨#[100,97,116,97]⟩] [⟨#[104]⟩,⟨#[46,99,46,100]⟩] [⟨#[105,109,97,103,101,47,112,110,103]⟩]
theorem goV:Ch Ej 200 2 IQ [120,32,49,120,44,47,47,101,32,50,120,44,32,104,116,116,112,115,58,47,47,81,46,67,46,68,47,39,38,97,109,112,59,44,32,100,97,116,97,58,105,109,97,103,101,47,103,105,102,44,97]=⟨3,0,[104,116,116,112,115,58,47,47,104,47,97,47,120,32,49,120,44,32,104,116,116,112,115,58,47,47,113,46,99,46,100,47,38,35,51,57,59,38,97,109,112,59]⟩:=by
 have h0:(Ch Ej 200 2 IQ [120,32,49,120,44,47,47,101,32,50,120,44,32,104,116,116,112,115,58,47,47,81,46,67,46,68,47,39,38,97,109,112,59,44,32,100,97,116,97,58,105,109,97,103,101,47,103,105,102,44,97]).kind=3:=by decide+kernel
 have h1:(Ch Ej 200 2 IQ [120,32,49,120,44,47,47,101,32,50,120,44,32,104,116,116,112,115,58,47,47,81,46,67,46,68,47,39,38,97,109,112,59,44,32,100,97,116,97,58,105,109,97,103,101,47,103,105,102,44,97]).why=0:=by decide+kernel
 have h2:(Ch Ej 200 2 IQ [120,32,49,120,44,47,47,101,32,50,120,44,32,104,116,116,112,115,58,47,47,81,46,67,46,68,47,39,38,97,109,112,59,44,32,100,97,116,97,58,105,109,97,103,101,47,103,105,102,44,97]).out=[104,116,116,112,115,58,47,47,104,47,97,47,120,32,49,120,44,32,104,116,116,112,115,58,47,47,113,46,99,46,100,47,38,35,51,57,59,38,97,109,112,59]:=by decide+kernel
 generalize Ch Ej 200 2 IQ _=v at h0 h1 h2⊢;cases v
 simp_all
theorem goW:(Ch Ej 200 1 IQ [106,97,118,97,38,84,97,98,59,115,99,114,105,112,116,58,120]).kind=2/\(Ch Ej 200 1 IQ [106,97,118,97,38,84,97,98,59,115,99,114,105,112,116,58,120]).why=4/\(Ch Ej 200 1 IQ [106,97,118,97,38,84,97,98,59,115,99,114,105,112,116,58,120]).out=[]:=by decide+kernel
theorem Adl:Dz [104,116,116,112,115,58,47,47,104,47,97,47,98]=some IQ:=by
 unfold IQ;have h:=Acc
 cases e:Dz [104,116,116,112,115,58,47,47,104,47,97,47,98] with
 | none=>rw [e] at h;cases h
 | some u=>rfl
theorem Ac5:AY IQ:=M6 Adl
theorem Ow:Bt IQ<=1000000:=by decide+kernel
theorem Adu:List.count 0 ([120,32,49,120,44,47,47,101,32,50,120,44,32,104,116,116,112,115,58,47,47,81,46,67,46,68,47,39,38,97,109,112,59,44,32,100,97,116,97,58,105,109,97,103,101,47,103,105,102,44,97]:List UInt8)=0/\(GT [120,32,49,120,44,47,47,101,32,50,120,44,32,104,116,116,112,115,58,47,47,81,46,67,46,68,47,39,38,97,109,112,59,44,32,100,97,116,97,58,105,109,97,103,101,47,103,105,102,44,97]).length<=1000/\(FY (GT [120,32,49,120,44,47,47,101,32,50,120,44,32,104,116,116,112,115,58,47,47,81,46,67,46,68,47,39,38,97,109,112,59,44,32,100,97,116,97,58,105,109,97,103,101,47,103,105,102,44,97])).length<=1000:=by decide+kernel
theorem Acw:List.count 0 ([106,97,118,97,38,84,97,98,59,115,99,114,105,112,116,58,120]:List UInt8)=0/\(GT [106,97,118,97,38,84,97,98,59,115,99,114,105,112,116,58,120]).length<=1000/\(FY (GT [106,97,118,97,38,84,97,98,59,115,99,114,105,112,116,58,120])).length<=1000:=by decide+kernel
set_option maxRecDepth 100000
def OM (el nm:ByteArray) (k:Int):Prop:=∀ w,Calls prog 21 #[.string el,.string nm] w fun r w'=>r= .returned (.int .i64 k)/\Below w.heap.size w w'
theorem Ae2 {e n:List UInt8} {kq:Option Nat} (h:∀ k,k<27->(keyBytes [.string (Jn.getD k ([],[],0)).1,.string (Jn.getD k ([],[],0)).2.1]=keyBytes [.string e,.string n]↔kq=some k)):AbW e n kq:=fun k hk=>by
 rw [<-h k hk];unfold Adn HO;exact ⟨fun e=>by injection e,fun e=>by rw [e]⟩
theorem Mh:OM ⟨#[97]⟩ ⟨#[104,114,101,102]⟩ 1:=fun w=>
 UW _ _ [97] [104,114,101,102] (some 0) 1 (by decide+kernel) (by decide+kernel) (by decide) (by decide) (Ae2 (by decide+kernel)) (fun k h=>by cases h;decide) (by decide+kernel) (by kernel_rfl) w
theorem Q5:OM ⟨#[105,109,103]⟩ ⟨#[115,114,99,115,101,116]⟩ 2:=fun w=>
 UW _ _ [105,109,103] [115,114,99,115,101,116] (some 23) 2 (by decide+kernel) (by decide+kernel) (by decide) (by decide) (Ae2 (by decide+kernel)) (fun k h=>by cases h;decide) (by decide+kernel) (by kernel_rfl) w
theorem Pc {u:Aq} {K:Nat} (h:Bt u<=K):u.path.length<=K:=by
 have:=I1 u.path;unfold Bt at h;omega
theorem Kj {B:Al} {b:Aq} (h:Gt B b) (hz:Bt b<=1000000):GC B:=by
 have hp:=h.path;refine ⟨?_,fun t ht=> ?_⟩
 ·have:=Pc hz;rw [<-hp,List.length_map] at this;exact this
 ·have hm:t.toList∈b.path:=by rw [<-hp];exact List.mem_map_of_mem ht
  have:=AaY hm;rw [Aa] at this;unfold Bt at hz;omega
theorem Ads {W:List UInt8} (h:∀ c∈W,BP c=false):(Ce W).count 0=0/\GT (Ce W)=Ce W/\FY (Ce W)=Ce W:=by
 have hs:=Ve h;refine ⟨List.count_eq_zero.2 fun hm=>(L7 (hs _ hm)).1 rfl,On (fun c hc=>(L7 (hs c hc)).1),Mo (List.all_eq_true.2 fun c hc=>(L7 (hs c hc)).2)⟩
theorem X5 {u:Aq} (g:AY u) (hz:Bt u<=1000000000):Xk 1 [⟨true,u,[]⟩] []:=fun v t l w ht hE hr his h0 hn hw=>by
 cases l with
 | nil=>cases h0
 | cons x l=>exact Abi v t x l u w hE hr his.1.url g hz
theorem W6 (p:C6) (B:Al) (b u:Aq) (el nm:ByteArray) (pa:Option Addr) (n c:Nat) (x:ByteArray) (w:World) (hE:GZ w) (hp:Eb w p) (hB:DI w B b) (g:AY b) (gz:Bt b<=1000000) (hK:OM el nm 1)
  (gu:AY u) (uz:Bt u<=1000000) (ha:GL p.schemes.l p.hosts.l p.types.l u=true) (hx:x.toList=Ce (AS u true)) (h:Ed w pa n c x.toList) (hm:(x.size:Int)<=p.most):
  Calls prog 10 #[.agg (By p),.agg (Ab B),.string el,.string nm,.slice pa n c] w (fun e w'=>e= .returned (.agg (BU 3 0 x))/\Below w.heap.size w w'):=by
 have hc:=Jr gu;have hwl:=DQ gu true;have hel:=(Qh (AS u true)).2;obtain ⟨e0,e1,e2⟩:=Ads hc;have hv:=Ru hc
 have hi:Bi 1 b (AS u true)=([⟨true,u,[]⟩],[]):=by
  show ([Do b (AS u true) []],[])=_;rw [NC gu]
 have hk:Dm (GL p.schemes.l p.hosts.l p.types.l) 1 ⟨true,u,[]⟩=true:=by unfold Dm;rw [ha];rfl
 have hf:[(⟨true,u,[]⟩:BR)].filter (Dm (GL p.schemes.l p.hosts.l p.types.l) 1)=[⟨true,u,[]⟩]:=by rw [List.filter_cons,if_pos hk,List.filter_nil]
 have hm2:¬ p.most<((Ce (AS u true)).length:Int):=by
  rw [<-hx,Aa];omega
 have key:=Wl (base:=b) gu ha hm2;rw [hx] at h;have hn:n<=1000000000:=by rw [<-h.len];omega
 have hpc:=Pc uz;refine (Ld p B b el nm 1 pa n c _ w hE hp hB g gz hK (by decide) h hn (K8 e0) (by rw [e1];omega) (by rw [e1,e2];omega) ?_ ?_ ?_ ?_ ?_).mono ?_
 ·rw [hv];intro s w' hs hE' hB';rw [<-hs];exact PO B b s w' hE' hB' (Kj hB.is gz) (by rw [<-Aa,hs];omega)
 ·rw [hv,hi];intro it hit;rw [List.mem_singleton.1 hit];exact ⟨fun _=>⟨gu,by show Bt u<=_;omega⟩,by show 0<=_;omega,by show u.path.length<=_;omega⟩
 ·rw [hv,hi];show 1<=_;omega
 ·rw [hv,hi];dsimp only;rw [hf];intro _;exact X5 gu (by omega)
 ·rw [hv,hi];dsimp only;rw [hf];show (Ce (AS u true)).length<=_;omega
 ·rintro e w' ⟨t,rfl,ht,hb⟩;rw [key] at ht⊢;obtain rfl:t=x:=toList_inj (ht.out.trans hx.symm);exact ⟨rfl,hb⟩
theorem Wx {b:Aq} {s:List UInt8} (hb:AY b):∀ it∈(Bi 2 b s).1,it.right=true->AY it.url:=by
 intro it hit hr;obtain ⟨c,hc,rfl⟩:=List.mem_map.1 (show it∈(Fe s).map (fun c=>Do b c.url c.ws) from hit)
 obtain ⟨u,hj,hi,g⟩:=NH hb hr;rw [hi];exact g
theorem XP {L:List BR} (hne:L≠[]) (hg:∀ it∈L,AY it.url/\Bt it.url<=1000000000) (hz:(BC (L.map Fp)).length<=1000000000):Xk 2 L []:=fun v t l w ht hE hr his h0 hn hw=>by
 have he:NV 2 L []=BC (L.map Fp):=by
  cases L with
  | nil=>exact absurd rfl hne
  | cons a r=>rfl
 rw [he];exact Aah v t l L w hE hr his hg h0 (by omega) hw hz
def MZ:List UInt8:=[120,32,49,120,44,47,47,101,32,50,120,44,32,104,116,116,112,115,58,47,47,81,46,67,46,68,47,39,38,97,109,112,59,44,32,100,97,116,97,58,105,109,97,103,101,47,103,105,102,44,97]
def Ku:List UInt8:=[106,97,118,97,38,84,97,98,59,115,99,114,105,112,116,58,120]
def AbN:List UInt8:=[104,116,116,112,115,58,47,47,104,47,97,47,120,32,49,120,44,32,104,116,116,112,115,58,47,47,113,46,99,46,100,47,38,35,51,57,59,38,97,109,112,59]
theorem Zz:(∀ c∈Fe (A7 MZ),c.url.length<=1100000)/\(A7 MZ).length<=1000/\(∀ it∈(Bi 2 IQ (A7 MZ)).1,Bt it.url<=1000/\it.ws.length<=1000/\it.url.path.length<=1000)/\(Bi 2 IQ (A7 MZ)).1.length<=1000/\(BC (((Bi 2 IQ (A7 MZ)).1.filter (Dm Ej 2)).map Fp)).length<=1000/\(Ce (NV 2 ((Bi 2 IQ (A7 MZ)).1.filter (Dm Ej 2)) (Bi 2 IQ (A7 MZ)).2)).length<=1000:=by decide+kernel
theorem Aaz:(A7 Ku).length<=1000/\(∀ it∈(Bi 1 IQ (A7 Ku)).1,Bt it.url<=1000/\it.ws.length<=1000/\it.url.path.length<=1000)/\(Bi 1 IQ (A7 Ku)).1.length<=1000/\(Bi 1 IQ (A7 Ku)).1.filter (Dm Ej 1)=[]/\(Ce (NV 1 ((Bi 1 IQ (A7 Ku)).1.filter (Dm Ej 1)) (Bi 1 IQ (A7 Ku)).2)).length<=1000:=by
 refine ⟨by decide+kernel,by decide+kernel,by decide+kernel,?_,by decide+kernel⟩
 exact List.eq_nil_of_length_eq_zero (by decide+kernel)
theorem Wa {b:Aq} {s:List UInt8} (hb:AY b):∀ it∈(Bi 1 b s).1,it.right=true->AY it.url:=by
 intro it hit hr;obtain rfl:=List.mem_singleton.1 (show it∈[Do b s []] from hit);obtain ⟨u,hj,hi,g⟩:=NH hb hr;rw [hi];exact g
theorem Xl (p:C6) (B:Al) (el nm:ByteArray) (pa:Option Addr) (n c:Nat) (w:World) (hE:GZ w) (hp:Eb w p) (hal:GL p.schemes.l p.hosts.l p.types.l=Ej) (hmo:p.most=200) (hB:DI w B IQ) (hK:OM el nm 2) (h:Ed w pa n c MZ):
  Calls prog 10 #[.agg (By p),.agg (Ab B),.string el,.string nm,.slice pa n c] w (fun e w'=>e= .returned (.agg (BU 3 0 ⟨AbN.toArray⟩))/\Below w.heap.size w w'):=by
 obtain ⟨f1,f2,f3,f4,f5,f6⟩:=Zz;obtain ⟨z1,z2,z3⟩:=Adu;have hn:n<=1000000000:=by rw [<-h.len];decide
 have key:=goV;have hki:=Wx (s:=A7 MZ) Ac5;refine (Ld p B IQ el nm 2 pa n c MZ w hE hp hB Ac5 Ow hK (by decide) h hn (K8 z1) (Nat.le_trans z2 (by decide)) (Nat.le_trans z3 (by decide)) ?_ ?_ ?_ ?_ ?_).mono ?_
 ·intro s w' hs hE' hB';rw [<-hs] at f1 f2⊢;exact XZ B IQ s w' hE' hB' (Kj hB.is Ow) (by rw [<-Aa];omega) f1
 ·intro it hit;obtain ⟨a1,a2,a3⟩:=f3 it hit;exact ⟨fun hr=>⟨hki it hit hr,by omega⟩,by omega,by omega⟩
 ·omega
 ·rw [hal];intro hne;refine XP hne (fun it hit=> ?_) (by omega)
  obtain ⟨hm,hk⟩:=List.mem_filter.1 hit;have hk2:=hk;unfold Dm at hk2;rw [Bool.and_eq_true] at hk2;have:=(f3 it hm).1;exact ⟨hki it hm hk2.1,by omega⟩
 ·rw [hal];omega
 ·rintro e w' ⟨t,rfl,ht,hb⟩;rw [hal,hmo,show Ch Ej 200 2 IQ MZ=⟨3,0,AbN⟩ from key] at ht⊢;obtain rfl:t=⟨AbN.toArray⟩:=toList_inj (ht.out.trans (toList_mk AbN).symm);exact ⟨rfl,hb⟩
theorem XK (p:C6) (B:Al) (el nm:ByteArray) (pa:Option Addr) (n c:Nat) (w:World) (hE:GZ w) (hp:Eb w p) (hal:GL p.schemes.l p.hosts.l p.types.l=Ej) (hmo:p.most=200) (hB:DI w B IQ) (hK:OM el nm 1) (h:Ed w pa n c Ku):
  Calls prog 10 #[.agg (By p),.agg (Ab B),.string el,.string nm,.slice pa n c] w (fun e w'=>e= .returned (.agg (BU 2 4 ⟨#[]⟩))/\Below w.heap.size w w'):=by
 obtain ⟨f2,f3,f4,f5,f6⟩:=Aaz;obtain ⟨z1,z2,z3⟩:=Acw;have hn:n<=1000000000:=by rw [<-h.len];decide
 obtain ⟨k1,k2,k3⟩:=goW;have hki:=Wa (s:=A7 Ku) Ac5;refine (Ld p B IQ el nm 1 pa n c Ku w hE hp hB Ac5 Ow hK (by decide) h hn (K8 z1) (Nat.le_trans z2 (by decide)) (Nat.le_trans z3 (by decide)) ?_ ?_ ?_ ?_ ?_).mono ?_
 ·intro s w' hs hE' hB';rw [<-hs] at f2⊢;exact PO B IQ s w' hE' hB' (Kj hB.is Ow) (by rw [<-Aa];omega)
 ·intro it hit;obtain ⟨a1,a2,a3⟩:=f3 it hit;exact ⟨fun hr=>⟨hki it hit hr,by omega⟩,by omega,by omega⟩
 ·omega
 ·rw [hal];exact fun hne=>absurd f5 hne
 ·rw [hal];omega
 ·rintro e w' ⟨t,rfl,ht,hb⟩;rw [hal,hmo] at ht⊢
  have e3:Ch Ej 200 1 IQ Ku=⟨2,4,[]⟩:=by
   have k1':(Ch Ej 200 1 IQ Ku).kind=2:=k1;have k2':(Ch Ej 200 1 IQ Ku).why=4:=k2;have k3':(Ch Ej 200 1 IQ Ku).out=[]:=k3;generalize Ch Ej 200 1 IQ Ku=v at k1' k2' k3'⊢;cases v
   simp_all
  rw [e3] at ht⊢;obtain rfl:t=⟨#[]⟩:=toList_inj (ht.out.trans (toList_mk []).symm);exact ⟨rfl,hb⟩
def Aem (s:ByteArray) (w:World) (e:Ending) (w':World):Prop:=
 ∃ S:Al,∃ b:Bool,e= .returned (.tuple #[.agg (Ab S),.bool b])/\Er w' w.heap.size S ((Dz s.toList).getD Ea)/\(b=true->(∃ u,Dz s.toList=some u)/\s.size<=300)/\Below w.heap.size w w'
theorem Ach (s:ByteArray) (w:World) (hE:GZ w) (hz:s.size<=1100000):Calls prog 8 #[.string s] w (Aem s w):=by
 have hE':=H0 hE;clear hE;have hb0:Below w.heap.size w (w.alloc (.cells (Ab zS) 34)):=(Below.refl _ _).alloc (Nat.le_refl _) _;have hr0:AJ (w.alloc (.cells (Ab zS) 34)) w.heap.size (Ab zS) 34:=AJ.new _ _ _;go_enter func8,ntmps8;go_upto_region 1 with (fail)
 refine Ar (R:=fun wx=>Below w.heap.size w wx/\AJ wx w.heap.size (Ab zS) 34) ⟨hb0,hr0⟩ ?_
 clear hb0 hr0;rintro w1 ⟨hb1,hr1⟩;have hp:=K6 s w1 (hE'.out.next hb1) hz
 obtain ⟨o,ho⟩:=N2 (Dz s.toList);rw [ho] at hp;replace ho:=H0 ho;go_wp2_with fail;refine hp.mono ?_;rintro e w2 ⟨T,rfl,hu,hb⟩;obtain ⟨k,hk⟩:=N2 (o.isSome);rw [hk];have hb2:=hb1.next hb
 have hr2:=hr1.keep hb;have hs1:=hb1.size;have hs2:=hb2.size;have hlt:=hr1.lt;clear hb hb1 hr1 hp;have hb5:Below w.heap.size w (w2.alloc (.cells (Ab T) 34)):=hb2.alloc hs2 _;have hr5:AJ (w2.alloc (.cells (Ab T) 34)) w.heap.size (Ab zS) 34:=hr2.alloc _;have hn5:AJ (w2.alloc (.cells (Ab T) 34)) w2.heap.size (Ab T) 34:=AJ.new _ _ _;have hu5:Er (w2.alloc (.cells (Ab T) 34)) w1.heap.size T (o.getD Ea):=hu.next ((Below.refl w2.heap.size w2).alloc (Nat.le_refl _) _)
 obtain ⟨w5,hw5⟩:∃ w5,w2.alloc (.cells (Ab T) 34)=w5:=⟨_,rfl⟩;go_upto_region 2 with (refine Ag rfl 34 _ _ rfl rfl (Ab T) _ _ _ rfl (by simp) rfl (Ac _) rfl (As _) ?_)
 rw [hw5] at hb5 hr5 hn5 hu5⊢;clear hw5 hu hb2 hr2;replace hu5:=H0 hu5;have h6:Hid (Er (w5.setRow w.heap.size (Ab T)) w.heap.size T (o.getD Ea)):=H0 (hu5.out.row hlt hs1 _)
 have hk2:Hid (k=true->∃ u,o=some u):=H0 (fun e=>by
  cases o with
  | none=>rw [<-hk] at e;cases e
  | some u=>exact ⟨u,rfl⟩)
 replace hk:=H0 hk;have hk3:=H0 (fun e:k=true=>hk2.out e)
 cases k with
 | false=>
  go_wp2_with (first
   | (refine wpList_load_row rfl 34 _ rfl w2.heap.size rfl 34 (Ab T) _ _ hn5 underlying34 rfl (Ac _) ?_)
   | (refine wpList_store_row rfl 34 _ _ rfl w.heap.size (Ab T) rfl rfl 34 _ hr5 (Ac _) rfl (As _) ?_))
  refine HM rfl rfl rfl rfl (hr5.set _) (Ac _) ?_;exact ⟨T,false,rfl,(by rw [ho.out];exact h6.out),fun e=>(by cases e),Ae hb5 (Nat.le_refl _) _⟩
 | true=>
  replace hk3:=H0 (hk3.out rfl);clear hk2
  by_cases h3:s.size<=300
  ·have q:(s.size:Int)<=300:=by omega
   go_wp2_with (first
    | (refine wpList_load_row rfl 34 _ rfl w2.heap.size rfl 34 (Ab T) _ _ hn5 underlying34 rfl (Ac _) ?_)
    | (refine wpList_store_row rfl 34 _ _ rfl w.heap.size (Ab T) rfl rfl 34 _ hr5 (Ac _) rfl (As _) ?_))
   refine HM rfl rfl rfl rfl (hr5.set _) (Ac _) ?_;exact ⟨T,true,rfl,(by rw [ho.out];exact h6.out),fun _=>⟨by rw [ho.out];exact hk3.out,h3⟩,Ae hb5 (Nat.le_refl _) _⟩
  ·have q:¬ (s.size:Int)<=300:=by omega
   go_wp2_with (first
    | (refine wpList_load_row rfl 34 _ rfl w2.heap.size rfl 34 (Ab T) _ _ hn5 underlying34 rfl (Ac _) ?_)
    | (refine wpList_store_row rfl 34 _ _ rfl w.heap.size (Ab T) rfl rfl 34 _ hr5 (Ac _) rfl (As _) ?_))
   refine HM rfl rfl rfl rfl (hr5.set _) (Ac _) ?_;exact ⟨T,false,rfl,(by rw [ho.out];exact h6.out),fun e=>(by cases e),Ae hb5 (Nat.le_refl _) _⟩
theorem FM (w:World) (k y:Nat) (t:ByteArray):(Op.equalIn 10000 40 (.agg (BU k y t)) (.agg (BU k y t))).run prog w= .ok true w:=by
 have hf:(prog.fieldsOf 40).toList=[{ name:= "Kind",type:=3,offset:=0,embedded:=false,tag:= "",pkgPath:= "",byteOffset:=0 },{ name:= "Why",type:=3,offset:=1,embedded:=false,tag:= "",pkgPath:= "",byteOffset:=8 },{ name:= "Out",type:=9,offset:=2,embedded:=false,tag:= "",pkgPath:= "",byteOffset:=16 }]:=by kernel_rfl
 have hu:prog.underlying 40=some (.struct (prog.fieldsOf 40)):=by kernel_rfl
 rw [show (10000:Nat)=9999+1 from rfl,run_equalIn_struct w 9999 _ _ _ hu (by kernel_rfl),hf]
 have p0:∀ w,(part 3 (BU k y t) 0).run prog w= .ok (.int .i64 (k:Int)) w:=fun w=>by simp [part,isAgg,run_underlying underlying3,BU]
 have p1:∀ w,(part 3 (BU k y t) 1).run prog w= .ok (.int .i64 (y:Int)) w:=fun w=>by simp [part,isAgg,run_underlying underlying3,BU]
 have p2:∀ w,(part 9 (BU k y t) 2).run prog w= .ok (.string t) w:=fun w=>by simp [part,isAgg,run_underlying underlying9,BU]
 have q0:∀ w (n:Int),(Op.equalIn 9999 3 (.int .i64 n) (.int .i64 n)).run prog w= .ok true w:=fun w n=>by rw [show (9999:Nat)=9998+1 from rfl,run_equalIn_int w 9998 _ _ _ _ _ underlying3];simp
 have q1:∀ w,(Op.equalIn 9999 9 (.string t) (.string t)).run prog w= .ok true w:=fun w=>by rw [show (9999:Nat)=9998+1 from rfl,run_equalIn_string w 9998 _ _ _ underlying9];simp
 simp [Op.eqFields,p0,p1,p2,q0,q1,Result.andThen]
theorem Acu (w:World) (hE:GZ w):Calls prog 20 #[.string ⟨#[104,116,116,112,115,58,47,47,104,47,97,47,98]⟩] w (fun e w'=>∃ S:Al,e= .returned (.tuple #[.agg (Ab S),.bool true])/\DI w' S IQ/\Below w.heap.size w w'):=by
 refine (K6 ⟨#[104,116,116,112,115,58,47,47,104,47,97,47,98]⟩ w hE (by decide)).mono ?_
 rintro e w' ⟨S,rfl,hu,hb⟩;have hp:Dz (ByteArray.toList ⟨#[104,116,116,112,115,58,47,47,104,47,97,47,98]⟩)=some IQ:=by rw [show ByteArray.toList ⟨#[104,116,116,112,115,58,47,47,104,47,97,47,98]⟩=[104,116,116,112,115,58,47,47,104,47,97,47,98] from toList_mk _];exact Adl
 rw [hp] at hu⊢;exact ⟨S,rfl,hu.w,hb⟩
theorem KT (w:World) (l:List ByteArray) (h:l.length<=100) (hz:∀ t∈l,t.size<=100):EY (w.alloc (.cells (l.map Value.string).toArray 9)) ⟨some ⟨w.heap.size,0,none⟩,l.length,l⟩:=by
 have hc:=AJ.new w (l.map Value.string).toArray 9;refine ⟨fun _=>⟨w.heap.size,0,rfl,fun i hi=> ?_⟩,by unfold maxLen;show l.length<=_;omega,fun t ht=>Nat.le_trans (hz t ht) (by unfold maxLen;decide),fun e=>by cases e⟩
 rw [Nat.zero_add];refine (hc.at i).trans ?_;rw [List.getElem?_toArray,List.getElem?_map,List.getElem?_eq_getElem hi];rfl
def goP (g2 g3 g4:Nat):C6:=⟨⟨some ⟨g2,0,none⟩,2,[⟨#[104,116,116,112,115]⟩,⟨#[100,97,116,97]⟩]⟩,⟨some ⟨g3,0,none⟩,2,[⟨#[104]⟩,⟨#[46,99,46,100]⟩]⟩,⟨some ⟨g4,0,none⟩,1,[⟨#[105,109,97,103,101,47,112,110,103]⟩]⟩,200⟩
def QC:Obj:= .cells #[.string ⟨#[104,116,116,112,115]⟩,.string ⟨#[100,97,116,97]⟩] 9
def SA:Obj:= .cells #[.string ⟨#[104]⟩,.string ⟨#[46,99,46,100]⟩] 9
def V7:Obj:= .cells #[.string ⟨#[105,109,97,103,101,47,112,110,103]⟩] 9
theorem AfN (w:World):Eb (((w.alloc QC).alloc SA).alloc V7) (goP w.heap.size (w.heap.size+1) (w.heap.size+1+1)):=by
 have h1:=KT w [⟨#[104,116,116,112,115]⟩,⟨#[100,97,116,97]⟩] (by decide) (by decide)
 have h2:=KT (w.alloc QC) [⟨#[104]⟩,⟨#[46,99,46,100]⟩] (by decide) (by decide)
 have h3:=KT ((w.alloc QC).alloc SA) [⟨#[105,109,97,103,101,47,112,110,103]⟩] (by decide) (by decide)
 rw [Ai] at h2;rw [Ai,Ai] at h3;exact ⟨(h1.below ((Below.refl _ _).alloc (Nat.le_refl _) SA) (Nat.le_refl _)).below ((Below.refl _ _).alloc (Nat.le_refl _) V7) (Nat.le_refl _),h2.below ((Below.refl _ _).alloc (Nat.le_refl _) V7) (Nat.le_refl _),h3,(by show (Lit.int .i64 200).wf=true;decide)⟩
theorem Ae3:∃ i,prog.info? 9=some i/\i.zero=some (.string ⟨#[]⟩)/\i.size=1/\i.bytes=16:=info_parts (by kernel_rfl)
theorem SQ {ops:Array Oper} {rest:List Oper} {o:Oper} {a:Act} {w:World} {Q:Exit->Act->World->Prop} (hg:o.guard=none) (x y:ByteArray) (ho:o.op= .buildSlice 22 2 #[(0,.const (.string x)),(1,.const (.string y))])
  (h:wpList prog ops Q rest (a.put o.dst (.slice (some ⟨w.heap.size,0,none⟩) 2 2)) (w.alloc (.cells #[.string x,.string y] 9))):wpList prog ops Q (o :: rest) a w:=by
 obtain ⟨i,hi,hz,hs1,-⟩:=Ae3;refine wpList_buildSlice hg 22 9 2 _ ho #[.string x,.string y] i _ underlying22 hi hz (by rw [hs1];decide) (by rw [hs1];decide) ?_ h
 rw [hs1,Array.toList_map];show Instr.fill _ _ [(0,.string x),(1,.string y)]=_
 kernel_rfl
theorem S6 {ops:Array Oper} {rest:List Oper} {o:Oper} {a:Act} {w:World} {Q:Exit->Act->World->Prop} (hg:o.guard=none) (x:ByteArray) (ho:o.op= .buildSlice 22 1 #[(0,.const (.string x))])
  (h:wpList prog ops Q rest (a.put o.dst (.slice (some ⟨w.heap.size,0,none⟩) 1 1)) (w.alloc (.cells #[.string x] 9))):wpList prog ops Q (o :: rest) a w:=by
 obtain ⟨i,hi,hz,hs1,-⟩:=Ae3;refine wpList_buildSlice hg 22 9 1 _ ho #[.string x] i _ underlying22 hi hz (by rw [hs1];decide) (by rw [hs1];decide) ?_ h
 rw [hs1,Array.toList_map];show Instr.fill _ _ [(0,.string x)]=_
 kernel_rfl
theorem ON (w:World) (l:List UInt8) (zs:List Int) (n:Nat) (q:Nat × Nat) (hn:l.length=n) (hz:zs=l.map fun c=>(c.toNat:Int)):Ed (w.alloc (.cells (zs.map (Value.int .u8)).toArray 5 q)) (some ⟨w.heap.size,0,none⟩) n n l:=by
 subst hz hn;refine ⟨⟨rfl,Nat.le_refl _,fun _=>⟨w.heap.size,0,rfl,fun i hi=> ?_⟩⟩,fun e=>by cases e⟩
 rw [Nat.zero_add];refine (World.cell?_alloc_mark w _ _ _ i).trans ?_;rw [List.getElem?_toArray,List.getElem?_map,List.getElem?_map,List.getElem?_eq_getElem hi];rfl
def Oc:List Int:=[120,32,49,120,44,47,47,101,32,50,120,44,32,104,116,116,112,115,58,47,47,81,46,67,46,68,47,39,38,97,109,112,59,44,32,100,97,116,97,58,105,109,97,103,101,47,103,105,102,44,97]
def Le:List Int:=[106,97,118,97,38,84,97,98,59,115,99,114,105,112,116,58,120]
theorem Aen:Oc=MZ.map fun c=>(c.toNat:Int):=by decide+kernel
theorem Ad0:Le=Ku.map fun c=>(c.toNat:Int):=by decide+kernel
structure GoI (w wx:World) (g1 g3:Nat) (S:Al) (p:C6):Prop where
 below:Below w.heap.size w wx
 u:AJ wx g1 (Ab S) 34
 pc:AJ wx g3 (By p) 24
 uw:DI wx S IQ
 pi:Eb wx p
theorem GoI.keep {w wx wy:World} {g1 g3:Nat} {S:Al} {p:C6} (h:GoI w wx g1 g3 S p) (hb:Below wx.heap.size wx wy):GoI w wy g1 g3 S p:=⟨h.below.next hb,h.u.keep hb,h.pc.keep hb,h.uw.next hb,h.pi.below hb (Nat.le_refl _)⟩
theorem GoI.alloc {w wx:World} {g1 g3:Nat} {S:Al} {p:C6} (h:GoI w wx g1 g3 S p) (o:Obj):GoI w (wx.alloc o) g1 g3 S p:=h.keep ((Below.refl _ _).alloc (Nat.le_refl _) o)
theorem Nz:prog.eqGuardType prog.depth 40=false:=by kernel_rfl
theorem VE (k y:Nat) (t:ByteArray):(prog.info? 40).map (·.size)=some (BU k y t).size:=by show _=some 3;kernel_rfl
theorem Adf (w:World) (hE:GZ w):Calls prog 6 #[] w (IY w true):=by
 have hp:=Acu w hE;replace hE:=H0 hE;go_enter func6,ntmps6;go_wp2_with fail;refine hp.mono ?_;rintro e w1 ⟨S,rfl,hu,hb1⟩;have hn2:AJ (w1.alloc (.cells (Ab S) 34)) w1.heap.size (Ab S) 34:=AJ.new _ _ _;have hb2:Below w.heap.size w (w1.alloc (.cells (Ab S) 34)):=hb1.alloc hb1.size _;have hu2:DI (w1.alloc (.cells (Ab S) 34)) S IQ:=hu.next ((Below.refl _ _).alloc (Nat.le_refl _) _)
 obtain ⟨w2,hw2⟩:∃ w2,w1.alloc (.cells (Ab S) 34)=w2:=⟨_,rfl⟩;go_upto_region 2 with (refine Ag rfl 34 _ _ rfl rfl (Ab S) _ _ _ rfl (by simp) rfl (Ac _) rfl (As _) ?_)
 rw [hw2] at hn2 hb2 hu2⊢;obtain ⟨g1,hg1⟩:∃ g,w1.heap.size=g:=⟨_,rfl⟩;rw [hg1] at hn2⊢;clear hw2 hg1 hu hb1 hp
 have hI3:GoI w (((w2.alloc QC).alloc SA).alloc V7 |>.alloc (.cells (By (goP w2.heap.size (w2.heap.size+1) (w2.heap.size+1+1))) 24)) g1 (w2.heap.size+1+1+1) S (goP w2.heap.size (w2.heap.size+1) (w2.heap.size+1+1)):=by
  have b3:Below w2.heap.size w2 (((w2.alloc QC).alloc SA).alloc V7):=(((Below.refl _ _).alloc (Nat.le_refl _) QC).alloc (by rw [Ai];omega) SA).alloc (by rw [Ai,Ai];omega) V7
  have b4:Below w2.heap.size w2 (((w2.alloc QC).alloc SA).alloc V7 |>.alloc (.cells (By (goP w2.heap.size (w2.heap.size+1) (w2.heap.size+1+1))) 24)):=b3.alloc b3.size _;have cn:=AJ.new (((w2.alloc QC).alloc SA).alloc V7) (By (goP w2.heap.size (w2.heap.size+1) (w2.heap.size+1+1))) 24;rw [Ai,Ai,Ai] at cn;exact ⟨hb2.next b4,hn2.keep b4,cn,hu2.next b4,(AfN w2).below ((Below.refl _ _).alloc (Nat.le_refl _) _) (Nat.le_refl _)⟩
 go_upto_region 5 with (first
  | (refine SQ rfl _ _ rfl ?_)
  | (refine S6 rfl _ rfl ?_)
  | (refine wpList_buildTo rfl _ _ rfl _ rfl (By (goP w2.heap.size (w2.alloc QC).heap.size ((w2.alloc QC).alloc SA).heap.size)) (by kernel_rfl) ?_)
  | (refine Ag rfl 24 _ _ rfl rfl (By (goP w2.heap.size (w2.heap.size+1) (w2.heap.size+1+1))) _ _ _ rfl (by simp) rfl DW rfl (by kernel_rfl) ?_))
 refine Ar (R:=fun wx=>GoI w wx g1 (w2.heap.size+1+1+1) S (goP w2.heap.size (w2.heap.size+1) (w2.heap.size+1+1))) hI3 ?_
 clear hI3 hn2 hb2 hu2;intro w3 hI;obtain ⟨g3,hg3⟩:∃ g,w2.heap.size+1+1+1=g:=⟨_,rfl⟩;obtain ⟨p,hp,hal,hmo⟩:∃ p,goP w2.heap.size (w2.heap.size+1) (w2.heap.size+1+1)=p/\GL p.schemes.l p.hosts.l p.types.l=Ej/\p.most=200:=⟨_,rfl,rfl,rfl⟩
 rw [hg3,hp] at hI;rw [hg3]
 try rw [hp]
 clear hg3 hp;replace hal:=H0 hal;replace hmo:=H0 hmo;have hcv:=Lib.run_convert_bytes_const (P:=prog) w3 25 5 (Oc.map (Value.int .u8)).toArray 51 51 underlying25 underlying5;have hbn:=ON w3 MZ Oc 51 ((Oc.map (Value.int .u8)).toArray.size,(Oc.map (Value.int .u8)).toArray.size+1) rfl Aen;have hIc:=hI.alloc (.cells (Oc.map (Value.int .u8)).toArray 5 ((Oc.map (Value.int .u8)).toArray.size,(Oc.map (Value.int .u8)).toArray.size+1));obtain ⟨wc,hwc⟩:∃ wc,w3.alloc (.cells (Oc.map (Value.int .u8)).toArray 5 ((Oc.map (Value.int .u8)).toArray.size,(Oc.map (Value.int .u8)).toArray.size+1))=wc:=⟨_,rfl⟩;rw [hwc] at hcv hbn hIc;have hf:=H0 (Xl p S ⟨#[105,109,103]⟩ ⟨#[115,114,99,115,101,116]⟩ _ 51 51 wc (hE.out.next hIc.below) hIc.pi hal.out hmo.out hIc.uw Q5 hbn)
 clear hwc hbn
 go_wp2_with (first
  | (refine wpList_load_row rfl 24 _ rfl g3 rfl _ (By p) _ _ hI.pc underlying24 rfl DW ?_)
  | (refine wpList_load_row rfl 34 _ rfl g1 rfl _ (Ab S) _ _ hI.u underlying34 rfl (Ac _) ?_)
  | (refine wpList_buildFlat rfl _ 5 51 _ rfl .u8 Oc underlying25 (by kernel_rfl) (by kernel_rfl) rfl (by decide) (by decide) (by kernel_rfl) ?_))
 refine hf.out.mono ?_;rintro e wd ⟨rfl,hbd⟩;rw [show (⟨AbN.toArray⟩:ByteArray)=⟨#[104,116,116,112,115,58,47,47,104,47,97,47,120,32,49,120,44,32,104,116,116,112,115,58,47,47,113,46,99,46,100,47,38,35,51,57,59,38,97,109,112,59]⟩ from rfl];have hI2:=(hIc.keep hbd).alloc (.cells (BU 3 0 ⟨#[104,116,116,112,115,58,47,47,104,47,97,47,120,32,49,120,44,32,104,116,116,112,115,58,47,47,113,46,99,46,100,47,38,35,51,57,59,38,97,109,112,59]⟩) 40);have hn4:AJ (wd.alloc (.cells (BU 3 0 ⟨#[104,116,116,112,115,58,47,47,104,47,97,47,120,32,49,120,44,32,104,116,116,112,115,58,47,47,113,46,99,46,100,47,38,35,51,57,59,38,97,109,112,59]⟩) 40)) wd.heap.size (BU 3 0 ⟨#[104,116,116,112,115,58,47,47,104,47,97,47,120,32,49,120,44,32,104,116,116,112,115,58,47,47,113,46,99,46,100,47,38,35,51,57,59,38,97,109,112,59]⟩) 40:=AJ.new _ _ _;obtain ⟨w4,hw4⟩:∃ w4,wd.alloc (.cells (BU 3 0 ⟨#[104,116,116,112,115,58,47,47,104,47,97,47,120,32,49,120,44,32,104,116,116,112,115,58,47,47,113,46,99,46,100,47,38,35,51,57,59,38,97,109,112,59]⟩) 40)=w4:=⟨_,rfl⟩;go_upto_region 6 with (refine Ag rfl 40 _ _ rfl rfl (BU 3 0 ⟨#[104,116,116,112,115,58,47,47,104,47,97,47,120,32,49,120,44,32,104,116,116,112,115,58,47,47,113,46,99,46,100,47,38,35,51,57,59,38,97,109,112,59]⟩) _ _ _ rfl (by simp) rfl (VE _ _ _) rfl (FB _ _ _) ?_)
 rw [hw4] at hI2 hn4⊢;obtain ⟨g4,hg4⟩:∃ g,wd.heap.size=g:=⟨_,rfl⟩;rw [hg4] at hn4⊢;clear hw4 hg4 hI hIc hcv hf hbd;have hI:=hI2;clear hI2;have hcv:=Lib.run_convert_bytes_const (P:=prog) w4 25 5 (Le.map (Value.int .u8)).toArray 17 17 underlying25 underlying5;have hbn:=ON w4 Ku Le 17 ((Le.map (Value.int .u8)).toArray.size,(Le.map (Value.int .u8)).toArray.size+1) rfl Ad0;have hIc:=hI.alloc (.cells (Le.map (Value.int .u8)).toArray 5 ((Le.map (Value.int .u8)).toArray.size,(Le.map (Value.int .u8)).toArray.size+1));have hnc:=hn4.alloc (.cells (Le.map (Value.int .u8)).toArray 5 ((Le.map (Value.int .u8)).toArray.size,(Le.map (Value.int .u8)).toArray.size+1));obtain ⟨wc,hwc⟩:∃ wc,w4.alloc (.cells (Le.map (Value.int .u8)).toArray 5 ((Le.map (Value.int .u8)).toArray.size,(Le.map (Value.int .u8)).toArray.size+1))=wc:=⟨_,rfl⟩;rw [hwc] at hcv hbn hIc hnc;have hf:=H0 (XK p S ⟨#[97]⟩ ⟨#[104,114,101,102]⟩ _ 17 17 wc (hE.out.next hIc.below) hIc.pi hal.out hmo.out hIc.uw Mh hbn)
 clear hwc hbn
 go_wp2_with (first
  | (refine wpList_load_row rfl 24 _ rfl g3 rfl _ (By p) _ _ hI.pc underlying24 rfl DW ?_)
  | (refine wpList_load_row rfl 34 _ rfl g1 rfl _ (Ab S) _ _ hI.u underlying34 rfl (Ac _) ?_)
  | (refine wpList_buildFlat rfl _ 5 17 _ rfl .u8 Le underlying25 (by kernel_rfl) (by kernel_rfl) rfl (by decide) (by decide) (by kernel_rfl) ?_))
 refine hf.out.mono ?_;rintro e wd ⟨rfl,hbd⟩;have hI2:=(hIc.keep hbd).alloc (.cells (BU 2 4 ⟨#[]⟩) 40);have hn5:AJ (wd.alloc (.cells (BU 2 4 ⟨#[]⟩) 40)) wd.heap.size (BU 2 4 ⟨#[]⟩) 40:=AJ.new _ _ _;have hn6:=(hnc.keep hbd).alloc (.cells (BU 2 4 ⟨#[]⟩) 40);obtain ⟨w6,hw6⟩:∃ w6,wd.alloc (.cells (BU 2 4 ⟨#[]⟩) 40)=w6:=⟨_,rfl⟩;go_upto_region 7 with (refine Ag rfl 40 _ _ rfl rfl (BU 2 4 ⟨#[]⟩) _ _ _ rfl (by simp) rfl (VE _ _ _) rfl (FB _ _ _) ?_)
 rw [hw6] at hI2 hn5 hn6⊢;obtain ⟨g5,hg5⟩:∃ g,wd.heap.size=g:=⟨_,rfl⟩;rw [hg5] at hn5⊢;clear hw6 hg5 hI hIc hcv hf hbd hn4 hnc;have hgd:=Nz;have hq1:=fun w=>FM w 3 0 ⟨#[104,116,116,112,115,58,47,47,104,47,97,47,120,32,49,120,44,32,104,116,116,112,115,58,47,47,113,46,99,46,100,47,38,35,51,57,59,38,97,109,112,59]⟩
 have hq2:=fun w=>FM w 2 4 ⟨#[]⟩
 go_wp2_with (first
  | (refine wpList_load_row rfl 40 _ rfl g4 rfl _ (BU 3 0 ⟨#[104,116,116,112,115,58,47,47,104,47,97,47,120,32,49,120,44,32,104,116,116,112,115,58,47,47,113,46,99,46,100,47,38,35,51,57,59,38,97,109,112,59]⟩) _ _ hn6 underlying40 rfl (DF _ _ _) ?_)
  | (refine wpList_buildTo rfl _ _ rfl _ rfl (BU 3 0 ⟨#[104,116,116,112,115,58,47,47,104,47,97,47,120,32,49,120,44,32,104,116,116,112,115,58,47,47,113,46,99,46,100,47,38,35,51,57,59,38,97,109,112,59]⟩) (by kernel_rfl) ?_)
  | (refine AH (by rfl) ?_;refine wpList_load_row rfl 40 _ rfl g5 rfl _ (BU 2 4 ⟨#[]⟩) _ _ hn5 underlying40 rfl (DF _ _ _) ?_)
  | (refine AH (by rfl) ?_;refine wpList_buildTo rfl _ _ rfl _ rfl (BU 2 4 ⟨#[]⟩) (by kernel_rfl) ?_))
 go_ret;exact ⟨rfl,hI2.below⟩
end Go.Proofs.YtonomfeipkdmhaaGreatDoor
