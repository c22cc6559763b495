/- Part 23: lemmas. -/
import Derived.Test.YtonomfeipkdmhaaGreatDoorL22
import Derived.Deep.OwnRows
import Derived.Laws.StructEq
import Derived.WideMake
set_option linter.unusedVariables false
set_option linter.unusedSimpArgs false
set_option maxRecDepth 100000
set_option maxHeartbeats 16000000
namespace Go.Proofs.YtonomfeipkdmhaaGreatDoor
open Go.RowKit
theorem Mb.keepB {w wx wy:World} {B:Am} {C D:Array Value} {K:Nat} (h:Mb w wx B C D) (hb:Below K wx wy) (hK:w.heap.size+3<=K):Mb w wy B C D:=
 ⟨h.below.trans (hb.mono Qa),Qx,(hb.block _ Qa).trans h.a,(hb.block _ Qa).trans h.o,(hb.block _ Qa).trans h.r⟩
theorem DK.take {l:List AO} {C:List EW} {b:Ao} {k:Nat} {x:AO} (h:DK l ((C.take k).map fun c=>BI b c.url c.ws)) (hk:k<C.length) (hx:Wb x (BI b C[k].url C[k].ws)):DK (l++[x]) ((C.take (k+1)).map fun c=>BI b c.url c.ws):=by
 rw [List.take_succ_eq_append_getElem hk,List.map_append];exact h.snoc hx
theorem AaY {x:AO} {b:Ao} {s:List UInt8} {ws:List ByteArray} {v:Value} (h:Wb x (BI b s [])):Wb ⟨x.right,x.url,v,ws⟩ (BI b s (ws.map (·.toList))):=⟨h.right,h.url,rfl⟩
theorem Cc.cells {w:World} {B:Nat} {v:Value} {l:List AO} (h:Cc w B v l):v.cells= #[v]:=by
 rcases h.1.2 with ⟨rfl,_⟩ | ⟨k,cap,cur,rfl,_⟩<;>rfl
theorem Pa (B:Am) (b:Ao) (s:ByteArray) (w:World) (hE:Gu w) (hB:DM w B b) (bk:F2 B) (hz:s.size<=900000000) (hx:∀ c∈Cf s.toList,c.url.length<=1100000):Calls Tryz.prog 55 #[.int .i64 2,.agg (Ab B),.string s] w (Mf (Al 2 b s.toList) w):=by
  have hI:=Mb.start w B r0 r0
  have hsp:=H0 (fun w=>YW s w hz)
  have hit:=H0 (fun (u:ByteArray) (hu:u.size<=1100000) w hE hB=>RO B b u w hE hB bk hu)
  have hE':=H0 hE;have hB':=H0 hB;clear hE hB bk;obtain ⟨R,hR⟩:=N2 (Al 2 b s.toList);rw [hR]
  have hRv:Hid (R=((Cf s.toList).map fun c=>BI b c.url c.ws,[])):=H0 hR.symm
  clear hR;obtain ⟨C,hC⟩:=N2 (Cf s.toList);rw [hC] at hRv hx;replace hC:=H0 hC;go_enter Tryz.func55,Tryz.ntmps55
  go_upto_region 2 with (fail)
  refine Ap (R:=fun wx=>Mb w wx B r0 r0) hI ?_
  clear hI;intro w1 hI;go_wp2_with fail;refine (hsp.out _).mono ?_;rintro e w2 ⟨cv,cl,rfl,hcl,hcz,hcs,hown,hb⟩;have hs1:=hI.size;have hB1:=hI.below;replace hI:=hI.keep hb;have hb1:=hb.size;rw [hC.out] at hcl;clear hb hsp
  have hlen:cl.length=C.length:=by rw [<-hcl.out,List.length_map]
  obtain ⟨pa,pc,rfl,-⟩:=hown.read;replace hcs:=H0 hcs;replace hx:=H0 hx;go_wp2_with fail
  go_loopw [9,10,27] (fun v9 v10 iv wr=>∃ (k:Nat) (v:Value) (hl:List AO),iv= .int .i64 (k:Int)/\k<=cl.length/\Mb w wr B r0 (readC v ⟨#[]⟩)/\Hid (DK hl ((C.take k).map fun c=>BI b c.url c.ws))/\Hid (Cc wr w2.heap.size v hl)/\hl.length=k/\BY (fun g=>g=w.heap.size+2) w2 wr) (fun _ _ i _=>cl.length - (intOf i).toNat)
  case atStart=>exact ⟨0,.slice none 0 0,[],rfl,Nat.zero_le _,hI,H0 trivial,H0 (Cc.nil _ _),rfl,BY.refl _ _⟩
  case round=>
    obtain ⟨k,v,hl,rfl,hk,hIr,his,hoi,hlk,hch⟩:=hrel;clear hI
    by_cases hlt:k<cl.length
    · have hoc:FV wr w1.heap.size (.slice pa cl.length pc) cl:=hown.chg fun j hj hlt2=>hch.block j hlt2 Qa
      obtain ⟨pa',pc',hv,hcc,hww⟩:=hoc.read;cases hv;obtain ⟨g1,o1,rfl,hcell⟩:=hcc Qa;have y:=hcell k hlt;have q1:=(hoc.2 cl[k] (List.getElem_mem ..));have hzz:=hcs.out cl[k] (List.getElem_mem ..)
      have hcand:C[k]' Qa=GK cl[k]:=by
        have e1:=hcl.out
        have:C[k]? =some (GK cl[k]):=by rw [<-e1,List.getElem?_map,List.getElem?_eq_getElem hlt];rfl
        rw [List.getElem?_eq_getElem Qa] at this;exact Option.some.inj this
      have huz:=hx.out _ (List.getElem_mem (show k<C.length by omega))
      rw [hcand] at huz;obtain ⟨c,hc⟩:=N2 (cl[k]);rw [hc] at y q1 hzz hcand huz;replace hc:=H0 hc;obtain ⟨cu,cw,cws,cst⟩:=c;dsimp only at q1 hzz
      have hcuz:cu.size<=1100000:=by rw [<-Aa];exact huz
      replace hcand:=H0 hcand;clear hcc hww hcell huz hoc;have hltI:(k:Int)<(cl.length:Int):=Qa;have hB3:Mb w (wr.alloc (.cells (Ar cu cw cst) 109)) B r0 (readC v ⟨#[]⟩):=hIr.alloc _;have hc3:AG (wr.alloc (.cells (Ar cu cw cst) 109)) wr.heap.size (Ar cu cw cst) 109:=AG.new _ _ _;have hbr3:Below wr.heap.size wr (wr.alloc (.cells (Ar cu cw cst) 109)):=(Below.refl _ _).alloc (Nat.le_refl _) _;obtain ⟨w3,hw3⟩:∃ w3,wr.alloc (.cells (Ar cu cw cst) 109)=w3:=⟨_,rfl⟩;rw [hw3] at hB3 hc3 hbr3;obtain ⟨ga,gc,rfl,-,hwR0⟩:=BH q1
      have hone:(Ar cu (.slice ga cws.length gc) cst).all (·.oneCell')=true:=DF _ _ _ _ _
      go_upto_region 9 with (first
        | (refine wpList_load_mid rfl 109 _ rfl g1 (o1+k * 8) rfl (Ar cu (.slice ga cws.length gc) cst).toList _ y Tryz.underlying109 rfl (AcU _ _ _) ?_)
        | (refine Af rfl 109 _ _ rfl rfl (Ar cu (.slice ga cws.length gc) cst) _ _ _ rfl Qf rfl (CD _ _ _) rfl hone ?_))
      refine Ap (R:=fun wx=>w3=wx) hw3.symm ?_
      rintro _ rfl;clear hw3 y;obtain ⟨p9,hp9⟩:∃ p,wr.heap.size=p:=⟨_,rfl⟩;rw [hp9] at hc3⊢;have z0:=(hc3.at 0).trans (show (Ar cu (.slice ga cws.length gc) cst)[0]? =some (.string cu) from rfl);go_wp2_with (refine wpList_load_row rfl 34 _ rfl w.heap.size rfl _ (Ab B) _ _ hB3.a Tryz.underlying34 rfl (Ac _) ?_)
      refine (hit.out cu hcuz w3 (hE'.out.next hB3.below) (hB'.out.next hB3.below)).mono ?_
      rintro e w4 ⟨x,rfl,hxi,ho,hwv,hb4⟩;have hB4:=hB3.keep hb4;have hc4:=hc3.keep hb4;have hbr4:Below wr.heap.size wr w4:=hbr3.trans (hb4.mono hbr3.size);have hs34:=hb4.size;have hs23:=hbr3.size;obtain ⟨xr,xu,xw,xws⟩:=x;dsimp only at ho hwv hxi;subst hwv;have hB5:Mb w (w4.alloc (.cells (At xr xu (.slice none 0 0)) 48)) B r0 (readC v ⟨#[]⟩):=hB4.alloc _;have hc5:AG (w4.alloc (.cells (At xr xu (.slice none 0 0)) 48)) p9 (Ar cu (.slice ga cws.length gc) cst) 109:=hc4.alloc _;have hd5:AG (w4.alloc (.cells (At xr xu (.slice none 0 0)) 48)) w4.heap.size (At xr xu (.slice none 0 0)) 48:=AG.new _ _ _;have hb45:Below w4.heap.size w4 (w4.alloc (.cells (At xr xu (.slice none 0 0)) 48)):=(Below.refl _ _).alloc (Nat.le_refl _) _;have hsz5:(w4.alloc (.cells (At xr xu (.slice none 0 0)) 48)).heap.size=w4.heap.size+1:=Ai _ _;obtain ⟨w5,hw5⟩:∃ w5,w4.alloc (.cells (At xr xu (.slice none 0 0)) 48)=w5:=⟨_,rfl⟩;rw [hw5] at hB5 hc5 hd5 hb45 hsz5;clear hB3 hc3 hB4 hc4 z0 hb4;replace hxi:=H0 hxi;replace ho:=H0 ho
      go_upto_region 10 with (refine Af rfl 48 _ _ rfl rfl (At xr xu (.slice none 0 0)) _ _ _ rfl Qf rfl (D7 _ _ _) rfl (JH _ _ _ rfl) ?_)
      refine Ap (R:=fun wx=>w5=wx) hw5.symm ?_
      rintro _ rfl;clear hw5;obtain ⟨p10,hp10⟩:∃ p,w4.heap.size=p:=⟨_,rfl⟩;rw [hp10] at hd5 hsz5⊢;have z1:=(hc5.at 1).trans (show (Ar cu (.slice ga cws.length gc) cst)[1]? =some (.slice ga cws.length gc) from rfl);have hwR:DO w5 ga cws.length gc cws:=hwR0.below (hbr4.trans (hb45.mono hbr4.size)) (Nat.le_refl _);go_wp2_with fail;refine (Fy ga cws.length gc cws w5 hwR hzz.2.2).mono ?_;rintro e w6 ⟨vw,rfl,hvw,hb6⟩;have hlt10:=hd5.lt;have hd6:=hd5.keep hb6;have hB6:=hB5.keep hb6;have hb56:=hb6.size;obtain ⟨va,vc,rfl,-,-⟩:=BH hvw
      have hB7:=hB6.setG (g:=p10) (by have:=hIr.size;omega) (At xr xu (.slice va cws.length vc))
      have hd7:=hd6.set (At xr xu (.slice va cws.length vc));have hb47:Below w4.heap.size w4 (w6.setRow p10 (At xr xu (.slice va cws.length vc))):=Ae (hb45.trans (hb6.mono Qa)) Qa _;have hvw7:=AH.row hvw (g:=p10) Qa (At xr xu (.slice va cws.length vc));clear hB5 hc5 hd5 z1 hwR hB6;obtain ⟨w7,hw7⟩:∃ w7,w6.setRow p10 (At xr xu (.slice va cws.length vc))=w7:=⟨_,rfl⟩;rw [hw7] at hB7 hd7 hb47 hvw7
      go_upto_region 11 with (refine Ad rfl 22 _ _ rfl p10 24 rfl (.slice va cws.length vc) rfl rfl 48 (At xr xu (.slice none 0 0)) (At xr xu (.slice va cws.length vc)) hd6 Bs (by show 24+1<=25;decide) rfl Qb ?_)
      refine Ap (R:=fun wx=>w7=wx) hw7.symm ?_
      rintro _ rfl;clear hw7 hd6 hvw hb6;have hbr7:Below wr.heap.size wr w7:=hbr4.trans (hb47.mono hbr4.size);have hs7:=hbr7.size
      have hch7:BY (fun g=>g=w.heap.size+2) w2 w7:=hch.next hbr7
      have hs2r:=hch.size;have hoi7:Cc w7 w2.heap.size v hl:=hoi.out.below hbr7;have hX:HZ w7 w2.heap.size ⟨xr,xu,.slice va cws.length vc,cws⟩:=⟨(AH.below ho.out.path hb47 (Nat.le_refl _)).low Qa,hvw7.low Qa⟩;have hv1:=hoi7.one;have y0:=(hB7.r.at 0).trans (show (readC v ⟨#[]⟩)[0]? =some v from rfl)
      have hXi:Hid (Wb ⟨xr,xu,.slice va cws.length vc,cws⟩ (BI b C[k].url C[k].ws)):=H0 (by
        rw [hcand.out]
        exact AaY (x:=⟨xr,xu,.slice none 0 0,xws⟩) hxi.out)
      clear hb47 hvw7 hbr3 hbr4 hb45 hwR0 ho hxi hit hE'
      go_wp2_with (first
        | (refine wpList_load_row rfl 48 _ rfl p10 rfl _ (At xr xu (.slice va cws.length vc)) _ _ hd7 Tryz.underlying48 rfl (D7 _ _ _) ?_)
        | (refine Fh rfl _ rfl xr xu (.slice va cws.length vc) rfl ?_)
        | (refine KR rfl _ _ rfl (W0:=w7) (w0:=w7) (B:=w2.heap.size) (v:=v) (l:=hl) ⟨xr,xu,.slice va cws.length vc,cws⟩ rfl rfl hoi7 hX (Below.refl _ _) Qa Qa ?_
           intro v2 w9 hoi9 hb9 _;have hB9:=hB7.keepB hb9 Qa
           have hch9:BY (fun g=>g=w.heap.size+2) w2 w9:=⟨hb9.os.trans hch7.os,hb9.tape.trans hch7.tape,hb9.output.trans hch7.output,Nat.le_trans hch7.size hb9.size,fun j hj hn=>(hb9.block j hj).trans (hch7.block j hj hn)⟩
           clear hB7 y0 hd7 hoi7 hX)
        | (refine Ad rfl 42 _ _ rfl (w.heap.size+2) 0 rfl v2 rfl hoi9.cells 44 (readC v ⟨#[]⟩) (readC v2 ⟨#[]⟩) hB9.r Km (by show 0+1<=2;decide) hoi9.one rfl ?_))
      refine ⟨⟨k+1,v2,hl++[⟨xr,xu,.slice va cws.length vc,cws⟩],Ql,Qa,hB9.setR _,H0 (his.out.take Qa hXi.out),H0 (hoi9.row Qa _),by rw [List.length_append,hlk];rfl,hch9.row rfl _⟩,?_⟩
      simp [intOf];omega
    · have hltI:(cl.length:Int)<=(k:Int):=Qa
      obtain rfl:k=cl.length:=Qa
      have hR2:Hid (R=((C.take cl.length).map fun c=>BI b c.url c.ws,[])):=H0 (by rw [hRv.out,hlen,List.take_of_length_le (Nat.le_refl _)])
      have hv1:=hoi.out.one
      go_wp2_with (first
        | (refine wpList_load_row rfl 44 _ rfl (w.heap.size+2) rfl _ (readC v ⟨#[]⟩) _ _ hIr.r Tryz.underlying44 rfl (Bw _ _) ?_)
        | (refine wpList_store_row rfl 44 _ _ rfl (w.heap.size+1) (readC v ⟨#[]⟩) rfl rfl 44 _ hIr.o (Bw _ _) rfl (EQ _ hv1) ?_))
      have hI8:=hIr.setO (readC v ⟨#[]⟩);refine C7 rfl rfl rfl hI8.o Tryz.underlying44 (Bw _ _) ?_
      refine ⟨v,hl,⟨#[]⟩,rfl,by rw [hR2.out];exact his.out,H0 (by rw [hR2.out];exact toList_mk []),?_,hI8.below⟩
      exact (hoi.out.row (g:=w.heap.size+1) Qa _).low Qa
theorem ZV (a:Option Addr) (c:Nat) (l:List ByteArray) (w:World) (h:Fv w (.slice a l.length c) l) (hn:l.length<=1000000000):
  Calls Tryz.prog 104 #[.slice a l.length c] w fun e w'=>∃ v:Value,e= .returned v/\AH w' w.heap.size 9 v l/\Below w.heap.size w w':=by
 obtain ⟨a1,c1,hv,hcell⟩:=h;cases hv
 cases a with
 | none=>
  have hl0:l=[]:=by
   cases l with
   | nil=>rfl
   | cons a r=>obtain ⟨g,o,e,_⟩:=hcell Qf;cases e
  subst hl0;refine (Tryz.slices_Clone_string_nil _ _ w).mono ?_;rintro e w' ⟨rfl,rfl⟩;exact ⟨_,rfl,AH.nil _ _ _,Below.refl _ _⟩
 | some a=>
  by_cases h0:l.length=0
  ·have hl0:l=[]:=List.eq_nil_of_length_eq_zero h0;subst hl0;refine (Tryz.slices_Clone_string_zero a c w).mono ?_;rintro e w' ⟨v,rfl,ho,_,hb⟩;exact ⟨v,rfl,ho,hb⟩
  ·obtain ⟨g,o,e,hcc⟩:=hcell Qa;cases e
   refine (Tryz.slices_Clone_string g o l.length c l w (Nat.le_refl _) Qa (fun j hj=> ?_)).mono ?_
   ·rw [hcc j hj,List.getD_eq_getElem?_getD,List.getElem?_eq_getElem hj];rfl
   ·rintro e w' ⟨v,rfl,ho,_,hb⟩;rw [List.take_length] at ho;exact ⟨v,rfl,ho,hb⟩
theorem DK.filt {l:List AO} {L:List BG} {K:BG->Bool} {k:Nat} {x:AO} (h:DK l ((L.take k).filter K)) (hk:k<L.length) (hK:K L[k]=true) (hx:Wb x L[k]):DK (l++[x]) ((L.take (k+1)).filter K):=by
 rw [List.take_succ_eq_append_getElem hk,List.filter_append,List.filter_cons,if_pos hK,List.filter_nil];exact h.snoc hx
theorem Ag0 {L:List BG} {K:BG->Bool} {k:Nat} (hk:k<L.length) (hK:K L[k]=false):(L.take (k+1)).filter K=(L.take k).filter K:=by
 rw [List.take_succ_eq_append_getElem hk,List.filter_append,List.filter_cons,if_neg (by rw [hK];decide),List.filter_nil,List.append_nil]
def AhZ (L:List BG) (n:Nat) (w:World) (e:Ending) (w':World):Prop:=∃ (v:Value) (l:List AO),e= .returned v/\DK l L/\Cc w' w.heap.size v l/\l.length<=n/\(∀ x∈l,x.ws.length<=1000000000)/\Below w.heap.size w w'
theorem Y1 (p:Df) (k:Nat) (v:Value) (l:List AO) (L:List BG) (p3 p4:Nat) (w:World) (hE:Gu w) (hp:Em w p) (h3:AG w p3 (BK p) 24) (h4:w.cell? ⟨p4,0,none⟩=some (.int .i64 (k:Int))) (hr:FA w v l) (his:DK l L) (hn:l.length<=900000000)
    (hg:∀ it∈L,it.right=true->AI it.url/\A6 it.url<=800000000) (hw:∀ x∈l,x.ws.length<=1000000000/\x.url.path.length<=1000000000):
    Calls Tryz.prog 57 #[v,.func (.func 58) #[] #[.pointer (some ⟨p3,0,none⟩),.pointer (some ⟨p4,0,none⟩)]] w (AhZ (L.filter (AS (Eu p.schemes.l p.hosts.l p.types.l) k)) l.length w):=by
  have hlen:=his.len;have hlt3:=h3.lt;have hlt4:=World.block_lt_of_cell? w _ h4;obtain ⟨K,hK⟩:=N2 (AS (Eu p.schemes.l p.hosts.l p.types.l) k)
  have hask:=H0 (fun (x:AO) (it:BG) (w':World) (hb:Below w.heap.size w w') (hX:Jy w' x) (hI:Wb x it) (hgi:it.right=true->AI it.url/\A6 it.url<=800000000)=>
    AfF p k x it p3 p4 w' (hE.next hb) (hp.below hb (Nat.le_refl _)) ((hb.block _ hlt3).trans h3) ((hb.cell (by simpa using hlt4)).trans h4) hX hI hgi)
  rw [hK] at hask⊢;replace hK:=H0 hK;obtain ⟨pa,c,rfl,hcap,hrow,hreads⟩:=hr;have hbel0:Below w.heap.size w w:=Below.refl _ _;replace hrow:=H0 hrow;replace hreads:=H0 hreads;replace his:=H0 his;replace hlen:=H0 hlen;replace hg:=H0 hg;replace hw:=H0 hw;clear h3 h4 hlt3 hlt4 hE hp;go_enter Tryz.func57,Tryz.ntmps57;go_wp2_with fail
  go_loopw [5,7,10] (fun v5 v7 iv wr=>∃ (i:Nat) (v:Value) (hl:List AO),v5=v/\iv= .int .i64 (i:Int)/\i<=l.length/\Hid (DK hl ((L.take i).filter K))/\Hid (Cc wr w.heap.size v hl)/\hl.length<=i/\Hid (∀ x∈hl,x.ws.length<=1000000000)/\Below w.heap.size w wr) (fun _ _ i _=>l.length - (intOf i).toNat)
  case atStart=>exact ⟨0,.slice none 0 0,[],rfl,rfl,Nat.zero_le _,H0 trivial,H0 (Cc.nil _ _),Nat.zero_le _,H0 (fun x hx=>by cases hx),hbel0⟩
  case round=>
    obtain ⟨i,v,hl,rfl,rfl,hk,hisl,hoi,hlk,hws,hbel⟩:=hrel;clear hbel0
    by_cases hlt:i<l.length
    · obtain ⟨g1,o1,rfl,hcell⟩:=hrow.out Qa
      have y:=FG (hcell i hlt) hbel (Nat.le_refl _)
      have hL:i<L.length:=by rw [<-hlen.out];exact hlt
      have hI:=his.out.get i hlt hL;have hX:=(hreads.out l[i] (List.getElem_mem ..));have hW:=hw.out l[i] (List.getElem_mem ..);have hG:=hg.out L[i] (List.getElem_mem ..);have hno:=Ag0 (K:=K) hL
      have hyes:∀ {q:List AO} {y:AO},DK q ((L.take i).filter K)->K L[i]=true->Wb y L[i]->DK (q++[y]) ((L.take (i+1)).filter K):=fun a b c=>DK.filt a hL b c
      obtain ⟨x,hx⟩:=N2 (l[i]);obtain ⟨it,hit⟩:=N2 (L[i]);rw [hx] at y hI hX hW;rw [hit] at hI hG hno
      have hyes2:∀ (q:List AO) (y:AO),DK q ((L.take i).filter K)->K it=true->Wb y it->DK (q++[y]) ((L.take (i+1)).filter K):=by rw [<-hit];exact fun q y=>hyes
      obtain ⟨xr,xu,xw,xws⟩:=x;obtain ⟨hXp,hXc,hXw⟩:=hX;dsimp only at hXp hXc hXw hI hW;obtain ⟨ga,gc,rfl,hwc⟩:=hXw;have hltI:(i:Int)<(l.length:Int):=Qa;have hc3:AG (wr.alloc (.cells (At xr xu (.slice ga xws.length gc)) 48)) wr.heap.size (At xr xu (.slice ga xws.length gc)) 48:=AG.new _ _ _;have hbr3:Below wr.heap.size wr (wr.alloc (.cells (At xr xu (.slice ga xws.length gc)) 48)):=(Below.refl _ _).alloc (Nat.le_refl _) _;obtain ⟨w3,hw3⟩:∃ w3,wr.alloc (.cells (At xr xu (.slice ga xws.length gc)) 48)=w3:=⟨_,rfl⟩;rw [hw3] at hc3 hbr3
      have hbe3:Below w.heap.size w w3:=hbel.next hbr3
      have hX3:Jy w3 ⟨xr,xu,.slice ga xws.length gc,xws⟩:=Jy.below (w:=w) ⟨hXp,hXc,⟨ga,gc,rfl,hwc⟩⟩ hbe3 (Nat.le_refl _);have hcall:=H0 (hask.out ⟨xr,xu,.slice ga xws.length gc,xws⟩ it w3 hbe3 hX3 hI hG);replace hI:=H0 hI;replace hx:=H0 hx;replace hX3:=H0 hX3;replace hyes2:=H0 hyes2;replace hno:=H0 hno;clear hyes hit hcell
      go_upto_region 5 with (first
        | (refine wpList_load_mid rfl 48 _ rfl g1 (o1+i * 25) rfl (At xr xu (.slice ga xws.length gc)).toList _ y Tryz.underlying48 rfl (J8 ⟨xr,xu,.slice ga xws.length gc,xws⟩) ?_)
        | (refine Af rfl 48 _ _ rfl rfl (At xr xu (.slice ga xws.length gc)) _ _ _ rfl Qf rfl (D7 _ _ _) rfl (JH _ _ _ rfl) ?_))
      refine Ap (R:=fun wx=>w3=wx) hw3.symm ?_
      rintro _ rfl;clear hw3 y;obtain ⟨p7,hp7⟩:∃ p,wr.heap.size=p:=⟨_,rfl⟩;rw [hp7] at hc3⊢;obtain ⟨kb,hkb⟩:=N2 (K it);rw [hkb] at hcall
      cases kb with
      | false=>
        have hn1:=hno.out hkb
        have hisl2:Hid (DK hl ((L.take (i+1)).filter K)):=H0 (by rw [hn1];exact hisl.out)
        replace hkb:=H0 hkb;replace hn1:=H0 hn1;go_wp2_with (refine wpList_load_row rfl 48 _ rfl p7 rfl _ (At xr xu (.slice ga xws.length gc)) _ _ hc3 Tryz.underlying48 rfl (D7 _ _ _) ?_);refine hcall.out.mono ?_;rintro e w4 ⟨rfl,hb4⟩;have hbr4:Below wr.heap.size wr w4:=hbr3.trans (hb4.mono hbr3.size);have hoi4:Hid (Cc w4 w.heap.size u5 hl):=H0 (hoi.out.below hbr4)
        have hbe4:=hbe3.next hb4
        clear hb4 hbr3 hbe3 hc3 hoi;go_wp2_with fail;refine ⟨⟨i+1,u5,hl,rfl,Ql,Qa,hisl2,hoi4,Qa,hws,hbe4⟩,?_⟩;simp [intOf];omega
      | true=>
        go_wp2_with (refine wpList_load_row rfl 48 _ rfl p7 rfl _ (At xr xu (.slice ga xws.length gc)) _ _ hc3 Tryz.underlying48 rfl (D7 _ _ _) ?_);refine hcall.out.mono ?_;rintro e w4 ⟨rfl,hb4⟩;have hbr4:Below wr.heap.size wr w4:=hbr3.trans (hb4.mono hbr3.size)
        have hbe4:=hbe3.next hb4
        have hc4:=hc3.keep hb4;have hlt7:=hc4.lt;have hRw:Fv w (.slice ga xws.length gc) xws:=⟨ga,gc,rfl,hwc⟩;have hXp4:=hXp.below hbe4 (Nat.le_refl _);have y19:=(hc4.at 19).trans (show (At xr xu (.slice ga xws.length gc))[19]? =some (.slice xu.pathA xu.path.length xu.pathC) from rfl);have hsw:=hbel.size;replace hkb:=H0 hkb;clear hb4 hbr3 hbe3 hc3 hcall;go_wp2_with fail;refine (Fy xu.pathA xu.path.length xu.pathC xu.path w4 hXp4 hW.2).mono ?_;rintro e w5 ⟨vp,rfl,hvp,hb5⟩;obtain ⟨va,vc,rfl,-,-⟩:=BH hvp;have hc5:=hc4.keep hb5;have hs45:=hb5.size;have hbr5:Below wr.heap.size wr w5:=hbr4.trans (hb5.mono hbr4.size)
        have hbe5:=hbe4.next hb5
        have hc6:=hc5.set (At xr (Ah xu va vc xu.path) (.slice ga xws.length gc));have hbr6:=Ae hbr5 (g:=p7) Qa (At xr (Ah xu va vc xu.path) (.slice ga xws.length gc));have hbe6:=Ae hbe5 (g:=p7) Qa (At xr (Ah xu va vc xu.path) (.slice ga xws.length gc));have hvp6:=AH.row hvp (g:=p7) hlt7 (At xr (Ah xu va vc xu.path) (.slice ga xws.length gc));have hs56:(w5.setRow p7 (At xr (Ah xu va vc xu.path) (.slice ga xws.length gc))).heap.size=w5.heap.size:=Cu _ _ _;obtain ⟨w6,hw6⟩:∃ w6,w5.setRow p7 (At xr (Ah xu va vc xu.path) (.slice ga xws.length gc))=w6:=⟨_,rfl⟩;rw [hw6] at hc6 hbr6 hbe6 hvp6 hs56;clear hb5 hbe4 hbr4 hc4 hvp y19 hXp4
        go_upto_region 7 with (refine Ad rfl 22 _ _ rfl p7 19 rfl (.slice va xu.path.length vc) rfl rfl 48 (At xr xu (.slice ga xws.length gc)) (At xr (Ah xu va vc xu.path) (.slice ga xws.length gc)) hc5 Bs (by show 19+1<=25;decide) rfl Qb ?_)
        refine Ap (R:=fun wx=>w6=wx) hw6.symm ?_
        rintro _ rfl;clear hw6 hc5 hbe5 hbr5;have y24:=(hc6.at 24).trans (show (At xr (Ah xu va vc xu.path) (.slice ga xws.length gc))[24]? =some (.slice ga xws.length gc) from rfl);have hRw6:=hRw.below hbe6 (Nat.le_refl _);go_wp2_with fail;refine (ZV ga gc xws w6 hRw6 hW.1).mono ?_;rintro e w7 ⟨vw,rfl,hvw,hb7⟩;obtain ⟨vb,vd,rfl,-,-⟩:=BH hvw;have hc7:=hc6.keep hb7;have hs67:=hb7.size;have hbr7:Below wr.heap.size wr w7:=hbr6.trans (hb7.mono hbr6.size)
        have hbe7:=hbe6.next hb7
        have hvp7:=hvp6.below hb7 (Nat.le_refl _);have hc8:=hc7.set (At xr (Ah xu va vc xu.path) (.slice vb xws.length vd));have hbr8:=Ae hbr7 (g:=p7) Qa (At xr (Ah xu va vc xu.path) (.slice vb xws.length vd));have hbe8:=Ae hbe7 (g:=p7) Qa (At xr (Ah xu va vc xu.path) (.slice vb xws.length vd));have hvp8:=AH.row hvp7 (g:=p7) hlt7 (At xr (Ah xu va vc xu.path) (.slice vb xws.length vd));have hvw8:=AH.row hvw (g:=p7) Qa (At xr (Ah xu va vc xu.path) (.slice vb xws.length vd));have hs78:(w7.setRow p7 (At xr (Ah xu va vc xu.path) (.slice vb xws.length vd))).heap.size=w7.heap.size:=Cu _ _ _;obtain ⟨w8,hw8⟩:∃ w8,w7.setRow p7 (At xr (Ah xu va vc xu.path) (.slice vb xws.length vd))=w8:=⟨_,rfl⟩;rw [hw8] at hc8 hbr8 hbe8 hvp8 hvw8 hs78;clear hb7 hbe6 hbr6 hc6 hvp6 y24 hRw6 hvp7 hvw
        go_upto_region 8 with (refine Ad rfl 22 _ _ rfl p7 24 rfl (.slice vb xws.length vd) rfl rfl 48 (At xr (Ah xu va vc xu.path) (.slice ga xws.length gc)) (At xr (Ah xu va vc xu.path) (.slice vb xws.length vd)) hc7 Bs (by show 24+1<=25;decide) rfl Qb ?_)
        refine Ap (R:=fun wx=>w8=wx) hw8.symm ?_
        rintro _ rfl;clear hw8 hc7 hbe7 hbr7;have hoi8:Cc w8 w.heap.size u5 hl:=hoi.out.below hbr8;have hX8:HZ w8 w.heap.size ⟨xr,Ah xu va vc xu.path,.slice vb xws.length vd,xws⟩:=⟨hvp8.low Qa,hvw8.low Qa⟩;have hIy:Hid (Wb ⟨xr,Ah xu va vc xu.path,.slice vb xws.length vd,xws⟩ it):=H0 ⟨hI.out.right,TO hI.out.url va vc,hI.out.ws⟩;have hsw8:w.heap.size<=w8.heap.size:=hbe8.size;clear hvp8 hvw8 hoi hbr8
        go_wp2_with (first
          | (refine wpList_load_row rfl 48 _ rfl p7 rfl _ (At xr (Ah xu va vc xu.path) (.slice vb xws.length vd)) _ _ hc8 Tryz.underlying48 rfl (D7 _ _ _) ?_)
          | (refine Fh rfl _ rfl xr (Ah xu va vc xu.path) (.slice vb xws.length vd) rfl ?_)
          | (refine KR rfl _ _ rfl (W0:=w) (w0:=w8) (B:=w.heap.size) (v:=u5) (l:=hl) ⟨xr,Ah xu va vc xu.path,.slice vb xws.length vd,xws⟩ rfl rfl hoi8 hX8 hbe8 hsw8 Qa ?_
             intro v2 w9 hoi9 hb9 _;replace hoi9:=H0 hoi9
             clear hc8 hoi8 hX8 hbe8))
        refine ⟨⟨i+1,v2,hl++[⟨xr,Ah xu va vc xu.path,.slice vb xws.length vd,xws⟩],rfl,Ql,Qa,H0 (hyes2.out _ _ hisl.out hkb.out hIy.out),hoi9,by rw [List.length_append,List.length_singleton];omega,H0 ?_,hb9⟩,?_⟩
        · intro q hq
          rcases List.mem_append.1 hq with hq | hq
          · exact hws.out q hq
          · rw [List.mem_singleton.1 hq];exact hW.1
        · simp [intOf];omega
    · have hltI:(l.length:Int)<=(i:Int):=Qa
      have hall:L.take i=L:=List.take_of_length_le (by rw [<-hlen.out];omega)
      have hfin:DK hl (L.filter K):=by have:=hisl.out;rwa [hall] at this
      replace hall:=H0 hall;replace hfin:=H0 hfin;go_wp2_with fail;go_ret;exact ⟨u5,hl,rfl,hfin.out,hoi.out,Qa,hws.out,hbel⟩
structure KeB (w wx:World) (p:Df) (k:Nat) (C D:Array Value):Prop where
 below:Below w.heap.size w wx
 size:w.heap.size+4<=wx.heap.size
 a:AG wx w.heap.size (BK p) 24
 b:AG wx (w.heap.size+1) #[.int .i64 (k:Int)] 3
 c:AG wx (w.heap.size+2) C 44
 o:AG wx (w.heap.size+3) D 44
theorem KeB.start (w:World) (p:Df) (k:Nat) (C D:Array Value):KeB w ((((w.alloc (.cells (BK p) 24)).alloc (.cells #[.int .i64 (k:Int)] 3)).alloc (.cells C 44)).alloc (.cells D 44)) p k C D:=by
 have h:=MJ.start w (BK p) 24 #[.int .i64 (k:Int)] 3;have hn:=AG.new ((w.alloc (.cells (BK p) 24)).alloc (.cells #[.int .i64 (k:Int)] 3)) C 44;have hm:=AG.new (((w.alloc (.cells (BK p) 24)).alloc (.cells #[.int .i64 (k:Int)] 3)).alloc (.cells C 44)) D 44;rw [Ai,Ai] at hn;rw [Ai,Ai,Ai] at hm
 exact ⟨(h.below.alloc Akw _).alloc AkC _,by rw [Ai,Ai,Ai,Ai];omega,(h.a.alloc _).alloc _,(h.b.alloc _).alloc _,hn.alloc _,hm⟩
theorem KeB.keep {w wx wy:World} {p:Df} {k:Nat} {C D:Array Value} (h:KeB w wx p k C D) (hb:Below wx.heap.size wx wy):KeB w wy p k C D:=⟨h.below.next hb,Qx,h.a.keep hb,h.b.keep hb,h.c.keep hb,h.o.keep hb⟩
theorem KeB.setO {w wx:World} {p:Df} {k:Nat} {C D:Array Value} (h:KeB w wx p k C D) (E:Array Value):KeB w (wx.setRow (w.heap.size+3) E) p k C E:=
 ⟨Ae h.below Qa _,Aj9,h.a.other Qa _,h.b.other Qa _,h.c.other Qa _,h.o.set _⟩
def AiC (L:List BG) (t:ByteArray) (n:Nat) (w:World) (e:Ending) (w':World):Prop:=∃ (v:Value) (l:List AO),e= .returned (.agg (readC v t))/\DK l L/\Cc w' w.heap.size v l/\l.length<=n/\(∀ x∈l,x.ws.length<=1000000000)/\Below w.heap.size w w'
theorem AcZ (p:Df) (k:Nat) (v:Value) (t:ByteArray) (l:List AO) (L:List BG) (w:World) (hE:Gu w) (hp:Em w p) (hr:FA w v l) (his:DK l L) (hn:l.length<=900000000)
  (hg:∀ it∈L,it.right=true->AI it.url/\A6 it.url<=800000000) (hw:∀ x∈l,x.ws.length<=1000000000/\x.url.path.length<=1000000000):
  Calls Tryz.prog 27 #[.agg (BK p),.int .i64 (k:Int),.agg (readC v t)] w (AiC (L.filter (AS (Eu p.schemes.l p.hosts.l p.types.l) k)) t l.length w):=by
 have hmf:∀ (fn:Fn) (first cap:Array Value) (w:World),(Instr.makeFunc fn first cap).run Tryz.prog w= .ok (.func fn first cap) w:=fun _ _ _ _=>rfl
 have hI:=KeB.start w p k (readC v t) r0
 have hch:=H0 (fun (w':World) (hb:KeB w w' p k (readC v t) r0)=>Y1 p k v l L w.heap.size (w.heap.size+1) w' (hE.next hb.below) (hp.below hb.below (Nat.le_refl _)) hb.a (hb.b.at 0) (hr.below hb.below (Nat.le_refl _)) his hn hg hw)
 obtain ⟨R,hR⟩:=N2 (L.filter (AS (Eu p.schemes.l p.hosts.l p.types.l) k));rw [hR] at hch⊢;replace hR:=H0 hR;obtain ⟨N,hN⟩:=N2 (l.length);rw [hN] at hch⊢;replace hN:=H0 hN;clear hE hp hr his hg hw;go_enter Tryz.func27,Tryz.ntmps27
 go_upto_region 1 with (fail)
 refine Ap (R:=fun wx=>KeB w wx p k (readC v t) r0) hI ?_
 clear hI;intro w1 hI;have y0:=(hI.c.at 0).trans (show (readC v t)[0]? =some v from rfl);go_wp2_with fail;refine (hch.out w1 hI).mono ?_;rintro e w2 ⟨v2,l2,rfl,hi2,ho2,hl2,hw2,hb⟩;have hs1:=hI.below.size;have hz1:=hI.size;replace hI:=hI.keep hb;have y1:=(hI.c.at 1).trans (show (readC v t)[1]? =some (.string t) from rfl);obtain ⟨a2,c2,rfl,-,-,-⟩:=ho2.read;replace hi2:=H0 hi2;replace ho2:=H0 ho2;replace hw2:=H0 hw2;clear hb y0 hch
 go_wp2_with (first
  | (refine wpList_buildTo rfl _ _ rfl _ rfl (readC (.slice a2 l2.length c2) t) Qb ?_)
  | (refine wpList_store_row rfl 44 _ _ rfl (w.heap.size+3) (readC (.slice a2 l2.length c2) t) rfl rfl 44 _ hI.o (Bw _ _) rfl (EQ _ rfl) ?_))
 have hI8:=hI.setO (readC (.slice a2 l2.length c2) t);refine C7 rfl rfl rfl hI8.o Tryz.underlying44 (Bw _ _) ?_;exact ⟨_,l2,rfl,hi2.out,(ho2.out.row (g:=w.heap.size+3) Qa _).low hs1,hl2,hw2.out,hI8.below⟩
def Bh (k y:Nat) (t:ByteArray):Array Value:= #[.int .i64 (k:Int),.int .i64 (y:Int),.string t]
theorem CW (k y:Nat) (t:ByteArray):(Tryz.prog.info? 40).map (·.size)=some (Bh k y t).size:=by show _=some 3;kernel_rfl
theorem D5 (k y:Nat) (t:ByteArray):(Bh k y t).all (·.oneCell')=true:=Qb
theorem LD (y:Nat) (w:World):Calls Tryz.prog 22 #[.int .i64 (y:Int)] w fun e w'=>e= .returned (.agg (Bh 2 y ⟨#[]⟩))/\Below w.heap.size w w':=by
 have hb0:Below w.heap.size w (w.alloc (.cells (Bh 0 0 ⟨#[]⟩) 40)):=(Below.refl _ _).alloc (Nat.le_refl _) _;have hc0:AG (w.alloc (.cells (Bh 0 0 ⟨#[]⟩) 40)) w.heap.size (Bh 0 0 ⟨#[]⟩) 40:=AG.new _ _ _;go_enter Tryz.func22,Tryz.ntmps22
 go_upto_region 1 with (fail)
 refine Ap (R:=fun wx=>Below w.heap.size w wx/\AG wx w.heap.size (Bh 0 0 ⟨#[]⟩) 40) ⟨hb0,hc0⟩ ?_
 clear hb0 hc0;rintro w1 ⟨hb1,hc1⟩
 go_wp2_with (first
  | (refine wpList_buildTo rfl _ _ rfl _ rfl (Bh 2 y ⟨#[]⟩) Qb ?_)
  | (refine wpList_store_row rfl 40 _ _ rfl w.heap.size (Bh 2 y ⟨#[]⟩) rfl rfl 40 _ hc1 (CW _ _ _) rfl (D5 _ _ _) ?_))
 refine C7 rfl rfl rfl (hc1.set _) Tryz.underlying40 (CW _ _ _) ?_;exact ⟨rfl,Ae hb1 (Nat.le_refl _) _⟩
theorem Yk (x:AO) (w:World):Calls Tryz.prog 26 #[.agg (At x.right x.url x.wv)] w fun e w'=>e= .returned (.bool x.right)/\Below w.heap.size w w':=by
 have hb0:Below w.heap.size w (w.alloc (.cells (At x.right x.url x.wv) 48)):=(Below.refl _ _).alloc (Nat.le_refl _) _;have hc0:AG (w.alloc (.cells (At x.right x.url x.wv) 48)) w.heap.size (At x.right x.url x.wv) 48:=AG.new _ _ _;obtain ⟨w0,hw0⟩:∃ w0,w.alloc (.cells (At x.right x.url x.wv) 48)=w0:=⟨_,rfl⟩;rw [hw0] at hb0 hc0;have x0:=(hc0.at 0).trans (show (At x.right x.url x.wv)[0]? =some (.bool x.right) from rfl);go_enter Tryz.func26,Tryz.ntmps26;go_wp2_with fail;go_ret;exact ⟨rfl,hb0⟩
theorem Afu {L:List BG} {k:Nat} (h:k<L.length):(L.drop k).any (·.right)=(L[k].right || (L.drop (k+1)).any (·.right)):=by rw [List.drop_eq_getElem_cons h,List.any_cons]
theorem Sv (v:Value) (l:List AO) (L:List BG) (w:World) (hr:FA w v l) (his:DK l L) (hn:l.length<=1000000000):
  Calls Tryz.prog 56 #[v,.func (.func 26) #[] #[]] w fun e w'=>(∃ z:Int,e= .returned (.int .i64 z)/\Hid (decide (z≥0)=L.any (·.right)))/\Below w.heap.size w w':=by
 have hlen:=his.len;obtain ⟨pa,c,rfl,hcap,hrow,hreads⟩:=hr;have hbel0:Below w.heap.size w w:=Below.refl _ _
 obtain ⟨R,hR⟩:∃ R,L.any (·.right)=R:=⟨_,rfl⟩
 rw [hR];replace hR:=H0 hR;replace hrow:=H0 hrow;replace his:=H0 his;replace hlen:=H0 hlen;clear hreads;go_enter Tryz.func56,Tryz.ntmps56;go_wp2_with fail
 go_loopw [5,8] (fun v5 iv wr=>∃ k:Nat,iv= .int .i64 (k:Int)/\k<=l.length/\Below w.heap.size w wr/\Hid ((L.drop k).any (·.right)=R)) (fun _ i _=>l.length - (intOf i).toNat)
 case atStart=>exact ⟨0,rfl,Nat.zero_le _,hbel0,by rw [List.drop_zero];exact hR⟩
 case round=>
  obtain ⟨k,rfl,hk,hbel,hg⟩:=hrel;clear hbel0
  by_cases hlt:k<l.length
  ·obtain ⟨g1,o1,rfl,hcell⟩:=hrow.out Qa;have y:=FG (hcell k hlt) hbel (Nat.le_refl _)
   have hL:k<L.length:=by rw [<-hlen.out];exact hlt
   have hI:=his.out.get k hlt hL;have hd:=Afu hL;have hgs:=hg.out;rw [hd,<-hI.right] at hgs;obtain ⟨x,hx⟩:=N2 (l[k]);rw [hx] at y hgs;have hltI:(k:Int)<(l.length:Int):=Qa
   have hir:=H0 (fun w=>show Calls Tryz.prog 26 #[.agg (Dv x).toArray] w fun e w'=>e= .returned (.bool x.right)/\Below w.heap.size w w' from Yk x w)
   obtain ⟨b,hb⟩:=N2 (x.right);rw [hb] at hgs hir;replace hb:=H0 hb;replace hx:=H0 hx;replace hgs:=H0 hgs;clear hcell hI hd hL
   cases b with
   | true=>
    have hf:Hid (true=R):=H0 Aho;go_wp2_with (refine wpList_load_mid rfl 48 _ rfl g1 (o1+k * 25) rfl (Dv x) _ y Tryz.underlying48 rfl (J8 x) ?_);refine (hir.out _).mono ?_;rintro e w3 ⟨rfl,hb3⟩
    have hbe3:=hbel.next hb3
    clear hb3 y;go_wp2_with fail;go_ret
    exact ⟨⟨(k:Int),rfl,H0 (by rw [<-hf.out,decide_eq_true_eq];omega)⟩,hbe3⟩
   | false=>
    have hnew:Hid ((L.drop (k+1)).any (·.right)=R):=H0 Aho
    go_wp2_with (refine wpList_load_mid rfl 48 _ rfl g1 (o1+k * 25) rfl (Dv x) _ y Tryz.underlying48 rfl (J8 x) ?_);refine (hir.out _).mono ?_;rintro e w3 ⟨rfl,hb3⟩
    have hbe3:=hbel.next hb3
    clear hb3 y;go_wp2_with fail;refine ⟨⟨k+1,Ql,Qa,hbe3,hnew⟩,?_⟩;simp [intOf];omega
  ·have hltI:(l.length:Int)<=(k:Int):=Qa
   have hf:Hid (false=R):=H0 (by
    have:=hg.out
    rw [List.drop_of_length_le (by rw [<-hlen.out];omega)] at this
    exact this)
   go_wp2_with fail;go_ret
   exact ⟨⟨-1,rfl,H0 (by rw [<-hf.out];decide)⟩,hbel⟩
theorem O7 (v:Value) (l:List AO) (L:List BG) (w:World) (hr:FA w v l) (his:DK l L) (hn:l.length<=1000000000):
  Calls Tryz.prog 25 #[v,.func (.func 26) #[] #[]] w (Lt w (L.any (·.right))):=by
 have h:=H0 (Sv v l L w hr his hn)
 obtain ⟨R,hR⟩:∃ R,L.any (·.right)=R:=⟨_,rfl⟩
 rw [hR] at h⊢;replace hR:=H0 hR;clear hr his;go_enter Tryz.func25,Tryz.ntmps25;go_wp2_with fail;refine h.out.mono ?_;rintro e w1 ⟨⟨z,rfl,hz⟩,hb⟩
 have hz2:decide (0<=z)=R:=by rw [<-hz.out]
 cases R with
 | true=>
  have hz3:0<=z:=by simpa using hz2
  go_wp2_with fail;go_ret;exact ⟨rfl,hb⟩
 | false=>
  have hz3:z<0:=by simpa using hz2
  go_wp2_with fail;go_ret;exact ⟨rfl,hb⟩
def LG (l:List UInt8):List Int:=l.map fun c=>(c.toNat:Int)
theorem TZ (l:List UInt8):Lib.bytesOf (LG l)=l:=by
 unfold Lib.bytesOf LG;rw [List.map_map]
 conv=>rhs;rw [<-List.map_id l]
 apply List.map_congr_left;intro c _;simp
theorem Tm (l:List UInt8):(LG l).length=l.length:=by simp [LG]
theorem Pk (l:List UInt8) (i:Nat) (h:i<l.length):(LG l).getD i 0=(l[i].toNat:Int):=by
 unfold LG;rw [List.getD_eq_getElem?_getD,List.getElem?_map,List.getElem?_eq_getElem h];rfl
structure BU (w:World) (pa:Option Addr) (n c:Nat) (l:List UInt8):Prop extends F9 w pa n c l where
 nilC:pa=none->c=0
theorem BU.below {w w':World} {K:Nat} {pa:Option Addr} {n c:Nat} {l:List UInt8} (h:BU w pa n c l) (hb:Below K w w') (hK:w.heap.size<=K):BU w' pa n c l:=⟨h.toF9.below hb hK,h.nilC⟩
theorem Ji (s:ByteArray) (w:World):∃ (pa:Addr) (n c:Nat) (w':World),(convert 9 25 (.string s)).run Tryz.prog w= .ok (.slice (some pa) n c) w'/\BU w' (some pa) n c s.toList/\Below w.heap.size w w':=by
 have h:=Lib.run_convert_string_bytes (P:=Tryz.prog) w 9 25 5 s Tryz.underlying9 Tryz.underlying25 Tryz.underlying5
 refine ⟨_,_,_,_,h,⟨⟨Aa s,grownCap_ge w s.size 0 _,fun _=>⟨w.heap.size,0,rfl,fun i hi=> ?_⟩⟩,fun h=>Qr⟩,Below.bytesWorld (Below.refl _ _) (Nat.le_refl _) _ s⟩
 rw [Nat.zero_add];exact (L7.made w _ s).cell i hi
theorem BU.at {w:World} {a:Addr} {n c:Nat} {l:List UInt8} (h:BU w (some a) n c l):∀ i,i<n->w.cell? (a.add i)=some (.int .u8 ((LG l).getD i 0)):=fun i hi=>by
 obtain ⟨g,o,e,hc⟩:=h.cells Qa;cases e;have hl:=h.len;rw [Pk l i Qa];have:=hc i Qa
 rw [show (⟨g,o,none⟩:Addr).add i=⟨g,o+i,none⟩ by unfold Addr.add;split<;>simp_all,this]
 rfl
theorem BU.nil0 {w:World} {n c:Nat} {l:List UInt8} (h:BU w none n c l):n=0/\c=0/\l=[]:=by
 have hn:n=0:=by
  by_cases h0:0<n
  ·obtain ⟨g,o,e,_⟩:=h.cells h0;cases e
  ·omega
 have hl:=h.len;exact ⟨hn,h.nilC rfl,List.eq_nil_of_length_eq_zero Qa⟩
theorem ZF {pa:Option Addr} {n c:Nat} {l:List UInt8} {b2 o2 d:Nat} (w:World) (h:BU w pa n c l) (hc2:w.cell? ⟨b2,o2,none⟩=some (.int .u8 0)):
  Calls Tryz.prog 164 #[.slice pa n c,.slice (some ⟨b2,o2,none⟩) 1 d] w fun e w'=>e= .returned (.int .i64 (Lib.indexByte l 0))/\w=w':=by
 cases pa with
 | none=>
  obtain ⟨rfl,rfl,rfl⟩:=h.nil0;refine (Tryz.bytes_Index_one_nil b2 o2 d 0 w hc2).mono ?_;rintro e w' ⟨rfl,rfl⟩;exact ⟨rfl,rfl⟩
 | some a=>
  refine (Tryz.bytes_Index_one_at a n c b2 o2 d (LG l) 0 w (by rw [Tm,h.len]) h.at hc2).mono ?_
  rintro e w' ⟨rfl,rfl⟩;rw [TZ];exact ⟨rfl,rfl⟩
theorem RD {pa:Option Addr} {n c:Nat} {l:List UInt8} {b2 o2 d:Nat} (w:World) (h:BU w pa n c l) (hc2:w.cell? ⟨b2,o2,none⟩=some (.int .u8 0)):
  Calls Tryz.prog 163 #[.slice pa n c,.slice (some ⟨b2,o2,none⟩) 1 d] w fun e w'=>e= .returned (.int .i64 ((l.count 0:Nat):Int))/\w=w':=by
 cases pa with
 | none=>
  obtain ⟨rfl,rfl,rfl⟩:=h.nil0;refine (Tryz.bytes_Count_one_nil b2 o2 d 0 w hc2).mono ?_;rintro e w' ⟨rfl,rfl⟩;exact ⟨rfl,rfl⟩
 | some a=>
  refine (Tryz.bytes_Count_one_at a n c b2 o2 d (LG l) 0 w (by rw [Tm,h.len]) h.at hc2).mono ?_
  rintro e w' ⟨rfl,rfl⟩;rw [TZ];exact ⟨rfl,rfl⟩
theorem BU.drop {w:World} {pa:Option Addr} {n c:Nat} {l:List UInt8} (h:BU w pa n c l) (k:Nat) (hk:k<=n):
  ∃ pa',(∀ w0,(Instr.slice 25 (.slice pa n c) (some (.int .i64 (k:Int))) none none).run Tryz.prog w0= .ok (.slice pa' (n - k) (c - k)) w0)/\BU w pa' (n - k) (c - k) (l.drop k):=by
 have hcp:=h.cap
 refine ⟨if c=k then pa else pa.map (·.add (k * 1)),fun w0=> ?_,⟨⟨by rw [List.length_drop,h.len],Qa,fun h0=> ?_⟩,fun e=> ?_⟩⟩
 ·rw [run_slice_l w0 _ pa n c Rz .i64 (k:Int) Qa Qa,FC];rfl
 ·obtain ⟨g,o,e,hc⟩:=h.cells Qa;rw [if_neg Qa,e]
  refine ⟨g,o+k,by simp [Addr.add],fun i hi=> ?_⟩
  rw [List.length_drop] at hi;have:=hc (k+i) Qa;rw [Nat.add_assoc,this,List.getElem_drop]
 ·split at e
  ·omega
  ·cases pa with
   | none=>have:=h.nilC rfl;omega
   | some a=>cases e
theorem BU.mid {w:World} {pa:Option Addr} {n c:Nat} {l:List UInt8} (h:BU w pa n c l) (k j:Nat) (hk:k<=j) (hj:j<=n):
  ∃ pa',(∀ w0,(Instr.slice 25 (.slice pa n c) (some (.int .i64 (k:Int))) (some (.int .i64 (j:Int))) none).run Tryz.prog w0= .ok (.slice pa' (j - k) (c - k)) w0)/\(0<j - k->∃ ad,pa'=some ad/\∀ i v,(((l.drop k).take (j - k)).map Dy)[i]? =some v->w.cell? (ad.add i)=some v):=by
 have hcp:=h.cap
 refine ⟨if c=k then pa else pa.map (·.add (k * 1)),fun w0=> ?_,fun h0=> ?_⟩
 ·rw [run_slice_lh w0 _ pa n c Rz .i64 .i64 (k:Int) (j:Int) Qa Qa Qa,FC];rfl
 ·obtain ⟨g,o,e,hc⟩:=h.cells Qa;rw [if_neg Qa,e]
  refine ⟨⟨g,o+k,none⟩,by simp [Addr.add],fun i v hv=> ?_⟩
  have hi:=(List.getElem?_eq_some_iff.1 hv).1;rw [List.length_map,List.length_take,List.length_drop] at hi;have hl:=h.len;have:=hc (k+i) Qa
  rw [show (⟨g,o+k,none⟩:Addr).add i=⟨g,o+(k+i),none⟩ by unfold Addr.add;split<;>simp_all [Nat.add_assoc],this]
  rw [List.getElem?_map,List.getElem?_take_of_lt Qa,List.getElem?_drop,List.getElem?_eq_getElem Qa] at hv;exact hv
def Abj (l:List UInt8) (w:World) (e:Ending) (w':World):Prop:=∃ pa n c,e= .returned (.slice pa n c)/\BU w' pa n c l/\Below w.heap.size w w'
theorem AdP {w:World} {B:Nat} {v:Value} {l:List UInt8} (h:CZ w B 5 v l):∃ pa c,v= .slice pa l.length c/\BU w pa l.length c l:=by
 have h':=h
 rcases h.2 with ⟨rfl,hn⟩ | ⟨g,cap,cur,rfl,hg,hh,hcap,hml,hcs,hcur⟩
 ·have hl:l=[]:=List.eq_nil_of_length_eq_zero hn;subst hl
  exact ⟨none,0,rfl,⟨⟨rfl,Nat.le_refl _,fun h0=>absurd h0 Qc⟩,fun _=>rfl⟩⟩
 ·refine ⟨some ⟨g,0,none⟩,cap,rfl,⟨⟨rfl,hcap,fun _=>⟨g,0,rfl,fun i hi=> ?_⟩⟩,fun e=>Akq⟩⟩
  have:=World.ownsRow.cellAt h' i Qa;rw [Nat.zero_add,this];simp [hi]
theorem AeJ:∃ i,Tryz.prog.info? 5=some i/\i.zero=some (.int .u8 0)/\i.size=1/\i.bytes=1:=info_parts Qb
theorem VP (pa:Option Addr) (n c:Nat) (l:List UInt8) (gb d:Nat) (pn:Option Addr) (cn:Nat) (w:World) (h:BU w pa n c l) (hz:n<=1000000000) (hold:w.cell? ⟨gb,0,none⟩=some (.int .u8 0)) (h0:l.count 0=0):
    Calls Tryz.prog 96 #[.slice pa n c,.slice (some ⟨gb,0,none⟩) 1 d,.slice pn 3 cn,.int .i64 (-1)] w (Abj (C6 l) w):=by
  have hcnt:=H0 (RD (d:=d) w h hold);have hln:=h.len;rw [h0] at hcnt;rw [HU h0];obtain ⟨bI,hi,hzz,hs1,hb1⟩:=AeJ;replace h0:=H0 h0
  cases pa with
  | none=>
    obtain ⟨rfl,rfl,rfl⟩:=h.nil0
    have hrun:=fun w=>run_append_owned_none (P:=Tryz.prog) (w:=w) w.heap.size 25 25 5 bI 1 Tryz.underlying25 hi (.slice none 0 0) 0 [] (World.ownsRow_nil _ _ _ _)
    clear h hln;go_enter Tryz.func96,Tryz.ntmps96;go_wp2_with (go_at_call 163;refine hcnt.out.mono ?_;rintro e w' ⟨rfl,rfl⟩);go_ret
    exact ⟨none,0,0,rfl,⟨⟨rfl,Nat.le_refl _,fun h0=>absurd h0 Qc⟩,fun _=>rfl⟩,Below.refl _ _⟩
  | some ad=>
    have hnews:∀ j u,(l.map Dy)[j]? =some u->w.cell? (ad.add j)=some u:=fun j u hj=>by
      have hjl:=(List.getElem?_eq_some_iff.1 hj).1;rw [List.length_map] at hjl;have:=h.at j Qa;rw [this];rw [List.getElem?_map,List.getElem?_eq_getElem hjl] at hj;rw [<-Option.some.inj hj,Pk l j hjl];rfl
    have hone:∀ u∈l.map Dy,u.oneCell'=true:=by
      intro u hu;obtain ⟨c,-,rfl⟩:=List.mem_map.1 hu;rfl
    replace hnews:=H0 hnews;replace hone:=H0 hone;clear h;go_enter Tryz.func96,Tryz.ntmps96
    go_wp2_with (first
      | (go_at_call 163;refine hcnt.out.mono ?_;rintro e w' ⟨rfl,rfl⟩)
      | (refine wpList_append_own w rfl _ _ 25 rfl w.heap.size 5 bI _ 1 1 Tryz.underlying25 hi hzz hs1 hb1 rfl Qc (.slice none 0 0) 0 [] rfl (World.ownsRow_nil _ _ _ _) ad n c (l.map Dy) rfl (by rw [List.length_map];omega) hnews.out hone.out Qm Qa (Nat.le_refl _) ?_
         intro v' w' hown hgr _
         have hown2:CZ w' w.heap.size 5 v' l:=by
           unfold CZ;rw [hln];rw [Nat.zero_add,List.nil_append] at hown;exact hown
         have hbel:Below w.heap.size w w':=(Below.refl _ _).grown hgr (Nat.le_refl _) (fun k hk=>by cases hk)
         obtain ⟨pv,cv,rfl,hbn⟩:=AdP hown2;rw [hln] at hbn;clear hown hgr hown2
         replace hbn:=H0 hbn))
    go_ret;exact ⟨_,_,_,rfl,hbn.out,hbel⟩
theorem I4 (pa:Option Addr) (n c:Nat) (l:List UInt8) (gb d:Nat) (pn:Option Addr) (cn:Nat) (w:World) (h:BU w pa n c l) (hz:n<=1000000000) (hold:w.cell? ⟨gb,0,none⟩=some (.int .u8 0)) (h0:l.count 0=0):
  Calls Tryz.prog 48 #[.slice pa n c,.slice (some ⟨gb,0,none⟩) 1 d,.slice pn 3 cn] w (Abj (C6 l) w):=by
 have hr:=H0 (VP pa n c l gb d pn cn w h hz hold h0);clear h;go_enter Tryz.func48,Tryz.ntmps48;go_wp2_with fail;refine hr.out.mono ?_;rintro e w1 ⟨pv,nv,cv,rfl,hb,hbel⟩;replace hb:=H0 hb;go_wp2_with fail;go_ret;exact ⟨_,_,_,rfl,hb.out,hbel⟩
def Ww (l:List UInt8):Prop:=∀ (pa:Option Addr) (n c gb d:Nat) (pn:Addr) (cn:Nat) (w:World),BU w pa n c l->n<=1000000000->w.cell? ⟨gb,0,none⟩=some (.int .u8 0)->BU w (some pn) 3 cn FM->Calls Tryz.prog 48 #[.slice pa n c,.slice (some ⟨gb,0,none⟩) 1 d,.slice (some pn) 3 cn] w (Abj (C6 l) w)
theorem IE {l:List UInt8} (h0:l.count 0=0):Ww l:=fun pa n c gb d pn cn w h hz hold _=>I4 pa n c l gb d (some pn) cn w h hz hold h0
theorem TT (pa:Option Addr) (n c:Nat) (l:List UInt8) (w:World) (h:BU w pa n c l) (hz:n<=1000000000) (hra:Ww l) (hE:Gu w) (hzd:(C6 l).length<=1000000000) (hzt:(FQ (C6 l)).length<=1000000000):
  Calls Tryz.prog 19 #[.slice pa n c] w (EI w (AD l)):=by
 have hb1:Below w.heap.size w (w.alloc (.cells #[.int .u8 0] 5)):=(Below.refl _ _).alloc (Nat.le_refl _) _;have hc1:(w.alloc (.cells #[.int .u8 0] 5)).cell? ⟨w.heap.size,0,none⟩=some (.int .u8 0):=(AG.new w #[.int .u8 0] 5).at 0;have hn1:=h.below hb1 (Nat.le_refl _);obtain ⟨g,hg⟩:=N2 (w.heap.size);obtain ⟨w1,hw1⟩:∃ w1,w.alloc (.cells #[.int .u8 0] 5)=w1:=⟨_,rfl⟩;rw [hw1] at hb1 hc1 hn1;rw [hg] at hc1;have hE':=H0 hE;have hV:Hid (AD l=SY (FQ (C6 l))):=rfl;obtain ⟨V,hVV⟩:=N2 (AD l);rw [hVV] at hV⊢;replace hVV:=H0 hVV;have h3:(Bv 65533).length=3:=Qe;clear h hE;go_enter Tryz.func19,Tryz.ntmps19;go_wp2_with fail;refine (Jp 65533 Qc _).mono ?_;rintro e w2 ⟨t,rfl,ht,rfl⟩
 have htz:t.size=3:=by rw [<-Aa,ht.out,h3]
 obtain ⟨pn,nn,cn,w3,hconv,hbr,hb3⟩:=Ji t w1
 obtain rfl:nn=3:=by have:=hbr.len;rw [Aa,htz] at this;exact this.symm
 have hb13:Below w.heap.size w w3:=hb1.next hb3
 have hn3:=hn1.below hb3 (Nat.le_refl _)
 have hc3:w3.cell? ⟨g,0,none⟩=some (.int .u8 0):=by
  have hlt:=World.block_lt_of_cell? w1 _ hc1;rw [hb3.cell hlt];exact hc1
 rw [ht.out,show Bv 65533=FM by decide+kernel] at hbr
 have hr:=H0 (hra pa n c g 1 pn cn w3 hn3 hz hc3 hbr);clear hb3 hbr hn1 hn3 hc1 hc3 ht htz hb1 hw1;replace hra:=H0 hra;go_wp2_with fail;refine hr.out.mono ?_;rintro e w4 ⟨pv,nv,cv,rfl,hbn,hb4⟩
 have hb14:Below w.heap.size w w4:=hb13.next hb4
 have hnv:=hbn.len
 have hd:=H0 (Jd pv nv cv (C6 l) w4 hbn.toF9 Qa (hE'.out.next hb14).utf)
 clear hb4 hb13 hbn hr hconv;go_wp2_with fail;refine hd.out.mono ?_;rintro e w5 ⟨td,rfl,htd,hb5⟩
 have hb15:=hb14.next hb5
 have hz5:td.size<=1000000000:=by rw [<-Aa,htd.out];exact hzt
 clear hb5 hd hb14;go_wp2_with fail;refine (SD td w5 hz5).mono ?_;rintro e w6 ⟨tv,rfl,htv,hb6⟩
 have hfin:Hid (tv.toList=V):=H0 (by rw [htv.out,htd.out,hV.out])
 have hb16:=hb15.next hb6
 clear hb6 hb15;go_wp2_with fail;go_ret;exact ⟨_,rfl,hfin,hb16⟩
def O0 (k:Nat) (B:Am) (b:Ao) (V:List UInt8):Prop:=∀ (s:ByteArray) (w:World),s.toList=V->Gu w->DM w B b->Calls Tryz.prog 55 #[.int .i64 (k:Int),.agg (Ab B),.string s] w (Mf (Al k b V) w)
theorem Zu (k:Nat) (B:Am) (b:Ao) (pa:Option Addr) (n c:Nat) (l:List UInt8) (w:World) (hE:Gu w) (hB:DM w B b) (h:BU w pa n c l) (hz:n<=1000000000) (hra:Ww l) (hzd:(C6 l).length<=1000000000) (hzt:(FQ (C6 l)).length<=1000000000) (hia:O0 k B b (AD l)):
  Calls Tryz.prog 24 #[.int .i64 (k:Int),.agg (Ab B),.slice pa n c] w (Mf (Al k b (AD l)) w):=by
 have hI:=MJ.start w (Ab B) 34 r0 44
 have hval:=H0 (fun w h hE=>TT pa n c l w h hz hra hE hzd hzt)
 have hit:=H0 hia;have hE':=H0 hE;have hB':=H0 hB;have hbn:=H0 h;clear hE hB h hia;obtain ⟨R,hR⟩:=N2 (Al k b (AD l));rw [hR];unfold O0 at hit;rw [hR] at hit;replace hR:=H0 hR;go_enter Tryz.func24,Tryz.ntmps24
 go_upto_region 1 with (fail)
 refine Ap (R:=fun wx=>MJ w wx (Ab B) 34 r0 44) hI ?_
 clear hI;intro w1 hI;replace hI:=hI.drew;refine wp_region_noPanic ?_
 refine wp_region_held_drew (S:=fun w'=>AG w' w.heap.size (Ab B) 34) Qb (hI.a) (fun hHeld=> ?_)
 refine T0 0 7 ?_ hHeld ?_ ?_;rotate_left
 ·intro w hSw;(try dsimp only at hSw);go_simp;try with_reducible rfl
 try simp only [P3]
 refine T0 2 9 ?_ hHeld ?_ ?_;rotate_left
 ·intro w hSw;(try dsimp only at hSw);go_simp;try with_reducible rfl
 try simp only [P3]
 refine wpAnyH_take (i:=1) (oi:=⟨some 8,_,_,_,_,_⟩) (v:= .agg (Ab B).toList.toArray) rfl Qb Qb Qb (fun _ _ _ h=>h) (yieldsIf_load_mid Qt 34 _ rfl w.heap.size 0 rfl (Ab B).toList _ (fun _ h=>h.whole) Tryz.underlying34 rfl IA) hHeld ?_
 try simp only [P3]
 refine wpAnyH_ready (rs:=[3]) Qb Qf ?_
 refine AllReadyH.cons rfl (fun K hK=> ?_) AllReadyH.nil
 go_simp
 refine (hval.out _ (hbn.out.below hI.below (Nat.le_refl _)) (hE'.out.next hI.below)).mono ?_
 rintro e w2 ⟨t,rfl,ht,hb⟩;replace hI:=hI.keep hb;clear hb hHeld;go_wp2_with fail
 refine hK.out _ _ (hI.a) (fun hHeld=> ?_)
 clear hK K
 try simp only [P3]
 refine wpAnyH_ready (rs:=[4]) Qb Qf ?_
 refine AllReadyH.cons rfl (fun K hK=> ?_) AllReadyH.nil
 go_simp
 refine (hit.out t _ ht.out (hE'.out.next hI.below) (hB'.out.next hI.below)).mono ?_
 rintro e w3 ⟨v,hl,d,rfl,his,hd,ho,hb⟩;have hlt:=hI.b.lt;have hs2:=hI.below.size;replace hI:=hI.keep hb;have hv1:=ho.one;replace his:=H0 his;replace ho:=H0 ho;clear hb hHeld;go_wp2_with fail
 refine hK.out _ _ (hI.a) (fun hHeld=> ?_)
 clear hK K
 try simp only [P3]
 refine wpAnyH_ready (rs:=[5]) Qb Qf ?_
 refine AllReadyH.cons rfl (fun K hK=> ?_) AllReadyH.nil
 refine AQ Qb (fun Q' hQ'=> ?_)
 refine wpList_store_row rfl 44 _ _ rfl (w.heap.size+1) (readC v d) rfl rfl 44 _ hI.b (Bw _ _) rfl (EQ _ hv1) ?_;replace hI:=hI.setB (readC v d);refine hQ' _ _ ?_
 refine hK.out _ _ (hI.a) (fun hHeld=> ?_)
 clear hK K hQ' Q'
 try simp only [P3]
 refine wpAnyH_done Qb ?_ _;refine NoPanic.normal ?_;go_wp2_with fail;refine C7 rfl rfl rfl hI.b Tryz.underlying44 (Bw _ _) ?_;exact ⟨v,hl,d,rfl,his.out,hd,(ho.out.row hlt _).low hs2,hI.below⟩
theorem JN:∀ (xs ys:List Nat),xs.length=ys.length->((List.range xs.length).all fun i=>decide (xs.getD i 0=ys.getD i 0))=decide (xs=ys)
 | [],[],_=>rfl
 | x :: xs,y :: ys,h=>by
  have ih:=JN xs ys Qy;rw [List.length_cons,List.range_succ_eq_map,List.all_cons,List.all_map];simp only [List.getD_cons_zero,Function.comp_def,List.getD_cons_succ,ih];rw [Bool.eq_iff_iff];simp
 | [],_ :: _,h=>by simp at h
 | _ :: _,[],h=>by simp at h
theorem MU (d:Nat) (w:World) (xs ys:List Nat) (hx:xs.length=8) (hy:ys.length=8):
  (Op.equalIn (d+2) 30 (.agg (Be xs)) (.agg (Be ys))).run Tryz.prog w= .ok (decide (xs=ys)) w:=by
 have he:=Tryz.underlying29
 have hsz:∀ w,(sizeOf 29).run Tryz.prog w= .ok 1 w:=fun w=>by simp [Tryz.sizeOf29]
 rw [<-JN xs ys (hx.trans hy.symm),hx,List.range_eq_range',Op.equalIn];simp only [Sem.run_bind,run_underlying Tryz.underlying30,Result.andThen_ok,hsz,Std.Legacy.Range.forIn_eq_forIn_range',Std.Legacy.Range.size,Nat.sub_zero,Nat.add_sub_cancel,Nat.div_one]
 have hl:∀ i∈List.range' 0 8 1,i<8:=fun i hi=>by simpa using (List.mem_range'_1.1 hi).2
 generalize List.range' 0 8 1=l at hl⊢
 induction l with
 | nil=>simp
 | cons i l ih=>
  have hi:i<8:=hl i Qf
  have px:(part 29 (Be xs) (i * 1)).run Tryz.prog w= .ok (.int .u16 (xs.getD i 0:Nat)) w:=by
   simp [part,isAgg,run_underlying he,Be,List.getD,List.getElem?_eq_getElem (show i<xs.length by omega)]
  have py:(part 29 (Be ys) (i * 1)).run Tryz.prog w= .ok (.int .u16 (ys.getD i 0:Nat)) w:=by
   simp [part,isAgg,run_underlying he,Be,List.getD,List.getElem?_eq_getElem (show i<ys.length by omega)]
  have pe:(Op.equalIn (d+1) 29 (.int .u16 (xs.getD i 0:Nat)) (.int .u16 (ys.getD i 0:Nat))).run Tryz.prog w= .ok (decide (xs.getD i 0=ys.getD i 0)) w:=by
   rw [run_equalIn_int w d 29 .u16 .u16 _ _ he];congr 1;rw [Bool.eq_iff_iff];simp;omega
  simp only [List.forIn_cons,Sem.run_bind,px,py,pe,Result.andThen_ok,List.all_cons];cases hb:decide (xs.getD i 0=ys.getD i 0)
  ·simp
  ·simp only [Bool.not_true,Bool.false_eq_true,if_false,Sem.run_pure,Result.andThen_ok,Bool.true_and]
   exact ih fun j hj=>hl j (by simp [hj])
theorem AgG (h:Dd):Be [pc h.six 0,pc h.six 1,pc h.six 2,pc h.six 3,pc h.six 4,pc h.six 5,pc h.six 6,pc h.six 7]= #[.int .u16 ((pc h.six 0:Nat):Int),.int .u16 ((pc h.six 1:Nat):Int),.int .u16 ((pc h.six 2:Nat):Int),.int .u16 ((pc h.six 3:Nat):Int),.int .u16 ((pc h.six 4:Nat):Int),.int .u16 ((pc h.six 5:Nat):Int),.int .u16 ((pc h.six 6:Nat):Int),.int .u16 ((pc h.six 7:Nat):Int)]:=rfl
theorem Nq (w:World) (h:Dd):(Op.equalIn 10000 32 (.agg (Aq h)) (.agg (Aq h))).run Tryz.prog w= .ok true w:=by
 have hf:(Tryz.prog.fieldsOf 32).toList=[{ name:= "Kind",type:=3,offset:=0,embedded:=false,tag:= "",pkgPath:= "",byteOffset:=0 },{ name:= "Name",type:=9,offset:=1,embedded:=false,tag:= "",pkgPath:= "",byteOffset:=8 },{ name:= "Four",type:=28,offset:=2,embedded:=false,tag:= "",pkgPath:= "",byteOffset:=24 },{ name:= "Six",type:=30,offset:=3,embedded:=false,tag:= "",pkgPath:= "",byteOffset:=28 }]:=by kernel_rfl
 have hu:Tryz.prog.underlying 32=some (.struct (Tryz.prog.fieldsOf 32)):=Qb
 have h6:∀ w,(Op.equalIn 9999 30 (.agg (Be [pc h.six 0,pc h.six 1,pc h.six 2,pc h.six 3,pc h.six 4,pc h.six 5,pc h.six 6,pc h.six 7])) (.agg (Be [pc h.six 0,pc h.six 1,pc h.six 2,pc h.six 3,pc h.six 4,pc h.six 5,pc h.six 6,pc h.six 7]))).run Tryz.prog w= .ok true w:=fun w=>by
  have:=MU 9997 w [pc h.six 0,pc h.six 1,pc h.six 2,pc h.six 3,pc h.six 4,pc h.six 5,pc h.six 6,pc h.six 7] [pc h.six 0,pc h.six 1,pc h.six 2,pc h.six 3,pc h.six 4,pc h.six 5,pc h.six 6,pc h.six 7] rfl rfl;rw [decide_eq_true rfl] at this;exact this
 rw [show (10000:Nat)=9999+1 from rfl,run_equalIn_struct w 9999 _ _ _ hu Qb,hf];rw [AgG] at h6
 have p0:∀ w,(part 3 (Aq h) 0).run Tryz.prog w= .ok (.int .i64 h.kind) w:=fun w=>by simp [part,isAgg,run_underlying Tryz.underlying3,Aq]
 have p1:∀ w,(part 9 (Aq h) 1).run Tryz.prog w= .ok (.string h.name) w:=fun w=>by simp [part,isAgg,run_underlying Tryz.underlying9,Aq]
 have p2:∀ w,(part 28 (Aq h) 2).run Tryz.prog w= .ok (.int .u32 (h.four:Int)) w:=fun w=>by simp [part,isAgg,run_underlying Tryz.underlying28,Aq]
 have p3:∀ w,(part 30 (Aq h) 3).run Tryz.prog w= .ok (.agg #[.int .u16 ((pc h.six 0:Nat):Int),.int .u16 ((pc h.six 1:Nat):Int),.int .u16 ((pc h.six 2:Nat):Int),.int .u16 ((pc h.six 3:Nat):Int),.int .u16 ((pc h.six 4:Nat):Int),.int .u16 ((pc h.six 5:Nat):Int),.int .u16 ((pc h.six 6:Nat):Int),.int .u16 ((pc h.six 7:Nat):Int)]) w:=fun w=>by
  kernel_rfl
 have q0:∀ w,(Op.equalIn 9999 3 (.int .i64 h.kind) (.int .i64 h.kind)).run Tryz.prog w= .ok true w:=fun w=>by rw [show (9999:Nat)=9998+1 from rfl,run_equalIn_int w 9998 _ _ _ _ _ Tryz.underlying3];simp
 have q2:∀ w,(Op.equalIn 9999 28 (.int .u32 (h.four:Int)) (.int .u32 (h.four:Int))).run Tryz.prog w= .ok true w:=fun w=>by rw [show (9999:Nat)=9998+1 from rfl,run_equalIn_int w 9998 _ _ _ _ _ Tryz.underlying28];simp
 have q1:∀ w,(Op.equalIn 9999 9 (.string h.name) (.string h.name)).run Tryz.prog w= .ok true w:=fun w=>by rw [show (9999:Nat)=9998+1 from rfl,run_equalIn_string w 9998 _ _ _ Tryz.underlying9];simp
 simp [Op.eqFields,p0,p1,p2,p3,q0,q1,q2,h6,Result.andThen]
theorem Aab (pa pb:Option Addr) (c d:Nat) (l:List ByteArray) (w:World) (h1:DO w pa l.length c l) (h2:DO w pb l.length d l) (hn:l.length<=1000000000):
  Calls Tryz.prog 101 #[.slice pa l.length c,.slice pb l.length d] w fun e w'=>e= .returned (.bool true)/\Below w.heap.size w w':=by
 by_cases h0:l.length=0
 ·rw [h0];refine (Tryz.slices_Equal_string_empty pa pb c 0 d w Qc).mono ?_;rintro e w' ⟨rfl,rfl⟩;exact ⟨rfl,Below.refl _ _⟩
 ·obtain ⟨a1,c1,hv,hc⟩:=h1.read;cases hv;obtain ⟨a2,c2,hv,hd⟩:=h2.read;cases hv;obtain ⟨g,o,rfl,hcc⟩:=hc Qa;obtain ⟨g2,o2,rfl,hdd⟩:=hd Qa
  have hz:∀ j (hj:j<l.length),l.getD j ByteArray.empty=l[j]:=fun j hj=>by rw [List.getD_eq_getElem?_getD,List.getElem?_eq_getElem hj];rfl
  refine (Tryz.slices_Equal_string g o l.length c g2 o2 l.length d l l w (Nat.le_refl _) (Nat.le_refl _) Qa Qa (fun j hj=>by rw [hcc j hj,hz j hj]) (fun j hj=>by rw [hdd j hj,hz j hj])).mono ?_
  rintro e w' ⟨rfl,q,rfl⟩
  refine ⟨by rw [decide_eq_true rfl],below_drewN (Below.refl _ _) q⟩
theorem UH:Tryz.prog.eqGuardType Tryz.prog.depth 32=false:=Qb
theorem Adt (S:Am) (pa:Option Addr) (c:Nat) (w:World) (h1:DO w S.pathA S.path.length S.pathC S.path) (h2:DO w pa S.path.length c S.path) (hn:S.path.length<=1000000000):
  Calls Tryz.prog 54 #[.agg (Ab S),.agg (Ab (Ah S pa c S.path))] w (Lt w true):=by
 have hI:=MJ.start w (Ab S) 34 (Ab (Ah S pa c S.path)) 34;obtain ⟨w0,hw0⟩:∃ w0,(w.alloc (.cells (Ab S) 34)).alloc (.cells (Ab (Ah S pa c S.path)) 34)=w0:=⟨_,rfl⟩;rw [hw0] at hI
 have heq:=H0 (fun w' (hb:Below w.heap.size w w')=>Aab S.pathA pa S.pathC c S.path w' (h1.below hb (Nat.le_refl _)) (h2.below hb (Nat.le_refl _)) hn)
 have hgd:=UH
 have hq:=fun w=>Nq w S.host
 have r1:=hI.a.host;have r2:=hI.b.host;have x0:=(hI.a.at 0).trans (show (Ab S)[0]? =some (.string S.scheme) from rfl);have x1:=(hI.a.at 1).trans (show (Ab S)[1]? =some (.string S.user) from rfl);have x2:=(hI.a.at 2).trans (show (Ab S)[2]? =some (.string S.pass) from rfl);have x14:=(hI.a.at 14).trans (show (Ab S)[14]? =some (.bool S.hasPort) from rfl);have x15:=(hI.a.at 15).trans (show (Ab S)[15]? =some (.int .i64 S.port) from rfl);have x16:=(hI.a.at 16).trans (show (Ab S)[16]? =some (.bool S.flatP) from rfl);have x17:=(hI.a.at 17).trans (show (Ab S)[17]? =some (.string S.flat) from rfl);have x18:=(hI.a.at 18).trans (show (Ab S)[18]? =some (.slice S.pathA S.path.length S.pathC) from rfl);have y0:=(hI.b.at 0).trans (show (Ab (Ah S pa c S.path))[0]? =some (.string S.scheme) from rfl);have y1:=(hI.b.at 1).trans (show (Ab (Ah S pa c S.path))[1]? =some (.string S.user) from rfl);have y2:=(hI.b.at 2).trans (show (Ab (Ah S pa c S.path))[2]? =some (.string S.pass) from rfl);have y14:=(hI.b.at 14).trans (show (Ab (Ah S pa c S.path))[14]? =some (.bool S.hasPort) from rfl);have y15:=(hI.b.at 15).trans (show (Ab (Ah S pa c S.path))[15]? =some (.int .i64 S.port) from rfl);have y16:=(hI.b.at 16).trans (show (Ab (Ah S pa c S.path))[16]? =some (.bool S.flatP) from rfl);have y17:=(hI.b.at 17).trans (show (Ab (Ah S pa c S.path))[17]? =some (.string S.flat) from rfl);have y18:=(hI.b.at 18).trans (show (Ab (Ah S pa c S.path))[18]? =some (.slice pa S.path.length c) from rfl);clear h1 h2;go_enter Tryz.func54,Tryz.ntmps54
 go_upto_region 1 with (fail)
 clear hw0;refine wp_region_lit ?_;simp only [List.append]
 go_wp2_with (first
  | (refine Bd Qt ?_;refine wpList_load_mid rfl 32 _ rfl w.heap.size 3 rfl (Aq S.host).toList _ r1 Tryz.underlying32 rfl (GF _) ?_)
  | (refine Bd Qt ?_;refine wpList_load_mid rfl 32 _ rfl (w.heap.size+1) 3 rfl (Aq S.host).toList _ r2 Tryz.underlying32 rfl (GF _) ?_))
 refine (heq.out w0 hI.below).mono ?_;rintro e w3 ⟨rfl,hb⟩;replace hI:=hI.keep hb;clear hb x0 x1 x2 x14 x15 x16 x17 x18 y0 y1 y2 y14 y15 y16 y17 y18 r1 r2;have x19:=(hI.a.at 19).trans (show (Ab S)[19]? =some (.bool S.hasQuery) from rfl);have x20:=(hI.a.at 20).trans (show (Ab S)[20]? =some (.string S.query) from rfl);have x21:=(hI.a.at 21).trans (show (Ab S)[21]? =some (.bool S.hasFrag) from rfl);have x22:=(hI.a.at 22).trans (show (Ab S)[22]? =some (.string S.frag) from rfl);have y19:=(hI.b.at 19).trans (show (Ab (Ah S pa c S.path))[19]? =some (.bool S.hasQuery) from rfl);have y20:=(hI.b.at 20).trans (show (Ab (Ah S pa c S.path))[20]? =some (.string S.query) from rfl);have y21:=(hI.b.at 21).trans (show (Ab (Ah S pa c S.path))[21]? =some (.bool S.hasFrag) from rfl);have y22:=(hI.b.at 22).trans (show (Ab (Ah S pa c S.path))[22]? =some (.string S.frag) from rfl);go_wp2_with fail;go_ret;exact ⟨rfl,hI.below⟩
theorem Afq {S T:Am} {u:Ao} (h:G0 S u) (h2:G0 T u):T=Ah S T.pathA T.pathC S.path:=by
 have e:∀ {a b:ByteArray} {l:List UInt8},a.toList=l->b.toList=l->b=a:=fun h h'=>Bb (h'.trans h.symm)
 have hp:T.path=S.path:=by
  have:T.path.map (·.toList)=S.path.map (·.toList):=h2.path.trans h.path.symm
  exact List.map_inj_right (fun a b hab=>Bb hab) |>.1 this
 cases T;unfold Ah;simp only [Am.mk.injEq];exact ⟨e h.scheme h2.scheme,e h.user h2.user,e h.pass h2.pass,h2.host.trans h.host.symm,h2.hasPort.trans h.hasPort.symm,h2.port.trans h.port.symm,h2.opq.trans h.opq.symm,e h.flat h2.flat,trivial,trivial,hp,h2.hasQuery.trans h.hasQuery.symm,e h.query h2.query,h2.hasFrag.trans h.hasFrag.symm,e h.frag h2.frag⟩
theorem AbU (S:Am) (u:Ao) (w:World) (hE:Gu w) (hS:DM w S u) (g:AI u) (hz:A6 u<=1090000):Calls Tryz.prog 23 #[.agg (Ab S)] w (Lt w true):=by
 have hb0:Below w.heap.size w (w.alloc (.cells (Ab S) 34)):=(Below.refl _ _).alloc (Nat.le_refl _) _;have hc0:AG (w.alloc (.cells (Ab S) 34)) w.heap.size (Ab S) 34:=AG.new _ _ _;have hlen:=CY g true;have hfit:=H0 (EO hS.is g Qa);have hwr:=H0 (FD hS.is true);have hpw:=H0 (Wi g);have hzp:=JK u.path
 have hzn:S.path.length<=1000000000:=by
  have:S.path.length=u.path.length:=by rw [<-hS.is.path,List.length_map]
  rw [this];unfold A6 at hz;omega
 obtain ⟨w0,hw0⟩:∃ w0,w.alloc (.cells (Ab S) 34)=w0:=⟨_,rfl⟩;rw [hw0] at hb0 hc0;replace hS:=H0 hS;replace hE:=H0 hE;go_enter Tryz.func23,Tryz.ntmps23;go_wp2_with (refine wpList_load_row rfl 34 _ rfl w.heap.size rfl 34 (Ab S) _ _ hc0 Tryz.underlying34 rfl (Ac _) ?_);clear hw0
 refine (Gr S true w0 (hS.out.below hb0 (Nat.le_refl _)).inn hfit.out (hE.out.next hb0).tabs).mono ?_
 rintro e w1 ⟨t,rfl,ht,hb1⟩
 have hb2:=hb0.next hb1
 have hc2:=hc0.keep hb1
 have htz:t.size<=1100000:=by rw [<-Aa,ht.out,hwr.out];omega
 have htp:DJ t.toList=some u:=by rw [ht.out,hwr.out];exact hpw.out
 clear hb0 hc0 hb1;go_wp2_with fail
 have hpp:=Ls t w1 (hE.out.next hb2) htz
 rw [htp] at hpp;refine hpp.mono ?_;rintro e w2 ⟨T,rfl,hu,hb3⟩;clear hpp htp
 have hb4:=hb2.next hb3
 have hc4:=hc2.keep hb3;have hs4:=hb4.size;have hT:Hid (S=Ah T S.pathA S.pathC T.path):=H0 (Afq hu.is hS.out.is);have hTw:=hu.w;clear hb2 hc2 hb3;have hb5:Below w.heap.size w (w2.alloc (.cells (Ab T) 34)):=hb4.alloc hs4 _;have hc5:AG (w2.alloc (.cells (Ab T) 34)) w.heap.size (Ab S) 34:=hc4.alloc _;have hn5:AG (w2.alloc (.cells (Ab T) 34)) w2.heap.size (Ab T) 34:=AG.new _ _ _;have hT5:DM (w2.alloc (.cells (Ab T) 34)) T u:=hTw.below ((Below.refl w2.heap.size w2).alloc (Nat.le_refl _) _) (Nat.le_refl _);obtain ⟨w5,hw5⟩:∃ w5,w2.alloc (.cells (Ab T) 34)=w5:=⟨_,rfl⟩
 go_upto_region 2 with (refine Af rfl 34 _ _ rfl rfl (Ab T) _ _ _ rfl Qf rfl (Ac _) rfl (Au _) ?_)
 rw [hw5] at hb5 hc5 hn5 hT5⊢;clear hw5 hTw hb4 hc4
 go_wp2_with (first
  | (refine wpList_load_row rfl 34 _ rfl w.heap.size rfl 34 (Ab S) _ _ hc5 Tryz.underlying34 rfl (Ac _) ?_)
  | (refine Bd Qt ?_;refine wpList_load_row rfl 34 _ rfl w.heap.size rfl 34 (Ab S) _ _ hc5 Tryz.underlying34 rfl (Ac _) ?_)
  | (refine Bd Qt ?_;refine wpList_load_row rfl 34 _ rfl w2.heap.size rfl 34 (Ab T) _ _ hn5 Tryz.underlying34 rfl (Ac _) ?_))
 have hp:S.path=T.path:=(congrArg Am.path hT.out).trans rfl
 have h2:DO w5 S.pathA T.path.length S.pathC T.path:=by
  have:=hS.out.path.below hb5 (Nat.le_refl _)
  rwa [hp] at this
 have hsame:=Adt T S.pathA S.pathC w5 hT5.path h2 (by rw [<-hp];exact hzn)
 rw [<-hT.out] at hsame;refine hsame.mono ?_;rintro e w6 ⟨rfl,hb6⟩
 replace hb5:=hb5.next hb6
 clear hsame hp h2 hb6;go_wp2_with fail;go_ret;exact ⟨rfl,hb5⟩
end Go.Proofs.YtonomfeipkdmhaaGreatDoor
