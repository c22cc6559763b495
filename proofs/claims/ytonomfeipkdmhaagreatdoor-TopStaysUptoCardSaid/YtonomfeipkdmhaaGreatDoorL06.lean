/- Part 6: lemmas. -/
import Derived.Test.YtonomfeipkdmhaaGreatDoorL05
set_option linter.unusedVariables false
set_option linter.unusedSimpArgs false
set_option maxRecDepth 100000
set_option maxHeartbeats 16000000
namespace Go.Proofs.YtonomfeipkdmhaaGreatDoor
open Go.RowKit
structure Mp where
 hw:Bool
 w:Int
 hh:Bool
 h:Int
 hd:Bool
 d:Nat
def Ar (url:ByteArray) (wv:Value) (st:Mp):Array Value:= #[.string url,wv,.bool st.hw,.int .i64 st.w,.bool st.hh,.int .i64 st.h,.bool st.hd,.float .f64 st.d]
def geZ (b:Nat):Bool:=(FloatKind.f64.format.order b 0==some .gt) || (FloatKind.f64.format.order b 0==some .eq)
def KD (h:List UInt8):Nat:=min ((Bm 10 h).getD 0) Et
def Ahk (h:List UInt8):Nat:=((B8 h).map DX).getD 0
def okW (st:Mp) (h:List UInt8):Bool:=(Bm 10 h).isSome && decide (1<=KD h) && !st.hw && !st.hd
def okH (st:Mp) (h:List UInt8):Bool:=(Bm 10 h).isSome && decide (1<=KD h) && !st.hh && !st.hd
def okX (st:Mp) (h:List UInt8):Bool:=(B8 h).isSome && geZ (Ahk h) && !st.hw && !st.hh && !st.hd
def R2 (st:Mp) (h:List UInt8) (c:UInt8):Option Mp:=
 if c=119 then (if okW st h=true then some { st with hw:=true,w:=(KD h:Int) } else none)
 else if c=104 then (if okH st h=true then some { st with hh:=true,h:=(KD h:Int) } else none)
 else if c=120 then (if okX st h=true then some { st with hd:=true,d:=Ahk h } else none)
 else none
def Gc (st:Mp) (l:List UInt8):Option Mp:=match l.getLast? with | none=>none | some c=>R2 st l.dropLast c
def Aa8 (g:Nat) (url:ByteArray) (wv:Value) (o:Option Mp) (w:World) (e:Ending) (w':World):Prop:=
 e= .returned (.bool o.isSome)/\BY (· =g) w w'/\∀ st',o=some st'->w'.heap[g]? =some (.cells (Ar url wv st') 109 (0,0))
theorem Cm {g:Nat} {url:ByteArray} {wv:Value} {o:Option Mp} {w w':World} (h:o=none) (hc:BY (· =g) w w'):Aa8 g url wv o w (.returned (.bool false)) w':=by
 subst h;exact ⟨rfl,hc,fun _ x=>by cases x⟩
theorem ZR (t:ByteArray) (h:0<t.size):Gc=Gc/\t.toList.getLast? =some t[t.size - 1]/\t.toList.dropLast=(t.extract 0 (t.size - 1)).toList:=by
 have e:=Jn t h;refine ⟨rfl,?_,?_⟩
 ·rw [e,List.getLast?_append];rfl
 ·conv=>lhs;rw [e]
  rw [List.dropLast_concat]
theorem u8c {c d:UInt8}:(c=d->((c.toNat:Int)==(d.toNat:Int))=true)/\(c≠d->((c.toNat:Int)==(d.toNat:Int))=false):=by
 refine ⟨fun h=>by subst h;simp,fun h=> ?_⟩
 rw [beq_eq_false_iff_ne]
 exact fun h2=>h (UInt8.toNat_inj.1 Qa)
theorem Ae0 (g:Nat) (url:ByteArray) (wv:Value) (st:Mp) (t:ByteArray) (w:World) (hb:w.heap[g]? =some (.cells (Ar url wv st) 109 (0,0))) (hs:t.size<=1000000000):
    Calls Tryz.prog 242 #[.pointer (some ⟨g,0,none⟩),.string t] w (Aa8 g url wv (Gc st t.toList) w):=by
  obtain ⟨hw,sw,hh,sh,hd,sd⟩:=st
  by_cases h0:0<t.size
  rotate_left
  · have e:t.toList=[]:=(AF t).2 Qa
    have hno:Hid (Gc ⟨hw,sw,hh,sh,hd,sd⟩ t.toList=none):=H0 (by rw [e];rfl)
    have hem:t.toList.isEmpty=true:=by rw [e];rfl
    have heq:(t.toList==[])=true:=by rw [e];rfl
    replace e:=H0 e;go_enter Tryz.func242,Tryz.ntmps242;go_wp2_with fail;go_ret;exact Cm hno.out (BY.refl _ _)
  have hne:(!t.toList.isEmpty)=true:=by rw [EX t h0];rfl
  have hem:t.toList.isEmpty=false:=by rw [EX t h0];rfl
  obtain ⟨-,hl1,hl2⟩:=ZR t h0;obtain ⟨H,hH⟩:=N2 (t.extract 0 (t.size - 1));rw [hH] at hl2
  have hHz:H.size<=1000000000:=by rw [<-hH,ByteArray.size_extract];omega
  have hT:Hid (Gc ⟨hw,sw,hh,sh,hd,sd⟩ t.toList=R2 ⟨hw,sw,hh,sh,hd,sd⟩ H.toList t[t.size - 1]):=H0 (by unfold Gc;rw [hl1,hl2])
  clear hl1 hl2;have h1I:(1:Int)<=(t.size:Int):=Qa;obtain ⟨c,hc⟩:=N2 (t[t.size - 1]);rw [hc] at hT;have x2:=cell_of_row _ _ 2 _ _ _ hb;have x4:=cell_of_row _ _ 4 _ _ _ hb;have x6:=cell_of_row _ _ 6 _ _ _ hb;simp only [Ar,List.getElem?_toArray,List.getElem?_cons_zero,List.getElem?_cons_succ] at x2 x4 x6;have f2:=frozen_of_row _ _ 2 _ _ hb;have f3:=frozen_of_row _ _ 3 _ _ hb;have f4:=frozen_of_row _ _ 4 _ _ hb;have f5:=frozen_of_row _ _ 5 _ _ hb;have f6:=frozen_of_row _ _ 6 _ _ hb;have f7:=frozen_of_row _ _ 7 _ _ hb;have x3:=cell_of_row _ _ 3 _ _ _ hb;have x5:=cell_of_row _ _ 5 _ _ _ hb;have x7:=cell_of_row _ _ 7 _ _ _ hb;simp only [Ar,List.getElem?_toArray,List.getElem?_cons_zero,List.getElem?_cons_succ] at x3 x5 x7;replace hb:=H0 hb;replace hc:=H0 hc;go_enter Tryz.func242,Tryz.ntmps242
  by_cases c1:c=119
  · have q1:((c.toNat:Int)==119)=true:=by rw [c1];rfl
    have hV:Hid (Gc ⟨hw,sw,hh,sh,hd,sd⟩ t.toList=if okW ⟨hw,sw,hh,sh,hd,sd⟩ H.toList=true then some ⟨true,(KD H.toList:Int),hh,sh,hd,sd⟩ else none):=H0 (by rw [hT.out];unfold R2;rw [if_pos c1])
    clear hT;replace c1:=H0 c1
    have hway:∃ (b:Bool) (z:Int),Hid ((KD H.toList:Int)=z)/\Hid (∀ w,Calls Tryz.prog 292 #[.string H] w fun e w'=>e= .returned (.tuple #[.int .i64 z,.bool b])/\w=w')/\
        ((b=false/\Hid (okW ⟨hw,sw,hh,sh,hd,sd⟩ H.toList=false))\/(b=true/\z<1/\Hid (okW ⟨hw,sw,hh,sh,hd,sd⟩ H.toList=false))\/(b=true/\1<=z/\hw=true/\Hid (okW ⟨hw,sw,hh,sh,hd,sd⟩ H.toList=false))\/
         (b=true/\1<=z/\hw=false/\hd=true/\Hid (okW ⟨hw,sw,hh,sh,hd,sd⟩ H.toList=false))\/(b=true/\1<=z/\hw=false/\hd=false/\Hid (okW ⟨hw,sw,hh,sh,hd,sd⟩ H.toList=true))):=by
      refine ⟨(Bm 10 H.toList).isSome,(KD H.toList:Int),H0 rfl,H0 (fun w=>Gx H w Qa),?_⟩
      unfold okW;cases (Bm 10 H.toList).isSome
      · exact .inl ⟨rfl,H0 rfl⟩
      · by_cases hn:1<=KD H.toList
        · have hI:(1:Int)<=(KD H.toList:Int):=Qa
          rw [decide_eq_true hn];cases hw
          · cases hd
            · exact .inr (.inr (.inr (.inr ⟨rfl,hI,rfl,rfl,H0 rfl⟩)))
            · exact .inr (.inr (.inr (.inl ⟨rfl,hI,rfl,rfl,H0 rfl⟩)))
          · exact .inr (.inr (.inl ⟨rfl,hI,rfl,H0 rfl⟩))
        · have hI:(KD H.toList:Int)<1:=Qa
          rw [decide_eq_false hn];exact .inr (.inl ⟨rfl,hI,H0 rfl⟩)
    obtain ⟨b,z,hz,hcall,hway⟩:=hway;rw [<-hc.out] at q1
    rcases hway with ⟨rfl,hk⟩ | ⟨rfl,z1,hk⟩ | ⟨rfl,z1,rfl,hk⟩ | ⟨rfl,z1,rfl,rfl,hk⟩ | ⟨rfl,z1,rfl,rfl,hk⟩
    · have hno:=H0 (hV.out.trans (if_neg QT))
      go_wp2_with fail;refine (hcall.out _).mono ?_;rintro e w' ⟨rfl,rfl⟩;go_wp2_with fail;go_ret;exact Cm hno.out (BY.refl _ _)
    · have hno:=H0 (hV.out.trans (if_neg QT))
      go_wp2_with fail;refine (hcall.out _).mono ?_;rintro e w' ⟨rfl,rfl⟩;go_wp2_with fail;go_ret;exact Cm hno.out (BY.refl _ _)
    · have hno:=H0 (hV.out.trans (if_neg QT))
      go_wp2_with fail;refine (hcall.out _).mono ?_;rintro e w' ⟨rfl,rfl⟩;go_wp2_with fail;go_ret;exact Cm hno.out (BY.refl _ _)
    · have hno:=H0 (hV.out.trans (if_neg QT))
      go_wp2_with fail;refine (hcall.out _).mono ?_;rintro e w' ⟨rfl,rfl⟩;go_wp2_with fail;go_ret;exact Cm hno.out (BY.refl _ _)
    · have hyes:=H0 (hV.out.trans (if_pos hk.out))
      go_wp2_with fail;refine (hcall.out _).mono ?_;rintro e w' ⟨rfl,rfl⟩;go_wp2_with fail;go_ret
      exact ⟨by rw [hyes.out];rfl,((BY.refl (· =g) w).set (g:=g) rfl 2 _).set (g:=g) rfl 3 _,fun st' e=>by
        rw [hyes.out] at e;cases e
        rw [Ba (Ba hb.out),hz.out];rfl⟩
  have q1:((c.toNat:Int)==119)=false:=u8c.2 c1
  by_cases c2:c=104
  · have q2:((c.toNat:Int)==104)=true:=by rw [c2];rfl
    have hV:Hid (Gc ⟨hw,sw,hh,sh,hd,sd⟩ t.toList=if okH ⟨hw,sw,hh,sh,hd,sd⟩ H.toList=true then some ⟨hw,sw,true,(KD H.toList:Int),hd,sd⟩ else none):=H0 (by rw [hT.out];unfold R2;rw [if_neg c1];rw [if_pos c2])
    clear hT;replace c2:=H0 c2
    have hway:∃ (b:Bool) (z:Int),Hid ((KD H.toList:Int)=z)/\Hid (∀ w,Calls Tryz.prog 292 #[.string H] w fun e w'=>e= .returned (.tuple #[.int .i64 z,.bool b])/\w=w')/\
        ((b=false/\Hid (okH ⟨hw,sw,hh,sh,hd,sd⟩ H.toList=false))\/(b=true/\z<1/\Hid (okH ⟨hw,sw,hh,sh,hd,sd⟩ H.toList=false))\/(b=true/\1<=z/\hh=true/\Hid (okH ⟨hw,sw,hh,sh,hd,sd⟩ H.toList=false))\/
         (b=true/\1<=z/\hh=false/\hd=true/\Hid (okH ⟨hw,sw,hh,sh,hd,sd⟩ H.toList=false))\/(b=true/\1<=z/\hh=false/\hd=false/\Hid (okH ⟨hw,sw,hh,sh,hd,sd⟩ H.toList=true))):=by
      refine ⟨(Bm 10 H.toList).isSome,(KD H.toList:Int),H0 rfl,H0 (fun w=>Gx H w Qa),?_⟩
      unfold okH;cases (Bm 10 H.toList).isSome
      · exact .inl ⟨rfl,H0 rfl⟩
      · by_cases hn:1<=KD H.toList
        · have hI:(1:Int)<=(KD H.toList:Int):=Qa
          rw [decide_eq_true hn];cases hh
          · cases hd
            · exact .inr (.inr (.inr (.inr ⟨rfl,hI,rfl,rfl,H0 rfl⟩)))
            · exact .inr (.inr (.inr (.inl ⟨rfl,hI,rfl,rfl,H0 rfl⟩)))
          · exact .inr (.inr (.inl ⟨rfl,hI,rfl,H0 rfl⟩))
        · have hI:(KD H.toList:Int)<1:=Qa
          rw [decide_eq_false hn];exact .inr (.inl ⟨rfl,hI,H0 rfl⟩)
    obtain ⟨b,z,hz,hcall,hway⟩:=hway;rw [<-hc.out] at q1 q2
    rcases hway with ⟨rfl,hk⟩ | ⟨rfl,z1,hk⟩ | ⟨rfl,z1,rfl,hk⟩ | ⟨rfl,z1,rfl,rfl,hk⟩ | ⟨rfl,z1,rfl,rfl,hk⟩
    · have hno:=H0 (hV.out.trans (if_neg QT))
      go_wp2_with fail;refine (hcall.out _).mono ?_;rintro e w' ⟨rfl,rfl⟩;go_wp2_with fail;go_ret;exact Cm hno.out (BY.refl _ _)
    · have hno:=H0 (hV.out.trans (if_neg QT))
      go_wp2_with fail;refine (hcall.out _).mono ?_;rintro e w' ⟨rfl,rfl⟩;go_wp2_with fail;go_ret;exact Cm hno.out (BY.refl _ _)
    · have hno:=H0 (hV.out.trans (if_neg QT))
      go_wp2_with fail;refine (hcall.out _).mono ?_;rintro e w' ⟨rfl,rfl⟩;go_wp2_with fail;go_ret;exact Cm hno.out (BY.refl _ _)
    · have hno:=H0 (hV.out.trans (if_neg QT))
      go_wp2_with fail;refine (hcall.out _).mono ?_;rintro e w' ⟨rfl,rfl⟩;go_wp2_with fail;go_ret;exact Cm hno.out (BY.refl _ _)
    · have hyes:=H0 (hV.out.trans (if_pos hk.out))
      go_wp2_with fail;refine (hcall.out _).mono ?_;rintro e w' ⟨rfl,rfl⟩;go_wp2_with fail;go_ret
      exact ⟨by rw [hyes.out];rfl,((BY.refl (· =g) w).set (g:=g) rfl 4 _).set (g:=g) rfl 5 _,fun st' e=>by
        rw [hyes.out] at e;cases e
        rw [Ba (Ba hb.out),hz.out];rfl⟩
  have q2:((c.toNat:Int)==104)=false:=u8c.2 c2
  by_cases c3:c=120
  · have q3:((c.toNat:Int)==120)=true:=by rw [c3];rfl
    have hV:Hid (Gc ⟨hw,sw,hh,sh,hd,sd⟩ t.toList=if okX ⟨hw,sw,hh,sh,hd,sd⟩ H.toList=true then some ⟨hw,sw,hh,sh,true,Ahk H.toList⟩ else none):=H0 (by rw [hT.out];unfold R2;rw [if_neg c1,if_neg c2,if_pos c3])
    clear hT;replace c1:=H0 c1;replace c2:=H0 c2;replace c3:=H0 c3
    have hcall:=H0 (fun w=>AdC H w Qa)
    obtain ⟨b,hbb⟩:∃ b,(B8 H.toList).isSome=b:=⟨_,rfl⟩;obtain ⟨n,hn⟩:=N2 (Ahk H.toList);unfold Aee at hcall;rw [show ((B8 H.toList).map DX).getD 0=n from hn,hbb] at hcall;rw [<-hc.out] at q1 q2 q3;cases b
    · have hno:=H0 (hV.out.trans (if_neg (by unfold okX;rw [hbb];simp)))
      replace hbb:=H0 hbb;replace hn:=H0 hn;go_wp2_with fail;refine (hcall.out _).mono ?_;rintro e w' ⟨rfl,hb2⟩;go_wp2_with fail;go_ret;exact Cm hno.out (BY.of hb2)
    · replace hbb:=H0 hbb
      replace hn:=H0 hn;have lg:g<w.heap.size:=(Array.getElem?_eq_some_iff.1 hb.out).1;obtain ⟨r,hr⟩:=N2 (FloatKind.f64.format.order n 0)
      have hway:((r=none\/r=some .lt)/\Hid (okX ⟨hw,sw,hh,sh,hd,sd⟩ H.toList=false))\/((r=some .gt\/r=some .eq)/\((hw=true/\Hid (okX ⟨hw,sw,hh,sh,hd,sd⟩ H.toList=false))\/(hw=false/\hh=true/\Hid (okX ⟨hw,sw,hh,sh,hd,sd⟩ H.toList=false))\/
          (hw=false/\hh=false/\hd=true/\Hid (okX ⟨hw,sw,hh,sh,hd,sd⟩ H.toList=false))\/(hw=false/\hh=false/\hd=false/\Hid (okX ⟨hw,sw,hh,sh,hd,sd⟩ H.toList=true)))):=by
        unfold okX geZ;rw [hbb.out,hn.out,hr]
        cases r with
        | none=>exact .inl ⟨.inl rfl,H0 Qf⟩
        | some r=>
          cases r with
          | lt=>exact .inl ⟨.inr rfl,H0 Qf⟩
          | gt=>
            refine .inr ⟨.inl rfl,?_⟩;cases hw
            · cases hh
              · cases hd
                · exact .inr (.inr (.inr ⟨rfl,rfl,rfl,H0 rfl⟩))
                · exact .inr (.inr (.inl ⟨rfl,rfl,rfl,H0 rfl⟩))
              · exact .inr (.inl ⟨rfl,rfl,H0 rfl⟩)
            · exact .inl ⟨rfl,H0 rfl⟩
          | eq=>
            refine .inr ⟨.inr rfl,?_⟩;cases hw
            · cases hh
              · cases hd
                · exact .inr (.inr (.inr ⟨rfl,rfl,rfl,H0 rfl⟩))
                · exact .inr (.inr (.inl ⟨rfl,rfl,rfl,H0 rfl⟩))
              · exact .inr (.inl ⟨rfl,rfl,H0 rfl⟩)
            · exact .inl ⟨rfl,H0 rfl⟩
      rcases hway with ⟨hr0 | hr0,hk⟩ | ⟨hr0 | hr0,⟨rfl,hk⟩ | ⟨rfl,rfl,hk⟩ | ⟨rfl,rfl,rfl,hk⟩ | ⟨rfl,rfl,rfl,hk⟩⟩
      all_goals
        rw [hr0] at hr;clear hr0
        first
          | (have hno:=H0 (hV.out.trans (if_neg QT))
             clear hk;go_wp2_with fail;refine (hcall.out _).mono ?_;rintro e w' ⟨rfl,hb2⟩;obtain ⟨E,d,rfl⟩:=hb2.ext;go_wp2_with fail;go_ret
             exact Cm hno.out (BY.of hb2))
          | (have hyes:=H0 (hV.out.trans (if_pos hk.out))
             clear hk
             have lg2:g<(w.setCell ⟨g,6,none⟩ (.bool true)).heap.size:=by simpa [World.setCell] using lg
             have y7:(w.setCell ⟨g,6,none⟩ (.bool true)).cell? ⟨g,7,none⟩=some (.float .f64 sd):=(cell_of_row _ _ 7 _ _ _ (Ba hb.out)).trans rfl;have g7:(w.setCell ⟨g,6,none⟩ (.bool true)).frozen? ⟨g,7,none⟩=false:=frozen_of_row _ _ 7 _ _ (Ba hb.out);go_wp2_with fail;refine (hcall.out _).mono ?_;rintro e w' ⟨rfl,hb2⟩;obtain ⟨E,d,rfl⟩:=hb2.ext;have z7:(Fq (w.setCell ⟨g,6,none⟩ (.bool true)) E d).cell? ⟨g,7,none⟩=some (.float .f64 sd):=((Gz _ E d).cell (p:=⟨g,7,none⟩) lg2).trans y7;have zf:(Fq (w.setCell ⟨g,6,none⟩ (.bool true)) E d).frozen? ⟨g,7,none⟩=false:=((Gz _ E d).frozen (p:=⟨g,7,none⟩) lg2).trans g7;have zs:(Fq (w.setCell ⟨g,6,none⟩ (.bool true)) E d).setCell ⟨g,7,none⟩ (.float .f64 n)=Fq ((w.setCell ⟨g,6,none⟩ (.bool true)).setCell ⟨g,7,none⟩ (.float .f64 n)) E d:=Ag9 _ _ _ _ _ _ lg2
             have zst:(store ⟨g,7,none⟩ (.float .f64 n)).run Tryz.prog (Fq (w.setCell ⟨g,6,none⟩ (.bool true)) E d)= .ok () (Fq ((w.setCell ⟨g,6,none⟩ (.bool true)).setCell ⟨g,7,none⟩ (.float .f64 n)) E d):=by
               rw [run_store _ _ _ _ _ rfl,z7];dsimp only;rw [zf,zs];rfl
             clear z7 zf zs;go_wp2_with fail;go_ret
             exact ⟨by rw [hyes.out];rfl,(((BY.refl (· =g) w).set (g:=g) rfl 6 _).set (g:=g) rfl 7 _).trans (BY.of (Gz _ _ _)),fun st' e=>by
               rw [hyes.out] at e;cases e
               rw [Kp _ _ _ _ (by simpa [World.setCell] using lg),Ba (Ba hb.out),hn.out];rfl⟩)
  · have q3:((c.toNat:Int)==120)=false:=u8c.2 c3
    have hno:Hid (Gc ⟨hw,sw,hh,sh,hd,sd⟩ t.toList=none):=H0 (by rw [hT.out];unfold R2;rw [if_neg c1,if_neg c2,if_neg c3])
    rw [<-hc.out] at q1 q2 q3;replace c1:=H0 c1;replace c2:=H0 c2;replace c3:=H0 c3;go_wp2_with fail;go_ret;exact Cm hno.out (BY.refl _ _)
def A0 (c:UInt8):Bool:= !CO c
def d0:Mp:=⟨false,0,false,0,false,0⟩
def Ed:Mp->List (List UInt8)->Option Mp
 | st,[]=>some st
 | st,t :: r=>(Gc st t).bind fun st'=>Ed st' r
def FI (ws:List (List UInt8)):Option Mp:=(Ed d0 ws).bind fun st=>if (st.hh && !st.hw)=true then none else some st
structure EW where
 url:List UInt8
 ws:List (List UInt8)
 st:Mp
def JP (u:List UInt8):List UInt8:=(u.reverse.dropWhile (fun c=>c==44)).reverse
def C4 (l:List UInt8):(List UInt8 × List (List UInt8)) × List UInt8:=
 if (l.takeWhile A0).getLast? =some 44 then ((JP (l.takeWhile A0),[]),l.dropWhile A0)
 else ((l.takeWhile A0,(MK (l.dropWhile A0)).1),(MK (l.dropWhile A0)).2.drop 1)
def CJ (p:List UInt8 × List (List UInt8)):List EW:=match FI p.2 with | none=>[] | some st=>[⟨p.1,p.2,st⟩]
def O2:Nat->List UInt8->List EW
 | 0,_=>[]
 | n+1,l=>if l.dropWhile BX=[] then [] else CJ (C4 (l.dropWhile BX)).1++O2 n (C4 (l.dropWhile BX)).2
def Cf (l:List UInt8):List EW:=O2 (l.length+1) l
theorem DY {α:Type} (p:α->Bool):∀ (l:List α) {c r},l.dropWhile p=c :: r->p c=false
 | [],_,_,h=>Qr
 | a :: l,c,r,h=>by
  rw [List.dropWhile_cons] at h;cases hp:p a
  ·rw [hp,if_neg Qc] at h;rw [List.cons.injEq] at h;rw [<-h.1];exact hp
  ·rw [hp,if_pos rfl] at h;exact DY p l h
theorem Wq {α:Type} (p:α->Bool):∀ (t s:List α),(∀ c∈t,p c=true)->(t++s).dropWhile p=s.dropWhile p
 | [],s,_=>rfl
 | a :: t,s,h=>by
  rw [List.cons_append,List.dropWhile_cons,if_pos (h a (List.mem_cons_self ..))]
  exact Wq p t s (fun c hc=>h c (List.mem_cons_of_mem _ hc))
theorem B6 {α:Type} (p:α->Bool) (l:List α):(l.dropWhile p).length<=l.length:=(List.dropWhile_sublist _).length_le
theorem AbC:∀ (n:Nat) (l:List UInt8),l.length<=n->(MK l).2.length<=l.length:=by
 intro n
 induction n with
 | zero=>intro l hl;obtain rfl:l=[]:=List.eq_nil_of_length_eq_zero Qa;exact Nat.le_refl _
 | succ n ih=>
  intro l hl;have h3:=B6 CO l;rw [HE]
  by_cases h:(Bf Bx false (l.dropWhile CO)).1=[]
  ·rw [if_pos h];exact h3
  ·have h1:=HF Bx false (l.dropWhile CO);have h2:=List.length_pos_iff.2 h;rw [if_neg h];have:=ih (Bf Bx false (l.dropWhile CO)).2.1 Qa;show (MK (Bf Bx false (l.dropWhile CO)).2.1).2.length<=l.length;omega
theorem Jk {c:UInt8} (h:BX c=false):A0 c=true:=by
 unfold BX at h;unfold A0;rw [Bool.or_eq_false_iff] at h;rw [h.2];rfl
theorem Jl {c:UInt8} {r:List UInt8} (h:BX c=false):(C4 (c :: r)).2.length<=r.length:=by
 have e1:(c :: r).dropWhile A0=r.dropWhile A0:=by rw [List.dropWhile_cons,if_pos (Jk h)]
 have h3:=B6 A0 r;unfold C4;split
 ·rw [e1];exact h3
 ·have:=AbC _ _ (Nat.le_refl (r.dropWhile A0).length);rw [e1];show ((MK (r.dropWhile A0)).2.drop 1).length<=r.length;rw [List.length_drop];omega
theorem XM:∀ (N:Nat) (l:List UInt8),l.length<=N->∀ n,l.length<n->O2 n l=O2 (l.length+1) l:=by
 intro N
 induction N with
 | zero=>
  intro l hl n hn;obtain rfl:l=[]:=List.eq_nil_of_length_eq_zero Qa;obtain ⟨m,rfl⟩:∃ m,n=m+1:=⟨n - 1,Qa⟩;rfl
 | succ N ih=>
  intro l hl n hn
  obtain ⟨m,rfl⟩:∃ m,n=m+1:=⟨n - 1,by have:0<=l.length:=Nat.zero_le _;omega⟩
  unfold O2;have h3:=B6 BX l
  cases hd:l.dropWhile BX with
  | nil=>rw [if_pos rfl,if_pos rfl]
  | cons c r=>
   rw [hd] at h3;have h4:=Jl (r:=r) (DY BX l hd);have h5:r.length+1<=l.length:=h3;rw [if_neg Qf,if_neg Qf,ih _ Qa m Qa,ih _ Qa l.length Qa]
theorem Fz (l:List UInt8):Cf l=if l.dropWhile BX=[] then [] else CJ (C4 (l.dropWhile BX)).1++Cf (C4 (l.dropWhile BX)).2:=by
 unfold Cf
 conv=>lhs;unfold O2
 have h3:=B6 BX l
 cases hd:l.dropWhile BX with
 | nil=>rw [if_pos rfl,if_pos rfl]
 | cons c r=>
  rw [hd] at h3;have h4:=Jl (r:=r) (DY BX l hd);have h5:r.length+1<=l.length:=h3;rw [if_neg Qf,if_neg Qf,XM _ _ (Nat.le_refl _) l.length Qa]
theorem Uz {t:List UInt8} (s:List UInt8) (h:∀ c∈t,BX c=true):Cf (t++s)=Cf s:=by
 rw [Fz,Fz s,Wq BX t s h]
def Lz (c:UInt8):Bool:=okF c || c==119 || c==104 || c==120
theorem Zg:∀ n:Fin 256,Lz (UInt8.ofNat n.val)=true->BX (UInt8.ofNat n.val)=false/\UInt8.ofNat n.val≠40/\UInt8.ofNat n.val≠41:=Qe
theorem Abn {c:UInt8} (h:Lz c=true):BX c=false/\c≠40/\c≠41:=by
 have:=Zg ⟨c.toNat,c.toNat_lt⟩;simp only [UInt8.ofNat_toNat] at this;exact this h
theorem AfB {st st':Mp} {t:List UInt8} (h:Gc st t=some st'):t≠[]/\∀ c∈t,Lz c=true:=by
 unfold Gc at h
 cases hl:t.getLast? with
 | none=>rw [hl] at h;cases h
 | some d=>
  rw [hl] at h
  have hne:t≠[]:=by rintro rfl;cases hl
  have hsp:t=t.dropLast++[d]:=by
   rw [List.getLast?_eq_some_getLast hne] at hl;cases hl;exact (List.dropLast_concat_getLast hne).symm
  have dg:∀ m,Bm 10 t.dropLast=some m->∀ c∈t.dropLast,Lz c=true:=fun m hm c hc=>by
   unfold Lz;rw [OY ((M6 hm).2 c hc)];rfl
  have key:(∀ c∈t.dropLast,Lz c=true)/\Lz d=true:=by
   unfold R2 at h;dsimp only at h;split at h
   ·rename_i hd
    refine ⟨?_,by rw [hd];decide⟩
    split at h
    ·rename_i hk;unfold okW at hk
     cases hn:Bm 10 t.dropLast with
     | none=>rw [hn] at hk;simp at hk
     | some m=>exact dg m hn
    ·cases h
   ·split at h
    ·rename_i hd
     refine ⟨?_,by rw [hd];decide⟩
     split at h
     ·rename_i hk;unfold okH at hk
      cases hn:Bm 10 t.dropLast with
      | none=>rw [hn] at hk;simp at hk
      | some m=>exact dg m hn
     ·cases h
    ·split at h
     ·rename_i hd
      refine ⟨?_,by rw [hd];decide⟩
      split at h
      ·rename_i hk;unfold okX at hk
       cases hn:B8 t.dropLast with
       | none=>rw [hn] at hk;simp at hk
       | some m=>exact fun c hc=>by unfold Lz;rw [AdA (by rw [hn];rfl) c hc];rfl
      ·cases h
     ·cases h
  refine ⟨hne,fun c hc=> ?_⟩
  rw [hsp] at hc
  rcases List.mem_append.1 hc with hc | hc
  ·exact key.1 c hc
  ·rw [List.mem_singleton.1 hc];exact key.2
theorem ZL:∀ (ws:List (List UInt8)) (st:Mp) {st':Mp},Ed st ws=some st'->∀ t∈ws,t≠[]/\∀ c∈t,Lz c=true:=by
 intro ws
 induction ws with
 | nil=>intro st st' _ t ht;cases ht
 | cons a r ih=>
  intro st st' h t ht;unfold Ed at h
  cases ha:Gc st a with
  | none=>rw [ha] at h;cases h
  | some s2=>
   rw [ha] at h
   rcases List.mem_cons.1 ht with rfl | ht
   ·exact AfB ha
   ·exact ih s2 h t ht
theorem YJ {ws:List (List UInt8)} {st:Mp} (h:FI ws=some st):∀ t∈ws,t≠[]/\∀ c∈t,Lz c=true:=by
 unfold FI at h
 cases ha:Ed d0 ws with
 | none=>rw [ha] at h;cases h
 | some s2=>exact ZL ws d0 ha
def Aaq (c:UInt8):Prop:=c≠40/\c≠44
theorem WC {c:UInt8} (h:Aaq c):Bx false c=(A0 c,false):=by
 have h1:((c.toNat:Int)==40)=false:=by
  rw [beq_eq_false_iff_ne];intro e;exact h.1 (UInt8.toNat_inj.1 (by show c.toNat=40;omega))
 have h2:((c.toNat:Int)==44)=false:=by
  rw [beq_eq_false_iff_ne];intro e;exact h.2 (UInt8.toNat_inj.1 (by show c.toNat=44;omega))
 unfold Bx BX A0;rw [h1,h2]
 cases CO c<;>rfl
theorem AiF:BX 40=false:=Qc
def RE (Y:List UInt8):Prop:=Y=[]\/∃ b X,Y=b :: X/\BX b=true
theorem K8 {Y:List UInt8} (h:RE Y):Bf Bx false Y=([],Y,false):=by
 rcases h with rfl | ⟨b,X,rfl,hb⟩
 ·rfl
 ·have h1:((b.toNat:Int)==40)=false:=by
   rw [beq_eq_false_iff_ne];intro e
   obtain rfl:b=40:=UInt8.toNat_inj.1 (by show b.toNat=40;omega)
   rw [AiF] at hb;cases hb
  have hw:Bx false b=(false,false):=by
   unfold Bx;rw [h1,hb];rfl
  rw [HK (by rw [hw]),hw]
theorem Ou {Y:List UInt8} (hY:RE Y):∀ (R:List UInt8),(∀ c∈R,Aaq c)->Bf Bx false (R++Y)=(R.takeWhile A0,R.dropWhile A0++Y,false)
 | [],_=>K8 hY
 | a :: R,h=>by
  have hw:=WC (h a (List.mem_cons_self ..))
  have ih:=Ou hY R (fun c hc=>h c (List.mem_cons_of_mem _ hc))
  cases hb:A0 a
  ·rw [hb] at hw
   rw [List.cons_append,HK (by rw [hw]),hw,List.takeWhile_cons,List.dropWhile_cons,hb];rfl
  ·rw [hb] at hw
   rw [List.cons_append,If (by rw [hw]),hw,ih,List.takeWhile_cons,List.dropWhile_cons,hb];rfl
structure L8 (c:EW):Prop where
 ne:c.url≠[]
 nb:∀ b∈c.url,A0 b=true
 hd:c.url.head? ≠some 44
 lt:c.url.getLast? ≠some 44
 ds:FI c.ws=some c.st
theorem UC (l:List UInt8):∃ t,l=JP l++t/\(∀ x∈t,x=44)/\(JP l).getLast? ≠some 44:=by
 refine ⟨(l.reverse.takeWhile (fun c=>c==44)).reverse,?_,?_,?_⟩
 ·unfold JP;rw [<-List.reverse_append,List.takeWhile_append_dropWhile,List.reverse_reverse]
 ·intro x hx;have:=List.mem_reverse.1 hx
  have h2:∀ (m:List UInt8),x∈m.takeWhile (fun c=>c==44)->x=44:=by
   intro m
   induction m with
   | nil=>intro h;cases h
   | cons a m ih=>
    intro h;rw [List.takeWhile_cons] at h;split at h
    ·rename_i ha
     rcases List.mem_cons.1 h with rfl | h
     ·exact beq_iff_eq.1 ha
     ·exact ih h
    ·cases h
  exact h2 _ this
 ·unfold JP;rw [List.getLast?_reverse];intro e
  cases hd:l.reverse.dropWhile (fun c=>c==44) with
  | nil=>rw [hd] at e;cases e
  | cons a r=>
   rw [hd] at e;have:=DY _ _ hd;cases e;simp at this
theorem Wn {p:UInt8->Bool}:∀ {l:List UInt8} {c:UInt8},c∈l.takeWhile p->p c=true
 | [],_,h=>Qr
 | a :: l,c,h=>by
  rw [List.takeWhile_cons] at h;cases ha:p a
  ·rw [ha,if_neg Qc] at h;cases h
  ·rw [ha,if_pos rfl] at h
   rcases List.mem_cons.1 h with rfl | h
   ·exact ha
   ·exact Wn h
theorem Ahy:BX 44=true:=Qc
theorem Ux {c:UInt8} {r:List UInt8} (h:BX c=false):∀ x∈CJ (C4 (c :: r)).1,L8 x:=by
 have hn:=Jk h
 have hc44:c≠44:=by rintro rfl;rw [Ahy] at h;cases h
 have htk:(c :: r).takeWhile A0=c :: r.takeWhile A0:=by rw [List.takeWhile_cons,if_pos hn]
 intro x hx;unfold CJ at hx
 cases hd:FI (C4 (c :: r)).1.2 with
 | none=>rw [hd] at hx;cases hx
 | some st=>
  rw [hd] at hx;obtain rfl:=List.mem_singleton.1 hx
  have hall:∀ b∈(c :: r).takeWhile A0,A0 b=true:=fun b hb=>Wn hb
  have key:(C4 (c :: r)).1.1≠[]/\(∀ b∈(C4 (c :: r)).1.1,A0 b=true)/\(C4 (c :: r)).1.1.head? ≠some 44/\(C4 (c :: r)).1.1.getLast? ≠some 44:=by
   unfold C4;split
   ·obtain ⟨t,h1,h2,h3⟩:=UC ((c :: r).takeWhile A0);dsimp only
    cases hq:JP ((c :: r).takeWhile A0) with
    | nil=>
     rw [hq,htk] at h1
     exact absurd (h2 c (by rw [List.nil_append] at h1;rw [<-h1];exact List.mem_cons_self ..)) hc44
    | cons a q=>
     rw [hq] at h3;have h1':=h1;rw [hq,htk,List.cons_append,List.cons.injEq] at h1
     refine ⟨Qf,fun b hb=>hall b (by rw [h1',hq];exact List.mem_append_left _ hb),?_,h3⟩
     rw [List.head?_cons,<-h1.1];intro e;exact hc44 (Option.some.inj e)
   ·rename_i hl;dsimp only
    refine ⟨by rw [htk];simp,hall,?_,hl⟩
    rw [htk,List.head?_cons];intro e;exact hc44 (Option.some.inj e)
  exact ⟨key.1,key.2.1,key.2.2.1,key.2.2.2,hd⟩
theorem UA:∀ (n:Nat) (l:List UInt8),l.length<=n->∀ x∈Cf l,L8 x:=by
 intro n
 induction n with
 | zero=>
  intro l hl x hx;obtain rfl:l=[]:=List.eq_nil_of_length_eq_zero Qa;cases hx
 | succ n ih=>
  intro l hl x hx;rw [Fz] at hx;have h3:=B6 BX l
  cases hd:l.dropWhile BX with
  | nil=>rw [hd,if_pos rfl] at hx;cases hx
  | cons c r=>
   rw [hd] at hx h3;have hs:=DY BX l hd;have h4:=Jl (r:=r) hs;have h5:r.length+1<=l.length:=h3;rw [if_neg Qf] at hx
   rcases List.mem_append.1 hx with hx | hx
   ·exact Ux hs x hx
   ·exact ih _ Qa x hx
def Ck (c:EW):List UInt8:=c.url++c.ws.flatMap (fun t=>32 :: t)
def Ch (l:List EW):List UInt8:=l.flatMap (fun c=>44 :: 32 :: Ck c)
def A9:List EW->List UInt8
 | []=>[]
 | c :: r=>Ck c++Ch r
theorem Xz (l:List EW) (c:EW):A9 (l++[c])=(A9 l++if l=[] then [] else [44,32])++Ck c:=by
 cases l with
 | nil=>simp [A9,Ch]
 | cons a r=>simp [A9,Ch]
theorem IC {p:UInt8->Bool}:∀ (u Y:List UInt8),(∀ b∈u,p b=true)->(u++Y).takeWhile p=u++Y.takeWhile p/\(u++Y).dropWhile p=Y.dropWhile p
 | [],Y,_=>⟨rfl,rfl⟩
 | a :: u,Y,h=>by
  obtain ⟨i1,i2⟩:=IC u Y (fun b hb=>h b (List.mem_cons_of_mem _ hb))
  have ha:=h a (List.mem_cons_self ..);rw [List.cons_append,List.takeWhile_cons,List.dropWhile_cons,if_pos ha,if_pos ha,i1,i2];exact ⟨rfl,rfl⟩
theorem Aik {t:List UInt8} (h:t≠[]/\∀ c∈t,Lz c=true):(∀ c∈t,Aaq c)/\∀ c∈t,A0 c=true:=by
 refine ⟨fun c hc=> ?_,fun c hc=>Jk (Abn (h.2 c hc)).1⟩
 have:=Abn (h.2 c hc);refine ⟨this.2.1,?_⟩;rintro rfl;rw [Ahy] at this;cases this.1
theorem Rl (ws:List (List UInt8)) {Y:List UInt8} (hY:Y=[]\/∃ X,Y=44 :: X):RE (ws.flatMap (fun t=>32 :: t)++Y):=by
 cases ws with
 | nil=>
  rcases hY with rfl | ⟨X,rfl⟩
  ·exact .inl rfl
  ·exact .inr ⟨44,X,rfl,Qc⟩
 | cons a r=>exact .inr ⟨32,_,rfl,Qc⟩
theorem TY {Y:List UInt8} (hY:Y=[]\/∃ X,Y=44 :: X):∀ (ws:List (List UInt8)),(∀ t∈ws,t≠[]/\∀ c∈t,Lz c=true)->MK (ws.flatMap (fun t=>32 :: t)++Y)=(ws,Y)
 | [],_=>by
  have e:Y.dropWhile CO=Y:=by
   rcases hY with rfl | ⟨X,rfl⟩
   ·rfl
   ·rw [List.dropWhile_cons,if_neg Qc]
  have e2:RE Y:=by have:=Rl [] hY;exact this
  rw [show ([]:List (List UInt8)).flatMap (fun t=>32 :: t)++Y=Y from rfl,HE,e,K8 e2,if_pos rfl]
 | a :: r,h=>by
  have ha:=h a (List.mem_cons_self ..);obtain ⟨hc,hb⟩:=Aik ha
  have ih:=TY hY r (fun t ht=>h t (List.mem_cons_of_mem _ ht))
  have hE:=Rl r hY
  have e1:(a :: r).flatMap (fun t=>32 :: t)++Y=32 :: (a++(r.flatMap (fun t=>32 :: t)++Y)):=Qf
  have hne:∃ x q,a=x :: q:=by
   cases a with
   | nil=>exact absurd rfl ha.1
   | cons x q=>exact ⟨x,q,rfl⟩
  obtain ⟨x,q,hxq⟩:=hne
  have hx:CO x=false:=by
   have:=hb x (by rw [hxq];exact List.mem_cons_self ..)
   unfold A0 at this;simpa using this
  have e2:(32 :: (a++(r.flatMap (fun t=>32 :: t)++Y))).dropWhile CO=a++(r.flatMap (fun t=>32 :: t)++Y):=by
   rw [List.dropWhile_cons,if_pos Qc,hxq,List.cons_append,List.dropWhile_cons,if_neg (by rw [hx];decide)]
  have e3:=Ou hE a hc;obtain ⟨t1,t2⟩:=IC a [] hb;rw [List.append_nil] at t1 t2;rw [t1,t2,show ([]:List UInt8).takeWhile A0=[] from rfl,show ([]:List UInt8).dropWhile A0=[] from rfl,List.append_nil,List.nil_append] at e3;rw [e1,HE,e2,e3,if_neg ha.1,ih]
theorem UR (u:List UInt8) (x:UInt8):(u++[x]).getLast? =some x:=Akj
theorem ZU {u:List UInt8} (hne:u≠[]) (h:u.getLast? ≠some 44):JP (u++[44])=u:=by
 unfold JP;rw [List.reverse_append]
 show ((44 :: u.reverse).dropWhile (fun c=>c==44)).reverse=u
 rw [List.dropWhile_cons,if_pos Qc]
 cases hr:u.reverse with
 | nil=>exact absurd (by rw [<-List.reverse_reverse u,hr];rfl) hne
 | cons a r=>
  have ha:a≠44:=by
   rintro rfl;apply h;rw [<-List.reverse_reverse u,hr,List.getLast?_reverse];rfl
  rw [List.dropWhile_cons,if_neg (by simpa using ha),<-hr,List.reverse_reverse]
theorem Zw {u:List UInt8} (hne:u≠[]) (hb:∀ b∈u,A0 b=true) (h:u.head? ≠some 44):∃ x q,u=x :: q/\BX x=false:=by
 cases u with
 | nil=>exact absurd rfl hne
 | cons x q=>
  refine ⟨x,q,rfl,?_⟩;have hx:=hb x (List.mem_cons_self ..)
  have h44:x≠44:=fun e=>h (by rw [List.head?_cons,e])
  unfold BX;unfold A0 at hx;rw [Bool.or_eq_false_iff]
  refine ⟨?_,by simpa using hx⟩
  rw [beq_eq_false_iff_ne];intro e;exact h44 (UInt8.toNat_inj.1 (by show x.toNat=44;omega))
theorem TX {c:EW} (hg:L8 c) {Y:List UInt8} (hY:Y=[]\/∃ Z,Y=44 :: 32 :: Z):Cf (Ck c++Y)=c :: Cf (Y.drop 2):=by
 obtain ⟨u,ws,st⟩:=c;obtain ⟨hne,hnb,hhd,hlt,hds⟩:=hg;dsimp only at hne hnb hhd hlt hds;obtain ⟨x,q,hxq,hx⟩:=Zw hne hnb hhd
 have hsep:(Ck ⟨u,ws,st⟩++Y).dropWhile BX=Ck ⟨u,ws,st⟩++Y:=by
  unfold Ck;dsimp only
  rw [hxq,List.cons_append,List.cons_append,List.dropWhile_cons,if_neg (by rw [hx];decide)]
 have hne2:Ck ⟨u,ws,st⟩++Y≠[]:=by
  unfold Ck;dsimp only;rw [hxq];simp
 have h32:∀ c∈[(32:UInt8)],BX c=true:=Qc
 have hcand:∀ p,p=(u,ws)->CJ p=[⟨u,ws,st⟩]:=by
  rintro p rfl;unfold CJ;dsimp only;rw [hds]
 have hlast:¬ (u.getLast? =some 44):=hlt
 have hY1:Y=[]\/∃ X,Y=44 :: X:=by
  rcases hY with rfl | ⟨Z,rfl⟩
  ·exact .inl rfl
  ·exact .inr ⟨_,rfl⟩
 have hone:∃ R,C4 (Ck ⟨u,ws,st⟩++Y)=((u,ws),R)/\Cf R=Cf (Y.drop 2):=by
  cases ws with
  | nil=>
   have e0:Ck ⟨u,[],st⟩=u:=by unfold Ck;simp
   rw [e0];obtain ⟨t1,t2⟩:=IC (p:=A0) u Y hnb
   rcases hY with rfl | ⟨Z,rfl⟩
   ·rw [List.takeWhile_nil,List.append_nil] at t1;rw [List.dropWhile_nil,List.append_nil] at t2;rw [List.append_nil]
    refine ⟨_,by unfold C4;rw [t1,t2,if_neg hlast];rfl,rfl⟩
   ·have k1:(44 :: 32 :: Z).takeWhile A0=[44]:=by rw [List.takeWhile_cons,if_pos Qc,List.takeWhile_cons,if_neg Qc]
    have k2:(44 :: 32 :: Z).dropWhile A0=32 :: Z:=by rw [List.dropWhile_cons,if_pos Qc,List.dropWhile_cons,if_neg Qc]
    rw [k1] at t1;rw [k2] at t2
    refine ⟨32 :: Z,by unfold C4;rw [t1,t2,if_pos (UR u 44),ZU hne hlast],?_⟩
    exact Uz (t:=[32]) Z h32
  | cons a r=>
   have hw:=YJ hds
   have e0:Ck ⟨u,a :: r,st⟩++Y=u++((a :: r).flatMap (fun t=>32 :: t)++Y):=by unfold Ck;simp
   have hd:=TY hY1 (a :: r) hw;rw [e0]
   obtain ⟨t1,t2⟩:=IC (p:=A0) u ((a :: r).flatMap (fun t=>32 :: t)++Y) hnb
   have k0:(a :: r).flatMap (fun t=>32 :: t)++Y=32 :: (a++r.flatMap (fun t=>32 :: t)++Y):=Qf
   rw [k0] at t1 t2 hd⊢;rw [List.takeWhile_cons,if_neg Qc,List.append_nil] at t1;rw [List.dropWhile_cons,if_neg Qc] at t2
   refine ⟨Y.drop 1,by unfold C4;rw [t1,t2,if_neg hlast,hd],?_⟩
   rcases hY with rfl | ⟨Z,rfl⟩
   ·rfl
   ·exact Uz (t:=[32]) Z h32
 obtain ⟨R,h1,h2⟩:=hone;rw [Fz,hsep,if_neg hne2,h1];dsimp only;rw [hcand _ rfl,h2];rfl
theorem Tt:∀ (r:List EW) (c:EW),L8 c->(∀ x∈r,L8 x)->Cf (Ck c++Ch r)=c :: r
 | [],c,hc,_=>by
  rw [TX hc (Y:=Ch []) (.inl rfl)];rfl
 | d :: r,c,hc,h=>by
  have e:Ch (d :: r)=44 :: 32 :: (Ck d++Ch r):=by unfold Ch;simp
  rw [e,TX hc (.inr ⟨_,rfl⟩)];show c :: Cf (Ck d++Ch r)=_
  rw [Tt r d (h d (List.mem_cons_self ..)) (fun x hx=>h x (List.mem_cons_of_mem _ hx))]
theorem RW (l:List EW) (h:∀ x∈l,L8 x):Cf (A9 l)=l:=by
 cases l with
 | nil=>rfl
 | cons c r=>exact Tt r c (h c (List.mem_cons_self ..)) (fun x hx=>h x (List.mem_cons_of_mem _ hx))
theorem Ta:∀ (st:Bool) (l:List UInt8),RE (Bf Bx st l).2.1
 | st,[]=> .inl rfl
 | st,c :: r=>by
  cases h:(Bx st c).1
  ·rw [HK h];refine .inr ⟨c,r,rfl,?_⟩;unfold Bx at h;cases st
   ·rw [if_neg Qc] at h;split at h
    ·cases h
    ·split at h
     ·assumption
     ·cases h
   ·rw [if_pos rfl] at h;cases h
  ·rw [If h];exact Ta _ r
theorem AgQ:∀ (n:Nat) (l:List UInt8),l.length<=n->RE l->((MK l).1.flatMap (fun t=>32 :: t)).length+(MK l).2.length<=l.length:=by
 intro n
 induction n with
 | zero=>
  intro l hl _;obtain rfl:l=[]:=List.eq_nil_of_length_eq_zero Qa;decide
 | succ n ih=>
  intro l hl hE;have h3:=B6 CO l;rw [HE]
  by_cases h:(Bf Bx false (l.dropWhile CO)).1=[]
  ·rw [if_pos h];simpa using h3
  ·rw [if_neg h]
   have h4:(l.dropWhile CO).length+1<=l.length:=by
    rcases hE with rfl | ⟨b,X,rfl,hb⟩
    ·exact absurd rfl h
    ·cases hbl:CO b
     ·exfalso
      have e:(b :: X).dropWhile CO=b :: X:=by rw [List.dropWhile_cons,if_neg (by rw [hbl];decide)]
      rw [e,K8 (.inr ⟨b,X,rfl,hb⟩)] at h;exact h rfl
     ·rw [List.dropWhile_cons,if_pos hbl];have:=B6 CO X;simp only [List.length_cons];omega
   have h1:=HF Bx false (l.dropWhile CO);have h5:=ih (Bf Bx false (l.dropWhile CO)).2.1 Qa (Ta _ _);rw [List.flatMap_cons,List.length_append,List.length_cons];dsimp only;omega
theorem S5 (u:List UInt8):(JP u).length<=u.length:=by
 unfold JP;rw [List.length_reverse]
 have:=B6 (fun c=>c==44) u.reverse
 rwa [List.length_reverse] at this
theorem Zf (l:List UInt8):RE (l.dropWhile A0):=by
 cases hd:l.dropWhile A0 with
 | nil=>exact .inl rfl
 | cons c r=>
  refine .inr ⟨c,r,rfl,?_⟩;have:=DY A0 l hd;unfold A0 at this;unfold BX
  rw [show CO c=true by simpa using this]
  exact Bool.or_true _
theorem AfS (l:List UInt8):(C4 l).1.1.length+((C4 l).1.2.flatMap (fun t=>32 :: t)).length+(C4 l).2.length<=l.length:=by
 have h0:=congrArg List.length (List.takeWhile_append_dropWhile (p:=A0) (l:=l));rw [List.length_append] at h0;unfold C4;split
 ·dsimp only;have:=S5 (l.takeWhile A0);simp only [List.flatMap_nil,List.length_nil];omega
 ·dsimp only;have:=AgQ _ _ (Nat.le_refl _) (Zf l);rw [List.length_drop];omega
theorem U7 (a b:List EW):Ch (a++b)=Ch a++Ch b:=by unfold Ch;rw [List.flatMap_append]
theorem Xi:∀ (n:Nat) (l:List UInt8),l.length<=n->(Ch (Cf l)).length<=3 * l.length:=by
 intro n
 induction n with
 | zero=>
  intro l hl;obtain rfl:l=[]:=List.eq_nil_of_length_eq_zero Qa;decide
 | succ n ih=>
  intro l hl;have h3:=B6 BX l;rw [Fz]
  cases hd:l.dropWhile BX with
  | nil=>rw [if_pos rfl];exact Nat.zero_le _
  | cons c r=>
   rw [hd] at h3;have hs:=DY BX l hd;have h4:=Jl (r:=r) hs;have h5:r.length+1<=l.length:=h3;have h6:=AfS (c :: r);have h7:=ih (C4 (c :: r)).2 Qa;rw [if_neg Qf,U7,List.length_append];have hg:=Ux (r:=r) hs;unfold CJ at hg⊢
   cases hq:FI (C4 (c :: r)).1.2 with
   | none=>rw [hq] at hg;show 0+_<=_;omega
   | some st=>
    rw [hq] at hg;have hne:=(hg _ (List.mem_singleton.2 rfl)).ne;have hp:=List.length_pos_iff.2 hne;dsimp only at hp
    have e:(Ch [⟨(C4 (c :: r)).1.1,(C4 (c :: r)).1.2,st⟩]).length=2+((C4 (c :: r)).1.1.length+((C4 (c :: r)).1.2.flatMap (fun t=>32 :: t)).length):=by
     unfold Ch Ck;simp only [List.flatMap_cons,List.flatMap_nil,List.append_nil,List.length_cons,List.length_append];omega
    dsimp only;rw [e];omega
theorem YO (l:List EW):(A9 l).length<=(Ch l).length:=by
 cases l with
 | nil=>exact Nat.le_refl _
 | cons c r=>
  unfold A9
  have e:Ch (c :: r)=[44,32]++Ck c++Ch r:=by unfold Ch;simp
  rw [e,List.length_append,List.length_append,List.length_append];omega
def BP (j bias:Nat):Nat:=min (max (36 * (j+1) - bias) 1) 26
theorem HL (j bias:Nat):1<=BP j bias/\BP j bias<=26:=by unfold BP;omega
def Dq:Nat->Nat->Nat->Nat
 | 0,d,k=>k+36 * d / (d+38)
 | f+1,d,k=>if 455<d then Dq f (d / 35) (k+36) else k+36 * d / (d+38)
def Fx (d:Nat) (first:Bool):Nat:=if first=true then d / 700 else d / 2
def E9 (d n:Nat) (first:Bool):Nat:=Dq 20 (Fx d first+Fx d first / n) 0
theorem PX:∀ f d k,d<456 * 35 ^ f->Dq f d k<=k+36 * f+36
 | 0,d,k,h=>by
  show k+36 * d / (d+38)<=_;have:36 * d / (d+38)<=36:=Nat.div_le_of_le_mul Qa;omega
 | f+1,d,k,h=>by
  rw [Dq];split
  ·have:=PX f (d / 35) (k+36) (Nat.div_lt_of_lt_mul (by rw [Nat.pow_succ] at h;omega))
   omega
  ·have:36 * d / (d+38)<=36:=Nat.div_le_of_le_mul Qa;omega
theorem M4 (d n:Nat) (first:Bool) (h:d<=2147483647):E9 d n first<=756:=by
 refine PX 20 _ 0 ?_
 have h1:Fx d first<=d:=by unfold Fx;split<;>omega
 have h2:Fx d first / n<=Fx d first:=Nat.div_le_self _ _
 have:(4294967296:Nat)<456 * 35 ^ 20:=Qc;omega
def Gl (d:Nat):UInt8:=if d<26 then UInt8.ofNat (97+d) else UInt8.ofNat (22+d)
def Is (bias:Nat):Nat->Nat->Nat->List UInt8
 | 0,_,_=>[]
 | f+1,j,d=>if d<BP j bias then [Gl d] else Gl (BP j bias+(d - BP j bias) % (36 - BP j bias)) :: Is bias f (j+1) ((d - BP j bias) / (36 - BP j bias))
def TD (d bias:Nat):List UInt8:=Is bias 40 0 d
theorem XP (bias:Nat):∀ f j d,(Is bias f j d).length<=f
 | 0,_,_=>Nat.le_refl _
 | f+1,j,d=>by
  rw [Is];split
  ·simp
  ·have:=XP bias f (j+1) ((d - BP j bias) / (36 - BP j bias));simp;omega
theorem U3 (d bias:Nat):(TD d bias).length<=40:=XP bias 40 0 d
theorem Abu {b d f:Nat} (hb:1<=b/\b<=26) (h:d<10 ^ (f+1)):(d - b) / (36 - b)<10 ^ f:=by
 refine Nat.div_lt_of_lt_mul ?_;have h1:10 * 10 ^ f<=(36 - b) * 10 ^ f:=Nat.mul_le_mul_right _ Qa;rw [Nat.pow_succ] at h;omega
def JE (c:UInt8):Option Nat:=if 97<=c.toNat/\c.toNat<=122 then some (c.toNat - 97) else if 65<=c.toNat/\c.toNat<=90 then some (c.toNat - 65) else if 48<=c.toNat/\c.toNat<=57 then some (c.toNat - 22) else none
theorem Kn:∀ d:Fin 36,JE (Gl d.val)=some d.val/\Gl d.val≠45/\(Gl d.val).toNat<128:=Qe
theorem AcN:∀ n:Fin 256,∀ d,JE (UInt8.ofNat n.val)=some d->d<36:=Qe
theorem Afi {c:UInt8} {d:Nat} (h:JE c=some d):d<36:=AcN ⟨c.toNat,c.toNat_lt⟩ d Qy
def KH (bias:Nat):List UInt8->Nat->Nat->Nat->Option (Nat × Nat)
 | [],_,_,_=>none
 | c :: r,j,sum,wt=>match JE c with
  | none=>none
  | some d=>if 2147483647<sum+d * wt then none else if d<BP j bias then some (sum+d * wt,j+1) else KH bias r (j+1) (sum+d * wt) (wt * (36 - BP j bias))
theorem Nu (bias:Nat):∀ (l:List UInt8) j sum wt d n,KH bias l j sum wt=some (d,n)->j<n/\n<=j+l.length/\d<=2147483647
 | [],_,_,_,_,_,h=>(nomatch h)
 | c :: r,j,sum,wt,d,n,h=>by
  rw [KH] at h;split at h
  ·cases h
  ·split at h
   ·cases h
   ·split at h
    ·cases h;simp;omega
    ·have:=Nu bias r _ _ _ d n h;simp;omega
theorem Ai8 (bias:Nat) (rest:List UInt8):∀ f j d sum wt,d<10 ^ f->sum+d * wt<=2147483647->
  KH bias (Is bias (f+1) j d++rest) j sum wt=some (sum+d * wt,j+(Is bias (f+1) j d).length):=by
 intro f
 induction f with
 | zero=>
  intro j d sum wt h hs;have hb:=HL j bias;rw [Nat.pow_zero] at h;have hd:d<BP j bias:=Qa;rw [Is,if_pos hd,List.cons_append,List.nil_append,KH,(Kn ⟨d,Qa⟩).1];dsimp only;rw [if_neg Qa,if_pos hd];rfl
 | succ f ih=>
  intro j d sum wt h hs;have hb:=HL j bias;rw [Is]
  by_cases hd:d<BP j bias
  ·rw [if_pos hd,List.cons_append,List.nil_append,KH,(Kn ⟨d,Qa⟩).1];dsimp only;rw [if_neg Qa,if_pos hd];rfl
  ·rw [if_neg hd];obtain ⟨b,hbe⟩:=N2 (BP j bias);rw [hbe] at hb hd⊢;have hm:(d - b) % (36 - b)<36 - b:=Nat.mod_lt _ Qa;have ht:b+(d - b) % (36 - b)<36:=Qa;have hdm:=Nat.mod_add_div (d - b) (36 - b);obtain ⟨q,hq⟩:=N2 ((d - b) / (36 - b));obtain ⟨m,hme⟩:=N2 ((d - b) % (36 - b));have hn:=Abu hb h;rw [hq] at hdm hn⊢;rw [hme] at hdm ht hm⊢
   have e:d * wt=(b+m) * wt+q * (wt * (36 - b)):=by
    have e1:d=b+(m+(36 - b) * q):=Qa
    conv=>lhs;rw [e1]
    rw [Nat.add_mul,Nat.add_mul,Nat.add_mul,Nat.mul_comm (36 - b) q,Nat.mul_assoc,Nat.mul_comm (36 - b) wt];omega
   rw [List.cons_append,KH,(Kn ⟨b+m,ht⟩).1];dsimp only
   rw [if_neg (by rw [e] at hs;omega),hbe,if_neg Qa]
   rw [ih (j+1) q (sum+(b+m) * wt) (wt * (36 - b)) hn (by rw [e] at hs;omega),e,List.length_cons,Nat.add_assoc,Nat.add_assoc,Nat.add_comm 1]
theorem AhP (bias d:Nat) (rest:List UInt8) (h:d<=2147483647):KH bias (TD d bias++rest) 0 0 1=some (d,(TD d bias).length):=by
 have:=Ai8 bias rest 39 0 d 0 1 (Nat.lt_of_le_of_lt h Qc) Qa;unfold TD;rw [this];simp
def Bj (c:Nat):Bool:=decide (c<=1114111) && (decide (c<55296) || decide (57343<c))
def Gk (l:List Nat) (p c:Nat):List Nat:=l.take p++c :: l.drop p
structure Dm where
 p:Nat
 sign:Nat
 bias:Nat
 first:Bool
 l:List Nat
def D9 (st:Dm) (d:Nat):Option Dm:=
 if (decide (st.l.length=255) || !Bj (st.sign+(st.p+d) / (st.l.length+1)))=true then none
 else some ⟨(st.p+d) % (st.l.length+1)+1,st.sign+(st.p+d) / (st.l.length+1),E9 d (st.l.length+1) st.first,false,Gk st.l ((st.p+d) % (st.l.length+1)) (st.sign+(st.p+d) / (st.l.length+1))⟩
def DD:Nat->List UInt8->Dm->Option (List Nat)
 | 0,_,_=>none
 | f+1,s,st=>if s=[] then some st.l else match KH st.bias s 0 0 1 with
  | none=>none
  | some (d,n)=>match D9 st d with
   | none=>none
   | some st'=>DD f (s.drop n) st'
def CP (c:UInt8):List UInt8->Option (List UInt8 × List UInt8)
 | []=>none
 | x :: r=>match CP c r with
  | some (a,b)=>some (x :: a,b)
  | none=>if x=c then some ([],r) else none
theorem E7 {c:UInt8}:∀ {l:List UInt8},(∀ x∈l,x≠c)->CP c l=none
 | [],_=>rfl
 | x :: r,h=>by
  rw [CP,E7 (l:=r) (fun y hy=>h y (List.mem_cons_of_mem _ hy))]
  dsimp only;rw [if_neg (h x (List.mem_cons_self ..))]
theorem E4 {c:UInt8} {b:List UInt8} (hb:∀ x∈b,x≠c):∀ (a:List UInt8),CP c (a++c :: b)=some (a,b)
 | []=>by rw [List.nil_append,CP,E7 hb];dsimp only;rw [if_pos rfl]
 | x :: r=>by rw [List.cons_append,CP,E4 hb r]
theorem RB {c:UInt8}:∀ {l a b:List UInt8},CP c l=some (a,b)->l=a++c :: b/\∀ x∈b,x≠c
 | [],_,_,h=>(nomatch h)
 | x :: r,a,b,h=>by
  rw [CP] at h;split at h
  ·rename_i a' b' he;obtain ⟨h1,h2⟩:=RB he;cases h
   exact ⟨by rw [h1];rfl,h2⟩
  ·rename_i he;split at h
   ·rename_i hx;cases h
    refine ⟨by rw [hx];rfl,fun y hy e=> ?_⟩
    obtain ⟨u,v,huv⟩:=List.append_of_mem hy
    have key:∀ (u:List UInt8),CP c (u++y :: v)≠none:=by
     intro u
     induction u with
     | nil=>
      rw [List.nil_append,CP];split
      ·simp
      ·rw [if_pos e];simp
     | cons z u ih=>
      rw [List.cons_append,CP];split
      ·simp
      ·rename_i hz;exact absurd hz ih
    exact key u (by rw [<-huv];exact he)
   ·cases h
def OJ (l:List Nat):Dm:=⟨0,128,72,true,l⟩
def OK (c:UInt8):Bool:=decide (c.toNat<128)
def Nf (s:List UInt8):Option (List Nat):=match CP 45 s with
 | some (a,b)=>if a=[] then DD (s.length+1) s (OJ []) else if 255<a.length then none else if a.all OK=true then DD (b.length+1) b (OJ (a.map (·.toNat))) else none
 | none=>DD (s.length+1) s (OJ [])
structure CU where
 d:Nat
 done:Nat
 bias:Nat
 first:Bool
 out:List UInt8
def AV (sign:Nat) (st:CU) (c:Nat):CU:=
 if c=sign then ⟨0,st.done+1,E9 st.d (st.done+1) st.first,false,st.out++TD st.d st.bias⟩
 else if c<sign then ⟨st.d+1,st.done,st.bias,st.first,st.out⟩ else st
def BV (low:Nat) (f:Int) (c:Nat):Int:=if low<=c/\(f<0\/(c:Int)<f) then (c:Int) else f
def Cz (l:List Nat) (low:Nat):Int:=l.foldl (BV low) (-1)
def Fu (l:List Nat):Nat->Nat->CU->CU
 | 0,_,st=>st
 | f+1,sign,st=>if st.done<l.length then
   Fu l f ((Cz l sign).toNat+1) (
    let st2:=l.foldl (AV (Cz l sign).toNat) ⟨st.d+((Cz l sign).toNat - sign) * (st.done+1),st.done,st.bias,st.first,st.out⟩
    ⟨st2.d+1,st2.done,st2.bias,st2.first,st2.out⟩)
  else st
def Acg (c:Nat):Bool:=decide (c<128)
def Cd (l:List Nat):List UInt8:=(l.filter Acg).map UInt8.ofNat
def Ff (l:List Nat):CU:=⟨0,(Cd l).length,72,true,if Cd l=[] then [] else Cd l++[45]⟩
def Ld (l:List Nat):Option (List UInt8):=if 255<l.length then none else if l.all Bj=true then some (Fu l (l.length+1) 128 (Ff l)).out else none
end Go.Proofs.YtonomfeipkdmhaaGreatDoor
