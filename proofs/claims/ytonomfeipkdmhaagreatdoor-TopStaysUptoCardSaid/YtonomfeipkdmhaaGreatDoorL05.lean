/- Part 5: lemmas. -/
import Derived.Test.YtonomfeipkdmhaaGreatDoorL04
import Derived.Deep.Cut
import Derived.Deep.CutRange
import Derived.Laws.BitsLemmas
import Derived.Lib.ItoaNum
import Derived.Lib.LaidTab
set_option linter.unusedVariables false
set_option linter.unusedSimpArgs false
set_option maxRecDepth 100000
set_option maxHeartbeats 16000000
namespace Go.Proofs.YtonomfeipkdmhaaGreatDoor
open Go.RowKit
theorem AdC (s:ByteArray) (w:World) (hs:s.size<=140737488355328):
  Calls Tryz.prog 293 #[.string s] w (Aee w (B8 s.toList)):=by
 have hF:=H0 (SF s);have hxs:=Vp s;have hIA:=Afn (J5 s) Qa;obtain ⟨x,hbx⟩:∃ x,(⟨(Lib.trimPrefix s.data.toList [45]).toArray⟩:ByteArray)=x:=⟨_,rfl⟩;rw [show J5 s=x from hbx] at hF hxs hIA;obtain ⟨neg,hneg⟩:=N2 (Lib.hasPrefix s.data.toList [45]);rw [hneg] at hF;go_enter Tryz.func293,Tryz.ntmps293;go_wp2_with (go_at_call 218;refine (Tryz.strings_CutPrefix _ _ _).mono ?_;rintro e w' ⟨rfl,rfl⟩);refine (hIA _).mono ?_;rintro e w1 ⟨rfl,hb⟩;clear hIA;replace hbx:=H0 hbx;replace hneg:=H0 hneg
 rcases Vq x.toList with ⟨h1,h2⟩ | ⟨i,h1,hi,h2⟩
 ·rw [h1]
  have hQ:Hid (B8 s.toList=(Gb x.toList 0).map fun y=>(neg,y)):=H0 (by rw [hF.out,NT h2])
  replace h1:=H0 h1;replace h2:=H0 h2;go_wp2_with fail;obtain ⟨t,rfl⟩:∃ t,t=x:=⟨_,rfl⟩;obtain ⟨m,hmz⟩:∃ m:Int,m=0:=⟨_,rfl⟩;rw [<-hmz] at hQ⊢
  have hmb: -9999<=m/\m<=9999:=Qa
  obtain ⟨hmb1,hmb2⟩:=hmb;replace hmz:=H0 hmz;have hts:t.size<=140737488355328:=Qa;have hz4:=Cr 46 t.toList;rw [Aa] at hz4;have ht4:t.size<=140737488355328:=Qa;refine (Xb t 46 _ ht4).mono ?_;rintro e w3 ⟨ta,tb,nd,rfl,h3,h4,rfl⟩
  have za:ta.size=(Ak 46 t.toList).1.length:=by rw [<-Aa,h3.out]
  have zb:tb.size=(Ak 46 t.toList).2.1.length:=by rw [<-Aa,h4.out]
  have hT:Hid (Gb t.toList m=if ((Ak 46 t.toList).2.2=true/\tb.toList=[])\/15<ta.size+tb.size then none else match Bm 10 (ta++tb).toList with
    | none=>none
    | some n=>if m - (tb.size:Int)< -22\/22<m - (tb.size:Int) then none else some (n,m - (tb.size:Int))):=H0 (by
   unfold Gb;rw [toList_append,h3.out,h4.out,za,zb];rfl)
  have sz:ta.size+tb.size<=140737488355328:=Qa;replace za:=H0 za;replace zb:=H0 zb;replace hz4:=H0 hz4;clear h3 h4;generalize (Ak 46 t.toList).2.2=pt at hT⊢;have hb4:=below_drewN hb nd
  have hcs:(pt=true/\tb.toList.isEmpty=true/\Hid (Gb t.toList m=none))\/(((pt=false)\/(pt=true/\tb.toList.isEmpty=false))/\(15:Int)<(ta.size:Int)+(tb.size:Int)/\Hid (Gb t.toList m=none))\/
    (((pt=false)\/(pt=true/\tb.toList.isEmpty=false))/\(ta.size:Int)+(tb.size:Int)<=15/\Hid (Gb t.toList m=match Bm 10 (ta++tb).toList with
     | none=>none
     | some n=>if m - (tb.size:Int)< -22\/22<m - (tb.size:Int) then none else some (n,m - (tb.size:Int)))):=by
   cases hp:pt
   ·by_cases h15:15<ta.size+tb.size
    ·exact .inr (.inl ⟨.inl rfl,Qa,H0 Ahv⟩)
    ·exact .inr (.inr ⟨.inl rfl,Qa,H0 QR⟩)
   ·cases he:tb.toList.isEmpty
    ·have hne:tb.toList≠[]:=by intro h;rw [h] at he;cases he
     by_cases h15:15<ta.size+tb.size
     ·exact .inr (.inl ⟨.inr ⟨rfl,rfl⟩,Qa,H0 Ahv⟩)
     ·exact .inr (.inr ⟨.inr ⟨rfl,rfl⟩,Qa,H0 AeF⟩)
    ·exact .inl ⟨rfl,rfl,H0 (by rw [hT.out,if_pos (.inl ⟨hp,by simpa using he⟩)])⟩
  clear hT
  rcases hcs with ⟨rfl,c1,cN⟩ | ⟨hpt,c1,cN⟩ | ⟨hpt,c1,cN⟩
  ·have hno:Hid (B8 s.toList=none):=H0 Akg;go_wp2_with fail;go_ret2;exact Dl hno.out hb4
  ·have hno:Hid (B8 s.toList=none):=H0 Akg
   rcases hpt with rfl | ⟨rfl,c2⟩
   all_goals
    go_wp2_with fail;go_ret2;exact Dl hno.out hb4
  ·have hzz:(ta++tb:ByteArray).size<=140737488355328:=by rw [ByteArray.size_append];omega
   have hw:=H0 (fun w=>Gx (ta++tb) w hzz)
   have e5:IntKind.i64.wrap (m - (tb.size:Int))=m - (tb.size:Int):=IntWalk.i64_in _ Qa
   have hzz2:(ta++tb:ByteArray).toList.length<=15:=by rw [Aa,ByteArray.size_append];omega
   cases hD:Bm 10 (ta++tb).toList with
   | none=>
    have hno:Hid (B8 s.toList=none):=H0 (by rw [hQ.out,cN.out,hD];rfl)
    have hw2:=H0 (fun w=>by have:=hw.out w;rw [hD] at this;exact this)
    replace hD:=H0 hD;clear hzz2
    rcases hpt with rfl | ⟨rfl,c2⟩
    all_goals
     go_wp2_with (go_at_call 292;refine (hw2.out _).mono ?_;rintro e w' ⟨rfl,rfl⟩);go_ret2;exact Dl hno.out hb4
   | some n=>
    have hnl:=Pz hD;have hn15:n<10 ^ 15:=Nat.lt_of_lt_of_le hnl (Nat.pow_le_pow_right Qc hzz2)
    have hw2:Hid (∀ w,Calls Tryz.prog 292 #[.string (ta++tb)] w (fun e w'=>e= .returned (.tuple #[.int .i64 (n:Int),.bool true])/\w=w')):=H0 (fun w=>by
     have:=hw.out w;rw [hD] at this
     refine this.mono fun e w' h=> ?_
     unfold JB at h
     rw [show (some n).getD 0=n from rfl,show min n Et=n by unfold Et;omega] at h
     exact h)
    obtain ⟨fm,fi,hf⟩:=Xj (n:=n) (Nat.lt_trans hn15 Qc)
    have hM:Hid (B8 s.toList=(if m - (tb.size:Int)< -22\/22<m - (tb.size:Int) then none else some (n,m - (tb.size:Int))).map fun y=>(neg,y)):=H0 (by rw [hQ.out,cN.out,hD])
    replace hD:=H0 hD;replace hf:=H0 hf;replace hn15:=H0 hn15;clear hnl hzz2
    by_cases k1:m - (tb.size:Int)< -22
    ·have hno:Hid (B8 s.toList=none):=H0 (by rw [hM.out,if_pos (.inl k1)];rfl)
     rcases hpt with rfl | ⟨rfl,c2⟩
     all_goals
      go_wp2_with (go_at_call 292;refine (hw2.out _).mono ?_;rintro e w' ⟨rfl,rfl⟩);go_ret2;exact Dl hno.out hb4
    by_cases k2:22<m - (tb.size:Int)
    ·have hno:Hid (B8 s.toList=none):=H0 (by rw [hM.out,if_pos (.inr k2)];rfl)
     have k3: -22<=m - (tb.size:Int):=Qa;have k5:decide ((22:Int)<m - (tb.size:Int))=true:=decide_eq_true k2
     rcases hpt with rfl | ⟨rfl,c2⟩
     all_goals
      go_wp2_with (go_at_call 292;refine (hw2.out _).mono ?_;rintro e w' ⟨rfl,rfl⟩);go_ret2;exact Dl hno.out hb4
    have k3: -22<=m - (tb.size:Int):=Qa;have k4:m - (tb.size:Int)<=22:=Qa
    have hyes:Hid (B8 s.toList=some (neg,n,m - (tb.size:Int))):=H0 (by rw [hM.out,if_neg Qa];rfl)
    have hmv:=H0 (fun w=>YA (floatOfInt .f64 (n:Int)) (m - (tb.size:Int)) w hf.out k3 k4)
    have hsg:(neg=false/\Hid (DX (neg,n,m - (tb.size:Int))=GZ (floatOfInt .f64 (n:Int)) (m - (tb.size:Int))))\/(neg=true/\((n:Int) != 0)=false/\Hid (DX (neg,n,m - (tb.size:Int))=GZ (floatOfInt .f64 (n:Int)) (m - (tb.size:Int))))\/
      (neg=true/\((n:Int) != 0)=true/\Hid (DX (neg,n,m - (tb.size:Int))=Op.negFloat .f64 (GZ (floatOfInt .f64 (n:Int)) (m - (tb.size:Int))))):=by
     cases neg
     ·exact .inl ⟨rfl,H0 rfl⟩
     ·by_cases h0:n=0
      ·exact .inr (.inl ⟨rfl,by rw [h0];rfl,H0 (by unfold DX;rw [if_neg (fun h=>h.2 h0)])⟩)
      ·exact .inr (.inr ⟨rfl,by simp only [bne_iff_ne,ne_eq];omega,H0 (by unfold DX;rw [if_pos ⟨rfl,h0⟩])⟩)
    have hun:∀ v:Nat,Op.unary .neg (.float .f64 v)=(pure (.float .f64 (Op.negFloat .f64 v)):Sem Value):=fun v=>rfl
    rcases hsg with ⟨rfl,hW⟩ | ⟨rfl,s1,hW⟩ | ⟨rfl,s1,hW⟩<;>rcases hpt with rfl | ⟨rfl,c2⟩
    all_goals
     go_wp2_with (first
      | (go_at_call 292;refine (hw2.out _).mono ?_;rintro e w' ⟨rfl,rfl⟩)
      | (go_at_call 317;refine (hmv.out _).mono ?_;rintro e w' ⟨rfl,rfl⟩))
     go_ret2;unfold Aee;rw [hyes.out]
     exact ⟨by rw [show ∀ y,((some y:Option (Bool × Nat × Int)).map DX).getD 0=DX y from fun _=>rfl,hW.out];rfl,hb4⟩
 ·rw [h1];rw [Aa] at hi;have e1:IntKind.i64.wrap ((i:Int)+1)=(i:Int)+1:=IntWalk.i64_in _ Qa;have i1:(i:Int)+1<=(x.size:Int):=Qa;have i2:(i:Int)<=(x.size:Int):=Qa;have i3:i+1<=x.size:=Qa
  have hL1:Hid ((x.extract (i+1) x.size).toList=x.toList.drop (i+1)):=H0 (by rw [toList_extract,<-Aa,List.take_length])
  have hL2:Hid ((x.extract 0 i).toList=x.toList.take i):=H0 (by rw [toList_extract];rfl)
  have hz1:(x.extract (i+1) x.size).size<=140737488355328:=by rw [<-Aa,hL1.out,List.length_drop,Aa];omega
  have hz2:(x.extract 0 i).size<=140737488355328:=by rw [<-Aa,hL2.out,List.length_take,Aa];omega
  replace h1:=H0 h1;replace h2:=H0 h2;replace hz1:=H0 hz1;replace hz2:=H0 hz2;go_wp2_with fail;refine (Vc _ _ hz1.out).mono ?_;rintro e w2 ⟨rfl,rfl⟩
  cases hX:FX (x.extract (i+1) x.size).toList with
  | none=>
   have hno:Hid (B8 s.toList=none):=H0 (by rw [hF.out,O3 h2.out (by rw [<-hL1.out];exact hX)];rfl)
   replace hX:=H0 hX;go_wp2_with fail;go_ret2;exact Dl hno.out hb
  | some m=>
   have hQ:Hid (B8 s.toList=(Gb (x.extract 0 i).toList m).map fun y=>(neg,y)):=H0 (by rw [hF.out,NU h2.out (by rw [<-hL1.out];exact hX),hL2.out])
   obtain ⟨hmb1,hmb2⟩:=Aec hX;replace hX:=H0 hX;rw [show (some m).getD 0=m from rfl,show (some m).isSome=true from rfl];go_wp2_with fail;have hts:=hz2.out;generalize x.extract 0 i=t at hQ hts⊢;clear e1 i1 i2 i3 hi hL1 hL2 hz1 hz2;have hz4:=Cr 46 t.toList;rw [Aa] at hz4;have ht4:t.size<=140737488355328:=Qa;refine (Xb t 46 _ ht4).mono ?_;rintro e w3 ⟨ta,tb,nd,rfl,h3,h4,rfl⟩
   have za:ta.size=(Ak 46 t.toList).1.length:=by rw [<-Aa,h3.out]
   have zb:tb.size=(Ak 46 t.toList).2.1.length:=by rw [<-Aa,h4.out]
   have hT:Hid (Gb t.toList m=if ((Ak 46 t.toList).2.2=true/\tb.toList=[])\/15<ta.size+tb.size then none else match Bm 10 (ta++tb).toList with
     | none=>none
     | some n=>if m - (tb.size:Int)< -22\/22<m - (tb.size:Int) then none else some (n,m - (tb.size:Int))):=H0 (by
    unfold Gb;rw [toList_append,h3.out,h4.out,za,zb];rfl)
   have sz:ta.size+tb.size<=140737488355328:=Qa;replace za:=H0 za;replace zb:=H0 zb;replace hz4:=H0 hz4;clear h3 h4;generalize (Ak 46 t.toList).2.2=pt at hT⊢;have hb4:=below_drewN hb nd
   have hcs:(pt=true/\tb.toList.isEmpty=true/\Hid (Gb t.toList m=none))\/(((pt=false)\/(pt=true/\tb.toList.isEmpty=false))/\(15:Int)<(ta.size:Int)+(tb.size:Int)/\Hid (Gb t.toList m=none))\/
     (((pt=false)\/(pt=true/\tb.toList.isEmpty=false))/\(ta.size:Int)+(tb.size:Int)<=15/\Hid (Gb t.toList m=match Bm 10 (ta++tb).toList with
      | none=>none
      | some n=>if m - (tb.size:Int)< -22\/22<m - (tb.size:Int) then none else some (n,m - (tb.size:Int)))):=by
    cases hp:pt
    ·by_cases h15:15<ta.size+tb.size
     ·exact .inr (.inl ⟨.inl rfl,Qa,H0 Ahv⟩)
     ·exact .inr (.inr ⟨.inl rfl,Qa,H0 QR⟩)
    ·cases he:tb.toList.isEmpty
     ·have hne:tb.toList≠[]:=by intro h;rw [h] at he;cases he
      by_cases h15:15<ta.size+tb.size
      ·exact .inr (.inl ⟨.inr ⟨rfl,rfl⟩,Qa,H0 Ahv⟩)
      ·exact .inr (.inr ⟨.inr ⟨rfl,rfl⟩,Qa,H0 AeF⟩)
     ·exact .inl ⟨rfl,rfl,H0 (by rw [hT.out,if_pos (.inl ⟨hp,by simpa using he⟩)])⟩
   clear hT
   rcases hcs with ⟨rfl,c1,cN⟩ | ⟨hpt,c1,cN⟩ | ⟨hpt,c1,cN⟩
   ·have hno:Hid (B8 s.toList=none):=H0 Akg;go_wp2_with fail;go_ret2;exact Dl hno.out hb4
   ·have hno:Hid (B8 s.toList=none):=H0 Akg
    rcases hpt with rfl | ⟨rfl,c2⟩
    all_goals
     go_wp2_with fail;go_ret2;exact Dl hno.out hb4
   ·have hzz:(ta++tb:ByteArray).size<=140737488355328:=by rw [ByteArray.size_append];omega
    have hw:=H0 (fun w=>Gx (ta++tb) w hzz)
    have e5:IntKind.i64.wrap (m - (tb.size:Int))=m - (tb.size:Int):=IntWalk.i64_in _ Qa
    have hzz2:(ta++tb:ByteArray).toList.length<=15:=by rw [Aa,ByteArray.size_append];omega
    cases hD:Bm 10 (ta++tb).toList with
    | none=>
     have hno:Hid (B8 s.toList=none):=H0 (by rw [hQ.out,cN.out,hD];rfl)
     have hw2:=H0 (fun w=>by have:=hw.out w;rw [hD] at this;exact this)
     replace hD:=H0 hD;clear hzz2
     rcases hpt with rfl | ⟨rfl,c2⟩
     all_goals
      go_wp2_with (go_at_call 292;refine (hw2.out _).mono ?_;rintro e w' ⟨rfl,rfl⟩);go_ret2;exact Dl hno.out hb4
    | some n=>
     have hnl:=Pz hD;have hn15:n<10 ^ 15:=Nat.lt_of_lt_of_le hnl (Nat.pow_le_pow_right Qc hzz2)
     have hw2:Hid (∀ w,Calls Tryz.prog 292 #[.string (ta++tb)] w (fun e w'=>e= .returned (.tuple #[.int .i64 (n:Int),.bool true])/\w=w')):=H0 (fun w=>by
      have:=hw.out w;rw [hD] at this
      refine this.mono fun e w' h=> ?_
      unfold JB at h
      rw [show (some n).getD 0=n from rfl,show min n Et=n by unfold Et;omega] at h
      exact h)
     obtain ⟨fm,fi,hf⟩:=Xj (n:=n) (Nat.lt_trans hn15 Qc)
     have hM:Hid (B8 s.toList=(if m - (tb.size:Int)< -22\/22<m - (tb.size:Int) then none else some (n,m - (tb.size:Int))).map fun y=>(neg,y)):=H0 (by rw [hQ.out,cN.out,hD])
     replace hD:=H0 hD;replace hf:=H0 hf;replace hn15:=H0 hn15;clear hnl hzz2
     by_cases k1:m - (tb.size:Int)< -22
     ·have hno:Hid (B8 s.toList=none):=H0 (by rw [hM.out,if_pos (.inl k1)];rfl)
      rcases hpt with rfl | ⟨rfl,c2⟩
      all_goals
       go_wp2_with (go_at_call 292;refine (hw2.out _).mono ?_;rintro e w' ⟨rfl,rfl⟩);go_ret2;exact Dl hno.out hb4
     by_cases k2:22<m - (tb.size:Int)
     ·have hno:Hid (B8 s.toList=none):=H0 (by rw [hM.out,if_pos (.inr k2)];rfl)
      have k3: -22<=m - (tb.size:Int):=Qa;have k5:decide ((22:Int)<m - (tb.size:Int))=true:=decide_eq_true k2
      rcases hpt with rfl | ⟨rfl,c2⟩
      all_goals
       go_wp2_with (go_at_call 292;refine (hw2.out _).mono ?_;rintro e w' ⟨rfl,rfl⟩);go_ret2;exact Dl hno.out hb4
     have k3: -22<=m - (tb.size:Int):=Qa;have k4:m - (tb.size:Int)<=22:=Qa
     have hyes:Hid (B8 s.toList=some (neg,n,m - (tb.size:Int))):=H0 (by rw [hM.out,if_neg Qa];rfl)
     have hmv:=H0 (fun w=>YA (floatOfInt .f64 (n:Int)) (m - (tb.size:Int)) w hf.out k3 k4)
     have hsg:(neg=false/\Hid (DX (neg,n,m - (tb.size:Int))=GZ (floatOfInt .f64 (n:Int)) (m - (tb.size:Int))))\/(neg=true/\((n:Int) != 0)=false/\Hid (DX (neg,n,m - (tb.size:Int))=GZ (floatOfInt .f64 (n:Int)) (m - (tb.size:Int))))\/
       (neg=true/\((n:Int) != 0)=true/\Hid (DX (neg,n,m - (tb.size:Int))=Op.negFloat .f64 (GZ (floatOfInt .f64 (n:Int)) (m - (tb.size:Int))))):=by
      cases neg
      ·exact .inl ⟨rfl,H0 rfl⟩
      ·by_cases h0:n=0
       ·exact .inr (.inl ⟨rfl,by rw [h0];rfl,H0 (by unfold DX;rw [if_neg (fun h=>h.2 h0)])⟩)
       ·exact .inr (.inr ⟨rfl,by simp only [bne_iff_ne,ne_eq];omega,H0 (by unfold DX;rw [if_pos ⟨rfl,h0⟩])⟩)
     have hun:∀ v:Nat,Op.unary .neg (.float .f64 v)=(pure (.float .f64 (Op.negFloat .f64 v)):Sem Value):=fun v=>rfl
     rcases hsg with ⟨rfl,hW⟩ | ⟨rfl,s1,hW⟩ | ⟨rfl,s1,hW⟩<;>rcases hpt with rfl | ⟨rfl,c2⟩
     all_goals
      go_wp2_with (first
       | (go_at_call 292;refine (hw2.out _).mono ?_;rintro e w' ⟨rfl,rfl⟩)
       | (go_at_call 317;refine (hmv.out _).mono ?_;rintro e w' ⟨rfl,rfl⟩))
      go_ret2;unfold Aee;rw [hyes.out]
      exact ⟨by rw [show ∀ y,((some y:Option (Bool × Nat × Int)).map DX).getD 0=DX y from fun _=>rfl,hW.out];rfl,hb4⟩
def IG (w:World):Prop:=Lib.TabIs Tryz.prog w "internal/strconv.uint64pow10" .u64 Lib.pow10Tab∧w.cell? ⟨5,15,none⟩=some (.int .u8 4)
theorem Wo:Tryz.prog.globalNamed "internal/strconv.uint64pow10" =some 3:=by kernel_rfl
theorem IG.next {w w':World} (h:IG w) (hb:Below w.heap.size w w'):IG w':=by
 refine ⟨?_,(hb.cell (World.block_lt_of_cell? w _ h.2)).trans h.2⟩;have h1:=h.1;unfold Lib.TabIs World.var? at h1⊢;rw [Wo] at h1⊢;simp only [Option.bind_some] at h1⊢
 have hlt:3<w.heap.size:=by
  rcases Nat.lt_or_ge 3 w.heap.size with h' | h'
  ·exact h'
  ·rw [Array.getElem?_eq_none h'] at h1;cases h1
 rw [hb.block _ hlt];exact h1
theorem IG.alloc {w:World} (h:IG w) (o:Obj):IG (w.alloc o):=h.next ((Below.refl _ _).alloc (Nat.le_refl _) o)
theorem GW {w:World} {B:Nat} {E:TypeId} {v:Value} {l:List UInt8}:CZ w B E v l↔w.ownsRow B E 1 v l.length (Lib.byteCells l):=by
 have:l.map Dy=Lib.byteCells l:=rfl;unfold CZ;rw [this]
def U64 (u:Nat):Prop:=u<18446744073709551616
theorem MC (B u:Nat) (ui:Int) (hui:ui=(u:Int)) (hu:U64 u) (v:Value) (l:List UInt8) (w:World) (h:CZ w B 5 v l) (ht:IG w) (hB:B<=w.heap.size) (hl:l.length<=1099511627776):
  Calls Tryz.prog 222 #[v,.int .u64 ui,.int .i64 10] w fun e w'=>∃ v',e= .returned v'/\CZ w' B 5 v' (l++Lib.decDigits u)/\Below B w w':=by
 subst hui;refine (Tryz.internal_strconv_AppendUint_10 B l.length u hu v (Lib.byteCells l) w (GW.1 h) hB Qa ht.1).mono ?_;rintro e w' ⟨v',rfl,ho,hb,_⟩;refine ⟨v',rfl,GW.2 ?_,hb⟩;rw [List.length_append]
 have:Lib.byteCells (l++Lib.decDigits u)=Lib.byteCells l++Lib.byteCells (Lib.decDigits u):=by simp [Lib.byteCells]
 rw [this];exact ho
theorem Ef (B u:Nat) (ui:Int) (hui:ui=(u:Int)) (hu:U64 u) (v:Value) (l:List UInt8) (w:World) (h:CZ w B 5 v l) (ht:IG w) (hB:B<=w.heap.size) (hl:l.length<=1099511627776):
  Calls Tryz.prog 159 #[v,.int .u64 ui,.int .i64 10] w fun e w'=>∃ v',e= .returned v'/\CZ w' B 5 v' (l++Lib.decDigits u)/\Below B w w':=by
 subst hui;go_enter Tryz.func159,Tryz.ntmps159;go_wp2_with fail;refine (MC B u _ rfl hu v l _ h ht hB hl).mono ?_;rintro e w1 ⟨v',rfl,ho,hb⟩;go_wp2_with fail;go_ret;exact ⟨_,rfl,ho,hb⟩
theorem Sl (w:World) (h:w.cell? ⟨5,15,none⟩=some (.int .u8 4)):
  Calls Tryz.prog 312 #[.int .u64 16] w fun e w'=>e= .returned (.int .i64 4)/\w=w':=by
 have e:(IntKind.u64.wrap (bits BinOp.and IntKind.u64 16 (IntKind.u64.wrap (-16)) * 285870213051353865) / 288230376151711744).toNat=15:=Qe
 have h':w.cell? ⟨5,(IntKind.u64.wrap (bits BinOp.and IntKind.u64 16 (IntKind.u64.wrap (-16)) * 285870213051353865) / 288230376151711744).toNat,none⟩=some (.int .u8 4):=by rw [e];exact h
 clear e h;go_enter Tryz.func312,Tryz.ntmps312;go_wp2_with fail;go_ret;exact ⟨rfl,rfl⟩
theorem VT (w:World) (h:w.cell? ⟨5,15,none⟩=some (.int .u8 4)):
  Calls Tryz.prog 283 #[.int .u64 16] w fun e w'=>e= .returned (.int .i64 4)/\w=w':=by
 go_enter Tryz.func283,Tryz.ntmps283;go_wp2_with fail;refine (Sl _ h).mono ?_;rintro e w1 ⟨rfl,rfl⟩;go_wp2_with fail;go_ret;exact ⟨rfl,rfl⟩
theorem Yj (w:World):
  Calls Tryz.prog 282 #[.int .i64 16] w fun e w'=>e= .returned (.bool true)/\w=w':=by
 have e:(bits BinOp.and IntKind.i64 16 15==0)=true:=Qe;go_enter Tryz.func282,Tryz.ntmps282;go_wp2_with fail;go_ret;exact ⟨rfl,rfl⟩
theorem Wt:(Tryz.prog.info? 5).map (fun i=>(i.zero,i.size,i.bytes))=some (some (.int .u8 0),1,1):=Qb
def BN (d:Nat):UInt8:=UInt8.ofNat (if d<10 then 48+d else 87+d)
def I8:Nat->Nat->List UInt8
 | 0,_=>[]
 | f+1,n=>if n<16 then [BN n] else I8 f (n / 16)++[BN (n % 16)]
def FL (n:Nat):List UInt8:=I8 4 n
def HI (w:World) (g j:Nat) (D:List UInt8):Prop:=∃ arr:Array Value,w.heap[g]? =some (.cells arr 225 (0,0))/\arr.size=65/\arr.toList.drop j=Lib.byteCells D
theorem HI.cell {w:World} {g j:Nat} {D:List UInt8} (h:HI w g j D) (i:Nat) (hi:i<65):(∃ x,w.cell? ⟨g,i,none⟩=some x)/\w.frozen? ⟨g,i,none⟩=false:=by
 obtain ⟨arr,hb,hs,_⟩:=h
 exact ⟨⟨arr[i],by rw [Lib.cell_of_heap hb,Array.getElem?_eq_getElem Qa]⟩,Lib.frozen_of_heap hb i⟩
theorem HI.set {w:World} {g j:Nat} {D:List UInt8} (h:HI w g (j+1) D) (hj:j<65) (c:UInt8):HI (w.setCell ⟨g,j,none⟩ (.int .u8 (c.toNat:Int))) g j (c :: D):=by
 obtain ⟨arr,hb,hs,hd⟩:=h
 refine ⟨arr.setIfInBounds j (.int .u8 (c.toNat:Int)),by simp [World.setCell,Array.getElem?_modify,hb],by simpa using hs,?_⟩
 rw [Array.toList_setIfInBounds,List.drop_eq_getElem_cons Qi,List.getElem_set_self,List.drop_set_of_lt Qa,hd];rfl
theorem HI.news {w:World} {g j:Nat} {D:List UInt8} (h:HI w g j D) (hj:j<=65):D.length=65 - j/\∀ i u,(Lib.byteCells D)[i]? =some u->w.cell? ((⟨g,j,none⟩:Addr).add i)=some u:=by
 obtain ⟨arr,hb,hs,hd⟩:=h
 refine ⟨?_,fun i u hu=> ?_⟩
 ·have:=congrArg List.length hd;rw [Lib.byteCells_length,List.length_drop,Array.length_toList,hs] at this;omega
 ·have e:(⟨g,j,none⟩:Addr).add i=⟨g,j+i,none⟩:=by unfold Addr.add;split<;>simp_all
  rw [e,Lib.cell_of_heap hb,<-hu,<-hd,List.getElem?_drop,Array.getElem?_toList]
theorem Gt (n:Int) (h₀:0<=n) (h₁:n<2 ^ 64):IntKind.u64.wrap n=n:=by
 simp [IntKind.wrap,IntKind.bits,IntKind.signed];omega
theorem AbR (x:Nat) (h:x<65536):bits .and .u64 (x:Int) 15=(x:Int) % 16:=bits_mask .u64 64 Qc Gt 4 Qc (x:Int) Qa Qa
theorem Aga {f n:Nat} (h:16<=n):I8 (f+1) n=I8 f (n / 16)++[BN (n % 16)]:=by rw [I8,if_neg Qa]
theorem AaZ {f n:Nat} (h:n<16):I8 (f+1) n=[BN n]:=by rw [I8,if_pos h]
def Vd:ByteArray:=⟨#[48,49,50,51,52,53,54,55,56,57,97,98,99,100,101,102,103,104,105,106,107,108,109,110,111,112,113,114,115,116,117,118,119,120,121,122]⟩
theorem Ul:∀ d:Fin 16,Vd[d.val]'(by have:=d.isLt;show d.val<36;omega)=BN d.val:=Qe
theorem AhH (w:World):(zeroValue 225).run Tryz.prog w= .ok (.agg (Array.replicate 65 (.int .u8 0))) w:=Qb
theorem AgA (g f:Nat) (hf:f<4) (w:World):(Instr.sliceAt 225 (.pointer (some ⟨g,0,none⟩)) (some (.int .i64 ((f:Int)+1+61 - 1))) none none).run Tryz.prog w= .ok (.slice (some ⟨g,f+61,none⟩) (4 - f) (4 - f)) w:=by
 have ha:Tryz.prog.arrayLen 225=65:=Qb;have hs:(sizeOf (Tryz.prog.elem 225)).run Tryz.prog w= .ok 1 w:=Qb
 rw [run_sliceAt_array_l w 225 ⟨g,0,none⟩ Qb .i64 _ Qa (by rw [ha];omega),hs]
 simp only [Result.andThen_ok,slicedAt,ha];have e1:((f:Int)+1+61 - 1).toNat=f+61:=Qa;have e2:65 - (f+61)=4 - f:=Qa;have e3:¬ 65=f+61:=Qa
 have e4:(⟨g,0,none⟩:Addr).add ((f+61) * 1)=⟨g,f+61,none⟩:=by unfold Addr.add;rw [if_neg Qa];simp
 rw [e1,e2,if_neg e3,e4]
theorem M8 (B u:Nat) (hu:u<65536) (v:Value) (l:List UInt8) (w:World) (h:CZ w B 5 v l) (ht:w.cell? ⟨5,15,none⟩=some (.int .u8 4)) (hB:B<=w.heap.size) (hl:l.length<=1099511627776):
  Calls Tryz.prog 226 #[v,.int .u64 (u:Int),.int .i64 16,.bool false,.bool true] w fun e w'=>∃ v',e= .returned (.tuple #[v',.string ⟨#[]⟩])/\CZ w' B 5 v' (l++FL u)/\Below B w w':=by
 have z65:=AhH;have hlt:=World.block_lt_of_cell? w _ ht
 have ht2:(w.alloc (.cells (Array.replicate 65 (.int .u8 0)) 225)).cell? ⟨5,15,none⟩=some (.int .u8 4):=by
  rw [World.cell?_alloc_past _ _ _ hlt];exact ht
 have ht:=H0 ht2;go_enter Tryz.func226,Tryz.ntmps226
 go_wp2_with (first
  | (go_at_call 282;refine (Yj _).mono ?_;rintro e w' ⟨rfl,rfl⟩)
  | (go_at_call 283;refine (VT _ ht.out).mono ?_;rintro e w' ⟨rfl,rfl⟩))
 have harr0:HI (w.alloc (.cells (Array.replicate 65 (.int .u8 0)) 225)) w.heap.size 65 []:=⟨_,heap_alloc_new w _,Qf,by simp [Lib.byteCells]⟩
 have hbel0:Below w.heap.size w (w.alloc (.cells (Array.replicate 65 (.int .u8 0)) 225)):=(Below.refl _ _).alloc (Nat.le_refl _) _;have hsz0:w.heap.size+1<=(w.alloc (.cells (Array.replicate 65 (.int .u8 0)) 225)).heap.size:=Qf;clear ht2 ht z65 hlt;generalize w.alloc (.cells (Array.replicate 65 (.int .u8 0)) 225)=wa at harr0 hbel0 hsz0⊢
 go_loopw [1,13] (fun s1 s13 wr=>∃ (uu f:Nat) (D:List UInt8),s1= .int .u64 uu/\s13= .int .i64 ((f+61:Nat):Int)/\1<=f/\f<=4/\uu<65536/\Hid (uu<16 ^ f)/\Hid (FL u=I8 f uu++D)/\HI wr w.heap.size (f+61) D/\Below w.heap.size w wr/\w.heap.size+1<=wr.heap.size) (fun _ i _=>(intOf i).toNat)
 case atStart=>exact ⟨u,4,[],rfl,rfl,Qa,Qa,hu,H0 Qa,H0 (by simp [FL]),harr0,hbel0,hsz0⟩
 case round=>
  obtain ⟨uu,f,D,rfl,rfl,hf1,hf4,huu,hpow,hD,harr,hbel,hsz⟩:=hrel;clear harr0 hbel0 hsz0;obtain ⟨f,rfl⟩:∃ g,f=g+1:=⟨f - 1,Qa⟩
  by_cases hbig:16<=uu
  ·have hf0:1<=f:=by
    rcases Nat.eq_zero_or_pos f with h0 | h0
    ·have:=hpow.out;rw [h0] at this;omega
    ·exact h0
   have e:=AbR uu huu;have e16:(uu:Int) % 16=((uu % 16:Nat):Int):=Qa;rw [e16] at e;have hm:uu % 16<16:=Nat.mod_lt _ Qc
   have hpow2:Hid (uu / 16<16 ^ f):=H0 (by
    have:=hpow.out;rw [Nat.pow_succ] at this
    exact Nat.div_lt_of_lt_mul Qa)
   have hD2:Hid (FL u=I8 f (uu / 16)++(BN (uu % 16) :: D)):=H0 (by rw [hD.out,Aga hbig];simp)
   obtain ⟨⟨x,hc⟩,hfz⟩:=harr.cell (f+61) Qa;have hset:=HI.set (j:=f+61) harr Qa (BN (uu % 16))
   have hset2:HI (wr.setCell ⟨w.heap.size,f+61,none⟩ (.int .u8 ((Vd[uu % 16]'(by show uu % 16<36;omega)).toNat:Int))) w.heap.size (f+61) (BN (uu % 16) :: D):=by
    rw [Ul ⟨uu % 16,hm⟩];exact hset
   have hbigI:(16:Int)<=(uu:Int):=Qa;replace e16:=H0 e16;replace hset2:=H0 hset2;clear hset;go_wp2_with fail;go_roundw
   case rel=>exact ⟨uu / 16,f,BN (uu % 16) :: D,Ql,Ql,hf0,Qa,Qa,hpow2,hD2,hset2.out,hbel.setCell (Nat.le_refl _) _,Qi⟩
   case measure=>simp [intOf];omega
  ·have hsm:uu<16:=Qa
   have hD2:Hid (FL u=BN uu :: D):=H0 (by rw [hD.out,AaZ hsm];rfl)
   obtain ⟨⟨x,hc⟩,hfz⟩:=harr.cell (f+61) Qa;have hset:=HI.set (j:=f+61) harr Qa (BN uu)
   have hset2:HI (wr.setCell ⟨w.heap.size,f+61,none⟩ (.int .u8 ((Vd[uu]'(by show uu<36;omega)).toNat:Int))) w.heap.size (f+61) (BN uu :: D):=by
    rw [Ul ⟨uu,hsm⟩];exact hset
   have hsmI:(uu:Int)<(16:Int):=Qa;replace hset2:=H0 hset2;clear hset;have hown:=BC h hbel (Nat.le_refl _);have hsl:=AgA w.heap.size f Qa;obtain ⟨hDl,hnews⟩:=hset2.out.news Qa
   have hbel2:=hbel.setCell (p:=⟨w.heap.size,f+61,none⟩) (Nat.le_refl _) (.int .u8 ((Vd[uu]'(by show uu<36;omega)).toNat:Int))
   have hown2:=BC h hbel2 (Nat.le_refl _);replace hnews:=H0 hnews;replace hDl:=H0 hDl;clear hset2 hown;obtain ⟨i0,hi,hz0,hz1,hz2⟩:=info_parts Wt
   go_wp2_with (at_builtin;refine wpList_append_own _ rfl _ _ 25 rfl B 5 i0 (.int .u8 0) 1 1 Tryz.underlying25 hi hz0 hz1 hz2 rfl Qc v l.length _ rfl hown2 ⟨w.heap.size,f+61,none⟩ (4 - f) (4 - f) (Lib.byteCells (BN uu :: D)) rfl (by rw [Lib.byteCells_length,hDl.out];omega) hnews.out (by intro y hy;obtain ⟨t,_,rfl⟩:=List.mem_map.1 hy;rfl) Qm Qa Qi ?_;intro v' w2 hown' hgrow _)
   go_ret2
   refine ⟨v',rfl,?_,(hbel2.mono hB).grown hgrow Qi (fun k hk=>(hown2.lt k hk).1)⟩
   rw [GW,hD2.out,List.length_append]
   have e1:Lib.byteCells (l++BN uu :: D)=Lib.byteCells l++Lib.byteCells (BN uu :: D):=by simp [Lib.byteCells]
   have e2:65 - (f+61)=4 - f:=Qa;rw [e1,hDl.out,e2];exact hown'
theorem MI (B u:Nat) (hu:u<65536) (v:Value) (l:List UInt8) (w:World) (h:CZ w B 5 v l) (ht:w.cell? ⟨5,15,none⟩=some (.int .u8 4)) (hB:B<=w.heap.size) (hl:l.length<=1099511627776):
  Calls Tryz.prog 222 #[v,.int .u64 (u:Int),.int .i64 16] w fun e w'=>∃ v',e= .returned v'/\CZ w' B 5 v' (l++FL u)/\Below B w w':=by
 go_enter Tryz.func222,Tryz.ntmps222;go_wp2_with fail;refine (M8 B u hu v l _ h ht hB hl).mono ?_;rintro e w1 ⟨v',rfl,ho,hb⟩;go_wp2_with fail;go_ret;exact ⟨_,rfl,ho,hb⟩
theorem HR (B u:Nat) (ui:Int) (hui:ui=(u:Int)) (hu:u<65536) (v:Value) (l:List UInt8) (w:World) (h:CZ w B 5 v l) (ht:IG w) (hB:B<=w.heap.size) (hl:l.length<=1099511627776):
  Calls Tryz.prog 159 #[v,.int .u64 ui,.int .i64 16] w fun e w'=>∃ v',e= .returned v'/\CZ w' B 5 v' (l++FL u)/\Below B w w':=by
 subst hui;go_enter Tryz.func159,Tryz.ntmps159;go_wp2_with fail;refine (MI B u hu v l _ h ht.2 hB hl).mono ?_;rintro e w1 ⟨v',rfl,ho,hb⟩;go_wp2_with fail;go_ret;exact ⟨_,rfl,ho,hb⟩
theorem Tw (n:Int) (h₀:0<=n) (h₁:n<2 ^ 32):IntKind.u32.wrap n=n:=by rw [IntKind.wrap_u32];omega
theorem IV (x:Nat) (h:x<4294967296):bits .and .u32 (x:Int) 255=((x % 256:Nat):Int):=by
 have:=bits_mask .u32 32 Qc Tw 8 Qc (x:Int) Qa Qa
 rw [show ((2:Int) ^ 8 - 1)=255 by decide] at this
 rw [this];omega
def CN (n k:Nat):List UInt8:=Lib.decDigits (n / 256 ^ (3 - k) % 256)
def DZ (n:Nat):Nat->List UInt8
 | 0=>[]
 | k+1=>DZ n k++CN n k++(if k<3 then [46] else [])
def El (n:Nat):List UInt8:=DZ n 4
theorem DC (u:Nat) (h:u<256):(Lib.decDigits u).length<=3:=by
 rw [Lib.decDigits];split
 ·simp
 ·rw [List.length_append,Lib.decDigits];split
  ·simp
  ·rw [List.length_append,Lib.decDigits,dif_pos Qa];simp
theorem Ab0 (n k:Nat):(CN n k).length<=3:=DC _ (Nat.mod_lt _ Qc)
theorem Nh (n:Nat):∀ k,(DZ n k).length<=4 * k
 | 0=>by simp [DZ]
 | k+1=>by
  have h1:=Nh n k;have h2:=Ab0 n k;simp only [DZ,List.length_append]
  split<;>simp<;>omega
theorem U64.small {u:Nat} (h:u<256):U64 u:=by unfold U64;omega
theorem Aii:EZ Tryz.prog 25 5 (.int .u8 0) 1:= .mk' Tryz.underlying25 Qb rfl
theorem SA (n:Nat) (hn:n<4294967296) (w:World) (ht:IG w):
  Calls Tryz.prog 92 #[.int .u32 (n:Int)] w (EI w (El n)):=by
 have e0:Hid (IntKind.u64.wrap (bits BinOp.and IntKind.u32 ((n:Int) / 16777216) 255)=((n / 16777216 % 256:Nat):Int)):=H0 (by have h:=IV (n / 16777216) Qa;rw [show ((n / 16777216:Nat):Int)=(n:Int) / 16777216 by omega] at h;rw [h,Gt _ Qa Qa])
 have e1:Hid (IntKind.u64.wrap (bits BinOp.and IntKind.u32 ((n:Int) / 65536) 255)=((n / 65536 % 256:Nat):Int)):=H0 (by have h:=IV (n / 65536) Qa;rw [show ((n / 65536:Nat):Int)=(n:Int) / 65536 by omega] at h;rw [h,Gt _ Qa Qa])
 have e2:Hid (IntKind.u64.wrap (bits BinOp.and IntKind.u32 ((n:Int) / 256) 255)=((n / 256 % 256:Nat):Int)):=H0 (by have h:=IV (n / 256) Qa;rw [show ((n / 256:Nat):Int)=(n:Int) / 256 by omega] at h;rw [h,Gt _ Qa Qa])
 have e3:Hid (IntKind.u64.wrap (bits BinOp.and IntKind.u32 ((n:Int)) 255)=((n % 256:Nat):Int)):=H0 (by have h:=IV (n) Qa;rw [show ((n:Nat):Int)=(n:Int) by omega] at h;rw [h,Gt _ Qa Qa])
 have hn':(n:Int)<4294967296:=Qa;go_enter Tryz.func92,Tryz.ntmps92;go_wp2_with fail
 go_loopw [3,4] (fun v iv wr=>∃ k:Nat,k<=4/\iv= .int .i64 (24 - 8 * (k:Int))/\CZ wr w.heap.size 5 v (DZ n k)/\Below w.heap.size w wr) (fun _ i _=>(intOf i+8).toNat)
 case atStart=>exact ⟨0,Qa,rfl,CZ.nil _ _ _,Below.refl _ _⟩
 case round=>
  obtain ⟨k,hk,rfl,hown,hbel⟩:=hrel;have hsz:=hbel.size;have hlen:=Nh n k
  have htw:=ht.next hbel
  rcases (show k=0\/k=1\/k=2\/k=3\/k=4 by omega) with rfl | rfl | rfl | rfl | rfl
  ·go_wp2_with fail;refine (Ef w.heap.size (n / 16777216 % 256) _ ?hu (U64.small (Nat.mod_lt _ Qc)) _ _ _ hown htw hsz Qa).mono ?_
   case hu=>exact e0.out
   rintro e w1 ⟨v1,rfl,ho1,hb1⟩;have hbel1:=hbel.trans hb1;have hsz1:=hbel1.size
   have hl1:(DZ n 0++Lib.decDigits (n / 16777216 % 256)).length<=100:=by
    have:=DC (n / 16777216 % 256) (Nat.mod_lt _ Qc);rw [List.length_append];omega
   go_wp2_with (at_builtin;refine By Aii rfl _ _ rfl 46 rfl rfl ho1 hbel1 hsz1 rfl Qm Qa ?_;intro v2 w2 ho2 hb2 _);go_roundw
   case rel=>exact ⟨1,Qa,Akz,by have e:DZ n 1=DZ n 0++Lib.decDigits (n / 16777216 % 256)++[46]:=(by simp [DZ,CN]);rw [e];exact ho2,hb2⟩
   case measure=>simp [intOf]
  ·go_wp2_with fail;refine (Ef w.heap.size (n / 65536 % 256) _ ?hu (U64.small (Nat.mod_lt _ Qc)) _ _ _ hown htw hsz Qa).mono ?_
   case hu=>exact e1.out
   rintro e w1 ⟨v1,rfl,ho1,hb1⟩;have hbel1:=hbel.trans hb1;have hsz1:=hbel1.size
   have hl1:(DZ n 1++Lib.decDigits (n / 65536 % 256)).length<=100:=by
    have:=DC (n / 65536 % 256) (Nat.mod_lt _ Qc);rw [List.length_append];omega
   go_wp2_with (at_builtin;refine By Aii rfl _ _ rfl 46 rfl rfl ho1 hbel1 hsz1 rfl Qm Qa ?_;intro v2 w2 ho2 hb2 _);go_roundw
   case rel=>exact ⟨2,Qa,Akz,by have e:DZ n 2=DZ n 1++Lib.decDigits (n / 65536 % 256)++[46]:=(by simp [DZ,CN]);rw [e];exact ho2,hb2⟩
   case measure=>simp [intOf]
  ·go_wp2_with fail;refine (Ef w.heap.size (n / 256 % 256) _ ?hu (U64.small (Nat.mod_lt _ Qc)) _ _ _ hown htw hsz Qa).mono ?_
   case hu=>exact e2.out
   rintro e w1 ⟨v1,rfl,ho1,hb1⟩;have hbel1:=hbel.trans hb1;have hsz1:=hbel1.size
   have hl1:(DZ n 2++Lib.decDigits (n / 256 % 256)).length<=100:=by
    have:=DC (n / 256 % 256) (Nat.mod_lt _ Qc);rw [List.length_append];omega
   go_wp2_with (at_builtin;refine By Aii rfl _ _ rfl 46 rfl rfl ho1 hbel1 hsz1 rfl Qm Qa ?_;intro v2 w2 ho2 hb2 _);go_roundw
   case rel=>exact ⟨3,Qa,Akz,by have e:DZ n 3=DZ n 2++Lib.decDigits (n / 256 % 256)++[46]:=(by simp [DZ,CN]);rw [e];exact ho2,hb2⟩
   case measure=>simp [intOf]
  ·go_wp2_with fail;refine (Ef w.heap.size (n % 256) _ ?hu (U64.small (Nat.mod_lt _ Qc)) _ _ _ hown htw hsz Qa).mono ?_
   case hu=>exact e3.out
   rintro e w1 ⟨v1,rfl,ho1,hb1⟩;have hbel1:=hbel.trans hb1;have hsz1:=hbel1.size
   have hl1:(DZ n 3++Lib.decDigits (n % 256)).length<=100:=by
    have:=DC (n % 256) (Nat.mod_lt _ Qc);rw [List.length_append];omega
   go_wp2_with fail;go_roundw
   case rel=>exact ⟨4,Qa,Akz,by have e:DZ n 4=DZ n 3++Lib.decDigits (n % 256):=(by simp [DZ,CN]);rw [e];exact ho1,hbel1⟩
   case measure=>simp [intOf]
  ·have hcv:=JY (P:=Tryz.prog) (S:=9) Tryz.underlying25 Tryz.underlying5 Tryz.underlying9 hown;go_wp2_with fail;go_ret;exact Hk rfl hbel
theorem Pv (c:UInt8) (l:List UInt8):∀ p∈Ay c l,p.length<=l.length:=by
 induction l with
 | nil=>intro p hp;simp [Ay] at hp;subst hp;exact Nat.le_refl _
 | cons d r ih=>
  intro p hp;rw [Do] at hp
  by_cases h:d=c
  ·rw [if_pos h] at hp
   rcases List.mem_cons.1 hp with rfl | hp
   ·simp
   ·have:=ih p hp;simp;omega
  ·rw [if_neg h] at hp;have hne:=DI c r
   cases hs:Ay c r with
   | nil=>exact absurd hs hne
   | cons x y=>
    rw [hs] at hp ih
    rcases List.mem_cons.1 hp with rfl | hp
    ·have:=ih x Qf;simp;omega
    ·have:=ih p (by simp at hp⊢;exact .inr hp);simp;omega
theorem PG (s:List UInt8):∀ p∈Bg s,p.length<=s.length:=by
 intro p hp;unfold Bg at hp;split at hp
 ·exact Pv 46 s p (List.dropLast_subset _ hp)
 ·exact Pv 46 s p hp
theorem Aae (s:List UInt8):(Bg s).length<=s.length+1:=by
 have:=Pr 46 s;unfold Bg;split
 ·rw [List.length_dropLast];omega
 ·exact this
theorem Pn {l:List ByteArray} {ls:List (List UInt8)} (h:l.map (·.toList)=ls) {N:Nat} (hN:∀ p∈ls,p.length<=N) (i:Nat) (hi:i<l.length):(l[i]).size<=N:=by
 rw [<-Aa];apply hN;rw [<-h];exact List.mem_map_of_mem (List.getElem_mem hi)
theorem Oy {l:List ByteArray} (h:0<l.length):(l.map (·.toList)).getLast? =some (l[l.length - 1].toList):=by
 rw [List.getLast?_eq_getElem?,List.length_map,List.getElem?_map,List.getElem?_eq_getElem Qa];rfl
theorem Lr {w:World} {g:Nat} {l:List ByteArray} {c:Nat} (h:∀ i (h:i<l.length),w.cell? ⟨g,i,none⟩=some (.string l[i])):Fv w (.slice (some ⟨g,0,none⟩) l.length c) l:=
 ⟨_,c,rfl,fun _=>⟨g,0,rfl,fun i hi=>by rw [Nat.zero_add];exact h i hi⟩⟩
theorem TE (s:ByteArray) (w:World) (hm:ML w) (hs:s.size<4294967281):
  Calls Tryz.prog 342 #[.string s] w (AjU w (Bg s.toList)):=by
 go_enter Tryz.func342,Tryz.ntmps342;go_wp2_with fail;refine (AdU s 46 _ hm hs).mono ?_;rintro e w1 ⟨l,rfl,hl,hc,hb⟩
 have hll:Hid (l.length=(Ay 46 s.toList).length):=H0 (by have:=congrArg List.length hl.out;rwa [List.length_map] at this)
 have hn0:0<l.length:=by rw [hll.out];exact List.length_pos_iff.2 (DI _ _)
 have hn1:l.length<=4294967281:=by rw [hll.out];have:=Pr 46 s.toList;rw [Aa] at this;omega
 have hlast:Hid ((Ay 46 s.toList).getLast? =some (l[l.length - 1].toList)):=H0 (by rw [<-hl.out];exact Oy hn0)
 have hcl:=hc (l.length - 1) Qa;have e1:IntKind.i64.wrap ((l.length:Int) - 1)=(l.length:Int) - 1:=IntWalk.i64_in _ Qa;replace hc:=H0 hc
 by_cases hn:l.length=1
 ·have hq:(l.length:Int)<=1:=Qa
  have hP:Hid (l.map (·.toList)=Bg s.toList):=H0 (by
   unfold Bg;rw [if_neg QX];exact hl.out)
  replace hn:=H0 hn;go_wp2_with fail;go_ret;exact ⟨_,l,rfl,hP,Lr hc.out,hb⟩
 have hq:(1:Int)<(l.length:Int):=Qa;replace hn:=H0 hn;cases hem:(l[l.length - 1].toList.isEmpty)
 ·have hP:Hid (l.map (·.toList)=Bg s.toList):=H0 (by
   unfold Bg;rw [if_neg (by rw [hlast.out];rintro ⟨_,h⟩;rw [Option.some.inj h] at hem;cases hem)];exact hl.out)
  go_wp2_with fail;go_ret;exact ⟨_,l,rfl,hP,Lr hc.out,hb⟩
 ·have hP:Hid ((l.dropLast).map (·.toList)=Bg s.toList):=H0 (by
   unfold Bg;rw [if_pos ⟨QX,by rw [hlast.out];congr 1;simpa using hem⟩,<-hl.out,List.map_dropLast])
  have hdl:Hid (l.dropLast.length=l.length - 1):=H0 List.length_dropLast
  have hR:Hid (Fv w1 (.slice (some ⟨w.heap.size,0,none⟩) (l.length - 1) l.length) l.dropLast):=H0 (by
   rw [<-hdl.out]
   exact Lr (fun i hi=>by
    have hi2:i<l.length:=by have:=hdl.out;omega
    rw [List.getElem_dropLast];exact hc.out i hi2))
  go_wp2_with fail;go_ret;exact ⟨_,l.dropLast,rfl,hP,hR.out,hb⟩
theorem Ti {w:World} {v:Value} {l:List ByteArray} (h:Fv w v l) (hn:0<l.length):∃ g o c,v= .slice (some ⟨g,o,none⟩) l.length c/\(∀ i (h:i<l.length),w.cell? ⟨g,o+i,none⟩=some (.string l[i])):=by
 obtain ⟨a,c,rfl,hc⟩:=h;obtain ⟨g,o,rfl,hcc⟩:=hc hn;exact ⟨g,o,c,rfl,hcc⟩
theorem Ags {l:List ByteArray} {ls:List (List UInt8)} (h:l.map (·.toList)=ls) (hn:0<l.length):Yi ls=l[l.length - 1].toList:=by
 unfold Yi;rw [<-h,Oy hn];rfl
theorem Ad5 (s:ByteArray) (w:World) (hm:ML w) (hs:s.size<4294967281):
  Calls Tryz.prog 329 #[.string s] w (Lt w (Mn s.toList)):=by
 go_enter Tryz.func329,Tryz.ntmps329;go_wp2_with fail;refine (TE s _ hm hs).mono ?_;rintro e w1 ⟨v,l,rfl,hl,hrd,hb⟩
 have hn0:0<l.length:=by
  have:=congrArg List.length hl.out;rw [List.length_map] at this;rw [this];exact List.length_pos_iff.2 (Np _)
 have hn1:l.length<=4294967281:=by
  have:=congrArg List.length hl.out;rw [List.length_map] at this;rw [this];have:=Aae s.toList;rw [Aa] at this;omega
 obtain ⟨g,o,c,rfl,hcc⟩:=Ti hrd hn0;have hcl:=hcc (l.length - 1) Qa;have hz:=Pn hl.out (PG s.toList) (l.length - 1) Qa;rw [Aa] at hz;have hlast:=H0 (Ags hl.out hn0);have e1:IntKind.i64.wrap ((l.length:Int) - 1)=(l.length:Int) - 1:=IntWalk.i64_in _ Qa;have e2:(o:Int)+((l.length:Int) - 1)=((o+(l.length - 1):Nat):Int):=Qa;clear hrd hcc;replace e2:=H0 e2;generalize hT:l[l.length - 1]=t at hcl hz hlast;replace hT:=H0 hT
 have hd:=H0 (fun w=>RL t 10 w Qa Qc)
 have hn:=H0 (fun w=>Se t w Qa)
 have hE:Hid (Mn s.toList=((Bm 10 t.toList).isSome || (FY t.toList).isSome)):=H0 (by unfold Mn;rw [hlast.out])
 clear hz;cases hq:(Bm 10 t.toList).isSome
 all_goals
  replace hq:=H0 hq;go_wp2_with fail;refine (hd.out _).mono ?_;rintro e w2 ⟨rfl,rfl⟩;rw [hq.out];go_wp2_with (go_at_call 344;refine (hn.out _).mono ?_;rintro e w' ⟨rfl,rfl⟩);go_ret
  exact ⟨A7 (by rw [hE.out,hq.out];rfl),hb⟩
def AhG (w:World) (o:Option Nat) (e:Ending) (w':World):Prop:=e= .returned (.tuple #[.int .u32 ((o.getD 0:Nat):Int),.bool o.isSome])/\Below w.heap.size w w'
theorem Ea {w w':World} {o:Option Nat} (h:o=none) (hb:Below w.heap.size w w'):AhG w o (.returned (.tuple #[.int .u32 0,.bool false])) w':=by subst h;exact ⟨rfl,hb⟩
theorem Sy (s:ByteArray) (w:World) (hm:ML w) (hs:s.size<4294967281):
  Calls Tryz.prog 330 #[.string s] w (AhG w (BD s.toList)):=by
 go_enter Tryz.func330,Tryz.ntmps330;go_wp2_with fail;refine (TE s _ hm hs).mono ?_;rintro e w1 ⟨v,l,rfl,hl,hrd,hb⟩
 have hll:Hid ((Bg s.toList).length=l.length):=H0 (by have:=congrArg List.length hl.out;rwa [List.length_map,eq_comm] at this)
 have hn0:0<l.length:=by rw [<-hll.out];exact List.length_pos_iff.2 (Np _)
 obtain ⟨g,o,c,rfl,hcc⟩:=Ti hrd hn0;clear hrd
 by_cases h4:4<l.length
 ·have hq:(4:Int)<(l.length:Int):=Qa
  have hno:Hid (BD s.toList=none):=H0 (by unfold BD Nc;rw [hll.out,if_pos h4])
  replace hcc:=H0 hcc;go_wp2_with fail;go_ret2;exact Ea hno.out hb
 have hq:(l.length:Int)<=4:=Qa
 have hP:Hid (BD s.toList=Br 0 (Bg s.toList) 0):=H0 (by unfold BD Nc;rw [hll.out,if_neg h4])
 have hsz:∀ i (h:i<l.length),l[i].size<=4294967281:=fun i hi=>by
  have:=Pn hl.out (PG s.toList) i hi;rw [Aa] at this;omega
 have hdr:∀ i (h:i<l.length),(Bg s.toList).drop i=l[i].toList :: (Bg s.toList).drop (i+1):=fun i hi=>by
  rw [<-hl.out,List.drop_eq_getElem_cons (by simpa using hi)];simp
 replace hcc:=H0 hcc;replace hsz:=H0 hsz;replace hdr:=H0 hdr;go_wp2_with fail
 go_loop [5,17] (fun nv iv=>∃ k sum:Nat,iv= .int .i64 k/\nv= .int .i64 sum/\k<=l.length/\sum<=4294967296/\Hid (sum+2 ^ (8 * (4 - k))<=4294967296\/k=l.length/\sum<4294967296)/\Hid (Br k ((Bg s.toList).drop k) sum=BD s.toList)) (fun _ i=>l.length - (intOf i).toNat)
 case atStart=>exact ⟨0,0,rfl,rfl,Nat.zero_le _,Qa,H0 (.inl Qc),H0 (by rw [List.drop_zero,hP.out])⟩
 case round=>
  obtain ⟨k,sum,rfl,rfl,hk,hsum,hsb,hg⟩:=hrel
  by_cases hlt:k<l.length
  ·have hltI:(k:Int)<(l.length:Int):=Qa;have hcell:=hcc.out k hlt;have hz:=hsz.out k hlt
   have hn:=H0 (fun w=>Se l[k] w Qa)
   have hd1:=H0 (hdr.out k hlt);go_wp2_with fail;refine (hn.out _).mono ?_;rintro e w2 ⟨rfl,rfl⟩
   cases hv:FY l[k].toList with
   | none=>
    have hno:Hid (BD s.toList=none):=H0 (by
     rw [<-hg.out,hd1.out]
     cases hr:(Bg s.toList).drop (k+1) with
     | nil=>rw [Br,hv]
     | cons y r=>rw [Br,hv])
    go_wp2_with fail;go_ret2;exact Ea hno.out hb
   | some v=>
    obtain ⟨m,hme⟩:∃ m,m=min v 4294967296:=⟨_,rfl⟩
    have hrm:JB 4294967296 w1 (some v)=fun e w'=>e= .returned (.tuple #[.int .i64 (m:Int),.bool true])/\w1=w':=by unfold JB;rw [hme];rfl
    have hmC:m<=4294967296:=by rw [hme];exact Nat.min_le_right _ _
    rw [show min ((some v).getD 0) 4294967296=m from hme.symm,show (some v).isSome=true from rfl];replace hme:=H0 hme;clear hrm
    by_cases hla:k+1=l.length
    ·have hd2:(Bg s.toList).drop (k+1)=[]:=List.drop_of_length_le QX
     have hg2:Hid (BD s.toList=if v<2 ^ (8 * (4 - k)) then some (sum+v) else none):=H0 (by rw [<-hg.out,hd1.out,hd2,Br,hv])
     clear hd2;replace hv:=H0 hv
     rcases (show k=0\/k=1\/k=2\/k=3 by omega) with rfl | rfl | rfl | rfl
     ·have hle:(l.length:Int) - 1=0:=Qa;have hsb2:sum+4294967296<=4294967296:=Q6
      by_cases hvP:v<4294967296
      ·have hmv:m=v:=Qu;subst hmv;have hvI:decide ((4294967296:Int)<=(m:Int))=false:=decide_eq_false Qa
       have hnew:Hid (Br 1 ((Bg s.toList).drop 1) (sum+m)=BD s.toList):=H0 (by
        rw [hg2.out,if_pos hvP,List.drop_of_length_le QX,Br])
       have hs3:sum+m<4294967296:=Qa;replace hsb2:=H0 hsb2;replace hs3:=H0 hs3;replace hvP:=H0 hvP;go_wp2_with fail;go_round
       case rel=>exact ⟨1,sum+m,Ql,Ql,Qa,Q7,H0 (.inr ⟨Qa,hs3.out⟩),hnew⟩
       case measure=>simp [intOf];omega
      ·have hvI:4294967296<=(m:Int):=Qu;have hno:Hid (BD s.toList=none):=H0 QU;replace hsb2:=H0 hsb2;go_wp2_with fail;go_ret2;exact Ea hno.out hb
     ·have hle:(l.length:Int) - 1=1:=Qa;have hsb2:sum+16777216<=4294967296:=Q6
      by_cases hvP:v<16777216
      ·have hmv:m=v:=Qu;subst hmv;have hvI:decide ((16777216:Int)<=(m:Int))=false:=decide_eq_false Qa
       have hnew:Hid (Br 2 ((Bg s.toList).drop 2) (sum+m)=BD s.toList):=H0 (by
        rw [hg2.out,if_pos hvP,List.drop_of_length_le QX,Br])
       have hs3:sum+m<4294967296:=Qa;replace hsb2:=H0 hsb2;replace hs3:=H0 hs3;replace hvP:=H0 hvP;go_wp2_with fail;go_round
       case rel=>exact ⟨2,sum+m,Ql,Ql,Qa,Q7,H0 (.inr ⟨Qa,hs3.out⟩),hnew⟩
       case measure=>simp [intOf];omega
      ·have hvI:16777216<=(m:Int):=Qu;have hno:Hid (BD s.toList=none):=H0 QU;replace hsb2:=H0 hsb2;go_wp2_with fail;go_ret2;exact Ea hno.out hb
     ·have hle:(l.length:Int) - 1=2:=Qa;have hsb2:sum+65536<=4294967296:=Q6
      by_cases hvP:v<65536
      ·have hmv:m=v:=Qu;subst hmv;have hvI:decide ((65536:Int)<=(m:Int))=false:=decide_eq_false Qa
       have hnew:Hid (Br 3 ((Bg s.toList).drop 3) (sum+m)=BD s.toList):=H0 (by
        rw [hg2.out,if_pos hvP,List.drop_of_length_le QX,Br])
       have hs3:sum+m<4294967296:=Qa;replace hsb2:=H0 hsb2;replace hs3:=H0 hs3;replace hvP:=H0 hvP;go_wp2_with fail;go_round
       case rel=>exact ⟨3,sum+m,Ql,Ql,Qa,Q7,H0 (.inr ⟨Qa,hs3.out⟩),hnew⟩
       case measure=>simp [intOf];omega
      ·have hvI:65536<=(m:Int):=Qu;have hno:Hid (BD s.toList=none):=H0 QU;replace hsb2:=H0 hsb2;go_wp2_with fail;go_ret2;exact Ea hno.out hb
     ·have hle:(l.length:Int) - 1=3:=Qa;have hsb2:sum+256<=4294967296:=Q6
      by_cases hvP:v<256
      ·have hmv:m=v:=Qu;subst hmv;have hvI:decide ((256:Int)<=(m:Int))=false:=decide_eq_false Qa
       have hnew:Hid (Br 4 ((Bg s.toList).drop 4) (sum+m)=BD s.toList):=H0 (by
        rw [hg2.out,if_pos hvP,List.drop_of_length_le QX,Br])
       have hs3:sum+m<4294967296:=Qa;replace hsb2:=H0 hsb2;replace hs3:=H0 hs3;replace hvP:=H0 hvP;go_wp2_with fail;go_round
       case rel=>exact ⟨4,sum+m,Ql,Ql,Qa,Q7,H0 (.inr ⟨Qa,hs3.out⟩),hnew⟩
       case measure=>simp [intOf];omega
      ·have hvI:256<=(m:Int):=Qu;have hno:Hid (BD s.toList=none):=H0 QU;replace hsb2:=H0 hsb2;go_wp2_with fail;go_ret2;exact Ea hno.out hb
    ·have hd2:∃ y r,(Bg s.toList).drop (k+1)=y :: r:=by
      cases hr:(Bg s.toList).drop (k+1) with
      | nil=>have:=congrArg List.length hr;rw [List.length_drop,List.length_nil] at this;have:=hll.out;omega
      | cons y r=>exact ⟨y,r,rfl⟩
     have hg2:Hid (BD s.toList=if v<=255 then Br (k+1) ((Bg s.toList).drop (k+1)) (sum+v * 2 ^ (8 * (3 - k))) else none):=H0 (by
      obtain ⟨y,r,h⟩:=hd2
      rw [<-hg.out,hd1.out,h,Br,hv])
     clear hd2;replace hv:=H0 hv
     rcases (show k=0\/k=1\/k=2 by omega) with rfl | rfl | rfl
     ·have hle:(0:Int)<(l.length:Int) - 1:=Qa;have hle2:((0:Int)==(l.length:Int) - 1)=false:=beq_eq_false_iff_ne.2 Qa;have hsb2:sum+4294967296<=4294967296:=Q6
      by_cases hvP:v<=255
      ·have hmv:m=v:=Qu;subst hmv;have hvI:(m:Int)<=255:=Qa
       have hnew:Hid (Br 1 ((Bg s.toList).drop 1) (sum+m * 16777216)=BD s.toList):=H0 (by
        rw [hg2.out,if_pos hvP])
       have hs3:sum+m * 16777216+16777216<=4294967296:=Qa;replace hsb2:=H0 hsb2;replace hs3:=H0 hs3;go_wp2_with fail;go_round
       case rel=>exact ⟨1,sum+m * 16777216,Ql,Ql,Qa,Q7,H0 (.inl hs3.out),hnew⟩
       case measure=>simp [intOf];omega
      ·have hvI:255<(m:Int):=Qu;have hno:Hid (BD s.toList=none):=H0 QU;replace hsb2:=H0 hsb2;go_wp2_with fail;go_ret2;exact Ea hno.out hb
     ·have hle:(1:Int)<(l.length:Int) - 1:=Qa;have hle2:((1:Int)==(l.length:Int) - 1)=false:=beq_eq_false_iff_ne.2 Qa;have hsb2:sum+16777216<=4294967296:=Q6
      by_cases hvP:v<=255
      ·have hmv:m=v:=Qu;subst hmv;have hvI:(m:Int)<=255:=Qa
       have hnew:Hid (Br 2 ((Bg s.toList).drop 2) (sum+m * 65536)=BD s.toList):=H0 (by
        rw [hg2.out,if_pos hvP])
       have hs3:sum+m * 65536+65536<=4294967296:=Qa;replace hsb2:=H0 hsb2;replace hs3:=H0 hs3;go_wp2_with fail;go_round
       case rel=>exact ⟨2,sum+m * 65536,Ql,Ql,Qa,Q7,H0 (.inl hs3.out),hnew⟩
       case measure=>simp [intOf];omega
      ·have hvI:255<(m:Int):=Qu;have hno:Hid (BD s.toList=none):=H0 QU;replace hsb2:=H0 hsb2;go_wp2_with fail;go_ret2;exact Ea hno.out hb
     ·have hle:(2:Int)<(l.length:Int) - 1:=Qa;have hle2:((2:Int)==(l.length:Int) - 1)=false:=beq_eq_false_iff_ne.2 Qa;have hsb2:sum+65536<=4294967296:=Q6
      by_cases hvP:v<=255
      ·have hmv:m=v:=Qu;subst hmv;have hvI:(m:Int)<=255:=Qa
       have hnew:Hid (Br 3 ((Bg s.toList).drop 3) (sum+m * 256)=BD s.toList):=H0 (by
        rw [hg2.out,if_pos hvP])
       have hs3:sum+m * 256+256<=4294967296:=Qa;replace hsb2:=H0 hsb2;replace hs3:=H0 hs3;go_wp2_with fail;go_round
       case rel=>exact ⟨3,sum+m * 256,Ql,Ql,Qa,Q7,H0 (.inl hs3.out),hnew⟩
       case measure=>simp [intOf];omega
      ·have hvI:255<(m:Int):=Qu;have hno:Hid (BD s.toList=none):=H0 QU;replace hsb2:=H0 hsb2;go_wp2_with fail;go_ret2;exact Ea hno.out hb
  ·have hke:k=l.length:=Qa
   have hfin:Hid (BD s.toList=some sum):=H0 (by
    rw [<-hg.out,List.drop_of_length_le QX,Br])
   have hsl:sum<4294967296:=by
    rcases hsb.out with h | h
    ·have:=Nat.two_pow_pos (8 * (4 - k));omega
    ·exact h.2
   have hgeI:(l.length:Int)<=(k:Int):=Qa;have e1:IntKind.u32.wrap (sum:Int)=(sum:Int):=Tw _ Qa Qa;replace hke:=H0 hke;go_wp2_with fail;go_ret2;unfold AhG;rw [hfin.out];exact ⟨rfl,hb⟩
theorem YH {α:Type} (a:List α) {b:List α} (h:b≠[]):(a++b).getLast? =b.getLast? :=by
 rw [List.getLast?_append]
 cases hb:b.getLast? with
 | none=>exact absurd (List.getLast?_eq_none_iff.1 hb) h
 | some x=>rfl
def Le (b n:Nat):List UInt8:=if h:n<b\/b<2 then [BN n] else Le b (n / b)++[BN (n % b)]
termination_by n
decreasing_by exact Nat.div_lt_self Qa Qa
theorem GD {b n:Nat} (h:n<b):Le b n=[BN n]:=by rw [Le,dif_pos (.inl h)]
theorem Ms {b n:Nat} (h:¬ n<b) (hb:2<=b):Le b n=Le b (n / b)++[BN (n % b)]:=by rw [Le,dif_neg Qa]
theorem RG:∀ d:Fin 16,Nw ((BN d.val).toNat:Int)=(d.val:Int)/\BN d.val≠46/\BN d.val≠120/\BN d.val≠88/\(0<d.val->BN d.val≠48):=Qe
theorem YM:∀ d:Fin 10,BN d.val=UInt8.ofNat (48+d.val):=Qe
theorem Oq {d b:Nat} (h:d<b) (hb:b<=16):Ag ((BN d).toNat:Int) (b:Int)=(d:Int):=by
 have:=(RG ⟨d,Qa⟩).1;unfold Ag;rw [show Nw ((BN d).toNat:Int)=(d:Int) from this,if_neg Qa]
theorem GU (n:Nat):Le 10 n=Lib.decDigits n:=by
 induction n using Nat.strongRecOn with
 | _ n ih=>
  by_cases h:n<10
  ·rw [GD h,Lib.decDigits_one h];exact congrArg (fun x=>[x]) (YM ⟨n,h⟩)
  ·rw [Ms h Qc,ih (n / 10) Qa]
   conv=>rhs;rw [Lib.decDigits,dif_neg h]
   rw [show BN (n % 10)=UInt8.ofNat (48+n % 10) from YM ⟨n % 10,Qa⟩]
theorem OS (b n:Nat):Le b n≠[]:=by
 rw [Le];split<;>simp
theorem O8 {b:Nat} (hb:2<=b) (hb2:b<=16) (n:Nat):∀ c∈Le b n,∃ d,d<b/\c=BN d:=by
 induction n using Nat.strongRecOn with
 | _ n ih=>
  by_cases h:n<b
  ·rw [GD h];intro c hc;simp at hc;exact ⟨n,h,hc⟩
  ·rw [Ms h hb];intro c hc
   rcases List.mem_append.1 hc with hc | hc
   ·exact ih (n / b) (Nat.div_lt_self Qa Qa) c hc
   ·simp at hc;exact ⟨n % b,Nat.mod_lt _ Qa,hc⟩
theorem AcD {b:Nat} (hb:2<=b) (hb2:b<=16) (n:Nat) (h0:0<n):∃ c r,Le b n=c :: r/\c≠48:=by
 induction n using Nat.strongRecOn with
 | _ n ih=>
  by_cases h:n<b
  ·exact ⟨BN n,[],GD h,(RG ⟨n,Qa⟩).2.2.2.2 h0⟩
  ·obtain ⟨c,r,h1,h2⟩:=ih (n / b) (Nat.div_lt_self Qa Qa) (Nat.div_pos Qa Qa)
   exact ⟨c,r++[BN (n % b)],by rw [Ms h hb,h1];rfl,h2⟩
theorem Hq (b:Nat):∀ (l m:List UInt8) (acc:Nat),AC b acc (l++m)=(AC b acc l).bind fun x=>AC b x m
 | [],m,acc=>rfl
 | c :: r,m,acc=>by
  rw [List.cons_append,AC,AC];split
  ·rfl
  ·exact Hq b r m _
theorem Ov {b:Nat} (hb:2<=b) (hb2:b<=16) (n:Nat):AC b 0 (Le b n)=some n:=by
 have one:∀ acc d,d<b->AC b acc [BN d]=some (acc * b+d):=by
  intro acc d hd;rw [AC,Oq hd hb2,if_neg Qa,AC];simp
 induction n using Nat.strongRecOn with
 | _ n ih=>
  by_cases h:n<b
  ·rw [GD h,one _ _ h];simp
  ·rw [Ms h hb,Hq,ih (n / b) (Nat.div_lt_self Qa Qa)];show AC b (n / b) [BN (n % b)]=some n;rw [one _ _ (Nat.mod_lt _ Qa),Nat.mul_comm,Nat.div_add_mod]
theorem AfH (n:Nat):FY (Le 10 n)=some n:=by
 have h:=Ov (b:=10) Qc Qc n
 match hL:Le 10 n with
 | []=>exact absurd hL (OS _ _)
 | [c]=>rw [hL] at h;exact h
 | c :: d :: r=>
  have h0:0<n:=by
   by_cases h0:n=0
   ·rw [h0,GD Qc] at hL;simp at hL
   ·omega
  obtain ⟨c',r',h1,h2⟩:=AcD (b:=10) Qc Qc n h0;rw [hL] at h1 h;obtain ⟨rfl,_⟩:=List.cons.inj h1;rw [FY,if_neg h2,h]
theorem AdW {b:Nat} (hb:2<=b) (hb2:b<=16) (n:Nat):∀ c∈Le b n,c≠46:=by
 intro c hc;obtain ⟨d,hd,rfl⟩:=O8 hb hb2 n c hc;exact (RG ⟨d,Qa⟩).2.1
theorem TV {s x:List UInt8} {ps:List (List UInt8)} (h:Ay 46 s=ps++[x]) (hx:x≠[]):Bg s=ps++[x]:=by
 unfold Bg;rw [h,if_neg];rintro ⟨_,h2⟩;rw [YH _ Qf] at h2;simp at h2;exact hx h2
theorem LJ:∀ (ps:List (List UInt8)) (x:List UInt8),(∀ p∈ps,∀ c∈p,c≠46)->(∀ c∈x,c≠46)->Ay 46 (ps.flatMap (fun p=>p++[46])++x)=ps++[x]
 | [],x,_,hx=>Kj x hx
 | p :: ps,x,hp,hx=>by
  have e:(p :: ps).flatMap (fun p=>p++[46])++x=p++46 :: (ps.flatMap (fun p=>p++[46])++x):=Qf
  rw [e,Hy,Kj p (hp p Qf),LJ ps x (fun q hq=>hp q (by simp [hq])) hx]
  rfl
theorem Xs {i acc v:Nat} {x:List UInt8} (h:FY x=some v) (hv:v<2 ^ (8 * (4 - i))):Br i [x] acc=some (acc+v):=by
 rw [Br,h];dsimp only;rw [if_pos hv]
theorem Il {i acc v:Nat} {x:List UInt8} {L:List (List UInt8)} (hL:L≠[]) (h:FY x=some v) (hv:v<=255):Br i (x :: L) acc=Br (i+1) L (acc+v * 2 ^ (8 * (3 - i))):=by
 match L,hL with
 | y :: r,_=>rw [Br,h];dsimp only;rw [if_pos hv]
theorem IB (n:Nat):El n=[CN n 0,CN n 1,CN n 2].flatMap (fun p=>p++[46])++CN n 3:=by
 simp [El,DZ]
theorem Rm (n k:Nat):∀ c∈CN n k,c≠46:=by
 unfold CN;rw [<-GU];exact AdW Qc Qc _
theorem Ie (n k:Nat):FY (CN n k)=some (n / 256 ^ (3 - k) % 256):=by
 unfold CN;rw [<-GU];exact AfH _
theorem Rc (n k:Nat):CN n k≠[]:=by unfold CN;rw [<-GU];exact OS _ _
theorem NM (n:Nat):Ay 46 (El n)=[CN n 0,CN n 1,CN n 2]++[CN n 3]:=by
 rw [IB]
 exact LJ _ _ (by intro p hp;simp at hp;rcases hp with rfl | rfl | rfl<;>exact Rm _ _) (Rm _ _)
theorem Vt {n:Nat} (h:n<4294967296):Nc [CN n 0,CN n 1,CN n 2,CN n 3]=some n:=by
 unfold Nc;rw [if_neg Qf,Il Qf (Ie n 0) Qa,Il Qf (Ie n 1) Qa,Il Qf (Ie n 2) Qa,Xs (Ie n 3) Qi];congr 1;simp;omega
theorem Xg {n:Nat} (h:n<4294967296):BD (El n)=some n:=by
 unfold BD;rw [TV (NM n) (Rc _ _)];exact Vt h
theorem WP (n:Nat):El n≠[]:=by
 rw [IB];intro h;exact Rc n 3 (List.append_eq_nil_iff.1 h).2
def dig (c:UInt8):Bool:=decide (48<=c.toNat) && decide (c.toNat<=57)
theorem Wy:∀ n:Fin 256,(decide (Ag (n.val:Int) 10<0))= !(decide (48<=n.val) && decide (n.val<=57)):=Qe
theorem Zi (c:UInt8):Ag (c.toNat:Int) ((10:Nat):Int)<0↔dig c=false:=by
 have:=Wy ⟨c.toNat,c.toNat_lt⟩;unfold dig;constructor
 ·intro h;rw [decide_eq_true (show Ag (c.toNat:Int) 10<0 from h)] at this;have this:true= !(decide (48<=c.toNat) && decide (c.toNat<=57)):=this;cases hq:(decide (48<=c.toNat) && decide (c.toNat<=57))
  ·rfl
  ·rw [hq] at this;cases this
 ·intro h;apply of_decide_eq_true (p:=Ag (c.toNat:Int) 10<0);rw [this];show (!(decide (48<=c.toNat) && decide (c.toNat<=57)))=true;rw [h];rfl
theorem Aaj {l:List UInt8} {n:Nat}:∀ (acc:Nat),AC 10 acc l=some n->∀ c∈l,dig c=true:=by
 induction l with
 | nil=>intro acc h c hc;cases hc
 | cons d r ih=>
  intro acc h c hc;rw [AC] at h;split at h
  ·cases h
  ·rename_i hd
   rcases List.mem_cons.1 hc with rfl | hc
   ·cases hx:dig c
    ·exact absurd ((Zi c).2 hx) hd
    ·rfl
   ·exact ih _ h c hc
theorem M6 {l:List UInt8} {n:Nat} (h:Bm 10 l=some n):l≠[]/\∀ c∈l,dig c=true:=by
 unfold Bm at h;split at h
 ·cases h
 ·rename_i hn;exact ⟨hn,Aaj 0 h⟩
theorem Ady {r:List UInt8} {v:Int} (h:FX r=some v):∃ s d:List UInt8,r=s++d/\(s=[]\/s=[45]\/s=[43])/\d≠[]/\∀ c∈d,dig c=true:=by
 have key:∀ d:List UInt8,(M9 d).isSome=true->d≠[]/\∀ c∈d,dig c=true:=fun d hd=>by
  obtain ⟨n,hn⟩:=Option.isSome_iff_exists.1 hd;unfold M9 at hn;split at hn
  ·cases hn
  ·exact M6 hn
 unfold FX at h;split at h
 all_goals
  rw [Option.map_eq_some_iff] at h;obtain ⟨n,hn,_⟩:=h
  have hk:=key _ (by rw [hn];rfl)
 ·exact ⟨[45],_,rfl,.inr (.inl rfl),hk⟩
 ·exact ⟨[43],_,rfl,.inr (.inr rfl),hk⟩
 ·exact ⟨[],_,rfl,.inl rfl,hk⟩
structure AjW (l:List UInt8):Prop where
 ne:(Ak 46 (C5 l).1).1++(Ak 46 (C5 l).1).2.1≠[]
 dg:∀ c∈(Ak 46 (C5 l).1).1++(Ak 46 (C5 l).1).2.1,dig c=true
 pt:¬ ((Ak 46 (C5 l).1).2.2=true/\(Ak 46 (C5 l).1).2.1=[])
 ex:∀ r,(C5 l).2=some r->∃ v,FX r=some v
theorem Y5 {l:List UInt8} {x:Nat × Int} (h:GR l=some x):AjW l:=by
 have hex:∀ r,(C5 l).2=some r->∃ v,FX r=some v:=by
  intro r hr
  cases hv:FX r with
  | some v=>exact ⟨v,rfl⟩
  | none=>
   have:C5 l=((C5 l).1,some r):=by rw [<-hr]
   rw [O3 this hv] at h;cases h
 have ht:∃ m,Gb (C5 l).1 m=some x:=by
  cases hr:(C5 l).2 with
  | none=>
   have e:l=(C5 l).1:=by
    clear h hex
    induction l with
    | nil=>rfl
    | cons c r ih=>
     rw [C5] at hr⊢;split at hr
     ·cases hr
     ·rename_i hc;rw [if_neg hc];show c :: r=c :: (C5 r).1;rw [<-ih hr]
   have e2:C5 l=(l,none):=Prod.ext e.symm hr;rw [NT e2] at h;rw [<-e];exact ⟨0,h⟩
  | some r=>
   obtain ⟨v,hv⟩:=hex r hr
   have:C5 l=((C5 l).1,some r):=by rw [<-hr]
   rw [NU this hv] at h;exact ⟨v,h⟩
 obtain ⟨m,ht⟩:=ht;unfold Gb at ht;split at ht
 ·cases ht
 ·rename_i hp;split at ht
  ·cases ht
  ·rename_i n hn;have hd:=M6 hn
   exact ⟨hd.1,hd.2,fun hx=>hp (.inl hx),hex⟩
theorem Aej (l:List UInt8):∃ t:List UInt8,l=(C5 l).1++t/\(((C5 l).2=none/\t=[])\/∃ c r,(C5 l).2=some r/\t=c :: r/\(c=101\/c=69)):=by
 induction l with
 | nil=>exact ⟨[],rfl,.inl ⟨rfl,rfl⟩⟩
 | cons c r ih=>
  rw [C5];split
  ·rename_i hc;exact ⟨c :: r,rfl,.inr ⟨c,r,rfl,rfl,hc⟩⟩
  ·obtain ⟨t,h1,h2⟩:=ih
   exact ⟨t,by show c :: r=c :: ((C5 r).1++t);rw [<-h1],h2⟩
def okF (c:UInt8):Bool:=dig c || c==46 || c==45 || c==43 || c==101 || c==69
theorem OY {c:UInt8} (h:dig c=true):okF c=true:=by unfold okF;rw [h];simp
theorem Tf {l:List UInt8} {x:Nat × Int} (h:GR l=some x):∀ c∈l,okF c=true:=by
 have hi:=Y5 h;obtain ⟨t,h1,h2⟩:=Aej l;intro c hc;rw [h1] at hc
 rcases List.mem_append.1 hc with hc | hc
 ·rw [Pd 46 (C5 l).1] at hc
  rcases List.mem_append.1 hc with hc | hc
  ·exact OY (hi.dg c (List.mem_append_left _ hc))
  ·split at hc
   ·rcases List.mem_cons.1 hc with rfl | hc
    ·decide
    ·exact OY (hi.dg c (List.mem_append_right _ hc))
   ·cases hc
 ·rcases h2 with ⟨_,rfl⟩ | ⟨d,r,hr,rfl,hd⟩
  ·cases hc
  ·rcases List.mem_cons.1 hc with rfl | hc
   ·rcases hd with rfl | rfl<;>decide
   ·obtain ⟨v,hv⟩:=hi.ex r hr;obtain ⟨s,d2,rfl,hs,_,hd2⟩:=Ady hv
    rcases List.mem_append.1 hc with hc | hc
    ·rcases hs with rfl | rfl | rfl
     ·cases hc
     ·obtain rfl:c=45:=by simpa using hc
      decide
     ·obtain rfl:c=43:=by simpa using hc
      decide
    ·exact OY (hd2 c hc)
theorem AdA {l:List UInt8} (h:(B8 l).isSome=true):∀ c∈l,okF c=true:=by
 unfold B8 at h;split at h
 ·rw [Option.isSome_map] at h;obtain ⟨x,hx⟩:=Option.isSome_iff_exists.1 h;intro c hc
  rcases List.mem_cons.1 hc with rfl | hc
  ·decide
  ·exact Tf hx c hc
 ·rw [Option.isSome_map] at h;obtain ⟨x,hx⟩:=Option.isSome_iff_exists.1 h;exact Tf hx
end Go.Proofs.YtonomfeipkdmhaaGreatDoor
