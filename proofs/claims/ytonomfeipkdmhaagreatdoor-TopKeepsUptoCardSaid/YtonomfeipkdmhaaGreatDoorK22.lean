/- Part 22: lemmas. -/
import Derived.Test.YtonomfeipkdmhaaGreatDoorK20
import Derived.Test.YtonomfeipkdmhaaGreatDoorK21
set_option linter.unusedVariables false
set_option linter.unusedSimpArgs false
set_option maxRecDepth 100000
set_option maxHeartbeats 16000000
namespace Go.Proofs.YtonomfeipkdmhaaGreatDoor
open Go.RowKit
theorem Aa7 (s:ByteArray) (w:World) (hs:s.size<=140737488355328):
  Calls Tryz.prog 293 #[.string s] w (Acb w (Cf s.toList)):=by
 have hF:=H0 (QE s);have hxs:=Tv s
 have hIA:=Adr (Ke s) (by omega)
 obtain ⟨x,hbx⟩:∃ x,(⟨(Lib.trimPrefix s.data.toList [45]).toArray⟩:ByteArray)=x:=⟨_,rfl⟩;rw [show Ke s=x from hbx] at hF hxs hIA;obtain ⟨neg,hneg⟩:=N2 (Lib.hasPrefix s.data.toList [45]);rw [hneg] at hF;go_enter Tryz.func293,Tryz.ntmps293;go_wp2_with (go_at_call 218;refine (Tryz.strings_CutPrefix _ _ _).mono ?_;rintro e w' ⟨rfl,rfl⟩);refine (hIA _).mono ?_;rintro e w1 ⟨rfl,hb⟩;clear hIA;replace hbx:=H0 hbx;replace hneg:=H0 hneg
 rcases TQ x.toList with ⟨h1,h2⟩ | ⟨i,h1,hi,h2⟩
 ·rw [h1]
  have hQ:Hid (Cf s.toList=(G9 x.toList 0).map fun y=>(neg,y)):=H0 (by rw [hF.out,Ut h2])
  replace h1:=H0 h1;replace h2:=H0 h2;go_wp2_with fail;obtain ⟨t,rfl⟩:∃ t,t=x:=⟨_,rfl⟩;obtain ⟨m,hmz⟩:∃ m:Int,m=0:=⟨_,rfl⟩;rw [<-hmz] at hQ⊢
  have hmb: -9999<=m/\m<=9999:=by omega
  obtain ⟨hmb1,hmb2⟩:=hmb;replace hmz:=H0 hmz
  have hts:t.size<=140737488355328:=by omega
  have hz4:=Cc 46 t.toList;rw [Aa] at hz4
  have ht4:t.size<=140737488355328:=by omega
  refine (UN t 46 _ ht4).mono ?_;rintro e w3 ⟨ta,tb,nd,rfl,h3,h4,rfl⟩
  have za:ta.size=(Af 46 t.toList).1.length:=by rw [<-Aa,h3.out]
  have zb:tb.size=(Af 46 t.toList).2.1.length:=by rw [<-Aa,h4.out]
  have hT:Hid (G9 t.toList m=if ((Af 46 t.toList).2.2=true/\tb.toList=[])\/15<ta.size+tb.size then none else match Bo 10 (ta++tb).toList with
    | none=>none
    | some n=>if m - (tb.size:Int)< -22\/22<m - (tb.size:Int) then none else some (n,m - (tb.size:Int))):=H0 (by
   unfold G9;rw [toList_append,h3.out,h4.out,za,zb];rfl)
  have sz:ta.size+tb.size<=140737488355328:=by omega
  replace za:=H0 za;replace zb:=H0 zb;replace hz4:=H0 hz4;clear h3 h4;generalize (Af 46 t.toList).2.2=pt at hT⊢;have hb4:=below_drewN hb nd
  have hcs:(pt=true/\tb.toList.isEmpty=true/\Hid (G9 t.toList m=none))\/(((pt=false)\/(pt=true/\tb.toList.isEmpty=false))/\(15:Int)<(ta.size:Int)+(tb.size:Int)/\Hid (G9 t.toList m=none))\/
    (((pt=false)\/(pt=true/\tb.toList.isEmpty=false))/\(ta.size:Int)+(tb.size:Int)<=15/\Hid (G9 t.toList m=match Bo 10 (ta++tb).toList with
     | none=>none
     | some n=>if m - (tb.size:Int)< -22\/22<m - (tb.size:Int) then none else some (n,m - (tb.size:Int)))):=by
   cases hp:pt
   ·by_cases h15:15<ta.size+tb.size
    ·exact .inr (.inl ⟨.inl rfl,by omega,H0 (by rw [hT.out,if_pos (.inr h15)])⟩)
    ·exact .inr (.inr ⟨.inl rfl,by omega,H0 (by rw [hT.out,if_neg (by rw [hp];rintro (h | h);exact absurd h.1 (by decide);exact h15 h)])⟩)
   ·cases he:tb.toList.isEmpty
    ·have hne:tb.toList≠[]:=by intro h;rw [h] at he;cases he
     by_cases h15:15<ta.size+tb.size
     ·exact .inr (.inl ⟨.inr ⟨rfl,rfl⟩,by omega,H0 (by rw [hT.out,if_pos (.inr h15)])⟩)
     ·exact .inr (.inr ⟨.inr ⟨rfl,rfl⟩,by omega,H0 (by rw [hT.out,if_neg (by rintro (h | h);exact hne h.2;exact h15 h)])⟩)
    ·exact .inl ⟨rfl,rfl,H0 (by rw [hT.out,if_pos (.inl ⟨hp,by simpa using he⟩)])⟩
  clear hT
  rcases hcs with ⟨rfl,c1,cN⟩ | ⟨hpt,c1,cN⟩ | ⟨hpt,c1,cN⟩
  ·have hno:Hid (Cf s.toList=none):=H0 (by rw [hQ.out,cN.out];rfl)
   go_wp2_with fail;go_ret2;exact C1 hno.out hb4
  ·have hno:Hid (Cf s.toList=none):=H0 (by rw [hQ.out,cN.out];rfl)
   rcases hpt with rfl | ⟨rfl,c2⟩
   all_goals
    go_wp2_with fail;go_ret2;exact C1 hno.out hb4
  ·have hzz:(ta++tb:ByteArray).size<=140737488355328:=by rw [ByteArray.size_append];omega
   have hw:=H0 (fun w=>Gg (ta++tb) w hzz)
   have e5:IntKind.i64.wrap (m - (tb.size:Int))=m - (tb.size:Int):=IntWalk.i64_in _ (by omega)
   have hzz2:(ta++tb:ByteArray).toList.length<=15:=by rw [Aa,ByteArray.size_append];omega
   cases hD:Bo 10 (ta++tb).toList with
   | none=>
    have hno:Hid (Cf s.toList=none):=H0 (by rw [hQ.out,cN.out,hD];rfl)
    have hw2:=H0 (fun w=>by have:=hw.out w;rw [hD] at this;exact this)
    replace hD:=H0 hD;clear hzz2
    rcases hpt with rfl | ⟨rfl,c2⟩
    all_goals
     go_wp2_with (go_at_call 292;refine (hw2.out _).mono ?_;rintro e w' ⟨rfl,rfl⟩);go_ret2;exact C1 hno.out hb4
   | some n=>
    have hnl:=OD hD
    have hn15:n<10 ^ 15:=Nat.lt_of_lt_of_le hnl (Nat.pow_le_pow_right (by decide) hzz2)
    have hw2:Hid (∀ w,Calls Tryz.prog 292 #[.string (ta++tb)] w (fun e w'=>e= .returned (.tuple #[.int .i64 (n:Int),.bool true])/\w=w')):=H0 (fun w=>by
     have:=hw.out w;rw [hD] at this
     refine this.mono fun e w' h=> ?_
     unfold JA at h
     rw [show (some n).getD 0=n from rfl,show min n Ek=n by unfold Ek;omega] at h
     exact h)
    obtain ⟨fm,fi,hf⟩:=Wo (n:=n) (Nat.lt_trans hn15 (by decide))
    have hM:Hid (Cf s.toList=(if m - (tb.size:Int)< -22\/22<m - (tb.size:Int) then none else some (n,m - (tb.size:Int))).map fun y=>(neg,y)):=H0 (by rw [hQ.out,cN.out,hD])
    replace hD:=H0 hD;replace hf:=H0 hf;replace hn15:=H0 hn15;clear hnl hzz2
    by_cases k1:m - (tb.size:Int)< -22
    ·have hno:Hid (Cf s.toList=none):=H0 (by rw [hM.out,if_pos (.inl k1)];rfl)
     rcases hpt with rfl | ⟨rfl,c2⟩
     all_goals
      go_wp2_with (go_at_call 292;refine (hw2.out _).mono ?_;rintro e w' ⟨rfl,rfl⟩);go_ret2;exact C1 hno.out hb4
    by_cases k2:22<m - (tb.size:Int)
    ·have hno:Hid (Cf s.toList=none):=H0 (by rw [hM.out,if_pos (.inr k2)];rfl)
     have k3: -22<=m - (tb.size:Int):=by omega
     have k5:decide ((22:Int)<m - (tb.size:Int))=true:=decide_eq_true k2
     rcases hpt with rfl | ⟨rfl,c2⟩
     all_goals
      go_wp2_with (go_at_call 292;refine (hw2.out _).mono ?_;rintro e w' ⟨rfl,rfl⟩);go_ret2;exact C1 hno.out hb4
    have k3: -22<=m - (tb.size:Int):=by omega
    have k4:m - (tb.size:Int)<=22:=by omega
    have hyes:Hid (Cf s.toList=some (neg,n,m - (tb.size:Int))):=H0 (by rw [hM.out,if_neg (by omega)];rfl)
    have hmv:=H0 (fun w=>Vd (floatOfInt .f64 (n:Int)) (m - (tb.size:Int)) w hf.out k3 k4)
    have hsg:(neg=false/\Hid (DP (neg,n,m - (tb.size:Int))=Gw (floatOfInt .f64 (n:Int)) (m - (tb.size:Int))))\/(neg=true/\((n:Int) != 0)=false/\Hid (DP (neg,n,m - (tb.size:Int))=Gw (floatOfInt .f64 (n:Int)) (m - (tb.size:Int))))\/
      (neg=true/\((n:Int) != 0)=true/\Hid (DP (neg,n,m - (tb.size:Int))=Op.negFloat .f64 (Gw (floatOfInt .f64 (n:Int)) (m - (tb.size:Int))))):=by
     cases neg
     ·exact .inl ⟨rfl,H0 rfl⟩
     ·by_cases h0:n=0
      ·exact .inr (.inl ⟨rfl,by rw [h0];rfl,H0 (by unfold DP;rw [if_neg (fun h=>h.2 h0)])⟩)
      ·exact .inr (.inr ⟨rfl,by simp only [bne_iff_ne,ne_eq];omega,H0 (by unfold DP;rw [if_pos ⟨rfl,h0⟩])⟩)
    have hun:∀ v:Nat,Op.unary .neg (.float .f64 v)=(pure (.float .f64 (Op.negFloat .f64 v)):Sem Value):=fun v=>rfl
    rcases hsg with ⟨rfl,hW⟩ | ⟨rfl,s1,hW⟩ | ⟨rfl,s1,hW⟩<;>rcases hpt with rfl | ⟨rfl,c2⟩
    all_goals
     go_wp2_with (first
      | (go_at_call 292;refine (hw2.out _).mono ?_;rintro e w' ⟨rfl,rfl⟩)
      | (go_at_call 317;refine (hmv.out _).mono ?_;rintro e w' ⟨rfl,rfl⟩))
     go_ret2;unfold Acb;rw [hyes.out]
     exact ⟨by rw [show ∀ y,((some y:Option (Bool × Nat × Int)).map DP).getD 0=DP y from fun _=>rfl,hW.out];rfl,hb4⟩
 ·rw [h1];rw [Aa] at hi
  have e1:IntKind.i64.wrap ((i:Int)+1)=(i:Int)+1:=IntWalk.i64_in _ (by omega)
  have i1:(i:Int)+1<=(x.size:Int):=by omega
  have i2:(i:Int)<=(x.size:Int):=by omega
  have i3:i+1<=x.size:=by omega
  have hL1:Hid ((x.extract (i+1) x.size).toList=x.toList.drop (i+1)):=H0 (by rw [toList_extract,<-Aa,List.take_length])
  have hL2:Hid ((x.extract 0 i).toList=x.toList.take i):=H0 (by rw [toList_extract];rfl)
  have hz1:(x.extract (i+1) x.size).size<=140737488355328:=by rw [<-Aa,hL1.out,List.length_drop,Aa];omega
  have hz2:(x.extract 0 i).size<=140737488355328:=by rw [<-Aa,hL2.out,List.length_take,Aa];omega
  replace h1:=H0 h1;replace h2:=H0 h2;replace hz1:=H0 hz1;replace hz2:=H0 hz2;go_wp2_with fail;refine (Tl _ _ hz1.out).mono ?_;rintro e w2 ⟨rfl,rfl⟩
  cases hX:IS (x.extract (i+1) x.size).toList with
  | none=>
   have hno:Hid (Cf s.toList=none):=H0 (by rw [hF.out,Yg h2.out (by rw [<-hL1.out];exact hX)];rfl)
   replace hX:=H0 hX;go_wp2_with fail;go_ret2;exact C1 hno.out hb
  | some m=>
   have hQ:Hid (Cf s.toList=(G9 (x.extract 0 i).toList m).map fun y=>(neg,y)):=H0 (by rw [hF.out,VK h2.out (by rw [<-hL1.out];exact hX),hL2.out])
   obtain ⟨hmb1,hmb2⟩:=AcM hX;replace hX:=H0 hX;rw [show (some m).getD 0=m from rfl,show (some m).isSome=true from rfl];go_wp2_with fail;have hts:=hz2.out;generalize x.extract 0 i=t at hQ hts⊢;clear e1 i1 i2 i3 hi hL1 hL2 hz1 hz2;have hz4:=Cc 46 t.toList;rw [Aa] at hz4
   have ht4:t.size<=140737488355328:=by omega
   refine (UN t 46 _ ht4).mono ?_;rintro e w3 ⟨ta,tb,nd,rfl,h3,h4,rfl⟩
   have za:ta.size=(Af 46 t.toList).1.length:=by rw [<-Aa,h3.out]
   have zb:tb.size=(Af 46 t.toList).2.1.length:=by rw [<-Aa,h4.out]
   have hT:Hid (G9 t.toList m=if ((Af 46 t.toList).2.2=true/\tb.toList=[])\/15<ta.size+tb.size then none else match Bo 10 (ta++tb).toList with
     | none=>none
     | some n=>if m - (tb.size:Int)< -22\/22<m - (tb.size:Int) then none else some (n,m - (tb.size:Int))):=H0 (by
    unfold G9;rw [toList_append,h3.out,h4.out,za,zb];rfl)
   have sz:ta.size+tb.size<=140737488355328:=by omega
   replace za:=H0 za;replace zb:=H0 zb;replace hz4:=H0 hz4;clear h3 h4;generalize (Af 46 t.toList).2.2=pt at hT⊢;have hb4:=below_drewN hb nd
   have hcs:(pt=true/\tb.toList.isEmpty=true/\Hid (G9 t.toList m=none))\/(((pt=false)\/(pt=true/\tb.toList.isEmpty=false))/\(15:Int)<(ta.size:Int)+(tb.size:Int)/\Hid (G9 t.toList m=none))\/
     (((pt=false)\/(pt=true/\tb.toList.isEmpty=false))/\(ta.size:Int)+(tb.size:Int)<=15/\Hid (G9 t.toList m=match Bo 10 (ta++tb).toList with
      | none=>none
      | some n=>if m - (tb.size:Int)< -22\/22<m - (tb.size:Int) then none else some (n,m - (tb.size:Int)))):=by
    cases hp:pt
    ·by_cases h15:15<ta.size+tb.size
     ·exact .inr (.inl ⟨.inl rfl,by omega,H0 (by rw [hT.out,if_pos (.inr h15)])⟩)
     ·exact .inr (.inr ⟨.inl rfl,by omega,H0 (by rw [hT.out,if_neg (by rw [hp];rintro (h | h);exact absurd h.1 (by decide);exact h15 h)])⟩)
    ·cases he:tb.toList.isEmpty
     ·have hne:tb.toList≠[]:=by intro h;rw [h] at he;cases he
      by_cases h15:15<ta.size+tb.size
      ·exact .inr (.inl ⟨.inr ⟨rfl,rfl⟩,by omega,H0 (by rw [hT.out,if_pos (.inr h15)])⟩)
      ·exact .inr (.inr ⟨.inr ⟨rfl,rfl⟩,by omega,H0 (by rw [hT.out,if_neg (by rintro (h | h);exact hne h.2;exact h15 h)])⟩)
     ·exact .inl ⟨rfl,rfl,H0 (by rw [hT.out,if_pos (.inl ⟨hp,by simpa using he⟩)])⟩
   clear hT
   rcases hcs with ⟨rfl,c1,cN⟩ | ⟨hpt,c1,cN⟩ | ⟨hpt,c1,cN⟩
   ·have hno:Hid (Cf s.toList=none):=H0 (by rw [hQ.out,cN.out];rfl)
    go_wp2_with fail;go_ret2;exact C1 hno.out hb4
   ·have hno:Hid (Cf s.toList=none):=H0 (by rw [hQ.out,cN.out];rfl)
    rcases hpt with rfl | ⟨rfl,c2⟩
    all_goals
     go_wp2_with fail;go_ret2;exact C1 hno.out hb4
   ·have hzz:(ta++tb:ByteArray).size<=140737488355328:=by rw [ByteArray.size_append];omega
    have hw:=H0 (fun w=>Gg (ta++tb) w hzz)
    have e5:IntKind.i64.wrap (m - (tb.size:Int))=m - (tb.size:Int):=IntWalk.i64_in _ (by omega)
    have hzz2:(ta++tb:ByteArray).toList.length<=15:=by rw [Aa,ByteArray.size_append];omega
    cases hD:Bo 10 (ta++tb).toList with
    | none=>
     have hno:Hid (Cf s.toList=none):=H0 (by rw [hQ.out,cN.out,hD];rfl)
     have hw2:=H0 (fun w=>by have:=hw.out w;rw [hD] at this;exact this)
     replace hD:=H0 hD;clear hzz2
     rcases hpt with rfl | ⟨rfl,c2⟩
     all_goals
      go_wp2_with (go_at_call 292;refine (hw2.out _).mono ?_;rintro e w' ⟨rfl,rfl⟩);go_ret2;exact C1 hno.out hb4
    | some n=>
     have hnl:=OD hD
     have hn15:n<10 ^ 15:=Nat.lt_of_lt_of_le hnl (Nat.pow_le_pow_right (by decide) hzz2)
     have hw2:Hid (∀ w,Calls Tryz.prog 292 #[.string (ta++tb)] w (fun e w'=>e= .returned (.tuple #[.int .i64 (n:Int),.bool true])/\w=w')):=H0 (fun w=>by
      have:=hw.out w;rw [hD] at this
      refine this.mono fun e w' h=> ?_
      unfold JA at h
      rw [show (some n).getD 0=n from rfl,show min n Ek=n by unfold Ek;omega] at h
      exact h)
     obtain ⟨fm,fi,hf⟩:=Wo (n:=n) (Nat.lt_trans hn15 (by decide))
     have hM:Hid (Cf s.toList=(if m - (tb.size:Int)< -22\/22<m - (tb.size:Int) then none else some (n,m - (tb.size:Int))).map fun y=>(neg,y)):=H0 (by rw [hQ.out,cN.out,hD])
     replace hD:=H0 hD;replace hf:=H0 hf;replace hn15:=H0 hn15;clear hnl hzz2
     by_cases k1:m - (tb.size:Int)< -22
     ·have hno:Hid (Cf s.toList=none):=H0 (by rw [hM.out,if_pos (.inl k1)];rfl)
      rcases hpt with rfl | ⟨rfl,c2⟩
      all_goals
       go_wp2_with (go_at_call 292;refine (hw2.out _).mono ?_;rintro e w' ⟨rfl,rfl⟩);go_ret2;exact C1 hno.out hb4
     by_cases k2:22<m - (tb.size:Int)
     ·have hno:Hid (Cf s.toList=none):=H0 (by rw [hM.out,if_pos (.inr k2)];rfl)
      have k3: -22<=m - (tb.size:Int):=by omega
      have k5:decide ((22:Int)<m - (tb.size:Int))=true:=decide_eq_true k2
      rcases hpt with rfl | ⟨rfl,c2⟩
      all_goals
       go_wp2_with (go_at_call 292;refine (hw2.out _).mono ?_;rintro e w' ⟨rfl,rfl⟩);go_ret2;exact C1 hno.out hb4
     have k3: -22<=m - (tb.size:Int):=by omega
     have k4:m - (tb.size:Int)<=22:=by omega
     have hyes:Hid (Cf s.toList=some (neg,n,m - (tb.size:Int))):=H0 (by rw [hM.out,if_neg (by omega)];rfl)
     have hmv:=H0 (fun w=>Vd (floatOfInt .f64 (n:Int)) (m - (tb.size:Int)) w hf.out k3 k4)
     have hsg:(neg=false/\Hid (DP (neg,n,m - (tb.size:Int))=Gw (floatOfInt .f64 (n:Int)) (m - (tb.size:Int))))\/(neg=true/\((n:Int) != 0)=false/\Hid (DP (neg,n,m - (tb.size:Int))=Gw (floatOfInt .f64 (n:Int)) (m - (tb.size:Int))))\/
       (neg=true/\((n:Int) != 0)=true/\Hid (DP (neg,n,m - (tb.size:Int))=Op.negFloat .f64 (Gw (floatOfInt .f64 (n:Int)) (m - (tb.size:Int))))):=by
      cases neg
      ·exact .inl ⟨rfl,H0 rfl⟩
      ·by_cases h0:n=0
       ·exact .inr (.inl ⟨rfl,by rw [h0];rfl,H0 (by unfold DP;rw [if_neg (fun h=>h.2 h0)])⟩)
       ·exact .inr (.inr ⟨rfl,by simp only [bne_iff_ne,ne_eq];omega,H0 (by unfold DP;rw [if_pos ⟨rfl,h0⟩])⟩)
     have hun:∀ v:Nat,Op.unary .neg (.float .f64 v)=(pure (.float .f64 (Op.negFloat .f64 v)):Sem Value):=fun v=>rfl
     rcases hsg with ⟨rfl,hW⟩ | ⟨rfl,s1,hW⟩ | ⟨rfl,s1,hW⟩<;>rcases hpt with rfl | ⟨rfl,c2⟩
     all_goals
      go_wp2_with (first
       | (go_at_call 292;refine (hw2.out _).mono ?_;rintro e w' ⟨rfl,rfl⟩)
       | (go_at_call 317;refine (hmv.out _).mono ?_;rintro e w' ⟨rfl,rfl⟩))
      go_ret2;unfold Acb;rw [hyes.out]
      exact ⟨by rw [show ∀ y,((some y:Option (Bool × Nat × Int)).map DP).getD 0=DP y from fun _=>rfl,hW.out];rfl,hb4⟩
structure Oi where
 hw:Bool
 w:Int
 hh:Bool
 h:Int
 hd:Bool
 d:Nat
def Ap (url:ByteArray) (wv:Value) (st:Oi):Array Value:= #[.string url,wv,.bool st.hw,.int .i64 st.w,.bool st.hh,.int .i64 st.h,.bool st.hd,.float .f64 st.d]
def geZ (b:Nat):Bool:=(FloatKind.f64.format.order b 0==some .gt) || (FloatKind.f64.format.order b 0==some .eq)
def Kt (h:List UInt8):Nat:=min ((Bo 10 h).getD 0) Ek
def AdU (h:List UInt8):Nat:=((Cf h).map DP).getD 0
def okW (st:Oi) (h:List UInt8):Bool:=(Bo 10 h).isSome && decide (1<=Kt h) && !st.hw && !st.hd
def okH (st:Oi) (h:List UInt8):Bool:=(Bo 10 h).isSome && decide (1<=Kt h) && !st.hh && !st.hd
def okX (st:Oi) (h:List UInt8):Bool:=(Cf h).isSome && geZ (AdU h) && !st.hw && !st.hh && !st.hd
def Rj (st:Oi) (h:List UInt8) (c:UInt8):Option Oi:=
 if c=119 then (if okW st h=true then some { st with hw:=true,w:=(Kt h:Int) } else none)
 else if c=104 then (if okH st h=true then some { st with hh:=true,h:=(Kt h:Int) } else none)
 else if c=120 then (if okX st h=true then some { st with hd:=true,d:=AdU h } else none)
 else none
def HL (st:Oi) (l:List UInt8):Option Oi:=match l.getLast? with | none=>none | some c=>Rj st l.dropLast c
def YU (g:Nat) (url:ByteArray) (wv:Value) (o:Option Oi) (w:World) (e:Ending) (w':World):Prop:=
 e= .returned (.bool o.isSome)/\BI (· =g) w w'/\∀ st',o=some st'->w'.heap[g]? =some (.cells (Ap url wv st') 109 (0,0))
theorem B8 {g:Nat} {url:ByteArray} {wv:Value} {o:Option Oi} {w w':World} (h:o=none) (hc:BI (· =g) w w'):YU g url wv o w (.returned (.bool false)) w':=by
 subst h;exact ⟨rfl,hc,fun _ x=>by cases x⟩
theorem WK (t:ByteArray) (h:0<t.size):HL=HL/\t.toList.getLast? =some t[t.size - 1]/\t.toList.dropLast=(t.extract 0 (t.size - 1)).toList:=by
 have e:=FJ t h;refine ⟨rfl,?_,?_⟩
 ·rw [e,List.getLast?_append];rfl
 ·conv=>lhs;rw [e]
  rw [List.dropLast_concat]
theorem u8c {c d:UInt8}:(c=d->((c.toNat:Int)==(d.toNat:Int))=true)/\(c≠d->((c.toNat:Int)==(d.toNat:Int))=false):=by
 refine ⟨fun h=>by subst h;simp,fun h=> ?_⟩
 rw [beq_eq_false_iff_ne]
 exact fun h2=>h (UInt8.toNat_inj.1 (by omega))
theorem AbX (g:Nat) (url:ByteArray) (wv:Value) (st:Oi) (t:ByteArray) (w:World) (hb:w.heap[g]? =some (.cells (Ap url wv st) 109 (0,0))) (hs:t.size<=1000000000):
    Calls Tryz.prog 242 #[.pointer (some ⟨g,0,none⟩),.string t] w (YU g url wv (HL st t.toList) w):=by
  obtain ⟨hw,sw,hh,sh,hd,sd⟩:=st
  by_cases h0:0<t.size
  rotate_left
  · have e:t.toList=[]:=(At t).2 (by omega)
    have hno:Hid (HL ⟨hw,sw,hh,sh,hd,sd⟩ t.toList=none):=H0 (by rw [e];rfl)
    have hem:t.toList.isEmpty=true:=by rw [e];rfl
    have heq:(t.toList==[])=true:=by rw [e];rfl
    replace e:=H0 e;go_enter Tryz.func242,Tryz.ntmps242;go_wp2_with fail;go_ret;exact B8 hno.out (BI.refl _ _)
  have hne:(!t.toList.isEmpty)=true:=by rw [Ca t h0];rfl
  have hem:t.toList.isEmpty=false:=by rw [Ca t h0];rfl
  obtain ⟨-,hl1,hl2⟩:=WK t h0;obtain ⟨H,hH⟩:=N2 (t.extract 0 (t.size - 1));rw [hH] at hl2
  have hHz:H.size<=1000000000:=by rw [<-hH,ByteArray.size_extract];omega
  have hT:Hid (HL ⟨hw,sw,hh,sh,hd,sd⟩ t.toList=Rj ⟨hw,sw,hh,sh,hd,sd⟩ H.toList t[t.size - 1]):=H0 (by unfold HL;rw [hl1,hl2])
  clear hl1 hl2
  have h1I:(1:Int)<=(t.size:Int):=by omega
  obtain ⟨c,hc⟩:=N2 (t[t.size - 1]);rw [hc] at hT;have x2:=cell_of_row _ _ 2 _ _ _ hb;have x4:=cell_of_row _ _ 4 _ _ _ hb;have x6:=cell_of_row _ _ 6 _ _ _ hb;simp only [Ap,List.getElem?_toArray,List.getElem?_cons_zero,List.getElem?_cons_succ] at x2 x4 x6;have f2:=frozen_of_row _ _ 2 _ _ hb;have f3:=frozen_of_row _ _ 3 _ _ hb;have f4:=frozen_of_row _ _ 4 _ _ hb;have f5:=frozen_of_row _ _ 5 _ _ hb;have f6:=frozen_of_row _ _ 6 _ _ hb;have f7:=frozen_of_row _ _ 7 _ _ hb;have x3:=cell_of_row _ _ 3 _ _ _ hb;have x5:=cell_of_row _ _ 5 _ _ _ hb;have x7:=cell_of_row _ _ 7 _ _ _ hb;simp only [Ap,List.getElem?_toArray,List.getElem?_cons_zero,List.getElem?_cons_succ] at x3 x5 x7;replace hb:=H0 hb;replace hc:=H0 hc;go_enter Tryz.func242,Tryz.ntmps242
  by_cases c1:c=119
  · have q1:((c.toNat:Int)==119)=true:=by rw [c1];rfl
    have hV:Hid (HL ⟨hw,sw,hh,sh,hd,sd⟩ t.toList=if okW ⟨hw,sw,hh,sh,hd,sd⟩ H.toList=true then some ⟨true,(Kt H.toList:Int),hh,sh,hd,sd⟩ else none):=H0 (by rw [hT.out];unfold Rj;rw [if_pos c1])
    clear hT;replace c1:=H0 c1
    have hway:∃ (b:Bool) (z:Int),Hid ((Kt H.toList:Int)=z)/\Hid (∀ w,Calls Tryz.prog 292 #[.string H] w fun e w'=>e= .returned (.tuple #[.int .i64 z,.bool b])/\w=w')/\
        ((b=false/\Hid (okW ⟨hw,sw,hh,sh,hd,sd⟩ H.toList=false))\/(b=true/\z<1/\Hid (okW ⟨hw,sw,hh,sh,hd,sd⟩ H.toList=false))\/(b=true/\1<=z/\hw=true/\Hid (okW ⟨hw,sw,hh,sh,hd,sd⟩ H.toList=false))\/
         (b=true/\1<=z/\hw=false/\hd=true/\Hid (okW ⟨hw,sw,hh,sh,hd,sd⟩ H.toList=false))\/(b=true/\1<=z/\hw=false/\hd=false/\Hid (okW ⟨hw,sw,hh,sh,hd,sd⟩ H.toList=true))):=by
      refine ⟨(Bo 10 H.toList).isSome,(Kt H.toList:Int),H0 rfl,H0 (fun w=>Gg H w (by omega)),?_⟩
      unfold okW;cases (Bo 10 H.toList).isSome
      · exact .inl ⟨rfl,H0 rfl⟩
      · by_cases hn:1<=Kt H.toList
        · have hI:(1:Int)<=(Kt H.toList:Int):=by omega
          rw [decide_eq_true hn];cases hw
          · cases hd
            · exact .inr (.inr (.inr (.inr ⟨rfl,hI,rfl,rfl,H0 rfl⟩)))
            · exact .inr (.inr (.inr (.inl ⟨rfl,hI,rfl,rfl,H0 rfl⟩)))
          · exact .inr (.inr (.inl ⟨rfl,hI,rfl,H0 rfl⟩))
        · have hI:(Kt H.toList:Int)<1:=by omega
          rw [decide_eq_false hn];exact .inr (.inl ⟨rfl,hI,H0 rfl⟩)
    obtain ⟨b,z,hz,hcall,hway⟩:=hway;rw [<-hc.out] at q1
    rcases hway with ⟨rfl,hk⟩ | ⟨rfl,z1,hk⟩ | ⟨rfl,z1,rfl,hk⟩ | ⟨rfl,z1,rfl,rfl,hk⟩ | ⟨rfl,z1,rfl,rfl,hk⟩
    · have hno:=H0 (hV.out.trans (if_neg (by rw [hk.out];decide)))
      go_wp2_with fail;refine (hcall.out _).mono ?_;rintro e w' ⟨rfl,rfl⟩;go_wp2_with fail;go_ret;exact B8 hno.out (BI.refl _ _)
    · have hno:=H0 (hV.out.trans (if_neg (by rw [hk.out];decide)))
      go_wp2_with fail;refine (hcall.out _).mono ?_;rintro e w' ⟨rfl,rfl⟩;go_wp2_with fail;go_ret;exact B8 hno.out (BI.refl _ _)
    · have hno:=H0 (hV.out.trans (if_neg (by rw [hk.out];decide)))
      go_wp2_with fail;refine (hcall.out _).mono ?_;rintro e w' ⟨rfl,rfl⟩;go_wp2_with fail;go_ret;exact B8 hno.out (BI.refl _ _)
    · have hno:=H0 (hV.out.trans (if_neg (by rw [hk.out];decide)))
      go_wp2_with fail;refine (hcall.out _).mono ?_;rintro e w' ⟨rfl,rfl⟩;go_wp2_with fail;go_ret;exact B8 hno.out (BI.refl _ _)
    · have hyes:=H0 (hV.out.trans (if_pos hk.out))
      go_wp2_with fail;refine (hcall.out _).mono ?_;rintro e w' ⟨rfl,rfl⟩;go_wp2_with fail;go_ret
      exact ⟨by rw [hyes.out];rfl,((BI.refl (· =g) w).set (g:=g) rfl 2 _).set (g:=g) rfl 3 _,fun st' e=>by
        rw [hyes.out] at e;cases e
        rw [A6 (A6 hb.out),hz.out];rfl⟩
  have q1:((c.toNat:Int)==119)=false:=u8c.2 c1
  by_cases c2:c=104
  · have q2:((c.toNat:Int)==104)=true:=by rw [c2];rfl
    have hV:Hid (HL ⟨hw,sw,hh,sh,hd,sd⟩ t.toList=if okH ⟨hw,sw,hh,sh,hd,sd⟩ H.toList=true then some ⟨hw,sw,true,(Kt H.toList:Int),hd,sd⟩ else none):=H0 (by rw [hT.out];unfold Rj;rw [if_neg c1];rw [if_pos c2])
    clear hT;replace c2:=H0 c2
    have hway:∃ (b:Bool) (z:Int),Hid ((Kt H.toList:Int)=z)/\Hid (∀ w,Calls Tryz.prog 292 #[.string H] w fun e w'=>e= .returned (.tuple #[.int .i64 z,.bool b])/\w=w')/\
        ((b=false/\Hid (okH ⟨hw,sw,hh,sh,hd,sd⟩ H.toList=false))\/(b=true/\z<1/\Hid (okH ⟨hw,sw,hh,sh,hd,sd⟩ H.toList=false))\/(b=true/\1<=z/\hh=true/\Hid (okH ⟨hw,sw,hh,sh,hd,sd⟩ H.toList=false))\/
         (b=true/\1<=z/\hh=false/\hd=true/\Hid (okH ⟨hw,sw,hh,sh,hd,sd⟩ H.toList=false))\/(b=true/\1<=z/\hh=false/\hd=false/\Hid (okH ⟨hw,sw,hh,sh,hd,sd⟩ H.toList=true))):=by
      refine ⟨(Bo 10 H.toList).isSome,(Kt H.toList:Int),H0 rfl,H0 (fun w=>Gg H w (by omega)),?_⟩
      unfold okH;cases (Bo 10 H.toList).isSome
      · exact .inl ⟨rfl,H0 rfl⟩
      · by_cases hn:1<=Kt H.toList
        · have hI:(1:Int)<=(Kt H.toList:Int):=by omega
          rw [decide_eq_true hn];cases hh
          · cases hd
            · exact .inr (.inr (.inr (.inr ⟨rfl,hI,rfl,rfl,H0 rfl⟩)))
            · exact .inr (.inr (.inr (.inl ⟨rfl,hI,rfl,rfl,H0 rfl⟩)))
          · exact .inr (.inr (.inl ⟨rfl,hI,rfl,H0 rfl⟩))
        · have hI:(Kt H.toList:Int)<1:=by omega
          rw [decide_eq_false hn];exact .inr (.inl ⟨rfl,hI,H0 rfl⟩)
    obtain ⟨b,z,hz,hcall,hway⟩:=hway;rw [<-hc.out] at q1 q2
    rcases hway with ⟨rfl,hk⟩ | ⟨rfl,z1,hk⟩ | ⟨rfl,z1,rfl,hk⟩ | ⟨rfl,z1,rfl,rfl,hk⟩ | ⟨rfl,z1,rfl,rfl,hk⟩
    · have hno:=H0 (hV.out.trans (if_neg (by rw [hk.out];decide)))
      go_wp2_with fail;refine (hcall.out _).mono ?_;rintro e w' ⟨rfl,rfl⟩;go_wp2_with fail;go_ret;exact B8 hno.out (BI.refl _ _)
    · have hno:=H0 (hV.out.trans (if_neg (by rw [hk.out];decide)))
      go_wp2_with fail;refine (hcall.out _).mono ?_;rintro e w' ⟨rfl,rfl⟩;go_wp2_with fail;go_ret;exact B8 hno.out (BI.refl _ _)
    · have hno:=H0 (hV.out.trans (if_neg (by rw [hk.out];decide)))
      go_wp2_with fail;refine (hcall.out _).mono ?_;rintro e w' ⟨rfl,rfl⟩;go_wp2_with fail;go_ret;exact B8 hno.out (BI.refl _ _)
    · have hno:=H0 (hV.out.trans (if_neg (by rw [hk.out];decide)))
      go_wp2_with fail;refine (hcall.out _).mono ?_;rintro e w' ⟨rfl,rfl⟩;go_wp2_with fail;go_ret;exact B8 hno.out (BI.refl _ _)
    · have hyes:=H0 (hV.out.trans (if_pos hk.out))
      go_wp2_with fail;refine (hcall.out _).mono ?_;rintro e w' ⟨rfl,rfl⟩;go_wp2_with fail;go_ret
      exact ⟨by rw [hyes.out];rfl,((BI.refl (· =g) w).set (g:=g) rfl 4 _).set (g:=g) rfl 5 _,fun st' e=>by
        rw [hyes.out] at e;cases e
        rw [A6 (A6 hb.out),hz.out];rfl⟩
  have q2:((c.toNat:Int)==104)=false:=u8c.2 c2
  by_cases c3:c=120
  · have q3:((c.toNat:Int)==120)=true:=by rw [c3];rfl
    have hV:Hid (HL ⟨hw,sw,hh,sh,hd,sd⟩ t.toList=if okX ⟨hw,sw,hh,sh,hd,sd⟩ H.toList=true then some ⟨hw,sw,hh,sh,true,AdU H.toList⟩ else none):=H0 (by rw [hT.out];unfold Rj;rw [if_neg c1,if_neg c2,if_pos c3])
    clear hT;replace c1:=H0 c1;replace c2:=H0 c2;replace c3:=H0 c3
    have hcall:=H0 (fun w=>Aa7 H w (by omega))
    obtain ⟨b,hbb⟩:∃ b,(Cf H.toList).isSome=b:=⟨_,rfl⟩;obtain ⟨n,hn⟩:=N2 (AdU H.toList);unfold Acb at hcall;rw [show ((Cf H.toList).map DP).getD 0=n from hn,hbb] at hcall;rw [<-hc.out] at q1 q2 q3;cases b
    · have hno:=H0 (hV.out.trans (if_neg (by unfold okX;rw [hbb];simp)))
      replace hbb:=H0 hbb;replace hn:=H0 hn;go_wp2_with fail;refine (hcall.out _).mono ?_;rintro e w' ⟨rfl,hb2⟩;go_wp2_with fail;go_ret;exact B8 hno.out (BI.of hb2)
    · replace hbb:=H0 hbb
      replace hn:=H0 hn;have lg:g<w.heap.size:=(Array.getElem?_eq_some_iff.1 hb.out).1;obtain ⟨r,hr⟩:=N2 (FloatKind.f64.format.order n 0)
      have hway:((r=none\/r=some .lt)/\Hid (okX ⟨hw,sw,hh,sh,hd,sd⟩ H.toList=false))\/((r=some .gt\/r=some .eq)/\((hw=true/\Hid (okX ⟨hw,sw,hh,sh,hd,sd⟩ H.toList=false))\/(hw=false/\hh=true/\Hid (okX ⟨hw,sw,hh,sh,hd,sd⟩ H.toList=false))\/
          (hw=false/\hh=false/\hd=true/\Hid (okX ⟨hw,sw,hh,sh,hd,sd⟩ H.toList=false))\/(hw=false/\hh=false/\hd=false/\Hid (okX ⟨hw,sw,hh,sh,hd,sd⟩ H.toList=true)))):=by
        unfold okX geZ;rw [hbb.out,hn.out,hr]
        cases r with
        | none=>exact .inl ⟨.inl rfl,H0 (by simp)⟩
        | some r=>
          cases r with
          | lt=>exact .inl ⟨.inr rfl,H0 (by simp)⟩
          | gt=>
            refine .inr ⟨.inl rfl,?_⟩;cases hw
            · cases hh
              · cases hd
                · exact .inr (.inr (.inr ⟨rfl,rfl,rfl,H0 rfl⟩))
                · exact .inr (.inr (.inl ⟨rfl,rfl,rfl,H0 rfl⟩))
              · exact .inr (.inl ⟨rfl,rfl,H0 rfl⟩)
            · exact .inl ⟨rfl,H0 rfl⟩
          | eq=>
            refine .inr ⟨.inr rfl,?_⟩;cases hw
            · cases hh
              · cases hd
                · exact .inr (.inr (.inr ⟨rfl,rfl,rfl,H0 rfl⟩))
                · exact .inr (.inr (.inl ⟨rfl,rfl,rfl,H0 rfl⟩))
              · exact .inr (.inl ⟨rfl,rfl,H0 rfl⟩)
            · exact .inl ⟨rfl,H0 rfl⟩
      rcases hway with ⟨hr0 | hr0,hk⟩ | ⟨hr0 | hr0,⟨rfl,hk⟩ | ⟨rfl,rfl,hk⟩ | ⟨rfl,rfl,rfl,hk⟩ | ⟨rfl,rfl,rfl,hk⟩⟩
      all_goals
        rw [hr0] at hr;clear hr0
        first
          | (have hno:=H0 (hV.out.trans (if_neg (by rw [hk.out];decide)))
             clear hk;go_wp2_with fail;refine (hcall.out _).mono ?_;rintro e w' ⟨rfl,hb2⟩;obtain ⟨E,d,rfl⟩:=hb2.ext;go_wp2_with fail;go_ret
             exact B8 hno.out (BI.of hb2))
          | (have hyes:=H0 (hV.out.trans (if_pos hk.out))
             clear hk
             have lg2:g<(w.setCell ⟨g,6,none⟩ (.bool true)).heap.size:=by simpa [World.setCell] using lg
             have y7:(w.setCell ⟨g,6,none⟩ (.bool true)).cell? ⟨g,7,none⟩=some (.float .f64 sd):=(cell_of_row _ _ 7 _ _ _ (A6 hb.out)).trans rfl;have g7:(w.setCell ⟨g,6,none⟩ (.bool true)).frozen? ⟨g,7,none⟩=false:=frozen_of_row _ _ 7 _ _ (A6 hb.out);go_wp2_with fail;refine (hcall.out _).mono ?_;rintro e w' ⟨rfl,hb2⟩;obtain ⟨E,d,rfl⟩:=hb2.ext;have z7:(Fb (w.setCell ⟨g,6,none⟩ (.bool true)) E d).cell? ⟨g,7,none⟩=some (.float .f64 sd):=((DZ _ E d).cell (p:=⟨g,7,none⟩) lg2).trans y7;have zf:(Fb (w.setCell ⟨g,6,none⟩ (.bool true)) E d).frozen? ⟨g,7,none⟩=false:=((DZ _ E d).frozen (p:=⟨g,7,none⟩) lg2).trans g7;have zs:(Fb (w.setCell ⟨g,6,none⟩ (.bool true)) E d).setCell ⟨g,7,none⟩ (.float .f64 n)=Fb ((w.setCell ⟨g,6,none⟩ (.bool true)).setCell ⟨g,7,none⟩ (.float .f64 n)) E d:=AeG _ _ _ _ _ _ lg2
             have zst:(store ⟨g,7,none⟩ (.float .f64 n)).run Tryz.prog (Fb (w.setCell ⟨g,6,none⟩ (.bool true)) E d)= .ok () (Fb ((w.setCell ⟨g,6,none⟩ (.bool true)).setCell ⟨g,7,none⟩ (.float .f64 n)) E d):=by
               rw [run_store _ _ _ _ _ rfl,z7];dsimp only;rw [zf,zs];rfl
             clear z7 zf zs;go_wp2_with fail;go_ret
             exact ⟨by rw [hyes.out];rfl,(((BI.refl (· =g) w).set (g:=g) rfl 6 _).set (g:=g) rfl 7 _).trans (BI.of (DZ _ _ _)),fun st' e=>by
               rw [hyes.out] at e;cases e
               rw [RA _ _ _ _ (by simpa [World.setCell] using lg),A6 (A6 hb.out),hn.out];rfl⟩)
  · have q3:((c.toNat:Int)==120)=false:=u8c.2 c3
    have hno:Hid (HL ⟨hw,sw,hh,sh,hd,sd⟩ t.toList=none):=H0 (by rw [hT.out];unfold Rj;rw [if_neg c1,if_neg c2,if_neg c3])
    rw [<-hc.out] at q1 q2 q3;replace c1:=H0 c1;replace c2:=H0 c2;replace c3:=H0 c3;go_wp2_with fail;go_ret;exact B8 hno.out (BI.refl _ _)
def Ff (c:UInt8):Bool:= !Eh c
def d0:Oi:=⟨false,0,false,0,false,0⟩
def Fw:Oi->List (List UInt8)->Option Oi
 | st,[]=>some st
 | st,t :: r=>(HL st t).bind fun st'=>Fw st' r
def KP (ws:List (List UInt8)):Option Oi:=(Fw d0 ws).bind fun st=>if (st.hh && !st.hw)=true then none else some st
structure LC where
 url:List UInt8
 ws:List (List UInt8)
 st:Oi
def RO (u:List UInt8):List UInt8:=(u.reverse.dropWhile (fun c=>c==44)).reverse
def LV (l:List UInt8):(List UInt8 × List (List UInt8)) × List UInt8:=
 if (l.takeWhile Ff).getLast? =some 44 then ((RO (l.takeWhile Ff),[]),l.dropWhile Ff)
 else ((l.takeWhile Ff,(Ou (l.dropWhile Ff)).1),(Ou (l.dropWhile Ff)).2.drop 1)
def Gc (p:List UInt8 × List (List UInt8)):List LC:=match KP p.2 with | none=>[] | some st=>[⟨p.1,p.2,st⟩]
def Zn:Nat->List UInt8->List LC
 | 0,_=>[]
 | n+1,l=>if l.dropWhile Gn=[] then [] else Gc (LV (l.dropWhile Gn)).1++Zn n (LV (l.dropWhile Gn)).2
def Fe (l:List UInt8):List LC:=Zn (l.length+1) l
theorem JG {α:Type} (p:α->Bool):∀ (l:List α) {c r},l.dropWhile p=c :: r->p c=false
 | [],_,_,h=>by cases h
 | a :: l,c,r,h=>by
  rw [List.dropWhile_cons] at h;cases hp:p a
  ·rw [hp,if_neg (by decide)] at h
   rw [List.cons.injEq] at h;rw [<-h.1];exact hp
  ·rw [hp,if_pos rfl] at h;exact JG p l h
theorem Jv {α:Type} (p:α->Bool) (l:List α):(l.dropWhile p).length<=l.length:=(List.dropWhile_sublist _).length_le
theorem Aea:∀ (n:Nat) (l:List UInt8),l.length<=n->(Ou l).2.length<=l.length:=by
 intro n
 induction n with
 | zero=>intro l hl;obtain rfl:l=[]:=List.eq_nil_of_length_eq_zero (by omega);exact Nat.le_refl _
 | succ n ih=>
  intro l hl;have h3:=Jv Eh l;rw [O3]
  by_cases h:(Bl BV false (l.dropWhile Eh)).1=[]
  ·rw [if_pos h];exact h3
  ·have h1:=J9 BV false (l.dropWhile Eh);have h2:=List.length_pos_iff.2 h;rw [if_neg h]
   have:=ih (Bl BV false (l.dropWhile Eh)).2.1 (by omega)
   show (Ou (Bl BV false (l.dropWhile Eh)).2.1).2.length<=l.length;omega
theorem Wg {c:UInt8} (h:Gn c=false):Ff c=true:=by
 unfold Gn at h;unfold Ff;rw [Bool.or_eq_false_iff] at h;rw [h.2];rfl
theorem V5 {c:UInt8} {r:List UInt8} (h:Gn c=false):(LV (c :: r)).2.length<=r.length:=by
 have e1:(c :: r).dropWhile Ff=r.dropWhile Ff:=by rw [List.dropWhile_cons,if_pos (Wg h)]
 have h3:=Jv Ff r;unfold LV;split
 ·rw [e1];exact h3
 ·have:=Aea _ _ (Nat.le_refl (r.dropWhile Ff).length);rw [e1];show ((Ou (r.dropWhile Ff)).2.drop 1).length<=r.length;rw [List.length_drop];omega
theorem Ux:∀ (N:Nat) (l:List UInt8),l.length<=N->∀ n,l.length<n->Zn n l=Zn (l.length+1) l:=by
 intro N
 induction N with
 | zero=>
  intro l hl n hn
  obtain rfl:l=[]:=List.eq_nil_of_length_eq_zero (by omega)
  obtain ⟨m,rfl⟩:∃ m,n=m+1:=⟨n - 1,by omega⟩
  rfl
 | succ N ih=>
  intro l hl n hn
  obtain ⟨m,rfl⟩:∃ m,n=m+1:=⟨n - 1,by have:0<=l.length:=Nat.zero_le _;omega⟩
  unfold Zn;have h3:=Jv Gn l
  cases hd:l.dropWhile Gn with
  | nil=>rw [if_pos rfl,if_pos rfl]
  | cons c r=>
   rw [hd] at h3;have h4:=V5 (r:=r) (JG Gn l hd);have h5:r.length+1<=l.length:=h3
   rw [if_neg (by simp),if_neg (by simp),ih _ (by omega) m (by omega),ih _ (by omega) l.length (by omega)]
theorem Ss (l:List UInt8):Fe l=if l.dropWhile Gn=[] then [] else Gc (LV (l.dropWhile Gn)).1++Fe (LV (l.dropWhile Gn)).2:=by
 unfold Fe
 conv=>lhs;unfold Zn
 have h3:=Jv Gn l
 cases hd:l.dropWhile Gn with
 | nil=>rw [if_pos rfl,if_pos rfl]
 | cons c r=>
  rw [hd] at h3;have h4:=V5 (r:=r) (JG Gn l hd);have h5:r.length+1<=l.length:=h3
  rw [if_neg (by simp),if_neg (by simp),Ux _ _ (Nat.le_refl _) l.length (by omega)]
theorem Aaw (l:List UInt8):∃ t,l=RO l++t/\(∀ x∈t,x=44)/\(RO l).getLast? ≠some 44:=by
 refine ⟨(l.reverse.takeWhile (fun c=>c==44)).reverse,?_,?_,?_⟩
 ·unfold RO;rw [<-List.reverse_append,List.takeWhile_append_dropWhile,List.reverse_reverse]
 ·intro x hx;have:=List.mem_reverse.1 hx
  have h2:∀ (m:List UInt8),x∈m.takeWhile (fun c=>c==44)->x=44:=by
   intro m
   induction m with
   | nil=>intro h;cases h
   | cons a m ih=>
    intro h;rw [List.takeWhile_cons] at h;split at h
    ·rename_i ha
     rcases List.mem_cons.1 h with rfl | h
     ·exact beq_iff_eq.1 ha
     ·exact ih h
    ·cases h
  exact h2 _ this
 ·unfold RO;rw [List.getLast?_reverse];intro e
  cases hd:l.reverse.dropWhile (fun c=>c==44) with
  | nil=>rw [hd] at e;cases e
  | cons a r=>
   rw [hd] at e;have:=JG _ _ hd;cases e;simp at this
def Qi (c:LC):List UInt8:=c.url++c.ws.flatMap (fun t=>32 :: t)
def Np (l:List LC):List UInt8:=l.flatMap (fun c=>44 :: 32 :: Qi c)
def BC:List LC->List UInt8
 | []=>[]
 | c :: r=>Qi c++Np r
theorem Vv (l:List LC) (c:LC):BC (l++[c])=(BC l++if l=[] then [] else [44,32])++Qi c:=by
 cases l with
 | nil=>simp [BC,Np]
 | cons a r=>simp [BC,Np]
def isB (c:UInt8):Bool:=Cz (c.toNat:Int)
def dgt (c:UInt8):Bool:=decide (48<=c.toNat) && decide (c.toNat<=57)
def Lv (l:List UInt8):List UInt8:=l.dropWhile isB
def YA (d:List UInt8):List UInt8:=if d.dropWhile (· ==48)=[] then [48] else d.dropWhile (· ==48)
def Ahp (c:UInt8):Bool:=c==46 || dgt c
def Ahr (c:UInt8):Bool:=isB c || c==59 || c==44
def Agb (l:List UInt8):List UInt8:=
 match Lv l with
 | []=>[]
 | c :: t=>if c=59\/c=44 then Lv t else c :: t
def Abx (l:List UInt8):List UInt8:=
 if l.length<3\/AD (l.take 3)≠[117,114,108] then l else
 match Lv (l.drop 3) with
 | []=>l
 | c :: t=>if c=61 then Lv t else l
def Aap (l:List UInt8):List UInt8:=
 match l with
 | []=>[]
 | c :: t=>if c=34\/c=39 then (Af c t).1 else c :: t
def Afj (d r:List UInt8):Option (List UInt8 × Bool × List UInt8):=
 match r with
 | []=>some (YA d,false,[])
 | c :: t=>if Ahr c=false then none else
  if Agb (c :: t)=[] then some (YA d,false,[]) else some (YA d,true,Aap (Abx (Agb (c :: t))))
def Afh (l:List UInt8):Option (List UInt8 × Bool × List UInt8):=
 if l.takeWhile dgt=[]/\l.head? ≠some 46 then none
 else Afj (l.takeWhile dgt) ((l.dropWhile dgt).dropWhile Ahp)
def Aes (s:List UInt8):Option (List UInt8 × Bool × List UInt8):=Afh (Lv s)
def AdO (r:List UInt8 × Bool × List UInt8):List UInt8:=if r.2.1 then r.1++[59,32,117,114,108,61]++r.2.2 else r.1
end Go.Proofs.YtonomfeipkdmhaaGreatDoor
