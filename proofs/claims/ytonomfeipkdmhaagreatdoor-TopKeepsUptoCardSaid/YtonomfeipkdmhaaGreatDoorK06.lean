/- Part 6: lemmas. -/
import Derived.Test.YtonomfeipkdmhaaGreatDoorK05
set_option linter.unusedVariables false
set_option linter.unusedSimpArgs false
set_option maxRecDepth 100000
set_option maxHeartbeats 16000000
namespace Go.Proofs.YtonomfeipkdmhaaGreatDoor
open Go.RowKit
def BW (p:Int->Bool) (l:List UInt8):List UInt8:=l.dropWhile fun c=>p (c.toNat:Int)
def AG (p:Int->Bool) (l:List UInt8):List UInt8:=(BW p l.reverse).reverse
def FG (c:Int):Bool:=decide (c<=32)
theorem HA {p:Int->Bool} {c:UInt8} {l:List UInt8} (h:p (c.toNat:Int)=true):BW p (c :: l)=BW p l:=by simp [BW,h]
theorem Jx {p:Int->Bool} {c:UInt8} {l:List UInt8} (h:p (c.toNat:Int)=false):BW p (c :: l)=c :: l:=by simp [BW,h]
theorem Gm {p:Int->Bool} {c:UInt8} {l:List UInt8} (h:p (c.toNat:Int)=true):AG p (l++[c])=AG p l:=by simp [AG,HA h]
theorem HE {p:Int->Bool} {c:UInt8} {l:List UInt8} (h:p (c.toNat:Int)=false):AG p (l++[c])=l++[c]:=by simp [AG,Jx h]
theorem Ca (t:ByteArray) (h:0<t.size):t.toList=t[0] :: (t.extract 1 t.size).toList:=by
 have:=Ao t 0 h;rw [List.drop_zero] at this;rw [this,toList_extract,Cl _ _ (Nat.le_refl _)]
theorem FJ (t:ByteArray) (h:0<t.size):t.toList=(t.extract 0 (t.size - 1)).toList++[t[t.size - 1]]:=by
 have:=A5 t (t.size - 1) (by omega)
 rw [toList_extract,List.drop_zero,<-this,Cl _ _ (by omega)]
theorem Nd (f:Nat) (p:Int->Bool) (hf0:∀ (c:Int) (w:World),0<=c->c<=255->Calls Tryz.prog f #[.int .u8 c] w fun e w'=>e= .returned (.bool (p c))/\w=w')
  (hcf:∀ args w,(callFunc f args).run Tryz.prog w= .ok (.enter f args) w)
  (s:ByteArray) (w:World) (hs:s.size<=1099511627776):
  Calls Tryz.prog 156 #[.string s,.func (.func f) #[] #[]] w (Cy w (AG p (BW p s.toList))):=by
 have hf:=H0 hf0;clear hf0;go_enter Tryz.func156,Tryz.ntmps156;go_wp2_with fail
 go_loop [0] (fun v=>∃ t:ByteArray,v= .string t/\t.size<=s.size/\Hid (BW p t.toList=BW p s.toList)) (fun v=>LK v)
 case atStart=>exact ⟨s,rfl,Nat.le_refl _,rfl⟩
 case round=>
  obtain ⟨t,rfl,hts,ht⟩:=hrel
  by_cases hgo:∃ h:0<t.size,p (t[0].toNat:Int)=true
  ·obtain ⟨h0,hp⟩:=hgo
   have hne:(!t.toList.isEmpty)=true:=by
    rw [Ca t h0];rfl
   have hx:=H0 (Ca t h0);go_wp2_with ((with_reducible refine (hf.out _ _ (AC _) (AK _)).mono ?_);rintro e w' ⟨rfl,rfl⟩);go_round
   case rel=>exact ⟨_,rfl,by rw [<-Aa,toList_extract,List.length_drop,Cl _ _ (Nat.le_refl _),Aa];omega,by rw [<-ht.out,hx.out,HA hp];rfl⟩
   case measure=>simp [LK];omega
  ·have hd:Hid (t.toList=BW p s.toList):=H0 (by
    rw [<-ht.out]
    by_cases h0:0<t.size
    ·rw [Ca t h0,Jx (by simpa using fun h=>hgo ⟨h0,h⟩)]
    ·rw [(At t).2 (by omega)];rfl)
   have hor:(∃ h0:0<t.size,(!t.toList.isEmpty)=true/\p (t[0].toNat:Int)=false)\/t.toList.isEmpty=true:=by
    by_cases h0:0<t.size
    ·exact .inl ⟨h0,by rw [Ca t h0];rfl,by simpa using fun h=>hgo ⟨h0,h⟩⟩
    ·exact .inr (by rw [(At t).2 (by omega)];rfl)
   clear hgo ht
   rcases hor with ⟨h0,hne,hp⟩ | hne
   all_goals
    go_wp2_with ((with_reducible refine (hf.out _ _ (AC _) (AK _)).mono ?_);rintro e w' ⟨rfl,rfl⟩)
    go_loop [0] (fun v=>∃ u:ByteArray,v= .string u/\u.size<=t.size/\Hid (AG p u.toList=AG p t.toList)) (fun v=>LK v)
    case atStart=>exact ⟨t,rfl,Nat.le_refl _,rfl⟩
    case round=>
     clear hne;obtain ⟨u,rfl,hus,hu⟩:=hrel
     by_cases hgo:∃ h:0<u.size,p (u[u.size - 1].toNat:Int)=true
     ·obtain ⟨g0,gp⟩:=hgo
      have gne:(!u.toList.isEmpty)=true:=by
       rw [Ca u g0];rfl
      have gx:=H0 (FJ u g0);go_wp2_with ((with_reducible refine (hf.out _ _ (AC _) (AK _)).mono ?_);rintro e w' ⟨rfl,rfl⟩);go_round
      case rel=>exact ⟨_,rfl,by rw [<-Aa,toList_extract,List.length_drop,List.length_take,Aa];omega,H0 (by rw [<-hu.out,gx.out,Gm gp])⟩
      case measure=>simp [LK];omega
     ·have ge:Hid (u.toList=AG p (BW p s.toList)):=H0 (by
       rw [<-hd.out,<-hu.out]
       by_cases g0:0<u.size
       ·rw [FJ u g0,HE (by simpa using fun h=>hgo ⟨g0,h⟩)]
       ·rw [(At u).2 (by omega)];rfl)
      have gor:(∃ g0:0<u.size,(!u.toList.isEmpty)=true/\p (u[u.size - 1].toNat:Int)=false)\/u.toList.isEmpty=true:=by
       by_cases g0:0<u.size
       ·exact .inl ⟨g0,by rw [Ca u g0];rfl,by simpa using fun h=>hgo ⟨g0,h⟩⟩
       ·exact .inr (by rw [(At u).2 (by omega)];rfl)
      clear hgo hu
      rcases gor with ⟨g0,gne,gp⟩ | gne
      all_goals
       go_wp2_with ((with_reducible refine (hf.out _ _ (AC _) (AK _)).mono ?_);rintro e w' ⟨rfl,rfl⟩);go_ret;exact BL ge.out (Below.refl _ _)
theorem ZG (c:Int) (w:World):
  Calls Tryz.prog 157 #[.int .u8 c] w fun e w'=>e= .returned (.bool (FG c))/\w=w':=by
 go_enter Tryz.func157,Tryz.ntmps157;go_wp2
 all_goals (go_ret;exact ⟨AF (by simp [FG]),rfl⟩)
def IN (l:List UInt8):List UInt8:=AG FG (BW FG l)
def JJ (l:List UInt8):List UInt8:=AG Cz (BW Cz l)
theorem AcR (s:ByteArray) (w:World) (hs:s.size<=1099511627776):
  Calls Tryz.prog 90 #[.string s] w (Cy w (IN s.toList)):=by
 go_enter Tryz.func90,Tryz.ntmps90
 go_wp2_with (go_at_call 156;refine (Nd 157 FG (fun c w _ _=>ZG c w) (C4 Tryz.func157 (by kernel_rfl) rfl) s _ hs).mono ?_;rintro e w' ⟨t,rfl,ht,hb⟩)
 go_ret;exact BL ht.out hb
theorem AaR (s:ByteArray) (w:World) (hs:s.size<=1099511627776):
  Calls Tryz.prog 182 #[.string s] w (Cy w (JJ s.toList)):=by
 go_enter Tryz.func182,Tryz.ntmps182
 go_wp2_with (go_at_call 156;refine (Nd 110 Cz (fun c w _ _=>Fj c w) (C4 Tryz.func110 (by kernel_rfl) rfl) s _ hs).mono ?_;rintro e w' ⟨t,rfl,ht,hb⟩)
 go_ret;exact BL ht.out hb
theorem AfR (s:ByteArray) (w:World) (hs:s.size<=1099511627776):
  Calls Tryz.prog 116 #[.string s] w (Cy w (IN s.toList)):=by
 go_enter Tryz.func116,Tryz.ntmps116;go_wp2_with fail
 go_loop [3] (fun v=>∃ j:Nat,v= .int .i64 j/\j<=s.size/\Hid (BW FG (s.toList.drop j)=BW FG s.toList)) (fun v=>s.size - (intOf v).toNat)
 case atStart=>exact ⟨0,rfl,Nat.zero_le _,rfl⟩
 case round=>
  obtain ⟨j,rfl,hj,ht⟩:=hrel
  by_cases hgo:∃ h:j<s.size,FG (s[j].toNat:Int)=true
  ·obtain ⟨h0,hp⟩:=hgo;have hb0:=AC s[j];have hb1:=AK s[j];have hx:=H0 (Ao s j h0);have hq:=H0 hp;simp only [FG,decide_eq_true_eq] at hp;go_wp2_with fail;go_round
   case rel=>exact ⟨j+1,by go_num,by omega,H0 (by rw [<-ht.out,hx.out,HA hq.out])⟩
   case measure=>simp [intOf];omega
  ·have hd:Hid (s.toList.drop j=BW FG s.toList):=H0 (by
    rw [<-ht.out]
    by_cases h0:j<s.size
    ·rw [Ao s j h0,Jx (by simpa using fun h=>hgo ⟨h0,h⟩)]
    ·rw [AM s j (by omega)];rfl)
   have hor:(∃ h0:j<s.size,(0:Int)<=(s[j].toNat:Int)/\(s[j].toNat:Int)<=(255:Int)/\FG (s[j].toNat:Int)=false)\/s.size<=j:=by
    by_cases h0:j<s.size
    ·exact .inl ⟨h0,AC _,AK _,by simpa using fun h=>hgo ⟨h0,h⟩⟩
    ·exact .inr (by omega)
   clear hgo ht
   rcases hor with ⟨h0,hb0,hb1,hp⟩ | hje
   case' inl=>simp only [FG,decide_eq_false_iff_not,Int.not_le] at hp
   all_goals
    go_wp2_with fail
    go_loop [4] (fun v=>∃ k:Nat,v= .int .i64 k/\j<=k/\k<=s.size/\Hid (AG FG ((s.toList.take k).drop j)=AG FG (s.toList.drop j))) (fun v=>(intOf v).toNat)
    case atStart=>exact ⟨s.size,rfl,hj,Nat.le_refl _,H0 (by rw [Cl _ _ (Nat.le_refl _)])⟩
    case round=>
     obtain ⟨k,rfl,hjk,hk,hu⟩:=hrel
     try clear hje
     by_cases hgo:∃ h:j<k,FG (s[k - 1].toNat:Int)=true
     ·obtain ⟨g0,gp⟩:=hgo;have gb0:=AC s[k - 1];have gb1:=AK s[k - 1]
      have gk:Hid ((s.toList.take k).drop j=(s.toList.take (k - 1)).drop j++[s[k - 1]]):=H0 (by
       have:=A5 s (k - 1) (by omega)
       rw [show k - 1+1=k from by omega] at this
       rw [this,List.drop_append_of_le_length (by rw [List.length_take,Aa];omega)])
      have hq:=H0 gp;simp only [FG,decide_eq_true_eq] at gp;go_wp2_with fail
      all_goals
       go_round
       case rel=>exact ⟨k - 1,by go_num,by omega,by omega,H0 (by rw [<-hu.out,gk.out,Gm hq.out])⟩
       case measure=>simp [intOf];omega
     ·have ge:Hid ((s.toList.take k).drop j=IN s.toList):=H0 (by
       unfold IN;rw [<-hd.out,<-hu.out]
       by_cases g0:j<k
       ·have:=A5 s (k - 1) (by omega)
        rw [show k - 1+1=k from by omega] at this
        rw [this,List.drop_append_of_le_length (by rw [List.length_take,Aa];omega),HE (by simpa using fun h=>hgo ⟨g0,h⟩)]
       ·rw [List.drop_of_length_le (by rw [List.length_take];omega)];rfl)
      have gor:(∃ g0:j<k,(0:Int)<=(s[k - 1].toNat:Int)/\(s[k - 1].toNat:Int)<=(255:Int)/\FG (s[k - 1].toNat:Int)=false)\/k<=j:=by
       by_cases g0:j<k
       ·exact .inl ⟨g0,AC _,AK _,by simpa using fun h=>hgo ⟨g0,h⟩⟩
       ·exact .inr (by omega)
      clear hgo hu
      rcases gor with ⟨g0,gb0,gb1,gp⟩ | gke
      case' inl=>simp only [FG,decide_eq_false_iff_not,Int.not_le] at gp
      all_goals
       go_wp2_with fail
       all_goals go_ret
       all_goals exact BL (by rw [toList_extract,ge.out]) (Below.refl _ _)
theorem Xj (s:ByteArray) (w:World) (hs:s.size<=1099511627776):
  Calls Tryz.prog 83 #[.string s] w (Cy w (JJ s.toList)):=by
 go_enter Tryz.func83,Tryz.ntmps83;go_wp2_with fail
 go_loop [3] (fun v=>∃ j:Nat,v= .int .i64 j/\j<=s.size/\Hid (BW Cz (s.toList.drop j)=BW Cz s.toList)) (fun v=>s.size - (intOf v).toNat)
 case atStart=>exact ⟨0,rfl,Nat.zero_le _,rfl⟩
 case round=>
  obtain ⟨j,rfl,hj,ht⟩:=hrel
  by_cases hgo:∃ h:j<s.size,Cz (s[j].toNat:Int)=true
  ·obtain ⟨h0,hp⟩:=hgo;have hb0:=AC s[j];have hb1:=AK s[j];have hx:=H0 (Ao s j h0)
   skip
   go_wp2_with (go_at_call 128;refine (HW _ _).mono ?_;rintro e w' ⟨rfl,rfl⟩);go_round
   case rel=>exact ⟨j+1,by go_num,by omega,H0 (by rw [<-ht.out,hx.out,HA hp])⟩
   case measure=>simp [intOf];omega
  ·have hd:Hid (s.toList.drop j=BW Cz s.toList):=H0 (by
    rw [<-ht.out]
    by_cases h0:j<s.size
    ·rw [Ao s j h0,Jx (by simpa using fun h=>hgo ⟨h0,h⟩)]
    ·rw [AM s j (by omega)];rfl)
   have hor:(∃ h0:j<s.size,(0:Int)<=(s[j].toNat:Int)/\(s[j].toNat:Int)<=(255:Int)/\Cz (s[j].toNat:Int)=false)\/s.size<=j:=by
    by_cases h0:j<s.size
    ·exact .inl ⟨h0,AC _,AK _,by simpa using fun h=>hgo ⟨h0,h⟩⟩
    ·exact .inr (by omega)
   clear hgo ht
   rcases hor with ⟨h0,hb0,hb1,hp⟩ | hje
   case' inl=>skip
   all_goals
    go_wp2_with (go_at_call 128;refine (HW _ _).mono ?_;rintro e w' ⟨rfl,rfl⟩)
    go_loop [4] (fun v=>∃ k:Nat,v= .int .i64 k/\j<=k/\k<=s.size/\Hid (AG Cz ((s.toList.take k).drop j)=AG Cz (s.toList.drop j))) (fun v=>(intOf v).toNat)
    case atStart=>exact ⟨s.size,rfl,hj,Nat.le_refl _,H0 (by rw [Cl _ _ (Nat.le_refl _)])⟩
    case round=>
     obtain ⟨k,rfl,hjk,hk,hu⟩:=hrel
     try clear hje
     by_cases hgo:∃ h:j<k,Cz (s[k - 1].toNat:Int)=true
     ·obtain ⟨g0,gp⟩:=hgo;have gb0:=AC s[k - 1];have gb1:=AK s[k - 1]
      have gk:Hid ((s.toList.take k).drop j=(s.toList.take (k - 1)).drop j++[s[k - 1]]):=H0 (by
       have:=A5 s (k - 1) (by omega)
       rw [show k - 1+1=k from by omega] at this
       rw [this,List.drop_append_of_le_length (by rw [List.length_take,Aa];omega)])
      skip
      go_wp2_with (go_at_call 128;refine (HW _ _).mono ?_;rintro e w' ⟨rfl,rfl⟩)
      all_goals
       go_round
       case rel=>exact ⟨k - 1,by go_num,by omega,by omega,H0 (by rw [<-hu.out,gk.out,Gm gp])⟩
       case measure=>simp [intOf];omega
     ·have ge:Hid ((s.toList.take k).drop j=JJ s.toList):=H0 (by
       unfold JJ;rw [<-hd.out,<-hu.out]
       by_cases g0:j<k
       ·have:=A5 s (k - 1) (by omega)
        rw [show k - 1+1=k from by omega] at this
        rw [this,List.drop_append_of_le_length (by rw [List.length_take,Aa];omega),HE (by simpa using fun h=>hgo ⟨g0,h⟩)]
       ·rw [List.drop_of_length_le (by rw [List.length_take];omega)];rfl)
      have gor:(∃ g0:j<k,(0:Int)<=(s[k - 1].toNat:Int)/\(s[k - 1].toNat:Int)<=(255:Int)/\Cz (s[k - 1].toNat:Int)=false)\/k<=j:=by
       by_cases g0:j<k
       ·exact .inl ⟨g0,AC _,AK _,by simpa using fun h=>hgo ⟨g0,h⟩⟩
       ·exact .inr (by omega)
      clear hgo hu
      rcases gor with ⟨g0,gb0,gb1,gp⟩ | gke
      case' inl=>skip
      all_goals
       go_wp2_with (go_at_call 128;refine (HW _ _).mono ?_;rintro e w' ⟨rfl,rfl⟩)
       all_goals go_ret
       all_goals exact BL (by rw [toList_extract,ge.out]) (Below.refl _ _)
def EB (c:UInt8):Bool:=AU (c.toNat:Int) || decide (0<=Ah (c.toNat:Int) 10) || c.toNat==43 || c.toNat==45 || c.toNat==46
def CE:List UInt8->Bool
 | []=>false
 | c :: r=>AU (c.toNat:Int) && r.all EB
theorem WU (s:ByteArray) (h:0<s.size):CE s.toList=(AU (s[0].toNat:Int) && (s.toList.drop 1).all EB):=by
 have:=Ao s 0 h;rw [List.drop_zero] at this;rw [this];rfl
theorem Aaf (c:UInt8):(AU (c.toNat:Int)=true/\EB c=true)\/(AU (c.toNat:Int)=false/\
  ((0<=Ah (c.toNat:Int) 10/\EB c=true)\/(Ah (c.toNat:Int) 10<0/\
   ((((c.toNat:Int) != 43)=false/\EB c=true)\/(((c.toNat:Int) != 43)=true/\
    ((((c.toNat:Int) != 45)=false/\EB c=true)\/(((c.toNat:Int) != 45)=true/\
     ((((c.toNat:Int) != 46)=false/\EB c=true)\/(((c.toNat:Int) != 46)=true/\EB c=false))))))))):=by
 unfold EB;cases AU (c.toNat:Int)
 ·refine .inr ⟨rfl,?_⟩
  by_cases hd:0<=Ah (c.toNat:Int) 10
  ·exact .inl ⟨hd,by simp [hd]⟩
  ·refine .inr ⟨by omega,?_⟩
   by_cases h1:c.toNat=43
   ·exact .inl (by simp [h1])
   refine .inr ⟨by simp;omega,?_⟩
   by_cases h2:c.toNat=45
   ·exact .inl (by simp [h2])
   refine .inr ⟨by simp;omega,?_⟩
   by_cases h3:c.toNat=46
   ·exact .inl (by simp [h3])
   exact .inr ⟨by simp;omega,by simp [hd,h1,h2,h3]⟩
 ·exact .inl ⟨rfl,rfl⟩
theorem Rm (s:ByteArray) (w:World) (hs:s.size<=1099511627776):
    Calls Tryz.prog 88 #[.string s] w fun e w'=>e= .returned (.bool (CE s.toList))/\w=w':=by
  by_cases h0:0<s.size
  · have hne:s.toList.isEmpty=false:=by rw [Ca s h0];rfl
    have hd:=H0 (WU s h0);have b0:=AC s[0];have b1:=AK s[0];cases hl:AU (s[0].toNat:Int)
    · go_enter Tryz.func88,Tryz.ntmps88
      go_wp2_with (go_at_call 154;refine (De _ _).mono ?_;rintro e w' ⟨rfl,rfl⟩);go_ret
      exact ⟨AF (by rw [hd.out,hl];rfl),rfl⟩
    · go_enter Tryz.func88,Tryz.ntmps88
      go_wp2_with (go_at_call 154;refine (De _ _).mono ?_;rintro e w' ⟨rfl,rfl⟩)
      go_loop [3] (fun i=>∃ k:Nat,i= .int .i64 k/\1<=k/\k<=s.size/\Hid ((s.toList.drop k).all EB=(s.toList.drop 1).all EB)) (fun i=>s.size - (intOf i).toNat)
      case atStart=>exact ⟨1,rfl,Nat.le_refl _,h0,rfl⟩
      case round=>
        obtain ⟨k,rfl,hk1,hk,hr⟩:=hrel
        by_cases hlt:k<s.size
        · have c0:=AC s[k]
          have c1:=AK s[k];have hdc:=H0 (Ao s k hlt)
          have hlt2:(k:Int)<(s.size:Int):=by omega
          rcases Aaf s[k] with ⟨x1,x2⟩ | ⟨x1,⟨x3,x2⟩ | ⟨x3,⟨x4,x2⟩ | ⟨x4,⟨x5,x2⟩ | ⟨x5,⟨x6,x2⟩ | ⟨x6,x2⟩⟩⟩⟩⟩
          all_goals
            have hq:=H0 x2;clear x2
            go_wp2_with (first
              | (go_at_call 154;refine (De _ _).mono ?_;rintro e w' ⟨rfl,rfl⟩)
              | (go_at_call 155;refine (Bu _ _ _ c0 c1).mono ?_;rintro e w' ⟨rfl,rfl⟩))
            first
              | (go_ret;exact ⟨AF (by rw [hd.out,<-hr.out,hdc.out,List.all_cons,hq.out];simp),rfl⟩)
              | (go_round
                 case rel=>exact ⟨k+1,by go_num,by omega,by omega,H0 (by rw [<-hr.out,hdc.out,List.all_cons,hq.out];simp)⟩
                 case measure=>simp [intOf];omega)
        · have hdc:=H0 (AM s k (by omega))
          go_wp2_with fail;go_ret
          exact ⟨AF (by rw [hd.out,<-hr.out,hdc.out,hl];rfl),rfl⟩
  · have hne:s.toList.isEmpty=true:=by rw [(At s).2 (by omega)];rfl
    have hd:Hid (CE s.toList=false):=H0 (by rw [(At s).2 (by omega)];rfl)
    go_enter Tryz.func88,Tryz.ntmps88;go_wp2_with fail;go_ret;exact ⟨AF hd.out.symm,rfl⟩
structure B9 where
 hs:Bool
 sch:List UInt8
 rest:List UInt8
 hq:Bool
 qry:List UInt8
 hf:Bool
 frg:List UInt8
deriving DecidableEq
def B6 (l:List UInt8):B9:=
 let f:=Af 35 l
 let q:=Af 63 f.1
 let s:=Af 58 q.1
 if s.2.2 && CE s.1 then ⟨true,AD s.1,s.2.1,q.2.2,q.2.1,f.2.2,f.2.1⟩ else ⟨false,[],q.1,q.2.2,q.2.1,f.2.2,f.2.1⟩
def Vl (w:World) (p:B9) (e:Ending) (w':World):Prop:=
 ∃ a b c d:ByteArray,e= .returned (.agg #[.bool p.hs,.string a,.string b,.bool p.hq,.string c,.bool p.hf,.string d])/\
  Hid (a.toList=p.sch)/\Hid (b.toList=p.rest)/\Hid (c.toList=p.qry)/\Hid (d.toList=p.frg)/\Below w.heap.size w w'
theorem Kb {c:UInt8} {s a b:ByteArray} (ha:a.toList=(Af c s.toList).1) (hb:b.toList=(Af c s.toList).2.1):a.size+b.size<=s.size:=by
 have:=Cc c s.toList
 rwa [<-ha,<-hb,Aa,Aa,Aa] at this
theorem Jg (s:ByteArray) (w:World) (hm:ML w) (hs:s.size<4294967281):
  Calls Tryz.prog 37 #[.string s] w (Vl w (B6 s.toList)):=by
 go_enter Tryz.func37,Tryz.ntmps37;go_wp2_with fail
 refine (Gd _ 35 _ (by exact (hm.alloc _).alloc _) hs).mono ?_
 rintro e w1 ⟨f1,f2,n1,rfl,hf1,hf2,rfl⟩;have z1:=Kb hf1.out hf2.out
 have hs1:f1.size<4294967281:=by omega
 generalize hfb0:(Af 35 s.toList).2.2=fb;have hfb:=H0 hfb0;clear hfb0;go_wp2_with fail
 refine (Gd _ 63 _ (by exact ((hm.alloc _).alloc _).drewN _) hs1).mono ?_
 rintro e w1 ⟨q1,q2,n2,rfl,hq1,hq2,rfl⟩;have z2:=Kb hq1.out hq2.out
 have hs2:q1.size<4294967281:=by omega
 generalize hqb0:(Af 63 f1.toList).2.2=qb;have hqb:=H0 hqb0;clear hqb0;go_wp2_with fail
 refine (Gd _ 58 _ (by exact ((hm.alloc _).alloc _).drewN _) hs2).mono ?_
 rintro e w1 ⟨s1,s2,n3,rfl,hs1',hs2',rfl⟩;have z3:=Kb hs1'.out hs2'.out
 have hs3:s1.size<=1099511627776:=by omega
 generalize hsb0:(Af 58 q1.toList).2.2=sb;have hsb:=H0 hsb0;clear hsb0
 have hno:(sb && CE s1.toList)=false->B6 s.toList=⟨false,[],q1.toList,qb,q2.toList,fb,f2.toList⟩:=by
  intro h;unfold B6;simp only [<-hf1.out,<-hf2.out,hfb.out,<-hq1.out,<-hq2.out,hqb.out,<-hs1'.out,<-hs2'.out,hsb.out,h,if_false,Bool.false_eq_true]
 have hyes:(sb && CE s1.toList)=true->B6 s.toList=⟨true,AD s1.toList,s2.toList,qb,q2.toList,fb,f2.toList⟩:=by
  intro h;unfold B6;simp only [<-hf1.out,<-hf2.out,hfb.out,<-hq1.out,<-hq2.out,hqb.out,<-hs1'.out,<-hs2'.out,hsb.out,h,if_true]
 replace hno:=H0 hno;replace hyes:=H0 hyes;cases sb
 ·go_wp2_with fail
  refine bodyPost_ret (v:= .agg #[.bool false,.string ⟨#[]⟩,.string q1,.bool qb,.string q2,.bool fb,.string f2]) (by simp [results,Tryz.results37,go_sem]) rfl ?_
  rw [hno.out rfl]
  exact ⟨_,_,_,_,rfl,toList_mk [],rfl,rfl,rfl,below_drewN (((Below.refl _ _).alloc (Nat.le_refl _) _).alloc (by simp) _) _⟩
 ·cases hnm:CE s1.toList
  ·go_wp2_with (go_at_call 88;refine (Rm _ _ hs3).mono ?_;rintro e w' ⟨rfl,rfl⟩)
   refine bodyPost_ret (v:= .agg #[.bool false,.string ⟨#[]⟩,.string q1,.bool qb,.string q2,.bool fb,.string f2]) (by simp [results,Tryz.results37,go_sem]) rfl ?_
   rw [hno.out (by rw [hnm];rfl)]
   exact ⟨_,_,_,_,rfl,toList_mk [],rfl,rfl,rfl,below_drewN (((Below.refl _ _).alloc (Nat.le_refl _) _).alloc (by simp) _) _⟩
  ·go_wp2_with (go_at_call 88;refine (Rm _ _ hs3).mono ?_;rintro e w' ⟨rfl,rfl⟩);refine (Fl _ _ hs3).mono ?_;rintro e w2 ⟨t,rfl,ht,hb⟩;obtain ⟨E,d,rfl⟩:=hb.ext;clear hb;go_wp2_with fail
   refine bodyPost_ret (v:= .agg #[.bool true,.string t,.string s2,.bool qb,.string q2,.bool fb,.string f2]) (by simp [results,Tryz.results37,go_sem]) rfl ?_
   rw [hyes.out (by rw [hnm];rfl)]
   exact ⟨_,_,_,_,rfl,ht,rfl,rfl,rfl,(((Below.refl _ _).alloc (Nat.le_refl _) _).alloc (by simp) _).toExt (by simp<;>omega) _ _⟩
def Dy (l:List UInt8):List UInt8:=E5 (IN l)
theorem JQ (l:List UInt8):(IN l).length<=l.length:=by
 unfold IN AG BW
 have h1:(l.dropWhile fun c=>FG (c.toNat:Int)).length<=l.length:=(List.dropWhile_sublist _).length_le
 have h2:=(List.dropWhile_sublist (fun c:UInt8=>FG (c.toNat:Int)) (l:=(l.dropWhile fun c=>FG (c.toNat:Int)).reverse)).length_le
 simp at h2⊢;omega
theorem RP (s:ByteArray) (w:World) (hs:s.size<=1099511627776):
  Calls Tryz.prog 38 #[.string s] w (Cy w (Dy s.toList)):=by
 go_enter Tryz.func38,Tryz.ntmps38;go_wp2_with fail;refine (AcR s _ hs).mono ?_;rintro e w1 ⟨t,rfl,ht,hb⟩;have hl:=JQ s.toList;rw [<-ht.out,Aa,Aa] at hl
 have hl2:t.size<=1099511627776:=by omega
 go_wp2_with fail;refine (ZF t _ hl2).mono ?_;rintro e w2 ⟨u,rfl,hu,hb2⟩;have hq:=H0 (hu.out.trans (congrArg E5 ht.out));go_wp2_with fail;go_ret
 exact BL hq.out (hb.next hb2)
def BK (sp:Bool):List UInt8->List UInt8 × List UInt8
 | []=>([],[])
 | c :: r=>if AB sp c=true then ([],c :: r) else (c :: (BK sp r).1,(BK sp r).2)
def IJ (scheme s:List UInt8):Option (Option Nat):=if s=[] then some none else match Bo 10 s with
 | none=>none
 | some n=>if 65535<n then none else if HZ scheme=some n then some none else some (some n)
def Br:Bool->List UInt8->Option (List UInt8 × List UInt8)
 | _,[]=>none
 | b,c :: r=>if c=91 then (Br true r).map (fun p=>(c :: p.1,p.2)) else if c=93 then (Br false r).map (fun p=>(c :: p.1,p.2))
  else if c=58/\b=false then some ([],r) else (Br b r).map (fun p=>(c :: p.1,p.2))
structure FF where
 user:List UInt8
 pass:List UInt8
 host:Bz
 port:Option Nat
def Fz (s:List UInt8):Option (List UInt8 × List UInt8):=match Br false s with
 | some (n,p)=>if n=[] then none else some (n,p)
 | none=>some (s,[])
def E7 (scheme user pass s:List UInt8):Option FF:=match Fz s with
 | none=>none
 | some (n,p)=>match DO n (Aj scheme) with
  | none=>none
  | some h=>match IJ scheme p with
   | none=>none
   | some q=>some ⟨user,pass,h,q⟩
def Gy (scheme s:List UInt8):Option FF:=match CN 64 s with
 | some (w,r)=>if r=[] then none else E7 scheme (A1 5 (Af 58 w).1) (A1 5 (Af 58 w).2.1) r
 | none=>E7 scheme [] [] s
structure Aq where
 scheme:List UInt8
 user:List UInt8
 pass:List UInt8
 host:Bz
 port:Option Nat
 opq:Bool
 flat:List UInt8
 path:List (List UInt8)
 query:Option (List UInt8)
 frag:Option (List UInt8)
deriving DecidableEq
def Ea:Aq:=⟨[],[],[],.none,none,false,[],[],none,none⟩
def Hh (b:Bool) (l:List UInt8):Option (List UInt8):=if b=true then some l else none
def GU (scheme:List UInt8):Nat:=if Aj scheme=true then 3 else 2
def Ax (scheme:List UInt8) (p:B9):Aq:=⟨scheme,[],[],.none,none,false,[],[],Hh p.hq (A1 (GU scheme) p.qry),Hh p.hf (A1 1 p.frg)⟩
def A3 (sp:Bool):List UInt8->Nat
 | []=>0
 | c :: r=>if AB sp c=true then A3 sp r+1 else 0
def FK (sp:Bool) (s:List UInt8):List UInt8:=s.drop (A3 sp s)
def BZ (scheme s:List UInt8):List (List UInt8):=Dl scheme [] (if 0<A3 (Aj scheme) s then s.drop 1 else s)
def SW (u:Aq) (a:FF) (rest:List UInt8):Aq:=
 ⟨u.scheme,a.user,a.pass,a.host,a.port,u.opq,u.flat,if (Aj u.scheme || !rest.isEmpty)=true then BZ u.scheme rest else u.path,u.query,u.frag⟩
def Ig (u:Aq) (s:List UInt8):Option Aq:=(Gy u.scheme (BK (Aj u.scheme) s).1).map fun a=>SW u a (BK (Aj u.scheme) s).2
def Et:List UInt8:=[108,111,99,97,108,104,111,115,116]
def Bk (u:Aq) (h:Bz):Aq:=⟨u.scheme,u.user,u.pass,h,u.port,u.opq,u.flat,u.path,u.query,u.frag⟩
def Bw (u:Aq) (l:List (List UInt8)):Aq:=⟨u.scheme,u.user,u.pass,u.host,u.port,u.opq,u.flat,l,u.query,u.frag⟩
def Dt (u base:Aq):Aq:=⟨u.scheme,base.user,base.pass,base.host,base.port,u.opq,u.flat,u.path,u.query,u.frag⟩
def Gk (u base:Aq):Aq:=⟨u.scheme,u.user,u.pass,u.host,u.port,u.opq,u.flat,base.path,if u.query=none then base.query else u.query,u.frag⟩
def GO (u:Aq) (s:List UInt8):Option Aq:=
 if BT (BK true s).1=true then some (Bw u (Dl u.scheme [] s))
 else if (BK true s).1=[] then some (Bw u (BZ u.scheme (BK true s).2))
 else match DO (BK true s).1 true with
  | none=>none
  | some h=>some (Bw (if h= .name Et then u else Bk u h) (BZ u.scheme (BK true s).2))
def EK:List (List UInt8)->Bool
 | []=>false
 | p :: _=>CK p
def LQ (base:Aq) (p:B9):Option Aq:=
 let u:=Bk (Ax Aw p) .empty
 let from_:=base.scheme==Aw
 if 2<=A3 true p.rest then GO u (p.rest.drop 2)
 else
  let v:=if from_=true then Bk u base.host else u
  if A3 true p.rest=1 then some (Bw v (Dl Aw (if (from_ && (EK base.path && !EX (p.rest.drop 1)))=true then base.path.take 1 else []) (p.rest.drop 1)))
  else if (from_ && p.rest.isEmpty)=true then some (Gk v base)
  else if (from_ && !EX p.rest)=true then some (Bw v (Dl Aw (HY Aw base.path) p.rest))
  else some (Bw v (Dl Aw [] p.rest))
def D3 (b:Bool) (s:List UInt8):List UInt8:=if (b && Lib.hasSuffix s [32])=true then s.dropLast++[37,50,48] else s
def GE (p:B9):Option Aq:=
 let u:=Ax p.sch p
 if Lib.hasPrefix p.rest [47,47]=true then Ig u (p.rest.drop 2)
 else if Lib.hasPrefix p.rest [47]=true then some (Bw u (Dl u.scheme [] (p.rest.drop 1)))
 else some ⟨u.scheme,[],[],.none,none,true,D3 (p.hq || p.hf) (A1 0 p.rest),[],u.query,u.frag⟩
def OQ (base:Aq) (p:B9):Option Aq:=if (!p.hf || p.hq || !p.rest.isEmpty)=true then none
 else some ⟨base.scheme,base.user,base.pass,base.host,base.port,base.opq,base.flat,base.path,base.query,some (A1 1 p.frg)⟩
def ED (base:Aq) (p:B9):Option Aq:=
 let u:=Ax base.scheme p
 let sp:=Aj base.scheme
 if 2<=A3 sp p.rest then (if sp=true then Ig u (FK sp p.rest) else Ig u (p.rest.drop 2))
 else if A3 sp p.rest=1 then some (Bw (Dt u base) (Dl u.scheme [] (p.rest.drop 1)))
 else if p.rest.isEmpty=true then some (Gk (Dt u base) base)
 else some (Bw (Dt u base) (Dl u.scheme (HY u.scheme base.path) p.rest))
def IP (base:Aq) (p:B9):Option Aq:=
 if ((p.hs && p.sch==Aw) || (!p.hs && (!base.opq && base.scheme==Aw)))=true then LQ base p
 else if ((p.hs && Aj p.sch) && (!(p.sch==base.scheme) || Lib.hasPrefix p.rest [47,47]))=true then Ig (Ax p.sch p) (FK (Aj p.sch) p.rest)
 else if (p.hs && !(p.hs && Aj p.sch))=true then GE p
 else if base.opq=true then OQ base p
 else ED base p
def G0 (base:Aq) (s:List UInt8):Option Aq:=IP base (B6 (Dy s))
def Dz (s:List UInt8):Option Aq:=if (B6 (Dy s)).hs=true then IP Ea (B6 (Dy s)) else none
def IE (user pass:List UInt8):List UInt8:=if user=[]/\pass=[] then [] else if pass=[] then user++[64] else user++[58]++pass++[64]
def DM:Option Nat->List UInt8
 | none=>[]
 | some n=>[58]++Lib.itoa (n:Int)
def YN:List (List UInt8)->Bool
 | []=>false
 | p :: _=>p.isEmpty
def FT (u:Aq):List UInt8:=if u.host= .none then (if (!u.opq && (decide (2<=u.path.length) && YN u.path))=true then [47,46] else []) else [47,47]++IE u.user u.pass++u.host.text++DM u.port
def Hd (u:Aq):List UInt8:=if u.opq=true then u.flat else Az u.path
def FQ (d:UInt8):Option (List UInt8)->List UInt8
 | none=>[]
 | some q=>d :: q
def AS (u:Aq) (f:Bool):List UInt8:=u.scheme++[58]++FT u++Hd u++FQ 63 u.query++(if f=true then FQ 35 u.frag else [])
end Go.Proofs.YtonomfeipkdmhaaGreatDoor
