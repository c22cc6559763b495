/- Part 19: lemmas. -/
import Derived.Test.YtonomfeipkdmhaaGreatDoorK18
import Derived.WalkSmall
set_option linter.unusedVariables false
set_option linter.unusedSimpArgs false
set_option maxRecDepth 100000
set_option maxHeartbeats 16000000
namespace Go.Proofs.YtonomfeipkdmhaaGreatDoor
open Go.RowKit
theorem XD (l:List UInt8):Aj l=((l==[102,116,112]) || ((l==[102,105,108,101]) || ((l==[104,116,116,112]) || ((l==[104,116,116,112,115]) || ((l==[119,115]) || (l==[119,115,115])))))):=by
 unfold Aj Aw;simp only [List.contains_cons,List.contains_nil,Bool.or_false]
theorem DN (s:ByteArray) (w:World):Calls Tryz.prog 145 #[.string s] w fun e w'=>e= .returned (.bool (Aj s.toList))/\w=w':=by
 rw [XD];obtain ⟨b1,h1⟩:∃ b,(s.toList==[102,116,112])=b:=⟨_,rfl⟩;obtain ⟨b2,h2⟩:∃ b,(s.toList==[102,105,108,101])=b:=⟨_,rfl⟩;obtain ⟨b3,h3⟩:∃ b,(s.toList==[104,116,116,112])=b:=⟨_,rfl⟩;obtain ⟨b4,h4⟩:∃ b,(s.toList==[104,116,116,112,115])=b:=⟨_,rfl⟩;obtain ⟨b5,h5⟩:∃ b,(s.toList==[119,115])=b:=⟨_,rfl⟩;obtain ⟨b6,h6⟩:∃ b,(s.toList==[119,115,115])=b:=⟨_,rfl⟩;rw [h1,h2,h3,h4,h5,h6]
 have hway:b1=true\/(b1=false/\(b2=true\/(b2=false/\(b3=true\/(b3=false/\(b4=true\/(b4=false/\(b5=true\/(b5=false/\(b6=true\/b6=false)))))))))):=by
  cases b1<;>cases b2<;>cases b3<;>cases b4<;>cases b5<;>cases b6<;>simp
 go_enter Tryz.func145,Tryz.ntmps145
 rcases hway with rfl | ⟨rfl,rfl | ⟨rfl,rfl | ⟨rfl,rfl | ⟨rfl,rfl | ⟨rfl,rfl | rfl⟩⟩⟩⟩⟩
 all_goals
  go_wp2_with fail;go_ret
  exact ⟨by simp,rfl⟩
theorem VF (s:ByteArray) (w:World):Calls Tryz.prog 309 #[.string s] w fun e w'=>e= .returned (.tuple #[.int .i64 (((HZ s.toList).getD 0:Nat):Int),.bool (HZ s.toList).isSome])/\w=w':=by
 obtain ⟨b1,h1⟩:∃ b,(s.toList==[102,116,112])=b:=⟨_,rfl⟩;obtain ⟨b3,h3⟩:∃ b,(s.toList==[104,116,116,112])=b:=⟨_,rfl⟩;obtain ⟨b4,h4⟩:∃ b,(s.toList==[104,116,116,112,115])=b:=⟨_,rfl⟩;obtain ⟨b5,h5⟩:∃ b,(s.toList==[119,115])=b:=⟨_,rfl⟩;obtain ⟨b6,h6⟩:∃ b,(s.toList==[119,115,115])=b:=⟨_,rfl⟩
 have hv:HZ s.toList=if b1=true then some 21 else if (b3 || b5)=true then some 80 else if (b4 || b6)=true then some 443 else none:=by
  unfold HZ;rw [<-h1,<-h3,<-h4,<-h5,<-h6];simp only [beq_iff_eq,Bool.or_eq_true]
 rw [hv];clear hv
 have hway:b1=true\/(b1=false/\(b3=true\/(b3=false/\(b5=true\/(b5=false/\(b4=true\/(b4=false/\(b6=true\/b6=false)))))))):=by
  cases b1<;>cases b3<;>cases b4<;>cases b5<;>cases b6<;>simp
 go_enter Tryz.func309,Tryz.ntmps309
 rcases hway with rfl | ⟨rfl,rfl | ⟨rfl,rfl | ⟨rfl,rfl | ⟨rfl,rfl | rfl⟩⟩⟩⟩
 all_goals
  go_wp2_with fail;go_ret2
  exact ⟨by simp,rfl⟩
theorem U6 (s:ByteArray) (h:s.size=2):s.toList=[s[0],s[1]]:=by
 have h1:=Ao s 0 (by omega)
 have h2:=Ao s 1 (by omega)
 have h3:=AM s 2 (by omega)
 rw [List.drop_zero] at h1;rw [h1,h2,h3]
theorem Uk {l:List UInt8} (h:l.length≠2):BT l=false:=by
 unfold BT;split
 ·exact absurd rfl h
 ·rfl
theorem ZW {l:List UInt8} (h:l.length≠2):CK l=false:=by
 unfold CK;split
 ·exact absurd rfl h
 ·rfl
theorem eqI (c d:UInt8):((c.toNat:Int)==(d.toNat:Int))=(c==d):=by
 rw [Bool.eq_iff_iff,beq_iff_eq,beq_iff_eq]
 exact ⟨fun h=>UInt8.toNat_inj.1 (by omega),fun h=>by rw [h]⟩
theorem Ko (s:ByteArray) (w:World) (hz:s.size<=4294967296):Calls Tryz.prog 265 #[.string s] w fun e w'=>e= .returned (.bool (BT s.toList))/\w=w':=by
 by_cases h2:s.size=2
 ·obtain ⟨e1,n1⟩:=MX (show (s.size:Int)=2 by omega)
  rw [U6 s h2]
  show Calls _ _ _ _ fun e w'=>e= .returned (.bool (L8 s[0] && (s[1]==58 || s[1]==124)))/\w=w'
  have q1:((s[1].toNat:Int)==58)=(s[1]==58):=eqI _ 58;have q2:((s[1].toNat:Int)==124)=(s[1]==124):=eqI _ 124
  have hl:=H0 (fun w=>De (s[0].toNat:Int) w)
  rw [show AU (s[0].toNat:Int)=L8 s[0] from rfl] at hl;generalize L8 s[0]=b0 at hl⊢;obtain ⟨b1,hb1⟩:∃ b,(s[1]==58)=b:=⟨_,rfl⟩;obtain ⟨b2,hb2⟩:∃ b,(s[1]==124)=b:=⟨_,rfl⟩;rw [hb1] at q1⊢;rw [hb2] at q2⊢;replace hb1:=H0 hb1;replace hb2:=H0 hb2
  have l0:0<s.size:=by omega
  have l1:1<s.size:=by omega
  replace h2:=H0 h2;go_enter Tryz.func265,Tryz.ntmps265
  cases b0<;>cases b1<;>cases b2
  all_goals
   go_wp2_with (go_at_call 154;refine (hl.out _).mono ?_;rintro e w' ⟨rfl,rfl⟩);go_ret
   exact ⟨by simp,rfl⟩
 ·have n1:((s.size:Int)==2)=false:=by rw [beq_eq_false_iff_ne];omega
  rw [Uk (by rw [Aa];exact h2)]
  replace h2:=H0 h2;go_enter Tryz.func265,Tryz.ntmps265;go_wp2_with fail;go_ret;exact ⟨rfl,rfl⟩
theorem Aae (s:ByteArray) (h:s.size=2):CK s.toList=(BT s.toList && s[1]==58):=by
 rw [U6 s h];show (L8 s[0] && s[1]==58)=((L8 s[0] && (s[1]==58 || s[1]==124)) && s[1]==58)
 cases L8 s[0]<;>cases (s[1]==58)<;>simp
theorem Lc (s:ByteArray) (w:World) (hz:s.size<=4294967296):Calls Tryz.prog 209 #[.string s] w fun e w'=>e= .returned (.bool (CK s.toList))/\w=w':=by
 have hd:=H0 (fun w=>Ko s w hz)
 by_cases h2:s.size=2
 ·rw [Aae s h2];have q1:((s[1].toNat:Int)==58)=(s[1]==58):=eqI _ 58;generalize BT s.toList=b0 at hd⊢;obtain ⟨b1,hb1⟩:∃ b,(s[1]==58)=b:=⟨_,rfl⟩;rw [hb1] at q1⊢;replace hb1:=H0 hb1
  have l1:1<s.size:=by omega
  replace h2:=H0 h2;go_enter Tryz.func209,Tryz.ntmps209
  cases b0<;>cases b1
  all_goals
   go_wp2_with (go_at_call 265;refine (hd.out _).mono ?_;rintro e w' ⟨rfl,rfl⟩);go_ret
   exact ⟨by simp,rfl⟩
 ·rw [Uk (by rw [Aa];exact h2)] at hd
  rw [ZW (by rw [Aa];exact h2)]
  replace h2:=H0 h2;go_enter Tryz.func209,Tryz.ntmps209;go_wp2_with (go_at_call 265;refine (hd.out _).mono ?_;rintro e w' ⟨rfl,rfl⟩);go_ret;exact ⟨rfl,rfl⟩
theorem Zg:∀ n:Fin 256,(BD (UInt8.ofNat n.val)=37↔UInt8.ofNat n.val=37)/\(BD (UInt8.ofNat n.val)=50↔UInt8.ofNat n.val=50)/\(BD (UInt8.ofNat n.val)=101↔(UInt8.ofNat n.val=101\/UInt8.ofNat n.val=69)):=by decide+kernel
theorem Xi (c:UInt8):(BD c=37↔c=37)/\(BD c=50↔c=50)/\(BD c=101↔(c=101\/c=69)):=by
 have:=Zg ⟨c.toNat,c.toNat_lt⟩;simp only [UInt8.ofNat_toNat] at this;exact this
theorem TM {a b c:UInt8} {r:List UInt8} (h:a≠46):En (a :: b :: c :: r)=if (AD [a,b,c]==[37,50,101])=true then some r else none:=by
 have e:AD [a,b,c]=[BD a,BD b,BD c]:=rfl;rw [CP,if_neg h,e];simp only [beq_iff_eq,List.cons.injEq,and_true];simp only [(Xi a).1,(Xi b).2.1,(Xi c).2.2]
 by_cases h37:a=37
 ·rw [if_pos h37];unfold Km;dsimp only
  by_cases h2:b=50/\(c=101\/c=69)
  ·rw [if_pos h2,if_pos ⟨h37,h2⟩]
  ·rw [if_neg h2,if_neg (fun hh=>h2 hh.2)]
 ·rw [if_neg h37,if_neg (fun hh=>h37 hh.1)]
theorem Tg {l:List UInt8} (h:l.head? ≠some 46) (h3:l.length<3):En l=none:=by
 match l,h3 with
 | [],_=>rfl
 | [a],_=>
  rw [CP,if_neg (fun e=>h (by rw [e];rfl))]
  split<;>rfl
 | [a,b],_=>
  rw [CP,if_neg (fun e=>h (by rw [e];rfl))]
  split<;>rfl
theorem OF (c:UInt8) (l:List UInt8):Lib.hasPrefix l [c]=(l.head? ==some c):=by
 unfold Lib.hasPrefix
 cases l with
 | nil=>rfl
 | cons x r=>
  rw [List.head?_cons,Bool.eq_iff_iff];simp [List.isPrefixOf]
  exact ⟨fun h=>h.symm,fun h=>h.symm⟩
def Agt (s:ByteArray) (w:World) (e:Ending) (w':World):Prop:=
 ∃ (R:ByteArray) (b:Bool),e= .returned (.tuple #[.string R,.bool b])/\Hid (En s.toList=if b=true then some R.toList else none)/\R.size<=s.size/\Below w.heap.size w w'
theorem Xa (s:ByteArray) (h:3<=s.size):s.toList=s[0] :: s[1] :: s[2] :: s.toList.drop 3:=by
 have h1:=Ao s 0 (by omega)
 have h2:=Ao s 1 (by omega)
 have h3:=Ao s 2 (by omega)
 rw [List.drop_zero] at h1;rw [h2,h3] at h1;exact h1
theorem IM (s:ByteArray) (w:World) (hz:s.size<=4294967296):Calls Tryz.prog 306 #[.string s] w (Agt s w):=by
 have hp:=fun w=>Tryz.strings_HasPrefix s ⟨#[46]⟩ w
 have e0:Lib.hasPrefix s.data.toList (ByteArray.mk #[46]).data.toList=(s.toList.head? ==some 46):=by
  rw [<-ByteArray.toList_eq];exact OF _ _
 rw [e0] at hp;replace hp:=H0 hp;cases hb:(s.toList.head? ==some 46)
 ·rw [hb] at hp
  have hh:s.toList.head? ≠some 46:=by simpa using hb
  replace hb:=H0 hb
  by_cases h3:3<=s.size
  ·have h3I:(3:Int)<=(s.size:Int):=by omega
   have hl:=Xa s h3
   have h0:s[0]≠46:=by intro e;rw [hl,e] at hh;exact hh rfl
   have hlow:=H0 (fun w=>Fl (s.extract 0 3) w (by rw [ByteArray.size_extract];omega))
   have het:(s.extract 0 3).toList=[s[0],s[1],s[2]]:=by rw [toList_extract,hl];rfl
   rw [het] at hlow
   have hR:(s.extract 3 s.size).toList=s.toList.drop 3:=by rw [toList_extract,List.take_of_length_le (by rw [Aa];omega)]
   have hv:En s.toList=if (AD [s[0],s[1],s[2]]==[37,50,101])=true then some (s.extract 3 s.size).toList else none:=by
    rw [hR]
    conv=>lhs;rw [hl]
    exact TM h0
   have hRz:(s.extract 3 s.size).size<=s.size:=by rw [ByteArray.size_extract];omega
   generalize AD [s[0],s[1],s[2]]=L at hlow hv;obtain ⟨b,hbb⟩:=N2 ((L==[37,50,101]));rw [hbb] at hv;replace hv:=H0 hv;replace hl:=H0 hl;replace het:=H0 het;replace hR:=H0 hR;replace hh:=H0 hh;replace h0:=H0 h0;go_enter Tryz.func306,Tryz.ntmps306;go_wp2_with (go_at_call 111;refine (hp.out _).mono ?_;rintro e w' ⟨rfl,hw'⟩;obtain rfl:=hw'.symm);refine (hlow.out _).mono ?_;rintro e w2 ⟨t,rfl,ht,hb2⟩
   have ht2:(t.toList==[37,50,101])=b:=by rw [ht.out];exact hbb
   cases b
   ·go_wp2_with fail;go_ret2
    exact ⟨⟨#[]⟩,false,rfl,by simpa using hv,Nat.zero_le _,hb2⟩
   ·go_wp2_with fail;go_ret2;exact ⟨_,true,rfl,hv,hRz,hb2⟩
  ·have h3I:(s.size:Int)<3:=by omega
   have hv:=Tg hh (by rw [Aa];omega)
   replace hv:=H0 hv;replace hh:=H0 hh;go_enter Tryz.func306,Tryz.ntmps306;go_wp2_with (go_at_call 111;refine (hp.out _).mono ?_;rintro e w' ⟨rfl,hw'⟩;obtain rfl:=hw'.symm);go_ret2
   exact ⟨⟨#[]⟩,false,rfl,by simpa using hv,Nat.zero_le _,Below.refl _ _⟩
 ·rw [hb] at hp
  have h0:0<s.size:=by
   by_cases h:0<s.size
   ·exact h
   ·rw [(At s).2 (by omega)] at hb;cases hb
  have h1I:(1:Int)<=(s.size:Int):=by omega
  have hl:=Ao s 0 h0;rw [List.drop_zero] at hl
  have h46:s[0]=46:=by rw [hl] at hb;simpa using hb
  have hR:(s.extract 1 s.size).toList=s.toList.drop 1:=by rw [toList_extract,List.take_of_length_le (by rw [Aa];omega)]
  have hv:Hid (En s.toList=if true=true then some (s.extract 1 s.size).toList else none):=H0 (by
   rw [if_pos rfl,hR]
   conv=>lhs;rw [hl]
   rw [CP,if_pos h46])
  have hRz:(s.extract 1 s.size).size<=s.size:=by rw [ByteArray.size_extract];omega
  replace hb:=H0 hb;replace hl:=H0 hl;replace h46:=H0 h46;replace hR:=H0 hR;go_enter Tryz.func306,Tryz.ntmps306;go_wp2_with (go_at_call 111;refine (hp.out _).mono ?_;rintro e w' ⟨rfl,hw'⟩;obtain rfl:=hw'.symm);go_ret2
  exact ⟨_,true,rfl,H0 (by rw [if_pos rfl];have:=hv.out;simpa using this),hRz,Below.refl _ _⟩
theorem YH (s:ByteArray) (w:World) (hz:s.size<=4294967296):Calls Tryz.prog 270 #[.string s] w (IY w (K3 s.toList)):=by
 have hb:=H0 (fun w=>IM s w hz)
 go_enter Tryz.func270,Tryz.ntmps270;go_wp2_with fail;refine (hb.out _).mono ?_;rintro e w2 ⟨R,b,rfl,hv,-,hbl⟩
 have hD:Hid (K3 s.toList=(b && (R.toList==[]))):=H0 (by
  unfold K3;rw [hv.out]
  cases b<;>rfl)
 obtain ⟨d,hd⟩:=N2 ((R.toList==[]))
 have he:R.toList.isEmpty=d:=by rw [<-hd];cases R.toList<;>rfl
 rw [hd] at hD;replace hv:=H0 hv
 cases b<;>cases d
 all_goals
  go_wp2_with fail;go_ret
  exact ⟨by rw [hD.out];rfl,hbl⟩
theorem Ac7 (s:ByteArray) (w:World) (hz:s.size<=4294967296):Calls Tryz.prog 268 #[.string s] w (IY w (IK s.toList)):=by
 have hb:=H0 (fun w=>IM s w hz)
 go_enter Tryz.func268,Tryz.ntmps268;go_wp2_with fail;refine (hb.out _).mono ?_;rintro e w2 ⟨R,b,rfl,hv,hRz,hbl⟩
 have hD:Hid (IK s.toList=(b && K3 R.toList)):=H0 (by
  unfold IK;rw [hv.out]
  cases b<;>rfl)
 have hd:=H0 (fun w=>YH R w (by omega))
 generalize K3 R.toList=d at hd hD;cases b
 ·go_wp2_with fail;go_ret
  exact ⟨by rw [hD.out];rfl,hbl⟩
 ·cases d
  all_goals
   go_wp2_with fail;refine (hd.out _).mono ?_;rintro e w3 ⟨rfl,hb3⟩;go_wp2_with fail;go_ret
   exact ⟨by rw [hD.out];rfl,hbl.next hb3⟩
theorem SI {l:List UInt8} (h:l.length<2):EX l=false:=by
 match l,h with
 | [],_=>rfl
 | [a],_=>rfl
theorem Ny (a b:UInt8) (r:List UInt8):EX (a :: b :: r)=(BT [a,b] && (match r with | []=>true | c :: _=>[47,92,63,35].contains c)):=rfl
theorem OK (s:ByteArray) (w:World) (hz:s.size<=4294967296):Calls Tryz.prog 210 #[.string s] w fun e w'=>e= .returned (.bool (EX s.toList))/\w=w':=by
 by_cases h2:2<=s.size
 ·have hI:(2:Int)<=(s.size:Int):=by omega
  have l0:=Ao s 0 (by omega)
  have l1:=Ao s 1 (by omega)
  rw [List.drop_zero] at l0;rw [l1] at l0
  have hd:=H0 (fun w=>Ko (s.extract 0 2) w (by rw [ByteArray.size_extract];omega))
  have het:(s.extract 0 2).toList=[s[0],s[1]]:=by rw [toList_extract,l0];rfl
  rw [het] at hd
  by_cases h3:s.size=2
  ·obtain ⟨e1,n1⟩:=MX (show (s.size:Int)=2 by omega)
   have hv:Hid (EX s.toList=BT [s[0],s[1]]):=H0 (by
    rw [l0,Ny,AM s 2 (by omega)]
    exact Bool.and_true _)
   generalize BT [s[0],s[1]]=b at hd hv;replace l0:=H0 l0;replace l1:=H0 l1;replace het:=H0 het;replace h3:=H0 h3;go_enter Tryz.func210,Tryz.ntmps210;cases b
   all_goals
    go_wp2_with (go_at_call 265;refine (hd.out _).mono ?_;rintro e w' ⟨rfl,rfl⟩);go_ret
    exact ⟨by rw [hv.out];rfl,rfl⟩
  ·have n1:((s.size:Int)==2)=false:=by rw [beq_eq_false_iff_ne];omega
   have l2:=Ao s 2 (by omega)
   have hl2:2<s.size:=by omega
   have hv:Hid (EX s.toList=(BT [s[0],s[1]] && ([47,92,63,35]:List UInt8).contains s[2])):=H0 (by
    rw [l0,Ny,l2])
   have hix:=fun w=>Tryz.strings_IndexByte ⟨#[47,92,63,35]⟩ (s[2].toNat:Int) w
   have ec:((s[2].toNat:Int)).toNat.toUInt8=s[2]:=by simp
   have el:(ByteArray.mk #[47,92,63,35]).data.toList=[47,92,63,35]:=rfl;simp only [ec,el] at hix;have hcn:=IL [47,92,63,35] s[2];generalize Lib.indexByte [47,92,63,35] s[2]=z at hix hcn;replace hix:=H0 hix;rw [hcn] at hv
   have hway:(0<=z/\Hid (decide (0<=z)=true))\/(z<0/\Hid (decide (0<=z)=false)):=by
    by_cases h:0<=z
    ·exact .inl ⟨h,H0 (decide_eq_true h)⟩
    ·exact .inr ⟨by omega,H0 (decide_eq_false h)⟩
   generalize BT [s[0],s[1]]=b at hd hv;replace hcn:=H0 hcn;replace l0:=H0 l0;replace l1:=H0 l1;replace l2:=H0 l2;replace het:=H0 het;replace ec:=H0 ec;replace el:=H0 el;replace h3:=H0 h3;go_enter Tryz.func210,Tryz.ntmps210;cases b
   ·go_wp2_with (go_at_call 265;refine (hd.out _).mono ?_;rintro e w' ⟨rfl,rfl⟩);go_ret
    exact ⟨by rw [hv.out];rfl,rfl⟩
   ·rcases hway with ⟨q1,q2⟩ | ⟨q1,q2⟩
    all_goals
     rw [q2.out] at hv
     go_wp2_with (first
      | (go_at_call 265;refine (hd.out _).mono ?_;rintro e w' ⟨rfl,rfl⟩)
      | (go_at_call 47;refine (hix.out _).mono ?_;rintro e w' ⟨rfl,hw⟩;obtain rfl:=hw.symm))
     go_ret
     exact ⟨by rw [hv.out];first | rfl | (show Ending.returned (Value.bool _)=_;simp;done) | (show Ending.returned (Value.bool _)=_;simp;omega),rfl⟩
 ·have hI:(s.size:Int)<2:=by omega
  rw [SI (by rw [Aa];omega)]
  go_enter Tryz.func210,Tryz.ntmps210;go_wp2_with fail;go_ret;exact ⟨rfl,rfl⟩
theorem He:E1 Tryz.prog 22 9 (.string ByteArray.empty) 16:= .mk' Tryz.underlying22 (by kernel_rfl) rfl
theorem EQ {P:Program} {T E:TypeId} {z:Value} {b:Nat} (ty:E1 P T E z b) {ops:Array Oper} {rest:List Oper} {o:Oper} {a:Act} {Q:Exit->Act->World->Prop}
  (hgd:o.guard=none) (s x:Operand) (ho:o.op= .call { callee:= .builtin .append,args:= #[s,x],argTypes:= #[T,T] })
  {W0 w0:World} {B:Nat} {v:Value} {l:List ByteArray} (m:List ByteArray) (pa:Option Addr) (pc:Nat) (hs:a.eval s=v) (hx:a.eval x= .slice pa m.length pc)
  (hnil:pa=none->pc=0/\m=[]) (hcell:0<m.length->∃ g o,pa=some ⟨g,o,none⟩/\∀ i (h:i<m.length),w0.cell? ⟨g,o+i,none⟩=some (.string m[i]))
  (hown:AI w0 B E v l) (hbel:Below B W0 w0) (hB:B<=w0.heap.size) (h63:l.length+m.length<=maxLen) (hsz:(l.length+m.length) * b<=140737488355328)
  (h:∀ v' w',AI w' B E v' (l++m)->Below B W0 w'->wpList P ops Q rest (a.put o.dst v') w'):
  wpList P ops Q (o :: rest) a w0:=by
 obtain ⟨i,hi,hz,hs1,hb1⟩:=ty.i
 cases hpa:pa with
 | none=>
  obtain ⟨rfl,rfl⟩:=hnil hpa;subst hpa;refine wpList_append_own_none hgd s x T ho B E i 1 ty.u hi v l.length _ hs hown hx ?_
  have:=h v w0 (by simpa using hown) hbel
  exact this
 | some ad=>
  subst hpa
  have hn:∀ j u,(m.map Value.string)[j]? =some u->w0.cell? (ad.add j)=some u:=by
   intro j u hj
   have hjl:j<m.length:=by
    have:=List.getElem?_eq_some_iff.1 hj;simpa using this.1
   obtain ⟨g,o,e,hc⟩:=hcell (by omega)
   obtain rfl:=Option.some.inj e;rw [List.getElem?_map,List.getElem?_eq_getElem hjl] at hj;have:=hc j hjl
   have e2:(⟨g,o,none⟩:Addr).add j=⟨g,o+j,none⟩:=by cases j<;>simp [Addr.add]
   rw [e2,this];exact hj
  refine wpList_append_own w0 hgd s x T ho B E i z 1 b ty.u hi hz hs1 hb1 ty.z (by decide) v l.length _ hs hown ad m.length pc (m.map Value.string) hx (by simp) hn (by intro y hy;simp at hy;obtain ⟨t,_,rfl⟩:=hy;rfl) h63 hsz hB ?_
  intro v' w' hown' hgrow hnil
  refine h v' w' ?_ (hbel.grown hgrow hB (fun k hk=>(World.ownsRow.lt hown k hk).1))
  unfold AI;rw [List.length_append,List.map_append];exact hown'
structure DJ (w:World) (pa:Option Addr) (n c:Nat) (l:List ByteArray):Prop where
 len:l.length=n
 read:Fg w (.slice pa n c) l
 nilC:pa=none->c=0
theorem DJ.below {w w':World} {K:Nat} {pa:Option Addr} {n c:Nat} {l:List ByteArray} (h:DJ w pa n c l) (hb:Below K w w') (hK:w.heap.size<=K):DJ w' pa n c l:=⟨h.len,h.read.below hb hK,h.nilC⟩
theorem DJ.own {w:World} {B:Nat} {v:Value} {l:List ByteArray} (h:AI w B 9 v l):∃ pa c,v= .slice pa l.length c/\DJ w pa l.length c l:=by
 have hr:=h.read
 rcases h.2 with ⟨rfl,h0⟩ | ⟨g,cap,cur,rfl,-⟩
 ·exact ⟨none,0,by rw [h0],rfl,by rw [h0];exact hr,fun _=>rfl⟩
 ·exact ⟨_,_,rfl,rfl,hr,fun h=>by cases h⟩
def Ol (L:List (List UInt8)) (w:World) (e:Ending) (w':World):Prop:=
 ∃ (v:Value) (l:List ByteArray),e= .returned v/\Hid (l.map (·.toList)=L)/\AI w' w.heap.size 9 v l/\Below w.heap.size w w'
theorem Jl {l:List ByteArray} (h:l.length=1):Ew (l.map (·.toList))=CK (l[0]'(by omega)).toList:=by
 match l,h with
 | [a],_=>rfl
theorem KJ {l:List ByteArray} (h:l.length≠1):Ew (l.map (·.toList))=false:=by
 match l,h with
 | [],_=>rfl
 | [a],h=>exact absurd rfl h
 | a :: b :: r,_=>rfl
theorem Nf (s:ByteArray) (pa:Option Addr) (n c:Nat) (l:List ByteArray) (w:World) (hp:DJ w pa n c l) (hn:n<=1000000) (hc:n<=c) (hz:∀ t∈l,t.size<=4294967296):
  Calls Tryz.prog 213 #[.string s,.slice pa n c] w (Ol (HY s.toList (l.map (·.toList))) w):=by
 obtain ⟨rfl,hr,hnil⟩:=hp;obtain ⟨a1,c1,hv,hcell⟩:=hr
 obtain ⟨rfl,-,rfl⟩:pa=a1/\l.length=l.length/\c=c1:=by simpa using hv
 clear hv
 have hnil2:pa=none->l=[]:=fun h=>by
  cases l with
  | nil=>rfl
  | cons a r=>obtain ⟨g,o,e,_⟩:=hcell (by simp);rw [h] at e;cases e
 obtain ⟨bf,hbf⟩:∃ b,(s.toList==[102,105,108,101])=b:=⟨_,rfl⟩;have hfl:(s.toList==Aw)=bf:=hbf
 by_cases h0:l.length=0
 ·have hl0:l=[]:=List.eq_nil_of_length_eq_zero h0
  have n0:(l.length:Int)<=0:=by omega
  obtain ⟨m,hm⟩:=N2 (l.take 0)
  have hml:m.length=0:=by rw [<-hm,List.length_take];omega
  have hv:Hid (m.map (·.toList)=HY s.toList (l.map (·.toList))):=H0 (by
   rw [<-hm]
   subst hl0;unfold HY;split<;>rfl)
  have hv0:Hid (([]:List ByteArray).map (·.toList)=HY s.toList (l.map (·.toList))):=H0 (by
   rw [<-hv.out,<-hm,List.take_zero])
  have hlc:(0:Int)<=(c:Int):=by omega
  rw [h0];replace hm:=H0 hm;replace hl0:=H0 hl0;replace hfl:=H0 hfl;clear hnil hnil2 hcell n0
  cases pa with
  | none=>
   go_enter Tryz.func213,Tryz.ntmps213;go_wp2_with fail;go_ret;exact ⟨_,[],rfl,hv0,AI.nil _ _ _,Below.refl _ _⟩
  | some a0=>
   have hc1:Hid ((some a0:Option Addr)=none->c=0/\m=[]):=H0 (fun h=>by cases h)
   have hc2:Hid (0<m.length->∃ g o,(some a0:Option Addr)=some ⟨g,o,none⟩/\∀ i (h:i<m.length),w.cell? ⟨g,o+i,none⟩=some (.string m[i])):=H0 (fun h=>by omega)
   replace hml:=H0 hml;go_enter Tryz.func213,Tryz.ntmps213
   go_wp2_with (refine EQ He rfl (.const (.slice none 0 0)) (.tmp 29) rfl m (some a0) c rfl (by rw [hml.out];rfl) hc1.out hc2.out (AI.nil _ _ _) (Below.refl w.heap.size w) (Nat.le_refl _) (by rw [hml.out];unfold maxLen;simp) (by rw [hml.out];simp) ?_;intro v' w2 ho hb)
   go_ret;rw [List.nil_append] at ho;exact ⟨_,_,rfl,hv,ho,hb⟩
 have p0:(0:Int)<(l.length:Int):=by omega
 have hz0:(l[0]'(by omega)).size<=4294967296:=hz _ (List.getElem_mem ..)
 have hlst:l.take (l.length - 1)=l.dropLast:=by rw [List.dropLast_eq_take]
 cases bf
 ·have hi0:0<=(l.length:Int) - 1:=by omega
  obtain ⟨m,hm⟩:=N2 (l.take (l.length - 1))
  have hml:m.length=(l.length - 1):=by rw [<-hm,List.length_take];omega
  have hv:Hid (m.map (·.toList)=HY s.toList (l.map (·.toList))):=H0 (by
   rw [<-hm]
   unfold HY;rw [hfl];simp only [Bool.false_and];rw [if_neg (by decide),<-List.map_dropLast,hlst])
  have hc1:pa=none->c=0/\m=[]:=fun h=>⟨hnil h,by rw [<-hm,hnil2 h];simp⟩
  have hc2:0<m.length->∃ g o,pa=some ⟨g,o,none⟩/\∀ i (h:i<m.length),w.cell? ⟨g,o+i,none⟩=some (.string m[i]):=fun h=>by
   obtain ⟨g,o,e,hcc⟩:=hcell (by omega)
   refine ⟨g,o,e,fun i hi=> ?_⟩
   have hil:i<l.length:=by omega
   rw [hcc i hil];congr 2;subst hm;rw [List.getElem_take]
  replace hc1:=H0 hc1;replace hc2:=H0 hc2;replace hml:=H0 hml;replace hm:=H0 hm;replace hfl:=H0 hfl;clear hnil hnil2;replace hcell:=H0 hcell;go_enter Tryz.func213,Tryz.ntmps213
  go_wp2_with (first
   | (go_at_call 209;refine (hno.out _).mono ?_;rintro e w' ⟨rfl,rfl⟩)
   | (refine EQ He rfl (.const (.slice none 0 0)) (.tmp 29) rfl m pa c rfl (by rw [hml.out];rfl) hc1.out hc2.out (AI.nil _ _ _) (Below.refl w.heap.size w) (Nat.le_refl _) (by rw [hml.out];unfold maxLen;first | (simp;done) | (simp;omega)) (by rw [hml.out];first | (simp;done) | (simp;omega)) ?_;intro v' w2 ho hb))
  go_ret;rw [List.nil_append] at ho;exact ⟨_,_,rfl,hv,ho,hb⟩
 ·have hi0:0<=(l.length:Int) - 1:=by omega
  obtain ⟨g0,o0,rfl,hcc⟩:=hcell (by omega)
  have hcc0:=hcc 0 (by omega)
  rw [Nat.add_zero] at hcc0
  by_cases h1:l.length=1
  ·rw [h1];rw [h1] at hc hlst;replace hi0:=H0 hi0;replace p0:=H0 p0;have hh1:=Jl h1
   obtain ⟨x0,hx0⟩:∃ x,l[0]'(by omega)=x:=⟨_,rfl⟩
   rw [hx0] at hcc0 hh1 hz0
   have hno:=H0 (fun w=>Lc x0 w hz0)
   obtain ⟨N,hN⟩:=N2 (CK x0.toList);rw [hN] at hno hh1;replace hN:=H0 hN;replace hx0:=H0 hx0;replace h1:=H0 h1;cases N
   ·
    obtain ⟨m,hm⟩:=N2 (l.take 0)
    have hml:m.length=0:=by rw [<-hm,List.length_take];omega
    have hv:Hid (m.map (·.toList)=HY s.toList (l.map (·.toList))):=H0 (by
     rw [<-hm]
     unfold HY;rw [hfl,hh1];simp only [Bool.and_false];rw [if_neg (by decide),<-List.map_dropLast,<-hlst])
    have hc1:(some ⟨g0,o0,none⟩:Option Addr)=none->c=0/\m=[]:=fun h=>by cases h
    have hc2:0<m.length->∃ g o,(some ⟨g0,o0,none⟩:Option Addr)=some ⟨g,o,none⟩/\∀ i (h:i<m.length),w.cell? ⟨g,o+i,none⟩=some (.string m[i]):=fun h=>by
     refine ⟨g0,o0,rfl,fun i hi=> ?_⟩
     have hil:i<l.length:=by have:=h1.out;omega
     rw [hcc i hil];congr 2;subst hm;rw [List.getElem_take]
    replace hc1:=H0 hc1;replace hc2:=H0 hc2;replace hml:=H0 hml;replace hm:=H0 hm;replace hfl:=H0 hfl;replace hcc:=H0 hcc;replace hlst:=H0 hlst;replace h0:=H0 h0;clear hcell hnil hnil2;replace hh1:=H0 hh1;go_enter Tryz.func213,Tryz.ntmps213
    go_wp2_with (first
     | (go_at_call 209;refine (hno.out _).mono ?_;rintro e w' ⟨rfl,rfl⟩)
     | (refine EQ He rfl (.const (.slice none 0 0)) (.tmp 29) rfl m (some ⟨g0,o0,none⟩) c rfl (by rw [hml.out];rfl) hc1.out hc2.out (AI.nil _ _ _) (Below.refl w.heap.size w) (Nat.le_refl _) (by rw [hml.out];unfold maxLen;first | (simp;done) | (simp;omega)) (by rw [hml.out];first | (simp;done) | (simp;omega)) ?_;intro v' w2 ho hb))
    go_ret;rw [List.nil_append] at ho;exact ⟨_,_,rfl,hv,ho,hb⟩
   ·
    obtain ⟨m,hm⟩:=N2 (l.take 1)
    have hml:m.length=1:=by rw [<-hm,List.length_take];have:=h1.out;omega
    have hv:Hid (m.map (·.toList)=HY s.toList (l.map (·.toList))):=H0 (by
     rw [<-hm]
     unfold HY;rw [hfl,hh1];simp only [Bool.and_true];rw [if_pos trivial,List.take_of_length_le (by have:=h1.out;omega)])
    have hc1:(some ⟨g0,o0,none⟩:Option Addr)=none->c=0/\m=[]:=fun h=>by cases h
    have hc2:0<m.length->∃ g o,(some ⟨g0,o0,none⟩:Option Addr)=some ⟨g,o,none⟩/\∀ i (h:i<m.length),w.cell? ⟨g,o+i,none⟩=some (.string m[i]):=fun h=>by
     refine ⟨g0,o0,rfl,fun i hi=> ?_⟩
     have hil:i<l.length:=by have:=h1.out;omega
     rw [hcc i hil];congr 2;subst hm;rw [List.getElem_take]
    replace hc1:=H0 hc1;replace hc2:=H0 hc2;replace hml:=H0 hml;replace hm:=H0 hm;replace hfl:=H0 hfl;replace hcc:=H0 hcc;replace hlst:=H0 hlst;replace h0:=H0 h0;clear hcell hnil hnil2;replace hh1:=H0 hh1;go_enter Tryz.func213,Tryz.ntmps213
    go_wp2_with (first
     | (go_at_call 209;refine (hno.out _).mono ?_;rintro e w' ⟨rfl,rfl⟩)
     | (refine EQ He rfl (.const (.slice none 0 0)) (.tmp 29) rfl m (some ⟨g0,o0,none⟩) c rfl (by rw [hml.out];rfl) hc1.out hc2.out (AI.nil _ _ _) (Below.refl w.heap.size w) (Nat.le_refl _) (by rw [hml.out];unfold maxLen;first | (simp;done) | (simp;omega)) (by rw [hml.out];first | (simp;done) | (simp;omega)) ?_;intro v' w2 ho hb))
    go_ret;rw [List.nil_append] at ho;exact ⟨_,_,rfl,hv,ho,hb⟩
  ·have h1I:((l.length:Int)==1)=false:=by rw [beq_eq_false_iff_ne];omega
   have hh1:=KJ h1;replace h1:=H0 h1;obtain ⟨m,hm⟩:=N2 (l.take (l.length - 1))
   have hml:m.length=(l.length - 1):=by rw [<-hm,List.length_take];omega
   have hv:Hid (m.map (·.toList)=HY s.toList (l.map (·.toList))):=H0 (by
    rw [<-hm]
    unfold HY;rw [hfl,hh1];simp only [Bool.and_false];rw [if_neg (by decide),<-List.map_dropLast,hlst])
   have hc1:(some ⟨g0,o0,none⟩:Option Addr)=none->c=0/\m=[]:=fun h=>by cases h
   have hc2:0<m.length->∃ g o,(some ⟨g0,o0,none⟩:Option Addr)=some ⟨g,o,none⟩/\∀ i (h:i<m.length),w.cell? ⟨g,o+i,none⟩=some (.string m[i]):=fun h=>by
    refine ⟨g0,o0,rfl,fun i hi=> ?_⟩
    have hil:i<l.length:=by omega
    rw [hcc i hil];congr 2;subst hm;rw [List.getElem_take]
   replace hc1:=H0 hc1;replace hc2:=H0 hc2;replace hml:=H0 hml;replace hm:=H0 hm;replace hfl:=H0 hfl;replace hcc:=H0 hcc;replace hlst:=H0 hlst;replace h0:=H0 h0;clear hcell hnil hnil2;replace hh1:=H0 hh1;go_enter Tryz.func213,Tryz.ntmps213
   go_wp2_with (first
    | (go_at_call 209;refine (hno.out _).mono ?_;rintro e w' ⟨rfl,rfl⟩)
    | (refine EQ He rfl (.const (.slice none 0 0)) (.tmp 29) rfl m (some ⟨g0,o0,none⟩) c rfl (by rw [hml.out];rfl) hc1.out hc2.out (AI.nil _ _ _) (Below.refl w.heap.size w) (Nat.le_refl _) (by rw [hml.out];unfold maxLen;first | (simp;done) | (simp;omega)) (by rw [hml.out];first | (simp;done) | (simp;omega)) ?_;intro v' w2 ho hb))
   go_ret;rw [List.nil_append] at ho;exact ⟨_,_,rfl,hv,ho,hb⟩
def Afb (p:List UInt8 × List UInt8) (w:World) (e:Ending) (w':World):Prop:=∃ a b:ByteArray,e= .returned (.tuple #[.string a,.string b])/\Hid (a.toList=p.1)/\Hid (b.toList=p.2)/\Below w.heap.size w w'
theorem Lf (sp:Bool) (c:UInt8):(((c.toNat:Int)==47)=true/\AB sp c=true)\/(((c.toNat:Int)==47)=false/\sp=false/\AB sp c=false)\/(((c.toNat:Int)==47)=false/\sp=true/\((c.toNat:Int)==92)=true/\AB sp c=true)\/(((c.toNat:Int)==47)=false/\sp=true/\((c.toNat:Int)==92)=false/\AB sp c=false):=by
 have e47:(c==47)=((c.toNat:Int)==47):=by
  by_cases h:c=47
  ·subst h;rfl
  ·rw [beq_eq_false_iff_ne.2 h,Eq.comm,beq_eq_false_iff_ne]
   intro e;exact h (UInt8.toNat_inj.1 (by have:(47:UInt8).toNat=47:=rfl;omega))
 have e92:(c==92)=((c.toNat:Int)==92):=by
  by_cases h:c=92
  ·subst h;rfl
  ·rw [beq_eq_false_iff_ne.2 h,Eq.comm,beq_eq_false_iff_ne]
   intro e;exact h (UInt8.toNat_inj.1 (by have:(92:UInt8).toNat=92:=rfl;omega))
 have hs:AB sp c=(((c.toNat:Int)==47) || (sp && ((c.toNat:Int)==92))):=by unfold AB;rw [e47,e92]
 rw [hs];generalize ((c.toNat:Int)==47)=b1;generalize ((c.toNat:Int)==92)=b2
 cases b1<;>cases b2<;>cases sp<;>simp
theorem Sv (s:ByteArray) (sp:Bool) (w:World) (hz:s.size<=1000000000):Calls Tryz.prog 215 #[.string s,.bool sp] w (Afb (BK sp s.toList) w):=by
 obtain ⟨R,hR⟩:=N2 (BK sp s.toList);rw [hR];replace hR:=H0 hR;go_enter Tryz.func215,Tryz.ntmps215;go_wp2_with fail
 go_loop [6] (fun v7=>∃ k:Nat,v7= .int .i64 (k:Int)/\k<=s.size/\Hid (R=(s.toList.take k++(BK sp (s.toList.drop k)).1,(BK sp (s.toList.drop k)).2))) (fun v7=>s.size - (intOf v7).toNat)
 case atStart=>exact ⟨0,rfl,Nat.zero_le _,H0 (by rw [List.drop_zero,List.take_zero,List.nil_append,hR.out])⟩
 case round=>
  obtain ⟨k,rfl,hk,hg⟩:=hrel
  by_cases hlt:k<s.size
  ·have hI:(k:Int)<(s.size:Int):=by omega
   have hgs:=hg.out;rw [Ao s k hlt,BK] at hgs;have htk:=A5 s k hlt;have hdr:=Ao s k hlt;have hwy:=Lf sp s[k];have hc0:=AC s[k];obtain ⟨N,hN⟩:=N2 (AB sp s[k]);rw [hN] at hgs hwy;replace hN:=H0 hN
   cases N with
   | false=>
    rw [if_neg (by decide)] at hgs
    have hnew:Hid (R=(s.toList.take (k+1)++(BK sp (s.toList.drop (k+1))).1,(BK sp (s.toList.drop (k+1))).2)):=H0 (by rw [hgs,htk,List.append_assoc];rfl)
    replace hgs:=H0 hgs;replace htk:=H0 htk;replace hdr:=H0 hdr
    rcases hwy with ⟨_,h⟩ | ⟨q1,rfl,_⟩ | ⟨_,_,_,h⟩ | ⟨q1,rfl,q2,_⟩
    ·cases h
    ·go_wp2_with fail;go_round
     case rel=>exact ⟨k+1,by go_num,by omega,hnew⟩
     case measure=>simp [intOf];omega
    ·cases h
    ·go_wp2_with fail;go_round
     case rel=>exact ⟨k+1,by go_num,by omega,hnew⟩
     case measure=>simp [intOf];omega
   | true=>
    rw [if_pos rfl,List.append_nil,<-hdr] at hgs
    have hkI:(k:Int)<=(s.size:Int):=by omega
    have hk0:(0:Int)<=(k:Int):=by omega
    have h1:Hid ((s.extract 0 k).toList=R.1):=H0 (by rw [hgs,toList_extract,List.drop_zero])
    have h2:Hid ((s.extract k s.size).toList=R.2):=H0 (by rw [hgs,toList_extract,List.take_of_length_le (by rw [Aa];omega)])
    replace hgs:=H0 hgs;replace htk:=H0 htk;replace hdr:=H0 hdr
    rcases hwy with ⟨q1,_⟩ | ⟨_,_,h⟩ | ⟨q1,rfl,q2,_⟩ | ⟨_,_,_,h⟩
    ·go_wp2_with fail;go_region
     all_goals
      go_wp2_with fail;go_ret2
      exact ⟨_,_,rfl,h1,h2,by first | exact Below.refl _ _ | exact below_drew _ | exact below_drewN (Below.refl _ _) _⟩
    ·cases h
    ·go_wp2_with fail;go_region
     all_goals
      go_wp2_with fail;go_ret2
      exact ⟨_,_,rfl,h1,h2,by first | exact Below.refl _ _ | exact below_drew _ | exact below_drewN (Below.refl _ _) _⟩
    ·cases h
  ·have hI:(s.size:Int)<=(k:Int):=by omega
   have hf:Hid (R=(s.toList,[])):=H0 (by
    rw [hg.out,AM s k (by omega),List.take_of_length_le (by rw [Aa];omega)]
    show (s.toList++[],[])=_
    rw [List.append_nil])
   go_wp2_with fail;go_ret2
   exact ⟨_,_,rfl,H0 (by rw [hf.out]),H0 (by rw [hf.out];exact toList_mk []),Below.refl _ _⟩
def O4 (pre:List UInt8):List (List UInt8)->List (List UInt8)
 | []=>[pre]
 | q :: qs=>(pre++q) :: qs
theorem Un {l:List (List UInt8)} (h:l≠[]):O4 [] l=l:=by
 cases l with
 | nil=>exact absurd rfl h
 | cons q qs=>rfl
theorem Aej {p:UInt8->Bool} {c:UInt8} {r pre:List UInt8} (h:p c=false):O4 pre (Ci p (c :: r))=O4 (pre++[c]) (Ci p r):=by
 rw [Ci,if_neg (by rw [h];decide)]
 cases hs:Ci p r with
 | nil=>exact absurd hs (Is p r)
 | cons q qs=>show (pre++(c :: q)) :: qs=((pre++[c])++q) :: qs;rw [List.append_assoc];rfl
theorem AbM {p:UInt8->Bool} {c:UInt8} {r pre:List UInt8} (h:p c=true):O4 pre (Ci p (c :: r))=[pre]++O4 [] (Ci p r):=by
 rw [Ci,if_pos h,Un (Is p r)];show (pre++[]) :: _=_;rw [List.append_nil];rfl
theorem Acg (s:ByteArray) (f k:Nat) (hf:f<=k) (hk:k<s.size):(s.extract f (k+1)).toList=(s.extract f k).toList++[s[k]]:=by
 rw [toList_extract,toList_extract,A5 s k hk,List.drop_append_of_le_length (by rw [List.length_take,Aa];omega)]
theorem YZ (s:ByteArray) (k:Nat):(s.extract k k).toList=[]:=by
 rw [toList_extract,List.drop_of_length_le (by rw [List.length_take];omega)]
theorem Sw (s:ByteArray) (sp:Bool) (w:World) (hz:s.size<=1000000000):Calls Tryz.prog 267 #[.string s,.bool sp] w (Ol (Ci (AB sp) s.toList) w):=by
 obtain ⟨R,hR⟩:=N2 (Ci (AB sp) s.toList);rw [hR];replace hR:=H0 hR;have hne:=H0 (Is (AB sp));go_enter Tryz.func267,Tryz.ntmps267;go_wp2_with fail
 go_loopw [5,6,7] (fun v5 v6 v7 wr=>∃ (f k:Nat) (l:List ByteArray),v6= .int .i64 (f:Int)/\v7= .int .i64 (k:Int)/\f<=k/\k<=s.size/\l.length<=k/\AI wr w.heap.size 9 v5 l/\Below w.heap.size w wr/\Hid (R=l.map (·.toList)++O4 (s.extract f k).toList (Ci (AB sp) (s.toList.drop k)))) (fun _ _ v7 _=>s.size - (intOf v7).toNat)
 case atStart=>exact ⟨0,0,[],rfl,rfl,Nat.le_refl _,Nat.zero_le _,Nat.zero_le _,AI.nil _ _ _,Below.refl _ _,H0 (by rw [List.drop_zero,YZ,Un (hne.out _),hR.out];rfl)⟩
 case round=>
  obtain ⟨f,k,l,rfl,rfl,hfk,hk,hll,hown,hbel,hg⟩:=hrel;have hszw:=hbel.size
  have hfI:(f:Int)<=(k:Int):=by omega
  have hf0:(0:Int)<=(f:Int):=by omega
  by_cases hlt:k<s.size
  ·have hI:(k:Int)<(s.size:Int):=by omega
   have hkI:(k:Int)<=(s.size:Int):=by omega
   have hgs:=hg.out;rw [Ao s k hlt] at hgs;have hes:=Acg s f k hfk hlt;have hwy:=Lf sp s[k];have hc0:=AC s[k];obtain ⟨N,hN⟩:=N2 (AB sp s[k])
   cases N with
   | false=>
    rw [Aej hN,<-hes] at hgs;rw [hN] at hwy;have hnew:=H0 hgs;replace hN:=H0 hN;replace hes:=H0 hes;clear hgs
    rcases hwy with ⟨_,h⟩ | ⟨q1,rfl,_⟩ | ⟨_,_,_,h⟩ | ⟨q1,rfl,q2,_⟩
    ·cases h
    ·go_wp2_with fail;go_roundw
     case rel=>exact ⟨f,k+1,l,rfl,by go_num,by omega,by omega,by omega,hown,hbel,hnew⟩
     case measure=>simp [intOf];omega
    ·cases h
    ·go_wp2_with fail;go_roundw
     case rel=>exact ⟨f,k+1,l,rfl,by go_num,by omega,by omega,by omega,hown,hbel,hnew⟩
     case measure=>simp [intOf];omega
   | true=>
    rw [AbM hN] at hgs;rw [hN] at hwy
    have hnew:Hid (R=(l++[s.extract f k]).map (·.toList)++O4 (s.extract (k+1) (k+1)).toList (Ci (AB sp) (s.toList.drop (k+1)))):=H0 (by
     rw [hgs,YZ,List.map_append,List.append_assoc];rfl)
    replace hN:=H0 hN;replace hes:=H0 hes;clear hgs
    rcases hwy with ⟨q1,_⟩ | ⟨_,_,h⟩ | ⟨q1,rfl,q2,_⟩ | ⟨_,_,_,h⟩
    ·go_wp2_with (at_builtin;refine BO He rfl _ _ rfl rfl rfl hown hbel hszw (by unfold maxLen;omega) (by omega) ?_;intro v' w' ho' hb' _)
     go_roundw
     case rel=>exact ⟨k+1,k+1,l++[s.extract f k],by go_num,by go_num,by omega,by omega,by simp;omega,ho',hb',hnew⟩
     case measure=>simp [intOf];omega
    ·cases h
    ·go_wp2_with (at_builtin;refine BO He rfl _ _ rfl rfl rfl hown hbel hszw (by unfold maxLen;omega) (by omega) ?_;intro v' w' ho' hb' _)
     go_roundw
     case rel=>exact ⟨k+1,k+1,l++[s.extract f k],by go_num,by go_num,by omega,by omega,by simp;omega,ho',hb',hnew⟩
     case measure=>simp [intOf];omega
    ·cases h
  ·have hI:(s.size:Int)<=(k:Int):=by omega
   have hks:k=s.size:=by omega
   have hfs:(f:Int)<=(s.size:Int):=by omega
   have hf:Hid ((l++[s.extract f s.size]).map (·.toList)=R):=H0 (by
    rw [hg.out,AM s k (by omega),hks,List.map_append]
    show _=_++[(s.extract f s.size).toList++[]]
    rw [List.append_nil];rfl)
   replace hks:=H0 hks
   go_wp2_with (at_builtin;refine BO He rfl _ _ rfl rfl rfl hown hbel hszw (by unfold maxLen;omega) (by omega) ?_;intro v' w' ho' hb' _)
   go_ret;exact ⟨_,_,rfl,hf,ho',hb'⟩
def Agq (s:List UInt8) (l:List ByteArray) (B:Nat) (w:World) (e:Ending) (w':World):Prop:=
 ∃ (v':Value) (l':List ByteArray),e= .returned v'/\Hid (l'.map (·.toList)=HY s (l.map (·.toList)))/\AI w B 9 v' l'/\Hid (l'=l\/l'=l.dropLast)/\w=w'
theorem Aed {w:World} {B g c m:Nat} {l:List ByteArray} (h:AI w B 9 (.slice (some ⟨g,0,none⟩) (m+1) c) l) (hl:l.length=m+1):AI w B 9 (.slice (some ⟨g,0,none⟩) m c) l.dropLast:=by
 unfold AI at h⊢
 have hne:l≠[]:=fun e=>by rw [e] at hl;cases hl
 have hsp:l.map Value.string=l.dropLast.map Value.string++[.string (l.getLast hne)]:=by
  conv=>lhs;rw [<-List.dropLast_concat_getLast hne]
  rw [List.map_append];rfl
 have hdl:l.dropLast.length=m:=by rw [List.length_dropLast];omega
 rw [hl,hsp] at h;rw [hdl]
 exact ownsRow_pop (by rw [List.length_map,hdl,Nat.mul_one]) h
theorem AfF (s:ByteArray) (v:Value) (B:Nat) (l:List ByteArray) (w:World) (hown:AI w B 9 v l) (hn:l.length<=1000000000) (hz:∀ t∈l,t.size<=4294967296):
  Calls Tryz.prog 269 #[.string s,v] w (Agq s.toList l B w):=by
 have hr:=hown.read;obtain ⟨a1,c1,hv,hcell⟩:=hr
 by_cases h0:l.length=0
 ·have hl0:l=[]:=List.eq_nil_of_length_eq_zero h0
  have hup:Hid (l.map (·.toList)=HY s.toList (l.map (·.toList))):=H0 (by subst hl0;unfold HY;split<;>rfl)
  rw [h0] at hv;subst hv;clear hcell;replace hl0:=H0 hl0;replace h0:=H0 h0;go_enter Tryz.func269,Tryz.ntmps269;go_wp2_with fail;go_ret;exact ⟨_,l,rfl,hup,hown,H0 (.inl rfl),rfl⟩
 obtain ⟨m,hm⟩:∃ m,l.length=m+1:=⟨l.length - 1,by omega⟩
 obtain ⟨g,o,rfl,hcc⟩:=hcell (by omega)
 have ho:o=0:=by
  rcases hown.2 with ⟨e,_⟩ | ⟨g',cap,cur,e,_⟩
  ·rw [hv] at e;cases e
  ·rw [hv] at e;cases e;rfl
 subst ho
 have hcap:l.length<=c1:=by
  rcases hown.2 with ⟨e,_⟩ | ⟨g',cap,cur,e,_,_,hcap,_⟩
  ·rw [hv] at e;cases e
  ·rw [hv] at e;cases e;exact hcap
 have hcapI:((m:Nat):Int)<=(c1:Int):=by omega
 replace hcap:=H0 hcap
 have hcc0:=hcc 0 (by omega)
 rw [Nat.add_zero] at hcc0
 have hz0:=hz (l[0]'(by omega)) (List.getElem_mem ..)
 rw [hm] at hv;subst hv;have hpop:=Aed hown hm;obtain ⟨bf,hbf⟩:∃ b,(s.toList==[102,105,108,101])=b:=⟨_,rfl⟩;have hfl:(s.toList==Aw)=bf:=hbf
 have hdrop:Hid ((bf && Ew (l.map (·.toList)))=false->l.dropLast.map (·.toList)=HY s.toList (l.map (·.toList))):=H0 (fun h=>by
  unfold HY;rw [hfl,h,if_neg (by decide),List.map_dropLast])
 have hkeep:Hid ((bf && Ew (l.map (·.toList)))=true->l.map (·.toList)=HY s.toList (l.map (·.toList))):=H0 (fun h=>by
  unfold HY;rw [hfl,h,if_pos rfl])
 have hh1:=H0 (fun h=>Jl (l:=l) h)
 have hhn:=H0 (fun h=>KJ (l:=l) h)
 obtain ⟨x0,hx0⟩:∃ x,l[0]'(by omega)=x:=⟨_,rfl⟩
 rw [hx0] at hcc0 hz0
 have hno:=H0 (fun w=>Lc x0 w hz0)
 obtain ⟨N,hN⟩:=N2 (CK x0.toList);rw [hN] at hno
 have hhead:Hid (m=0->Ew (l.map (·.toList))=N):=H0 (fun e=>by rw [hh1.out (by omega),hx0,hN])
 have hheadn:Hid (m≠0->Ew (l.map (·.toList))=false):=H0 (fun e=>hhn.out (by omega))
 replace hN:=H0 hN;replace hx0:=H0 hx0;replace hfl:=H0 hfl;replace hcc:=H0 hcc
 have hm0:(0:Int)<=(m:Int):=by omega
 have hmb:(m:Int)<=1000000000:=by omega
 have hne0:((m:Int)+1==0)=false:=by rw [beq_eq_false_iff_ne];omega
 clear hcell;replace hm:=H0 hm;replace h0:=H0 h0
 cases bf with
 | false=>
  have hup:=H0 (hdrop.out rfl);go_enter Tryz.func269,Tryz.ntmps269;go_wp2_with (go_at_call 209;refine (hno.out _).mono ?_;rintro e w' ⟨rfl,rfl⟩);go_ret;exact ⟨_,l.dropLast,rfl,hup,hpop,H0 (.inr rfl),rfl⟩
 | true=>
  by_cases hm1:m=0
  ·have hhd:=hhead.out hm1
   have hup:Hid (N=false->l.dropLast.map (·.toList)=HY s.toList (l.map (·.toList))):=H0 (fun e=>hdrop.out (by rw [hhd,e];rfl))
   have hup2:Hid (N=true->l.map (·.toList)=HY s.toList (l.map (·.toList))):=H0 (fun e=>hkeep.out (by rw [hhd,e];rfl))
   replace hhd:=H0 hhd;subst hm1
   cases N with
   | false=>
    have hup3:=H0 (hup.out rfl);go_enter Tryz.func269,Tryz.ntmps269;go_wp2_with (go_at_call 209;refine (hno.out _).mono ?_;rintro e w' ⟨rfl,rfl⟩);go_ret;exact ⟨_,l.dropLast,rfl,hup3,hpop,H0 (.inr rfl),rfl⟩
   | true=>
    have hup3:=H0 (hup2.out rfl);go_enter Tryz.func269,Tryz.ntmps269;go_wp2_with (go_at_call 209;refine (hno.out _).mono ?_;rintro e w' ⟨rfl,rfl⟩);go_ret;exact ⟨_,l,rfl,hup3,hown,H0 (.inl rfl),rfl⟩
  ·have hup:=H0 (hdrop.out (by rw [hheadn.out hm1];rfl))
   have hm1I:((m:Int)+1==1)=false:=by rw [beq_eq_false_iff_ne];omega
   have hm1z:¬ ((m:Int)=0):=by omega
   replace hm1:=H0 hm1;go_enter Tryz.func269,Tryz.ntmps269;go_wp2_with (go_at_call 209;refine (hno.out _).mono ?_;rintro e w' ⟨rfl,rfl⟩);go_ret;exact ⟨_,l.dropLast,rfl,hup,hpop,H0 (.inr rfl),rfl⟩
theorem GM (pa:Option Addr) (n c:Nat) (l:List ByteArray) (w:World) (hp:DJ w pa n c l) (hn:n<=1000000000):
  Calls Tryz.prog 104 #[.slice pa n c] w fun e w'=>∃ v:Value,e= .returned v/\AI w' w.heap.size 9 v l/\Below w.heap.size w w':=by
 obtain ⟨rfl,hr,hnil⟩:=hp;obtain ⟨a1,c1,hv,hcell⟩:=hr;cases hv
 cases pa with
 | none=>
  have hl0:l=[]:=by
   cases l with
   | nil=>rfl
   | cons a r=>obtain ⟨g,o,e,_⟩:=hcell (by simp);cases e
  subst hl0;refine (Tryz.slices_Clone_string_nil _ _ w).mono ?_;rintro e w' ⟨rfl,rfl⟩;exact ⟨_,rfl,AI.nil _ _ _,Below.refl _ _⟩
 | some a=>
  by_cases h0:l.length=0
  ·have hl0:l=[]:=List.eq_nil_of_length_eq_zero h0;subst hl0;refine (Tryz.slices_Clone_string_zero a c w).mono ?_;rintro e w' ⟨v,rfl,ho,_,hb⟩;exact ⟨v,rfl,ho,hb⟩
  ·obtain ⟨g,o,e,hcc⟩:=hcell (by omega)
   cases e
   refine (Tryz.slices_Clone_string g o l.length c l w (Nat.le_refl _) (by omega) (fun j hj=> ?_)).mono ?_
   ·rw [hcc j hj,List.getD_eq_getElem?_getD,List.getElem?_eq_getElem hj];rfl
   ·rintro e w' ⟨v,rfl,ho,_,hb⟩;rw [List.take_length] at ho;exact ⟨v,rfl,ho,hb⟩
theorem Adi {scheme:List UInt8} {ps out:List (List UInt8)} {k:Nat} (h:k<ps.length):Dn scheme out (ps.drop k)=Dn scheme (CC scheme out ps[k] (decide (k+1=ps.length))) (ps.drop (k+1)):=by
 rw [List.drop_eq_getElem_cons h,Dn];congr 2
 by_cases hk:k+1=ps.length
 ·rw [decide_eq_true hk,List.drop_of_length_le (by omega)];rfl
 ·rw [decide_eq_false hk]
  cases hd:ps.drop (k+1) with
  | nil=>
   have:=congrArg List.length hd;rw [List.length_drop] at this;simp at this;omega
  | cons a r=>rfl
structure Gt (S:Al) (u:Aq):Prop where
 scheme:S.scheme.toList=u.scheme
 user:S.user.toList=u.user
 pass:S.pass.toList=u.pass
 host:S.host=Am u.host
 hasPort:S.hasPort=u.port.isSome
 port:S.port=((u.port.getD 0:Nat):Int)
 opq:S.flatP=u.opq
 flat:S.flat.toList=u.flat
 path:S.path.map (·.toList)=u.path
 hasQuery:S.hasQuery=u.query.isSome
 query:S.query.toList=u.query.getD []
 hasFrag:S.hasFrag=u.frag.isSome
 frag:S.frag.toList=u.frag.getD []
structure DI (w:World) (S:Al) (u:Aq):Prop where
 is:Gt S u
 path:DJ w S.pathA S.path.length S.pathC S.path
 cap:S.path.length<=S.pathC
theorem DI.below {w w':World} {K:Nat} {S:Al} {u:Aq} (h:DI w S u) (hb:Below K w w') (hK:w.heap.size<=K):DI w' S u:=⟨h.is,h.path.below hb hK,h.cap⟩
theorem DI.next {w w':World} {S:Al} {u:Aq} (h:DI w S u) (hb:Below w.heap.size w w'):DI w' S u:=h.below hb (Nat.le_refl _)
theorem DI.inn {w:World} {S:Al} {u:Aq} (h:DI w S u):Fs w S:=by
 obtain ⟨a,c,e,hc⟩:=h.path.read;cases e;exact hc
def zS:Al:=⟨⟨#[]⟩,⟨#[]⟩,⟨#[]⟩,Am .none,false,0,false,⟨#[]⟩,none,0,[],false,⟨#[]⟩,false,⟨#[]⟩⟩
theorem C2 (w:World):DJ w none 0 0 []:=⟨rfl,⟨none,0,rfl,fun h=>absurd h (by decide)⟩,fun _=>rfl⟩
theorem Ps:Gt zS Ea:=⟨toList_mk [],toList_mk [],toList_mk [],rfl,rfl,rfl,rfl,toList_mk [],rfl,rfl,toList_mk [],rfl,toList_mk []⟩
theorem AaU (w:World):DI w zS Ea:=⟨Ps,C2 w,Nat.le_refl _⟩
theorem Jb:Tryz.prog.built 34 []=some (Ab zS):=by kernel_rfl
theorem As (u:Al):(Ab u).all (·.oneCell')=true:=by kernel_rfl
theorem R2 (u:Al):(Ab u).size=23:=rfl
theorem Ac (u:Al):(Tryz.prog.info? 34).map (·.size)=some (Ab u).size:=Fv
theorem Fy:(Tryz.prog.info? 9).map (·.size)=some 1:=by kernel_rfl
theorem Jt:(Tryz.prog.info? 4).map (·.size)=some 1:=by kernel_rfl
theorem To:(Tryz.prog.info? 3).map (·.size)=some 1:=by kernel_rfl
theorem Bn:(Tryz.prog.info? 22).map (·.size)=some 1:=by kernel_rfl
theorem BA {w:World} {B:Nat} {v:Value} {l:List ByteArray} (h:AI w B 9 v l):∃ pa c,v= .slice pa l.length c/\l.length<=c/\DJ w pa l.length c l:=by
 have hr:=h.read
 rcases h.2 with ⟨rfl,h0⟩ | ⟨g,cap,cur,rfl,hg,hh,hcap,_⟩
 ·exact ⟨none,0,by rw [h0],by omega,rfl,by rw [h0];exact hr,fun _=>rfl⟩
 ·exact ⟨_,_,rfl,hcap,rfl,hr,fun h=>by cases h⟩
end Go.Proofs.YtonomfeipkdmhaaGreatDoor
