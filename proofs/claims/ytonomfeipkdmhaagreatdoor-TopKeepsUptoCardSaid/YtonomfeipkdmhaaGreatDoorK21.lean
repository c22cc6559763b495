/- Part 21: lemmas. -/
import Derived.Test.YtonomfeipkdmhaaGreatDoorK03
import Derived.Deep.RegionHeld3
import Derived.Deep.WholeRow
import Derived.Laws.FloatArith
import Derived.Laws.RangeAny
import Derived.Laws.Runes
import Derived.Lib.OthersKept
import Derived.Shelf.RegionOpenPlain
set_option linter.unusedVariables false
set_option linter.unusedSimpArgs false
set_option maxRecDepth 100000
set_option maxHeartbeats 16000000
namespace Go.Proofs.YtonomfeipkdmhaaGreatDoor
theorem AbA (n:Nat):Ieee.Toward.even.cut false n 0=n:=by
 unfold Ieee.Toward.cut;simp [Nat.mod_one]
theorem V1 {n:Nat} (h0:n≠0) (h:n<2 ^ 53):Ieee.double.nearest false n 0=(n.log2+1022) * 2 ^ 52+n * 2 ^ (52 - n.log2):=by
 have hL:n.log2<=52:=by
  have:=(Nat.log2_lt h0).2 h;omega
 have hn2:n<2 ^ (n.log2+1):=Nat.lt_log2_self
 have hlast:max ((0:Int)+n.log2 - Ieee.double.fractionBits) Ieee.double.leastPlace=(n.log2:Int) - 52:=by
  have e1:Ieee.double.leastPlace= -1074:=by decide
  have e2:(Ieee.double.fractionBits:Int)=52:=rfl;rw [e1,e2];omega
 unfold Ieee.Format.nearest;rw [if_neg h0];dsimp only;rw [hlast]
 have e3:((0:Int) - ((n.log2:Int) - 52)).toNat=52 - n.log2:=by omega
 have e4:((n.log2:Int) - 52 - 0).toNat=0:=by omega
 have e5:((n.log2:Int) - 52 - Ieee.double.leastPlace).toNat=n.log2+1022:=by
  have e1:Ieee.double.leastPlace= -1074:=by decide
  rw [e1];omega
 rw [e3,e4,e5,AbA,Nat.shiftLeft_eq];have hb:Ieee.double.binade=2 ^ 52:=rfl
 have hi:Ieee.double.infRung=2047 * 2 ^ 52:=by decide
 rw [hb,hi]
 have hk:n * 2 ^ (52 - n.log2)<2 ^ 53:=by
  have:n * 2 ^ (52 - n.log2)<2 ^ (n.log2+1) * 2 ^ (52 - n.log2):=Nat.mul_lt_mul_of_pos_right hn2 (Nat.two_pow_pos _)
  rw [<-Nat.pow_add,show n.log2+1+(52 - n.log2)=53 by omega] at this
  exact this
 rw [Nat.min_eq_left]
 ·rfl
 ·have h1:(n.log2+1022) * 2 ^ 52<=1074 * 2 ^ 52:=Nat.mul_le_mul_right _ (by omega)
  have h2:n * 2 ^ (52 - n.log2)<=2 * 2 ^ 52:=Nat.le_trans (Nat.le_of_lt hk) (by decide)
  have h3:=Nat.add_le_add h1 h2;rw [<-Nat.add_mul] at h3
  exact Nat.le_trans h3 (Nat.mul_le_mul_right _ (by decide))
theorem Ack {n:Nat} (h0:n≠0) (h:n<2 ^ 53):Ieee.double.read (Ieee.double.nearest false n 0)= .number false (n * 2 ^ (52 - n.log2)) ((n.log2:Int) - 52):=by
 have hL:n.log2<=52:=by
  have:=(Nat.log2_lt h0).2 h;omega
 have hn2:n<2 ^ (n.log2+1):=Nat.lt_log2_self;have hn1:2 ^ n.log2<=n:=Nat.log2_self_le h0
 have hk:n * 2 ^ (52 - n.log2)<2 ^ 53:=by
  have:n * 2 ^ (52 - n.log2)<2 ^ (n.log2+1) * 2 ^ (52 - n.log2):=Nat.mul_lt_mul_of_pos_right hn2 (Nat.two_pow_pos _)
  rw [<-Nat.pow_add,show n.log2+1+(52 - n.log2)=53 by omega] at this
  exact this
 have hk1:2 ^ 52<=n * 2 ^ (52 - n.log2):=by
  have:2 ^ n.log2 * 2 ^ (52 - n.log2)<=n * 2 ^ (52 - n.log2):=Nat.mul_le_mul_right _ hn1
  rw [<-Nat.pow_add,show n.log2+(52 - n.log2)=52 by omega] at this
  exact this
 rw [V1 h0 h];generalize hM:n * 2 ^ (52 - n.log2)=M at hk hk1⊢;generalize n.log2=L at hL⊢;unfold Ieee.Format.read;have hb:Ieee.double.binade=2 ^ 52:=rfl
 have hi:Ieee.double.infRung=2047 * 2 ^ 52:=by decide
 have hs:Ieee.double.signWeight=2 ^ 63:=by decide
 have e1:Ieee.double.leastPlace= -1074:=by decide
 rw [hb,hi,hs,e1]
 obtain ⟨r,hr⟩:∃ r,M=2 ^ 52+r:=⟨M - 2 ^ 52,by rw [Nat.add_sub_cancel' hk1]⟩
 have hr2:r<2 ^ 52:=by
  rw [hr,show (2:Nat) ^ 53=2 ^ 52+2 ^ 52 by decide] at hk
  exact Nat.lt_of_add_lt_add_left hk
 have hx:(L+1022) * 2 ^ 52+M=r+(L+1023) * 2 ^ 52:=by
  rw [hr,<-Nat.add_assoc,show L+1023=(L+1022)+1 by omega,Nat.add_mul (L+1022) 1,Nat.one_mul,Nat.add_comm r]
 rw [hx];generalize hB:(2:Nat) ^ 52=B at hr hr2 hk1
 have h63:(2:Nat) ^ 63=2048 * B:=by rw [<-hB]
 rw [h63];replace hr:M=B+r:=hr;clear hk hk1 hB h63
 have hle:r+(L+1023) * B<1076 * B:=by
  have h1:(L+1023) * B<=1075 * B:=Nat.mul_le_mul_right _ (by omega)
  generalize (L+1023) * B=X at h1⊢;omega
 have hr1:(r+(L+1023) * B) % (2048 * B)=r+(L+1023) * B:=Nat.mod_eq_of_lt (by omega)
 have hn:(r+(L+1023) * B) / (2048 * B)=0:=Nat.div_eq_of_lt (by omega)
 have hge:B<=(L+1023) * B:=by
  have:1 * B<=(L+1023) * B:=Nat.mul_le_mul_right _ (by omega)
  omega
 dsimp only;rw [hr1,hn]
 rw [if_neg (by omega),if_pos (by omega)]
 have hpos:0<B:=by omega
 have hd:(r+(L+1023) * B) / B=L+1023:=by rw [Nat.add_mul_div_right _ _ hpos,Nat.div_eq_of_lt hr2,Nat.zero_add]
 have hm:(r+(L+1023) * B) % B=r:=by rw [Nat.add_mul_mod_self_right,Nat.mod_eq_of_lt hr2]
 rw [hd,hm,hr]
 have e9:(-1074:Int)+((L+1023 - 1:Nat):Int)=(L:Int) - 52:=by omega
 rw [e9];rfl
theorem Zd:Ieee.double.read (Ieee.double.nearest false 0 0)= .number false 0 (-1074):=by decide
end Go.Proofs.YtonomfeipkdmhaaGreatDoor
namespace Go.Proofs.YtonomfeipkdmhaaGreatDoor
open Go.RowKit
def Ek:Nat:=9223372036854775807
theorem Ac0 {acc d:Nat} (hd:d<=9):(if (Ek - d) / 10<min acc Ek then Ek else min acc Ek * 10+d)=min (acc * 10+d) Ek:=by
 unfold Ek
 split<;>omega
theorem Gg (s:ByteArray) (w:World) (hs:s.size<=140737488355328):
  Calls Tryz.prog 292 #[.string s] w (JA Ek w (Bo 10 s.toList)):=by
 cases hem:s.toList.isEmpty
 ·have hd1:=H0 (Gz (base:=10) hem);go_enter Tryz.func292,Tryz.ntmps292;go_wp2_with fail
  go_loop [4,11] (fun nv iv=>∃ k m acc:Nat,iv= .int .i64 k/\nv= .int .i64 m/\k<=s.size/\Hid (m<=Ek)/\Hid (m=min acc Ek)/\Hid (AE 10 acc (s.toList.drop k)=AE 10 0 s.toList)) (fun _ i=>s.size - (intOf i).toNat)
  case atStart=>exact ⟨0,0,0,rfl,rfl,Nat.zero_le _,H0 (Nat.zero_le _),rfl,H0 (by rw [List.drop_zero])⟩
  case round=>
   obtain ⟨k,m,acc,rfl,rfl,hk,hm,hmc,hg⟩:=hrel
   by_cases hlt:k<s.size
   ·have hdr:=Ao s k hlt
    have hltI:(k:Int)<(s.size:Int):=by omega
    rw [hdr] at hg;clear hdr
    by_cases hd:Ah (s[k].toNat:Int) 10<0
    ·have hno:Hid (Bo 10 s.toList=none):=H0 (by rw [hd1.out,<-hg.out,AE,if_pos (show Ah (s[k].toNat:Int) ((10:Nat):Int)<0 from hd)])
     go_wp2_with (go_at_call 155;refine (Bu _ _ _ (AC _) (AK _)).mono ?_;rintro e w' ⟨rfl,rfl⟩);go_ret2;unfold JA;rw [hno.out];exact ⟨rfl,rfl⟩
    ·have hnew:Hid (AE 10 (acc * 10+(Ah (s[k].toNat:Int) ((10:Nat):Int)).toNat) (s.toList.drop (k+1))=AE 10 0 s.toList):=H0 (by rw [<-hg.out,AE,if_neg (show ¬ Ah (s[k].toNat:Int) ((10:Nat):Int)<0 from hd)])
     obtain ⟨d,hdd⟩:∃ d:Nat,Ah (s[k].toNat:Int) 10=(d:Int):=⟨(Ah (s[k].toNat:Int) 10).toNat,by omega⟩
     have hd9:d<=9:=by
      have:Ah (s[k].toNat:Int) 10<=9:=by unfold Ah;omega
      omega
     have hdig:=fun w=>Bu (s[k].toNat:Int) 10 w (AC _) (AK _)
     rw [hdd] at hdig hd;rw [show Ah (s[k].toNat:Int) ((10:Nat):Int)=(d:Int) from hdd] at hnew;replace hdig:=H0 hdig;replace hdd:=H0 hdd;have hst:=Ac0 (acc:=acc) hd9;rw [<-hmc.out] at hst;have hmM:=hm.out
     have e1:IntKind.i64.wrap (9223372036854775807 - (d:Int))=9223372036854775807 - (d:Int):=IntWalk.i64_in _ (by omega)
     have e4:(9223372036854775807 - (d:Int)) / 10=(((Ek - d) / 10:Nat):Int):=by unfold Ek;omega
     have e5:(9223372036854775807 - (d:Int)).tdiv 10=(((Ek - d) / 10:Nat):Int):=by rw [Int.tdiv_eq_ediv_of_nonneg (by omega)];exact e4
     generalize hq:(Ek - d) / 10=q at hst e4 e5
     have hcs:(decide (q<m)=true/\Hid (Ek=min (acc * 10+d) Ek))\/(decide (q<m)=false/\Hid (m * 10+d<=Ek)/\Hid (m * 10+d=min (acc * 10+d) Ek)):=by
      by_cases hc:q<m
      ·rw [if_pos hc] at hst;exact .inl ⟨decide_eq_true hc,H0 hst⟩
      ·rw [if_neg hc] at hst
       exact .inr ⟨decide_eq_false hc,H0 (by rw [hst];exact Nat.min_le_right _ _),H0 hst⟩
     replace hq:=H0 hq;clear hst hmM hg
     rcases hcs with ⟨c1,c2⟩ | ⟨c1,c3,c2⟩
     ·go_wp2_with (go_at_call 155;refine (hdig.out _).mono ?_;rintro e w' ⟨rfl,rfl⟩);go_round
      case rel=>exact ⟨k+1,Ek,acc * 10+d,by go_num,rfl,by omega,H0 (Nat.le_refl _),c2,hnew⟩
      case measure=>simp [intOf];omega
     ·have e6:IntKind.i64.wrap ((m:Int) * 10)=(m:Int) * 10:=IntWalk.i64_in _ (by have:=c3.out;unfold Ek at this;omega)
      have e7:IntKind.i64.wrap ((m:Int) * 10+(d:Int))=(m:Int) * 10+(d:Int):=IntWalk.i64_in _ (by have:=c3.out;unfold Ek at this;omega)
      go_wp2_with (go_at_call 155;refine (hdig.out _).mono ?_;rintro e w' ⟨rfl,rfl⟩);go_round
      case rel=>exact ⟨k+1,m * 10+d,acc * 10+d,by go_num,by go_num,by omega,c3,c2,hnew⟩
      case measure=>simp [intOf];omega
   ·have hfin:Hid (Bo 10 s.toList=some acc):=H0 (by rw [hd1.out,<-hg.out,AM s k (by omega)];rfl)
    have hgeI:(s.size:Int)<=(k:Int):=by omega
    clear hg;go_wp2_with fail;go_ret2;unfold JA;rw [hfin.out,hmc.out];exact ⟨rfl,rfl⟩
 ·have hno:Hid (Bo 10 s.toList=none):=H0 (by unfold Bo;rw [if_pos (by simpa using hem)])
  go_enter Tryz.func292,Tryz.ntmps292;go_wp2_with fail;go_ret2;unfold JA;rw [hno.out];exact ⟨rfl,rfl⟩
def IV:List UInt8->List UInt8 × Option (List UInt8)
 | []=>([],none)
 | c :: r=>if c=101\/c=69 then ([],some r) else (c :: (IV r).1,(IV r).2)
def PC (l:List UInt8):Option Nat:=if 4<l.length then none else Bo 10 l
def IS:List UInt8->Option Int
 | 45 :: r=>(PC r).map (fun n:Nat=> -(n:Int))
 | 43 :: r=>(PC r).map (fun n:Nat=>(n:Int))
 | l=>(PC l).map (fun n:Nat=>(n:Int))
def Ie (l:List UInt8):Option (Nat × Int):=
 match (match (IV l).2 with | none=>some 0 | some r=>IS r) with
 | none=>none
 | some m=>
  if ((Af 46 (IV l).1).2.2=true/\(Af 46 (IV l).1).2.1=[])\/15<(Af 46 (IV l).1).1.length+(Af 46 (IV l).1).2.1.length then none
  else match Bo 10 ((Af 46 (IV l).1).1++(Af 46 (IV l).1).2.1) with
   | none=>none
   | some n=>if m - (Af 46 (IV l).1).2.1.length< -22\/22<m - (Af 46 (IV l).1).2.1.length then none else some (n,m - (Af 46 (IV l).1).2.1.length)
def Cf:List UInt8->Option (Bool × Nat × Int)
 | 45 :: r=>(Ie r).map fun x=>(true,x)
 | l=>(Ie l).map fun x=>(false,x)
theorem KX (c:UInt8) (l:List UInt8):Lib.hasPrefix l [c]=match l with | x :: _=>(c==x) | []=>false:=by
 unfold Lib.hasPrefix
 match l with
 | []=>rfl
 | x :: r=>simp [List.isPrefixOf]
theorem LS {s:ByteArray} {c:UInt8} (h:Lib.hasPrefix s.data.toList [c]=false):(⟨(Lib.trimPrefix s.data.toList [c]).toArray⟩:ByteArray)=s:=by
 unfold Lib.trimPrefix;rw [if_neg (by rw [h];decide)]
theorem UE {s:ByteArray} {c:UInt8} {r:List UInt8} (h:s.toList=c :: r):(⟨(Lib.trimPrefix s.data.toList [c]).toArray⟩:ByteArray)=⟨r.toArray⟩:=by
 unfold Lib.trimPrefix
 rw [<-ByteArray.toList_eq,h,if_pos (by rw [KX];simp)];rfl
theorem Aeq {l:List UInt8} {n:Nat}:∀ (acc:Nat),AE 10 acc l=some n->n<(acc+1) * 10 ^ l.length:=by
 induction l with
 | nil=>intro acc h;simp [AE] at h;rw [List.length_nil,Nat.pow_zero];omega
 | cons c r ih=>
  intro acc h;rw [AE] at h;split at h
  ·cases h
  ·have hd:(Ah (c.toNat:Int) ((10:Nat):Int)).toNat<=9:=by unfold Ah;omega
   have:=ih _ h;refine Nat.lt_of_lt_of_le this ?_;rw [List.length_cons,Nat.pow_succ,Nat.mul_comm (10 ^ r.length) 10,<-Nat.mul_assoc]
   exact Nat.mul_le_mul_right _ (by omega)
theorem OD {l:List UInt8} {n:Nat} (h:Bo 10 l=some n):n<10 ^ l.length:=by
 unfold Bo at h;split at h
 ·cases h
 ·have:=Aeq 0 h;omega
def Aey (w:World) (o:Option Int) (e:Ending) (w':World):Prop:=e= .returned (.tuple #[.int .i64 (o.getD 0),.bool o.isSome])/\w=w'
theorem Y0 {l:List UInt8} {n:Nat} (h:PC l=some n):n<=9999:=by
 unfold PC at h;split at h
 ·cases h
 ·have:=OD h
  have h2:10 ^ l.length<=10 ^ 4:=Nat.pow_le_pow_right (by decide) (by omega)
  omega
theorem AcM {l:List UInt8} {n:Int} (h:IS l=some n): -9999<=n/\n<=9999:=by
 unfold IS at h;split at h
 all_goals
  rw [Option.map_eq_some_iff] at h;obtain ⟨m,hm,rfl⟩:=h;have:=Y0 hm;omega
theorem Tl (s:ByteArray) (w:World) (hs:s.size<=140737488355328):
    Calls Tryz.prog 316 #[.string s] w (Aey w (IS s.toList)):=by
  have key:∃ (x:ByteArray) (neg:Bool),x.size<=140737488355328/\Hid (IS s.toList=(PC x.toList).map (fun n:Nat=>if neg then -(n:Int) else (n:Int)))/\
      ((neg=true/\Lib.hasPrefix s.data.toList [45]=true/\(⟨(Lib.trimPrefix s.data.toList [45]).toArray⟩:ByteArray)=x)\/
       (neg=false/\Lib.hasPrefix s.data.toList [45]=false/\(⟨(Lib.trimPrefix s.data.toList [45]).toArray⟩:ByteArray)=s/\(⟨(Lib.trimPrefix s.data.toList [43]).toArray⟩:ByteArray)=x)):=by
    have hl:=Aa s
    match hL:s.toList with
    | []=>
      have p1:Lib.hasPrefix s.data.toList [45]=false:=by rw [<-ByteArray.toList_eq,hL];rfl
      have p2:Lib.hasPrefix s.data.toList [43]=false:=by rw [<-ByteArray.toList_eq,hL];rfl
      exact ⟨s,false,hs,H0 (by rw [hL];rfl),.inr ⟨rfl,p1,LS p1,LS p2⟩⟩
    | c :: r=>
      have hz:(ByteArray.mk r.toArray).size<=140737488355328:=by rw [<-Aa,toList_mk];rw [hL] at hl;simp at hl;omega
      have pq:∀ d,Lib.hasPrefix s.data.toList [d]=(d==c):=fun d=>by rw [<-ByteArray.toList_eq,hL,KX]
      by_cases h1:c=45
      · subst h1
        exact ⟨⟨r.toArray⟩,true,hz,H0 (by rw [toList_mk];rfl),.inl ⟨rfl,(pq 45).trans rfl,UE hL⟩⟩
      · have p1:Lib.hasPrefix s.data.toList [45]=false:=(pq 45).trans (by simpa using Ne.symm h1)
        by_cases h2:c=43
        · subst h2
          exact ⟨⟨r.toArray⟩,false,hz,H0 (by rw [toList_mk];rfl),.inr ⟨rfl,p1,LS p1,UE hL⟩⟩
        · have p2:Lib.hasPrefix s.data.toList [43]=false:=(pq 43).trans (by simpa using Ne.symm h2)
          refine ⟨s,false,hs,H0 ?_,.inr ⟨rfl,p1,LS p1,LS p2⟩⟩;rw [hL];unfold IS;split
          · rename_i h;exact absurd (List.cons.inj h).1 h1
          · rename_i h;exact absurd (List.cons.inj h).1 h2
          · rfl
  obtain ⟨x,neg,hx,hV,hcs⟩:=key
  have hw:=H0 (fun w=>Gg x w hx)
  have hlen:(decide ((4:Int)<(x.size:Int))=true/\Hid (PC x.toList=none))\/(decide ((4:Int)<(x.size:Int))=false/\Hid (PC x.toList=Bo 10 x.toList)):=by
    by_cases h:4<x.size
    · exact .inl ⟨decide_eq_true (by omega),H0 (by unfold PC;rw [Aa,if_pos h])⟩
    · exact .inr ⟨decide_eq_false (by omega),H0 (by unfold PC;rw [Aa,if_neg h])⟩
  rcases hlen with ⟨q1,q2⟩ | ⟨q1,q2⟩
  · have hno:Hid (IS s.toList=none):=H0 (by rw [hV.out,q2.out];rfl)
    rcases hcs with ⟨rfl,h1,h2⟩ | ⟨rfl,h1,h2,h3⟩
    all_goals
      go_enter Tryz.func316,Tryz.ntmps316
      go_wp2_with (first
        | (go_at_call 218;refine (Tryz.strings_CutPrefix _ _ _).mono ?_;rintro e w' ⟨rfl,rfl⟩)
        | (go_at_call 183;refine (Tryz.strings_TrimPrefix _ _ _).mono ?_;rintro e w' ⟨rfl,rfl⟩))
      go_ret2;unfold Aey;rw [hno.out];exact ⟨rfl,rfl⟩
  · cases hD:PC x.toList with
    | none=>
      have hno:Hid (IS s.toList=none):=H0 (by rw [hV.out,hD];rfl)
      have hw2:=H0 (fun w=>by have:=hw.out w;rw [<-q2.out,hD] at this;exact this)
      replace hD:=H0 hD
      rcases hcs with ⟨rfl,h1,h2⟩ | ⟨rfl,h1,h2,h3⟩
      all_goals
        go_enter Tryz.func316,Tryz.ntmps316
        go_wp2_with (first
          | (go_at_call 218;refine (Tryz.strings_CutPrefix _ _ _).mono ?_;rintro e w' ⟨rfl,rfl⟩)
          | (go_at_call 183;refine (Tryz.strings_TrimPrefix _ _ _).mono ?_;rintro e w' ⟨rfl,rfl⟩)
          | (go_at_call 292;refine (hw2.out _).mono ?_;rintro e w' ⟨rfl,rfl⟩))
        go_ret2;unfold Aey;rw [hno.out];exact ⟨rfl,rfl⟩
    | some n=>
      have hbd:=Y0 hD
      have hmin:min n Ek=n:=by unfold Ek;omega
      have hyes:Hid (IS s.toList=some (if neg then -(n:Int) else (n:Int))):=H0 (by rw [hV.out,hD];rfl)
      have hw2:Hid (∀ w,Calls Tryz.prog 292 #[.string x] w (fun e w'=>e= .returned (.tuple #[.int .i64 (n:Int),.bool true])/\w=w')):=H0 (fun w=>by
        have:=hw.out w;rw [<-q2.out,hD] at this
        refine this.mono fun e w' h=> ?_
        unfold JA at h;rw [show (some n).getD 0=n from rfl,hmin] at h
        exact h)
      have e1:IntKind.i64.wrap (-(n:Int))= -(n:Int):=IntWalk.i64_in _ (by omega)
      replace hD:=H0 hD;replace hmin:=H0 hmin
      rcases hcs with ⟨rfl,h1,h2⟩ | ⟨rfl,h1,h2,h3⟩
      all_goals
        go_enter Tryz.func316,Tryz.ntmps316
        go_wp2_with (first
          | (go_at_call 218;refine (Tryz.strings_CutPrefix _ _ _).mono ?_;rintro e w' ⟨rfl,rfl⟩)
          | (go_at_call 183;refine (Tryz.strings_TrimPrefix _ _ _).mono ?_;rintro e w' ⟨rfl,rfl⟩)
          | (go_at_call 292;refine (hw2.out _).mono ?_;rintro e w' ⟨rfl,rfl⟩))
        go_ret2;unfold Aey;rw [hyes.out];exact ⟨rfl,rfl⟩
def Af6:Nat:=4621819117588971520
def Kr:Nat->Nat
 | 0=>4607182418800017408
 | k+1=>(Ieee.double.mul (Kr k) Af6).getD 0
theorem Ady:∀ k:Fin 22,Ieee.double.mul (Kr k.val) Af6=some (Kr (k.val+1)):=by decide+kernel
def Hr:Ieee.Datum->Bool
 | .number false m _=>decide (m≠0)
 | _=>false
theorem Abu:∀ k:Fin 23,Hr (Ieee.double.read (Kr k.val))=true:=by decide+kernel
theorem O2 {k:Nat} (h:k<=22):∃ m e,Ieee.double.read (Kr k)= .number false m e/\m≠0:=by
 have:=Abu ⟨k,by omega⟩
 revert this;show Hr (Ieee.double.read (Kr k))=true->_
 cases Ieee.double.read (Kr k) with
 | number s m e=>cases s<;>simp [Hr]
 | infinity s=>simp [Hr]
 | nan s t=>simp [Hr]
theorem AbP {x y:Nat} {s t:Bool} {m n:Nat} {i j:Int} (hx:Ieee.double.read x= .number s m i) (hy:Ieee.double.read y= .number t n j):Ieee.double.mul x y=some (Ieee.double.nearest (s ^^ t) (m * n) (i+j)):=by
 unfold Ieee.Format.mul;rw [hx,hy];rfl
theorem Abz {x y:Nat} {s t:Bool} {m n:Nat} {i j:Int} (hx:Ieee.double.read x= .number s m i) (hy:Ieee.double.read y= .number t n j) (hn:n≠0):∃ r,Ieee.double.div x y=some r:=by
 unfold Ieee.Format.div;rw [hx,hy];unfold Ieee.Datum.quotient;dsimp only;rw [if_neg hn];exact ⟨_,rfl⟩
def Gw (f:Nat) (k:Int):Nat:=if k<0 then (Ieee.double.div f (Kr k.natAbs)).getD 0 else (Ieee.double.mul f (Kr k.natAbs)).getD 0
theorem Ab3 {f:Nat} {s:Bool} {m:Nat} {i:Int} (hf:Ieee.double.read f= .number s m i) {k:Int} (h:k<0) (hk: -22<=k):Ieee.double.div f (Kr k.natAbs)=some (Gw f k):=by
 obtain ⟨n,e,hp,hn⟩:=O2 (k:=k.natAbs) (by omega)
 obtain ⟨r,hr⟩:=Abz hf hp hn;unfold Gw;rw [if_pos h,hr];rfl
theorem Ac4 {f:Nat} {s:Bool} {m:Nat} {i:Int} (hf:Ieee.double.read f= .number s m i) {k:Int} (h:¬ k<0) (hk:k<=22):Ieee.double.mul f (Kr k.natAbs)=some (Gw f k):=by
 obtain ⟨n,e,hp,hn⟩:=O2 (k:=k.natAbs) (by omega)
 have hr:=AbP hf hp;unfold Gw;rw [if_neg h,hr];rfl
theorem Vd (f:Nat) (k:Int) (w:World) {s:Bool} {m:Nat} {i:Int} (hf:Ieee.double.read f= .number s m i) (h0: -22<=k) (h1:k<=22):
  Calls Tryz.prog 317 #[.float .f64 f,.int .i64 k] w fun e w'=>e= .returned (.float .f64 (Gw f k))/\w=w':=by
 have hmax:max k (-k)=(k.natAbs:Int):=by omega
 have e1:IntKind.i64.wrap (-k)= -k:=IntWalk.i64_in _ (by omega)
 have hst:∀ j,j<22->∀ w t,(binOp .mul t (.float .f64 (Kr j)) (.float .f64 4621819117588971520)).run Tryz.prog w= .ok (.float .f64 (Kr (j+1))) w:=fun j hj w t=>
  run_float_arith w .mul t .f64 _ _ _ (Ady ⟨j,hj⟩)
 have hK:k.natAbs<=22:=by omega
 have hKI:(k.natAbs:Int)<=22:=by omega
 replace hst:=H0 hst;go_enter Tryz.func317,Tryz.ntmps317;go_wp2_with fail
 go_loop [5,10] (fun pv iv=>∃ j:Nat,iv= .int .i64 j/\pv= .float .f64 (Kr j)/\j<=k.natAbs) (fun _ iv=>k.natAbs - (intOf iv).toNat)
 case atStart=>exact ⟨0,rfl,rfl,Nat.zero_le _⟩
 case round=>
  obtain ⟨j,rfl,rfl,hj⟩:=hrel
  by_cases hlt:j<k.natAbs
  ·have hltI:(j:Int)<(k.natAbs:Int):=by omega
   have hr:=hst.out j (by omega)
   go_wp2_with fail;go_round
   case rel=>exact ⟨j+1,by go_num,rfl,by omega⟩
   case measure=>simp [intOf];omega
  ·obtain rfl:j=k.natAbs:=by omega
   have hgeI:(k.natAbs:Int)<=(k.natAbs:Int):=Int.le_refl _
   by_cases hk:k<0
   ·have hr:∀ w t,(binOp .quo t (.float .f64 f) (.float .f64 (Kr k.natAbs))).run Tryz.prog w= .ok (.float .f64 (Gw f k)) w:=fun w t=>run_float_arith w .quo t .f64 _ _ _ (Ab3 hf hk h0)
    go_wp2_with fail;go_ret;exact ⟨rfl,rfl⟩
   ·have hr:∀ w t,(binOp .mul t (.float .f64 f) (.float .f64 (Kr k.natAbs))).run Tryz.prog w= .ok (.float .f64 (Gw f k)) w:=fun w t=>run_float_arith w .mul t .f64 _ _ _ (Ac4 hf hk h1)
    have hk2:0<=k:=by omega
    go_wp2_with fail;go_ret;exact ⟨rfl,rfl⟩
theorem TQ (l:List UInt8):(Lib.indexAny l [101,69]= -1/\IV l=(l,none))\/∃ i:Nat,Lib.indexAny l [101,69]=(i:Int)/\i<l.length/\IV l=(l.take i,some (l.drop (i+1))):=by
 induction l with
 | nil=>exact .inl ⟨rfl,rfl⟩
 | cons c r ih=>
  unfold Lib.indexAny IV
  by_cases h:c=101\/c=69
  ·have hc:([101,69]:List UInt8).contains c=true:=by rcases h with rfl | rfl<;>rfl
   rw [if_pos hc,if_pos h]
   exact .inr ⟨0,rfl,by simp,by simp⟩
  ·have hc:¬ ([101,69]:List UInt8).contains c=true:=by simpa using h
   rw [if_neg hc,if_neg h]
   rcases ih with ⟨h1,h2⟩ | ⟨i,h1,hi,h2⟩
   ·rw [h1,h2];exact .inl ⟨rfl,rfl⟩
   ·rw [h1,h2]
    have hn:¬ (((i:Int)== -1)=true):=by rw [beq_iff_eq];omega
    rw [if_neg hn]
    exact .inr ⟨i+1,by omega,by simp;omega,by simp⟩
def DP (x:Bool × Nat × Int):Nat:=if x.1=true/\x.2.1≠0 then Op.negFloat .f64 (Gw (floatOfInt .f64 (x.2.1:Int)) x.2.2) else Gw (floatOfInt .f64 (x.2.1:Int)) x.2.2
def Acb (w:World) (o:Option (Bool × Nat × Int)) (e:Ending) (w':World):Prop:=e= .returned (.tuple #[.float .f64 ((o.map DP).getD 0),.bool o.isSome])/\Below w.heap.size w w'
theorem C1 {w w':World} {o:Option (Bool × Nat × Int)} (h:o=none) (hb:Below w.heap.size w w'):Acb w o (.returned (.tuple #[.float .f64 0,.bool false])) w':=by subst h;exact ⟨rfl,hb⟩
theorem Wo {n:Nat} (h:n<2 ^ 53):∃ m i,Ieee.double.read (floatOfInt .f64 (n:Int))= .number false m i:=by
 have e:floatOfInt .f64 (n:Int)=Ieee.double.nearest false n 0:=by
  unfold floatOfInt FloatKind.nearest;simp;rfl
 rw [e]
 by_cases h0:n=0
 ·subst h0;exact ⟨_,_,Zd⟩
 ·exact ⟨_,_,Ack h0 h⟩
def Ahs (x:ByteArray):Prop:=∀ w,Calls Tryz.prog 315 #[.string x,.string ⟨#[101,69]⟩] w fun e w'=>e= .returned (.int .i64 (Lib.indexAny x.toList [101,69]))/\Below w.heap.size w w'
def Ke (s:ByteArray):ByteArray:=⟨(Lib.trimPrefix s.data.toList [45]).toArray⟩
theorem QE (s:ByteArray):Cf s.toList=(Ie (Ke s).toList).map fun x=>(Lib.hasPrefix s.data.toList [45],x):=by
 have e0:(Ke s).toList=Lib.trimPrefix s.data.toList [45]:=toList_mk _;have e2:s.data.toList=s.toList:=(ByteArray.toList_eq ..).symm;rw [e0,e2];unfold Lib.trimPrefix
 match hL:s.toList with
 | []=>rfl
 | c :: r=>
  have hp:Lib.hasPrefix (c :: r) [45]=((45:UInt8)==c):=KX 45 (c :: r)
  by_cases h:c=45
  ·subst h
   rw [if_pos (by rw [hp];rfl),hp];rfl
  ·have e:((45:UInt8)==c)=false:=by simpa using Ne.symm h
   rw [if_neg (by rw [hp,e];decide),hp,e]
   unfold Cf;split
   ·rename_i h2;exact absurd (List.cons.inj h2).1 h
   ·rfl
theorem Tv (s:ByteArray):(Ke s).size<=s.size:=by
 have e0:(Ke s).toList=Lib.trimPrefix s.data.toList [45]:=toList_mk _;have e2:s.data.toList=s.toList:=(ByteArray.toList_eq ..).symm;rw [<-Aa,e0,e2,<-Aa];unfold Lib.trimPrefix;split
 ·rw [List.length_drop];omega
 ·exact Nat.le_refl _
def G9 (l:List UInt8) (m:Int):Option (Nat × Int):=
 if ((Af 46 l).2.2=true/\(Af 46 l).2.1=[])\/15<(Af 46 l).1.length+(Af 46 l).2.1.length then none
 else match Bo 10 ((Af 46 l).1++(Af 46 l).2.1) with
  | none=>none
  | some n=>if m - (Af 46 l).2.1.length< -22\/22<m - (Af 46 l).2.1.length then none else some (n,m - (Af 46 l).2.1.length)
theorem Ut {l:List UInt8} (h:IV l=(l,none)):Ie l=G9 l 0:=by
 unfold Ie;rw [h];rfl
theorem Yg {l a b:List UInt8} (h:IV l=(a,some b)) (he:IS b=none):Ie l=none:=by
 unfold Ie;rw [h];dsimp only;rw [he]
theorem VK {l a b:List UInt8} {m:Int} (h:IV l=(a,some b)) (he:IS b=some m):Ie l=G9 a m:=by
 unfold Ie;rw [h];dsimp only;rw [he];rfl
theorem Q3 (c:UInt8) (l:List UInt8):(Lib.indexByte l c= -1/\Af c l=(l,[],false))\/∃ i:Nat,Lib.indexByte l c=(i:Int)/\i<l.length/\Af c l=(l.take i,l.drop (i+1),true):=by
 induction l with
 | nil=>exact .inl ⟨rfl,rfl⟩
 | cons d r ih=>
  unfold Lib.indexByte Af
  by_cases h:d=c
  ·rw [if_pos (by simpa using h),if_pos h]
   exact .inr ⟨0,rfl,by simp,by simp⟩
  ·rw [if_neg (by simpa using h),if_neg h]
   rcases ih with ⟨h1,h2⟩ | ⟨i,h1,hi,h2⟩
   ·rw [h1,h2];exact .inl ⟨rfl,rfl⟩
   ·rw [h1,h2]
    have hn:¬ (((i:Int)== -1)=true):=by rw [beq_iff_eq];omega
    rw [if_neg hn]
    exact .inr ⟨i+1,by omega,by simp;omega,by simp⟩
theorem Xm (s:ByteArray) (c:UInt8) (w:World) (hs:s.size<=140737488355328):
  Calls Tryz.prog 153 #[.string s,.string ⟨#[c]⟩] w (AfA w (Af c s.toList).1 (Af c s.toList).2.1 (Af c s.toList).2.2):=by
 have hsz:=H0 (Aa s)
 rcases Q3 c s.toList with ⟨h1,h2⟩ | ⟨i,h1,hi,h2⟩
 ·have hix:=H0 (fun w=>Tryz.stringslite_Index_one s c w)
  rw [<-ByteArray.toList_eq,h1] at hix;rw [h2];replace h2:=H0 h2;replace h1:=H0 h1;go_enter Tryz.func153,Tryz.ntmps153;go_wp2_with (go_at_call 221;refine (hix.out _).mono ?_;rintro e w' ⟨rfl,rfl⟩);go_ret3;exact ⟨s,⟨#[]⟩,0,rfl,H0 rfl,H0 (toList_mk []),rfl⟩
 ·have hix:=H0 (fun w=>Tryz.stringslite_Index_one s c w)
  rw [<-ByteArray.toList_eq,h1] at hix
  have hle:i+1<=s.size:=by have:=hsz.out;omega
  have mixed:Tryz.prog.follows .mixedOrders=true:=by kernel_rfl
  have c0:(0:Int)<=(i:Int)+1:=by omega
  have c1:(i:Int)<=(s.size:Int):=by omega
  have c2:(i:Int)+1<=(s.size:Int):=by omega
  have c3:IntKind.i64.wrap ((i:Int)+1)=(i:Int)+1:=IntWalk.i64_in _ (by omega)
  have hA:Hid ((s.extract 0 i).toList=s.toList.take i):=H0 (by rw [toList_extract];rfl)
  have hB:Hid ((s.extract (i+1) s.size).toList=s.toList.drop (i+1)):=H0 (by rw [G7])
  rw [h2];replace h2:=H0 h2;replace h1:=H0 h1;replace hi:=H0 hi;go_enter Tryz.func153,Tryz.ntmps153;go_wp2_with (go_at_call 221;refine (hix.out _).mono ?_;rintro e w' ⟨rfl,rfl⟩);go_region_o;go_wp2_with fail;go_ret3;exact ⟨_,_,1,rfl,hA,hB,rfl⟩
theorem UN (s:ByteArray) (c:UInt8) (w:World) (hs:s.size<=140737488355328):
  Calls Tryz.prog 87 #[.string s,.string ⟨#[c]⟩] w (AfA w (Af c s.toList).1 (Af c s.toList).2.1 (Af c s.toList).2.2):=by
 have hc:=H0 (fun w=>Xm s c w hs)
 go_enter Tryz.func87,Tryz.ntmps87;go_wp2_with (go_at_call 153;refine (hc.out _).mono ?_;rintro e w' ⟨ta,tb,n,rfl,h1,h2,rfl⟩);go_ret3;exact ⟨ta,tb,n,rfl,h1,h2,rfl⟩
theorem Wc (s:ByteArray) (pos:Nat) (h:pos<s.size) (ha:128<=(s[pos]'h).toNat):pos+(Utf8.decode s pos).2<=s.size/\∀ j (hj:pos+j<s.size),j<(Utf8.decode s pos).2->128<=(s[pos+j]'hj).toNat:=by
  have hn:¬ (s[pos]'h).toNat<128:=by omega
  have hget:∀ k (hk:pos+k<s.size),s.get! (pos+k)=s[pos+k]'hk:=fun k hk=>by
    simp [ByteArray.get!,getElem!_pos,hk];rfl
  have key:∀ n,(∀ k,1<=k->k<n->(pos+k<s.size/\(s.get! (pos+k)).toNat / 64=2))->1<=n->pos+n<=s.size/\∀ j (hj:pos+j<s.size),j<n->128<=(s[pos+j]'hj).toNat:=by
    intro n hk h1;refine ⟨?_,?_⟩
    · by_cases e:n=1
      · omega
      · have:=(hk (n - 1) (by omega) (by omega)).1;omega
    · intro j hj hjn
      by_cases e:j=0
      · subst e;exact ha
      · have:=(hk j (by omega) hjn).2
        rw [hget j hj] at this;omega
  simp only [Utf8.decode,get_at s pos h,hn,if_false]
  repeat' split
  all_goals
    refine key _ ?_ (by simp)
    intro k k1 k2
    first
      | omega
      | (rename_i hc _
         simp only [Bool.and_eq_true,decide_eq_true_eq,beq_iff_eq] at hc
         have:k=1\/k=2\/k=3:=by omega
         rcases this with rfl | rfl | rfl<;>first | omega | simp_all)
theorem Lz {B k:Nat} {a w:World} (h:Below B a w) (hk:B<=k) (s:ByteArray) (p:Nat):Below B a (w.iterAt k s p):=
 ⟨h.os,h.tape,h.output,by simp only [World.iterAt,Array.size_setIfInBounds];exact h.size,fun j hj=>by
  simp only [World.iterAt]
  rw [Array.getElem?_setIfInBounds_ne (by omega)]
  exact h.block j hj⟩
theorem QJ (w:World):
  Calls Tryz.prog 314 #[.string ⟨#[101,69]⟩,.int .i32 65533] w fun e w'=>e= .returned (.int .i64 (-1))/\Below w.heap.size w w':=by
 go_enter Tryz.func314,Tryz.ntmps314;go_wp2_with fail
 go_loopg [5,6] 2 (fun g _ _ wx=>∃ i:Nat,i+g=2/\wx=w.iter ⟨#[101,69]⟩ i)
 case atStart=>exact ⟨0,rfl,rfl⟩
 case round=>
  obtain ⟨i,hig,rfl⟩:=hrel
  cases gk with
  | zero=>
   obtain rfl:i=2:=by omega
   have hnx:=fun ty=>run_next_end (P:=Tryz.prog) w ⟨#[101,69]⟩ 2 ty (by decide)
   go_wp2_with fail;go_ret;exact ⟨rfl,(Below.refl _ _).alloc (Nat.le_refl _) _⟩
  | succ g=>
   have hi:i=0\/i=1:=by omega
   rcases hi with rfl | rfl
   ·have hnx:∀ ty,(Instr.next (.pointer (some ⟨w.heap.size,0,none⟩)) true ty).run Tryz.prog (w.iter ⟨#[101,69]⟩ 0)= .ok (.tuple #[.bool true,.int .i64 0,.int .i32 101]) (w.iter ⟨#[101,69]⟩ 1):=fun ty=>run_next_ascii (P:=Tryz.prog) w ⟨#[101,69]⟩ 0 ty (by decide) (by decide)
    go_wp2_with fail;go_roundg g
    case measure=>omega
    case rel=>exact ⟨1,by omega,rfl⟩
   ·have hnx:∀ ty,(Instr.next (.pointer (some ⟨w.heap.size,0,none⟩)) true ty).run Tryz.prog (w.iter ⟨#[101,69]⟩ 1)= .ok (.tuple #[.bool true,.int .i64 1,.int .i32 69]) (w.iter ⟨#[101,69]⟩ 2):=fun ty=>run_next_ascii (P:=Tryz.prog) w ⟨#[101,69]⟩ 1 ty (by decide) (by decide)
    go_wp2_with fail;go_roundg g
    case measure=>omega
    case rel=>exact ⟨2,by omega,rfl⟩
theorem QK (r:Int) (w:World) (h0:128<=r) (h1:r<=2147483647) (hv:Lib.validRune r=false):
  Calls Tryz.prog 314 #[.string ⟨#[101,69]⟩,.int .i32 r] w fun e w'=>e= .returned (.int .i64 (-1))/\Below w.heap.size w w':=by
 have hne:(r==65533)=false:=by
  simp only [beq_eq_false_iff_ne,ne_eq];rintro rfl
  exact absurd hv (by decide)
 have hva:=H0 (fun w=>Tryz.utf8_ValidRune r w)
 rw [hv] at hva;replace hv:=H0 hv;go_enter Tryz.func314,Tryz.ntmps314;go_wp2_with (go_at_call 331;refine (hva.out _).mono ?_;rintro e w' ⟨rfl,rfl⟩);go_ret;exact ⟨rfl,Below.refl _ _⟩
theorem OX (r:Int) (w:World) (h0:128<=r) (h1:r<=2147483647) (hv:Lib.validRune r=true) (hne:(r==65533)=false):
  Calls Tryz.prog 314 #[.string ⟨#[101,69]⟩,.int .i32 r] w fun e w'=>e= .returned (.int .i64 (-1))/\Below w.heap.size w w':=by
 have hval:Utf8.valid r=true:=by
  unfold Lib.validRune at hv;have:=of_decide_eq_true hv;unfold Utf8.valid;simp only [Bool.or_eq_true,Bool.and_eq_true,decide_eq_true_eq];omega
 obtain ⟨z2,z4,zl⟩:=encode_facts r hval h0
 have hva:=H0 (fun w=>Tryz.utf8_ValidRune r w)
 rw [hv] at hva
 have henc:∀ w,(convert 21 9 (.int .i32 r)).run Tryz.prog w= .ok (.string (Utf8.encode r)) w:=fun w=>run_convert_int_string w _ _ _ r (by rw [Tryz.underlying21];rfl) Tryz.underlying9
 generalize Utf8.encode r=rs at z2 z4 zl henc;replace hv:=H0 hv;replace hval:=H0 hval;go_enter Tryz.func314,Tryz.ntmps314;go_wp2_with (go_at_call 331;refine (hva.out _).mono ?_;rintro e wz ⟨rfl,rfl⟩)
 by_cases hz:rs.size=2
 ·obtain ⟨x,hx⟩:=N2 (rs[1]'(by omega))
  have hx8:128<=x.toNat:=by
   have:=zl (by omega)
   simp only [hz] at this;rw [<-hx];exact this
  have hI:(rs.size:Int)=2:=by omega
  have h1s:1<rs.size:=by omega
  have hxn:(((⟨#[101,69]⟩:ByteArray)[1]'(by decide)).toNat==x.toNat)=false:=by
   have e:((⟨#[101,69]⟩:ByteArray)[1]'(by decide)).toNat=69:=rfl
   rw [e];simp only [beq_eq_false_iff_ne,ne_eq];omega
  have hxn2:((((⟨#[101,69]⟩:ByteArray)[1]'(by decide)).toNat:Int)==(x.toNat:Int))=false:=by
   have e:((⟨#[101,69]⟩:ByteArray)[1]'(by decide)).toNat=69:=rfl
   rw [e];simp only [beq_eq_false_iff_ne,ne_eq];omega
  have mixed:Tryz.prog.follows .mixedOrders=true:=by kernel_rfl
  have hw2:IntKind.i64.wrap 2=2:=by decide
  have hexx:(⟨#[101,69]⟩:ByteArray).extract 2 2=⟨#[]⟩:=by apply Df;rw [toList_extract];rw [show (⟨#[101,69]⟩:ByteArray).toList=[101,69] from toList_mk [101,69]];exact (toList_mk []).symm
  have hib:Hid (∀ w,Calls Tryz.prog 47 #[.string ⟨#[]⟩,.int .u8 (x.toNat:Int)] w fun e w'=>e= .returned (.int .i64 (-1))/\w'=w):=H0 (fun w=>Tryz.strings_IndexByte ⟨#[]⟩ (x.toNat:Int) w)
  replace zl:=H0 zl;go_step3;go_wp2_with fail
  go_loopg [9] 0 (fun g iv wx=>iv= .int .i64 1/\wx=wz)
  case atStart=>exact ⟨rfl,rfl⟩
  case round=>
   obtain ⟨rfl,rfl⟩:=hrel;go_wp2_with fail;go_step3;go_wp2_with fail;go_region_o;go_wp2_with fail;refine wp_region_noPanic ?_
   refine wp_region_held_drew (S:=fun w'=>w'=wr.drew.drew) (by kernel_rfl) (rfl) (fun hHeld=> ?_)
   refine wpAnyH_take (i:=0) (v:= ?_) rfl (by kernel_rfl) (by kernel_rfl) (by kernel_rfl) (fun _ _ _ h=>h) (Or.inl ⟨by rfl,?_⟩) hHeld ?_
   rotate_left
   ·intro w hSw;(try dsimp only at hSw);go_simp;try with_reducible rfl
   try simp only [P3]
   refine wpAnyH_take (i:=1) (v:= ?_) rfl (by kernel_rfl) (by kernel_rfl) (by kernel_rfl) (fun _ _ _ h=>h) (Or.inl ⟨by rfl,?_⟩) hHeld ?_
   rotate_left
   ·intro w hSw;(try dsimp only at hSw);go_simp;try with_reducible rfl
   try simp only [P3]
   refine wpAnyH_take (i:=2) (v:= ?_) rfl (by kernel_rfl) (by kernel_rfl) (by kernel_rfl) (fun _ _ _ h=>h) (Or.inl ⟨by rfl,?_⟩) hHeld ?_
   rotate_left
   ·intro w hSw;(try dsimp only at hSw);go_simp;try with_reducible rfl
   try simp only [P3]
   refine wpAnyH_take (i:=3) (v:= ?_) rfl (by kernel_rfl) (by kernel_rfl) (by kernel_rfl) (fun _ _ _ h=>h) (Or.inl ⟨by rfl,?_⟩) hHeld ?_
   rotate_left
   ·intro w hSw;(try dsimp only at hSw);go_simp;try with_reducible rfl
   try simp only [P3]
   refine wpAnyH_take (i:=4) (v:= ?_) rfl (by kernel_rfl) (by kernel_rfl) (by kernel_rfl) (fun _ _ _ h=>h) (Or.inl ⟨by rfl,?_⟩) hHeld ?_
   rotate_left
   ·intro w hSw;(try dsimp only at hSw);go_simp;try with_reducible rfl
   try simp only [P3]
   refine wpAnyH_take (i:=5) (v:= ?_) rfl (by kernel_rfl) (by kernel_rfl) (by kernel_rfl) (fun _ _ _ h=>h) (Or.inl ⟨by rfl,?_⟩) hHeld ?_
   rotate_left
   ·intro w hSw;(try dsimp only at hSw);go_simp;try with_reducible rfl
   try simp only [P3]
   refine wpAnyH_take (i:=6) (v:= ?_) rfl (by kernel_rfl) (by kernel_rfl) (by kernel_rfl) (fun _ _ _ h=>h) (Or.inl ⟨by rfl,?_⟩) hHeld ?_
   rotate_left
   ·intro w hSw;(try dsimp only at hSw);go_simp;try with_reducible rfl
   try simp only [P3]
   refine wpAnyH_ready (rs:=[7]) (by kernel_rfl) (by simp) ?_
   refine AllReadyH.cons rfl (fun K hK=> ?_) AllReadyH.nil
   go_simp;refine (hib.out _).mono ?_;rintro e wz ⟨rfl,rfl⟩;go_wp2_with fail
   refine hK.out _ _ (rfl) (fun hHeld=> ?_)
   clear hK K
   try simp only [P3]
   refine wpAnyH_take (i:=8) (v:= ?_) rfl (by kernel_rfl) (by kernel_rfl) (by kernel_rfl) (fun _ _ _ h=>h) (Or.inl ⟨by rfl,?_⟩) hHeld ?_
   rotate_left
   ·intro w hSw;(try dsimp only at hSw);go_simp;try with_reducible rfl
   try simp only [P3]
   refine wpAnyH_done (by kernel_rfl) ?_ _
   refine NoPanic.normal ?_;go_wp2_with fail;go_ret;exact ⟨rfl,(Below.refl _ _).drew.drew⟩
 ·have h3:3<=rs.size:=by omega
  have hI:(2:Int)<=(rs.size:Int) - 1:=by omega
  have hw:IntKind.i64.wrap ((rs.size:Int) - 1)=(rs.size:Int) - 1:=IntWalk.i64_in _ (by omega)
  replace zl:=H0 zl;go_step3;go_wp2_with fail
  go_loopg [9] 0 (fun g iv wx=>iv= .int .i64 ((rs.size:Int) - 1)/\wx=wz)
  case atStart=>exact ⟨rfl,rfl⟩
  case round=>
   obtain ⟨rfl,rfl⟩:=hrel;go_wp2_with fail;rw [Exit.noGoto_ret];go_ret;exact ⟨rfl,Below.refl _ _⟩
theorem Pr (r:Int) (w:World) (h0:128<=r) (h1:r<=2147483647):
  Calls Tryz.prog 314 #[.string ⟨#[101,69]⟩,.int .i32 r] w fun e w'=>e= .returned (.int .i64 (-1))/\Below w.heap.size w w':=by
 cases hv:Lib.validRune r
 ·exact QK r w h0 h1 hv
 ·cases hne:(r==65533)
  ·exact OX r w h0 h1 hv hne
  ·obtain rfl:r=65533:=by simpa using hne
   exact QJ w
def Yy:List UInt8:=[101,69]
theorem X8 {l:List UInt8} {i n:Nat} (h:Lib.NoAny l Yy i) (hk:∀ j,j<n->∀ b,l[i+j]? =some b->128<=b.toNat):Lib.NoAny l Yy (i+n):=fun j b hj hb=>by
 by_cases e:j<i
 ·exact h j b e hb
 ·have h8:=hk (j - i) (by omega) b (by rw [show i+(j - i)=j by omega];exact hb)
  simp only [Yy,List.contains_cons,List.contains_nil,Bool.or_false,Bool.or_eq_false_iff,beq_eq_false_iff_ne,ne_eq]
  constructor<;>(rintro rfl;revert h8;decide)
theorem Pd (s:ByteArray) (w:World) (h8:s.size<=8):
  Calls Tryz.prog 315 #[.string s,.string ⟨#[101,69]⟩] w fun e w'=>e= .returned (.int .i64 (Lib.indexAny s.data.toList Yy))/\Below w.heap.size w w':=by
 have h8z:decide ((8:Int)<(s.size:Int))=false:=decide_eq_false (by omega)
 have hsa:Hid (∀ w,Calls Tryz.prog 332 #[.int .i64 (s.size:Int)] w fun e w'=>e= .returned (.bool false)/\w'=w):=H0 (fun w=>by have:=Tryz.strings_shouldUseASCIISet (s.size:Int) w;rw [h8z] at this;exact this)
 clear h8z
 have h8I:(s.size:Int)<=8:=by omega
 go_enter Tryz.func315,Tryz.ntmps315;go_wp2_with (go_at_call 332;refine (hsa.out _).mono ?_;rintro e wz ⟨rfl,rfl⟩)
 go_loopg [9,10] s.size (fun g _ _ wx=>∃ i:Nat,i+g=s.size/\wx.heap[wz.heap.size]? =some (.stringIter s i)/\Below wz.heap.size wz wx/\Lib.NoAny s.data.toList Yy i)
 case atStart=>exact ⟨0,by omega,World.iter_heap _ _ _,(Below.refl _ _).alloc (Nat.le_refl _) _,Lib.NoAny.zero _ _⟩
 case round=>
  obtain ⟨i,hig,hk,hbel,hno⟩:=hrel;have HN:=H0 hno;clear hno
  by_cases hi:i<s.size
  ·obtain ⟨x,hx⟩:∃ x:UInt8,s[i]'hi=x:=⟨_,rfl⟩
   have hxl:=H0 (show s.data.toList[i]? =some x by rw [<-hx];exact Lib.data_getElem? s i hi)
   by_cases h128:x.toNat<128
   ·have hnx:=fun ty=>Lib.run_next_ascii_at (P:=Tryz.prog) wr wz.heap.size s i ty hk hi (by rw [hx];exact h128)
    rw [hx] at hnx;have hk2:=H0 (Lib.iterAt_heap wr wz.heap.size s i (i+1) hk);have hb2:=H0 (Lz hbel (Nat.le_refl _) s (i+1));replace hx:=H0 hx;have hcon:=Lib.contains_iff_indexByte Yy x
    have hback:((x.toNat:Int)).toNat.toUInt8=x:=by simp
    have hir:=H0 (fun w=>Tryz.strings_IndexRune_ascii ⟨#[101,69]⟩ (x.toNat:Int) w (by omega) (by omega))
    rw [hback] at hir;replace hback:=H0 hback
    replace hir:Hid (∀ w,Calls Tryz.prog 314 #[.string ⟨#[101,69]⟩,.int .i32 (x.toNat:Int)] w fun e w'=>e= .returned (.int .i64 (Lib.indexByte Yy x))/\w'=w):=hir
    generalize Lib.indexByte Yy x=q at hcon hir;cases hin:Yy.contains x
    ·rw [hin] at hcon
     have hlt:q<0:=by have:=of_decide_eq_false hcon.symm;omega
     clear hcon;replace hin:=H0 hin;go_wp2_with (go_at_call 314;refine (hir.out _).mono ?_;rintro e wy ⟨rfl,rfl⟩);go_roundg (s.size - (i+1))
     case measure=>omega
     case rel=>exact ⟨i+1,by omega,hk2.out,hb2.out,HN.out.succ hxl.out hin.out⟩
    ·rw [hin] at hcon;have hge:0<=q:=of_decide_eq_true hcon.symm;clear hcon;replace hin:=H0 hin;go_wp2_with (go_at_call 314;refine (hir.out _).mono ?_;rintro e wy ⟨rfl,rfl⟩);go_ret
     exact ⟨by rw [Lib.indexAny_hit HN.out hxl.out hin.out];rfl,hb2.out⟩
   ·have hxx:128<=(s[i]'hi).toNat:=by rw [hx];omega
    have hd:=decode_high s i hi hxx;have hle:=decode_le s i;obtain ⟨hz,hsk⟩:=Wc s i hi hxx
    have hnx:=fun ty=>Lib.run_next_any_at (P:=Tryz.prog) wr wz.heap.size s i ty hk hi
    have hnew:=H0 (X8 (n:=(Utf8.decode s i).2) HN.out (fun j hj b hb=>by
     have hlt:i+j<s.size:=by omega
     have:=Lib.data_getElem? s (i+j) hlt;rw [this] at hb
     rw [<-Option.some.inj hb];exact hsk j hlt hj))
    clear hsk;generalize hr:(Utf8.decode s i).1=r at hd hle hnx;generalize hn:(Utf8.decode s i).2=n at hd hz hnx hnew;replace hr:=H0 hr;replace hn:=H0 hn;have hk2:=Lib.iterAt_heap wr wz.heap.size s i (i+n) hk;have hb2:=H0 (Lz hbel (Nat.le_refl _) s (i+n))
    have hir:=H0 (fun w=>Pr (r:Int) w (by omega) (by omega))
    replace hd:=H0 hd;replace hle:=H0 hle;replace hk2:=H0 hk2;clear hxx h128;go_wp2_with (go_at_call 314;refine (hir.out _).mono ?_;rintro e wy ⟨rfl,hby⟩);go_roundg (s.size - (i+n))
    case measure=>have:=hd.out;omega
    case rel=>
     have hlt:wz.heap.size<(wr.iterAt wz.heap.size s (i+n)).heap.size:=(Array.getElem?_eq_some_iff.1 hk2.out).1
     exact ⟨i+n,by omega,by rw [hby.block _ hlt];exact hk2.out,hb2.out.trans (hby.mono (Nat.le_of_lt hlt)),hnew.out⟩
  ·obtain rfl:i=s.size:=by omega
   have hnx:=fun ty=>Lib.run_next_end_at (P:=Tryz.prog) wr wz.heap.size s s.size ty hk hi
   go_wp2_with fail;go_ret
   exact ⟨by rw [Lib.indexAny_none (by rw [<-Lib.size_eq];exact HN.out)];rfl,hbel⟩
theorem Q4 (s:ByteArray) (w:World) (h8:8<s.size) (hs:s.size<=140737488355328):
  Calls Tryz.prog 315 #[.string s,.string ⟨#[101,69]⟩] w fun e w'=>e= .returned (.int .i64 (Lib.indexAny s.data.toList Yy))/\Below w.heap.size w w':=by
 have hz116:=zero_of_info (P:=Tryz.prog) (t:=206) (v:= .agg (Array.replicate 256 (.bool false))) (n:=256) (by kernel_rfl)
 have h8z:decide ((8:Int)<(s.size:Int))=true:=decide_eq_true (by omega)
 have hsa:Hid (∀ w,Calls Tryz.prog 332 #[.int .i64 (s.size:Int)] w fun e w'=>e= .returned (.bool true)/\w'=w):=H0 (fun w=>by have:=Tryz.strings_shouldUseASCIISet (s.size:Int) w;rw [h8z] at this;exact this)
 clear h8z;obtain ⟨set,hset⟩:∃ c,Lib.setCells Yy=c:=⟨_,rfl⟩
 have hM:Hid (∀ w,Calls Tryz.prog 238 #[.string ⟨#[101,69]⟩] w fun e w'=>e= .returned (.tuple #[.agg set,.bool true])/\w'=w.alloc (.cells set 206)):=H0 (fun w=>by
  rw [<-hset]
  exact Tryz.strings_makeASCIISet hz116.1 ⟨#[101,69]⟩ w (by decide) (fun j b hb=>by
   have:b∈([101,69]:List UInt8):=List.mem_of_getElem? hb;simp at this
   rcases this with rfl | rfl<;>decide))
 have hsz:set.size=256:=by rw [<-hset];exact Lib.setCells_size _
 have h1c:set.all (·.oneCell')=true:=by rw [<-hset];exact Lib.setCells_one _
 have hat:∀ x:UInt8,set[x.toNat]? =some (.bool (Yy.contains x)):=fun x=>by rw [<-hset];exact Lib.setCells_at _ x
 have hsc:(storeCells ⟨w.heap.size+1,0,none⟩ set.toList 0).run Tryz.prog ((w.alloc (.cells set 206)).alloc (.cells (Array.replicate 256 (.bool false)) 206))= .ok () ((w.alloc (.cells set 206)).alloc (.cells set 206)):=by
  have:=run_storeCells_new (P:=Tryz.prog) (w.alloc (.cells set 206)) 206 (Array.replicate 256 (.bool false)) set (by rw [hsz];exact hz116.2) (by rw [hsz,Array.size_replicate]) h1c
  simpa using this
 have hv:=hz116.1
 have HC:Hid (∀ x:UInt8,((w.alloc (.cells set 206)).alloc (.cells set 206)).cell? ⟨w.heap.size+1,x.toNat,none⟩=some (.bool (Yy.contains x))):=H0 (fun x=>by
  rw [World.cell?_alloc_at _ _ _ _ (by simp),hat])
 have hbW:Below w.heap.size w ((w.alloc (.cells set 206)).alloc (.cells set 206)):=((Below.refl _ _).alloc (Nat.le_refl _) _).alloc (by simp) _
 replace hat:=H0 hat;replace hset:=H0 hset;replace h1c:=H0 h1c;replace hz116:=H0 hz116;go_enter Tryz.func315,Tryz.ntmps315
 go_wp2_with (first
  | (go_at_call 332;refine (hsa.out _).mono ?_;rintro e wz ⟨rfl,rfl⟩)
  | (go_at_call 238;refine (hM.out _).mono ?_;rintro e wz ⟨rfl,rfl⟩))
 generalize (wz.alloc (.cells set 206)).alloc (.cells set 206)=W2 at HC hbW⊢;clear hsc hv
 go_loopg [8] s.size (fun g s8 wx=>∃ i:Nat,i+g=s.size/\s8= .int .i64 i/\wx=W2/\Hid (Lib.NoAny s.data.toList Yy i))
 case atStart=>exact ⟨0,by omega,rfl,rfl,H0 (Lib.NoAny.zero _ _)⟩
 case round=>
  obtain ⟨i,hig,rfl,rfl,HN⟩:=hrel
  by_cases hi:i<s.size
  ·have hiz:(i:Int)<(s.size:Int):=by omega
   obtain ⟨x,hx⟩:∃ x:UInt8,s[i]'hi=x:=⟨_,rfl⟩
   have hxl:=H0 (show s.data.toList[i]? =some x by rw [<-hx];exact Lib.data_getElem? s i hi)
   have hcx:=HC.out x
   have hwr:IntKind.i64.wrap ((i:Int)+1)=(i:Int)+1:=IntWalk.i64_in _ (by omega)
   cases hin:Yy.contains x
   all_goals
    rw [hin] at hcx;have hct:=H0 (Tryz.asciiSet_contains _ x _ _ hcx);replace hin:=H0 hin;clear hcx
   ·go_wp2_with (go_at_call 289;refine hct.out.mono ?_;rintro e wy ⟨rfl,rfl⟩);go_roundg (s.size - (i+1))
    case measure=>omega
    case rel=>exact ⟨i+1,by omega,by go_num,rfl,H0 (HN.out.succ hxl.out hin.out)⟩
   ·go_wp2_with (go_at_call 289;refine hct.out.mono ?_;rintro e wy ⟨rfl,rfl⟩);go_ret
    exact ⟨by rw [Lib.indexAny_hit HN.out hxl.out hin.out];rfl,hbW⟩
  ·obtain rfl:i=s.size:=by omega
   have hiz:¬ ((s.size:Int)<(s.size:Int)):=by omega
   go_wp2_with fail;go_ret
   exact ⟨by rw [Lib.indexAny_none (by rw [<-Lib.size_eq];exact HN.out)];rfl,hbW⟩
theorem Adr (s:ByteArray) (hs:s.size<=140737488355328):Ahs s:=by
 intro w
 by_cases h:s.size<=8
 ·refine (Pd s w h).mono ?_;rintro e w' ⟨rfl,hb⟩
  exact ⟨by rw [ByteArray.toList_eq];rfl,hb⟩
 ·refine (Q4 s w (by omega) hs).mono ?_
  rintro e w' ⟨rfl,hb⟩
  exact ⟨by rw [ByteArray.toList_eq];rfl,hb⟩
end Go.Proofs.YtonomfeipkdmhaaGreatDoor
