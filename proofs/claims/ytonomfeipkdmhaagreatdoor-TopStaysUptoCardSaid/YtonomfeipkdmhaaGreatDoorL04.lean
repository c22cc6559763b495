/- Part 4: lemmas. -/
import Derived.Test.YtonomfeipkdmhaaGreatDoorL03
import Derived.Deep.RegionHeld3
import Derived.IntWalk
import Derived.Laws.RangeAny
import Derived.Laws.Runes
import Derived.Lib.OthersKept
import Derived.Shelf.RegionOpenPlain
set_option linter.unusedVariables false
set_option linter.unusedSimpArgs false
set_option maxRecDepth 100000
set_option maxHeartbeats 16000000
namespace Go.Proofs.YtonomfeipkdmhaaGreatDoor
open Go.RowKit
theorem AeI {C acc b d:Nat} (hb:1<=b):min (min acc C * b+d) C=min (acc * b+d) C:=by
 by_cases h:acc<=C
 ·rw [Nat.min_eq_left h]
 ·have h1:min acc C=C:=Nat.min_eq_right Qa;have h2:C * 1<=C * b:=Nat.mul_le_mul_left _ hb;have h3:C * b<=acc * b:=Nat.mul_le_mul_right _ Qa;rw [h1,Nat.min_eq_right Qa,Nat.min_eq_right Qa]
theorem AcQ (c a:Int):Ag c a<=35:=by unfold Ag Nw;omega
def JB (C:Nat) (w:World) (o:Option Nat) (e:Ending) (w':World):Prop:=e= .returned (.tuple #[.int .i64 ((min (o.getD 0) C:Nat):Int),.bool o.isSome])/\w=w'
theorem GT {base:Nat} {s:ByteArray} (h:s.toList.isEmpty=false):Bm base s.toList=AC base 0 s.toList:=by
 unfold Bm;rw [if_neg (by intro e;rw [e] at h;cases h)]
theorem RL (s:ByteArray) (b:Nat) (w:World) (hs:s.size<=1099511627776) (hb:b=8\/b=10\/b=16):
  Calls Tryz.prog 343 #[.string s,.int .i64 (b:Int)] w (JB 4294967296 w (Bm b s.toList)):=by
 cases hem:s.toList.isEmpty
 ·have hd1:=H0 (GT (base:=b) hem);have hb1:1<=b:=Qa;have hb2:(b:Int)<=16:=Qa;have hb0:(0:Int)<=(b:Int):=Qa;clear hb;go_enter Tryz.func343,Tryz.ntmps343;go_wp2_with fail
  go_loop [6,13] (fun nv iv=>∃ k m acc:Nat,iv= .int .i64 k/\nv= .int .i64 m/\k<=s.size/\m<=4294967296/\Hid (m=min acc 4294967296)/\Hid (AC b acc (s.toList.drop k)=AC b 0 s.toList)) (fun _ i=>s.size - (intOf i).toNat)
  case atStart=>exact ⟨0,0,0,rfl,rfl,Nat.zero_le _,Qa,rfl,H0 QP⟩
  case round=>
   obtain ⟨k,m,acc,rfl,rfl,hk,hm,hmc,hg⟩:=hrel
   by_cases hlt:k<s.size
   ·have hdr:=As s k hlt;have hltI:(k:Int)<(s.size:Int):=Qa;rw [hdr] at hg;clear hdr
    by_cases hd:Ag (s[k].toNat:Int) (b:Int)<0
    ·have hno:Hid (Bm b s.toList=none):=H0 (by rw [hd1.out,<-hg.out,AC,if_pos hd])
     go_wp2_with (go_at_call 155;refine (A8 _ _ _ (AN _) (AX _)).mono ?_;rintro e w' ⟨rfl,rfl⟩);go_ret2;unfold JB;rw [hno.out];exact ⟨rfl,rfl⟩
    ·have hle:=AcQ (s[k].toNat:Int) (b:Int)
     have hnew:Hid (AC b (acc * b+(Ag (s[k].toNat:Int) (b:Int)).toNat) (s.toList.drop (k+1))=AC b 0 s.toList):=H0 (by rw [<-hg.out,AC,if_neg hd])
     obtain ⟨d,hdd⟩:∃ d:Nat,Ag (s[k].toNat:Int) (b:Int)=(d:Int):=⟨(Ag (s[k].toNat:Int) (b:Int)).toNat,Qa⟩
     have hdig:=fun w=>A8 (s[k].toNat:Int) (b:Int) w (AN _) (AX _)
     rw [hdd] at hnew hdig hle hd;replace hdig:=H0 hdig;replace hdd:=H0 hdd;have hmb:m * b<=4294967296 * 16:=Nat.mul_le_mul hm Qa
     have hmbI:(m:Int) * (b:Int)=((m * b:Nat):Int):=by rw [Int.natCast_mul]
     have e1:IntKind.i64.wrap ((m:Int) * (b:Int))=((m * b:Nat):Int):=by rw [hmbI];exact IntWalk.i64_in _ Qa
     have e2:IntKind.i64.wrap (((m * b:Nat):Int)+(d:Int))=((m * b:Nat):Int)+(d:Int):=IntWalk.i64_in _ Qa;have hms:=AeI (C:=4294967296) (acc:=acc) (d:=d) hb1;rw [<-hmc.out] at hms;replace hms:=H0 hms;replace hmbI:=H0 hmbI;clear hg;go_wp2_with (go_at_call 155;refine (hdig.out _).mono ?_;rintro e w' ⟨rfl,rfl⟩);go_round
     case rel=>exact ⟨k+1,min (m * b+d) 4294967296,acc * b+d,Ql,congrArg (Value.int .i64) (by rw [hmbI.out];omega),Qa,Nat.min_le_right _ _,H0 hms.out,hnew⟩
     case measure=>simp [intOf];omega
   ·have hfin:Hid (Bm b s.toList=some acc):=H0 (by rw [hd1.out,<-hg.out,AL s k Qa];rfl)
    have hgeI:(s.size:Int)<=(k:Int):=Qa;clear hg;go_wp2_with fail;go_ret2;unfold JB;rw [hfin.out,hmc.out];exact ⟨rfl,rfl⟩
 ·have hno:Hid (Bm b s.toList=none):=H0 (by unfold Bm;rw [if_pos AkA])
  go_enter Tryz.func343,Tryz.ntmps343;go_wp2_with fail;go_ret2;unfold JB;rw [hno.out];exact ⟨rfl,rfl⟩
theorem IJ {s:ByteArray} {b:Nat} {o:Option Nat} (w:World) (bi:Int) (hbi:bi=(b:Int)) (hs:s.size<=1099511627776) (hb:b=8\/b=10\/b=16) (h:Bm b s.toList=o):
  Calls Tryz.prog 343 #[.string s,.int .i64 bi] w (JB 4294967296 w o):=by
 subst h hbi;exact RL s b w hs hb
theorem RN (c d:UInt8) (l:List UInt8):Lib.hasPrefix l [c,d]=match l with | x :: y :: _=>(c==x && d==y) | _=>false:=by
 unfold Lib.hasPrefix
 match l with
 | []=>rfl
 | [x]=>simp [List.isPrefixOf]
 | x :: y :: r=>simp [List.isPrefixOf]
theorem AeG {s:ByteArray} {c:UInt8} {l:List UInt8} (h:s.toList=c :: l) (h0:0<s.size):s[0]=c:=by
 have:=EJ s 0 h0;rw [<-this];simp [h]
theorem Hh {s:ByteArray} (k:Nat):(s.extract k s.size).toList=s.toList.drop k:=by
 rw [toList_extract,<-Aa,List.take_length]
theorem Ahf {C:Nat} {w:World} {o p:Option Nat} {e:Ending} {w':World} (h:o=p) (r:JB C w o e w'):JB C w p e w':=h ▸ r
theorem Ah2 {c:UInt8} {n:Nat} (hn:n<256):((c.toNat:Int)==(n:Int))=decide (c=UInt8.ofNat n):=by
 rw [Bool.eq_iff_iff];simp only [beq_iff_eq,decide_eq_true_eq];constructor
 ·intro h;have:c.toNat=n:=Qa;rw [<-this];simp
 ·rintro rfl;rw [UInt8.toNat_ofNat_of_lt' hn]
theorem Se (s:ByteArray) (w:World) (hs:s.size<=1099511627776):
  Calls Tryz.prog 344 #[.string s] w (JB 4294967296 w (FY s.toList)):=by
 have hl:=Aa s
 by_cases h1:s.size<=1
 ·have hp:∀ c d,Lib.hasPrefix s.data.toList [c,d]=false:=by
   intro c d;rw [<-ByteArray.toList_eq,RN]
   match hL:s.toList with
   | []=>rfl
   | [x]=>rfl
   | x :: y :: r=>rw [hL] at hl;simp at hl;omega
  have hV:Bm 10 s.toList=FY s.toList:=by
   match hL:s.toList with
   | []=>rfl
   | [x]=>rfl
   | x :: y :: r=>rw [hL] at hl;simp at hl;omega
  have p1:=hp 48 120;have p2:=hp 48 88;have hz:(s.size:Int)<=1:=Qa
  have hd:=H0 (fun w=>IJ (o:=FY s.toList) w 10 (b:=10) rfl hs Qc hV)
  clear hp hl h1 hV;go_enter Tryz.func344,Tryz.ntmps344
  go_wp2_with (first
   | (go_at_call 111;refine (Tryz.strings_HasPrefix _ _ _).mono ?_;rintro e w' ⟨rfl,rfl⟩)
   | (go_at_call 343;refine (hd.out _).mono ?_;rintro e w' ⟨rfl,rfl⟩))
  go_ret2;exact ⟨rfl,rfl⟩
 obtain ⟨c,d,r,hL⟩:∃ c d r,s.toList=c :: d :: r:=by
  match hL:s.toList with
  | []=>rw [hL] at hl;simp at hl;omega
  | [x]=>rw [hL] at hl;simp at hl;omega
  | x :: y :: r=>exact ⟨x,y,r,rfl⟩
 have h0:0<s.size:=Qa;have g0:=AeG hL h0;have hz:(1:Int)<(s.size:Int):=Qa;have hz2:(2:Int)<=(s.size:Int):=Qa
 have hp:∀ a b,Lib.hasPrefix s.data.toList [a,b]=(a==c && b==d):=by intro a b;rw [<-ByteArray.toList_eq,RN,hL]
 have p1:=hp 48 120;have p2:=hp 48 88
 have hb:((s[0].toNat:Int)==48)=decide (c=48):=by rw [g0];exact Ah2 (n:=48) Qc
 by_cases hc:c=48
 ·subst hc
  by_cases hd:d=120\/d=88
  ·have hV:FY s.toList=AC 16 0 r:=by rw [hL,FY,if_pos rfl,if_pos hd]
   have hps:Lib.hasPrefix s.data.toList [48,120]=true\/Lib.hasPrefix s.data.toList [48,120]=false/\Lib.hasPrefix s.data.toList [48,88]=true:=by
    rw [p1,p2]
    rcases hd with rfl | rfl
    ·exact .inl rfl
    ·exact .inr ⟨rfl,rfl⟩
   have hrs:s.size=r.length+2:=by rw [<-hl,hL];rfl
   have hx:(s.extract 2 s.size).toList=r:=by rw [Hh,hL];rfl
   have hxs:(s.extract 2 s.size).size<=1099511627776:=by rw [<-Aa,hx];omega
   clear p1 p2 hp hb g0
   by_cases hr:r=[]
   ·have hV2:Hid (FY s.toList=some 0):=H0 (by rw [hV,hr];rfl)
    have hq:((s.size:Int)==2)=true:=by rw [hrs,hr];rfl
    clear hV hrs hx hxs hr hL hl hd
    rcases hps with q1 | ⟨q1,q2⟩
    all_goals
     go_enter Tryz.func344,Tryz.ntmps344
     go_wp2_with (first
      | (go_at_call 111;refine (Tryz.strings_HasPrefix _ _ _).mono ?_;rintro e w' ⟨rfl,rfl⟩))
     go_ret2;exact Ahf hV2.out.symm ⟨rfl,rfl⟩
   ·have hq:((s.size:Int)==2)=false:=by
     have:0<r.length:=List.length_pos_iff.2 hr;simp only [beq_eq_false_iff_ne,ne_eq];omega
    have hd':=H0 (fun w=>IJ (s:=s.extract 2 s.size) (o:=FY s.toList) w 16 (b:=16) rfl hxs Qc (by rw [hx,hV];unfold Bm;rw [if_neg hr]))
    clear hV hrs hx hxs hr hL hl hd
    rcases hps with q1 | ⟨q1,q2⟩
    all_goals
     go_enter Tryz.func344,Tryz.ntmps344
     go_wp2_with (first
      | (go_at_call 111;refine (Tryz.strings_HasPrefix _ _ _).mono ?_;rintro e w' ⟨rfl,rfl⟩)
      | (go_at_call 343;refine (hd'.out _).mono ?_;rintro e w' ⟨rfl,rfl⟩))
     go_ret2;exact ⟨rfl,rfl⟩
  ·have hV:FY s.toList=AC 8 0 (d :: r):=by rw [hL,FY,if_pos rfl,if_neg hd]
   have q1:Lib.hasPrefix s.data.toList [48,120]=false:=by
    rw [p1];simp only [Bool.and_eq_false_iff];right;simp;exact fun e=>hd (.inl e.symm)
   have q2:Lib.hasPrefix s.data.toList [48,88]=false:=by
    rw [p2];simp only [Bool.and_eq_false_iff];right;simp;exact fun e=>hd (.inr e.symm)
   have hx:(s.extract 1 s.size).toList=d :: r:=by rw [Hh,hL];rfl
   have hxs:(s.extract 1 s.size).size<=1099511627776:=by rw [<-Aa,Hh,List.length_drop];omega
   have hd':=H0 (fun w=>IJ (s:=s.extract 1 s.size) (o:=FY s.toList) w 8 (b:=8) rfl hxs Qc (by rw [hx,hV];rfl))
   have hb2:((s[0].toNat:Int)==48)=true:=hb.trans Qc;clear hV hx hxs hL hl hd p1 p2 hp hb g0;go_enter Tryz.func344,Tryz.ntmps344
   go_wp2_with (first
    | (go_at_call 111;refine (Tryz.strings_HasPrefix _ _ _).mono ?_;rintro e w' ⟨rfl,rfl⟩)
    | (go_at_call 343;refine (hd'.out _).mono ?_;rintro e w' ⟨rfl,rfl⟩))
   go_ret2;exact ⟨rfl,rfl⟩
 ·have hV:FY s.toList=AC 10 0 (c :: d :: r):=by rw [hL,FY,if_neg hc]
  have q1:Lib.hasPrefix s.data.toList [48,120]=false:=by
   rw [p1];simp only [Bool.and_eq_false_iff];left;simp;exact fun e=>hc e.symm
  have q2:Lib.hasPrefix s.data.toList [48,88]=false:=by
   rw [p2];simp only [Bool.and_eq_false_iff];left;simp;exact fun e=>hc e.symm
  have hd':=H0 (fun w=>IJ (s:=s) (o:=FY s.toList) w 10 (b:=10) rfl hs Qc (by rw [hV,hL];rfl))
  have hb2:((s[0].toNat:Int)==48)=false:=by rw [hb];simpa using hc
  clear hV hL hl p1 p2 hp hb g0 hc;go_enter Tryz.func344,Tryz.ntmps344
  go_wp2_with (first
   | (go_at_call 111;refine (Tryz.strings_HasPrefix _ _ _).mono ?_;rintro e w' ⟨rfl,rfl⟩)
   | (go_at_call 343;refine (hd'.out _).mono ?_;rintro e w' ⟨rfl,rfl⟩))
  go_ret2;exact ⟨rfl,rfl⟩
def Et:Nat:=9223372036854775807
theorem Af7 {acc d:Nat} (hd:d<=9):(if (Et - d) / 10<min acc Et then Et else min acc Et * 10+d)=min (acc * 10+d) Et:=by
 unfold Et
 split<;>omega
theorem Gx (s:ByteArray) (w:World) (hs:s.size<=140737488355328):
  Calls Tryz.prog 292 #[.string s] w (JB Et w (Bm 10 s.toList)):=by
 cases hem:s.toList.isEmpty
 ·have hd1:=H0 (GT (base:=10) hem);go_enter Tryz.func292,Tryz.ntmps292;go_wp2_with fail
  go_loop [4,11] (fun nv iv=>∃ k m acc:Nat,iv= .int .i64 k/\nv= .int .i64 m/\k<=s.size/\Hid (m<=Et)/\Hid (m=min acc Et)/\Hid (AC 10 acc (s.toList.drop k)=AC 10 0 s.toList)) (fun _ i=>s.size - (intOf i).toNat)
  case atStart=>exact ⟨0,0,0,rfl,rfl,Nat.zero_le _,H0 (Nat.zero_le _),rfl,H0 QP⟩
  case round=>
   obtain ⟨k,m,acc,rfl,rfl,hk,hm,hmc,hg⟩:=hrel
   by_cases hlt:k<s.size
   ·have hdr:=As s k hlt;have hltI:(k:Int)<(s.size:Int):=Qa;rw [hdr] at hg;clear hdr
    by_cases hd:Ag (s[k].toNat:Int) 10<0
    ·have hno:Hid (Bm 10 s.toList=none):=H0 (by rw [hd1.out,<-hg.out,AC,if_pos (show Ag (s[k].toNat:Int) ((10:Nat):Int)<0 from hd)])
     go_wp2_with (go_at_call 155;refine (A8 _ _ _ (AN _) (AX _)).mono ?_;rintro e w' ⟨rfl,rfl⟩);go_ret2;unfold JB;rw [hno.out];exact ⟨rfl,rfl⟩
    ·have hnew:Hid (AC 10 (acc * 10+(Ag (s[k].toNat:Int) ((10:Nat):Int)).toNat) (s.toList.drop (k+1))=AC 10 0 s.toList):=H0 (by rw [<-hg.out,AC,if_neg (show ¬ Ag (s[k].toNat:Int) ((10:Nat):Int)<0 from hd)])
     obtain ⟨d,hdd⟩:∃ d:Nat,Ag (s[k].toNat:Int) 10=(d:Int):=⟨(Ag (s[k].toNat:Int) 10).toNat,Qa⟩
     have hd9:d<=9:=by
      have:Ag (s[k].toNat:Int) 10<=9:=by unfold Ag;omega
      omega
     have hdig:=fun w=>A8 (s[k].toNat:Int) 10 w (AN _) (AX _)
     rw [hdd] at hdig hd;rw [show Ag (s[k].toNat:Int) ((10:Nat):Int)=(d:Int) from hdd] at hnew;replace hdig:=H0 hdig;replace hdd:=H0 hdd;have hst:=Af7 (acc:=acc) hd9;rw [<-hmc.out] at hst;have hmM:=hm.out;have e1:IntKind.i64.wrap (9223372036854775807 - (d:Int))=9223372036854775807 - (d:Int):=IntWalk.i64_in _ Qa
     have e4:(9223372036854775807 - (d:Int)) / 10=(((Et - d) / 10:Nat):Int):=by unfold Et;omega
     have e5:(9223372036854775807 - (d:Int)).tdiv 10=(((Et - d) / 10:Nat):Int):=by rw [Int.tdiv_eq_ediv_of_nonneg Qa];exact e4
     generalize hq:(Et - d) / 10=q at hst e4 e5
     have hcs:(decide (q<m)=true/\Hid (Et=min (acc * 10+d) Et))\/(decide (q<m)=false/\Hid (m * 10+d<=Et)/\Hid (m * 10+d=min (acc * 10+d) Et)):=by
      by_cases hc:q<m
      ·rw [if_pos hc] at hst;exact .inl ⟨decide_eq_true hc,H0 hst⟩
      ·rw [if_neg hc] at hst
       exact .inr ⟨decide_eq_false hc,H0 (by rw [hst];exact Nat.min_le_right _ _),H0 hst⟩
     replace hq:=H0 hq;clear hst hmM hg
     rcases hcs with ⟨c1,c2⟩ | ⟨c1,c3,c2⟩
     ·go_wp2_with (go_at_call 155;refine (hdig.out _).mono ?_;rintro e w' ⟨rfl,rfl⟩);go_round
      case rel=>exact ⟨k+1,Et,acc * 10+d,Ql,rfl,Qa,H0 (Nat.le_refl _),c2,hnew⟩
      case measure=>simp [intOf];omega
     ·have e6:IntKind.i64.wrap ((m:Int) * 10)=(m:Int) * 10:=IntWalk.i64_in _ (by have:=c3.out;unfold Et at this;omega)
      have e7:IntKind.i64.wrap ((m:Int) * 10+(d:Int))=(m:Int) * 10+(d:Int):=IntWalk.i64_in _ (by have:=c3.out;unfold Et at this;omega)
      go_wp2_with (go_at_call 155;refine (hdig.out _).mono ?_;rintro e w' ⟨rfl,rfl⟩);go_round
      case rel=>exact ⟨k+1,m * 10+d,acc * 10+d,Ql,Ql,Qa,c3,c2,hnew⟩
      case measure=>simp [intOf];omega
   ·have hfin:Hid (Bm 10 s.toList=some acc):=H0 (by rw [hd1.out,<-hg.out,AL s k Qa];rfl)
    have hgeI:(s.size:Int)<=(k:Int):=Qa;clear hg;go_wp2_with fail;go_ret2;unfold JB;rw [hfin.out,hmc.out];exact ⟨rfl,rfl⟩
 ·have hno:Hid (Bm 10 s.toList=none):=H0 (by unfold Bm;rw [if_pos AkA])
  go_enter Tryz.func292,Tryz.ntmps292;go_wp2_with fail;go_ret2;unfold JB;rw [hno.out];exact ⟨rfl,rfl⟩
def C5:List UInt8->List UInt8 × Option (List UInt8)
 | []=>([],none)
 | c :: r=>if c=101\/c=69 then ([],some r) else (c :: (C5 r).1,(C5 r).2)
def M9 (l:List UInt8):Option Nat:=if 4<l.length then none else Bm 10 l
def FX:List UInt8->Option Int
 | 45 :: r=>(M9 r).map (fun n:Nat=> -(n:Int))
 | 43 :: r=>(M9 r).map (fun n:Nat=>(n:Int))
 | l=>(M9 l).map (fun n:Nat=>(n:Int))
def GR (l:List UInt8):Option (Nat × Int):=
 match (match (C5 l).2 with | none=>some 0 | some r=>FX r) with
 | none=>none
 | some m=>
  if ((Ak 46 (C5 l).1).2.2=true/\(Ak 46 (C5 l).1).2.1=[])\/15<(Ak 46 (C5 l).1).1.length+(Ak 46 (C5 l).1).2.1.length then none
  else match Bm 10 ((Ak 46 (C5 l).1).1++(Ak 46 (C5 l).1).2.1) with
   | none=>none
   | some n=>if m - (Ak 46 (C5 l).1).2.1.length< -22\/22<m - (Ak 46 (C5 l).1).2.1.length then none else some (n,m - (Ak 46 (C5 l).1).2.1.length)
def B8:List UInt8->Option (Bool × Nat × Int)
 | 45 :: r=>(GR r).map fun x=>(true,x)
 | l=>(GR l).map fun x=>(false,x)
theorem K3 (c:UInt8) (l:List UInt8):Lib.hasPrefix l [c]=match l with | x :: _=>(c==x) | []=>false:=by
 unfold Lib.hasPrefix
 match l with
 | []=>rfl
 | x :: r=>simp [List.isPrefixOf]
theorem LS {s:ByteArray} {c:UInt8} (h:Lib.hasPrefix s.data.toList [c]=false):(⟨(Lib.trimPrefix s.data.toList [c]).toArray⟩:ByteArray)=s:=by
 unfold Lib.trimPrefix;rw [if_neg Aj2]
theorem W4 {s:ByteArray} {c:UInt8} {r:List UInt8} (h:s.toList=c :: r):(⟨(Lib.trimPrefix s.data.toList [c]).toArray⟩:ByteArray)=⟨r.toArray⟩:=by
 unfold Lib.trimPrefix
 rw [<-ByteArray.toList_eq,h,if_pos (by rw [K3];simp)];rfl
theorem AgY {l:List UInt8} {n:Nat}:∀ (acc:Nat),AC 10 acc l=some n->n<(acc+1) * 10 ^ l.length:=by
 induction l with
 | nil=>intro acc h;simp [AC] at h;rw [List.length_nil,Nat.pow_zero];omega
 | cons c r ih=>
  intro acc h;rw [AC] at h;split at h
  ·cases h
  ·have hd:(Ag (c.toNat:Int) ((10:Nat):Int)).toNat<=9:=by unfold Ag;omega
   have:=ih _ h;refine Nat.lt_of_lt_of_le this ?_;rw [List.length_cons,Nat.pow_succ,Nat.mul_comm (10 ^ r.length) 10,<-Nat.mul_assoc];exact Nat.mul_le_mul_right _ Qa
theorem Pz {l:List UInt8} {n:Nat} (h:Bm 10 l=some n):n<10 ^ l.length:=by
 unfold Bm at h;split at h
 ·cases h
 ·have:=AgY 0 h;omega
def AgC (w:World) (o:Option Int) (e:Ending) (w':World):Prop:=e= .returned (.tuple #[.int .i64 (o.getD 0),.bool o.isSome])/\w=w'
theorem Aa5 {l:List UInt8} {n:Nat} (h:M9 l=some n):n<=9999:=by
 unfold M9 at h;split at h
 ·cases h
 ·have:=Pz h;have h2:10 ^ l.length<=10 ^ 4:=Nat.pow_le_pow_right Qc Qa;omega
theorem Aec {l:List UInt8} {n:Int} (h:FX l=some n): -9999<=n/\n<=9999:=by
 unfold FX at h;split at h
 all_goals
  rw [Option.map_eq_some_iff] at h;obtain ⟨m,hm,rfl⟩:=h;have:=Aa5 hm;omega
theorem Vc (s:ByteArray) (w:World) (hs:s.size<=140737488355328):
    Calls Tryz.prog 316 #[.string s] w (AgC w (FX s.toList)):=by
  have key:∃ (x:ByteArray) (neg:Bool),x.size<=140737488355328/\Hid (FX s.toList=(M9 x.toList).map (fun n:Nat=>if neg then -(n:Int) else (n:Int)))/\
      ((neg=true/\Lib.hasPrefix s.data.toList [45]=true/\(⟨(Lib.trimPrefix s.data.toList [45]).toArray⟩:ByteArray)=x)\/
       (neg=false/\Lib.hasPrefix s.data.toList [45]=false/\(⟨(Lib.trimPrefix s.data.toList [45]).toArray⟩:ByteArray)=s/\(⟨(Lib.trimPrefix s.data.toList [43]).toArray⟩:ByteArray)=x)):=by
    have hl:=Aa s
    match hL:s.toList with
    | []=>
      have p1:Lib.hasPrefix s.data.toList [45]=false:=by rw [<-ByteArray.toList_eq,hL];rfl
      have p2:Lib.hasPrefix s.data.toList [43]=false:=by rw [<-ByteArray.toList_eq,hL];rfl
      exact ⟨s,false,hs,H0 (by rw [hL];rfl),.inr ⟨rfl,p1,LS p1,LS p2⟩⟩
    | c :: r=>
      have hz:(ByteArray.mk r.toArray).size<=140737488355328:=by rw [<-Aa,toList_mk];rw [hL] at hl;simp at hl;omega
      have pq:∀ d,Lib.hasPrefix s.data.toList [d]=(d==c):=fun d=>by rw [<-ByteArray.toList_eq,hL,K3]
      by_cases h1:c=45
      · subst h1
        exact ⟨⟨r.toArray⟩,true,hz,H0 (by rw [toList_mk];rfl),.inl ⟨rfl,(pq 45).trans rfl,W4 hL⟩⟩
      · have p1:Lib.hasPrefix s.data.toList [45]=false:=(pq 45).trans (by simpa using Ne.symm h1)
        by_cases h2:c=43
        · subst h2
          exact ⟨⟨r.toArray⟩,false,hz,H0 (by rw [toList_mk];rfl),.inr ⟨rfl,p1,LS p1,W4 hL⟩⟩
        · have p2:Lib.hasPrefix s.data.toList [43]=false:=(pq 43).trans (by simpa using Ne.symm h2)
          refine ⟨s,false,hs,H0 ?_,.inr ⟨rfl,p1,LS p1,LS p2⟩⟩;rw [hL];unfold FX;split
          · rename_i h;exact absurd (List.cons.inj h).1 h1
          · rename_i h;exact absurd (List.cons.inj h).1 h2
          · rfl
  obtain ⟨x,neg,hx,hV,hcs⟩:=key
  have hw:=H0 (fun w=>Gx x w hx)
  have hlen:(decide ((4:Int)<(x.size:Int))=true/\Hid (M9 x.toList=none))\/(decide ((4:Int)<(x.size:Int))=false/\Hid (M9 x.toList=Bm 10 x.toList)):=by
    by_cases h:4<x.size
    · exact .inl ⟨decide_eq_true Qa,H0 (by unfold M9;rw [Aa,if_pos h])⟩
    · exact .inr ⟨decide_eq_false Qa,H0 (by unfold M9;rw [Aa,if_neg h])⟩
  rcases hlen with ⟨q1,q2⟩ | ⟨q1,q2⟩
  · have hno:Hid (FX s.toList=none):=H0 (by rw [hV.out,q2.out];rfl)
    rcases hcs with ⟨rfl,h1,h2⟩ | ⟨rfl,h1,h2,h3⟩
    all_goals
      go_enter Tryz.func316,Tryz.ntmps316
      go_wp2_with (first
        | (go_at_call 218;refine (Tryz.strings_CutPrefix _ _ _).mono ?_;rintro e w' ⟨rfl,rfl⟩)
        | (go_at_call 183;refine (Tryz.strings_TrimPrefix _ _ _).mono ?_;rintro e w' ⟨rfl,rfl⟩))
      go_ret2;unfold AgC;rw [hno.out];exact ⟨rfl,rfl⟩
  · cases hD:M9 x.toList with
    | none=>
      have hno:Hid (FX s.toList=none):=H0 (by rw [hV.out,hD];rfl)
      have hw2:=H0 (fun w=>by have:=hw.out w;rw [<-q2.out,hD] at this;exact this)
      replace hD:=H0 hD
      rcases hcs with ⟨rfl,h1,h2⟩ | ⟨rfl,h1,h2,h3⟩
      all_goals
        go_enter Tryz.func316,Tryz.ntmps316
        go_wp2_with (first
          | (go_at_call 218;refine (Tryz.strings_CutPrefix _ _ _).mono ?_;rintro e w' ⟨rfl,rfl⟩)
          | (go_at_call 183;refine (Tryz.strings_TrimPrefix _ _ _).mono ?_;rintro e w' ⟨rfl,rfl⟩)
          | (go_at_call 292;refine (hw2.out _).mono ?_;rintro e w' ⟨rfl,rfl⟩))
        go_ret2;unfold AgC;rw [hno.out];exact ⟨rfl,rfl⟩
    | some n=>
      have hbd:=Aa5 hD
      have hmin:min n Et=n:=by unfold Et;omega
      have hyes:Hid (FX s.toList=some (if neg then -(n:Int) else (n:Int))):=H0 (by rw [hV.out,hD];rfl)
      have hw2:Hid (∀ w,Calls Tryz.prog 292 #[.string x] w (fun e w'=>e= .returned (.tuple #[.int .i64 (n:Int),.bool true])/\w=w')):=H0 (fun w=>by
        have:=hw.out w;rw [<-q2.out,hD] at this
        refine this.mono fun e w' h=> ?_
        unfold JB at h;rw [show (some n).getD 0=n from rfl,hmin] at h
        exact h)
      have e1:IntKind.i64.wrap (-(n:Int))= -(n:Int):=IntWalk.i64_in _ Qa;replace hD:=H0 hD;replace hmin:=H0 hmin
      rcases hcs with ⟨rfl,h1,h2⟩ | ⟨rfl,h1,h2,h3⟩
      all_goals
        go_enter Tryz.func316,Tryz.ntmps316
        go_wp2_with (first
          | (go_at_call 218;refine (Tryz.strings_CutPrefix _ _ _).mono ?_;rintro e w' ⟨rfl,rfl⟩)
          | (go_at_call 183;refine (Tryz.strings_TrimPrefix _ _ _).mono ?_;rintro e w' ⟨rfl,rfl⟩)
          | (go_at_call 292;refine (hw2.out _).mono ?_;rintro e w' ⟨rfl,rfl⟩))
        go_ret2;unfold AgC;rw [hyes.out];exact ⟨rfl,rfl⟩
def AiE:Nat:=4621819117588971520
def KC:Nat->Nat
 | 0=>4607182418800017408
 | k+1=>(Ieee.double.mul (KC k) AiE).getD 0
theorem AeV:∀ k:Fin 22,Ieee.double.mul (KC k.val) AiE=some (KC (k.val+1)):=Qe
def HV:Ieee.Datum->Bool
 | .number false m _=>decide (m≠0)
 | _=>false
theorem Afh:∀ k:Fin 23,HV (Ieee.double.read (KC k.val))=true:=Qe
theorem Rp {k:Nat} (h:k<=22):∃ m e,Ieee.double.read (KC k)= .number false m e/\m≠0:=by
 have:=Afh ⟨k,Qa⟩;revert this;show HV (Ieee.double.read (KC k))=true->_
 cases Ieee.double.read (KC k) with
 | number s m e=>cases s<;>simp [HV]
 | infinity s=>simp [HV]
 | nan s t=>simp [HV]
theorem Aeq {x y:Nat} {s t:Bool} {m n:Nat} {i j:Int} (hx:Ieee.double.read x= .number s m i) (hy:Ieee.double.read y= .number t n j):Ieee.double.mul x y=some (Ieee.double.nearest (s ^^ t) (m * n) (i+j)):=by
 unfold Ieee.Format.mul;rw [hx,hy];rfl
theorem Afs {x y:Nat} {s t:Bool} {m n:Nat} {i j:Int} (hx:Ieee.double.read x= .number s m i) (hy:Ieee.double.read y= .number t n j) (hn:n≠0):∃ r,Ieee.double.div x y=some r:=by
 unfold Ieee.Format.div;rw [hx,hy];unfold Ieee.Datum.quotient;dsimp only;rw [if_neg hn];exact ⟨_,rfl⟩
def GZ (f:Nat) (k:Int):Nat:=if k<0 then (Ieee.double.div f (KC k.natAbs)).getD 0 else (Ieee.double.mul f (KC k.natAbs)).getD 0
theorem Aey {f:Nat} {s:Bool} {m:Nat} {i:Int} (hf:Ieee.double.read f= .number s m i) {k:Int} (h:k<0) (hk: -22<=k):Ieee.double.div f (KC k.natAbs)=some (GZ f k):=by
 obtain ⟨n,e,hp,hn⟩:=Rp (k:=k.natAbs) Qa;obtain ⟨r,hr⟩:=Afs hf hp hn;unfold GZ;rw [if_pos h,hr];rfl
theorem AfL {f:Nat} {s:Bool} {m:Nat} {i:Int} (hf:Ieee.double.read f= .number s m i) {k:Int} (h:¬ k<0) (hk:k<=22):Ieee.double.mul f (KC k.natAbs)=some (GZ f k):=by
 obtain ⟨n,e,hp,hn⟩:=Rp (k:=k.natAbs) Qa;have hr:=Aeq hf hp;unfold GZ;rw [if_neg h,hr];rfl
theorem YA (f:Nat) (k:Int) (w:World) {s:Bool} {m:Nat} {i:Int} (hf:Ieee.double.read f= .number s m i) (h0: -22<=k) (h1:k<=22):
  Calls Tryz.prog 317 #[.float .f64 f,.int .i64 k] w fun e w'=>e= .returned (.float .f64 (GZ f k))/\w=w':=by
 have hmax:max k (-k)=(k.natAbs:Int):=Qa;have e1:IntKind.i64.wrap (-k)= -k:=IntWalk.i64_in _ Qa
 have hst:∀ j,j<22->∀ w t,(binOp .mul t (.float .f64 (KC j)) (.float .f64 4621819117588971520)).run Tryz.prog w= .ok (.float .f64 (KC (j+1))) w:=fun j hj w t=>
  run_float_arith w .mul t .f64 _ _ _ (AeV ⟨j,hj⟩)
 have hK:k.natAbs<=22:=Qa;have hKI:(k.natAbs:Int)<=22:=Qa;replace hst:=H0 hst;go_enter Tryz.func317,Tryz.ntmps317;go_wp2_with fail
 go_loop [5,10] (fun pv iv=>∃ j:Nat,iv= .int .i64 j/\pv= .float .f64 (KC j)/\j<=k.natAbs) (fun _ iv=>k.natAbs - (intOf iv).toNat)
 case atStart=>exact ⟨0,rfl,rfl,Nat.zero_le _⟩
 case round=>
  obtain ⟨j,rfl,rfl,hj⟩:=hrel
  by_cases hlt:j<k.natAbs
  ·have hltI:(j:Int)<(k.natAbs:Int):=Qa;have hr:=hst.out j Qa;go_wp2_with fail;go_round
   case rel=>exact ⟨j+1,Ql,rfl,Qa⟩
   case measure=>simp [intOf];omega
  ·obtain rfl:j=k.natAbs:=Qa;have hgeI:(k.natAbs:Int)<=(k.natAbs:Int):=Int.le_refl _
   by_cases hk:k<0
   ·have hr:∀ w t,(binOp .quo t (.float .f64 f) (.float .f64 (KC k.natAbs))).run Tryz.prog w= .ok (.float .f64 (GZ f k)) w:=fun w t=>run_float_arith w .quo t .f64 _ _ _ (Aey hf hk h0)
    go_wp2_with fail;go_ret;exact ⟨rfl,rfl⟩
   ·have hr:∀ w t,(binOp .mul t (.float .f64 f) (.float .f64 (KC k.natAbs))).run Tryz.prog w= .ok (.float .f64 (GZ f k)) w:=fun w t=>run_float_arith w .mul t .f64 _ _ _ (AfL hf hk h1)
    have hk2:0<=k:=Qa;go_wp2_with fail;go_ret;exact ⟨rfl,rfl⟩
theorem Vq (l:List UInt8):(Lib.indexAny l [101,69]= -1/\C5 l=(l,none))\/∃ i:Nat,Lib.indexAny l [101,69]=(i:Int)/\i<l.length/\C5 l=(l.take i,some (l.drop (i+1))):=by
 induction l with
 | nil=>exact .inl ⟨rfl,rfl⟩
 | cons c r ih=>
  unfold Lib.indexAny C5
  by_cases h:c=101\/c=69
  ·have hc:([101,69]:List UInt8).contains c=true:=by rcases h with rfl | rfl<;>rfl
   rw [if_pos hc,if_pos h];exact .inr ⟨0,rfl,Qf,Qf⟩
  ·have hc:¬ ([101,69]:List UInt8).contains c=true:=Qy;rw [if_neg hc,if_neg h]
   rcases ih with ⟨h1,h2⟩ | ⟨i,h1,hi,h2⟩
   ·rw [h1,h2];exact .inl ⟨rfl,rfl⟩
   ·rw [h1,h2];have hn:¬ (((i:Int)== -1)=true):=Akp;rw [if_neg hn];exact .inr ⟨i+1,Qa,Qi,Qf⟩
def DX (x:Bool × Nat × Int):Nat:=if x.1=true/\x.2.1≠0 then Op.negFloat .f64 (GZ (floatOfInt .f64 (x.2.1:Int)) x.2.2) else GZ (floatOfInt .f64 (x.2.1:Int)) x.2.2
def Aee (w:World) (o:Option (Bool × Nat × Int)) (e:Ending) (w':World):Prop:=e= .returned (.tuple #[.float .f64 ((o.map DX).getD 0),.bool o.isSome])/\Below w.heap.size w w'
theorem Dl {w w':World} {o:Option (Bool × Nat × Int)} (h:o=none) (hb:Below w.heap.size w w'):Aee w o (.returned (.tuple #[.float .f64 0,.bool false])) w':=by subst h;exact ⟨rfl,hb⟩
theorem Xj {n:Nat} (h:n<2 ^ 53):∃ m i,Ieee.double.read (floatOfInt .f64 (n:Int))= .number false m i:=by
 have e:floatOfInt .f64 (n:Int)=Ieee.double.nearest false n 0:=by
  unfold floatOfInt FloatKind.nearest;simp;rfl
 rw [e]
 by_cases h0:n=0
 ·subst h0;exact ⟨_,_,AdV⟩
 ·exact ⟨_,_,Age h0 h⟩
def AjT (x:ByteArray):Prop:=∀ w,Calls Tryz.prog 315 #[.string x,.string ⟨#[101,69]⟩] w fun e w'=>e= .returned (.int .i64 (Lib.indexAny x.toList [101,69]))/\Below w.heap.size w w'
def J5 (s:ByteArray):ByteArray:=⟨(Lib.trimPrefix s.data.toList [45]).toArray⟩
theorem SF (s:ByteArray):B8 s.toList=(GR (J5 s).toList).map fun x=>(Lib.hasPrefix s.data.toList [45],x):=by
 have e0:(J5 s).toList=Lib.trimPrefix s.data.toList [45]:=toList_mk _;have e2:s.data.toList=s.toList:=(ByteArray.toList_eq ..).symm;rw [e0,e2];unfold Lib.trimPrefix
 match hL:s.toList with
 | []=>rfl
 | c :: r=>
  have hp:Lib.hasPrefix (c :: r) [45]=((45:UInt8)==c):=K3 45 (c :: r)
  by_cases h:c=45
  ·subst h
   rw [if_pos (by rw [hp];rfl),hp];rfl
  ·have e:((45:UInt8)==c)=false:=by simpa using Ne.symm h
   rw [if_neg (by rw [hp,e];decide),hp,e]
   unfold B8;split
   ·rename_i h2;exact absurd (List.cons.inj h2).1 h
   ·rfl
theorem Vp (s:ByteArray):(J5 s).size<=s.size:=by
 have e0:(J5 s).toList=Lib.trimPrefix s.data.toList [45]:=toList_mk _;have e2:s.data.toList=s.toList:=(ByteArray.toList_eq ..).symm;rw [<-Aa,e0,e2,<-Aa];unfold Lib.trimPrefix;split
 ·rw [List.length_drop];omega
 ·exact Nat.le_refl _
def Gb (l:List UInt8) (m:Int):Option (Nat × Int):=
 if ((Ak 46 l).2.2=true/\(Ak 46 l).2.1=[])\/15<(Ak 46 l).1.length+(Ak 46 l).2.1.length then none
 else match Bm 10 ((Ak 46 l).1++(Ak 46 l).2.1) with
  | none=>none
  | some n=>if m - (Ak 46 l).2.1.length< -22\/22<m - (Ak 46 l).2.1.length then none else some (n,m - (Ak 46 l).2.1.length)
theorem NT {l:List UInt8} (h:C5 l=(l,none)):GR l=Gb l 0:=by
 unfold GR;rw [h];rfl
theorem O3 {l a b:List UInt8} (h:C5 l=(a,some b)) (he:FX b=none):GR l=none:=by
 unfold GR;rw [h];dsimp only;rw [he]
theorem NU {l a b:List UInt8} {m:Int} (h:C5 l=(a,some b)) (he:FX b=some m):GR l=Gb a m:=by
 unfold GR;rw [h];dsimp only;rw [he];rfl
theorem SE (c:UInt8) (l:List UInt8):(Lib.indexByte l c= -1/\Ak c l=(l,[],false))\/∃ i:Nat,Lib.indexByte l c=(i:Int)/\i<l.length/\Ak c l=(l.take i,l.drop (i+1),true):=by
 induction l with
 | nil=>exact .inl ⟨rfl,rfl⟩
 | cons d r ih=>
  unfold Lib.indexByte Ak
  by_cases h:d=c
  ·rw [if_pos Qy,if_pos h];exact .inr ⟨0,rfl,Qf,Qf⟩
  ·rw [if_neg Qy,if_neg h]
   rcases ih with ⟨h1,h2⟩ | ⟨i,h1,hi,h2⟩
   ·rw [h1,h2];exact .inl ⟨rfl,rfl⟩
   ·rw [h1,h2];have hn:¬ (((i:Int)== -1)=true):=Akp;rw [if_neg hn];exact .inr ⟨i+1,Qa,Qi,Qf⟩
theorem YV (s:ByteArray) (c:UInt8) (w:World) (hs:s.size<=140737488355328):
  Calls Tryz.prog 153 #[.string s,.string ⟨#[c]⟩] w (Aij w (Ak c s.toList).1 (Ak c s.toList).2.1 (Ak c s.toList).2.2):=by
 have hsz:=H0 (Aa s)
 rcases SE c s.toList with ⟨h1,h2⟩ | ⟨i,h1,hi,h2⟩
 ·have hix:=H0 (fun w=>Tryz.stringslite_Index_one s c w)
  rw [<-ByteArray.toList_eq,h1] at hix;rw [h2];replace h2:=H0 h2;replace h1:=H0 h1;go_enter Tryz.func153,Tryz.ntmps153;go_wp2_with (go_at_call 221;refine (hix.out _).mono ?_;rintro e w' ⟨rfl,rfl⟩);go_ret3;exact ⟨s,⟨#[]⟩,0,rfl,H0 rfl,H0 (toList_mk []),rfl⟩
 ·have hix:=H0 (fun w=>Tryz.stringslite_Index_one s c w)
  rw [<-ByteArray.toList_eq,h1] at hix
  have hle:i+1<=s.size:=by have:=hsz.out;omega
  have mixed:Tryz.prog.follows .mixedOrders=true:=Qb;have c0:(0:Int)<=(i:Int)+1:=Qa;have c1:(i:Int)<=(s.size:Int):=Qa;have c2:(i:Int)+1<=(s.size:Int):=Qa;have c3:IntKind.i64.wrap ((i:Int)+1)=(i:Int)+1:=IntWalk.i64_in _ Qa
  have hA:Hid ((s.extract 0 i).toList=s.toList.take i):=H0 (by rw [toList_extract];rfl)
  have hB:Hid ((s.extract (i+1) s.size).toList=s.toList.drop (i+1)):=H0 (by rw [Hh])
  rw [h2];replace h2:=H0 h2;replace h1:=H0 h1;replace hi:=H0 hi;go_enter Tryz.func153,Tryz.ntmps153;go_wp2_with (go_at_call 221;refine (hix.out _).mono ?_;rintro e w' ⟨rfl,rfl⟩);go_region_o;go_wp2_with fail;go_ret3;exact ⟨_,_,1,rfl,hA,hB,rfl⟩
theorem Xb (s:ByteArray) (c:UInt8) (w:World) (hs:s.size<=140737488355328):
  Calls Tryz.prog 87 #[.string s,.string ⟨#[c]⟩] w (Aij w (Ak c s.toList).1 (Ak c s.toList).2.1 (Ak c s.toList).2.2):=by
 have hc:=H0 (fun w=>YV s c w hs)
 go_enter Tryz.func87,Tryz.ntmps87;go_wp2_with (go_at_call 153;refine (hc.out _).mono ?_;rintro e w' ⟨ta,tb,n,rfl,h1,h2,rfl⟩);go_ret3;exact ⟨ta,tb,n,rfl,h1,h2,rfl⟩
theorem WV (s:ByteArray) (pos:Nat) (h:pos<s.size) (ha:128<=(s[pos]'h).toNat):pos+(Utf8.decode s pos).2<=s.size/\∀ j (hj:pos+j<s.size),j<(Utf8.decode s pos).2->128<=(s[pos+j]'hj).toNat:=by
  have hn:¬ (s[pos]'h).toNat<128:=Qa
  have hget:∀ k (hk:pos+k<s.size),s.get! (pos+k)=s[pos+k]'hk:=fun k hk=>by
    simp [ByteArray.get!,getElem!_pos,hk];rfl
  have key:∀ n,(∀ k,1<=k->k<n->(pos+k<s.size/\(s.get! (pos+k)).toNat / 64=2))->1<=n->pos+n<=s.size/\∀ j (hj:pos+j<s.size),j<n->128<=(s[pos+j]'hj).toNat:=by
    intro n hk h1;refine ⟨?_,?_⟩
    · by_cases e:n=1
      · omega
      · have:=(hk (n - 1) Qa Qa).1;omega
    · intro j hj hjn
      by_cases e:j=0
      · subst e;exact ha
      · have:=(hk j Qa hjn).2
        rw [hget j hj] at this;omega
  simp only [Utf8.decode,get_at s pos h,hn,if_false]
  repeat' split
  all_goals
    refine key _ ?_ Qf;intro k k1 k2
    first
      | omega
      | (rename_i hc _
         simp only [Bool.and_eq_true,decide_eq_true_eq,beq_iff_eq] at hc
         have:k=1\/k=2\/k=3:=Qa
         rcases this with rfl | rfl | rfl<;>first | omega | simp_all)
theorem Ly {B k:Nat} {a w:World} (h:Below B a w) (hk:B<=k) (s:ByteArray) (p:Nat):Below B a (w.iterAt k s p):=
 ⟨h.os,h.tape,h.output,AgU,fun j hj=>by
  simp only [World.iterAt];rw [Array.getElem?_setIfInBounds_ne Qa]
  exact h.block j hj⟩
theorem SQ (w:World):
  Calls Tryz.prog 314 #[.string ⟨#[101,69]⟩,.int .i32 65533] w fun e w'=>e= .returned (.int .i64 (-1))/\Below w.heap.size w w':=by
 go_enter Tryz.func314,Tryz.ntmps314;go_wp2_with fail
 go_loopg [5,6] 2 (fun g _ _ wx=>∃ i:Nat,i+g=2/\wx=w.iter ⟨#[101,69]⟩ i)
 case atStart=>exact ⟨0,rfl,rfl⟩
 case round=>
  obtain ⟨i,hig,rfl⟩:=hrel
  cases gk with
  | zero=>
   obtain rfl:i=2:=Qa
   have hnx:=fun ty=>run_next_end (P:=Tryz.prog) w ⟨#[101,69]⟩ 2 ty Qc
   go_wp2_with fail;go_ret;exact ⟨rfl,(Below.refl _ _).alloc (Nat.le_refl _) _⟩
  | succ g=>
   have hi:i=0\/i=1:=Qa
   rcases hi with rfl | rfl
   ·have hnx:∀ ty,(Instr.next (.pointer (some ⟨w.heap.size,0,none⟩)) true ty).run Tryz.prog (w.iter ⟨#[101,69]⟩ 0)= .ok (.tuple #[.bool true,.int .i64 0,.int .i32 101]) (w.iter ⟨#[101,69]⟩ 1):=fun ty=>run_next_ascii (P:=Tryz.prog) w ⟨#[101,69]⟩ 0 ty Qc Qc
    go_wp2_with fail;go_roundg g
    case measure=>omega
    case rel=>exact ⟨1,Qa,rfl⟩
   ·have hnx:∀ ty,(Instr.next (.pointer (some ⟨w.heap.size,0,none⟩)) true ty).run Tryz.prog (w.iter ⟨#[101,69]⟩ 1)= .ok (.tuple #[.bool true,.int .i64 1,.int .i32 69]) (w.iter ⟨#[101,69]⟩ 2):=fun ty=>run_next_ascii (P:=Tryz.prog) w ⟨#[101,69]⟩ 1 ty Qc Qc
    go_wp2_with fail;go_roundg g
    case measure=>omega
    case rel=>exact ⟨2,Qa,rfl⟩
theorem SM (r:Int) (w:World) (h0:128<=r) (h1:r<=2147483647) (hv:Lib.validRune r=false):
  Calls Tryz.prog 314 #[.string ⟨#[101,69]⟩,.int .i32 r] w fun e w'=>e= .returned (.int .i64 (-1))/\Below w.heap.size w w':=by
 have hne:(r==65533)=false:=by
  simp only [beq_eq_false_iff_ne,ne_eq];rintro rfl;exact absurd hv Qc
 have hva:=H0 (fun w=>Tryz.utf8_ValidRune r w)
 rw [hv] at hva;replace hv:=H0 hv;go_enter Tryz.func314,Tryz.ntmps314;go_wp2_with (go_at_call 331;refine (hva.out _).mono ?_;rintro e w' ⟨rfl,rfl⟩);go_ret;exact ⟨rfl,Below.refl _ _⟩
theorem Pc (r:Int) (w:World) (h0:128<=r) (h1:r<=2147483647) (hv:Lib.validRune r=true) (hne:(r==65533)=false):
  Calls Tryz.prog 314 #[.string ⟨#[101,69]⟩,.int .i32 r] w fun e w'=>e= .returned (.int .i64 (-1))/\Below w.heap.size w w':=by
 have hval:Utf8.valid r=true:=by
  unfold Lib.validRune at hv;have:=of_decide_eq_true hv;unfold Utf8.valid;simp only [Bool.or_eq_true,Bool.and_eq_true,decide_eq_true_eq];omega
 obtain ⟨z2,z4,zl⟩:=encode_facts r hval h0
 have hva:=H0 (fun w=>Tryz.utf8_ValidRune r w)
 rw [hv] at hva
 have henc:∀ w,(convert 21 9 (.int .i32 r)).run Tryz.prog w= .ok (.string (Utf8.encode r)) w:=fun w=>run_convert_int_string w _ _ _ r (by rw [Tryz.underlying21];rfl) Tryz.underlying9
 generalize Utf8.encode r=rs at z2 z4 zl henc;replace hv:=H0 hv;replace hval:=H0 hval;go_enter Tryz.func314,Tryz.ntmps314;go_wp2_with (go_at_call 331;refine (hva.out _).mono ?_;rintro e wz ⟨rfl,rfl⟩)
 by_cases hz:rs.size=2
 ·obtain ⟨x,hx⟩:=N2 (rs[1]' Qa)
  have hx8:128<=x.toNat:=by
   have:=zl Qa;simp only [hz] at this;rw [<-hx];exact this
  have hI:(rs.size:Int)=2:=Qa;have h1s:1<rs.size:=Qa
  have hxn:(((⟨#[101,69]⟩:ByteArray)[1]' Qc).toNat==x.toNat)=false:=by
   have e:((⟨#[101,69]⟩:ByteArray)[1]' Qc).toNat=69:=rfl;rw [e];simp only [beq_eq_false_iff_ne,ne_eq];omega
  have hxn2:((((⟨#[101,69]⟩:ByteArray)[1]' Qc).toNat:Int)==(x.toNat:Int))=false:=by
   have e:((⟨#[101,69]⟩:ByteArray)[1]' Qc).toNat=69:=rfl;rw [e];simp only [beq_eq_false_iff_ne,ne_eq];omega
  have mixed:Tryz.prog.follows .mixedOrders=true:=Qb;have hw2:IntKind.i64.wrap 2=2:=Qc
  have hexx:(⟨#[101,69]⟩:ByteArray).extract 2 2=⟨#[]⟩:=by apply Bb;rw [toList_extract];rw [show (⟨#[101,69]⟩:ByteArray).toList=[101,69] from toList_mk [101,69]];exact (toList_mk []).symm
  have hib:Hid (∀ w,Calls Tryz.prog 47 #[.string ⟨#[]⟩,.int .u8 (x.toNat:Int)] w fun e w'=>e= .returned (.int .i64 (-1))/\w'=w):=H0 (fun w=>Tryz.strings_IndexByte ⟨#[]⟩ (x.toNat:Int) w)
  replace zl:=H0 zl;go_step3;go_wp2_with fail
  go_loopg [9] 0 (fun g iv wx=>iv= .int .i64 1/\wx=wz)
  case atStart=>exact ⟨rfl,rfl⟩
  case round=>
   obtain ⟨rfl,rfl⟩:=hrel;go_wp2_with fail;go_step3;go_wp2_with fail;go_region_o;go_wp2_with fail;refine wp_region_noPanic ?_
   refine wp_region_held_drew (S:=fun w'=>w'=wr.drew.drew) Qb (rfl) (fun hHeld=> ?_)
   refine wpAnyH_take (i:=0) (v:= ?_) rfl Qb Qb Qb (fun _ _ _ h=>h) (Or.inl ⟨Qt,?_⟩) hHeld ?_
   rotate_left
   ·intro w hSw;(try dsimp only at hSw);go_simp;try with_reducible rfl
   try simp only [P3]
   refine wpAnyH_take (i:=1) (v:= ?_) rfl Qb Qb Qb (fun _ _ _ h=>h) (Or.inl ⟨Qt,?_⟩) hHeld ?_
   rotate_left
   ·intro w hSw;(try dsimp only at hSw);go_simp;try with_reducible rfl
   try simp only [P3]
   refine wpAnyH_take (i:=2) (v:= ?_) rfl Qb Qb Qb (fun _ _ _ h=>h) (Or.inl ⟨Qt,?_⟩) hHeld ?_
   rotate_left
   ·intro w hSw;(try dsimp only at hSw);go_simp;try with_reducible rfl
   try simp only [P3]
   refine wpAnyH_take (i:=3) (v:= ?_) rfl Qb Qb Qb (fun _ _ _ h=>h) (Or.inl ⟨Qt,?_⟩) hHeld ?_
   rotate_left
   ·intro w hSw;(try dsimp only at hSw);go_simp;try with_reducible rfl
   try simp only [P3]
   refine wpAnyH_take (i:=4) (v:= ?_) rfl Qb Qb Qb (fun _ _ _ h=>h) (Or.inl ⟨Qt,?_⟩) hHeld ?_
   rotate_left
   ·intro w hSw;(try dsimp only at hSw);go_simp;try with_reducible rfl
   try simp only [P3]
   refine wpAnyH_take (i:=5) (v:= ?_) rfl Qb Qb Qb (fun _ _ _ h=>h) (Or.inl ⟨Qt,?_⟩) hHeld ?_
   rotate_left
   ·intro w hSw;(try dsimp only at hSw);go_simp;try with_reducible rfl
   try simp only [P3]
   refine wpAnyH_take (i:=6) (v:= ?_) rfl Qb Qb Qb (fun _ _ _ h=>h) (Or.inl ⟨Qt,?_⟩) hHeld ?_
   rotate_left
   ·intro w hSw;(try dsimp only at hSw);go_simp;try with_reducible rfl
   try simp only [P3]
   refine wpAnyH_ready (rs:=[7]) Qb Qf ?_
   refine AllReadyH.cons rfl (fun K hK=> ?_) AllReadyH.nil
   go_simp;refine (hib.out _).mono ?_;rintro e wz ⟨rfl,rfl⟩;go_wp2_with fail
   refine hK.out _ _ (rfl) (fun hHeld=> ?_)
   clear hK K
   try simp only [P3]
   refine wpAnyH_take (i:=8) (v:= ?_) rfl Qb Qb Qb (fun _ _ _ h=>h) (Or.inl ⟨Qt,?_⟩) hHeld ?_
   rotate_left
   ·intro w hSw;(try dsimp only at hSw);go_simp;try with_reducible rfl
   try simp only [P3]
   refine wpAnyH_done Qb ?_ _;refine NoPanic.normal ?_;go_wp2_with fail;go_ret;exact ⟨rfl,(Below.refl _ _).drew.drew⟩
 ·have h3:3<=rs.size:=Qa;have hI:(2:Int)<=(rs.size:Int) - 1:=Qa;have hw:IntKind.i64.wrap ((rs.size:Int) - 1)=(rs.size:Int) - 1:=IntWalk.i64_in _ Qa;replace zl:=H0 zl;go_step3;go_wp2_with fail
  go_loopg [9] 0 (fun g iv wx=>iv= .int .i64 ((rs.size:Int) - 1)/\wx=wz)
  case atStart=>exact ⟨rfl,rfl⟩
  case round=>
   obtain ⟨rfl,rfl⟩:=hrel;go_wp2_with fail;rw [Exit.noGoto_ret];go_ret;exact ⟨rfl,Below.refl _ _⟩
theorem Sj (r:Int) (w:World) (h0:128<=r) (h1:r<=2147483647):
  Calls Tryz.prog 314 #[.string ⟨#[101,69]⟩,.int .i32 r] w fun e w'=>e= .returned (.int .i64 (-1))/\Below w.heap.size w w':=by
 cases hv:Lib.validRune r
 ·exact SM r w h0 h1 hv
 ·cases hne:(r==65533)
  ·exact Pc r w h0 h1 hv hne
  ·obtain rfl:r=65533:=by simpa using hne
   exact SQ w
def Zv:List UInt8:=[101,69]
theorem Aag {l:List UInt8} {i n:Nat} (h:Lib.NoAny l Zv i) (hk:∀ j,j<n->∀ b,l[i+j]? =some b->128<=b.toNat):Lib.NoAny l Zv (i+n):=fun j b hj hb=>by
 by_cases e:j<i
 ·exact h j b e hb
 ·have h8:=hk (j - i) Qa b (by rw [show i+(j - i)=j by omega];exact hb)
  simp only [Zv,List.contains_cons,List.contains_nil,Bool.or_false,Bool.or_eq_false_iff,beq_eq_false_iff_ne,ne_eq]
  constructor<;>(rintro rfl;revert h8;decide)
theorem PD (s:ByteArray) (w:World) (h8:s.size<=8):
  Calls Tryz.prog 315 #[.string s,.string ⟨#[101,69]⟩] w fun e w'=>e= .returned (.int .i64 (Lib.indexAny s.data.toList Zv))/\Below w.heap.size w w':=by
 have h8z:decide ((8:Int)<(s.size:Int))=false:=decide_eq_false Qa
 have hsa:Hid (∀ w,Calls Tryz.prog 332 #[.int .i64 (s.size:Int)] w fun e w'=>e= .returned (.bool false)/\w'=w):=H0 (fun w=>by have:=Tryz.strings_shouldUseASCIISet (s.size:Int) w;rw [h8z] at this;exact this)
 clear h8z;have h8I:(s.size:Int)<=8:=Qa;go_enter Tryz.func315,Tryz.ntmps315;go_wp2_with (go_at_call 332;refine (hsa.out _).mono ?_;rintro e wz ⟨rfl,rfl⟩)
 go_loopg [9,10] s.size (fun g _ _ wx=>∃ i:Nat,i+g=s.size/\wx.heap[wz.heap.size]? =some (.stringIter s i)/\Below wz.heap.size wz wx/\Lib.NoAny s.data.toList Zv i)
 case atStart=>exact ⟨0,Qa,World.iter_heap _ _ _,(Below.refl _ _).alloc (Nat.le_refl _) _,Lib.NoAny.zero _ _⟩
 case round=>
  obtain ⟨i,hig,hk,hbel,hno⟩:=hrel;have HN:=H0 hno;clear hno
  by_cases hi:i<s.size
  ·obtain ⟨x,hx⟩:∃ x:UInt8,s[i]'hi=x:=⟨_,rfl⟩
   have hxl:=H0 (show s.data.toList[i]? =some x by rw [<-hx];exact Lib.data_getElem? s i hi)
   by_cases h128:x.toNat<128
   ·have hnx:=fun ty=>Lib.run_next_ascii_at (P:=Tryz.prog) wr wz.heap.size s i ty hk hi (by rw [hx];exact h128)
    rw [hx] at hnx;have hk2:=H0 (Lib.iterAt_heap wr wz.heap.size s i (i+1) hk);have hb2:=H0 (Ly hbel (Nat.le_refl _) s (i+1));replace hx:=H0 hx;have hcon:=Lib.contains_iff_indexByte Zv x;have hback:((x.toNat:Int)).toNat.toUInt8=x:=Qf
    have hir:=H0 (fun w=>Tryz.strings_IndexRune_ascii ⟨#[101,69]⟩ (x.toNat:Int) w Qa Qa)
    rw [hback] at hir;replace hback:=H0 hback
    replace hir:Hid (∀ w,Calls Tryz.prog 314 #[.string ⟨#[101,69]⟩,.int .i32 (x.toNat:Int)] w fun e w'=>e= .returned (.int .i64 (Lib.indexByte Zv x))/\w'=w):=hir
    generalize Lib.indexByte Zv x=q at hcon hir;cases hin:Zv.contains x
    ·rw [hin] at hcon
     have hlt:q<0:=by have:=of_decide_eq_false hcon.symm;omega
     clear hcon;replace hin:=H0 hin;go_wp2_with (go_at_call 314;refine (hir.out _).mono ?_;rintro e wy ⟨rfl,rfl⟩);go_roundg (s.size - (i+1))
     case measure=>omega
     case rel=>exact ⟨i+1,Qa,hk2.out,hb2.out,HN.out.succ hxl.out hin.out⟩
    ·rw [hin] at hcon;have hge:0<=q:=of_decide_eq_true hcon.symm;clear hcon;replace hin:=H0 hin;go_wp2_with (go_at_call 314;refine (hir.out _).mono ?_;rintro e wy ⟨rfl,rfl⟩);go_ret
     exact ⟨by rw [Lib.indexAny_hit HN.out hxl.out hin.out];rfl,hb2.out⟩
   ·have hxx:128<=(s[i]'hi).toNat:=by rw [hx];omega
    have hd:=decode_high s i hi hxx;have hle:=decode_le s i;obtain ⟨hz,hsk⟩:=WV s i hi hxx
    have hnx:=fun ty=>Lib.run_next_any_at (P:=Tryz.prog) wr wz.heap.size s i ty hk hi
    have hnew:=H0 (Aag (n:=(Utf8.decode s i).2) HN.out (fun j hj b hb=>by
     have hlt:i+j<s.size:=Qa;have:=Lib.data_getElem? s (i+j) hlt;rw [this] at hb
     rw [<-Option.some.inj hb];exact hsk j hlt hj))
    clear hsk;generalize hr:(Utf8.decode s i).1=r at hd hle hnx;generalize hn:(Utf8.decode s i).2=n at hd hz hnx hnew;replace hr:=H0 hr;replace hn:=H0 hn;have hk2:=Lib.iterAt_heap wr wz.heap.size s i (i+n) hk;have hb2:=H0 (Ly hbel (Nat.le_refl _) s (i+n))
    have hir:=H0 (fun w=>Sj (r:Int) w Qa Qa)
    replace hd:=H0 hd;replace hle:=H0 hle;replace hk2:=H0 hk2;clear hxx h128;go_wp2_with (go_at_call 314;refine (hir.out _).mono ?_;rintro e wy ⟨rfl,hby⟩);go_roundg (s.size - (i+n))
    case measure=>have:=hd.out;omega
    case rel=>
     have hlt:wz.heap.size<(wr.iterAt wz.heap.size s (i+n)).heap.size:=(Array.getElem?_eq_some_iff.1 hk2.out).1
     exact ⟨i+n,Qa,by rw [hby.block _ hlt];exact hk2.out,hb2.out.trans (hby.mono (Nat.le_of_lt hlt)),hnew.out⟩
  ·obtain rfl:i=s.size:=Qa
   have hnx:=fun ty=>Lib.run_next_end_at (P:=Tryz.prog) wr wz.heap.size s s.size ty hk hi
   go_wp2_with fail;go_ret;exact ⟨AgW,hbel⟩
theorem Sp (s:ByteArray) (w:World) (h8:8<s.size) (hs:s.size<=140737488355328):
  Calls Tryz.prog 315 #[.string s,.string ⟨#[101,69]⟩] w fun e w'=>e= .returned (.int .i64 (Lib.indexAny s.data.toList Zv))/\Below w.heap.size w w':=by
 have hz116:=zero_of_info (P:=Tryz.prog) (t:=206) (v:= .agg (Array.replicate 256 (.bool false))) (n:=256) Qb;have h8z:decide ((8:Int)<(s.size:Int))=true:=decide_eq_true Qa
 have hsa:Hid (∀ w,Calls Tryz.prog 332 #[.int .i64 (s.size:Int)] w fun e w'=>e= .returned (.bool true)/\w'=w):=H0 (fun w=>by have:=Tryz.strings_shouldUseASCIISet (s.size:Int) w;rw [h8z] at this;exact this)
 clear h8z;obtain ⟨set,hset⟩:∃ c,Lib.setCells Zv=c:=⟨_,rfl⟩
 have hM:Hid (∀ w,Calls Tryz.prog 238 #[.string ⟨#[101,69]⟩] w fun e w'=>e= .returned (.tuple #[.agg set,.bool true])/\w'=w.alloc (.cells set 206)):=H0 (fun w=>by
  rw [<-hset]
  exact Tryz.strings_makeASCIISet hz116.1 ⟨#[101,69]⟩ w Qc (fun j b hb=>by
   have:b∈([101,69]:List UInt8):=List.mem_of_getElem? hb;simp at this
   rcases this with rfl | rfl<;>decide))
 have hsz:set.size=256:=by rw [<-hset];exact Lib.setCells_size _
 have h1c:set.all (·.oneCell')=true:=by rw [<-hset];exact Lib.setCells_one _
 have hat:∀ x:UInt8,set[x.toNat]? =some (.bool (Zv.contains x)):=fun x=>by rw [<-hset];exact Lib.setCells_at _ x
 have hsc:(storeCells ⟨w.heap.size+1,0,none⟩ set.toList 0).run Tryz.prog ((w.alloc (.cells set 206)).alloc (.cells (Array.replicate 256 (.bool false)) 206))= .ok () ((w.alloc (.cells set 206)).alloc (.cells set 206)):=by
  have:=run_storeCells_new (P:=Tryz.prog) (w.alloc (.cells set 206)) 206 (Array.replicate 256 (.bool false)) set (by rw [hsz];exact hz116.2) (by rw [hsz,Array.size_replicate]) h1c
  simpa using this
 have hv:=hz116.1
 have HC:Hid (∀ x:UInt8,((w.alloc (.cells set 206)).alloc (.cells set 206)).cell? ⟨w.heap.size+1,x.toNat,none⟩=some (.bool (Zv.contains x))):=H0 (fun x=>by
  rw [World.cell?_alloc_at _ _ _ _ Qf,hat])
 have hbW:Below w.heap.size w ((w.alloc (.cells set 206)).alloc (.cells set 206)):=((Below.refl _ _).alloc (Nat.le_refl _) _).alloc Qf _;replace hat:=H0 hat;replace hset:=H0 hset;replace h1c:=H0 h1c;replace hz116:=H0 hz116;go_enter Tryz.func315,Tryz.ntmps315
 go_wp2_with (first
  | (go_at_call 332;refine (hsa.out _).mono ?_;rintro e wz ⟨rfl,rfl⟩)
  | (go_at_call 238;refine (hM.out _).mono ?_;rintro e wz ⟨rfl,rfl⟩))
 generalize (wz.alloc (.cells set 206)).alloc (.cells set 206)=W2 at HC hbW⊢;clear hsc hv
 go_loopg [8] s.size (fun g s8 wx=>∃ i:Nat,i+g=s.size/\s8= .int .i64 i/\wx=W2/\Hid (Lib.NoAny s.data.toList Zv i))
 case atStart=>exact ⟨0,Qa,rfl,rfl,H0 (Lib.NoAny.zero _ _)⟩
 case round=>
  obtain ⟨i,hig,rfl,rfl,HN⟩:=hrel
  by_cases hi:i<s.size
  ·have hiz:(i:Int)<(s.size:Int):=Qa;obtain ⟨x,hx⟩:∃ x:UInt8,s[i]'hi=x:=⟨_,rfl⟩
   have hxl:=H0 (show s.data.toList[i]? =some x by rw [<-hx];exact Lib.data_getElem? s i hi)
   have hcx:=HC.out x;have hwr:IntKind.i64.wrap ((i:Int)+1)=(i:Int)+1:=IntWalk.i64_in _ Qa;cases hin:Zv.contains x
   all_goals
    rw [hin] at hcx;have hct:=H0 (Tryz.asciiSet_contains _ x _ _ hcx);replace hin:=H0 hin;clear hcx
   ·go_wp2_with (go_at_call 289;refine hct.out.mono ?_;rintro e wy ⟨rfl,rfl⟩);go_roundg (s.size - (i+1))
    case measure=>omega
    case rel=>exact ⟨i+1,Qa,Ql,rfl,H0 (HN.out.succ hxl.out hin.out)⟩
   ·go_wp2_with (go_at_call 289;refine hct.out.mono ?_;rintro e wy ⟨rfl,rfl⟩);go_ret
    exact ⟨by rw [Lib.indexAny_hit HN.out hxl.out hin.out];rfl,hbW⟩
  ·obtain rfl:i=s.size:=Qa;have hiz:¬ ((s.size:Int)<(s.size:Int)):=Qa;go_wp2_with fail;go_ret;exact ⟨AgW,hbW⟩
theorem Afn (s:ByteArray) (hs:s.size<=140737488355328):AjT s:=by
 intro w
 by_cases h:s.size<=8
 ·refine (PD s w h).mono ?_;rintro e w' ⟨rfl,hb⟩
  exact ⟨by rw [ByteArray.toList_eq];rfl,hb⟩
 ·refine (Sp s w Qa hs).mono ?_;rintro e w' ⟨rfl,hb⟩
  exact ⟨by rw [ByteArray.toList_eq];rfl,hb⟩
end Go.Proofs.YtonomfeipkdmhaaGreatDoor
