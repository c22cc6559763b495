/- Part 2: lemmas. -/
import Derived.Test.YtonomfeipkdmhaaGreatDoorK01
import Derived.KernelRfl
import Derived.Lib.SplitLaws
set_option linter.unusedVariables false
set_option linter.unusedSimpArgs false
set_option maxRecDepth 100000
set_option maxHeartbeats 16000000
namespace Go.Proofs.YtonomfeipkdmhaaGreatDoor
open Go.RowKit
def ML (w:World):Prop:=∃ m,w.cell? ⟨0,0,none⟩=some (.int .i64 m)
theorem ML.next {w w':World} (h:ML w) (hb:Below w.heap.size w w'):ML w':=by
 obtain ⟨m,hm⟩:=h;have:=World.block_lt_of_cell? w _ hm
 exact ⟨m,(hb.cell (by simpa using this)).trans hm⟩
theorem ML.alloc {w:World} (h:ML w) (o:Obj):ML (w.alloc o):=h.next ((Below.refl _ _).alloc (Nat.le_refl _) o)
theorem ML.drewN {w:World} (h:ML w) (n:Nat):ML (w.drewN n):=h.next (below_drewN (Below.refl _ _) n)
def Af (c:UInt8):List UInt8->List UInt8 × List UInt8 × Bool
 | []=>([],[],false)
 | d :: r=>if d=c then ([],r,true) else (d :: (Af c r).1,(Af c r).2.1,(Af c r).2.2)
theorem Z8 (c:UInt8) (l:List UInt8):Lib.index l [c]=Lib.indexByte l c:=by
 induction l with
 | nil=>rfl
 | cons d r ih=>
  unfold Lib.index Lib.indexByte;rw [ih]
  by_cases h:d=c
  ·simp [List.isPrefixOf,h]
  ·simp [List.isPrefixOf,h,Ne.symm h]
theorem AeL (c:UInt8) (l:List UInt8):Lib.cut l [c]=Af c l:=by
 unfold Lib.cut;rw [Z8]
 induction l with
 | nil=>rfl
 | cons d r ih=>
  unfold Lib.indexByte Af
  by_cases h:d=c
  ·simp [h]
  ·have hg:=Lib.indexByte_ge r c;rw [<-ih]
   by_cases h1:Lib.indexByte r c= -1
   ·simp [h,h1]
   ·have h0:0<=Lib.indexByte r c:=by omega
    have e:(Lib.indexByte r c+1).toNat=(Lib.indexByte r c).toNat+1:=by omega
    have e2:0<=Lib.indexByte r c+1:=by omega
    simp [h,h1,h0,e,e2]
def AfA (w:World) (a b:List UInt8) (f:Bool) (e:Ending) (w':World):Prop:=
 ∃ (ta tb:ByteArray) (n:Nat),e= .returned (.tuple #[.string ta,.string tb,.bool f])/\Hid (ta.toList=a)/\Hid (tb.toList=b)/\w'=w.drewN n
theorem Gd (s:ByteArray) (c:UInt8) (w:World) (h:ML w) (hs:s.size<4294967281):
  Calls Tryz.prog 87 #[.string s,.string ⟨#[c]⟩] w (AfA w (Af c s.toList).1 (Af c s.toList).2.1 (Af c s.toList).2.2):=by
 obtain ⟨m,hm⟩:=h;refine (Tryz.strings_Cut s ⟨#[c]⟩ m w hs hm).mono ?_;rintro e w' ⟨rfl,n,rfl⟩
 have e1:Lib.cut s.data.toList [c]=Af c s.toList:=by rw [AeL,ByteArray.toList_eq]
 simp only [e1];exact ⟨_,_,n,rfl,toList_mk _,toList_mk _,rfl⟩
theorem Jz (c:UInt8) (l:List UInt8):l=(Af c l).1++(if (Af c l).2.2 then c :: (Af c l).2.1 else []):=by
 induction l with
 | nil=>rfl
 | cons d r ih=>
  unfold Af
  by_cases h:d=c
  ·simp [h]
  ·simp only [h,if_false,List.cons_append];rw [<-ih]
theorem MN (c:UInt8) (l:List UInt8) (h:(Af c l).2.2=false):(Af c l).1=l/\(Af c l).2.1=[]:=by
 induction l with
 | nil=>exact ⟨rfl,rfl⟩
 | cons d r ih=>
  unfold Af at h⊢
  by_cases hd:d=c
  ·simp [hd] at h
  ·simp only [hd,if_false] at h⊢
   exact ⟨by rw [(ih h).1],(ih h).2⟩
theorem AbJ {c:UInt8} (a b:List UInt8) (h:∀ d∈a,d≠c):Af c (a++c :: b)=(a,b,true):=by
 induction a with
 | nil=>simp [Af]
 | cons d r ih=>
  rw [List.cons_append];unfold Af
  rw [if_neg (h d (by simp)),ih (fun x hx=>h x (by simp [hx]))]
theorem Uh {c:UInt8} (a:List UInt8) (h:∀ d∈a,d≠c):Af c a=(a,[],false):=by
 induction a with
 | nil=>rfl
 | cons d r ih=>
  unfold Af
  rw [if_neg (h d (by simp)),ih (fun x hx=>h x (by simp [hx]))]
theorem Cc (c:UInt8) (l:List UInt8):(Af c l).1.length+(Af c l).2.1.length<=l.length:=by
 have:=congrArg List.length (Jz c l);rw [List.length_append] at this;cases h:(Af c l).2.2
 ·rw [(MN c l h).2];simp;omega
 ·simp [h] at this;omega
def Ub:List (List UInt8 × List UInt8):=[
 ([97,109,112],[38]),([65,77,80],[38]),([108,116],[60]),([76,84],[60]),([103,116],[62]),([71,84],[62]),
 ([113,117,111,116],[34]),([81,85,79,84],[34]),([110,98,115,112],[194,160]),([115,104,121],[194,173]),([110,111,116],[194,172]),
 ([114,101,103],[194,174]),([99,111,112,121],[194,169]),([112,97,114,97],[194,182]),([115,101,99,116],[194,167]),([121,101,110],[194,165]),
 ([100,101,103],[194,176]),([116,105,109,101,115],[195,151]),([101,97,99,117,116,101],[195,169]),([111,117,109,108],[195,182]),([115,122,108,105,103],[195,159])]
def DL:List (List UInt8 × List UInt8):=[
 ([97,112,111,115],[0x27]),([99,111,108,111,110],[0x3a]),([115,111,108],[0x2f]),([98,115,111,108],[0x5c]),
 ([113,117,101,115,116],[0x3f]),([110,117,109],[0x23]),([112,101,114,99,110,116],[0x25]),([99,111,109,109,97,116],[0x40]),
 ([101,113,117,97,108,115],[0x3d]),([112,108,117,115],[0x2b]),([99,111,109,109,97],[0x2c]),([112,101,114,105,111,100],[0x2e]),
 ([115,101,109,105],[0x3b]),([101,120,99,108],[0x21]),([100,111,108,108,97,114],[0x24]),([97,115,116],[0x2a]),
 ([108,111,119,98,97,114],[0x5f]),([103,114,97,118,101],[0x60]),([72,97,116],[0x5e]),([108,112,97,114],[0x28]),
 ([114,112,97,114],[0x29]),([108,115,113,98],[0x5b]),([114,115,113,98],[0x5d]),([108,99,117,98],[0x7b]),
 ([114,99,117,98],[0x7d]),([118,101,114,98,97,114],[0x7c]),([84,97,98],[9]),([78,101,119,76,105,110,101],[10])]
def RY:List (List UInt8 × List UInt8):=[
 ([110,111,116,105,110],[226,136,137]),([110,118,108,116],[60,226,131,146]),([110,118,103,116],[62,226,131,146]),([122,119,110,106],[226,128,140]),
 ([122,119,106],[226,128,141]),([90,101,114,111,87,105,100,116,104,83,112,97,99,101],[226,128,139]),([78,111,66,114,101,97,107],[226,129,160]),
 ([102,106,108,105,103],[102,106]),([99,111,112,121,115,114],[226,132,151]),([116,105,109,101,115,98,97,114],[226,168,177])]
def C9 (t:List (List UInt8 × List UInt8)) (s:List UInt8):Option (List UInt8):=(t.find? fun p=>p.1==s).map (·.2)
def Cw (s:List UInt8):Option (List UInt8):=C9 Ub s
def Bv (s:List UInt8):Option (List UInt8):=match C9 DL s with | some b=>some b | none=>C9 RY s
def Fk (s:List UInt8):Option (List UInt8):=
 if Lib.hasSuffix s [59]=true then (match Cw s.dropLast with | some t=>some t | none=>Bv s.dropLast) else Cw s
def UP:List Nat:=[0x20ac,0x81,0x201a,0x192,0x201e,0x2026,0x2020,0x2021,0x2c6,0x2030,0x160,0x2039,0x152,0x8d,0x17d,0x8f,0x90,0x2018,0x2019,0x201c,0x201d,0x2022,0x2013,0x2014,0x2dc,0x2122,0x161,0x203a,0x153,0x9d,0x17e,0x178]
def FS (n:Nat):Nat:=if 0x80<=n/\n<=0x9f then UP.getD (n - 0x80) 0 else n
def CO (n:Nat):List UInt8:=if n=0 then Bj 0xfffd else Bj (FS n)
def AQ (base:Nat):Nat->List UInt8->Nat × Nat
 | n,[]=>(n,0)
 | n,c :: r=>if Ah (c.toNat:Int) (base:Int)<0 then (n,0) else ((AQ base (min (n * base+(Ah (c.toNat:Int) (base:Int)).toNat) 0x110000) r).1,(AQ base (min (n * base+(Ah (c.toNat:Int) (base:Int)).toNat) 0x110000) r).2+1)
def isX:List UInt8->Bool
 | _ :: _ :: c :: _=>c==120 || c==88
 | _=>false
def DY (s:List UInt8):Nat:=if isX s=true then 16 else 10
def A4 (s:List UInt8):Nat:=if isX s=true then 3 else 2
def AZ (s:List UInt8):List UInt8 × Nat:=
 let r:=AQ (DY s) 0 (s.drop (A4 s))
 if r.2=0 then ([38],1)
 else (CO r.1,if (s.drop (A4 s+r.2)).head? =some 59 then A4 s+r.2+1 else A4 s+r.2)
def Kg (c:UInt8):Bool:=AU (c.toNat:Int) || decide (0<=Ah (c.toNat:Int) 10) || c==61
def E8 (s:List UInt8):Nat->List UInt8 × Nat
 | 0=>([38],1)
 | n+1=>match Fk ((s.drop 1).take (n+1)) with
  | none=>E8 s n
  | some t=>if (s.getD (n+1) 0 != 59 && decide (n+2<s.length) && Kg (s.getD (n+2) 0))=true then ([38],1) else (t,n+2)
def GW (s:List UInt8):List UInt8 × Nat:=if Lib.hasPrefix s [38,35]=true then AZ s else E8 s (min 15 (s.length - 1))
def I7:Nat->List UInt8->List UInt8
 | 0,_=>[]
 | f+1,l=>if (Af 38 l).2.2=true then (Af 38 l).1++((GW (38 :: (Af 38 l).2.1)).1++I7 f ((38 :: (Af 38 l).2.1).drop (GW (38 :: (Af 38 l).2.1)).2)) else l
def TH (l:List UInt8):List UInt8:=I7 (l.length+1) l
def HT (c:UInt8):List UInt8:=if c=38 then [38,97,109,112,59] else if c=34 then [38,35,51,52,59] else if c=39 then [38,35,51,57,59] else if c=60 then [38,35,54,48,59] else if c=62 then [38,35,54,50,59] else if c=96 then [38,35,57,54,59] else [c]
def Ce (l:List UInt8):List UInt8:=l.flatMap HT
theorem I0 (t:List (List UInt8 × List UInt8)) (ht:t.all (fun p=> !p.1.contains 59)=true) {s:List UInt8} (hs:(59:UInt8)∈s):C9 t s=none:=by
 unfold C9;rw [List.find?_eq_none.2,Option.map_none];intro p hp he;rw [beq_iff_eq] at he;have:=List.all_eq_true.1 ht p hp;rw [he] at this;simp [hs] at this
theorem Nw {s:List UInt8} (hs:(59:UInt8)∈s):Cw s=none:=I0 Ub (by decide+kernel) hs
theorem TC {s:List UInt8} (hs:(59:UInt8)∈s):Bv s=none:=by
 unfold Bv
 rw [I0 DL (by decide+kernel) hs]
 exact I0 RY (by decide+kernel) hs
theorem Te {s:List UInt8} {x:UInt8} (hs:(59:UInt8)∈s):Fk (s++[x])=none:=by
 unfold Fk;split
 ·rw [List.dropLast_concat,Nw hs];exact TC hs
 ·exact Nw (List.mem_append_left _ hs)
theorem Qm (r:List UInt8):∀ n,4<=n->n<=r.length+4->E8 (38 :: 97 :: 109 :: 112 :: 59 :: r) n=([38],5)
 | 0,h,_=>by omega
 | n+1,h,h2=>by
  by_cases e:n=3
  ·subst e;have e1:((38 :: 97 :: 109 :: 112 :: 59 :: r:List UInt8).drop 1).take (3+1)=[97,109,112,59]:=rfl;rw [E8,e1]
   have e2:Fk [97,109,112,59]=some [38]:=by decide+kernel
   rw [e2];dsimp only;rw [if_neg];show ¬ (((59:UInt8) != 59 && _ && _)=true);simp
  ·have hn:∃ x,((38 :: 97 :: 109 :: 112 :: 59 :: r:List UInt8).drop 1).take (n+1)=(97 :: 109 :: 112 :: 59 :: r.take (n - 4))++[x]:=by
    obtain ⟨k,rfl⟩:∃ k,n=k+4:=⟨n - 4,by omega⟩
    have hlt:k<r.length:=by omega
    refine ⟨r[k],?_⟩
    rw [show k+4 - 4=k by omega]
    show (97 :: 109 :: 112 :: 59 :: r).take (k+1+4)=_;rw [List.take_succ_cons,List.take_succ_cons,List.take_succ_cons,List.take_succ_cons,List.take_succ_eq_append_getElem hlt];simp
   obtain ⟨x,hx⟩:=hn
   rw [E8,hx,Te (by simp)]
   exact Qm r n (by omega) (by omega)
theorem Aef (r:List UInt8):GW ([38,97,109,112,59]++r)=([38],5):=by
 unfold GW
 rw [if_neg (by unfold Lib.hasPrefix;simp [List.isPrefixOf])]
 exact Qm r _ (by simp;omega) (by simp;omega)
theorem LY (a b:UInt8) (c:UInt8) (r:List UInt8) (h:(a,b,c)∈[((51:UInt8),(52:UInt8),(34:UInt8)),(51,57,39),(54,48,60),(54,50,62),(57,54,96)]):GW ([38,35,a,b,59]++r)=([c],5):=by
 unfold GW
 rw [if_pos (by unfold Lib.hasPrefix;simp [List.isPrefixOf])]
 simp only [List.mem_cons,Prod.mk.injEq,List.not_mem_nil,or_false] at h
 rcases h with ⟨rfl,rfl,rfl⟩ | ⟨rfl,rfl,rfl⟩ | ⟨rfl,rfl,rfl⟩ | ⟨rfl,rfl,rfl⟩ | ⟨rfl,rfl,rfl⟩
 all_goals kernel_rfl
theorem XG (f:Nat) (c:UInt8) (X:List UInt8) (h:c≠38):I7 (f+1) (c :: X)=c :: I7 (f+1) X:=by
 rw [I7,I7,Af,if_neg h];dsimp only
 split<;>rfl
theorem Acf (f:Nat) (Y:List UInt8):I7 (f+1) (38 :: Y)=(GW (38 :: Y)).1++I7 f ((38 :: Y).drop (GW (38 :: Y)).2):=by
 rw [I7,Af,if_pos rfl];dsimp only;rw [if_pos rfl,List.nil_append]
theorem AaK (c:UInt8):(c≠38/\HT c=[c])\/((HT c).length=5/\∃ q,HT c=38 :: q/\∀ r,GW (HT c++r)=([c],5)):=by
 unfold HT;split
 ·rename_i h;subst h;exact .inr ⟨rfl,_,rfl,Aef⟩
 split
 ·rename_i h;subst h;exact .inr ⟨rfl,_,rfl,fun r=>LY 51 52 34 r (by simp)⟩
 split
 ·rename_i h;subst h;exact .inr ⟨rfl,_,rfl,fun r=>LY 51 57 39 r (by simp)⟩
 split
 ·rename_i h;subst h;exact .inr ⟨rfl,_,rfl,fun r=>LY 54 48 60 r (by simp)⟩
 split
 ·rename_i h;subst h;exact .inr ⟨rfl,_,rfl,fun r=>LY 54 50 62 r (by simp)⟩
 split
 ·rename_i h;subst h;exact .inr ⟨rfl,_,rfl,fun r=>LY 57 54 96 r (by simp)⟩
 ·rename_i h _ _ _ _ _;exact .inl ⟨h,rfl⟩
theorem OR:∀ (l:List UInt8) (f:Nat),(Ce l).length<f->I7 f (Ce l)=l
 | [],f,h=>by
  cases f with
  | zero=>simp at h
  | succ f=>rfl
 | c :: r,f,h=>by
  have e:Ce (c :: r)=HT c++Ce r:=rfl;rw [e] at h⊢
  cases f with
  | zero=>simp at h
  | succ f=>
   rcases AaK c with ⟨h1,h2⟩ | ⟨h5,q,h1,h2⟩
   ·rw [h2] at h⊢
    rw [List.cons_append,List.nil_append,XG f c _ h1,OR r (f+1) (by simp at h;omega)]
   ·have hr:=h2 (Ce r)
    have hd:(HT c++Ce r).drop 5=Ce r:=by rw [<-h5,List.drop_left]
    have hc:HT c++Ce r=38 :: (q++Ce r):=by rw [h1];rfl
    rw [List.length_append,h5] at h;rw [hc] at hr hd⊢;rw [Acf,hr];dsimp only
    rw [hd,OR r f (by omega)];rfl
theorem Aeu (l:List UInt8):TH (Ce l)=l:=OR l _ (by omega)
theorem AcJ (c:UInt8):1<=(HT c).length/\(HT c).length<=5:=by
 unfold HT
 repeat' split
 all_goals simp
theorem Qh (l:List UInt8):l.length<=(Ce l).length/\(Ce l).length<=5 * l.length:=by
 induction l with
 | nil=>exact ⟨Nat.le_refl _,Nat.le_refl _⟩
 | cons c r ih=>
  have:=AcJ c
  show _<=(HT c++Ce r).length/\(HT c++Ce r).length<=_
  rw [List.length_append,List.length_cons];omega
def BB (j bias:Nat):Nat:=min (max (36 * (j+1) - bias) 1) 26
theorem Hv (j bias:Nat):1<=BB j bias/\BB j bias<=26:=by unfold BB;omega
def Dd:Nat->Nat->Nat->Nat
 | 0,d,k=>k+36 * d / (d+38)
 | f+1,d,k=>if 455<d then Dd f (d / 35) (k+36) else k+36 * d / (d+38)
def Ft (d:Nat) (first:Bool):Nat:=if first=true then d / 700 else d / 2
def EO (d n:Nat) (first:Bool):Nat:=Dd 20 (Ft d first+Ft d first / n) 0
theorem QA:∀ f d k,d<456 * 35 ^ f->Dd f d k<=k+36 * f+36
 | 0,d,k,h=>by
  show k+36 * d / (d+38)<=_
  have:36 * d / (d+38)<=36:=Nat.div_le_of_le_mul (by omega)
  omega
 | f+1,d,k,h=>by
  rw [Dd];split
  ·have:=QA f (d / 35) (k+36) (Nat.div_lt_of_lt_mul (by rw [Nat.pow_succ] at h;omega))
   omega
  ·have:36 * d / (d+38)<=36:=Nat.div_le_of_le_mul (by omega)
   omega
theorem MI (d n:Nat) (first:Bool) (h:d<=2147483647):EO d n first<=756:=by
 refine QA 20 _ 0 ?_
 have h1:Ft d first<=d:=by unfold Ft;split<;>omega
 have h2:Ft d first / n<=Ft d first:=Nat.div_le_self _ _
 have:(4294967296:Nat)<456 * 35 ^ 20:=by decide
 omega
def Ge (d:Nat):UInt8:=if d<26 then UInt8.ofNat (97+d) else UInt8.ofNat (22+d)
def Ip (bias:Nat):Nat->Nat->Nat->List UInt8
 | 0,_,_=>[]
 | f+1,j,d=>if d<BB j bias then [Ge d] else Ge (BB j bias+(d - BB j bias) % (36 - BB j bias)) :: Ip bias f (j+1) ((d - BB j bias) / (36 - BB j bias))
def RH (d bias:Nat):List UInt8:=Ip bias 40 0 d
theorem Uz (bias:Nat):∀ f j d,(Ip bias f j d).length<=f
 | 0,_,_=>Nat.le_refl _
 | f+1,j,d=>by
  rw [Ip];split
  ·simp
  ·have:=Uz bias f (j+1) ((d - BB j bias) / (36 - BB j bias));simp;omega
theorem Tb (d bias:Nat):(RH d bias).length<=40:=Uz bias 40 0 d
theorem YF {b d f:Nat} (hb:1<=b/\b<=26) (h:d<10 ^ (f+1)):(d - b) / (36 - b)<10 ^ f:=by
 refine Nat.div_lt_of_lt_mul ?_
 have h1:10 * 10 ^ f<=(36 - b) * 10 ^ f:=Nat.mul_le_mul_right _ (by omega)
 rw [Nat.pow_succ] at h;omega
def Ja (c:UInt8):Option Nat:=if 97<=c.toNat/\c.toNat<=122 then some (c.toNat - 97) else if 65<=c.toNat/\c.toNat<=90 then some (c.toNat - 65) else if 48<=c.toNat/\c.toNat<=57 then some (c.toNat - 22) else none
theorem J8:∀ d:Fin 36,Ja (Ge d.val)=some d.val/\Ge d.val≠45/\(Ge d.val).toNat<128:=by decide+kernel
theorem Zs:∀ n:Fin 256,∀ d,Ja (UInt8.ofNat n.val)=some d->d<36:=by decide+kernel
theorem Ac9 {c:UInt8} {d:Nat} (h:Ja c=some d):d<36:=Zs ⟨c.toNat,c.toNat_lt⟩ d (by simpa using h)
def Kv (bias:Nat):List UInt8->Nat->Nat->Nat->Option (Nat × Nat)
 | [],_,_,_=>none
 | c :: r,j,sum,wt=>match Ja c with
  | none=>none
  | some d=>if 2147483647<sum+d * wt then none else if d<BB j bias then some (sum+d * wt,j+1) else Kv bias r (j+1) (sum+d * wt) (wt * (36 - BB j bias))
theorem MO (bias:Nat):∀ (l:List UInt8) j sum wt d n,Kv bias l j sum wt=some (d,n)->j<n/\n<=j+l.length/\d<=2147483647
 | [],_,_,_,_,_,h=>(nomatch h)
 | c :: r,j,sum,wt,d,n,h=>by
  rw [Kv] at h;split at h
  ·cases h
  ·split at h
   ·cases h
   ·split at h
    ·cases h;simp;omega
    ·have:=MO bias r _ _ _ d n h;simp;omega
theorem AfZ (bias:Nat) (rest:List UInt8):∀ f j d sum wt,d<10 ^ f->sum+d * wt<=2147483647->
  Kv bias (Ip bias (f+1) j d++rest) j sum wt=some (sum+d * wt,j+(Ip bias (f+1) j d).length):=by
 intro f
 induction f with
 | zero=>
  intro j d sum wt h hs;have hb:=Hv j bias;rw [Nat.pow_zero] at h
  have hd:d<BB j bias:=by omega
  rw [Ip,if_pos hd,List.cons_append,List.nil_append,Kv,(J8 ⟨d,by omega⟩).1]
  dsimp only
  rw [if_neg (by omega),if_pos hd];rfl
 | succ f ih=>
  intro j d sum wt h hs;have hb:=Hv j bias;rw [Ip]
  by_cases hd:d<BB j bias
  ·rw [if_pos hd,List.cons_append,List.nil_append,Kv,(J8 ⟨d,by omega⟩).1]
   dsimp only
   rw [if_neg (by omega),if_pos hd];rfl
  ·rw [if_neg hd];obtain ⟨b,hbe⟩:=N2 (BB j bias);rw [hbe] at hb hd⊢
   have hm:(d - b) % (36 - b)<36 - b:=Nat.mod_lt _ (by omega)
   have ht:b+(d - b) % (36 - b)<36:=by omega
   have hdm:=Nat.mod_add_div (d - b) (36 - b);obtain ⟨q,hq⟩:=N2 ((d - b) / (36 - b));obtain ⟨m,hme⟩:=N2 ((d - b) % (36 - b));have hn:=YF hb h;rw [hq] at hdm hn⊢;rw [hme] at hdm ht hm⊢
   have e:d * wt=(b+m) * wt+q * (wt * (36 - b)):=by
    have e1:d=b+(m+(36 - b) * q):=by omega
    conv=>lhs;rw [e1]
    rw [Nat.add_mul,Nat.add_mul,Nat.add_mul,Nat.mul_comm (36 - b) q,Nat.mul_assoc,Nat.mul_comm (36 - b) wt];omega
   rw [List.cons_append,Kv,(J8 ⟨b+m,ht⟩).1];dsimp only
   rw [if_neg (by rw [e] at hs;omega),hbe,if_neg (by omega)]
   rw [ih (j+1) q (sum+(b+m) * wt) (wt * (36 - b)) hn (by rw [e] at hs;omega),e,List.length_cons,Nat.add_assoc,Nat.add_assoc,Nat.add_comm 1]
theorem Aff (bias d:Nat) (rest:List UInt8) (h:d<=2147483647):Kv bias (RH d bias++rest) 0 0 1=some (d,(RH d bias).length):=by
 have:=AfZ bias rest 39 0 d 0 1 (Nat.lt_of_le_of_lt h (by decide)) (by omega)
 unfold RH;rw [this];simp
def Bd (c:Nat):Bool:=decide (c<=1114111) && (decide (c<55296) || decide (57343<c))
def Gb (l:List Nat) (p c:Nat):List Nat:=l.take p++c :: l.drop p
structure Db where
 p:Nat
 sign:Nat
 bias:Nat
 first:Bool
 l:List Nat
def D5 (st:Db) (d:Nat):Option Db:=
 if (decide (st.l.length=255) || !Bd (st.sign+(st.p+d) / (st.l.length+1)))=true then none
 else some ⟨(st.p+d) % (st.l.length+1)+1,st.sign+(st.p+d) / (st.l.length+1),EO d (st.l.length+1) st.first,false,Gb st.l ((st.p+d) % (st.l.length+1)) (st.sign+(st.p+d) / (st.l.length+1))⟩
def Dr:Nat->List UInt8->Db->Option (List Nat)
 | 0,_,_=>none
 | f+1,s,st=>if s=[] then some st.l else match Kv st.bias s 0 0 1 with
  | none=>none
  | some (d,n)=>match D5 st d with
   | none=>none
   | some st'=>Dr f (s.drop n) st'
def CN (c:UInt8):List UInt8->Option (List UInt8 × List UInt8)
 | []=>none
 | x :: r=>match CN c r with
  | some (a,b)=>some (x :: a,b)
  | none=>if x=c then some ([],r) else none
theorem E4 {c:UInt8}:∀ {l:List UInt8},(∀ x∈l,x≠c)->CN c l=none
 | [],_=>rfl
 | x :: r,h=>by
  rw [CN,E4 (l:=r) (fun y hy=>h y (List.mem_cons_of_mem _ hy))]
  dsimp only;rw [if_neg (h x (List.mem_cons_self ..))]
theorem ET {c:UInt8} {b:List UInt8} (hb:∀ x∈b,x≠c):∀ (a:List UInt8),CN c (a++c :: b)=some (a,b)
 | []=>by rw [List.nil_append,CN,E4 hb];dsimp only;rw [if_pos rfl]
 | x :: r=>by rw [List.cons_append,CN,ET hb r]
theorem Qt {c:UInt8}:∀ {l a b:List UInt8},CN c l=some (a,b)->l=a++c :: b/\∀ x∈b,x≠c
 | [],_,_,h=>(nomatch h)
 | x :: r,a,b,h=>by
  rw [CN] at h;split at h
  ·rename_i a' b' he;obtain ⟨h1,h2⟩:=Qt he;cases h
   exact ⟨by rw [h1];rfl,h2⟩
  ·rename_i he;split at h
   ·rename_i hx;cases h
    refine ⟨by rw [hx];rfl,fun y hy e=> ?_⟩
    obtain ⟨u,v,huv⟩:=List.append_of_mem hy
    have key:∀ (u:List UInt8),CN c (u++y :: v)≠none:=by
     intro u
     induction u with
     | nil=>
      rw [List.nil_append,CN];split
      ·simp
      ·rw [if_pos e];simp
     | cons z u ih=>
      rw [List.cons_append,CN];split
      ·simp
      ·rename_i hz;exact absurd hz ih
    exact key u (by rw [<-huv];exact he)
   ·cases h
def Ob (l:List Nat):Db:=⟨0,128,72,true,l⟩
def Og (c:UInt8):Bool:=decide (c.toNat<128)
def MD (s:List UInt8):Option (List Nat):=match CN 45 s with
 | some (a,b)=>if a=[] then Dr (s.length+1) s (Ob []) else if 255<a.length then none else if a.all Og=true then Dr (b.length+1) b (Ob (a.map (·.toNat))) else none
 | none=>Dr (s.length+1) s (Ob [])
structure CM where
 d:Nat
 done:Nat
 bias:Nat
 first:Bool
 out:List UInt8
def AX (sign:Nat) (st:CM) (c:Nat):CM:=
 if c=sign then ⟨0,st.done+1,EO st.d (st.done+1) st.first,false,st.out++RH st.d st.bias⟩
 else if c<sign then ⟨st.d+1,st.done,st.bias,st.first,st.out⟩ else st
def BH (low:Nat) (f:Int) (c:Nat):Int:=if low<=c/\(f<0\/(c:Int)<f) then (c:Int) else f
def Cs (l:List Nat) (low:Nat):Int:=l.foldl (BH low) (-1)
def Fh (l:List Nat):Nat->Nat->CM->CM
 | 0,_,st=>st
 | f+1,sign,st=>if st.done<l.length then
   Fh l f ((Cs l sign).toNat+1) (
    let st2:=l.foldl (AX (Cs l sign).toNat) ⟨st.d+((Cs l sign).toNat - sign) * (st.done+1),st.done,st.bias,st.first,st.out⟩
    ⟨st2.d+1,st2.done,st2.bias,st2.first,st2.out⟩)
  else st
def AaV (c:Nat):Bool:=decide (c<128)
def BS (l:List Nat):List UInt8:=(l.filter AaV).map UInt8.ofNat
def EU (l:List Nat):CM:=⟨0,(BS l).length,72,true,if BS l=[] then [] else BS l++[45]⟩
def Li (l:List Nat):Option (List UInt8):=if 255<l.length then none else if l.all Bd=true then some (Fh l (l.length+1) 128 (EU l)).out else none
theorem ES (low:Nat):∀ (l:List Nat) (f:Int),(f= -1\/(0<=f/\(low:Int)<=f))->
  (l.foldl (BH low) f=f\/∃ c∈l,l.foldl (BH low) f=(c:Int)/\low<=c)/\(∀ c∈l,low<=c->0<=l.foldl (BH low) f/\l.foldl (BH low) f<=(c:Int))/\(0<=f->0<=l.foldl (BH low) f/\l.foldl (BH low) f<=f)
 | [],f,_=>⟨.inl rfl,fun c hc=>(nomatch hc),fun h=>⟨h,Int.le_refl _⟩⟩
 | x :: r,f,hf=>by
  rw [List.foldl_cons]
  by_cases hx:low<=x/\(f<0\/(x:Int)<f)
  ·have e:BH low f x=(x:Int):=if_pos hx;rw [e]
   obtain ⟨h1,h2,h3⟩:=ES low r (x:Int) (.inr ⟨by omega,by omega⟩)
   have h4:=h3 (by omega)
   refine ⟨.inr ?_,?_,?_⟩
   ·rcases h1 with h1 | ⟨c,hc,hh⟩
    ·exact ⟨x,List.mem_cons_self ..,h1,hx.1⟩
    ·exact ⟨c,List.mem_cons_of_mem _ hc,hh⟩
   ·intro c hc hl
    rcases List.mem_cons.1 hc with rfl | hc
    ·exact h4
    ·exact h2 c hc hl
   ·intro h0;have:=hx.2;omega
  ·have e:BH low f x=f:=if_neg hx;rw [e];obtain ⟨h1,h2,h3⟩:=ES low r f hf;refine ⟨?_,?_,h3⟩
   ·rcases h1 with h1 | ⟨c,hc,hh⟩
    ·exact .inl h1
    ·exact .inr ⟨c,List.mem_cons_of_mem _ hc,hh⟩
   ·intro c hc hl
    rcases List.mem_cons.1 hc with rfl | hc
    ·have h0:0<=f/\f<=(c:Int):=by
      by_cases hfn:f<0
      ·exact absurd ⟨hl,.inl hfn⟩ hx
      ·refine ⟨by omega,?_⟩
       by_cases hlt:(c:Int)<f
       ·exact absurd ⟨hl,.inr hlt⟩ hx
       ·omega
     have:=h3 h0.1;omega
    ·exact h2 c hc hl
theorem RE {l:List Nat} {low c:Nat} (hc:c∈l) (h:low<=c):∃ m∈l,Cs l low=(m:Int)/\low<=m/\∀ x∈l,low<=x->m<=x:=by
 obtain ⟨h1,h2,-⟩:=ES low l (-1) (.inl rfl);have h3:=h2 c hc h
 rcases h1 with h1 | ⟨m,hm,he,hl⟩
 ·unfold Cs at *;omega
 ·exact ⟨m,hm,he,hl,fun x hx hlx=>by have:=h2 x hx hlx;rw [he] at this;omega⟩
def Rd (X:List UInt8) (d0 d1:Db):Prop:=∀ f rest,(X++rest).length<f->∃ f',rest.length<f'/\Dr f (X++rest) d0=Dr f' rest d1
theorem Rd.nil (d:Db):Rd [] d d:=fun f rest h=>⟨f,h,rfl⟩
theorem Rd.trans {X Y:List UInt8} {a b c:Db} (h:Rd X a b) (k:Rd Y b c):Rd (X++Y) a c:=by
 intro f rest hf;rw [List.append_assoc] at hf⊢;obtain ⟨f1,h1,e1⟩:=h f (Y++rest) hf;obtain ⟨f2,h2,e2⟩:=k f1 rest h1;exact ⟨f2,h2,e1.trans e2⟩
theorem AbV (d bias:Nat):RH d bias≠[]:=by
 unfold RH;rw [Ip]
 split<;>simp
theorem Rd.one {d:Nat} {a b:Db} (hd:d<=2147483647) (h:D5 a d=some b):Rd (RH d a.bias) a b:=by
 intro f rest hf
 have hne:RH d a.bias++rest≠[]:=fun e=>AbV d a.bias (List.append_eq_nil_iff.1 e).1
 cases f with
 | zero=>omega
 | succ f=>
  have hlen:0<(RH d a.bias).length:=List.length_pos_iff.2 (AbV d a.bias)
  refine ⟨f,by rw [List.length_append] at hf;omega,?_⟩
  rw [Dr,if_neg hne,Aff _ _ _ hd];dsimp only;rw [h];dsimp only;rw [List.drop_left]
def Nm (m c:Nat):Bool:=decide (c<m)
def leN (m c:Nat):Bool:=decide (c<=m)
structure Mid (l:List Nat) (m:Nat) (a b:List Nat) (st:CM) (dec:Db) (hd:List UInt8) (d0:Db):Prop where
 l:dec.l=a.filter (leN m)++b.filter (Nm m)
 done:st.done=dec.l.length
 lin:dec.sign * (st.done+1)+dec.p+st.d=m * (st.done+1)+(a.filter (leN m)).length
 sign:dec.sign<=m
 bias:dec.bias=st.bias
 first:dec.first=st.first
 out:∃ X,st.out=hd++X/\Rd X d0 dec
theorem Adg {l a b:List Nat} {m c:Nat} {st:CM} {dec:Db} {hd:List UInt8} {d0:Db} (hl:l=a++c :: b) (hlen:l.length<=255) (hm:Bd m=true) (h:Mid l m a (c :: b) st dec hd d0):
  ∃ dec',Mid l m (a++[c]) b (AX m st c) dec' hd d0:=by
 unfold AX
 by_cases hc:c=m
 ·subst hc;rw [if_pos rfl]
  have hB:(c :: b).filter (Nm c)=b.filter (Nm c):=by rw [List.filter_cons,if_neg (by unfold Nm;simp)]
  have hl0:=h.l;rw [hB] at hl0;have hlin:=h.lin;have hsg:=h.sign
  have hpos:(a.filter (leN c)).length<=st.done:=by rw [h.done,hl0,List.length_append];omega
  have hn:st.done<255:=by
   rw [h.done,hl0,List.length_append];have h1:=List.length_filter_le (leN c) a;have h2:=List.length_filter_le (Nm c) b;rw [hl,List.length_append,List.length_cons] at hlen;omega
  have hm2:c<=1114111:=by
   unfold Bd at hm;rw [Bool.and_eq_true,decide_eq_true_iff] at hm;exact hm.1
  obtain ⟨pos,hpe⟩:∃ pos,(a.filter (leN c)).length=pos:=⟨_,rfl⟩;obtain ⟨n,hne⟩:=N2 (st.done)
  have hdl:dec.l.length=n:=by rw [<-h.done];exact hne
  rw [hpe] at hlin hpos;rw [hne] at hlin hpos hn
  obtain ⟨q,hq⟩:∃ q,c=dec.sign+q:=⟨c - dec.sign,by omega⟩
  have hsum:dec.p+st.d=q * (n+1)+pos:=by
   rw [hq,Nat.add_mul] at hlin;omega
  have hdiv:(dec.p+st.d) / (n+1)=q:=by
   rw [hsum,Nat.add_comm,Nat.add_mul_div_right _ _ (by omega),Nat.div_eq_of_lt (by omega),Nat.zero_add]
  have hmod:(dec.p+st.d) % (n+1)=pos:=by
   rw [hsum,Nat.add_comm,Nat.add_mul_mod_self_right,Nat.mod_eq_of_lt (by omega)]
  have hdle:st.d<=2147483647:=by
   have h1:q * (n+1)<=1114111 * 255:=Nat.mul_le_mul (by omega) (by omega)
   omega
  have hstep:D5 dec st.d=some ⟨pos+1,c,EO st.d (n+1) dec.first,false,Gb dec.l pos c⟩:=by
   unfold D5;rw [hdl,hdiv,hmod,<-hq,if_neg];rw [hm];simp;omega
  refine ⟨⟨pos+1,c,EO st.d (n+1) dec.first,false,Gb dec.l pos c⟩,?_,?_,?_,Nat.le_refl _,?_,rfl,?_⟩
  rotate_right
  ·obtain ⟨X,hX,hr⟩:=h.out;refine ⟨X++RH st.d st.bias,?_,?_⟩;rotate_left
   ·exact hr.trans (h.bias ▸ Rd.one hdle hstep)
   ·show st.out++_=_;rw [hX,List.append_assoc]
  ·show Gb dec.l pos c=_;unfold Gb
   rw [hl0,<-hpe,List.take_left,List.drop_left,List.filter_append,List.filter_cons,if_pos (by unfold leN;simp)]
   simp
  ·show st.done+1=(Gb dec.l pos c).length;unfold Gb;rw [List.length_append,List.length_cons,List.length_take,List.length_drop,hdl,hne];omega
  ·show c * (st.done+1+1)+(pos+1)+0=c * (st.done+1+1)+_
   rw [List.filter_append,List.length_append,hpe,List.filter_cons,if_pos (by unfold leN;simp)]
   rfl
  ·show EO st.d (n+1) dec.first=EO st.d (st.done+1) st.first
   rw [hne,h.first]
 ·rw [if_neg hc]
  by_cases hlt:c<m
  ·rw [if_pos hlt]
   have h1:leN m c=true:=by unfold leN;simp;omega
   have h2:Nm m c=true:=by unfold Nm;simp;omega
   refine ⟨dec,?_,h.done,?_,h.sign,h.bias,h.first,h.out⟩
   ·rw [h.l,List.filter_append,List.filter_cons,if_pos h2,List.filter_cons,if_pos h1];simp
   ·have:=h.lin;show dec.sign * (st.done+1)+dec.p+(st.d+1)=m * (st.done+1)+_;rw [List.filter_append,List.length_append,List.filter_cons,if_pos h1];simp;omega
  ·rw [if_neg hlt]
   have h1:leN m c=false:=by unfold leN;simp;omega
   have h2:Nm m c=false:=by unfold Nm;simp;omega
   refine ⟨dec,?_,h.done,?_,h.sign,h.bias,h.first,h.out⟩
   ·rw [h.l,List.filter_append,List.filter_cons,if_neg (by rw [h2];decide),List.filter_cons,if_neg (by rw [h1];decide)];simp
   ·rw [h.lin,List.filter_append,List.length_append,List.filter_cons,if_neg (by rw [h1];decide)];simp
theorem Y7 {l:List Nat} {m:Nat} {hd:List UInt8} {d0:Db} (hlen:l.length<=255) (hm:Bd m=true):∀ (b a:List Nat) (st:CM) (dec:Db),l=a++b->Mid l m a b st dec hd d0->
  ∃ dec',Mid l m l [] (b.foldl (AX m) st) dec' hd d0
 | [],a,st,dec,hl,h=>by
  rw [List.append_nil] at hl;subst hl;exact ⟨dec,h⟩
 | c :: b,a,st,dec,hl,h=>by
  obtain ⟨dec',h'⟩:=Adg hl hlen hm h
  exact Y7 hlen hm b (a++[c]) _ dec' (by rw [hl];simp) h'
structure AeX (l:List Nat) (sign:Nat) (st:CM) (dec:Db) (hd:List UInt8) (d0:Db):Prop where
 l:dec.l=l.filter (Nm sign)
 done:st.done=dec.l.length
 lin:dec.sign * (st.done+1)+dec.p+st.d=sign * (st.done+1)
 sign:dec.sign<=sign
 bias:dec.bias=st.bias
 first:dec.first=st.first
 out:∃ X,st.out=hd++X/\Rd X d0 dec
theorem NB {p:Nat->Bool}:∀ {l:List Nat},(l.filter p).length=l.length->l.filter p=l
 | [],_=>rfl
 | x :: r,h=>by
  have h1:=List.length_filter_le p r;rw [List.filter_cons] at h⊢;split at h
  ·rename_i hx
   rw [if_pos hx,NB (l:=r) (by simpa using h)]
  ·rw [List.length_cons] at h;omega
theorem LP {p q:Nat->Bool}:∀ {l:List Nat} {x:Nat},(∀ c∈l,p c=true->q c=true)->x∈l->p x=false->q x=true->(l.filter p).length<(l.filter q).length
 | [],x,_,hx,_,_=>(nomatch hx)
 | y :: r,x,h,hx,hp,hq=>by
  have hsub:∀ (r:List Nat),(∀ c∈r,p c=true->q c=true)->(r.filter p).length<=(r.filter q).length:=by
   intro r
   induction r with
   | nil=>intro _;exact Nat.le_refl _
   | cons z r ih=>
    intro h
    have:=ih (fun c hc=>h c (List.mem_cons_of_mem _ hc))
    rw [List.filter_cons,List.filter_cons]
    by_cases hz:p z=true
    ·rw [if_pos hz,if_pos (h z (List.mem_cons_self ..) hz)];simp;exact this
    ·rw [if_neg hz];split
     ·simp;omega
     ·exact this
  rw [List.filter_cons,List.filter_cons]
  rcases List.mem_cons.1 hx with rfl | hx
  ·rw [if_neg (by rw [hp];decide),if_pos hq,List.length_cons]
   have:=hsub r (fun c hc=>h c (List.mem_cons_of_mem _ hc))
   omega
  ·have ih:=LP (l:=r) (fun c hc=>h c (List.mem_cons_of_mem _ hc)) hx hp hq
   by_cases hz:p y=true
   ·rw [if_pos hz,if_pos (h y (List.mem_cons_self ..) hz)];simp;exact ih
   ·rw [if_neg hz];split
    ·simp;omega
    ·exact ih
theorem Qy {p:Nat->Bool}:∀ {l:List Nat},(l.filter p).length<l.length->∃ c∈l,p c=false
 | [],h=>by simp at h
 | x :: r,h=>by
  rw [List.filter_cons] at h;cases hx:p x
  ·exact ⟨x,List.mem_cons_self ..,hx⟩
  ·rw [if_pos hx] at h
   obtain ⟨c,hc,hp⟩:=Qy (l:=r) (by simpa using h)
   exact ⟨c,List.mem_cons_of_mem _ hc,hp⟩
theorem Rv {l:List Nat} {hd:List UInt8} {d0:Db} (hlen:l.length<=255) (hs:∀ c∈l,Bd c=true):∀ (f sign:Nat) (st:CM) (dec:Db),l.length<st.done+f->AeX l sign st dec hd d0->
  ∃ dec' X,(Fh l f sign st).out=hd++X/\Rd X d0 dec'/\dec'.l=l
 | 0,sign,st,dec,hf,h=>by
  have:=List.length_filter_le (Nm sign) l;rw [<-h.l,<-h.done] at this;omega
 | f+1,sign,st,dec,hf,h=>by
  rw [Fh]
  by_cases hlt:st.done<l.length
  ·rw [if_pos hlt]
   obtain ⟨c,hc,hcn⟩:=Qy (p:=Nm sign) (l:=l) (by rw [<-h.l,<-h.done];exact hlt)
   have hcs:sign<=c:=by unfold Nm at hcn;simp at hcn;exact hcn
   obtain ⟨m,hm,he,hlow,hmin⟩:=RE hc hcs;rw [he,Int.toNat_natCast]
   have hfil:l.filter (Nm m)=l.filter (Nm sign):=by
    apply List.filter_congr;intro x hx;unfold Nm
    by_cases hxs:x<sign
    ·simp [hxs];omega
    ·have:=hmin x hx (by omega)
     simp [hxs];omega
   have hmid:Mid l m [] l ⟨st.d+(m - sign) * (st.done+1),st.done,st.bias,st.first,st.out⟩ dec hd d0:=by
    refine ⟨by rw [h.l,hfil];rfl,h.done,?_,Nat.le_trans h.sign hlow,h.bias,h.first,h.out⟩
    show dec.sign * (st.done+1)+dec.p+(st.d+(m - sign) * (st.done+1))=m * (st.done+1)+0;have:=h.lin
    obtain ⟨k,rfl⟩:∃ k,m=sign+k:=⟨m - sign,by omega⟩
    rw [Nat.add_sub_cancel_left,Nat.add_mul];omega
   obtain ⟨dec',h'⟩:=Y7 hlen (hs m hm) l [] _ dec rfl hmid
   obtain ⟨st2,hst2⟩:∃ st2,l.foldl (AX m) ⟨st.d+(m - sign) * (st.done+1),st.done,st.bias,st.first,st.out⟩=st2:=⟨_,rfl⟩
   rw [hst2] at h'⊢
   have hl':dec'.l=l.filter (Nm (m+1)):=by
    rw [h'.l,List.filter_nil,List.append_nil];apply List.filter_congr;intro x _;unfold leN Nm;rw [Bool.eq_iff_iff];simp;omega
   have hgrow:st.done<st2.done:=by
    rw [h'.done,hl',h.done,h.l,<-hfil]
    refine LP (x:=m) (fun c _ hc=> ?_) hm (by unfold Nm;simp) (by unfold Nm;simp)
    unfold Nm at hc⊢;simp at hc⊢;omega
   refine Rv hlen hs f (m+1) ⟨st2.d+1,st2.done,st2.bias,st2.first,st2.out⟩ dec' (by show l.length<st2.done+f;omega) ⟨hl',h'.done,?_,by have:=h'.sign;omega,h'.bias,h'.first,h'.out⟩
   have hlin:=h'.lin;have hd:=h'.done;have hl2:=h'.l;rw [List.filter_nil,List.append_nil] at hl2;rw [<-hl2,<-hd] at hlin;show dec'.sign * (st2.done+1)+dec'.p+(st2.d+1)=(m+1) * (st2.done+1);rw [Nat.add_mul];omega
  ·rw [if_neg hlt];obtain ⟨X,hX,hr⟩:=h.out;refine ⟨dec,X,hX,hr,?_⟩;rw [h.l];refine NB ?_;have:=List.length_filter_le (Nm sign) l;rw [<-h.l,<-h.done] at this⊢;omega
theorem Mv (bias:Nat):∀ f j d,∀ x∈Ip bias f j d,x≠45/\Og x=true/\∃ k,k<36/\x=Ge k
 | 0,_,_,x,h=>(nomatch h)
 | f+1,j,d,x,h=>by
  have hb:=Hv j bias;rw [Ip] at h
  have key:∀ k,k<36->x=Ge k->x≠45/\Og x=true/\∃ k,k<36/\x=Ge k:=by
   intro k hk e;have:=J8 ⟨k,hk⟩;rw [e]
   exact ⟨this.2.1,by unfold Og;simp;exact this.2.2,k,hk,rfl⟩
  split at h
  ·rename_i hd
   exact key d (by omega) (List.mem_singleton.1 h)
  ·rcases List.mem_cons.1 h with h | h
   ·have hm:(d - BB j bias) % (36 - BB j bias)<36 - BB j bias:=Nat.mod_lt _ (by omega)
    exact key _ (by omega) h
   ·exact Mv bias f _ _ x h
theorem G3 (p:UInt8->Prop) (hp:∀ d bias,∀ x∈RH d bias,p x) (m:Nat):∀ (l:List Nat) (st:CM) (hd:List UInt8),(∃ X,st.out=hd++X/\∀ x∈X,p x)->∃ X,(l.foldl (AX m) st).out=hd++X/\∀ x∈X,p x
 | [],st,hd,h=>h
 | c :: r,st,hd,h=>by
  rw [List.foldl_cons];refine G3 p hp m r _ hd ?_;obtain ⟨X,hX,hx⟩:=h;unfold AX;split
  ·refine ⟨X++RH st.d st.bias,by rw [<-List.append_assoc,<-hX],fun x h=> ?_⟩
   rcases List.mem_append.1 h with h | h
   ·exact hx x h
   ·exact hp _ _ x h
  ·split
   ·exact ⟨X,hX,hx⟩
   ·exact ⟨X,hX,hx⟩
theorem M1 (p:UInt8->Prop) (hp:∀ d bias,∀ x∈RH d bias,p x) (l:List Nat):∀ (f sign:Nat) (st:CM) (hd:List UInt8),(∃ X,st.out=hd++X/\∀ x∈X,p x)->∃ X,(Fh l f sign st).out=hd++X/\∀ x∈X,p x
 | 0,_,st,hd,h=>h
 | f+1,sign,st,hd,h=>by
  rw [Fh];split
  ·exact M1 p hp l f _ _ hd (G3 p hp _ l _ hd h)
  ·exact h
theorem PY (l:List Nat):(BS l).map (·.toNat)=l.filter (Nm 128):=by
 unfold BS;rw [List.map_map]
 have:∀ m:List Nat,(∀ c∈m,c<128)->m.map ((·.toNat) ∘ UInt8.ofNat)=m:=by
  intro m
  induction m with
  | nil=>intro _;rfl
  | cons c r ih=>
   intro h
   rw [List.map_cons,ih (fun x hx=>h x (List.mem_cons_of_mem _ hx))]
   have hc:=h c (List.mem_cons_self ..);congr 1;show (UInt8.ofNat c).toNat=c
   rw [UInt8.toNat_ofNat'];exact Nat.mod_eq_of_lt (by omega)
 rw [this _ (fun c hc=>by have:=(List.mem_filter.1 hc).2;unfold AaV at this;simpa using this)]
 rfl
theorem ZK (l:List Nat):(BS l).all Og=true:=by
 rw [List.all_eq_true];intro x hx;obtain ⟨c,hc,rfl⟩:=List.mem_map.1 hx;have:=(List.mem_filter.1 hc).2;unfold AaV at this;unfold Og;simp at this⊢;omega
def AfM (l:List Nat) (x:UInt8):Prop:=(∃ c∈l,c<128/\x=UInt8.ofNat c)\/x=45\/∃ k,k<36/\x=Ge k
theorem W1 {l:List Nat} {o:List UInt8} (h:Li l=some o):∀ x∈o,AfM l x:=by
 unfold Li at h;split at h
 ·cases h
 ·split at h
  ·cases h
   obtain ⟨X,hX,hx⟩:=M1 (fun x=>AfM l x) (fun d bias x hx=> .inr (.inr (Mv bias 40 0 d x hx).2.2)) l (l.length+1) 128 (EU l) (EU l).out ⟨[],(List.append_nil _).symm,fun x h=>(nomatch h)⟩
   rw [hX];intro x h
   rcases List.mem_append.1 h with h | h
   ·unfold EU at h;dsimp only at h
    have hb:∀ x∈BS l,AfM l x:=by
     intro x hx;obtain ⟨c,hc,rfl⟩:=List.mem_map.1 hx;have h2:=List.mem_filter.1 hc
     exact .inl ⟨c,h2.1,by have:=h2.2;unfold AaV at this;simpa using this,rfl⟩
    split at h
    ·cases h
    ·rcases List.mem_append.1 h with h | h
     ·exact hb x h
     ·exact .inr (.inl (List.mem_singleton.1 h))
   ·exact hx x h
  ·cases h
theorem AdX {l:List Nat} {o:List UInt8} (h:Li l=some o):MD o=some l:=by
 unfold Li at h;split at h
 ·cases h
 rename_i hlen;split at h
 case isFalse=>cases h
 rename_i hs;cases h;have hs':∀ c∈l,Bd c=true:=List.all_eq_true.1 hs;obtain ⟨d0,hd0⟩:=N2 (Ob (l.filter (Nm 128)))
 have hO:AeX l 128 (EU l) d0 (EU l).out d0:=by
  subst hd0;refine ⟨rfl,?_,?_,Nat.le_refl _,rfl,rfl,[],(List.append_nil _).symm,Rd.nil _⟩
  ·show (BS l).length=(l.filter (Nm 128)).length;rw [<-PY,List.length_map]
  ·show 128 * _+0+0=128 * _;omega
 have hlen':l.length<=255:=by omega
 obtain ⟨dec',X,hX,hr,hl⟩:=Rv hlen' hs' (l.length+1) 128 (EU l) d0 (by omega) hO
 have hfin:∀ f,X.length<f->Dr f X d0=some l:=by
  intro f hf
  obtain ⟨f',h1,h2⟩:=hr f [] (by rw [List.append_nil];exact hf)
  rw [List.append_nil] at h2;rw [h2]
  cases f' with
  | zero=>simp at h1
  | succ g=>rw [Dr,if_pos rfl,hl]
 obtain ⟨X2,hX2,hx2⟩:=M1 (fun x=>x≠45) (fun d bias x hx=>(Mv bias 40 0 d x hx).1) l (l.length+1) 128 (EU l) (EU l).out ⟨[],(List.append_nil _).symm,fun x h=>(nomatch h)⟩
 have hXX:X=X2:=List.append_cancel_left (hX.symm.trans hX2);subst hXX;have hb:=PY l;have hlow:=ZK l
 have hle:(BS l).length<=255:=by
  have:=congrArg List.length hb;rw [List.length_map] at this;have h2:=List.length_filter_le (Nm 128) l;omega
 rw [hX];unfold MD
 by_cases he:BS l=[]
 ·have e0:(EU l).out=[]:=by unfold EU;rw [he];rfl
  have ed:d0=Ob []:=by rw [<-hd0,<-hb,he];rfl
  rw [e0,List.nil_append,E4 hx2];dsimp only;rw [<-ed]
  exact hfin _ (by omega)
 ·have e0:(EU l).out=BS l++[45]:=by unfold EU;dsimp only;rw [if_neg he]
  have ed:d0=Ob ((BS l).map (·.toNat)):=by rw [<-hd0,hb]
  rw [e0,List.append_assoc,List.cons_append,List.nil_append,ET hx2];dsimp only
  rw [if_neg he,if_neg (by omega),if_pos hlow,<-ed]
  exact hfin _ (by omega)
def Ay (c:UInt8):List UInt8->List (List UInt8)
 | []=>[[]]
 | d :: r=>if d=c then [] :: Ay c r else (d :: (Ay c r).headD []) :: (Ay c r).tail
theorem Da (c d:UInt8) (r:List UInt8):Ay c (d :: r)=if d=c then [] :: Ay c r else (d :: (Ay c r).headD []) :: (Ay c r).tail:=rfl
theorem Ds (c:UInt8) (l:List UInt8):Ay c l≠[]:=by
 cases l with
 | nil=>simp [Ay]
 | cons d r=>unfold Ay;split<;>simp
theorem Ze (c:UInt8) (l:List UInt8):(Ay c l).headD [] :: (Ay c l).tail=Ay c l:=by
 have:=Ds c l
 cases h:Ay c l with
 | nil=>exact absurd h this
 | cons a b=>rfl
theorem Vr (c:UInt8) (l:List UInt8):Lib.split l [c]=Ay c l:=by
 unfold Lib.split
 induction l with
 | nil=>rfl
 | cons d r ih=>
  by_cases h:d=c
  ·subst h
   have hix:Lib.index (d :: r) [d]=((0:Nat):Int):=by rw [Lib.index];simp [List.isPrefixOf]
   rw [Lib.count_cons_eq,Nat.add_comm,Lib.splitK]
   rw [if_neg (by rw [hix];decide),hix]
   unfold Ay;rw [if_pos rfl,<-ih];simp
  ·have hix:Lib.index (d :: r) [c]=if Lib.index r [c]== -1 then -1 else Lib.index r [c]+1:=by
    have hp:([c]:List UInt8).isPrefixOf (d :: r)=false:=by simp [List.isPrefixOf,Ne.symm h]
    rw [Lib.index,hp];simp
   rw [Lib.count_cons_ne d c r h];unfold Ay;rw [if_neg h,<-ih]
   by_cases hm:Lib.index r [c]= -1
   ·rw [Lib.count_miss hm];rfl
   ·have hge:=Lib.index_ge r [c]
    obtain ⟨j,hj⟩:∃ j:Nat,Lib.index r [c]=j:=⟨(Lib.index r [c]).toNat,by omega⟩
    have hix':Lib.index (d :: r) [c]=((j+1:Nat):Int):=by rw [hix,if_neg (fun e=>hm (beq_iff_eq.1 e)),hj];first | done | omega
    have hk:Lib.count r [c]=Lib.count (r.drop (j+1)) [c]+1:=by rw [Lib.count_hit (by simp) hj,List.length_singleton,Nat.add_comm]
    rw [hk,Lib.splitK,Lib.splitK,if_neg (by rw [hix',beq_iff_eq];omega),if_neg (by rw [hj,beq_iff_eq];omega),hix',hj]
    simp
theorem Hj (c:UInt8) (a b:List UInt8):Ay c (a++c :: b)=Ay c a++Ay c b:=by
 induction a with
 | nil=>simp [Ay]
 | cons d r ih=>
  rw [List.cons_append,Da,Da]
  by_cases h:d=c
  ·rw [if_pos h,if_pos h,ih];rfl
  ·rw [if_neg h,if_neg h,ih];have:=Ds c r
   cases hs:Ay c r with
   | nil=>exact absurd hs this
   | cons x y=>simp
theorem JT {c:UInt8} (a:List UInt8) (h:∀ d∈a,d≠c):Ay c a=[a]:=by
 induction a with
 | nil=>rfl
 | cons d r ih=>unfold Ay;rw [if_neg (h d (by simp)),ih (fun x hx=>h x (by simp [hx]))];rfl
theorem O8 (c:UInt8) (l:List UInt8):(Ay c l).length<=l.length+1:=by
 induction l with
 | nil=>simp [Ay]
 | cons d r ih=>
  unfold Ay;have:=Ze c r;have h2:=congrArg List.length this;simp only [List.length_cons] at h2
  split<;>simp<;>omega
def Ahu (w:World) (ls:List (List UInt8)) (e:Ending) (w':World):Prop:=
 ∃ (v:Value) (l:List ByteArray),e= .returned v/\Hid (l.map (·.toList)=ls)/\Fg w' v l/\Below w.heap.size w w'
theorem Z3 (s:ByteArray) (c:UInt8) (w:World) (h:ML w) (hs:s.size<4294967281):
  Calls Tryz.prog 339 #[.string s,.string ⟨#[c]⟩] w fun e w'=>∃ l:List ByteArray,e= .returned (.slice (some ⟨w.heap.size,0,none⟩) l.length l.length)/\Hid (l.map (·.toList)=Ay c s.toList)/\
   (∀ i (h:i<l.length),w'.cell? ⟨w.heap.size,i,none⟩=some (.string l[i]))/\Below w.heap.size w w':=by
 obtain ⟨m,hm⟩:=h;refine (Tryz.strings_Split s ⟨#[c]⟩ m w hs hm (Nat.le_refl _)).mono ?_;rintro e w' ⟨rfl,rfl⟩;have hl:(Lib.splitB ⟨#[c]⟩ 0 (Lib.countB s ⟨#[c]⟩) s).length=Lib.countB s ⟨#[c]⟩+1:=Lib.splitB_all _ (Nat.le_refl _) 0 _ _ rfl
 refine ⟨Lib.splitB ⟨#[c]⟩ 0 (Lib.countB s ⟨#[c]⟩) s,by rw [hl],H0 ?_,?_,(Below.refl _ _).alloc (Nat.le_refl _) _⟩
 ·have h1:=Lib.splitB_data ⟨#[c]⟩ 0 (Lib.countB s ⟨#[c]⟩) s
  have e1:(fun t:ByteArray=>t.toList)=(fun t=>t.data.toList):=funext fun t=>ByteArray.toList_eq ..
  rw [e1,h1,ByteArray.toList_eq,<-Vr];rfl
 ·intro i hi;have:(w.alloc (.cells ((Lib.splitB ⟨#[c]⟩ 0 (Lib.countB s ⟨#[c]⟩) s).map Value.string).toArray 9)).heap[w.heap.size]? =some _:=heap_alloc_new w _;simp only [World.cell?,this];simp [hi]
end Go.Proofs.YtonomfeipkdmhaaGreatDoor
