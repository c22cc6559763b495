/- Lemmas. -/
import Derived.Test.YtonomfeipkdmhaaGreatDoorZm03
import Derived.Test.YtonomfeipkdmhaaGreatDoorZm05
import Derived.Test.YtonomfeipkdmhaaGreatDoorZm06
import Derived.Laws.RangeAny
import Derived.Laws.Runes
import Derived.Lib.LastIndexByte
import Derived.Lib.OthersKept
import Derived.Shelf.RegionOpenPlain
set_option linter.all false
set_option maxRecDepth 100000
set_option maxHeartbeats 16000000
namespace Go.Proofs.YtonomfeipkdmhaaGreatDoor
open Go renaming wpList->Aq,Operand->CV,World->A7,Calls->AD,Value->AJ,TypeId->Ab,Ending->Ag
open Go.RowKit renaming Below->AF
open Go.RowKit Go.Proofs.Tryz
open Go.Proofs.Tryz renaming prog->A8
def Bp:Nat:=9223372036854775807
def Ak2{acc d:Nat}(a:d<=9):(if(Bp-d)/10<min acc Bp then Bp else min acc Bp*10+d)=min (acc*10+d) Bp:=by
 unfold Bp;split<;>omega
def QU(s:A9)(w:A7)(t:s.size<=140737488355328):AD A8 292 #[.string s] w (Fm Bp w (Az 10 s.toList)):=by
 cases hem:s.toList.isEmpty
 ·have n:=H0 (Qu (base:=10) hem);go_in;go_wp2;go_loop[4,11] (λo iv=>∃k m acc:Nat,iv=.int .i64 k/\o=.int .i64 m/\k<=s.size/\Hid (m<=Bp)/\Hid (m=min acc Bp)/\Hid (Ak 10 acc (s.toList.drop k)=Ak 10 0 s.toList)) (λ_ i=>s.size-(intOf i).toNat)
  ·exact⟨0,0,0,rfl,rfl,AR _,H0 (AR _),rfl,H0 L5⟩
  obtain⟨k,m,acc,rfl,rfl,r,u,o4,hg⟩:=hrel;by_cases a:k<s.size
  ·have j:=Aw s k a;have y:(k:Int)<s.size:=A4;rw[j]at hg;clear j;by_cases c:AQ (s[k].toNat:Int) 10<0
   ·have hno:=A6 (Az 10 s.toList=none) (by rw[n.out,<-hg.out,Ak,AC (show AQ (s[k].toNat:Int) ((10:Nat):Int)<0 from c)]);exact Ady
   have aC:=A6 (Ak 10 (acc*10+(AQ (s[k].toNat:Int) ((10:Nat):Int)).toNat) (s.toList.drop (k+1))=Ak 10 0 s.toList) (by rw[<-hg.out,Ak,AA (show¬AQ (s[k].toNat:Int) ((10:Nat):Int)<0 from c)]);obtain⟨d,g⟩:∃d:Nat,AQ (s[k].toNat:Int) 10=(d:Int):=⟨(AQ (s[k].toNat:Int) 10).toNat,A4⟩;have f:d<=9:=by
    have:AQ (s[k].toNat:Int) 10<=9:=by unfold AQ;omega
    omega
   have bT:=λw=>GS (s[k].toNat:Int) 10 w (Bo _) (Bf _);rw[g]at bT c;rw[show AQ (s[k].toNat:Int) ((10:Nat):Int)=(d:Int)from g]at aC;change Hid _ at bT g;have aF:=Ak2 (acc:=acc) f;rw[<-o4.out]at aF;have x:IntKind.i64.wrap (9223372036854775807-(d:Int))=9223372036854775807-(d:Int):=BI _ A4;have l:(9223372036854775807-(d:Int))/10=(((Bp-d)/10:Nat):Int):=by unfold Bp;omega
   have p:(9223372036854775807-(d:Int)).tdiv 10=(((Bp-d)/10:Nat):Int):=by rw[Int.tdiv_eq_ediv_of_nonneg A4];exact l
   generalize h:(Bp-d)/10=q at aF l p;have b:(decide (q<m)=true/\Hid (Bp=min (acc*10+d) Bp))\/(decide (q<m)=false/\Hid (m*10+d<=Bp)/\Hid (m*10+d=min (acc*10+d) Bp)):=by
    exact AeF
   replace h:=H0 h;clear aF hg;rcases b with⟨c1,c2⟩|⟨c1,c3,c2⟩
   ·exact AeP
   have z:IntKind.i64.wrap ((m:Int)*10)=(m:Int)*10:=BI _ Tf;have v:IntKind.i64.wrap ((m:Int)*10+(d:Int))=(m:Int)*10+(d:Int):=BI _ Tf;go_wp2_with(go_call bT;refine AH ?_);go_round;exact⟨k+1,m*10+d,acc*10+d,AP,AP,A4,c3,c2,aC⟩;exact AzF
  have aD:=A6 (Az 10 s.toList=some acc) (by rw[n.out,<-hg.out,CP s k A4];rfl);exact ZC
 have hno:=A6 (Az 10 s.toList=none) (by unfold Az;rw[AC Q9]);go_in;go_wp2;exact Zj
def Tc(s:A9)(w:A7)(F:s.size<=140737488355328):AD A8 257 #[.string s] w (Fm Bp w (Az 10 s.toList)):=by
 go_in;go_wp2;go_loop[4,5] (λy iv=>∃k m acc:Nat,iv=.int .i64 k/\y=.int .i64 m/\k<=s.size/\Hid (m<=Bp)/\Hid (m=min acc Bp)/\Hid (Ak 10 acc (s.toList.drop k)=Ak 10 0 s.toList)) (λ_ i=>s.size-(intOf i).toNat)
 ·exact⟨0,0,0,rfl,rfl,AR _,H0 (AR _),rfl,H0 L5⟩
 obtain⟨k,m,acc,rfl,rfl,E,G,o4,hg⟩:=hrel;by_cases b:k<s.size
 ·have t:=Aw s k b;have I:(k:Int)<s.size:=A4;rw[t]at hg;clear t;by_cases f:AQ (s[k].toNat:Int) 10<0
  ·have l:=A6 (Az 10 s.toList=none) (by unfold Az;rw[<-hg.out,Ak,AC (show AQ (s[k].toNat:Int) ((10:Nat):Int)<0 from f)];split<;>rfl);go_wp2_with(go_call(Eh _ _ _ (Bo _) (Bf _)) as e w'⟨rfl,rfl⟩);go_ret2;unfold Fm;rw[l.out];exact⟨rfl,rfl⟩
  have aC:=A6 (Ak 10 (acc*10+(AQ (s[k].toNat:Int) ((10:Nat):Int)).toNat) (s.toList.drop (k+1))=Ak 10 0 s.toList) (by rw[<-hg.out,Ak,AA (show¬AQ (s[k].toNat:Int) ((10:Nat):Int)<0 from f)]);obtain⟨d,n⟩:∃d:Nat,AQ (s[k].toNat:Int) 10=(d:Int):=⟨(AQ (s[k].toNat:Int) 10).toNat,A4⟩;have j:d<=9:=by
   have:AQ (s[k].toNat:Int) 10<=9:=by unfold AQ;omega
   omega
  have bT:=λw=>Eh (s[k].toNat:Int) 10 w (Bo _) (Bf _);rw[n]at bT f;rw[show AQ (s[k].toNat:Int) ((10:Nat):Int)=(d:Int)from n]at aC;change Hid _ at bT n;have aF:=Ak2 (acc:=acc) j;rw[<-o4.out]at aF;have H:IntKind.i64.wrap (9223372036854775807-(d:Int))=9223372036854775807-(d:Int):=BI _ A4;have u:(9223372036854775807-(d:Int))/10=(((Bp-d)/10:Nat):Int):=by unfold Bp;omega
  have A:(9223372036854775807-(d:Int)).tdiv 10=(((Bp-d)/10:Nat):Int):=by rw[Int.tdiv_eq_ediv_of_nonneg A4];exact u
  generalize p:(Bp-d)/10=q at aF u A;have c:(decide (q<m)=true/\Hid (Bp=min (acc*10+d) Bp))\/(decide (q<m)=false/\Hid (m*10+d<=Bp)/\Hid (m*10+d=min (acc*10+d) Bp)):=by
   exact AeF
  replace p:=H0 p;clear aF hg;rcases c with⟨c1,c2⟩|⟨c1,c3,c2⟩
  ·exact AeP
  have D:IntKind.i64.wrap (10*(m:Int))=10*(m:Int):=BI _ Tf;have C:IntKind.i64.wrap (10*(m:Int)+d)=10*(m:Int)+d:=BI _ Tf;have x:(m:Int)<9223372036854775807:=by have:=c3.out;unfold Bp at this;omega
  have v:decide ((q:Int)<m)=false:=BO (by have:=of_decide_eq_false c1;omega);have r:=A6 (10*(m:Int)+d=((m*10+d:Nat):Int)) A4;have o:=A6 ((m:Int)=m) rfl;clear c1;generalize(m:Int)=z at D C x v r o⊢;go_wp2_with(go_call bT;refine AH ?_);go_round;exact⟨k+1,m*10+d,acc*10+d,AP,congrArg (Value.int .i64) r.out,A4,c3,c2,aC⟩;exact AzF
 by_cases a:s.size=0
 ·have aD:=A6 (Az 10 s.toList=none) (by unfold Az;rw[AC ((EW s).2 a)]);have g:m=0:=by
   have h1:s.toList=[]:=(EW s).2 a;have:=hg.out;rw[h1]at this;simp[Ak]at this;rw[o4.out,this];rfl
  subst g;have B:decide (0<s.size)=false:=BO A4;replace a:=H0 a;clear hg;go_wp2;go_ret2;unfold Fm;rw[aD.out];exact⟨rfl,rfl⟩
 have B:decide (0<s.size)=true:=Bx A4;have aD:=A6 (Az 10 s.toList=some acc) (by
  unfold Az;rw[AA (λh=>a ((EW s).1 h)),<-hg.out,CP s k A4];rfl)
 exact ZC
def Aih(s:A9)(c:UInt8):(Lib.lastIndexByte s (c:Int)=-1/\Ew c s.toList=none)\/∃i:Nat,i<s.size/\Lib.lastIndexByte s (c:Int)=(i:Int)/\Ew c s.toList=some (s.toList.take i,s.toList.drop (i+1)):=by
 have a:∀(j:Nat)(h:j<s.size),s.data[j]! =s[j]:=λj h=>by
  rw[getElem!_pos s.data j h];rfl
 rcases Lib.lastIdx_spec s (c:Int) s.size with⟨h1,d⟩|⟨i,b,h1,d,k⟩
 ·refine .inl ⟨h1,Mx λx hx=> ?_⟩;grind[O5,AK,JG]
 refine .inr ⟨i,b,h1,?_⟩;rw[a i b]at d;have e:s[i]=c:=CM.1 A4;have f:s.toList=s.toList.take i++c::s.toList.drop (i+1):=by
  rw[<-e,<-Aw,F7]
 conv=>lhs;rw[f]
 refine On (λx hx=> ?_) _;obtain⟨j,g,rfl⟩:=O5 hx;grind[C7,AK,JG]
def St(o:Option (List Nat))(w:A7)(e:Ag)(w':A7):Prop:=match o with
 |none=>e=.returned (.tuple #[.slice none 0 0,.bool false])/\AF w w w'|some l=>∃v:AJ,e=.returned (.tuple #[v,.bool true])/\C4 w' w v l/\AF w w w'
variable{w':A7}
def NG{o:Option (List Nat)}{w:A7}(h:o=none)(a:AF w w w'):St o w (.returned (.tuple #[.slice none 0 0,.bool false])) w':=by subst h;exact⟨rfl,a⟩
variable{v:AJ}
def Aef{o:Option (List Nat)}{w:A7}{l:List Nat}(h:o=some l)(a:C4 w' w v l)(b:AF w w w'):St o w (.returned (.tuple #[v,.bool true])) w':=by subst h;exact⟨v,rfl,a,b⟩
variable{f:Nat}{st:EN}
def Adv{s:A5}(h:s≠[]):E5 (f+1) s st=match G0 st.bias s 0 0 1 with|none=>none|some (d,n)=>match Hz st d with|none=>none|some st'=>E5 f (s.drop n) st':=by rw[E5,AA h];rfl
def Ahi:E5 (f+1) [] st=some st.l:=by rw[E5,AC rfl]
def Aoc{a:EN}{d:Nat}(h:Hz st d=some a):a.l.length<=st.l.length+1:=by
 unfold Hz at h;split at h
 ·cases h
 ·cases h;have:=Fw (st.p+d) (show 0<st.l.length+1 by omega);rw[Qk _ _ _ A4];exact AG _
structure AfM(R:Option (List Nat))(W wr:A7)(B:Nat)(v0 v4 v7 v8 v9 eT:AJ)(r:A9)(f:Nat)(st:EN):Prop where
 s:v0=.string r
 row:C4 wr B v4 st.l
 p:v7=.int .i64 (st.p:Int)
 sign:v8=.int .i64 (st.sign:Int)
 bias:v9=.int .i64 (st.bias:Int)
 first:eT=.bool st.first
 len:st.l.length<=255
 pl:st.p<=255
 sl:st.sign<=1114111
 bl:st.bias<=756
 fuel:r.size<f
 res:Hid (R=E5 f r st)
 below:AF B W wr
variable{B:Nat}
def ZB{w:A7}{l:List Nat}(h:C4 w B v l):∃a c,v=.slice a l.length c/\∀g n k,v=.slice (some ⟨g,0,none⟩) n k->g<w.heap.size:=by
 rcases h.2 with⟨rfl,i⟩|⟨g,d,b,rfl,j,f,_⟩
 ·exact⟨none,0,by rw[i],λg n k e=>LW⟩
 exact⟨_,_,rfl,λg' n k e=>by cases e;exact(En.1 f).1⟩
def Aof(s:A9)(w:A7)(hz:s.size<=100000000):AD A8 352 #[.string s] w (St (GZ s) w):=by
 obtain⟨R,C⟩:=AI (GZ s);rw[C];have p:=λw=>Tryz.strings_LastIndexByte s 45 A4 w;have hcut:=Aih s 45;rw[show(((45:UInt8).toNat:Nat):Int)=45 from rfl]at hcut;have B:(∃z:Int,Lib.lastIndexByte s 45=z/\z<=0/\Hid (R=E5 (s.size+1) s.toList (IL [])))\/∃i:Nat,Lib.lastIndexByte s 45=(i:Int)/\0<i/\i<s.size/\Hid (R=if 255<i then none else if(s.toList.take i).all Gz=true then E5 (s.size-(i+1)+1) (s.toList.drop (i+1)) (IL ((s.toList.take i).map (·.toNat)))else none):=by
  rcases hcut with⟨h1,D⟩|⟨i,V,h1,D⟩
  ·refine .inl ⟨-1,h1,A4,H0 ?_⟩;rw[<-C];unfold GZ;rw[D,AK]
  by_cases h0:i=0
  ·refine .inl ⟨0,by rw[h1,h0];rfl,A4,H0 ?_⟩;rw[<-C];unfold GZ;rw[D,h0];dsimp only;rw[J5,AC rfl,AK]
  refine .inr ⟨i,h1,A4,V,H0 ?_⟩;have J:(s.toList.take i).length=i:=M2;have I:(s.toList.drop (i+1)).length=s.size-(i+1):=by rw[C7,AK]
  rw[<-C];unfold GZ;rw[D];dsimp only;rw[AA (by intro e;rw[e]at J;simp at J;omega),J,I]
 clear hcut;rcases B with⟨z,v,Z,y⟩|⟨i,v,kG,V,y⟩
 ·rw[v]at p;replace p:=H0 p;go_in;go_wp2_with fail;refine(p.out _).mono ?_;rintro e w1⟨rfl,A⟩;obtain rfl:=A.symm;go_wp2_with fail;go_loopw[0,4,7,8,9,10] (λv0 v4 E M F H wr=>∃(r:A9)(f:Nat)(st:EN),r.size<=s.size/\AfM R w wr w v0 v4 E M F H r f st) (λv0 _ _ _ _ _ _=>GO v0)
  ·exact⟨s,s.size+1,IL [],AG _,rfl,C4.nil _ _,rfl,rfl,rfl,rfl,AR _,AR _,by show 128<=1114111;decide,by show 72<=756;decide,A4,y,AU _ _⟩
  exact Ae1
 rw[v]at p;replace p:=H0 p;have hiI:0<(i:Int):=A4;by_cases h255:255<i
 ·have u:255<(i:Int):=A4;have aD:=A6 (R=none) (by rw[y.out,AC h255]);go_in;go_wp2_with fail;refine(p.out _).mono ?_;rintro e w1⟨rfl,A⟩;obtain rfl:=A.symm;go_wp2_with fail;go_ret2;exact NG aD (AU _ _)
 have u:(i:Int)<=255:=A4;have P:=A6 (R=if(s.toList.take i).all Gz=true then E5 (s.size-(i+1)+1) (s.toList.drop (i+1)) (IL ((s.toList.take i).map (·.toNat)))else none) (by rw[y.out,AA h255]);replace y:=H0 y;go_in;go_wp2_with fail;refine(p.out _).mono ?_;rintro e w1⟨rfl,A⟩;obtain rfl:=A.symm;go_wp2_with fail;go_loopw[4,20] (λv4 G wr=>∃k:Nat,G=.int .i64 k/\k<=i/\C4 wr w v4 ((s.toList.take k).map (·.toNat))/\AF w w wr/\Hid ((s.toList.take k).all Gz=true)) (λ_ G _=>i-(intOf G).toNat)
 ·exact⟨0,rfl,AR _,C4.nil _ _,AU _ _,H0 rfl⟩
 obtain⟨k,rfl,hk,j,hbel,t⟩:=hrel;have bD:=hbel.size;by_cases Y:k<i
 ·have cE:(k:Int)<i:=A4;have X:k<s.size:=A4;have W:(k:Int)<s.size:=A4;have o:=DX s k X;obtain⟨c,hc⟩:=AI (s[k]);rw[hc]at o;have b0:=Bo c;have b1:=Bf c;by_cases O:c.toNat<128
  ·have bH:=A6 ((s.toList.take (k+1)).all Gz=true) (by rw[o,KM,t.out];simp[Gz,O]);have kB:=A6 ((s.toList.take (k+1)).map (·.toNat)=(s.toList.take k).map (·.toNat)++[c.toNat]) (by rw[o,Dx];rfl);have x:((s.toList.take k).map (·.toNat)).length<=1000:=by rw[Bz,Cl];omega
   go_wp2_with(at_builtin;refine Qg rfl _ _ rfl c.toNat rfl rfl j hbel bD rfl A4 ?_;intro v' w' K bA _);go_wp2_with fail;go_roundw;exact⟨k+1,AP,A4,by rw[kB.out];exact K,bA,bH⟩;exact AzF
  have aD:=A6 (R=none) (by
   rw[P.out,AA];intro h;have hm:c∈s.toList.take i:=by
    have h1:c∈s.toList.take (k+1):=by rw[o];simp
    have e2:(s.toList.take i).take (k+1)=s.toList.take (k+1):=by rw[List.take_take];congr 1;omega
    rw[<-e2]at h1;exact List.mem_of_mem_take h1
   have:=Et.1 h c hm;unfold Gz at this;simp at this;omega)
  go_wp2_with fail;go_ret2;exact NG aD hbel
 obtain rfl:k=i:=A4;have U:=A6 (R=E5 (s.size-(k+1)+1) (s.extract (k+1) s.size).toList (IL ((s.toList.take k).map (·.toNat)))) (by
  rw[P.out,AC t.out,toList_extract,Bc (l:=s.toList) (i:=s.size) (by rw[AK];exact AG _)])
 have T:=A6 ((s.extract (k+1) s.size).size=s.size-(k+1)) Bk;have x:=A6 (((s.toList.take k).map (·.toNat)).length<=255) (by rw[Bz,Cl];omega);have k0:0<=(k:Int)+1:=A4;have k1:(k:Int)+1<=(s.size:Int):=A4;have kt:((k:Int)+1).toNat=k+1:=A4;obtain⟨L,hL⟩:∃L,(s.toList.take k).map (·.toNat)=L:=⟨_,rfl⟩;rw[hL]at j U x;obtain⟨a4,c4,rfl,-⟩:=ZB j;go_wp2_with fail;go_loopw[0,4,7,8,9,10] (λv0 v4 E M F H wr=>∃(r:A9)(f:Nat)(st:EN),r.size<=s.size/\AfM R w wr w v0 v4 E M F H r f st) (λv0 _ _ _ _ _ _=>GO v0)
 ·exact⟨s.extract (k+1) s.size,s.size-(k+1)+1,IL L,by rw[T.out];omega,rfl,j,rfl,rfl,rfl,rfl,x,AR _,by show 128<=1114111;decide,by show 72<=756;decide,by rw[T.out];omega,U,hbel⟩
 exact Ae1
def AhR:A8.underlying 150=some (.slice (A8.elem 150)):=AO
variable{n:Nat}
def Fc.drop{w:A7}{pa:Option Addr}{c:Nat}{l:List Nat}(h:Fc w pa n c l)(k:Nat)(b:k<=n):∃a,(∀w0,(Instr.slice 150 (.slice pa n c) (some (.int .i64 (k:Int))) none none).run A8 w0=.ok (.slice a (n-k) (c-k)) w0)/\Fc w a (n-k) (c-k) (l.drop k)/\(a=none->pa=none):=by
 refine⟨if c=k then pa else pa.map (·.add (k*1)),λw0=> ?_,?_,λe=>by split at e;exact e;simpa using e⟩
 ·rw[run_slice_l w0 _ pa n c AhR .i64 (k:Int) A4 A4];rfl
 exact Aen
def Fc.take{w:A7}{pa:Option Addr}{c:Nat}{l:List Nat}(h:Fc w pa n c l)(k:Nat)(d:k<=n):∃a,(∀w0,(Instr.slice 150 (.slice pa n c) none (some (.int .i64 (k:Int))) none).run A8 w0=.ok (.slice a k c) w0)/\Fc w a k c (l.take k)/\(a=none->pa=none):=by
 have b:=h.cap;refine⟨if c=0 then pa else pa.map (·.add (0*1)),λw0=> ?_,?_,λe=>by split at e;exact e;simpa using e⟩
 ·rw[run_slice_h w0 _ pa n c AhR .i64 (k:Int) A4 A4];rfl
 exact AkP
def Ab1{ops:Array Oper}{rest:List Oper}{o:Oper}{a:Act}{Q:Exit->Act->A7->Prop}(A:o.guard=none)(s x:CV)(C:o.op=.call {callee:=.builtin .append,args:= #[s,x],argTypes:= #[150,150]}){W0 w0:A7}{l:List Nat}(m:List Nat)(pa:Option Addr)(pc:Nat)(w:a.eval s=v)(hx:a.eval x=.slice pa n pc)(I:pa=none->pc=0)(q:Fc w0 pa n pc m)(b:C4 w0 B v l)(c:AF B W0 w0)(r:B<=w0.heap.size)(E:l.length<=1000000000)(K:n<=1000000000)(h:∀f w',C4 w' B f (l++m)->AF B W0 w'->Aq A8 ops Q rest (a.put o.dst f) w'):Aq A8 ops Q (o::rest) a w0:=by
 have⟨i,hi,hz,hs1,hb1⟩:=R7.i;have p:=q.len;cases hpa:pa with
 |none=>
  subst hpa;obtain rfl:=I rfl;have J:=q.cap;obtain rfl:n=0:=A4;have H:=EP p;subst H;refine wpList_append_own_none A s x _ C B 3 i 1 R7.u hi v l.length _ w b hx ?_;exact h v w0 AS c
 |some ad=>
  subst hpa;have D:∀j u,(m.map Cd)[j]?=some u->w0.cell? (ad.add j)=some u:=by
   intro j u hj;have hjl:j<m.length:=by
    have:=Hk.1 hj;simpa using this.1
   have⟨g,o,e,hc⟩:=q.cells A4;exact Aep
  refine Ig w0 A s x _ C B 3 i _ 1 8 R7.u hi hz hs1 hb1 R7.z AE v l.length _ w b ad n pc (m.map Cd) hx (by simp[p]) D Xh C1 A4 r ?_;intro f w' d G _;refine h f w' ?_ (c.grown G r (λk F=>(Om b k F).1));unfold C4;rw[Aa,Dx,p];exact d
def C4.empty{w:A7}(hB:B<=w.heap.size):C4 (w.alloc (.cells #[] 3)) B (.slice (some ⟨w,0,none⟩) 0 0) []:=by
 exact AdJ
def Bg:A5->A5×Option (A5)
 |[]=>([],none)|c::r=>if c=101\/c=69 then([],some r)else(c::(Bg r).1,(Bg r).2)
def Fn(l:A5):Option Nat:=if 4<l.length then none else Az 10 l
def FJ:A5->Option Int
 |45::r=>(Fn r).map (λn:Nat=> -(n:Int))|43::r=>(Fn r).map (λn:Nat=>(n:Int))|l=>(Fn l).map (λn:Nat=>(n:Int))
def GT(l:A5):Option (Nat×Int):=
 match(match(Bg l).2 with|none=>some 0|some r=>FJ r)with
 |none=>none
 |some m=>
  if((AL 46 (Bg l).1).2.2=true/\(AL 46 (Bg l).1).2.1=[])\/15<(AL 46 (Bg l).1).1.length+(AL 46 (Bg l).1).2.1.length then none
  else match Az 10 ((AL 46 (Bg l).1).1++(AL 46 (Bg l).1).2.1)with
   |none=>none|some n=>if m-(AL 46 (Bg l).1).2.1.length< -22\/22<m-(AL 46 (Bg l).1).2.1.length then none else some (n,m-(AL 46 (Bg l).1).2.1.length)
def DN:A5->Option (Bool×Nat×Int)
 |45::r=>(GT r).map λx=>(true,x)|l=>(GT l).map λx=>(false,x)
def AaL(c:UInt8)(l:A5):Lib.hasPrefix l [c]=match l with|x::_=>(c==x)|[]=>false:=by
 exact Aib
variable{c:UInt8}
def Qq{s:A9}(h:Lib.hasPrefix s.data.toList [c]=false):(⟨(Lib.trimPrefix s.data.toList [c]).toArray⟩:A9)=s:=by
 unfold Lib.trimPrefix;rw[AA AS]
variable{r:A5}
def AeL{s:A9}(h:s.toList=c::r):(⟨(Lib.trimPrefix s.data.toList [c]).toArray⟩:A9)=⟨r.toArray⟩:=by
 unfold Lib.trimPrefix;rw[<-BQ,h,AC (by rw[AaL];simp)];rfl
variable{l:A5}
def Asv:∀(acc:Nat),Ak 10 acc l=some n->n<(acc+1)*10^l.length:=by
 induction l with
 |nil=>intro acc h;simp[Ak]at h;rw[Ep];omega
 |cons c r ih=>
  intro acc h;rw[Ak]at h;split at h
  ·cases h
  have a:(AQ (c:Int) ((10:Nat):Int)).toNat<=9:=by unfold AQ;omega
  have:=ih _ h;refine KJ this ?_;rw[BC,L0,M5 (10^r.length) 10,<-Nat.mul_assoc];exact Jx _ A4
def XO(h:Az 10 l=some n):n<10^l.length:=by
 unfold Az at h;split at h
 ·cases h
 have:=Asv 0 h;omega
def L1(w:A7)(o:Option Int)(e:Ag)(w':A7):Prop:=e=.returned (.tuple #[.int .i64 (o.getD 0),.bool o.isSome])/\w=w'
def Ws(h:Fn l=some n):n<=9999:=by
 unfold Fn at h;split at h
 ·cases h
 have:=XO h;have a:10^l.length<=10^4:=KP AE A4;omega
def AfZ{n:Int}(h:FJ l=some n): -9999<=n/\n<=9999:=by
 unfold FJ at h;split at h;all_goals
  rw[H1]at h;obtain⟨m,a,rfl⟩:=h;have:=Ws a;omega
def AuM(s:A9)(w:A7)(t:s.size<=140737488355328):AD A8 316 #[.string s] w (L1 w (FJ s)):=by
  have A:∃(x:A9)(a:Bool),x.size<=140737488355328/\Hid (FJ s.toList=(Fn x).map (λn:Nat=>if a then -(n:Int)else(n:Int)))/\
      ((a=true/\Lib.hasPrefix s.data.toList [45]=true/\(⟨(Lib.trimPrefix s.data.toList [45]).toArray⟩:A9)=x)\/(a=false/\Lib.hasPrefix s.data.toList [45]=false/\(⟨(Lib.trimPrefix s.data.toList [45]).toArray⟩:A9)=s/\(⟨(Lib.trimPrefix s.data.toList [43]).toArray⟩:A9)=x)):=by
    have u:=AK s
    match hL:s.toList with
    |[]=>
      have k:Lib.hasPrefix s.data.toList [45]=false:=by rw[<-BQ,hL];rfl
      have o:Lib.hasPrefix s.data.toList [43]=false:=by rw[<-BQ,hL];rfl
      exact⟨s,false,t,H0 (by rw[hL];rfl),.inr ⟨rfl,k,Qq k,Qq o⟩⟩
    |c::r=>
      have y:(ByteArray.mk r.toArray).size<=140737488355328:=by rw[<-AK,toList_mk];rw[hL]at u;simp at u;omega
      have p:∀d,Lib.hasPrefix s.data.toList [d]=(d==c):=λd=>by rw[<-BQ,hL,AaL]
      by_cases h1:c=45
      · subst h1
        exact⟨⟨r.toArray⟩,true,y,H0 (by rw[toList_mk];rfl),.inl ⟨rfl,(p 45).trans rfl,AeL hL⟩⟩
      · have k:Lib.hasPrefix s.data.toList [45]=false:=(p 45).trans (by simpa using Jb h1)
        by_cases b:c=43
        · subst b
          exact⟨⟨r.toArray⟩,false,y,H0 (by rw[toList_mk];rfl),.inr ⟨rfl,k,Qq k,AeL hL⟩⟩
        · have o:Lib.hasPrefix s.data.toList [43]=false:=(p 43).trans (by simpa using Jb b)
          refine⟨s,false,t,H0 ?_,.inr ⟨rfl,k,Qq k,Qq o⟩⟩;rw[hL];unfold FJ;split
          · rename_i h;exact absurd (HY h).1 h1
          · rename_i h;exact absurd (HY h).1 b
          · rfl
  have⟨x,a,hx,hV,hcs⟩:=A;have v:=H0 (λw=>QU x w hx);have m:(decide (4<(x.size:Int))=true/\Hid (Fn x.toList=none))\/(decide (4<(x.size:Int))=false/\Hid (Fn x.toList=Az 10 x.toList)):=by
    by_cases h:4<x.size
    · exact .inl ⟨Bx A4,H0 (by unfold Fn;rw[AK,AC h])⟩
    · exact .inr ⟨BO A4,H0 (by unfold Fn;rw[AK,AA h])⟩
  rcases m with⟨z,q2⟩|⟨z,q2⟩
  · have j:=A6 (FJ s.toList=none) TG
    rcases hcs with⟨rfl,h1,b⟩|⟨rfl,h1,b,q⟩;all_goals
      go_in;go_wp2_with(first|(go_call Tryz.strings_CutPrefix;refine AH ?_)|(go_call Tryz.strings_TrimPrefix;refine AH ?_));go_ret2;unfold L1;rw[j.out];exact⟨rfl,rfl⟩
  · cases f:Fn x with
    |none=>
      have j:=A6 (FJ s.toList=none) (by rw[hV.out,f];rfl);have i:=H0 (λw=>by have:=v.out w;rw[<-q2.out,f]at this;exact this);replace f:=H0 f;rcases hcs with⟨rfl,h1,b⟩|⟨rfl,h1,b,q⟩;all_goals
        go_in;go_wp2_with(first|(go_call Tryz.strings_CutPrefix;refine AH ?_)|(go_call Tryz.strings_TrimPrefix;refine AH ?_)|(go_call i;refine AH ?_));go_ret2;unfold L1;rw[j.out];exact⟨rfl,rfl⟩
    |some n=>
      have C:=Ws f;have g:min n Bp=n:=by unfold Bp;omega
      have l:=A6 (FJ s.toList=some (if a then -(n:Int)else(n:Int))) (by rw[hV.out,f];rfl);have i:=A6 (∀w,AD A8 292 #[.string x] w (AzJ (.tuple #[.int .i64 (n:Int),.bool true]) w)) (λw=>by
        have:=v.out w;rw[<-q2.out,f]at this;refine this.mono λe w' h=> ?_;unfold Fm at h;rw[show(some n).getD 0=n from rfl,g]at h;exact h)
      have B:IntKind.i64.wrap (-(n:Int))=-(n:Int):=BI _ A4;change Hid _ at f g;rcases hcs with⟨rfl,h1,b⟩|⟨rfl,h1,b,q⟩;all_goals
        go_in;go_wp2_with(first|(go_call Tryz.strings_CutPrefix;refine AH ?_)|(go_call Tryz.strings_TrimPrefix;refine AH ?_)|(go_call i;refine AH ?_));go_ret2;unfold L1;rw[l.out];exact⟨rfl,rfl⟩
def AjD:Nat:=4621819117588971520
def G6:Nat->Nat
 |0=>4607182418800017408|k+1=>(Ieee.double.mul (G6 k) AjD).getD 0
def AkB:∀k:Fin 22,Ieee.double.mul (G6 k.val) AjD=some (G6 (k.val+1)):=AX
def Ub:Ieee.Datum->Bool
 | .number false m _=>decide (m≠0)|_=>false
def AyD:∀k:Fin 23,Ub (Ieee.double.read (G6 k.val))=true:=AX
def AkX{k:Nat}(h:k<=22):∃m e,Ieee.double.read (G6 k)=.number false m e/\m≠0:=by
 have:=AyD ⟨k,A4⟩;revert this;cases Ieee.double.read (G6 k)with
 |number s m e=>cases s<;>simp[Ub]
 |infinity s=>simp[Ub]|nan s t=>simp[Ub]
variable{m:Nat}{i:Int}
def Aua{x y:Nat}{s t:Bool}{j:Int}(hx:Ieee.double.read x=.number s m i)(a:Ieee.double.read y=.number t n j):Ieee.double.mul x y=some (Ieee.double.nearest (s^^t) (m*n) (i+j)):=by
 unfold Ieee.Format.mul;rw[hx,a];rfl
def AxU{x y:Nat}{s t:Bool}{j:Int}(hx:Ieee.double.read x=.number s m i)(a:Ieee.double.read y=.number t n j)(b:n≠0):∃r,Ieee.double.div x y=some r:=by
 unfold Ieee.Format.div;rw[hx,a];unfold Ieee.Datum.quotient;dsimp only;rw[AA b];exact⟨_,rfl⟩
def HT(f:Nat)(k:Int):Nat:=if k<0 then(Ieee.double.div f (G6 k.natAbs)).getD 0 else(Ieee.double.mul f (G6 k.natAbs)).getD 0
def AlA{s:Bool}(hf:Ieee.double.read f=.number s m i){k:Int}(h:k<0)(a: -22<=k):Ieee.double.div f (G6 k.natAbs)=some (HT f k):=by
 have⟨n,e,hp,hn⟩:=AkX (k:=k.natAbs) A4;have⟨r,hr⟩:=AxU hf hp hn;unfold HT;rw[AC h,hr];rfl
def AlR{s:Bool}(hf:Ieee.double.read f=.number s m i){k:Int}(h:¬k<0)(a:k<=22):Ieee.double.mul f (G6 k.natAbs)=some (HT f k):=by
 have⟨n,e,hp,hn⟩:=AkX (k:=k.natAbs) A4;unfold HT;rw[AA h,Aua hf hp];rfl
def AnC(f:Nat)(k:Int)(w:A7){s:Bool}(hf:Ieee.double.read f=.number s m i)(h: -22<=k)(h1:k<=22):AD A8 317 #[.float .f64 f,.int .i64 k] w (AzJ (.float .f64 (HT f k)) w):=by
 have g:∀j,j<22->∀w t,(binOp .mul t (.float .f64 (G6 j)) (.float .f64 4621819117588971520)).run A8 w=.ok (.float .f64 (G6 (j+1))) w:=λj b w t=>
  OR w .mul t .f64 _ _ _ (AkB ⟨j,b⟩)
 go_in;go_wp2;go_loop[5,10] (λl iv=>∃j:Nat,iv=.int .i64 j/\l=.float .f64 (G6 j)/\j<=k.natAbs) (λ_ iv=>k.natAbs-(intOf iv).toNat)
 ·exact⟨0,rfl,rfl,AR _⟩
 obtain⟨j,rfl,rfl,b⟩:=hrel;by_cases d:j<k.natAbs
 ·have c:=g j A4;go_wp2;go_round;exact⟨j+1,AP,rfl,A4⟩;exact AzF
 obtain rfl:j=k.natAbs:=A4;by_cases a:k<0
 ·have c:∀w t,(binOp .quo t (.float .f64 f) (.float .f64 (G6 k.natAbs))).run A8 w=.ok (.float .f64 (HT f k)) w:=λw t=>OR w .quo t .f64 _ _ _ (AlA hf a h);go_wp2;exact Lv
 have c:∀w t,(binOp .mul t (.float .f64 f) (.float .f64 (G6 k.natAbs))).run A8 w=.ok (.float .f64 (HT f k)) w:=λw t=>OR w .mul t .f64 _ _ _ (AlR hf a h1);go_wp2;exact Lv
def Atf(l:A5):(Lib.indexAny l [101,69]=-1/\Bg l=(l,none))\/∃i:Nat,Lib.indexAny l [101,69]=(i:Int)/\i<l.length/\Bg l=(l.take i,some (l.drop (i+1))):=by
 induction l with
 |nil=>exact .inl ⟨rfl,rfl⟩
 |cons c r ih=>
  unfold Lib.indexAny Bg;by_cases h:c=101\/c=69
  ·have hc:([101,69]:A5).contains c=true:=by rcases h with rfl|rfl<;>rfl
   rw[AC hc,AC h];exact .inr ⟨0,rfl,AN,AN⟩
  rw[AA AS,AA h];rcases ih with⟨h1,a⟩|⟨i,h1,b,a⟩
  ·grind
  grind
def GA(x:Bool×Nat×Int):Nat:=if x.1=true/\x.2.1≠0 then Op.negFloat .f64 (HT (floatOfInt .f64 (x.2.1:Int)) x.2.2)else HT (floatOfInt .f64 (x.2.1:Int)) x.2.2
def Uw(w:A7)(o:Option (Bool×Nat×Int))(e:Ag)(w':A7):Prop:=e=.returned (.tuple #[.float .f64 ((o.map GA).getD 0),.bool o.isSome])/\AF w w w'
def Uu{w:A7}{o:Option (Bool×Nat×Int)}(h:o=none)(a:AF w w w'):Uw w o (.returned (.tuple #[.float .f64 0,.bool false])) w':=by subst h;exact⟨rfl,a⟩
def Aiz(h:n<2^53):∃m i,Ieee.double.read (floatOfInt .f64 (n:Int))=.number false m i:=by
 have e:floatOfInt .f64 (n:Int)=Ieee.double.nearest false n 0:=by
  unfold floatOfInt FloatKind.nearest;rfl
 by_cases a:n=0
 ·subst a;exact⟨_,_,Ays⟩
 exact⟨_,_,AnB a h⟩
def ArS(x:A9):Prop:=∀w,AD A8 315 #[.string x,.string ⟨#[101,69]⟩] w λe w'=>e=.returned (.int .i64 (Lib.indexAny x [101,69]))/\AF w w w'
def OY(s:A9):A9:=⟨(Lib.trimPrefix s.data.toList [45]).toArray⟩
def AxN(s:A9):DN s.toList=(GT (OY s).toList).map λx=>(Lib.hasPrefix s.data.toList [45],x):=by
 have e0:(OY s).toList=Lib.trimPrefix s.data.toList [45]:=toList_mk _;rw[e0,(BQ ..).symm];unfold Lib.trimPrefix
 match hL:s.toList with
 |[]=>rfl
 |c::r=>
  have a:Lib.hasPrefix (c::r) [45]=((45:UInt8)==c):=AaL 45 (c::r);by_cases h:c=45
  ·subst h;rw[a];rfl
  have e:((45:UInt8)==c)=false:=by simpa using Jb h
  rw[a,e];unfold DN;split
  ·rename_i h2;exact absurd (HY h2).1 h
  rfl
def Awa(s:A9):(OY s).size<=s.size:=by
 have e0:(OY s).toList=Lib.trimPrefix s.data.toList [45]:=toList_mk _;rw[<-AK,e0,(BQ ..).symm,<-AK];unfold Lib.trimPrefix;split
 ·simp_all
 omega
def Iy(l:A5)(m:Int):Option (Nat×Int):=
 if((AL 46 l).2.2=true/\(AL 46 l).2.1=[])\/15<(AL 46 l).1.length+(AL 46 l).2.1.length then none
 else match Az 10 ((AL 46 l).1++(AL 46 l).2.1)with
  |none=>none|some n=>if m-(AL 46 l).2.1.length< -22\/22<m-(AL 46 l).2.1.length then none else some (n,m-(AL 46 l).2.1.length)
theorem Wl(h:Bg l=(l,none)):GT l=Iy l 0:=by
 unfold GT;rw[h];rfl
variable{a b:A5}
theorem WG(h:Bg l=(a,some b))(c:FJ b=none):GT l=none:=by
 unfold GT;rw[h];dsimp only;rw[c]
def WT{m:Int}(h:Bg l=(a,some b))(c:FJ b=some m):GT l=Iy a m:=by
 unfold GT;rw[h];dsimp only;rw[c];rfl
def Amj(c:UInt8)(l:A5):(Lib.indexByte l c=-1/\AL c l=(l,[],false))\/∃i:Nat,Lib.indexByte l c=(i:Int)/\i<l.length/\AL c l=(l.take i,l.drop (i+1),true):=by
 exact AaV
def Axt(s:A9)(c:UInt8)(w:A7)(m:s.size<=140737488355328):AD A8 153 #[.string s,.string ⟨#[c]⟩] w (AaA w (AL c s).1 (AL c s).2.1 (AL c s).2.2):=by
 have g:=H0 (AK s);rcases Amj c s with⟨h1,b⟩|⟨i,h1,d,b⟩
 ·have a:=H0 (λw=>Tryz.stringslite_Index_one s c w);rw[<-BQ,h1]at a;rw[b];change Hid _ at b h1;go_in;go_wp2_with(go_call a;refine AH ?_);go_ret3;exact⟨s,⟨#[]⟩,0,rfl,H0 rfl,H0 (toList_mk []),rfl⟩
 have a:=H0 (λw=>Tryz.stringslite_Index_one s c w);rw[<-BQ,h1]at a;have h:i+1<=s.size:=by have:=g.out;omega
 have mixed:A8.follows .mixedOrders=true:=AO;have k:0<=(i:Int)+1:=A4;have c1:(i:Int)<=s.size:=A4;have c2:(i:Int)+1<=(s.size:Int):=A4;have l:IntKind.i64.wrap ((i:Int)+1)=(i:Int)+1:=BI _ A4;have j:=A6 ((s.extract 0 i).toList=s.toList.take i) (by rw[toList_extract];rfl);have f:=A6 ((s.extract (i+1) s.size).toList=s.toList.drop (i+1)) (by rw[J2]);rw[b];change Hid _ at b h1 d;go_in;go_wp2_with(go_call a;refine AH ?_);go_region_o;go_wp2;go_ret3;exact⟨_,_,1,rfl,j,f,rfl⟩
def Anj(s:A9)(c:UInt8)(w:A7)(a:s.size<=140737488355328):AD A8 87 #[.string s,.string ⟨#[c]⟩] w (AaA w (AL c s).1 (AL c s).2.1 (AL c s).2.2):=by
 go_in;go_wp2_with(go_call Axt as e w'⟨ta,tb,n,rfl,h1,h2,rfl⟩);go_ret3;exact⟨ta,tb,n,rfl,h1,h2,rfl⟩
def Aoz(s:A9)(pos:Nat)(h:pos<s.size)(i:128<=(s[pos]'h).toNat):pos+(Utf8.decode s pos).2<=s.size/\∀j(b:pos+j<s.size),j<(Utf8.decode s pos).2->128<=(s[pos+j]'b).toNat:=by
  have m:¬(s[pos]'h).toNat<128:=A4;have c:∀k(a:pos+k<s.size),s.get! (pos+k)=s[pos+k]'a:=λk a=>by
    simp[ByteArray.get!,a];rfl
  have d:∀n,(∀k,1<=k->k<n->(pos+k<s.size/\(s.get! (pos+k)).toNat/64=2))->1<=n->pos+n<=s.size/\∀j(b:pos+j<s.size),j<n->128<=(s[pos+j]'b).toNat:=by
    intro n a h1;refine⟨?_,?_⟩
    · by_cases e:n=1
      · omega
      · have:=(a (n-1) A4 A4).1;omega
    · intro j b f
      by_cases e:j=0
      · grind
      · grind
  simp only[Utf8.decode];repeat' split
  all_goals
    refine d _ ?_ AN;intro k l g;first
      |omega
      | (rename_i hc _
         simp[C0,II,CW]at hc;have:k=1\/k=2\/k=3:=A4;rcases this with rfl|rfl|rfl<;>first|omega|simp_all)
def AbZ{k:Nat}{a w:A7}(h:AF B a w)(b:B<=k)(s:A9)(p:Nat):AF B a (w.iterAt k s p):=
 ⟨h.os,h.tape,h.output,by simp[World.iterAt,Array.size_setIfInBounds];exact h.size,λj hj=>by
  exact AcG⟩
def AmK(w:A7):AD A8 314 #[.string ⟨#[101,69]⟩,.int .i32 65533] w λe w'=>e=.returned (.int .i64 (-1))/\AF w w w':=by
 go_in;go_wp2;go_loopg[5,6] 2 (λg _ _ wx=>∃i:Nat,i+g=2/\wx=w.iter ⟨#[101,69]⟩ i)
 ·exact⟨0,rfl,rfl⟩
 obtain⟨i,b,rfl⟩:=hrel;cases gk with
 |zero=>
  obtain rfl:i=2:=A4;have a:=λty=>run_next_end (P:=A8) w ⟨#[101,69]⟩ 2 ty AE;go_wp2;go_ret;exact⟨rfl,Ah _ _⟩
 |succ g=>
  have c:i=0\/i=1:=A4;rcases c with rfl|rfl
  ·have a:∀ty,(Instr.next (.pointer (some ⟨w,0,none⟩)) true ty).run A8 (w.iter ⟨#[101,69]⟩ 0)=.ok (.tuple #[.bool true,.int .i64 0,.int .i32 101]) (w.iter ⟨#[101,69]⟩ 1):=λty=>run_next_ascii (P:=A8) w ⟨#[101,69]⟩ 0 ty AE AE;go_wp2;go_roundg g
   ·exact⟨1,A4,rfl⟩
   omega
  have a:∀ty,(Instr.next (.pointer (some ⟨w,0,none⟩)) true ty).run A8 (w.iter ⟨#[101,69]⟩ 1)=.ok (.tuple #[.bool true,.int .i64 1,.int .i32 69]) (w.iter ⟨#[101,69]⟩ 2):=λty=>run_next_ascii (P:=A8) w ⟨#[101,69]⟩ 1 ty AE AE;go_wp2;go_roundg g
  ·exact⟨2,A4,rfl⟩
  omega
def As6(r:Int)(w:A7)(d:128<=r)(h1:r<=2147483647)(a:Lib.validRune r=false):AD A8 314 #[.string ⟨#[101,69]⟩,.int .i32 r] w λe w'=>e=.returned (.int .i64 (-1))/\AF w w w':=by
 have c:(r==65533)=false:=by
  simp only[B6,ne_eq];rintro rfl;exact absurd a AE
 have b:=H0 (λw=>Tryz.utf8_ValidRune r w);rw[a]at b;replace a:=H0 a;go_in;go_wp2_with(go_call b;refine AH ?_);go_ret;exact UH
def Am0(r:Int)(w:A7)(o:128<=r)(h1:r<=2147483647)(c:Lib.validRune r=true)(q:(r==65533)=false):AD A8 314 #[.string ⟨#[101,69]⟩,.int .i32 r] w λe w'=>e=.returned (.int .i64 (-1))/\AF w w w':=by
 have l:Utf8.valid r=true:=by
  unfold Lib.validRune at c;have:=Mb c;unfold Utf8.valid;simp only[Gd,C0,II];omega
 obtain⟨u,z4,b⟩:=encode_facts r l o;have m:=H0 (λw=>Tryz.utf8_ValidRune r w);rw[c]at m;have t:∀w,(convert 21 9 (.int .i32 r)).run A8 w=.ok (.string (Utf8.encode r)) w:=λw=>run_convert_int_string w _ _ _ r (by rw[underlying21];rfl) underlying9;generalize Utf8.encode r=rs at u z4 b t;change Hid _ at c l;go_in;go_wp2_with(go_at_call 331;refine(m.out _).mono (AH ?_));by_cases s:rs.size=2
 ·obtain⟨x,hx⟩:=AI (rs[1]' A4);have p:128<=x.toNat:=by
   have:=b A4;simp only[s]at this;rw[<-hx];exact this
  have k:((((⟨#[101,69]⟩:A9)[1]' AE).toNat:Int)==(x:Int))=false:=by
   have e:((⟨#[101,69]⟩:A9)[1]' AE).toNat=69:=rfl;rw[e];simp only[B6,ne_eq];omega
  have mixed:A8.follows .mixedOrders=true:=AO;have n:IntKind.i64.wrap 2=2:=AE;have d:=A6 (∀w,AD A8 47 #[.string ⟨#[]⟩,.int .u8 (x:Int)] w λe w'=>e=.returned (.int .i64 (-1))/\w'=w) (λw=>Tryz.strings_IndexByte ⟨#[]⟩ (x:Int) w);replace b:=H0 b;go_step3;go_wp2_with fail;go_loopg[9] 0 (λg iv wx=>iv=.int .i64 1/\wx=w)
  ·exact⟨rfl,rfl⟩
  obtain⟨rfl,rfl⟩:=hrel;go_wp2_with fail;go_step3;go_wp2_with fail;go_region_o;go_wp2_with fail;refine wp_region_noPanic ?_;refine wp_region_held_drew (S:=λw'=>w'=wr.drew.drew) AO (rfl) (λa=> ?_);refine wpAnyH_take (i:=0) (v:= ?_) rfl AO AO AO (λ_ _ _ h=>h) (Or.inl ⟨BE,?_⟩) a ?_;rotate_left
  ·exact G3
  try simp only[Hy]
  refine wpAnyH_take (i:=1) (v:= ?_) rfl AO AO AO (λ_ _ _ h=>h) (Or.inl ⟨BE,?_⟩) a ?_;rotate_left
  ·exact G3
  try simp only[Hy]
  refine wpAnyH_take (i:=2) (v:= ?_) rfl AO AO AO (λ_ _ _ h=>h) (Or.inl ⟨BE,?_⟩) a ?_;rotate_left
  ·exact G3
  try simp only[Hy]
  refine wpAnyH_take (i:=3) (v:= ?_) rfl AO AO AO (λ_ _ _ h=>h) (Or.inl ⟨BE,?_⟩) a ?_;rotate_left
  ·exact G3
  try simp only[Hy]
  refine wpAnyH_take (i:=4) (v:= ?_) rfl AO AO AO (λ_ _ _ h=>h) (Or.inl ⟨BE,?_⟩) a ?_;rotate_left
  ·exact G3
  try simp only[Hy]
  refine wpAnyH_take (i:=5) (v:= ?_) rfl AO AO AO (λ_ _ _ h=>h) (Or.inl ⟨BE,?_⟩) a ?_;rotate_left
  ·exact G3
  try simp only[Hy]
  refine wpAnyH_take (i:=6) (v:= ?_) rfl AO AO AO (λ_ _ _ h=>h) (Or.inl ⟨BE,?_⟩) a ?_;rotate_left
  ·exact G3
  try simp only[Hy]
  refine Vu 7 (λK j=> ?_);go_simp;refine(d.out _).mono (AH ?_);go_wp2_with fail;refine j.out _ _ (rfl) (λa=> ?_);clear j K;try simp only[Hy]
  refine wpAnyH_take (i:=8) (v:= ?_) rfl AO AO AO (λ_ _ _ h=>h) (Or.inl ⟨BE,?_⟩) a ?_;rotate_left
  ·exact G3
  try simp only[Hy]
  refine wpAnyH_done AO ?_ _;refine NoPanic.normal ?_;go_wp2_with fail;go_ret;exact⟨rfl,(AU _ _).drew.drew⟩
 have y:3<=rs.size:=A4;have z:IntKind.i64.wrap ((rs.size:Int)-1)=(rs.size:Int)-1:=BI _ A4;replace b:=H0 b;go_step3;go_wp2_with fail;go_loopg[9] 0 (λg iv wx=>iv=.int .i64 ((rs.size:Int)-1)/\wx=w)
 ·exact⟨rfl,rfl⟩
 obtain⟨rfl,rfl⟩:=hrel;go_wp2_with fail;rw[Exit.noGoto_ret];go_ret;exact UH
def ArN(r:Int)(w:A7)(a:128<=r)(h1:r<=2147483647):AD A8 314 #[.string ⟨#[101,69]⟩,.int .i32 r] w λe w'=>e=.returned (.int .i64 (-1))/\AF w w w':=by
 cases hv:Lib.validRune r
 ·exact As6 r w a h1 hv
 ·cases hne:(r==65533)
  ·exact Am0 r w a h1 hv hne
  obtain rfl:r=65533:=by simpa using hne
  exact AmK w
def eEL:A5:=[101,69]
def AtP{i:Nat}(h:Lib.NoAny l eEL i)(d:∀j,j<n->∀b,l[i+j]?=some b->128<=b.toNat):Lib.NoAny l eEL (i+n):=λj b f a=>by
 by_cases e:j<i
 ·exact h j b e a
 have c:=d (j-i) A4 b (by rw[show i+(j-i)=j by omega];exact a);simp[eEL,Nl,List.contains_nil,Jw,J1,B6];constructor<;>(rintro rfl;revert c;decide)
def AsF(s:A9)(w:A7)(E:s.size<=8):AD A8 315 #[.string s,.string ⟨#[101,69]⟩] w λe w'=>e=.returned (.int .i64 (Lib.indexAny s.data.toList eEL))/\AF w w w':=by
 have o:decide (8<(s.size:Int))=false:=BO A4;have C:=A6 (∀w,AD A8 332 #[.int .i64 (s.size:Int)] w λe w'=>e=.returned (.bool false)/\w'=w) (λw=>by have:=Tryz.strings_shouldUseASCIISet (s.size:Int) w;rw[o]at this;exact this);clear o;go_in;go_wp2_with(go_call C;refine AH ?_);go_loopg[9,10] s.size (λg _ _ wx=>∃i:Nat,i+g=s.size/\wx.heap[w.heap.size]?=some (.stringIter s i)/\AF w w wx/\Lib.NoAny s.data.toList eEL i)
 ·exact⟨0,A4,World.iter_heap _ _ _,Ah _ _,Lib.NoAny.zero _ _⟩
 have⟨i,hig,hk,hbel,hno⟩:=hrel;have HN:=H0 hno;clear hno;by_cases h:i<s.size
 ·obtain⟨x,hx⟩:∃x:UInt8,s[i]'h=x:=⟨_,rfl⟩;have z:=H0 (show s.data.toList[i]?=some x by rw[<-hx];exact Lib.data_getElem? s i h);by_cases k:x.toNat<128
  ·have t:=λty=>Lib.run_next_ascii_at (P:=A8) wr w s i ty hk h (by rw[hx];exact k);rw[hx]at t;have d:=H0 (Lib.iterAt_heap wr w s i (i+1) hk);have f:=H0 (AbZ hbel (AG _) s (i+1));replace hx:=H0 hx;have m:=Lib.contains_iff_indexByte eEL x;have y:((x:Int)).toNat.toUInt8=x:=AN;have l:=H0 (λw=>Tryz.strings_IndexRune_ascii ⟨#[101,69]⟩ (x:Int) w A4 A4);rw[y]at l;replace y:=H0 y;replace l:Hid (∀w,AD A8 314 #[.string ⟨#[101,69]⟩,.int .i32 (x:Int)] w λe w'=>e=.returned (.int .i64 (Lib.indexByte eEL x))/\w'=w):=l;generalize Lib.indexByte eEL x=q at m l;cases a:eEL.contains x
   ·rw[a]at m;have c:q<0:=by have:=of_decide_eq_false m.symm;omega
    clear m;replace a:=H0 a;go_wp2_with(go_call l;refine AH ?_);go_roundg(s.size-(i+1))
    ·exact⟨i+1,A4,d,f,HN.out.succ z a⟩
    omega
   rw[a]at m;have F:0<=q:=Mb m.symm;clear m;replace a:=H0 a;go_wp2_with(go_call l;refine AH ?_);go_ret;exact⟨by rw[Lib.indexAny_hit HN.out z.out a.out];rfl,f⟩
  have v:128<=(s[i]'h).toNat:=by rw[hx];omega
  have u:=decode_high s i h v;have p:=decode_le s i;have⟨hz,hsk⟩:=Aoz s i h v;have t:=λty=>Lib.run_next_any_at (P:=A8) wr w s i ty hk h;have A:=H0 (AtP (n:=(Utf8.decode s i).2) HN.out (λj D b B=>by
   have c:i+j<s.size:=A4;have:=Lib.data_getElem? s (i+j) c;rw[this]at B;rw[<-Cm B];exact hsk j c D))
  clear hsk;generalize hr:(Utf8.decode s i).1=r at u p t;generalize hn:(Utf8.decode s i).2=n at u hz t A;change Hid _ at hr hn;have d:=Lib.iterAt_heap wr w s i (i+n) hk;have f:=H0 (AbZ hbel (AG _) s (i+n));have l:=H0 (λw=>ArN (r:Int) w A4 A4);change Hid _ at u p d;clear v k;go_wp2_with(go_call l as e wy⟨rfl,hby⟩);go_roundg(s.size-(i+n))
  ·have c:w.heap.size<(wr.iterAt w s (i+n)).heap.size:=(En.1 d).1;exact⟨i+n,A4,by rw[hby.block _ c];exact d,f.out.trans (hby.mono (Nat.le_of_lt c)),A⟩
  have:=u.out;omega
 obtain rfl:i=s.size:=A4;have t:=λty=>Lib.run_next_end_at (P:=A8) wr w s s.size ty hk h;go_wp2;go_ret;exact⟨AeH,hbel⟩
def AuX(s:A9)(w:A7)(I:8<s.size)(J:s.size<=140737488355328):AD A8 315 #[.string s,.string ⟨#[101,69]⟩] w λe w'=>e=.returned (.int .i64 (Lib.indexAny s.data.toList eEL))/\AF w w w':=by
 have m:=zero_of_info (P:=A8) (t:=206) (v:=.agg (Array.replicate 256 (.bool false))) (n:=256) AO;have f:decide (8<(s.size:Int))=true:=Bx A4;have B:=A6 (∀w,AD A8 332 #[.int .i64 (s.size:Int)] w λe w'=>e=.returned (.bool true)/\w'=w) (λw=>by have:=Tryz.strings_shouldUseASCIISet (s.size:Int) w;rw[f]at this;exact this);clear f;obtain⟨set,k⟩:=AI (Lib.setCells eEL);have D:=A6 (∀w,AD A8 238 #[.string ⟨#[101,69]⟩] w λe w'=>e=.returned (.tuple #[.agg set,.bool true])/\w'=w.alloc (.cells set 206)) (λw=>by
  rw[<-k];exact Tryz.strings_makeASCIISet m.1 ⟨#[101,69]⟩ w AE (λj b E=>by
   have:b∈([101,69]:A5):=List.mem_of_getElem? E;simp at this;rcases this with rfl|rfl<;>decide))
 have u:set.size=256:=by rw[<-k];exact Lib.setCells_size _
 have h:set.all (·.oneCell')=true:=by rw[<-k];exact Lib.setCells_one _
 have l:∀x:UInt8,set[x.toNat]?=some (.bool (eEL.contains x)):=λx=>by rw[<-k];exact Lib.setCells_at _ x
 have o:(storeCells ⟨w.heap.size+1,0,none⟩ set.toList 0).run A8 ((w.alloc (.cells set 206)).alloc (.cells (Array.replicate 256 (.bool false)) 206))=.ok () ((w.alloc (.cells set 206)).alloc (.cells set 206)):=by
  have:=run_storeCells_new (P:=A8) (w.alloc (.cells set 206)) 206 (Array.replicate 256 (.bool false)) set (by rw[u];exact m.2) (by rw[u,Array.size_replicate]) h;simpa using this
 have A:=m.1;have y:=A6 (∀x:UInt8,((w.alloc (.cells set 206)).alloc (.cells set 206)).cell? ⟨w.heap.size+1,x.toNat,none⟩=some (.bool (eEL.contains x))) (λx=>by
  rw[Ky _ _ _ _ AN,l])
 have c:AF w w ((w.alloc (.cells set 206)).alloc (.cells set 206)):=(Ah _ _).alloc AN _;change Hid _ at l k h m;go_in;go_wp2_with(first|(go_call B;refine AH ?_)|(go_call D;refine AH ?_));generalize(w.alloc (.cells set 206)).alloc (.cells set 206)=W2 at y c⊢;clear o A;go_loopg[8] s.size (λg C wx=>∃i:Nat,i+g=s.size/\C=.int .i64 i/\wx=W2/\Hid (Lib.NoAny s.data.toList eEL i))
 ·exact⟨0,A4,rfl,rfl,H0 (Lib.NoAny.zero _ _)⟩
 obtain⟨i,G,rfl,rfl,HN⟩:=hrel;by_cases r:i<s.size
 ·have z:(i:Int)<s.size:=A4;obtain⟨x,hx⟩:∃x:UInt8,s[i]'r=x:=⟨_,rfl⟩;have q:=H0 (show s.data.toList[i]?=some x by rw[<-hx];exact Lib.data_getElem? s i r);have d:=y.out x;have H:IntKind.i64.wrap ((i:Int)+1)=(i:Int)+1:=BI _ A4;cases a:eEL.contains x;all_goals
   rw[a]at d;have p:=H0 (Tryz.asciiSet_contains _ x _ _ d);replace a:=H0 a;clear d
  ·go_wp2_with(go_at_call 289;refine p.out.mono (AH ?_));go_roundg(s.size-(i+1))
   ·exact⟨i+1,A4,AP,rfl,H0 (HN.out.succ q a)⟩
   omega
  go_wp2_with(go_at_call 289;refine p.out.mono (AH ?_));go_ret;exact⟨by rw[Lib.indexAny_hit HN.out q.out a.out];rfl,c⟩
 obtain rfl:i=s.size:=A4;have z:¬((s.size:Int)<s.size):=A4;go_wp2;go_ret;exact⟨AeH,c⟩
def Ats(s:A9)(a:s.size<=140737488355328):ArS s:=by
 intro w;by_cases h:s.size<=8
 ·go_call AsF as e w'⟨rfl,hb⟩;exact⟨Sj,hb⟩
 go_call AuX as e w'⟨rfl,hb⟩;exact⟨Sj,hb⟩
def AzC(s:A9)(w:A7)(E:s.size<=140737488355328):AD A8 293 #[.string s] w (Uw w (DN s)):=by
 have o:=H0 (AxN s);have u:=Awa s;have j:=Ats (OY s) A4;obtain⟨x,A⟩:∃x,(⟨(Lib.trimPrefix s.data.toList [45]).toArray⟩:A9)=x:=⟨_,rfl⟩;rw[show OY s=x from A]at o u j;obtain⟨neg,a⟩:=AI (Lib.hasPrefix s.data.toList [45]);rw[a]at o;go_in;go_wp2_with(go_at_call 218;refine(Tryz.strings_CutPrefix _ _ _).mono (AH ?_));refine(j _).mono ?_;rintro e F⟨rfl,hb⟩;clear j;change Hid _ at A a;rcases Atf x with⟨h1,k⟩|⟨i,h1,B,k⟩
 ·rw[h1];have hQ:=A6 (DN s.toList=(Iy x 0).map λy=>(neg,y)) (by rw[o.out,Wl k]);change Hid _ at h1 k;go_wp2_with fail;obtain⟨t,rfl⟩:∃t,t=x:=⟨_,rfl⟩;obtain⟨m,c⟩:∃m:Int,m=0:=⟨_,rfl⟩;rw[<-c]at hQ⊢;have z: -9999<=m/\m<=9999:=A4;obtain⟨q,p⟩:=z;replace c:=H0 c;have l:t.size<=140737488355328:=A4;exact AaR
 rw[h1];rw[AK]at B;have C:IntKind.i64.wrap ((i:Int)+1)=(i:Int)+1:=BI _ A4;have D:(i:Int)<=x.size:=A4;have i3:i+1<=x.size:=A4;have r:=A6 ((x.extract (i+1) x.size).toList=x.toList.drop (i+1)) (by rw[toList_extract,<-AK,Li]);have f:=A6 ((x.extract 0 i).toList=x.toList.take i) (by rw[toList_extract];rfl);have g:(x.extract (i+1) x.size).size<=140737488355328:=by rw[<-AK,r.out,C7,AK];omega
 have d:(x.extract 0 i).size<=140737488355328:=by rw[<-AK,f.out,Cl,AK];omega
 change Hid _ at h1 k g d;go_wp2_with fail;refine(AuM _ _ g).mono (AH ?_);cases b:FJ (x.extract (i+1) x.size).toList with
 |none=>
  have hno:=A6 (DN s.toList=none) (by rw[o.out,WG k.out (by rw[<-r.out];exact b)];rfl);replace b:=H0 b;go_wp2_with fail;go_ret2;exact Uu hno hb
 |some m=>
  have hQ:=A6 (DN s.toList=(Iy (x.extract 0 i).toList m).map λy=>(neg,y)) (by rw[o.out,WT k.out (by rw[<-r.out];exact b),f.out]);obtain⟨q,p⟩:=AfZ b;replace b:=H0 b;rw[show(some m).getD 0=m from rfl,show(some m).isSome=true from rfl];go_wp2_with fail;have l:=d.out;generalize x.extract 0 i=t at hQ l⊢;clear C D i3 B r f g d;exact AaR
def Sc(l:A5):Prop:=∀c∈l,c.toNat<128
def Sc.append(h:Sc a)(k:Sc b):Sc (a++b):=λc hc=>(BL.1 hc).elim (h c) (k c)
def At3(a:Nat):Prop:=(∃s m i,Ieee.double.read a=.number s m i)\/∃s,Ieee.double.read a=.infinity s
variable{E:Ab}
def BM.one{w:A7}{n:Int}(c:UInt8)(b:n=(c:Int))(a:B<=w.heap.size):BM (w.alloc (.cells #[.int .u8 n] E)) B E (.slice (some ⟨w,0,none⟩) 1 1) [c]:=by
 subst b;exact⟨rfl,.inr ⟨w,1,#[.int .u8 (c:Int)],rfl,a,CB w _,AG _,C1,rfl,rfl⟩⟩
def BM.form{w:A7}(h:BM w B E v l):∃a c,v=.slice a l.length c:=by
 exact Wh
def BM.alloc{w:A7}(h:BM w B E v l)(o:Obj):BM (w.alloc o) B E v l:=World.ownsRow.alloc h o
def AlM(m:Nat):GI 10 m=(if m/10=0 then[]else GI 10 (m/10))++[BJ (m%10)]:=by
 by_cases h:m<10
 ·rw[Oo h,AC (Nat.div_eq_of_lt h),JV h];rfl
 rw[Qo h AE,AA A4]
def Z7(n m:Nat)(t:A5):Prop:=(t=[]/\m=n)\/(t≠[]/\(if m=0 then[]else GI 10 m)++t=GI 10 n)
def Z7.step{t:A5}(h:Z7 n m t)(a:0<m\/t=[]):Z7 n (m/10) (BJ (m%10)::t):=by
 refine .inr ⟨AN,?_⟩;rcases h with⟨rfl,rfl⟩|⟨h1,b⟩
 ·exact(AlM m).symm
 have c:m≠0:=by rcases a with a|a;omega;exact absurd a h1
 rw[AA c,AlM m]at b;rw[<-b];simp
def S7{m:A5}(h:∀c∈l,c≠101/\c≠69):Bg (l++m)=(l++(Bg m).1,(Bg m).2):=by
 induction l with
 |nil=>rfl
 |cons c r ih=>
  have a:=h c (CC ..);rw[Di,Bg,AA (by intro hx;rcases hx with hx|hx;exact a.1 hx;exact a.2 hx),ih (λx hx=>h x (Cr _ hx))];rfl
def dig(c:UInt8):Bool:=decide (48<=c.toNat)&&decide (c.toNat<=57)
def AyX:∀n:UInt8,(decide (AQ (n:Int) 10<0))= !(decide (48<=n.toNat)&&decide (n.toNat<=57)):=DZ AX
def Zv(c:UInt8):AQ (c:Int) ((10:Nat):Int)<0↔dig c=false:=by
 have:=AyX c;unfold dig;constructor
 ·intro h;rw[Bx (show AQ (c:Int) 10<0 from h)]at this;exact Acm
 intro h;apply Mb (p:=AQ (c:Int) 10<0);rw[this];rw[h];rfl
def Avn:∀(acc:Nat),Ak 10 acc l=some n->∀c∈l,dig c=true:=by
 induction l with
 |nil=>intro acc h c hc;cases hc
 |cons d r ih=>
  intro acc h c hc;rw[Ak]at h;split at h
  ·cases h
  rename_i hd;rcases Bn.1 hc with rfl|hc
  ·cases hx:dig c
   ·exact absurd ((Zv c).2 hx) hd
   rfl
  exact ih _ h c hc
def AaC(h:Az 10 l=some n):l≠[]/\∀c∈l,dig c=true:=by
 unfold Az at h;split at h
 ·cases h
 rename_i hn;exact⟨hn,Avn 0 h⟩
def Avj{v:Int}(h:FJ r=some v):∃s d:A5,r=s++d/\(s=[]\/s=[45]\/s=[43])/\d≠[]/\∀c∈d,dig c=true:=by
 have b:∀d:A5,(Fn d).isSome=true->d≠[]/\∀c∈d,dig c=true:=λd e=>by
  have⟨n,hn⟩:=Option.isSome_iff_exists.1 e;unfold Fn at hn;split at hn
  ·cases hn
  exact AaC hn
 unfold FJ at h;split at h;all_goals
  rw[H1]at h;have⟨n,hn,_⟩:=h;have a:=b _ (by rw[hn];rfl)
 ·exact⟨[45],_,rfl,.inr (.inl rfl),a⟩
 ·exact⟨[43],_,rfl,.inr (.inr rfl),a⟩
 exact⟨[],_,rfl,.inl rfl,a⟩
structure Av7(l:A5):Prop where
 ne:(AL 46 (Bg l).1).1++(AL 46 (Bg l).1).2.1≠[]
 dg:∀c∈(AL 46 (Bg l).1).1++(AL 46 (Bg l).1).2.1,dig c=true
 pt:¬((AL 46 (Bg l).1).2.2=true/\(AL 46 (Bg l).1).2.1=[])
 ex:∀r,(Bg l).2=some r->∃v,FJ r=some v
def Te{x:Nat×Int}(h:GT l=some x):Av7 l:=by
 have a:∀r,(Bg l).2=some r->∃v,FJ r=some v:=by
  intro r d;cases hv:FJ r with
  |some v=>simp
  |none=>
   grind[WG]
 have b:∃m,Iy (Bg l).1 m=some x:=by
  cases d:(Bg l).2 with
  |none=>
   have e:l=(Bg l).1:=by
    clear h a;induction l with
    |nil=>rfl
    |cons c r ih=>
     rw[Bg]at d⊢;split at d
     ·cases d
     grind
   grind[Wl,Prod.ext]
  |some r=>
   have⟨v,hv⟩:=a r d;have:Bg l=((Bg l).1,some r):=by rw[<-d]
   rw[WT this hv]at h;grind
 have⟨m,b⟩:=b;unfold Iy at b;split at b
 ·cases b
 rename_i hp;split at b
 ·cases b
 rename_i n hn;have f:=AaC hn;exact⟨f.1,f.2,λhx=>hp (.inl hx),a⟩
def AmX(l:A5):∃t:A5,l=(Bg l).1++t/\(((Bg l).2=none/\t=[])\/∃c r,(Bg l).2=some r/\t=c::r/\(c=101\/c=69)):=by
 induction l with
 |nil=>exact⟨[],rfl,.inl ⟨rfl,rfl⟩⟩
 |cons c r ih=>
  rw[Bg];split
  ·simp_all
  simp_all
def okF(c:UInt8):Bool:=dig c||c==46||c==45||c==43||c==101||c==69
def VP(h:dig c=true):okF c=true:=by unfold okF;rw[h];simp
def Adp{x:Nat×Int}(h:GT l=some x):∀c∈l,okF c=true:=by
 have b:=Te h;have⟨t,h1,h2⟩:=AmX l;intro c hc;rw[h1]at hc;rcases BL.1 hc with hc|hc
 ·rw[PT 46 (Bg l).1]at hc;rcases BL.1 hc with hc|hc
  ·exact VP (b.dg c (List.mem_append_left _ hc))
  split at hc
  ·rcases Bn.1 hc with rfl|hc
   ·decide
   exact VP (b.dg c (List.mem_append_right _ hc))
  ·cases hc
 rcases h2 with⟨_,rfl⟩|⟨d,r,e,rfl,f⟩
 ·cases hc
 rcases Bn.1 hc with rfl|hc
 ·rcases f with rfl|rfl<;>decide
 have⟨v,hv⟩:=b.ex r e;obtain⟨s,i,rfl,g,_,a⟩:=Avj hv;rcases BL.1 hc with hc|hc
 ·rcases g with rfl|rfl|rfl
  ·cases hc
  ·obtain rfl:c=45:=Oi;decide
  obtain rfl:c=43:=Oi;decide
 exact VP (a c hc)
def Axm(h:(DN l).isSome=true):∀c∈l,okF c=true:=by
 unfold DN at h;split at h
 ·rw[Option.isSome_map]at h;have⟨x,hx⟩:=Option.isSome_iff_exists.1 h;intro c hc;rcases Bn.1 hc with rfl|hc
  ·decide
  exact Adp hx c hc
 rw[Option.isSome_map]at h;have⟨x,hx⟩:=Option.isSome_iff_exists.1 h;exact Adp hx
def BY:A5->A5×A5
 |[]=>([],[])|c::r=>if dig c then(c::(BY r).1,(BY r).2)else([],c::r)
def RE(l:A5):l=(BY l).1++(BY l).2:=by
 induction l with
 |nil=>rfl
 |cons c r ih=>
  rw[BY];split
  ·show c::r=c::((BY r).1++(BY r).2);rw[<-ih]
  rfl
def Ad1(l:A5):∀c∈(BY l).1,dig c=true:=by
 induction l with
 |nil=>intro c hc;cases hc
 |cons d r ih=>
  rw[BY];split
  ·simp_all
  simp_all
def Ae7(l:A5):(BY l).2=[]\/∃c r,(BY l).2=c::r/\dig c=false:=by
 induction l with
 |nil=>exact .inl rfl
 |cons d r ih=>
  rw[BY];split
  ·exact ih
  rename_i hd;exact .inr ⟨d,r,rfl,by simpa using hd⟩
def GR:A5->Option Int
 |[]=>some 0|c::r=>if c=101\/c=69 then FJ r else none
def JL(all:A5)(f:Nat)(r:A5):Option (Nat×Int):=
 match Az 10 all with
 |none=>none
 |some m=>match GR r with
  |none=>none|some e=>if 15<all.length\/e-f< -22\/22<e-f then none else some (m,e-f)
def YT(l:A5):Option (Nat×Int):=
 match(BY l).2 with
 |[]=>JL (BY l).1 0 []
 |c::r=>if c=46 then(if(BY r).1=[]then none else JL ((BY l).1++(BY r).1) (BY r).1.length (BY r).2)
  else JL (BY l).1 0 (c::r)
def Rw(h:dig c=true):c≠101/\c≠69/\c≠46:=by
 refine⟨?_,?_,?_⟩<;>(rintro rfl;revert h;decide)
def RJ(h:∀c∈a,dig c=true):AL 46 (a++b)=(a++(AL 46 b).1,(AL 46 b).2.1,(AL 46 b).2.2):=by
 induction a with
 |nil=>rfl
 |cons c r ih=>
  rw[Di,AL,AA (Rw (h c (CC ..))).2.2,ih (λx hx=>h x (Cr _ hx))];rfl
def Ag5{A w p:A5}{b:Bool}(hc:AL 46 A=(w,p,b))(c:b=true->p≠[])(m:Int):Iy A m=match Az 10 (w++p)with
   |none=>none
   |some n=>if 15<(w++p).length\/m-p.length< -22\/22<m-p.length then none else some (n,m-p.length):=by
 unfold Iy;rw[hc];rw[Aa];by_cases a:15<w.length+p.length
 ·rw[AC (.inr a)];cases Az 10 (w++p)with
  |none=>rfl|some n=>grind
 rw[AA AS];cases Az 10 (w++p)with
 |none=>rfl
 |some n=>
  dsimp only;by_cases d:m-(p.length:Int)< -22\/22<m-(p.length:Int)
  ·grind
  grind
theorem Sl{A w p:A5}{d:Bool}(a:∀c∈A,c≠101/\c≠69)(hc:AL 46 A=(w,p,d))(e:d=true->p≠[])(f:r=[]\/∃c q,r=c::q/\(c=101\/c=69)):GT (A++r)=JL (w++p) p.length r:=by
 unfold JL;rcases f with rfl|⟨c,q,rfl,b⟩
 ·have h:=S7 (m:=[]) a;rw[Bq]at h⊢;rw[Wl (by rw[h];simp[Bg]),Ag5 hc e];rfl
 have h:=S7 (m:=c::q) a;rw[Bg,AC b]at h;rw[Bq]at h;rw[show GR (c::q)=FJ q from AC b];cases he:FJ q with
 |none=>
  rw[WG h he];grind
 |some m=>
  rw[WT h he,Ag5 hc e]
def AcE(h:¬(c=101\/c=69)):JL a f (c::r)=none:=by
 unfold JL;rw[show GR (c::r)=none from AA h];cases Az 10 a<;>rfl
def Awl(l:A5):YT l=GT l:=by
 have e:=RE l;have k:=Ad1 l;have D:=Ae7 l;generalize ha:(BY l).1=a at e k;unfold YT;rw[ha];have y:∀c∈a,c≠101/\c≠69:=λc hc=>⟨(Rw (k c hc)).1,(Rw (k c hc)).2.1⟩;have G:AL 46 a=(a,[],false):=by have:=RJ (b:=[]) k;simpa[AL]using this
 rcases D with C|⟨c,r,C,E⟩
 ·grind[Sl]
 rw[C]at e⊢;dsimp only;by_cases i:c=46
 ·rw[AC i];subst i;have v:=RE r;have u:=Ad1 r;have z:=Ae7 r;generalize hf:(BY r).1=f at v u;generalize hq:(BY r).2=q at v z;by_cases m:f=[]
  ·subst m;subst v;cases hx:GT l with
   |none=>rfl
   |some x=>
    have B:=Te hx;have hcut:Bg l=(a++46::(Bg r).1,(Bg r).2):=by
     rw[e,S7 y,Bg,AA AE]
    have p:AL 46 (a++46::(Bg r).1)=(a,(Bg r).1,true):=by
     rw[RJ k,AL];simp
    have t:=B.pt;have g:=B.dg;rw[hcut]at t g;rw[p]at t g;exfalso;rcases z with rfl|⟨d,s,rfl,F⟩
    ·exact t ⟨rfl,rfl⟩
    rw[Bg]at t g;by_cases n:d=101\/d=69
    ·grind
    grind
  rw[AA m];have j:∀c∈a++46::f,c≠101/\c≠69:=by
   intro c hc;rcases BL.1 hc with h|h
   ·grind
   rcases Bn.1 h with rfl|h
   ·decide
   exact⟨(Rw (u c h)).1,(Rw (u c h)).2.1⟩
  have w:AL 46 (a++46::f)=(a,f,true):=by
   rw[RJ k,AL];simp
  have A:l=(a++46::f)++q:=by simp_all
  rcases z with rfl|⟨d,s,rfl,F⟩
  ·rw[A,Sl j w (λ_=>m) (.inl rfl)]
  by_cases n:d=101\/d=69
  ·grind[Sl]
  rw[AcE n];cases hx:GT l with
  |none=>rfl
  |some x=>
   have g:=(Te hx).dg;have hcut:(Bg l).1=(a++46::f)++d::(Bg s).1:=by
    rw[A,S7 j,Bg,AA n]
   rw[hcut]at g;have p:AL 46 (a++46::f++d::(Bg s).1)=(a,f++d::(Bg s).1,true):=by
    rw[CQ,RJ k];rw[Di,AL];simp
   grind
 rw[AA i];by_cases o:c=101\/c=69
 ·rw[e,Sl y G (λh=>C5) (.inr ⟨c,r,rfl,o⟩),Bq];rfl
 rw[AcE o];cases hx:GT l with
 |none=>rfl
 |some x=>
  have g:=(Te hx).dg;have hcut:(Bg l).1=a++c::(Bg r).1:=by
   rw[e,S7 y,Bg,AA o]
  rw[hcut,RJ k,AL,AA i]at g;grind
def Yp(s:A9)(w:A7)(i:s.size<=140737488355328):AD A8 259 #[.string s] w (AzJ (.int .i64 ((BY s).1.length:Int)) w):=by
 go_in;go_wp2;go_loop[3] (λiv=>∃k:Nat,iv=.int .i64 k/\k<=s.size/\Hid ((BY s).1.length=k+(BY (s.toList.drop k)).1.length)) (λiv=>s.size-(intOf iv).toNat)
 ·exact⟨0,rfl,AR _,H0 (by rw[C9,Db])⟩
 obtain⟨k,rfl,g,hg⟩:=hrel;by_cases a:k<s.size
 ·have d:=Aw s k a;have l:(k:Int)<s.size:=A4;rw[d,BY]at hg;clear d;by_cases f:AQ (s[k].toNat:Int) 10<0
  ·have c:dig s[k]=false:=(Zv _).1 f;rw[c]at hg;have aD:=A6 ((BY s).1.length=k) hg;clear hg;replace c:=H0 c;go_wp2_with(go_call(Eh _ _ _ (Bo _) (Bf _)) as e w'⟨rfl,rfl⟩);go_ret;exact⟨NF,rfl⟩
  have b:dig s[k]=true:=by
   cases h:dig s[k]
   ·exact absurd ((Zv _).2 h) f
   rfl
  rw[b]at hg;have aC:=A6 ((BY s).1.length=(k+1)+(BY (s.toList.drop (k+1))).1.length) Tm;clear hg;replace b:=H0 b;have j:0<=AQ (s[k].toNat:Int) 10:=A4;go_wp2_with(go_call(Eh _ _ _ (Bo _) (Bf _)) as e w'⟨rfl,rfl⟩);exact JT
 have aD:=A6 ((BY s).1.length=k) (by have:=hg.out;rw[CP s k A4]at this;exact this);clear hg;exact Tx
def Uv{s:A9}(h:s.toList=c::r):∃h0:0<s.size,s[0]=c:=by
 exact Akf
def AgH{d:UInt8}(h:c=d):((c:Int)==(d:Int))=true/\((c:Int)!=(d:Int))=false:=by simp_all
def NU{d:UInt8}(h:c≠d):((c:Int)==(d:Int))=false/\((c:Int)!=(d:Int))=true:=
 Mz (λa=>h (CM.1 A4))
def V1{s:A9}(h:s.toList=c::r):s.toList.isEmpty=false:=by simp_all
def Afv{s:A9}(h:s.toList=[]):s.toList.isEmpty=true:=by simp_all
def So{s:A9}(h:s.toList=c::r):(s.extract 1 s.size).toList=r:=by rw[J2,h];rfl
def Ph(s:A9)(k:Nat):(s.extract k s.size).size<=s.size:=by simp_all
def AyL(s:A9)(w:A7)(R:s.size<=140737488355328):AD A8 260 #[.string s] w (L1 w (GR s)):=by
  match l:s.toList with
  |[]=>
    have H:=Afv l;have M:=A6 (GR []=some 0) rfl;replace l:=H0 l;go_in;go_wp2_with fail;go_ret2;unfold L1;rw[M.out];exact⟨rfl,rfl⟩
  |c::r=>
    have H:=V1 l;obtain⟨Q,hc⟩:=Uv l;have I:1<=(s.size:Int):=A4;by_cases b:c=101\/c=69
    · have j:(((c:Int)==101)=true/\((c:Int)!=101)=false)\/((((c:Int)==101)=false/\((c:Int)!=101)=true)/\(((c:Int)==69)=true/\((c:Int)!=69)=false)):=by
        rcases b with h|h
        · exact .inl (AgH (d:=101) h)
        · exact .inr ⟨NU (d:=101) (by rw[h];decide),AgH (d:=69) h⟩
      have J:∃(x t:A9)(a:Bool),s.extract 1 s.size=t/\x.size<=s.size/\Hid (GR (c::r)=(Fn x).map (λn:Nat=>if a then -(n:Int)else(n:Int)))/\
          ((t.toList.isEmpty=true/\a=false/\x=t)\/(t.toList.isEmpty=false/\a=true/\(∃h:0<t.size,((t[0].toNat:Int)==43)=false/\((t[0].toNat:Int)==45)=true)/\t.extract 1 t.size=x)\/(t.toList.isEmpty=false/\a=false/\(∃h:0<t.size,((t[0].toNat:Int)==43)=true/\((t[0].toNat:Int)==45)=false)/\t.extract 1 t.size=x)\/(t.toList.isEmpty=false/\a=false/\(∃h:0<t.size,((t[0].toNat:Int)==43)=false/\((t[0].toNat:Int)==45)=false)/\x=t)):=by
        have k:=So l;have u:=Ph s 1;have D:GR (c::r)=FJ r:=AC b;rw[D]
        match hR:r with
        |[]=>exact⟨_,_,false,rfl,u,H0 (by rw[k];rfl),.inl ⟨Afv k,rfl,rfl⟩⟩
        |d::q=>
          obtain⟨F,G⟩:=Uv k;have hx:=So k;have E:=CR (Ph (s.extract 1 s.size) 1) u;by_cases h1:d=45
          · refine⟨_,_,true,rfl,E,H0 (by rw[hx,h1];rfl),.inr (.inl ⟨V1 k,rfl,⟨F,?_⟩,rfl⟩)⟩
            rw[G,h1];decide
          · by_cases o:d=43
            · refine⟨_,_,false,rfl,E,H0 (by rw[hx,o];rfl),.inr (.inr (.inl ⟨V1 k,rfl,⟨F,?_⟩,rfl⟩))⟩
              rw[G,o];decide
            · refine⟨_,_,false,rfl,u,H0 ?_,.inr (.inr (.inr ⟨V1 k,rfl,⟨F,by rw[G];exact⟨(NU (d:=43) o).1,(NU (d:=45) h1).1⟩⟩,rfl⟩))⟩
              rw[k];unfold FJ;split
              · rename_i h;exact absurd (HY h).1 h1
              · rename_i h;exact absurd (HY h).1 o
              · rfl
      obtain⟨x,t,a,k,E,hV,p⟩:=J;have v:=H0 (λw=>Tc x w A4);have A:(Hid (Az 10 x.toList=none)/\Hid (Fn x.toList=none))\/(∃n,Hid (Az 10 x.toList=some n)/\((decide (4<(x.size:Int))=true/\Hid (Fn x.toList=none))\/(decide (4<(x.size:Int))=false/\Hid (Fn x.toList=some n)/\n<=9999))):=by
        cases hd:Az 10 x.toList with
        |none=>exact .inl ⟨H0 rfl,H0 (by unfold Fn;rw[hd];split<;>rfl)⟩
        |some n=>
          refine .inr ⟨n,H0 rfl,?_⟩;by_cases h:4<x.size
          · exact .inl ⟨Bx A4,H0 (by unfold Fn;rw[AK,AC h])⟩
          · have D:Fn x.toList=some n:=by unfold Fn;rw[AK,AA h];exact hd
            exact .inr ⟨BO A4,H0 D,Ws D⟩
      change Hid _ at l b;rcases A with⟨C,q2⟩|⟨n,C,⟨K,q2⟩|⟨K,q2,T⟩⟩
      · have i:=A6 (GR (c::r)=none) TG
        have f:=A6 (∀w,AD A8 257 #[.string x] w (AzJ (.tuple #[.int .i64 0,.bool false]) w)) (λw=>by have:=v.out w;rw[C.out]at this;exact this);clear v;rcases j with j|⟨j,z⟩<;>rcases p with⟨g,rfl,rfl⟩|⟨g,rfl,⟨m,a3,a4⟩,a5⟩|⟨g,rfl,⟨m,a3,a4⟩,a5⟩|⟨g,rfl,⟨m,a3,a4⟩,rfl⟩
        all_goals
          go_in;go_wp2_with(go_at_call 257;refine(f.out _).mono (AH ?_));go_ret2;unfold L1;rw[i.out];exact⟨rfl,rfl⟩
      · have i:=A6 (GR (c::r)=none) TG
        have f:=A6 (∀w,AD A8 257 #[.string x] w (AzJ (.tuple #[.int .i64 ((min n Bp:Nat):Int),.bool true]) w)) (λw=>by have:=v.out w;rw[C.out]at this;exact this);clear v;generalize((min n Bp:Nat):Int)=mm at f;rcases j with j|⟨j,z⟩<;>rcases p with⟨g,rfl,rfl⟩|⟨g,rfl,⟨m,a3,a4⟩,a5⟩|⟨g,rfl,⟨m,a3,a4⟩,a5⟩|⟨g,rfl,⟨m,a3,a4⟩,rfl⟩
        all_goals
          go_in;go_wp2_with(go_at_call 257;refine(f.out _).mono (AH ?_));go_ret2;unfold L1;rw[i.out];exact⟨rfl,rfl⟩
      · have y:=A6 (GR (c::r)=some (if a then -(n:Int)else(n:Int))) TG
        have f:=A6 (∀w,AD A8 257 #[.string x] w (AzJ (.tuple #[.int .i64 (n:Int),.bool true]) w)) (λw=>by
          have:=v.out w;rw[C.out]at this;refine this.mono λe w' h=> ?_;unfold Fm at h;rw[show(some n).getD 0=n from rfl,show min n Bp=n by unfold Bp;omega]at h;exact h)
        clear v;have U:IntKind.i64.wrap (-(n:Int))=-(n:Int):=BI _ A4;have S:IntKind.i64.wrap (n:Int)=(n:Int):=BI _ A4;rcases j with j|⟨j,z⟩<;>rcases p with⟨g,rfl,rfl⟩|⟨g,rfl,⟨m,a3,a4⟩,a5⟩|⟨g,rfl,⟨m,a3,a4⟩,a5⟩|⟨g,rfl,⟨m,a3,a4⟩,rfl⟩
        all_goals
          go_in;go_wp2_with(go_at_call 257;refine(f.out _).mono (AH ?_));go_ret2;unfold L1;rw[y.out];exact⟨rfl,rfl⟩
    · have i:=A6 (GR (c::r)=none) (AA b)
      have h1:=NU (d:=101) (λh=>b (.inl h));have o:=NU (d:=69) (λh=>b (.inr h));replace h1:((c:Int)==101)=false/\((c:Int)!=101)=true:=h1;replace o:((c:Int)==69)=false/\((c:Int)!=69)=true:=o;obtain⟨P,L⟩:=h1;obtain⟨O,N⟩:=o;change Hid _ at l b;go_in;go_wp2_with fail;go_ret2;unfold L1;rw[i.out];exact⟨rfl,rfl⟩
def RL(w:A7)(o:Option (Bool×Nat×Int))(e:Ag)(w':A7):Prop:=e=.returned (.tuple #[.float .f64 ((o.map GA).getD 0),.bool o.isSome])/\w=w'
def QW{w:A7}{o:Option (Bool×Nat×Int)}(h:o=none):RL w o (.returned (.tuple #[.float .f64 0,.bool false])) w:=by subst h;exact⟨rfl,rfl⟩
def Azb(s:A9):∃(x:A9)(a:Bool),x.size<=s.size/\Hid (DN s.toList=(GT x).map λy=>(a,y))/\((s.toList.isEmpty=true/\a=false/\x=s)\/(s.toList.isEmpty=false/\a=true/\1<=(s.size:Int)/\(∃h:0<s.size,((s[0].toNat:Int)==45)=true)/\s.extract 1 s.size=x)\/(s.toList.isEmpty=false/\a=false/\1<=(s.size:Int)/\(∃h:0<s.size,((s[0].toNat:Int)==45)=false)/\x=s)):=by
  match hL:s.toList with
  |[]=>exact⟨s,false,AG _,H0 (by rw[hL];rfl),.inl ⟨rfl,rfl,rfl⟩⟩
  |c::r=>
    have⟨hp,hc⟩:=Uv hL;by_cases h:c=45
    · subst h
      exact⟨_,true,Ph s 1,H0 (by rw[So hL];rfl),.inr (.inl ⟨rfl,rfl,A4,⟨hp,AS⟩,rfl⟩)⟩
    · refine⟨s,false,AG _,H0 ?_,.inr (.inr ⟨rfl,rfl,A4,⟨hp,by rw[hc];exact(NU h).1⟩,rfl⟩)⟩
      rw[hL];unfold DN;split
      · grind
      · rfl
def GoI{v:Int}(h:GR l=some v): -9999<=v/\v<=9999:=by
 cases l with
 |nil=>have:(0:Int)=v:=Cm h;omega
 |cons c r=>
  by_cases hc:c=101\/c=69
  ·exact AfZ (((AC hc:GR (c::r)=FJ r).symm).trans h)
  have:(none:Option Int)=some v:=((AA hc:GR (c::r)=none).symm).trans h;cases this
def Abo(l:A5):(BY l).1.length<=l.length:=by
 have:=congrArg List.length (RE l);rw[Aa]at this;omega
def Ago(l:A5):l.take (BY l).1.length=(BY l).1:=(congrArg (List.take (BY l).1.length) (RE l)).trans List.take_left
def Aby(l:A5):l.drop (BY l).1.length=(BY l).2:=(congrArg (List.drop (BY l).1.length) (RE l)).trans List.drop_left
def AoH(x:A9):(x.extract 0 (BY x).1.length).toList=(BY x).1/\(x.extract (BY x).1.length x.size).toList=(BY x).2:=by
 constructor
 ·rw[toList_extract,C9,Ago]
 rw[J2,Aby]
def AyZ(s:A9)(w:A7)(hs:s.size<=1000000000):AD A8 201 #[.string s] w (RL w (DN s)):=by
  obtain⟨x,g,fL,hP,o⟩:=Azb s;replace o:=H0 o;have hxs:x.size<=1000000000:=A4;have zX:=H0 (λw=>Yp x w A4);obtain⟨V,S⟩:=AoH x;have q:=Abo x;rw[AK]at q;have W:=H0 (Awl x);unfold YT at W;generalize hn1:(BY x).1.length=Z at V S q zX;obtain⟨F,ea⟩:=AI (x.extract 0 Z);obtain⟨y,ey⟩:=AI (x.extract Z x.size);rw[ea]at V;rw[ey]at S;rw[<-V,<-S]at W;have htz:F.size<=1000000000:=by rw[<-ea,Lc];omega
  have D:y.size<=1000000000:=by rw[<-ey,Lc];omega
  have hlI:(Z:Int)<=x.size:=A4;have hY:(∃(z:A9),y.toList.isEmpty=false/\1<=(y.size:Int)/\(∃h:0<y.size,((y[0].toNat:Int)==46)=true)/\y.extract 1 y.size=z/\Hid ((BY z).1=[])/\Hid (GT x.toList=none))\/
      (∃(a i:A9)(f:Nat)(B:Bool),Hid (GT x.toList=JL a f i)/\a.size<=2000000000/\i.size<=1000000000/\f<=1000000000/\((y.toList.isEmpty=true/\B=false/\a=F/\i=y/\f=0)\/(y.toList.isEmpty=false/\B=false/\1<=(y.size:Int)/\(∃h:0<y.size,((y[0].toNat:Int)==46)=false)/\a=F/\i=y/\f=0)\/(y.toList.isEmpty=false/\B=true/\1<=(y.size:Int)/\(∃h:0<y.size,((y[0].toNat:Int)==46)=true)/\∃z:A9,y.extract 1 y.size=z/\z.size<=1000000000/\Hid ((BY z).1.length=f)/\((f:Int)==0)=false/\1+(f:Int)<=y.size/\∃b:A9,y.extract 1 (1+f)=b/\F++b=a/\F.size+b.size<=2000000000/\y.extract (1+f) y.size=i))):=by
    have l:=W.out
    match hL:y.toList with
    |[]=>
      rw[hL]at l;exact .inr ⟨F,y,0,false,H0 (by rw[hL];exact l.symm),A4,D,A4,.inl ⟨rfl,rfl,rfl,rfl,rfl⟩⟩
    |c::r=>
      rw[hL]at l;dsimp only at l;obtain⟨hp,hc⟩:=Uv hL;by_cases u:c=46
      · rw[AC u]at l
        have hz:=So hL;by_cases hf:(BY r).1=[]
        · rw[AC hf]at l
          exact .inl ⟨_,rfl,A4,⟨hp,by rw[hc,u];decide⟩,rfl,H0 (by rw[hz];exact hf),H0 l.symm⟩
        · rw[AA hf]at l
          have hl:(BY r).1.length<=r.length:=Abo r;have hyl:y.size=r.length+1:=by rw[<-AK,hL];rfl
          have hb:(y.extract 1 (1+(BY r).1.length)).toList=(BY r).1:=by
            rw[toList_extract,hL,show 1+(BY r).1.length=(BY r).1.length+1 by omega,List.take_succ_cons];exact Ago r
          have Y:(y.extract (1+(BY r).1.length) y.size).toList=(BY r).2:=by
            rw[J2,hL,show 1+(BY r).1.length=(BY r).1.length+1 by omega,List.drop_succ_cons];exact Aby r
          have eD:(y.extract 1 (1+(BY r).1.length)).size<=1000000000:=by rw[<-AK,hb];omega
          refine .inr ⟨F++y.extract 1 (1+(BY r).1.length),y.extract (1+(BY r).1.length) y.size,(BY r).1.length,true,H0 ?_,?_,?_,A4,.inr (.inr ⟨rfl,rfl,A4,⟨hp,by rw[hc,u];decide⟩,_,rfl,?_,H0 (by rw[hz]),?_,A4,_,rfl,rfl,A4,rfl⟩)⟩
          · rw[toList_append,hb,Y];exact l.symm
          · rw[Ix];omega
          · exact CR (Ph _ _) D
          · exact CR (Ph _ _) D
          · have:=FV.2 hf
            simp only[B6,ne_eq];omega
      · rw[AA u]at l
        exact .inr ⟨F,y,0,false,H0 (by rw[hL];exact l.symm),A4,D,A4,.inr (.inl ⟨rfl,rfl,A4,⟨hp,by rw[hc];exact(NU (d:=46) u).1⟩,rfl,rfl,rfl⟩)⟩
  change Hid _ at hn1 V S q;clear W;go_in;go_upto_region 1 with(fail);go_cut[4] (λs4 wx=>s4=.bool g/\w=wx);case first=>as_aux_lemma=>
    rcases o.out with⟨P,rfl,rfl⟩|⟨P,rfl,a2,⟨a3,a4⟩,a5⟩|⟨P,rfl,a2,⟨a3,a4⟩,rfl⟩;all_goals
      go_wp2_with fail;go_meet;exact⟨rfl,rfl⟩
  ·obtain⟨rfl,rfl⟩:=hcut;go_upto_if 23 with(fail);go_cut[0] (λX wx=>X=.string x/\w=wx);case first=>as_aux_lemma=>
     rcases o.out with⟨P,rfl,rfl⟩|⟨P,rfl,a2,⟨a3,a4⟩,a5⟩|⟨P,rfl,a2,⟨a3,a4⟩,rfl⟩;all_goals
       go_wp2_with fail;go_meet;exact⟨by first|rfl|rw[a5],rfl⟩
   ·obtain⟨rfl,rfl⟩:=hcut;go_upto_region 8 with(go_at_call 259;refine(zX.out _).mono (AH ?_));rcases hY with⟨z,b1,b2,⟨T,U⟩,b5,b6,b7⟩|⟨a,i,f,B,R,hallz,hy2z,hfz,N⟩
    · have hno:=A6 (DN s.toList=none) (by rw[hP.out,b7.out];rfl)
      have rI:=A6 (∀w,AD A8 259 #[.string z] w (AzJ (.int .i64 0) w)) (λw=>by
        have:=Yp z w (by rw[<-b5];exact CR (Ph y 1) A4);rw[b6.out]at this;exact this)
      go_wp2_with(go_at_call 259;refine(rI.out _).mono (AH ?_));go_ret2;exact QW hno
    replace N:=H0 N;go_cut[40] (λs40 wx=>s40=.bool B/\w=wx);case first=>as_aux_lemma=>
      rcases N.out with⟨b1,rfl,rfl,rfl,rfl⟩|⟨b1,rfl,b2,⟨T,U⟩,rfl,rfl,rfl⟩|⟨b1,rfl,b2,⟨T,U⟩,_⟩;all_goals
        go_wp2_with fail;go_meet;exact⟨rfl,rfl⟩
    ·obtain⟨rfl,rfl⟩:=hcut;go_upto_if 40 with(fail);go_cut[0,6,7] (λX s6 s7 wx=>X=.string i/\s6=.string a/\s7=.int .i64 (f:Int)/\w=wx);case first=>as_aux_lemma=>
       rcases N.out with⟨b1,rfl,rfl,rfl,rfl⟩|⟨b1,rfl,b2,⟨T,U⟩,rfl,rfl,rfl⟩|⟨b1,rfl,b2,⟨T,U⟩,z,c1,c2,c3,c4,c5,b,c6,c7,c8,c9⟩
       · go_wp2_with fail
         go_meet;exact⟨rfl,rfl,rfl,rfl⟩
       · go_wp2_with fail
         go_meet;exact⟨rfl,rfl,rfl,rfl⟩
       · have rI:=A6 (∀w,AD A8 259 #[.string z] w (AzJ (.int .i64 (f:Int)) w)) (λw=>by
           have:=Yp z w A4;rw[c3.out]at this;exact this)
         have d1:IntKind.i64.wrap (1+(f:Int))=1+(f:Int):=BI _ A4;have d2:(1+(f:Int)).toNat=1+f:=A4;have d3:(1:Int)<=1+(f:Int):=A4;have d4:(0:Int)<=1+(f:Int):=A4;have d5:¬(9223372036854775807<F.size+b.size):=A4;go_wp2_with(go_at_call 259;refine(rI.out _).mono (AH ?_));go_meet;exact⟨rfl,rfl,rfl,rfl⟩
     ·obtain⟨rfl,rfl,rfl,rfl⟩:=hcut;clear N o;have H:=H0 (λw=>Tc a w A4);have C:=H0 (λw=>AyL i w A4);have E:=A6 (DN s.toList=(JL a f i).map λy=>(g,y)) (by rw[hP.out,R.out]);clear hP R;cases A:Az 10 a.toList with
      |none=>
        have hno:=A6 (DN s.toList=none) (by rw[E.out];unfold JL;rw[A];rfl);have hw2:=A6 (∀w,AD A8 257 #[.string a] w (AzJ (.tuple #[.int .i64 0,.bool false]) w)) (λw=>by have:=H.out w;rw[A]at this;exact this);have hw3:=A6 (∀w,AD A8 260 #[.string i] w (AzJ (.tuple #[.int .i64 ((GR i).getD 0),.bool (GR i).isSome]) w)) (λw=>C.out w);generalize(GR i).getD 0=ev at hw3;generalize(GR i).isSome=eb at hw3;replace A:=H0 A;exact AjB
      |some m=>
        have hw2:=A6 (∀w,AD A8 257 #[.string a] w (AzJ (.tuple #[.int .i64 ((min m Bp:Nat):Int),.bool true]) w)) (λw=>by have:=H.out w;rw[A]at this;exact this);cases hE:GR i with
        |none=>
          have hno:=A6 (DN s.toList=none) (by rw[E.out];unfold JL;rw[A];dsimp only;rw[hE];rfl);have hw3:=A6 (∀w,AD A8 260 #[.string i] w (AzJ (.tuple #[.int .i64 0,.bool false]) w)) (λw=>by have:=C.out w;rw[hE]at this;exact this);generalize((min m Bp:Nat):Int)=mm at hw2;change Hid _ at A hE;exact AjB
        |some ev=>
          have hw3:=A6 (∀w,AD A8 260 #[.string i] w (AzJ (.tuple #[.int .i64 ev,.bool true]) w)) (λw=>by have:=C.out w;rw[hE]at this;exact this);have bJ:=GoI hE;have O:=A6 (DN s.toList=(if 15<a.size\/ev-(f:Int)< -22\/22<ev-(f:Int)then none else some (m,ev-(f:Int))).map λy=>(g,y)) (by rw[E.out];unfold JL;rw[A];dsimp only;rw[hE];dsimp only;rw[AK]);have L:=XO A;rw[AK]at L;clear E H C;change Hid _ at A hE;have k0:IntKind.i64.wrap (ev-(f:Int))=ev-(f:Int):=BI _ A4;by_cases h15:15<a.size
          · have hno:=A6 (DN s.toList=none) (by rw[O.out,AC (.inl h15)];rfl)
            have M:15<(a.size:Int):=A4;generalize((min m Bp:Nat):Int)=mm at hw2;replace L:=H0 L;go_wp2_with(first|(go_at_call 257;refine(hw2.out _).mono (AH ?_))|(go_at_call 260;refine(hw3.out _).mono (AH ?_)));go_ret2;exact QW hno
          have M:(a.size:Int)<=15:=A4;have K:m<10^15:=KJ L (KP AE A4);have G:min m Bp=m:=by unfold Bp;omega
          rw[G]at hw2;change Hid _ at G L;by_cases h1:ev-(f:Int)< -22
          · have hno:=A6 (DN s.toList=none) (by rw[O.out,AC (.inr (.inl h1))];rfl)
            replace K:=H0 K;go_wp2_with(first|(go_at_call 257;refine(hw2.out _).mono (AH ?_))|(go_at_call 260;refine(hw3.out _).mono (AH ?_)));go_ret2;exact QW hno
          have h1b:decide (ev-(f:Int)< -22)=false:=BO h1;by_cases h2:22<ev-(f:Int)
          · have hno:=A6 (DN s.toList=none) (by rw[O.out,AC (.inr (.inr h2))];rfl)
            replace K:=H0 K;go_wp2_with(first|(go_at_call 257;refine(hw2.out _).mono (AH ?_))|(go_at_call 260;refine(hw3.out _).mono (AH ?_)));go_ret2;exact QW hno
          have p:=A6 (DN s.toList=some (g,m,ev-(f:Int))) (by rw[O.out,AA A4];rfl);obtain⟨fm,fi,hf⟩:=Aiz (n:=m) (Nat.lt_trans K AE);change Hid _ at hf K;clear O;obtain⟨k,hk⟩:∃k:Int,ev-(f:Int)=k:=⟨_,rfl⟩;rw[hk]at h1 h2 p k0;have hK:k.natAbs<=22:=A4;have aF:=A6 (∀j,j<22->∀w t,(binOp .mul t (.float .f64 (G6 j)) (.float .f64 4621819117588971520)).run A8 w=.ok (.float .f64 (G6 (j+1))) w) (λj hj w t=>OR w .mul t .f64 _ _ _ (AkB ⟨j,hj⟩));have cB:(g=false/\Hid (GA (g,m,k)=HT (floatOfInt .f64 (m:Int)) k))\/(g=true/\((m:Int)!=0)=false/\Hid (GA (g,m,k)=HT (floatOfInt .f64 (m:Int)) k))\/
              (g=true/\((m:Int)!=0)=true/\Hid (GA (g,m,k)=Op.negFloat .f64 (HT (floatOfInt .f64 (m:Int)) k))):=by
            cases g
            · exact .inl ⟨rfl,H0 rfl⟩
            · by_cases h0:m=0
              · exact .inr (.inl ⟨rfl,Q6,H0 (by unfold GA;rw[AA (λh=>h.2 h0)])⟩)
              · exact .inr (.inr ⟨rfl,Xu,H0 Adk⟩)
          have nR:∀v:Nat,Op.unary .neg (.float .f64 v)=(pure (.float .f64 (Op.negFloat .f64 v)):Sem AJ):=λv=>rfl;have knI:IntKind.i64.wrap (-k)=-k:=BI _ A4;have k22:¬(22<k):=h2;have km22: -22<=k:=A4;go_wp2_with(first|(go_at_call 257;refine(hw2.out _).mono (AH ?_))|(go_at_call 260;refine(hw3.out _).mono (AH ?_)));go_loop[13,14] (λpv iv=>∃j:Nat,iv=.int .i64 j/\pv=.float .f64 (G6 j)/\j<=k.natAbs) (λ_ iv=>k.natAbs-(intOf iv).toNat)
          ·exact⟨0,rfl,rfl,AR _⟩
          obtain⟨j,rfl,rfl,hj⟩:=hrel;by_cases hlt:j<k.natAbs
          · have hr:=aF.out j A4
            have bC:(j:Int)<k\/(¬(j:Int)<k/\(j:Int)< -k):=A4;rcases bC with c1|⟨c1,c2⟩;all_goals
              go_wp2_with fail;go_round;exact⟨j+1,AP,rfl,A4⟩;exact AzF
          · obtain rfl:j=k.natAbs:=A4
            have c1:¬(k.natAbs:Int)<k:=A4;have c2:¬(k.natAbs:Int)< -k:=A4;by_cases Q:k<0
            · have hr:∀w t,(binOp .quo t (.float .f64 (floatOfInt .f64 (m:Int))) (.float .f64 (G6 k.natAbs))).run A8 w=.ok (.float .f64 (HT (floatOfInt .f64 (m:Int)) k)) w:=λw t=>OR w .quo t .f64 _ _ _ (AlA hf Q A4)
              rcases cB with⟨rfl,J⟩|⟨rfl,s1,J⟩|⟨rfl,s1,J⟩;all_goals
                go_wp2_with fail;go_ret2;unfold RL;rw[p.out];exact⟨by rw[show∀y,((some y:Option (Bool×Nat×Int)).map GA).getD 0=GA y fromλ_=>rfl,J.out];rfl,rfl⟩
            · have hr:∀w t,(binOp .mul t (.float .f64 (floatOfInt .f64 (m:Int))) (.float .f64 (G6 k.natAbs))).run A8 w=.ok (.float .f64 (HT (floatOfInt .f64 (m:Int)) k)) w:=λw t=>OR w .mul t .f64 _ _ _ (AlR hf Q A4)
              rcases cB with⟨rfl,J⟩|⟨rfl,s1,J⟩|⟨rfl,s1,J⟩;all_goals
                go_wp2_with fail;go_ret2;unfold RL;rw[p.out];exact⟨by rw[show∀y,((some y:Option (Bool×Nat×Int)).map GA).getD 0=GA y fromλ_=>rfl,J.out];rfl,rfl⟩
structure Dm where
 hw:Bool
 w:Int
 hh:Bool
 h:Int
 hd:Bool
 d:Nat
def Af(url:A9)(wv:AJ)(st:Dm):Array AJ:= #[.string url,wv,.bool st.hw,.int .i64 st.w,.bool st.hh,.int .i64 st.h,.bool st.hd,.float .f64 st.d]
def geZ(b:Nat):Bool:=(FloatKind.f64.format.order b 0==some .gt)||(FloatKind.f64.format.order b 0==some .eq)
def IG(h:A5):Nat:=min ((Az 10 h).getD 0) Bp
def SY(h:A5):Nat:=((DN h).map GA).getD 0
def okW(st:Dm)(h:A5):Bool:=(Az 10 h).isSome&&decide (1<=IG h)&& !st.hw&& !st.hd
def okH(st:Dm)(h:A5):Bool:=(Az 10 h).isSome&&decide (1<=IG h)&& !st.hh&& !st.hd
def okX(st:Dm)(h:A5):Bool:=(DN h).isSome&&geZ (SY h)&& !st.hw&& !st.hh&& !st.hd
def takeC(st:Dm)(h:A5)(c:UInt8):Option Dm:=
 if c=119 then(if okW st h=true then some {st with hw:=true,w:=(IG h:Int)}else none)
 else if c=104 then(if okH st h=true then some {st with hh:=true,h:=(IG h:Int)}else none)
 else if c=120 then(if okX st h=true then some {st with hd:=true,d:=SY h}else none)
 else none
def I8(st:Dm)(l:A5):Option Dm:=match l.getLast? with|none=>none|some c=>takeC st l.dropLast c
def Aae(g:Nat)(url:A9)(wv:AJ)(o:Option Dm)(w:A7)(e:Ag)(w':A7):Prop:=
 e=.returned (.bool o.isSome)/\Aj (· =g) w w'/\∀st',o=some st'->w'.heap[g]?=some (.cells (Af url wv st') 109 (0,0))
def SJ{g:Nat}{a:A9}{wv:AJ}{o:Option Dm}{w:A7}(h:o=none)(hc:Aj (· =g) w w'):Aae g a wv o w (.returned (.bool false)) w':=by
 subst h;exact⟨rfl,hc,λ_ x=>by cases x⟩
def Abn(t:A9)(h:0<t.size):I8=I8/\t.toList.getLast?=some t[t.size-1]/\t.toList.dropLast=(t.extract 0 (t.size-1)).toList:=by
 have e:=RV t h;refine⟨rfl,?_,?_⟩
 ·rw[e,PK];rfl
 ·conv=>lhs;rw[e]
  rw[RF]
def u8c{d:UInt8}:(c=d->((c:Int)==(d:Int))=true)/\(c≠d->((c:Int)==(d:Int))=false):=by
 exact Ac8
def Awc(g:Nat)(z:A9)(wv:AJ)(st:Dm)(t:A9)(w:A7)(f:w.heap[g]?=some (.cells (Af z wv st) 109 (0,0)))(Z:t.size<=1000000000):AD A8 242 #[.pointer (some ⟨g,0,none⟩),.string t] w (Aae g z wv (I8 st t) w):=by
 obtain⟨u,A,s,B,k,q⟩:=st;by_cases K:0<t.size;rotate_left
 ·have e:t.toList=[]:=(EW t).2 A4;have o:=A6 (I8 ⟨u,A,s,B,k,q⟩ t.toList=none) NI;have xM:(t.toList==[])=true:=NI;replace e:=H0 e;go_in;go_wp2_with fail;go_ret;exact SJ o (Aj.refl _ _)
 have W:t.toList.isEmpty=false:=by rw[FZ t K];rfl
 obtain⟨-,G,l⟩:=Abn t K;obtain⟨H,hH⟩:=AI (t.extract 0 (t.size-1));rw[hH]at l;have O:H.size<=1000000000:=Wn;have j:=A6 (I8 ⟨u,A,s,B,k,q⟩ t.toList=takeC ⟨u,A,s,B,k,q⟩ H.toList t[t.size-1]) (by unfold I8;rw[G,l]);clear G l;have nS:1<=(t.size:Int):=A4;obtain⟨c,hc⟩:=AI (t[t.size-1]);rw[hc]at j;have V:=BV _ _ 2 _ _ _ f;have X:=BV _ _ 4 _ _ _ f;have U:=BV _ _ 6 _ _ _ f;simp only[Af,GB,Ho,KB]at V X U;have f2:=G4 _ _ 2 _ _ f;have f3:=G4 _ _ 3 _ _ f;have f4:=G4 _ _ 4 _ _ f;have f5:=G4 _ _ 5 _ _ f;have Y:=G4 _ _ 6 _ _ f;have S:=BV _ _ 3 _ _ _ f;have T:=BV _ _ 5 _ _ _ f;have Q:=BV _ _ 7 _ _ _ f;simp only[Af,GB,Ho,KB]at S T Q;change Hid _ at f hc;go_in;by_cases c1:c=119
 ·have x:((c:Int)==119)=true:=by rw[c1];rfl
  have a:=j.out;unfold takeC okW IG at a;rw[AC c1]at a;clear j;replace c1:=H0 c1;have h:=H0 (λw=>QU H w A4);unfold Fm at h;generalize min ((Az 10 H.toList).getD 0) Bp=n at a h;generalize(Az 10 H.toList).isSome=b at a h;rw[<-hc.out]at x;cases b;rotate_left;by_cases F:(n:Int)<1;rotate_left;have F:(1:Int)<=n:=A4;cases u;cases k
  ·replace a:=H0 (a.trans (AC B7));go_wp2_with fail;refine(h.out _).mono (AH ?_);go_wp2;go_ret;exact⟨by rw[a.out];rfl,((Aj.refl (· =g) w).set (g:=g) rfl 2 _).set (g:=g) rfl 3 _,λy e=>by
    rw[a.out]at e;cases e;rw[Ee (Ee f.out)];rfl⟩
  all_goals
   replace a:=H0 (a.trans (AA (by simp<;>omega)));go_wp2_with fail;refine(h.out _).mono (AH ?_);go_wp2;go_ret;exact SJ a (Aj.refl _ _)
 have x:((c:Int)==119)=false:=u8c.2 c1;by_cases c2:c=104
 ·have C:((c:Int)==104)=true:=by rw[c2];rfl
  have a:=j.out;unfold takeC okH IG at a;rw[AA c1,AC c2]at a;clear j;replace c2:=H0 c2;have h:=H0 (λw=>QU H w A4);unfold Fm at h;generalize min ((Az 10 H.toList).getD 0) Bp=n at a h;generalize(Az 10 H.toList).isSome=b at a h;rw[<-hc.out]at x C;cases b;rotate_left;by_cases F:(n:Int)<1;rotate_left;have F:(1:Int)<=n:=A4;cases s;cases k
  ·replace a:=H0 (a.trans (AC B7));go_wp2_with fail;refine(h.out _).mono (AH ?_);go_wp2;go_ret;exact⟨by rw[a.out];rfl,((Aj.refl (· =g) w).set (g:=g) rfl 4 _).set (g:=g) rfl 5 _,λy e=>by
    rw[a.out]at e;cases e;rw[Ee (Ee f.out)];rfl⟩
  all_goals
   replace a:=H0 (a.trans (AA (by simp<;>omega)));go_wp2_with fail;refine(h.out _).mono (AH ?_);go_wp2;go_ret;exact SJ a (Aj.refl _ _)
 have C:((c:Int)==104)=false:=u8c.2 c2;by_cases v:c=120
 ·have D:((c:Int)==120)=true:=by rw[v];rfl
  have a:=j.out;unfold takeC okX geZ SY at a;rw[AA c1,AA c2,AC v]at a;clear j;change Hid _ at c1 c2 v;have h:=H0 (λw=>AzC H w A4);unfold Uw at h;generalize((DN H).map GA).getD 0=n at a h;generalize(DN H).isSome=b at a h;rw[<-hc.out]at x C D;have L:g<w.heap.size:=(En.1 f).1;generalize hr:FloatKind.f64.format.order n 0=r at a;cases b;rotate_left;rcases r with _|_|_|_;rotate_left 2
  iterate 2
   cases u;cases s;cases k
   ·replace a:=H0 (a.trans (AC rfl));have m:g<(w.setCell ⟨g,6,none⟩ (.bool true)).heap.size:=by simpa[World.setCell]using L
    have R:(w.setCell ⟨g,6,none⟩ (.bool true)).cell? ⟨g,7,none⟩=some (.float .f64 q):=(BV _ _ 7 _ _ _ (Ee f)).trans rfl;have N:(w.setCell ⟨g,6,none⟩ (.bool true)).frozen? ⟨g,7,none⟩=false:=G4 _ _ 7 _ _ (Ee f);go_wp2_with fail;refine(h.out _).mono ?_;rintro e w'⟨rfl,i⟩;obtain⟨E,d,rfl⟩:=i.ext;have J:(E9 (w.setCell ⟨g,6,none⟩ (.bool true)) E d).cell? ⟨g,7,none⟩=some (.float .f64 q):=((Km _ E d).cell (p:=⟨g,7,none⟩) m).trans R;have M:(E9 (w.setCell ⟨g,6,none⟩ (.bool true)) E d).frozen? ⟨g,7,none⟩=false:=((Km _ E d).frozen (p:=⟨g,7,none⟩) m).trans N;have I:(E9 (w.setCell ⟨g,6,none⟩ (.bool true)) E d).setCell ⟨g,7,none⟩ (.float .f64 n)=E9 ((w.setCell ⟨g,6,none⟩ (.bool true)).setCell ⟨g,7,none⟩ (.float .f64 n)) E d:=Ans _ _ _ _ _ _ m;have P:(store ⟨g,7,none⟩ (.float .f64 n)).run A8 (E9 (w.setCell ⟨g,6,none⟩ (.bool true)) E d)=.ok () (E9 ((w.setCell ⟨g,6,none⟩ (.bool true)).setCell ⟨g,7,none⟩ (.float .f64 n)) E d):=by
     rw[run_store _ _ _ _ _ rfl,J];dsimp only;rw[M,I];rfl
    clear J M I;go_wp2_with fail;go_ret;exact⟨by rw[a.out];rfl,(((Aj.refl (· =g) w).set (g:=g) rfl 6 _).set (g:=g) rfl 7 _).trans (Aj.of (Km _ _ _)),λy e=>by
     rw[a.out]at e;cases e;rw[UI _ _ _ _ (by simpa[World.setCell]using L),Ee (Ee f.out)];rfl⟩
   rotate_left 3
  all_goals
   replace a:=H0 (a.trans (AA AN));go_wp2_with fail;refine(h.out _).mono ?_;rintro e w'⟨rfl,i⟩;obtain⟨E,d,rfl⟩:=i.ext;go_wp2_with fail;go_ret;exact SJ a (Aj.of i)
 have D:((c:Int)==120)=false:=u8c.2 v;have o:=A6 (I8 ⟨u,A,s,B,k,q⟩ t.toList=none) (by rw[j.out];unfold takeC;rw[AA c1,AA c2,AA v]);rw[<-hc.out]at x C D;change Hid _ at c1 c2 v;go_wp2_with fail;go_ret;exact SJ o (Aj.refl _ _)
end Go.Proofs.YtonomfeipkdmhaaGreatDoor
