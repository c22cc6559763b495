/- Lemmas. -/
import Derived.Test.YtonomfeipkdmhaaGreatDoorZm03
import Derived.Test.YtonomfeipkdmhaaGreatDoorZm05
import Derived.Test.YtonomfeipkdmhaaGreatDoorZm06
import Derived.Laws.RangeAny
import Derived.Laws.ResultCell
import Derived.Laws.Runes
import Derived.Lib.OthersKept
import Derived.Lib.TrimUEq
set_option linter.all false
set_option maxRecDepth 100000
set_option maxHeartbeats 16000000
namespace Go.Proofs.YtonomfeipkdmhaaGreatDoor
open Go renaming wpList->Aq,Operand->CV,World->A7,Calls->AD,Value->AJ,TypeId->Ab,Ending->Ag
open Go.RowKit renaming Below->AF
open Go.RowKit Go.Proofs.Tryz
open Go.Proofs.Tryz renaming prog->A8
def UN{l:A5}(h:l≠[]):(BG l).2<=l.length:=Lib.decodeL_le l h
theorem Af7{l:A5}(h:l≠[]):1<=Ea l/\Ea l<=l.length:=by
 cases l with
 |nil=>exact absurd rfl h
 |cons c r=>
  rw[AvI];have:=Z3 ((CJ c.toNat).2.2-1) (CJ c.toNat).1 (CJ c.toNat).2.1 r;simp;omega
def AtS(pa:Option Addr)(n c:Nat)(l:A5)(w:A7)(h:Fq w pa n c l)(f:0<n)(hu:L6 w):AD A8 98 #[.slice pa n c] w λe w'=>e=.returned (.tuple #[.int .i32 ((BG l).1:Int),.int .i64 ((BG l).2:Int)])/\AF w w w':=by
 obtain⟨g,o,rfl,a⟩:=h.cells f;have d:=h.len;have b:(⟨l.toArray⟩:A9).size=n:=by rw[<-d];rfl
 have:=Tryz.utf8_DecodeRune ⟨l.toArray⟩ g o c w hu (λj i=>by
  rw[a j A4];congr 3;simp[ByteArray.get!,show j<l.length by omega])
 rw[b]at this;have e:Lib.decodeGo ⟨l.toArray⟩=BG l:=by unfold Lib.decodeGo;rw[AA (by rw[b];omega)];rfl
 rw[e]at this;exact this
def AjP(pa:Option Addr)(n c:Nat)(l:A5)(w:A7)(h:Fq w pa n c l)(hn:n<=1000000000)(hu:L6 w):AD A8 51 #[.slice pa n c] w (Bi w (HO l)):=by
 have Z:=h.len;go_in;go_wp2;go_loopw[0] (λv0 wr=>∃(g:Option Addr)(j A f:Nat)(a out:A5),v0=.slice g j A/\Fq w g j A a/\j<f/\j<=n/\DL wr w w out/\AF w w wr/\Hid (HO l=out++DC f a)/\out.length+3*j<=3*n) (λv0 _=>match v0 with| .slice _ k _=>k|_=>0)
 ·exact⟨pa,n,c,n+1,l,[],rfl,h,A4,AG _,DL.fresh w,Ah _ _,H0 (by rw[<-Z];rfl),AN⟩
 obtain⟨g,j,A,f,a,out,rfl,v,hf,V,J,b,C,sL⟩:=hrel;have O:=b.size;have y:=v.len;by_cases R:0<j
 ·have B:a≠[]:=by intro e;rw[e]at y;simp at y;omega
  obtain⟨m,rfl⟩:∃m,f=m+1:=⟨f-1,A4⟩;have M:=v.below b (AG _);have K:=H0 (AtS g j A a wr M R (hu.next b));have L:=T2 a;have p:=UN B;rw[y]at p;have z:=Af7 B;rw[y]at z;have I:DC (m+1) a=if BG a=(65533,1)then Dc++DC m (a.drop (Ea a))else a.take (BG a).2++DC m (a.drop (BG a).2):=by rw[DC,AA B]
  obtain⟨r,o⟩:∃r,(BG a).1=r:=⟨_,rfl⟩;obtain⟨k,D⟩:∃k,(BG a).2=k:=⟨_,rfl⟩;have s:BG a=(r,k):=by rw[<-o,<-D]
  rw[o,D]at K;rw[D]at L p;by_cases d:r=65533/\k=1
  ·obtain⟨rfl,rfl⟩:=d;have E:=A6 (HO l=(out++[239,191,189])++DC m (a.drop (Ea a))) (by rw[C.out,I,AC s,CQ];rfl);obtain⟨q,P⟩:=AI (Ea a);have u:=H0 (λw v=>Ath g j A a w v R C1);rw[P]at E u z;have⟨pa2,hsl,hr2⟩:=v.drop q z.2;change Hid _ at C I o D s P y;go_wp2_with fail;refine K.out.mono ?_;rintro e T⟨rfl,i⟩;have F:=b.trans (i.mono O);have x:=J.keep i;have X:=F.size;go_wp2_with fail;go_call Hw as e w3⟨rfl,hbld3,hb3⟩;have N:(ByteArray.mk #[239,191,189]).toList=[239,191,189]:=toList_mk _;rw[N]at hbld3;have H:=F.trans hb3;replace N:=H0 N;have Y:=H0 (u.out w3 (v.below H (AG _)));go_wp2_with fail;refine Y.out.mono (AH ?_);go_wp2;go_roundw;exact⟨pa2,j-q,A-q,m,a.drop q,out++[239,191,189],rfl,hr2,A4,A4,hbld3,H,E,B7⟩;dsimp only;omega
  have E:=A6 (HO l=(out++a.take k)++DC m (a.drop k)) (by
   rw[C.out,I,AA (by rw[s,PO];exact d),D,CQ])
  have⟨pa2,hsl,hr2⟩:=v.drop k p;have⟨pa3,Q,hr3⟩:=v.take k p;have G:(((r:Int)==65533)=false)\/(((r:Int)==65533)=true/\((k:Int)==1)=false):=by
   by_cases h1:r=65533
   ·refine .inr ⟨by rw[h1];rfl,?_⟩;rw[B6];intro e;exact d ⟨h1,A4⟩
   left;rw[B6];omega
  change Hid _ at C I o D s y d;rcases G with U|⟨U,q2⟩;all_goals
   go_wp2_with fail;refine K.out.mono ?_;rintro e T⟨rfl,i⟩;have F:=b.trans (i.mono O);have x:=J.keep i;have X:=F.size;go_wp2_with fail;go_call Atc as e w3⟨rfl,hbld3,hb3⟩;have H:=F.trans hb3;go_wp2;go_roundw;exact⟨pa2,j-k,A-k,m,a.drop k,out++a.take k,rfl,hr2,A4,A4,hbld3,H,E,by rw[Aa,Cl];omega⟩;dsimp only;omega
 have S:a=[]:=EP A4;have E:=A6 (HO l=out) (by
  rw[C.out,S];cases f with
  |zero=>rw[DC,Bq]
  |succ f=>rw[DC,AC rfl,Bq])
 change Hid _ at C S y;have Q:=H0 (Ml w w out wr J O);go_wp2_with fail;refine Q.out.mono ?_;rintro e T⟨t,rfl,W,hb⟩;go_wp2;go_ret;exact Be (W.out.trans E.out.symm) (b.trans hb)
variable{B k:Nat}{w:A7}
def ApO{a:A7}(h:AF B a w)(b:B<=k)(s:A9)(p:Nat):AF B a (w.iterAt k s p):=
 ⟨h.os,h.tape,h.output,by simp[World.iterAt,Array.size_setIfInBounds];exact h.size,λj hj=>by
  exact AcG⟩
def AnY(s:A9)(pos:Nat):BG (s.toList.drop pos)=Utf8.decode s pos:=by
 rw[BQ];exact Lib.decodeL_drop s pos
def AkU(s:A9)(w:A7)(S:s.size<=100000000)(hu:L6 w):AD A8 337 #[.string s] w (X5 (EY s) w):=by
 have⟨pa,n,c,w1,hcv,hr,hb1⟩:=Aea s w;have B:=hr.len;rw[AK]at B;have L:=H0 (AjP pa n c s w1 hr A4 (hu.next hb1));replace B:=H0 B;go_in;go_wp2_with fail;refine L.out.mono ?_;rintro e a⟨t,rfl,G,E⟩;have C:=hb1.next E;clear hcv hr;have K:t.size<=3*s.size:=by
  rw[<-AK,G.out];have:=TP s;rw[AK]at this;exact this
 go_wp2;go_loopg[3] t.size (λg v wx=>∃(i f:Nat)(l:List Nat),i<=t.size/\g=t.size-i/\t.size-i<f/\wx.heap[a.heap.size]?=some (.stringIter t i)/\C4 wx (a.heap.size+1) v l/\a.heap.size+1<=wx.heap.size/\AF w w wx/\Hid (EY s.toList=l++Eg f (t.toList.drop i))/\l.length<=i)
 ·exact⟨0,t.size+1,[],AR _,rfl,A4,World.iter_heap _ _ _,C4.nil _ _,by simp[World.iter],C.trans ((AU _ _).alloc C.size _),H0 (by unfold EY Aca;rw[<-G.out,AK];rfl),AG _⟩
 have⟨i,f,l,hi,p,hf,hit,hown,hwz,hbel,hv,hll⟩:=hrel;have O:=C.size;by_cases h:i<t.size
 ·have m:t.toList.drop i≠[]:=by
   intro e;have:=congrArg List.length e;rw[C7,AK]at this;simp at this;omega
  obtain⟨d,rfl⟩:∃d,f=d+1:=⟨f-1,A4⟩;have H:=AnY t i;have z:=λty=>Lib.run_next_any_at (P:=A8) wr a t i ty hit h;rw[<-H]at z;have y:=T2 (t.toList.drop i);have j:=UN m;rw[C7,AK]at j;have N:=Ahe (t.toList.drop i);have A:Eg (d+1) (t.toList.drop i)=(BG (t.toList.drop i)).1::Eg d ((t.toList.drop i).drop (BG (t.toList.drop i)).2):=by rw[Eg,AA m]
  obtain⟨r,b⟩:∃r,(BG (t.toList.drop i)).1=r:=⟨_,rfl⟩;obtain⟨k,o⟩:∃k,(BG (t.toList.drop i)).2=k:=⟨_,rfl⟩;rw[b,o,Ka]at A;rw[b,o]at z;rw[o]at y j;rw[b]at N;have M:=A6 (EY s.toList=(l++[r])++Eg d (t.toList.drop (i+k))) (by rw[hv.out,A,CQ];rfl);have D:=H0 (Lib.iterAt_heap wr a t i (i+k) hit);have q:=H0 (ApO hbel (show w.heap.size<=a.heap.size by omega) t (i+k));have J:=H0 (AtZ hown (show a.heap.size<a.heap.size+1 by omega) t (i+k));have u:=H0 (show a.heap.size+1<=(wr.iterAt a t (i+k)).heap.size by simp only[World.iterAt,Array.size_setIfInBounds];exact hwz);change Hid _ at H b o A hit p;go_wp2_with(at_builtin;refine Qg rfl _ _ rfl r rfl rfl J.out (AU _ _) u.out rfl A4 ?_;intro R w' F x _);go_wp2;have I:a.heap.size<(wr.iterAt a t (i+k)).heap.size:=by have:=u.out;omega
  go_roundg(t.size-(i+k))
  ·exact⟨i+k,d,l++[r],A4,rfl,A4,by rw[x.block _ A4];exact D,F,by have:=x.size;have:=u.out;omega,q.out.trans (x.mono A4),M,B7⟩
  have:=p.out;omega
 obtain rfl:i=t.size:=A4;have z:=λty=>Lib.run_next_end_at (P:=A8) wr a t t.size ty hit h;have Q:=A6 (EY s.toList=l) (by
  rw[hv.out,CP t t.size (AG _)];cases f with
  |zero=>exact Bq _
  |succ f=>rw[Eg,AC rfl,Bq])
 replace p:=H0 p;go_wp2;go_ret;exact⟨_,rfl,by rw[Q.out];exact hown.mono A4,hbel⟩
def Sz(w:A7)(o:Option Nat)(e:Ag)(w':A7):Prop:=(∃n:Nat,e=.returned (.tuple #[.int .i64 (n:Int),.bool o.isSome])/\∀v,o=some v->n=v)/\w=w'
variable{n:Nat}
def Mr{o:Option Nat}(h:o=none):Sz w o (.returned (.tuple #[.int .i64 (n:Int),.bool false])) w:=by subst h;exact⟨⟨n,rfl,λv h=>C5⟩,rfl⟩
def AbU{o:Option Nat}(h:o=some n):Sz w o (.returned (.tuple #[.int .i64 (n:Int),.bool true])) w:=by subst h;exact⟨⟨n,rfl,λv h=>by cases h;rfl⟩,rfl⟩
def Ayu(s:A9)(w:A7)(B:s.size<=1100000):AD A8 296 #[.string s] w (Sz w (DR s)):=by
 have hlen:=AK s;go_in;go_wp2;go_loop[4,5] (λv iv=>∃k acc:Nat,iv=.int .i64 k/\v=.int .i64 acc/\k<=s.size/\k<=4/\acc<=65535/\Hid (acc<16^k)/\Hid (Ak 16 acc (s.toList.drop k)=Ak 16 0 s.toList)) (λ_ i=>s.size-(intOf i).toNat)
 ·exact⟨0,0,rfl,rfl,AR _,AR _,AR _,H0 AE,H0 L5⟩
 obtain⟨k,acc,rfl,rfl,A,y,E,kS,c⟩:=hrel;by_cases l:k<s.size
 ·have p:=Aw s k l;have D:(k:Int)<s.size:=A4;rw[p]at c;clear p;have u:=A6 (s.size<=4->DR s.toList=Ak 16 0 s.toList) (λh=>by
   unfold DR Az;rw[AA A4,AA AcM])
  have f:=A6 (4<s.size->DR s.toList=none) (λh=>AC A4);by_cases m:AQ (s[k].toNat:Int) 16<0
  ·have a:=A6 (DR s.toList=none) (by
    by_cases t:s.size<=4
    ·rw[u.out t,<-c.out,Ak,AC (show AQ (s[k].toNat:Int) ((16:Nat):Int)<0 from m)]
    exact f.out A4)
   replace hlen:=H0 hlen;go_wp2_with(go_call(Eh _ _ _ (Bo _) (Bf _)) as e w'⟨rfl,rfl⟩);go_ret2;exact Mr (n:=0) a
  have r:=A6 (Ak 16 (acc*16+(AQ (s[k].toNat:Int) ((16:Nat):Int)).toNat) (s.toList.drop (k+1))=Ak 16 0 s.toList) (by rw[<-c.out,Ak,AA (show¬AQ (s[k].toNat:Int) ((16:Nat):Int)<0 from m)]);obtain⟨d,o⟩:∃d:Nat,AQ (s[k].toNat:Int) 16=(d:Int):=⟨(AQ (s[k].toNat:Int) 16).toNat,A4⟩;have F:d<=15:=by
   have:AQ (s[k].toNat:Int) 16<=15:=by unfold AQ;omega
   omega
  have g:=λw=>Eh (s[k].toNat:Int) 16 w (Bo _) (Bf _);rw[o]at g m;rw[show AQ (s[k].toNat:Int) ((16:Nat):Int)=(d:Int)from o,Jc]at r;change Hid _ at g o;have G:IntKind.i64.wrap (16*(acc:Int))=16*(acc:Int):=BI _ A4;have C:IntKind.i64.wrap (16*(acc:Int)+d)=16*(acc:Int)+d:=BI _ A4;by_cases t:4<=k
  ·have a:=A6 (DR s.toList=none) (f.out A4);replace hlen:=H0 hlen;go_wp2_with(go_call g;refine AH ?_);go_ret2;exact Mr (n:=0) a
  have iQ:=A6 (acc*16+d<16^(k+1)) V0;have j:acc*16+d<=65535:=by
   exact AeZ
  replace hlen:=H0 hlen;go_wp2_with(go_call g;refine AH ?_);go_round;exact⟨k+1,acc*16+d,AP,congrArg (Value.int .i64) A4,A4,A4,j,iQ,r⟩;exact AzF
 have z:=A6 (Ak 16 0 s.toList=some acc) (by rw[<-c.out,CP s k A4];rfl);clear c;by_cases q:s.size=0
 ·have a:=A6 (DR s.toList=none) (by
   have:s.toList=[]:=by rw[<-NK,hlen,q]
   rw[this];rfl)
  have x:decide (0<s.size)=false:=BO A4;change Hid _ at q hlen;go_wp2;go_ret2;exact Mr a
 have b:=A6 (DR s.toList=some acc) (by
  unfold DR Az;rw[AA A4,AA AcM];exact z)
 have x:decide (0<s.size)=true:=Bx A4;replace hlen:=H0 hlen;go_wp2;go_ret2;exact AbU b
def Anq(s:A9)(w:A7)(K:s.size<=1100000):AD A8 319 #[.string s] w (Sz w (Ct s)):=by
 have hlen:=AK s;by_cases I:3<s.size
 ·have a:=A6 (Ct s.toList=none) (AC (.inl A4));have G:3<(s.size:Int):=A4;replace hlen:=H0 hlen;go_in;go_wp2;go_ret2;exact Mr (n:=0) a
 have G:(s.size:Int)<=3:=A4;by_cases c:1<s.size/\s.toList.head?=some 48
 ·have a:=A6 (Ct s.toList=none) (AC (.inr ⟨A4,c.2⟩));have L:1<(s.size:Int):=A4;have p:0<s.size:=A4;have E:((s[0].toNat:Int)==48)=true:=by
   have b:=Aw s 0 p;rw[C9]at b;have:=c.2;rw[b]at this;have e:s[0]=48:=by simpa using this
   rw[e];rfl
  replace hlen:=H0 hlen;clear c;go_in;go_wp2;go_ret2;exact Mr (n:=0) a
 have q:=A6 (Ct s.toList=match Az 10 s.toList with|none=>none|some n=>if 255<n then none else some n) (by
  unfold Ct;rw[AA (by rintro(h|⟨h1,A⟩);omega;exact c ⟨A4,A⟩)];rfl)
 have g:(s.size:Int)<=1\/(1<(s.size:Int)/\∃p:0<s.size,((s[0].toNat:Int)==48)=false):=by
  by_cases h1:1<s.size
  ·refine .inr ⟨A4,A4,?_⟩;simp only[B6,ne_eq];intro h;have b:=Aw s 0 A4;rw[C9]at b;exact c ⟨h1,by rw[b];show some _=some _;rw[show s[0]=48 from CM.1 (by show s[0].toNat=48;omega)]⟩
  exact .inl A4
 clear c;have j:(s.size:Int)<=1\/(1<(s.size:Int)/\∃p:0<s.size,((s[0].toNat:Int)==48)=false):=g;clear g;rcases j with F|⟨F,C,g2⟩;all_goals
  go_in;go_wp2;go_loop[4,5] (λD iv=>∃k acc:Nat,iv=.int .i64 k/\D=.int .i64 acc/\k<=s.size/\acc<=999/\Hid (acc<10^k)/\Hid (Ak 10 acc (s.toList.drop k)=Ak 10 0 s.toList)) (λ_ i=>s.size-(intOf i).toNat)
  ·exact⟨0,0,rfl,rfl,AR _,AR _,H0 AE,H0 L5⟩
  obtain⟨k,acc,rfl,rfl,J,P,kS,m⟩:=hrel;by_cases t:k<s.size
  ·have y:=Aw s k t;have O:(k:Int)<s.size:=A4;rw[y]at m;clear y;have o:=A6 (Az 10 s.toList=Ak 10 0 s.toList) Ai4;by_cases b:AQ (s[k].toNat:Int) 10<0
   ·have a:=A6 (Ct s.toList=none) (by rw[q.out,o.out,<-m.out,Ak,AC (show AQ (s[k].toNat:Int) ((10:Nat):Int)<0 from b)]);replace hlen:=H0 hlen;go_wp2_with(go_call(Eh _ _ _ (Bo _) (Bf _)) as e w'⟨rfl,rfl⟩);go_ret2;exact Mr (n:=0) a
   have z:=A6 (Ak 10 (acc*10+(AQ (s[k].toNat:Int) ((10:Nat):Int)).toNat) (s.toList.drop (k+1))=Ak 10 0 s.toList) (by rw[<-m.out,Ak,AA (show¬AQ (s[k].toNat:Int) ((10:Nat):Int)<0 from b)]);obtain⟨d,v⟩:∃d:Nat,AQ (s[k].toNat:Int) 10=(d:Int):=⟨(AQ (s[k].toNat:Int) 10).toNat,A4⟩;have Q:d<=9:=by
    have:AQ (s[k].toNat:Int) 10<=9:=by unfold AQ;omega
    omega
   have u:=λw=>Eh (s[k].toNat:Int) 10 w (Bo _) (Bf _);rw[v]at u b;rw[show AQ (s[k].toNat:Int) ((10:Nat):Int)=(d:Int)from v,Jc]at z;change Hid _ at u v;have x:=A6 (acc*10+d<10^(k+1)) V0;have r:acc*10+d<=999:=by
    have h1:=x.out;have A:10^(k+1)<=10^3:=KP AE A4;omega
   have R:IntKind.i64.wrap (10*(acc:Int))=10*(acc:Int):=BI _ A4;have N:IntKind.i64.wrap (10*(acc:Int)+d)=10*(acc:Int)+d:=BI _ A4;replace hlen:=H0 hlen;go_wp2_with(go_call u;refine AH ?_);go_round;exact⟨k+1,acc*10+d,AP,congrArg (Value.int .i64) A4,A4,r,x,z⟩;exact AzF
  have B:=A6 (Ak 10 0 s.toList=some acc) (by rw[<-m.out,CP s k A4];rfl);clear m;by_cases c:s.size=0
  ·first
   |(exfalso;omega)
   |(have a:=A6 (Ct s.toList=none) (by
     have:s.toList=[]:=by rw[<-NK,hlen,c]
     rw[this];rfl)
     have M:decide (0<s.size)=false:=BO A4;change Hid _ at c hlen;go_wp2;go_ret2;exact Mr a)
  have o:=A6 (Az 10 s.toList=Ak 10 0 s.toList) Ai4;replace hlen:=H0 hlen;by_cases f:255<acc
  ·have a:=A6 (Ct s.toList=none) (by rw[q.out,o.out,B.out];exact AC f);have H:decide ((acc:Int)<256)=false:=BO A4;go_wp2;go_ret2;exact Mr a
  have l:=A6 (Ct s.toList=some acc) (by rw[q.out,o.out,B.out];exact AA f);have H:decide ((acc:Int)<256)=true:=Bx A4;go_wp2;go_ret2;exact AbU l
def ArJ:Fs A8 22 9 (.string ByteArray.empty) 16:=.mk' underlying22 AO rfl
def Kq(q:UInt8)(s:A9)(l:List A9)(b k:Nat):Prop:=
 (k<=s.size/\b<=k/\Al q s.toList=l.map (·.toList)++Al q (s.toList.drop b)/\∀c∈(s.toList.take k).drop b,c≠q)\/(s.size<k/\Al q s.toList=l.map (·.toList))
def AyF(l:A5){b:Nat}(h:b<=k)(a:k<=l.length):l.drop b=(l.take k).drop b++l.drop k:=by
 conv=>lhs;rw[(F7 k l).symm]
 rw[Ge AS]
variable{q:UInt8}{s:A9}
def Kq.on{l:List A9}{b:Nat}(h:Kq q s l b k)(hk:k<s.size)(hc:s[k]≠q):Kq q s l b (k+1):=by
 exact Ac5
def Kq.new{l:List A9}{b:Nat}(h:Kq q s l b k)(e:k<s.size)(hc:s[k]=q):Kq q s (l++[s.extract b k]) (k+1) (k+1):=by
 rcases h with⟨_,d,a,f⟩|⟨h,_⟩
 ·refine .inl ⟨A4,AG _,?_,?_⟩
  ·rw[a,AyF s d Dy,Aw s k e,hc,P3,Nv _ f];simp[toList_extract]
  rw[Cj Fx];intro c hc;cases hc
 omega
def Kq.fin{l:List A9}{b:Nat}(h:Kq q s l b k)(a:k=s.size):Kq q s (l++[s.extract b k]) (k+1) (k+1):=by
 exact Aie
def AgL(s:A9)(q:UInt8)(w:A7)(t:s.size<=1100000):AD A8 295 #[.string s,.int .u8 (q:Int)] w (AaH w 9 (Al q s)):=by
 go_in;go_wp2;go_loopw[5,6,7] (λv j i wr=>∃(k b:Nat)(l:List A9),i=.int .i64 k/\k<=s.size+1/\b<=k/\j=.int .i64 b/\Hid (Kq q s l b k)/\l.length<=k/\OwnS wr w 9 v l/\AF w w wr) (λ_ _ i _=>s.size+1-(intOf i).toNat)
 ·exact Ahu
 obtain⟨k,b,l,rfl,p,f,rfl,c,n,hown,hbel⟩:=hrel;have aP:=hbel.size;by_cases a:k<s.size
 ·have⟨e1,n1⟩:=Mz (show¬(k:Int)=(s.size:Int)by omega);have r:(k:Int)<s.size:=A4;have m:(k:Int)<=s.size:=A4;by_cases hc:s[k]=q
  ·have d:((s[k].toNat:Int)==(q:Int))=true:=by rw[hc];simp
   have aC:=H0 (c.out.new a hc);replace hc:=H0 hc;exact Aar
  have d:((s[k].toNat:Int)==(q:Int))=false:=by
   simp only[B6,ne_eq];intro h;exact hc (CM.1 A4)
  have aC:=H0 (c.out.on a hc);replace hc:=H0 hc;exact Aeq
 by_cases e:k=s.size
 ·have⟨e1,n1⟩:=LQ (show(k:Int)=(s.size:Int)by omega);have m:(k:Int)<=s.size:=A4;have aC:=H0 (c.out.fin e);replace e:=H0 e;exact Aar
 have o:(s.size:Int)<k:=A4;have g:=A6 (l.map (·.toList)=Al q s) (by
  rcases c.out with⟨h,_⟩|⟨_,h⟩
  ·omega
  exact h.symm)
 go_wp2;go_ret;exact⟨_,l,rfl,g,hown,hbel⟩
variable{v:AJ}
def OwnS.front10{E:Ab}{l:List A9}(h:OwnS w B E v l)(p:0<l.length):∃g b,v=.slice (some ⟨g,0,none⟩) l.length b/\l.length<=b/\g<w.heap.size/\∀i(h:i<l.length),w.cell? ⟨g,i,none⟩=some (.string l[i]):=by
 rcases h.2 with⟨k,m⟩|⟨g,a,d,rfl,n,e,f,q,c,j⟩
 ·omega
 refine⟨g,a,rfl,f,(En.1 e).1,λi o=> ?_⟩;have:=KH h i A4;rw[this];simp
def J6(n:Nat):AJ:=.int .i64 (n:Int)
def DG(w:A7)(B:Nat)(v:AJ)(l:List Nat):Prop:=w.ownsRow B 3 1 v l.length (l.map J6)
def DG.nil(w:A7)(B:Nat):DG w B (.slice none 0 0) []:=KQ _ _ _ _
variable{l:List Nat}
def DG.form(h:DG w B v l):∃a c,v=.slice a l.length c:=by
 exact Wh
variable{w':A7}
def DG.below{K:Nat}(h:DG w B v l)(hb:AF K w w')(a:w.heap.size<=K):DG w' B v l:=by
 exact Sn
def DG.less{a:Nat}(h:DG w B v l)(b:a<=B):DG w a v l:=by
 exact Wq
def DG.front(h:DG w B v l)(p:0<l.length):∃g b,v=.slice (some ⟨g,0,none⟩) l.length b/\l.length<=b/\g<w.heap.size/\B<=g/\∀i(h:i<l.length),w.cell? ⟨g,i,none⟩=some (.int .i64 ((l[i]:Nat):Int)):=by
 rcases h.2 with⟨n,o⟩|⟨g,a,d,rfl,j,e,f,q,c,m⟩
 ·omega
 refine⟨g,a,rfl,f,(En.1 e).1,j,λi k=> ?_⟩;have:=KH h i A4;rw[this];simp[k,J6]
def Ni:Fs A8 150 3 (.int .i64 0) 8:=.mk' underlying150 AO rfl
variable{ops:Array Oper}{rest:List Oper}{Q:Exit->Act->A7->Prop}
def Agf{o:Oper}{a:Act}(e:o.guard=none)(s x:CV)(g:o.op=.call {callee:=.builtin .append,args:= #[s,x],argTypes:= #[150,150]}){W0 w0:A7}(b:List Nat)(d:a.eval s=v)(hx:a.eval x=.slice (some ⟨w0,0,none⟩) b.length b.length)(hown:DG w0 B v l)(hbel:AF B W0 w0)(hB:B<=w0.heap.size)(m:l.length<=100000000)(j:b.length<=8)(h:∀a' c' w',DG w' B (.slice a' (l.length+b.length) c') (l++b)->AF B W0 w'->Aq A8 ops Q rest (a.put o.dst (.slice a' (l.length+b.length) c')) w'):Aq A8 ops Q (o::rest) a (w0.alloc (.cells (b.map J6).toArray 3)):=by
 have⟨i,hi,hz,hs1,hb1⟩:=Ni.i;refine Ig (w0.alloc (.cells (b.map J6).toArray 3)) e s x 150 g B 3 i (.int .i64 0) 1 8 Ni.u hi hz hs1 hb1 Ni.z AE v l.length (l.map J6) d (hown.alloc _) ⟨w0,0,none⟩ b.length b.length (b.map J6) hx AN
  (Ahn w0 _ _) (by intro y f;obtain⟨n,_,rfl⟩:=EU.1 f;rfl) C1 A4 B7 ?_
 intro c w' hown' aN p;have hO:DG w' B c (l++b):=by unfold DG;rw[Aa,Dx];exact hown'
 exact Aii
def ArW{o:Oper}{a:Act}(A:o.guard=none)(s x:CV)(C:o.op=.call {callee:=.builtin .append,args:= #[s,x],argTypes:= #[150,150]}){W0 w0:A7}{K:Nat}{u:AJ}{m:List Nat}(r:a.eval s=v)(hx:a.eval x=u)(b:DG w0 B v l)(w:DG w0 K u m)(c:AF B W0 w0)(q:B<=w0.heap.size)(O:l.length<=100000000)(M:m.length<=100000000)(h:∀e f w',DG w' B (.slice e (l.length+m.length) f) (l++m)->AF B W0 w'->Aq A8 ops Q rest (a.put o.dst (.slice e (l.length+m.length) f)) w'):Aq A8 ops Q (o::rest) a w0:=by
 have⟨i,hi,hz,hs1,hb1⟩:=Ni.i;rcases w.2 with⟨hu,L⟩|⟨g,n,H,hu,S,P,R,T,E,N⟩
 ·have I:=EP L;refine wpList_append_own_none A s x 150 C B 3 i 1 Ni.u hi v l.length _ r b (hx.trans hu) ?_;obtain⟨e,f,rfl⟩:=b.form;subst I;have:=h e f w0 AS c;exact this
 refine Ig w0 A s x 150 C B 3 i (.int .i64 0) 1 8 Ni.u hi hz hs1 hb1 Ni.z AE v l.length _ r b ⟨g,0,none⟩ m.length n (m.map J6) (hx.trans hu) AN
  (λj y J=>World.ownsRow.cells w (by rw[hu];rfl) j y J) Xh C1 A4 q ?_
 intro D w' d G _;have p:DG w' B D (l++m):=by unfold DG;rw[Aa,Dx];exact d
 obtain⟨e,f,rfl⟩:=p.form;rw[Aa]at p⊢;exact h e f w' p (c.grown G q (λk F=>(b.lt k F).1))
def ED:List (A5)->Option (List Nat)
 |[]=>some []
 |t::r=>match Ct t with|none=>none|some v=>(ED r).map (v:: ·)
def JF(t:A5):Option (List Nat):=match ED (Al 46 t)with|some [a,b,c,d]=>some [256*a+b,256*c+d]|_=>none
def AiS:∀{ts:List (A5)}{x:List Nat},ED ts=some x->x.length=ts.length
 |[],x,h=>by cases h;rfl
 |t::r,x,h=>by
  rw[ED]at h;cases hv:Ct t with
  |none=>rw[hv]at h;cases h
  |some v=>
   rw[hv]at h;cases hr:ED r with
   |none=>rw[hr]at h;cases h
   |some y=>rw[hr]at h;cases h;simp[AiS hr]
def AjT:∀k acc(l:A5),Gl k acc l=match ED (Al 46 l)with
  |none=>none|some x=>if x.length=k+1 then some (x.foldl (λa v=>a*256+v) acc)else none
 |0,acc,l=>by
  rw[Gl,ZG];cases hm:(AL 46 l).2.2
  ·rw[ED];cases Ct (AL 46 l).1 with
   |none=>rfl|some v=>simp[ED]
  rw[AC rfl,AC rfl,ED];cases Ct (AL 46 l).1 with
  |none=>rfl
  |some v=>
   cases hr:ED (Al 46 (AL 46 l).2.1)with
   |none=>rfl
   |some y=>
    have h1:=AiS hr;simp_all[Ik,Option.map_some]
 |k+1,acc,l=>by
  rw[Gl,ZG];cases hm:(AL 46 l).2.2
  ·rw[ED];cases Ct (AL 46 l).1 with
   |none=>rfl|some v=>simp[ED]
  rw[AC rfl,AC rfl,ED];cases Ct (AL 46 l).1 with
  |none=>rfl
  |some v=>
   dsimp only;rw[AjT];cases hr:ED (Al 46 (AL 46 l).2.1)with
   |none=>rfl|some y=>simp
def Su:∀{ts:List (A5)}{x:List Nat},ED ts=some x->∀v∈x,v<=255
 |[],x,h=>by cases h;intro v a;cases a
 |t::r,x,h=>by
  rw[ED]at h;cases a:Ct t with
  |none=>rw[a]at h;cases h
  |some v=>
   rw[a]at h;cases hr:ED r with
   |none=>rw[hr]at h;cases h
   |some y=>
    rw[hr]at h;cases h;intro u hu;rcases Bn.1 hu with rfl|hu
    ·exact Aa5 a
    exact Su hr u hu
def AjW(t:A5):JF t=(Fk t).map λn=>[n/65536,n%65536]:=by
 unfold JF Fk;rw[AjT];cases hr:ED (Al 46 t)with
 |none=>rfl
 |some x=>
  have f:=Su hr
  match x with
  |[]=>rfl|[a]=>rfl|[a,b]=>rfl|[a,b,c]=>rfl
  |[a,b,c,d]=>
   have g:=f c AN;have h:=f d AN;simp;omega
  |a::b::c::d::e::r=>simp
def QR(w:A7)(o:Option (List Nat))(e:Ag)(w':A7):Prop:=(∃v,e=.returned (.tuple #[v,.bool o.isSome])/\∀x,o=some x->DG w' w v x)/\AF w w w'
variable{o:Option (List Nat)}
def VI(h:o=none)(a:AF w w w'):QR w o (.returned (.tuple #[v,.bool false])) w':=by subst h;exact⟨⟨v,rfl,λx h=>C5⟩,a⟩
variable{x:List Nat}
def Ym(h:o=some x)(a:DG w' w v x)(b:AF w w w'):QR w o (.returned (.tuple #[v,.bool true])) w':=by subst h;exact⟨⟨v,rfl,λy h=>by cases h;exact a⟩,b⟩
def Avs{ts:List (A5)}(h:k<ts.length):ED (ts.drop k)=match Ct ts[k]with|none=>none|some v=>(ED (ts.drop (k+1))).map (v:: ·):=by
 rw[Fr h];rfl
def AkL(q:UInt8)(s:A9){l:List A9}(h:l.map (·.toList)=Al q s):l.length<=s.size+1/\0<l.length:=by
 have h1:=congrArg List.length h;rw[Bz]at h1;have a:=UV q s;rw[AK]at a;exact⟨A4,by rw[h1];exact FV.2 (Ik _ _)⟩
def V5(q:UInt8):∀(l:A5),∀t∈Al q l,t.length<=l.length
 |[],t,h=>by simp[Al]at h;subst h;exact AG _
 |d::r,t,h=>by
  rw[Lw]at h;split at h
  ·rcases Bn.1 h with rfl|h
   ·simp
   exact CR (V5 q r t h) (Nat.le_succ _)
  have a:=Ik q r;cases hs:Al q r with
  |nil=>grind
  |cons x y=>
   rw[hs]at h;have b:=V5 q r;rw[hs]at b;rcases Bn.1 h with rfl|h
   ·grind
   grind
def DG.made(w:A7)(a:B<=w.heap.size)(l:List Nat)(b:l.length<=10):DG ((w.alloc (.cells (l.map J6).toArray 3)).drew) B (.slice (some ⟨w,0,none⟩) l.length l.length) l:=by
 refine⟨AN,.inr ⟨w,l.length,(l.map J6).toArray,rfl,a,CB w _,AG _,C1,AN,?_⟩⟩;rw[Bc AN]
def Awq(s:A9)(w:A7)(hs:s.size<=1100000):AD A8 297 #[.string s] w (QR w (JF s)):=by
 have X:=H0 (AgL s 46 w A4);have W:Hid (AD A8 295 #[.string s,.int .u8 46] w (AaH w 9 (Al 46 s.toList))):=X;clear X;go_in;go_wp2_with fail;refine W.out.mono ?_;rintro e J⟨v,l,rfl,G,q,C⟩;obtain⟨bH,cZ⟩:=AkL 46 s G;obtain⟨g,cp,rfl,fA,hg,f⟩:=q.front10 cZ;have O:=A6 (∀t∈l,t.size<=1100000) (λt ht=>by
  have h1:t.toList∈Al 46 s.toList:=by rw[<-G.out];exact EU.2 ⟨t,ht,rfl⟩
  have U:=V5 46 _ _ h1;rw[AK,AK]at U;omega)
 change Hid _ at f q;clear W;have M:=A6 (JF s.toList=match ED (l.map (·.toList))with|some [a,b,c,d]=>some [256*a+b,256*c+d]|_=>none) (by unfold JF;rw[G.out]);replace G:=H0 G;go_wp2_with fail;go_loopw[5,6] (λv i wr=>∃(k:Nat)(P:List Nat),i=.int .i64 k/\k<=l.length/\P.length=k/\Hid (ED (l.map (·.toList))=(ED ((l.map (·.toList)).drop k)).map (P++ ·))/\DG wr J v P/\AF J J wr) (λ_ i _=>l.length-(intOf i).toNat)
 ·exact⟨0,[],rfl,AR _,rfl,H0 (by rw[C9];cases ED (l.map (·.toList))<;>rfl),DG.nil _ _,AU _ _⟩
 obtain⟨k,P,rfl,Y,A,H,I,m⟩:=hrel;have aP:=m.size;have F:AF w w wr:=C.next m;by_cases hlt:k<l.length
 ·have cE:(k:Int)<l.length:=A4;have hc:=(m.cell (p:=⟨g,k,none⟩) hg).trans (f.out k hlt);have Q:=H0 (Avs (ts:=l.map (·.toList)) (k:=k) TS);have o:=H0 (λw=>Anq l[k] w (by have:=O.out l[k] (CI hlt);omega));have L:(l.map (·.toList))[k]' TS=l[k].toList:=AN;rw[L]at Q;replace L:=H0 L;have K:P.length<=100000000:=A4;replace A:=H0 A;cases u:Ct l[k].toList with
  |none=>
   have z:=A6 (JF s.toList=none) (by rw[M.out,H.out,Q.out,u];rfl);rw[u]at o;replace u:=H0 u;go_wp2_with fail;refine(o.out _).mono ?_;rintro e Z⟨⟨n,rfl,-⟩,rfl⟩;go_wp2_with fail;go_ret2;exact VI (v:=.slice none 0 0) z F
  |some n=>
   have aC:=A6 (ED (l.map (·.toList))=(ED ((l.map (·.toList)).drop (k+1))).map ((P++[n])++ ·)) (by
    rw[H.out,Q.out,u];dsimp only;cases ED ((l.map (·.toList)).drop (k+1))with
    |none=>rfl
    |some y=>simp)
   rw[u]at o;replace u:=H0 u;go_wp2_with fail;refine(o.out _).mono ?_;rintro e Z⟨⟨V,rfl,T⟩,rfl⟩;obtain rfl:=T n rfl;clear T;go_wp2_with(at_builtin;refine Agf rfl _ _ rfl [V] rfl rfl I m aP K (by show 1<=8;decide) ?_;intro a' c' w4 p6 N);go_roundw;exact⟨k+1,P++[V],AP,A4,by simp[A.out],aC,p6,N⟩;exact AzF
 obtain rfl:k=l.length:=A4;have D:=A6 (ED (l.map (·.toList))=some P) (by
  rw[H.out,Cj (by rw[Bz];exact AG _)];simp[ED])
 clear hlt H;by_cases S:P.length=4
 ·obtain⟨x,cpp,rfl,tI,rX,pX,B⟩:=I.front A4;obtain⟨a,b,c,d,rfl⟩:∃a b c d,P=[a,b,c,d]:=by
   clear B tI D A Y rX
   match P,S with
   |[a,b,c,d],_=>exact⟨a,b,c,d,rfl⟩
  have j:=Su D;have h1:=j a AN;have U:=j b AN;have h3:=j c AN;have h5:=j d AN;have x0:wr.cell? ⟨x,0,none⟩=some (.int .i64 (a:Int)):=B 0 AN;have x1:wr.cell? ⟨x,1,none⟩=some (.int .i64 (b:Int)):=B 1 AN;have x2:wr.cell? ⟨x,2,none⟩=some (.int .i64 (c:Int)):=B 2 AN;have x3:wr.cell? ⟨x,3,none⟩=some (.int .i64 (d:Int)):=B 3 AN;have e1:IntKind.i64.wrap (256*(a:Int))=256*(a:Int):=BI _ A4;have e2:IntKind.i64.wrap (256*(a:Int)+b)=256*(a:Int)+b:=BI _ A4;have e3:IntKind.i64.wrap (256*(c:Int))=256*(c:Int):=BI _ A4;have e4:IntKind.i64.wrap (256*(c:Int)+d)=256*(c:Int)+d:=BI _ A4;have E:=A6 (JF s.toList=some [256*a+b,256*c+d]) (by rw[M.out,D.out]);clear j B D I;have R:[a,b,c,d].length=4:=rfl;simp only[R];clear R;go_wp2_with fail;go_region_held3(λw'=>w'.cell? ⟨x,0,none⟩=some (.int .i64 (a:Int))/\w'.cell? ⟨x,1,none⟩=some (.int .i64 (b:Int))/\w'.cell? ⟨x,2,none⟩=some (.int .i64 (c:Int))/\w'.cell? ⟨x,3,none⟩=some (.int .i64 (d:Int))) (first|go_keep|(simp[go_sem])) (fail);go_wp2_with fail;go_ret2;refine Ym E ?_ ((F.alloc F.size _).drew);have e6:(.cells #[.int .i64 (256*(a:Int)+b),.int .i64 (256*(c:Int)+d)] 3:Obj)=.cells ([256*a+b,256*c+d].map J6).toArray 3:=by simp[J6]
  rw[e6];exact DG.made wr F.size _ AN
 have z:=A6 (JF s.toList=none) (by
  rw[M.out,D.out]
  match P,S with
  |[],_=>rfl|[a],_=>rfl|[a,b],_=>rfl|[a,b,c],_=>rfl|[a,b,c,d],h=>exact absurd rfl h
  |a::b::c::d::e::r,_=>rfl)
 obtain⟨pa,pcc,rfl⟩:=I.form;have h4I:((P.length:Int)!=4)=true:=by simp only[JO,ne_eq];omega
 replace A:=H0 A;go_wp2_with fail;go_ret2;exact VI (v:=.slice none 0 0) z F
variable{t:A5}
def AyV(h:t.contains 46=true):DR t=none:=by
 have a:∀(l:A5)acc,46∈l->Ak 16 acc l=none:=by
  intro l;induction l with
  |nil=>intro acc h;cases h
  |cons c r ih=>
   intro acc h;rw[Ak];split
   ·rfl
   rcases Bn.1 h with h|h
   ·rename_i h2;rw[<-h]at h2;exact absurd AE h2
   exact ih _ h
 unfold DR Az;split
 ·rfl
 split
 ·rfl
 exact a _ _ (List.contains_iff_mem.1 h)
def Axb(h:t.contains 46=false):Fk t=none:=by
 have a:∀c∈t,c≠46:=by
  rintro c hc rfl;rw[List.contains_iff_mem.2 hc]at h;cases h
 unfold Fk;rw[Gl,YY t a];rfl
def AfP(a nb:Bool)(t:A5):DU a nb t=match DR t with|some n=>some [n]|none=>if a=true/\nb=true then JF t else none:=by
 rw[AjW];unfold DU;cases hc:t.contains 46
 ·rw[AA (by rintro⟨_,_,h⟩;cases h),Axb hc];cases DR t with
  |none=>by_cases h:a=true/\nb=true<;>simp|some n=>rfl
 rw[AyV hc];by_cases h:a=true/\nb=true
 ·rw[AC ⟨h.1,h.2,rfl⟩,AC h]
 rw[AA (λx=>h ⟨x.1,x.2.1⟩),AA h];rfl
def AtO(nb:Bool){ts:List (A5)}(h:k<ts.length):Eo nb (ts.drop k)=match DU (decide (k+1=ts.length)) nb ts[k]with|none=>none|some x=>(Eo nb (ts.drop (k+1))).map (x++ ·):=by
 rw[Fr];by_cases a:k+1=ts.length
 ·rw[Cj (show ts.length<=k+1 by omega),show Eo nb [ts[k]]=DU true nb ts[k]from rfl,show Eo nb []=some []from rfl,Bx a];cases DU true nb ts[k]with
  |none=>rfl|some x=>simp
 obtain⟨u,r,hu⟩:∃u r,ts.drop (k+1)=u::r:=by
  cases hd:ts.drop _ with
  |nil=>rw[List.drop_eq_nil_iff]at hd;omega|cons u r=>simp
 rw[hu,BO a];rfl
def WU(s:A9)(nb:Bool)(w:A7)(hs:s.size<=1100000):AD A8 250 #[.string s,.bool nb] w (QR w (Dt nb s)):=by
 have m8:AF w w w:=AU _ _;cases hem:s.toList.isEmpty
 ·have M:s.toList≠[]:=by intro h;rw[h]at hem;cases hem
  have J:=A6 (Dt nb s.toList=Eo nb (Al 58 s.toList)) (by rw[Vh,AA M]);have mT:=A6 (∀w,AD A8 295 #[.string s,.int .u8 58] w (AaH w 9 (Al 58 s.toList))) (λw=>AgL s 58 w A4);clear M;go_in;go_wp2_with fail;refine(mT.out _).mono ?_;rintro e N⟨v,l,rfl,K,u,r⟩;obtain⟨bH,cZ⟩:=AkL 58 s K;obtain⟨g,cp,rfl,fA,hg,m⟩:=u.front10 cZ;have Y:w.heap.size<=N.heap.size:=r.size;have X:=A6 (∀t∈l,t.size<=1100000) (λt ht=>by
   have h1:t.toList∈Al 58 s.toList:=by rw[<-K.out];exact EU.2 ⟨t,ht,rfl⟩
   have U:=V5 58 _ _ h1;rw[AK,AK]at U;omega)
  change Hid _ at m u;clear mT;have hV:=A6 (Dt nb s.toList=Eo nb (l.map (·.toList))) (by rw[J.out,K.out]);replace K:=H0 K;clear J;go_wp2_with fail;go_loopw[7,8] (λv i wr=>∃(k:Nat)(P:List Nat),i=.int .i64 k/\k<=l.length/\P.length<=2*k/\Hid (Dt nb s.toList=(Eo nb ((l.map (·.toList)).drop k)).map (P++ ·))/\DG wr N v P/\AF N N wr) (λ_ i _=>l.length-(intOf i).toNat)
  ·exact⟨0,[],rfl,AR _,AR _,H0 (by rw[hV.out,C9];cases Eo nb (l.map (·.toList))<;>rfl),DG.nil _ _,AU _ _⟩
  clear m8;obtain⟨k,P,rfl,hk,hP,A,fK,o⟩:=hrel;have aP:=o.size;have V:AF w w wr:=r.next o;by_cases hlt:k<l.length
  ·have cE:(k:Int)<l.length:=A4;have hc:=(o.cell (p:=⟨g,k,none⟩) hg).trans (m.out k hlt);have D:=H0 (AtO nb (ts:=l.map (·.toList)) (k:=k) TS);have T:(l.map (·.toList))[k]' TS=l[k].toList:=AN;rw[T,Bz]at D;replace T:=H0 T;have W:l[k].size<=1100000:=X.out l[k] (CI hlt);have C:=H0 (λw=>Ayu l[k] w A4);have f:=H0 (λw=>Awq l[k] w W);have G:P.length<=100000000:=A4;have B:=H0 (AfP (decide (k+1=l.length)) nb l[k].toList);cases z:DR l[k].toList with
   |some n=>
    have aC:=A6 (Dt nb s.toList=(Eo nb ((l.map (·.toList)).drop (k+1))).map ((P++[n])++ ·)) (by
     rw[A.out,D.out,B.out,z];exact AjQ)
    rw[z]at C;replace z:=H0 z;go_wp2_with fail;refine(C.out _).mono ?_;rintro e R⟨⟨H,rfl,hn⟩,rfl⟩;obtain rfl:=hn n rfl;clear hn A D;go_wp2_with(at_builtin;refine Agf rfl _ _ rfl [H] rfl rfl fK o aP G (by show 1<=8;decide) ?_;intro a' c' S p6 a);go_roundw;exact⟨k+1,P++[H],AP,A4,B7,aC,p6,a⟩;exact AzF
   |none=>
    have E:=A6 (DU (decide (k+1=l.length)) nb l[k].toList=if decide (k+1=l.length)=true/\nb=true then JF l[k].toList else none) (by rw[B.out,z]);have b:=A6 (DU (decide (k+1=l.length)) nb l[k].toList=none->Dt nb s.toList=none) (λh=>by rw[A.out,D.out,h];rfl);have O:=A6 (∀x,DU (decide (k+1=l.length)) nb l[k].toList=some x->Dt nb s.toList=(Eo nb ((l.map (·.toList)).drop (k+1))).map ((P++x)++ ·)) (λx h=>by
     rw[A.out,D.out,h];exact AjQ)
    rw[z]at C;replace z:=H0 z;clear B A D;have c:((k:Int)<l.length-1/\Hid (decide (k+1=l.length)=false))\/((l.length:Int)-1<=(k:Int)/\Hid (decide (k+1=l.length)=true)):=by
     by_cases h:k+1=l.length
     ·exact .inr ⟨A4,H0 (Bx h)⟩
     exact .inl ⟨A4,H0 (BO h)⟩
    cases hu:JF l[k].toList with
    |none=>
     have j:=A6 (Dt nb s.toList=none) (b.out (by rw[E.out,hu];simp));rw[hu]at f;replace hu:=H0 hu;clear O b E;cases nb<;>rcases c with⟨Z,q2⟩|⟨Z,q2⟩
     all_goals
      go_wp2_with fail;refine(C.out _).mono ?_;rintro e R⟨⟨H,rfl,-⟩,rfl⟩;go_wp2_with fail;refine(f.out _).mono ?_;rintro e S⟨⟨v4,rfl,-⟩,a⟩;have d:=V.next a;go_wp2_with fail;go_ret2;exact VI (v:=.slice none 0 0) j d
    |some x=>
     rw[hu]at f;by_cases q:nb=true/\k+1=l.length
     ·obtain⟨rfl,L⟩:=q;have F:x.length=2:=by
       rw[AjW]at hu;cases hf:Fk l[k].toList with
       |none=>rw[hf]at hu;cases hu
       |some n=>rw[hf]at hu;cases hu;rfl
      have aC:=H0 (O.out x (by rw[E.out,hu,AC ⟨Bx L,rfl⟩]));have Z:(l.length:Int)-1<=(k:Int):=A4;change Hid _ at hu L;clear O b E c;go_wp2_with fail;refine(C.out _).mono ?_;rintro e R⟨⟨H,rfl,-⟩,rfl⟩;go_wp2_with fail;refine(f.out _).mono ?_;rintro e S⟨⟨v4,rfl,nA⟩,a⟩;have lX:=nA x rfl;have d:=o.next a;have pA:=fK.below a (AG _);have uE:=d.size;clear nA;go_wp2_with(at_builtin;refine ArW rfl _ _ rfl rfl rfl pA lX d uE G A4 ?_;intro a' c' w6 Q hb6);go_roundw
      ·exact⟨k+1,P++x,AP,A4,Qi,aC,by first|exact Q|(rw[F]at Q;exact Q)|(rw[<-F];exact Q),hb6⟩
      simp[intOf];omega
     have j:=A6 (Dt nb s.toList=none) (b.out (by
      rw[E.out,AA];rintro⟨h1,U⟩;exact q ⟨U,Mb h1⟩))
     have I:nb=false\/(nb=true/\(k:Int)<l.length-1):=by
      cases nb
      ·exact .inl rfl
      exact .inr ⟨rfl,by have:¬k+1=l.length:=λh=>q ⟨rfl,h⟩;omega⟩
     replace hu:=H0 hu;clear O b E c q;rcases I with rfl|⟨rfl,Z⟩;all_goals
      go_wp2_with fail;refine(C.out _).mono ?_;rintro e R⟨⟨H,rfl,-⟩,rfl⟩;go_wp2_with fail;refine(f.out _).mono ?_;rintro e S⟨⟨v4,rfl,-⟩,a⟩;have d:=V.next a;go_wp2_with fail;go_ret2;exact VI (v:=.slice none 0 0) j d
  obtain rfl:k=l.length:=A4;have aD:=A6 (Dt nb s.toList=some P) (by
   rw[A.out,Cj (by rw[Bz];exact AG _)];simp[Eo])
  clear hlt A;go_wp2_with fail;go_ret2;exact Ym aD (fK.less Y) V
 have j:=A6 (Dt nb s.toList=some []) (by
  have:s.toList=[]:=Q9;rw[this];rfl)
 go_in;go_wp2_with fail;go_ret2;exact Ym j (DG.nil _ _) m8
def Af2:∀(l:A5)(acc v:Nat),Ak 16 acc l=some v->v<(acc+1)*16^l.length
 |[],acc,v,h=>by cases h;simp
 |c::r,acc,v,h=>by
  rw[Ak]at h;split at h
  ·cases h
  rename_i hd;have a:AQ (c:Int) ((16:Nat):Int)<=15:=by unfold AQ;omega
  have:=Af2 r _ v h;rw[BC,L0];have e:(acc+1)*(16^r.length*16)=((acc+1)*16)*16^r.length:=by rw[M5 (16^r.length) 16,Nat.mul_assoc]
  rw[e];refine KJ this (Jx _ ?_);omega
def AmP{v:Nat}(h:DR t=some v):v<65536:=by
 unfold DR Az at h;split at h
 ·cases h
 split at h
 ·cases h
 have h1:=Af2 t 0 v h;have a:16^t.length<=16^4:=KP AE A4;omega
variable{nb:Bool}
def Ab0{f:Bool}(h:DU f nb t=some x):∀v∈x,v<65536:=by
 rw[AfP]at h;cases hp:DR t with
 |some n=>
  rw[hp]at h;cases h;intro v g;simp at g;subst g;exact AmP hp
 |none=>
  rw[hp]at h;dsimp only at h;split at h
  ·unfold JF at h;split at h
   ·rename_i a b c d ha;cases h;have e:=Su ha;have h1:=e a AN;have k:=e b AN;have i:=e c AN;have j:=e d AN;intro v g;simp at g;rcases g with rfl|rfl<;>omega
   ·cases h
  ·cases h
def AlC(nb:Bool):∀{ts:List (A5)}{x:List Nat},Eo nb ts=some x->∀v∈x,v<65536
 |[],x,h=>by cases h;intro v a;cases a
 |[t],x,h=>Ab0 h
 |t::u::r,x,h=>by
  rw[Eo]at h;cases hp:DU false nb t with
  |none=>rw[hp]at h;cases h
  |some y=>
   rw[hp]at h;cases hr:Eo nb (u::r)with
   |none=>rw[hr]at h;cases h
   |some z=>
    rw[hr]at h;cases h;intro v a;rcases BL.1 a with a|a
    ·exact Ab0 hp v a
    exact AlC nb hr v a
def Yd{l:A5}(h:Dt nb l=some x):∀v∈x,v<65536:=by
 rw[Vh]at h;split at h
 ·simp_all
 exact AlC nb h
def Ae9{a:Bool}(h:DU a nb t=some x):x.length<=2:=by
 unfold DU at h;split at h
 ·cases h2:Fk t with
  |none=>rw[h2]at h;cases h
  |some v=>rw[h2]at h;cases h;simp
 ·cases h2:DR t with
  |none=>rw[h2]at h;cases h
  |some v=>rw[h2]at h;cases h;simp
def AhI(nb:Bool):∀{ts:List (A5)}{x:List Nat},Eo nb ts=some x->x.length<=2*ts.length
 |[],x,h=>by cases h;simp
 |[t],x,h=>by have:=Ae9 h;simp;omega
 |t::u::r,x,h=>by
  rw[Eo]at h;cases hp:DU false nb t with
  |none=>rw[hp]at h;cases h
  |some y=>
   rw[hp]at h;cases hr:Eo nb (u::r)with
   |none=>rw[hr]at h;cases h
   |some z=>
    rw[hr]at h;cases h;have h1:=Ae9 hp;have a:=AhI nb hr;simp[Aa,BC]at a⊢;omega
def AiL{l:A5}(h:Dt nb l=some x):x.length<=2*(l.length+1):=by
 rw[Vh]at h;split at h
 ·simp_all
 have h1:=AhI nb h;have a:=UV 58 l;omega
def F2(Z:List Nat)(off:Nat)(x:List Nat)(i:Nat):List Nat:=Z.take off++(x.take i++Z.drop (off+i))
def YZ(Z:List Nat)(off:Nat)(x:List Nat):F2 Z off x 0=Z:=by simp[F2]
variable{i:Nat}
def V8{Z:List Nat}{off:Nat}(a:i<=x.length)(h:off+i<=Z.length):(F2 Z off x i).length=Z.length:=by simp[F2];omega
def Y4{Z:List Nat}{off:Nat}(a:i<x.length)(h:off+i<Z.length):(F2 Z off x i).set (off+i) x[i]=F2 Z off x (i+1):=by
 unfold F2;have h1:(Z.take off).length=off:=Fx;have b:(x.take i).length=i:=Fx;rw[List.set_append_right _ _ A4,h1,show off+i-off=i by omega,List.set_append_right _ _ A4,b,Nat.sub_self,Fr h,Fe a,CQ];rfl
def AvW(l:List Nat)(i n:Nat):(By l).setIfInBounds i (.int .u16 (n:Int))=By (l.set i n):=by
 apply Array.ext';simp[By]
def DG.blk(h:DG w B v l)(r:0<l.length):∃g d o,v=.slice (some ⟨g,0,none⟩) l.length d/\l.length<=d/\B<=g/\w.heap[g]?=some o/\∀w':A7,w'.heap[g]?=some o->∀i(h:i<l.length),w'.cell? ⟨g,i,none⟩=some (.int .i64 ((l[i]:Nat):Int)):=by
 rcases h.2 with⟨p,q⟩|⟨g,b,a,rfl,m,j,k,s,f,e⟩
 ·omega
 refine⟨g,b,_,rfl,k,m,j,λw' c i n=> ?_⟩;rw[BV _ _ i _ _ _ c,<-L9];have h1:(a.toList.take (l.length*1))[i]?=(l.map J6)[i]? :=by rw[e]
 rw[RO,AC A4]at h1;rw[h1];simp[n,J6]
def DG.blk2{a:Option Addr}{c:Nat}(h:DG w B (.slice a n c) l)(b:0<l.length):∃g o,a=some ⟨g,0,none⟩/\l.length<=c/\B<=g/\w.heap[g]?=some o/\∀w':A7,w'.heap[g]?=some o->∀i(h:i<l.length),w'.cell? ⟨g,i,none⟩=some (.int .i64 ((l[i]:Nat):Int)):=by
 have⟨g,cp,o,hv,h1,h2,h3,h4⟩:=h.blk b;obtain⟨rfl,rfl,rfl⟩:=Value.slice.inj hv;exact⟨g,o,rfl,h1,h2,h3,h4⟩
def Anl{y:List Nat}(b:y.length+k=8)(hx:x.length<=k):F2 (F2 Ed 0 x x.length) k y y.length=x++(List.replicate (8-x.length-y.length) 0++y):=by
 have a:F2 Ed 0 x x.length=x++List.replicate (8-x.length) 0:=by
  unfold F2;rw[J5,Do,Bc (AG _),Db,show Ed=List.replicate 8 0 from rfl,List.drop_replicate]
 rw[a];unfold F2;rw[Bc (AG _),Cj (show(x++List.replicate (8-x.length) 0).length<=k+y.length by simp;omega),Bq,List.take_append,Bc hx,List.take_replicate,CQ,show min (k-x.length) (8-x.length)=8-x.length-y.length by omega]
structure Hq(w wx:A7)(c2:Array AJ)(l:List Nat):Prop where
 below:AF w w wx
 size:w.heap.size+2<=wx.heap.size
 a:wx.heap[w.heap.size]?=some (.cells c2 30)
 b:wx.heap[w.heap.size+1]?=some (.cells (By l) 30)
variable{wx:A7}{c:Array AJ}
def Hq.next{d:A7}(h:Hq w wx c l)(hb:AF wx wx d):Hq w d c l:=
 ⟨h.below.next hb,Ks,Yk h.a hb,Yk h.b hb⟩
def Hq.start(w:A7):Hq w ((w.alloc (.cells E0 30)).alloc (.cells E0 30)) E0 Ed:=
 ⟨(Ah _ _).alloc AN _,AN,Asj (CB _ _),heap_alloc2_new w _ _⟩
def Hq.put(h:Hq w wx c l)(i n:Nat):Hq w (wx.setCell ⟨w.heap.size+1,i,none⟩ (.int .u16 (n:Int))) c (l.set i n):=
 ⟨h.below.setCell AN _,by simpa using h.size,(Lr A4 _ _).trans h.a,by rw[Ro h.b i (.int .u16 (n:Int)),AvW]⟩
def Hq.cell(h:Hq w wx c l)(a:i<l.length):(∃v,wx.cell? ⟨w.heap.size+1,i,none⟩=some v)/\wx.frozen? ⟨w.heap.size+1,i,none⟩=false:=by
 constructor
 ·rw[BV _ _ i _ _ _ h.b];exact⟨_,Pl (by simpa[By]using a)⟩
 simp[World.frozen?,h.b]
def Ay5{R:Ag->A7->Prop}{a:Act}{g:Nat}{b:Bool}(e:a.tmps.getD 2 undef=.pointer (some ⟨g,0,none⟩))(d:a.tmps.getD 3 undef=.bool b)(j:a.defers=[])(c:l.length=8)(i:w.heap[g]?=some (.cells (By l) 30))(f:R (.returned (.tuple #[.agg (By l),.bool b])) w):bodyPost A8 Tryz.f191 R .ret a w:=by
 refine IC ?_ j f;have h:=K8 w g 30 30 (By l) _ _ i underlying30 rfl (by rw[show(By l).size=8 by simp[By,c]];kernel_rfl);rw[OG rfl,e,d];simp[asAddr,h]
def Hq.done{b:Bool}{a:Act}(h:Hq w wx c l)(d:l.length=8)(g:a.tmps.getD 2 undef=.pointer (some ⟨w,0,none⟩))(e:a.tmps.getD 3 undef=.bool b)(j:a.defers=[])(f:o.getD Ed=l)(i:o.isSome=b):bodyPost A8 Tryz.f191 (Pc w o) .ret a (wx.setRow w (By l)):=by
 refine Ay5 g e j d (Ia _ _ _ _ _ _ h.a) ?_;subst f i;exact⟨rfl,below_setRow h.below (AG _) _⟩
def Q0{o:Oper}{a:Act}(d:o.guard=none)(x y:CV)(i:o.op=.store 30 x y){g:Nat}{b:Array AJ}(f:l.length=8)(k:b.size=8)(j:w.heap[g]?=some (.cells b 30))(hx:a.eval x=.pointer (some ⟨g,0,none⟩))(e:a.eval y=.agg (By l))(h:Aq A8 ops Q rest (a.put o.dst undef) (w.setRow g (By l))):Aq A8 ops Q (o::rest) a w:=by
 have c:(By l).size=8:=by simp[By,f]
 exact Fb d 30 x y i g (By l) hx e 30 b j (by rw[c];kernel_rfl) A4 (by simp[By,Value.oneCell']) h
def Apz{l:A5}(h:i+1<l.length):D4 (l.drop i)=if l[i]=58/\l[i+1]=58 then([],l.drop (i+2),true)else(l[i]::(D4 (l.drop (i+1))).1,(D4 (l.drop (i+1))).2.1,(D4 (l.drop (i+1))).2.2):=by
 rw[Fr (show i<l.length by omega),Pm];have e:(l.drop (i+1)).head?=some l[i+1]:=by simp_all
 have a:(l.drop (i+1)).tail=l.drop (i+2):=by simp_all
 rw[e,a];simp only[LV]
def Wi{l:A5}:DK nb l=match Dt nb l with|none=>none|some x=>if x.length<=8 then some x else none:=rfl
def AwU{l:A5}(h:(D4 l).2.2=false):Ca l=match Dt true l with|none=>none|some x=>if x.length=8 then some x else none:=by
 unfold Ca;rw[AA AS,Wi];cases Dt true l with
 |none=>rfl
 |some x=>
  dsimp only;by_cases a:x.length<=8
  ·rw[AC a]
  rw[AA a,AA A4]
def AwZ{l X Y:A5}(h:D4 l=(X,Y,true)):Ca l=match Dt false X with
  |none=>none
  |some x=>match Dt true Y with
   |none=>none
   |some y=>if x.length+y.length<=7 then some (x++(List.replicate (8-x.length-y.length) 0++y))else none:=by
 unfold Ca;rw[h,AC rfl];rw[Wi,Wi];cases Dt false X with
 |none=>rfl
 |some x=>
  cases Dt true Y with
  |none=>grind
  |some y=>
   dsimp only;by_cases c:x.length+y.length<=7
   ·grind
   rw[AA c];by_cases b:x.length<=8
   ·rw[AC b];dsimp only;by_cases a:y.length<=8
    ·rw[AC a];dsimp only;rw[AA A4]
    rw[AA a]
   rw[AA b]
def AiD(w:A7)(a:s.size<=1100000)(h:Dt nb s.toList=o):AD A8 250 #[.string s,.bool nb] w (QR w o):=h▸WU s nb w a
def SN(l:A5)(i:Nat)(z:Int):Prop:=(z=-1/\D4 l=(l.take i++(D4 (l.drop i)).1,(D4 (l.drop i)).2.1,(D4 (l.drop i)).2.2))\/(∃a:Nat,z=(a:Int)/\a+1<l.length/\D4 l=(l.take a,l.drop (a+2),true))
def AmC(s:A9)(w:A7)(hs:s.size<=1100000):AD A8 191 #[.string s] w (Pc w (Ca s)):=by
 have M:=Hq.start w;have p:=AK s;go_in;go_wp2_with fail;generalize hgw:(w.alloc (.cells E0 30)).alloc (.cells E0 30)=wa at M;have N:(w.alloc (.cells #[.int .u16 0,.int .u16 0,.int .u16 0,.int .u16 0,.int .u16 0,.int .u16 0,.int .u16 0,.int .u16 0] 30)).alloc (.cells #[.int .u16 0,.int .u16 0,.int .u16 0,.int .u16 0,.int .u16 0,.int .u16 0,.int .u16 0,.int .u16 0] 30)=wa:=hgw;rw[N];clear hgw N;go_loop[5,6] (λav iv=>∃(i:Nat)(z:Int),iv=.int .i64 i/\av=.int .i64 z/\i<=s.size/\Hid (SN s i z)) (λ_ iv=>s.size+1-(intOf iv).toNat)
 ·exact⟨0,-1,rfl,rfl,AR _,H0 (.inl ⟨rfl,by rw[C9,J5,Do]⟩)⟩
 obtain⟨i,z,rfl,rfl,hi,hz⟩:=hrel;have xH:(z=-1/\Hid (D4 s.toList=(s.toList.take i++(D4 (s.toList.drop i)).1,(D4 (s.toList.drop i)).2.1,(D4 (s.toList.drop i)).2.2)))\/(∃a:Nat,z=(a:Int)/\a+1<s.size/\Hid (D4 s.toList=(s.toList.take a,s.toList.drop (a+2),true))):=by
  rcases hz.out with⟨h1,h2⟩|⟨a,h1,h2,h3⟩
  ·exact .inl ⟨h1,H0 h2⟩
  exact .inr ⟨a,h1,by rw[p]at h2;exact h2,H0 h3⟩
 clear hz;rcases xH with⟨rfl,hcut⟩|⟨a,rfl,ha,hcut⟩
 ·by_cases q:i+1<s.size
  ·have cE:(i:Int)+1<(s.size:Int):=A4;have aL:=H0 (Apz (l:=s.toList) (i:=i) (by rw[p];exact q));have g0:s.toList[i]'(by rw[p];omega)=s[i]:=JG s i A4;have g1:s.toList[i+1]'(by rw[p];exact q)=s[i+1]:=JG s (i+1) q;rw[g0,g1]at aL;have rM:(i:Int)<s.size:=A4;have hway:(((s[i].toNat:Int)==58)=true/\((s[i+1].toNat:Int)==58)=true/\Hid (SN s (i+1) (i:Int)))\/(((s[i].toNat:Int)==58)=false/\Hid (SN s (i+1) (-1)))\/(((s[i].toNat:Int)==58)=true/\((s[i+1].toNat:Int)==58)=false/\Hid (SN s (i+1) (-1))):=by
    have hno:¬(s[i]=58/\s[i+1]=58)->Hid (SN s (i+1) (-1)):=λh=>H0 (.inl ⟨rfl,by
     rw[hcut.out,aL.out,AA h];have e:=DX s i A4;rw[e];simp⟩)
    by_cases h0:s[i]=58
    ·by_cases h1:s[i+1]=58
     ·refine .inl ⟨Q6,by rw[h1];rfl,H0 (.inr ⟨i,rfl,by rw[p];exact q,?_⟩)⟩;rw[hcut.out,aL.out,AC ⟨h0,h1⟩];simp
     refine .inr (.inr ⟨Q6,?_,hno (λh=>h1 h.2)⟩);simp only[B6,ne_eq];intro h;exact h1 (CM.1 (by show s[i+1].toNat=58;omega))
    refine .inr (.inl ⟨?_,hno (λh=>h0 h.1)⟩);simp only[B6,ne_eq];intro h;exact h0 (CM.1 (by show s[i].toNat=58;omega))
   clear g0 g1 hcut aL;rcases hway with⟨q1,q2,hn⟩|⟨q1,hn⟩|⟨q1,q2,hn⟩;all_goals
    go_wp2_with fail;go_round;exact⟨i+1,_,AP,rfl,A4,hn⟩;exact AzF
  have iS:(s.size:Int)<=i+1:=A4;have bN:=A6 (Ca s.toList=match Dt true s with|none=>none|some x=>if x.length=8 then some x else none) (AwU (by
   rw[hcut.out];dsimp only;cases hd:s.toList.drop i with
   |nil=>rfl
   |cons c r=>
    cases r with
    |nil=>rw[Pm,AA (λh=>by simp at h)];rfl
    |cons d r=>
     have:=congrArg List.length hd;rw[C7,p]at this;simp at this;omega))
  clear hcut q;have hz8:Ed.length=8:=rfl;cases G:Dt true s with
  |none=>
   have hno:=A6 (Ca s.toList=none) (by rw[bN.out,G]);have aH:=H0 (AiD wa hs G);replace G:=H0 G;go_wp2_with fail;refine aH.out.mono ?_;rintro e w3⟨⟨v,rfl,-⟩,C⟩;have hW:=M.next C;exact AaW
  |some x=>
   have aH:=H0 (AiD wa hs G);have t:=Yd G;have T:=A6 (Ca s.toList=if x.length=8 then some x else none) (by rw[bN.out,G]);replace G:=H0 G;go_wp2_with fail;refine aH.out.mono ?_;rintro e w3⟨⟨v,rfl,hx⟩,C⟩;have Q:=hx x rfl;have hW:=M.next C;have h0z:=M.size;clear hx aH bN;by_cases F:x.length=8
   ·have hyes:=A6 (Ca s.toList=some x) (by rw[T.out,AC F]);obtain⟨U,cpp,o,rfl,fA,rX,f,m⟩:=Q.blk A4;have hgne:U≠w.heap.size+1:=A4;have h8I:((x.length:Int)!=8)=false:=by rw[F];rfl
    have h8J:8<=(x.length:Int):=A4;have h8N:8<=x.length:=A4;have aD:F2 Ed 0 x 8=x:=by
     unfold F2;rw[show List.take 8 x=x from Bc A4,show Ed.drop (0+8)=[]from rfl,J5,Bq,Do]
    change Hid _ at aD F m t;go_wp2_with fail;go_loopw[9] (λiv wr=>∃i:Nat,iv=.int .i64 i/\i<=8/\Hq w wr E0 (F2 Ed 0 x i)/\Hid (wr.heap[U]?=some o)) (λiv _=>8-(intOf iv).toNat)
    ·exact⟨0,rfl,AR _,by rw[YZ];exact hW,H0 f⟩
    clear hW M C f;obtain⟨i,rfl,hi,hW,f⟩:=hrel;by_cases q:i<8
    ·have cE:(i:Int)<8:=A4;have hc:=m.out _ f i A4;have hxi:=t.out x[i] (CI A4);have X:IntKind.u16.wrap ((x[i]:Nat):Int)=((x[i]:Nat):Int):=IntWalk.u16_in _ A4;have A:(F2 Ed 0 x i).length=8:=V8 A4 (by show 0+i<=8;omega);obtain⟨⟨u,hcu⟩,gG⟩:=hW.cell (i:=i) A4;have hiI:(i:Int)<x.length:=A4;have O:=hW.put i x[i];have e:=Y4 (Z:=Ed) (off:=0) (x:=x) (i:=i) A4 (by show 0+i<8;omega);rw[Db]at e;rw[e]at O;have bU:=H0 ((Lr hgne i (.int .u16 ((x[i]:Nat):Int)) (w:=wr)).trans f);replace A:=H0 A;clear e;go_wp2_with fail;go_roundw;exact⟨i+1,AP,A4,O,bU⟩;exact AzF
    obtain rfl:i=8:=A4;rw[aD.out]at hW;go_wp2_with(first|(refine Py rfl _ rfl (l:=x) F hW.b rfl ?_)|(refine Q0 rfl _ _ rfl (l:=x) F BE hW.a rfl rfl ?_));exact hW.done F rfl rfl rfl PB PB
   have hno:=A6 (Ca s.toList=none) (by rw[T.out,AA F]);obtain⟨xa,xc,rfl⟩:=Q.form;have h8I:((x.length:Int)!=8)=true:=by simp only[JO,ne_eq];omega
   replace F:=H0 F;exact AaW
 have L:=H0 (AwZ hcut);have ea:(s.extract 0 a).toList=s.toList.take a:=OC;have eb:(s.extract (a+2) s.size).toList=s.toList.drop (a+2):=by rw[toList_extract,Bc (by rw[p];exact AG _)]
 rw[<-ea,<-eb]at L;have za:(s.extract 0 a).size<=1100000:=by rw[<-AK,ea,Cl,p];omega
 have zb:(s.extract (a+2) s.size).size<=1100000:=by rw[<-AK,eb,C7,p];omega
 have uD:(a:Int)+2<=(s.size:Int):=A4;have haJ:(a:Int)<=s.size:=A4;obtain⟨sa,tX⟩:=AI (s.extract 0 a);obtain⟨sb,cJ⟩:=AI (s.extract (a+2) s.size);rw[tX]at L za;rw[cJ]at L zb;change Hid _ at ea eb;clear hcut;have qB:=H0 (WU sa false wa za);have pU:=H0 (λw=>WU sb true w zb);obtain⟨oa,I⟩:=AI (Dt false sa);obtain⟨ob,H⟩:=AI (Dt true sb);rw[I]at L qB;rw[H]at L pU;have hA:=A6 (∀v,oa=some v->∀n∈v,n<65536) (λv h=>Yd (I.trans h));have hBl:=A6 (∀v,ob=some v->∀n∈v,n<65536) (λv h=>Yd (H.trans h));change Hid _ at I H;have W:=A6 (∀v,oa=some v->v.length<=90000010) (λv h=>by have:=AiL (I.out.trans h);rw[AK]at this;omega);have V:=A6 (∀v,ob=some v->v.length<=90000010) (λv h=>by have:=AiL (H.out.trans h);rw[AK]at this;omega);have hlen':=H0 p;clear p;have R:(i:Int)+1<(s.size:Int)\/(s.size:Int)<=i+1:=A4;rcases R with R|R;all_goals
  go_wp2_with fail;refine qB.out.mono ?_;rintro e w3⟨⟨v,rfl,hx⟩,C⟩;have hW:=M.next C;have hwa:=M.size;have hea:=0;clear M C qB;go_wp2_with fail;refine(pU.out _).mono ?_;rintro e w4⟨⟨u,rfl,hy⟩,C⟩;have D:=hW.next C;have iD:=hW.size;have hsz4:=C.size;have hbk:=C;clear C hW pU;rcases oa with _|x
  ·have hno:=A6 (Ca s.toList=none) (by rw[L.out]);go_wp2_with(first|(refine Py rfl _ rfl (l:=Ed) rfl D.b rfl ?_)|(refine Q0 rfl _ _ rfl (l:=Ed) rfl BE D.a rfl rfl ?_));exact D.done rfl rfl rfl rfl Gt Gt
  rcases ob with _|y
  ·have hno:=A6 (Ca s.toList=none) (by rw[L.out]);go_wp2_with(first|(refine Py rfl _ rfl (l:=Ed) rfl D.b rfl ?_)|(refine Q0 rfl _ _ rfl (l:=Ed) rfl BE D.a rfl rfl ?_));exact D.done rfl rfl rfl rfl Gt Gt
  have T:=A6 (Ca s.toList=if x.length+y.length<=7 then some (x++(List.replicate (8-x.length-y.length) 0++y))else none) (by rw[L.out]);have Q:=(hx x rfl).below (B:=wa.heap.size) (w':=w4) (K:=w3.heap.size) (by assumption) (AG _);have J:=hy y rfl;clear L hx hy;by_cases h7:x.length+y.length<=7
  ·have hyes:=A6 (Ca s.toList=some (x++(List.replicate (8-x.length-y.length) 0++y))) (by rw[T.out,AC h7]);obtain⟨k,hk⟩:∃k,y.length+k=8:=⟨8-y.length,A4⟩;have aD:=H0 (Anl hk (show x.length<=k by omega));have P:=A6 ((x++(List.replicate (8-x.length-y.length) 0++y)).length=8) B7;obtain⟨xa,xc,rfl⟩:=Q.form;obtain⟨ya,yc,rfl⟩:=J.form;have hX:=H0 (λh=>Q.blk2 h);have hY:=H0 (λh=>J.blk2 h);have h7I:(x.length:Int)+y.length<=7:=A4;have jZ:8-(y.length:Int)=k:=A4;have hxk:x.length<=7:=A4;have hyk:y.length<=7:=A4;have oR:w.heap.size+2<=wa.heap.size/\w.heap.size+2<=w3.heap.size:=⟨hwa,iD⟩;obtain⟨dQ,cF⟩:=oR;have t:=H0 (hA.out x rfl);have hylt:=H0 (hBl.out y rfl);have E:(F2 Ed 0 x x.length).length=8:=V8 (AG _) (by show 0+x.length<=8;omega);change Hid _ at E hk;clear Q J hA hBl W V T hea;go_wp2_with fail;go_loopw[14] (λiv wr=>∃i:Nat,iv=.int .i64 i/\i<=x.length/\Hq w wr E0 (F2 Ed 0 x i)/\Hid (∀g,g≠w.heap.size+1->wr.heap[g]?=w4.heap[g]?)) (λiv _=>x.length-(intOf iv).toNat)
   ·exact⟨0,rfl,AR _,by rw[YZ];exact D,H0 (λg _=>rfl)⟩
   clear D;obtain⟨j,rfl,hj,hW,S⟩:=hrel;by_cases q:j<x.length
   ·obtain⟨U,o,rfl,fA,rX,f,m⟩:=hX.out A4;have cE:(j:Int)<x.length:=A4;have hc:=m wr ((S.out U A4).trans f) j q;have hxi:=t.out x[j] (CI q);have X:IntKind.u16.wrap ((x[j]:Nat):Int)=((x[j]:Nat):Int):=IntWalk.u16_in _ A4;have A:(F2 Ed 0 x j).length=8:=V8 A4 (by show 0+j<=8;omega);obtain⟨⟨u,hcu⟩,gG⟩:=hW.cell (i:=j) A4;have hj8:(j:Int)<8:=A4;have O:=hW.put j x[j];have e:=Y4 (Z:=Ed) (off:=0) (x:=x) (i:=j) q (by show 0+j<8;omega);rw[Db]at e;rw[e]at O;have qU:=A6 (∀g,g≠w.heap.size+1->(wr.setCell ⟨w.heap.size+1,j,none⟩ (.int .u16 ((x[j]:Nat):Int))).heap[g]?=w4.heap[g]?) (λg Y=>(Lr Y j _).trans (S.out g Y));change Hid _ at A m f;clear e;go_wp2_with fail;go_roundw;exact⟨j+1,AP,A4,O,qU⟩;exact AzF
   obtain rfl:j=x.length:=A4;clear q;go_wp2_with fail;go_loopw[15] (λiv wx=>∃i:Nat,iv=.int .i64 i/\i<=y.length/\Hq w wx E0 (F2 (F2 Ed 0 x x.length) k y i)/\Hid (∀g,g≠w.heap.size+1->wx.heap[g]?=w4.heap[g]?)) (λiv _=>y.length-(intOf iv).toNat)
   ·exact⟨0,rfl,AR _,by rw[YZ];exact hW,S⟩
   clear hW S;obtain⟨j,rfl,hj,hW,S⟩:=hrel;by_cases q:j<y.length
   ·obtain⟨U,o,rfl,fA,rX,f,m⟩:=hY.out A4;have cE:(j:Int)<y.length:=A4;have hc:=m wr ((S.out U A4).trans f) j q;have hxi:=hylt.out y[j] (CI q);have X:IntKind.u16.wrap ((y[j]:Nat):Int)=((y[j]:Nat):Int):=IntWalk.u16_in _ A4;have hkj:k+j<8:=by have:=hk.out;omega
    have A:(F2 (F2 Ed 0 x x.length) k y j).length=8:=(V8 A4 (by rw[E.out];omega)).trans E;obtain⟨⟨u,hcu⟩,gG⟩:=hW.cell (i:=k+j) A4;have hkj8:(k:Int)+j<8:=A4;have O:=hW.put (k+j) y[j];have e:=Y4 (Z:=F2 Ed 0 x x.length) (off:=k) (x:=y) (i:=j) q (by rw[E.out];exact hkj);rw[e]at O;have qU:=A6 (∀g,g≠w.heap.size+1->(wr.setCell ⟨w.heap.size+1,k+j,none⟩ (.int .u16 ((y[j]:Nat):Int))).heap[g]?=w4.heap[g]?) (λg Y=>(Lr Y (k+j) _).trans (S.out g Y));change Hid _ at A m f;clear e;go_wp2_with fail;go_roundw;exact⟨j+1,AP,A4,O,qU⟩;exact AzF
   obtain rfl:j=y.length:=A4;rw[aD.out]at hW;go_wp2_with(first|(refine Py rfl _ rfl (l:=x++(List.replicate (8-x.length-y.length) 0++y)) P hW.b rfl ?_)|(refine Q0 rfl _ _ rfl (l:=x++(List.replicate (8-x.length-y.length) 0++y)) P BE hW.a rfl rfl ?_));exact hW.done P rfl rfl rfl PB PB
  have hno:=A6 (Ca s.toList=none) (by rw[T.out,AA h7]);obtain⟨xa,xc,rfl⟩:=Q.form;obtain⟨ya,yc,rfl⟩:=J.form;have h7I:7<(x.length:Int)+y.length:=A4;have hxm:(x.length:Int)<=100000000:=by have:=W.out x rfl;omega
  have hym:(y.length:Int)<=100000000:=by have:=V.out y rfl;omega
  go_wp2_with(first|(refine Py rfl _ rfl (l:=Ed) rfl D.b rfl ?_)|(refine Q0 rfl _ _ rfl (l:=Ed) rfl BE D.a rfl rfl ?_));exact D.done rfl rfl rfl rfl Gt Gt
end Go.Proofs.YtonomfeipkdmhaaGreatDoor
