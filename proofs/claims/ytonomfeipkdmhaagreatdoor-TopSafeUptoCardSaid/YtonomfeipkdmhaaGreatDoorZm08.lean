/- Lemmas. -/
import Derived.Test.YtonomfeipkdmhaaGreatDoorZm03
import Derived.Test.YtonomfeipkdmhaaGreatDoorZm04
import Derived.Test.YtonomfeipkdmhaaGreatDoorZm05
import Derived.Test.YtonomfeipkdmhaaGreatDoorZm06
import Derived.Lib.SlicesS
set_option linter.all false
set_option maxRecDepth 100000
set_option maxHeartbeats 16000000
namespace Go.Proofs.YtonomfeipkdmhaaGreatDoor
open Go renaming World->A7,Calls->AD,Value->AJ,TypeId->Ab,Ending->Ag
open Go.RowKit renaming Below->AF
open Go.RowKit Go.Proofs.Tryz
open Go.Proofs.Tryz renaming prog->A8
def F1(c lo hi:Int):Bool:=decide (lo<=c)&&decide (c<=hi)
def HJ(c b a:Nat):F1 (c:Int) (b:Int) (a:Int)=Ae c b a:=by
 unfold F1 Ae;congr 1<;>exact decide_eq_decide.2 A4
variable{c b:Nat}
def Hl{a:Nat}(h:Ae c b a=true):b<=c/\c<=a:=by unfold Ae at h;simpa using h
def eqN(c k:Nat):((c:Int)==k)=(c==k):=by
 exact Ya
def eqB(c k:Nat):∃x,(c==k)=x/\((c:Int)==k)=x:=⟨_,rfl,eqN c k⟩
def inB(c a b:Nat):∃x,Ae c a b=x/\F1 c a b=x/\(if x=true then a else 0)<=c:=⟨_,rfl,HJ c a b,by
 split
 ·exact(Hl ‹_›).1
 exact AR _⟩
def QZ(c lo hi:Int)(w:A7):AD A8 357 #[.int .i64 c,.int .i64 lo,.int .i64 hi] w (AzJ (.bool (F1 c lo hi)) w):=by
 exact Ab5
def AuW(c:Nat)(w:A7):AD A8 348 #[.int .i64 (c:Int)] w (AzJ (.bool (M8 c)) w):=by
 unfold M8;obtain⟨b1,h1,i⟩:=eqB c 0xad;obtain⟨b2,d,g⟩:=eqB c 0x200b;obtain⟨f,a,z3⟩:=eqB c 0x2060;obtain⟨h,b,z4⟩:=eqB c 0xfeff;rw[h1,d,a,b];clear h1 d a b;simp only[Int.cast_ofNat_Int]at *;go_in;cases b1;cases b2;cases f
 all_goals
  go_wp2;go_ret;exact⟨AN,rfl⟩
def Ayz(s:A9)(w:A7)(g:s.size<=1000000000):AD A8 351 #[.string s] w (AzJ (.bool (EA s)) w):=by
 go_in;go_wp2;go_loop[3,6] (λ_ b=>∃k:Nat,b=.int .i64 k/\k<=s.size/\Hid (EA s.toList=EA (s.toList.drop k))) (λ_ b=>s.size-(intOf b).toNat)
 ·exact SU
 obtain⟨k,rfl,h,hv⟩:=hrel;by_cases d:k<s.size
 ·have c:=hv.out;rw[Aw s k d]at c;have a:EA s.toList=(decide (s[k].toNat<128)&&EA (s.toList.drop (k+1))):=by rw[c];rfl
  clear c;by_cases f:s[k].toNat<128
  ·rw[Bx f]at a;go_wp2;go_round;exact⟨k+1,AP,A4,a⟩;exact AzF
  rw[BO f]at a;replace a:=H0 a;go_wp2;go_ret;exact⟨by rw[a.out];rfl,rfl⟩
 have aD:=A6 (EA s.toList=true) TO;exact Tx
def Agd(c:Nat):Gv c=if(Ae c 0x41 0x5a||Ae c 0xc0 0xd6||Ae c 0xd8 0xde||Ae c 0x391 0x3a1||Ae c 0x3a3 0x3a9||Ae c 0x410 0x42f)=true then An (c+0x20)else if(Ae c 0x100 0x12e&&c%2==0)=true then An (c+1)else if(c==0x130)=true then[105,204,135]else if Ae c 0x400 0x40f=true then An (c+0x50)else if(c==0x2024||c==0x3002||c==0xff61)=true then[46]else if(c==0x2100)=true then[97,47,99]else if(c==0x2105)=true then[99,47,111]else if Ae c 0x2460 0x2468=true then An (c-0x2460+49)else if Ae c 0xff01 0xff5e=true then An (if Ae (c-0xfee0) 65 90=true then c-0xfee0+0x20 else c-0xfee0)else if Ae c 0x1d7ce 0x1d7ff=true then An (48+(c-0x1d7ce)%10)else[]:=by
 unfold Gv;grind
def As9(c:Nat)(w:A7)(hc:c<=1114111):AD A8 347 #[.int .i64 (c:Int)] w (Rv (Gv c) w):=by
  have hv:=Agd c;have F:=H0 (λ(R:A5)(n:Nat)(z:Int)(h:R=An n)(e:z=n)(O:n<=2147483647)w=>show AD A8 _ #[.int .i64 z] w (Rv R w)from by
    subst h e;exact Qr n O w)
  generalize Gv c=R at hv⊢;obtain⟨J,h1,X,-⟩:=inB c 65 90;obtain⟨Q,y,z2,-⟩:=inB c 192 214;obtain⟨a3,g,z3,-⟩:=inB c 216 222;obtain⟨a4,o,z4,-⟩:=inB c 913 929;obtain⟨a5,m,z5,-⟩:=inB c 931 937;obtain⟨N,s,z6,-⟩:=inB c 1040 1071;obtain⟨P,i,Z,-⟩:=inB c 256 302;obtain⟨U,j,z8,-⟩:=inB c 1024 1039;obtain⟨V,u,W,C⟩:=inB c 9312 9320;obtain⟨D,l,za,A⟩:=inB c 65281 65374;obtain⟨G,r,zb,B⟩:=inB c 120782 120831;obtain⟨L,p,y1⟩:=eqB c 304;obtain⟨T,g2,y2⟩:=eqB c 8228;obtain⟨K,g3,y3⟩:=eqB c 12290;obtain⟨M,q,y4⟩:=eqB c 65377;obtain⟨E,v,Y⟩:=eqB c 8448;obtain⟨S,b,y6⟩:=eqB c 8453;obtain⟨H,f,y7⟩:∃x,(c%2==0)=x/\((c:Int)%2==0)=x:=⟨_,rfl,eqN (c%2) 0⟩;rw[h1,y,g,o,m,s,i,j,u,l,r,p,g2,g3,q,v,b,f]at hv;clear h1 y g o m s i j u l r p g2 g3 q v b f;simp only[Int.cast_ofNat_Int]at *;go_in;cases J;cases Q;cases a3;cases a4;cases a5;cases N;cases P;rotate_left;cases H
  rotate_right
  iterate 2
    cases L;cases U;cases T;cases K;cases M;cases E;cases S;cases V;cases D;cases G;rotate_left 2;have k:65281<=c:=A;have a:=HJ (c-65248) 65 90;rw[show((c-65248:Nat):Int)=(c:Int)-65248 from A4]at a;simp only[Int.cast_ofNat_Int]at a;generalize Ae (c-65248) 65 90=d at hv a;cases d;rotate_left 10
  all_goals
    simp only[Bool.or_self,Ju,Jw,Bool.true_or,NY,Kj,Bool.and_self,Ma,ON,RQ,if_false,if_true]at hv C A B;replace hv:=H0 hv;go_wp2_with(go_call QZ;refine AH ?_);first
      |(go_ret;exact⟨_,rfl,H0 Aa8,rfl⟩)
      | (refine (F.out R _ _ hv A4 A4 _).mono ?_
         rintro e w1⟨t,rfl,I,rfl⟩;go_wp2;go_ret;exact⟨t,rfl,I,rfl⟩)
def Sa:Array AJ:= #[.int .i64 0,.int .i64 0x7f,.int .i64 0xdf,.int .i64 0xf6,.int .i64 0xf8,.int .i64 0xff,.int .i64 0x101,.int .i64 0x12f,.int .i64 0x300,.int .i64 0x36f,.int .i64 0x3b1,.int .i64 0x3c9,.int .i64 0x430,.int .i64 0x45f,.int .i64 0x3041,.int .i64 0x3096,.int .i64 0x30a1,.int .i64 0x30fa,.int .i64 0x4e00,.int .i64 0x9fff,.int .i64 0xac00,.int .i64 0xd7a3,.int .i64 0x1f300,.int .i64 0x1f5ff]
def Kd(k:Nat):Nat:=(Nb.getD k (0,0)).1
def Kw(k:Nat):Nat:=(Nb.getD k (0,0)).2
def Ao2(w:A7):∀k:Nat,k<12->(Instr.index 267 (.agg Sa) (.int .i64 (k:Int))).run A8 w=.ok (.agg #[.int .i64 (Kd k:Int),.int .i64 (Kw k:Int)]) w
 |0,_=>AO|1,_=>AO|2,_=>AO|3,_=>AO|4,_=>AO|5,_=>AO|6,_=>AO|7,_=>AO|8,_=>AO|9,_=>AO|10,_=>AO|11,_=>AO|n+12,h=>A4
def Akh:(A8.info? 267).map (·.size)=some 24:=AO
variable{k:Nat}
def AtC(b:k<12)(h:Ae c (Kd k) (Kw k)=true):IY c=true:=by
 unfold IY;rw[List.any_eq_true];have a:=b;refine⟨Nb[k],CI a,?_⟩;unfold Kd Kw at h;rw[LS,Cs a]at h;exact h
def Ao6(h:∀k,k<12->Ae c (Kd k) (Kw k)=false):IY c=false:=by
 unfold IY;rw[Mp];intro r b;obtain⟨k,a,rfl⟩:=O5 b;have:=h k a;unfold Kd Kw at this;rw[LS,Cs a]at this;rw[show Ae c Nb[k].1 Nb[k].2=false from this];decide
def ApU(c:Nat)(w:A7):AD A8 349 #[.int .i64 (c:Int)] w λe w'=>e=.returned (.bool (IY c))/\AF w w w':=by
 obtain⟨R,f⟩:=AI (IY c);rw[f];replace f:=H0 f;go_in;go_wp2_with(first|(refine Jf rfl 267 _ _ rfl rfl Sa _ _ _ rfl AN rfl Akh rfl AO ?_)|(refine Cg rfl 267 _ rfl w rfl _ Sa _ _ (CB w _) underlying267 rfl Akh ?_));have o:=Ah w (.cells Sa 267);go_loopw[20] (λv wr=>∃k:Nat,v=.int .i64 k/\k<=12/\AF w w wr/\Hid (∀j,j<k->Ae c (Kd j) (Kw j)=false)) (λv _=>12-(intOf v).toNat)
 ·exact⟨0,rfl,A4,o,H0 (λj h=>absurd h (Nat.not_lt_zero _))⟩
 obtain⟨k,rfl,r,a,g⟩:=hrel;have n:=a.size;by_cases b:k<12
 ·have t:=λw=>Ao2 w k b;have p:=HJ c (Kd k) (Kw k);generalize hq:Ae c (Kd k) (Kw k)=q at p;have d:=H0 (AtC (c:=c) b);obtain⟨s,l⟩:=AI (Kd k);obtain⟨u,i⟩:=AI (Kw k);change Hid _ at l i;cases q
  ·have m:=A6 (∀j,j<k+1->Ae c (Kd j) (Kw j)=false) (λj h=>by
    by_cases e:j=k
    ·grind
    exact g.out j A4)
   go_wp2_with(go_call(QZ _ _ _ _) as e w'⟨rfl,rfl⟩);go_roundw;exact⟨k+1,AP,A4,a.alloc n _,m⟩;exact AzF
  have aD:=H0 (f.out.symm.trans (d.out hq));go_wp2_with(go_call(QZ _ _ _ _) as e w'⟨rfl,rfl⟩);go_ret;exact⟨NF,a.alloc n _⟩
 have aD:=H0 (f.out.symm.trans (Ao6 (λj h=>g.out j A4)));go_wp21;go_ret;exact⟨NF,a⟩
def Yj(m:A5×Nat)(w:A7)(e:Ag)(w':A7):Prop:=∃t:A9,e=.returned (.tuple #[.string t,.int .i64 (m.2:Int)])/\Hid (t.toList=m.1)/\AF w w w'
def OA{m:A5×Nat}{l:A5}{n:Nat}{t:A9}{w w':A7}(h:m=(l,n))(a:t.toList=l)(b:AF w w w'):Yj m w (.returned (.tuple #[.string t,.int .i64 (n:Int)])) w':=by
 subst h;exact⟨t,rfl,H0 a,b⟩
def Afu(c:Nat)(w:A7)(hc:c<=1114111):AD A8 338 #[.int .i64 (c:Int)] w (Yj (DY c) w):=by
 obtain⟨R,h⟩:=AI (DY c);rw[h];have a:R=if Gv c≠[]then(Gv c,2)else if M8 c=true then([],3)else if IY c=true then(An c,1)else([],0):=h.symm;replace h:=H0 h;have g:=H0 (λw=>As9 c w hc);have b:=AuW c;have i:=ApU c;have l:=H0 (Qr c A4);obtain⟨O,p⟩:=AI (Gv c);obtain⟨G,n⟩:=AI (M8 c);obtain⟨V,m⟩:=AI (IY c);rw[p]at a g;rw[n]at a b;rw[m]at a i;change Hid _ at b i p n m;cases O with
 |cons x r=>
  have hf:=A6 (R=(x::r,2)) (a.trans (AC AN));replace a:=H0 a;go_in;go_wp2_with fail;refine(g.out _).mono ?_;rintro e j⟨t,rfl,ht,rfl⟩;have f:t.toList.isEmpty=false:=Oc;go_wp2_with fail;go_ret2;exact OA hf ht (AU _ _)
 |nil=>
  rw[AA AN]at a;cases G with
  |true=>
   have hf:=A6 (R=([],3)) (a.trans (AC rfl));replace a:=H0 a;go_in;go_wp2_with fail;refine(g.out _).mono ?_;rintro e j⟨t,rfl,ht,rfl⟩;have f:t.toList.isEmpty=true:=Oc;go_wp2_with fail;refine(b.out _).mono (AH ?_);go_wp2_with fail;go_ret2;exact OA hf (toList_mk []) (AU _ _)
  |false=>
   rw[AA AE]at a;cases V with
   |true=>
    have hf:=A6 (R=(An c,1)) (a.trans (AC rfl));replace a:=H0 a;go_in;go_wp2_with fail;refine(g.out _).mono ?_;rintro e j⟨t,rfl,ht,rfl⟩;have f:t.toList.isEmpty=true:=Oc;go_wp2_with fail;refine(b.out _).mono (AH ?_);go_wp2_with fail;refine(i.out _).mono ?_;rintro e q⟨rfl,d⟩;go_wp2_with fail;refine(l.out _).mono ?_;rintro e u⟨s,rfl,k,rfl⟩;go_wp2_with fail;go_ret2;exact OA hf k d
   |false=>
    have hf:=A6 (R=([],0)) (a.trans (AA AE));replace a:=H0 a;go_in;go_wp2_with fail;refine(g.out _).mono ?_;rintro e j⟨t,rfl,ht,rfl⟩;have f:t.toList.isEmpty=true:=Oc;go_wp2_with fail;refine(b.out _).mono (AH ?_);go_wp2_with fail;refine(i.out _).mono ?_;rintro e q⟨rfl,d⟩;go_wp2_with fail;go_ret2;exact OA hf (toList_mk []) d
def Abf{l:List Nat}(h:l≠[])(hc:l.headD 0=c):Hg l=(!Ae c 0x300 0x36f&&l.all HP&&l.any λc=>decide (0x7f<c)):=by
 cases l with
 |nil=>exact absurd rfl h|cons a r=>rw[<-hc];rfl
def Akr(l:List Nat)(p:Nat->Bool)(k:Nat)(h:k<l.length):(l.take (k+1)).any p=((l.take k).any p||p l[k]):=by
 rw[Fe h,List.any_append];simp
def Ais{l:List Nat}{p:Nat->Bool}(h:k<l.length)(a:p l[k]=false):l.all p=false:=by
 rw[List.all_eq_false];exact⟨l[k],CI h,by rw[a];decide⟩
def AgF(pa:Option Addr)(n c:Nat)(l:List Nat)(w:A7)(h:Fc w pa n c l)(hn:n<=1000000000)(K:∀x∈l,x<=1114111):AD A8 353 #[.slice pa n c] w λe w'=>e=.returned (.bool (Hg l))/\AF w w w':=by
 have bH:=h.len;have M:=H0 h;clear h;by_cases C:n=0
 ·have hf:Hg l=false:=by rw[NK.1 (bH.trans C)];rfl
  subst C;rw[hf];change Hid _ at bH hf;go_in;go_wp2;go_ret;exact UH
 have L:((n:Int)==0)=false:=DV;have hnI:0<(n:Int):=A4;obtain⟨g,o,rfl,U⟩:=M.out.cells A4;have O:0<l.length:=A4;have v:=U 0 O;unfold Cd at v;rw[Jy]at v;generalize hx0:l[0]=y at v;have b:=Abf (l:=l) (c:=y) (λe=>AS) (by
  cases l with
  |nil=>cases O
  |cons a r=>exact hx0)
 have s:=HJ y 0x300 0x36f;obtain⟨W,F⟩:=AI (Ae y 0x300 0x36f);have s:F1 (y:Int) 768 879=W:=s.trans F;rw[F]at b;change Hid _ at F hx0 U;generalize hR:Hg l=R at b⊢;change Hid _ at hR C bH K;cases W;case true=>
  have hf:=A6 (R=false) (b.trans AN);replace b:=H0 b;go_in;go_wp2_with(go_call(QZ _ _ _ _) as e w'⟨rfl,rfl⟩);all_goals
   go_ret;exact⟨KY,AU _ _⟩
 have b:R=(l.all HP&&l.any λc=>decide (0x7f<c)):=b.trans AN;replace b:=H0 b;go_in;go_wp2_with(go_call QZ;refine AH ?_);go_loopw[3,19] (λv3 B wr=>∃k:Nat,B=.int .i64 (k:Int)/\k<=n/\v3=.bool ((l.take k).any λc=>decide (0x7f<c))/\AF w w wr/\Hid ((l.take k).all HP=true)) (λ_ B _=>n-(intOf B).toNat)
 ·exact⟨0,rfl,AR _,rfl,AU _ _,H0 rfl⟩
 obtain⟨k,rfl,hk,rfl,hbel,f⟩:=hrel;clear v;have bD:=hbel.size;by_cases hlt:k<n
 ·have X:=M.out.below hbel (AG _);have⟨g',o',e1,hc⟩:=X.cells A4;cases e1;have d:k<l.length:=JN;have S:=hc k d;unfold Cd at S;have i:=Akr l (λc=>decide (0x7f<c)) k d;have E:=H0 (Ais (p:=HP) d);have z:=CI d;have I:=A6 (HP l[k]=true->(l.take (k+1)).all HP=true) (λe=>by
   rw[Fe d,KM,f.out,Hh,e];rfl)
  generalize hx:l[k]=x at S i E z I;have Z:=K.out x z;change Hid _ at z hx hc;clear X;generalize Y:((l.take k).any λc=>decide (0x7f<c))=A at i⊢;replace Y:=H0 Y;have u:=H0 (λw=>Afu x w Z);have j:HP x=(decide ((DY x).2=1)&&decide (x≠46)):=rfl;generalize Q:DY x=m at u j;replace Q:=H0 Q;have⟨ml,T⟩:=m;dsimp only at j;by_cases h1:T=1
  ·subst h1;by_cases q:x=46
   ·subst q;have hf:=A6 (R=false) (by rw[b.out,E.out (by rw[j];rfl)];rfl);change Hid _ at j i;go_wp2_with fail;go_call(u.out _) as e N⟨t,rfl,P,hb1⟩;go_wp2_with fail;exact Ty
   have V:((x:Int)==46)=false:=DV;have aC:=H0 (I.out AS);replace j:=H0 j;have J:decide (0x7f<x)=decide (127<(x:Int)):=decide_eq_decide.2 A4;rw[J]at i;generalize hD:decide (127<(x:Int))=D at i;change Hid _ at J q i;go_wp2_with fail;refine(u.out _).mono ?_;rintro e N⟨t,rfl,P,hb1⟩;have G:=hbel.trans (hb1.mono bD);cases A;all_goals
    go_wp2_with fail;go_roundw;exact⟨k+1,AP,A4,by rw[i.out];simp,G,aC⟩;exact AzF
  have nW:((T:Int)==1)=false:=DV;have hf:=A6 (R=false) (by rw[b.out,E.out AS];rfl);change Hid _ at j i h1;go_wp2_with fail;refine(u.out _).mono ?_;rintro e N⟨t,rfl,P,hb1⟩;go_wp2_with fail;exact Ty
 have H:l.take k=l:=Bc JN;have hf:=A6 (R=(l.take k).any λc=>decide (0x7f<c)) (by rw[b.out,H];rw[H]at f;rw[f.out];simp);exact UE
def toR(c:Nat):List Nat:=
 if(Ae c 0x41 0x5a||Ae c 0xc0 0xd6||Ae c 0xd8 0xde||Ae c 0x391 0x3a1||Ae c 0x3a3 0x3a9||Ae c 0x410 0x42f)=true then[c+0x20]
 else if(Ae c 0x100 0x12e&&c%2==0)=true then[c+1]
 else if Ae c 0x400 0x40f=true then[c+0x50]
 else if(c==0x130)=true then[105,775]
 else if(c==0x2024||c==0x3002||c==0xff61)=true then[46]
 else if(c==0x2100)=true then[97,47,99]
 else if(c==0x2105)=true then[99,47,111]
 else if Ae c 0x2460 0x2468=true then[c-0x2460+49]
 else if Ae c 0xff21 0xff3a=true then[c-0xfee0+0x20]
 else if Ae c 0xff01 0xff5e=true then[c-0xfee0]
 else if Ae c 0x1d7ce 0x1d7ff=true then[48+(c-0x1d7ce)%10]
 else[]
theorem Aag(x:Nat):[x].flatMap An=An x:=by simp_all
def YV{l:A5}(h:EA l=true){m:List Nat}(a:m=l.map (·.toNat)):m.flatMap An=l:=by subst a;exact Z9 h
def Ahw(c:Nat):(toR c).flatMap An=Gv c:=by
 rw[Agd];unfold toR;by_cases h1:(Ae c 0x41 0x5a||Ae c 0xc0 0xd6||Ae c 0xd8 0xde||Ae c 0x391 0x3a1||Ae c 0x3a3 0x3a9||Ae c 0x410 0x42f)=true
 ·simp_all
 rw[AA h1,AA h1];by_cases m:(Ae c 0x100 0x12e&&c%2==0)=true
 ·simp_all
 rw[AA m,AA m];by_cases k:Ae c 0x400 0x40f=true
 ·have:=Hl k;grind[Aag]
 rw[AA k];by_cases i:(c==0x130)=true
 ·rw[AC i,AC i];rfl
 rw[AA i,AA i,AA k];by_cases f:(c==0x2024||c==0x3002||c==0xff61)=true
 ·rw[AC f,AC f];exact YV AE rfl
 rw[AA f,AA f];by_cases g:(c==0x2100)=true
 ·rw[AC g,AC g];exact YV AE rfl
 rw[AA g,AA g];by_cases j:(c==0x2105)=true
 ·rw[AC j,AC j];exact YV AE rfl
 rw[AA j,AA j];by_cases n:Ae c 0x2460 0x2468=true
 ·simp_all
 rw[AA n,AA n];by_cases l:Ae c 0xff21 0xff3a=true
 ·have:=Hl l;have a:Ae c 0xff01 0xff5e=true:=by unfold Ae;simp;omega
  have b:Ae (c-0xfee0) 65 90=true:=by unfold Ae;simp;omega
  grind
 rw[AA l];by_cases e:Ae c 0xff01 0xff5e=true
 ·have b:¬(Ae (c-0xfee0) 65 90=true):=by
   intro h;have:=Hl h;exact l (by unfold Ae;simp;omega)
  grind
 rw[AA e,AA e];by_cases d:Ae c 0x1d7ce 0x1d7ff=true
 ·simp_all
 rw[AA d,AA d];rfl
def Ave(c:Nat)(hc:c<=1114111):∀x∈toR c,x<=2147483647:=by
 intro x hx;unfold toR at hx;have d:∀y:Nat,x∈[y]->y<=2147483647->x<=2147483647:=λy h1 a=>by rw[CO]at h1;omega
 have b:∀l:List Nat,x∈l->(l.all λy=>decide (y<=2147483647))=true->x<=2147483647:=λl h1 a=>by simpa using Et.1 a x h1
 repeat' split at hx
 all_goals first|exact b _ hx AE|exact d _ hx A4
def Avu(c:Nat):(toR c).length<=3:=by
 unfold toR;repeat' split
 all_goals simp
def Ax9(c:Nat):IY c=(!(c==0xd7)&& !(c==0xf7)&&(Ae c 0 0x7f||Ae c 0xdf 0xff||Ae c 0x101 0x12f||Ae c 0x300 0x36f||Ae c 0x3b1 0x3c9||Ae c 0x430 0x45f||Ae c 0x3041 0x3096||Ae c 0x30a1 0x30fa||Ae c 0x4e00 0x9fff||Ae c 0xac00 0xd7a3||Ae c 0x1f300 0x1f5ff)):=by
 unfold IY Nb Ae;rw[Fl];simp[OV,List.any_nil,Gd,C0,II,Bool.not_eq_true',B6,Jw];omega
def Azi(c:Nat):∃cs:List Nat,(DY c).1=cs.flatMap An:=by
 unfold DY;split
 ·exact⟨toR c,(Ahw c).symm⟩
 split
 ·exact⟨[],rfl⟩
 split
 ·exact⟨[c],(Aag c).symm⟩
 exact⟨[],rfl⟩
def Aba:∀{l:List Nat}{t:A5},EI l=some t->∃cs:List Nat,t=cs.flatMap An
 |[],t,h=>by cases h;exact⟨[],rfl⟩
 |c::r,t,h=>by
  rw[EI]at h;split at h
  ·cases h
  rw[H1]at h;obtain⟨e,d,rfl⟩:=h;have⟨a,ha⟩:=Aba d;have⟨b,hb⟩:=Azi c;exact⟨b++a,by rw[Jh,<-ha,<-hb]⟩
def ApF(c:Nat)(r:A5):(E8 (An c++r)).2=(An c).length:=by
 by_cases h:c<55296\/(57344<=c/\c<=1114111)
 ·have of:∀n,n<256->(UInt8.ofNat n).toNat=n:=λn f=>by rw[LC,JV f]
  have a:∀k v,2<=k->BG (An c++r)=(v,k)->(E8 (An c++r)).2=k:=λk v g e=>by
   unfold E8;grind
  rw[NS h]at a⊢;by_cases h1:c<0x80
  ·grind[AdI]
  rw[AA h1]at a⊢;by_cases d:c<0x800
  ·rw[AC d]at a⊢;refine a 2 c (AG _) ?_;rw[Ku];exact RR
  rw[AA d]at a⊢;by_cases b:c<0x10000
  ·rw[AC b]at a⊢;refine a 3 c A4 ?_;exact Ak7
  rw[AA b]at a⊢;refine a 4 c A4 ?_;exact Ak7
 have e:An c=Dc:=by unfold An;rw[AC A4]
 rw[e];unfold E8;rw[AgI];rfl
def UK(c:Nat):1<=(An c).length:=by
 exact AbN
def AfN:∀(f:Nat)(cs:List Nat),(cs.flatMap An).length<f->(sgF f (cs.flatMap An)).length=cs.length
 |0,_,h=>A4|f+1,[],_=>rfl
 |f+1,c::r,h=>by
  have a:=UK c;rw[GV]at h⊢;rw[Aa]at h;rw[sgF,AA (by intro e;have:=congrArg List.length e;rw[Aa,Ep]at this;omega),ApF,List.drop_left,BC,AfN f r A4,BC]
def Ape(cs:List Nat):(EY (cs.flatMap An)).length=cs.length:=by rw[<-Aij];exact AfN _ cs A4
def AlO:∀cs:List Nat,cs.length<=(cs.flatMap An).length
 |[]=>AG _
 |c::r=>by
  have:=UK c;have:=AlO r;rw[GV,Aa,BC];omega
def Axg(h:(An c).length=1):EA (An c)=true:=by
 by_cases a:c<55296\/(57344<=c/\c<=1114111)
 ·rw[NS a]at h⊢;by_cases h1:c<0x80
  ·rw[AC h1];unfold EA;rw[Hh,List.all_nil,Kj,JY,LC,JV A4];exact h1
  rw[AA h1]at h;repeat' split at h
  all_goals simp at h
 unfold An at h;rw[AC A4]at h;exact absurd h AE
def Aha:∀{cs:List Nat},cs.length=(cs.flatMap An).length->EA (cs.flatMap An)=true
 |[],_=>rfl
 |c::r,h=>by
  have h1:=UK c;have d:=AlO r;rw[GV,Aa,BC]at h;have a:=Axg (c:=c) A4;have b:=Aha (cs:=r) A4;rw[GV];unfold EA at a b⊢;rw[KM,a,b];rfl
def KX(l:A5):Prop:=∃cs:List Nat,l=cs.flatMap An
def KX.plain{l:A5}(h:KX l)(e:(EY l).length=l.length):EA l=true:=by
 obtain⟨cs,rfl⟩:=h;rw[Ape]at e;exact Aha e
def Aqw{l:A5}(h:EA l=true):(EY l).length=l.length:=by rw[SW h,Bz]
def Apg(c:Nat):An c=[46]\/(46:UInt8) ∉ An c:=by
 by_cases h:c<55296\/(57344<=c/\c<=1114111)
 ·have of:∀n,n<256->n≠46->(46:UInt8)≠UInt8.ofNat n:=λn b a e=>by
   have:=congrArg UInt8.toNat e;rw[LC,JV b]at this;grind
  rw[NS h];by_cases d:c=46
  ·simp_all
  right;split
  ·exact NZ
  split
  ·exact NZ
  split
  ·exact NZ
  exact NZ
 right;unfold An;rw[AC A4];decide
def Aew:∀{cs:List Nat}{p r:A5},(46:UInt8) ∉ p->p++46::r=cs.flatMap An->KX p/\KX r
 |[],p,r,_,h=>by simp_all
 |c::cs,p,r,hp,h=>by
  rw[GV]at h;rcases Apg c with h1|h1
  ·simp_all;cases p with
   |nil=>
    have:r=cs.flatMap An:=(HY h).2;exact⟨⟨[],rfl⟩,⟨cs,this⟩⟩
   |cons a q=>
    grind
  have b:(An c).length<=p.length:=by
   rcases Nat.lt_or_ge p.length (An c).length with f|e
   ·exfalso;have j:(p++46::r)[p.length]?=some 46:=AN;grind
   exact e
  have g:p=An c++p.drop (An c).length:=by
   have:=congrArg (List.take (An c).length) h;rw[TF b,List.take_left]at this
   conv=>lhs;rw[<-F7 (An c).length p,this]
  have d:p.drop (An c).length++46::r=cs.flatMap An:=by
   have:=congrArg (List.drop (An c).length) h;grind
  have⟨⟨a,ha⟩,hr⟩:=Aew (λi=>hp (List.mem_of_mem_drop i)) d;exact⟨⟨c::a,by rw[GV,<-ha,<-g]⟩,hr⟩
def Aoi:Fs A8 22 9 (.string ByteArray.empty) 16:=.mk' underlying22 AO rfl
def KZ(s:A9)(l:List A9)(b k:Nat):Prop:=
 (k<=s.size/\b<=k/\Al 46 s.toList=l.map (·.toList)++Al 46 (s.toList.drop b)/\∀c∈(s.toList.take k).drop b,c≠46)\/(s.size<k/\Al 46 s.toList=l.map (·.toList))
def AmG(l:A5)(h:b<=k)(a:k<=l.length):l.drop b=(l.take k).drop b++l.drop k:=by
 conv=>lhs;rw[(F7 k l).symm]
 rw[Ge AS]
variable{s:A9}{l:List A9}
def KZ.on(h:KZ s l b k)(hk:k<s.size)(hc:s[k]≠46):KZ s l b (k+1):=by
 exact Ac5
def KZ.new(h:KZ s l b k)(e:k<s.size)(hc:s[k]=46):KZ s (l++[s.extract b k]) (k+1) (k+1):=by
 rcases h with⟨_,d,a,f⟩|⟨h,_⟩
 ·refine .inl ⟨A4,AG _,?_,?_⟩
  ·rw[a,AmG s d Dy,Aw s k e,hc,P3,Nv _ f];simp[toList_extract]
  rw[Cj Fx];intro c hc;cases hc
 omega
def KZ.fin(h:KZ s l b k)(a:k=s.size):KZ s (l++[s.extract b k]) (k+1) (k+1):=by
 exact Aie
def _root_.Go.Proofs.YtonomfeipkdmhaaGreatDoor.OwnS.front{w:A7}{B:Nat}{E:Ab}{v:AJ}(h:OwnS w B E v l)(p:0<l.length):∃g b,v=.slice (some ⟨g,0,none⟩) l.length b/\l.length<=b/\∀i(h:i<l.length),w.cell? ⟨g,i,none⟩=some (.string l[i]):=by
 rcases h.2 with⟨k,m⟩|⟨g,a,d,rfl,o,n,e,q,c,j⟩
 ·omega
 refine⟨g,a,rfl,e,λi f=> ?_⟩;have:=KH h i A4;rw[this];simp[f]
def Akq(s:A9)(w:A7)(J:s.size<=4294967281):AD A8 254 #[.string s] w (AhL w (BU s)):=by
 go_in;go_wp2;go_loopw[3,4,5] (λv C i wr=>∃(k b:Nat)(l:List A9),i=.int .i64 k/\k<=s.size+1/\b<=k/\C=.int .i64 b/\Hid (KZ s l b k)/\l.length<=k/\OwnS wr w 9 v l/\AF w w wr) (λ_ _ i _=>s.size+1-(intOf i).toNat)
 ·exact Ahu
 obtain⟨k,b,l,rfl,H,y,rfl,j,E,hown,hbel⟩:=hrel;have aP:=hbel.size;by_cases e:k<s.size
 ·have⟨x,n1⟩:=Mz (show¬(k:Int)=(s.size:Int)by omega);have I:(k:Int)<s.size:=A4;have D:(k:Int)<=s.size:=A4;have d:=Rl (c:=s[k]) (n:=46) AE;by_cases hc:s[k]=46
  ·have p:((s[k].toNat:Int)==46)=true:=d.trans (by rw[hc];decide);have aC:=H0 (j.out.new e hc);replace hc:=H0 hc;clear d;exact AfJ
  have p:((s[k].toNat:Int)==46)=false:=d.trans Oi;have aC:=H0 (j.out.on e hc);replace hc:=H0 hc;clear d;exact Aeq
 by_cases q:k=s.size
 ·have⟨x,n1⟩:=LQ (show(k:Int)=(s.size:Int)by omega);have D:(k:Int)<=s.size:=A4;have aC:=H0 (j.out.fin q);replace q:=H0 q;exact AfJ
 have G:(s.size:Int)<k:=A4;have hl:=A6 (l.map (·.toList)=Al 46 s.toList) (by
  rcases j.out with⟨h,_⟩|⟨_,h⟩
  ·omega
  exact h.symm)
 have o:=A6 (l.length=(Al 46 s.toList).length) AcK;have t:0<l.length:=by rw[o.out];exact FV.2 (Ik _ _)
 have hlast:=A6 ((Al 46 s.toList).getLast?=some (l[l.length-1].toList)) (by rw[<-hl.out];exact Y3 t);obtain⟨g,B,rfl,z,a⟩:=hown.front t;have F:=a (l.length-1) A4;have x:IntKind.i64.wrap ((l.length:Int)-1)=(l.length:Int)-1:=BI _ A4;change Hid _ at a hown;by_cases m:l.length=1
 ·have d:(l.length:Int)<=1:=A4;have f:=A6 (l.map (·.toList)=BU s) (by
   unfold BU;rw[AA (by have:=o.out;omega)];exact hl)
  replace m:=H0 m;go_wp2;go_ret;exact⟨_,l,rfl,f,Pk a,hbel⟩
 have d:1<(l.length:Int):=A4;replace m:=H0 m;cases hem:(l[l.length-1].toList.isEmpty)
 ·have f:=A6 (l.map (·.toList)=BU s) (by
   unfold BU;rw[AA Aco];exact hl)
  go_wp2;go_ret;exact⟨_,l,rfl,f,Pk a,hbel⟩
 have f:=A6 ((l.dropLast).map (·.toList)=BU s) (by
  unfold BU;rw[AC ⟨by have:=o.out;omega,by rw[hlast.out];congr 1;simpa using hem⟩,<-hl.out,Nc])
 have u:=A6 (l.dropLast.length=l.length-1) OJ;have A:=A6 (CA wr (.slice (some ⟨g,0,none⟩) (l.length-1) B) l.dropLast) (by
  rw[<-u.out];exact Pk (λi K=>by
   have r:i<l.length:=by have:=u.out;omega
   rw[List.getElem_dropLast];exact a.out i r))
 go_wp2;go_ret;exact⟨_,l.dropLast,rfl,f,A,hbel⟩
def AdB(s:A9)(w:A7)(D:s.size<=1099511627776):AD A8 255 #[.string s] w (Fm 8589934592 w (CY s)):=by
  cases hem:s.toList.isEmpty
  · have W:∃(b:Nat)(x:A9)(B:Bool),(b=8\/b=10\/b=16)/\x.size<=1099511627776/\CY s.toList=Ak b 0 x.toList/\
        ((b=10/\B=false/\x=s/\((s.size:Int)<=1\/1<(s.size:Int)/\∃h:0<s.size,((s[0].toNat:Int)==48)=false))\/(b=8/\B=true/\s.extract 1 s.size=x/\1<(s.size:Int)/\(∃h:0<s.size,((s[0].toNat:Int)==48)=true)/\∃h:0<x.size,((x[0].toNat:Int)==120)=false/\((x[0].toNat:Int)==88)=false)\/(b=16/\B=true/\∃t:A9,s.extract 1 s.size=t/\t.extract 1 t.size=x/\1<(s.size:Int)/\(∃h:0<s.size,((s[0].toNat:Int)==48)=true)/\∃h:0<t.size,(((t[0].toNat:Int)==120)=true\/(((t[0].toNat:Int)==120)=false/\((t[0].toNat:Int)==88)=true)))):=by
      have u:=AK s
      match hL:s.toList with
      |[]=>rw[hL]at hem;cases hem
      |[c]=>rw[hL]at u;exact⟨10,s,false,AE,D,by rw[hL];rfl,.inl ⟨rfl,rfl,rfl,.inl (by simp at u;omega)⟩⟩
      |c::d::r=>
        rw[hL]at u;simp only[BC]at u;have a:0<s.size:=A4;have h1:1<(s.size:Int):=A4;have U:=WV hL a;have K:((s[0].toNat:Int)==48)=decide (c=48):=by rw[U];exact Rl (n:=48) AE
        have p:(s.extract 1 s.size).toList=d::r:=by rw[J2,hL];rfl
        have I:(s.extract 1 s.size).size=r.length+1:=by rw[<-AK,p];rfl
        have q:0<(s.extract 1 s.size).size:=A4;have P:=WV p q;have v:(((s.extract 1 s.size)[0].toNat:Int)==120)=decide (d=120):=by rw[P];exact Rl (n:=120) AE
        have Q:(((s.extract 1 s.size)[0].toNat:Int)==88)=decide (d=88):=by rw[P];exact Rl (n:=88) AE
        by_cases hc:c=48
        · by_cases f:d=120\/d=88
          · refine⟨16,_,true,AE,?_,?_,.inr (.inr ⟨rfl,rfl,_,rfl,rfl,h1,⟨a,K.trans (Bx hc)⟩,q,?_⟩)⟩
            · rw[<-AK,J2,p];simp;omega
            · rw[J2,p];show CY (c::d::r)=_;rw[CY,AC hc,AC f];rfl
            · by_cases l:d=120
              · exact .inl (v.trans (Bx l))
              · exact .inr ⟨v.trans (BO l),Q.trans (Bx (f.resolve_left l))⟩
          · refine⟨8,_,true,AE,?_,?_,.inr (.inl ⟨rfl,rfl,rfl,h1,⟨a,K.trans (Bx hc)⟩,q,v.trans (BO (λh=>f (.inl h))),Q.trans (BO (λh=>f (.inr h)))⟩)⟩
            · rw[I];omega
            · rw[p];show CY (c::d::r)=_;rw[CY,AC hc,AA f]
        · exact⟨10,s,false,AE,D,by rw[hL];show CY (c::d::r)=_;rw[CY,AA hc],.inl ⟨rfl,rfl,rfl,.inr ⟨h1,a,K.trans (BO hc)⟩⟩⟩
    have⟨b,x,B,hb,hx,hV,hws⟩:=W;change Hid _ at hV hws;go_in;go_upto_region 4 with(fail);go_cut[17] (λy wx=>y=.bool B/\w=wx);case first=>as_aux_lemma=>
      rcases hws.out with⟨rfl,rfl,rfl,h|⟨h,a,h1⟩⟩|⟨rfl,rfl,_,h,⟨a,h1⟩,_⟩|⟨rfl,rfl,_,_,_,h,⟨a,h1⟩,_⟩;all_goals
        go_wp2;go_meet;exact⟨rfl,rfl⟩
    ·obtain⟨rfl,rfl⟩:=hcut;go_upto_if 17 with(fail);go_cut[0,4] (λS Z wx=>S=.string x/\Z=.int .i64 (b:Int)/\w=wx);case first=>as_aux_lemma=>
       rcases hws.out with⟨rfl,rfl,rfl,_⟩|⟨rfl,rfl,g,h,⟨a,_⟩,q,L,X⟩|⟨rfl,rfl,t,g,G,h,⟨a,_⟩,q,L|⟨L,X⟩⟩;all_goals
         go_wp2;go_meet;exact⟨by first|rfl|rw[g]|rw[g,G],rfl,rfl⟩
     ·obtain⟨rfl,rfl,rfl⟩:=hcut;have F:1<=b:=A4;have Y:(b:Int)<=16:=A4;clear hb hws hem D;go_wp2;go_loop[5,6] (λT iv=>∃k m acc:Nat,iv=.int .i64 k/\T=.int .i64 m/\k<=x.size/\m<=8589934592/\Hid (m=min acc 8589934592)/\Hid (Ak b acc (x.toList.drop k)=CY s)) (λ_ i=>x.size-(intOf i).toNat)
      ·exact⟨0,0,0,rfl,rfl,AR _,A4,rfl,H0 (by rw[C9,hV.out])⟩
      obtain⟨k,m,acc,rfl,rfl,hk,V,M,o⟩:=hrel;by_cases A:k<x.size
      · have N:=Aw x k A
        have cE:(k:Int)<x.size:=A4;rw[N]at o;clear N;by_cases f:AQ (x[k].toNat:Int) (b:Int)<0
        · have j:=A6 (CY s.toList=none) (by rw[<-o.out,Ak,AC f])
          go_wp2_with(go_call(Eh _ _ _ (Bo _) (Bf _)) as e w'⟨rfl,rfl⟩);go_ret2;unfold Fm;rw[j.out];exact⟨rfl,rfl⟩
        · have z:=Aj4 (x[k].toNat:Int) (b:Int)
          have O:=A6 (Ak b (acc*b+(AQ (x[k].toNat:Int) (b:Int)).toNat) (x.toList.drop (k+1))=CY s) (by rw[<-o.out,Ak,AA f]);obtain⟨d,R⟩:∃d:Nat,AQ (x[k].toNat:Int) (b:Int)=(d:Int):=⟨(AQ (x[k].toNat:Int) (b:Int)).toNat,A4⟩;have J:=λw=>Eh (x[k].toNat:Int) (b:Int) w (Bo _) (Bf _);rw[R]at O J z f;change Hid _ at J R;have hmb:m*b<=8589934592*16:=O7 V A4;have E:(m:Int)*b=((m*b:Nat):Int):=by rw[Int.natCast_mul]
          have e1:IntKind.i64.wrap ((m:Int)*b)=((m*b:Nat):Int):=by rw[E];exact BI _ A4
          have e2:IntKind.i64.wrap (((m*b:Nat):Int)+(d:Int))=((m*b:Nat):Int)+(d:Int):=BI _ A4;have H:=AhF (C:=8589934592) (acc:=acc) (d:=d) F;rw[<-M.out]at H;change Hid _ at H E;clear o;go_wp2_with(go_call J;refine AH ?_);go_round;exact⟨k+1,min (m*b+d) 8589934592,acc*b+d,AP,congrArg (Value.int .i64) (by rw[E.out];omega),A4,Ri _ _,H0 H,O⟩;exact AzF
      · have aD:=A6 (CY s.toList=some acc) (by rw[<-o.out,CP x k A4];rfl)
        clear o;go_wp2;go_ret2;unfold Fm;rw[aD.out,M.out];exact⟨rfl,rfl⟩
  · have j:=A6 (CY s.toList=none) (by rw[show s.toList=[]by simpa using hem];rfl)
    go_in;go_wp2;go_ret2;unfold Fm;rw[j.out];exact⟨rfl,rfl⟩
def AqP(s:A9)(w:A7)(D:s.size<4294967281):AD A8 195 #[.string s] w (GG w (HV s)):=by
 go_in;go_wp2_with fail;go_call Akq as e w1⟨v,l,rfl,hl,hrd,hb⟩;have hll:=A6 ((BU s).length=l.length) AaG;have m:0<l.length:=Wa;have z:l.length<=4294967281:=by rw[<-hll.out];have:=Akn s;rw[AK]at this;omega
 obtain⟨g,o,c,rfl,f⟩:=VW hrd m;have y:=f (l.length-1) A4;have x:l[l.length-1].size<=1099511627776:=by have:=Tt hl (Sh s) (l.length-1) A4;rw[AK]at this;omega
 have a:=H0 (AiE hl m);have E:IntKind.i64.wrap ((l.length:Int)-1)=(l.length:Int)-1:=BI _ A4;clear hrd f;generalize r:l[l.length-1]=t at y x a;replace r:=H0 r;have u:=H0 (λw=>AdB t w x);have n:=A6 (HV s.toList=((Az 10 t.toList).isSome||(CY t).isSome)) (by unfold HV;rw[a.out]);cases b:(CY t).isSome
 ·have h:=A6 (HV s.toList=(Az 10 t.toList).isSome) (by rw[n.out,b,Jw]);replace b:=H0 b;go_wp2_with fail;go_call u;refine AH ?_;rw[b.out];go_wp2;go_loop[7] (λiv=>∃k acc:Nat,iv=.int .i64 k/\k<=t.size/\Hid (Ak 10 acc (t.toList.drop k)=Ak 10 0 t.toList)) (λiv=>t.size-(intOf iv).toNat)
  ·exact⟨0,0,rfl,AR _,H0 L5⟩
  obtain⟨k,acc,rfl,C,d⟩:=hrel;by_cases i:k<t.size
  ·have p:=Aw t k i;have F:(k:Int)<t.size:=A4;rw[p]at d;clear p;by_cases q:AQ (t[k].toNat:Int) 10<0
   ·have j:=A6 (HV s.toList=false) (by
     rw[h.out];unfold Az;rw[<-d.out,Ak,AC (show AQ (t[k].toNat:Int) ((10:Nat):Int)<0 from q)];split<;>rfl)
    go_wp2_with(go_call(Eh _ _ _ (Bo _) (Bf _)) as e w'⟨rfl,rfl⟩);go_ret;exact⟨Ci j.out.symm,hb⟩
   have A:=A6 (Ak 10 (acc*10+(AQ (t[k].toNat:Int) 10).toNat) (t.toList.drop (k+1))=Ak 10 0 t.toList) (by rw[<-d.out,Ak,AA (show¬AQ (t[k].toNat:Int) ((10:Nat):Int)<0 from q)];rfl);have B:0<=AQ (t[k].toNat:Int) 10:=A4;clear d;go_wp2_with(go_call(Eh _ _ _ (Bo _) (Bf _)) as e w'⟨rfl,rfl⟩);go_round;exact⟨k+1,_,AP,A4,A⟩;exact AzF
  have aD:=A6 (HV s.toList= !t.toList.isEmpty) (by
   rw[h.out];unfold Az;rw[<-d.out,CP t k A4,Ak];cases t.toList<;>rfl)
  clear d;go_wp2;go_ret;exact⟨Ci LP,hb⟩
 have h:=A6 (HV s.toList=true) (by rw[n.out,b,NY]);replace b:=H0 b;go_wp2_with fail;go_call u;refine AH ?_;rw[b.out];go_wp2;go_ret;exact⟨Ci h.out.symm,hb⟩
def AuU(s:A9)(w:A7)(L:s.size<4294967281):AD A8 196 #[.string s] w (QD w (CT s)):=by
 go_in;go_wp2_with fail;refine(Akq s _ A4).mono ?_;rintro e M⟨v,l,rfl,hl,q,hb⟩;have hll:=A6 ((BU s).length=l.length) AaG;have B:0<l.length:=Wa;obtain⟨g,o,c,rfl,hcc⟩:=VW q B;clear q;by_cases h4:4<l.length
 ·exact AeJ
 have E:=A6 (CT s.toList=Ch 0 (BU s) 0) (by unfold CT OM;rw[hll.out,AA h4]);have A:∀i(h:i<l.length),l[i].size<=4294967281:=λi u=>by
  have:=Tt hl (Sh s) i u;exact KN
 have x:∀i(h:i<l.length),(BU s).drop i=l[i].toList::(BU s).drop (i+1):=λi u=>by
  rw[<-hl.out,Fr (by simpa using u)];simp
 change Hid _ at hcc A x;go_wp2_with fail;go_loop[6,7,8] (λC D iv=>∃k a R:Nat,iv=.int .i64 k/\C=.int .i64 a/\D=.int .i64 R/\k<=l.length/\a<=4294967296/\Hid (R=2^(8*(4-k)))/\Hid (a+2^(8*(4-k))<=4294967296\/k=l.length/\a<4294967296)/\Hid (Ch k ((BU s).drop k) a=CT s)) (λ_ _ i=>l.length-(intOf i).toNat)
 ·exact⟨0,0,4294967296,rfl,rfl,rfl,AR _,A4,H0 AE,H0 (.inl AE),H0 (by rw[C9,E.out])⟩
 obtain⟨k,a,R,rfl,rfl,rfl,K,N,p,cJ,hg⟩:=hrel;by_cases n:k<l.length
 ·have Q:(k:Int)<l.length:=A4;have t:=hcc.out k n;have S:=A.out k n;have H:=H0 (λw=>AdB l[k] w A4);have bZ:=H0 (x.out k n);go_wp2_with fail;refine(H.out _).mono (AH ?_);cases hv:CY l[k].toList with
  |none=>
   exact Al7
  |some v=>
   obtain⟨m,eB⟩:∃m,m=min v 8589934592:=⟨_,rfl⟩;have G:m<=8589934592:=by rw[eB];exact Ri _ _
   rw[show min ((some v).getD 0) 8589934592=m from eB.symm,show(some v).isSome=true from rfl];replace eB:=H0 eB;by_cases F:k+1=l.length
   ·have j:(BU s).drop (k+1)=[]:=Cj Nk;have bF:=A6 (CT s.toList=if v<2^(8*(4-k))then some (a+v)else none) (by rw[<-hg.out,bZ.out,j,Ch,hv]);clear j;replace hv:=H0 hv;rcases(show k=0\/k=1\/k=2\/k=3 by omega)with rfl|rfl|rfl|rfl
    ·obtain rfl:R=4294967296:=p.out;have b:(l.length:Int)-1=0:=A4;have aW:a+4294967296<=4294967296:=IV;by_cases hvP:v<4294967296
     ·have d:m=v:=FE;subst d;have iF:decide (4294967296<=(m:Int))=false:=BO A4;have f:=A6 (Ch 1 ((BU s).drop 1) (a+m)=CT s) (by
       exact MH)
      have bL:a+m<4294967296:=A4;change Hid _ at aW bL hvP;go_wp2_with fail;go_round;exact⟨1,a+m,16777216,AP,AP,AP,A4,IF,H0 AE,H0 (.inr ⟨A4,bL⟩),f⟩;exact AzF
     have iF:4294967296<=(m:Int):=FE;exact Lz
    ·obtain rfl:R=16777216:=p.out;have b:(l.length:Int)-1=1:=A4;have aW:a+16777216<=4294967296:=IV;by_cases hvP:v<16777216
     ·have d:m=v:=FE;subst d;have iF:decide (16777216<=(m:Int))=false:=BO A4;have f:=A6 (Ch 2 ((BU s).drop 2) (a+m)=CT s) (by
       exact MH)
      have bL:a+m<4294967296:=A4;change Hid _ at aW bL hvP;go_wp2_with fail;go_round;exact⟨2,a+m,65536,AP,AP,AP,A4,IF,H0 AE,H0 (.inr ⟨A4,bL⟩),f⟩;exact AzF
     have iF:16777216<=(m:Int):=FE;exact Lz
    ·obtain rfl:R=65536:=p.out;have b:(l.length:Int)-1=2:=A4;have aW:a+65536<=4294967296:=IV;by_cases hvP:v<65536
     ·have d:m=v:=FE;subst d;have iF:decide (65536<=(m:Int))=false:=BO A4;have f:=A6 (Ch 3 ((BU s).drop 3) (a+m)=CT s) (by
       exact MH)
      have bL:a+m<4294967296:=A4;change Hid _ at aW bL hvP;go_wp2_with fail;go_round;exact⟨3,a+m,256,AP,AP,AP,A4,IF,H0 AE,H0 (.inr ⟨A4,bL⟩),f⟩;exact AzF
     have iF:65536<=(m:Int):=FE;exact Lz
    obtain rfl:R=256:=p.out;have b:(l.length:Int)-1=3:=A4;have aW:a+256<=4294967296:=IV;by_cases hvP:v<256
    ·have d:m=v:=FE;subst d;have iF:decide (256<=(m:Int))=false:=BO A4;have f:=A6 (Ch 4 ((BU s).drop 4) (a+m)=CT s) (by
      exact MH)
     have bL:a+m<4294967296:=A4;change Hid _ at aW bL hvP;go_wp2_with fail;go_round;exact⟨4,a+m,1,AP,AP,AP,A4,IF,H0 AE,H0 (.inr ⟨A4,bL⟩),f⟩;exact AzF
    have iF:256<=(m:Int):=FE;exact Lz
   have j:∃y r,(BU s).drop (k+1)=y::r:=by
    exact Agv
   have bF:=A6 (CT s.toList=if v<=255 then Ch (k+1) ((BU s).drop (k+1)) (a+v*2^(8*(3-k)))else none) (by
    obtain⟨y,r,h⟩:=j;rw[<-hg.out,bZ.out,h,Ch,hv])
   clear j;replace hv:=H0 hv;rcases(show k=0\/k=1\/k=2 by omega)with rfl|rfl|rfl
   ·obtain rfl:R=4294967296:=p.out;have b:0<(l.length:Int)-1:=A4;have z:(0==(l.length:Int)-1)=false:=B6.2 A4;have aW:a+4294967296<=4294967296:=IV;by_cases hvP:v<=255
    ·have d:m=v:=FE;subst d;have iF:(m:Int)<=255:=A4;have f:=A6 (Ch 1 ((BU s).drop 1) (a+m*16777216)=CT s) (by
      exact Oz)
     have bL:a+m*16777216+16777216<=4294967296:=A4;change Hid _ at aW bL;go_wp2_with fail;go_round;exact⟨1,a+m*16777216,16777216,AP,AP,AP,A4,IF,H0 AE,H0 (.inl bL),f⟩;exact AzF
    exact Oe
   ·obtain rfl:R=16777216:=p.out;have b:1<(l.length:Int)-1:=A4;have z:(1==(l.length:Int)-1)=false:=B6.2 A4;have aW:a+16777216<=4294967296:=IV;by_cases hvP:v<=255
    ·have d:m=v:=FE;subst d;have iF:(m:Int)<=255:=A4;have f:=A6 (Ch 2 ((BU s).drop 2) (a+m*65536)=CT s) (by
      exact Oz)
     have bL:a+m*65536+65536<=4294967296:=A4;change Hid _ at aW bL;go_wp2_with fail;go_round;exact⟨2,a+m*65536,65536,AP,AP,AP,A4,IF,H0 AE,H0 (.inl bL),f⟩;exact AzF
    exact Oe
   obtain rfl:R=65536:=p.out;have b:2<(l.length:Int)-1:=A4;have z:(2==(l.length:Int)-1)=false:=B6.2 A4;have aW:a+65536<=4294967296:=IV;by_cases hvP:v<=255
   ·have d:m=v:=FE;subst d;have iF:(m:Int)<=255:=A4;have f:=A6 (Ch 3 ((BU s).drop 3) (a+m*256)=CT s) (by
     exact Oz)
    have bL:a+m*256+256<=4294967296:=A4;change Hid _ at aW bL;go_wp2_with fail;go_round;exact⟨3,a+m*256,256,AP,AP,AP,A4,IF,H0 AE,H0 (.inl bL),f⟩;exact AzF
   exact Oe
 have J:=A6 (CT s.toList=some a) (by
  rw[<-hg.out,Cj Nk,Ch])
 have I:a<4294967296:=by
  exact AlP
 have O:IntKind.u32.wrap (a:Int)=(a:Int):=WY _ A4 A4;go_wp2_with fail;go_ret2;unfold QD;rw[J.out];exact⟨rfl,hb⟩
def Im:A5:=[100,97,116,97]
def F0(u:AT):Option (A5):=if u.scheme.toList=Im then RM (Hj u false)else none
def Aj8{u:AT}(h:u.scheme.toList=Im):∃r,Hj u false=[100,97,116,97,58]++r:=by
 unfold Hj;rw[h];exact⟨Ft u++GY u++Dh u.hasQuery ([63]++u.query.toList)++Dh (u.hasFrag&&false) ([35]++u.frag.toList),by simp[Im]⟩
def AsZ(r:A5):AL 44 ([100,97,116,97,58]++r)=([100,97,116,97,58]++(AL 44 r).1,(AL 44 r).2.1,(AL 44 r).2.2):=by
 show AL 44 (100::97::116::97::58::r)=_;rfl
def Aow(r:A5):Lib.trimPrefix ([100,97,116,97,58]++r) [100,97,116,97,58]=r:=by
 unfold Lib.trimPrefix Lib.hasPrefix;rfl
def Ar3(l:A5)(c:UInt8):Lib.hasPrefix l [c]=decide (l.head?=some c):=by
 cases l with
 |nil=>rfl
 |cons d r=>
  exact Aka
theorem Abe(l:A5):(MY l).length<=l.length:=CR (Qw _ _) (AdL _ _)
def An0(u:AT)(w:A7)(U:HF w u)(V:Ls u)(hz:(Hj u false).length<=900000000)(ht:GC w)(k:DW w):AD A8 108 #[.agg (AB u)] w (Sk w (F0 u)):=by
 have d:=Ah w (.cells (AB u) 34);have f:=H0 (CB w (.cells (AB u) 34));have x0:(w.alloc (.cells (AB u) 34)).cell? ⟨w,0,none⟩=some (.string u.scheme):=(Ky _ _ _ _ rfl).trans rfl;have e0:(ByteArray.mk #[]).toList=[]:=toList_mk [];have Z:=U.below d (AG _);by_cases g:u.scheme.toList=Im
 ·have W:(u.scheme.toList==[100,97,116,97])=true:=by rw[g];rfl
  have G:=A6 (F0 u=RM (Hj u false)) (by unfold F0;rw[AC g]);have⟨r,hr⟩:=Aj8 g;replace g:=H0 g;have F:=H0 (PL u false _ Z V (ht.next d));go_in;go_wp2_with(refine Cg rfl 34 _ rfl w rfl _ (AB u) _ _ f underlying34 rfl MG ?_);refine F.out.mono ?_;rintro e w2⟨t,rfl,b,c⟩;have d:=d.next c;clear c x0 f F;have X:t.size<=900000000:=by rw[<-AK,b.out];exact hz
  have J:=H0 (λw k=>KS t 44 w k A4);go_wp2_with fail;refine(J.out _ (k.next d)).mono ?_;rintro e Y⟨N,tb,nd,rfl,h1,h2,R⟩;have C:AF w w Y:=by rw[R];exact Ey d nd
  have hcut:AL 44 t.toList=([100,97,116,97,58]++(AL 44 r).1,(AL 44 r).2.1,(AL 44 r).2.2):=by rw[b.out,hr];exact AsZ r
  rw[hcut]at h1⊢;have s:=A6 (F0 u=if(AL 44 r).2.2=true then some (Jk (AL 44 r).1)else none) (by rw[G.out,hr];rfl);have D:(AL 44 r).1.length<=900000000:=by
   have:=HA 44 r;grind[List.length,Aa,BC]
  obtain⟨B,M⟩:∃B,(AL 44 r).2.2=B:=⟨_,rfl⟩;dsimp only at h1⊢;rw[M]at s⊢;clear R d J hcut G b;change Hid _ at M hr;cases B
  ·have hno:=A6 (F0 u=none) (by rw[s.out];simp);go_wp2;go_ret2;exact⟨⟨#[]⟩,Gt,H0 PC,C⟩
  have a:=A6 (F0 u=some (Jk (AL 44 r).1)) (by rw[s.out];simp);have i:=λw=>Tryz.strings_TrimPrefix N ⟨#[100,97,116,97,58]⟩ w;have n:Lib.trimPrefix N.data.toList (ByteArray.mk #[100,97,116,97,58]).data.toList=(AL 44 r).1:=by
   rw[<-BQ,h1.out];exact Aow _
  simp only[n]at i;replace i:=H0 i;clear n s;generalize hH:(AL 44 r).1=H at i a D;clear hH h1;generalize hth:(⟨H.toArray⟩:A9)=th at i;have z:th.toList=H:=by rw[<-hth];exact toList_mk _
  have K:th.size<=900000000:=by rw[<-AK,z];exact D
  rw[<-z]at a;clear hth z D;go_wp2_with fail;go_call i;refine AH ?_;go_wp2_with fail;go_call AtD as e w5⟨ts,rfl,hts,c⟩;have O:=C.next c;have L:ts.size<=900000000:=by
   rw[<-AK,hts.out];grind[Abe,AK]
  clear c C i;go_wp2_with fail;go_call Avc as e w6⟨tq,rfl,htq,c⟩;have Q:=O.next c;have T:tq.size<=900000000:=by
   rw[<-AK,htq.out];grind[Aiy,AK]
  have P:=A6 (Jk th.toList=(Ff (if tq.toList.head?=some 59 then JE++tq.toList else tq.toList)).getD JE) (by
   unfold Jk;rw[htq.out,hts.out])
  clear c O hts htq;have x:=λw=>Tryz.strings_HasPrefix tq ⟨#[59]⟩ w;have m:Lib.hasPrefix tq.data.toList (ByteArray.mk #[59]).data.toList=decide (tq.toList.head?=some 59):=by rw[<-BQ];exact Ar3 _ _
  simp only[m]at x;have q:(ByteArray.mk #[116,101,120,116,47,112,108,97,105,110]).toList=JE:=toList_mk _;obtain⟨j,b,E,p⟩:∃j:A9,Hid (Jk th.toList=(Ff j).getD JE)/\j.size<=900000010/\((decide (tq.toList.head?=some 59)=true/\j=⟨#[116,101,120,116,47,112,108,97,105,110]⟩++tq)\/(decide (tq.toList.head?=some 59)=false/\j=tq)):=by
   by_cases h:tq.toList.head?=some 59
   ·refine⟨⟨#[116,101,120,116,47,112,108,97,105,110]⟩++tq,H0 ?_,?_,.inl ⟨Bx h,rfl⟩⟩
    ·rw[P.out,AC h,toList_append,q]
    rw[Ix];show 10+tq.size<=_;omega
   grind
  replace q:=H0 q;clear m P;obtain⟨o,v⟩:=AI (Ff j);have I:=H0 (λw k=>v▸AtQ j w k A4);have aD:=A6 (F0 u=some (o.getD JE)) (by rw[a.out,b.out,v]);replace v:=H0 v;rcases p with⟨y,rfl⟩|⟨y,rfl⟩;all_goals
   rw[y]at x;change Hid _ at x y;go_wp2_with fail;go_call x;refine AH ?_;go_wp2_with fail;refine(I.out _ (k.next Q)).mono ?_;rintro e w8⟨tr,rfl,A,c⟩;have S:=Q.next c;clear c I;cases o with
   |none=>
    go_wp2_with fail;go_ret2;exact⟨⟨#[116,101,120,116,47,112,108,97,105,110]⟩,NF,H0 (by rw[aD.out];exact q),S⟩
   |some l=>
    go_wp2_with fail;go_ret2;exact⟨tr,NF,H0 (by rw[aD.out];exact A),S⟩
 have W:(u.scheme.toList==[100,97,116,97])=false:=by simpa[Im]using g
 have hno:=A6 (F0 u=none) (by unfold F0;rw[AA g]);go_in;go_wp2_with fail;go_ret2;exact⟨⟨#[]⟩,Gt,H0 PC,d⟩
def Gx(l:List A9)(s:A5):Bool:=l.any λe=>e.toList==s
def IP(h:E7)(e:A9):Bool:=(e.toList==Gm h)||(e.toList==[42])||(Lib.hasPrefix e [46]&&decide (h.kind=2)&&decide (e.size<h.name.size)&&Lib.hasSuffix h.name.toList e)
def LR(h:E7):Bool:=decide (h.kind=0)||decide (h.kind=1)
def hostA(l:List A9)(h:E7):Bool:=LR h||l.any (IP h)
def MC(T:List A9)(u:AT):Bool:=if u.scheme.toList=Im then(match F0 u with|none=>false|some e=>Gx T e)else true
def I4(S H T:List A9)(u:AT):Bool:=Gx S u.scheme.toList&&hostA H u.host&&MC T u
def AlL(l:A5)(b:Bool)(w:A7)(e:Ag)(w':A7):Prop:=∃t:A9,e=.returned (.tuple #[.string t,.bool b])/\Hid (b=true->t.toList=l)/\AF w w w'
def ArV:∀i(h:i<Fa.length),Fa[i].toList≠[97,109,112]:=by
 have a:Fa.all (λt=> !(t.toList==[97,109,112]))=true:=AX;intro i h e;have:=Et.1 a Fa[i] (CI h);rw[e]at this;cases this
def Zh{L T:List A9}(c:T.length=L.length)(f:L.length<=1000)(x:A9)(h:∀i(h:i<L.length),L[i].toList≠x.toList)(a b:Option Addr)(w:A7)(h1:CA w (.slice a L.length L.length) L)(d:CA w (.slice b L.length L.length) T):AD A8 263 #[.slice a L.length L.length,.slice b L.length L.length,.string x] w (AzJ (.tuple #[.string ⟨#[]⟩,.bool false]) w):=
 AhJ a b L.length L T x w h1 d rfl c f none h
def ApM(s:A9)(w:A7)(H:s.size<=1000)(b:Bool)(l:(b=true/\s.toList=[97,109,112,59])\/(b=false/\(59:UInt8)∈s.toList.dropLast)):AD A8 205 #[.string s] w (AlL [38] b w):=by
 have E:0<s.size:=by
  rw[<-AK];rcases l with⟨-,h⟩|⟨-,h⟩
  ·rw[h];decide
  ·cases hl:s.toList with
   |nil=>rw[hl]at h;cases h
   |cons a r=>simp
 obtain⟨n,x⟩:∃n,s.size=n+1:=⟨s.size-1,A4⟩;have B:n<s.size:=A4;have m:(s.extract 0 n).toList=s.toList.dropLast:=by
  rw[toList_extract,C9,OD,AK,x];rfl
 have k:s.toList=s.toList.dropLast++[s[n]]:=by
  have h1:=DX s n B;rw[Fh s (n+1) A4]at h1;rw[<-m,toList_extract,C9];exact h1
 have F:0<(s.size:Int):=A4;have G:(s.size:Int)-1<(s.size:Int):=A4;have J:((s.size:Int)-1).toNat=n:=A4;have i3:IntKind.i64.wrap ((s.size:Int)-1)=(s.size:Int)-1:=BI _ A4;have v:∀c d w,CA w (.slice c Fa.length Fa.length) Fa->CA w (.slice d Fa.length Fa.length) U7->AD A8 263 #[.slice c Fa.length Fa.length,.slice d Fa.length Fa.length,.string (s.extract 0 n)] w (AzJ (.tuple #[.string ⟨#[]⟩,.bool false]) w):=
  Zh AE AE (s.extract 0 n) (λi h e=>by
   rw[m]at e;rcases l with⟨-,o⟩|⟨-,o⟩
   ·rw[o]at e;exact ArV i h e
   exact no59 Fa AN i h (by rw[e];exact o))
 by_cases g:s[n]=59
 ·have A:((s[n].toNat:Int)==59)=true:=by rw[g];rfl
  have f:∀c d w,CA w (.slice c Dn.length Dn.length) Dn->CA w (.slice d Dn.length Dn.length) Ps->AD A8 263 #[.slice c Dn.length Dn.length,.slice d Dn.length Dn.length,.string (s.extract 0 n)] w λe w'=>(∃t:A9,e=.returned (.tuple #[.string t,.bool b])/\Hid (b=true->t.toList=[38]))/\w=w':=by
   intro c d w h1 o;rcases l with⟨rfl,p⟩|⟨rfl,p⟩
   ·go_call(AhJ c d Dn.length Dn Ps (s.extract 0 n) w h1 o rfl AE AE (some 0) ⟨⟨AE,by rw[m,p];exact toList_mk [97,109,112]⟩,λi _ D=>absurd D (Nat.not_lt_zero _)⟩) as e w'⟨rfl,rfl⟩;exact⟨⟨_,rfl,H0 (λ_=>toList_mk [38])⟩,rfl⟩
   go_call(Zh AE AE (s.extract 0 n) (λi h e=>no59 Dn AN i h (by rw[e,m];exact p)) c d w h1 o) as e w'⟨rfl,rfl⟩;exact⟨⟨_,rfl,H0 (λh=>C5)⟩,rfl⟩
  change Hid _ at l m k v f g x;go_in;go_wp2_with fail;go_call AwF as e w1⟨c,d,rfl,r1,r2,hb1⟩;have u:=H0 (v.out c d w1 r1 r2);clear r1 r2;generalize Fa.length=k1 at u⊢;go_wp2_with fail;refine u.out.mono (AH ?_);go_wp2_with fail;go_call Ab4 as e w3⟨a3,a4,rfl,r3,r4,hb3⟩;have j:=H0 (f.out a3 a4 w3 r3 r4);clear r3 r4;generalize Dn.length=k2 at j⊢;go_wp2_with fail;refine j.out.mono ?_;rintro e C⟨⟨t,rfl,z⟩,rfl⟩;go_wp2;go_ret2;exact⟨t,rfl,z,hb1.next hb3⟩
 have A:((s[n].toNat:Int)==59)=false:=by rw[B6];intro e;exact g (CM.1 (by show s[n].toNat=59;omega))
 have y:b=false:=by
  rcases l with⟨-,p⟩|⟨h,-⟩
  ·exfalso;rw[p]at k;have:=congrArg List.getLast? k;simp at this;exact g this.symm
  exact h
 have q:(59:UInt8)∈s.toList:=by
  rcases l with⟨h,-⟩|⟨-,h⟩
  ·rw[y]at h;cases h
  exact(SE _).subset h
 have f:∀c d w,CA w (.slice c Dn.length Dn.length) Dn->CA w (.slice d Dn.length Dn.length) Ps->AD A8 263 #[.slice c Dn.length Dn.length,.slice d Dn.length Dn.length,.string s] w (AzJ (.tuple #[.string ⟨#[]⟩,.bool false]) w):=
  Zh AE AE s (λi h e=>no59 Dn AN i h (by rw[e];exact q))
 subst y;change Hid _ at l m k v f g x q;go_in;go_wp2_with fail;go_call Ab4 as e w3⟨a3,a4,rfl,r3,r4,hb3⟩;have j:=H0 (f.out a3 a4 w3 r3 r4);clear r3 r4;generalize Dn.length=k2 at j⊢;go_wp2_with fail;refine j.out.mono (AH ?_);go_wp2;go_ret2;exact⟨_,rfl,H0 (λh=>C5),hb3⟩
def Amp(n:Nat)(w:A7)(d:0<n)(h1:n<128):AD A8 204 #[.int .i64 (n:Int)] w (Bi w [UInt8.ofNat n]):=by
 have a:=Zp n A4 w;rw[NS A4,AC h1]at a;go_in;go_wp2_with fail;refine a.mono ?_;rintro e f⟨t,rfl,b,c⟩;go_wp2;go_ret;exact Be b c
def WM(l:A5)(n:Int)(w:A7)(e:Ag)(w':A7):Prop:=∃t:A9,e=.returned (.tuple #[.string t,.int .i64 n])/\Hid (t.toList=l)/\AF w w w'
def PR{l:A5}(d:s.toList=l)(k:Nat)(b:k<s.size){c:UInt8}(hc:l[k]?=some c):(s[k].toNat:Int)=(c:Int):=by
 have a:=congrArg List.head? (Aw s k b);rw[List.head?_drop,d,hc]at a;have:=Cm a;rw[this]
def Ayi(s:A9)(r:A5)(w:A7)(a:s.toList=97::r)(e:s.size<=4294967296):AD A8 136 #[.string s] w (WM [] 0 w):=by
 have b:0<s.size:=by rw[<-AK,a];simp
 have c:=PR a 0 b rfl;have d:s.toList.isEmpty=false:=by simp_all
 go_in;go_wp2;go_ret2;exact⟨_,rfl,H0 (toList_mk []),AU _ _⟩
def Ann(s:A9)(a b c:UInt8)(A B C:Int)(r:A5)(w:A7)(d:s.toList=35::a::b::59::r)(I:s.size<=4294967296)(h:(a:Int)=A)(k:(b:Int)=B)(u:48<=A/\A<=57)(l:48<=B/\B<=57)(m:AQ A 10=A-48)(o:AQ B 10=B-48)(i:(A-48)*10+(B-48)=(c:Int))(q:0<c.toNat)(hc:c.toNat<128):AD A8 136 #[.string s] w (WM [c] 4 w):=by
 have y:4<=s.size:=by rw[<-AK,d];simp
 have z:(s[0].toNat:Int)=35:=PR d 0 A4 rfl;have c1:(s[1].toNat:Int)=A:=(PR d 1 A4 rfl).trans h;have c2:(s[2].toNat:Int)=B:=(PR d 2 A4 rfl).trans k;have H:(s[3].toNat:Int)=59:=PR d 3 A4 rfl;have J:0<s.size:=A4;have G:3<(s.size:Int):=A4;have v:s.toList.isEmpty=false:=by rw[d];rfl
 have n:AQ 59 10=-1:=AE;have f:=Amp c.toNat w q hc;rw[RZ,<-i]at f;have⟨A0,A1⟩:=u;have⟨B0,B1⟩:=l;have E:(A==120)=false:=DV;have D:(A==88)=false:=DV;have K:min (A-48) 1114112=A-48:=A4;have x:min ((A-48)*10+(B-48)) 1114112=(A-48)*10+(B-48):=A4;replace d:=H0 d;replace f:=H0 f;replace i:=H0 i;replace h:=H0 h;replace k:=H0 k;go_in;go_wp2;go_loop[4,7] (λv4 g=>(v4=.int .i64 1/\g=.int .i64 0)\/(v4=.int .i64 2/\g=.int .i64 (A-48))\/(v4=.int .i64 3/\g=.int .i64 ((A-48)*10+(B-48)))) (λv4 _=>4-(intOf v4).toNat)
 ·exact .inl ⟨rfl,rfl⟩
 rcases hrel with⟨rfl,rfl⟩|⟨rfl,rfl⟩|⟨rfl,rfl⟩
 ·go_wp2_with(go_call Eh;refine AH ?_;rw[m]);all_goals
   go_round;exact .inr (.inl ⟨AP,AP⟩);simp[intOf]
 ·go_wp2_with(go_call Eh;refine AH ?_;rw[o]);all_goals
   go_round;exact .inr (.inr ⟨AP,AP⟩);simp[intOf]
 go_wp2_with(go_call Eh;refine AH ?_;rw[n]);refine f.out.mono ?_;rintro e F⟨t,rfl,p,j⟩;go_wp2;go_ret2;exact⟨t,rfl,p,j⟩
def JX(c:UInt8):A5:=if c=38 then[38,97,109,112,59]else if c=34 then[38,35,51,52,59]else if c=39 then[38,35,51,57,59]else if c=60 then[38,35,54,48,59]else if c=62 then[38,35,54,50,59]else if c=96 then[38,35,57,54,59]else[]
def Asd(c:UInt8):(JX c≠[]/\Gi c=JX c)\/(JX c=[]/\Gi c=[c]):=by
 unfold JX Gi;repeat' split
 all_goals first|exact .inl ⟨AN,rfl⟩|exact .inr ⟨rfl,rfl⟩
def Alh(c:UInt8)(w:A7):AD A8 39 #[.int .u8 (c:Int)] w (Rv (JX c) w):=by
 have a:∀(k:UInt8)(l:A5),JX k=l->c=k->(AD A8 39 #[.int .u8 (k:Int)] w (AzJ (.string ⟨l.toArray⟩) w))->AD A8 39 #[.int .u8 (c:Int)] w (Rv (JX c) w):=by
  intro k l h1 f d;subst f;rw[h1];exact d.mono λe w'⟨he,hw⟩=>⟨_,he,H0 (toList_mk l),hw⟩
 by_cases h1:c=38
 ·refine a 38 [38,97,109,112,59] rfl h1 ?_;show AD _ _ #[.int .u8 38] _ _;exact KO
 by_cases f:c=34
 ·refine a 34 [38,35,51,52,59] rfl f ?_;show AD _ _ #[.int .u8 34] _ _;exact KO
 by_cases d:c=39
 ·refine a 39 [38,35,51,57,59] rfl d ?_;show AD _ _ #[.int .u8 39] _ _;exact KO
 by_cases i:c=60
 ·refine a 60 [38,35,54,48,59] rfl i ?_;show AD _ _ #[.int .u8 60] _ _;exact KO
 by_cases g:c=62
 ·refine a 62 [38,35,54,50,59] rfl g ?_;show AD _ _ #[.int .u8 62] _ _;exact KO
 by_cases j:c=96
 ·refine a 96 [38,35,57,54,59] rfl j ?_;show AD _ _ #[.int .u8 96] _ _;exact KO
 clear a;have m:JX c=[]:=by unfold JX;rw[AA h1,AA f,AA d,AA i,AA g,AA j]
 have b:∀k:UInt8,c≠k->((c:Int)==(k:Int))=false:=λk h=>by rw[B6];intro e;exact h (CM.1 A4)
 have p:((c:Int)==38)=false:=b 38 h1;have s:((c:Int)==34)=false:=b 34 f;have q:((c:Int)==39)=false:=b 39 d;have n:((c:Int)==60)=false:=b 60 i;have o:((c:Int)==62)=false:=b 62 g;have r:((c:Int)==96)=false:=b 96 j;clear b h1 f d i g j;rw[m];clear m;generalize(c:Int)=z at *;go_in;go_wp2;go_ret;exact⟨_,rfl,H0 (toList_mk []),rfl⟩
def AoQ(l:A5)(c:UInt8):C8 (l++[c])=C8 l++Gi c:=by unfold C8;rw[Jh];simp
def AoZ(c:UInt8):(JX c).length<=5:=by
 unfold JX;repeat' split
 all_goals simp
def Aa1(s:A9)(w:A7)(o:s.size<=4294967296):AD A8 16 #[.string s] w (Bi w (C8 s)):=by
 go_in;go_wp2;go_loopw[8] (λiv wr=>∃k:Nat,iv=.int .i64 k/\k<=s.size/\DL wr w w (C8 (s.toList.take k))/\AF w w wr) (λiv _=>s.size-(intOf iv).toNat)
 ·exact⟨0,rfl,AR _,DL.fresh w,Ah _ _⟩
 obtain⟨k,rfl,n,cD,hbel⟩:=hrel;have aP:=hbel.size;have hlen:(C8 (s.toList.take k)).length<=21474836480:=by
  have:=(Qd (s.toList.take k)).2;exact OK
 by_cases h:k<s.size
 ·have aV:=H0 ((congrArg C8 (DX s k h)).trans (AoQ _ _));generalize hc:s[k]=c at aV;have f:=H0 (λw=>Alh c w);generalize C8 (s.toList.take k)=P at aV hlen cD;have l:=AoZ c;rcases Asd c with⟨h1,d⟩|⟨h1,d⟩
  ·rw[d]at aV;generalize hE:JX c=E at f aV h1 l;change Hid _ at hE d;go_wp2_with fail;go_call f as e w2⟨t,rfl,ht,rfl⟩;have i:t.toList.isEmpty=false:=by rw[ht.out];cases E with|nil=>exact absurd rfl h1|cons a b=>rfl
   have m:t.size<=5:=by rw[<-AK,ht.out];exact l
   replace h1:=H0 h1;have hw:=H0 (Hw w w P t wr cD A4 A4 aP);go_wp2_with fail;refine hw.out.mono ?_;rintro e j⟨rfl,hb2,hbb⟩;have aE:=hbel.trans hbb;have g:DL j w w (C8 (s.toList.take (k+1))):=by rw[aV.out,<-ht.out];exact hb2
   clear hb2;go_wp2;go_roundw;exact⟨k+1,AP,A4,g,aE⟩;exact AzF
  rw[d]at aV;rw[h1]at f;change Hid _ at h1 d;go_wp2_with fail;go_call f as e w2⟨t,rfl,ht,rfl⟩;have i:t.toList.isEmpty=true:=Oc;have hw:=H0 (KF w w P c (c:Int) rfl wr cD A4 aP);go_wp2_with fail;refine hw.out.mono ?_;rintro e j⟨rfl,hb2,hbb⟩;exact Afo
 exact AbS
end Go.Proofs.YtonomfeipkdmhaaGreatDoor
namespace Go.Proofs.YtonomfeipkdmhaaGreatDoor
open Go renaming maxLen->BK,World->A7,Value->AJ
open Go.RowKit renaming Below->AF
open Go.Proofs.Tryz
open Go.Proofs.Tryz renaming prog->A8
open Go.RowKit Go.ChangeShapes Go.WideShapes
structure J0 where
 a:Option Addr
 c:Nat
 l:List A9
def J0.v(x:J0):AJ:=.slice x.a x.l.length x.c
def Mw(w:A7)(x:J0):Prop:=0<x.l.length->∃g o,x.a=some ⟨g,o,none⟩/\∀i(hi:i<x.l.length),w.cell? ⟨g,o+i,none⟩=some (.string x.l[i])
def Mw.below{w w':A7}{K:Nat}{x:J0}(h:Mw w x)(hb:AF K w w')(b:w.heap.size<=K):Mw w' x:=by
 intro a;have⟨g,o,e,hc⟩:=h a;exact XC
def Mw.read{w:A7}{x:J0}(h:Mw w x):CA w x.v x.l:=⟨x.a,x.c,rfl,h⟩
structure Ib(w:A7)(x:J0):Prop where
 cells:Mw w x
 n:x.l.length<=BK
 each:∀t∈x.l,t.size<=BK
 nilC:x.a=none->x.c=0
structure DF where
 schemes:J0
 hosts:J0
 types:J0
 most:Int
def Br(p:DF):Array AJ:= #[p.schemes.v,p.hosts.v,p.types.v,.int .i64 p.most]
structure FW(w:A7)(p:DF):Prop where
 schemes:Ib w p.schemes
 hosts:Ib w p.hosts
 types:Ib w p.types
 most:(Lit.int .i64 p.most).wf=true
section
variable {H:Type} {enc:TypeId × Value→H} {w:World} {base:Nat} {sp:Nat→Bool} {held:Bool}
def ArU{α:Type}{l:List α}(h:l.length=4):∃a b c d,l=[a,b,c,d]:=by
 match l,h with
 |[a,b,c,d],_=>exact⟨a,b,c,d,rfl⟩
def ZR{n:Nat}{c:AJ}{x:DataW H×List MemPlace}(h:DataW.trod enc A8 w 0 sp held n 22 [c]=some x):∃s:J0,c=s.v/\Ib w s:=by
 obtain⟨a,k,l,rfl,h1,e,b,d⟩:=AtB h;exact⟨⟨a,k,l⟩,rfl,h1,e,b,d⟩
def As3{n:Nat}{cs:List AJ}{x:DataW H×List MemPlace}(h:DataW.trod enc A8 w 0 sp held n 24 cs=some x):∃p:DF,FW w p/\cs=(Br p).toList:=by
 obtain⟨xs,m,rfl,-,j,a,hx⟩:=DataW.trod_struct underlying24 h;have a:xs.length=4:=a;obtain⟨a0,s,t,a3,rfl⟩:=ArU j;have e0:=hx 0 _ rfl;rw[Cs (show 0<xs.length by omega)]at e0;obtain⟨q,rfl,i⟩:=ZR e0;have c:=hx 1 _ rfl;rw[Cs (show 1<xs.length by omega)]at c;obtain⟨l,rfl,f⟩:=ZR c;have d:=hx 2 _ rfl;rw[Cs (show 2<xs.length by omega)]at d;obtain⟨k,rfl,g⟩:=ZR d;have b:=hx 3 _ rfl;rw[Cs (show 3<xs.length by omega)]at b;obtain⟨o,e,-,r⟩:=DataW.trod_int underlying3 b;obtain rfl:=Asy e;exact⟨⟨q,l,k,o⟩,⟨i,f,g,r⟩,rfl⟩
def Asa{v:AJ}{d:DataW H}{b:List MemPlace}{r:Reach}{c:Nat}(a:Value.okWide A8 w r c 24 v)(h:DataW.Trod enc A8 w 0 sp held 24 v d b):∃p:DF,v=.agg (Br p)/\FW w p:=by
 obtain⟨cs,rfl,-,-⟩:=a;have⟨fuel,hf⟩:=h;have⟨p,hp,hc⟩:=As3 hf;refine⟨p,?_,hp⟩;have:cs.toList=(Br p).toList:=hc;rw[Array.toList_inj.1 this]
end
end Go.Proofs.YtonomfeipkdmhaaGreatDoor
namespace Go.Proofs.YtonomfeipkdmhaaGreatDoor
open Go renaming maxLen->BK,World->A7,Calls->AD,Value->AJ
open Go.RowKit renaming Below->AF
open Go.RowKit Go.Proofs.Tryz
open Go.Proofs.Tryz renaming prog->A8
def Aqx(l:List A9)(s:A9):Lib.containsS l s=Gx l s.toList:=by
 rw[Fl,Lib.containsS_iff];unfold Gx;rw[List.any_eq_true];constructor
 ·intro h;exact⟨s,h,beq_self_eq_true _⟩
 rintro⟨x,hx,a⟩;have:x=s:=Lo (by simpa using a);rwa[this]at hx
def Ay3(x:J0)(s:A9)(w:A7)(hx:Ib w x):AD A8 180 #[.slice x.a x.l.length x.c,.string s] w (AzJ (.bool (Gx x.l s)) w):=by
 have d:=hx.n;unfold BK at d;by_cases b:0<x.l.length
 ·have⟨g,o,e,hc⟩:=hx.cells b;rw[e];go_call(Tryz.slices_Contains_string g o x.l.length x.c x.l s w (AG _) A4 (λj f=>AS)) as e w'⟨rfl,rfl⟩;exact⟨by rw[Li,Aqx],rfl⟩
 have e0:x.l=[]:=EP A4;rw[e0];go_call Tryz.slices_Contains_string_empty;refine AH ?_;exact⟨rfl,rfl⟩
def Ib.below{w w':A7}{K:Nat}{x:J0}(h:Ib w x)(a:AF K w w')(b:w.heap.size<=K):Ib w' x:=⟨h.cells.below a b,h.n,h.each,h.nilC⟩
def FW.below{w w':A7}{K:Nat}{p:DF}(h:FW w p)(a:AF K w w')(b:w.heap.size<=K):FW w' p:=⟨h.schemes.below a b,h.hosts.below a b,h.types.below a b,h.most⟩
def Aw3(p:DF)(s:A9)(w:A7)(b:FW w p):AD A8 106 #[.agg (Br p),.string s] w (GG w (Gx p.schemes.l s)):=by
 have hB:=Ah w (.cells (Br p) 24);have f:(w.alloc (.cells (Br p) 24)).cell? ⟨w,0,none⟩=some (.slice p.schemes.a p.schemes.l.length p.schemes.c):=(Ky _ _ _ _ rfl).trans rfl;have d:=b.schemes.below hB (AG _);exact AlB
def ArH(p:DF)(s:A9)(w:A7)(b:FW w p):AD A8 109 #[.agg (Br p),.string s] w (GG w (Gx p.types.l s)):=by
 have hB:=Ah w (.cells (Br p) 24);have f:(w.alloc (.cells (Br p) 24)).cell? ⟨w,2,none⟩=some (.slice p.types.a p.types.l.length p.types.c):=(Ky _ _ _ _ rfl).trans rfl;have d:=b.types.below hB (AG _);exact AlB
def AiV:(A8.info? 32).map (·.size)=some 11:=AO
def R5:(A8.info? 24).map (·.size)=some 4:=AO
def ArD(h:E7)(t e:A9)(c:t.toList=Gm h):(IP h e=true/\((e.toList==t.toList)=true\/((e.toList==t.toList)=false/\(e.toList==[42])=true)))\/((e.toList==t.toList)=false/\(e.toList==[42])=false/\∃b1 b2 a b,Lib.hasPrefix e [46]=b1/\(h.kind==2)=b2/\decide ((e.size:Int)<h.name.size)=a/\Lib.hasSuffix h.name.toList e.toList=b/\IP h e=(b1&&b2&&a&&b)):=by
 unfold IP;rw[<-c];cases h1:e.toList==t.toList
 ·cases h2:e.toList==[42]
  ·grind
  simp
 simp
def Ayf(p:DF)(h:E7)(w:A7)(E:FW w p)(Z:Pg h)(W:GC w):AD A8 107 #[.agg (Br p),.agg (AV h)] w (GG w (hostA p.hosts.l h)):=by
 have⟨ps,⟨pa,pc,l⟩,pt,pm⟩:=p;obtain⟨P,u⟩:∃P:Array AJ,Br ⟨ps,⟨pa,pc,l⟩,pt,pm⟩=P:=⟨_,rfl⟩;have V:P[1]?=some (.slice pa l.length pc):=by rw[<-u];rfl
 have A:Ib w ⟨pa,pc,l⟩:=E.hosts;rw[u];show AD _ _ _ w (GG w (hostA l h));replace u:=H0 u;clear E;have dQ:=Ah w (.cells P 24);have f:AF w w ((w.alloc (.cells P 24)).alloc (.cells (AV h) 32)):=dQ.alloc dQ.size _;have s:((w.alloc (.cells P 24)).alloc (.cells (AV h) 32)).heap[w.heap.size]?=some (.cells P 24 (0,0)):=heap_alloc2_old w _ _;have v:((w.alloc (.cells P 24)).alloc (.cells (AV h) 32)).heap[w.heap.size+1]?=some (.cells (AV h) 32 (0,0)):=TU AN;have M:=(BV _ _ 1 _ _ _ s).trans V;have H:=(BV _ _ 0 _ _ _ v).trans (show(AV h)[0]?=some (.int .i64 h.kind)from rfl);have O:=(BV _ _ 1 _ _ _ v).trans (show(AV h)[1]?=some (.string h.name)from rfl);have d:=Z.name;unfold BK at d;have j:=A.below f (AG _);have B:=W.next f;replace s:=H0 s;go_in;by_cases b:LR h=true
 ·have aD:=A6 (hostA l h=true) (by unfold hostA;rw[b];rfl);have n:(h.kind==0)=true\/((h.kind==0)=false/\(h.kind==1)=true):=by
   unfold LR at b;grind
  clear b;rcases n with q|⟨q,K⟩;all_goals
   go_wp2_with fail;go_ret;exact⟨Ci aD.out.symm,f⟩
 have S:(h.kind==0)=false/\(h.kind==1)=false:=by
  unfold LR at b;simp_all[Gd]
 have⟨S,z⟩:=S;have D:=A6 (hostA l h=l.any (IP h)) (by
  unfold hostA;cases hh:LR h
  ·rfl
  exact absurd hh b)
 clear b;go_wp2_with(refine Cg rfl 32 _ rfl (w.heap.size+1) rfl _ (AV h) _ _ v underlying32 rfl AiV ?_);go_call AkJ as e w1⟨t,rfl,htx,hb⟩;have dQ:=f.next hb;have m:=j.below hb (AG _);have z1:=(hb.cell (p:=⟨w,1,none⟩) B7).trans M;have z2:=(hb.cell (p:=⟨w.heap.size+1,0,none⟩) AN).trans H;have z3:=(hb.cell (p:=⟨w.heap.size+1,1,none⟩) AN).trans O;clear hb f j M H O s v B;obtain⟨C,Q,x,-⟩:=m;unfold BK at Q x;dsimp only[Mw]at C Q x;change Hid _ at C x;go_wp2_with fail;go_loop[21] (λiv=>∃k:Nat,iv=.int .i64 k/\k<=l.length/\Hid ((l.take k).any (IP h)=false)) (λiv=>l.length-(intOf iv).toNat)
 ·exact⟨0,rfl,AR _,H0 rfl⟩
 obtain⟨k,rfl,hk,L⟩:=hrel;by_cases i:k<l.length
 ·have cE:(k:Int)<l.length:=A4;obtain⟨g,o,rfl,hc⟩:=C.out A4;have c1:=hc k i;clear hc;have Y:=x.out l[k] (CI _);have y:l.take (k+1)=l.take k++[l[k]]:=Fe i;have a:IP h l[k]=true->Hid (hostA l h=true):=λe=>H0 (by
   rw[D.out,<-F7 _ l,List.any_append,y,List.any_append];simp[e])
  have aC:IP h l[k]=false->Hid ((l.take (k+1)).any (IP h)=false):=λe=>H0 (by
   rw[y,List.any_append,L.out];simp[e])
  have N:=ArD h t l[k] htx;replace y:=H0 y;generalize F:l[k]=e at c1 Y a aC N;replace F:=H0 F;rcases N with⟨c,z|⟨z,K⟩⟩|⟨z,K,b1,b2,T,G,I,r2,r3,R,c⟩
  ·have aD:=a c;go_wp2;exact Tp
  ·have aD:=a c;go_wp2;exact Tp
  have jU:=λw=>Tryz.strings_HasPrefix e ⟨#[46]⟩ w;have r:=λw=>Tryz.strings_HasSuffix h.name e w d;have J:Lib.hasPrefix e.data.toList (ByteArray.mk #[46]).data.toList=b1:=by rw[<-I,<-BQ]
  have U:Lib.hasSuffix h.name.data.toList e.data.toList=G:=by rw[<-R,<-BQ,<-BQ]
  simp only[J]at jU;simp only[U]at r;have X:decide (e.size<h.name.size)=T:=by simp_all
  change Hid _ at I R jU r;clear J U;cases b1
  ·exact Abi
  cases b2
  ·exact Abi
  cases T
  ·have hn2:=aC AS;change Hid _ at c aC a;go_wp2_with(go_call jU;refine AH ?_);exact Xc
  cases G
  ·have hn2:=aC AS;change Hid _ at c aC a;go_wp2_with(first|(go_at_call 111;refine(jU.out _).mono (AH ?_))|(go_at_call 112;refine(r.out _).mono (AH ?_)));exact Xc
  have aD:=a AS;change Hid _ at c aC a;go_wp2_with(first|(go_at_call 111;refine(jU.out _).mono (AH ?_))|(go_at_call 112;refine(r.out _).mono (AH ?_)));exact Tp
 have aD:=A6 (hostA l h=false) (by
  rw[D.out,<-L.out,Bc A4])
 go_wp21;exact Tp
end Go.Proofs.YtonomfeipkdmhaaGreatDoor
