/- Lemmas. -/
import Derived.Test.YtonomfeipkdmhaaGreatDoorZm08
import Derived.Test.YtonomfeipkdmhaaGreatDoorZm09
import Derived.Test.YtonomfeipkdmhaaGreatDoorZm10
set_option linter.all false
set_option maxRecDepth 100000
set_option maxHeartbeats 16000000
namespace Go.Proofs.YtonomfeipkdmhaaGreatDoor
open Go renaming maxLen->BK,World->A7,Calls->AD,Value->AJ,TypeId->Ab,Ending->Ag
open Go.RowKit renaming Below->AF
open Go.RowKit Go.Proofs.Tryz
open Go.Proofs.Tryz renaming prog->A8
def YX(o:Option (Option Nat))(w:A7)(e:Ag)(w':A7):Prop:=e=.returned (.tuple #[.int .i64 (((o.getD none).getD 0:Nat):Int),.bool (o.getD none).isSome,.bool o.isSome])/\w=w'
variable{w:A7}
def Xo{o q:Option (Option Nat)}{z:Int}{a b:Bool}(h:o=q)(h1:z=(((q.getD none).getD 0:Nat):Int))(d:a=(q.getD none).isSome)(c:b=q.isSome):YX o w (.returned (.tuple #[.int .i64 z,.bool a,.bool b])) w:=by subst h h1 d c;exact⟨rfl,rfl⟩
def Azn(b s:A9)(w:A7)(q:s.size<=1000000000):AD A8 274 #[.string b,.string s] w (YX (Hn b s) w):=by
 obtain⟨R,g⟩:=AI (Hn b s);rw[g];have hv:=g.symm;unfold Hn at hv;replace g:=H0 g;by_cases hem:s.toList=[]
 ·exact Ac6
 rw[AA hem]at hv;have pF:s.toList.isEmpty=false:=by
  cases hs:s.toList with
  |nil=>exact absurd hs hem|cons a r=>rfl
 have t:=H0 (Qu (base:=10) pF);have t9:=H0 (λw=>QU s w A4);have fZ:=H0 (λw=>Apa b w);change Hid _ at hem hv;go_in;go_wp2;go_loop[7] (λh=>∃k acc:Nat,h=.int .i64 (k:Int)/\k<=s.size/\Hid (Ak 10 acc (s.toList.drop k)=Ak 10 0 s.toList)) (λh=>s.size-(intOf h).toNat)
 ·exact⟨0,0,rfl,AR _,H0 L5⟩
 obtain⟨k,acc,rfl,A,y⟩:=hrel;by_cases i:k<s.size
 ·have d:=y.out;rw[Aw s k i,Ak]at d;have f:=H0 (λw=>GS (s[k].toNat:Int) 10 w (Bo _) (Bf _));have o:AQ (s[k].toNat:Int) ((10:Nat):Int)=AQ (s[k].toNat:Int) 10:=rfl;rw[o]at d;generalize q:AQ (s[k].toNat:Int) 10=z at d f;change Hid _ at o q;by_cases c:z<0
  ·rw[AC c]at d;have hf:=A6 (R=none) (by rw[hv.out,t.out,<-d]);replace d:=H0 d;go_wp2_with(go_call f;refine AH ?_);go_ret3;exact Xo hf rfl rfl rfl
  rw[AA c]at d;have x:=H0 d;have v:(0:Int)<=z:=A4;clear d c;go_wp2_with(go_call f;refine AH ?_);go_round;exact⟨k+1,_,AP,A4,x⟩;exact AzF
 obtain⟨O,j⟩:=AI (Az 10 s.toList);have aI:=hv.out;rw[j]at t9 aI;replace j:=H0 j;clear t;cases O with
 |none=>
  exact AeU
 |some n=>
  dsimp only at aI;have gR:=A6 (∀w,AD A8 292 #[.string s] w (AzJ (.tuple #[.int .i64 ((min n Bp:Nat):Int),.bool true]) w)) t9;clear t9;by_cases hbig:65535<n
  ·exact AgW
  have l:min n Bp=n:=by unfold Bp;omega
  have u:(n:Int)<=65535:=A4;rw[l]at gR;rw[AA hbig]at aI;generalize hP:Kh b.toList=P at aI fZ;change Hid _ at l hbig hP;cases P with
  |none=>
   exact Ahk
  |some p=>
   have qW:=A6 (∀w,AD A8 309 #[.string b] w (AzJ (.tuple #[.int .i64 (p:Int),.bool true]) w)) fZ;exact Ajc
def Ae5(s:A9)(sp:Bool)(w:A7)(a:s.size<=1000000000):AD A8 117 #[.string s,.bool sp] w (Acb (D5 sp s) w):=by
 exact AcQ
def Avw(s:A9)(w:A7)(l:s.size<=1000000000):AD A8 198 #[.string s] w (VV s w):=by
 unfold VV;obtain⟨R,hR⟩:=AI (CF false s);rw[hR];replace hR:=H0 hR;go_in;go_wp2;go_loop[3,4] (λv3 v4=>∃(k:Nat)(b:Bool),v3=.bool b/\v4=.int .i64 (k:Int)/\k<=s.size/\Hid (R=(CF b (s.toList.drop k)).map (λp=>(s.toList.take k++p.1,p.2)))) (λ_ v4=>s.size-(intOf v4).toNat)
 ·exact Adq
 obtain⟨k,b,rfl,rfl,j,hg⟩:=hrel;by_cases hlt:k<s.size
 ·have hn:=H0 (λb' i=>Agu (b':=b') hlt hg i);have f:=Aj5 b s[k] (s.toList.drop (k+1));rcases f with⟨a,h⟩|⟨a,c,h⟩|⟨a,c,e,rfl,h⟩|⟨a,c,e,rfl,h⟩|⟨a,c,e,h⟩
  ·have aC:=H0 (hn.out _ h);replace h:=H0 h;have g:((s[k].toNat:Int)==93)=false:=by rw[CW]at a;rw[B6];omega
   have d:((s[k].toNat:Int)==58)=false:=by rw[CW]at a;rw[B6];omega
   go_wp2;go_round;exact⟨k+1,true,rfl,AP,A4,aC⟩;exact AzF
  ·have aC:=H0 (hn.out _ h);replace h:=H0 h;have d:((s[k].toNat:Int)==58)=false:=by rw[CW]at c;rw[B6];omega
   exact AfC
  ·exact Af6
  ·exact Vw
  exact Af0
 exact AhD
def AuA(b s:A9)(w:A7)(h:s.size<=1000000000):AD A8 199 #[.string b,.string s] w (YX (Hn b s) w):=by
 obtain⟨R,c⟩:=AI (Hn b s);rw[c];have hv:=c.symm;unfold Hn at hv;replace c:=H0 c;by_cases hem:s.toList=[]
 ·exact Ac6
 rw[AA hem]at hv;have pF:s.toList.isEmpty=false:=by
  cases hs:s.toList with
  |nil=>exact absurd hs hem|cons a r=>rfl
 have t9:=H0 (λw=>Tc s w A4);have fZ:=H0 (λw=>AnK b w);change Hid _ at hem hv;go_in;obtain⟨O,d⟩:=AI (Az 10 s.toList);have aI:=hv.out;rw[d]at t9 aI;replace d:=H0 d;cases O with
 |none=>
  exact AeU
 |some n=>
  dsimp only at aI;have gR:=A6 (∀w,AD A8 257 #[.string s] w (AzJ (.tuple #[.int .i64 ((min n Bp:Nat):Int),.bool true]) w)) t9;clear t9;by_cases hbig:65535<n
  ·exact AgW
  have f:min n Bp=n:=by unfold Bp;omega
  have g:(n:Int)<=65535:=A4;rw[f]at gR;rw[AA hbig]at aI;generalize hP:Kh b.toList=P at aI fZ;change Hid _ at f hbig hP;cases P with
  |none=>
   exact Ahk
  |some p=>
   have qW:=A6 (∀w,AD A8 258 #[.string b] w (AzJ (.tuple #[.int .i64 (p:Int),.bool true]) w)) fZ;exact Ajc
def AxV(s:A9)(w:A7)(X:s.size<=1099511627776):AD A8 194 #[.string s] w (AbO (Bt s) w):=by
 go_in;go_wp2_with fail;go_loopw[3,4] (λv i wr=>∃(k:Nat)(l:A5),k<=s.size/\i=.int .i64 k/\Hid (Bt s.toList=l++Bt (s.toList.drop k))/\l.length<=k/\BM wr w 5 v l/\AF w w wr) (λ_ i _=>s.size-(intOf i).toNat)
 ·exact⟨0,[],AR _,rfl,H0 rfl,AR _,BM.nil _ _ _,AU _ _⟩
 obtain⟨k,l,W,rfl,hl,R,hown,hbel⟩:=hrel;have aP:=hbel.size;by_cases B:k<s.size
 ·have aL:=Aw s k B;have L:(k:Int)<s.size:=A4;generalize hc:s[k]=c at aL;by_cases f:c=37
  ·have F:((c:Int)==37)=true:=by rw[f];rfl
   by_cases O:k+2<s.size
   ·have C:k+1<s.size:=A4;have E:=Aw s (k+1) C;have D:=Aw s (k+2) O;obtain⟨x,hx⟩:=AI (s[k+1]);obtain⟨y,M⟩:=AI (s[k+2]);rw[hx]at E;rw[M]at D;have aF:Bt (s.toList.drop k)=match JK x,JK y with|some a,some b=>UInt8.ofNat (a*16+b)::Bt (s.toList.drop (k+3))|_,_=>c::Bt (s.toList.drop (k+1)):=by
     rw[aL,E,D];exact YH f
    have N:=Sf x;have J:=Sf y;have t:=H0 (λw=>Eh (x:Int) 16 w (Bo x) (Bf x));have A:=H0 (λw=>Eh (y:Int) 16 w (Bo y) (Bf y));have mI:JK x=if AQ (x:Int) 16<0 then none else some (AQ (x:Int) 16).toNat:=rfl;have l9:JK y=if AQ (y:Int) 16<0 then none else some (AQ (y:Int) 16).toNat:=rfl;obtain⟨p,G⟩:=AI (AQ (x:Int) 16);obtain⟨q,I⟩:=AI (AQ (y:Int) 16);rw[G]at N t mI;rw[I]at J A l9;have Y:IntKind.i64.wrap ((k:Int)+1)=(k:Int)+1:=BI _ A4;have w2:IntKind.i64.wrap ((k:Int)+2)=(k:Int)+2:=BI _ A4;have g1:0<=(k:Int)+1:=A4;have g2:0<=(k:Int)+2:=A4;have V:((k:Int)+1).toNat=k+1:=A4;have U:((k:Int)+2).toNat=k+2:=A4;have l1:(k:Int)+1<(s.size:Int):=A4;change Hid _ at aL E D G I f;by_cases r:0<=p/\0<=q
    ·obtain⟨H,P⟩:=r;rw[AA A4]at mI l9;rw[mI,l9]at aF;dsimp only at aF;obtain⟨g,rfl⟩:∃n:Nat,p=n:=⟨p.toNat,A4⟩;obtain⟨h,rfl⟩:∃n:Nat,q=n:=⟨q.toNat,A4⟩;rw[Jc,Jc]at aF;have bO:=A6 (Bt s.toList=(l++[UInt8.ofNat (g*16+h)])++Bt (s.toList.drop (k+3))) (by rw[hl.out,aF,CQ];rfl);have S:IntKind.u8.wrap ((g:Int)*16+(h:Int))=(g:Int)*16+(h:Int):=NO;have u:(g:Int)*16+(h:Int)=((UInt8.ofNat (g*16+h)).toNat:Int):=by rw[LC,JV A4];omega
     change Hid _ at aF mI l9 u;have u1:IntKind.i64.wrap (16*(g:Int))=16*(g:Int):=BI _ A4;have T:IntKind.i64.wrap (16*(g:Int)+h)=16*(g:Int)+h:=BI _ A4;have Z:IntKind.u8.wrap (16*(g:Int)+h)=16*(g:Int)+h:=NO;have o:=A6 (16*(g:Int)+h=((UInt8.ofNat (g*16+h)).toNat:Int)) (by rw[<-u.out];omega);go_wp2_with fail;refine(t.out _).mono (AH ?_);go_wp2_with fail;refine(A.out _).mono (AH ?_);go_upto_region 6 with fail;refine rds (λw'=>AF w w w') hbel.drew λd=> ?_;refine tk 0 38 d ?_;refine tk 1 39 d ?_;refine tk 2 40 d ?_;refine tk 3 41 d ?_;refine tk 4 42 d ?_;refine tk 7 45 d ?_;refine tk 8 46 d ?_;refine tk 9 47 d ?_;refine tk 10 48 d ?_;refine rdk 5 λK m=> ?_;go_simp;refine(t.out _).mono (AH ?_);go_wp2_with fail;refine m.out _ _ d (λd=> ?_);clear m K;try simp only[Jg]
     refine tk 6 44 d ?_;refine rdk 11 λK m=> ?_;go_simp;refine(A.out _).mono (AH ?_);go_wp2_with fail;refine m.out _ _ d (λd=> ?_);clear m K;try simp only[Jg]
     refine tk 12 50 d ?_;refine tk 13 51 d ?_;refine rdk 14 λK m=> ?_;go_simp;refine m.out _ _ (d.alloc aP _) (λd=> ?_);clear m K;try simp only[Jg]
     refine rdy 15 ?_;refine pbX Gc (UInt8.ofNat (g*16+h)) (VQ hown 1) (hbel.drew) (by simpa using aP) ?_ (hc:=o.out);intro v' w' ho' bA _;refine rde bA λd=> ?_;try simp only[Jg]
     refine tk 16 3 d ?_;refine rdn ?_;go_wp2;go_roundw;exact⟨k+3,_,A4,Gq,bO,B7,ho',bA⟩;exact AzF
    have j:Bt (s.toList.drop k)=c::Bt (s.toList.drop (k+1)):=by
     exact AiG
    have bO:=A6 (Bt s.toList=(l++[c])++Bt (s.toList.drop (k+1))) (by rw[hl.out,j,CQ];rfl);change Hid _ at aF j mI l9;have z:p<0\/(0<=p/\q<0):=A4;clear r;rcases z with H|⟨H,P⟩
    ·go_wp2_with fail;refine(t.out _).mono ?_;exact AkE
    go_wp2_with fail;refine(t.out _).mono (AH ?_);go_wp2_with fail;refine(A.out _).mono ?_;exact AkE
   have bO:=A6 (Bt s.toList=(l++[c])++Bt (s.toList.drop (k+1))) (by
    exact AjM)
   change Hid _ at aL f;go_wp2_with(at_builtin;refine pbX Gc c hown hbel aP ?_;intro v' w' ho' bA _);go_wp2;exact W4
  have F:((c:Int)==37)=false:=by rw[B6];intro e;exact f (CM.1 (by show c.toNat=37;omega))
  have bO:=A6 (Bt s.toList=(l++[c])++Bt (s.toList.drop (k+1))) (by rw[hl.out,aL,XS f,CQ];rfl);change Hid _ at aL f;go_wp2_with(at_builtin;refine pbX Gc c hown hbel aP ?_;intro v' w' ho' bA _);go_wp2;go_roundw;exact⟨k+1,_,A4,AP,bO,B7,ho',bA⟩;exact AzF
 have Q:=A6 (Bt s.toList=l) (by rw[hl.out,CP s k A4];exact Bq _);go_wp2;go_ret;exact⟨_,rfl,by rw[Q.out];exact hown,hbel⟩
def C4.lit{B:Nat}(b:B<=w.heap.size)(l:List Nat)(cs:Array AJ)(a:cs.toList=l.map Cd)(n:Nat)(c:n=l.length)(d:n<=1000):C4 (w.alloc (.cells cs 3)) B (.slice (some ⟨w,0,none⟩) n n) l:=by
 subst c;refine⟨AN,.inr ⟨w,l.length,cs,rfl,b,?_,AG _,C1,?_,?_⟩⟩
 ·show(w.heap.push _)[w.heap.size]? =_;simp
 ·rw[<-Of,a];simp
 rw[a];exact Bc AN
def IB(c lo hi:Int)(w:A7):AD A8 320 #[.int .i64 c,.int .i64 lo,.int .i64 hi] w (AzJ (.bool (F1 c lo hi)) w):=by
 exact Ab5
def Ank(c:Nat)(w:A7)(hc:c<=1114111):AD A8 298 #[.int .i64 (c:Int)] w (X5 (toR c) w):=by
 have a:∀k:Nat,((c:Int)==k)=(c==k):=λk=>by
  exact Ya
 obtain⟨R,W⟩:=AI (toR c);have hv:=W.symm;unfold toR at hv;rw[W];obtain⟨M,q⟩:=AI (Ae c 65 90);have za1:F1 (c:Int) 65 90=M:=(HJ c 65 90).trans q;obtain⟨B,n⟩:=AI (Ae c 192 214);have Y:F1 (c:Int) 192 214=B:=(HJ c 192 214).trans n;obtain⟨a3,g⟩:=AI (Ae c 216 222);have za3:F1 (c:Int) 216 222=a3:=(HJ c 216 222).trans g;obtain⟨a4,l⟩:=AI (Ae c 913 929);have za4:F1 (c:Int) 913 929=a4:=(HJ c 913 929).trans l;obtain⟨a5,s⟩:=AI (Ae c 931 937);have za5:F1 (c:Int) 931 937=a5:=(HJ c 931 937).trans s;obtain⟨z,m⟩:=AI (Ae c 1040 1071);have za6:F1 (c:Int) 1040 1071=z:=(HJ c 1040 1071).trans m;obtain⟨d,i⟩:=AI (Ae c 256 302);have za7:F1 (c:Int) 256 302=d:=(HJ c 256 302).trans i;obtain⟨P,f⟩:=AI (Ae c 1024 1039);have za8:F1 (c:Int) 1024 1039=P:=(HJ c 1024 1039).trans f;obtain⟨G,o⟩:=AI (Ae c 9312 9320);have za9:F1 (c:Int) 9312 9320=G:=(HJ c 9312 9320).trans o;obtain⟨E,r⟩:=AI (Ae c 65313 65338);have zaa:F1 (c:Int) 65313 65338=E:=(HJ c 65313 65338).trans r;obtain⟨A,p⟩:=AI (Ae c 65281 65374);have zac:F1 (c:Int) 65281 65374=A:=(HJ c 65281 65374).trans p;obtain⟨K,v⟩:=AI (Ae c 120782 120831);have zab:F1 (c:Int) 120782 120831=K:=(HJ c 120782 120831).trans v;obtain⟨S,b⟩:=AI ((c==304));have ze1:((c:Int)==304)=S:=(a 304).trans b;obtain⟨U,x⟩:=AI ((c==8228));have ze2:((c:Int)==8228)=U:=(a 8228).trans x;obtain⟨V,J⟩:=AI ((c==12290));have ze3:((c:Int)==12290)=V:=(a 12290).trans J;obtain⟨T,y⟩:=AI ((c==65377));have ze4:((c:Int)==65377)=T:=(a 65377).trans y;obtain⟨Q,H⟩:=AI ((c==8448));have ze5:((c:Int)==8448)=Q:=(a 8448).trans H;obtain⟨X,C⟩:=AI ((c==8453));have ze6:((c:Int)==8453)=X:=(a 8453).trans C;obtain⟨j,t⟩:=AI ((c%2==0));have zbm:((c:Int)%2==0)=j:=by
  rw[<-t];by_cases h:c%2=0
  ·rw[CW.2 h,CW];omega
  rw[B6.2 h,B6];omega
 rw[q,n,g,l,s,m,i,f,o,r,p,v,b,x,J,y,H,C,t]at hv;clear a;replace t:=H0 t;have ka1:=H0 (λe:M=true=>Hl (q.trans e));replace q:=H0 q;have ka2:=H0 (λe:B=true=>Hl (n.trans e));replace n:=H0 n;have ka3:=H0 (λe:a3=true=>Hl (g.trans e));replace g:=H0 g;have ka4:=H0 (λe:a4=true=>Hl (l.trans e));replace l:=H0 l;have ka5:=H0 (λe:a5=true=>Hl (s.trans e));replace s:=H0 s;have ka6:=H0 (λe:z=true=>Hl (m.trans e));replace m:=H0 m;have Z:=H0 (λe:d=true=>Hl (i.trans e));replace i:=H0 i;have ka8:=H0 (λe:P=true=>Hl (f.trans e));replace f:=H0 f;have O:=H0 (λe:G=true=>Hl (o.trans e));replace o:=H0 o;have L:=H0 (λe:E=true=>Hl (r.trans e));replace r:=H0 r;have N:=H0 (λe:A=true=>Hl (p.trans e));replace p:=H0 p;have D:=H0 (λe:K=true=>Hl (v.trans e));change Hid _ at v b x J y H C;go_in;cases M with
 |true=>
  exact Pq
 |false=>
  cases B with
  |true=>
   exact Pq
  |false=>
   cases a3 with
   |true=>
    exact Pq
   |false=>
    cases a4 with
    |true=>
     exact Pq
    |false=>
     cases a5 with
     |true=>
      exact Pq
     |false=>
      cases z with
      |true=>
       exact Pq
      |false=>
       have u:(d=true/\j=true)\/(d=true/\j=false)\/d=false:=by cases d<;>cases j<;>simp
       rcases u with⟨rfl,rfl⟩|u
       ·
        have hf:=A6 (R=[c+1]) (hv.trans O3);have hs:=A6 (#[Value.int .i64 ((c:Int)+1)].toList=[c+1].map Cd) (by show[Value.int .i64 _]=[Value.int .i64 _];rw[show(((c+1:Nat)):Int)=(c:Int)+1 from A4]);exact Aaf
       have F:=A6 ((d&&j)=false) (by rcases u with⟨rfl,rfl⟩|rfl<;>rfl);rw[F.out]at hv;rcases u with⟨rfl,rfl⟩|rfl;all_goals
        cases P with
        |true=>
         have hf:=A6 (R=[c+80]) (hv.trans O3);have hs:=A6 (#[Value.int .i64 ((c:Int)+80)].toList=[c+80].map Cd) (by show[Value.int .i64 _]=[Value.int .i64 _];rw[show(((c+80:Nat)):Int)=(c:Int)+80 from A4]);go_wp2_with(go_at_call 320;refine(IB _ _ _ _).mono (AH ?_));go_ret;exact⟨_,rfl,OT,Ah _ _⟩
        |false=>
         cases S with
         |true=>
          have hf:=A6 (R=[105,775]) (hv.trans BE);go_wp2_with(go_at_call 320;refine(IB _ _ _ _).mono (AH ?_));go_ret;exact⟨_,rfl,Pz,Ah _ _⟩
         |false=>
          cases U with
          |true=>
           have hf:=A6 (R=[46]) (hv.trans BE);go_wp2_with(go_at_call 320;refine(IB _ _ _ _).mono (AH ?_));go_ret;exact⟨_,rfl,Pz,Ah _ _⟩
          |false=>
           cases V with
           |true=>
            have hf:=A6 (R=[46]) (hv.trans BE);go_wp2_with(go_at_call 320;refine(IB _ _ _ _).mono (AH ?_));go_ret;exact⟨_,rfl,Pz,Ah _ _⟩
           |false=>
            cases T with
            |true=>
             have hf:=A6 (R=[46]) (hv.trans BE);go_wp2_with(go_at_call 320;refine(IB _ _ _ _).mono (AH ?_));go_ret;exact⟨_,rfl,Pz,Ah _ _⟩
            |false=>
             cases Q with
             |true=>
              have hf:=A6 (R=[97,47,99]) (hv.trans BE);go_wp2_with(go_at_call 320;refine(IB _ _ _ _).mono (AH ?_));go_ret;exact⟨_,rfl,Pz,Ah _ _⟩
             |false=>
              cases X with
              |true=>
               have hf:=A6 (R=[99,47,111]) (hv.trans BE);go_wp2_with(go_at_call 320;refine(IB _ _ _ _).mono (AH ?_));go_ret;exact⟨_,rfl,Pz,Ah _ _⟩
              |false=>
               cases G with
               |true=>
                have hf:=A6 (R=[c-9312+49]) (hv.trans O3);have I:=O.out rfl;have hs:=A6 (#[Value.int .i64 ((c:Int)-9312+49)].toList=[c-9312+49].map Cd) (by show[Value.int .i64 _]=[Value.int .i64 _];rw[show(((c-9312+49:Nat)):Int)=(c:Int)-9312+49 from A4]);go_wp2_with(go_at_call 320;refine(IB _ _ _ _).mono (AH ?_));go_ret;exact⟨_,rfl,OT,Ah _ _⟩
               |false=>
                cases E with
                |true=>
                 have hf:=A6 (R=[c-65248+32]) (hv.trans O3);have I:=L.out rfl;have hs:=A6 (#[Value.int .i64 ((c:Int)-65248+32)].toList=[c-65248+32].map Cd) (by show[Value.int .i64 _]=[Value.int .i64 _];rw[show(((c-65248+32:Nat)):Int)=(c:Int)-65248+32 from A4]);go_wp2_with(go_at_call 320;refine(IB _ _ _ _).mono (AH ?_));go_ret;exact⟨_,rfl,OT,Ah _ _⟩
                |false=>
                 cases A with
                 |true=>
                  have hf:=A6 (R=[c-65248]) (hv.trans O3);have I:=N.out rfl;have hs:=A6 (#[Value.int .i64 ((c:Int)-65248)].toList=[c-65248].map Cd) (by show[Value.int .i64 _]=[Value.int .i64 _];rw[show(((c-65248:Nat)):Int)=(c:Int)-65248 from A4]);go_wp2_with(go_at_call 320;refine(IB _ _ _ _).mono (AH ?_));go_ret;exact⟨_,rfl,OT,Ah _ _⟩
                 |false=>
                  cases K with
                  |true=>
                   have hf:=A6 (R=[48+(c-120782)%10]) (hv.trans O3);have I:=D.out rfl;have hs:=A6 (#[Value.int .i64 (48+((c:Int)-120782)%10)].toList=[48+(c-120782)%10].map Cd) (by show[Value.int .i64 _]=[Value.int .i64 _];rw[show(((48+(c-120782)%10:Nat)):Int)=48+((c:Int)-120782)%10 from A4]);go_wp2_with(go_at_call 320;refine(IB _ _ _ _).mono (AH ?_));go_ret;exact⟨_,rfl,OT,Ah _ _⟩
                  |false=>
                   have hf:=A6 (R=[]) (hv.trans BE);go_wp2_with(go_at_call 320;refine(IB _ _ _ _).mono (AH ?_));go_ret;exact⟨_,rfl,by rw[hf.out];exact C4.nil _ _,AU _ _⟩
def Atr(c:Nat)(w:A7):AD A8 299 #[.int .i64 (c:Int)] w (AzJ (.bool (IY c)) w):=by
 rw[Ax9 c];obtain⟨b1,h1,A,-⟩:=inB c 0 127;obtain⟨b2,m,H,-⟩:=inB c 223 255;obtain⟨v,a,z3,-⟩:=inB c 257 303;obtain⟨n,h,z4,-⟩:=inB c 768 879;obtain⟨p,g,z5,-⟩:=inB c 945 969;obtain⟨o,k,G,-⟩:=inB c 1072 1119;obtain⟨q,b,B,-⟩:=inB c 12353 12438;obtain⟨x,d,z8,-⟩:=inB c 12449 12538;obtain⟨r,l,z,-⟩:=inB c 19968 40959;obtain⟨y,f,F,-⟩:=inB c 44032 55203;obtain⟨u,j,C,-⟩:=inB c 127744 128511;obtain⟨t,i,E⟩:=eqB c 215;obtain⟨s,g2,D⟩:=eqB c 247;rw[h1,m,a,h,g,k,b,d,l,f,j,i,g2];clear h1 m a h g k b d l f j i g2;simp only[Int.cast_ofNat_Int]at *;go_in;cases t;cases s;cases b1;cases b2;cases v;cases n;cases p;cases o;cases q;cases x;cases r;cases y;cases u
 all_goals
  go_wp2_with(go_call IB;refine AH ?_);go_ret;exact⟨AN,rfl⟩
def Aik(c:Nat)(w:A7)(hc:c<=1114111):AD A8 252 #[.int .i64 (c:Int)] w (Yj (DY c) w):=by
 have j:=H0 (Ank c w hc);have g:=H0 (Ave c hc);have Q:=Avu c;have f:=Ahw c;have D:=H0 (λw=>Atr c w);have o:∀k:Nat,((c:Int)==k)=(c==k):=λk=>by
  exact Ya
 obtain⟨R,q⟩:=AI (DY c);have p:R=if Gv c≠[]then(Gv c,2)else if M8 c=true then([],3)else if IY c=true then(An c,1)else([],0):=q.symm;rw[q];replace q:=H0 q;have b:M8 c=(c==0xad||c==0x200b||c==0x2060||c==0xfeff):=rfl;obtain⟨b1,h1⟩:=AI ((c==0xad));obtain⟨b2,I⟩:=AI ((c==0x200b));obtain⟨m,y⟩:=AI ((c==0x2060));obtain⟨i,C⟩:=AI ((c==0xfeff));have U:((c:Int)==173)=b1:=(o 0xad).trans h1;have Y:((c:Int)==8203)=b2:=(o 0x200b).trans I;have z3:((c:Int)==8288)=m:=(o 0x2060).trans y;have z4:((c:Int)==65279)=i:=(o 0xfeff).trans C;rw[h1,I,y,C]at b;change Hid _ at h1 I y C;clear o;obtain⟨O,H⟩:=AI (Gv c);obtain⟨G,z⟩:=AI (M8 c);obtain⟨V,u⟩:=AI (IY c);obtain⟨T,K⟩:=AI (toR c);rw[H,z,u]at p;rw[z]at b;rw[K]at j g Q f;rw[H]at f;rw[u]at D;change Hid _ at H z u K p b f;go_in;go_wp2_with fail;refine j.out.mono ?_;rintro e M⟨v,rfl,d,hb1⟩;obtain⟨pa,L,rfl,J⟩:=d.read;have B:=H0 (AjE pa T.length L T M J A4 g);cases T with
 |cons x r=>
  have F:=A6 (O≠[]) (by
   have e:=f.out;have S:=UK x;rw[GV]at e;intro P;rw[P]at e;have:=congrArg List.length e;rw[Aa,Ep]at this;omega)
  have hf:=A6 (R=((x::r).flatMap An,2)) (by rw[p.out,AC F.out,f.out]);obtain⟨n,s⟩:∃n,(x::r).length=n:=⟨_,rfl⟩;have W:0<(n:Int):=by rw[<-s];simp
  rw[s]at B⊢;replace s:=H0 s;clear d J;go_wp2_with fail;refine B.out.mono ?_;rintro e X⟨t,rfl,N,E⟩;go_wp2;go_ret2;exact OA hf N (hb1.trans (E.mono hb1.size))
 |nil=>
  have A:=A6 (R=if G=true then([],3)else if V=true then(An c,1)else([],0)) (by
   have e:O=[]:=f.out.symm;rw[p.out,AA (by rw[e];simp)])
  have l:(b1||b2||m||i)=true\/(b1=false/\b2=false/\m=false/\i=false):=by cases b1<;>cases b2<;>cases m<;>cases i<;>simp
  clear d J B;rcases l with a|⟨rfl,rfl,rfl,rfl⟩
  ·have hf:=A6 (R=([],3)) (by rw[A.out,AC (b.out.trans a)]);replace a:=H0 a;cases b1
   ·cases b2
    ·cases m
     ·cases i
      ·exact absurd a.out AE
      exact QO
     exact QO
    exact QO
   exact QO
  have a:G=false:=b.out;cases V with
  |true=>
   have hf:=A6 (R=(An c,1)) (by rw[A.out,AA (by rw[a];decide),AC rfl]);replace a:=H0 a;go_wp2_with fail;go_call D;refine AH ?_;go_wp2_with fail;go_call Zp as e w4⟨t2,rfl,ht2,hb4⟩;go_wp2;go_ret2;exact OA hf ht2 (hb1.trans (hb4.mono hb1.size))
  |false=>
   have hf:=A6 (R=([],0)) (by rw[A.out,AA (by rw[a];decide),AA AE]);replace a:=H0 a;go_wp2_with fail;go_call D;refine AH ?_;exact QO
def Afh(pa:Option Addr)(n c:Nat)(l:List Nat)(w:A7)(h:Fc w pa n c l)(hn:n<=1000000000)(P:∀x∈l,x<=1114111):AD A8 301 #[.slice pa n c] w λe w'=>e=.returned (.bool (Hg l))/\AF w w w':=by
 have bH:=h.len;have Q:=H0 h;clear h;have b:l≠[]->Hg l=(!Ae (l.headD 0) 0x300 0x36f&&l.all HP&&l.any λc=>decide (0x7f<c)):=λh=>Abf h rfl;have G:l=[]->Hg l=false:=λh=>L4;generalize hR:Hg l=R at b G⊢;change Hid _ at hR bH P b G;go_in;go_wp2;go_loopw[3,4] (λv3 v4 wr=>∃k:Nat,v4=.int .i64 (k:Int)/\k<=n/\v3=.bool ((l.take k).any λc=>decide (0x7f<c))/\AF w w wr/\Hid ((l.take k).all HP=true)) (λ_ v4 _=>n-(intOf v4).toNat)
 ·exact⟨0,rfl,AR _,rfl,AU _ _,H0 rfl⟩
 obtain⟨k,rfl,hk,rfl,hbel,g⟩:=hrel;have bD:=hbel.size;by_cases Z:k<n
 ·have y:=Q.out.below hbel (AG _);have⟨g',o',e1,hc⟩:=y.cells A4;cases e1;have d:k<l.length:=JN;have u:=hc k d;unfold Cd at u;have j:=Akr l (λc=>decide (0x7f<c)) k d;have H:=H0 (Ais (p:=HP) d);have F:=CI d;have X:=A6 (l≠[]) (λe=>by rw[e]at d;cases d);have N:=A6 (HP l[k]=true->(l.take (k+1)).all HP=true) (λe=>by
   rw[Fe d,KM,g.out,JM,Hh,e];rfl)
  generalize hx:l[k]=x at u j H F N;have Y:=P.out x F;change Hid _ at F hx hc;clear y;generalize f:((l.take k).any λc=>decide (0x7f<c))=A at j⊢;replace f:=H0 f;have C:=H0 (λw=>Aik x w Y);have i:HP x=(decide ((DY x).2=1)&&decide (x≠46)):=rfl;generalize U:DY x=m at C i;replace U:=H0 U;have⟨ml,V⟩:=m;dsimp only at i;by_cases h1:V=1
  ·subst h1;by_cases o:x=46
   ·subst o;have hf:=A6 (R=false) (by rw[b.out X.out,H.out (by rw[i];rfl)];simp);change Hid _ at i j;go_wp2_with fail;go_call C as e w1⟨t,rfl,ht,hb1⟩;have E:=(hb1.cell (EV _ _ u)).trans u;go_wp2;exact Ty
   have W:((x:Int)==46)=false:=DV;have aC:=H0 (N.out (by rw[i];simp[o]));replace i:=H0 i;have O:decide (0x7f<x)=decide (127<(x:Int)):=decide_eq_decide.2 A4;rw[O]at j;generalize hD:decide (127<(x:Int))=D at j;change Hid _ at O o j;go_wp2_with fail;go_call C as e w1⟨t,rfl,ht,hb1⟩;have K:=hbel.trans (hb1.mono bD);have E:=(hb1.cell (EV _ _ u)).trans u;cases A;all_goals
    go_wp2;go_roundw;exact⟨k+1,AP,A4,by rw[j.out];simp,K,aC⟩;exact AzF
  have T:((V:Int)!=1)=true:=JO.2 A4;have hf:=A6 (R=false) (by rw[b.out X.out,H.out (by rw[i];simp[h1])];simp);change Hid _ at i j h1;go_wp2_with fail;go_call C as e w1⟨t,rfl,ht,hb1⟩;go_wp2;exact Ty
 have z:l.take k=l:=Bc JN;obtain⟨A,f⟩:∃A,((l.take k).any λc=>decide (0x7f<c))=A:=⟨_,rfl⟩;rw[f];cases A with
 |false=>
  have hf:=A6 (R=false) (by
   by_cases B:l=[]
   ·exact G.out B
   rw[b.out B];rw[z]at f;rw[f];simp)
  change Hid _ at z f;exact UE
 |true=>
  have s:l≠[]:=λB=>by rw[B]at f;simp at f
  have S:0<l.length:=FV.2 s;have y:=Q.out.below hbel (AG _);have⟨g',o',e1,hc⟩:=y.cells JN;cases e1;have J:=hc 0 S;unfold Cd at J;rw[Jy]at J;have q:l.headD 0=l[0]:=by cases l with
   |nil=>cases S
   |cons a r=>rfl
  generalize hx:l[0]=L at J q;have v:=HJ L 0x300 0x36f;obtain⟨M,I⟩:=AI (Ae L 0x300 0x36f);have v:F1 (L:Int) 768 879=M:=v.trans I;have hf:=A6 (R= !M) (by
   rw[b.out s,q,I];rw[z]at f g;rw[f,g.out];simp)
  change Hid _ at z f hx q I hc s;clear y;have iG:0<(n:Int):=JN;cases M;all_goals
   go_wp2_with(go_call IB;refine AH ?_);go_ret;exact⟨KY,hbel⟩
def YB(o:A5×Nat)(w:A7)(e:Ag)(w':A7):Prop:=∃t:A9,e=.returned (.tuple #[.string t,.int .i64 (o.2:Int)])/\Hid (t.toList=o.1)/\AF w w w'
variable{n:Nat}{c:UInt8}
def AgK{base:Nat}{r:A5}(h:AQ (c:Int) (base:Int)<0):DD base n (c::r)=(n,0):=by rw[DD,AC h]
def AcL{base:Nat}{r:A5}(h:0<=AQ (c:Int) (base:Int)):DD base n (c::r)=((DD base (min (n*base+(AQ (c:Int) (base:Int)).toNat) 0x110000) r).1,(DD base (min (n*base+(AQ (c:Int) (base:Int)).toNat) 0x110000) r).2+1):=by rw[DD,AA (by omega)]
def W8(base:Nat):∀(l:A5)(n:Nat),n<=1114112->(DD base n l).1<=1114112/\(DD base n l).2<=l.length
 |[],n,h=>⟨h,AG _⟩
 |c::r,n,h=>by
  by_cases a:AQ (c:Int) (base:Int)<0
  ·rw[AgK a];exact⟨h,AR _⟩
  rw[AcL A4];have:=W8 base r (min (n*base+(AQ (c:Int) (base:Int)).toNat) 0x110000) A4;exact⟨this.1,B7⟩
def Asx(c:Int)(b:Int)(a:b<=36):AQ c b<=35:=by
 unfold AQ;split
 ·omega
 omega
def Afb{l:A5}(h:l.length<=2):isX l=false:=by
 match l,h with
 |[],_=>rfl|[a],_=>rfl|[a,b],_=>rfl
def Aux{l:A5}(h:2<l.length):isX l=(l[2]==120||l[2]==88):=by
 match l,h with
 |a::b::c::r,_=>rfl
def Ati(s:A9)(w:A7)(hz:s.size<=1099511627776)(Z:2<=s.size):AD A8 165 #[.string s] w (YB (HW s) w):=by
 have C:=AK s;have u:Hid (E4 s.toList=if isX s.toList=true then 3 else 2):=rfl;have r:Hid (Gf s.toList=if isX s.toList=true then 16 else 10):=rfl;have f:Hid (HW s.toList=if(DD (Gf s) 0 (s.toList.drop (E4 s))).2=0 then([38],1)else(It (DD (Gf s) 0 (s.toList.drop (E4 s))).1,if(s.toList.drop (E4 s.toList+(DD (Gf s) 0 (s.toList.drop (E4 s))).2)).head?=some 59 then E4 s.toList+(DD (Gf s) 0 (s.toList.drop (E4 s))).2+1 else E4 s.toList+(DD (Gf s) 0 (s.toList.drop (E4 s))).2)):=rfl;have p:E4 s.toList<=s.size:=by
  unfold E4;split
  ·rename_i hx;by_cases h:s.size<=2
   ·rw[Afb A4]at hx;cases hx
   omega
  exact Z
 have J:2<=E4 s.toList/\E4 s.toList<=3/\Gf s.toList<=16/\10<=Gf s.toList:=by
  unfold E4 Gf;split<;>decide
 obtain⟨F,o⟩:=AI (E4 s);obtain⟨B,H⟩:=AI (Gf s);rw[o]at u f p J;rw[H]at r f J;change Hid _ at o H;generalize x:DD B 0 (s.toList.drop F)=R at f;have E:=W8 B (s.toList.drop F) 0 AE;rw[x,C7,C]at E;have⟨N,K⟩:=R;dsimp only at f E;replace x:=H0 x;generalize hX:isX s.toList=X at u r;go_in;go_upto_region 2 with(fail);go_cut[21] (λA wx=>A=.bool X/\w=wx)
 ·by_cases h:s.size<=2
  ·rw[Afb A4]at hX;subst hX;go_wp2;go_meet;exact⟨rfl,rfl⟩
  have O:2<s.size:=A4;have e:=Aux (l:=s.toList) A4;rw[JG s 2 O,hX]at e;by_cases i:s[2]=120
  ·rw[i]at e;subst e;have q2:((s[2].toNat:Int)==120)=true:=by rw[i];rfl
   replace i:=H0 i;go_wp2;go_meet;exact⟨rfl,rfl⟩
  have q3:((s[2].toNat:Int)==120)=false:=by rw[B6];intro e;exact i (CM.1 (by show s[2].toNat=120;omega))
  rw[beq_false_of_ne i,Ju]at e;replace i:=H0 i;have q4:((s[2].toNat:Int)==88)=X:=by
   rw[e,Fl,CW,CW];exact⟨λh=>CM.1 (by show s[2].toNat=88;omega),λh=>L4⟩
  clear hX;replace e:=H0 e;go_wp2;go_meet;exact⟨rfl,rfl⟩
 case rest=>
 obtain⟨rfl,rfl⟩:=hcut;clear hX;go_upto_if 21 with(fail);go_cut[4,5] (λY W wx=>Y=.int .i64 (B:Int)/\W=.int .i64 (F:Int)/\w=wx)
 ·obtain rfl:=u.out;obtain rfl:=r.out;cases X<;>(go_wp2;go_meet;exact⟨rfl,rfl,rfl⟩)
 clear u r;obtain⟨rfl,rfl,rfl⟩:=hcut;go_wp2;go_loop[6,7] (λT y=>∃n k:Nat,T=.int .i64 n/\y=.int .i64 ((F:Int)+k)/\n<=1114112/\F+k<=s.size/\Hid ((N,K)=((DD B n (s.toList.drop (F+k))).1,(DD B n (s.toList.drop (F+k))).2+k))) (λ_ y=>s.size-(intOf y).toNat)
 ·exact⟨0,0,rfl,rfl,AE,p,H0 (by rw[<-x.out];rfl)⟩
 obtain⟨n,k,rfl,rfl,M,V,hrun⟩:=hrel;have kG:0<=(F:Int)+k:=A4;have sW:(F:Int)+k<=(s.size:Int):=A4;have hit:((F:Int)+k).toNat=F+k:=A4;by_cases z:F+k<s.size
 ·have cE:(F:Int)+k<(s.size:Int):=A4;have j:=Aw s (F+k) z;generalize hc:s[F+k]=c at j;have P:=Bo c;have b1:=Bf c;have g:=H0 (λw=>GS (c:Int) (B:Int) w P b1);have G:=A6 ((s.toList.drop (F+k)).head?=some c) (by rw[j];rfl);by_cases v:AQ (c:Int) (B:Int)<0
  ·have eG:=A6 (DD B n (s.toList.drop (F+k))=(n,0)) (by rw[j];exact AgK v);have rI:=v;replace j:=H0 j;generalize AQ (c:Int) (B:Int)=d at g v rI;have q:=A6 (N=n/\K=k) Af9;have⟨hN,hK⟩:=q.out;clear q;rw[hN,hK]at f;change Hid _ at hN hK eG hrun;by_cases a:k=0
   ·have D:(((F:Int)+k)==(F:Int))=true:=M9;have aI:=A6 (HW s.toList=([38],1)) (by rw[f.out,AC a]);replace a:=H0 a;clear f;go_wp2_with(go_call g;refine AH ?_);exact AjF
   have D:(((F:Int)+k)==(F:Int))=false:=DV;have eW:=H0 (λw=>Aai n w M);by_cases b:c=59
   ·have Q:((c:Int)==59)=true:=by rw[b];rfl
    have aI:=A6 (HW s.toList=(It n,F+k+1)) (by rw[f.out,AA a,G.out,b];rfl);clear f;replace b:=H0 b;go_wp2_with(go_call g;refine AH ?_);exact AgU
   have Q:((c:Int)==59)=false:=by rw[B6];intro e;exact b (CM.1 (by show c.toNat=59;omega))
   have aI:=A6 (HW s.toList=(It n,F+k)) (by rw[f.out,AA a,G.out,AA (by intro e;exact b (Cm e))]);clear f;replace b:=H0 b;go_wp2_with(go_call g;refine AH ?_);go_call eW as e w2⟨t,rfl,ht,hb⟩;go_wp2;go_ret2;exact⟨t,Adc,H0 (by rw[aI.out];exact ht),hb⟩
  have L:0<=AQ (c:Int) (B:Int):=A4;have bZ:=Asx (c:Int) (B:Int) A4;have eG:=A6 (DD B n (s.toList.drop (F+k))=((DD B (min (n*B+(AQ (c:Int) (B:Int)).toNat) 0x110000) (s.toList.drop (F+(k+1)))).1,(DD B (min (n*B+(AQ (c:Int) (B:Int)).toNat) 0x110000) (s.toList.drop (F+(k+1)))).2+1)) (by rw[j];exact AcL L);obtain⟨m,I⟩:∃m:Nat,AQ (c:Int) (B:Int)=m:=⟨(AQ (c:Int) (B:Int)).toNat,A4⟩;rw[I]at g eG bZ;rw[Jc]at eG;have S:=A6 ((N,K)=((DD B (min (n*B+m) 0x110000) (s.toList.drop (F+(k+1)))).1,(DD B (min (n*B+m) 0x110000) (s.toList.drop (F+(k+1)))).2+(k+1))) (by rw[hrun.out,eG.out];simp only[PO,true_and];omega);change Hid _ at j v I;clear L;have p0:0<=(n:Int)*B:=Int.mul_nonneg A4 A4;have p1:(n:Int)*B<=1114112*16:=Int.mul_le_mul A4 A4 A4 A4;go_wp2_with(go_call g;refine AH ?_);go_round
  ·exact⟨min (n*B+m) 0x110000,k+1,by first|rfl|(congr 1<;>omega)|(simp;omega),Gq,A4,A4,S⟩
  simp[intOf];omega
 have U:=A6 ((s.toList.drop (F+k)).head?=none) (by rw[CP s (F+k) A4];rfl);have eG:=A6 (DD B n (s.toList.drop (F+k))=(n,0)) (by rw[CP s (F+k) A4];rfl);have q:=A6 (N=n/\K=k) Af9;have⟨hN,hK⟩:=q.out;clear q;rw[hN,hK]at f;change Hid _ at hN hK eG hrun;by_cases a:k=0
 ·have D:(((F:Int)+k)==(F:Int))=true:=M9;have aI:=A6 (HW s.toList=([38],1)) (by rw[f.out,AC a]);replace a:=H0 a;clear f;go_wp2;exact AjF
 have D:(((F:Int)+k)==(F:Int))=false:=DV;have eW:=H0 (λw=>Aai n w M);have aI:=A6 (HW s.toList=(It n,F+k)) (by rw[f.out,AA a,U.out];rfl);clear f;go_wp2_with fail;exact AgU
def Aey(c:UInt8)(l:A5):(Lib.indexByte l c=-1/\AL c l=(l,[],false))\/∃i:Nat,Lib.indexByte l c=(i:Int)/\i<l.length/\AL c l=(l.take i,l.drop (i+1),true):=by
 exact AaV
def Xy:∀{l},(AL c l).2.2=true->l=(AL c l).1++c::(AL c l).2.1
 |[],h=>(nomatch h)
 |d::r,h=>by
  rw[AL]at h⊢;split at h
  ·simp_all
  rename_i hd;rw[AA hd];show d::r=d::((AL c r).1++c::(AL c r).2.1);rw[<-Xy h]
def UD(s:A5)(n:Nat):JA s (n+1)=match Ji ((s.drop 1).take (n+1))with
  |none=>JA s n|some t=>if(s.getD (n+1) 0 !=59&&decide (n+2<s.length)&&QC (s.getD (n+2) 0))=true then([38],1)else(t,n+2):=rfl
def AjC(s:A9)(k:Nat)(h:k<s.size):s.toList.getD k 0=s[k]:=by
 rw[LS,Cs Nt,Option.getD_some,JG]
variable{w':A7}
def Aez{o:A5×Nat}(h:o=([38],1))(a:AF w w w'):YB o w (.returned (.tuple #[.string ⟨#[38]⟩,.int .i64 1])) w':=by
 subst h;exact⟨_,rfl,H0 (toList_mk [38]),a⟩
def Aso(s:A9)(w:A7)(P:s.size<=1099511627776)(h1:1<=s.size):AD A8 97 #[.string s] w (YB (GD s) w):=by
 have p:=λw=>Tryz.strings_HasPrefix s ⟨#[38,35]⟩ w;have e0:(ByteArray.mk #[38,35]).data.toList=[38,35]:=rfl;simp only[e0,<-BQ]at p;cases hb:Lib.hasPrefix s [38,35]
 ·have B:GD s.toList=JA s (min 15 (s.size-1)):=by unfold GD;rw[AA AS,AK]
  simp only[hb]at p;rw[B];obtain⟨R,u⟩:=AI (JA s (min 15 (s.size-1)));rw[u];change Hid _ at hb p u;obtain⟨A,D⟩:=AI (min 15 (s.size-1));have l:min (15:Int) ((s.size:Int)-1)=(A:Int):=A4;have L:A+1<=s.size:=A4;rw[D]at u;go_in;go_wp2_with fail;go_call p as e J⟨rfl,C⟩;obtain rfl:=C.symm;go_wp2_with fail;go_loopw[4] (λv wr=>∃k:Nat,v=.int .i64 k/\k+1<=s.size/\Hid (R=JA s k)/\AF w w wr) (λv _=>(intOf v).toNat)
  ·exact⟨A,rfl,L,H0 u.out.symm,AU _ _⟩
  clear l;obtain⟨k,rfl,Q,f,hbel⟩:=hrel;have aP:=hbel.size;cases k with
  |zero=>
   have aD:=A6 (R=([38],1)) (by rw[f.out];rfl);go_wp21;go_ret2;exact Aez aD hbel
  |succ m=>
   have I:((m+1:Nat):Int)=(m:Int)+1:=A4;have O:(m:Int)+1<(s.size:Int):=A4;have l:m+1<s.size:=A4;rw[I];have N:(s.extract 1 (m+2)).toList=(s.toList.drop 1).take (m+1):=by
    simp_all[toList_extract,List.drop_take]
   have i:=H0 (Ar2 (s.extract 1 (m+2)) wr Bk);rw[N]at i;have j:=UD s m;generalize F:Ji ((s.toList.drop 1).take (m+1))=o at i j;replace F:=H0 F;have K:((m:Int)+1+1).toNat=m+2:=A4;cases o with
   |none=>
    have M:=A6 (R=JA s m) (by rw[f.out,j]);go_wp2_with fail;refine i.out.mono ?_;rintro e y⟨t,rfl,ht,hb⟩;go_wp21;go_roundw;exact⟨m,rfl,A4,M,hbel.trans (hb.mono aP)⟩;simp[intOf]
   |some x=>
    dsimp only at j;rw[AjC s (m+1) l]at j;generalize hc:s[m+1]=c at j;have S:(((m:Int)+1).toNat)=m+1:=A4;by_cases q:c=59
    ·have aD:=A6 (R=(x,m+2)) (by rw[f.out,j,q];rfl);go_wp2_with fail;refine i.out.mono ?_;rintro e y⟨t,rfl,ht,hb⟩;go_wp2;exact We
    have T:((c:Int)!=59)=true:=by rw[JO];intro e;exact q (CM.1 (by show c.toNat=59;omega))
    have E:(c !=59)=true:=by simp_all
    rw[E,JM,AK]at j;by_cases z:m+2<s.size
    ·rw[AjC s (m+2) z,Bx z,JM]at j;generalize hd:s[m+2]=d at j;have n:=H0 (AmT d);generalize G:QC d=g at n j;replace G:=H0 G;cases g
     ·have aD:=A6 (R=(x,m+2)) (by rw[f.out,j];rfl);go_wp2_with fail;refine i.out.mono ?_;rintro e y⟨t,rfl,ht,hb⟩;go_wp2_with fail;go_call(n.out _) as e w3⟨rfl,rfl⟩;go_wp21;exact We
     have aD:=A6 (R=([38],1)) (by rw[f.out,j];rfl);go_wp2_with fail;refine i.out.mono ?_;rintro e y⟨t,rfl,ht,hb⟩;go_wp2_with fail;go_call(n.out _) as e w3⟨rfl,rfl⟩;go_wp21;go_ret2;exact Aez aD (hbel.trans (hb.mono aP))
    have aD:=A6 (R=(x,m+2)) (by rw[f.out,j,BO z];rfl);go_wp2_with fail;refine i.out.mono ?_;rintro e y⟨t,rfl,ht,hb⟩;go_wp2_with fail;exact We
 have z:2<=s.size:=by
  by_cases h:2<=s.size
  ·exact h
  exfalso;have U:=AK s
  match hs:s.toList with
  |[]=>grind|[a]=>rw[hs]at hb;unfold Lib.hasPrefix at hb;simp at hb|a::b::r=>grind
 have B:GD s.toList=HW s.toList:=by unfold GD;rw[AC hb]
 simp only[hb]at p;rw[B];have H:=H0 (λw=>Ati s w P z);generalize u:HW s.toList=R at H⊢;go_in;go_wp2_with fail;refine(p _).mono ?_;rintro e J⟨rfl,C⟩;obtain rfl:=C.symm;go_wp2_with fail;go_call(H.out _) as e y⟨t,rfl,ht,hb⟩;go_wp21;go_ret2;exact⟨t,rfl,ht,hb⟩
def At1(s:A5):1<=(HW s).2:=by
 unfold HW;dsimp only;split
 ·omega
 dsimp only;split<;>omega
def AlN(s:A5):∀n,1<=(JA s n).2/\(JA s n).2<=n+1
 |0=>⟨AG _,AG _⟩
 |n+1=>by
  rw[UD];have:=AlN s n;split
  ·omega
  split<;>(dsimp only;omega)
def AfG{s:A5}(h:1<=s.length):1<=(GD s).2/\(GD s).2<=s.length:=by
 unfold GD;split
 ·rename_i hp;refine⟨At1 s,?_⟩;unfold HW;dsimp only;have a:=W8 (Gf s) (s.drop (E4 s)) 0 AE;rw[C7]at a;split
  ·exact h
  split
  ·rename_i hh;by_cases b:E4 s+(DD (Gf s) 0 (s.drop (E4 s))).2<s.length
   ·omega
   simp_all
  omega
 have:=AlN s (min 15 (s.length-1));omega
def AoB(r:Int):(Utf8.encode r).data.toList.length<=4:=by
 unfold Utf8.encode;dsimp only;repeat' split
 all_goals simp
def Ai3(c:Nat):(An c).length<=4:=by
 unfold An;by_cases h:0x10ffff<c\/(0xd800<=c/\c<=0xdfff)
 ·rw[AC h];unfold Dc;simp
 rw[AA h];unfold Jj;exact AoB _
def Aaq(n:Nat):(It n).length<=4:=by
 unfold It;by_cases h:n=0
 ·rw[AC h];exact Ai3 _
 rw[AA h];exact Ai3 _
def Ant:∀t∈[Lm,Ij,Kb],∀p∈t,p.2.length<=4:=AX
def Sm{t:List (A5×A5)}(a:t∈[Lm,Ij,Kb]){s x:A5}(h:I0 t s=some x):x.length<=4:=by
 unfold I0 at h;cases hf:t.find? λp=>p.1==s with
 |none=>rw[hf]at h;cases h
 |some p=>
  rw[hf]at h;cases h;exact Ant t a p (List.mem_of_find?_eq_some hf)
def Apn{s x:A5}(h:Ji s=some x):x.length<=4:=by
 have a:∀s,JU s=some x->x.length<=4:=by
  intro s h;unfold JU at h;split at h
  ·rename_i b a;cases h;exact Sm AN a
  exact Sm AN h
 unfold Ji at h;split at h
 ·split at h
  ·rename_i t ht;cases h;exact Sm AN ht
  exact a _ h
 exact Sm AN h
def AyW(s:A5):(GD s).1.length<=4:=by
 unfold GD;split
 ·unfold HW;dsimp only;split
  ·decide
  exact Aaq _
 have:∀n,(JA s n).1.length<=4:=by
  intro n;induction n with
  |zero=>exact Nat.le_of_ble_eq_true rfl
  |succ n ih=>
   rw[UD];split
   ·exact ih
   rename_i t ht;split
   ·decide
   exact Apn ht
 exact this _
def ApA(s:A9)(w:A7)(hz:s.size<=1000000000):AD A8 50 #[.string s] w (Bi w (Lk s)):=by
 go_in;go_wp2;go_loopw[0] (λv0 wr=>∃(r:A9)(f:Nat)(out:A5),v0=.string r/\r.size<f/\r.size<=s.size/\DL wr w w out/\AF w w wr/\Hid (Lk s.toList=out++K9 f r)/\out.length+4*r.size<=4*s.size) (λv0 _=>GO v0)
 ·exact⟨s,s.size+1,[],rfl,A4,AG _,DL.fresh w,Ah _ _,H0 (by rw[<-AK];rfl),AN⟩
 obtain⟨r,f,out,rfl,hf,S,U,d,z,sL⟩:=hrel;have aP:=d.size;by_cases N:r.size=0
 ·have aX:r.toList=[]:=(EW r).2 N;have G:=A6 (Lk s.toList=out) (by
   rw[z.out,aX];cases f with
   |zero=>rw[K9,Bq]
   |succ f=>rw[K9,show AL 38 []=([],[],false)from rfl,AA AE,Bq])
  have A:=H0 (Ml w w out wr U aP);go_wp2_with fail;refine A.out.mono ?_;rintro e C⟨t,rfl,h,B⟩;go_wp2;go_ret;exact Be (h.out.trans G.out.symm) (d.trans B)
 have oH:r.toList.isEmpty=false:=by
  cases hr:r.toList with
  |nil=>exact absurd ((EW r).1 hr) N|cons a b=>rfl
 have g:=λw=>Tryz.strings_IndexByte r 38 w;have W:(38:Int).toNat.toUInt8=38:=rfl;simp only[W,<-BQ]at g;obtain⟨j,rfl⟩:∃j,f=j+1:=⟨f-1,A4⟩;have H:=AK r;rcases Aey 38 r.toList with⟨h1,m⟩|⟨i,h1,hi,m⟩
 ·rw[h1]at g;replace g:=H0 g;have G:=A6 (Lk s.toList=out++r.toList) (by rw[z.out,K9,m];rfl);replace H:=H0 H;go_wp2_with fail;go_call g as e w1⟨rfl,hw⟩;obtain rfl:=hw.symm;go_wp2_with fail;go_call Hw as e C⟨rfl,hbld2,hb2⟩;have k:=d.trans hb2;have A:=H0 (Ml w w _ C hbld2 k.size);go_wp2_with fail;refine A.out.mono ?_;rintro e Z⟨t,rfl,h,B⟩;go_wp2;go_ret;exact Be (h.out.trans G.out.symm) (k.trans B)
 rw[h1]at g;replace g:=H0 g;rw[H]at hi;have P:(r.extract 0 i).toList=r.toList.take i:=by rw[toList_extract];rfl
 have J:(r.extract i r.size).toList=38::r.toList.drop (i+1):=by
  rw[toList_extract,Bc A4];have q:=Xy (c:=38) (l:=r.toList) (by rw[m]);rw[m]at q;dsimp only at q
  conv=>lhs;rw[q]
  rw[Ge Fx,Cj Fx];rfl
 have v:(r.extract 0 i).size=i:=Bk;have M:(r.extract i r.size).size=r.size-i:=Bk;have u:=H0 (λw=>Aso (r.extract i r.size) w (by rw[M];omega) (by rw[M];omega));rw[J]at u;have F:=AfG (s:=38::r.toList.drop (i+1)) AN;have E:=AyW (38::r.toList.drop (i+1));have D:(38::r.toList.drop (i+1)).length=r.size-i:=by rw[BC,C7];omega
 rw[D]at F;have o:Lk s.toList=(out++r.toList.take i++(GD (38::r.toList.drop (i+1))).1)++K9 j ((38::r.toList.drop (i+1)).drop (GD (38::r.toList.drop (i+1))).2):=by
  rw[z.out,K9,m];dsimp only;rw[AC rfl,CQ,CQ]
 obtain⟨⟨T,n⟩,y⟩:∃p:A5×Nat,p=GD (38::r.toList.drop (i+1)):=⟨_,rfl⟩;rw[<-y]at u F E o;dsimp only at F E o;have V:(r.extract (i+n) r.size).toList=(38::r.toList.drop (i+1)).drop n:=by
  rw[<-J,toList_extract,toList_extract,Bc A4,Ka]
 have mH:(r.extract (i+n) r.size).size=r.size-(i+n):=Bk;have bO:=A6 (Lk s.toList=(out++r.toList.take i++T)++K9 j (r.extract (i+n) r.size).toList) (by rw[V];exact o);have X:(i:Int)<=r.size:=A4;have K:(i:Int)+n<=(r.size:Int):=A4;have kG:0<=(i:Int):=A4;have L:0<=(i:Int)+n:=A4;have O:((i:Int)+n).toNat=i+n:=A4;clear o;change Hid _ at v mH P;go_wp2_with fail;go_call g as e w1⟨rfl,hw⟩;obtain rfl:=hw.symm;go_wp2_with fail;go_call Hw as e C⟨rfl,hbld2,hb2⟩;rw[P.out]at hbld2;have k:=d.trans hb2;have fD:=k.size;go_wp2_with fail;go_call u as e Z⟨t,rfl,h,hb3⟩;have I:=k.trans (hb3.mono fD);have x:=DL.keep hbld2 hb3;have Y:t.size<=4:=by rw[<-AK,h.out];exact E
 have iD:=I.size;go_wp2_with fail;go_call Hw as e w4⟨rfl,hbld4,hb4⟩;have Q:=h.out;rw[Q]at hbld4;have R:=I.trans hb4;go_wp2;go_roundw;exact⟨r.extract (i+n) r.size,j,_,rfl,VJ,VJ,hbld4,R,bO,by have:=mH.out;simp only[Aa,Cl];omega⟩;simp only[GO];have:=mH.out;omega
structure IH(w wx:A7)(A:Array AJ)(TA:Ab)(B:Array AJ)(TB:Ab):Prop where
 below:AF w w wx
 a:wx.heap[w.heap.size]?=some (.cells A TA (0,0))
 b:wx.heap[w.heap.size+1]?=some (.cells B TB (0,0))
 size:w.heap.size+2<=wx.heap.size
def IH.start(w:A7)(A:Array AJ)(a:Ab)(B:Array AJ)(b:Ab):IH w ((w.alloc (.cells A a)).alloc (.cells B b)) A a B b:=
 ⟨(Ah _ _).alloc AN _,heap_alloc2_old w _ _,TU AN,AN⟩
variable{wx:A7}
def IH.keep{A:Array AJ}{c:Ab}{B:Array AJ}{d:Ab}(h:IH w wx A c B d)(hb:AF wx wx w'):IH w w' A c B d:=
 ⟨h.below.next hb,(hb.block _ Q2).trans h.a,(hb.block _ Q2).trans h.b,Ks⟩
variable{u:AT}
def Xp{g:Nat}{T:Ab}(h:w.heap[g]?=some (.cells (AB u) T (0,0))):w.rangeAt g 3 (AV u.host).toList:=λj v a=>by
 rw[BV w g (3+j) _ _ _ h]
 match j,a with
 |0,a=>exact a|1,a=>exact a|2,a=>exact a|3,a=>exact a|4,a=>exact a|5,a=>exact a|6,a=>exact a|7,a=>exact a|8,a=>exact a|9,a=>exact a|10,a=>exact a|n+11,a=>exact absurd (Hk.1 a).1 (by show¬n+11<11;omega)
def Zn(h:E7):(A8.info? 32).map (·.size)=some (AV h).toList.length:=by rw[AiV];rfl
def ApG(p:DF)(u:AT)(w:A7)(g:FW w p)(h:HF w u)(i:Ls u)(n:(Hj u false).length<=900000000)(j:GC w)(q:DW w):AD A8 59 #[.agg (Br p),.agg (AB u)] w (GG w (I4 p.schemes.l p.hosts.l p.types.l u)):=by
 have hI:=IH.start w (Br p) 24 (AB u) 34;have m:_=some (Value.string u.scheme):=BV _ _ 0 _ _ _ hI.b;have hA:Hid (I4 p.schemes.l p.hosts.l p.types.l u=(Gx p.schemes.l u.scheme.toList&&hostA p.hosts.l u.host&&MC p.types.l u)):=rfl;go_in;go_wp2_with(refine At hI.a ?_);go_call(Aw3 p u.scheme _ (g.below hI.below (AG _))) as e w1⟨rfl,hb⟩;have hI:=hI.keep hb;generalize hb1:Gx p.schemes.l u.scheme.toList=b1 at hA⊢;cases b1
 ·exact Aaj
 go_wp2_with(first|(refine IM BE ?_;refine At hI.a ?_)|(refine IM BE ?_;refine wpList_load_mid rfl 32 _ rfl (w.heap.size+1) 3 rfl (AV u.host).toList _ (Xp hI.b) underlying32 rfl (Zn _) ?_));go_call(Ayf p u.host _ (g.below hI.below (AG _)) i.host (j.next hI.below)) as e w2⟨rfl,hb⟩;have hI:=hI.keep hb;have m:_=some (Value.string u.scheme):=BV _ _ 0 _ _ _ hI.b;generalize hb2:hostA p.hosts.l u.host=b2 at hA⊢;cases b2
 ·exact Aaj
 by_cases d:u.scheme.toList=Im
 ·have k:(u.scheme.toList==[100,97,116,97])=true:=by rw[d];rfl
  have f:=A6 (I4 p.schemes.l p.hosts.l p.types.l u=match F0 u with|none=>false|some e=>Gx p.types.l e) (by
   rw[hA.out];unfold MC;rw[AC d];rfl)
  go_wp2_with(refine Cg rfl 34 _ rfl (w.heap.size+1) rfl _ (AB u) _ _ hI.b underlying34 rfl MG ?_);go_call(An0 u _ (h.below hI.below (AG _)) i n (j.next hI.below) (q.next hI.below)) as e w3⟨t,rfl,htx,hb⟩;have hI:=hI.keep hb;generalize ho:F0 u=o at f htx⊢;cases o with
  |none=>
   have hno:=f;go_wp2;go_ret;exact⟨Ci hno.out.symm,hI.below⟩
  |some l=>
   have c:=A6 (I4 p.schemes.l p.hosts.l p.types.l u=Gx p.types.l t) (by rw[f.out,htx.out];rfl);go_wp2_with(first|(refine IM BE ?_;refine Cg rfl 24 _ rfl w rfl _ (Br p) _ _ hI.a underlying24 rfl R5 ?_));go_call(ArH p t _ (g.below hI.below (AG _))) as e w4⟨rfl,hb⟩;have hI:=hI.keep hb;go_wp2;go_ret;exact⟨Ci c.out.symm,hI.below⟩
 have k:(u.scheme.toList==[100,97,116,97])=false:=by simpa[Im]using d
 have c:=A6 (I4 p.schemes.l p.hosts.l p.types.l u=true) (by
  rw[hA.out];unfold MC;rw[AA d];rfl)
 go_wp2;go_ret;exact⟨Ci c.out.symm,hI.below⟩
def HB(b:Nat)(w w':A7):Prop:=∀g c T,T≠5->g≠b->AM w g c T->AM w' g c T
def HB.refl(b:Nat)(w:A7):HB b w w:=λ_ _ _ _ _ h=>h
def HB.trans{b:Nat}{u v:A7}(h:HB b u v)(k:HB b v w):HB b u w:=λg c T h1 a d=>k g c T h1 a (h g c T h1 a d)
def HB.of{b:Nat}{v:A7}(h:AF v v w):HB b v w:=λ_ _ _ _ _ a=>a.keep h
def Abw{b C:Nat}{v:AJ}{xs:List AJ}{d i:A7}(a:d.ownsRow C 5 1 v n xs)(p:d.grownBy i v.ownBlock):HB b d i:=λg c T m _ f=>by
 refine(p.block g f.lt ?_).trans f;rcases a.2 with⟨rfl,_⟩|⟨k,l,j,rfl,_,o,_⟩
 ·exactλe=>by cases e
 intro e;obtain rfl:g=k:=by simpa[Value.ownBlock]using e
 have h:d.heap[g]?=some (.cells c T (0,0)):=f;rw[o]at h;simp only[LV,Nf]at h;exact m h.2.1.symm
def Se{b:Nat}(i:Nat)(v:AJ):HB b w (w.setCell ⟨b,i,none⟩ v):=λg c T _ d a=>(Po _ _ _ _ d).trans a
def WB(C b:Nat)(l:A5)(s:A9)(w:A7)(h:Ei w C b l)(y:l.length<=1099511627776)(z:s.size<=1099511627776)(u:C<=w.heap.size):AD A8 40 #[.pointer (some ⟨b,0,none⟩),.string s] w λe w'=>e=.returned (.tuple #[.int .i64 s.size,.nilIface])/\Ei w' C b (l++s.toList)/\Aj (Gy b C) w w'/\HB b w w':=by
 have⟨i0,hi,hz0,hz1,hz2⟩:=IQ Oh;have q:=h.to (AR _) (AR _);have⟨p0,v0,hp0,hblk0,hown0,hne0⟩:=h;go_in;go_wp2_with fail;go_call Yt as e w1⟨rfl,⟨hBb,v,hblk,a,hne⟩,hw1⟩;have p:HB b w w1:=by
  rcases hw1 with rfl|rfl
  ·exact HB.refl _ _
  exact Se _ _
 have o:v=v0/\Aj (Gy b C) w w1/\w.heap.size<=w1.heap.size:=by
  exact Ail
 obtain⟨rfl,n,x⟩:=o;have a:=S5 a hown0;clear hw1 hown0 hblk0 q hp0 hne0;have d:=EZ hblk;have c1:w1.cell? ⟨b,1,none⟩=some v:=QB;rw[Hd]at a;go_wp2_with(at_builtin;refine Ux _ rfl _ _ 25 9 rfl C 5 i0 underlying25 underlying9 hi hz0 hz1 hz2 _ _ _ rfl a s rfl C1 A4 A4 ?_;intro t g hown' f _;obtain⟨a2,k2,c2,rfl⟩:=Q5 hown';have bU:=(f.block b d (λe=>hne e.symm)).trans hblk;have⟨d1,f1⟩:=PV bU);go_wp2;go_ret2;have c:AF C w1 g:=(AU C w1).grown f A4 (λk j=>(a.lt k j).1);have r:Aj (Gy b C) w1 g:=⟨c.os,c.tape,c.output,c.size,λk j m=>c.block k (by
  unfold Gy at m;rw[not_or]at m;omega)⟩
 refine⟨rfl,?_,(n.trans r).set (.inl rfl) _ _,(p.trans (Abw a f)).trans (Se _ _)⟩;have iH:g.ownsRow C 5 1 (.slice a2 k2 c2) (Lib.byteCells (l++s.toList)).length (Lib.byteCells (l++s.toList)):=by
  exact AdE
 exact AcU
def Axl(C b:Nat)(l:A5)(c:UInt8)(w:A7)(h:Ei w C b l)(A:l.length<=1099511627776)(y:C<=w.heap.size):AD A8 41 #[.pointer (some ⟨b,0,none⟩),.int .u8 (c:Int)] w λe w'=>e=.returned .nilIface/\Ei w' C b (l++[c])/\Aj (Gy b C) w w'/\HB b w w':=by
 have⟨i0,hi,hz0,hz1,hz2⟩:=IQ Oh;have s:=h.to (AR _) (AR _);have⟨p0,v0,hp0,hblk0,hown0,hne0⟩:=h;go_in;go_wp2_with fail;go_call Yt as e w1⟨rfl,⟨hBb,v,hblk,a,hne⟩,hw1⟩;have r:HB b w w1:=by
  rcases hw1 with rfl|rfl
  ·exact HB.refl _ _
  exact Se _ _
 have q:v=v0/\Aj (Gy b C) w w1/\w.heap.size<=w1.heap.size:=by
  exact Ail
 obtain⟨rfl,p,z⟩:=q;have a:=S5 a hown0;clear hw1 hown0 hblk0 s hp0 hne0;have g:=EZ hblk;have c1:w1.cell? ⟨b,1,none⟩=some v:=QB;rw[Hd]at a;go_wp2_with(at_builtin;refine Ig _ rfl _ _ 25 rfl C 5 i0 (.int .u8 0) 1 1 underlying25 hi hz0 hz1 hz2 rfl AE _ _ _ rfl (a.alloc _) ⟨w1,0,none⟩ 1 1 [.int .u8 (c:Int)] rfl rfl (Uh w1 _ _) (by intro u hu;simp at hu;subst hu;rfl) C1 A4 B7 ?_;intro x m f j _;obtain⟨a2,k2,c2,rfl⟩:=Q5 f;have bU:=(j.block b B7 (λe=>hne e.symm)).trans ((Lib.alloc_old w1 _ b g).trans hblk);have⟨d1,f1⟩:=PV bU);go_wp2;go_ret;have d:AF C w1 m:=((AU C w1).alloc A4 _).grown j B7 (λk n=>(a.lt k n).1);have t:Aj (Gy b C) w1 m:=⟨d.os,d.tape,d.output,d.size,λk n o=>d.block k (by
  unfold Gy at o;rw[not_or]at o;omega)⟩
 refine⟨rfl,?_,(p.trans t).set (.inl rfl) _ _,(r.trans ((HB.of (Ah _ _)).trans (Abw (a.alloc _) j))).trans (Se _ _)⟩;have iH:m.ownsRow C 5 1 (.slice a2 k2 c2) (Lib.byteCells (l++[c])).length (Lib.byteCells (l++[c])):=by
  rw[RG,Aa,Hd];exact f
 exact AcU
def AiN(h:E7)(b:Pg h)(w:A7):AD A8 34 #[.agg (AV h)] w (Bi w (Gm h)):=by
 have a:=ZO b.six;replace a:=H0 a;unfold AV;have hb1:=Ah w (.cells (AV h) 32);unfold AV at hb1;rcases Aj0 h with⟨f,e⟩|⟨f,⟨g,e⟩|⟨g,⟨d,e⟩|⟨d,⟨c,e⟩|⟨c,e⟩⟩⟩⟩;all_goals replace e:=H0 e
 ·exact Ua
 ·exact Ua
 ·go_in;go_wp2_with fail;go_call(ArB h.four b.four _) as e' w2⟨t,rfl,ht',hb⟩;go_wp2;go_ret;exact Be (ht'.out.trans e.out.symm) (hb1.next hb)
 ·go_in;go_wp2_with fail;rw[<-a.out];go_call(Apq h.six b.six _) as e' w2⟨t,rfl,ht',hb⟩;exact AgZ
 go_in;go_wp2;go_ret;exact Be ((toList_mk []).trans e.out.symm) hb1
def Asw(u:AT)(w:A7)(f:HF w u)(B:(FG u.path).length<=549755813888)(x:u.path.length<=BK):AD A8 141 #[.agg (AB u)] w (Bi w (GY u)):=by
 have e:=Dq.start w u;have⟨x0,x1,x2,x3,x4,x5,x6,x7,x8,x9,x10,x11,x12,x13,x14,x15,x16,x17,x18,x19,x20,x21,x22⟩:=Qh u;have d:Hid (GY u=if u.flatP then u.flat.toList else FG u.path):=rfl;unfold BK at x;replace f:=H0 f;clear x0 x1 x2 x3 x4 x5 x6 x7 x8 x9 x10 x11 x12 x13 x14 x15 x19 x20 x21 x22;rcases Jt u.flatP with p|p
 ·rw[p]at d x16;have a:=e.box;have m:=(a 18).trans x18;have h:=(a 16).trans x16;have c:(ByteArray.mk #[47]).toList=[47]:=toList_mk _;replace c:=H0 c;clear a x16 x17 x18;go_in;go_wp2;go_loop[3,4] (λs iv=>∃(k:Nat)(t:A9),s=.string t/\iv=.int .i64 k/\k<=u.path.length/\Hid (t.toList=FG (u.path.take k))) (λ_ i=>u.path.length-(intOf i).toNat)
  ·exact⟨0,_,rfl,rfl,AR _,H0 (toList_mk [])⟩
  obtain⟨k,t,rfl,rfl,A,l⟩:=hrel;by_cases b:k<u.path.length
  ·have⟨g,o,hpa,hcc⟩:=f.out A4;have C:(w.alloc (.cells (AB u) 34)).cell? ⟨g,o+k,none⟩=some (.string u.path[k]):=by
    rw[World.cell?_alloc_past _ _ _ (EV w _ (hcc k b))];exact hcc k b
   have n:=Acq u.path (k+1);have q:=Afs b;have j:t.size=(FG (u.path.take k)).length:=by rw[<-AK,l.out]
   have E:t.size+(1+u.path[k].size)<=549755813888:=by
    rw[q,Aa]at n;simp[AK]at n;omega
   have D:(k:Int)<u.path.length:=A4;have z:¬(9223372036854775807<t.size+1+u.path[k].size):=A4;have v:=A6 ((t++⟨#[47]⟩++u.path[k]).toList=FG (u.path.take (k+1))) (by
    rw[q,toList_append,toList_append,c.out,l.out];simp)
   change Hid _ at q j;clear hcc n;rw[hpa]at m;go_wp2;go_round;exact⟨k+1,_,rfl,AP,A4,v⟩;exact AzF
  have y:=A6 (t.toList=GY u) (by rw[d.out,l.out,Bc A4];rfl);go_wp2;go_ret;exact Be y e.below
 rw[p]at d x16;have a:=e.box;have r:=(a 17).trans x17;have h:=(a 16).trans x16;clear a x16 x17 x18;go_in;go_wp2;go_ret;exact Be (by rw[d.out];rfl) e.below
def Um{a b:Bool}(h:a=b):a=b:=h
def Aqk(u:AT)(w:A7)(hp:HF w u)(d:Ls u):AD A8 140 #[.agg (AB u)] w (Bi w (Ft u)):=by
 have a:=Dq.start w u;obtain⟨x0,S,R,x3,x4,X,Y,x7,x8,x9,G,E,J,M,m,I,h,P,A,O,H,F,C⟩:=Qh u;have c:=a.box;have vR:=d.user;have L:=d.pass;have i:(ByteArray.mk #[47,47]).toList=[47,47]:=toList_mk _;have N:(ByteArray.mk #[58]).toList=[58]:=toList_mk _;have k:(ByteArray.mk #[64]).toList=[64]:=toList_mk _;change Hid _ at i N k;by_cases n:u.host.kind=0
 ·have T:(u.host.kind==0)=true:=by simp[n]
  have j:=A6 (Ft u=Dh (IA u) [47,46]) (by unfold Ft;rw[AC n]);have U:(u.flatP=true/\IA u=false)\/(u.flatP=false/\(u.path.length:Int)<=1/\IA u=false)\/(u.flatP=false/\1<(u.path.length:Int)/\∃g o t,u.pathA=some ⟨g,o,none⟩/\(w.alloc (.cells (AB u) 34)).cell? ⟨g,o,none⟩=some (.string t)/\t.toList.isEmpty=IA u):=by
   unfold IA;cases hfl:u.flatP
   ·by_cases Q:2<=u.path.length
    ·have kS:=hp.below a.below (AG _);obtain⟨g,o,Z,hc⟩:=kS A4;have W:=hc 0 A4;refine .inr (.inr ⟨rfl,A4,g,o,u.path[0],Z,W,?_⟩);rw[Ae0 u.path A4];simp[Q]
    exact .inr (.inl ⟨rfl,A4,by simp[Q]⟩)
   exact .inl ⟨rfl,rfl⟩
  clear n;replace hp:=H0 hp;rcases U with⟨s,r⟩|⟨s,r,y⟩|⟨s,r,g,o,t0,y,d4,d5⟩
  ·replace r:=H0 r;rw[s]at h;go_in;go_wp2_with fail;go_ret;exact Be (by rw[j.out,r.out];exact toList_mk []) a.below
  ·replace y:=H0 y;rw[s]at h;go_in;go_wp2_with fail;go_ret;exact Be (by rw[j.out,y.out];exact toList_mk []) a.below
  rw[s]at h;rw[y]at A;rcases Jt (IA u)with p|p;all_goals
   rw[p]at d5;replace p:=H0 p;go_in;go_wp2_with fail;go_ret;first
    |exact Be (by rw[j.out,p.out];exact toList_mk []) a.below|exact Be (by rw[j.out,p.out];exact toList_mk _) a.below
 have T:(u.host.kind==0)=false:=by simp[n]
 have j:=A6 (Ft u=[47,47]++HL u++Gm u.host++KD u) (by unfold Ft;rw[AA n]);have q:=Sq u.host d.name;have fO:=WX u d.user d.pass;clear n;replace hp:=H0 hp;go_in;go_upto_region 6 with(fail);obtain⟨B,hB⟩:∃B:Bool,B= !(u.user.toList.isEmpty&&u.pass.toList.isEmpty):=⟨_,rfl⟩;have x:(u.user.toList.isEmpty=true/\u.pass.toList.isEmpty=true/\Hid (HL u=[]))\/(u.user.toList.isEmpty=false/\u.pass.toList.isEmpty=true/\Hid (HL u=u.user.toList++[64]))\/(u.user.toList.isEmpty=true/\u.pass.toList.isEmpty=false/\Hid (HL u=u.user.toList++[58]++u.pass.toList++[64]))\/(u.user.toList.isEmpty=false/\u.pass.toList.isEmpty=false/\Hid (HL u=u.user.toList++[58]++u.pass.toList++[64])):=by
  cases hu:u.user.toList<;>cases hp:u.pass.toList
  ·exact .inl ⟨rfl,rfl,H0 MJ⟩
  ·exact .inr (.inr (.inl ⟨rfl,rfl,H0 MJ⟩))
  ·exact .inr (.inl ⟨rfl,rfl,H0 MJ⟩)
  exact .inr (.inr (.inr ⟨rfl,rfl,H0 MJ⟩))
 replace hB:=H0 hB;go_cut[31] (λK wx=>K=.bool B/\Dq w wx u);case first=>as_aux_lemma=>
  rcases x with⟨q1,q2,b⟩|⟨q1,q2,b⟩|⟨q1,q2,b⟩|⟨q1,q2,b⟩;all_goals
   go_wp2_with fail;go_meet;refine⟨?_,a⟩;rw[hB.out,Um q1,Um q2];rfl
 ·clear a c;obtain⟨rfl,a⟩:=hcut;have c:=a.box;go_upto_if 31 with(fail);go_cut[3] (λs3 wx=>(∃t:A9,s3=.string t/\Hid (t.toList=[47,47]++HL u))/\Dq w wx u);case first=>as_aux_lemma=>
   have f1:¬(9223372036854775807<2+u.user.size):=A4;have f2:¬(9223372036854775807<2+u.user.size+1):=A4;have f3:¬(9223372036854775807<2+u.user.size+1+u.pass.size):=A4;have f4:¬(9223372036854775807<2+u.user.size+1+u.pass.size+1):=A4;change Hid _ at vR L fO q;have c1:=(c 1).trans S;have c2:=(c 2).trans R;clear c x0 S R x3 x4 X Y x7 x8 x9 G E J M m I h P A O H F C j;rcases x with⟨q1,q2,b⟩|⟨q1,q2,b⟩|⟨q1,q2,b⟩|⟨q1,q2,b⟩
   ·obtain rfl:B=false:=Xl;go_wp2_with fail;go_meet;exact⟨⟨_,rfl,H0 (by rw[i.out,b.out];rfl)⟩,a⟩
   ·obtain rfl:B=true:=Xl;go_wp2_with fail;go_meet;exact⟨⟨_,rfl,H0 (by simp only[toList_append,i.out,k.out,b.out];simp)⟩,a⟩
   all_goals
    obtain rfl:B=true:=Xl;go_wp2_with fail;go_meet;exact⟨⟨_,rfl,H0 (by simp only[toList_append,i.out,N.out,k.out,b.out];simp)⟩,a⟩
  ·clear a c;obtain⟨⟨t,rfl,D⟩,a⟩:=hcut;have c:=a.box;have htz:t.size<=68719476740:=by rw[<-AK,D.out,Aa];simp;omega
   go_wp2_with fail;refine(AiN u.host d.host _).mono ?_;rintro e w2⟨t2,rfl,l,v⟩;replace a:=a.keep v;have V:=OQ l q;clear v c;have c:=a.box;rcases Jt u.hasPort with f|f
   ·rw[f]at m;replace f:=H0 f;go_wp2_with fail;go_ret;exact Be (by rw[j.out,toList_append,D.out,l.out];simp[KD,Dh,f.out]) a.below
   rw[f]at m;replace f:=H0 f;go_wp2_with fail;refine(As4 u.port _ d.port.1 d.port.2).mono ?_;rintro e w3⟨t3,rfl,z,v⟩;replace a:=a.keep v;have sN:=OQ z (TX u.port d.port.1 d.port.2);clear v c;go_wp2_with fail;go_ret;exact Be (by rw[j.out,toList_append,toList_append,toList_append,D.out,l.out,z.out,N.out];simp[KD,Dh,f.out]) a.below
def Dq.ext(h:Dq w wx u)(E:Array Obj)(d:Nat):Dq w (E9 wx E d) u:=h.keep (Km wx E d)
def Dq.drew(h:Dq w wx u):Dq w wx.drew u:=⟨h.below.drew,h.blk,h.size⟩
def Dq.drewN(h:Dq w wx u)(n:Nat):Dq w (wx.drewN n) u:=⟨Ey h.below n,h.blk,h.size⟩
def Dq.range(h:Dq w wx u):wx.rangeAt w 0 (AB u).toList:=λj v a=>by
 rw[Db];exact(h.box j).trans (by rw[<-L9];exact a)
def TW(h:Dq w wx u):Dq w wx u/\wx.cell? ⟨w,0,none⟩=some (.string u.scheme):=⟨h,(h.box 0).trans (Qh u).1⟩
def AyJ(u:AT):(A8.info? 34).map (·.size)=some (AB u).toList.length:=by rw[MG];rfl
def Dq.load(h:Dq w wx u):(Instr.loadAt 34 (.pointer (some ⟨w,0,none⟩))).run A8 wx=.ok (.agg (AB u)) wx:=
 run_loadAt_mid wx w 0 34 (AB u).toList _ h.range underlying34 rfl (AyJ u)
def Axp(u:AT)(f:Bool)(w:A7)(x:HF w u)(b:Ls u):AD A8 80 #[.agg (AB u),.bool f] w (Bi w (Hj u f)):=by
 have c:=Dq.start w u;obtain⟨x0,x1,x2,x3,x4,x5,x6,x7,x8,W,G,O,R,Q,J,N,E,H,P,s,n,l,p⟩:=Qh u;have y:=b.scheme;have C:=b.query;have S:=b.frag;have T:=b.path;have U:=b.flat;have D:=Aiq u b;have d:(GY u).length<=34359738368:=by
  unfold GY;split
  ·rw[AK];exact U
  exact T
 have X:Hid (Hj u f=u.scheme.toList++[58]++Ft u++GY u++Dh u.hasQuery ([63]++u.query.toList)++Dh (u.hasFrag&&f) ([35]++u.frag.toList)):=rfl;replace x:=H0 x;go_in;go_upto_region 1 with(fail);generalize w.alloc (.cells (AB u) 34)=wa at c⊢;have Z:¬(9223372036854775807<u.scheme.size+1):=A4;change Hid _ at y C S T U D d;refine rds (λw'=>Dq w w' u/\w'.cell? ⟨w,0,none⟩=some (.string u.scheme)) (TW c.drew) λa=> ?_;refine tkm 3 (λ_ h=>h.1.range) ?_;refine tkm 6 (λ_ h=>h.1.range) ?_;refine tq 0 ?_;refine tq 1 ?_;refine tq 2 ?_;refine rdk 4 λK m=> ?_;go_simp;refine(Aqk u _ (x.out.below a.1.below (AG _)) b).mono ?_;rintro e w3⟨z,rfl,g,r⟩;have Y:=a.1.keep r;clear r a;have i:z.size<=103079215300:=by rw[<-AK,g.out];exact D
 have z2:¬(9223372036854775807<u.scheme.size+1+z.size):=by have:=y.out;omega
 replace i:=H0 i;go_wp2_with fail;refine rdg m (TW Y) λa=> ?_;refine tq 5 ?_;refine rdk 7 λK m=> ?_;go_simp;refine(Asw u _ (x.out.below a.1.below (AG _)) (by have:=T.out;omega) b.pieces).mono ?_;rintro e w4⟨F,rfl,j,r⟩;have V:=a.1.keep r;clear r a;have q:F.size<=34359738368:=by rw[<-AK,j.out];exact d
 have z3:¬(9223372036854775807<u.scheme.size+1+z.size+F.size):=by have:=y.out;have:=i.out;omega
 replace q:=H0 q;go_wp2_with fail;refine rdg m (TW V) λa=> ?_;refine tq 8 ?_;refine rdk 9 λK m=> ?_;go_simp;refine rdg m (TW V) λa=> ?_;refine rdn ?_;have c:=a.1;clear a;generalize hT:u.scheme++⟨#[58]⟩++z++F=t;have v:=A6 (t.toList=u.scheme.toList++[58]++Ft u++GY u) (by
  rw[<-hT,toList_append,toList_append,toList_append,g.out,j.out,show(ByteArray.mk #[58]).toList=[58]from toList_mk _])
 have I:t.size<=171798692040:=by
  rw[<-AK,v.out];simp only[Aa,AK,BC,Ep];have:=y.out;have:=D.out;have:=d.out;omega
 have q1:¬(9223372036854775807<t.size+1+u.query.size):=by have:=C.out;omega
 have q2:¬(9223372036854775807<t.size+1+u.query.size+1+u.frag.size):=by have:=C.out;have:=S.out;omega
 have q3:¬(9223372036854775807<t.size+1+u.frag.size):=by have:=S.out;omega
 have q4:¬(9223372036854775807<t.size+1):=A4;have q5:¬(9223372036854775807<t.size+1+u.query.size+1):=by have:=C.out;omega
 have o:(ByteArray.mk #[63]).toList=[63]:=toList_mk _;have k:(ByteArray.mk #[35]).toList=[35]:=toList_mk _;change Hid _ at o k;have M:=(c.box 19).trans s;have c20:=(c.box 20).trans n;have L:=(c.box 21).trans l;have c22:=(c.box 22).trans p;clear hT g j Z z2 z3 I x0 x1 x2 x3 x4 x5 x6 x7 x8 W G O R Q J N E H P s n l p;rcases Jt u.hasQuery with A|A<;>rcases Jt u.hasFrag with B|B<;>rcases Jt f with hf|hf
 all_goals
  rw[A]at M;rw[B]at L;subst hf;change Hid _ at A B;go_wp2_with fail;go_ret;refine Be ?_ c.below;rw[X.out,A.out,B.out];simp only[toList_append,v.out,o.out,k.out,Dh];simp
def Au2(u:AT)(w:A7)(U:HF w u)(W:Ls u)(hz:(Hj u false).length<=900000000):AD A8 35 #[.agg (AB u)] w (Sk w (F0 u)):=by
 have i:=Ah w (.cells (AB u) 34);have f:=H0 (CB w (.cells (AB u) 34));have x0:(w.alloc (.cells (AB u) 34)).cell? ⟨w,0,none⟩=some (.string u.scheme):=(Ky _ _ _ _ rfl).trans rfl;have e0:(ByteArray.mk #[]).toList=[]:=toList_mk [];have Z:=U.below i (AG _);by_cases A:u.scheme.toList=Im
 ·have J:=A6 (F0 u=RM (Hj u false)) (by unfold F0;rw[AC A]);have⟨r,hr⟩:=Aj8 A;replace e0:=H0 e0;have I:=H0 (Axp u false _ Z W);go_in;go_wp2_with(refine Cg rfl 34 _ rfl w rfl _ (AB u) _ _ f underlying34 rfl MG ?_);refine I.out.mono ?_;rintro e w2⟨t,rfl,a,c⟩;have i:=i.next c;clear c x0 f I;have Y:t.size<=900000000:=by rw[<-AK,a.out];exact hz
  have Q:r.length+5=t.size:=by rw[<-AK,a.out,hr,Aa];simp;omega
  have h5:5<=(t.size:Int):=A4;obtain⟨T,N⟩:=AI (t.extract 5 t.size);have E:T.toList=r:=by rw[<-N,WJ,a.out,hr];rfl
  have hTz:T.size<=900000000:=by rw[<-N,Lc];omega
  have D:=A6 (F0 u=if(AL 44 T.toList).2.2=true then some (Jk (AL 44 T.toList).1)else none) (by rw[J.out,hr,E];rfl);replace Q:=H0 Q;clear J a;have b:=AK T;have F:=H0 (λw=>WL T 44 w A4);have k:=W1 44 T.toList;have m:=A6 ((T.extract 0 (AL 44 T.toList).1.length).toList=(AL 44 T.toList).1) (by rw[UO,Yz]);have v:(AL 44 T.toList).2.2=true->(AL 44 T.toList).1.length<T.size:=λh=>by rw[<-b];exact Agp h
  have z:(AL 44 T.toList).2.2=false->(AL 44 T.toList).1.length=T.size:=λh=>by rw[<-b];exact Ahb h
  generalize hn:(AL 44 T.toList).1.length=n at k F m v z;rw[b]at k;cases hm:(AL 44 T.toList).2.2
  ·have hno:=A6 (F0 u=none) (by rw[D.out,AA (by rw[hm];decide)]);have X:((n:Int)==T.size)=true:=by rw[z hm];simp
   clear v z m;go_wp2_with fail;go_call F;refine AH ?_;go_wp2;go_ret2;exact⟨⟨#[]⟩,Gt,H0 Vc,i⟩
  obtain⟨H,hH⟩:=AI (T.extract 0 n);have V:H.size<=900000000:=Wn;rw[hH]at m;have p:=A6 (F0 u=some (Jk H)) (by rw[D.out,AC hm,m.out]);have X:((n:Int)==T.size)=false:=by have:=v hm;rw[B6];omega
  have S:(n:Int)<=T.size:=A4;clear v z D m;go_wp2_with fail;go_call F;refine AH ?_;go_wp2_with fail;go_call Axu as e w5⟨ts,rfl,hts,c⟩;have O:=i.next c;have M:ts.size<=900000000:=by
   rw[<-AK,hts.out];have:=Abe H;exact KN
  clear c i;go_wp2_with fail;go_call AvL as e w6⟨tq,rfl,htq,c⟩;have fS:=O.next c;have R:tq.size<=900000000:=by
   rw[<-AK,htq.out];have:=Aiy ts;exact KN
  have B:=A6 (Jk H.toList=(Ff (if tq.toList.head?=some 59 then JE++tq.toList else tq.toList)).getD JE) (by
   unfold Jk;rw[htq.out,hts.out])
  clear c O hts htq;have y:(ByteArray.mk #[116,101,120,116,47,112,108,97,105,110]).toList=JE:=toList_mk _;obtain⟨g,a,G,s⟩:∃g:A9,Hid (Jk H.toList=(Ff g).getD JE)/\g.size<=900000010/\
    ((tq.toList.isEmpty=true/\g=tq)\/(∃h:0<tq.size,(!tq.toList.isEmpty)=true/\((tq[0].toNat:Int)==59)=true/\g=⟨#[116,101,120,116,47,112,108,97,105,110]⟩++tq)\/(∃h:0<tq.size,(!tq.toList.isEmpty)=true/\((tq[0].toNat:Int)==59)=false/\g=tq)):=by
   by_cases q:0<tq.size
   ·have j:=FZ tq q;by_cases h:tq[0]=59
    ·refine⟨⟨#[116,101,120,116,47,112,108,97,105,110]⟩++tq,H0 ?_,?_,.inr (.inl ⟨q,by rw[j];rfl,L4,rfl⟩)⟩
     ·rw[B.out,AC (by rw[j,h];rfl),toList_append,y]
     rw[Ix];show 10+tq.size<=_;omega
    refine⟨tq,H0 ?_,A4,.inr (.inr ⟨q,by rw[j];rfl,(u8q (d:=59)).2 h,rfl⟩)⟩;rw[B.out,AA (by rw[j];exactλx=>h (Cm x))]
   have j:=(EW tq).2 A4;exact⟨tq,H0 (by rw[B.out,j];rfl),A4,.inl ⟨by rw[j];rfl,rfl⟩⟩
  replace y:=H0 y;clear B;obtain⟨o,C⟩:=AI (Ff g);have K:=H0 (λw=>C▸AuG g w A4);have aD:=A6 (F0 u=some (o.getD JE)) (by rw[p.out,a.out,C]);replace C:=H0 C;rcases s with⟨L,rfl⟩|⟨q,L,q2,rfl⟩|⟨q,L,q2,rfl⟩;all_goals
   go_wp2_with fail;go_call K as e w8⟨tr,rfl,htr,c⟩;have P:=fS.next c;clear c K;cases o with
   |none=>
    go_wp2;go_ret2;exact⟨⟨#[116,101,120,116,47,112,108,97,105,110]⟩,NF,H0 (by rw[aD.out];exact y),P⟩
   |some l=>
    go_wp2;go_ret2;exact⟨tr,NF,H0 (by rw[aD.out];exact htr),P⟩
 have nN:(u.scheme.toList==[100,97,116,97])=false:=by simpa[Im]using A
 have hno:=A6 (F0 u=none) (by unfold F0;rw[AA A]);go_in;go_wp2;go_ret2;exact⟨⟨#[]⟩,Gt,H0 PC,i⟩
def Ayk(s p:A5):Lib.hasSuffix s p=(s.drop (s.length-p.length)==p):=by
 unfold Lib.hasSuffix;rw[Fl,List.isSuffixOf_iff_suffix,List.suffix_iff_eq_drop,CW];exact eq_comm
def Ato(s:A5):Lib.hasPrefix s [46]=(s.head?==some 46):=by
 cases s with
 |nil=>rfl
 |cons c r=>
  show((46:UInt8)==c&&List.isPrefixOf [] r)=(some c==some 46);have:List.isPrefixOf ([]:A5) r=true:=by cases r<;>rfl
  rw[this,Kj,Fl,CW,CW,LV];exact eq_comm
inductive Me (k:Int) (t e:A9):Bool->Prop where
 |star (h:(e.toList==[42])=true):Me k t e true
 |same (h0:(e.toList==[42])=false) (h:(e.toList==t.toList)=true):Me k t e true
 |kind (h0:(e.toList==[42])=false) (h1:(e.toList==t.toList)=false) (h:(k==2)=false):Me k t e false
 |long (h0:(e.toList==[42])=false) (h1:(e.toList==t.toList)=false) (h2:(k==2)=true) (h:(t.size:Int)-e.size<=0):Me k t e false
 |none (h0:(e.toList==[42])=false) (h1:(e.toList==t.toList)=false) (h2:(k==2)=true) (h3:0<(t.size:Int)-e.size) (h:e.toList.isEmpty=true):Me k t e false
 |dot (c:UInt8) (h0:(e.toList==[42])=false) (h1:(e.toList==t.toList)=false) (h2:(k==2)=true) (h3:0<(t.size:Int)-e.size) (h4:e.toList.isEmpty=false) (hz:0<e.size) (hc:e.toList=c::e.toList.tail) (h:(c==46)=false):Me k t e false
 |tail (b:Bool) (c:UInt8) (h0:(e.toList==[42])=false) (h1:(e.toList==t.toList)=false) (h2:(k==2)=true) (h3:0<(t.size:Int)-e.size) (h4:e.toList.isEmpty=false) (hz:0<e.size) (hc:e.toList=c::e.toList.tail) (h5:(c==46)=true) (h:(t.toList.drop (t.size-e.size)==e.toList)=b):Me k t e b
def Am6(h:E7)(t e:A9)(k:t.toList=Gm h):Me h.kind t e (IP h e):=by
 unfold IP;rw[<-k];cases h0:e.toList==[42];rotate_left
 ·rw[NY];exact .star h0
 cases h1:e.toList==t.toList;rotate_left
 ·rw[Bool.true_or];exact .same h0 h1
 by_cases b:h.kind=2;rotate_left
 ·have a:(h.kind==2)=false:=by simpa using b
  rw[BO b,Ma];exact .kind h0 h1 a
 have a:(h.kind==2)=true:=by simp_all
 have l:h.name.toList=t.toList:=by rw[k];unfold Gm;rw[AC (.inl b)]
 have f:h.name.size=t.size:=by rw[<-AK,<-AK,l]
 rw[Bx b,f,l];by_cases g:e.size<t.size;rotate_left
 ·rw[BO g,Ma];exact .long h0 h1 a A4
 have d:0<(t.size:Int)-e.size:=A4;rw[Bx g];cases hE:e.toList with
 |nil=>
  exact .none h0 h1 a d AS
 |cons c r=>
  have i:e.toList.isEmpty=false:=by simp_all
  have j:0<e.size:=by rw[<-AK,hE];exact Nat.zero_lt_succ _
  have hc:e.toList=c::e.toList.tail:=by simp_all
  rw[<-hE];have m:Lib.hasPrefix e [46]=(c==46):=by rw[Ato,hE];rfl
  rw[m];cases h5:c==46
  ·rw[ON];exact .dot c h0 h1 a d i j hc h5
  rw[Ayk,AK,AK];exact .tail _ c h0 h1 a d i j hc h5 rfl
def L3(p:DF):Nat->J0|0=>p.schemes|1=>p.hosts|_=>p.types
structure Awm(p:DF):Prop where
 s:p.schemes.l.length<=20
 h:p.hosts.l.length<=20
 t:p.types.l.length<=20
def Z4(w:A7)(p:DF)(e:Ag)(w':A7):Prop:=∃b:Bool,e=.returned (.bool b)/\(b=true->Awm p)/\AF w w w'
def AcB{p:DF}(a:AF w w w'):Z4 w p (.returned (.bool false)) w':=⟨false,rfl,λe=>LW,a⟩
def As5{p:DF}(h:∀j,j<3->(L3 p j).l.length<=20)(a:AF w w w'):Z4 w p (.returned (.bool true)) w':=
 ⟨true,rfl,λ_=>⟨h 0 AE,h 1 AE,h 2 AE⟩,a⟩
def ArE(p:DF)(w:A7)(u:FW w p):AD A8 7 #[.agg (Br p)] w (Z4 w p):=by
 have v:=Ah w (.cells (Br p) 24);have N:(w.alloc (.cells (Br p) 24)).cell? ⟨w,0,none⟩=some (.slice p.schemes.a p.schemes.l.length p.schemes.c):=(Ky _ _ _ _ rfl).trans rfl;have K:(w.alloc (.cells (Br p) 24)).cell? ⟨w,1,none⟩=some (.slice p.hosts.a p.hosts.l.length p.hosts.c):=(Ky _ _ _ _ rfl).trans rfl;have J:(w.alloc (.cells (Br p) 24)).cell? ⟨w,2,none⟩=some (.slice p.types.a p.types.l.length p.types.c):=(Ky _ _ _ _ rfl).trans rfl;go_in;go_wp2;refine As (R:=λwx=>AF w w wx/\Hid (∀k,k<3->wx.cell? ⟨w.heap.size+1,k,none⟩=some (.slice (L3 p k).a (L3 p k).l.length (L3 p k).c))) ⟨v.alloc v.size _,H0 ?_⟩ ?_
 ·intro k s;have e:=BV ((w.alloc (.cells (Br p) 24)).alloc (.cells #[.slice p.schemes.a p.schemes.l.length p.schemes.c,.slice p.hosts.a p.hosts.l.length p.hosts.c,.slice p.types.a p.types.l.length p.types.c] 22)) (w.heap.size+1) k _ _ _ (TU AN);rw[e]
  match k,s with
  |0,_=>rfl|1,_=>rfl|2,_=>rfl
 rintro wx⟨q,B⟩;have y:=A6 (∀k,k<3->Ib w (L3 p k)) (λk s=>by
  match k,s with
  |0,_=>exact u.schemes|1,_=>exact u.hosts
  |2,_=>exact u.types)
 clear N K J v;generalize w.heap.size+1=g0 at B⊢;go_loop[4,5] (λz _=>∃k:Nat,z=.int .i64 k/\k<=3/\Hid (∀j,j<k->(L3 p j).l.length<=20)) (λz _=>3-(intOf z).toNat)
 ·exact⟨0,rfl,A4,H0 (λj D=>A4)⟩
 obtain⟨k,rfl,s,G⟩:=hrel;by_cases m:k<3
 ·have Q:(k:Int)<3:=A4;have H:=B.out k m;obtain⟨n,A,d,-⟩:=y.out k m;have t:(L3 p k).l.length<=20->Hid (∀j,j<k+1->(L3 p j).l.length<=20):=λh=>H0 (λj D=>by
   by_cases e:j=k
   ·subst e;exact h
   exact G.out j A4)
  replace t:=H0 t;unfold BK at A d;unfold Mw at n;generalize L3 p k=x at H n A d t;have⟨pa,pc,l⟩:=x;dsimp only at H n A d;change Hid _ at n d;go_wp2;go_loop[5] (λiv=>∃i:Nat,iv=.int .i64 i/\i<=30) (λiv=>30-(intOf iv).toNat)
  ·exact⟨0,rfl,A4⟩
  obtain⟨i,rfl,S⟩:=hrel;by_cases f:i<l.length/\i<30
  ·have⟨h1,h2⟩:=f;obtain⟨g,o,rfl,hc⟩:=n.out A4;have c1:=(q.cell (p:=⟨g,o+i,none⟩) (by have:=EV w _ (hc i h1);simpa using this)).trans (hc i h1);clear hc;have M:=d.out l[i] (CI _);generalize C:l[i]=e at c1 M;replace C:=H0 C;have P:(i:Int)<l.length:=A4;have I:(i:Int)<30:=A4;by_cases E:200<e.size
   ·go_wp2;go_ret;exact AcB q
   go_wp2;go_round;exact⟨i+1,AP,A4⟩;exact AzF
  have F:(l.length:Int)<=i\/((i:Int)<l.length/\30<=(i:Int)):=A4;clear f;by_cases L:20<l.length
  ·rcases F with r|⟨r,O⟩;all_goals
    go_wp2;go_ret;exact AcB q
  have aC:=t.out (by show l.length<=20;omega);have r:(l.length:Int)<=i:=A4;clear F;go_wp2;exact JT
 have b:=A6 (∀j,j<3->(L3 p j).l.length<=20) (λj D=>G.out j A4);go_wp2;go_ret;exact As5 b q
def KG:Nat->A9×A9
 |1=>(⟨#[105,109,103]⟩,⟨#[115,114,99,115,101,116]⟩)|2=>(⟨#[77,101,116,97]⟩,⟨#[67,79,78,84,69,78,84]⟩)|3=>(⟨#[115,111,117,114,99,101]⟩,⟨#[115,114,99,115,101,116]⟩)|4=>(⟨#[115,99,114,105,112,116]⟩,⟨#[115,114,99]⟩)|5=>(⟨#[111,98,106,101,99,116]⟩,⟨#[100,97,116,97]⟩)|6=>(⟨#[102,111,114,109]⟩,⟨#[97,99,116,105,111,110]⟩)|7=>(⟨#[108,105,110,107]⟩,⟨#[105,109,97,103,101,115,114,99,115,101,116]⟩)|8=>(⟨#[97]⟩,⟨#[116,105,116,108,101]⟩)|_=>(⟨#[97]⟩,⟨#[104,114,101,102]⟩)
def Ag2(r:Nat)(h:r<9):r=0\/r=1\/r=2\/r=3\/r=4\/r=5\/r=6\/r=7\/r=8:=A4
def Awj(n:Int)(c:0<=n)(w:A7):AD A8 9 #[.int .i64 n] w λe w'=>∃r,r<9/\e=.returned (.tuple #[.string (KG r).1,.string (KG r).2])/\w'=w:=by
 have d:n.tmod 9=n%9:=MW c;obtain⟨r,b⟩:∃r:Nat,n%9=(r:Int):=⟨(n%9).toNat,A4⟩;have a:r<9:=A4;rw[b]at d;clear b;rcases Ag2 r a with rfl|rfl|rfl|rfl|rfl|rfl|rfl|rfl|rfl;all_goals
  go_in;go_wp2;go_ret2
 ·exact⟨0,a,rfl,rfl⟩
 ·exact⟨1,a,rfl,rfl⟩
 ·exact⟨2,a,rfl,rfl⟩
 ·exact⟨3,a,rfl,rfl⟩
 ·exact⟨4,a,rfl,rfl⟩
 ·exact⟨5,a,rfl,rfl⟩
 ·exact⟨6,a,rfl,rfl⟩
 ·exact⟨7,a,rfl,rfl⟩
 exact⟨8,a,rfl,rfl⟩
end Go.Proofs.YtonomfeipkdmhaaGreatDoor
