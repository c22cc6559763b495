/- Lemmas. -/
import Derived.Test.YtonomfeipkdmhaaGreatDoorZm11
import Derived.Test.YtonomfeipkdmhaaGreatDoorZm12
import Derived.Test.YtonomfeipkdmhaaGreatDoorZm13
import Derived.Test.YtonomfeipkdmhaaGreatDoorZm14
import Derived.ChangeSlices
import Derived.Deep.OwnRows
import Derived.Lib.SlBuf
import Derived.WideMake
import Derived.WideShapes
set_option linter.all false
set_option maxRecDepth 100000
set_option maxHeartbeats 16000000
namespace Go.Proofs.YtonomfeipkdmhaaGreatDoor
open Go renaming World->A7,Calls->AD,Value->AJ,Ending->Ag
open Go.RowKit renaming Below->AF
open Go.RowKit Go.Proofs.Tryz
open Go.Proofs.Tryz renaming prog->A8
def CZ(l:A5):A5:=l.flatMap λc=>if c=0 then Dc else[c]
def Ahs(c:UInt8)(r:A5):CZ (c::r)=(if c=0 then Dc else[c])++CZ r:=by unfold CZ;rw[GV]
def TJ(a b:A5):CZ (a++b)=CZ a++CZ b:=by unfold CZ;rw[Jh]
def XE:∀{l:A5},(∀c∈l,c≠0)->CZ l=l
 |[],_=>rfl
 |c::r,h=>by
  rw[Ahs,AA (h c (CC ..)),XE (λx hx=>h x (Cr _ hx))];rfl
def V4:∀l:A5,(CZ l).length=l.length+2*l.count 0
 |[]=>rfl
 |c::r=>by
  rw[Ahs,Aa,V4 r,List.count_cons,BC];by_cases h:c=0
  ·subst h;have:Dc.length=3:=rfl;simp[beq_self_eq_true,if_true];omega
  rw[AA h,AA JR];simp[BC,Ep];omega
variable{l:A5}
def Ayd(h:0<l.count 0):∃i:Nat,Lib.indexByte l 0=(i:Int)/\i<l.length/\(∀c∈l.take i,c≠0)/\l=l.take i++0::l.drop (i+1)/\(l.drop (i+1)).count 0+1=l.count 0:=by
 rcases Aey 0 l with⟨_,hc⟩|⟨i,h1,f,e⟩
 ·have a:=Pb 0 l;rw[hc]at a;have:l.count 0=0:=List.count_eq_zero.2 λd=>(a 0 d).1 rfl;omega
 have a:=Pb 0 l;have b:=Zs (by rw[e]);rw[e]at a b;refine⟨i,h1,f,λc hc=>(a c hc).1,b,?_⟩
 conv=>rhs;rw[b]
 rw[List.count_append,List.count_eq_zero.2 λd=>(a 0 d).1 rfl];simp
def SF(h:l.count 0=0):CZ l=l:=XE λc hc e=>by
 subst e;exact List.count_eq_zero.1 h hc
def Aub{s i:Nat}(f:s<=l.length)(h1:∀c∈(l.drop s).take i,c≠0)(d:l.drop s=(l.drop s).take i++0::(l.drop s).drop (i+1))(a:i<(l.drop s).length):CZ (l.take (s+i+1))=CZ (l.take s)++((l.drop s).take i++Dc):=by
 have e:l.take (s+i+1)=l.take s++((l.drop s).take i++[0]):=by
  have b:l.take (s+i+1)=l.take s++(l.drop s).take (i+1):=by
   rw[show s+i+1=s+(i+1)by omega,List.take_add]
  grind
 rw[e,TJ,TJ,XE h1];rfl
structure CH where
 right:Bool
 url:AZ
 ws:List (A5)
def Bh(raw:A5):A5:=Lk (HO (CZ raw))
def D3(base:AZ)(s:A5)(ws:List (A5)):CH:=⟨(IJ base s).isSome,(IJ base s).getD EH,ws⟩
def IN(base:AZ):Option (A5×Bool×A5)->List CH×A5
 |none=>([],[])|some (d,h,x)=>if h=true then([D3 base x []],d)else([⟨true,base,[]⟩],d)
def Am(kind:Nat)(base:AZ)(s:A5):List CH×A5:=
 if kind=1 then([D3 base s []],[])
 else if kind=2 then((BW s).map λc=>D3 base c.url c.ws,[])
 else if kind=3 then IN base (Dl s)
 else([],[])
def ML(s:A5):Bool:=s.all BS&&(!s.isEmpty&&(!(s.head?==some 44)&& !(s.getLast?==some 44)))
def Bd(alw:AZ->Bool)(kind:Nat)(it:CH):Bool:=it.right&&(alw it.url&&(kind !=2||ML (C6 it.url true)))
def Df(it:CH):Dw:=⟨C6 it.url true,it.ws,(EE it.ws).getD d0⟩
def FH(kind:Nat)(l:List CH)(d:A5):A5:=match l with
 |[]=>[]|it::r=>if kind=1 then C6 it.url true else if kind=2 then Cf ((it::r).map Df)else if kind=3 then Ly (d,true,C6 it.url true)else[]
structure Va where
 kind:Nat
 why:Nat
 out:A5
def Qm(n:Nat):Va:=⟨2,n,[]⟩
def E3(alw:AZ->Bool)(most:Int)(kind:Nat)(base:AZ)(raw:A5):Va:=
 if kind=0 then⟨1,0,[]⟩
 else if most<(raw.length:Int)then Qm 1
 else if(Am kind base (Bh raw)).1.any (·.right)=false then Qm 3
 else if(Am kind base (Bh raw)).1.filter (Bd alw kind)=[]then Qm 4
 else if most<((C8 (FH kind ((Am kind base (Bh raw)).1.filter (Bd alw kind)) (Am kind base (Bh raw)).2)).length:Int)then Qm 1
 else⟨3,0,C8 (FH kind ((Am kind base (Bh raw)).1.filter (Bd alw kind)) (Am kind base (Bh raw)).2)⟩
def Ug(c:UInt8):Bool:= !BR c&&(!(c==34)&&(!(c==39)&&(!(c==60)&&(!(c==62)&& !(c==96)))))
def AsT:∀n:UInt8,BR n=false->(Gi n).all Ug=true:=DZ AX
variable{W:A5}
def Ar6(h:∀c∈W,BR c=false):∀c∈C8 W,Ug c=true:=by
 intro c hc;have⟨x,hx,hm⟩:=LK.1 hc;have:=AsT x;exact Et.1 (this (h x hx)) c hm
def ApR:∀n:UInt8,Ug n=true->n≠0/\decide (n.toNat<128)=true:=DZ AX
variable{c:UInt8}
def Aed(h:Ug c=true):c≠0/\decide (c.toNat<128)=true:=ApR c h
variable{base:AZ}
theorem Ot{s:A5}{ws:List (A5)}(a:BA base)(h:(D3 base s ws).right=true):∃u,IJ base s=some u/\D3 base s ws=⟨true,u,ws⟩/\BA u:=by
 unfold D3 at h⊢;cases hj:IJ base s with
 |none=>rw[hj]at h;cases h
 |some u=>exact⟨u,rfl,rfl,Abj a hj⟩
variable{u:AZ}
def VC{ws:List (A5)}(g:BA u):D3 base (C6 u true) ws=⟨true,u,ws⟩:=by unfold D3;rw[Aav g];rfl
def Yc{ws:List (A5)}{st:Dm}(h:ML (C6 u true)=true)(a:EE ws=some st):Kp ⟨C6 u true,ws,(EE ws).getD d0⟩:=by
 unfold ML at h;simp only[C0,Bool.not_eq_true',B6,Et]at h;have⟨h1,h2,h3,h4⟩:=h;refine⟨?_,h1,h3,h4,?_⟩
 ·intro e;dsimp only at e;rw[e]at h2;cases h2
 rw[a];rfl
def App:∀n:UInt8,IT n=true->BR n=false:=DZ AX
def AuL(h:IT c=true):BR c=false:=App c h
def Azx:∀n:UInt8,D8 n=true->BR n=false:=DZ AX
def ArL(h:D8 c=true):BR c=false:=Azx c h
def Asu{x:Dw}(h:c∈DA x):c=32\/c∈x.url\/∃t∈x.ws,c∈t:=by
 rcases BL.1 h with h|h
 ·simp_all
 have⟨t,ht,hc⟩:=LK.1 h;rcases Bn.1 hc with hc|hc
 ·exact .inl hc
 exact .inr (.inr ⟨t,ht,hc⟩)
def Aue:∀{l:List Dw}{c:UInt8},c∈Cf l->c=44\/c=32\/∃x∈l,c∈x.url\/∃t∈x.ws,c∈t
 |[],c,h=>C5
 |a::r,c,h=>by
  have b:∀x∈a::r,c∈DA x->c=44\/c=32\/∃x∈a::r,c∈x.url\/∃t∈x.ws,c∈t:=λx hx hc=>by
   rcases Asu hc with e|e
   ·exact .inr (.inl e)
   exact .inr (.inr ⟨x,hx,e⟩)
  rcases BL.1 h with h|h
  ·exact b a (CC ..) h
  have⟨x,hx,hc⟩:=LK.1 h;rcases Bn.1 hc with e|hc
  ·exact .inl e
  rcases Bn.1 hc with e|hc
  ·exact .inr (.inl e)
  exact b x (Cr _ hx) hc
def Yh(g:BA u):∃c r,C6 u true=c::r/\CE (c:Int)=true:=by
 have h:=g.scheme.1;rw[SL];cases hs:u.scheme with
 |nil=>rw[hs]at h;cases h
 |cons c r=>
  rw[hs]at h;unfold Ef at h;rw[C0]at h;exact⟨c,_,rfl,h.1⟩
def An2{alw:AZ->Bool}{kind:Nat}{s:A5}{l:List CH}(F:BA base)(i:(Am kind base s).1.filter (Bd alw kind)=l)(y:l≠[]):(∀b∈l,Bd alw kind b=true/\BA b.url)/\(∀c∈FH kind l (Am kind base s).2,BR c=false)/\Am kind base (FH kind l (Am kind base s).2)=(l,(Am kind base s).2):=by
 by_cases D:kind=1
 ·subst D;have e:Am 1 base s=([D3 base s []],[]):=rfl;rw[e]at i⊢;rw[EB]at i;split at i
  ·rename_i j;rw[List.filter_nil]at i;subst i;have f:=j;unfold Bd at f;rw[C0]at f;have⟨u,hj,hi,g⟩:=Ot F f.1;rw[hi]at j⊢;refine⟨λb hit=> ?_,?_,?_⟩
   ·grind
   ·exact Vk g
   show([D3 base (C6 u true) []],[])=_;rw[VC g]
  grind
 by_cases G:kind=2
 ·subst G;have e:∀s,Am 2 base s=((BW s).map λc=>D3 base c.url c.ws,[]):=λ_=>rfl;rw[e]at i⊢;dsimp only at i⊢;have v:=ZL _ s (AG _);have k:∀b∈l,Bd alw 2 b=true/\BA b.url/\b.right=true/\Kp (Df b):=λb hit=>by
   rw[<-i]at hit;have⟨q,j⟩:=Ii.1 hit;obtain⟨c,hc,rfl⟩:=EU.1 q;have f:=j;unfold Bd at f;rw[C0,C0]at f;have⟨A,_,hf⟩:=f;have⟨u,hj,hi,g⟩:=Ot F A;rw[hi]at j hf⊢;exact⟨j,g,rfl,Yc (by simpa using hf) (v c hc).ds⟩
  obtain⟨b,r,I⟩:∃b r,l=b::r:=by
   cases l with
   |nil=>grind|cons a r=>grind
  have n:FH 2 l []=Cf (l.map Df):=by rw[I];rfl
  rw[n];refine⟨λb hit=>⟨(k b hit).1,(k b hit).2.1⟩,?_,?_⟩
  ·intro c hc;rcases Aue hc with rfl|rfl|⟨x,hx,hc⟩
   ·decide
   ·decide
   obtain⟨b,hit,rfl⟩:=EU.1 hx;obtain⟨-,g,-,H⟩:=k b hit;rcases hc with hc|⟨t,n,hc⟩
   ·exact Vk g c hc
   exact AuL ((Ai7 H.ds t n).2 c hc)
  rw[e,ZA _ (λx hx=>by obtain⟨b,hit,rfl⟩:=EU.1 hx;exact(k b hit).2.2.2)];congr 1;have:∀m:List CH,(∀b∈m,b∈l)->m.map ((λc=>D3 base c.url c.ws)∘Df)=m:=by
   intro m;induction m with
   |nil=>grind
   |cons a m ih=>
    intro q;obtain⟨-,g,A,-⟩:=k a (q a (CC ..));rw[FR,ih (λb hit=>q b (Cr _ hit))];congr 1;show D3 base (C6 a.url true) a.ws=a;rw[VC g,<-A]
  grind
 by_cases C:kind=3
 ·subst C;have e:∀s,Am 3 base s=IN base (Dl s):=λ_=>rfl;rw[e]at i⊢;cases hp:Dl s with
  |none=>rw[hp]at i;exact absurd i.symm y
  |some p=>
   have⟨d,h,x⟩:=p;rw[hp]at i;obtain⟨J,E,K,-,-⟩:=Xz hp;have o:∀u,BA u->Bd alw 3 ⟨true,u,[]⟩=true->l=[⟨true,u,[]⟩]->(IN base (some (d,h,x))).2=d->
     (∀b∈l,Bd alw 3 b=true/\BA b.url)/\(∀c∈FH 3 l (IN base (some (d,h,x))).2,BR c=false)/\Am 3 base (FH 3 l (IN base (some (d,h,x))).2)=(l,(IN base (some (d,h,x))).2):=by
    intro u g j w z;rw[w,z];have n:FH 3 [⟨true,u,[]⟩] d=d++[59,32,117,114,108,61]++C6 u true:=rfl;rw[n];refine⟨λb hit=> ?_,?_,?_⟩
    ·grind
    ·intro c hc;rcases BL.1 hc with hc|hc
     ·rcases BL.1 hc with hc|hc
      ·exact ArL (E c hc)
      exact(show∀c∈([59,32,117,114,108,61]:A5),BR c=false by decide) c hc
     exact Vk g c hc
    have⟨c,r,hcr,hlt⟩:=Yh g;rw[e,hcr,AkR J E K hlt,<-hcr];show([D3 base _ []],d)=_;rw[VC g]
   cases h with
   |true=>
    have B:IN base (some (d,true,x))=([D3 base x []],d):=rfl;rw[B]at i o⊢;rw[EB]at i;split at i
    ·rename_i j;have f:=j;unfold Bd at f;grind[Ot]
    grind
   |false=>
    have B:IN base (some (d,false,x))=([⟨true,base,[]⟩],d):=rfl;rw[B]at i o⊢;rw[EB]at i;split at i
    ·grind
    grind
 have e:Am kind base s=([],[]):=by unfold Am;rw[AA D,AA G,AA C]
 grind
structure Wk(alw:AZ->Bool)(most:Int)(kind:Nat)(base:AZ)(raw W:A5)(l:List CH)(d:A5):Prop where
 kd:kind≠0
 text:FH kind l d=W
 ne:l≠[]
 good:∀it∈l,Bd alw kind it=true/\BA it.url
 clean:∀c∈W,BR c=false
 again:Am kind base W=(l,d)
 raw:¬most<(raw.length:Int)
 out:¬most<((C8 W).length:Int)
def K7(ins:Bool)(c:UInt8):Bool:=if c=41 then false else if c=40 then true else ins
def Ie(W:A5):List (A5):=if W=[]then[]else[W]
def wR:Bool->A5->A5->List (A5)×A5
 |_,W,[]=>(Ie W,[])|ins,W,c::r=>if(!ins&&BD c)=true then(if c=44 then(Ie W,r)else(Ie W++(wR false [] r).1,(wR false [] r).2))else wR (K7 ins c) (W++[c]) r
variable{a:Bool}{r:A5}
def Age(h:(!a&&BD c)=false):wR a W (c::r)=wR (K7 a c) (W++[c]) r:=by rw[wR,AA (by rw[h];decide)]
def Adf:wR false W (44::r)=(Ie W,r):=by rw[wR,AC AE,AC rfl]
def Ze(h:BD c=true)(a:c≠44):wR false W (c::r)=(Ie W++(wR false [] r).1,(wR false [] r).2):=by rw[wR,AC L4,AA a]
def n40(c:UInt8):((c:Int)==40)=decide (c=40):=by
 by_cases h:c=40
 ·simp_all
 rw[BO h];exact u8c.2 h
def n41(c:UInt8):((c:Int)!=41)=decide (c≠41):=by
 by_cases h:c=41
 ·subst h;decide
 rw[Bx h,JO];intro e;exact h (CM.1 (by show c.toNat=41;omega))
def AoK(h:(BP a c).1=true):(!a&&BD c)=false/\K7 a c=(BP a c).2:=by
 cases a
 ·by_cases b:c=40
  ·subst b;decide
  have e:BP false c=if BD c=true then(false,false)else(true,false):=by
   unfold BP;rw[AA AE,n40,BO b,AA AE]
  simp_all;cases hs:BD c
  ·refine⟨rfl,?_⟩;unfold K7;by_cases d:c=41
   ·grind
   grind
  grind
 have e:BP true c=(true,decide (c≠41)):=by
  unfold BP;rw[AC rfl,n41]
 refine⟨rfl,?_⟩;rw[e];unfold K7;by_cases d:c=41
 ·simp
 simp
def AgD(h:(BP a c).1=false):a=false/\BD c=true/\(BP a c).2=false:=by
 unfold BP at h⊢;cases a
 ·rw[AA AE]at h⊢;split at h
  ·cases h
  rename_i h40;rw[AA h40];split at h
  ·rename_i hs;rw[AC hs];exact⟨rfl,hs,rfl⟩
  ·cases h
 simp_all
def AiC:∀(l:A5)(a:Bool)(W:A5),wR a W l=wR (Bl BP a l).2.2 (W++(Bl BP a l).1) (Bl BP a l).2.1
 |[],a,W=>by rw[Bl];simp
 |c::r,a,W=>by
  cases h:(BP a c).1
  ·have⟨rfl,hs,h2⟩:=AgD h;rw[NH h,h2];simp
  have⟨h1,h2⟩:=AoK h;rw[OI h,Age h1,h2,AiC r (BP a c).2 (W++[c])];simp
def Air:∀(st:Bool)(l:A5),(Bl BP st l).2.1≠[]->(Bl BP st l).2.2=false
 |st,[],h=>absurd rfl h
 |st,c::r,h=>by
  cases hw:(BP st c).1
  ·rw[NH hw];exact(AgD hw).2.2
  rw[OI hw]at h⊢;exact Air _ r h
def AgV:∀(l:A5),wR false [] l=wR false [] (l.dropWhile BX)
 |[]=>rfl
 |c::r=>by
  rw[EF];cases hb:BX c
  ·simp_all
  rw[AC rfl];have b:BD c=true:=by unfold BD;rw[hb];exact NY _
  have a:c≠44:=by rintro rfl;exact absurd hb AE
  rw[Ze b a,<-AgV r];rfl
def Asc{b:UInt8}(X:A5)(h:BX b=true):Cz (b::X)=Cz X:=by
 rw[Lt,Lt X,EF,AC h]
def Tz{b:UInt8}(h:BD b=true):b=44\/BX b=true:=by
 unfold BD at h;rw[Gd]at h;rcases h with h|h
 ·exact .inl (CM.1 (by rw[CW]at h;show b.toNat=44;omega))
 simp_all
def AqC:∀(n:Nat)(l:A5),l.length<=n->wR false [] l=((Cz l).1,(Cz l).2.drop 1):=by
 intro n;induction n with
 |zero=>
  intro l k;obtain rfl:l=[]:=EP A4;rfl
 |succ n ih=>
  intro l k;have p:=GL BX l;rw[AgV,AiC];have i:=YC false (l.dropWhile BX);have j:=Air false (l.dropWhile BX);have o:=PA BP false (l.dropWhile BX);have q:=T0 BP false (l.dropWhile BX);rw[Lt];have s:∀{c r},l.dropWhile BX=c::r->BX c=false:=λh=>JI BX l h;generalize l.dropWhile BX=D at *;generalize(Bl BP false D).1=a at *;generalize(Bl BP false D).2.2=st at *;generalize(Bl BP false D).2.1=R at *
  by_cases f:a=[]
  ·subst f;obtain rfl:R=D:=by simp_all
   rcases i with rfl|⟨b,X,rfl,e⟩
   ·rfl
   obtain rfl:=j AN;rcases Tz e with rfl|d
   ·rfl
   grind
  rw[AA f];rcases i with rfl|⟨b,X,rfl,e⟩
  ·rw[wR,Do];unfold Ie;rw[AA f];rfl
  obtain rfl:=j AN;rcases Tz e with rfl|d
  ·rw[Do,Adf];unfold Ie;rw[AA f];rfl
  have g:b≠44:=by rintro rfl;exact absurd d AE
  have m:X.length<=n:=by
   simp only[BC]at o;omega
  rw[Do,Ze e g,ih X m,Asc X d];unfold Ie;grind
def Akt(s:A9)(w:A7)(e:Ag)(w':A7):Prop:=
 ∃pa n c l R,e=.returned (.tuple #[.slice pa n c,.string R])/\l.length=n/\n<=s.size/\Hid (pa=none->c=0)/\Hid (l.map (·.toList)=(Cz s).1)/\Hid (R.toList=(Cz s).2.drop 1)/\OwnS w' w 9 (.slice pa n c) l/\AF w w w'
variable{w:A7}
def VB{s:A9}{w':A7}{v:AJ}{l:List A9}{R:A9}(a:OwnS w' w 9 v l)(k:AF w w w')(j:l.length<=s.size)(h1:l.map (·.toList)=(wR false [] s.toList).1)(b:R.toList=(wR false [] s.toList).2):Akt s w (.returned (.tuple #[v,.string R])) w':=by
 rw[AqC _ _ (AG _)]at h1 b;have d:∃pa c,v=.slice pa l.length c/\(pa=none->c=0):=by
  rcases a.2 with⟨rfl,i⟩|⟨g,f,e,rfl,-⟩
  ·exact⟨none,0,by rw[i],λ_=>rfl⟩
  exact⟨_,_,rfl,λh=>C5⟩
 obtain⟨pa,c,rfl,m⟩:=d;exact⟨pa,_,c,l,R,rfl,rfl,j,H0 m,H0 h1,H0 b,a,k⟩
def Ap0(s:A9)(k:Nat)(h:k<s.size):(s.toList.take (k+1)).drop k=[s[k]]:=by
 have a:(s.toList.take k).length=k:=M2;have:=List.drop_left (l₁:=s.toList.take k) (l₂:=[s[k]]);rw[a]at this;rw[DX s k h];exact this
def AmR(s:A9)(w:A7)(X:s.size<=900000000):AD A8 129 #[.string s] w (Akt s w):=by
 go_in;go_wp2;go_loopw[4,5,6,7] (λS wv T iv wr=>∃(k:Nat)(W:A9)(d:Bool)(l:List A9),iv=.int .i64 k/\wv=.string W/\T=.bool d/\k<=s.size/\l.length+W.size<=k/\Hid (wR false [] s.toList=(l.map (·.toList)++(wR d W (s.toList.drop k)).1,(wR d W (s.toList.drop k)).2))/\OwnS wr w 9 S l/\AF w w wr) (λ_ _ _ i _=>s.size-(intOf i).toNat)
 ·exact⟨0,⟨#[]⟩,false,[],rfl,rfl,rfl,AR _,AG _,H0 (by rw[show(ByteArray.mk #[]).toList=[]from toList_mk []];rfl),OwnS.nil _ _ _,AU _ _⟩
 obtain⟨k,W,d,l,rfl,rfl,rfl,V,U,b,j,f⟩:=hrel;have K:=f.size;by_cases D:k<s.size
 ·have O:=Aw s k D;obtain⟨c,hc⟩:=AI (s[k]);rw[O,hc]at b;have M:(s.extract k (k+1)).toList=[c]:=by rw[toList_extract,hc.symm];exact Ap0 s k D
  have y:(W++s.extract k (k+1)).toList=W.toList++[c]:=by rw[toList_append,M]
  have A:l.length+(W++s.extract k (k+1)).size<=k+1:=by
   rw[<-AK,y,Aa,AK];show l.length+(W.size+1)<=_;omega
  clear O M;cases o:(!d&&BD c)
  ·have B:=A6 (wR false [] s.toList=(l.map (·.toList)++(wR (K7 d c) (W++s.extract k (k+1)).toList (s.toList.drop (k+1))).1,(wR (K7 d c) (W++s.extract k (k+1)).toList (s.toList.drop (k+1))).2)) (by
    rw[b.out,Age o,y])
   have H:(d=true\/(d=false/\CL (c:Int)=false/\((c:Int)==44)=false))/\((((c:Int)==40)=true/\((c:Int)==41)=false/\K7 d c=true)\/(((c:Int)==40)=false/\((c:Int)==41)=true/\K7 d c=false)\/(((c:Int)==40)=false/\((c:Int)==41)=false/\K7 d c=d)):=by
    refine⟨?_,?_⟩
    ·cases d
     ·right;have I:BD c=false:=by simpa using o
      unfold BD BX at I;rw[J1]at I;exact⟨rfl,I.2,I.1⟩
     exact .inl rfl
    unfold K7;by_cases n:c=40
    ·subst n;exact .inl ⟨rfl,rfl,rfl⟩
    by_cases p:c=41
    ·subst p;exact .inr (.inl ⟨rfl,rfl,rfl⟩)
    exact .inr (.inr ⟨u8c.2 n,u8c.2 p,by rw[AA p,AA n]⟩)
   change Hid _ at y o b;have⟨hw1,hw2⟩:=H;rw[<-hc]at hw1 hw2;replace hc:=H0 hc;rcases hw1 with rfl|⟨rfl,b1,b2⟩;all_goals
    rcases hw2 with⟨n,p,C⟩|⟨n,p,C⟩|⟨n,p,C⟩;all_goals
     rw[hc.out]at C;rw[C]at B;replace C:=H0 C;go_wp2_with(first|(go_call Hs;refine AH ?_;rw[b1]));go_roundw;exact⟨k+1,_,_,l,AP,rfl,rfl,A4,A,B,j,f⟩;exact AzF
  obtain⟨rfl,F⟩:d=false/\BD c=true:=by simpa using o
  clear y A;have z:(W.toList=[]/\(!W.toList.isEmpty)=false/\W.toList.isEmpty=true)\/(W.toList≠[]/\(!W.toList.isEmpty)=true/\W.toList.isEmpty=false):=by
   exact AfE
  replace o:=H0 o;by_cases q:c=44
  ·subst q;have Q:((s[k].toNat:Int)==44)=true:=by rw[hc];rfl
   have P:CL (s[k].toNat:Int)=false:=by rw[hc];rfl
   have J:(s.extract (k+1) s.size).toList=s.toList.drop (k+1):=by rw[J2]
   have g:=b.out;rw[Adf]at g;dsimp only at g;change Hid _ at hc b J;rcases z with⟨m,t,u⟩|⟨m,t,u⟩
   ·have h1:l.map (·.toList)=(wR false [] s.toList).1:=by rw[g];unfold Ie;rw[AC m,Bq]
    have v:(s.extract (k+1) s.size).toList=(wR false [] s.toList).2:=by rw[g,J.out]
    change Hid _ at h1 v g m;go_wp2_with(first|(go_call Hs;refine AH ?_;rw[P]));go_quiet(fail);go_wp2;go_ret2;exact VB (by exact j) (Ey f _) A4 h1 v
   have h1:(l++[W]).map (·.toList)=(wR false [] s.toList).1:=by rw[g];unfold Ie;rw[AA m,Dx];rfl
   have v:(s.extract (k+1) s.size).toList=(wR false [] s.toList).2:=by rw[g,J.out]
   change Hid _ at h1 v g m;go_wp2_with(first|(go_call Hs;refine AH ?_;rw[P])|(at_builtin;refine LH Es rfl _ _ rfl rfl rfl j f K C1 A4 ?_;intro L N x E _));go_quiet(fail);go_wp2;go_ret2;exact VB (by exact x) (Ey E _) W5 h1 v
  have G:CL (s[k].toNat:Int)=true:=by
   rw[hc];rcases Tz F with h|h
   ·exact absurd h q
   exact h
  have Q:((s[k].toNat:Int)==44)=false:=by rw[hc];exact u8c.2 q
  have g:=b.out;rw[Ze F q]at g;dsimp only at g;change Hid _ at hc q b;rcases z with⟨m,t,u⟩|⟨m,t,u⟩
  ·have B:=A6 (wR false [] s.toList=(l.map (·.toList)++(wR false (ByteArray.mk #[]).toList (s.toList.drop (k+1))).1,(wR false (ByteArray.mk #[]).toList (s.toList.drop (k+1))).2)) (by
    rw[g,show(ByteArray.mk #[]).toList=[]from toList_mk []];unfold Ie;rw[AC m,Do])
   change Hid _ at g m;go_wp2_with(first|(go_call Hs;refine AH ?_;rw[G]));go_roundw;exact⟨k+1,_,_,l,AP,rfl,rfl,A4,by show l.length+0<=_;omega,B,j,f⟩;exact AzF
  have B:=A6 (wR false [] s.toList=((l++[W]).map (·.toList)++(wR false (ByteArray.mk #[]).toList (s.toList.drop (k+1))).1,(wR false (ByteArray.mk #[]).toList (s.toList.drop (k+1))).2)) (by
   rw[g,show(ByteArray.mk #[]).toList=[]from toList_mk []];unfold Ie;rw[AA m,Dx,CQ];rfl)
  change Hid _ at g m;go_wp2_with(first|(go_call Hs;refine AH ?_;rw[G])|(at_builtin;refine LH Es rfl _ _ rfl rfl rfl j f K C1 A4 ?_;intro L N x E _));go_roundw;exact⟨k+1,_,_,l++[W],AP,rfl,rfl,A4,by rw[Aa];show l.length+1+0<=_;omega,B,x,E⟩;exact AzF
 have g:=b.out;rw[CP s k A4,wR]at g;dsimp only at g;replace b:=H0 b;have z:(W.toList=[]/\(!W.toList.isEmpty)=false/\W.toList.isEmpty=true)\/(W.toList≠[]/\(!W.toList.isEmpty)=true/\W.toList.isEmpty=false):=by
  exact AfE
 rcases z with⟨m,t,u⟩|⟨m,t,u⟩
 ·have h1:l.map (·.toList)=(wR false [] s.toList).1:=by rw[g];unfold Ie;rw[AC m,Bq]
  have v:(ByteArray.mk #[]).toList=(wR false [] s.toList).2:=by rw[g];exact toList_mk []
  change Hid _ at h1 v g m;go_wp2;go_ret2;exact VB j f A4 h1 v
 have h1:(l++[W]).map (·.toList)=(wR false [] s.toList).1:=by rw[g];unfold Ie;rw[AA m,Dx];rfl
 have v:(ByteArray.mk #[]).toList=(wR false [] s.toList).2:=by rw[g];exact toList_mk []
 have R:l.length+1<=s.size:=by
  have:0<W.toList.length:=FV.2 m;exact KN
 change Hid _ at h1 v g m;go_wp2_with(at_builtin;refine LH Es rfl _ _ rfl rfl rfl j f K C1 A4 ?_;intro L N x E _);go_ret2;exact VB x E W5 h1 v
def Ln:AJ->Nat
 | .string t=>t.size|_=>0
def Aqu(L:A5):FO (L++[44])=FO L:=by
 unfold FO;rw[SM];show((44::L.reverse).dropWhile (λc=>c==44)).reverse=_;rw[EF,AC AE]
def AxL{L:A5}(h:L.getLast?≠some 44):FO L=L:=by
 rcases List.eq_nil_or_concat L with rfl|⟨M,d,rfl⟩
 ·rfl
 rw[List.concat_eq_append]at h⊢;unfold FO;rw[SM];show((d::M.reverse).dropWhile (λc=>c==44)).reverse=_;have a:d≠44:=by rintro rfl;exact h (RD M 44)
 rw[EF,AA (by simpa using a)];simp
def Ap4(h:c≠44):FO (c::r)≠[]:=by
 intro e;have⟨t,h1,h2,_⟩:=YU (c::r);rw[e,Do]at h1;exact h (h2 c (by rw[<-h1];exact CC ..))
def Ab3(U:A9)(h:0<U.size):U.toList=(U.extract 0 (U.size-1)).toList++[U[U.size-1]]:=by
 have h1:=DX U (U.size-1) A4;rw[Bc Dy]at h1;rw[toList_extract];exact h1
def AwS{p:UInt8->Bool}:∀(l:A5)(k:Nat),(∀c∈l.take k,p c=true)->(l.drop k=[]\/∃c r,l.drop k=c::r/\p c=false)->l.takeWhile p=l.take k/\l.dropWhile p=l.drop k:=by
 intro l k h1 a;have⟨t1,t2⟩:=Vd (l.take k) (l.drop k) h1;rw[F7]at t1 t2;rcases a with a|⟨c,r,a,hc⟩
 ·rw[t1,t2,a];simp
 rw[t1,t2,a,IS,EF,AA (by rw[hc];decide),AA (by rw[hc];decide)];simp
def AcT(h:BS c=true):CL (c:Int)=false:=by
 unfold BS BX at h;simpa using h
def AyP(s:A9)(w:A7)(hz:s.size<=900000000):AD A8 74 #[.string s] w (Abk s w):=by
 go_in;go_wp2_with fail;go_loopw[0,3] (λV ov wr=>∃(S:A9)(l:List GK),V=.string S/\l.length+S.size<=s.size/\Hid (BW s.toList=l.map Hv++BW S)/\Hid (∀c∈l,c.url.size<=s.size/\(∀x∈c.ws,x.size<=1000000000)/\c.ws.length<=1000000000)/\EJ wr w ov l/\AF w w wr) (λV _ _=>Ln V)
 ·exact⟨s,[],rfl,by show 0+s.size<=_;omega,H0 AN,H0 (λc hc=>by cases hc),EJ.nil _ _,AU _ _⟩
 obtain⟨S,l,rfl,hSz,F,aP,v,hB⟩:=hrel;go_wp2_with fail;go_loop[0] (λV=>∃a:A9,V=.string a/\a.size<=S.size/\Hid (a.toList.dropWhile BD=S.toList.dropWhile BD)) (λV=>Ln V)
 ·exact⟨S,rfl,AG _,H0 rfl⟩
 obtain⟨a,rfl,hz1,bZ⟩:=hrel;by_cases h0:0<a.size;rotate_left
 ·have e:a.toList=[]:=(EW a).2 A4;have aD:=A6 (l.map Hv=BW s) (by
   rw[F.out,Lq,<-bZ.out,e];simp)
  have hem:a.toList.isEmpty=true:=NI;have xM:(a.toList==[])=true:=NI;replace e:=H0 e;go_wp2_with fail;go_ret;exact⟨_,l,rfl,aD,A4,aP,v,hB⟩
 have A:=Aw a 0 h0;rw[C9]at A;have hem:a.toList.isEmpty=false:=by rw[A];rfl
 have hne:(!a.toList.isEmpty)=true:=by rw[A];rfl
 have xM:(a.toList==[])=false:=by rw[A];rfl
 have z1:1<=(a.size:Int):=A4;have z2:1<=a.size:=h0;cases o:BD a[0];rotate_left
 ·have Z:(a.extract 1 a.size).toList=a.toList.drop 1:=by rw[J2]
  have aC:=A6 ((a.extract 1 a.size).toList.dropWhile BD=S.toList.dropWhile BD) (by
   rw[Z,<-bZ.out,A,EF,AC o];rfl)
  have hRz:(a.extract 1 a.size).size<a.size:=Bk;have D:CL (a[0].toNat:Int)=true\/(CL (a[0].toNat:Int)=false/\((a[0].toNat:Int)==44)=true):=by
   rcases Tz o with h|h
   ·exact .inr ⟨L4,L4⟩
   exact .inl h
  replace Z:=H0 Z;replace A:=H0 A;replace o:=H0 o;rcases D with G|⟨G,n⟩;all_goals
   go_wp2_with(go_at_call 128;refine(Hs _ _).mono (AH ?_);rw[G]);go_round;exact⟨_,rfl,A4,aC⟩;simp only[Ln];exact hRz
 have B:=Ow o;have G:=AcT B;have pL:a[0]≠44:=by intro h;rw[h]at o;cases o
 have n:((a[0].toNat:Int)==44)=false:=u8c.2 pL;have aJ:=A6 (BW s.toList=l.map Hv++(GM (C3 a).1++BW (C3 a).2)) (by
  have e2:a.toList.dropWhile BD=a.toList:=by rw[A,EF,AA (by rw[o];decide)]
  rw[F.out,Lq S,<-bZ.out,e2,AA (by rw[A];simp)])
 replace A:=H0 A;replace o:=H0 o;replace pL:=H0 pL;clear F bZ;go_wp2_with(go_at_call 128;refine(Hs _ _).mono (AH ?_);rw[G]);clear G n;go_loop[4] (λnv=>∃k:Nat,nv=.int .i64 k/\k<=a.size/\Hid (∀c∈a.toList.take k,BS c=true)) (λnv=>a.size-(intOf nv).toNat)
 ·exact⟨0,rfl,AR _,H0 (by intro c hc;simp at hc)⟩
 obtain⟨k,rfl,z,C⟩:=hrel;by_cases E:∃h:k<a.size,BS a[k]=true
 ·obtain⟨p,G⟩:=E;have jZ:(k:Int)<a.size:=A4;have hb2:=AcT G;have aC:=A6 (∀c∈a.toList.take (k+1),BS c=true) (by
   rw[DX a k p];intro c hc;rcases BL.1 hc with hc|hc
   ·exact C.out c hc
   rw[CO.1 hc];exact G)
  replace G:=H0 G;go_wp2_with(go_at_call 128;refine(Hs _ _).mono (AH ?_);rw[hb2]);exact JT
 have nC:1<=k:=by
  by_cases h:k=0
  ·exfalso;subst h;exact E ⟨h0,B⟩
  omega
 have u:a.toList.drop k=[]\/∃c r,a.toList.drop k=c::r/\BS c=false:=by
  by_cases p:k<a.size
  ·refine .inr ⟨_,_,Aw a k p,?_⟩;cases h:BS a[k]
   ·rfl
   exact absurd ⟨p,h⟩ E
  exact .inl (CP a k A4)
 obtain⟨t1,t2⟩:=AwS a k C u;have D:((a.size:Int)<=k)\/∃h:k<a.size,(k:Int)<a.size/\CL (a[k].toNat:Int)=true:=by
  by_cases p:k<a.size
  ·refine .inr ⟨p,A4,?_⟩;cases h:CL (a[k].toNat:Int)
   ·exact absurd ⟨p,by unfold BS BX;rw[h];rfl⟩ E
   rfl
  exact .inl A4
 obtain⟨U,hU⟩:=AI (a.extract 0 k);obtain⟨y,tN⟩:=AI (a.extract k a.size);have L:=A6 (U.toList=a.toList.takeWhile BS) (by rw[<-hU,toList_extract,t1,C9]);have K:=A6 (y.toList=a.toList.dropWhile BS) (by rw[<-tN,J2,t2]);have vX:U.size=k:=by rw[<-hU,Lc];omega
 have hS2z:y.size+k<=a.size:=by rw[<-tN,Lc];omega
 have hkI1:1<=(k:Int):=A4;have hkI2:(k:Int)<=900000000:=A4;have hkI3:(k:Int)<=a.size:=A4;have hUhd:=A6 (∃r,U.toList=a[0]::r) (by
  rw[L.out,A.out,IS,AC B];exact⟨_,rfl⟩)
 have hk2:k-1<U.size:=A4;obtain⟨d,hd⟩:=AI (U[k-1]);have rT:=A6 (U.toList=(U.extract 0 (k-1)).toList++[d]) (by
  have h:=Ab3 U A4;subst vX;rw[hd]at h;exact h)
 replace hU:=H0 hU;replace tN:=H0 tN;replace vX:=H0 vX;replace B:=H0 B;replace u:=H0 u;replace C:=H0 C;replace hd:=H0 hd;clear E t1 t2 C u;rcases D with q1|⟨p,q1,q2⟩;all_goals
  go_upto_region 9 with(go_at_call 128;refine(Hs _ _).mono (AH ?_);rw[q2]);go_upto_region 11 with fail;rw[hU.out,tN.out];have hUs2:=vX.out;by_cases n:d=44
  ·have e44:((U[k-1].toNat:Int)==44)=true:=by rw[hd.out];exact u8c.1 n
   have bN:=A6 (C3 a.toList=((FO U,[]),y.toList)) (by
    unfold C3;rw[<-L.out,<-K.out,AC (by rw[rT.out,n];exact RD _ _)])
   replace n:=H0 n;go_wp2_with fail;go_loop[5] (λuv=>∃b:A9,uv=.string b/\b.size<=U.size/\Hid (FO b.toList=FO U)) (λuv=>Ln uv)
   ·exact⟨U,rfl,AG _,H0 rfl⟩
   obtain⟨b,rfl,hu1,H⟩:=hrel;have W:0<b.size:=by
    by_cases h:0<b.size
    ·exact h
    exfalso;have e:b.toList=[]:=(EW b).2 A4;obtain⟨r,hr⟩:=hUhd.out;have h2:=H.out;rw[e,hr]at h2;exact Ap4 pL h2.symm
   have hem1:b.toList.isEmpty=false:=by rw[FZ b W];rfl
   have hne1:(!b.toList.isEmpty)=true:=by rw[FZ b W];rfl
   have zu1:1<=(b.size:Int):=A4;have zu2:b.size<=900000000:=A4;have Y:=Ab3 b W;by_cases J:b[b.size-1]=44
   ·have eq1:((b[b.size-1].toNat:Int)==44)=true:=u8c.1 J;have aC:=A6 (FO (b.extract 0 (b.size-1)).toList=FO U) (by
     rw[<-H.out,Y,J,Aqu])
    have pY:(b.extract 0 (b.size-1)).size<b.size:=Bk;replace J:=H0 J;replace Y:=H0 Y;go_wp2_with fail;go_round;exact⟨_,rfl,A4,aC⟩;simp only[Ln];exact pY
   have eq1:((b[b.size-1].toNat:Int)==44)=false:=u8c.2 J;have zV:b.toList=FO U.toList:=by
    rw[<-H.out,AxL];rw[Y];intro e;rw[RD]at e;exact J (Cm e)
   have lK:=A6 (C3 a.toList=((b.toList,([]:List A9).map (·.toList)),y.toList)) (by rw[bN.out,zV];rfl);have uH:b.size<=s.size:=A4;have hNz:y.size<a.size:=A4;replace J:=H0 J;replace Y:=H0 Y;replace zV:=H0 zV;clear H bN;go_wp2_with fail;refine(Ahq none 0 0 ([]:List A9) wr ⟨none,0,rfl,λh=>C5⟩ rfl (λ_=>rfl) (λx hx=>by cases hx) (AR _)).mono ?_;rintro e g (⟨q,rfl,f⟩|⟨st,wv,q,rfl,O,f⟩)
   ·have aC:=A6 (BW s.toList=l.map Hv++BW y) (by
     rw[aJ.out,lK.out];unfold GM;dsimp only;rw[q.out];rfl)
    have t:AF wr wr (g.alloc (.cells (Af e0 DJ d0) 109)):=f.alloc f.size _;have N:=v.below t;have T:=hB.next t;clear f t;go_wp2_with(refine Ov rfl 109 _ _ rfl rfl (Af e0 DJ d0) 109 _ _ rfl rfl rfl (Kz _ _ _) rfl (Nq _ _ _ _ _) ?_);go_roundw;exact⟨_,l,rfl,A4,aC,aP,N,T⟩;simp only[Ln];omega
   have aC:=A6 (BW s.toList=(l++[GK.mk b wv ([]:List A9) st]).map Hv++BW y) (by
    rw[aJ.out,lK.out];unfold GM;dsimp only;rw[q.out,Dx,CQ];rfl)
   obtain⟨i,j,rfl,-⟩:=O.read;have P:(g.alloc (.cells (Af e0 (.slice i ([]:List A9).length j) st) 109)).heap[g.heap.size]?=some (.cells (Af e0 (.slice i ([]:List A9).length j) st) 109 (0,0)):=CB _ _;have y0:=BV _ _ 0 _ _ _ P;have f0:=G4 _ _ 0 _ _ P;simp only[Af,GB,Ho,KB]at y0;change World.cell? (g.alloc (.cells (Af e0 (.slice i ([]:List A9).length j) st) 109)) _=_ at y0;have M:(g.alloc (.cells (Af b (.slice i ([]:List A9).length j) st) 109)).heap[g.heap.size]?=some (.cells (Af b (.slice i ([]:List A9).length j) st) 109 (0,0)):=CB _ _;have I:∀k,k<g.heap.size->(g.alloc (.cells (Af b (.slice i ([]:List A9).length j) st) 109)).heap[k]?=g.heap[k]? :=λk z=>Na _ _ z;have lsz:=f.size;have lsw:=hB.size;have N:EJ (g.alloc (.cells (Af b (.slice i ([]:List A9).length j) st) 109)) w.heap.size _ l:=v.chg (λk _ z=>(I k A4).trans (f.block k z));have sX:OwnS (g.alloc (.cells (Af b (.slice i ([]:List A9).length j) st) 109)) w.heap.size 9 (.slice i ([]:List A9).length j) ([]:List A9):=(O.chg (λk _ z=>I k z)).low A4;have T:AF w w (g.alloc (.cells (Af b (.slice i ([]:List A9).length j) st) 109)):=(hB.next f).alloc A4 _;have X:(g.alloc (.cells (Af b (.slice i ([]:List A9).length j) st) 109)).heap.size=g.heap.size+1:=AN;replace M:=H0 M;replace I:=H0 I;replace X:=H0 X;clear f O P;go_wp2_with(first|(refine Ov rfl 109 _ _ rfl rfl (Af e0 (.slice i ([]:List A9).length j) st) 109 _ _ rfl rfl rfl (Kz _ _ _) rfl (Nq _ _ _ _ _) ?_)|(refine Cg (w:=(g.alloc (.cells (Af b (.slice i ([]:List A9).length j) st) 109))) rfl 109 _ rfl g rfl _ (Af b (.slice i ([]:List A9).length j) st) _ _ M underlying109 rfl (Kz _ _ _) ?_)|(refine Wc rfl _ rfl b (.slice i ([]:List A9).length j) st rfl ?_)|(refine Zz rfl _ _ rfl (GK.mk b (.slice i ([]:List A9).length j) ([]:List A9) st) rfl BE N sX (AU w _) (by rw[X.out];omega) A4 ?_;intro v' w8 iK eD));go_roundw
   ·refine⟨_,_,rfl,?_,aC,H0 ?_,iK,T.trans eD⟩
    ·rw[Aa];show l.length+1+_<=_;omega
    intro c hc;rcases BL.1 hc with hc|hc
    ·exact aP.out c hc
    rw[CO.1 hc];exact⟨uH,(λx hx=>by cases hx),(AR _)⟩
   simp only[Ln];omega
  have e44:((U[k-1].toNat:Int)==44)=false:=by rw[hd.out];exact u8c.2 n
  have bN:=A6 (C3 a.toList=((U.toList,(Cz y).1),(Cz y).2.drop 1)) (by
   unfold C3;rw[<-L.out,<-K.out,AA (by rw[rT.out,RD];exactλe=>n (Cm e))])
  replace n:=H0 n;go_wp2_with fail;refine(AmR y wr A4).mono ?_;rintro e w3⟨pv,nv,cv,m,R,rfl,hwn,hwz0,Q,oM,Z,uX,hb3⟩;subst hwn;have lK:=A6 (C3 a.toList=((U.toList,m.map (·.toList)),R.toList)) (by rw[bN.out,<-oM.out,<-Z.out]);have uH:U.size<=s.size:=A4;have hRz:R.size<=y.size:=by
   rw[<-AK,Z.out,C7];have:=ZU _ y (AG _);rw[AK]at this;omega
  have hNz:R.size<a.size:=A4;have hwz:∀x∈m,x.size<=1000000000:=by
   intro x hx;have h1:x.toList∈(Cz y).1:=by rw[<-oM.out];exact OZ hx
   have h2:=AdO _ _ (AG _) _ h1;rw[AK,AK]at h2;omega
  have fO:m.length<=1000000000:=A4;have kY:=uX.read;have vQ:=v.below hb3;have o7:=hB.next hb3;clear bN uX;go_wp2_with fail;refine(Ahq pv m.length cv m w3 kY rfl Q hwz fO).mono ?_;rintro e g (⟨q,rfl,f⟩|⟨st,wv,q,rfl,O,f⟩)
  ·have aC:=A6 (BW s.toList=l.map Hv++BW R) (by
    rw[aJ.out,lK.out];unfold GM;dsimp only;rw[q.out];rfl)
   have t:AF w3 w3 (g.alloc (.cells (Af e0 DJ d0) 109)):=f.alloc f.size _;have N:=vQ.below t;have T:=o7.next t;clear f t;go_wp2_with(refine Ov rfl 109 _ _ rfl rfl (Af e0 DJ d0) 109 _ _ rfl rfl rfl (Kz _ _ _) rfl (Nq _ _ _ _ _) ?_);go_roundw;exact⟨_,l,rfl,A4,aC,aP,N,T⟩;simp only[Ln];omega
  have aC:=A6 (BW s.toList=(l++[GK.mk U wv m st]).map Hv++BW R) (by
   rw[aJ.out,lK.out];unfold GM;dsimp only;rw[q.out,Dx,CQ];rfl)
  obtain⟨i,j,rfl,-⟩:=O.read;have P:(g.alloc (.cells (Af e0 (.slice i m.length j) st) 109)).heap[g.heap.size]?=some (.cells (Af e0 (.slice i m.length j) st) 109 (0,0)):=CB _ _;have y0:=BV _ _ 0 _ _ _ P;have f0:=G4 _ _ 0 _ _ P;simp only[Af,GB,Ho,KB]at y0;change World.cell? (g.alloc (.cells (Af e0 (.slice i m.length j) st) 109)) _=_ at y0;have M:(g.alloc (.cells (Af U (.slice i m.length j) st) 109)).heap[g.heap.size]?=some (.cells (Af U (.slice i m.length j) st) 109 (0,0)):=CB _ _;have I:∀k,k<g.heap.size->(g.alloc (.cells (Af U (.slice i m.length j) st) 109)).heap[k]?=g.heap[k]? :=λk z=>Na _ _ z;have lsz:=f.size;have lsw:=o7.size;have N:EJ (g.alloc (.cells (Af U (.slice i m.length j) st) 109)) w.heap.size _ l:=vQ.chg (λk _ z=>(I k A4).trans (f.block k z));have sX:OwnS (g.alloc (.cells (Af U (.slice i m.length j) st) 109)) w.heap.size 9 (.slice i m.length j) m:=(O.chg (λk _ z=>I k z)).low A4;have T:AF w w (g.alloc (.cells (Af U (.slice i m.length j) st) 109)):=(o7.next f).alloc A4 _;have X:(g.alloc (.cells (Af U (.slice i m.length j) st) 109)).heap.size=g.heap.size+1:=AN;replace M:=H0 M;replace I:=H0 I;replace X:=H0 X;clear f O P;go_wp2_with(first|(refine Ov rfl 109 _ _ rfl rfl (Af e0 (.slice i m.length j) st) 109 _ _ rfl rfl rfl (Kz _ _ _) rfl (Nq _ _ _ _ _) ?_)|(refine Cg (w:=(g.alloc (.cells (Af U (.slice i m.length j) st) 109))) rfl 109 _ rfl g rfl _ (Af U (.slice i m.length j) st) _ _ M underlying109 rfl (Kz _ _ _) ?_)|(refine Wc rfl _ rfl U (.slice i m.length j) st rfl ?_)|(refine Zz rfl _ _ rfl (GK.mk U (.slice i m.length j) m st) rfl BE N sX (AU w _) (by rw[X.out];omega) A4 ?_;intro v' w8 iK eD));go_roundw
  ·refine⟨_,_,rfl,?_,aC,H0 ?_,iK,T.trans eD⟩
   ·rw[Aa];show l.length+1+_<=_;omega
   intro c hc;rcases BL.1 hc with hc|hc
   ·exact aP.out c hc
   rw[CO.1 hc];exact⟨uH,hwz,fO⟩
  simp only[Ln];omega
def AvN(pa:Option Addr)(n c:Nat)(W:A5)(w:A7)(h:Fq w pa n c (C8 W))(A:0<n)(C:n<=1000000000)(p:∀x∈W,BR x=false):AD A8 31 #[.slice pa n c] w (Bi w W):=by
 have g:=Ar6 p;have a:=Et.2 λx hx=>(Aed (g x hx)).2;have o:=h.len;have B:=H0 (Amm pa n c (C8 W) w h A a C);have m:∀x∈C8 W,x≠0:=λx hx=>(Aed (g x hx)).1;change Hid _ at m o;clear h a g p;go_in;go_wp2_with fail;refine B.out.mono ?_;rintro e z⟨s,rfl,d,j⟩;have H:s.size<=1000000000:=by rw[<-AK,d.out];have:=o.out;omega
 go_wp2;go_loopw[4,5] (λv4 v5 wr=>∃(i:Nat)(t:A9),v4=.string t/\v5=.int .i64 (i:Int)/\i<=s.size/\Hid (t.toList=s.toList.take i)/\wr=z) (λ_ v5 _=>s.size-(intOf v5).toNat)
 ·exact⟨0,⟨#[]⟩,rfl,rfl,AR _,H0 (toList_mk []),rfl⟩
 obtain⟨i,t,rfl,rfl,F,f,rfl⟩:=hrel;have y:t.size<=s.size:=by rw[<-AK,f.out,Cl,AK];omega
 by_cases b:i<s.size
 ·have r:s[i]∈C8 W:=by
   rw[<-d.out];have:=Aw s i b;have D:s[i]∈s.toList.drop i:=by rw[this];exact CC ..
   exact List.mem_of_mem_drop D
  have q:((s[i].toNat:Int)==0)=false:=by
   rw[B6];intro e;exact m.out _ r (CM.1 (by show s[i].toNat=0;omega))
  have hx:(s.extract i (i+1)).toList=[s[i]]:=by
   rw[Tl s i i (AG _) b,PH];rfl
  have E:(s.extract i (i+1)).size=1:=Bk;have l:=A6 ((t++s.extract i (i+1)).toList=s.toList.take (i+1)) (by rw[toList_append,f.out,hx,DX s i b]);replace hx:=H0 hx;go_wp2;go_roundw
  ·exact⟨i+1,_,rfl,AP,A4,l,by first|rfl|trivial⟩
  simp[intOf];omega
 have hf:=A6 (t.toList=C8 W) (by rw[f.out,Fh s i A4,d.out]);have v:=H0 (AvX t W wr hf A4);go_wp2_with fail;refine v.out.mono ?_;rintro e G⟨u,rfl,hu,k⟩;go_wp2;go_ret;exact Be hu (j.next k)
def Lh(l:A5):List Int:=l.map λc=>(c.toNat:Int)
def Ak9(l:A5):Lib.bytesOf (Lh l)=l:=by
 unfold Lib.bytesOf Lh;rw[List.map_map]
 conv=>rhs;rw[<-List.map_id l]
 apply List.map_congr_left;intro c _;simp
def AbV(l:A5):(Lh l).length=l.length:=by simp[Lh]
def WO(l:A5)(i:Nat)(h:i<l.length):(Lh l).getD i 0=(l[i].toNat:Int):=by
 unfold Lh;rw[LS,GF,Cs h];rfl
structure Cv(w:A7)(pa:Option Addr)(n c:Nat)(l:A5):Prop extends Fq w pa n c l where
 nilC:pa=none->c=0
variable{pa:Option Addr}{n:Nat}
def Cv.below{w':A7}{K:Nat}{c:Nat}(h:Cv w pa n c l)(a:AF K w w')(b:w.heap.size<=K):Cv w' pa n c l:=⟨h.toFq.below a b,h.nilC⟩
def AdU(s:A9)(w:A7):∃(pa:Addr)(n c:Nat)(w':A7),(convert 9 25 (.string s)).run A8 w=.ok (.slice (some pa) n c) w'/\Cv w' (some pa) n c s.toList/\AF w w w':=by
 have h:=Lib.run_convert_string_bytes w 9 25 5 s underlying9 underlying25 underlying5;refine⟨_,_,_,_,h,⟨⟨AK s,grownCap_ge w s.size 0 _,λ_=>⟨w,0,rfl,λi a=> ?_⟩⟩,λh=>C5⟩,Below.bytesWorld (AU _ _) (AG _) _ s⟩;rw[Db];exact(IX.made w _ s).cell i a
def Cv.at{a:Addr}{c:Nat}(h:Cv w (some a) n c l):∀i,i<n->w.cell? (a.add i)=some (.int .u8 ((Lh l).getD i 0)):=λi d=>by
 have⟨g,o,e,hc⟩:=h.cells A4;cases e;have b:=h.len;rw[WO l i A4];have:=hc i A4;rw[show(⟨g,o,none⟩:Addr).add i=⟨g,o+i,none⟩by unfold Addr.add;split<;>simp_all,this];rfl
def Cv.nil0{c:Nat}(h:Cv w none n c l):n=0/\c=0/\l=[]:=by
 have b:n=0:=by
  by_cases a:0<n
  ·have⟨g,o,e,_⟩:=h.cells a;cases e
  omega
 have d:=h.len;exact⟨b,h.nilC rfl,EP A4⟩
def Ax8{c:Nat}{b2 b d:Nat}(w:A7)(h:Cv w pa n c l)(f:w.cell? ⟨b2,b,none⟩=some (.int .u8 0)):AD A8 164 #[.slice pa n c,.slice (some ⟨b2,b,none⟩) 1 d] w (AzJ (.int .i64 (Lib.indexByte l 0)) w):=by
 cases pa with
 |none=>
  obtain⟨rfl,rfl,rfl⟩:=h.nil0;go_call Tryz.bytes_Index_one_nil;refine AH ?_;exact⟨rfl,rfl⟩
 |some a=>
  go_call(Tryz.bytes_Index_one_at a n c b2 b d (Lh l) 0 w (by rw[AbV,h.len]) h.at f) as e w'⟨rfl,rfl⟩;rw[Ak9];exact⟨rfl,rfl⟩
def AhX{c:Nat}{b2 b d:Nat}(w:A7)(h:Cv w pa n c l)(f:w.cell? ⟨b2,b,none⟩=some (.int .u8 0)):AD A8 163 #[.slice pa n c,.slice (some ⟨b2,b,none⟩) 1 d] w (AzJ (.int .i64 ((l.count 0:Nat):Int)) w):=by
 cases pa with
 |none=>
  obtain⟨rfl,rfl,rfl⟩:=h.nil0;go_call Tryz.bytes_Count_one_nil;refine AH ?_;exact⟨rfl,rfl⟩
 |some a=>
  go_call(Tryz.bytes_Count_one_at a n c b2 b d (Lh l) 0 w (by rw[AbV,h.len]) h.at f) as e w'⟨rfl,rfl⟩;rw[Ak9];exact⟨rfl,rfl⟩
def Cv.drop{c:Nat}(h:Cv w pa n c l)(k:Nat)(f:k<=n):∃b,(∀w0,(Instr.slice 25 (.slice pa n c) (some (.int .i64 (k:Int))) none none).run A8 w0=.ok (.slice b (n-k) (c-k)) w0)/\Cv w b (n-k) (c-k) (l.drop k):=by
 have d:=h.cap;refine⟨if c=k then pa else pa.map (·.add (k*1)),λw0=> ?_,⟨⟨by rw[C7,h.len],A4,λj=> ?_⟩,λe=> ?_⟩⟩
 ·rw[run_slice_l w0 _ pa n c Sw .i64 (k:Int) A4 A4];rfl
 ·exact AfU
 split at e
 ·omega
 ·cases pa with
  |none=>have:=h.nilC rfl;omega
  |some a=>cases e
def Cv.mid{c:Nat}(h:Cv w pa n c l)(k j:Nat)(m:k<=j)(r:j<=n):∃a,(∀w0,(Instr.slice 25 (.slice pa n c) (some (.int .i64 (k:Int))) (some (.int .i64 (j:Int))) none).run A8 w0=.ok (.slice a (j-k) (c-k)) w0)/\(0<j-k->∃b,a=some b/\∀i v,(((l.drop k).take (j-k)).map DS)[i]?=some v->w.cell? (b.add i)=some v):=by
 have p:=h.cap;refine⟨if c=k then pa else pa.map (·.add (k*1)),λw0=> ?_,λq=> ?_⟩
 ·rw[run_slice_lh w0 _ pa n c Sw .i64 .i64 (k:Int) (j:Int) A4 A4 A4];rfl
 have⟨g,o,e,hc⟩:=h.cells A4;rw[AA A4,e];refine⟨⟨g,o+k,none⟩,YS,λi v d=> ?_⟩;have f:=(Hk.1 d).1;rw[Bz,Cl,C7]at f;have:=hc (k+i) A4;rw[show(⟨g,o+k,none⟩:Addr).add i=⟨g,o+(k+i),none⟩by unfold Addr.add;split<;>simp_all[Nat.add_assoc],this];grind
def SV(l:A5)(w:A7)(e:Ag)(w':A7):Prop:=∃pa n c,e=.returned (.slice pa n c)/\Cv w' pa n c l/\AF w w w'
def Ay4{B:Nat}{v:AJ}(h:BM w B 5 v l):∃pa c,v=.slice pa l.length c/\Cv w pa l.length c l:=by
 rcases h.2 with⟨rfl,n⟩|⟨g,a,d,rfl,q,p,k,r,b,o⟩
 ·have j:=EP n;subst j;exact⟨none,0,rfl,⟨⟨rfl,AG _,λf=>absurd f AE⟩,λ_=>rfl⟩⟩
 refine⟨some ⟨g,0,none⟩,a,rfl,⟨⟨rfl,k,λ_=>⟨g,0,rfl,λi m=> ?_⟩⟩,λe=>LW⟩⟩;have:=KH h i A4;rw[Db,this];simp[m]
def AfR:∃i,A8.info? 5=some i/\i.zero=some (.int .u8 0)/\i.size=1/\i.bytes=1:=IQ AO
def Aqa(pa:Option Addr)(n c:Nat)(l:A5)(v d:Nat)(z:Option Addr)(B:Nat)(w:A7)(h:Cv w pa n c l)(D:n<=1000000000)(A:w.cell? ⟨v,0,none⟩=some (.int .u8 0))(g:l.count 0=0):AD A8 96 #[.slice pa n c,.slice (some ⟨v,0,none⟩) 1 d,.slice z 3 B,.int .i64 (-1)] w (SV (CZ l) w):=by
  have p:=H0 (AhX (d:=d) w h A);have r:=h.len;rw[g]at p;rw[SF g];have⟨bI,hi,hzz,hs1,hb1⟩:=AfR;replace g:=H0 g;cases pa with
  |none=>
    obtain⟨rfl,rfl,rfl⟩:=h.nil0;clear h r;go_in;go_wp2_with(go_at_call 163;refine p.out.mono (AH ?_));go_ret;exact⟨none,0,0,rfl,⟨⟨rfl,AG _,λg=>absurd g AE⟩,λ_=>rfl⟩,AU _ _⟩
  |some ad=>
    have a:∀j u,(l.map DS)[j]?=some u->w.cell? (ad.add j)=some u:=λj u q=>by
      have f:=(Hk.1 q).1;rw[Bz]at f;have:=h.at j A4;rw[this];rw[GF,Cs f]at q;rw[<-Cm q,WO l j f];rfl
    have s:∀u∈l.map DS,u.oneCell'=true:=by
      intro u hu;obtain⟨c,-,rfl⟩:=EU.1 hu;rfl
    change Hid _ at a s;clear h;go_in;go_wp2_with (first| (go_at_call 163;refine p.out.mono (AH ?_))| (refine Ig w rfl _ _ 25 rfl w 5 bI _ 1 1 underlying25 hi hzz hs1 hb1 rfl AE (.slice none 0 0) 0 [] rfl (KQ _ _ _ _) ad n c (l.map DS) rfl (by rw [Bz];omega) a s C1 A4 (AG _) ?_;intro x w' b i _;have t:BM w' w 5 x l:=(by unfold BM;rw[r];rw[Db,Do]at b;exact b);have m:AF w w w':=(AU _ _).grown i (AG _) (λk y=>by cases y);obtain⟨E,C,rfl,o⟩:=Ay4 t;rw[r]at o;clear b i t;replace o:=H0 o))
    go_ret;exact⟨_,_,_,rfl,o,m⟩
def Abg(pa:Option Addr)(n c:Nat)(l:A5)(a d:Nat)(b:Option Addr)(f:Nat)(w:A7)(h:Cv w pa n c l)(g:n<=1000000000)(i:w.cell? ⟨a,0,none⟩=some (.int .u8 0))(j:l.count 0=0):AD A8 48 #[.slice pa n c,.slice (some ⟨a,0,none⟩) 1 d,.slice b 3 f] w (SV (CZ l) w):=by
 go_in;go_wp2_with fail;go_call Aqa as e w1⟨pv,nv,cv,rfl,hb,hbel⟩;go_wp2;go_ret;exact⟨_,_,_,rfl,hb,hbel⟩
def Qf(l:A5):Prop:=∀(pa:Option Addr)(n c gb d:Nat)(pn:Addr)(cn:Nat)(w:A7),Cv w pa n c l->n<=1000000000->w.cell? ⟨gb,0,none⟩=some (.int .u8 0)->Cv w (some pn) 3 cn Dc->AD A8 48 #[.slice pa n c,.slice (some ⟨gb,0,none⟩) 1 d,.slice (some pn) 3 cn] w (SV (CZ l) w)
def Acw(i:l.count 0=0):Qf l:=λpa n c a d e f w h b g _=>Abg pa n c l a d (some e) f w h b g i
def Av2(pa:Option Addr)(n c:Nat)(l:A5)(w:A7)(h:Cv w pa n c l)(N:n<=1000000000)(x:Qf l)(A:CD w)(G:(CZ l).length<=1000000000)(J:(HO (CZ l)).length<=1000000000):AD A8 19 #[.slice pa n c] w (Bi w (Bh l)):=by
 have b:=Ah w (.cells #[.int .u8 0] 5);have a:(w.alloc (.cells #[.int .u8 0] 5)).cell? ⟨w,0,none⟩=some (.int .u8 0):=(AM.new w #[.int .u8 0] 5).at 0;have i:=h.below b (AG _);obtain⟨g,I⟩:=AI (w.heap.size);generalize hw1:w.alloc (.cells #[.int .u8 0] 5)=w1 at b a i;rw[I]at a;have K:=H0 A;have y:Hid (Bh l=Lk (HO (CZ l))):=rfl;generalize j:Bh l=V at y⊢;replace j:=H0 j;have E:(An 65533).length=3:=AX;clear h A;go_in;go_wp2_with fail;go_call Qr as e w2⟨t,rfl,ht,rfl⟩;have m:t.size=3:=by rw[<-AK,ht.out,E]
 have⟨pn,nn,cn,w3,hconv,hbr,hb3⟩:=AdU t w1;obtain rfl:nn=3:=by have:=hbr.len;rw[AK,m]at this;exact this.symm
 have f:AF w w w3:=b.next hb3;have k:=i.below hb3 (AG _);have z:w3.cell? ⟨g,0,none⟩=some (.int .u8 0):=by
  have s:=EV w1 _ a;rw[hb3.cell s];exact a
 rw[ht.out,show An 65533=Dc by decide+kernel]at hbr;have D:=H0 (x pa n c g 1 pn cn w3 k N z hbr);clear hb3 hbr i k a z ht m b hw1;replace x:=H0 x;go_wp2_with fail;refine D.out.mono ?_;rintro e C⟨O,F,H,rfl,u,o⟩;have v:AF w w C:=f.next o;have L:=u.len;have B:=H0 (AjP O F H (CZ l) C u.toFq A4 (K.out.next v).utf);clear o f u D hconv;go_wp2_with fail;refine B.out.mono ?_;rintro e R⟨M,rfl,r,q⟩;have d:=v.next q;have Q:M.size<=1000000000:=by rw[<-AK,r.out];exact J
 clear q B v;go_wp2_with fail;go_call ApA as e w6⟨tv,rfl,htv,hb6⟩;have P:=A6 (tv.toList=V) (by rw[htv.out,r.out,y.out]);have p:=d.next hb6;clear hb6 d;go_wp2;go_ret;exact⟨_,rfl,P,p⟩
def Cv.holds{c:Nat}(h:Cv w pa n c l):Lib.HoldsBytes w (.slice pa n c) l:=by
 refine⟨pa,c,by rw[h.len],λe=>by subst e;exact h.nil0.2.2,λa e i x hx=> ?_⟩;subst e;have b:=(Hk.1 hx).1;have d:=h.len;have:=h.at i A4;rw[this,WO l i b,(Hk.1 hx).2]
def Cv.piece{c:Nat}(h:Cv w pa n c l)(k j:Nat)(f:k<=j)(g:j<=n):∃b,(∀w0,(Instr.slice 25 (.slice pa n c) (some (.int .i64 (k:Int))) (some (.int .i64 (j:Int))) none).run A8 w0=.ok (.slice b (j-k) (c-k)) w0)/\Lib.HoldsBytes w (.slice b (j-k) (c-k)) ((l.drop k).take (j-k)):=by
 have⟨b,hrun,hc⟩:=h.mid k j f g;have m:=h.len;have d:((l.drop k).take (j-k)).length=j-k:=by rw[Cl,C7];omega
 refine⟨b,hrun,b,c-k,by rw[d],λe=> ?_,λa e i x hx=> ?_⟩
 ·simp_all
 have o:=(Hk.1 hx).1;have⟨ad,e2,hv⟩:=hc A4;rw[e]at e2;cases e2;exact hv i _ (by rw[GF,hx];rfl)
def AxF{w0 wr:A7}{h N:Nat}{acc:A5}(b:Lib.Buf w0 wr h N acc)(a:acc.length=N):Cv wr (some ⟨h,0,none⟩) N N acc:=by
 refine⟨⟨a,AG _,λ_=>⟨h,0,rfl,λi c=> ?_⟩⟩,λe=>LW⟩;rw[Db];exact b.holds i acc[i] (Cs c)
def Aaw{w0 wr:A7}{h N:Nat}{acc:A5}(a:Lib.Buf w0 wr h N acc):Lib.Buf w0 wr.drew h N acc:=⟨a.below.drew,a.there,a.free,a.holds,a.fits⟩
def Adz(l:A5)(s:Nat):(CZ (l.take s)).length+(CZ (l.drop s)).length=(CZ l).length:=by
 rw[<-Aa,<-TJ,F7]
def Aur(ad:Addr)(n c:Nat)(l:A5)(gb d:Nat)(pn:Addr)(cn:Nat)(w:A7)(h:Cv w (some ad) n c l)(hz:n<=1000000000)(cL:w.cell? ⟨gb,0,none⟩=some (.int .u8 0))(aC:Cv w (some pn) 3 cn Dc)(h0:0<l.count 0):AD A8 96 #[.slice (some ad) n c,.slice (some ⟨gb,0,none⟩) 1 d,.slice (some pn) 3 cn,.int .i64 (-1)] w (SV (CZ l) w):=by
 have fQ:=H0 (AhX (d:=d) w h cL);have bH:=h.len;have gO:=V4 l;obtain⟨bI,hi,hzz,hs1,a⟩:=AfR;have H:l.count 0<=n:=by rw[<-bH];exact List.count_le_length
 generalize hm:l.count 0=m at fQ h0 gO H;obtain⟨N,hN⟩:=AI (n+m*2);have M:=A6 ((CZ l).length=N) A4;have hNz:N<=3000000000:=A4;have hwm:IntKind.i64.wrap ((m:Int)*2)=(m:Int)*2:=BI _ A4;have hwa:IntKind.i64.wrap ((n:Int)+m*2)=(N:Int):=Lf;have hNI:(n:Int)+m*2=(N:Int):=A4;change Hid _ at hm gO hN;have wK:Lib.Buf w (w.alloc (.cells (madeCells #[.int .u8 0] N) 5)) w.heap.size N []:=by
  have:=Lib.Buf.start w (madeCells #[.int .u8 0] N) 5 N 0 (by simp[madeCells]);exact this
 have pH:=H0 h;have v:=H0 aC;clear h aC;go_in;go_upto_region 9 with(first|(go_at_call 163;refine fQ.out.mono (AH ?_))|(refine wpList_make_row _ rfl _ _ 25 rfl 5 bI (.int .u8 0) underlying25 hi hzz hs1 rfl .i64 .i64 N rfl rfl (by rw[a];omega) A4 ?_));refine As (R:=λwx=>Lib.Buf w wx w N []) wK ?_;clear wK;intro w1 wM;go_wp2_with fail;go_loopw[11,12,13,49] (λlA v12 wQ x wr=>∃k s:Nat,x=.int .i64 (k:Int)/\v12=.int .i64 (s:Int)/\lA=.int .i64 (((CZ (l.take s)).length:Nat):Int)/\Hid (Lib.Buf w wr w N (CZ (l.take s)))/\s<=n/\Hid ((l.drop s).count 0+k=m)) (λ_ _ _ x _=>m-(intOf x).toNat)
 ·exact⟨0,0,rfl,rfl,rfl,H0 wM,AR _,H0 (by rw[C9,Jy];exact hm)⟩
 obtain⟨k,s,rfl,rfl,rfl,tT,hs,fU⟩:=hrel;clear wM;have T:=tT.out.below;have Y:=Adz l s;rw[M.out]at Y;generalize X:CZ (l.take s)=A at tT Y⊢;replace X:=H0 X;have E:=A6 (wr.cell? ⟨gb,0,none⟩=some (.int .u8 0)) ((T.cell (EV w _ cL)).trans cL);have G:(l.drop s).length=n-s:=by rw[C7,bH]
 obtain⟨p1,B,a⟩:=pH.out.drop s hs;have htl1:=λW=>Lib.run_slice_tailV (P:=A8) W 25 5 underlying25 (λw=>Axf w) w.heap.size N A.length A4;by_cases hk:k<m
 ·obtain⟨i,dH,V,bR,C,z⟩:=Ayd (l:=l.drop s) (by have:=fU.out;omega);have Z:=Ax8 (d:=d) wr (a.below T (AG _)) E;rw[dH]at Z;obtain⟨J,hJ⟩:=AI (s+i);obtain⟨p2,D,o⟩:=pH.out.piece s J A4 A4;rw[show J-s=i by omega]at D o;have f:=Aub A4 bR C V;rw[X.out]at f;have b:((l.drop s).take i).length=i:=Fx;generalize hp:(l.drop s).take i=p at f b o;have mY:=Adz l (s+i+1);rw[f,M.out,Aa,Aa,b,show Dc.length=3 from rfl]at mY;obtain⟨U,F,y⟩:=Lib.copy_part (P:=A8) w wr.drew w N A p _ 25 3 5 underlying25 AO (AG _) (Aaw tT) o A4;rw[b]at F;obtain⟨j,I⟩:=AI (A++p);have r:j.length=A.length+i:=by rw[<-I,Aa,b]
  rw[I]at y;obtain⟨wr2,jJ,tJ⟩:=Lib.copy_part (P:=A8) w U w N j Dc _ 25 3 5 underlying25 AO (AG _) y v.out.holds (by rw[show Dc.length=3 from rfl];omega);rw[show Dc.length=3 from rfl]at jJ;have uL:¬N=j.length:=A4;have hA2N:(j.length:Int)<=N:=A4;have hA20:0<=(j.length:Int):=A4;unfold Lib.tailV at jJ;rw[AA uL]at jJ;have hw0:IntKind.i64.wrap ((s:Int)+i)=(J:Int):=Lf;have hw1:IntKind.i64.wrap ((A.length:Int)+i)=(j.length:Int):=Lf;obtain⟨Q,g⟩:=AI (j++Dc);have t:Q.length=j.length+3:=by rw[<-g,Aa];rfl
  rw[g]at tJ;have hw2:IntKind.i64.wrap ((j.length:Int)+((3:Nat):Int))=(Q.length:Int):=Lf;have hw2':IntKind.i64.wrap ((j.length:Int)+3)=(Q.length:Int):=hw2;have sB:(s:Int)+i=(J:Int):=A4;have aI:(j.length:Int)+3=(Q.length:Int):=A4;have uN:=A6 (CZ (l.take (J+1))=Q) (by rw[<-hJ,f,<-g,<-I,CQ]);have mT:=A6 ((l.drop (J+1)).count 0+(k+1)=m) (by
   have h1:=fU.out;rw[Ka]at z;rw[show J+1=s+(i+1)by omega];omega)
  have hJn:J+1<=n:=A4;replace hJ:=H0 hJ;replace f:=H0 f;replace hp:=H0 hp;replace b:=H0 b;replace I:=H0 I;replace g:=H0 g;replace dH:=H0 dH;replace C:=H0 C;replace z:=H0 z;replace Z:=H0 Z;replace tJ:=H0 tJ;replace G:=H0 G;replace mY:=H0 mY;replace r:=H0 r;replace t:=H0 t;clear y a o bR V;go_upto_region 15 with(go_at_call 164;refine Z.out.mono (AH ?_));refine rds (λ_=>True) trivial λO=> ?_;refine tq 0 ?_;refine tq 1 ?_;refine tq 2 ?_;refine tq 3 ?_;refine tq 4 ?_;refine tq 5 ?_;refine tq 6 ?_;refine tq 7 ?_;refine Vu 8 (λK u=> ?_);refine Lib.wp_copy_run _ _ _ 25 25 rfl _ _ rfl rfl F ?_;refine rdg u trivial λO=> ?_;refine tq 9 ?_;refine rdk 10 λK u=> ?_;go_simp;refine rdg u trivial λO=> ?_;refine rdn ?_;go_wp2_with(refine Lib.wpList_copy_run _ rfl _ _ 25 25 rfl _ _ rfl rfl jJ ?_);go_roundw
  ·exact⟨k+1,J+1,by first|rfl|omega,by first|rfl|omega,by rw[uN.out],H0 (by rw[uN.out];exact tJ),hJn,mT⟩
  simp[intOf];omega
 have S:(l.drop s).count 0=0:=by have:=fU.out;omega
 have aD:=A6 (A++l.drop s=CZ l) (by
  rw[<-X.out,<-SF S,SF S]
  conv=>rhs;rw[<-F7 s l,TJ,SF S])
 rw[SF S,G]at Y;obtain⟨U,F,y⟩:=Lib.copy_part (P:=A8) w wr.drew w N A (l.drop s) _ 25 3 5 underlying25 AO (AG _) (Aaw tT) (a.holds) A4;rw[G]at F;generalize hq:n-s=q at F B;have hwz:IntKind.i64.wrap ((A.length:Int)+q)=(N:Int):=Lf;have hvz:(A.length:Int)+q=(N:Int):=A4;have d7:=AxF y (by rw[Aa,G];omega);rw[aD.out]at d7;have L:=y.below;change Hid _ at d7 hq G Y;clear y a S;go_upto_region 28 with fail;refine rds (λ_=>True) trivial λO=> ?_;refine tq 0 ?_;refine tq 1 ?_;refine tq 2 ?_;refine tq 3 ?_;refine tq 4 ?_;refine tq 5 ?_;refine tq 6 ?_;refine Vu 7 (λK u=> ?_);refine Lib.wp_copy_run _ _ _ 25 25 rfl _ _ rfl rfl F ?_;refine rdg u trivial λO=> ?_;refine tq 8 ?_;refine rdk 9 λK u=> ?_;go_simp;refine rdg u trivial λO=> ?_;refine rdn ?_;go_wp2_with fail;go_ret;exact⟨_,_,_,rfl,d7,L⟩
def An3(l:A5):Qf l:=λpa n c b d g i w h f j k=>by
 by_cases a:l.count 0=0
 ·exact Abg pa n c l b d (some g) i w h f j a
 ·cases pa with
  |none=>
   obtain⟨rfl,rfl,rfl⟩:=h.nil0;exact absurd rfl a
  |some ad=>
   go_in;go_wp2_with fail;go_call Aur as e w1⟨pv,nv,cv,rfl,hb,hbel⟩;go_wp2;go_ret;exact⟨_,_,_,rfl,hb,hbel⟩
end Go.Proofs.YtonomfeipkdmhaaGreatDoor
namespace Go.Proofs.YtonomfeipkdmhaaGreatDoor
open Go renaming World->A7,Value->AJ,TypeId->Ab
open Go.Proofs.Tryz
open Go.Proofs.Tryz renaming prog->A8
open Go.RowKit Go.ChangeShapes Go.WideShapes
def Anm{H:Type}{t:Ab×AJ->H}{w:A7}{k:Bool}{v:AJ}{d:DataW H}{D:List MemPlace}{r:Reach}{z:Nat}(B:Value.okWide A8 w r z 25 v)(h:DataW.Trod t A8 w 0 (λ_=>true) k 25 v d D):∃(pa:Option Addr)(n c:Nat)(l:A5),v=.slice pa n c/\Cv w pa n c l:=by
 obtain⟨a,len,j,rfl⟩:=okWide_slice underlying25 B;have⟨fuel,hf⟩:=h;obtain⟨m,u⟩:∃m,Wp .u8 w a len j m:=by
  rcases open_ints underlying25 underlying5 AO hf with⟨f,_⟩|⟨x,l,c,m,f,_,y,A,G,_,b,q⟩
  ·obtain⟨rfl,rfl,rfl⟩:=f;exact⟨[],.inl ⟨rfl,rfl,rfl,rfl⟩⟩
  obtain⟨rfl,rfl,rfl⟩:=f;exact⟨m,.inr ⟨_,rfl,y,A,AS,b,q⟩⟩
 obtain⟨l,y,⟨E,F,e,hc⟩,-⟩:=u.bytes;cases e;refine⟨a,l.length,j,l,rfl,⟨⟨rfl,?_,λp=> ?_⟩,λe=> ?_⟩⟩
 ·rcases u with⟨-,p,-,-⟩|⟨x,-,s,-⟩
  ·omega
  exact s
 ·have⟨g,o,e1,h1⟩:=hc p;exact⟨g,o,e1,λi C=>h1 i C⟩
 rcases u with⟨-,-,p,-⟩|⟨x,I,-⟩
 ·exact p
 grind
end Go.Proofs.YtonomfeipkdmhaaGreatDoor
