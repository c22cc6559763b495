/- Lemmas. -/
import Derived.Test.YtonomfeipkdmhaaGreatDoorZm01
import Derived.Test.YtonomfeipkdmhaaGreatDoorZm02
import Derived.ChangeOld
import Derived.Deep.MidRow
import Derived.DeepKeys4
import Derived.Lib.AppendIntMem
import Derived.Maps.Own
import Derived.Maps.Views
import Derived.Orders
import Derived.RegionTactic
import Derived.ShutString
set_option linter.all false
set_option maxRecDepth 100000
set_option maxHeartbeats 16000000
namespace Go.Proofs.YtonomfeipkdmhaaGreatDoor
open Go renaming wpList->Aq,Program->Dj,maxLen->BK,Operand->CV,World->A7,Calls->AD,Value->AJ,TypeId->Ab,Ending->Ag
open Go.RowKit renaming Below->AF
open Go.RowKit Go.Proofs.Tryz
open Go.Proofs.Tryz renaming prog->A8
def AbO(l:A5)(w:A7)(e:Ag)(w':A7):Prop:=∃v:AJ,e=.returned v/\BM w' w 5 v l/\AF w w w'
variable{w:A7}{v:AJ}{l:A5}
def VQ{B:Nat}{E:Ab}(h:BM w B E v l)(n:Nat):BM (w.drewN n) B E v l:=HR h (Ey (AU w w) n) (AG _)
def Zu(h:l.length<3):Bt l=l:=by
 match l,h with
 |[],_=>rfl|[a],_=>rfl|[a,b],_=>rfl
def XS{c:UInt8}{r:A5}(h:c≠37):Bt (c::r)=c::Bt r:=by
 match r with
 |[]=>rfl|[a]=>rfl|a::b::q=>rw[Bt,AA h]
def YH{c a b:UInt8}{q:A5}(h:c=37):Bt (c::a::b::q)=match JK a,JK b with|some x,some y=>UInt8.ofNat (x*16+y)::Bt q|_,_=>c::Bt (a::b::q):=by
 rw[Bt,AC h];rfl
def Ry:∀(n:Nat)(l:A5),l.length<=n->(Bt l).length<=l.length
 |0,l,h=>by rw[Zu A4];exact AG _
 |n+1,l,h=>by
  match l,h with
  |[],_=>exact AG _|[a],_=>exact AG _|[a,b],_=>exact AG _
  |c::a::b::q,h=>
   have h1:=Ry n (a::b::q) AS;have d:=Ry n q (by simp at h⊢;omega);by_cases hc:c=37
   ·rw[YH hc];split
    ·simp;omega
    grind
   rw[XS hc];grind
def AfL(c:UInt8)(n:Nat)(w:A7):AD A8 155 #[.int .u8 (c:Int),.int .i64 16] (w.drewN n) λe w'=>e=.returned (.int .i64 (AQ (c:Int) 16))/\w'=w.drewN n:=
 (GS (c:Int) 16 (w.drewN n) (Bo c) (Bf c)).mono λ_ _⟨h1,h2⟩=>⟨h1,h2.symm⟩
def Sf(c:UInt8): -1<=AQ (c:Int) 16/\AQ (c:Int) 16<=15:=by
 have a:∀n:UInt8,-1<=AQ (n:Int) 16/\AQ (n:Int) 16<=15:=DZ AX;exact a c
def Ava(s:A9)(w:A7)(hs:s.size<=1099511627776):AD A8 328 #[.string s] w (AbO (Bt s) w):=by
 obtain⟨i0,hi,M,J,I⟩:=Gc.i;go_in;go_wp2_with(at_make;refine wpList_make_own _ rfl _ _ 25 rfl w 5 i0 (.int .u8 0) 1 underlying25 hi M J _ _ _ s.size rfl rfl rfl (by rw[I];omega) C1 (AG _) ?_;intro A S r);have z:AF w w A:=(AU _ _).grown r (AG _) (λk R=>by cases R);clear r;go_loopw[3,4] (λv i wr=>∃(k:Nat)(l:A5),k<=s.size/\i=.int .i64 k/\Hid (Bt s.toList=l++Bt (s.toList.drop k))/\l.length<=k/\BM wr w 5 v l/\AF w w wr) (λ_ i _=>s.size-(intOf i).toNat)
 ·exact⟨0,[],AR _,rfl,H0 rfl,AR _,S,z⟩
 obtain⟨k,l,R,rfl,hl,hll,g,f⟩:=hrel;have D:=f.size;clear S z;by_cases F:k<s.size
 ·have aL:=Aw s k F;have Y:(k:Int)<s.size:=A4;obtain⟨c,hc⟩:=AI (s[k]);rw[hc]at aL;have b0:=Bo c;have b1:=Bf c;by_cases d:c=37
  ·have K:((c:Int)==37)=true:=by rw[d];rfl
   by_cases X:k+2<s.size
   ·have E:(k:Int)+2<(s.size:Int):=A4;have P:k+1<s.size:=A4;have C:=Aw s (k+1) P;have B:=Aw s (k+2) X;obtain⟨x,hx⟩:=AI (s[k+1]);obtain⟨y,hy⟩:=AI (s[k+2]);rw[hx]at C;rw[hy]at B;have aF:Bt (s.toList.drop k)=match JK x,JK y with|some a,some b=>UInt8.ofNat (a*16+b)::Bt (s.toList.drop (k+3))|_,_=>c::Bt (s.toList.drop (k+1)):=by
     rw[aL,C,B,YH d]
    have zX:=Sf x;have W:=Sf y;have N:=H0 (AfL x);have O:=H0 (AfL y);have mI:JK x=if AQ (x:Int) 16<0 then none else some (AQ (x:Int) 16).toNat:=rfl;have l9:JK y=if AQ (y:Int) 16<0 then none else some (AQ (y:Int) 16).toNat:=rfl;obtain⟨p,L⟩:=AI (AQ (x:Int) 16);obtain⟨q,H⟩:=AI (AQ (y:Int) 16);rw[L]at zX N mI;rw[H]at W O l9;have A:IntKind.i64.wrap ((k:Int)+1)=(k:Int)+1:=BI _ A4;have U:IntKind.i64.wrap ((k:Int)+2)=(k:Int)+2:=BI _ A4;have g1:0<=(k:Int)+1:=A4;have g2:0<=(k:Int)+2:=A4;have Q:((k:Int)+1).toNat=k+1:=A4;have T:((k:Int)+2).toNat=k+2:=A4;have l1:(k:Int)+1<(s.size:Int):=A4;replace aL:=H0 aL;replace C:=H0 C;replace B:=H0 B;replace L:=H0 L;replace H:=H0 H;replace d:=H0 d;by_cases t:0<=p/\0<=q
    ·obtain⟨V,q0⟩:=t;rw[AA A4]at mI l9;rw[mI,l9]at aF;dsimp only at aF;obtain⟨o,rfl⟩:∃n:Nat,p=n:=⟨p.toNat,A4⟩;obtain⟨m,rfl⟩:∃n:Nat,q=n:=⟨q.toNat,A4⟩;rw[Jc,Jc]at aF;have bO:=A6 (Bt s.toList=(l++[UInt8.ofNat (o*16+m)])++Bt (s.toList.drop (k+3))) (by rw[hl.out,aF,CQ];rfl);have dZ:IntKind.u8.wrap ((o:Int)*16+(m:Int))=(o:Int)*16+(m:Int):=NO;have j:(o:Int)*16+(m:Int)=((UInt8.ofNat (o*16+m)).toNat:Int):=by rw[LC,JV A4];omega
     replace aF:=H0 aF;replace mI:=H0 mI;replace l9:=H0 l9;replace j:=H0 j;go_wp2_with fail;go_quiet((first|(go_at_call 155;with_reducible exact Calls.quiet_of_same (N.out _ _))|(go_at_call 155;with_reducible exact Calls.quiet_of_same (O.out _ _))))
     clear A U Q T;go_wp2_with(at_builtin;refine HZ Gc rfl _ _ rfl (UInt8.ofNat (o*16+m)) rfl rfl (VQ g nq) (Ey f nq) (by simpa using D) j C1 A4 ?_;intro G w' ho' bA _);go_wp2_with fail;go_roundw;exact⟨k+3,_,A4,Gq,bO,B7,ho',bA⟩;exact AzF
    have h:Bt (s.toList.drop k)=c::Bt (s.toList.drop (k+1)):=by
     exact AiG
    have bO:=A6 (Bt s.toList=(l++[c])++Bt (s.toList.drop (k+1))) (by rw[hl.out,h,CQ];rfl);replace aF:=H0 aF;replace h:=H0 h;replace mI:=H0 mI;replace l9:=H0 l9;have u:p<0\/(0<=p/\q<0):=A4;clear t;rcases u with V|⟨V,q0⟩;all_goals
     go_wp2_with fail;go_quiet((first|(go_at_call 155;with_reducible exact Calls.quiet_of_same (N.out _ _))|(go_at_call 155;with_reducible exact Calls.quiet_of_same (O.out _ _))))
     clear A U Q T;go_wp2_with(at_builtin;refine HZ Gc rfl _ _ rfl c rfl rfl (VQ g nq) (Ey f nq) (by simpa using D) rfl C1 A4 ?_;intro G w' ho' bA _);go_wp2_with fail;go_roundw;exact⟨k+1,_,A4,AP,bO,B7,ho',bA⟩;exact AzF
   have E:(s.size:Int)<=k+2:=A4;have bO:=A6 (Bt s.toList=(l++[c])++Bt (s.toList.drop (k+1))) (by
    exact AjM)
   replace aL:=H0 aL;replace d:=H0 d;go_wp2_with(at_builtin;refine HZ Gc rfl _ _ rfl c rfl rfl g f D rfl C1 A4 ?_;intro G w' ho' bA _);go_wp2_with fail;exact W4
  have K:((c:Int)==37)=false:=by rw[B6];intro e;exact d (CM.1 (by show c.toNat=37;omega))
  have bO:=A6 (Bt s.toList=(l++[c])++Bt (s.toList.drop (k+1))) (by rw[hl.out,aL,XS d,CQ];rfl);replace aL:=H0 aL;replace d:=H0 d;go_wp2_with(at_builtin;refine HZ Gc rfl _ _ rfl c rfl rfl g f D rfl C1 A4 ?_;intro G w' ho' bA _);go_wp2_with fail;go_roundw;exact⟨k+1,_,A4,AP,bO,B7,ho',bA⟩;exact AzF
 have iS:(s.size:Int)<=k:=A4;have Z:=A6 (Bt s.toList=l) (by rw[hl.out,CP s k A4];exact Bq _);go_wp2_with fail;go_ret;exact⟨_,rfl,by rw[Z.out];exact g,f⟩
def Jg:(∀(a:Act)(d:Option Tmp)(v:AJ),Act.put a d v=match d with|some d=>{a with tmps:=a.tmps.setIfInBounds d v}|none=>a)/\(∀(l:List AJ)(i:Nat)(v:AJ),l.toArray.setIfInBounds i v=(l.set i v).toArray)/\(∀(x v:AJ)(l:List AJ),(x::l).set 0 v=v::l)/\(∀(x v:AJ)(l:List AJ)(i:Nat),(x::l).set (i+1) v=x::l.set i v):=
 ⟨λ_ _ _=>rfl,λ_ _ _=>List.setIfInBounds_toArray ..,λ_ _ _=>rfl,λ_ _ _ _=>rfl⟩
def tk{P:Dj}{e:Region.Mode}{ops:Array Oper}{Q:Exit->Act->A7->Prop}{S:A7->Prop}{b:Nat}{f:Array Bool}{a g:Act}(i d:Nat){op ty pos after guard}(m:S w)(h:wpAnyH P e ops Q S b (f.setIfInBounds i true) g w)(h1:ops[i]?=some ⟨some d,op,ty,pos,after,guard⟩:=by rfl)(r:Region.noSelect ops=true:=by kernel_rfl)(k:Region.free e ops f i=true:=by kernel_rfl)(p:(Region.ready e ops f).contains i=true:=by kernel_rfl)(l:Region.wanted (⟨some d,op,ty,pos,after,guard⟩:Oper) (yielded ops a.tmps)=true:=by rfl)(q:∀c a w,Q (.panic c) (a.put (some d) v) w->Q (.panic c) a w:=by exactλ_ _ _ h=>h)(o:∀w,S w->(execOp a.eval ⟨some d,op,ty,pos,after,guard⟩).run P w=.ok (.value v) w:=by intro w n;(try dsimp only at n);go_simp;try with_reducible rfl)(j:a.put (some d) v=g:=by(try simp only[Jg]);rfl):wpAnyH P e ops Q S (b+1) f a w:=by
 subst j;exact wpAnyH_take h1 r k p q (Or.inl ⟨l,o⟩) m h
variable{k:Nat}
def Amo{P:Dj}{T E:Ab}{z:AJ}{b:Nat}(ty:Fs P T E z b){ops:Array Oper}{rest:List Oper}{o:Oper}{a:Act}{Q:Exit->Act->A7->Prop}(A:o.guard=none)(s x:CV)(D:o.op=.call {callee:=.builtin .append,args:= #[s,x],argTypes:= #[T,T]}){W0 w0:A7}{B:Nat}{cs:Array AJ}(m:A5)(r:cs.toList=m.map DS)(n:k=m.length)(t:a.eval s=v)(hx:a.eval x=.slice (some ⟨w0,0,none⟩) k k)(d:BM w0 B E v l)(e:AF B W0 w0)(q:B<=w0.heap.size)(g:l.length+m.length<=BK)(F:(l.length+m.length)*b<=140737488355328)(h:∀f w',BM w' B E f (l++m)->AF B W0 w'->Aq P ops Q rest (a.put o.dst f) w'):Aq P ops Q (o::rest) a (w0.alloc (.cells cs E)):=by
 have⟨i,hi,hz,hs1,hb1⟩:=ty.i;subst n;refine Ig _ A s x T D B E i z 1 b ty.u hi hz hs1 hb1 ty.z AE v l.length _ t (World.ownsRow.alloc d _) ⟨w0,0,none⟩ m.length m.length (m.map DS) hx AN
  (λj u H=> ?_) (by intro y C;obtain⟨c,_,rfl⟩:=EU.1 C;rfl) g F B7 ?_
 ·have G:(⟨w0,0,none⟩:Addr).add j=⟨w0,0+j,none⟩:=by cases j<;>simp[Addr.add]
  rw[G];simp only[World.cell?,CB];grind
 intro f w' p w _;refine h f w' ?_ ((e.alloc q _).grown w B7 (λk n=>(Om d k n).1));unfold BM;grind
def Rv(l:A5)(w:A7)(e:Ag)(w':A7):Prop:=∃t:A9,e=.returned (.string t)/\Hid (t.toList=l)/\w=w'
def Qr(c:Nat)(hc:c<=2147483647)(w:A7):AD A8 49 #[.int .i64 (c:Int)] w (Rv (An c) w):=by
 have h:0<=(c:Int):=A4;have a:(1114111<(c:Int)/\Hid (An c=Dc))\/((c:Int)<=1114111/\(c:Int)<55296/\Hid (An c=Jj (c:Int)))\/((c:Int)<=1114111/\55296<=(c:Int)/\(c:Int)<=57343/\Hid (An c=Dc))\/((c:Int)<=1114111/\55296<=(c:Int)/\57343<(c:Int)/\Hid (An c=Jj (c:Int))):=by
  unfold An;by_cases h1:1114111<c
  ·exact .inl ⟨A4,H0 AS⟩
  by_cases g:c<55296
  ·exact .inr (.inl ⟨A4,A4,H0 Td⟩)
  by_cases f:c<=57343
  ·exact .inr (.inr (.inl ⟨A4,A4,A4,H0 AS⟩))
  exact .inr (.inr (.inr ⟨A4,A4,A4,H0 Td⟩))
 generalize(c:Int)=z at *;go_in;rcases a with⟨b,hv⟩|⟨b,d,hv⟩|⟨b,d,e,hv⟩|⟨b,d,e,hv⟩
 ·go_wp2;go_ret;exact⟨_,rfl,H0 Aa8,rfl⟩
 ·exact AdD
 ·go_wp2;go_ret;exact⟨_,rfl,H0 Aa8,rfl⟩
 exact AdD
def ZI(c:Nat)(w:A7)(e:Ag)(w':A7):Prop:=e=.returned (.tuple #[.int .u8 ((CJ c).1:Int),.int .u8 ((CJ c).2.1:Int),.int .i64 ((CJ c).2.2:Int)])/\w=w'
def AoP(c:Nat)(hc:c<256)(w:A7):AD A8 169 #[.int .u8 (c:Int)] w (ZI c w):=by
 unfold ZI;have o:∀k:Nat,c≠k->(((c:Int)==k)=false):=λk h=>DV;have lit:∀(k:Nat)(a b d:Nat),CJ k=(a,b,d)->c=k->AD A8 169 #[.int .u8 (k:Int)] w (AzJ (.tuple #[.int .u8 (a:Int),.int .u8 (b:Int),.int .i64 (d:Int)]) w)->AD A8 169 #[.int .u8 (c:Int)] w (AzJ (.tuple #[.int .u8 ((CJ c).1:Int),.int .u8 ((CJ c).2.1:Int),.int .i64 ((CJ c).2.2:Int)]) w):=by
  intro k a b d h1 l n;subst l;rw[h1];exact n
 by_cases h1:c=224
 ·refine lit 224 160 191 3 AE h1 ?_;exact JS
 by_cases l:c=237
 ·refine lit 237 128 159 3 AE l ?_;exact JS
 by_cases n:c=240
 ·refine lit 240 144 191 4 AE n ?_;exact JS
 by_cases p:c=244
 ·refine lit 244 128 143 4 AE p ?_;exact JS
 have x:=o 237 l;have u:=o 244 p;have g:((c:Int)<194/\(c:Int)<225/\(c:Int)<241/\CJ c=(0,0,1))\/(194<=(c:Int)/\(c:Int)<=223/\CJ c=(128,191,2))\/(194<=(c:Int)/\223<(c:Int)/\225<=(c:Int)/\(c:Int)<=239/\CJ c=(128,191,3))\/
   (194<=(c:Int)/\223<(c:Int)/\225<=(c:Int)/\239<(c:Int)/\241<=(c:Int)/\(c:Int)<=243/\CJ c=(128,191,4))\/(194<=(c:Int)/\223<(c:Int)/\225<=(c:Int)/\239<(c:Int)/\241<=(c:Int)/\243<(c:Int)/\CJ c=(0,0,1)):=by
  unfold CJ;by_cases t:c<194
  ·grind
  by_cases v:c<=223
  ·grind
  by_cases a3:c<=239
  ·grind
  by_cases a4:c<=243
  ·grind
  grind
 generalize(c:Int)=z at *;go_in;rcases g with⟨i,j,m,f⟩|⟨i,j,f⟩|⟨i,j,m,q,f⟩|⟨i,j,m,q,s,r,f⟩|⟨i,j,m,q,s,r,f⟩
 all_goals
  rw[f];go_wp2;go_ret3;simp
def L8(n:Int)(w:A7)(e:Ag)(w':A7):Prop:=e=.returned (.int .i64 n)/\w=w'
def AvI(c:UInt8)(r:A5):Ea (c::r)=CN ((CJ c.toNat).2.2-1) (CJ c.toNat).1 (CJ c.toNat).2.1 r+1:=rfl
def Ath(pa:Option Addr)(n c:Nat)(l:A5)(w:A7)(h:Fq w pa n c l)(G:0<n)(R:n<=BK):AD A8 99 #[.slice pa n c] w (L8 (Ea l:Int) w):=by
 obtain⟨g,o,rfl,a⟩:=h.cells G;have J:=h.len;have p:0<l.length:=A4;have H:=a 0 p;rw[Jy]at H;obtain⟨x,r,D⟩:∃x r,l=x::r:=by
  cases l with
  |nil=>simp at p|cons x r=>simp
 have hx:l[0]=x:=by simp_all
 have K:=A6 (Ea l=CN ((CJ x.toNat).2.2-1) (CJ x.toNat).1 (CJ x.toNat).2.1 (l.drop 1)+1) (by rw[D];rfl);have z:=AoP x.toNat x.toNat_lt;unfold ZI at z;have L:=Atl x.toNat;obtain⟨P,A⟩:∃v,(CJ x.toNat).1=v:=⟨_,rfl⟩;obtain⟨Q,u⟩:∃v,(CJ x.toNat).2.1=v:=⟨_,rfl⟩;obtain⟨b,d⟩:∃v,(CJ x.toNat).2.2=v:=⟨_,rfl⟩;rw[A,u,d]at K z;rw[d]at L;change Hid _ at a D;go_in;go_wp2_with(go_call z;refine AH ?_);go_loop[3,4,6] (λv3 v4 t=>∃k i q:Nat,v3=.int .u8 i/\v4=.int .u8 q/\t=.int .i64 k/\1<=k/\k<=b/\k<=n/\Hid (Ea l=CN (b-k) i q (l.drop k)+k)) (λ_ _ t=>b-(intOf t).toNat)
 ·grind
 obtain⟨k,i,q,rfl,rfl,rfl,O,N,I,C⟩:=hrel;have fin:∀m,Hid (CN (b-k) i q (l.drop k)=m)->Hid (Ea l=m+k):=λm e=>H0 (by rw[C.out,e.out]);by_cases h1:k<b
 ·obtain⟨m,f⟩:∃m,b-k=m+1:=⟨b-k-1,A4⟩;have F:b-(k+1)=m:=A4;by_cases M:k<n
  ·have j:k<l.length:=by rw[J];exact M
   have E:=a.out k j;unfold DS at E;have s:=H0 (Fr j);generalize hy:l[k]=y at E s;by_cases B:i<=y.toNat/\y.toNat<=q
   ·have hn:=A6 (Ea l=CN (b-(k+1)) 128 191 (l.drop (k+1))+(k+1)) (by
     rw[C.out,s.out,f,CN,AC B,F];omega)
    go_wp2;go_round;exact⟨k+1,128,191,rfl,rfl,AP,A4,A4,A4,hn⟩;exact AzF
   have hn:=fin 0 (H0 (by rw[s.out,f,CN,AA B]));by_cases S:i<=y.toNat
   ·exact Vi
   exact Vi
  have hn:=fin 0 (H0 (by
   rw[Cj AS,f];rfl))
  exact Vi
 have hn:=fin 0 (H0 (by rw[show b-k=0 by omega];rfl));exact Vi
def AbM(j bias:Nat)(w:A7)(a:j<=1000000000)(b:bias<=1000000000):AD A8 370 #[.int .i64 (j:Int),.int .i64 (bias:Int)] w (L8 (D6 j bias:Int) w):=by
 go_in;go_wp2;all_goals
  go_ret;refine⟨Mt ?_,rfl⟩;unfold D6;omega
def ER(c:UInt8):Int:=match NP c with|none=> -1|some d=>(d:Int)
def AwL(c:UInt8)(w:A7):AD A8 369 #[.int .u8 (c:Int)] w (L8 (ER c) w):=by
 have a:(97<=(c:Int)/\(c:Int)<=122/\ER c=(c:Int)-97)\/((c:Int)<97/\65<=(c:Int)/\(c:Int)<=90/\ER c=(c:Int)-65)\/((c:Int)<97/\(c:Int)<65/\48<=(c:Int)/\(c:Int)<=57/\ER c=(c:Int)-48+26)\/
   (97<=(c:Int)/\122<(c:Int)/\90<(c:Int)/\57<(c:Int)/\ER c=-1)\/((c:Int)<97/\65<=(c:Int)/\90<(c:Int)/\57<(c:Int)/\ER c=-1)\/((c:Int)<97/\(c:Int)<65/\48<=(c:Int)/\57<(c:Int)/\ER c=-1)\/((c:Int)<97/\(c:Int)<65/\(c:Int)<48/\(c:Int)<=57/\ER c=-1):=by
  have f:∀n:Fin 256,((97:Int)<=((UInt8.ofNat n.val).toNat:Int)/\((UInt8.ofNat n.val).toNat:Int)<=122/\ER (UInt8.ofNat n.val)=((UInt8.ofNat n.val).toNat:Int)-97)\/(((UInt8.ofNat n.val).toNat:Int)<97/\(65:Int)<=((UInt8.ofNat n.val).toNat:Int)/\((UInt8.ofNat n.val).toNat:Int)<=90/\ER (UInt8.ofNat n.val)=((UInt8.ofNat n.val).toNat:Int)-65)\/(((UInt8.ofNat n.val).toNat:Int)<97/\((UInt8.ofNat n.val).toNat:Int)<65/\(48:Int)<=((UInt8.ofNat n.val).toNat:Int)/\((UInt8.ofNat n.val).toNat:Int)<=57/\ER (UInt8.ofNat n.val)=((UInt8.ofNat n.val).toNat:Int)-48+26)\/
   ((97:Int)<=((UInt8.ofNat n.val).toNat:Int)/\(122:Int)<((UInt8.ofNat n.val).toNat:Int)/\(90:Int)<((UInt8.ofNat n.val).toNat:Int)/\(57:Int)<((UInt8.ofNat n.val).toNat:Int)/\ER (UInt8.ofNat n.val)=-1)\/(((UInt8.ofNat n.val).toNat:Int)<97/\(65:Int)<=((UInt8.ofNat n.val).toNat:Int)/\(90:Int)<((UInt8.ofNat n.val).toNat:Int)/\(57:Int)<((UInt8.ofNat n.val).toNat:Int)/\ER (UInt8.ofNat n.val)=-1)\/(((UInt8.ofNat n.val).toNat:Int)<97/\((UInt8.ofNat n.val).toNat:Int)<65/\(48:Int)<=((UInt8.ofNat n.val).toNat:Int)/\(57:Int)<((UInt8.ofNat n.val).toNat:Int)/\ER (UInt8.ofNat n.val)=-1)\/(((UInt8.ofNat n.val).toNat:Int)<97/\((UInt8.ofNat n.val).toNat:Int)<65/\((UInt8.ofNat n.val).toNat:Int)<48/\((UInt8.ofNat n.val).toNat:Int)<=57/\ER (UInt8.ofNat n.val)=-1):=AX
  have:=f ⟨c.toNat,c.toNat_lt⟩;simp only[RZ]at this;exact this
 generalize ER c=v at a⊢;go_in;rcases a with⟨h1,b,rfl⟩|⟨h1,b,d,rfl⟩|⟨h1,b,d,e,rfl⟩|⟨h1,b,d,e,rfl⟩|⟨h1,b,d,e,rfl⟩|⟨h1,b,d,e,rfl⟩|⟨h1,b,d,e,rfl⟩;all_goals
  go_wp2;go_ret;exact⟨rfl,rfl⟩
def Ad6(d:Nat)(w:A7)(f:d<36):AD A8 373 #[.int .i64 (d:Int)] w (AzJ (.int .u8 ((Er d).toNat:Int)) w):=by
 have b:((d:Int)<26/\Hid (((Er d).toNat:Int)=97+(d:Int)))\/(26<=(d:Int)/\Hid (((Er d).toNat:Int)=48+(d:Int)-26)):=by
  have c:∀d:Fin 36,((d.val:Int)<26/\((Er d.val).toNat:Int)=97+(d.val:Int))\/(26<=(d.val:Int)/\((Er d.val).toNat:Int)=48+(d.val:Int)-26):=AX;rcases c ⟨d,f⟩with⟨h1,a⟩|⟨h1,a⟩
  ·exact .inl ⟨h1,H0 a⟩
  exact .inr ⟨h1,H0 a⟩
 go_in;rcases b with⟨h1,a⟩|⟨h1,a⟩
 ·go_wp2;go_ret;exact⟨by rw[a.out];rfl,rfl⟩
 go_wp2;go_ret;exact⟨by rw[a.out];rfl,rfl⟩
def Ajh(c:Nat)(w:A7):AD A8 362 #[.int .i64 (c:Int)] w (AzJ (.bool (Ce c)) w):=by
 exact AdZ
variable{f d:Nat}
def AlH(h:d<=455):Fp f d k=k+36*d/(d+38):=by
 cases f with
 |zero=>rfl|succ f=>rw[Fp,AA A4]
def Alc(h:455<d):Fp (f+1) d k=Fp f (d/35) (k+36):=by rw[Fp,AC h]
def Aev(d n:Nat)(first:Bool)(w:A7)(y:d<=2147483647)(B:1<=n)(j:n<=1000000000):AD A8 364 #[.int .i64 (d:Int),.int .i64 (n:Int),.bool first] w (L8 (Ha d n first:Int) w):=by
 have e:Hid (Ha d n first=Fp 20 (G7 d first+G7 d first/n) 0):=rfl;have o:G7 d first<=2147483647:=by unfold G7;split<;>omega
 have g:=A6 ((G7 d first:Int)=if first=true then(d:Int)/700 else(d:Int)/2) (by unfold G7;split<;>omega);generalize hae:G7 d first=a at e o g
 have p:a/n<=a:=Pf _ _;have r:(a:Int)/(n:Int)=((a/n:Nat):Int):=AN;generalize hqe:a/n=q at e p r;cases first
 all_goals
  have c:=g.out;simp[]at c;have i:=c.symm;clear c g;go_in;go_wp2;go_loop[0,7] (λv0 l=>∃f x k:Nat,v0=.int .i64 x/\l=.int .i64 k/\x<456*35^f/\x<=4294967294/\k+36*f<=720/\Hid (Fp 20 (a+q) 0=Fp f x k)) (λv0 _=>(intOf v0).toNat)
  ·exact⟨20,a+q,0,AS,rfl,Nat.lt_of_le_of_lt (show a+q<=4294967294 by omega) AE,A4,A4,H0 rfl⟩
  obtain⟨f,x,k,rfl,rfl,hx,v,u,h⟩:=hrel;by_cases b:455<x
  ·cases f with
   |zero=>grind
   |succ f=>
    have A:=A6 (Fp 20 (a+q) 0=Fp f (x/35) (k+36)) (by rw[h.out,Alc b]);go_wp2;go_round;grind;exact AzF
  have s:=A6 (Fp 20 (a+q) 0=k+36*x/(x+38)) (by rw[h.out,AlH A4]);have C:36*(x:Int)/((x:Int)+38)=((36*x/(x+38):Nat):Int):=AN;have t:36*x/(x+38)<=36:=Nat.div_le_of_le_mul A4;obtain⟨z,m⟩:=AI (36*x/(x+38));go_wp2;go_ret;exact⟨Mt (by rw[e.out,s.out];omega),rfl⟩
def Aqf(l:List Nat)(c low:Nat):F4 (l++[c]) low=Fi low (F4 l low) c:=by unfold F4;rw[List.foldl_append];rfl
def Ale(l:List Nat)(low:Nat):F4 l low=-1\/(0<=F4 l low/\∃c∈l,F4 l low=(c:Int)):=by
 obtain⟨h1,-,-⟩:=Uc low l (-1) (.inl rfl);rcases h1 with h1|⟨c,hc,h1,a⟩
 ·exact .inl h1
 exact .inr ⟨by unfold F4;omega,c,hc,h1⟩
def Akv(l:List Nat)(k:Nat)(h:k<l.length):l.take (k+1)=l.take k++[l[k]]:=Fe h
def AsC(pa:Option Addr)(n c:Nat)(l:List Nat)(low:Nat)(w:A7)(h:Fc w pa n c l)(B:n<=1000000000):AD A8 365 #[.slice pa n c,.int .i64 (low:Int)] w (L8 (F4 l low) w):=by
 have A:=h.len;have a:=H0 h.cells;go_in;go_wp2;go_loop[5,10] (λv5 m=>∃k:Nat,m=.int .i64 k/\k<=n/\v5=.int .i64 (F4 (l.take k) low)) (λ_ m=>n-(intOf m).toNat)
 ·exact VE
 obtain⟨k,rfl,z,rfl⟩:=hrel;have d:=Ale (l.take k) low;by_cases t:k<n
 ·have⟨g,o,hpa,hc⟩:=a.out A4;have b:k<l.length:=A4;have q:=hc k b;unfold Cd at q;have p:=A6 (F4 (l.take (k+1)) low=Fi low (F4 (l.take k) low) l[k]) (by rw[Akv l k b,Aqf]);generalize hx:l[k]=x at q p;change Hid _ at hc d;generalize hf:F4 (l.take k) low=f at p d⊢;subst hpa;have e:((x:Int)<low/\Fi low f x=f)\/((low:Int)<=x/\f<0/\Fi low f x=x)\/((low:Int)<=x/\0<=f/\(x:Int)<f/\Fi low f x=x)\/((low:Int)<=x/\0<=f/\f<=(x:Int)/\Fi low f x=f):=by
   unfold Fi;by_cases h1:x<low
   ·grind
   by_cases C:f<0
   ·grind
   by_cases y:(x:Int)<f
   ·grind
   grind
  rcases e with⟨j,i⟩|⟨j,r,i⟩|⟨j,r,s,i⟩|⟨j,r,s,i⟩;all_goals
   have u:=H0 (p.out.trans i);go_wp2;go_round;exact⟨k+1,AP,A4,by rw[u.out]⟩;exact AzF
 have v:=A6 (F4 (l.take k) low=F4 l low) (by rw[Bc A4]);go_wp2;go_ret;exact⟨Mt v,rfl⟩
def Xm(o:Option (Nat×Nat))(w:A7)(e:Ag)(w':A7):Prop:=e=.returned (.tuple #[.int .i64 ((o.getD (0,0)).1:Int),.int .i64 ((o.getD (0,0)).2:Int)])/\w=w'
def Aa2{o:Option (Nat×Nat)}(h:o=none):Xm o w (.returned (.tuple #[.int .i64 0,.int .i64 0])) w:=by subst h;exact⟨rfl,rfl⟩
def Abl(c:UInt8):(ER c=-1/\NP c=none)\/∃d:Nat,d<36/\ER c=(d:Int)/\NP c=some d:=by
 unfold ER;cases h:NP c with
 |none=>simp|some d=>exact .inr ⟨d,Aod h,rfl,rfl⟩
def Aw0(s:A9)(bias:Nat)(w:A7)(v:s.size<=100000000)(A:bias<=100000000):AD A8 361 #[.string s,.int .i64 (bias:Int)] w (Xm (G0 bias s 0 0 1) w):=by
 obtain⟨R,a⟩:=AI (G0 bias s 0 0 1);rw[a];replace a:=H0 a;go_in;go_wp2;go_loop[6,7,13] (λn m g=>∃k sum wt:Nat,n=.int .i64 sum/\m=.int .i64 wt/\g=.int .i64 k/\k<=s.size/\sum<=2147483647/\wt<=75161927680/\Hid (R=G0 bias (s.toList.drop k) k sum wt)) (λ_ _ g=>s.size-(intOf g).toNat)
 ·exact⟨0,0,1,rfl,rfl,rfl,AR _,A4,A4,H0 a.out.symm⟩
 obtain⟨k,sum,wt,rfl,rfl,rfl,t,x,hwt,hv⟩:=hrel;by_cases f:k<s.size
 ·have j:=Aw s k f;generalize hc:s[k]=c at j;have j4:=H0 (AwL c);have bJ:=H0 (λw=>AbM k bias w A4 A4);have h:=Ns k bias;have aF:=hv.out;rw[j,G0]at aF;generalize hbe:D6 k bias=b at bJ aF h;rcases Abl c with⟨h1,i⟩|⟨d,y,h1,i⟩
  ·rw[h1]at j4;rw[i]at aF;replace aF:=H0 aF;go_wp2_with fail;exact VZ
  rw[h1]at j4;rw[i]at aF;dsimp only at aF;obtain⟨p,hp⟩:=AI (d*wt);have u:(d:Int)*wt=(p:Int):=A4;have o:p<=2630667468800:=Al3;rw[hp]at aF;by_cases l:2147483647<sum+p
  ·rw[AC l]at aF;replace aF:=H0 aF;go_wp2_with fail;exact VZ
  rw[AA l]at aF;by_cases hdb:d<b
  ·rw[AC hdb]at aF;replace aF:=H0 aF;go_wp2_with fail;go_call j4;refine AH ?_;go_wp2_with fail;go_call bJ;refine AH ?_;go_wp2;go_ret2;exact⟨by rw[aF.out];first|rfl|(congr 4<;>simp),rfl⟩
  exact Aao
 have r:=A6 (R=none) TO;go_wp2;go_ret2;exact Aa2 r
def AuO(l:A5)(B:Nat)(w:A7)(e:Ag)(w':A7):Prop:=∃v:AJ,e=.returned v/\BM w' B 5 v l/\AF B w w'
def AvJ{bias j:Nat}(h:d<D6 j bias):FX bias (f+1) j d=[Er d]:=by rw[FX,AC h]
def AyK{bias j:Nat}(h:¬d<D6 j bias):FX bias (f+1) j d=Er (D6 j bias+(d-D6 j bias)%(36-D6 j bias))::FX bias f (j+1) ((d-D6 j bias)/(36-D6 j bias)):=by rw[FX,AA h]
def Ao8(v:AJ)(B d bias:Nat)(l:A5)(w:A7)(h:BM w B 5 v l)(p:B<=w.heap.size)(hl:l.length<=1000000000)(O:d<=2147483647)(hb:bias<=100000000):AD A8 366 #[v,.int .i64 (d:Int),.int .i64 (bias:Int)] w (AuO (l++Fu d bias) B w):=by
 obtain⟨a1,k1,c1,H⟩:∃a k c,v=.slice a k c:=by
  rcases h.2 with⟨E,_⟩|⟨g,cap,cur,E,_⟩
  ·grind
  grind
 subst H;obtain⟨R,Q⟩:=AI (Fu d bias);have s:=A6 (R=FX bias (39+1) 0 d) Q.symm;rw[Q];have n:d<10^39:=Nat.lt_of_le_of_lt O AE;replace n:=H0 n;have wL:=p;go_in;go_wp2;go_loopw[0,1,7] (λv0 J V wr=>∃(f j x:Nat)(m:A5),J=.int .i64 x/\V=.int .i64 j/\x<=2147483647/\j+f<=39/\Hid (x<10^f)/\BM wr B 5 v0 (l++m)/\B<=wr.heap.size/\AF B w wr/\Hid (R=m++FX bias (f+1) j x)/\m.length<=40/\m.length<=j) (λ_ J _ _=>(intOf J).toNat)
 ·exact⟨39,0,d,[],rfl,rfl,O,A4,n,AS,p,AU _ _,s,AN,AN⟩
 clear h s n p;obtain⟨f,j,x,m,rfl,rfl,hx,hjf,A,h,p,o,E,aY,Y⟩:=hrel;have M:=H0 (λw=>AbM j bias w A4 A4);have u:=Ns j bias;obtain⟨b,G⟩:=AI (D6 j bias);have N:=AvJ (bias:=bias) (f:=f) (j:=j) (d:=x);have T:=AyK (bias:=bias) (f:=f) (j:=j) (d:=x);rw[G]at M u N T;by_cases C:x<b
 ·have aD:=A6 (l++R=(l++m)++[Er x]) (by rw[E.out,N C,CQ]);have i:=H0 (λw=>Ad6 x w A4);go_wp2_with fail;go_call M;refine AH ?_;go_wp2_with fail;go_call i;refine AH ?_;go_wp2_with(at_builtin;refine HZ Gc rfl _ _ rfl (Er x) rfl rfl h o p rfl (by unfold BK;rw[Aa];omega) Qi ?_;intro X w' D F _);go_wp2;go_ret;exact⟨_,rfl,by rw[aD.out];exact D,F⟩
 ·cases f with
  |zero=>
   have:=A.out;omega
  |succ f=>
   have K:=Aeb u A;obtain⟨y,hy⟩:=AI (x-b);obtain⟨t,Z⟩:=AI (36-b);have I:=T C;rw[hy,Z]at I K;have W:(x:Int)-b=(y:Int):=A4;have htI:36-(b:Int)=t:=A4;obtain⟨r,S⟩:=AI (y%t);obtain⟨q,hq⟩:=AI (y/t);have U:(y:Int)%(t:Int)=r:=A4;have gO:r<t:=by rw[<-S];exact Fw _ A4
   have jW:q<=y:=Afl;rw[S,hq]at I;rw[hq]at K;have P:=A6 (R=(m++[Er (b+r)])++FX bias (f+1) (j+1) q) (by rw[E.out,I,CQ];rfl);have i:=H0 (λw=>Ad6 (b+r) w A4);have L:(b:Int)+r=((b+r:Nat):Int):=A4;generalize hz:b+r=z at i P L;go_wp2_with fail;go_call M;refine AH ?_;go_wp2_with fail;go_call i;refine AH ?_;go_wp2_with(at_builtin;refine HZ Gc rfl _ _ rfl (Er z) rfl rfl h o p rfl (by unfold BK;rw[Aa];omega) Qi ?_;intro X w' D F _);go_wp2;go_roundw;exact⟨f,j+1,q,m++[Er z],Gq,AP,A4,A4,K,AS,by have:=F.size;omega,F,P,B7,AS⟩;exact AzF
def AiO(c:Nat)(w:A7):AD A8 322 #[.int .i64 (c:Int)] w (AzJ (.bool (Ce c)) w):=by
 exact AdZ
def AiJ(j bias:Nat)(w:A7)(b:j<=1000000000)(c:bias<=1000000000):AD A8 334 #[.int .i64 (j:Int),.int .i64 (bias:Int)] w (L8 (D6 j bias:Int) w):=by
 have a:=A6 (max 1 (min 26 (36*((j:Int)+1)-(bias:Int)))=(D6 j bias:Int)) (by unfold D6;omega);go_in;go_wp2;all_goals
  go_ret;refine⟨Mt ?_,rfl⟩;first|exact a.out|(unfold D6;omega)
def AuC(c:UInt8):(10<=AQ (c:Int) 36/\AQ (c:Int) 36<=36/\ER c=AQ (c:Int) 36-10)\/(AQ (c:Int) 36<10/\0<=AQ (c:Int) 36/\ER c=AQ (c:Int) 36+26)\/(AQ (c:Int) 36<10/\AQ (c:Int) 36<0/\ER c=-1):=by
 have a:∀n:UInt8,(10<=AQ (n:Int) 36/\AQ (n:Int) 36<=36/\ER n=AQ (n:Int) 36-10)\/(AQ (n:Int) 36<10/\0<=AQ (n:Int) 36/\ER n=AQ (n:Int) 36+26)\/(AQ (n:Int) 36<10/\AQ (n:Int) 36<0/\ER n=-1):=DZ AX;have:=a c;simp_all
def AwK(c:UInt8)(w:A7):AD A8 333 #[.int .u8 (c:Int)] w (L8 (ER c) w):=by
 have d:=H0 (λw=>Eh (c:Int) 36 w (Bo c) (Bf c));have a:=AuC c;generalize ER c=v at a⊢;go_in;rcases a with⟨h1,b,rfl⟩|⟨h1,b,rfl⟩|⟨h1,b,rfl⟩;all_goals
  go_wp2_with fail;go_call d;refine AH ?_;go_wp2;go_ret;exact⟨rfl,rfl⟩
def Akd(d n:Nat)(first:Bool)(w:A7)(B:d<=2147483647)(D:1<=n)(m:n<=1000000000):AD A8 323 #[.int .i64 (d:Int),.int .i64 (n:Int),.bool first] w (L8 (Ha d n first:Int) w):=by
 have g:Hid (Ha d n first=Fp 20 (G7 d first+G7 d first/n) 0):=rfl;have p:G7 d first<=2147483647:=by unfold G7;split<;>omega
 have e:=A6 ((G7 d first:Int)=if first=true then(d:Int)/700 else(d:Int)/2) (by unfold G7;split<;>omega);generalize hae:G7 d first=a at g p e
 have r:a/n<=a:=Pf _ _;have s:(a:Int)/(n:Int)=((a/n:Nat):Int):=AN;generalize hqe:a/n=q at g r s;have u:a+q<456*35^20:=Nat.lt_of_le_of_lt (show a+q<=4294967294 by omega) AE;cases first
 all_goals
  have c:=e.out;simp[if_true,if_false]at c;have i:=c.symm;clear c e;go_in;go_wp2;go_loop[7,8] (λv0 o=>∃f x k:Nat,v0=.int .i64 x/\o=.int .i64 k/\x<456*35^f/\x<=4294967294/\k+36*f<=720/\Hid (Fp 20 (a+q) 0=Fp f x k)) (λv0 _=>(intOf v0).toNat)
  ·exact⟨20,a+q,0,AS,rfl,u,A4,A4,H0 rfl⟩
  obtain⟨f,x,k,rfl,rfl,hx,A,v,h⟩:=hrel;by_cases b:455<x
  ·cases f with
   |zero=>grind
   |succ f=>
    have C:=A6 (Fp 20 (a+q) 0=Fp f (x/35) (k+36)) (by rw[h.out,Alc b]);have y:=Qn A4;go_wp2;go_round;grind;exact AzF
  have j:=A6 (Fp 20 (a+q) 0=k+36*x/(x+38)) (by rw[h.out,AlH A4]);have t:36*(x:Int)/((x:Int)+38)=((36*x/(x+38):Nat):Int):=AN;have l:36*x/(x+38)<=36:=Nat.div_le_of_le_mul A4;generalize hze:36*x/(x+38)=z at t l j;go_wp2;go_ret;exact⟨Mt (by rw[g.out,j.out];omega),rfl⟩
def AmI(s:A9)(bias:Nat)(w:A7)(v:s.size<=100000000)(A:bias<=100000000):AD A8 321 #[.string s,.int .i64 (bias:Int)] w (Xm (G0 bias s 0 0 1) w):=by
 obtain⟨R,a⟩:=AI (G0 bias s 0 0 1);rw[a];replace a:=H0 a;go_in;go_wp2;go_loop[6,7,8] (λn m g=>∃k sum wt:Nat,n=.int .i64 sum/\m=.int .i64 wt/\g=.int .i64 k/\k<=s.size/\sum<=2147483647/\wt<=75161927680/\Hid (R=G0 bias (s.toList.drop k) k sum wt)) (λ_ _ g=>s.size-(intOf g).toNat)
 ·exact⟨0,0,1,rfl,rfl,rfl,AR _,A4,A4,H0 a.out.symm⟩
 obtain⟨k,sum,wt,rfl,rfl,rfl,t,x,hwt,hv⟩:=hrel;by_cases f:k<s.size
 ·have j:=Aw s k f;generalize hc:s[k]=c at j;have j4:=H0 (AwK c);have bJ:=H0 (λw=>AiJ k bias w A4 A4);have h:=Ns k bias;have aF:=hv.out;rw[j,G0]at aF;generalize hbe:D6 k bias=b at bJ aF h;rcases Abl c with⟨h1,i⟩|⟨d,y,h1,i⟩
  ·rw[h1]at j4;rw[i]at aF;replace aF:=H0 aF;go_wp21;exact VZ
  rw[h1]at j4;rw[i]at aF;dsimp only at aF;obtain⟨p,hp⟩:=AI (d*wt);have u:(d:Int)*wt=(p:Int):=A4;have o:p<=2630667468800:=Al3;rw[hp]at aF;by_cases l:2147483647<sum+p
  ·rw[AC l]at aF;go_wp2_with fail;exact VZ
  rw[AA l]at aF;by_cases hdb:d<b
  ·rw[AC hdb]at aF;go_wp2_with fail;go_call j4;refine AH ?_;go_wp2_with fail;go_call bJ;refine AH ?_;go_wp2;go_ret2;exact⟨AS,rfl⟩
  exact Aao
 have r:=A6 (R=none) TO;go_wp2;go_ret2;exact Aa2 r
structure AT where
 scheme:A9
 user:A9
 pass:A9
 host:E7
 hasPort:Bool
 port:Int
 flatP:Bool
 flat:A9
 pathA:Option Addr
 pathC:Nat
 path:List A9
 hasQuery:Bool
 query:A9
 hasFrag:Bool
 frag:A9
def AB(u:AT):Array AJ:= #[.string u.scheme,.string u.user,.string u.pass,.int .i64 u.host.kind,.string u.host.name,.int .u32 (u.host.four:Int),.int .u16 ((pc u.host.six 0:Nat):Int),.int .u16 ((pc u.host.six 1:Nat):Int),.int .u16 ((pc u.host.six 2:Nat):Int),.int .u16 ((pc u.host.six 3:Nat):Int),.int .u16 ((pc u.host.six 4:Nat):Int),.int .u16 ((pc u.host.six 5:Nat):Int),.int .u16 ((pc u.host.six 6:Nat):Int),.int .u16 ((pc u.host.six 7:Nat):Int),.bool u.hasPort,.int .i64 u.port,.bool u.flatP,.string u.flat,.slice u.pathA u.path.length u.pathC,.bool u.hasQuery,.string u.query,.bool u.hasFrag,.string u.frag]
def FG(l:List A9):A5:=l.flatMap λt=>47::t.toList
def GY(u:AT):A5:=if u.flatP then u.flat.toList else FG u.path
def HF(w:A7)(u:AT):Prop:=0<u.path.length->∃g o,u.pathA=some ⟨g,o,none⟩/\∀i(h:i<u.path.length),w.cell? ⟨g,o+i,none⟩=some (.string u.path[i])
variable{w':A7}{u:AT}
def HF.below{K:Nat}(h:HF w u)(hb:AF K w w')(b:w.heap.size<=K):HF w' u:=by
 intro a;have⟨g,o,e,hc⟩:=h a;exact XC
def Afs{l:List A9}(h:k<l.length):FG (l.take (k+1))=FG (l.take k)++47::l[k].toList:=by
 unfold FG;rw[Fe h,Jh];simp
def Acq(l:List A9)(k:Nat):(FG (l.take k)).length<=(FG l).length:=by
 have:FG l=FG (l.take k)++FG (l.drop k):=by unfold FG;rw[<-Jh,F7]
 rw[this,Aa];omega
def Apx(u:AT)(w:A7)(m:HF w u)(A:(FG u.path).length<=549755813888)(s:u.path.length<=BK):AD A8 46 #[.agg (AB u)] w (Bi w (GY u)):=by
 have a:=Ah w (.cells (AB u) 34);have c:AF (w.heap.size+1) (w.alloc (.cells (AB u) 34)) ((w.alloc (.cells (AB u) 34)).alloc (.cells #[.pointer none,.slice none 0 0] 76)):=(AU _ _).alloc AN _;have b:DL ((w.alloc (.cells (AB u) 34)).alloc (.cells #[.pointer none,.slice none 0 0] 76)) (w.heap.size+1) (w.heap.size+1) []:=by
  have:=DL.fresh (w.alloc (.cells (AB u) 34));simpa using this
 have j:Hid (GY u=if u.flatP then u.flat.toList else FG u.path):=rfl;unfold BK at s;replace m:=H0 m;unfold AB at a c b⊢;cases f:u.flatP
 ·rw[f]at j a c b;replace f:=H0 f;go_in;go_wp2;have q:=a.trans (c.mono A4);go_loopw[13] (λiv wr=>∃k:Nat,iv=.int .i64 k/\k<=u.path.length/\DL wr (w.heap.size+1) (w.heap.size+1) (FG (u.path.take k))/\AF w w wr/\w.heap.size+1<=wr.heap.size) (λi _=>u.path.length-(intOf i).toNat)
  ·exact⟨0,rfl,AR _,b,q,AN⟩
  obtain⟨k,rfl,y,r,d,v⟩:=hrel;clear a c b q;by_cases h:k<u.path.length
  ·have⟨g,o,hpa,hcc⟩:=m.out A4;have p:=hcc k h;have b1:=EV w _ p;have C:wr.cell? ⟨g,o+k,none⟩=some (.string u.path[k]):=(d.cell OW).trans p;have n:=Acq u.path (k+1);have l:=Afs h;have E:(FG (u.path.take k)).length+(1+u.path[k].size)<=549755813888:=by
    rw[l,Aa]at n;simp[AK]at n;omega
   have D:(k:Int)<u.path.length:=A4;replace l:=H0 l;clear hcc p b1 n;rw[hpa];go_wp2_with fail;go_call(KF _ _ _ 47 _ rfl _ r A4 v) as e w3⟨rfl,hbld3,hb3⟩;have z:=hb3.size;go_wp2_with fail;go_call Hw as e w4⟨rfl,hbld4,hb4⟩;have B:=hb4.size;go_wp2;go_roundw;exact⟨k+1,AP,A4,by rw[l.out];simpa using hbld4,(d.trans (hb3.mono A4)).trans (hb4.mono A4),A4⟩;exact AzF
  have x:=A6 (GY u=FG (u.path.take k)) (by rw[j.out,Bc A4];rfl);go_wp2_with fail;go_call Ml as e w3⟨t,rfl,ht,hb3⟩;go_wp2;go_ret;exact Be (ht.out.trans x.out.symm) (d.trans (hb3.mono A4))
 rw[f]at j a;replace f:=H0 f;clear c b;go_in;go_wp2;go_ret;exact Be (by rw[j.out];rfl) a
def HL(u:AT):A5:=if u.user.toList=[]/\u.pass.toList=[]then[]else if u.pass.toList=[]then u.user.toList++[64]else u.user.toList++[58]++u.pass.toList++[64]
def Dh(b:Bool)(l:A5):A5:=if b then l else[]
def KD(u:AT):A5:=Dh u.hasPort ([58]++Lib.itoa u.port)
def ZE:List A9->Bool
 |[]=>false|t::_=>t.toList.isEmpty
def Jt(b:Bool):b=false\/b=true:=by simp_all
def IA(u:AT):Bool:= !u.flatP&&(decide (2<=u.path.length)&&ZE u.path)
def Ft(u:AT):A5:=if u.host.kind=0 then Dh (IA u) [47,46]else[47,47]++HL u++Gm u.host++KD u
def Hj(u:AT)(f:Bool):A5:=u.scheme.toList++[58]++Ft u++GY u++Dh u.hasQuery ([63]++u.query.toList)++Dh (u.hasFrag&&f) ([35]++u.frag.toList)
structure Ls(u:AT):Prop where
 scheme:u.scheme.size<=34359738368
 user:u.user.size<=34359738368
 pass:u.pass.size<=34359738368
 name:u.host.name.size<=34359738368
 flat:u.flat.size<=34359738368
 query:u.query.size<=34359738368
 frag:u.frag.size<=34359738368
 path:(FG u.path).length<=34359738368
 pieces:u.path.length<=BK
 port: -9223372036854775808<=u.port/\u.port<=9223372036854775807
 host:Pg u.host
structure Hf(w wx:A7)(u:AT)(P:A5):Prop where
 bld:DL wx (w.heap.size+1) (w.heap.size+1) P
 below:AF w w wx
 blk:wx.heap[w.heap.size]?=some (.cells (AB u) 34 (0,0))
 size:w.heap.size+2<=wx.heap.size
variable{wx:A7}{P:A5}
def Hf.write{Q:A5}(h:Hf w wx u P)(hb:AF (w.heap.size+1) wx w')(a:DL w' (w.heap.size+1) (w.heap.size+1) Q):Hf w w' u Q:=
 ⟨a,h.below.trans (hb.mono A4),(hb.block _ A4).trans h.blk,Ks⟩
def Hf.box(h:Hf w wx u P)(i:Nat):wx.cell? ⟨w,i,none⟩=(AB u)[i]? :=BV _ _ _ _ _ _ h.blk
def MG:(A8.info? 34).map (·.size)=some 23:=AO
def Hf.keep(h:Hf w wx u P)(a:AF wx wx w'):Hf w w' u P:=
 h.write (a.mono Q2) (h.bld.keep a)
def Hf.cast{Q:A5}(h:Hf w wx u P)(e:P=Q):Hf w wx u Q:=e▸h
def AuQ(n:Int)(b: -9223372036854775808<=n)(h1:n<=9223372036854775807)(w:A7)(a:GC w):AD A8 45 #[.int .i64 n] w (Bi w (Lib.itoa n)):=by
 go_call(Tryz.strconv_Itoa n b h1 w a.1) as e w'⟨rfl,k,os,rfl⟩;exact My rfl (Lib.below_grow _ w (AG _) k os)
def Zb:∀(k u:Nat),u<10^(k+1)->(Lib.decDigits u).length<=k+1
 |0,u,h=>by rw[Lib.decDigits,dif_pos A4];simp
 |k+1,u,h=>by
  rw[Lib.decDigits];split
  ·simp
  have:=Zb k (u/10) Ak0;rw[Aa];simp;omega
def TX(n:Int)(a: -9223372036854775808<=n)(h1:n<=9223372036854775807):(Lib.itoa n).length<=40:=by
 unfold Lib.itoa;split
 ·have:=Zb 19 n.natAbs A4;simp;omega
 have:=Zb 19 n.toNat A4;omega
def ArO(u:AT)(w:A7)(h1:u.user.size<=34359738368)(f:u.pass.size<=34359738368):AD A8 43 #[.agg (AB u)] w (Bi w (HL u)):=by
 have a:=Ah w (.cells (AB u) 34);unfold AB at a⊢;have c:(u.user.toList.isEmpty=true/\u.pass.toList.isEmpty=true/\Hid (HL u=[]))\/(u.user.toList.isEmpty=false/\u.pass.toList.isEmpty=true/\Hid (HL u=u.user.toList++[64]))\/(u.pass.toList.isEmpty=false/\Hid (HL u=u.user.toList++[58]++u.pass.toList++[64])):=by
  cases hu:u.user.toList<;>cases hp:u.pass.toList
  ·exact .inl ⟨rfl,rfl,H0 MJ⟩
  ·exact .inr (.inr ⟨rfl,H0 MJ⟩)
  ·exact .inr (.inl ⟨rfl,rfl,H0 MJ⟩)
  exact .inr (.inr ⟨rfl,H0 MJ⟩)
 rcases c with⟨e,d,b⟩|⟨e,d,b⟩|⟨d,b⟩
 ·go_in;go_wp2_with fail;go_ret;exact Be ((toList_mk []).trans b.out.symm) a
 ·go_in;go_wp2_with fail;go_ret;exact Be (by rw[b.out,toList_append,show(ByteArray.mk #[64]).toList=[64]from toList_mk _]) a
 ·cases hu:u.user.toList.isEmpty;all_goals
   go_in;go_wp2_with fail;go_ret;exact Be (by rw[b.out,toList_append,toList_append,toList_append,show(ByteArray.mk #[64]).toList=[64]from toList_mk _,show(ByteArray.mk #[58]).toList=[58]from toList_mk _]) a
def Ae0(l:List A9)(h:0<l.length):ZE l=l[0].toList.isEmpty:=by
 cases l with
 |nil=>simp at h|cons t r=>rfl
def Qh(u:AT):(AB u)[0]?=some (.string u.scheme)/\(AB u)[1]?=some (.string u.user)/\(AB u)[2]?=some (.string u.pass)/\(AB u)[3]?=some (.int .i64 u.host.kind)/\(AB u)[4]?=some (.string u.host.name)/\(AB u)[5]?=some (.int .u32 (u.host.four:Int))/\(AB u)[6]?=some (.int .u16 ((pc u.host.six 0:Nat):Int))/\(AB u)[7]?=some (.int .u16 ((pc u.host.six 1:Nat):Int))/\(AB u)[8]?=some (.int .u16 ((pc u.host.six 2:Nat):Int))/\(AB u)[9]?=some (.int .u16 ((pc u.host.six 3:Nat):Int))/\(AB u)[10]?=some (.int .u16 ((pc u.host.six 4:Nat):Int))/\(AB u)[11]?=some (.int .u16 ((pc u.host.six 5:Nat):Int))/\(AB u)[12]?=some (.int .u16 ((pc u.host.six 6:Nat):Int))/\(AB u)[13]?=some (.int .u16 ((pc u.host.six 7:Nat):Int))/\(AB u)[14]?=some (.bool u.hasPort)/\(AB u)[15]?=some (.int .i64 u.port)/\(AB u)[16]?=some (.bool u.flatP)/\(AB u)[17]?=some (.string u.flat)/\(AB u)[18]?=some (.slice u.pathA u.path.length u.pathC)/\(AB u)[19]?=some (.bool u.hasQuery)/\(AB u)[20]?=some (.string u.query)/\(AB u)[21]?=some (.bool u.hasFrag)/\(AB u)[22]?=some (.string u.frag):=
 ⟨rfl,rfl,rfl,rfl,rfl,rfl,rfl,rfl,rfl,rfl,rfl,rfl,rfl,rfl,rfl,rfl,rfl,rfl,rfl,rfl,rfl,rfl,rfl⟩
def WX(u:AT)(h1:u.user.size<=34359738368)(a:u.pass.size<=34359738368):(HL u).length<=68719476738:=by
 unfold HL;split
 ·simp
 split<;>simp[Aa,BC,Ep,AK]<;>omega
def Sq(h:E7)(a:h.name.size<=34359738368):(Gm h).length<=34359738368:=by
 have h1:=AjV h.four;have b:=XA h.six;unfold Gm;split
 ·rw[AK];exact a
 split
 ·omega
 exact OH
def Aiq(u:AT)(a:Ls u):(Ft u).length<=103079215300:=by
 have h1:=WX u a.user a.pass;have c:=Sq u.host a.name;have b:=TX u.port a.port.1 a.port.2;unfold Ft KD Dh;split
 ·split<;>simp
 exact OH
def PL(u:AT)(f:Bool)(w:A7)(r:HF w u)(d:Ls u)(H:GC w):AD A8 17 #[.agg (AB u),.bool f] w (Bi w (Hj u f)):=by
 have hI:Hf w ((w.alloc (.cells (AB u) 34)).alloc (.cells #[.pointer none,.slice none 0 0] 76)) u []:=by
  refine⟨?_,(Ah _ _).alloc AN _,heap_alloc2_old w _ _,AN⟩;have:=DL.fresh (w.alloc (.cells (AB u) 34));simpa using this
 have f1:=d.scheme;have f2:=d.query;have f3:=d.frag;have Y:=d.path;have R:=d.flat;have W:=WX u d.user d.pass;have x:=Sq u.host d.name;have Z:=Aiq u d;have z:(GY u).length<=34359738368:=by
  unfold GY;split
  ·rw[AK];exact R
  exact Y
 replace r:=H0 r;have E:Hid (Hj u f=u.scheme.toList++[58]++Ft u++GY u++Dh u.hasQuery ([63]++u.query.toList)++Dh (u.hasFrag&&f) ([35]++u.frag.toList)):=rfl;have⟨x0,x1,x2,x3,x4,x5,x6,x7,x8,x9,x10,x11,x12,x13,x14,x15,x16,x17,x18,x19,x20,x21,x22⟩:=Qh u;go_in;go_wp2_with fail;refine(Hw _ _ _ _ _ hI.bld AN A4 IR).mono ?_;rintro e w1⟨rfl,b,a⟩;have hI:=hI.write a b;clear b a;rw[Do]at hI;go_wp2_with fail;refine(KF _ _ _ 58 _ rfl _ hI.bld Dy IR).mono ?_;rintro e V⟨rfl,b,a⟩;have hI:=hI.write a b;clear b a;have c:=hI.box;go_upto_if 13 with(fail);go_cut[] (λwx=>Hf w wx u (u.scheme.toList++[58]++Ft u));case first=>as_aux_lemma=>
  clear c;by_cases p:u.host.kind=0
  ·have P:(u.host.kind !=0)=false:=by simp[p]
   have Q:(u.flatP=true/\IA u=false)\/(u.flatP=false/\(u.path.length:Int)<2/\IA u=false)\/(u.flatP=false/\2<=(u.path.length:Int)/\∃g o t,u.pathA=some ⟨g,o,none⟩/\V.cell? ⟨g,o,none⟩=some (.string t)/\t.toList.isEmpty=IA u):=by
    unfold IA;cases hfl:u.flatP
    ·by_cases N:2<=u.path.length
     ·have S:=r.out.below hI.below (AG _);obtain⟨g,o,U,hc⟩:=S A4;have T:=hc 0 A4;refine .inr (.inr ⟨rfl,A4,g,o,u.path[0],U,T,?_⟩);rw[Ae0 u.path A4];simp[N]
     exact .inr (.inl ⟨rfl,A4,by simp[N]⟩)
    exact .inl ⟨rfl,rfl⟩
   have n:=A6 (Ft u=Dh (IA u) [47,46]) (by unfold Ft;rw[AC p]);clear p;have c:=hI.box;rcases Q with⟨M,q⟩|⟨M,q,v⟩|⟨M,q,g,o,t0,v,d4,G⟩
   ·replace q:=H0 q;go_wp2_with fail;go_meet;exact hI.cast (by rw[n.out,q.out];simp[Dh])
   ·replace v:=H0 v;go_wp2_with fail;go_meet;exact hI.cast (by rw[n.out,v.out];simp[Dh])
   rcases Jt (IA u)with i|i
   ·rw[i]at G;replace i:=H0 i;go_wp2_with fail;go_meet;exact hI.cast (by rw[n.out,i.out];simp[Dh])
   rw[i]at G;replace i:=H0 i;go_wp2_with fail;refine(Hw _ _ _ ⟨#[47,46]⟩ _ hI.bld KC AE IR).mono ?_;rintro e s⟨rfl,b,a⟩;replace hI:=hI.write a b;clear b a c;go_wp2_with fail;go_meet;exact hI.cast (by rw[n.out,i.out,show(ByteArray.mk #[47,46]).toList=[47,46]from toList_mk _];simp[Dh])
  have P:(u.host.kind !=0)=true:=by simp[p]
  have n:=A6 (Ft u=[47,47]++HL u++Gm u.host++KD u) (by unfold Ft;rw[AA p]);clear p;go_wp2_with fail;refine(Hw _ _ _ ⟨#[47,47]⟩ _ hI.bld KC AE IR).mono ?_;rintro e s⟨rfl,b,a⟩;replace hI:=hI.write a b;rw[show(ByteArray.mk #[47,47]).toList=[47,47]from toList_mk _]at hI;clear b a;go_wp2_with(refine Cg rfl 34 _ rfl w rfl _ (AB u) _ _ hI.blk underlying34 rfl MG ?_);refine(ArO u _ d.user d.pass).mono ?_;rintro e L⟨O,rfl,m,a⟩;replace hI:=hI.keep a;have k:=OQ m W;clear a;go_wp2_with fail;refine(Hw _ _ _ _ _ hI.bld KC A4 IR).mono ?_;rintro e K⟨rfl,b,a⟩;replace hI:=hI.write a b;clear b a;have c:=hI.box;have j:=H.next hI.below;go_wp2_with fail;refine(AkJ u.host d.host _ j).mono ?_;rintro e J⟨t2,rfl,y,a⟩;replace hI:=hI.keep a;have I:=OQ y x;clear a c j;go_wp2_with fail;refine(Hw _ _ _ _ _ hI.bld KC A4 IR).mono ?_;rintro e X⟨rfl,b,a⟩;replace hI:=hI.write a b;clear b a;rcases Jt u.hasPort with C|C
  ·have c:=hI.box;go_wp2_with fail;go_meet;exact hI.cast (by rw[n.out,m.out,y.out];simp[KD,Dh,C])
  have B:=A6 (KD u=[58]++Lib.itoa u.port) (by simp[KD,Dh,C]);have c:=hI.box;go_wp2_with fail;refine(KF _ _ _ 58 _ rfl _ hI.bld KC IR).mono ?_;rintro e s⟨rfl,b,a⟩;replace hI:=hI.write a b;clear b a c;have c:=hI.box;have j:=H.next hI.below;go_wp2_with fail;refine(AuQ u.port d.port.1 d.port.2 _ j).mono ?_;rintro e s⟨t3,rfl,l,a⟩;replace hI:=hI.keep a;have F:=OQ l (TX u.port d.port.1 d.port.2);clear a c;go_wp2_with fail;refine(Hw _ _ _ _ _ hI.bld KC A4 IR).mono ?_;rintro e L⟨rfl,b,a⟩;replace hI:=hI.write a b;clear b a;go_wp2_with fail;go_meet;exact hI.cast (by rw[n.out,m.out,y.out,l.out,B.out];simp)
 ·clear hI c;replace hI:=hcut;clear hcut;have c:=hI.box;go_wp2_with(refine Cg rfl 34 _ rfl w rfl _ (AB u) _ _ hI.blk underlying34 rfl MG ?_);refine(Apx u _ (r.out.below hI.below (AG _)) A4 d.pieces).mono ?_;rintro e s⟨O,rfl,m,a⟩;replace hI:=hI.keep a;have k:=OQ m z;clear a c;go_wp2_with fail;refine(Hw _ _ _ _ _ hI.bld KC A4 IR).mono ?_;rintro e L⟨rfl,b,a⟩;replace hI:=hI.write a b;rw[m.out]at hI;clear b a m k;have c:=hI.box;go_upto_if 50 with(fail);go_cut[] (λwx=>Hf w wx u (u.scheme.toList++[58]++Ft u++GY u++Dh u.hasQuery ([63]++u.query.toList)));case first=>as_aux_lemma=>
   rcases Jt u.hasQuery with h|h
   ·rw[h];go_wp2_with fail;go_meet;exact hI.cast (by rw[h];simp[Dh])
   rw[h];go_wp2_with fail;refine(KF _ _ _ 63 _ rfl _ hI.bld KC IR).mono ?_;rintro e K⟨rfl,b,a⟩;replace hI:=hI.write a b;clear b a c;have c:=hI.box;go_wp2_with fail;refine(Hw _ _ _ _ _ hI.bld KC A4 IR).mono ?_;rintro e J⟨rfl,b,a⟩;replace hI:=hI.write a b;clear b a c;go_wp2_with fail;go_meet;exact hI.cast (by rw[h];simp[Dh])
  ·clear hI c;replace hI:=hcut;clear hcut;have c:=hI.box;have jW:(Dh u.hasQuery ([63]++u.query.toList)).length<=34359738369:=by
    unfold Dh;split<;>simp[AK]<;>omega
   go_upto_region 17 with fail;go_cut[59] (λA wx=>A=.bool (u.hasFrag&&f)/\Hf w wx u (u.scheme.toList++[58]++Ft u++GY u++Dh u.hasQuery ([63]++u.query.toList)));case first=>as_aux_lemma=>
    rcases Jt u.hasFrag with h|h
    ·go_wp2_with fail;go_meet;exact⟨by rw[h];rfl,hI⟩
    go_wp2_with fail;go_meet;exact⟨by rw[h];rfl,hI⟩
   case' rest=>
    clear hI c;obtain⟨rfl,hI⟩:=hcut;have c:=hI.box
   go_upto_if 59 with(fail);go_cut[] (λwx=>Hf w wx u (Hj u f));case first=>as_aux_lemma=>
    rcases Jt (u.hasFrag&&f)with h|h
    ·rw[h];go_wp2_with fail;go_meet;exact hI.cast (by rw[E.out,h];simp[Dh])
    rw[h];go_wp2_with fail;refine(KF _ _ _ 35 _ rfl _ hI.bld KC IR).mono ?_;rintro e K⟨rfl,b,a⟩;replace hI:=hI.write a b;clear b a c;have c:=hI.box;go_wp2_with fail;refine(Hw _ _ _ _ _ hI.bld KC A4 IR).mono ?_;rintro e J⟨rfl,b,a⟩;replace hI:=hI.write a b;clear b a c;go_wp2_with fail;go_meet;exact hI.cast (by rw[E.out,h];simp[Dh])
   ·clear hI c;replace hI:=hcut;clear hcut;go_wp2_with fail;refine(Ml _ _ _ _ hI.bld IR).mono ?_;rintro e X⟨t,rfl,D,a⟩;go_wp2_with fail;go_ret;exact Be D (hI.below.trans (a.mono A4))
end Go.Proofs.YtonomfeipkdmhaaGreatDoor
namespace Go.Proofs.YtonomfeipkdmhaaGreatDoor
open Go renaming maxLen->BK,World->A7,Value->AJ
open Go.Proofs.Tryz
open Go.Proofs.Tryz renaming prog->A8
open Go.RowKit Go.ChangeShapes Go.WideShapes
def Apj:A8.cellsOf 9=1:=AO
def AnD{Q:Nat->A9->Prop}{n:Nat}(h:∀i,i<n->∃s,Q i s):∃l:List A9,l.length=n/\∀i(b:i<l.length),Q i l[i]:=by
 refine⟨(List.range n).map λi=>if b:i<n then Classical.choose (h i b)else ByteArray.empty,AN,λi b=> ?_⟩;have a:i<n:=by simp_all
 simp[List.getElem_map,List.getElem_range,a];exact Classical.choose_spec (h i a)
def AxG{w:A7}{a:Addr}{v:AJ}(h:w.cells? 0 a 1=some [v]):w.cell? a=some v:=by
 have e:=(World.cells?_some h).2.2 0 AE;have e0:a.add 0=a:=by simp[Addr.add]
 rw[e0]at e;simpa using e
def Asy{α:Type}{a b:α}(h:[a]=[b]):a=b:=(HY h).1
def AuT{w:A7}{x:Addr}{v:AJ}(h:w.cell? (x.add 0)=some v):x=⟨x.block,x.off,none⟩:=by
 have h:w.cell? x=some v:=h;have⟨b,o,s⟩:=x;cases s with
 |none=>rfl
 |some q=>
  simp only[World.cell?]at h;split at h
  ·simp at h
  ·cases h
section
variable {H:Type} {enc:TypeId × Value→H} {w:World} {base:Nat} {sp:Nat→Bool} {held:Bool}
def AtB{n:Nat}{c:AJ}{x:DataW H×List MemPlace}(h:DataW.trod enc A8 w 0 sp held n 22 [c]=some x):∃(a:Option Addr)(k:Nat)(l:List A9),c=.slice a l.length k/\(0<l.length->∃g o,a=some ⟨g,o,none⟩/\∀i(j:i<l.length),w.cell? ⟨g,o+i,none⟩=some (.string l[i]))/\l.length<=BK/\(∀t∈l,t.size<=BK)/\(a=none->k=0):=by
 rcases DataW.trod_slice underlying22 h with⟨hc,-⟩|⟨a,len,f,b,rest,m,rfl,hc,-,A,z,y,v,hx,-⟩
 ·obtain rfl:c=.slice none 0 0:=Oi;exact⟨none,0,[],rfl,λh=>absurd h AE,AR _,λt d=>absurd d AN,λ_=>rfl⟩
 obtain rfl:c=.slice (some a) len f:=Oi;have q:∀i,i<len->∃s:A9,w.cell? (a.add i)=some (.string s)/\s.size<=BK:=by
  intro i j;have e:=hx i j;rw[Cs (show i<b.length by omega)]at e;simp[Apj,Nat.mul_one]at e;have⟨cs,hcs,d⟩:=Option.bind_eq_some_iff.1 e;obtain⟨s,rfl,-,r⟩:=DataW.trod_string underlying9 d;exact⟨s,AxG hcs,r⟩
 have⟨l,hll,hlc⟩:=AnD q;subst hll;refine⟨some a,f,l,rfl,λu=> ?_,A4,λt d=> ?_,λh=>C5⟩
 ·have p:=AuT ((hlc 0 u).1);refine⟨a.block,a.off,by rw[<-p],λi j=> ?_⟩;have:=(hlc i j).1;rw[p]at this;have B:(⟨a.block,a.off,none⟩:Addr).add i=⟨a.block,a.off+i,none⟩:=by cases i<;>simp[Addr.add]
  grind
 obtain⟨i,j,rfl⟩:=O5 d;grind
end
end Go.Proofs.YtonomfeipkdmhaaGreatDoor
namespace Go.Proofs.YtonomfeipkdmhaaGreatDoor
open Go renaming Program->Dj,World->A7,Calls->AD,Value->AJ,TypeId->Ab,Ending->Ag
open Go.RowKit renaming Below->AF
open Go.RowKit Go.Proofs.Tryz
open Go.Proofs.Tryz renaming prog->A8
def su1(a:Nat):AT:=⟨⟨#[97]⟩,⟨#[]⟩,⟨#[]⟩,⟨0,⟨#[]⟩,0,[0,0,0,0,0,0,0,0]⟩,false,0,false,⟨#[]⟩,some ⟨a,0,none⟩,2,[⟨#[]⟩,⟨#[98]⟩],false,⟨#[]⟩,false,⟨#[]⟩⟩
def su2(a:Nat):AT:=⟨⟨#[104,116,116,112]⟩,⟨#[117]⟩,⟨#[112]⟩,⟨2,⟨#[104]⟩,0,[0,0,0,0,0,0,0,0]⟩,true,81,false,⟨#[]⟩,some ⟨a,0,none⟩,2,[⟨#[120]⟩,⟨#[]⟩],true,⟨#[]⟩,true,⟨#[102]⟩⟩
def su3(a:Nat):AT:=⟨⟨#[100,97,116,97]⟩,⟨#[]⟩,⟨#[]⟩,⟨0,⟨#[]⟩,0,[0,0,0,0,0,0,0,0]⟩,false,0,true,⟨#[47,47,120]⟩,some ⟨a,0,none⟩,1,[⟨#[121]⟩],false,⟨#[]⟩,false,⟨#[]⟩⟩
def su4(a:Nat):AT:=⟨⟨#[102,105,108,101]⟩,⟨#[]⟩,⟨#[]⟩,⟨1,⟨#[]⟩,0,[0,0,0,0,0,0,0,0]⟩,false,0,false,⟨#[]⟩,some ⟨a,0,none⟩,1,[⟨#[]⟩],false,⟨#[]⟩,false,⟨#[]⟩⟩
def su5:AT:=⟨⟨#[97]⟩,⟨#[]⟩,⟨#[112]⟩,⟨4,⟨#[]⟩,0,[0,0,0,0,0,0,0,0]⟩,false,0,false,⟨#[]⟩,none,0,[],false,⟨#[]⟩,false,⟨#[]⟩⟩
structure ZM(w wx:A7):Prop where
 below:AF w w wx
 size:w.heap.size+9<=wx.heap.size
 b1:wx.heap[w.heap.size+1]?=some (.cells (AB (su1 w)) 34 (0,0))
 b2:wx.heap[w.heap.size+1+1+1]?=some (.cells (AB (su2 (w.heap.size+1+1))) 34 (0,0))
 b3:wx.heap[w.heap.size+1+1+1+1+1]?=some (.cells (AB (su3 (w.heap.size+1+1+1+1))) 34 (0,0))
 b4:wx.heap[w.heap.size+1+1+1+1+1+1+1]?=some (.cells (AB (su4 (w.heap.size+1+1+1+1+1+1))) 34 (0,0))
 b5:wx.heap[w.heap.size+1+1+1+1+1+1+1+1]?=some (.cells (AB su5) 34 (0,0))
 p1:HF wx (su1 w)
 p2:HF wx (su2 (w.heap.size+1+1))
 p3:HF wx (su3 (w.heap.size+1+1+1+1))
 p4:HF wx (su4 (w.heap.size+1+1+1+1+1+1))
variable{w wx w':A7}
def ZM.keep(h:ZM w wx)(a:AF wx wx w'):ZM w w':=by
 have b:=h.size;exact⟨h.below.next a,by have:=a.size;omega,(a.block _ A4).trans h.b1,(a.block _ A4).trans h.b2,(a.block _ A4).trans h.b3,(a.block _ A4).trans h.b4,(a.block _ A4).trans h.b5,
  h.p1.below a (AG _),h.p2.below a (AG _),h.p3.below a (AG _),h.p4.below a (AG _)⟩
structure Dq(w wx:A7)(u:AT):Prop where
 below:AF w w wx
 blk:wx.heap[w.heap.size]?=some (.cells (AB u) 34 (0,0))
 size:w.heap.size+1<=wx.heap.size
def Dq.start(w:A7)(u:AT):Dq w (w.alloc (.cells (AB u) 34)) u:=⟨Ah _ _,TU rfl,AN⟩
variable{u:AT}
def Dq.keep(h:Dq w wx u)(hb:AF wx wx w'):Dq w w' u:=
 ⟨h.below.next hb,(hb.block _ h.size).trans h.blk,Ks⟩
def Dq.alloc(h:Dq w wx u)(o:Obj):Dq w (wx.alloc o) u:=h.keep ((AU _ _).alloc (AG _) o)
def Dq.box(h:Dq w wx u)(i:Nat):wx.cell? ⟨w,i,none⟩=(AB u)[i]? :=BV _ _ _ _ _ _ h.blk
def toList_inj{s t:A9}(h:s.toList=t.toList):s=t:=(U6 h).trans (U6 rfl).symm
open Go.Maps (Keyed IsMap)
open Go.WideMaps Go.WideElems
def JB:List (A5×A5×Int):=[([97],[104,114,101,102],1),([97,114,101,97],[104,114,101,102],1),([108,105,110,107],[104,114,101,102],1),([105,109,103],[115,114,99],1),([105,109,103],[108,111,110,103,100,101,115,99],1),([115,99,114,105,112,116],[115,114,99],1),([105,102,114,97,109,101],[115,114,99],1),([101,109,98,101,100],[115,114,99],1),([111,98,106,101,99,116],[100,97,116,97],1),([118,105,100,101,111],[115,114,99],1),([118,105,100,101,111],[112,111,115,116,101,114],1),([97,117,100,105,111],[115,114,99],1),([115,111,117,114,99,101],[115,114,99],1),([116,114,97,99,107],[115,114,99],1),([105,110,112,117,116],[115,114,99],1),([105,110,112,117,116],[102,111,114,109,97,99,116,105,111,110],1),([98,117,116,116,111,110],[102,111,114,109,97,99,116,105,111,110],1),([102,111,114,109],[97,99,116,105,111,110],1),([98,108,111,99,107,113,117,111,116,101],[99,105,116,101],1),([113],[99,105,116,101],1),([105,110,115],[99,105,116,101],1),([100,101,108],[99,105,116,101],1),([98,111,100,121],[98,97,99,107,103,114,111,117,110,100],1),([105,109,103],[115,114,99,115,101,116],2),([115,111,117,114,99,101],[115,114,99,115,101,116],2),([108,105,110,107],[105,109,97,103,101,115,114,99,115,101,116],2),([109,101,116,97],[99,111,110,116,101,110,116],3)]
def Dz(k:Nat):AJ:=.agg #[.string ⟨(JB.getD k ([],[],0)).1.toArray⟩,.string ⟨(JB.getD k ([],[],0)).2.1.toArray⟩]
def I6(k:Nat):Int:=(JB.getD k ([],[],0)).2.2
def XV(e n:A5):AJ:=.agg #[.string ⟨e.toArray⟩,.string ⟨n.toArray⟩]
def Ami:laidOutB A8=true:=AO
def Avo:(91:Ab)<A8.types.size:=Mb AO
def Auf:(match A8.underlying 91 with|some (.array _ _)|some (.struct _)=>true|_=>false)=true:=AO
def Aoq:KeyLaw A8 91:=deep_law_laid Ami (m:=2) A4 Avo AO Auf
def AcW:Keyed A8 91:=Keyed.of_law Aoq
def Ic(e n:A5):Lit:=.string (keyBytes [.string e,.string n])
def Ayp:∀k,k<27->keyOf A8 91 (Dz k)=some (Ic (JB.getD k ([],[],0)).1 (JB.getD k ([],[],0)).2.1):=by
 intro k a;have h:(List.range 27).map (λk=>keyOf A8 91 (Dz k))=(List.range 27).map (λk=>some (Ic (JB.getD k ([],[],0)).1 (JB.getD k ([],[],0)).2.1)):=AO;simp_all
def QK(k:Nat):Lit:=Ic (JB.getD k ([],[],0)).1 (JB.getD k ([],[],0)).2.1
def G9(d:Nat->Bool):Array Bool:=Array.ofFn (n:=57) λi=>if i.val<=54 then(if i.val%2=0/\2<=i.val then d (i.val/2-1)else true)else false
def Gj(d:Nat->Bool)(k:Nat):Nat->Bool:=λj=>if j=k then true else d j
def PG(d:Nat->Bool)(i:Nat)(h:i<57)(x:Bool):(G9 d).getD i x=if i<=54 then(if i%2=0/\2<=i then d (i/2-1)else true)else false:=by
 unfold G9;simp_all
def AsY(d:Nat->Bool)(k:Nat)(f:k<27):(G9 d).setIfInBounds (2*k+2) true=G9 (Gj d k):=by
 apply P4;intro i;rw[Array.getElem?_setIfInBounds];have g:(G9 d).size=57:=by simp[G9]
 by_cases e:2*k+2=i
 ·rw[AC e,AC A4];unfold G9;rw[RH,dif_pos A4];dsimp only;rw[AC A4,AC A4];unfold Gj;grind
 rw[AA e];unfold G9;rw[RH,RH];by_cases a:i<57
 ·rw[dif_pos a,dif_pos a];dsimp only;by_cases b:i<=54
  ·rw[AC b,AC b];by_cases c:i%2=0/\2<=i
   ·rw[AC c,AC c];unfold Gj;grind
   grind
  grind
 grind
def Adi(d:Nat->Bool)(k:Nat):∀l:List Nat,l.Nodup->k∈l->d k=false->(l.filter (λj=> !(Gj d k j))).length+1=(l.filter (λj=> !(d j))).length
 |[],_,h,_=>C5
 |x::l,hn,h,hd=>by
  rw[List.nodup_cons]at hn;by_cases hx:x=k
  ·subst hx;have e:l.filter (λj=> !(Gj d x j))=l.filter (λj=> !(d j)):=by
    apply List.filter_congr;intro j b;unfold Gj;rw[AA (λe=>hn.1 AS)]
   rw[EB,AA (by unfold Gj;rw[AC rfl];decide),EB,AC AS,e,BC]
  have a:k∈l:=by
   rcases Bn.1 h with e|e
   ·grind
   exact e
  have c:=Adi d k l hn.2 a hd;have e:Gj d k x=d x:=by unfold Gj;rw[AA hx]
  rw[EB,EB,e];cases d x
  ·grind
  ·assumption
def Od(d:Nat->Bool):Nat:=((List.range 27).filter λj=> !(d j)).length
def ZH(d:Nat->Bool)(k:Nat)(a:k<27)(b:d k=false):Od (Gj d k)+1=Od d:=Adi d k _ List.nodup_range (List.mem_range.2 a) b
variable{d:Nat->Bool}
def Aqe(h:Od d=0):∀k,k<27->d k=true:=by
 intro k a;cases hd:d k with
 |true=>rfl
 |false=>
  have:=ZH d k a hd;omega
def Pa(k:Nat):Oper:={dst:=none,op:=Op.insert 88 (.tmp 1) (.tmp (k+2)) (.const (.int .i64 (I6 k))),type:=0,pos:= "class.go:22",after:= #[{on:=0,ground:= .data},{on:=2*k+1,ground:= .data}],guard:=none}
variable{ops:Array Oper}
def AvC{i:Nat}(j:ops.size=57)(f:∃o,ops[55]?=some o/\((List.range 27).all λk=>o.after.any λe=>(e.on==2*k+2)&&Region.binds .any e)=true)(c:∃o,ops[56]?=some o/\(o.after.any λe=>(e.on==55)&&Region.binds .any e)=true)(g:i∈Region.ready .any ops (G9 d)):(∃k,k<27/\i=2*k+2/\d k=false)\/∀k,k<27->d k=true:=by
 unfold Region.ready at g;rw[Ii,List.mem_range,j,C0]at g;have⟨h57,hl,hr⟩:=g;rw[PG d i h57]at hl;by_cases h:i<=54
 ·by_cases n:i%2=0/\2<=i
  ·exact .inl ⟨i/2-1,A4,A4,AS⟩
  simp_all
 have l:i=55\/i=56:=A4;rcases l with rfl|rfl
 ·have⟨o,ho,ha⟩:=f;rw[ho]at hr;have a:∀e∈o.after,(!Region.binds .any e||(G9 d).getD e.on false)=true:=by
   exact Ai8
  right;intro k m;have⟨e,he,hb⟩:=Array.any_eq_true'.1 (Et.1 ha k (List.mem_range.2 m));rw[C0,CW]at hb;have b:=a e he;rw[hb.1,PG d _ A4]at b;simp_all
 have⟨o,ho,ha⟩:=c;rw[ho]at hr;have a:∀e∈o.after,(!Region.binds .any e||(G9 d).getD e.on false)=true:=by
  exact Ai8
 have⟨e,he,hb⟩:=Array.any_eq_true'.1 ha;rw[C0,CW]at hb;have b:=a e he;rw[hb.2,hb.1,PG d _ A4]at b;cases b
variable{P:Dj}{Q:Exit->Act->A7->Prop}{a:Act}
def AeR{I:(Nat->Bool)->A7->Prop}(v:ops.size=57)(p:∀k,k<27->ops[2*k+2]?=some (Pa k))(f:∃o,ops[55]?=some o/\((List.range 27).all λk=>o.after.any λe=>(e.on==2*k+2)&&Region.binds .any e)=true)(g:∃o,ops[56]?=some o/\(o.after.any λe=>(e.on==55)&&Region.binds .any e)=true)(u:∀d w k,k<27->d k=false->I d w->(Pa k).wp P a w (λq w'=>q=a/\I (Gj d k) w') Q)(b:∀d w,(∀k,k<27->d k=true)->I d w->wpAny P .any ops Q 2 (G9 d) a w):∀n d w,Od d=n->I d w->wpAny P .any ops Q (n+2) (G9 d) a w
 |0,d,w,hn,hI=>b d w (Aqe hn) hI
 |n+1,d,w,hn,hI=>by
  have m:∃k,k<27/\d k=false:=by
   cases hq:(List.range 27).filter (λj=> !(d j))with
   |nil=>unfold Od at hn;rw[hq]at hn;cases hn
   |cons x r=>
    have hx:x∈(List.range 27).filter (λj=> !(d j)):=by simp_all
    grind
  refine⟨λz=> ?_,λi A=> ?_⟩
  ·have⟨k,c,h⟩:=m;have s:2*k+2∈Region.ready .any ops (G9 d):=by
    unfold Region.ready;rw[Ii,List.mem_range,C0];refine⟨A4,?_,?_⟩
    ·rw[PG d _ A4,AC A4,AC A4,show _/2-1=k by omega,h];rfl
    rw[p k c];show((Pa k).after.all λe=> !Region.binds .any e||(G9 d).getD e.on false)=true;rw[Array.all_eq_true'];intro e y;have hc:e={on:=0,ground:=.data}\/e={on:=2*k+1,ground:=.data}:=by simpa[Pa]using y
    rcases hc with rfl|rfl
    ·rw[PG d _ AS];simp
    rw[PG d _ (by dsimp only;omega),AC (by dsimp only;omega)];simp
   rw[z]at s;cases s
  rcases AvC v f g A with⟨k,c,rfl,h⟩|t
  ·unfold wpOp;rw[p k c];refine .inl (Oper.wp_mono ?_ (u d w k c h hI));rintro q w'⟨e,l⟩;subst q;rw[AsY d k c];exact AeR v p f g u b n _ w' (by have:=ZH d k c h;omega) l
  grind
def Ac7{k:Ab}{R:AJ->Option (DataW Unit×List MemPlace)}{b n:Nat}{D:DataW Unit}(h:w.ownsMap P k R b n D)(a:AF w w w'):w'.ownsMap P k R b n D:=by
 have⟨es,clock,h1,h2⟩:=h;exact⟨es,clock,(a.block b (En.1 h1).1).trans h1,h2⟩
def z64:DataW Unit:=.lit (.int .i64 0)
def M3(kq:Option Nat)(d:Nat->Bool):Int:=match kq with|none=>0|some k=>if d k=true then I6 k else 0
structure WK(B:Nat)(w0:A7)(b:Nat)(lq:Lit)(kq:Option Nat)(d:Nat->Bool)(w:A7):Prop where
 own:∃D m,w.ownsMap A8 91 (plainElem A8 3) b m D/\m+Od d<=27/\IsMap D/\D.atKey lq z64=.lit (.int .i64 (M3 kq d))
 below:AF B w0 w
def QE(e n:A5)(kq:Option Nat):Prop:=∀k,k<27->(QK k=Ic e n↔kq=some k)
def AvD:∀k,(Lit.int .i64 (I6 k)).wf=true:=by
 intro k;by_cases a:k<27
 ·have h:((List.range 27).all λk=>(Lit.int .i64 (I6 k)).wf)=true:=AX;grind
 have:I6 k=0:=by unfold I6;rw[LS,QF (by show 27<=k;omega)];rfl
 rw[this];decide
def Acr{e n:A5}{a:Option Nat}(b:QE e n a){k:Nat}(c:k<27):(QK k=Ic e n->M3 a (Gj d k)=I6 k)/\(QK k≠Ic e n->M3 a (Gj d k)=M3 a d):=by
 constructor
 ·intro h;rw[(b k c).1 h];show(if Gj d k k=true then I6 k else 0)=I6 k;rw[AC (by unfold Gj;rw[AC rfl])]
 intro h;cases a with
 |none=>rfl
 |some j=>
  have f:j≠k:=λe=>h ((b k c).2 (by rw[e]));show(if Gj d k j=true then I6 j else 0)=(if d j=true then I6 j else 0);unfold Gj;grind
def Ar8{B b:Nat}{w0:A7}{e n:A5}{g:Option Nat}(h:QE e n g){k:Nat}(c:k<27)(l:d k=false)(q:B<=b)(h1:a.eval (.tmp 1)=.map (some b))(p:a.eval (.tmp (k+2))=Dz k)(i:WK B w0 b (Ic e n) g d w):(Pa k).wp A8 a w (λj w'=>j=a/\WK B w0 b (Ic e n) g (Gj d k) w') Q:=by
 have⟨D,m,hown,hm,hD,hat⟩:=i.own;have hc:=ZH d k c l;have⟨w',hrun,hown',hg⟩:=hown.update AcW underlying88 C1 (Ayp k c) (plainElem_int underlying3 (AvD k));have r:=hown.lt;unfold Oper.wp;have o:a.eval (.const (.int .i64 (I6 k)))=.int .i64 (I6 k):=rfl;simp[execOp,Pa,h1,p,o,hrun];refine⟨rfl,⟨_,m+1,hown',A4,hD.put _ _,?_⟩,i.below.grown hg A4 (λk c=> ?_)⟩
 ·by_cases f:QK k=Ic e n
  ·rw[(Acr h c).1 f,<-f];exact Maps.atKey_put_same hD (by trivial) _ _
  rw[(Acr h c).2 f,<-hat];exact Maps.atKey_put_other (λe=>f e.symm) _ _
 simp_all
open Go.Maps (Keyed IsMap)
open Go.WideMaps Go.WideElems
def Awp{b:Region.Mode}{f:Nat}{L L':Array Bool}(e:L=L')(h:wpAny P b ops Q f L' a w):wpAny P b ops Q f L a w:=e▸h
def Ass(h:∀k,k<27->d k=true):G9 d=G9 (λ_=>true):=by
 apply P4;intro i;unfold G9;rw[RH,RH];by_cases a:i<57
 ·rw[dif_pos a,dif_pos a];dsimp only;by_cases b:i<=54
  ·by_cases c:i%2=0/\2<=i
   ·rw[AC c,AC c,h _ A4]
   rw[AA c,AA c]
  rw[AA b,AA b]
 rw[dif_neg a,dif_neg a]
def Ags{α:Type}{f g:Nat->α}(h:(List.range 27).map f=(List.range 27).map g):∀k,k<27->f k=g k:=by simp_all
def Axi(e n:A5)(kq:Option Nat)(w:A7)(r:Ag)(w':A7):Prop:=
 ∃b D m,r=.returned (.map (some b))/\w'.ownsMap A8 91 (plainElem A8 3) b m D/\D.atKey (Ic e n) z64=.lit (.int .i64 (M3 kq λ_=>true))/\AF w w w'
def ApQ{a:Option Nat}(b:∀k,a=some k->k<27)(h:∀k,k<27->d k=true):M3 a d=M3 a λ_=>true:=by
 cases a with
 |none=>rfl|some k=>show(if d k=true then I6 k else 0)=(if true=true then I6 k else 0);rw[h k (b k rfl)]
def tqa{b d:Nat}{e:Region.Mode}{f:Array Bool}{g:Act}(i:Nat)(v:AJ){op ty pos after guard}(h:wpAny P e ops Q b (f.setIfInBounds i true) g w)(h1:ops[i]?=some ⟨some d,op,ty,pos,after,guard⟩:=by rfl)(p:Region.noSelect ops=true:=by kernel_rfl)(k:Region.free e ops f i=true:=by kernel_rfl)(n:(Region.ready e ops f).contains i=true:=by kernel_rfl)(l:Region.wanted (⟨some d,op,ty,pos,after,guard⟩:Oper) (yielded ops a.tmps)=true:=by rfl)(o:∀c a w,Q (.panic c) (a.put (some d) v) w->Q (.panic c) a w:=by exactλ_ _ _ h=>h)(m:∀w,(execOp a.eval ⟨some d,op,ty,pos,after,guard⟩).run P w=.ok (.value v) w:=by intro w;kernel_rfl)(j:a.put (some d) v=g:=by(try simp only[Jg]);rfl):wpAny P e ops Q (b+1) f a w:=by
 subst j;exact wpAny_take h1 p k n o (Or.inl ⟨l,m⟩) h
def RdW(e n:A5)(b:Option Nat)(p:QE e n b)(o:∀k,b=some k->k<27)(w:A7):AD A8 52 #[] w (Axi e n b w):=by
 go_in;go_upto_region 1 with(fail);refine wp_region_noPanic ?_;refine wp_region_any AO ?_;refine tqa 1 (Dz 0) ?_;refine tqa 3 (Dz 1) ?_;refine tqa 5 (Dz 2) ?_;refine tqa 7 (Dz 3) ?_;refine tqa 9 (Dz 4) ?_;refine tqa 11 (Dz 5) ?_;refine tqa 13 (Dz 6) ?_;refine tqa 15 (Dz 7) ?_;refine tqa 17 (Dz 8) ?_;refine tqa 19 (Dz 9) ?_;refine tqa 21 (Dz 10) ?_;refine tqa 23 (Dz 11) ?_;refine tqa 25 (Dz 12) ?_;refine tqa 27 (Dz 13) ?_;refine tqa 29 (Dz 14) ?_;refine tqa 31 (Dz 15) ?_;refine tqa 33 (Dz 16) ?_;refine tqa 35 (Dz 17) ?_;refine tqa 37 (Dz 18) ?_;refine tqa 39 (Dz 19) ?_;refine tqa 41 (Dz 20) ?_;refine tqa 43 (Dz 21) ?_;refine tqa 45 (Dz 22) ?_;refine tqa 47 (Dz 23) ?_;refine tqa 49 (Dz 24) ?_;refine tqa 51 (Dz 25) ?_;refine tqa 53 (Dz 26) ?_;refine wpAny_ready (rs:=[0]) AO AN ?_;refine AllReady.cons rfl (λK a=> ?_) AllReady.nil;go_simp;simp only[run_makeMap,QS];refine a _ _ ?_;clear a K;try simp only[Hy]
 refine Awp (L':=G9 (λ_=>false)) AO ?_;refine AeR (I:=WK w w w (Ic e n) b) rfl ?_ ?_ ?_ ?_ ?_ 27 _ _ AE ?_
 ·exact Ags AO
 iterate 2
  ·exact⟨_,rfl,AO⟩
 ·intro d q k l j i;exact Ar8 p l j (AG _) rfl (Ags (f:=λk=>Act.eval _ (.tmp (k+2))) AO k l) i
 ·intro d q j i;obtain⟨D,m,g,-,-,c⟩:=i.own;have h:=i.below;rw[ApQ o j]at c;rw[Ass j];clear i;refine wpAny_ready (rs:=[55]) AO AN ?_;refine AllReady.cons rfl (λK a=> ?_) AllReady.nil;go_simp;refine a _ _ ?_;clear a K;refine wpAny_ready (rs:=[56]) AO AN ?_;refine AllReady.cons rfl (λK a=> ?_) AllReady.nil;go_simp;refine a _ _ ?_;clear a K;refine wpAny_done AO ?_ _;refine NoPanic.normal ?_;go_wp2;go_ret;exact⟨_,D,m,rfl,g,c,h⟩
 refine⟨⟨.map [],0,?_,AE,Maps.isMap_empty,?_⟩,(AU _ _).drew.alloc (AG _) _⟩
 ·exact World.ownsMap_made w.drew _ _ _
 ·cases b<;>rfl
def Adh{s t:A9}{l:A5}(h:t.toList=BH s)(a:BH s.toList=l):t=⟨l.toArray⟩:=Lo ((h.trans a).trans (toList_mk l).symm)
def YQ(s t:A9)(e n:A5)(i:Option Nat)(x:Int)(l:BH s.toList=e)(o:BH t.toList=n)(q:s.size<=1000)(v:t.size<=1000)(u:QE e n i)(p:∀k,i=some k->k<27)(hx:M3 i (λ_=>true)=x)(h:keyOf A8 91 (XV e n)=some (Ic e n))(w:A7):AD A8 21 #[.string s,.string t] w λr w'=>r=.returned (.int .i64 x)/\AF w w w':=by
 have f:AF w w w:=AU _ _;go_in;go_wp2_with fail;go_call RdW as r w1⟨b,D,m,rfl,a,hat,hb⟩;have f:=f.next hb;clear hb;go_wp2_with fail;go_call NM as r w2⟨j,rfl,he1,hb⟩;have f:=f.next hb;have a:=Ac7 a hb;clear hb;obtain rfl:=Adh he1 l;go_wp2_with fail;go_call NM as r w3⟨n1,rfl,hn1,hb⟩;have f:=f.next hb;have a:=Ac7 a hb;clear hb;obtain rfl:=Adh hn1 o;obtain⟨c,g,d,-⟩:=a.lookup_int AcW underlying88 underlying3 AO h;have hc:c=x:=by
  have j:=d.symm.trans hat;rw[hx]at j;cases j;rfl
 subst hc;unfold XV at g;clear d hat a he1 hn1 h;go_wp2;go_ret;exact⟨rfl,f⟩
end Go.Proofs.YtonomfeipkdmhaaGreatDoor
