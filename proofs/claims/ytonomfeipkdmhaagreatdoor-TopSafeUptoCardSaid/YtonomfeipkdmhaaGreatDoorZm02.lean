/- Lemmas. -/
import Derived.Test.YtonomfeipkdmhaaGreatDoorZm00
import Derived.Lib.DecodeNEq
import Derived.Lib.MapLaws
import Derived.Lib.TrimU
set_option linter.all false
set_option maxRecDepth 100000
set_option maxHeartbeats 16000000
namespace Go.Proofs.YtonomfeipkdmhaaGreatDoor
open Go renaming World->A7,Calls->AD,Value->AJ,TypeId->Ab,Ending->Ag
open Go.RowKit renaming Below->AF
open Go.RowKit Go.Proofs.Tryz
open Go.Proofs.Tryz renaming prog->A8
def CL(c:Int):Bool:=c==9||c==10||c==12||c==13||c==32
def CE(c:Int):Bool:=decide (65<=c/\c<=90)||decide (97<=c/\c<=122)
def PP(c:Int):Int:=if 48<=c/\c<=57 then c-48 else if 97<=c/\c<=122 then c-87 else if 65<=c/\c<=90 then c-55 else -1
def AQ(c base:Int):Int:=if PP c≥base then -1 else PP c
def Ds(c:UInt8):UInt8:=if 65<=c.toNat/\c.toNat<=90 then UInt8.ofNat (c.toNat+32)else c
def BH(l:A5):A5:=l.map Ds
variable{c:UInt8}
def AgQ(h:65<=(c:Int))(a:(c:Int)<=90):(c:Int)-65+97=((Ds c).toNat:Int):=by
 unfold Ds;rw[AC ⟨A4,A4⟩];simp;omega
def Aax(h:¬(65<=(c:Int)/\(c:Int)<=90)):Ds c=c:=by
 unfold Ds;rw[AA A4]
variable{k:Nat}{s:A9}
def Al2{l:A5}(b:k<s.size)(a:l=BH (s.toList.take k))(hc:c=Ds s[k]):l++[c]=BH (s.toList.take (k+1)):=by
 rw[DX _ _ b,a,hc];simp[BH]
def Gc:Fs A8 25 5 (.int .u8 0) 1:=.mk' underlying25 AO rfl
def KE(c:Int)(w:A7):AD A8 110 #[.int .u8 c] w (AzJ (.bool (CL c)) w):=by
 exact Ajn
def Hs(c:Int)(w:A7):AD A8 128 #[.int .u8 c] w (AzJ (.bool (CL c)) w):=by
 exact Ajn
def LG(c:Int)(w:A7):AD A8 154 #[.int .u8 c] w (AzJ (.bool (CE c)) w):=by
 exact Ac2
def Ol(c:Int)(w:A7):AD A8 187 #[.int .u8 c] w (AzJ (.bool (CE c)) w):=by
 exact Ac2
def GS(c b:Int)(w:A7)(a:0<=c)(h1:c<=255):AD A8 155 #[.int .u8 c,.int .i64 b] w (AzJ (.int .i64 (AQ c b)) w):=by
 exact Agz
def Eh(c b:Int)(w:A7)(a:0<=c)(h1:c<=255):AD A8 132 #[.int .u8 c,.int .i64 b] w (AzJ (.int .i64 (AQ c b)) w):=by
 exact Agz
def O1(s:A9)(w:A7)(n:s.size<=1099511627776):AD A8 32 #[.string s] w (Bi w (BH s)):=by
 go_in;go_wp2;go_loopw[3,4] (λv i wr=>∃(k:Nat)(l:A5),k<=s.size/\i=.int .i64 k/\Hid (l=BH (s.toList.take k))/\l.length<=k/\BM wr w 5 v l/\AF w w wr) (λ_ i _=>s.size-(intOf i).toNat)
 ·exact AiH
 obtain⟨k,l,m,rfl,hl,j,hown,hbel⟩:=hrel;have e:=hbel.size;by_cases b:k<s.size
 ·have o:=Bo s[k];have h1:=Bf s[k];by_cases c:65<=(s[k].toNat:Int)/\(s[k].toNat:Int)<=90
  ·have⟨hu1,hu2⟩:=c;go_wp2_with(at_builtin;refine HZ Gc rfl _ _ rfl (Ds s[k]) rfl rfl hown hbel e (AgQ hu1 hu2) C1 A4 ?_;intro g w' a d _);go_roundw;exact⟨k+1,_,A4,AP,Al2 b hl rfl,B7,a,d⟩;exact AzF
  have h:=H0 (Aax c);have f:¬65<=(s[k].toNat:Int)\/¬(s[k].toNat:Int)<=90:=A4;clear c;rcases f with c|c;all_goals
   go_wp2_with(at_builtin;refine HZ Gc rfl _ _ rfl s[k] rfl rfl hown hbel e rfl C1 A4 ?_;intro g w' a d _);go_roundw;exact⟨k+1,_,A4,AP,Al2 b hl h.out.symm,B7,a,d⟩;exact AzF
 exact Ajw
def Ke(c:UInt8):Bool:= !(c.toNat==9||c.toNat==10||c.toNat==13)
def HM(l:A5):A5:=l.filter Ke
def Xb(h:(c:Int)=9\/(c:Int)=10\/(c:Int)=13):Ke c=false:=by simp[Ke];omega
def AoD(h:¬((c:Int)=9\/(c:Int)=10\/(c:Int)=13)):Ke c=true:=by simp[Ke];omega
def Av6{l:A5}(b:k<s.size)(a:l=HM (s.toList.take k))(hc:Ke s[k]=false):l=HM (s.toList.take (k+1)):=by
 rw[DX _ _ b,a];simp[HM,hc]
def Ask{l:A5}(b:k<s.size)(a:l=HM (s.toList.take k))(hc:Ke s[k]=true):l++[s[k]]=HM (s.toList.take (k+1)):=by
 rw[DX _ _ b,a];simp[HM,hc]
def AxW(s:A9)(w:A7)(c:s.size<=1099511627776):AD A8 115 #[.string s] w (Bi w (HM s)):=by
 go_in;go_wp2;go_loopw[3,4] (λv i wr=>∃(k:Nat)(l:A5),k<=s.size/\i=.int .i64 k/\Hid (l=HM (s.toList.take k))/\l.length<=k/\BM wr w 5 v l/\AF w w wr) (λ_ i _=>s.size-(intOf i).toNat)
 ·exact AiH
 obtain⟨k,l,b,rfl,hl,a,hown,hbel⟩:=hrel;have aP:=hbel.size;exact Aad
def Apv(s:A9)(w:A7)(g:s.size<=1099511627776):AD A8 89 #[.string s] w (Bi w (HM s)):=by
 have⟨i0,hi,hz0,hz1,hz2⟩:=Gc.i;go_in;go_wp2_with(at_make;refine wpList_make_own _ rfl _ _ 25 rfl w 5 i0 (.int .u8 0) 1 underlying25 hi hz0 hz1 _ _ _ s.size rfl rfl rfl (by rw[hz2];omega) C1 (AG _) ?_;intro e d b);have a:AF w w e:=(AU _ _).grown b (AG _) (λk c=>by cases c);clear b;go_loopw[3,11] (λv i wr=>∃(k:Nat)(l:A5),k<=s.size/\i=.int .i64 k/\Hid (l=HM (s.toList.take k))/\l.length<=k/\BM wr w 5 v l/\AF w w wr) (λ_ i _=>s.size-(intOf i).toNat)
 ·exact⟨0,[],AR _,rfl,rfl,AR _,d,a⟩
 obtain⟨k,l,c,rfl,hl,f,hown,hbel⟩:=hrel;have aP:=hbel.size;clear d a;exact Aad
def Axs{l:A5}(b:k<s.size)(c:l=BH (s.toList.take k)++s.toList.drop k):l.set k (Ds s[k])=BH (s.toList.take (k+1))++s.toList.drop (k+1):=by
 have a:(BH (s.toList.take k)).length=k:=by simp[BH,AK];omega
 rw[c,List.set_append_right _ _ A4,a,Aw _ _ b,DX _ _ b];simp[BH]
def AqB{l:A5}(a:k<s.size)(b:l=BH (s.toList.take k)++s.toList.drop k)(hc:Ds s[k]=s[k]):l=BH (s.toList.take (k+1))++s.toList.drop (k+1):=by
 rw[b,Aw _ _ a,DX _ _ a];simp[BH,hc]
def Ay1{l:A5}(c:k<s.size)(b:l=BH (s.toList.take k)++s.toList.drop k):∃h:k<l.length,l[k]=s[k]:=by
 have a:(BH (s.toList.take k)).length=k:=by simp[BH,AK];omega
 subst b;refine⟨by simp[AK];omega,?_⟩;rw[List.getElem_append_right A4];simp[a,Nat.sub_self,Aw _ _ c,List.getElem_cons_zero]
def NM(s:A9)(w:A7)(u:s.size<=1099511627776):AD A8 53 #[.string s] w (Bi w (BH s)):=by
 have n:=λ(w:A7)(s:A9)=>Lib.run_convert_string_bytes (P:=A8) w 9 25 5 s underlying9 underlying25 underlying5;have j:=IX.made w 5 s;have m:=Below.bytesWorld (AU w w) (AG _) 5 s;go_in;go_wp2;clear n;go_loopw[10] (λi wr=>∃(k:Nat)(l:A5),k<=s.size/\i=.int .i64 k/\Hid (l=BH (s.toList.take k)++s.toList.drop k)/\IX wr w 5 l/\AF w w wr) (λi _=>s.size-(intOf i).toNat)
 ·exact⟨0,_,AR _,rfl,H0 (by simp[BH]),j,m⟩
 obtain⟨k,l,t,rfl,g,f,a⟩:=hrel;clear j m;by_cases d:k<s.size
 ·have v:=Bo s[k];have h1:=Bf s[k];have⟨hkl,hat⟩:=Ay1 d g;have c:=f.cell k hkl;have h:=f.free k hkl;rw[hat,DS]at c;clear hat;by_cases e:65<=(s[k].toNat:Int)/\(s[k].toNat:Int)<=90
  ·have⟨hu1,hu2⟩:=e;have p:=f.set k hkl (Ds s[k]);have e:=H0 (AgQ hu1 hu2);go_wp2;go_roundw;exact⟨k+1,_,A4,AP,Axs d g,by rw[e.out];exact p,a.setCell (AG _) _⟩;exact AzF
  have r:=H0 (Aax e);have o:¬65<=(s[k].toNat:Int)\/¬(s[k].toNat:Int)<=90:=A4;clear e;rcases o with e|e;all_goals
   go_wp2;go_roundw;exact⟨k+1,_,A4,AP,AqB d g r,f,a⟩;exact AzF
 have b:l.length=s.size:=by rw[g.out];simp[BH,AK];omega
 have q:=Ate (P:=A8) (S:=9) underlying25 underlying5 underlying9 f s.size (grownCap w s.size 0 5) b.symm;clear b;go_wp2;go_ret;exact My (by rw[g.out,Fh _ _ A4,CP _ _ A4,Bq]) a
def BR(c:UInt8):Bool:=decide (c<32)||decide (126<c)
def Avv(c:UInt8):Bool:=[32,34,60,62,96].contains c||BR c
def Pw(c:UInt8):Bool:=[32,34,35,60,62].contains c||BR c
def At0(c:UInt8):Bool:=c==39||Pw c
def Afk(c:UInt8):Bool:=[63,94,96,123,125].contains c||Pw c
def Axx(c:UInt8):Bool:=[47,58,59,61,64,91,92,93,124].contains c||Afk c
def Bv(set:Nat)(c:UInt8):Bool:=match set with
 |0=>BR c|1=>Avv c|2=>Pw c|3=>At0 c|4=>Afk c|5=>Axx c|_=>false
def Kk(d:Nat):UInt8:=if d<10 then UInt8.ofNat (48+d)else UInt8.ofNat (55+d)
def Dd(set:Nat)(c:UInt8):A5:=if Bv set c=true then[37,Kk (c.toNat/16),Kk (c.toNat%16)]else[c]
def Ai(set:Nat)(l:A5):A5:=l.flatMap (Dd set)
def Rb(set:Nat)(l:A5)(c:UInt8):Ai set (l++[c])=Ai set l++Dd set c:=by unfold Ai;rw[Jh];simp
def Atg(set:Nat)(c:UInt8):(Dd set c).length<=3:=by unfold Dd;split<;>simp
def I3(set:Nat):∀l,(Ai set l).length<=3*l.length
 |[]=>AG _
 |c::r=>by
  have h1:=Atg set c;have a:=I3 set r;show(Dd set c++Ai set r).length<=_;exact WQ
def AxB:∀(set:Fin 6)(n:Fin 256),(Dd set.val (UInt8.ofNat n.val)).all (λc=> !Bv set.val c)=true:=AX
def O2{set:Nat}(a:set<6){l:A5}:∀c∈Ai set l,Bv set c=false:=by
 intro c hc;have⟨d,hd,hc⟩:=LK.1 hc;have h:=AxB ⟨set,a⟩ ⟨d.toNat,d.toNat_lt⟩;simp only[RZ]at h;simpa using Et.1 h c hc
def Nj{set:Nat}:∀{l:A5},(∀c∈l,Bv set c=false)->Ai set l=l
 |[],_=>rfl
 |c::r,h=>by
  show Dd set c++Ai set r=_;rw[Nj (λx hx=>h x (Cr _ hx))];unfold Dd;rw[AA (by rw[h c (CC ..)];decide)];rfl
def JK(c:UInt8):Option Nat:=if AQ (c:Int) 16<0 then none else some (AQ (c:Int) 16).toNat
def Bt:A5->A5
 |[]=>[]
 |c::r=>match r with
  |a::b::q=>if c=37 then(match JK a,JK b with|some x,some y=>UInt8.ofNat (x*16+y)::Bt q|_,_=>c::Bt (a::b::q))else c::Bt (a::b::q)|[a]=>c::Bt [a]|[]=>[c]
def Vs:∀{l:A5},(∀c∈l,c≠37)->Bt l=l
 |[],_=>rfl|[a],_=>rfl|[a,b],h=>rfl
 |c::a::b::q,h=>by
  rw[Bt,AA (h c (CC ..)),Vs (λx hx=>h x (Cr _ hx))]
def Av:A5:=[102,105,108,101]
def Ar(s:A5):Bool:=[[102,116,112],Av,[104,116,116,112],[104,116,116,112,115],[119,115],[119,115,115]].contains s
def Kh(s:A5):Option Nat:=if s=[102,116,112]then some 21 else if s=[104,116,116,112]\/s=[119,115]then some 80 else if s=[104,116,116,112,115]\/s=[119,115,115]then some 443 else none
def Hx(c:UInt8):Bool:=CE (c:Int)
def E6:A5->Bool
 |[a,b]=>Hx a&&(b==58||b==124)|_=>false
def Fo:A5->Bool
 |[a,b]=>Hx a&&b==58|_=>false
def K0:A5->Bool
 |a::b::r=>E6 [a,b]&&(match r with|[]=>true|c::_=>[47,92,63,35].contains c)|_=>false
def Nx(r:A5):Option (A5):=match r with
 |b::e::q=>if b=50/\(e=101\/e=69)then some q else none|_=>none
def HX:A5->Option (A5)
 |[]=>none|c::r=>if c=46 then some r else if c=37 then Nx r else none
def Lu(c:UInt8)(r:A5):HX (c::r)=if c=46 then some r else if c=37 then Nx r else none:=rfl
def EG(s:A5):Bool:=HX s==some []
def G1(s:A5):Bool:=match HX s with|some r=>EG r|none=>false
def LN:List (A5)->Bool
 |[p]=>Fo p|_=>false
def CK(scheme:A5)(path:List (A5)):List (A5):=if(scheme==Av&&LN path)=true then path else path.dropLast
def B8(sp:Bool)(c:UInt8):Bool:=c==47||(sp&&c==92)
def Bs(p:UInt8->Bool):A5->List (A5)
 |[]=>[[]]
 |c::r=>if p c=true then[]::Bs p r else match Bs p r with
  |[]=>[[c]]|q::qs=>(c::q)::qs
def O9(p:UInt8->Bool):∀l,Bs p l≠[]
 |[]=>by simp[Bs]
 |c::r=>by
  rw[Bs];split
  ·simp
  ·cases h:Bs p r<;>simp
def AiP(p:UInt8->Bool):∀l,∀q∈Bs p l,∀c∈q,p c=false
 |[],q,b,c,hc=>by rw[Bs,CO]at b;subst b;cases hc
 |d::r,q,b,c,hc=>by
  have e:=AiP p r;rw[Bs]at b;cases hd:p d
  ·simp_all;cases h:Bs p r with
   |nil=>grind
   |cons a qs=>
    rw[h]at b e;rcases Bn.1 b with rfl|b
    ·rcases Bn.1 hc with rfl|hc
     ·exact hd
     grind
    grind
  rw[hd]at b;rcases Bn.1 b with rfl|b
  ·cases hc
  grind
def Aff{p:UInt8->Bool}:∀{l:A5},(∀c∈l,p c=false)->Bs p l=[l]
 |[],_=>rfl|c::r,h=>by rw[Bs,AA AS,Aff (λx hx=>h x (Cr _ hx))]
def Zr{p:UInt8->Bool}{d:UInt8}(a:p d=true):∀{l:A5}(r:A5),(∀c∈l,p c=false)->Bs p (l++d::r)=l::Bs p r
 |[],r,_=>by rw[Do,Bs,AC a]|c::l,r,h=>by rw[Di,Bs,AA AS,Zr a r (λx hx=>h x (Cr _ hx))]
def Gh(scheme:A5)(out:List (A5))(p:A5)(last:Bool):List (A5):=
 if G1 p=true then(if last=true then CK scheme out++[[]]else CK scheme out)
 else if EG p=true then(if last=true then out++[[]]else out)
 else if(scheme==Av&&out.isEmpty&&E6 p)=true then out++[p.take 1++[58]]
 else out++[Ai 4 p]
def Dk(scheme:A5):List (A5)->List (A5)->List (A5)
 |out,[]=>out|out,p::r=>Dk scheme (Gh scheme out p r.isEmpty) r
def DE(scheme:A5)(path:List (A5))(s:A5):List (A5):=Dk scheme path (Bs (B8 (Ar scheme)) s)
structure Pn(sp:Bool)(p:A5):Prop where
 slash:∀c∈p,B8 sp c=false
 set:∀c∈p,Bv 4 c=false
 dot:EG p=false
 dots:G1 p=false
structure Cn(scheme:A5)(path:List (A5)):Prop where
 each:∀p∈path,Pn (Ar scheme) p
 drive:(scheme==Av)=true->∀p r,path=p::r->E6 p=true->Fo p=true
def Cn.nil(a:A5):Cn a []:=⟨λp b=>(nomatch b),λ_ p r h=>(nomatch h)⟩
def Aay(a:Bool):Pn a []:=⟨λc hc=>(nomatch hc),λc hc=>(nomatch hc),rfl,rfl⟩
def RP(c:UInt8):(Bv 4 c=false/\Dd 4 c=[c])\/(Bv 4 c=true/\∃a b,Dd 4 c=[37,a,b]/\¬(a=50/\(b=101\/b=69))):=by
 cases h:Bv 4 c
 ·exact .inl ⟨rfl,by unfold Dd;rw[h];rfl⟩
 refine .inr ⟨rfl,Kk (c.toNat/16),Kk (c.toNat%16),by unfold Dd;rw[h];rfl,?_⟩;have d:∀n:UInt8,Bv 4 n=true->¬(Kk (n.toNat/16)=50/\(Kk (n.toNat%16)=101\/Kk (n.toNat%16)=69)):=DZ AX;have:=d c;simp_all
variable{r:A5}
def Ue{p:A5}{a:UInt8}(h:Ai 4 p=a::r)(d:a≠37):∃q,p=a::q/\Ai 4 q=r:=by
 cases p with
 |nil=>cases h
 |cons c q=>
  have b:Dd 4 c++Ai 4 q=a::r:=h;rcases RP c with⟨-,e⟩|⟨-,x,y,e,-⟩
  ·grind
  grind
theorem AbE{p:A5}(h:HX (Ai 4 p)=some r):∃q,HX p=some q/\Ai 4 q=r:=by
 cases p with
 |nil=>cases h
 |cons c q=>
  have e0:Ai 4 (c::q)=Dd 4 c++Ai 4 q:=rfl;rcases RP c with⟨hc,e⟩|⟨hc,x,y,e,j⟩
  ·have i:Ai 4 (c::q)=c::Ai 4 q:=by rw[e0,e];rfl
   rw[i,Lu]at h;rw[Lu];by_cases a:c=46
   ·grind
   rw[AA a]at h⊢;by_cases d:c=37
   ·rw[AC d]at h⊢;unfold Nx at h;split at h
    ·rename_i b f q2 hq;split at h
     ·rename_i hh;have⟨h2,h3⟩:=hh;obtain⟨m,rfl,k⟩:=Ue hq AS;obtain⟨l,rfl,g⟩:=Ue k (by rcases h3 with rfl|rfl<;>decide);exact⟨l,by unfold Nx;dsimp only;rw[AC ⟨h2,h3⟩],AS⟩
     ·cases h
    ·cases h
   grind
  have f:Ai 4 (c::q)=37::x::y::Ai 4 q:=by rw[e0,e];rfl
  rw[f,Lu]at h;unfold Nx at h;dsimp only at h;rw[AA j]at h;cases h
theorem AaZ{p:A5}(h:EG (Ai 4 p)=true):EG p=true:=by
 unfold EG at h⊢;rw[CW]at h⊢;have⟨q,hq,he⟩:=AbE h;rw[hq];cases q with
 |nil=>rfl
 |cons c q=>
  have e0:Ai 4 (c::q)=Dd 4 c++Ai 4 q:=rfl;rw[e0]at he;rcases RP c with⟨-,e⟩|⟨-,x,y,e,-⟩<;>rw[e]at he<;>cases he
def Ana{p:A5}(h:G1 (Ai 4 p)=true):G1 p=true:=by
 unfold G1 at h⊢;cases hb:HX (Ai 4 p)with
 |none=>grind
 |some r=>
  grind[AbE,AaZ]
def ArP(a:Bool){p:A5}(h:∀c∈p,B8 a c=false):∀c∈Ai 4 p,B8 a c=false:=by
 intro c hc;have⟨d,hd,hc⟩:=LK.1 hc;rcases RP d with⟨-,e⟩|⟨b,x,y,e,-⟩
 ·simp_all
 have f:∀(a:Bool)(n:Fin 256),Bv 4 (UInt8.ofNat n.val)=true->(Dd 4 (UInt8.ofNat n.val)).all (λc=> !B8 a c)=true:=AX;have:=f a ⟨d.toNat,d.toNat_lt⟩;simp only[RZ]at this;grind
def Anv{a:Bool}{p:A5}(h:∀c∈p,B8 a c=false)(h1:EG p=false)(b:G1 p=false):Pn a (Ai 4 p):=by
 refine⟨ArP a h,O2 AE,?_,?_⟩
 ·cases hd:EG (Ai 4 p)
  ·rfl
  rw[AaZ hd]at h1;cases h1
 ·cases hd:G1 (Ai 4 p)
  ·rfl
  rw[Ana hd]at b;cases b
def SD{p:A5}(h:E6 p=true):∃a b,p=[a,b]/\Hx a=true/\(b=58\/b=124):=by
 unfold E6 at h;split at h
 ·grind
 ·cases h
def AlW(b:Bool){a:UInt8}(h:Hx a=true):B8 b a=false/\Bv 4 a=false/\a≠46/\a≠37:=by
 have c:∀(b:Bool)(n:Fin 256),Hx (UInt8.ofNat n.val)=true->B8 b (UInt8.ofNat n.val)=false/\Bv 4 (UInt8.ofNat n.val)=false/\UInt8.ofNat n.val≠46/\UInt8.ofNat n.val≠37:=AX;have:=c b ⟨a.toNat,a.toNat_lt⟩;simp_all
def AfV(b:Bool){a:UInt8}(h:Hx a=true):Pn b [a,58]:=by
 have⟨h1,h2,h3,h4⟩:=AlW b h;have d:HX [a,58]=none:=by rw[Lu,AA h3,AA h4]
 refine⟨λc hc=> ?_,λc hc=> ?_,by unfold EG;rw[d];rfl,by unfold G1;rw[d]⟩
 ·rcases Bn.1 hc with rfl|hc
  ·exact h1
  rw[CO.1 hc];exact by cases b<;>rfl
 rcases Bn.1 hc with rfl|hc
 ·exact h2
 rw[CO.1 hc];rfl
def Cn.drop{c:A5}{d:List (A5)}(h:Cn c d):Cn c d.dropLast:=by
 refine⟨λp f=>h.each p ((SE _).mem f),λhf p r e g=> ?_⟩;cases d with
 |nil=>cases e
 |cons a qs=>
  cases qs with
  |nil=>cases e
  |cons b bs=>
   rw[List.dropLast_cons_cons,Jr]at e;exact h.drive hf p (b::bs) (by rw[e.1]) g
def Cn.up{a:A5}{b:List (A5)}(h:Cn a b):Cn a (CK a b):=by
 unfold CK;split
 ·exact h
 exact h.drop
def Cn.snoc{b:A5}{c:List (A5)}(h:Cn b c){p:A5}(f:Pn (Ar b) p)(g:(b==Av)=true->c=[]->E6 p=true->Fo p=true):Cn b (c++[p]):=by
 refine⟨λq d=> ?_,λhf q r e d=> ?_⟩
 ·rcases BL.1 d with d|d
  ·exact h.each q d
  grind
 ·cases c with
  |nil=>
   grind
  |cons a qs=>
   rw[Di,Jr]at e;exact h.drive hf q qs (by rw[e.1]) d
def Ax0{p:A5}(h:E6 (Ai 4 p)=true):E6 p=true:=by
 have⟨a,b,e,ha,hb⟩:=SD h;obtain⟨q,rfl,f⟩:=Ue e (AlW false ha).2.2.2;obtain⟨g,rfl,d⟩:=Ue f (by rcases hb with rfl|rfl<;>decide);cases g with
 |nil=>grind
 |cons c q3=>
  have e0:Ai 4 (c::q3)=Dd 4 c++Ai 4 q3:=rfl;rw[e0]at d;rcases RP c with⟨-,e⟩|⟨-,x,y,e,-⟩<;>rw[e]at d<;>cases d
def Ar1{d:A5}{out:List (A5)}{p:A5}{f:Bool}(h:Cn d out)(i:∀c∈p,B8 (Ar d) c=false):Cn d (Gh d out p f):=by
 unfold Gh;split
 ·split
  ·exact h.up.snoc (Aay _) (λ_ _ e=>LW)
  exact h.up
 rename_i h1;split
 ·split
  ·exact h.snoc (Aay _) (λ_ _ e=>LW)
  exact h
 rename_i h2;split
 ·rename_i h3;rw[C0]at h3;obtain⟨a,b,rfl,g,-⟩:=SD h3.2;exact h.snoc (AfV _ g) (λ_ _ _=>by show(Hx a&&true)=true;rw[g];rfl)
 rename_i h3;refine h.snoc (Anv i AS AS) (λhf j k=> ?_);exact absurd (by rw[hf,j,Ax0 k];rfl) h3
def AfA{a:A5}:∀(b:List (A5)){out:List (A5)},Cn a out->(∀p∈b,∀c∈p,B8 (Ar a) c=false)->Cn a (Dk a out b)
 |[],out,h,_=>h|p::r,out,h,hp=>AfA r (Ar1 h (hp p (CC ..))) (λq d=>hp q (Cr _ d))
def AhQ{a:A5}:∀(b:List (A5))(out:List (A5)),b≠[]->Dk a out b≠[]
 |[],_,h=>absurd rfl h
 |[p],out,_=>by
  show Gh a out p true≠[];unfold Gh;split
  ·simp
  split
  ·simp
  split<;>simp
 |p::q::r,out,_=>AhQ (q::r) (Gh a out p false) AN
def NJ{a:A5}{b:List (A5)}(h:Cn a b)(s:A5):Cn a (DE a b s):=AfA _ h (AiP _ s)
def N3(a:A5)(b:List (A5))(s:A5):DE a b s≠[]:=AhQ _ _ (O9 _ s)
def Ay(path:List (A5)):A5:=path.flatMap (λp=>47::p)
def AbX{b:Bool}:∀(a:List (A5))(p:A5),(∀q∈p::a,∀c∈q,B8 b c=false)->Bs (B8 b) (p++Ay a)=p::a
 |[],p,h=>by
  show Bs (B8 b) (p++[])=[p];simp_all[Aff]
 |q::r,p,h=>by
  show Bs (B8 b) (p++47::(q++Ay r))=_;rw[Zr BE _ (h p (CC ..)),AbX r q (λx hx=>h x (Cr _ hx))]
def Aoh{c:A5}{out:List (A5)}{p:A5}{d:Bool}(e:Pn (Ar c) p)(g:(c==Av)=true->out=[]->E6 p=true->Fo p=true):Gh c out p d=out++[p]:=by
 unfold Gh;rw[AA (by rw[e.dots];decide),AA (by rw[e.dot];decide)];split
 ·rename_i h;rw[C0,C0]at h;have f:=g h.1.1 (List.isEmpty_iff.1 h.1.2) h.2;obtain⟨a,b,rfl,-,-⟩:=SD h.2;have:b=58:=by
   unfold Fo at f;rw[C0,CW]at f;exact f.2
  grind
 rw[Nj e.set]
def AfS{a:A5}:∀(b out:List (A5)),Cn a (out++b)->Dk a out b=out++b
 |[],out,_=>by rw[Bq];rfl
 |p::r,out,h=>by
  have h1:Gh a out p r.isEmpty=out++[p]:=Aoh (h.each p AN) (λhf c d=>by subst c;exact h.drive hf p r rfl d);show Dk a (Gh a out p r.isEmpty) r=_;rw[h1,AfS r (out++[p]) AS,CQ];rfl
def YW{b:A5}{p:A5}{a:List (A5)}(h:Cn b (p::a)):DE b [] (p++Ay a)=p::a:=by
 unfold DE;rw[AbX a p (λq c=>(h.each q c).slash)];exact AfS (p::a) [] h
def AcR(l:A5):Ar l=((l==[102,116,112])||((l==[102,105,108,101])||((l==[104,116,116,112])||((l==[104,116,116,112,115])||((l==[119,115])||(l==[119,115,115])))))):=by
 unfold Ar Av;simp only[Nl,List.contains_nil,Jw]
def NN(s:A9)(w:A7):AD A8 145 #[.string s] w (AzJ (.bool (Ar s)) w):=by
 rw[AcR];obtain⟨b1,h1⟩:=AI ((s.toList==[102,116,112]));obtain⟨b2,j⟩:=AI ((s.toList==[102,105,108,101]));obtain⟨b,g⟩:=AI ((s.toList==[104,116,116,112]));obtain⟨c,i⟩:=AI ((s.toList==[104,116,116,112,115]));obtain⟨a,f⟩:=AI ((s.toList==[119,115]));obtain⟨d,h⟩:=AI ((s.toList==[119,115,115]));rw[h1,j,g,i,f,h];have hway:b1=true\/(b1=false/\(b2=true\/(b2=false/\(b=true\/(b=false/\(c=true\/(c=false/\(a=true\/(a=false/\(d=true\/d=false)))))))))):=by simp_all
 exact Ad7
def Apa(s:A9)(w:A7):AD A8 309 #[.string s] w (AzJ (.tuple #[.int .i64 (((Kh s).getD 0:Nat):Int),.bool (Kh s).isSome]) w):=by
 exact Ad3
def XX(s:A9)(h:s.size=2):s.toList=[s[0],s[1]]:=by
 have h1:=Aw s 0 A4;rw[C9]at h1;rw[h1,Aw s 1 A4,CP s 2 A4]
def Ah8{l:A5}(h:l.length≠2):E6 l=false:=by
 unfold E6;split
 ·exact absurd rfl h
 rfl
def Auj{l:A5}(h:l.length≠2):Fo l=false:=by
 unfold Fo;split
 ·exact absurd rfl h
 rfl
def eqI(c d:UInt8):((c:Int)==(d:Int))=(c==d):=by
 rw[Fl,CW,CW];exact⟨λh=>CM.1 A4,λh=>by rw[h]⟩
def Us(s:A9)(w:A7)(a:s.size<=4294967296):AD A8 265 #[.string s] w (AzJ (.bool (E6 s)) w):=by
 by_cases h2:s.size=2
 ·have⟨e1,n1⟩:=LQ (show(s.size:Int)=2 by omega);rw[XX s h2];show AD _ _ _ _ (AzJ (.bool (Hx s[0]&&(s[1]==58||s[1]==124))) w);have q1:((s[1].toNat:Int)==58)=(s[1]==58):=eqI _ 58;have q2:((s[1].toNat:Int)==124)=(s[1]==124):=eqI _ 124;have hl:=H0 (λw=>LG (s[0].toNat:Int) w);exact AeY
 exact Acf
def Awn(s:A9)(h:s.size=2):Fo s.toList=(E6 s.toList&&s[1]==58):=by
 rw[XX s h];show(Hx s[0]&&s[1]==58)=((Hx s[0]&&(s[1]==58||s[1]==124))&&s[1]==58);cases Hx s[0]<;>cases(s[1]==58)<;>simp
def AaB(s:A9)(w:A7)(a:s.size<=4294967296):AD A8 209 #[.string s] w (AzJ (.bool (Fo s)) w):=by
 have hd:=H0 (λw=>Us s w a);exact AlV
def De7:∀n:UInt8,(Ds n=37↔n=37)/\(Ds n=50↔n=50)/\(Ds n=101↔(n=101\/n=69)):=DZ AX
def Xa(c:UInt8):(Ds c=37↔c=37)/\(Ds c=50↔c=50)/\(Ds c=101↔(c=101\/c=69)):=De7 c
def Ao5{a b:UInt8}(h:a≠46):HX (a::b::c::r)=if(BH [a,b,c]==[37,50,101])=true then some r else none:=by
 have e:BH [a,b,c]=[Ds a,Ds b,Ds c]:=rfl;rw[Lu,AA h,e];simp[CW,Jr,KA];simp[(Xa a).1,(Xa b).2.1,(Xa c).2.2];by_cases d:a=37
 ·rw[AC d];unfold Nx;dsimp only;by_cases f:b=50/\(c=101\/c=69)
  ·rw[AC f,AC ⟨d,f⟩]
  rw[AA f,AA (λg=>f g.2)]
 rw[AA d,AA (λg=>d g.1)]
def AyA{l:A5}(h:l.head?≠some 46)(c:l.length<3):HX l=none:=by
 match l,c with
 |[],_=>rfl
 |[a],_=>
  rw[Lu,AA (λe=>h NI)];split<;>rfl
 |[a,b],_=>
  rw[Lu,AA (λe=>h NI)];split<;>rfl
def AgS(c:UInt8)(l:A5):Lib.hasPrefix l [c]=(l.head?==some c):=by
 exact Al5
def AzB(s:A9)(w:A7)(e:Ag)(w':A7):Prop:=
 ∃(R:A9)(b:Bool),e=.returned (.tuple #[.string R,.bool b])/\Hid (HX s.toList=if b=true then some R else none)/\R.size<=s.size/\AF w w w'
def Asz(s:A9)(h:3<=s.size):s.toList=s[0]::s[1]::s[2]::s.toList.drop 3:=by
 have h1:=Aw s 0 A4;rw[Aw s 1 A4,Aw s 2 A4]at h1;exact h1
def AeE(s:A9)(w:A7)(q:s.size<=4294967296):AD A8 306 #[.string s] w (AzB s w):=by
 have c:=λw=>Tryz.strings_HasPrefix s ⟨#[46]⟩ w;have e0:Lib.hasPrefix s.data.toList (ByteArray.mk #[46]).data.toList=(s.toList.head?==some 46):=by
  rw[<-BQ];exact AgS _ _
 rw[e0]at c;replace c:=H0 c;cases hb:(s.toList.head?==some 46)
 ·rw[hb]at c;have j:s.toList.head?≠some 46:=by simpa using hb
  by_cases l:3<=s.size
  ·have p:3<=(s.size:Int):=A4;have f:=Asz s l;have i:s[0]≠46:=by intro e;rw[f,e]at j;exact j rfl
   have a:=H0 (λw=>NM (s.extract 0 3) w Bk);have m:(s.extract 0 3).toList=[s[0],s[1],s[2]]:=by rw[toList_extract,f];rfl
   rw[m]at a;have k:(s.extract 3 s.size).toList=s.toList.drop 3:=by rw[toList_extract,Bc Dy]
   have hv:HX s.toList=if(BH [s[0],s[1],s[2]]==[37,50,101])=true then some (s.extract 3 s.size).toList else none:=by
    rw[k]
    conv=>lhs;rw[f]
    exact Ao5 i
   have d:(s.extract 3 s.size).size<=s.size:=Bk;generalize BH [s[0],s[1],s[2]]=L at a hv;generalize hbb:(L==[37,50,101])=b at hv;replace hv:=H0 hv;go_in;go_wp2_with(go_call c as e w'⟨rfl,hw'⟩;obtain rfl:=hw'.symm);go_call a as e w2⟨t,rfl,ht,hb2⟩;have n:(t.toList==[37,50,101])=b:=by rw[ht.out];exact hbb
   cases b
   ·go_wp2;go_ret2;exact⟨⟨#[]⟩,false,rfl,La,AR _,hb2⟩
   go_wp2;go_ret2;exact⟨_,true,rfl,hv,d,hb2⟩
  have hv:=AyA j Dy;replace hv:=H0 hv;go_in;go_wp2_with(go_call c as e w'⟨rfl,hw'⟩;obtain rfl:=hw'.symm);go_ret2;exact⟨⟨#[]⟩,false,rfl,La,AR _,AU _ _⟩
 rw[hb]at c;have i:0<s.size:=by
  by_cases h:0<s.size
  ·exact h
  rw[(EW s).2 A4]at hb;cases hb
 have o:1<=(s.size:Int):=A4;have f:=Aw s 0 i;rw[C9]at f;have g:s[0]=46:=by rw[f]at hb;simpa using hb
 have k:(s.extract 1 s.size).toList=s.toList.drop 1:=by rw[toList_extract,Bc Dy]
 have hv:=A6 (HX s.toList=if true=true then some (s.extract 1 s.size).toList else none) (by
  rw[AC rfl,k]
  conv=>lhs;rw[f]
  rw[Lu,AC g])
 have d:(s.extract 1 s.size).size<=s.size:=Bk;go_in;go_wp2_with(go_call c as e w'⟨rfl,hw'⟩;obtain rfl:=hw'.symm);go_ret2;exact⟨_,true,rfl,H0 (by rw[AC rfl];have:=hv.out;simpa using this),d,AU _ _⟩
def Ag4(s:A9)(w:A7)(c:s.size<=4294967296):AD A8 270 #[.string s] w (GG w (EG s)):=by
 go_in;go_wp2_with fail;go_call AeE as e w2⟨R,b,rfl,hv,-,hbl⟩;have a:=A6 (EG s.toList=(b&&(R.toList==[]))) (by
  unfold EG;rw[hv.out];cases b<;>rfl)
 generalize hd:(R.toList==[])=d at a;cases b<;>cases d
 all_goals
  go_wp2;go_ret;exact⟨by rw[a.out];rfl,hbl⟩
def AuP(s:A9)(w:A7)(f:s.size<=4294967296):AD A8 268 #[.string s] w (GG w (G1 s)):=by
 go_in;go_wp2_with fail;go_call AeE as e w2⟨R,b,rfl,hv,hRz,hbl⟩;have a:=A6 (G1 s.toList=(b&&EG R)) (by
  unfold G1;rw[hv.out];cases b<;>rfl)
 have c:=H0 (λw=>Ag4 R w A4);generalize EG R.toList=d at c a;cases b
 ·go_wp2;go_ret;exact⟨by rw[a.out];rfl,hbl⟩
 ·cases d;all_goals
   go_wp2_with fail;go_call c as e w3⟨rfl,hb3⟩;go_wp2;go_ret;exact⟨by rw[a.out];rfl,hbl.next hb3⟩
def DI(p:Int->Bool)(l:A5):A5:=l.dropWhile λc=>p (c.toNat:Int)
def Bm(p:Int->Bool)(l:A5):A5:=(DI p l.reverse).reverse
def Em(c:Int):Bool:=decide (c<=32)
def RY{p:Int->Bool}{l:A5}(h:p (c:Int)=true):DI p (c::l)=DI p l:=by simp[DI,h]
def Rc{p:Int->Bool}{l:A5}(h:p (c:Int)=false):DI p (c::l)=c::l:=by simp[DI,h]
def R6{p:Int->Bool}{l:A5}(h:p (c:Int)=true):Bm p (l++[c])=Bm p l:=by simp[Bm,RY h]
def S6{p:Int->Bool}{l:A5}(h:p (c:Int)=false):Bm p (l++[c])=l++[c]:=by simp[Bm,Rc h]
def FZ(t:A9)(h:0<t.size):t.toList=t[0]::(t.extract 1 t.size).toList:=by
 have:=Aw t 0 h;rw[C9]at this;rw[this,toList_extract,Fh _ _ (AG _)]
def RV(t:A9)(h:0<t.size):t.toList=(t.extract 0 (t.size-1)).toList++[t[t.size-1]]:=by
 have:=DX t (t.size-1) A4;rw[toList_extract,C9,<-this,Fh _ _ A4]
def Agk(f:Nat)(p:Int->Bool)(l:∀(c:Int)(w:A7),0<=c->c<=255->AD A8 f #[.int .u8 c] w (AzJ (.bool (p c)) w))(o:∀args w,(callFunc f args).run A8 w=.ok (.enter f args) w)(s:A9)(w:A7)(B:s.size<=1099511627776):AD A8 156 #[.string s,.func (.func f) #[] #[]] w (Bi w (Bm p (DI p s))):=by
 have hf:=H0 l;clear l;go_in;go_wp2_with fail;go_loop[0] (λv=>∃t:A9,v=.string t/\t.size<=s.size/\Hid (DI p t.toList=DI p s)) (λv=>GO v)
 ·exact Uo
 obtain⟨t,rfl,n,j⟩:=hrel;by_cases a:∃h:0<t.size,p (t[0].toNat:Int)=true
 ·obtain⟨d,k⟩:=a;have g:(!t.toList.isEmpty)=true:=by
   rw[FZ t d];rfl
  have hx:=H0 (FZ t d);go_wp2_with((with_reducible refine(hf.out _ _ (Bo _) (Bf _)).mono ?_);rintro e w'⟨rfl,rfl⟩);go_round;exact⟨_,rfl,Ab9,by rw[<-j.out,hx.out,RY k];rfl⟩;simp[GO];omega
 have r:=A6 (t.toList=DI p s) (by
  rw[<-j.out];by_cases d:0<t.size
  ·rw[FZ t d,Rc (by simpa usingλh=>a ⟨d,h⟩)]
  rw[(EW t).2 A4];rfl)
 have z:(∃d:0<t.size,(!t.toList.isEmpty)=true/\p (t[0].toNat:Int)=false)\/t.toList.isEmpty=true:=by
  by_cases d:0<t.size
  ·exact .inl ⟨d,by rw[FZ t d];rfl,by simpa usingλh=>a ⟨d,h⟩⟩
  exact .inr (by rw[(EW t).2 A4];rfl)
 clear a j;rcases z with⟨d,g,k⟩|g;all_goals
  go_wp2_with((with_reducible refine(hf.out _ _ (Bo _) (Bf _)).mono ?_);rintro e w'⟨rfl,rfl⟩);go_loop[0] (λv=>∃u:A9,v=.string u/\u.size<=t.size/\Hid (Bm p u.toList=Bm p t)) (λv=>GO v)
  ·exact⟨t,rfl,AG _,rfl⟩
  clear g;obtain⟨u,rfl,A,hu⟩:=hrel;by_cases a:∃h:0<u.size,p (u[u.size-1].toNat:Int)=true
  ·obtain⟨b,m⟩:=a;have i:(!u.toList.isEmpty)=true:=by
    rw[FZ u b];rfl
   have y:=H0 (RV u b);go_wp2_with((with_reducible refine(hf.out _ _ (Bo _) (Bf _)).mono ?_);rintro e w'⟨rfl,rfl⟩);go_round;exact⟨_,rfl,Ab8,H0 (by rw[<-hu.out,y.out,R6 m])⟩;simp[GO];omega
  have x:=A6 (u.toList=Bm p (DI p s)) (by
   rw[<-r.out,<-hu.out];by_cases b:0<u.size
   ·rw[RV u b,S6 (by simpa usingλh=>a ⟨b,h⟩)]
   rw[(EW u).2 A4];rfl)
  have q:(∃b:0<u.size,(!u.toList.isEmpty)=true/\p (u[u.size-1].toNat:Int)=false)\/u.toList.isEmpty=true:=by
   by_cases b:0<u.size
   ·exact .inl ⟨b,by rw[FZ u b];rfl,by simpa usingλh=>a ⟨b,h⟩⟩
   exact .inr (by rw[(EW u).2 A4];rfl)
  clear a hu;rcases q with⟨b,i,m⟩|i;all_goals
   go_wp2_with((with_reducible refine(hf.out _ _ (Bo _) (Bf _)).mono ?_);rintro e w'⟨rfl,rfl⟩);go_ret;exact Be x.out (AU _ _)
def AwW(c:Int)(w:A7):AD A8 157 #[.int .u8 c] w (AzJ (.bool (Em c)) w):=by
 go_in;go_wp2;all_goals(go_ret;exact⟨Ci (by simp[Em]),rfl⟩)
def JC(l:A5):A5:=Bm Em (DI Em l)
def MY(l:A5):A5:=Bm CL (DI CL l)
def Atw(s:A9)(w:A7)(a:s.size<=1099511627776):AD A8 90 #[.string s] w (Bi w (JC s)):=by
 go_in;go_wp2_with(go_call(Agk 157 Em (λc w _ _=>AwW c w) (PF func157 AO rfl) s _ a) as e w'⟨t,rfl,ht,hb⟩);go_ret;exact Be ht hb
def AtD(s:A9)(w:A7)(a:s.size<=1099511627776):AD A8 182 #[.string s] w (Bi w (MY s)):=by
 go_in;go_wp2_with(go_call(Agk 110 CL (λc w _ _=>KE c w) (PF func110 AO rfl) s _ a) as e w'⟨t,rfl,ht,hb⟩);go_ret;exact Be ht hb
def Aoj(s:A9)(w:A7)(x:s.size<=1099511627776):AD A8 116 #[.string s] w (Bi w (JC s)):=by
 go_in;go_wp2;go_loop[3] (λv=>∃j:Nat,v=.int .i64 j/\j<=s.size/\Hid (DI Em (s.toList.drop j)=DI Em s)) (λv=>s.size-(intOf v).toNat)
 ·exact VE
 obtain⟨j,rfl,n,ht⟩:=hrel;by_cases hgo:∃h:j<s.size,Em (s[j].toNat:Int)=true
 ·have⟨h0,b⟩:=hgo;have hx:=H0 (Aw s j h0);have d:=H0 b;simp only[Em,II]at b;go_wp2;go_round;exact⟨j+1,AP,A4,H0 (by rw[<-ht.out,hx.out,RY d.out])⟩;exact AzF
 have l:=A6 (s.toList.drop j=DI Em s) (by
  exact Ahc)
 have q:(∃h0:j<s.size,(0:Int)<=(s[j].toNat:Int)/\(s[j].toNat:Int)<=(255:Int)/\Em (s[j].toNat:Int)=false)\/s.size<=j:=by
  exact AkW
 clear hgo ht;rcases q with⟨h0,y,i,b⟩|e;case' inl=>simp only[Em,LY,Int.not_le]at b
 all_goals
  go_wp2;go_loop[4] (λv=>∃k:Nat,v=.int .i64 k/\j<=k/\k<=s.size/\Hid (Bm Em ((s.toList.take k).drop j)=Bm Em (s.toList.drop j))) (λv=>(intOf v).toNat)
  ·exact⟨s.size,rfl,n,AG _,H0 (by rw[Fh _ _ (AG _)])⟩
  obtain⟨k,rfl,r,u,hu⟩:=hrel;try clear e
  by_cases hgo:∃h:j<k,Em (s[k-1].toNat:Int)=true
  ·have⟨a,c⟩:=hgo;have p:=A6 ((s.toList.take k).drop j=(s.toList.take (k-1)).drop j++[s[k-1]]) (by
    have:=DX s (k-1) A4;rw[show k-1+1=k from A4]at this;rw[this,Ge M2])
   have d:=H0 c;simp only[Em,II]at c;go_wp2;all_goals
    go_round;exact⟨k-1,AP,A4,A4,H0 (by rw[<-hu.out,p.out,R6 d.out])⟩;exact AzF
  have m:=A6 ((s.toList.take k).drop j=JC s) (by
   unfold JC;rw[<-l.out,<-hu.out];by_cases a:j<k
   ·have:=DX s (k-1) A4;rw[show k-1+1=k from A4]at this;rw[this,Ge M2,S6 (by simpa usingλh=>hgo ⟨a,h⟩)]
   rw[Cj Fx];rfl)
  have g:(∃a:j<k,(0:Int)<=(s[k-1].toNat:Int)/\(s[k-1].toNat:Int)<=(255:Int)/\Em (s[k-1].toNat:Int)=false)\/k<=j:=by
   by_cases a:j<k
   ·exact .inl ⟨a,Bo _,Bf _,by simpa usingλh=>hgo ⟨a,h⟩⟩
   exact .inr A4
  clear hgo hu;rcases g with⟨a,o,t,c⟩|f;case' inl=>simp only[Em,LY,Int.not_le]at c
  all_goals
   go_wp2;all_goals go_ret
   all_goals exact Be (by rw[toList_extract,m.out]) (AU _ _)
def Axu(s:A9)(w:A7)(x:s.size<=1099511627776):AD A8 83 #[.string s] w (Bi w (MY s)):=by
 go_in;go_wp2;go_loop[3] (λv=>∃j:Nat,v=.int .i64 j/\j<=s.size/\Hid (DI CL (s.toList.drop j)=DI CL s)) (λv=>s.size-(intOf v).toNat)
 ·exact VE
 obtain⟨j,rfl,n,ht⟩:=hrel;by_cases hgo:∃h:j<s.size,CL (s[j].toNat:Int)=true
 ·have⟨h0,c⟩:=hgo;have hx:=H0 (Aw s j h0)
  skip;go_wp2_with(go_call Hs;refine AH ?_);go_round;exact⟨j+1,AP,A4,H0 (by rw[<-ht.out,hx.out,RY c])⟩;exact AzF
 have l:=A6 (s.toList.drop j=DI CL s) (by
  exact Ahc)
 have q:(∃h0:j<s.size,(0:Int)<=(s[j].toNat:Int)/\(s[j].toNat:Int)<=(255:Int)/\CL (s[j].toNat:Int)=false)\/s.size<=j:=by
  exact AkW
 clear hgo ht;rcases q with⟨h0,y,i,c⟩|b;case' inl=>skip
 all_goals
  go_wp2_with(go_call Hs;refine AH ?_);go_loop[4] (λv=>∃k:Nat,v=.int .i64 k/\j<=k/\k<=s.size/\Hid (Bm CL ((s.toList.take k).drop j)=Bm CL (s.toList.drop j))) (λv=>(intOf v).toNat)
  ·exact⟨s.size,rfl,n,AG _,H0 (by rw[Fh _ _ (AG _)])⟩
  obtain⟨k,rfl,r,u,hu⟩:=hrel;try clear b
  by_cases hgo:∃h:j<k,CL (s[k-1].toNat:Int)=true
  ·have⟨a,d⟩:=hgo;have p:=A6 ((s.toList.take k).drop j=(s.toList.take (k-1)).drop j++[s[k-1]]) (by
    have:=DX s (k-1) A4;rw[show k-1+1=k from A4]at this;rw[this,Ge M2])
   skip;go_wp2_with(go_call Hs;refine AH ?_);all_goals
    go_round;exact⟨k-1,AP,A4,A4,H0 (by rw[<-hu.out,p.out,R6 d])⟩;exact AzF
  have m:=A6 ((s.toList.take k).drop j=MY s) (by
   unfold MY;rw[<-l.out,<-hu.out];by_cases a:j<k
   ·have:=DX s (k-1) A4;rw[show k-1+1=k from A4]at this;rw[this,Ge M2,S6 (by simpa usingλh=>hgo ⟨a,h⟩)]
   rw[Cj Fx];rfl)
  have g:(∃a:j<k,(0:Int)<=(s[k-1].toNat:Int)/\(s[k-1].toNat:Int)<=(255:Int)/\CL (s[k-1].toNat:Int)=false)\/k<=j:=by
   by_cases a:j<k
   ·exact .inl ⟨a,Bo _,Bf _,by simpa usingλh=>hgo ⟨a,h⟩⟩
   exact .inr A4
  clear hgo hu;rcases g with⟨a,o,t,d⟩|f;case' inl=>skip
  all_goals
   go_wp2_with(go_call Hs;refine AH ?_);all_goals go_ret
   all_goals exact Be (by rw[toList_extract,m.out]) (AU _ _)
def Jj(c:Int):A5:=(Utf8.encode c).data.toList
def Dc:A5:=[239,191,189]
def An(c:Nat):A5:=if 0x10ffff<c\/(0xd800<=c/\c<=0xdfff)then Dc else Jj (c:Int)
def CJ(c:Nat):Nat×Nat×Nat:=
 if 0xc2<=c/\c<=0xdf then(0x80,0xbf,2)
 else if c=0xe0 then(0xa0,0xbf,3)
 else if c=0xed then(0x80,0x9f,3)
 else if 0xe1<=c/\c<=0xef then(0x80,0xbf,3)
 else if c=0xf0 then(0x90,0xbf,4)
 else if 0xf1<=c/\c<=0xf3 then(0x80,0xbf,4)
 else if c=0xf4 then(0x80,0x8f,4)
 else(0,0,1)
def CN:Nat->Nat->Nat->A5->Nat
 |0,_,_,_=>0|k+1,_,_,[]=>0|k+1,lo,hi,x::r=>if lo<=x.toNat/\x.toNat<=hi then CN k 0x80 0xbf r+1 else 0
def Ea:A5->Nat
 |[]=>1|c::r=>CN ((CJ c.toNat).2.2-1) (CJ c.toNat).1 (CJ c.toNat).2.1 r+1
def BG(l:A5):Nat×Nat:=Utf8.decode ⟨l.toArray⟩ 0
def DC:Nat->A5->A5
 |0,_=>[]|f+1,l=>if l=[]then[]else if BG l=(65533,1)then Dc++DC f (l.drop (Ea l))else l.take (BG l).2++DC f (l.drop (BG l).2)
def HO(l:A5):A5:=DC (l.length+1) l
def Eg:Nat->A5->List Nat
 |0,_=>[]|f+1,l=>if l=[]then[]else(BG l).1::Eg f (l.drop (BG l).2)
def Aca(l:A5):List Nat:=Eg (l.length+1) l
def EY(l:A5):List Nat:=Aca (HO l)
def Rn(c:UInt8)(r:A5)(h:c.toNat<128):BG (c::r)=(c.toNat,1):=by
 unfold BG Utf8.decode;have e:(ByteArray.get! ⟨(c::r).toArray⟩ (0+0)).toNat=c.toNat:=rfl;simp[e,AC h]
def T2(l:A5):1<=(BG l).2:=Lib.width_pos _ _
def Ahe(l:A5):(BG l).1<=1114111:=Lib.rune_le _ _
def EA(l:A5):Bool:=l.all λc=>decide (c.toNat<128)
def AkY:∀(f:Nat)(l:A5),l.length<f->EA l=true->DC f l=l
 |0,_,h,_=>A4|f+1,[],_,_=>BE
 |f+1,c::r,h,hl=>by
  unfold EA at hl;rw[Hh,C0,JY]at hl;rw[DC,AA AN,Rn c r hl.1,AA (by rw[PO];omega)];show[c]++DC f r=c::r;rw[AkY f r AS hl.2];rfl
def Aiw:∀(f:Nat)(l:A5),l.length<f->EA l=true->Eg f l=l.map (·.toNat)
 |0,_,h,_=>A4|f+1,[],_,_=>by rw[Eg];rfl
 |f+1,c::r,h,hl=>by
  unfold EA at hl;rw[Hh,C0,JY]at hl;rw[Eg,Rn c r hl.1];show c.toNat::Eg f r=_;rw[Aiw f r JR hl.2];rfl
def Ay8{l:A5}(h:EA l=true):HO l=l:=AkY _ l A4 h
def SW{l:A5}(h:EA l=true):EY l=l.map (·.toNat):=by
 unfold EY;rw[Ay8 h];exact Aiw _ l A4 h
def Abc:∀(f:Nat)(l:A5),∀c∈Eg f l,c<=1114111
 |0,_,c,h=>(nomatch h)
 |f+1,l,c,h=>by
  rw[Eg]at h;split at h
  ·cases h
  rcases Bn.1 h with rfl|h
  ·exact Ahe l
  exact Abc f _ c h
def Tj(l:A5):∀c∈EY l,c<=1114111:=Abc _ _
def Z3:∀k b a l,CN k b a l<=k/\CN k b a l<=l.length
 |0,_,_,_=>⟨AG _,AR _⟩|k+1,_,_,[]=>⟨AR _,AG _⟩
 |k+1,b,a,x::r=>by
  rw[CN];split
  ·have:=Z3 k 0x80 0xbf r;simp;omega
  simp
def Atl(c:Nat):1<=(CJ c).2.2/\(CJ c).2.2<=4:=by
 unfold CJ;repeat' split
 all_goals simp
def YL:∀(f:Nat)(l:A5),(DC f l).length<=3*l.length
 |0,l=>by simp[DC]
 |f+1,l=>by
  rw[DC];split
  ·simp
  rename_i hne;have a:=FV.2 hne;split
  ·have:=YL f (l.drop (Ea l));have h1:1<=Ea l:=by cases l<;>simp[Ea]
   simp[Dc]at this⊢;omega
  have:=YL f (l.drop (BG l).2);grind
def TP(l:A5):(HO l).length<=3*l.length:=YL _ l
def AiA:∀(f:Nat)(l:A5),(Eg f l).length<=l.length
 |0,l=>by simp[Eg]
 |f+1,l=>by
  rw[Eg];split
  ·simp
  rename_i hne;have a:=FV.2 hne;have:=AiA f (l.drop (BG l).2);have h1:=T2 l;simp at this⊢;omega
def PS(l:A5):(EY l).length<=3*l.length:=CR (AiA _ _) (TP l)
def D6(j bias:Nat):Nat:=min (max (36*(j+1)-bias) 1) 26
def Ns(j bias:Nat):1<=D6 j bias/\D6 j bias<=26:=by unfold D6;omega
def Fp:Nat->Nat->Nat->Nat
 |0,d,k=>k+36*d/(d+38)|f+1,d,k=>if 455<d then Fp f (d/35) (k+36)else k+36*d/(d+38)
def G7(d:Nat)(first:Bool):Nat:=if first=true then d/700 else d/2
def Ha(d n:Nat)(first:Bool):Nat:=Fp 20 (G7 d first+G7 d first/n) 0
def AkI:∀f d k,d<456*35^f->Fp f d k<=k+36*f+36
 |0,d,k,h=>by
  show k+36*d/(d+38)<=_;have:36*d/(d+38)<=36:=Nat.div_le_of_le_mul A4;omega
 |f+1,d,k,h=>by
  rw[Fp];split
  ·have:=AkI f (d/35) (k+36) (Qn A4);omega
  have:36*d/(d+38)<=36:=Nat.div_le_of_le_mul A4;omega
def YF(d n:Nat)(first:Bool)(h:d<=2147483647):Ha d n first<=756:=by
 refine AkI 20 _ 0 ?_;have h1:G7 d first<=d:=by unfold G7;split<;>omega
 have a:G7 d first/n<=G7 d first:=Pf _ _
 omega
def Er(d:Nat):UInt8:=if d<26 then UInt8.ofNat (97+d)else UInt8.ofNat (22+d)
def FX(bias:Nat):Nat->Nat->Nat->A5
 |0,_,_=>[]|f+1,j,d=>if d<D6 j bias then[Er d]else Er (D6 j bias+(d-D6 j bias)%(36-D6 j bias))::FX bias f (j+1) ((d-D6 j bias)/(36-D6 j bias))
def Fu(d bias:Nat):A5:=FX bias 40 0 d
def AlD(bias:Nat):∀f j d,(FX bias f j d).length<=f
 |0,_,_=>AG _
 |f+1,j,d=>by
  rw[FX];split
  ·simp
  have:=AlD bias f (j+1) ((d-D6 j bias)/(36-D6 j bias));simp;omega
def Uf(d bias:Nat):(Fu d bias).length<=40:=AlD bias 40 0 d
variable{b f:Nat}
def Aeb{d:Nat}(a:1<=b/\b<=26)(h:d<10^(f+1)):(d-b)/(36-b)<10^f:=by
 refine Qn ?_;have h1:10*10^f<=(36-b)*10^f:=Jx _ A4;omega
def NP(c:UInt8):Option Nat:=if 97<=c.toNat/\c.toNat<=122 then some (c.toNat-97)else if 65<=c.toNat/\c.toNat<=90 then some (c.toNat-65)else if 48<=c.toNat/\c.toNat<=57 then some (c.toNat-22)else none
def Ui:∀d:Fin 36,NP (Er d.val)=some d.val/\Er d.val≠45/\(Er d.val).toNat<128:=AX
def Am1:∀n:UInt8,∀d,NP n=some d->d<36:=DZ AX
def Aod{d:Nat}(h:NP c=some d):d<36:=Am1 c d AS
def G0(bias:Nat):A5->Nat->Nat->Nat->Option (Nat×Nat)
 |[],_,_,_=>none
 |c::r,j,sum,wt=>match NP c with
  |none=>none|some d=>if 2147483647<sum+d*wt then none else if d<D6 j bias then some (sum+d*wt,j+1)else G0 bias r (j+1) (sum+d*wt) (wt*(36-D6 j bias))
def Zw(bias:Nat):∀(l:A5)j sum wt d n,G0 bias l j sum wt=some (d,n)->j<n/\n<=j+l.length/\d<=2147483647
 |[],_,_,_,_,_,h=>(nomatch h)
 |c::r,j,sum,wt,d,n,h=>by
  rw[G0]at h;split at h
  ·cases h
  split at h
  ·cases h
  split at h
  ·cases h;simp;omega
  have:=Zw bias r _ _ _ d n h;simp;omega
def AsD(bias:Nat)(rest:A5):∀f j d a c,d<10^f->a+d*c<=2147483647->G0 bias (FX bias (f+1) j d++rest) j a c=some (a+d*c,j+(FX bias (f+1) j d).length):=by
 intro f;induction f with
 |zero=>
  intro j d a c h o;have i:=Ns j bias;have g:d<D6 j bias:=A4;rw[FX,AC g,Di,G0,(Ui ⟨d,A4⟩).1];grind
 |succ f ih=>
  intro j d a c h o;have i:=Ns j bias;rw[FX];by_cases g:d<D6 j bias
  ·rw[AC g,Di,G0,(Ui ⟨d,A4⟩).1];grind
  rw[AA g];generalize hbe:D6 j bias=b at i g⊢;have r:(d-b)%(36-b)<36-b:=Fw _ A4;have k:b+(d-b)%(36-b)<36:=A4;have l:=Nat.mod_add_div (d-b) (36-b);obtain⟨q,p⟩:=AI ((d-b)/(36-b));obtain⟨m,n⟩:=AI ((d-b)%(36-b));have t:=Aeb i h;rw[p]at l t⊢;rw[n]at l k r⊢;have e:d*c=(b+m)*c+q*(c*(36-b)):=by
   have s:d=b+(m+(36-b)*q):=A4
   conv=>lhs;rw[s]
   rw[Mq,Mq,Mq,M5 (36-b) q,Nat.mul_assoc,M5 (36-b) c];omega
  rw[Di,G0,(Ui ⟨b+m,k⟩).1];grind
def AwC(bias d:Nat)(rest:A5)(h:d<=2147483647):G0 bias (Fu d bias++rest) 0 0 1=some (d,(Fu d bias).length):=by
 have:=AsD bias rest 39 0 d 0 1 (Nat.lt_of_le_of_lt h AE) A4;unfold Fu;rw[this];simp
def Ce(c:Nat):Bool:=decide (c<=1114111)&&(decide (c<55296)||decide (57343<c))
def Eu(l:List Nat)(p c:Nat):List Nat:=l.take p++c::l.drop p
structure EN where
 p:Nat
 sign:Nat
 bias:Nat
 first:Bool
 l:List Nat
def Hz(st:EN)(d:Nat):Option EN:=
 if(decide (st.l.length=255)|| !Ce (st.sign+(st.p+d)/(st.l.length+1)))=true then none
 else some ⟨(st.p+d)%(st.l.length+1)+1,st.sign+(st.p+d)/(st.l.length+1),Ha d (st.l.length+1) st.first,false,Eu st.l ((st.p+d)%(st.l.length+1)) (st.sign+(st.p+d)/(st.l.length+1))⟩
def E5:Nat->A5->EN->Option (List Nat)
 |0,_,_=>none
 |f+1,s,st=>if s=[]then some st.l else match G0 st.bias s 0 0 1 with
  |none=>none
  |some (d,n)=>match Hz st d with
   |none=>none|some st'=>E5 f (s.drop n) st'
def Ew(c:UInt8):A5->Option (A5×A5)
 |[]=>none
 |x::r=>match Ew c r with
  |some (a,b)=>some (x::a,b)|none=>if x=c then some ([],r)else none
theorem Mx:∀{l:A5},(∀x∈l,x≠c)->Ew c l=none
 |[],_=>rfl
 |x::r,h=>by
  rw[Ew,Mx (λy a=>h y (Cr _ a))];rw[AA (h x (CC ..))]
def On{b:A5}(d:∀x∈b,x≠c):∀(a:A5),Ew c (a++c::b)=some (a,b)
 |[]=>by rw[Do,Ew,Mx d];dsimp only;rw[AC rfl]|x::r=>by rw[Di,Ew,On d r]
def AdK:∀{l a b:A5},Ew c l=some (a,b)->l=a++c::b/\∀x∈b,x≠c
 |[],_,_,h=>(nomatch h)
 |x::r,a,b,h=>by
  rw[Ew]at h;split at h
  ·rename_i a' b' he;have⟨h1,h2⟩:=AdK he;grind
  rename_i he;split at h
  ·rename_i hx;cases h;refine⟨AS,λy d e=> ?_⟩;have⟨u,v,huv⟩:=List.append_of_mem d;have f:∀(u:A5),Ew c (u++y::v)≠none:=by
    intro u;induction u with
    |nil=>
     rw[Do,Ew];split
     ·simp
     grind
    |cons z u ih=>
     rw[Di,Ew];split
     ·simp
     grind
   grind
  ·cases h
def IL(l:List Nat):EN:=⟨0,128,72,true,l⟩
def Gz(c:UInt8):Bool:=decide (c.toNat<128)
def GZ(s:A5):Option (List Nat):=match Ew 45 s with
 |some (a,b)=>if a=[]then E5 (s.length+1) s (IL [])else if 255<a.length then none else if a.all Gz=true then E5 (b.length+1) b (IL (a.map (·.toNat)))else none|none=>E5 (s.length+1) s (IL [])
structure EK where
 d:Nat
 done:Nat
 bias:Nat
 first:Bool
 out:A5
def Cp(sign:Nat)(st:EK)(c:Nat):EK:=
 if c=sign then⟨0,st.done+1,Ha st.d (st.done+1) st.first,false,st.out++Fu st.d st.bias⟩
 else if c<sign then⟨st.d+1,st.done,st.bias,st.first,st.out⟩else st
def Fi(low:Nat)(f:Int)(c:Nat):Int:=if low<=c/\(f<0\/(c:Int)<f)then(c:Int)else f
def F4(l:List Nat)(low:Nat):Int:=l.foldl (Fi low) (-1)
def Fv(l:List Nat):Nat->Nat->EK->EK
 |0,_,st=>st
 |f+1,sign,st=>if st.done<l.length then
   Fv l f ((F4 l sign).toNat+1) (let st2:=l.foldl (Cp (F4 l sign).toNat) ⟨st.d+((F4 l sign).toNat-sign)*(st.done+1),st.done,st.bias,st.first,st.out⟩
    ⟨st2.d+1,st2.done,st2.bias,st2.first,st2.out⟩)
  else st
def Pu(c:Nat):Bool:=decide (c<128)
def DQ(l:List Nat):A5:=(l.filter Pu).map UInt8.ofNat
def Dg(l:List Nat):EK:=⟨0,(DQ l).length,72,true,if DQ l=[]then[]else DQ l++[45]⟩
def GX(l:List Nat):Option (A5):=if 255<l.length then none else if l.all Ce=true then some (Fv l (l.length+1) 128 (Dg l)).out else none
def Uc(low:Nat):∀(l:List Nat)(f:Int),(f=-1\/(0<=f/\(low:Int)<=f))->(l.foldl (Fi low) f=f\/∃c∈l,l.foldl (Fi low) f=(c:Int)/\low<=c)/\(∀c∈l,low<=c->0<=l.foldl (Fi low) f/\l.foldl (Fi low) f<=(c:Int))/\(0<=f->0<=l.foldl (Fi low) f/\l.foldl (Fi low) f<=f)
 |[],f,_=>⟨.inl rfl,λc hc=>(nomatch hc),λh=>⟨h,Int.le_refl _⟩⟩
 |x::r,f,hf=>by
  rw[List.foldl_cons];by_cases hx:low<=x/\(f<0\/(x:Int)<f)
  ·have e:Fi low f x=(x:Int):=AC hx;rw[e];have⟨h1,h2,h3⟩:=Uc low r (x:Int) (.inr ⟨A4,A4⟩);refine⟨.inr ?_,?_,?_⟩
   ·rcases h1 with h1|⟨c,hc,b⟩
    ·grind
    grind
   ·intro c hc a;rcases Bn.1 hc with rfl|hc
    ·grind
    grind
   grind
  have e:Fi low f x=f:=AA hx;rw[e];have⟨h1,h2,h3⟩:=Uc low r f hf;refine⟨?_,?_,h3⟩
  ·rcases h1 with h1|⟨c,hc,b⟩
   ·grind
   grind
  intro c hc a;rcases Bn.1 hc with rfl|hc
  ·omega
  grind
def AcZ{l:List Nat}{low c:Nat}(hc:c∈l)(h:low<=c):∃m∈l,F4 l low=(m:Int)/\low<=m/\∀x∈l,low<=x->m<=x:=by
 obtain⟨h1,d,-⟩:=Uc low l (-1) (.inl rfl);have g:=d c hc h;rcases h1 with h1|⟨m,f,b,a⟩
 ·omega
 exact⟨m,f,b,a,λx hx e=>AS⟩
def In(X:A5)(d0 d1:EN):Prop:=∀f rest,(X++rest).length<f->∃f',rest.length<f'/\E5 f (X++rest) d0=E5 f' rest d1
def In.nil(d:EN):In [] d d:=λf rest h=>⟨f,h,rfl⟩
def In.trans{X Y:A5}{a b c:EN}(h:In X a b)(k:In Y b c):In (X++Y) a c:=by
 intro f rest hf;rw[CQ]at hf⊢;have⟨f1,h1,e1⟩:=h f (Y++rest) hf;have⟨f2,h2,e2⟩:=k f1 rest h1;grind
def Ad5(d bias:Nat):Fu d bias≠[]:=by
 unfold Fu;rw[FX];split<;>simp
def In.one{d:Nat}{a b:EN}(g:d<=2147483647)(h:Hz a d=some b):In (Fu d a.bias) a b:=by
 intro f rest hf;cases f with
 |zero=>omega
 |succ f=>
  have c:=FV.2 (Ad5 d a.bias);refine⟨f,by rw[Aa]at hf;omega,?_⟩;rw[E5,AA (λe=>Ad5 d a.bias (PI.1 e).1),AwC _ _ _ g];grind
def FA(m c:Nat):Bool:=decide (c<m)
def leN(m c:Nat):Bool:=decide (c<=m)
structure Rd(l:List Nat)(m:Nat)(a b:List Nat)(st:EK)(dK:EN)(hd:A5)(d0:EN):Prop where
 l:dK.l=a.filter (leN m)++b.filter (FA m)
 done:st.done=dK.l.length
 lin:dK.sign*(st.done+1)+dK.p+st.d=m*(st.done+1)+(a.filter (leN m)).length
 sign:dK.sign<=m
 bias:dK.bias=st.bias
 first:dK.first=st.first
 out:∃X,st.out=hd++X/\In X d0 dK
variable{m:Nat}{st:EK}{d0:EN}
def AvT{l a b:List Nat}{c:Nat}{e:EN}{z:A5}(H:l=a++c::b)(y:l.length<=255)(t:Ce m=true)(h:Rd l m a (c::b) st e z d0):∃r,Rd l m (a++[c]) b (Cp m st c) r z d0:=by
 unfold Cp;by_cases hc:c=m
 ·subst hc;rw[AC rfl];have B:(c::b).filter (FA c)=b.filter (FA c):=by rw[EB,AA (by unfold FA;simp)]
  have s:=h.l;rw[B]at s;have u:=h.lin;have F:=h.sign;have v:(a.filter (leN c)).length<=st.done:=by rw[h.done,s,Aa];omega
  have E:st.done<255:=by
   rw[h.done,s,Aa];grind
  have G:c<=1114111:=by
   unfold Ce at t;rw[C0,JY]at t;exact t.1
  obtain⟨pos,f⟩:∃pos,(a.filter (leN c)).length=pos:=⟨_,rfl⟩;obtain⟨n,g⟩:=AI (st.done);have C:e.l.length=n:=by rw[<-h.done];exact g
  rw[f]at u v;rw[g]at u v E;obtain⟨q,w⟩:∃q,c=e.sign+q:=⟨c-e.sign,A4⟩;have x:e.p+st.d=q*(n+1)+pos:=by
   rw[w,Mq]at u;omega
  have o:(e.p+st.d)/(n+1)=q:=by
   rw[x,Nat.add_comm,Nat.add_mul_div_right _ _ A4,Nat.div_eq_of_lt A4,Db]
  have i:(e.p+st.d)%(n+1)=pos:=by
   rw[x,Nat.add_comm,Nat.add_mul_mod_self_right,JV A4]
  have k:st.d<=2147483647:=by
   have h1:q*(n+1)<=1114111*255:=O7 A4 A4;omega
  have D:Hz e st.d=some ⟨pos+1,c,Ha st.d (n+1) e.first,false,Eu e.l pos c⟩:=by
   unfold Hz;rw[C,o,i,<-w];rw[t];simp;omega
  refine⟨⟨pos+1,c,Ha st.d (n+1) e.first,false,Eu e.l pos c⟩,?_,?_,?_,AG _,?_,rfl,?_⟩
  rotate_right
  ·have⟨X,hX,hr⟩:=h.out;refine⟨X++Fu st.d st.bias,?_,?_⟩;rotate_left
   ·exact hr.trans (h.bias▸In.one k D)
   grind
  ·unfold Eu;rw[s,<-f,Lg,EB,AC (by unfold leN;simp)];simp
  ·unfold Eu;grind
  ·rw[Lg,Aa,f,EB,AC (by unfold leN;simp)];rfl
  rw[g,h.first]
 rw[AA hc];by_cases j:c<m
 ·rw[AC j];have h1:leN m c=true:=by unfold leN;simp;omega
  have A:FA m c=true:=by unfold FA;simp;omega
  refine⟨e,?_,h.done,?_,h.sign,h.bias,h.first,h.out⟩
  ·rw[h.l,Lg,EB,AC A,EB,AC h1];simp
  have:=h.lin;grind
 rw[AA j];have h1:leN m c=false:=by unfold leN;simp;omega
 have A:FA m c=false:=by unfold FA;simp;omega
 refine⟨e,?_,h.done,?_,h.sign,h.bias,h.first,h.out⟩
 ·rw[h.l,Lg,EB,AA AS,EB,AA AS];simp
 rw[h.lin,Lg,EB,AA AS];simp
def AcC{l:List Nat}{g:A5}(e:l.length<=255)(i:Ce m=true):∀(b a:List Nat)(st:EK)(f:EN),l=a++b->Rd l m a b st f g d0->∃d,Rd l m l [] (b.foldl (Cp m) st) d g d0
 |[],a,st,f,hl,h=>by
  grind
 |c::b,a,st,f,hl,h=>by
  have⟨d,h'⟩:=AvT hl e i h;exact AcC e i b (a++[c]) _ d AS h'
structure Aim(l:List Nat)(sign:Nat)(st:EK)(dK:EN)(hd:A5)(d0:EN):Prop where
 l:dK.l=l.filter (FA sign)
 done:st.done=dK.l.length
 lin:dK.sign*(st.done+1)+dK.p+st.d=sign*(st.done+1)
 sign:dK.sign<=sign
 bias:dK.bias=st.bias
 first:dK.first=st.first
 out:∃X,st.out=hd++X/\In X d0 dK
def Apr{p:Nat->Bool}:∀{l:List Nat},(l.filter p).length=l.length->l.filter p=l
 |[],_=>rfl
 |x::r,h=>by
  have h1:=O6 p r;rw[EB]at h⊢;split at h
  ·simp_all
  grind
def AjR{p q:Nat->Bool}:∀{l:List Nat}{x:Nat},(∀c∈l,p c=true->q c=true)->x∈l->p x=false->q x=true->(l.filter p).length<(l.filter q).length
 |[],x,_,hx,_,_=>(nomatch hx)
 |y::r,x,h,hx,hp,hq=>by
  have d:∀(r:List Nat),(∀c∈r,p c=true->q c=true)->(r.filter p).length<=(r.filter q).length:=by
   intro r;induction r with
   |nil=>simp
   |cons z r b=>
    intro h;have:=b (λc hc=>h c (Cr _ hc));rw[EB,EB];by_cases a:p z=true
    ·grind
    rw[AA a];split
    ·simp;omega
    exact this
  rw[EB,EB];rcases Bn.1 hx with rfl|hx
  ·grind
  have b:=AjR (λc hc=>h c (Cr _ hc)) hx hp hq;by_cases a:p y=true
  ·grind
  rw[AA a];split
  ·simp;omega
  exact b
def AxP{p:Nat->Bool}:∀{l:List Nat},(l.filter p).length<l.length->∃c∈l,p c=false
 |[],h=>by simp at h
 |x::r,h=>by
  rw[EB]at h;cases hx:p x
  ·grind
  simp_all
def AeM{l:List Nat}{n:A5}(e:l.length<=255)(r:∀c∈l,Ce c=true):∀(f a:Nat)(st:EK)(i:EN),l.length<st.done+f->Aim l a st i n d0->∃b X,(Fv l f a st).out=n++X/\In X d0 b/\b.l=l
 |0,a,st,i,hf,h=>by
  have:=O6 (FA a) l;rw[<-h.l,<-h.done]at this;omega
 |f+1,a,st,i,hf,h=>by
  rw[Fv];by_cases j:st.done<l.length
  ·rw[AC j];obtain⟨c,hc,q⟩:=AxP (by rw[<-h.l,<-h.done];exact j);have o:a<=c:=by unfold FA at q;simp at q;exact q
   have⟨m,hm,he,hlow,hmin⟩:=AcZ hc o;rw[he,Jc];have g:l.filter (FA m)=l.filter (FA a):=by
    apply List.filter_congr;intro x hx;unfold FA;by_cases t:x<a
    ·simp;omega
    grind
   have u:Rd l m [] l ⟨st.d+(m-a)*(st.done+1),st.done,st.bias,st.first,st.out⟩ i n d0:=by
    refine⟨by rw[h.l,g];rfl,h.done,?_,CR h.sign hlow,h.bias,h.first,h.out⟩;show i.sign*(st.done+1)+i.p+(st.d+(m-a)*(st.done+1))=m*(st.done+1)+0;have:=h.lin;obtain⟨k,rfl⟩:∃k,m=a+k:=⟨m-a,A4⟩;rw[Nat.add_sub_cancel_left,Mq];omega
   have⟨b,h'⟩:=AcC e (r m hm) l [] _ i rfl u;generalize hst2:l.foldl (Cp m) ⟨st.d+(m-a)*(st.done+1),st.done,st.bias,st.first,st.out⟩=st2 at h'⊢;have s:b.l=l.filter (FA (m+1)):=by
    rw[h'.l,List.filter_nil,Bq];apply List.filter_congr;intro x _;unfold leN FA;rw[Fl];simp;omega
   have w:st.done<st2.done:=by
    rw[h'.done,s,h.done,h.l,<-g];refine AjR (λc _ hc=> ?_) hm (by unfold FA;simp) (by unfold FA;simp);unfold FA at hc⊢;simp at hc⊢;omega
   refine AeM e r f _ ⟨st2.d+1,st2.done,st2.bias,st2.first,st2.out⟩ b (by show l.length<st2.done+f;omega) ⟨s,h'.done,?_,by have:=h'.sign;omega,h'.bias,h'.first,h'.out⟩;have y:=h'.lin;have n:=h'.done;have v:=h'.l;grind
  rw[AA j];have⟨X,hX,hr⟩:=h.out;refine⟨i,X,hX,hr,?_⟩;rw[h.l];refine Apr ?_;have:=O6 (FA a) l;rw[<-h.l,<-h.done]at this⊢;omega
def AaM(bias:Nat):∀f j d,∀x∈FX bias f j d,x≠45/\Gz x=true/\∃k,k<36/\x=Er k
 |0,_,_,x,h=>(nomatch h)
 |f+1,j,d,x,h=>by
  have c:=Ns j bias;rw[FX]at h;have b:∀k,k<36->x=Er k->x≠45/\Gz x=true/\∃k,k<36/\x=Er k:=by
   intro k a e;have:=Ui ⟨k,a⟩;rw[e];exact⟨this.2.1,by unfold Gz;simp;exact this.2.2,k,a,rfl⟩
  split at h
  ·grind[CO]
  rcases Bn.1 h with h|h
  ·have g:(d-D6 j bias)%(36-D6 j bias)<36-D6 j bias:=Fw _ A4;grind
  exact AaM bias f _ _ x h
def Abb(p:UInt8->Prop)(b:∀d bias,∀x∈Fu d bias,p x)(m:Nat):∀(l:List Nat)(st:EK)(a:A5),(∃X,st.out=a++X/\∀x∈X,p x)->∃X,(l.foldl (Cp m) st).out=a++X/\∀x∈X,p x
 |[],st,a,h=>h
 |c::r,st,a,h=>by
  refine Abb p b m r _ a ?_;have⟨X,hX,hx⟩:=h;unfold Cp;split
  ·refine⟨X++Fu st.d st.bias,AS,λx h=> ?_⟩;rcases BL.1 h with h|h
   ·grind
   grind
  split
  ·grind
  grind
def WZ(p:UInt8->Prop)(c:∀d bias,∀x∈Fu d bias,p x)(l:List Nat):∀(f a:Nat)(st:EK)(b:A5),(∃X,st.out=b++X/\∀x∈X,p x)->∃X,(Fv l f a st).out=b++X/\∀x∈X,p x
 |0,_,st,b,h=>h
 |f+1,a,st,b,h=>by
  rw[Fv];split
  ·exact WZ p c l f _ _ b (Abb p c _ l _ b h)
  exact h
def AjA(l:List Nat):(DQ l).map (·.toNat)=l.filter (FA 128):=by
 unfold DQ;rw[List.map_map];have:∀m:List Nat,(∀c∈m,c<128)->m.map ((·.toNat)∘UInt8.ofNat)=m:=by
  intro m;induction m with
  |nil=>simp
  |cons c r ih=>
   intro h;rw[FR,ih (λx hx=>h x (Cr _ hx))];have hc:=h c (CC ..);congr 1;show(UInt8.ofNat c).toNat=c;rw[LC];exact JV A4
 rw[this _ (λc hc=>by have:=(Ii.1 hc).2;unfold Pu at this;simpa using this)];rfl
def Arx(l:List Nat):(DQ l).all Gz=true:=by
 rw[Et];intro x hx;obtain⟨c,hc,rfl⟩:=EU.1 hx;have:=(Ii.1 hc).2;unfold Pu at this;unfold Gz;simp at this⊢;omega
def Xx(l:List Nat)(x:UInt8):Prop:=(∃c∈l,c<128/\x=UInt8.ofNat c)\/x=45\/∃k,k<36/\x=Er k
def Aul{l:List Nat}{o:A5}(h:GX l=some o):∀x∈o,Xx l x:=by
 unfold GX at h;split at h
 ·cases h
 split at h
 ·cases h;have⟨X,hX,hx⟩:=WZ (λx=>Xx l x) (λd bias x hx=> .inr (.inr (AaM bias 40 0 d x hx).2.2)) l (l.length+1) 128 (Dg l) (Dg l).out ⟨[],(Bq _).symm,λx h=>(nomatch h)⟩;rw[hX];intro x h;rcases BL.1 h with h|h
  ·unfold Dg at h;have b:∀x∈DQ l,Xx l x:=by
    intro x hx;obtain⟨c,hc,rfl⟩:=EU.1 hx;have a:=Ii.1 hc;exact .inl ⟨c,a.1,by have:=a.2;unfold Pu at this;simpa using this,rfl⟩
   split at h
   ·cases h
   rcases BL.1 h with h|h
   ·grind
   exact .inr (.inl (CO.1 h))
  grind
 ·cases h
def AvM{l:List Nat}{o:A5}(h:GX l=some o):GZ o=some l:=by
 unfold GX at h;split at h
 ·cases h
 rename_i hlen;split at h;case isFalse=>cases h
 rename_i hs;cases h;obtain⟨d0,e⟩:=AI (IL (l.filter (FA 128)));have j:Aim l 128 (Dg l) d0 (Dg l).out d0:=by
  subst e;refine⟨rfl,?_,?_,AG _,rfl,rfl,[],(Bq _).symm,In.nil _⟩
  ·show(DQ l).length=(l.filter _).length;rw[<-AjA,Bz]
  rfl
 have⟨dec',X,hX,hr,hl⟩:=AeM A4 (Et.1 hs) (l.length+1) 128 _ d0 A4 j;have m:∀f,X.length<f->E5 f X d0=some l:=by
  intro f hf;have⟨f',h1,a⟩:=hr f [] AS;rw[Bq]at a;rw[a];cases f' with
  |zero=>simp at h1|succ g=>rw[E5,AC rfl,hl]
 have⟨X2,hX2,hx2⟩:=WZ (λx=>x≠45) (λd bias x hx=>(AaM bias 40 0 d x hx).1) l (l.length+1) 128 _ (Dg l).out ⟨[],(Bq _).symm,λx h=>(nomatch h)⟩;have k:=List.append_cancel_left (hX.symm.trans hX2);have i:=AjA l;have c:(DQ l).length<=255:=by
  have:=congrArg List.length i;rw[Bz]at this;have a:=O6 (FA 128) l;omega
 unfold GZ;by_cases b:DQ l=[]
 ·have e0:(Dg l).out=[]:=by unfold Dg;rw[b];rfl
  grind[Mx]
 have e0:(Dg l).out=DQ l++[45]:=by unfold Dg;dsimp only;rw[AA b]
 simp_all[On,Arx]
def Io(sg:Nat)(l:List Nat):Nat:=(l.filter (λc=>decide (c<sg))).length
def M6(sg:Nat)(l:List Nat):Io sg l<=l.length:=O6 _ _
variable{sg:Nat}
def AoC{l:List Nat}(h:∀x∈l,x<sg):Io sg l=l.length:=by
 unfold Io;rw[List.filter_eq_self.2 (λx hx=>Bx (h x hx))]
def X0:∀{l:List Nat},(∀x∈l,sg<=x->m<=x)->sg<=m->Io (m+1) l=Io sg l+l.count m
 |[],_,_=>rfl
 |x::r,h,hm=>by
  have a:=X0 (λy b=>h y (Cr _ b)) hm;have hx:=h x (CC ..);unfold Io at a⊢;rw[EB,EB,List.count_cons];by_cases h1:x<sg
  ·grind
  by_cases c:x=m
  ·grind
  grind
structure Og(D0 N0 k:Nat)(st:EK):Prop where
 d:st.d<=D0+k
 lo:N0<=st.done
 hi:st.done<=N0+k
 bias:st.bias<=756
 out:st.out.length<=256+40*st.done
variable{a:Nat}
def AwQ{c:Nat}(h:Og a b k st)(e:a+k<=2147483647):Og a b (k+1) (Cp m st c):=by
 have⟨h1,h2,h3,h4,h5⟩:=h;unfold Cp;split
 ·have:=Uf st.d st.bias;refine⟨AR _,by show b<=st.done+1;omega,by show st.done+1<=_;omega,YF _ _ _ A4,?_⟩;grind[Aa]
 split
 ·exact⟨by show st.d+1<=_;omega,h2,by show st.done<=_;omega,h4,h5⟩
 exact⟨A4,h2,A4,h4,h5⟩
def XI(m:Nat)(l:List Nat)(k:Nat)(st:EK)(h:k<l.length):(l.take (k+1)).foldl (Cp m) st=Cp m ((l.take k).foldl (Cp m) st) l[k]:=by
 rw[Fe h,List.foldl_append];rfl
def Xe{l:List Nat}(h:Og a b 0 st):∀k,k<=l.length->a+k<=2147483647->Og a b k ((l.take k).foldl (Cp m) st)
 |0,_,_=>by simp_all
 |k+1,hk,hd=>by
  rw[XI m l k st A4];exact AwQ (Xe h k A4 A4) A4
def UY(m:Nat):∀(l:List Nat)(st:EK),(l.foldl (Cp m) st).done=st.done+l.count m
 |[],st=>rfl
 |x::r,st=>by
  rw[List.foldl_cons,UY m r,List.count_cons];unfold Cp;by_cases h:x=m
  ·rw[AC h,AC JR];show st.done+1+_=_;omega
  rw[AA h,AA (show¬(x==m)=true by simpa using h)];split<;>rfl
def Yu(m:Nat):∀(l:List Nat)(st:EK),(l.foldl (Cp m) st).d<=st.d+l.length/\(m∈l->(l.foldl (Cp m) st).d<=l.length)
 |[],st=>⟨AG _,λh=>(nomatch h)⟩
 |x::r,st=>by
  have⟨h1,h2⟩:=Yu m r (Cp m st x);rw[List.foldl_cons,BC];have c:(Cp m st x).d<=st.d+1:=by
   unfold Cp;split
   ·simp
   split
   ·simp
   omega
  refine⟨A4,λa=> ?_⟩;rcases Bn.1 a with b|a
  ·have:(Cp m st x).d=0:=by unfold Cp;rw[AC b.symm]
   omega
  grind
def K5(l:List Nat):(DQ l).length=Io 128 l:=by unfold DQ Io;rw[Bz];rfl
def Al0(l:List Nat)(k:Nat)(h:k<l.length):DQ (l.take (k+1))=DQ (l.take k)++if l[k]<128 then[UInt8.ofNat l[k]]else[]:=by
 rw[Fe h];unfold DQ;rw[Lg,Dx];congr 1;by_cases hc:l[k]<128
 ·rw[AC hc,EB,AC (by simpa[Pu]using hc)];rfl
 rw[AA hc,EB,AA (by simpa[Pu]using hc)];rfl
def Ac4{l:List Nat}(h:k<l.length)(h1:(l.take k).all Ce=true)(a:Ce l[k]=true):(l.take (k+1)).all Ce=true:=by
 rw[Fe h,KM,h1,Hh,a];rfl
def Acv{l:List Nat}(h:k<l.length)(a:Ce l[k]=false):l.all Ce=false:=by
 rw[List.all_eq_false];exact⟨l[k],CI h,by rw[a];decide⟩
def U8{c:Nat}(h:Ce c=true):c<=1114111:=by
 unfold Ce at h;rw[C0,JY]at h;exact h.1
def Ld(l:List Nat)(sg m:Nat)(st:EK):EK:=⟨st.d+(m-sg)*(st.done+1),st.done,st.bias,st.first,st.out⟩
def Adw{l:List Nat}(h:st.done<l.length)(a:F4 l sg=(m:Int)):Fv l (f+1) sg st=Fv l f (m+1) ⟨(l.foldl (Cp m) (Ld l sg m st)).d+1,(l.foldl (Cp m) (Ld l sg m st)).done,(l.foldl (Cp m) (Ld l sg m st)).bias,(l.foldl (Cp m) (Ld l sg m st)).first,(l.foldl (Cp m) (Ld l sg m st)).out⟩:=by
 rw[Fv,AC h,a];rfl
def Ads{l:List Nat}(h:¬st.done<l.length):Fv l f sg st=st:=by
 cases f with
 |zero=>rfl|succ f=>rw[Fv,AA h]
def Akp{l:List Nat}(h:Io sg l<l.length):∃m∈l,F4 l sg=(m:Int)/\sg<=m/\∀x∈l,sg<=x->m<=x:=by
 by_cases hx:∃x∈l,sg<=x
 ·have⟨x,hx,hs⟩:=hx;exact AcZ hx hs
 have:=AoC (λx a=>by
  by_cases h1:x<sg
  ·exact h1
  exact absurd ⟨x,a,A4⟩ hx)
 omega
structure Aj(G:Nat->Prop)(w w':A7):Prop where
 os:w'.os=w.os
 tape:w'.tape=w.tape
 output:w'.output=w.output
 size:w.heap.size<=w'.heap.size
 block:∀k,k<w.heap.size->¬G k->w'.heap[k]?=w.heap[k]?
def Aj.refl(G:Nat->Prop)(w:A7):Aj G w w:=⟨rfl,rfl,rfl,AG _,λ_ _ _=>rfl⟩
variable{G:Nat->Prop}
def Aj.trans{a b c:A7}(h:Aj G a b)(k:Aj G b c):Aj G a c:=
 ⟨k.os.trans h.os,k.tape.trans h.tape,k.output.trans h.output,CR h.size k.size,λi e d=>(k.block i (KJ e h.size) d).trans (h.block i e d)⟩
def Aj.mono{c:Nat->Prop}{a b:A7}(h:Aj G a b)(d:∀k,G k->c k):Aj c a b:=⟨h.os,h.tape,h.output,h.size,λk e f=>h.block k e (λx=>f (d k x))⟩
def Aj.of{a b:A7}(h:AF a a b):Aj G a b:=⟨h.os,h.tape,h.output,h.size,λk c _=>h.block k c⟩
def Aj.below{a b:A7}(h:Aj G a b){B:Nat}(c:B<=a.heap.size)(d:∀k,G k->B<=k):AF B a b:=
 ⟨h.os,h.tape,h.output,h.size,λk e=>h.block k A4 (λx=>by grind)⟩
variable{g:Nat}
def Aj.set{a b:A7}(h:Aj G a b)(d:G g)(i:Nat)(v:AJ):Aj G a (b.setCell ⟨g,i,none⟩ v):=
 h.trans ⟨rfl,rfl,rfl,AS,λk f c=>Po _ _ _ _ (λe=>c AS)⟩
def Bl{σ:Type}(step:σ->UInt8->Bool×σ):σ->A5->A5×A5×σ
 |st,[]=>([],[],st)|st,c::r=>if(step st c).1=true then(c::(Bl step (step st c).2 r).1,(Bl step (step st c).2 r).2.1,(Bl step (step st c).2 r).2.2)else([],c::r,(step st c).2)
variable{σ:Type}
def OI{step:σ->UInt8->Bool×σ}{st:σ}(h:(step st c).1=true):Bl step st (c::r)=(c::(Bl step (step st c).2 r).1,(Bl step (step st c).2 r).2):=by rw[Bl,AC h]
def NH{step:σ->UInt8->Bool×σ}{st:σ}(h:(step st c).1=false):Bl step st (c::r)=([],c::r,(step st c).2):=by rw[Bl,AA AS]
variable{w:A7}
def Ee{i:Nat}{cs:Array AJ}{T:Ab}{v:AJ}(h:w.heap[g]?=some (.cells cs T (0,0))):(w.setCell ⟨g,i,none⟩ v).heap[g]?=some (.cells (cs.setIfInBounds i v) T (0,0)):=by
 simp only[World.setCell,Js,h];rfl
def Iw(w:A7)(g:Nat)(n:Nat):Prop:=w.heap[g]?=some (.cells #[.int .i64 (n:Int)] 3 (0,0))
def KU(w:A7)(g:Nat)(s:A9):Prop:=w.heap[g]?=some (.cells #[.string s] 9 (0,0))
def AnW{σ:Type}(step:σ->UInt8->Bool×σ)(R:σ->A7->Prop)(Ga:Nat->Prop)(ga gs:Nat)(s:A9)(st:σ)(k:Nat)(w:A7)(e:Ag)(w':A7):Prop:=
 ∃t:A9,e=.returned (.string t)/\Hid (t.toList=(Bl step st (s.toList.drop k)).1)/\k+t.size<=s.size/\Iw w' ga (k+t.size)/\KU w' gs s/\R (Bl step st (s.toList.drop k)).2.2 w'/\Aj (λi=>i=ga\/Ga i) w w'
def Uk(f:Nat)(A:Array AJ)(step:σ->UInt8->Bool×σ)(R:σ->A7->Prop)(D:Nat->Prop)(d n:Nat)(s:A9)(m:∀(st:σ)(c:UInt8)(w:A7),R st w->AD A8 f (#[.int .u8 (c:Int)]++A) w λe w'=>e=.returned (.bool (step st c).1)/\R (step st c).2 w'/\Aj D w w')(V:∀args w,(callFunc f args).run A8 w=.ok (.enter f args) w)(B:∀(st:σ)(w:A7)(v:AJ),R st w->R st (w.setCell ⟨d,0,none⟩ v))(C:¬D d)(Q:¬D n)(M:d≠n)(aP:s.size<=1099511627776)(st:σ)(k:Nat)(w:A7)(x:R st w)(I:Iw w d k)(J:KU w n s)(W:k<=s.size):AD A8 170 #[.func (.func f) #[] A,.pointer (some ⟨d,0,none⟩),.pointer (some ⟨n,0,none⟩)] w (AnW step R D d n s st k w):=by
 have Y:=H0 m;have E:=H0 B;clear m B;have u:=BV _ _ 0 _ _ _ I;have xs:=BV _ _ 0 _ _ _ J;simp only[GB,Ho]at u xs;go_in;go_wp2;go_loopg[] (s.size-k) (λg wr=>∃(j:Nat)(a:σ),g=s.size-j/\k<=j/\j<=s.size/\Hid (Bl step st (s.toList.drop k)=((s.toList.take j).drop k++(Bl step a (s.toList.drop j)).1,(Bl step a (s.toList.drop j)).2))/\Iw wr d j/\KU wr n s/\R a wr/\Aj (λi=>i=d\/D i) w wr)
 ·exact⟨k,st,rfl,AG _,W,H0 AS,I,J,x,Aj.refl _ _⟩
 clear u xs I J x;have⟨j,a,hgk,hkj,hj,hrun,hba,hbs,x,hC⟩:=hrel;have u:=BV _ _ 0 _ _ _ hba;have xs:=BV _ _ 0 _ _ _ hbs;simp only[GB,Ho]at u xs;have O:n<wr.heap.size:=(En.1 hbs).1;have P:d<wr.heap.size:=(En.1 hba).1;change Hid _ at hgk hba hbs x;by_cases z:j<s.size
 ·have cE:(j:Int)<s.size:=A4;have m:=Y.out a s[j] wr x;have K:=Aw s j z;have U:=DX s j z;have l:(step a s[j]).1=true->Hid (Bl step st (s.toList.drop k)=((s.toList.take (j+1)).drop k++(Bl step (step a s[j]).2 (s.toList.drop (j+1))).1,(Bl step (step a s[j]).2 (s.toList.drop (j+1))).2)):=λh=>H0 (by
   rw[hrun.out,K,U,Ge M2,OI h,CQ];rfl)
  have q:(step a s[j]).1=false->Hid ((s.extract k j).toList=(Bl step st (s.toList.drop k)).1/\(step a s[j]).2=(Bl step st (s.toList.drop k)).2.2):=λh=>H0 (by
   rw[hrun.out,K,NH h,toList_extract];exact⟨(Bq _).symm,rfl⟩)
  have H:(s.extract k j).size=j-k:=Bk;change Hid _ at K U H l q hrun;generalize T:step a s[j]=r at m l q;replace T:=H0 T;have⟨b,st2⟩:=r;cases b
  ·have y:=q.out rfl;replace m:=H0 m;go_wp2;refine m.out.mono ?_;rintro e G⟨rfl,N,o⟩;have t:=(o.block _ P C).trans hba;have F:=(o.block _ O Q).trans hbs;have u:=BV _ _ 0 _ _ _ t;have xs:=BV _ _ 0 _ _ _ F;have p:=hC.trans (o.mono (λi h=>Or.inr h));have S:(k:Int)<=j:=A4;go_wp2;go_ret;exact⟨_,rfl,H0 y.out.1,AS,(by rw[H.out,show k+(j-k)=j by omega];exact t),F,(by rw[<-y.out.2];exact N),p⟩
  have y:=l.out rfl;replace m:=H0 m;go_wp2;refine m.out.mono ?_;rintro e G⟨rfl,N,o⟩;have t:=(o.block _ P C).trans hba;have F:=(o.block _ O Q).trans hbs;have u:=BV _ _ 0 _ _ _ t;have xs:=BV _ _ 0 _ _ _ F;have fa:=G4 _ _ 0 _ _ t;have X:Iw (G.setCell ⟨d,0,none⟩ (.int .i64 ((j+1:Nat):Int))) d (j+1):=by
   unfold Iw;rw[Ee t];rfl
  have yT:KU (G.setCell ⟨d,0,none⟩ (.int .i64 ((j+1:Nat):Int))) n s:=(Po _ _ _ _ (λe=>M e.symm)).trans F;have L:=E.out _ G (.int .i64 ((j+1:Nat):Int)) N;have p:=(hC.trans (o.mono (λi h=>Or.inr h))).set (Or.inl rfl) 0 (.int .i64 ((j+1:Nat):Int));have Z:((j+1:Nat):Int)=(j:Int)+1:=A4;rw[Z]at X yT L p;go_wp2;go_roundg(s.size-(j+1))
  ·grind
  have:=hgk.out;omega
 obtain rfl:j=s.size:=A4;have H:(s.extract k s.size).size=s.size-k:=Bk;have y:=A6 ((s.extract k s.size).toList=(Bl step st (s.toList.drop k)).1/\a=(Bl step st (s.toList.drop k)).2.2) (by
  rw[hrun.out,CP s s.size (AG _),toList_extract];exact⟨(Bq _).symm,rfl⟩)
 go_wp2;go_ret;exact⟨_,rfl,H0 y.out.1,AS,(by rw[H,show k+(s.size-k)=s.size by omega];exact hba),hbs,(by rw[<-y.out.2];exact x),hC⟩
def Ck(c:Nat):Nat×Nat×Nat:=
 if c<0x80 then(1,0,0)else if c<0xc2\/0xf4<c then(0,0,0)else if c<0xe0 then(2,0x80,0xbf)
 else if c=0xe0 then(3,0xa0,0xbf)else if c=0xed then(3,0x80,0x9f)else if c=0xf0 then(4,0x90,0xbf)else if c=0xf4 then(4,0x80,0x8f)
 else if c<0xf0 then(3,0x80,0xbf)else(4,0x80,0xbf)
def Yn(n:Nat):Bool:=(!(decide (128<=n)&&(Ck n).1==0)||((CJ n).2.2==1&&decide (Lib.decodeN 9 n 0 0 0=(65533,1))))&&
 (!(decide (128<=n) && (Ck n).1 != 0) || (decide (2<=(Ck n).1) && decide ((Ck n).1<=4) && decide (CJ n=((Ck n).2.1,(Ck n).2.2,(Ck n).1)) && decide (Lib.firstT n<240) &&
  (Lib.firstT n%8==(Ck n).1)&&(Lib.accLo (Lib.firstT n/16)==(Ck n).2.1)&&(Lib.accHi (Lib.firstT n/16)==(Ck n).2.2)&&decide (128<=(Ck n).2.1)&&decide ((Ck n).2.2<=191)&&(!((Ck n).1==2)||n/32==6)&&(!((Ck n).1==3)||n/16==14)&&(!((Ck n).1==4)||n/8==30)))
def Ah3:∀n:UInt8,Yn n.toNat=true:=DZ AX
structure Acy(c n lo hi:Nat):Prop where
 le:n<=4
 beh:CJ c=(lo,hi,n)
 ft:Lib.firstT c<240
 f8:Lib.firstT c%8=n
 al:Lib.accLo (Lib.firstT c/16)=lo
 ah:Lib.accHi (Lib.firstT c/16)=hi
 l0:128<=lo
 h0:hi<=191
variable{n:Nat}
def UX(h:Ck c.toNat=(n,a,b))(o:2<=n):Acy c.toNat n a b:=by
 have hc:128<=c.toNat:=by
  by_cases hc:c.toNat<128
  ·unfold Ck at h;rw[AC hc]at h;cases h;omega
  omega
 have k:=Ah3 c;unfold Yn at k;simp[h]at k;rcases k.2 with(k|k)|k
 ·omega
 ·simp_all
 obtain⟨⟨⟨⟨⟨⟨⟨⟨⟨⟨⟨p,i⟩,e⟩,d⟩,j⟩,l⟩,f⟩,g⟩,m⟩,-⟩,-⟩,-⟩:=k;exact⟨i,e,d,j,l,f,g,m⟩
def E8(l:A5):Nat×Nat:=if BG l=(65533,1)then(65533,Ea l)else BG l
def sgF:Nat->A5->List Nat
 |0,_=>[]|f+1,l=>if l=[]then[]else(E8 l).1::sgF f (l.drop (E8 l).2)
def LD(c:Nat)(l:A5):Nat:=l.foldl (λc x=>64*c+x.toNat-0x80) c
def Ku(l:A5):BG l=Lib.decodeN l.length (l.getD 0 0).toNat (l.getD 1 0).toNat (l.getD 2 0).toNat (l.getD 3 0).toNat:=Lib.decodeL_N l
def Aky(k:Acy c.toNat n a b):BG (c::r)=Lib.slowN (r.length+1) c.toNat (r.getD 0 0).toNat (r.getD 1 0).toNat (r.getD 2 0).toNat n a b:=by
 rw[Ku,<-k.f8,<-k.al,<-k.ah,Lib.slow_eq _ _ _ _ _ A4 (UInt8.toNat_lt _) (UInt8.toNat_lt _) (UInt8.toNat_lt _) k.ft];simp
def AuJ(k b a:Nat):CN k b a []=0:=by cases k<;>rfl
def Am4(h:Ck c.toNat=(n,g,f))(j:2<=n)(e:CN (n-1) g f r=n-1):BG (c::r)=(LD (c.toNat%(128/2^n)) (r.take (n-1)),n):=by
 have k:=UX h j;rw[Aky k];have i:=k.le;have m:=k.l0;have o:=k.h0;have l:n=2\/n=3\/n=4:=A4;rcases l with rfl|rfl|rfl
 ·match r,e with
  |[],e=>simp[CN]at e
  |a::q,e=>
   simp only[CN]at e;split at e
   ·rename_i ha;unfold Lib.slowN;rw[AA AN,AA AS];simp[LD];omega
   simp at e
 ·match r,e with
  |[],e=>simp[CN]at e|[a],e=>simp only[CN]at e;split at e<;>simp at e
  |a::b::q,e=>
   simp only[CN]at e;split at e
   ·split at e
    ·unfold Lib.slowN;rw[AA AN,AA AS,AA AE,AA AS];simp[LD];omega
    simp at e
   simp at e
 ·match r,e with
  |[],e=>simp[CN]at e|[a],e=>simp only[CN]at e;split at e<;>simp at e|[a,b],e=>simp only[CN]at e;(repeat' split at e)<;>simp at e
  |a::b::d::q,e=>
   simp only[CN]at e;split at e
   ·split at e
    ·split at e
     ·unfold Lib.slowN;rw[AA AN,AA AS,AA AE,AA AS,AA AE,AA AS];simp[LD];omega
     simp at e
    simp at e
   simp at e
def Awv{e:Nat}(h:Ck c.toNat=(n,e,f))(i:2<=n)(hg:CN (n-1) e f r<n-1):BG (c::r)=(65533,1):=by
 have k:=UX h i;rw[Aky k];have g:=k.le;have j:n=2\/n=3\/n=4:=A4;unfold Lib.slowN;rcases j with rfl|rfl|rfl
 ·match r,hg with
  |[],hg=>simp
  |a::q,hg=>
   simp only[CN]at hg;split at hg
   ·omega
   grind
 ·match r,hg with
  |[],hg=>simp|[a],hg=>simp
  |a::b::q,hg=>
   simp only[CN]at hg;rw[AA AN];exact AkM
 ·match r,hg with
  |[],hg=>simp|[a],hg=>simp|[a,b],hg=>simp
  |a::b::d::q,hg=>
   simp only[CN]at hg;rw[AA AN];split at hg
   ·exact AkM
   grind
def Al1{j d:Nat}(h:Ck c.toNat=(0,j,d))(r:A5):BG (c::r)=(65533,1)/\Ea (c::r)=1:=by
 have hc:128<=c.toNat:=by
  by_cases hc:c.toNat<128
  ·unfold Ck at h;rw[AC hc]at h;cases h
  omega
 have i:c.toNat<0xc2\/0xf4<c.toNat:=by
  unfold Ck at h
  (repeat' split at h)<;>first|assumption|(exfalso;simp at h)
 refine⟨?_,?_⟩
 ·rw[Ku];have k:=Lib.decodeN_shape (c::r).length ((c::r).getD 0 0).toNat ((c::r).getD 1 0).toNat ((c::r).getD 2 0).toNat ((c::r).getD 3 0).toNat;have e0:((c::r).getD 0 0).toNat=c.toNat:=rfl;rcases k with⟨h1,e⟩|⟨h1,_,a,b,e⟩|⟨h1,_,a,b,f,g,e⟩|⟨h1,_,a,b,f,g,l,e⟩|e
  ·omega
  ·omega
  ·omega
  ·omega
  exact e
 have e:CJ c.toNat=(0,0,1):=by
  unfold CJ;rw[AA A4,AA A4,AA A4,AA A4,AA A4,AA A4,AA A4]
 show CN ((CJ c.toNat).2.2-1) (CJ c.toNat).1 (CJ c.toNat).2.1 r+1=1;rw[e];rfl
def Bet(h:Ck c.toNat=(n,a,b))(d:2<=n):Ea (c::r)=CN (n-1) a b r+1:=by
 show CN ((CJ c.toNat).2.2-1) (CJ c.toNat).1 (CJ c.toNat).2.1 r+1=_;rw[(UX h d).beh]
theorem AdI(h:c.toNat<128)(r:A5):E8 (c::r)=(c.toNat,1):=by
 unfold E8;rw[Rn c r h,AA (by rw[PO];omega)]
def Amz(h:Ck c.toNat=(0,a,b))(r:A5):E8 (c::r)=(65533,1):=by
 unfold E8;rw[(Al1 h r).1,AC rfl,(Al1 h r).2]
def AoJ(h:Ck c.toNat=(n,a,b))(d:2<=n)(e:CN (n-1) a b r=n-1):E8 (c::r)=(LD (c.toNat%(128/2^n)) (r.take (n-1)),n):=by
 unfold E8;rw[Am4 h d e,AA (by rw[PO];omega)]
def Ayv(h:Ck c.toNat=(n,a,b))(d:2<=n)(e:CN (n-1) a b r<n-1):E8 (c::r)=(65533,CN (n-1) a b r+1):=by
 unfold E8;rw[Awv h d e,AC rfl,Bet h d]
def Aws(l r:A5)(a:l≠[])(h:BG l≠(65533,1)):BG (l.take (BG l).2++r)=BG l:=by
 have e:=Ku l;rcases Lib.decodeN_shape l.length (l.getD 0 0).toNat (l.getD 1 0).toNat (l.getD 2 0).toNat (l.getD 3 0).toNat with⟨h1,k⟩|⟨h1,d,b,c,k⟩|⟨h1,d,b,c,f,g,k⟩|⟨h1,d,b,c,f,g,i,k⟩|k
 ·rw[k]at e;rw[e,Lib.takeA l (FV.2 a),Ku];exact RR
 ·rw[k]at e;rw[e,Lib.takeB l A4,Ku];exact RR
 ·rw[k]at e;rw[e,Lib.takeC l A4,Ku];exact RR
 ·rw[k]at e;rw[e,Lib.takeD l A4,Ku];exact RR
 grind
def AgI(r:A5):BG (Dc++r)=(65533,3):=by
 rw[Ku];unfold Lib.decodeN Dc;simp only[Di,List.getD_cons_zero,List.getD_cons_succ];rfl
def Aig{l:A5}(h:l≠[]):1<=(E8 l).2/\(E8 l).2<=l.length:=by
 unfold E8;split
 ·cases l with
  |nil=>exact absurd rfl h
  |cons c r=>
   have:=Z3 ((CJ c.toNat).2.2-1) (CJ c.toNat).1 (CJ c.toNat).2.1 r;unfold Ea;simp;omega
 exact⟨T2 l,Lib.decodeL_le l h⟩
def Xr:∀(f g:Nat)(l:A5),l.length<f->(DC f l).length<g->sgF f l=Eg g (DC f l)
 |0,_,_,h,_=>A4|f+1,0,_,_,h=>A4
 |f+1,g+1,l,hf,hg=>by
  rw[sgF];rw[DC]at hg⊢;by_cases a:l=[]
  ·rw[AC a,AC a,Eg,AC rfl]
  have d:=Aig a;rw[AA a]at hg;rw[AA a,AA a];by_cases b:BG l=(65533,1)
  ·have e:E8 l=(65533,Ea l):=by unfold E8;rw[AC b]
   rw[e]at d⊢;rw[AC b]at hg;rw[AC b,Eg,AA (by unfold Dc;simp),AgI];rw[show(Dc++DC f (l.drop (Ea l))).drop 3=DC f (l.drop (Ea l))from rfl];rw[Xr f g (l.drop (Ea l)) (by rw[C7];dsimp only at d;omega) (by rw[Aa]at hg;unfold Dc at hg;simp at hg;omega)]
  have e:E8 l=BG l:=by unfold E8;rw[AA b]
  rw[e]at d⊢;rw[AA b]at hg;have i:(l.take (BG l).2).length=(BG l).2:=Fx;have c:l.take (BG l).2++DC f (l.drop (BG l).2)≠[]:=by
   intro j;have:=congrArg List.length j;rw[Aa,Ep]at this;omega
  rw[AA b,Eg,AA c,Aws l _ a b];rw[show(l.take (BG l).2++DC f (l.drop (BG l).2)).drop (BG l).2=DC f (l.drop (BG l).2)from AS];rw[Xr f g (l.drop (BG l).2) Ql (by rw[Aa]at hg;omega)]
def Aij(l:A5):sgF (l.length+1) l=EY l:=Xr _ _ l A4 (by unfold HO;omega)
def BX(c:UInt8):Bool:=CL (c:Int)
def BD(c:UInt8):Bool:=((c:Int)==44)||BX c
def BP(ins:Bool)(c:UInt8):Bool×Bool:=if ins=true then(true,(c:Int)!=41)else if((c:Int)==40)=true then(true,true)else if BD c=true then(false,false)else(true,false)
def VR(p:UInt8->Bool):Unit->UInt8->Bool×Unit:=λ_ c=>(p c,())
def Vg(p:UInt8->Bool):∀l,Bl (VR p) () l=(l.takeWhile p,l.dropWhile p,())
 |[]=>rfl
 |c::r=>by
  cases h:p c
  ·rw[NH (by exact h),IS,EF,AA AS,AA AS]
  rw[OI (by exact h),IS,EF,AC h,AC h];rw[Vg p r]
def T0(step:σ->UInt8->Bool×σ):∀(st:σ)(l:A5),(Bl step st l).1++(Bl step st l).2.1=l
 |st,[]=>rfl
 |st,c::r=>by
  cases h:(step st c).1
  ·rw[NH h];rfl
  rw[OI h];exact congrArg (c:: ·) (T0 step _ r)
def Tn(b:Bool):b=false\/b=true:=by simp_all
def Aqh(c:Int)(w:A7):AD A8 171 #[.int .u8 c] w (AzJ (.bool ((c==44)||CL c)) w):=by
 go_in;rcases Tn (c==44)with h|h;all_goals
  rw[h];go_wp2_with(go_call KE;refine AH ?_);go_ret;exact⟨rfl,rfl⟩
def AuH(c:Int)(w:A7):AD A8 172 #[.int .u8 c] w (AzJ (.bool (!CL c)) w):=by
 go_in;go_wp2_with(go_call KE;refine AH ?_);exact Lv
def MX(g:Nat)(b:Bool)(w:A7):Prop:=w.heap[g]?=some (.cells #[.bool b] 4 (0,0))
def MX.put{b:Bool}(h:MX g b w)(b':Bool):MX g b' (w.setCell ⟨g,0,none⟩ (.bool b')):=by
 unfold MX;rw[Ee h];rfl
def Au1(g:Nat)(b:Bool)(c:UInt8)(w:A7)(hb:MX g b w):AD A8 241 #[.int .u8 (c:Int),.pointer (some ⟨g,0,none⟩)] w λe w'=>e=.returned (.bool (BP b c).1)/\MX g (BP b c).2 w'/\Aj (· =g) w w':=by
 have i:=BV _ _ 0 _ _ _ hb;have j:=G4 _ _ 0 _ _ hb;have h:=hb.put;cases b
 ·rcases Tn ((c:Int)==40)with a|a
  ·rcases Tn ((c:Int)==44)with d|d
   ·rcases Tn (CL (c:Int))with f|f
    ·have hw:=A6 (BP false c=(true,false)) (by unfold BP BD BX;rw[a,d,f];rfl);go_in;go_wp2_with(go_call KE;refine AH ?_);exact AaE
    have hw:=A6 (BP false c=(false,false)) (by unfold BP BD BX;rw[a,d,f];rfl);go_in;go_wp2_with(go_call KE;refine AH ?_);exact AaE
   have hw:=A6 (BP false c=(false,false)) (by unfold BP BD;rw[a,d];rfl);go_in;go_wp2;exact AaE
  have hw:=A6 (BP false c=(true,true)) (by unfold BP;rw[a];rfl);go_in;go_wp2;go_ret;exact⟨Ci (by rw[hw.out]),by rw[hw.out];exact h true,(Aj.refl (· =g) w).set rfl 0 _⟩
 have hw:=A6 (BP true c=(true,(c:Int)!=41)) BE;go_in;go_wp2;go_ret;exact⟨Ci BE,by rw[hw.out];exact h _,(Aj.refl (· =g) w).set rfl 0 _⟩
def dwF:Nat->A5->List (A5)×A5
 |0,l=>([],l)
 |n+1,l=>if(Bl BP false (l.dropWhile BX)).1=[]then([],l.dropWhile BX)
  else((Bl BP false (l.dropWhile BX)).1::(dwF n (Bl BP false (l.dropWhile BX)).2.1).1,(dwF n (Bl BP false (l.dropWhile BX)).2.1).2)
def Cz(l:A5):List (A5)×A5:=dwF (l.length+1) l
theorem PA(step:σ->UInt8->Bool×σ)(st:σ)(l:A5):(Bl step st l).1.length+(Bl step st l).2.1.length=l.length:=by
 have:=congrArg List.length (T0 step st l);rwa[Aa]at this
def AvK:∀(N:Nat)(l:A5),l.length<=N->∀n,l.length<n->dwF n l=dwF (l.length+1) l:=by
 intro N;induction N with
 |zero=>
  exact AeA
 |succ N ih=>
  intro l hl n hn;obtain⟨m,rfl⟩:∃m,n=m+1:=⟨n-1,A4⟩;unfold dwF;by_cases h:(Bl BP false (l.dropWhile BX)).1=[]
  ·simp_all
  have h1:=PA BP false (l.dropWhile BX);have b:=FV.2 h;have a:(l.dropWhile BX).length<=l.length:=(K2 _).length_le;grind
theorem Lt(l:A5):Cz l=if(Bl BP false (l.dropWhile BX)).1=[]then([],l.dropWhile BX)else((Bl BP false (l.dropWhile BX)).1::(Cz (Bl BP false (l.dropWhile BX)).2.1).1,(Cz (Bl BP false (l.dropWhile BX)).2.1).2):=by
 unfold Cz
 conv=>lhs;unfold dwF
 by_cases h:(Bl BP false (l.dropWhile BX)).1=[]
 ·simp_all
 have h1:=PA BP false (l.dropWhile BX);have b:=FV.2 h;have a:(l.dropWhile BX).length<=l.length:=(K2 _).length_le;rw[AA h,AA h,AvK _ _ (AG _) l.length A4]
def Tg{step:σ->UInt8->Bool×σ}{st:σ}{t:A9}{j:Nat}(h:t.toList=(Bl step st (s.toList.drop j)).1):s.toList.drop (j+t.size)=(Bl step st (s.toList.drop j)).2.1:=by
 have h1:=T0 step st (s.toList.drop j);generalize hr:Bl step st (s.toList.drop j)=r at h h1⊢;rw[<-Ka,<-h1,<-h,Ge (by rw[AK];exact AG _),Cj (by rw[AK];exact AG _),Do]
def OwnS.chg{w':A7}{B:Nat}{E:Ab}{v:AJ}{l:List A9}(h:OwnS w B E v l)(hc:∀k,B<=k->k<w.heap.size->w'.heap[k]?=w.heap[k]?):OwnS w' B E v l:=by
 exact Acl
def Aj.step{wx w':A7}{c:Nat}(h1:Aj (· =b) w wx)(a:Aj (λi=>i=b\/i=c) wx w')(f:w.heap.size<=c):Aj (· =b) w w':=
 ⟨a.os.trans h1.os,a.tape.trans h1.tape,a.output.trans h1.output,CR h1.size a.size,λk d e=>(a.block k (KJ d h1.size) (λx=>A4)).trans (h1.block k d e)⟩
def Am5(s:A9)(ga gs k:Nat)(w:A7)(e:Ag)(w':A7):Prop:=
 ∃(v:AJ)(l:List A9)(n:Nat),e=.returned v/\Hid (l.map (·.toList)=(Cz (s.toList.drop k)).1)/\Hid (s.toList.drop n=(Cz (s.toList.drop k)).2)/\k<=n/\n<=s.size/\l.length<=n/\
  OwnS w' w 9 v l/\Iw w' ga n/\KU w' gs s/\Aj (· =ga) w w'
def AvO:∀args w,(callFunc 110 args).run A8 w=.ok (.enter 110 args) w:=PF func110 AO rfl
def AmA:∀args w,(callFunc 241 args).run A8 w=.ok (.enter 241 args) w:=PF func241 AO rfl
def Atu:Fs A8 22 9 (.string ByteArray.empty) 16:=.mk' underlying22 AO rfl
def Aqi(d m:Nat)(s:A9)(k:Nat)(w:A7)(E:Iw w d k)(F:KU w m s)(L:k<=s.size)(u:d≠m)(Y:s.size<=1000000000):AD A8 174 #[.func (.func 170) #[] #[.pointer (some ⟨d,0,none⟩),.pointer (some ⟨m,0,none⟩)]] w (Am5 s d m k w):=by
 have y:d<w.heap.size:=(En.1 E).1;have D:m<w.heap.size:=(En.1 F).1;go_in;go_wp2;go_loopg[3] (s.size-k) (λg v wr=>∃(j:Nat)(l:List A9),g=s.size-j/\k<=j/\j<=s.size/\l.length<=j/\Hid (Cz (s.toList.drop k)=(l.map (·.toList)++(Cz (s.toList.drop j)).1,(Cz (s.toList.drop j)).2))/\OwnS wr w 9 v l/\Iw wr d j/\KU wr m s/\Aj (· =d) w wr)
 ·exact⟨k,[],rfl,AG _,L,AR _,H0 AN,OwnS.nil _ _ _,E,F,Aj.refl _ _⟩
 have⟨j,l,o,hkj,hj,hlj,hrun,hown,hba,hbs,hC⟩:=hrel;replace o:=H0 o;go_wp2_with fail;go_call(Uk 110 #[] (VR BX) (λ_ _=>True) (λ_=>False) d m s (λst c w _=>(KE _ _).mono Zf) AvO (λ_ _ _ _=>trivial) (λx=>x) (λx=>x) u A4 () j wr trivial hba hbs hj) as e w1⟨t1,rfl,ht1,hz1,hba1,hbs1,-,hC1⟩;have J:=Tg ht1;rw[Vg]at J;have R:=hC1.mono (λi h=>h.elim id False.elim);have M:=hC1.size;have X:=hC.size;go_wp2_with fail;have G:d≠w1.heap.size:=A4;have N:Iw (w1.alloc (.cells #[.bool false] 4)) d (j+t1.size):=(Below.heap_alloc _ _ _ A4).trans hba1;have V:KU (w1.alloc (.cells #[.bool false] 4)) m s:=(Below.heap_alloc _ _ _ A4).trans hbs1;have A:MX w1 false (w1.alloc (.cells #[.bool false] 4)):=CB _ _;go_call(Uk 241 #[.pointer (some ⟨w1,0,none⟩)] BP (λb w=>MX w1 b w) (· =w1.heap.size) d m s (λst c w h=>Au1 _ st c w h) AmA (λst w v h=>(Po _ _ _ _ (λe=>G e.symm)).trans h) G A4 u A4 false (j+t1.size) _ A N V hz1) as e w3⟨t2,rfl,ht2,hz2,hba3,hbs3,-,hC3⟩;have z:=Tg ht2;have n:=Aj.step ((hC.trans R).trans (Aj.of (Ah _ _))) hC3 A4;have f:=hown.chg (λi h1 S=>(hC3.block i B7 A4).trans ((Below.heap_alloc _ _ _ A4).trans (hC1.block i S (λx=>by rcases x with x|x;omega;exact x))));have q:=Lt (s.toList.drop j);rw[<-J,<-ht2.out,<-z]at q;by_cases hem:t2.toList=[]
 ·rw[AC hem]at q;have T:=A6 (l.map (·.toList)=(Cz (s.toList.drop k)).1) (by rw[hrun.out,q];simp);have p:=A6 (s.toList.drop (j+t1.size)=(Cz (s.toList.drop k)).2) (by rw[hrun.out,q]);have H:=(EW t2).1 hem;rw[H]at hba3;change Hid _ at hba3 hbs3;go_wp2;go_ret;exact⟨_,l,_,rfl,T,p,A4,hz1,A4,f,hba3,hbs3,n⟩
 have K:(t2.toList==[])=false:=Q9;rw[AA hem]at q;have H:=Nat.pos_of_ne_zero (λh=>hem ((EW t2).2 h));have O:=A6 (Cz (s.toList.drop k)=((l++[t2]).map (·.toList)++(Cz (s.toList.drop (j+t1.size+t2.size))).1,(Cz (s.toList.drop (j+t1.size+t2.size))).2)) (by
  rw[hrun.out,q];simp)
 have C:=n.size;go_wp2_with(at_builtin;refine LH Atu rfl _ _ rfl rfl rfl f (AU w w3) C C1 A4 ?_;intro W P U a _);have r:=(a.block _ y).trans hba3;have t:=(a.block _ D).trans hbs3;have B:Aj (· =d) w P:=⟨a.os.trans n.os,a.tape.trans n.tape,a.output.trans n.output,CR n.size a.size,λi I Q=>(a.block i I).trans (n.block i I Q)⟩;go_wp2;go_roundg(s.size-(j+t1.size+t2.size))
 ·exact⟨j+t1.size+t2.size,l++[t2],rfl,A4,hz2,W5,O,U,r,t,B⟩
 have:=o.out;omega
end Go.Proofs.YtonomfeipkdmhaaGreatDoor
