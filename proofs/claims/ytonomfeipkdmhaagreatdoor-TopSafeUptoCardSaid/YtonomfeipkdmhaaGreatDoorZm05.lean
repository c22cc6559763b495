/- Lemmas. -/
import Derived.Test.YtonomfeipkdmhaaGreatDoorZm01
import Derived.Test.YtonomfeipkdmhaaGreatDoorZm02
import Derived.ChangeSame
import Derived.Shelf.Strings.SlTrimAscii
set_option linter.all false
set_option maxRecDepth 100000
set_option maxHeartbeats 16000000
namespace Go.Proofs.YtonomfeipkdmhaaGreatDoor
open Go renaming maxLen->BK,World->A7,Calls->AD,Value->AJ,TypeId->Ab,Ending->Ag
open Go.RowKit renaming Below->AF
open Go.RowKit Go.Proofs.Tryz
open Go.Proofs.Tryz renaming prog->A8
def Ake(l:A5)(c:UInt8):l.contains c=decide (0<=Lib.indexByte l c):=by
 exact YD
def AoL(l:A5)(c:UInt8)(w:A7):AD A8 307 #[.string ⟨l.toArray⟩,.int .u8 (c:Int)] w (AzJ (.bool (l.contains c)) w):=by
 have d:=λw=>Tryz.strings_IndexByte ⟨l.toArray⟩ (c:Int) w;have f:((c:Int)).toNat.toUInt8=c:=AN;simp[f]at d;have hc:=Ake l c;generalize Lib.indexByte l c=z at d hc;have a:(0<=z/\l.contains c=true)\/(z<0/\l.contains c=false):=by
  by_cases h:0<=z
  ·exact .inl ⟨h,by rw[hc,Bx h]⟩
  exact .inr ⟨A4,by rw[hc,BO h]⟩
 generalize l.contains c=b at a⊢;go_in;rcases a with⟨h,rfl⟩|⟨h,rfl⟩;all_goals
  go_wp2_with fail;go_call d as e w'⟨rfl,hw⟩;go_wp2;go_ret;refine⟨?_,rfl⟩;first|rfl|(show Ending.returned (Value.bool _)=_;congr 2;simp<;>omega)
def GH(set:Nat)(c:UInt8)(w:A7)(e:Ag)(w':A7):Prop:=e=.returned (.bool (Bv set c))/\w=w'
def Rt(c:UInt8):(BR c=true/\(c:Int)<32)\/(BR c=true/\32<=(c:Int)/\126<(c:Int))\/(BR c=false/\32<=(c:Int)/\(c:Int)<=126):=by
 have h:∀n:UInt8,(BR n=true/\(n:Int)<32)\/(BR n=true/\32<=(n:Int)/\126<(n:Int))\/(BR n=false/\32<=(n:Int)/\(n:Int)<=126):=DZ AX;exact h c
def Qp(l:A9)(c:UInt8)(w:A7):AD A8 307 #[.string l,.int .u8 (c:Int)] w (AzJ (.bool (l.data.toList.contains c)) w):=AoL l.data.toList c w
def AlJ(c:UInt8)(w:A7):AD A8 271 #[.int .i64 0,.int .u8 (c:Int)] w (GH 0 c w):=by
 unfold GH;show AD _ _ _ _ (AzJ (.bool (BR c)) w);have a:=Rt c;generalize BR c=b at a⊢;go_in;rcases a with⟨rfl,h⟩|⟨rfl,h,d⟩|⟨rfl,h,d⟩;all_goals
  go_wp2;go_ret;refine⟨?_,rfl⟩;first|rfl|(show Ending.returned (Value.bool _)=_;congr 2;simp<;>omega)
def AkT(c:UInt8)(w:A7):AD A8 271 #[.int .i64 2,.int .u8 (c:Int)] w (GH 2 c w):=by
 unfold GH;show AD _ _ _ _ (AzJ (.bool ([32,34,35,60,62].contains c||BR c)) w);obtain⟨f,h1⟩:∃a,[32,34,35,60,62].contains c=a:=⟨_,rfl⟩;rw[h1];replace h1:=A6 ((ByteArray.mk #[32,34,35,60,62]).data.toList.contains c=f) h1;have d:=Rt c;generalize BR c=b at d⊢;go_in;cases f
 ·rw[Ju];rcases d with⟨rfl,h⟩|⟨rfl,h,h3⟩|⟨rfl,h,h3⟩;all_goals
   go_wp2_with(go_call Qp;refine AH ?_;first|rw[h1.out]|rw[h2.out]|rw[h3.out]);go_ret;refine⟨?_,rfl⟩;first|rfl|(show Ending.returned (Value.bool _)=_;congr 2;simp<;>omega)
 clear d;rw[Bool.true_or];exact XF
def AwX(c:UInt8)(w:A7):AD A8 271 #[.int .i64 1,.int .u8 (c:Int)] w (GH 1 c w):=by
 unfold GH;show AD _ _ _ _ (AzJ (.bool ([32,34,60,62,96].contains c||BR c)) w);obtain⟨f,h1⟩:∃a,[32,34,60,62,96].contains c=a:=⟨_,rfl⟩;rw[h1];replace h1:=A6 ((ByteArray.mk #[32,34,60,62,96]).data.toList.contains c=f) h1;have d:=H0 (λw=>AlJ c w);unfold GH at d;rw[show Bv 0 c=BR c from rfl]at d;generalize BR c=b at d⊢;go_in;cases f;all_goals
  go_wp2_with(first|(go_call Qp;refine AH ?_;first|rw[h1.out]|rw[h2.out]|rw[h3.out])|(go_call d;refine AH ?_));go_ret;exact⟨AN,rfl⟩
def ArT(c:UInt8)(w:A7):AD A8 271 #[.int .i64 3,.int .u8 (c:Int)] w (GH 3 c w):=by
 unfold GH;show AD _ _ _ _ (AzJ (.bool (c==39||Pw c)) w);have d:=H0 (λw=>AkT c w);unfold GH at d;rw[show Bv 2 c=Pw c from rfl]at d;have f:((c:Int)==39)=(c==39):=by
  rw[Fl,CW,CW];exact⟨λh=>CM.1 (by show c.toNat=39;omega),λh=>L4⟩
 generalize(c==39)=a at f⊢;generalize Pw c=b at d⊢;go_in;cases a;all_goals
  go_wp2_with(go_call d;refine AH ?_);go_ret;exact⟨AN,rfl⟩
def Aug(c:UInt8)(w:A7):AD A8 271 #[.int .i64 4,.int .u8 (c:Int)] w (GH 4 c w):=by
 unfold GH;show AD _ _ _ _ (AzJ (.bool ([63,94,96,123,125].contains c||([32,34,35,60,62].contains c||BR c))) w);obtain⟨d,h1⟩:∃a,[63,94,96,123,125].contains c=a:=⟨_,rfl⟩;rw[h1];replace h1:=A6 ((ByteArray.mk #[63,94,96,123,125]).data.toList.contains c=d) h1;obtain⟨a2,h2⟩:∃a,[32,34,35,60,62].contains c=a:=⟨_,rfl⟩;rw[h2];replace h2:=A6 ((ByteArray.mk #[32,34,35,60,62]).data.toList.contains c=a2) h2;have hway:=Rt c;generalize BR c=b at hway⊢;go_in;cases d
 ·exact AjH
 clear hway;exact XF
def Awo(c:UInt8)(w:A7):AD A8 271 #[.int .i64 5,.int .u8 (c:Int)] w (GH 5 c w):=by
 unfold GH;show AD _ _ _ _ (AzJ (.bool ([47,58,59,61,64,91,92,93,124].contains c||([63,94,96,123,125].contains c||([32,34,35,60,62].contains c||BR c)))) w);obtain⟨a0,h3⟩:∃a,[47,58,59,61,64,91,92,93,124].contains c=a:=⟨_,rfl⟩;rw[h3];replace h3:=A6 ((ByteArray.mk #[47,58,59,61,64,91,92,93,124]).data.toList.contains c=a0) h3;obtain⟨d,h1⟩:∃a,[63,94,96,123,125].contains c=a:=⟨_,rfl⟩;rw[h1];replace h1:=A6 ((ByteArray.mk #[63,94,96,123,125]).data.toList.contains c=d) h1;obtain⟨a2,h2⟩:∃a,[32,34,35,60,62].contains c=a:=⟨_,rfl⟩;rw[h2];replace h2:=A6 ((ByteArray.mk #[32,34,35,60,62]).data.toList.contains c=a2) h2;have hway:=Rt c;generalize BR c=b at hway⊢;go_in;cases a0
 ·cases d
  ·exact AjH
  exact Ahh
 clear hway;exact XF
def Apw(set:Nat)(a:set<6)(c:UInt8)(w:A7):AD A8 271 #[.int .i64 (set:Int),.int .u8 (c:Int)] w (GH set c w):=by
 match set,a with
 |0,_=>exact AlJ c w|1,_=>exact AwX c w|2,_=>exact AkT c w|3,_=>exact ArT c w|4,_=>exact Aug c w|5,_=>exact Awo c w
variable{l:A5}
def AnI(h:l.length<2):K0 l=false:=by
 match l,h with
 |[],_=>rfl|[a],_=>rfl
def AfQ(a b:UInt8)(r:A5):K0 (a::b::r)=(E6 [a,b]&&(match r with|[]=>true|c::_=>[47,92,63,35].contains c)):=rfl
def AeQ(s:A9)(w:A7)(u:s.size<=4294967296):AD A8 210 #[.string s] w (AzJ (.bool (K0 s)) w):=by
 by_cases v:2<=s.size
 ·have t:2<=(s.size:Int):=A4;have a:=Aw s 0 A4;have g:=Aw s 1 A4;rw[C9]at a;rw[g]at a;have c:=H0 (λw=>Us (s.extract 0 2) w Bk);have i:(s.extract 0 2).toList=[s[0],s[1]]:=by rw[toList_extract,a];rfl
  rw[i]at c;by_cases k:s.size=2
  ·have⟨e1,q⟩:=LQ (show(s.size:Int)=2 by omega);have hv:=A6 (K0 s.toList=E6 [s[0],s[1]]) (by
    rw[a,AfQ,CP s 2 A4];exact Kj _)
   generalize E6 [s[0],s[1]]=b at c hv;change Hid _ at a g i k;go_in;cases b;all_goals
    go_wp2_with(go_call c;refine AH ?_);go_ret;exact⟨JQ,rfl⟩
  have q:((s.size:Int)==2)=false:=DV;have o:=Aw s 2 A4;have r:2<s.size:=A4;have hv:=A6 (K0 s.toList=(E6 [s[0],s[1]]&&([47,92,63,35]:A5).contains s[2])) (by
   rw[a,AfQ,o])
  have d:=λw=>Tryz.strings_IndexByte ⟨#[47,92,63,35]⟩ (s[2].toNat:Int) w;have l:((s[2].toNat:Int)).toNat.toUInt8=s[2]:=AN;have n:(ByteArray.mk #[47,92,63,35]).data.toList=[47,92,63,35]:=rfl;simp only[l,n]at d;have j:=Ake [47,92,63,35] s[2];generalize Lib.indexByte [47,92,63,35] s[2]=z at d j;replace d:=H0 d;rw[j]at hv;have f:(0<=z/\Hid (decide (0<=z)=true))\/(z<0/\Hid (decide (0<=z)=false)):=by
   by_cases h:0<=z
   ·exact .inl ⟨h,H0 (Bx h)⟩
   exact .inr ⟨A4,H0 (BO h)⟩
  generalize E6 [s[0],s[1]]=b at c hv;change Hid _ at j a g o i l n k;go_in;cases b
  ·go_wp2_with(go_call c;refine AH ?_);go_ret;exact⟨JQ,rfl⟩
  rcases f with⟨p,m⟩|⟨p,m⟩;all_goals
   rw[m.out]at hv;go_wp2_with(first|(go_call c;refine AH ?_)|(go_call d as e w'⟨rfl,hw⟩;obtain rfl:=hw.symm));go_ret;exact⟨by rw[hv.out];first|rfl|(show Ending.returned (Value.bool _)=_;simp;done)|(show Ending.returned (Value.bool _)=_;simp;omega),rfl⟩
 have t:(s.size:Int)<2:=A4;rw[AnI Dy];exact KO
structure EX(w:A7)(pa:Option Addr)(n c:Nat)(l:List A9):Prop where
 len:l.length=n
 read:CA w (.slice pa n c) l
 nilC:pa=none->c=0
variable{w w':A7}{n:Nat}
def EX.below{K:Nat}{pa:Option Addr}{c:Nat}{l:List A9}(h:EX w pa n c l)(a:AF K w w')(b:w.heap.size<=K):EX w' pa n c l:=⟨h.len,h.read.below a b,h.nilC⟩
variable{B:Nat}{v:AJ}
def EX.own{l:List A9}(h:OwnS w B 9 v l):∃pa c,v=.slice pa l.length c/\EX w pa l.length c l:=by
 have a:=h.read;rcases h.2 with⟨rfl,b⟩|⟨g,e,d,rfl,-⟩
 ·exact⟨none,0,by rw[b],rfl,by rw[b];exact a,λ_=>rfl⟩
 exact⟨_,_,rfl,rfl,a,λh=>C5⟩
def NL(L:List (A5))(w:A7)(e:Ag)(w':A7):Prop:=
 ∃(v:AJ)(l:List A9),e=.returned v/\Hid (l.map (·.toList)=L)/\OwnS w' w 9 v l/\AF w w w'
def V7{l:List A9}(h:l.length=1):LN (l.map (·.toList))=Fo (l[0]' A4).toList:=by
 match l,h with
 |[a],_=>rfl
def Vx{l:List A9}(h:l.length≠1):LN (l.map (·.toList))=false:=by
 match l,h with
 |[],_=>rfl|[a],h=>exact absurd rfl h|a::b::r,_=>rfl
def Ai5(s:A9)(pa:Option Addr)(n c:Nat)(l:List A9)(w:A7)(q:EX w pa n c l)(B:n<=1000000)(hc:n<=c)(y:∀t∈l,t.size<=4294967296):AD A8 213 #[.string s,.slice pa n c] w (NL (CK s (l.map (·.toList))) w):=by
 obtain⟨rfl,z,aX⟩:=q;have⟨a1,c1,hv,hcell⟩:=z;obtain⟨rfl,-,rfl⟩:pa=a1/\l.length=l.length/\c=c1:=La;clear hv;have fB:pa=none->l=[]:=λh=>by
  cases l with
  |nil=>rfl
  |cons a r=>have⟨g,o,e,_⟩:=hcell AN;rw[h]at e;cases e
 obtain⟨k,u⟩:=AI ((s.toList==[102,105,108,101]));have hfl:(s.toList==Av)=k:=u;by_cases h0:l.length=0
 ·have j:l=[]:=EP h0;have p:(l.length:Int)<=0:=A4;obtain⟨m,hm⟩:=AI (l.take 0);have aY:m.length=0:=Vn;have hv:=A6 (m.map (·.toList)=CK s (l.map (·.toList))) (by
   rw[<-hm];subst j;unfold CK;split<;>rfl)
  have x:=A6 (([]:List A9).map (·.toList)=CK s (l.map (·.toList))) (by
   rw[<-hv.out,<-hm,J5])
  have v:0<=(c:Int):=A4;rw[h0];change Hid _ at hm j hfl;clear aX fB hcell p;cases pa with
  |none=>
   go_in;go_wp2;go_ret;exact⟨_,[],rfl,x,OwnS.nil _ _ _,AU _ _⟩
  |some a0=>
   have hc1:=A6 ((some a0:Option Addr)=none->c=0/\m=[]) (λh=>C5);have hc2:=A6 (0<m.length->∃g o,(some a0:Option Addr)=some ⟨g,o,none⟩/\∀i(h:i<m.length),w.cell? ⟨g,o+i,none⟩=some (.string m[i])) (λh=>A4);replace aY:=H0 aY;go_in;go_wp2_with(refine Lb Es rfl (.const (.slice none 0 0)) (.tmp 29) rfl m (some a0) c rfl MR hc1 hc2 (OwnS.nil _ _ _) (AU w w) (AG _) XK (by rw[aY.out];simp) ?_;intro v' w2 ho hb);exact Ob
 have b:(l[0]' A4).size<=4294967296:=y _ (CI ..);have mX:l.take (l.length-1)=l.dropLast:=by rw[OD]
 cases k
 ·obtain⟨m,hm⟩:=AI (l.take (l.length-1));have aY:m.length=(l.length-1):=Vn;have hv:=A6 (m.map (·.toList)=CK s (l.map (·.toList))) (by
   rw[<-hm];unfold CK;rw[hfl];simp only[ON];rw[AA AE,<-Nc,mX])
  have hc1:pa=none->c=0/\m=[]:=λh=>⟨aX h,by rw[<-hm,fB h];simp⟩;have hc2:0<m.length->∃g o,pa=some ⟨g,o,none⟩/\∀i(h:i<m.length),w.cell? ⟨g,o+i,none⟩=some (.string m[i]):=λh=>by
   have⟨g,o,e,hcc⟩:=hcell A4;refine⟨g,o,e,λi hi=> ?_⟩;have hil:i<l.length:=A4;exact Zy
  change Hid _ at hc1 hc2 aY hm hfl;clear aX fB;replace hcell:=H0 hcell;go_in;go_wp2_with(first|(go_call hno;refine AH ?_)|(refine Lb Es rfl (.const (.slice none 0 0)) (.tmp 29) rfl m pa c rfl MR hc1 hc2 (OwnS.nil _ _ _) (AU w w) (AG _) Ak1 AiW ?_;intro v' w2 ho hb));exact Ob
 have f:0<=(l.length:Int)-1:=A4;obtain⟨g0,o0,rfl,hcc⟩:=hcell A4;have d:=hcc 0 A4;rw[Jy]at d;by_cases h1:l.length=1
 ·rw[h1];rw[h1]at hc mX;replace f:=H0 f;have iI:=V7 h1;generalize hx0:l[0]' A4=x0 at d iI b;have hno:=H0 (λw=>AaB x0 w b);generalize hN:Fo x0.toList=N at hno iI;change Hid _ at hN hx0 h1;cases N
  ·
   obtain⟨m,hm⟩:=AI (l.take 0);have aY:m.length=0:=Vn;have hv:=A6 (m.map (·.toList)=CK s (l.map (·.toList))) (by
    rw[<-hm];unfold CK;rw[hfl,iI];simp only[Ma];rw[AA AE,<-Nc,<-mX])
   exact AdC
  ·
   obtain⟨m,hm⟩:=AI (l.take 1);have aY:m.length=1:=by rw[<-hm,Cl];have:=h1.out;omega
   have hv:=A6 (m.map (·.toList)=CK s (l.map (·.toList))) (by
    rw[<-hm];unfold CK;rw[hfl,iI];simp only[Kj];rw[AC trivial,Bc (by have:=h1.out;omega)])
   exact AdC
 have A:((l.length:Int)==1)=false:=DV;have iI:=Vx h1;replace h1:=H0 h1;obtain⟨m,hm⟩:=AI (l.take (l.length-1));have aY:m.length=(l.length-1):=Vn;have hv:=A6 (m.map (·.toList)=CK s (l.map (·.toList))) (by
  rw[<-hm];unfold CK;rw[hfl,iI];simp only[Ma];rw[AA AE,<-Nc,mX])
 have hc1:(some ⟨g0,o0,none⟩:Option Addr)=none->c=0/\m=[]:=λh=>C5;have hc2:0<m.length->∃g o,(some ⟨g0,o0,none⟩:Option Addr)=some ⟨g,o,none⟩/\∀i(h:i<m.length),w.cell? ⟨g,o+i,none⟩=some (.string m[i]):=λh=>by
  refine⟨g0,o0,rfl,λi hi=> ?_⟩;have hil:i<l.length:=A4;exact Zy
 exact AfI
def QA(s:A9)(w:A7):AD A8 67 #[.string s] w (AzJ (.bool (Ar s)) w):=by
 rw[AcR];obtain⟨b1,h1⟩:=AI ((s.toList==[102,116,112]));obtain⟨b2,j⟩:=AI ((s.toList==[102,105,108,101]));obtain⟨b,g⟩:=AI ((s.toList==[104,116,116,112]));obtain⟨c,i⟩:=AI ((s.toList==[104,116,116,112,115]));obtain⟨a,f⟩:=AI ((s.toList==[119,115]));obtain⟨d,h⟩:=AI ((s.toList==[119,115,115]));rw[h1,j,g,i,f,h];have hway:b1=true\/(b1=false/\(b2=true\/(b2=false/\(b=true\/(b=false/\(c=true\/(c=false/\(a=true\/(a=false/\(d=true\/d=false)))))))))):=by
  cases b1<;>cases b2<;>cases b<;>cases c<;>cases a<;>cases d<;>simp
 exact Ad7
def AnK(s:A9)(w:A7):AD A8 258 #[.string s] w (AzJ (.tuple #[.int .i64 (((Kh s).getD 0:Nat):Int),.bool (Kh s).isSome]) w):=by
 exact Ad3
def X8(s:A9)(w:A7)(a:s.size<=4294967296):AD A8 118 #[.string s] w (AzJ (.bool (E6 s)) w):=by
 by_cases h2:s.size=2
 ·have⟨e1,n1⟩:=LQ (show(s.size:Int)=2 by omega);rw[XX s h2];show AD _ _ _ _ (AzJ (.bool (Hx s[0]&&(s[1]==58||s[1]==124))) w);have q1:((s[1].toNat:Int)==58)=(s[1]==58):=eqI _ 58;have q2:((s[1].toNat:Int)==124)=(s[1]==124):=eqI _ 124;have hl:=H0 (λw=>Ol (s[0].toNat:Int) w);exact AeY
 exact Acf
def AkK(s:A9)(w:A7)(a:s.size<=4294967296):AD A8 122 #[.string s] w (AzJ (.bool (Fo s)) w):=by
 have hd:=H0 (λw=>X8 s w a);exact AlV
variable{r:A5}
def Ae8:HX l=some r↔(l=46::r\/l=37::50::101::r\/l=37::50::69::r):=by
 constructor
 ·intro h
  match l,h with
  |c::q,h=>
   rw[Lu]at h;split at h
   ·rename_i hc;cases h;exact .inl (by rw[hc])
   split at h
   ·rename_i hc;unfold Nx at h;split at h
    ·split at h
     ·rename_i b e q2 hb;cases h;obtain⟨rfl,rfl|rfl⟩:=hb
      ·exact .inr (.inl (by rw[hc]))
      exact .inr (.inr (by rw[hc]))
     ·cases h
    ·cases h
   ·cases h
 rintro(rfl|rfl|rfl)<;>rfl
def Aal(l:A5):EG l=((l==[46])||((l==[37,50,101])||(l==[37,50,69]))):=by
 unfold EG;rw[Fl];simp[CW,Gd];exact Ae8
def Za(s:A9)(w:A7):AD A8 190 #[.string s] w (AzJ (.bool (EG s)) w):=by
 rw[Aal];obtain⟨b1,h1⟩:=AI ((s.toList==[46]));obtain⟨b2,d⟩:=AI ((s.toList==[37,50,101]));obtain⟨b,c⟩:=AI ((s.toList==[37,50,69]));rw[h1,d,c];have a:b1=true\/(b1=false/\(b2=true\/(b2=false/\(b=true\/b=false)))):=by simp_all
 go_in;rcases a with rfl|⟨rfl,rfl|⟨rfl,rfl|rfl⟩⟩;all_goals
  go_wp2;go_ret;exact⟨AN,rfl⟩
def NT(l:A5)(i:Nat):Bool:=EG (l.take i)&&EG (l.drop i)
def AxD{a:A5}(b:EG a=true)(e:l=a++r):HX l=some r:=by
 subst e;rw[Aal]at b;simp[Gd,CW]at b;rcases b with rfl|rfl|rfl<;>rfl
def AwR(h:HX l=some r):∃a,EG a=true/\l=a++r:=by
 rcases Ae8.1 h with rfl|rfl|rfl
 ·exact⟨[46],rfl,rfl⟩
 ·exact⟨[37,50,101],rfl,rfl⟩
 exact⟨[37,50,69],rfl,rfl⟩
def AtV{i:Nat}(h:NT l i=true):G1 l=true:=by
 unfold NT at h;rw[C0]at h;unfold G1;rw[AxD h.1 (F7 i l).symm];exact h.2
def Axn(h:∀i,1<=i->i<l.length->NT l i=false):G1 l=false:=by
 unfold G1;cases hb:HX l with
 |none=>rfl
 |some r=>
  dsimp only;have⟨a,ha,e⟩:=AwR hb;cases hr:EG r
  ·rfl
  have h1:1<=a.length:=by
   cases a with
   |nil=>cases ha
   |cons x q=>simp
  have b:1<=r.length:=by
   cases r with
   |nil=>cases hr
   |cons x q=>simp
  have:=h a.length h1 (by rw[e,Aa];omega);unfold NT at this;rw[e,List.take_left,List.drop_left,ha,hr]at this;cases this
def Amy(s:A9)(w:A7)(x:s.size<=4294967296):AD A8 189 #[.string s] w (AzJ (.bool (G1 s)) w):=by
 go_in;go_wp2;go_loop[3] (λi=>∃k:Nat,i=.int .i64 k/\1<=k/\(k<=s.size\/k=1)/\Hid (∀i,1<=i->i<k->NT s i=false)) (λi=>s.size-(intOf i).toNat)
 ·exact⟨1,rfl,AG _,.inr rfl,H0 (λi h1 j=>A4)⟩
 obtain⟨k,rfl,u,v,f⟩:=hrel;by_cases o:k<s.size
 ·have l:(k:Int)<s.size:=A4;have y:0<=(k:Int):=A4;have t:(k:Int)<=s.size:=A4;have g:=H0 (Za (s.extract 0 k));have b:=H0 (Za (s.extract k s.size));have m:(s.extract 0 k).toList=s.toList.take k:=OC;have n:(s.extract k s.size).toList=s.toList.drop k:=UB;have a:NT s k=(EG (s.toList.take k)&&EG (s.toList.drop k)):=rfl;rw[m]at g;rw[n]at b;generalize EG (s.toList.take k)=b1 at g a;generalize EG (s.toList.drop k)=b2 at b a;replace a:=H0 a;clear m n;have r:(b1=true/\b2=true)\/b1=false\/(b1=true/\b2=false):=by cases b1<;>cases b2<;>simp
  have d:=A6 ((b1&&b2)=false->∀i,1<=i->i<k+1->NT s i=false) (λq i h1 j=>by
   by_cases h:i=k
   ·rw[h,a.out];exact q
   exact f.out i h1 A4)
  rcases r with⟨rfl,rfl⟩|rfl|⟨rfl,rfl⟩
  ·have p:=A6 (G1 s.toList=true) (AtV (a.out.trans rfl));go_wp2_with fail;go_call g;refine AH ?_;go_wp2_with fail;go_call b;refine AH ?_;go_wp2;go_ret;exact⟨Ci (by rw[p.out]),rfl⟩
  ·have c:=H0 (d.out rfl);go_wp2_with fail;go_call g;refine AH ?_;go_wp2;go_round;exact⟨k+1,AP,A4,A4,c⟩;exact AzF
  have c:=H0 (d.out rfl);go_wp2_with fail;go_call g;refine AH ?_;go_wp2_with fail;go_call b;refine AH ?_;go_wp2;go_round;exact⟨k+1,AP,A4,A4,c⟩;exact AzF
 have aD:=A6 (G1 s.toList=false) (Axn (λi h1 j=>f.out i h1 (by rw[AK]at j;omega)));go_wp2;go_ret;exact⟨Ci LP,rfl⟩
def Avi(s:A9)(pa:Option Addr)(n c:Nat)(l:List A9)(w:A7)(K:EX w pa n c l)(S:n<=1000000000)(hc:n<=c)(R:∀t∈l,t.size<=4294967296):AD A8 124 #[.string s,.slice pa n c] w (NL (CK s (l.map (·.toList))) w):=by
 have p:=Ah w (.cells #[] 9);have A:=K.below p (AG _);have u:∀k,k<=l.length->(pa=none->c=0/\l.take k=[])/\(0<(l.take k).length->∃g o,pa=some ⟨g,o,none⟩/\∀i(h:i<(l.take k).length),(w.alloc (.cells #[] 9)).cell? ⟨g,o+i,none⟩=some (.string (l.take k)[i])):=by
  obtain⟨rfl,⟨I,c1,hv,b⟩,B⟩:=A;obtain⟨rfl,-,rfl⟩:pa=I/\l.length=l.length/\c=c1:=La;intro k O;refine⟨λh=>⟨B h,?_⟩,λy=> ?_⟩
  ·cases l with
   |nil=>simp
   |cons a r=>have⟨g,o,e,_⟩:=b AN;rw[h]at e;cases e
  rw[Cl]at y;have⟨g,o,e,d⟩:=b A4;refine⟨g,o,e,λi Q=> ?_⟩;rw[Cl]at Q;rw[d i A4,List.getElem_take]
 obtain⟨rfl,⟨I,c1,hv,b⟩,B⟩:=K;obtain⟨rfl,-,rfl⟩:pa=I/\l.length=l.length/\c=c1:=La;clear hv A;have aY:∀k,k<=l.length->Hid ((l.take k).length=k):=λk O=>H0 Fx;obtain⟨j,P⟩:=AI ((s.toList==[102,105,108,101]));have q:(s.toList==Av)=j:=P;have F:=A6 (CK s (l.map (·.toList))=if(j&&LN (l.map (·.toList)))=true then l.map (·.toList)else(l.take (l.length-1)).map (·.toList)) (by
  unfold CK;rw[q,<-Nc,OD])
 replace q:=H0 q;by_cases y:l.length=0
 ·have D:((l.length:Int)==0)=true:=M9;have hv:=A6 ((l.take l.length).map (·.toList)=CK s (l.map (·.toList))) (by
   have e:=EP y;rw[F.out,e];split<;>rfl)
  have⟨hc1,hc2⟩:=u l.length (AG _);have aY:=aY l.length (AG _);generalize l.take l.length=m at hv hc1 hc2 aY;change Hid _ at hc1 hc2 y;clear u b B;go_in;go_wp2_with(refine Lb Es rfl (.tmp 24) (.tmp 25) rfl m pa c rfl MR hc1 hc2 (OwnS.empty (AG _)) p p.size Y1 (by rw[aY.out];simp;omega) ?_;intro E J ho hb);exact Ob
 have D:((l.length:Int)==0)=false:=DV;have L:0<(l.length:Int):=A4;have N:0<=(l.length:Int)-1:=A4;have v:(l[0]' A4).size<=4294967296:=R _ (CI ..);have z:(l.length:Int)<=c:=A4;by_cases hA:j=true/\l.length=1/\Fo (l[0]' A4).toList=true
 ·obtain⟨rfl,h1,hN⟩:=hA;have hv:=A6 ((l.take l.length).map (·.toList)=CK s (l.map (·.toList))) (by
   rw[F.out,V7 h1,hN,AC AE,Li])
  obtain⟨G,H,rfl,d⟩:=b A4;have x:=d 0 A4;rw[Jy]at x;have f:=H0 (λw=>AkK (l[0]' A4) w v);rw[hN]at f;have⟨hc1,hc2⟩:=u l.length (AG _);have aY:=aY l.length (AG _);generalize l.take l.length=m at hv hc1 hc2 aY;generalize(l[0]' A4)=x0 at x f;have M:(l.length:Int)=1:=A4;change Hid _ at hc1 hc2 hN;rw[h1]at aY hc⊢;change Hid _ at d h1 L;clear u b B D N z M;go_in;go_wp2_with(first|(go_call f;refine AH ?_)|(refine Lb Es rfl (.tmp 24) (.tmp 25) rfl m (some ⟨G,H,none⟩) c rfl MR hc1 hc2 (OwnS.empty (AG _)) p p.size XK (by rw[aY.out];simp) ?_;intro E J ho hb));exact Ob
 have hv:=A6 ((l.take (l.length-1)).map (·.toList)=CK s (l.map (·.toList))) (by
  rw[F.out];have:(j&&LN (l.map (·.toList)))=false:=by
   cases j
   ·rfl
   by_cases h1:l.length=1
   ·rw[V7 h1];exact Ahj
   rw[Vx h1];rfl
  rw[this,AA AE])
 have⟨hc1,hc2⟩:=u (l.length-1) A4;have aY:=aY (l.length-1) A4;generalize l.take (l.length-1)=m at hv hc1 hc2 aY;change Hid _ at hc1 hc2;clear u B;by_cases hf:j=true/\l.length=1
 ·obtain⟨rfl,h1⟩:=hf;have hN:Fo (l[0]' A4).toList=false:=by
   exact Ahj
  obtain⟨G,H,rfl,d⟩:=b A4;have x:=d 0 A4;rw[Jy]at x;have f:=H0 (λw=>AkK (l[0]' A4) w v);rw[hN]at f;generalize(l[0]' A4)=x0 at x f;rw[h1]at aY hc⊢;change Hid _ at hN d hA h1 L;clear b D N z;go_in;go_wp2_with(first|(go_call f;refine AH ?_)|(refine Lb Es rfl (.tmp 27) (.tmp 31) rfl m (some ⟨G,H,none⟩) c rfl MR hc1 hc2 (OwnS.empty (AG _)) p p.size XK (by rw[aY.out];simp) ?_;intro E J ho hb));exact Ob
 have C:j=false\/(j=true/\((l.length:Int)==1)=false):=by
  cases j
  ·exact .inl rfl
  exact .inr ⟨rfl,by rw[B6];intro e;exact hf ⟨rfl,A4⟩⟩
 change Hid _ at hA hf b y;go_in;rcases C with rfl|⟨rfl,M⟩;all_goals
  go_wp2_with(refine Lb Es rfl (.tmp 27) (.tmp 31) rfl m pa c rfl MR hc1 hc2 (OwnS.empty (AG _)) p p.size Y1 (by rw[aY.out];simp;omega) ?_;intro E J ho hb);go_ret;rw[Do]at ho;exact⟨_,_,rfl,hv,ho,hb⟩
def AdG:A9:=⟨#[48,49,50,51,52,53,54,55,56,57,65,66,67,68,69,70]⟩
def Sx:∀d:Fin 16,(AdG[d.val]'(by rw[show AdG.size=16 from rfl];exact d.isLt))=Kk d.val:=AX
def Mu(s:A9)(set:Nat)(b:set<6)(w:A7)(n:s.size<=4294967296):AD A8 214 #[.string s,.int .i64 (set:Int)] w (Bi w (Ai set s)):=by
 have h:=H0 (λc w=>Apw set b c w);replace b:=H0 b;go_in;go_wp2;go_loopw[10] (λiv wr=>∃k:Nat,iv=.int .i64 k/\k<=s.size/\DL wr w w (Ai set (s.toList.take k))/\AF w w wr) (λiv _=>s.size-(intOf iv).toNat)
 ·exact⟨0,rfl,AR _,DL.fresh w,Ah _ _⟩
 obtain⟨k,rfl,m,cD,hbel⟩:=hrel;have aP:=hbel.size;have hlen:(Ai set (s.toList.take k)).length<=12884901888:=by
  have:=I3 set (s.toList.take k);exact OK
 by_cases d:k<s.size
 ·have aV:=H0 ((congrArg (Ai set) (DX s k d)).trans (Rb set _ _));generalize hc:s[k]=c at aV;have i8:=H0 (λw=>h.out c w);unfold GH at i8;have l:=Bo c;have o:=Bf c;unfold Dd at aV;generalize Ai set (s.toList.take k)=P at aV hlen cD;cases hb:Bv set c
  ·rw[hb]at i8 aV;rw[AA AE]at aV;replace hb:=H0 hb;have hw:=H0 (KF w w P c (c:Int) rfl wr cD A4 aP);go_wp2_with(go_call i8;refine AH ?_);refine hw.out.mono ?_;rintro e w2⟨rfl,hb2,hbb⟩;exact Afo
  rw[hb]at i8 aV;rw[AC rfl]at aV;replace hb:=H0 hb;have hw:=H0 (KF w w P 37 37 rfl wr cD A4 aP);go_wp2_with(go_call i8;refine AH ?_);refine hw.out.mono ?_;rintro e w2⟨rfl,hb2,hbb⟩;have aE:=hbel.trans hbb;go_wp2_with fail;go_call(KF w w _ _ _ rfl w2 hb2 (by rw[Aa];show P.length+1<=_;omega) aE.size) as e w3⟨rfl,hb3,hbb3⟩;have i:=aE.trans hbb3;go_wp2_with fail;go_call(KF w w _ _ _ rfl w3 hb3 (by rw[Aa,Aa];show P.length+1+1<=_;omega) i.size) as e w4⟨rfl,hb4,hbb4⟩;have j:=i.trans hbb4;have f:=Sx ⟨c.toNat/16,A4⟩;have a:=Sx ⟨c.toNat%16,A4⟩;dsimp only at f a;have g:DL w4 w w (Ai set (s.toList.take (k+1))):=by
   rw[aV.out,<-f,<-a];have:=hb4;rw[CQ,CQ]at this;exact this
  clear f a hb2 hb3 hb4;go_wp2;go_roundw;exact⟨k+1,AP,A4,g,j⟩;exact AzF
 exact AbS
def Ei(w:A7)(C b:Nat)(l:A5):Prop:=∃p v,(p=.pointer none\/p=.pointer (some ⟨b,0,none⟩))/\w.heap[b]?=some (.cells #[p,v] 76 (0,0))/\w.ownsRow C 5 1 v (Lib.byteCells l).length (Lib.byteCells l)/\v.ownBlock≠some b
variable{C:Nat}
def Jl{E:Ab}{xs:List AJ}(h:w.ownsRow C E 1 v n xs)(a:B<=C):w.ownsRow B E 1 v n xs:=by
 exact Wq
def S5{w0:A7}{E:Ab}{xs j:List AJ}(h:w.ownsRow B E 1 v n xs)(i:w0.ownsRow C E 1 v n j):w.ownsRow C E 1 v n xs:=by
 refine⟨h.1,?_⟩;rcases h.2 with l|⟨g,b,a,rfl,k,rest⟩
 ·simp_all
 rcases i.2 with⟨e,_⟩|⟨g',f,d,e,c,_⟩
 ·cases e
 ·cases e;exact .inr ⟨g,b,a,rfl,c,rest⟩
variable{b:Nat}
def Ei.to(h:Ei w C b l)(h1:B<=b)(e:B<=C):DL w B b l:=by
 obtain⟨p,v,rfl|rfl,c,a,d⟩:=h
 ·exact .inl ⟨h1,v,c,Jl a e,d⟩
 exact .inr ⟨h1,v,c,Jl a e,d⟩
def Ei.of(h:DL w B b l)(e:∀p v,w.heap[b]?=some (.cells #[p,v] 76 (0,0))->w.ownsRow C 5 1 v (Lib.byteCells l).length (Lib.byteCells l)):Ei w C b l:=by
 rcases h with⟨f,v,a,d,c⟩|⟨f,v,a,d,c⟩
 ·exact⟨_,v,.inl rfl,a,e _ _ a,c⟩
 exact⟨_,v,.inr rfl,a,e _ _ a,c⟩
def Ei.fresh(w:A7)(C:Nat):Ei (w.alloc (.cells #[.pointer none,.slice none 0 0] 76)) C w []:=
 ⟨_,_,.inl rfl,CB w _,KQ _ _ _ _,by simp[Value.ownBlock]⟩
def Ei.keep(h:Ei w C b l)(a:AF w w w'):Ei w' C b l:=by
 have⟨p,v,hp,hblk,hown,hne⟩:=h;exact⟨p,v,hp,by rw[a.block b (EZ hblk)];exact hblk,HR hown a (AG _),hne⟩
def Ei.lt(h:Ei w C b l):b<w.heap.size:=by
 have⟨p,v,hp,hblk,hown,hne⟩:=h;exact EZ hblk
def Yt(b:Nat)(l:A5)(w:A7)(h:DL w 0 b l):AD A8 91 #[.pointer (some ⟨b,0,none⟩)] w λe w'=>e=.returned (.tuple #[])/\Lib.BuilderAt 76 5 0 b (.pointer (some ⟨b,0,none⟩)) (Lib.byteCells l) w'/\(w'=w\/w'=w.setCell ⟨b,0,none⟩ (.pointer (some ⟨b,0,none⟩))):=by
 have⟨j,hj,hjs⟩:=H1.1 Ahg;rcases h with h|h
 ·have c:=h.cell0;have a:=h.shape;have k:=h.frozen0;have d:=Lib.run_to_unsafe (P:=A8) w ⟨b,0,none⟩ underlying74 underlying158 hj (by rw[hjs];decide) a (Nat.zero_lt_succ 1);have i:=λw=>run_callFunc_extern (P:=A8) (w:=w) (args:= #[.pointer (some ⟨b,0,none⟩)]) func158 AO AO AO (e:=Extern.AbiNoEscape.same) AO;have g:=Lib.run_from_unsafe (P:=A8) w ⟨b,0,none⟩ underlying158 underlying74 hj a Aga;have f:=Lib.run_noEscape (P:=A8) w (.pointer (some ⟨b,0,none⟩));go_in;go_wp2;go_end0;exact⟨rfl,h.used _,.inr rfl⟩
 have c:=h.cell0;have d:=Lib.run_neq_ptr_same (P:=A8) w ⟨b,0,none⟩ underlying74 hj;go_in;go_wp2;go_end0;exact⟨rfl,h,.inl rfl⟩
def Gy(b C:Nat)(k:Nat):Prop:=k=b\/C<=k
def AxX(C b:Nat)(l:A5)(s:A9)(w:A7)(h:Ei w C b l)(B:l.length<=1099511627776)(D:s.size<=1099511627776)(y:C<=w.heap.size):AD A8 40 #[.pointer (some ⟨b,0,none⟩),.string s] w λe w'=>e=.returned (.tuple #[.int .i64 s.size,.nilIface])/\Ei w' C b (l++s.toList)/\Aj (Gy b C) w w':=by
 have⟨i0,hi,hz0,hz1,hz2⟩:=IQ Oh;have A:=h.to (AR _) (AR _);have⟨p0,v0,hp0,hblk0,hown0,hne0⟩:=h;go_in;go_wp2_with fail;go_call Yt as e w1⟨rfl,⟨hBb,v,hblk,a,hne⟩,hw1⟩;have r:v=v0/\Aj (Gy b C) w w1/\w.heap.size<=w1.heap.size:=by
  rcases hw1 with rfl|rfl
  ·rw[hblk0]at hblk;simp[LV,Nf,PU,Jr,KA]at hblk;exact⟨hblk.2.symm,Aj.refl _ _,AG _⟩
  rw[Ee hblk0]at hblk;simp only[LV,Nf]at hblk;have:(#[p0,v0]:Array AJ).setIfInBounds 0 (.pointer (some ⟨b,0,none⟩))= #[.pointer (some ⟨b,0,none⟩),v0]:=rfl;rw[this]at hblk;simp[PU,Jr,KA,true_and]at hblk;exact⟨hblk.symm,(Aj.refl _ _).set (.inl rfl) _ _,AN⟩
 obtain⟨rfl,q,z⟩:=r;have a:=S5 a hown0;have c1:w1.cell? ⟨b,1,none⟩=some v:=QB;rw[Hd]at a;go_wp2_with(at_builtin;refine Ux _ rfl _ _ 25 9 rfl C 5 i0 underlying25 underlying9 hi hz0 hz1 hz2 _ _ _ rfl a s rfl C1 A4 A4 ?_;intro x n hown' m _;obtain⟨f,i,c2,rfl⟩:=Q5 hown';have g:=(m.block b (EZ hblk) (λe=>hne e.symm)).trans hblk;have⟨d1,f1⟩:=PV g);go_wp2;go_ret2;have c:=(AU C w1).grown m A4 (λk j=>(a.lt k j).1);have t:Aj (Gy b C) w1 n:=⟨c.os,c.tape,c.output,c.size,λk j o=>c.block k (by
  unfold Gy at o;rw[not_or]at o;omega)⟩
 refine⟨rfl,?_,(q.trans t).set (.inl rfl) _ _⟩;have p:n.ownsRow C 5 1 (.slice f i c2) (Lib.byteCells (l++s.toList)).length (Lib.byteCells (l++s.toList)):=by
  exact AdE
 have⟨_,v3,hblk3,hown3,hne3⟩:=QJ (AR b) g (Jl p (AR _)) Re;have d:=(Ee g).symm.trans hblk3;simp only[LV,Nf]at d;have u:(#[.pointer (some ⟨b,0,none⟩),v]:Array AJ).setIfInBounds 1 (.slice f i c2)= #[.pointer (some ⟨b,0,none⟩),.slice f i c2]:=rfl;rw[u]at d;simp[PU,Jr,KA,true_and]at d;subst d;exact⟨_,_,.inr rfl,hblk3,S5 hown3 p,hne3⟩
def Pp(b:Nat)(T:Ab):∀(d:List AJ)(o:Nat)(w:A7)(a:Array AJ),w.heap[b]?=some (.cells a T (0,0))->∃c:Array AJ,(w.setCells b o d).heap[b]?=some (.cells c T (0,0))/\c.size=a.size
 |[],o,w,a,h=>⟨a,h,rfl⟩
 |v::r,o,w,a,h=>by
  have⟨c',h1,h2⟩:=Pp b T r (o+1) (w.setCell ⟨b,o,none⟩ v) (a.setIfInBounds o v) (by
   simp only[World.setCell,Js,h];rfl)
  exact⟨c',h1,AS⟩
def Ou{a:A7}(b:Nat)(c:B<=b):∀(d:List AJ)(o:Nat)(w:A7),AF B a w->AF B a (w.setCells b o d)
 |[],_,_,h=>h|v::r,o,w,h=>Ou b c r (o+1) _ (h.setCell c v)
def LJ{g:Nat}{a:Array AJ}{T:Ab}(h:w.heap[g]?=some (.cells a T (0,0)))(j:Nat):w.cell? ⟨g,j,none⟩=a[j]? :=by simp[World.cell?,h]
def Rj(n:Nat):(Builtin.zeroCells (Value.int .i64 0).cells n).size=n:=by simp[Builtin.zeroCells,Value.cells]
def Qe(w:A7)(p:Addr):w.drew.cell? p=w.cell? p:=rfl
def QX{a:A7}(h:AF B a w):AF B a w.drew:=⟨h.os,h.tape,h.output,h.size,h.block⟩
def QP{g a:Nat}{b:Array AJ}{L:List Nat}(e:B<=g)(d:w.heap[g]?=some (.cells b 3 (0,0)))(k:b.size=a)(i:a<=BK)(f:L.length<=a)(hc:∀j(h:j<L.length),w.cell? ⟨g,j,none⟩=some (Cd L[j])):C4 w B (.slice (some ⟨g,0,none⟩) L.length a) L:=by
 refine⟨AN,.inr ⟨g,a,b,rfl,e,d,f,i,A4,?_⟩⟩;rw[Nat.mul_one];apply List.ext_getElem?;intro j;by_cases c:j<L.length
 ·have:=hc j c;rw[LJ d]at this;rw[RO,AC c,L9,this,GF,Cs c];rfl
 simp_all
def Qk(l:List Nat)(p c:Nat)(a:p<=l.length):(Eu l p c).length=l.length+1:=by unfold Eu;simp;omega
def Up(l:List Nat)(p c:Nat)(a:p<=l.length)(j:Nat)(b:j<(Eu l p c).length):(Eu l p c)[j]=if j<p then l.getD j 0 else if j=p then c else l.getD (j-1) 0:=by
 have e:(Eu l p c)[j]?=some (if j<p then l.getD j 0 else if j=p then c else l.getD (j-1) 0):=by
  rw[Qk l p c a]at b;unfold Eu;rw[List.getElem?_append,Cl,Q3 a];by_cases h1:j<p
  ·grind
  rw[AA h1,AA h1];by_cases d:j=p
  ·grind
  grind
 grind
def AnM(w:A7)(vb c:Nat):Prop:=w.heap[vb]?=some (.cells #[.int .i64 (c:Int)] 3 (0,0))
def Axq(L:List Nat)(B:Nat)(w:A7)(e:Ag)(w':A7):Prop:=∃v:AJ,e=.returned v/\C4 w' B v L/\AF B w w'
def Rm(l:List Nat)(j:Nat)(h:j<l.length):l.getD j 0=l[j]:=by simp_all
def Azs(v:AJ)(B:Nat)(l:List Nat)(p c o:Nat)(w:A7)(D:C4 w B v l)(S:AnM w o c)(C:B<=w.heap.size)(hne:∀g n k,v=.slice (some ⟨g,0,none⟩) n k->o≠g)(K:p<=l.length)(hl:l.length<=1000000):AD A8 363 #[v,.int .i64 (p:Int),.slice (some ⟨o,0,none⟩) 1 1] w (Axq (Eu l p c) B w):=by
 have J:w.heap[o]?=some (.cells #[.int .i64 (c:Int)] 3 (0,0)):=S;have q:∀j u,[Value.int .i64 (c:Int)][j]?=some u->w.cell? ⟨o,0+j,none⟩=some u:=by
  intro j u hj;rw[Db,LJ S]
  match j,hj with
  |0,hj=>exact hj
 have s:∀u∈[Value.int .i64 (c:Int)],u.oneCell'=true:=by intro u hu;rw[CO.1 hu];rfl
 have I:=λ(w:A7)(n k:Nat)=>grownCap_ge w n k 3;have N:=λ(w:A7)(n k:Nat)(h:n<=BK)=>grownCap_le_maxLen w n k 3 h;have A:(l.length+1)*8<=140737488355328:=A4;have aY:l.length+1<=BK:=C1;have d:=Qk l p c K;rcases D.2 with⟨rfl,hn⟩|⟨g,b,G,rfl,P,O,bE,z,Y,eU⟩
 ·have cZ:l=[]:=EP hn;subst cZ;have V:p=0:=by simpa using K
  subst V;go_call(Any2.slices_Insert_int_end_grow Tryz.lays2_21 none 0 0 o 0 1 1 [] [.int .i64 (c:Int)] w AE (AG _) AE AE rfl rfl (λ_=>rfl) (λa h=>nomatch h) q s) as e w'⟨rfl,rfl⟩;refine⟨_,rfl,?_,(QX (AU _ _)).alloc C _⟩;have R:=I w 1 0;refine QP (L:=Eu [] 0 c) C (CB w.drew _) ?_ (N w 1 0 C1) (by show 1<=_;exact R) ?_
  ·show _=grownCap w (0+1) 0 3;rw[Ok,Rj];show 1+_=_;have:=I w (0+1) 0;have e:Tryz.lays2_21_ren.t 3=3:=rfl;rw[e];omega
  intro j hj;have:j=0:=by have:j<1:=hj;omega
  subst this;rw[LJ (w:=w.drew.alloc _) (g:=w.heap.size) (CB w.drew _),TV AN];rfl
 have U:o≠g:=hne g _ _ rfl;have i:∀j(h:j<l.length),w.cell? ⟨g,j,none⟩=some (Cd l[j]):=λj hj=>by
  have:=KH D j A4;rw[this];simp[hj]
 have xG:∀j u,(l.map Cd)[j]?=some u->w.cell? ⟨g,0+j,none⟩=some u:=by
  intro j u hj;rw[GF]at hj;by_cases h:j<l.length
  ·rw[Cs h]at hj;rw[Db,i j h];exact hj
  rw[QF A4]at hj;cases hj
 have M:∀u∈l.map Cd,u.oneCell'=true:=by intro u hu;obtain⟨x,_,rfl⟩:=EU.1 hu;rfl
 have W:(l.map Cd).length=l.length:=AN;have yR:G.size=b:=by rw[Y,Nat.mul_one]
 have T:∀j,j<b->(w.cell? ⟨g,j,none⟩).isSome=true:=λj hj=>by rw[LJ O,Pl A4];rfl
 have Q:∀j,w.frozen? ⟨g,j,none⟩=false:=λj=>by simp[World.frozen?,O]
 by_cases r:l.length+1<=b
 ·by_cases F:p=l.length
  ·subst F;go_call(Any2.slices_Insert_int_end_room Tryz.lays2_21 g 0 l.length b o 0 1 1 [.int .i64 (c:Int)] w AE r (by unfold BK at z;omega) rfl (λj hj=>T _ A4) (λj _=>Q _) q s) as e w'⟨rfl,rfl⟩;have⟨cur',h1,h2⟩:=Pp g 3 [.int .i64 (c:Int)] (0+l.length) w G O;refine⟨_,rfl,?_,Ou g P _ _ _ (AU _ _)⟩;rw[<-d];refine QP P h1 (h2.trans yR) z A4 (λj hj=> ?_);rw[Up l _ c K j hj];rw[d]at hj;by_cases f:j<l.length
   ·rw[AC f,O0 g _ _ _ _ (λ_ _=>Or.inl (by show j<0+l.length;omega)),i j f,Rm l j f]
   have y:j=l.length:=A4;rw[AA f,AC y];have:=R3 g [.int .i64 (c:Int)] (0+l.length) w (λj hj=>T _ RI) 0 AN;rw[show 0+l.length+0=j by omega]at this;rw[this];rfl
  have H:p<l.length:=A4;go_call(Any2.slices_Insert_int_shift Tryz.lays2_21 g 0 l.length b p o 0 1 1 (l.map Cd) [.int .i64 (c:Int)] w H AE r (by unfold BK at z;omega) U W rfl xG (λj hj=>by rw[Db];exact T _ A4) (λj _=>Q _) q M s 3 3 1 b (by simp only[World.shape?,J];rfl) (by simp only[World.shape?,O,yR]) A4 (by simp[World.frozen?,show w.heap[o]? =_ from S]) (by simp[World.frozen?,show w.heap[o]? =_ from S])) as e w'⟨rfl,rfl⟩;have⟨cur1,h1,h2⟩:=Pp g 3 ((l.map Cd).drop p) (0+(p+1)) w.drew G O;have⟨cur2,h3,h4⟩:=Pp g 3 [.int .i64 (c:Int)] (0+p) _ cur1 h1;refine⟨_,rfl,?_,Ou g P _ _ _ (Ou g P _ _ _ (QX (AU _ _)))⟩;rw[<-d];have E:∀j,j<b->((w.drew.setCells g (0+(p+1)) ((l.map Cd).drop p)).cell? ⟨g,j,none⟩).isSome=true:=λj hj=>by rw[LJ h1,Pl A4];rfl
  refine QP P h3 (h4.trans (h2.trans yR)) z A4 (λj hj=> ?_);rw[Up l _ c K j hj];rw[d]at hj;by_cases m:j<p
  ·rw[AC m,O0 g _ _ _ _ (λ_ _=>Or.inl (by show j<0+p;omega)),O0 g _ _ _ _ (λ_ _=>Or.inl (by show j<0+(p+1);omega)),Qe,i j A4,Rm l j A4]
  rw[AA m];by_cases y:j=p
  ·rw[AC y];have:=R3 g [.int .i64 (c:Int)] (0+p) _ (λj hj=>E _ RI) 0 AN;rw[show 0+p+0=j by omega]at this;rw[this];rfl
  rw[AA y,O0 g _ _ _ _ (λ_ _=>Or.inr (by show 0+p+1<=j;omega))];have:=R3 g ((l.map Cd).drop p) (0+(p+1)) w.drew (λj hj=>by rw[Qe];exact T _ RI) (j-(p+1)) B7;rw[show 0+(p+1)+(j-(p+1))=j by omega]at this;exact AcH
 have gD:b<l.length+1:=A4;have R:=I w (l.length+1) b;have nQ:=N w (l.length+1) b aY;by_cases F:p=l.length
 ·subst F;go_call(Any2.slices_Insert_int_end_grow Tryz.lays2_21 (some ⟨g,0,none⟩) l.length b o 0 1 1 (l.map Cd) [.int .i64 (c:Int)] w AE bE gD A W rfl (λh=>nomatch h) (λa h j u hj=>by
   cases h;have e:(⟨g,0,none⟩:Addr).add j=⟨g,0+j,none⟩:=by unfold Addr.add;split<;>simp_all
   rw[e];exact xG j u hj) q s) as e w'⟨rfl,rfl⟩
  refine⟨_,rfl,?_,(QX (AU _ _)).alloc C _⟩;rw[<-d];refine QP C (CB w.drew _) ?_ (by rw[d];exact nQ) (by rw[d];exact R) ?_
  ·rw[Ok,Rj,d];have e:Tryz.lays2_21_ren.t 3=3:=rfl;rw[e];simp;omega
  intro j hj;rw[Up l _ c K j hj];rw[d]at hj;rw[LJ (w:=w.drew.alloc _) (g:=w.heap.size) (CB w.drew _),TV B7,GB,List.getElem?_append];by_cases f:j<l.length
  ·rw[AC (by simpa using f),AC f,GF,Cs f,Rm l j f];rfl
  have y:j=l.length:=A4;rw[AA (by simpa using f),AA f,AC y,y];simp;rfl
 have H:p<l.length:=A4;go_call(Any2.slices_Insert_int_grow Tryz.lays2_21 g 0 l.length b p o 0 1 1 (l.map Cd) [.int .i64 (c:Int)] w H AE bE gD A W rfl xG q M s) as e w'⟨rfl,rfl⟩;have er:Tryz.lays2_21_ren.t 3=3:=rfl;rw[er];obtain⟨row,X⟩:∃row,((l.map Cd).take p).toArray++Builtin.zeroCells (Value.int .i64 0).cells (l.length+1-p)++Builtin.zeroCells (Value.int .i64 0).cells (grownCap w (l.length+1) b 3-(l.length+1))=row:=⟨_,rfl⟩;rw[X];have oJ:row.size=grownCap w (l.length+1) b 3:=by
  rw[<-X,Ok,Ok,Rj,Rj];simp;omega
 have Z:(w.alloc (.cells row 3)).drew.heap[w.heap.size]?=some (.cells row 3 (0,0)):=CB w _;have⟨cur1,h1,h2⟩:=Pp w 3 [.int .i64 (c:Int)] p _ row Z;have⟨cur2,h3,h4⟩:=Pp w 3 ((l.map Cd).drop p) (p+1) ((w.alloc (.cells row 3)).drew.setCells w p [.int .i64 (c:Int)]).drew cur1 h1;have m8:AF B w (w.alloc (.cells row 3)).drew:=QX ((AU _ _).alloc C _);refine⟨_,rfl,?_,Ou _ C _ _ _ (QX (Ou _ C _ _ _ m8))⟩;rw[<-d];have hs0:∀j,j<row.size->((w.alloc (.cells row 3)).drew.cell? ⟨w,j,none⟩).isSome=true:=λj hj=>by rw[LJ Z,Pl hj];rfl
 have E:∀j,j<row.size->(((w.alloc (.cells row 3)).drew.setCells w p [.int .i64 (c:Int)]).drew.cell? ⟨w,j,none⟩).isSome=true:=λj hj=>by rw[Qe,LJ h1,Pl A4];rfl
 refine QP C h3 (h4.trans (h2.trans (oJ.trans (by rw[d])))) (by rw[d];exact nQ) (by rw[d];exact R) (λj hj=> ?_);rw[Up l _ c K j hj];rw[d]at hj;by_cases m:j<p
 ·rw[AC m,O0 _ _ _ _ _ (λ_ _=>Or.inl (by show j<p+1;omega)),Qe,O0 _ _ _ _ _ (λ_ _=>Or.inl m),LJ Z,<-X,TV (by rw[Ok,Rj];simp;omega),TV B7,GB,RO,AC m,GF,Cs A4,Rm l j A4];rfl
 rw[AA m];by_cases y:j=p
 ·rw[AC y,O0 _ _ _ _ _ (λ_ _=>Or.inl (by show j<p+1;omega)),Qe];have:=R3 w [.int .i64 (c:Int)] p (w.alloc (.cells row 3)).drew (λj hj=>hs0 _ RI) 0 AN;rw[show p+0=j by omega]at this;rw[this];rfl
 rw[AA y];have:=R3 w ((l.map Cd).drop p) (p+1) ((w.alloc (.cells row 3)).drew.setCells w p [.int .i64 (c:Int)]).drew (λj hj=>E _ RI) (j-(p+1)) B7;rw[show p+1+(j-(p+1))=j by omega]at this;exact AcH
def L6(w:A7):Prop:=Lib.Utf8Tabs 1 2 w
def L6.next(h:L6 w)(a:AF w w w'):L6 w':=by
 refine⟨λc hc=> ?_,λi b=>⟨?_,?_⟩⟩
 ·have h1:=h.1 c hc;exact(a.cell XR).trans h1
 ·have h1:=(h.2 i b).1;exact(a.cell XR).trans h1
 have h1:=(h.2 i b).2;exact(a.cell XR).trans h1
structure CD(w:A7):Prop where
 tabs:GC w
 ml:DW w
 utf:L6 w
def CD.next(h:CD w)(a:AF w w w'):CD w':=⟨h.tabs.next a,h.ml.next a,h.utf.next a⟩
def Y5(l:A5):(HM l).length<=l.length:=O6 _ _
theorem VL(l:A5):(BH l).length=l.length:=by simp[BH]
def DM(c:Int):Bool:=decide (c=9\/c=10\/c=13\/c=32)
def G5(c:Int):Bool:=decide (c=32)
def Gb:A5:=[33,35,36,37,38,39,42,43,45,46,94,95,96,124,126]
def HK(c:UInt8):Bool:=CE (c:Int)||decide (0<=AQ (c:Int) 10)||Gb.contains c
def Eb(l:A5):Bool:= !l.isEmpty&&l.all HK
def Nw(t:A5):Option (A5):=
 if(AL 47 t).2.2=false then none
 else if Eb (AL 47 t).1=true/\Eb (Bm DM (AL 59 (AL 47 t).2.1).1)=true then some (BH (AL 47 t).1++47::BH (Bm DM (AL 59 (AL 47 t).2.1).1))else none
def Ff(l:A5):Option (A5):=Nw (DI DM (Bm DM l))
def Mi:A5:=[98,97,115,101,54,52]
def Ez(s:A5):A5:=
 if 6<=s.length/\BH (s.drop (s.length-6))=Mi then
  (if(Bm G5 (s.take (s.length-6))).getLast?=some 59 then(Bm G5 (s.take (s.length-6))).dropLast else s)
 else s
def JE:A5:=[116,101,120,116,47,112,108,97,105,110]
def Jk(h:A5):A5:=(Ff (if(Ez (MY h)).head?=some 59 then JE++Ez (MY h)else Ez (MY h))).getD JE
def RM(t:A5):Option (A5):=if(AL 44 (t.drop 5)).2.2=true then some (Jk (AL 44 (t.drop 5)).1)else none
def AxQ(l:A5)(c:UInt8):l.contains c=decide (0<=Lib.indexByte l c):=by
 exact YD
def Abq(c:UInt8):([9,10,13,32]:A5).contains c=DM (c:Int):=by
 have h:∀n:UInt8,([9,10,13,32]:A5).contains n=DM (n:Int):=DZ AX;have:=h c;simpa using this
def AsK(l:A5):Lib.trimS l [9,10,13,32]=DI DM (Bm DM l):=by
 unfold Lib.trimS Lib.trimLeftS Lib.trimRightS DI Bm DI;simp only[Abq]
def Azv(l:A5):Lib.trimRightS l [9,10,13,32]=Bm DM l:=by
 unfold Lib.trimRightS Bm DI;simp only[Abq]
def Ade(s:A9)(w:A7)(C:s.size<=1099511627776):AD A8 249 #[.string s] w (AzJ (.bool (Eb s)) w):=by
 go_in;go_wp2;go_loop[3] (λiv=>∃k:Nat,iv=.int .i64 k/\k<=s.size/\Hid ((s.toList.take k).all HK=true)) (λiv=>s.size-(intOf iv).toNat)
 ·exact⟨0,rfl,AR _,H0 rfl⟩
 obtain⟨k,rfl,B,v⟩:=hrel;by_cases j:k<s.size
 ·have D:(k:Int)<s.size:=A4;have o:=DX s k j;have t:=Aw s k j;generalize hc:s[k]=c at o t;have b:HK c=false->Hid (Eb s.toList=false):=λh=>H0 (by
   unfold Eb;have e:s.toList=s.toList.take k++c::s.toList.drop (k+1):=by rw[<-t,F7]
   rw[e,KM,Hh,h];simp)
  have i:HK c=true->Hid ((s.toList.take (k+1)).all HK=true):=λh=>H0 (by
   rw[o,KM,v.out];simp[h])
  have m:=λw=>Tryz.strings_IndexByte ⟨#[33,35,36,37,38,39,42,43,45,46,94,95,96,124,126]⟩ (c:Int) w;have A:((c:Int)).toNat.toUInt8=c:=AN;simp only[A]at m;have q:=AxQ Gb c;have f:(CE (c:Int)=true/\HK c=true)\/(CE (c:Int)=false/\(¬AQ (c:Int) 10<0)/\HK c=true)\/
    (CE (c:Int)=false/\AQ (c:Int) 10<0/\(∃z:Int,Lib.indexByte Gb c=z/\0<=z)/\HK c=true)\/(CE (c:Int)=false/\AQ (c:Int) 10<0/\(∃z:Int,Lib.indexByte Gb c=z/\z<0)/\HK c=false):=by
   unfold HK;cases hl:CE (c:Int)
   ·by_cases u:AQ (c:Int) 10<0
    ·by_cases a:0<=Lib.indexByte Gb c
     ·refine .inr (.inr (.inl ⟨rfl,u,⟨_,rfl,a⟩,?_⟩));rw[q,Bx a];simp
     refine .inr (.inr (.inr ⟨rfl,u,⟨_,rfl,A4⟩,?_⟩));rw[q,BO a,BO A4];rfl
    refine .inr (.inl ⟨rfl,u,?_⟩);rw[Bx A4];simp
   exact .inl ⟨rfl,rfl⟩
  clear q o t v;rw[<-hc]at m f b i;change Hid _ at m b i hc;have n:∀z:Int,Lib.indexByte Gb s[k]=z->Hid (∀w,AD A8 47 #[.string ⟨#[33,35,36,37,38,39,42,43,45,46,94,95,96,124,126]⟩,.int .u8 (s[k].toNat:Int)] w λe w'=>e=.returned (.int .i64 z)/\w'=w):=λz a=>H0 (λw=>by
   have h:=m.out w;rw[show Lib.indexByte [33,35,36,37,38,39,42,43,45,46,94,95,96,124,126] s[k]=z from a]at h;exact h)
  replace n:=H0 n;rcases f with⟨p,g⟩|⟨p,g,d⟩|⟨p,g,⟨z,a,r⟩,d⟩|⟨p,g,⟨z,a,r⟩,d⟩
  ·have hn:=i.out g;clear g;go_wp2_with(go_call LG;refine AH ?_);exact XW
  ·have hn:=i.out d;have E:0<=AQ (s[k].toNat:Int) 10:=A4;clear g d;go_wp2_with(first|(go_call LG;refine AH ?_)|(go_call(GS _ _ _ (Bo _) (Bf _)) as e w'⟨rfl,rfl⟩));exact XW
  ·have hn:=i.out d;have x:=n.out z a;replace a:=H0 a;clear d;go_wp2_with(first|(go_call LG;refine AH ?_)|(go_call(GS _ _ _ (Bo _) (Bf _)) as e w'⟨rfl,rfl⟩)|(go_call x;refine AH ?_));exact XW
  have hn:=b.out d;have x:=n.out z a;replace a:=H0 a;clear d;go_wp2_with(first|(go_call LG;refine AH ?_)|(go_call(GS _ _ _ (Bo _) (Bf _)) as e w'⟨rfl,rfl⟩)|(go_call x;refine AH ?_));go_ret;exact⟨Ci hn.out.symm,rfl⟩
 have l:=A6 (s.toList.all HK=true) (by have:=v.out;rw[Fh s k A4]at this;exact this);cases hem:s.toList.isEmpty
 ·have y:=A6 (Eb s.toList=true) (by unfold Eb;rw[hem,l.out];rfl);go_wp2;go_ret;exact⟨Ci y.out.symm,rfl⟩
 have y:=A6 (Eb s.toList=false) (by unfold Eb;rw[hem];rfl);go_wp2;go_ret;exact⟨Ci y.out.symm,rfl⟩
def Sk(w:A7)(o:Option (A5))(e:Ag)(w':A7):Prop:=
 ∃t:A9,e=.returned (.tuple #[.string t,.bool o.isSome])/\Hid (t.toList=o.getD [])/\AF w w w'
def AqI(s:A9)(w:A7)(b:s.size<=1099511627776):AD A8 248 #[.string s,.string ⟨#[9,10,13,32]⟩] w (Bi w (DI DM (Bm DM s))):=
 (Any.strings_Trim_laid Tryz.lays160 AO s ⟨#[9,10,13,32]⟩ w A4 AE (ascii_of_all AE)).mono (by
  rintro e w'⟨rfl,a⟩;exact My (by rw[<-BQ];exact AsK _) a)
def At8(s:A9)(w:A7)(b:s.size<=1099511627776):AD A8 173 #[.string s,.string ⟨#[9,10,13,32]⟩] w (Bi w (Bm DM s)):=
 (Any.strings_TrimRight_laid Tryz.lays162 AO s ⟨#[9,10,13,32]⟩ w A4 AE (ascii_of_all AE)).mono (by
  rintro e w'⟨rfl,a⟩;exact My (by rw[<-BQ];exact Azv _) a)
def Qw(p:Int->Bool)(l:A5):(Bm p l).length<=l.length:=by
 unfold Bm DI;rw[List.length_reverse];exact CR (K2 _).length_le AS
def AdL(p:Int->Bool)(l:A5):(DI p l).length<=l.length:=(K2 _).length_le
def AtQ(s:A9)(w:A7)(d:DW w)(y:s.size<=1000000000):AD A8 184 #[.string s] w (Sk w (Ff s)):=by
 have f:AF w w w:=AU _ _;have e0:(ByteArray.mk #[]).toList=[]:=toList_mk [];go_in;go_wp2_with fail;go_call AqI as e w1⟨t,rfl,ht,hb⟩;have f:=f.next hb;clear hb;have v:t.size<=1000000000:=by
  rw[<-AK,ht.out];have h1:=AdL DM (Bm DM s);have j:=Qw DM s;rw[AK]at j;omega
 have n:=A6 (Ff s.toList=Nw t) Oc;clear ht;have g:=H0 (λw d=>KS t 47 w d A4);have i:=HA 47 t.toList;rw[AK]at i;go_wp2_with fail;go_call(g.out _ (d.next f)) as e w2⟨ta,tb,nd,rfl,h1,j,hw⟩;have m:AF w w w2:=by rw[hw];exact Ey f nd
 have A:ta.size<=1000000000:=V6;have z:tb.size<=1000000000:=by rw[<-AK,j.out];omega
 obtain⟨o,b⟩:∃o,(AL 47 t.toList).2.2=o:=⟨_,rfl⟩;rw[b];clear hw f i g;cases o
 ·have hno:=A6 (Ff s.toList=none) (by rw[n.out];unfold Nw;rw[AC b]);replace b:=H0 b;go_wp2;go_ret2;exact⟨⟨#[]⟩,Gt,H0 PC,m⟩
 have h:=A6 (Ff s.toList=if Eb ta.toList=true/\Eb (Bm DM (AL 59 tb.toList).1)=true then some (BH ta.toList++47::BH (Bm DM (AL 59 tb.toList).1))else none) (by
  rw[n.out];unfold Nw;rw[AA (by rw[b];decide),h1.out,j.out])
 replace b:=H0 b;clear n;have g:=H0 (λw d=>KS tb 59 w d A4);have i:=HA 59 tb.toList;rw[AK]at i;go_wp2_with fail;go_call(g.out _ (d.next m)) as e w3⟨tc,td,nd2,rfl,h3,h4,hw⟩;have q:AF w w w3:=by rw[hw];exact Ey m nd2
 have C:tc.size<=1000000000:=by rw[<-AK,h3.out];omega
 rw[<-h3.out]at h;clear hw m i g;go_wp2_with fail;go_call At8 as e w4⟨te,rfl,hte,hb⟩;have l:=q.next hb;have B:te.size<=1000000000:=by
  rw[<-AK,hte.out];have:=Qw DM tc;exact KN
 rw[<-hte.out]at h;clear hb q h1 j h3 h4 hte;have c:=H0 (λw=>Ade ta w A4);have k:=H0 (λw=>Ade te w A4);cases a:Eb ta
 ·have hno:=A6 (Ff s.toList=none) (by rw[h.out,a];simp);rw[a]at c;replace a:=H0 a;go_wp2_with(first|(go_call c;refine AH ?_));go_ret2;exact⟨⟨#[]⟩,Gt,H0 PC,l⟩
 cases qb:Eb te
 ·have hno:=A6 (Ff s.toList=none) (by rw[h.out,qb];simp);rw[a]at c;rw[qb]at k;change Hid _ at a qb;go_wp2_with fail;go_call c;refine AH ?_;go_wp2_with fail;go_call k;refine AH ?_;go_wp2;go_ret2;exact⟨⟨#[]⟩,Gt,H0 PC,l⟩
 have hyes:=A6 (Ff s.toList=some (BH ta.toList++47::BH te)) (by rw[h.out,a,qb];simp);rw[a]at c;rw[qb]at k;change Hid _ at a qb;go_wp2_with fail;go_call c;refine AH ?_;go_wp2_with fail;go_call k;refine AH ?_;go_wp2_with fail;go_call NM as e w5⟨la,rfl,hla,hb⟩;have r:=l.next hb;have p:la.size<=1000000000:=by rw[<-AK,hla.out];unfold BH;rw[Bz,AK];omega
 clear hb l;go_wp2_with fail;go_call NM as e w6⟨lb,rfl,hlb,hb⟩;have x:=r.next hb;have u:lb.size<=1000000000:=by rw[<-AK,hlb.out];unfold BH;rw[Bz,AK];omega
 clear hb r;go_wp2;go_ret2;exact⟨la++⟨#[47]⟩++lb,PB,H0 (by rw[hyes.out,toList_append,toList_append,hla.out,hlb.out,show(ByteArray.mk #[47]).toList=[47]from toList_mk _];simp),x⟩
def AnX(c:UInt8):([32]:A5).contains c=G5 (c:Int):=by
 have h:∀n:UInt8,([32]:A5).contains n=G5 (n:Int):=DZ AX;have:=h c;simpa using this
def AuR(l:A5):Lib.trimRightB l 32=Bm G5 l:=by
 rw[<-Lib.trimRightS_one];unfold Lib.trimRightS Bm DI;simp only[AnX]
def ZP(l:A5)(c:UInt8):Lib.hasSuffix l [c]=decide (l.getLast?=some c):=by
 exact Afx
def Ary(l:A5)(c:UInt8):Lib.trimSuffix l [c]=if l.getLast?=some c then l.dropLast else l:=by
 unfold Lib.trimSuffix;rw[ZP];by_cases h:l.getLast?=some c
 ·rw[Bx h,AC h,OD];rfl
 simp_all
theorem Aiy(l:A5):(Ez l).length<=l.length:=by
 unfold Ez;split
 ·split
  ·rw[OJ];have:=Qw G5 (l.take (l.length-6));exact OK
  omega
 omega
def Avc(s:A9)(w:A7)(L:s.size<=1000000000):AD A8 181 #[.string s] w (Bi w (Ez s)):=by
 have d:AF w w w:=AU _ _;have a:=AK s;by_cases H:s.size<6
 ·have i:=A6 (s.toList=Ez s) (by unfold Ez;rw[AA (λh=>A4)]);replace a:=H0 a;go_in;go_wp2_with fail;go_ret;exact Be i d
 obtain⟨k,D⟩:∃k,s.size=k+6:=⟨s.size-6,A4⟩;have N:(s.size:Int)-6=(k:Int):=A4;have I:(k:Int)<=s.size:=A4;have l:(s.extract k s.size).toList=s.toList.drop (s.toList.length-6):=by rw[toList_extract,Bc (by rw[a];exact AG _),a,show s.size-6=k by omega]
 have n:(s.extract 0 k).toList=s.toList.take (s.toList.length-6):=by rw[toList_extract,C9,a,show s.size-6=k by omega]
 have J:(s.extract k s.size).size<=1000000000:=by rw[<-AK,l,C7,a];omega
 have F:(s.extract 0 k).size<=1000000000:=by rw[<-AK,n,Cl,a];omega
 obtain⟨u,hu⟩:=AI (s.extract k s.size);obtain⟨h,G⟩:=AI (s.extract 0 k);rw[hu]at l J;rw[G]at n F;have y:6<=s.toList.length:=A4;change Hid _ at D l n;clear H;go_in;go_wp2_with fail;refine(NM u _ A4).mono ?_;rintro e M⟨t,rfl,z,A⟩;replace d:=d.next A;clear A;by_cases f:t.toList=Mi
 ·have C:(t.toList==[98,97,115,101,54,52])=true:=by rw[f];rfl
  have i:=A6 (Ez s.toList=if(Bm G5 h).getLast?=some 59 then(Bm G5 h).dropLast else s.toList) (by
   unfold Ez;rw[AC ⟨y,by rw[<-l.out,<-z.out];exact f⟩,<-n.out])
  replace f:=H0 f;have v:=H0 (λw=>Tryz.strings_TrimRight_one h 32 AE w A4);go_wp2_with fail;refine(v.out _).mono (AH ?_);obtain⟨r,B⟩:∃q:A9,(⟨(Lib.trimRightB h.data.toList 32).toArray⟩:A9)=q:=⟨_,rfl⟩;rw[B];have p:r.toList=Bm G5 h.toList:=by rw[<-B,toList_mk,<-BQ];exact AuR _
  have K:r.size<=1000000000:=by
   rw[<-AK,p];have:=Qw G5 h;exact KN
  rw[<-p]at i;have b:=λw=>Tryz.strings_CutSuffix r ⟨#[59]⟩ w A4;replace p:=H0 p;have o:Lib.trimSuffix r.data.toList (ByteArray.mk #[59]).data.toList=if r.toList.getLast?=some 59 then r.toList.dropLast else r.toList:=by
   rw[<-BQ];exact Ary _ _
  have g:Lib.hasSuffix r.data.toList (ByteArray.mk #[59]).data.toList=decide (r.toList.getLast?=some 59):=by
   rw[<-BQ];exact ZP _ _
  by_cases m:r.toList.getLast?=some 59
  ·have j:=A6 (Ez s.toList=r.toList.dropLast) (by rw[i.out,AC m]);rw[AC m]at o;rw[Bx m]at g;simp only[o,g]at b;replace b:=H0 b;clear o g;go_wp2_with fail;refine(b.out _).mono (AH ?_);go_wp2_with fail;go_ret;exact My j.out.symm d
  have c:=A6 (Ez s.toList=s.toList) (by rw[i.out,AA m]);rw[BO m]at g;simp only[g]at b;replace b:=H0 b;clear o g;go_wp2_with fail;refine(b.out _).mono (AH ?_);go_wp2_with fail;go_ret;exact Be c.out.symm d
 have C:(t.toList==[98,97,115,101,54,52])=false:=by simpa[Mi]using f
 have c:=A6 (Ez s.toList=s.toList) (by
  unfold Ez;rw[AA (λx=>f (by rw[z.out,l.out];exact x.2))])
 go_wp2_with fail;go_ret;exact Be c.out.symm d
def isB(c:UInt8):Bool:=CL (c:Int)
def D8(c:UInt8):Bool:=decide (48<=c.toNat)&&decide (c.toNat<=57)
def Apf:∀n:UInt8,(decide (AQ (n:Int) 10<0))= !(decide (48<=n.toNat)&&decide (n.toNat<=57)):=DZ AX
def QY(c:UInt8):AQ (c:Int) 10<0↔D8 c=false:=by
 have:=Apf c;unfold D8;constructor
 ·intro h;rw[Bx h]at this;exact Acm
 intro h;apply Mb;rw[this];rw[h];rfl
def DH(l:A5):A5:=l.dropWhile isB
def GE(d:A5):A5:=if d.dropWhile (· ==48)=[]then[48]else d.dropWhile (· ==48)
def Hc(c:UInt8):Bool:=c==46||D8 c
def QV(c:UInt8):Bool:=isB c||c==59||c==44
def Hr(l:A5):A5:=
 match DH l with
 |[]=>[]|c::t=>if c=59\/c=44 then DH t else c::t
def Gr(l:A5):A5:=
 if l.length<3\/BH (l.take 3)≠[117,114,108]then l else
 match DH (l.drop 3)with
 |[]=>l|c::t=>if c=61 then DH t else l
def LX(l:A5):A5:=
 match l with
 |[]=>[]|c::t=>if c=34\/c=39 then(AL c t).1 else c::t
def LA(d r:A5):Option (A5×Bool×A5):=
 match r with
 |[]=>some (GE d,false,[])
 |c::t=>if QV c=false then none else
  if Hr (c::t)=[]then some (GE d,false,[])else some (GE d,true,LX (Gr (Hr (c::t))))
def R1(l:A5):Option (A5×Bool×A5):=
 if l.takeWhile D8=[]/\l.head?≠some 46 then none
 else LA (l.takeWhile D8) ((l.dropWhile D8).dropWhile Hc)
def Dl(s:A5):Option (A5×Bool×A5):=R1 (DH s)
def Ly(r:A5×Bool×A5):A5:=if r.2.1 then r.1++[59,32,117,114,108,61]++r.2.2 else r.1
variable{c:UInt8}
def Agw(h:(AL c l).2.2=true):l=(AL c l).1++c::(AL c l).2.1:=by
 have:=PT c l;rw[h]at this;exact this
structure PY(l:A5):Prop where
 ne:l≠[]
 at_:∀c∈l,HK c=true/\Ds c=c/\DM (c:Int)=false/\c≠47/\c≠59/\c≠44/\32<c.toNat/\c.toNat<127
def PY.is(h:PY l):Eb l=true:=by
 unfold Eb;rw[C0,Et];refine⟨?_,λc hc=>(h.at_ c hc).1⟩;cases l with
 |nil=>exact absurd rfl h.ne|cons c l=>rfl
def PY.no59(h:PY l):∀d∈l,d≠59:=λc hc=>(h.at_ c hc).2.2.2.2.1
def PY.drop(h:PY l)(m:A5):DI DM (l++m)=l++m:=by
 cases l with
 |nil=>exact absurd rfl h.ne|cons c l=>rw[Di,Rc (h.at_ c (CC ..)).2.2.1]
def QM(c:Int)(w:A7):AD A8 143 #[.int .u8 c] w (AzJ (.bool (DM c)) w):=by
 go_in;go_wp2;all_goals(go_ret;exact⟨Ci (by rw[Fl];simp[DM];omega),rfl⟩)
def AhO(s:A9)(w:A7)(k:s.size<=1099511627776):AD A8 142 #[.string s] w λe w'=>∃t:A9,e=.returned (.string t)/\Hid (t.toList=Bm DM s)/\t.size<=s.size/\w=w':=by
 go_in;go_wp2;go_loop[0] (λv=>∃u:A9,v=.string u/\u.size<=s.size/\Hid (Bm DM u.toList=Bm DM s)) (λv=>GO v)
 ·exact Uo
 obtain⟨u,rfl,d,hu⟩:=hrel;by_cases b:∃h:0<u.size,DM (u[u.size-1].toNat:Int)=true
 ·have⟨a,f⟩:=b;have c:(!u.toList.isEmpty)=true:=by
   rw[FZ u a];rfl
  have j:=H0 (RV u a);go_wp2_with((with_reducible refine(QM _ _).mono ?_);rintro e w'⟨rfl,rfl⟩);go_round;exact⟨_,rfl,Ab8,H0 (by rw[<-hu.out,j.out,R6 f])⟩;simp[GO];omega
 have i:=A6 (u.toList=Bm DM s) (by
  rw[<-hu.out];by_cases a:0<u.size
  ·rw[RV u a,S6 (by simpa usingλh=>b ⟨a,h⟩)]
  rw[(EW u).2 A4];rfl)
 have g:(∃a:0<u.size,(!u.toList.isEmpty)=true/\DM (u[u.size-1].toNat:Int)=false)\/u.toList.isEmpty=true:=by
  by_cases a:0<u.size
  ·exact .inl ⟨a,by rw[FZ u a];rfl,by simpa usingλh=>b ⟨a,h⟩⟩
  exact .inr (by rw[(EW u).2 A4];rfl)
 clear b hu;rcases g with⟨a,c,f⟩|c;all_goals
  go_wp2_with((with_reducible refine(QM _ _).mono ?_);rintro e w'⟨rfl,rfl⟩);go_ret;exact⟨_,rfl,i,d,rfl⟩
def u8q{d:UInt8}:(c=d->((c:Int)==(d:Int))=true)/\(c≠d->((c:Int)==(d:Int))=false):=by
 exact Ac8
def WL(s:A9)(c:UInt8)(w:A7)(j:s.size<=1099511627776):AD A8 81 #[.string s,.int .u8 (c:Int)] w (AzJ (.int .i64 ((AL c s).1.length:Int)) w):=by
 have a:=H0 (AK s);go_in;go_wp2;go_loop[5] (λiv=>∃k:Nat,iv=.int .i64 k/\k<=s.size/\Hid (∀d∈s.toList.take k,d≠c)) (λiv=>s.size-(intOf iv).toNat)
 ·exact⟨0,rfl,AR _,H0 AN⟩
 obtain⟨k,rfl,i,g⟩:=hrel;by_cases f:k<s.size
 ·by_cases h:s[k]=c
  ·have aD:=A6 ((AL c s).1.length=k) (by
    have e:s.toList=s.toList.take k++c::s.toList.drop (k+1):=by rw[<-h,<-Aw s k f,F7]
    rw[e,Ai6 _ _ g.out];rw[Cl,a.out];omega)
   have q:=u8q.1 h;exact VN
  have aC:=A6 (∀d∈s.toList.take (k+1),d≠c) (by
   rw[DX s k f];intro d b;rcases BL.1 b with b|b
   ·exact g.out d b
   simp at b;rw[b];exact h)
  have q:=u8q.2 h;go_wp2;exact JT
 have aD:=A6 ((AL c s).1.length=s.size) (by
  have:=g.out;rw[Fh s k A4]at this;rw[YY _ this,a.out])
 exact VN
def MI:A9:=⟨#[33,35,36,37,38,39,42,43,45,46,94,95,96,124,126]⟩
def Api:MI.toList=Gb:=toList_mk _
def Ajp(k:Nat)(h:k<15)(c:UInt8):(Gb.take (k+1)).contains c=((Gb.take k).contains c||c==MI[k]'h):=by
 have e:=DX MI k h;rw[Api]at e;rw[e];simp only[List.contains_append,Nl,List.contains_nil,Jw]
def AyG(c:UInt8):∃b,(CE (c:Int)||decide (0<=AQ (c:Int) 10))=b/\HK c=(b||Gb.contains c)/\((CE (c:Int)=true/\b=true)\/(CE (c:Int)=false/\decide (0<=AQ (c:Int) 10)=true/\b=true)\/(CE (c:Int)=false/\decide (0<=AQ (c:Int) 10)=false/\b=false)):=by
 refine⟨_,rfl,rfl,?_⟩;cases hl:CE (c:Int)
 ·by_cases a:0<=AQ (c:Int) 10
  ·exact .inr (.inl ⟨rfl,Bx a,by rw[Bx a];rfl⟩)
  exact .inr (.inr ⟨rfl,BO a,by rw[BO a];rfl⟩)
 exact .inl ⟨rfl,rfl⟩
def AnQ(b:Bool)(c:UInt8)(j:Nat)(h:j<15):((MI[j]'h=c)->(b||(Gb.take (j+1)).contains c)=true)/\(MI[j]'h≠c->(b||(Gb.take (j+1)).contains c)=(b||(Gb.take j).contains c)):=by
 rw[Ajp j h];refine⟨λe=> ?_,λe=> ?_⟩
 ·have:(c==MI[j])=true:=by rw[e];exact beq_self_eq_true c
  rw[this];simp
 have:(c==MI[j])=false:=by rw[B6];exactλx=>e x.symm
 rw[this,Jw]
def ArZ(b:Bool)(c:UInt8)(j:Nat)(h:j<15)(a:(b||(Gb.take j).contains c)=true):(b||(Gb.take (j+1)).contains c)=true:=by
 rw[Ajp j h,<-Bool.or_assoc,a];rfl
def Ae3(s:A9)(w:A7)(M:s.size<=1099511627776):AD A8 144 #[.string s] w (GG w (Eb s)):=by
 go_in;go_wp2;obtain⟨S,r⟩:∃S,S=MI:=⟨_,rfl⟩;have m:S.size=15:=by rw[r];rfl
 rw[show(ByteArray.mk #[33,35,36,37,38,39,42,43,45,46,94,95,96,124,126])=S from r.symm];have y:=A6 (∀(b:Bool)(c:UInt8)(j:Nat)(h:j<S.size),((S[j]'h=c)->(b||(Gb.take (j+1)).contains c)=true)/\(S[j]'h≠c->(b||(Gb.take (j+1)).contains c)=(b||(Gb.take j).contains c))) (by subst r;exact AnQ);change Hid _ at r m;go_loopw[4,5,6] (λiv _ _ wr=>∃k:Nat,iv=.int .i64 k/\k<=s.size/\Hid ((s.toList.take k).all HK=true)/\AF w w wr) (λiv _ _ _=>s.size-(intOf iv).toNat)
 ·exact⟨0,rfl,AR _,H0 rfl,AU _ _⟩
 obtain⟨k,rfl,L,E,t⟩:=hrel;by_cases n:k<s.size
 ·have O:(k:Int)<s.size:=A4;have⟨b,hb1,hb2,hway⟩:=AyG s[k];change Hid _ at hb1 hb2;obtain⟨F,rfl⟩:∃F:A7,F=wr:=⟨_,rfl⟩;rcases hway with⟨u,rfl⟩|⟨u,G,rfl⟩|⟨u,G,rfl⟩;all_goals
   go_wp2_with(first|(go_call Ol;refine AH ?_)|(go_call(Eh _ _ _ (Bo _) (Bf _)) as e w'⟨rfl,rfl⟩));clear u;try clear G
   go_loopw[5,6] (λJ x K=>∃(j:Nat)(f:Bool),x=.int .i64 j/\J=.bool f/\j<=15/\Hid (((CE (s[k].toNat:Int)||decide (0<=AQ (s[k].toNat:Int) 10))||(Gb.take j).contains s[k])=f)/\AF w w K) (λ_ x _=>15-(intOf x).toNat)
   ·exact⟨0,_,rfl,rfl,A4,H0 (by rw[hb1.out];rfl),t⟩
   obtain⟨j,f,rfl,rfl,N,hf,a⟩:=hrel;have H:(S.size:Int)=15:=by rw[m.out];rfl
   by_cases v:j<15
   ·have B:(j:Int)<S.size:=A4;have P:0<=(j:Int):=A4;have z:j<S.size:=A4;have I:0<=(k:Int):=A4;have l:=y.out (CE (s[k].toNat:Int)||decide (0<=AQ (s[k].toNat:Int) 10)) s[k] j z;have D:=ArZ (CE (s[k].toNat:Int)||decide (0<=AQ (s[k].toNat:Int) 10)) s[k] j v;change Hid _ at H D;cases f
    ·by_cases i:S[j]=s[k]
     ·have g:=H0 (l.1 i);have q:=u8q.1 i;change Hid _ at i l;go_wp2;go_quiet(fail);go_wp2;go_roundw;exact⟨j+1,true,AP,rfl,A4,g,Ey a _⟩;exact AzF
     have g:=H0 ((l.2 i).trans hf);have q:=u8q.2 i;change Hid _ at i l;go_wp2;go_quiet(fail);go_wp2;go_roundw;exact⟨j+1,false,AP,rfl,A4,g,Ey a _⟩;exact AzF
    have g:=H0 (D.out hf);replace l:=H0 l;go_wp2;go_quiet(fail);go_wp2;go_roundw;exact⟨j+1,true,AP,rfl,A4,g,Ey a _⟩;exact AzF
   have o:j=15:=A4;have d:=A6 (HK s[k]=f) (by rw[hb2.out,<-hf.out,hb1.out,o];rfl);have B:(S.size:Int)<=j:=A4;change Hid _ at o H;cases f
   ·have A:=A6 (Eb s.toList=false) (by
     unfold Eb;have e:s.toList=s.toList.take k++s[k]::s.toList.drop (k+1):=by rw[<-Aw s k n,F7]
     rw[e,KM,Hh,d.out];simp)
    go_wp2;go_ret;exact⟨Ci A.out.symm,a⟩
   have g:=A6 ((s.toList.take (k+1)).all HK=true) (by
    rw[DX s k n,KM,E.out];simp[d.out])
   go_wp2;go_roundw;exact⟨k+1,AP,A4,g,a⟩;exact AzF
 have p:=A6 (s.toList.all HK=true) (by have:=E.out;rw[Fh s k A4]at this;exact this);cases hem:s.toList.isEmpty
 ·have C:=A6 (Eb s.toList=true) (by unfold Eb;rw[hem,p.out];rfl);go_wp2;go_ret;exact⟨Ci C.out.symm,t⟩
 have C:=A6 (Eb s.toList=false) (by unfold Eb;rw[hem];rfl);go_wp2;go_ret;exact⟨Ci C.out.symm,t⟩
def Yz(c:UInt8):∀l,l.take (AL c l).1.length=(AL c l).1:=λl=>by
 conv=>lhs;rw[PT c l]
 have:(AL c ((AL c l).1++(if(AL c l).2.2 then c::(AL c l).2.1 else[]))).1.length=(AL c l).1.length:=by rw[<-PT]
 rw[this,TF (AG _),Li]
def Alu(h:(AL c l).2.2=true):l.drop ((AL c l).1.length+1)=(AL c l).2.1:=by
 have:l.drop ((AL c l).1.length+1)=(((AL c l).1++c::(AL c l).2.1)).drop ((AL c l).1.length+1):=by rw[<-(Agw h)]
 rw[this];simp
def Agp(h:(AL c l).2.2=true):(AL c l).1.length<l.length:=by
 have e:=congrArg List.length (Agw h);rw[Aa,BC]at e;omega
def Ahb(h:(AL c l).2.2=false):(AL c l).1.length=l.length:=by rw[(Uq c l h).1]
def W1(c:UInt8)(l:A5):(AL c l).1.length<=l.length:=by have:=HA c l;omega
def UO(s:A9)(k:Nat):(s.extract 0 k).toList=s.toList.take k:=OC
def WJ(s:A9)(k:Nat):(s.extract k s.size).toList=s.toList.drop k:=UB
def AuG(s:A9)(w:A7)(hs:s.size<=1000000000):AD A8 84 #[.string s] w (Sk w (Ff s)):=by
 have y:AF w w w:=AU _ _;have e0:(ByteArray.mk #[]).toList=[]:=toList_mk [];go_in;go_wp2_with fail;go_call AhO as e w1⟨t,rfl,ht,htz,rfl⟩;replace e0:=H0 e0;go_wp2_with fail;go_loop[0] (λv=>∃u:A9,v=.string u/\u.size<=s.size/\Hid (DI DM u.toList=DI DM t)) (λv=>GO v)
 ·exact⟨t,rfl,htz,rfl⟩
 obtain⟨u,rfl,hus,hu⟩:=hrel;by_cases g:∃h:0<u.size,DM (u[0].toNat:Int)=true
 ·obtain⟨c,F⟩:=g;have i:(!u.toList.isEmpty)=true:=by
   rw[FZ u c];rfl
  have hx:=H0 (FZ u c);go_wp2_with((with_reducible refine(QM _ _).mono ?_);rintro e w'⟨rfl,rfl⟩);go_round;exact⟨_,rfl,Ab9,H0 (by rw[<-hu.out,hx.out,RY F])⟩;simp[GO];omega
 have J:=A6 (Ff s.toList=Nw u) (by
  unfold Ff;rw[<-ht.out,<-hu.out];by_cases c:0<u.size
  ·rw[FZ u c,Rc (by simpa usingλh=>g ⟨c,h⟩)]
  rw[(EW u).2 A4];rfl)
 have U:(∃c:0<u.size,(!u.toList.isEmpty)=true/\DM (u[0].toNat:Int)=false)\/u.toList.isEmpty=true:=by
  by_cases c:0<u.size
  ·exact .inl ⟨c,by rw[FZ u c];rfl,by simpa usingλh=>g ⟨c,h⟩⟩
  exact .inr (by rw[(EW u).2 A4];rfl)
 clear g ht hu;have N:=H0 (λw=>WL u 47 w A4);have a:=AK u;have l:=W1 47 u.toList;have G:=A6 ((u.extract 0 (AL 47 u.toList).1.length).toList=(AL 47 u.toList).1) (by rw[UO,Yz]);have z:(AL 47 u.toList).2.2=true->Hid ((u.extract ((AL 47 u.toList).1.length+1) u.size).toList=(AL 47 u.toList).2.1):=λh=>H0 (by rw[WJ,Alu h]);have B:(AL 47 u.toList).2.2=true->(AL 47 u.toList).1.length<u.size:=λh=>by rw[<-a];exact Agp h
 have E:(AL 47 u.toList).2.2=false->(AL 47 u.toList).1.length=u.size:=λh=>by rw[<-a];exact Ahb h
 have L:(AL 47 u.toList).2.2=false->Hid (Ff s.toList=none):=λh=>H0 (by rw[J.out];unfold Nw;rw[AC h]);have K:(AL 47 u.toList).2.2=true->Hid (Ff s.toList=if Eb (AL 47 u.toList).1=true/\Eb (Bm DM (AL 59 (AL 47 u.toList).2.1).1)=true then some (BH (AL 47 u.toList).1++47::BH (Bm DM (AL 59 (AL 47 u.toList).2.1).1))else none):=λh=>H0 (by
  rw[J.out];unfold Nw;rw[AA (by rw[h];decide)])
 generalize hn:(AL 47 u.toList).1.length=n at l N G z B E;rw[a]at l;change Hid _ at a hn;clear J;cases f:(AL 47 u.toList).2.2
 ·have hno:=L f;obtain rfl:=E f;clear B E K L z;replace f:=H0 f;rcases U with⟨c,i,F⟩|i;all_goals
   go_wp2_with((with_reducible refine(QM _ _).mono ?_);rintro e w'⟨rfl,rfl⟩);go_call N;refine AH ?_;go_wp2_with fail;go_ret2;exact⟨⟨#[]⟩,Gt,H0 Vc,y⟩
 have b:=K f;have hlt:=B f;have P:=z f;clear B E K L z;replace f:=H0 f;have Q:((n:Int)==u.size)=false:=DV;have Y:(n:Int)<=u.size:=A4;rw[<-G.out,<-P.out]at b;clear G P;have q:(u.extract 0 n).size<=1000000000:=Bk;have I:(u.extract (n+1) u.size).size<=1000000000:=Bk;obtain⟨A,V⟩:=AI (u.extract 0 n);obtain⟨j,o⟩:=AI (u.extract (n+1) u.size);rw[V]at b q;rw[o]at b I;have W:=H0 (λw=>WL j 59 w A4);have S:=W1 59 j.toList;rw[AK]at S;have O:=A6 ((j.extract 0 (AL 59 j.toList).1.length).toList=(AL 59 j.toList).1) (by rw[UO,Yz]);rw[<-O.out]at b;generalize R:(AL 59 j.toList).1.length=m at W S b;clear O;replace R:=H0 R;have Z:(m:Int)<=j.size:=A4;obtain⟨C,H⟩:=AI (j.extract 0 m);have sN:C.size<=1000000000:=by rw[<-H,Lc];omega
 rw[H]at b;rcases U with⟨c,i,F⟩|i;all_goals
  go_wp2_with((with_reducible refine(QM _ _).mono ?_);rintro e w'⟨rfl,rfl⟩);go_call N;refine AH ?_;go_wp2_with fail;go_call W;refine AH ?_;go_wp2_with fail;go_call AhO as e w'⟨D,rfl,hD,hDz,rfl⟩;rw[<-hD.out]at b;clear hD;clear V o H;have d:=H0 (λw=>Ae3 A w A4);have k:=H0 (λw=>Ae3 D w A4);obtain⟨qa,p⟩:=AI (Eb A);obtain⟨qd,x⟩:=AI (Eb D);rw[p]at d b;rw[x]at k b;change Hid _ at p x;cases qa
  ·have hno:=A6 (Ff s.toList=none) (by rw[b.out];simp);go_wp2_with fail;go_call d as e w2⟨rfl,hb⟩;have r:=y.next hb;clear hb;go_wp2_with fail;go_ret2;exact⟨⟨#[]⟩,Gt,H0 Vc,r⟩
  cases qd
  ·have hno:=A6 (Ff s.toList=none) (by rw[b.out];simp);go_wp2_with fail;go_call d as e w2⟨rfl,hb⟩;have r:=y.next hb;clear hb;go_wp2_with fail;go_call k as e w3⟨rfl,hb⟩;have M:=r.next hb;clear hb;go_wp2_with fail;go_ret2;exact⟨⟨#[]⟩,Gt,H0 Vc,M⟩
  have hyes:=A6 (Ff s.toList=some (BH A.toList++47::BH D)) (by rw[b.out];simp);go_wp2_with fail;go_call d as e w2⟨rfl,hb⟩;have r:=y.next hb;clear hb;go_wp2_with fail;go_call k as e w3⟨rfl,hb⟩;have M:=r.next hb;clear hb;go_wp2_with fail;go_call O1 as e w4⟨x1,rfl,hx1,hb⟩;have X:x1.size<=1000000000:=by rw[<-AK,hx1.out,VL,AK];exact q
  have fS:=M.next hb;clear hb;go_wp2_with fail;go_call O1 as e w5⟨x2,rfl,hx2,hb⟩;have jL:=fS.next hb;clear hb;have T:x2.size<=1000000000:=by rw[<-AK,hx2.out,VL,AK];omega
  have b1:=A6 ((ByteArray.mk #[47]).toList=[47]) (toList_mk _);go_wp2_with fail;go_ret2;exact⟨x1++⟨#[47]⟩++x2,PB,H0 (by rw[hyes.out,toList_append,toList_append,hx1.out,hx2.out,b1.out];simp),jL⟩
def AvL(s:A9)(w:A7)(E:s.size<=1000000000):AD A8 82 #[.string s] w (Bi w (Ez s)):=by
 have hB:AF w w w:=AU _ _;have a:=AK s;by_cases B:s.size<7
 ·have g:=A6 (s.toList=Ez s) (by
   unfold Ez;split
   ·rename_i h;have:s.toList.length-6=0:=A4;rw[this,J5,AA (by unfold Bm DI;simp)]
   rfl)
  have z:(s.size:Int)<7:=A4;replace a:=H0 a;go_in;go_wp2;go_ret;exact Be g hB
 obtain⟨k,o⟩:∃k,s.size=k+6:=⟨s.size-6,A4⟩;have z:7<=(s.size:Int):=A4;have G:(s.size:Int)-6=(k:Int):=A4;have C:(k:Int)<=s.size:=A4;have g:=A6 (Ez s.toList=if BH (s.toList.drop k)=Mi then(if(Bm G5 (s.toList.take k)).getLast?=some 59 then(Bm G5 (s.toList.take k)).dropLast else s.toList)else s.toList) (by
  unfold Ez;have e:s.toList.length-6=k:=A4;rw[e];by_cases h:BH (s.toList.drop k)=Mi
  ·rw[AC ⟨A4,h⟩,AC h]
  rw[AA (λx=>h x.2),AA h])
 obtain⟨T,l⟩:=AI (s.extract k s.size);have c:=A6 (T.toList=s.toList.drop k) (by rw[<-l,WJ]);have t:T.size<=6:=by rw[<-l,Lc];omega
 change Hid _ at a o;go_in;go_wp2_with fail;replace l:=H0 l;go_call O1 as e w1⟨x,rfl,hx,hb⟩;have hB:=hB.next hb;clear hb;by_cases b:x.toList=Mi
 ·have p:(x.toList==[98,97,115,101,54,52])=true:=by simpa[Mi]using b
  have m:=A6 (Ez s.toList=if(Bm G5 (s.toList.take k)).getLast?=some 59 then(Bm G5 (s.toList.take k)).dropLast else s.toList) (by
   rw[g.out,AC (by rw[<-c.out,<-hx.out];exact b)])
  replace b:=H0 b;go_wp2;go_loop[4] (λiv=>∃j:Nat,iv=.int .i64 j/\j<=k/\Hid (Bm G5 (s.toList.take j)=Bm G5 (s.toList.take k))) (λiv=>(intOf iv).toNat)
  ·exact⟨k,rfl,AG _,H0 rfl⟩
  obtain⟨j,rfl,H,f⟩:=hrel;by_cases u:j=0
  ·subst u;have aD:=A6 (s.toList=Ez s) (by
    rw[m.out,<-f.out,J5,AA (by unfold Bm DI;simp)])
   clear f;go_wp2;go_ret;exact Be aD hB
  obtain⟨i,rfl⟩:∃i,j=i+1:=⟨j-1,A4⟩;have r:i<s.size:=by have:=o.out;omega
  have aV:=DX s i r;have F:0<=(i:Int):=A4;have D:(i:Int)<s.size:=A4;have A:0<(i:Int)+1:=A4;by_cases h32:s[i]=32
  ·have q:((s[i].toNat:Int)==32)=true:=by rw[h32];rfl
   have v:=A6 (Bm G5 (s.toList.take i)=Bm G5 (s.toList.take k)) (by
    rw[<-f.out,aV,R6 (by rw[h32];rfl)])
   change Hid _ at aV h32;go_wp2;go_round;exact⟨i,rfl,A4,v⟩;simp[intOf]
  have q:((s[i].toNat:Int)==32)=false:=(u8q (d:=32)).2 h32;have hR:Bm G5 (s.toList.take k)=s.toList.take i++[s[i]]:=by
   rw[<-f.out,aV,S6 (by unfold G5;rw[LY];intro x;rw[x]at q;exact absurd q AE)]
  have hlast:(s.toList.take i++[s[i]]).getLast?=some s[i]:=AhB;clear f;by_cases h59:s[i]=59
  ·have y:((s[i].toNat:Int)==59)=true:=by rw[h59];rfl
   have aD:=A6 ((s.extract 0 i).toList=Ez s) (by
    rw[m.out,hR,hlast,h59,AC rfl,RF,UO])
   exact AdM
  have y:((s[i].toNat:Int)==59)=false:=(u8q (d:=59)).2 h59;have aD:=A6 (s.toList=Ez s) (by
   rw[m.out,hR,hlast,AA (λx=>h59 (Cm x))])
  exact AdM
 have p:(x.toList==[98,97,115,101,54,52])=false:=by simpa[Mi]using b
 have n:=A6 (s.toList=Ez s) (by
  rw[g.out,AA (by rw[<-c.out,<-hx.out];exact b)])
 replace b:=H0 b;go_wp2;go_ret;exact Be n hB
end Go.Proofs.YtonomfeipkdmhaaGreatDoor
namespace Go.Proofs.YtonomfeipkdmhaaGreatDoor
open Go renaming World->A7,Value->AJ,TypeId->Ab
open Go.Proofs.Tryz
open Go.Proofs.Tryz renaming prog->A8
open Go.RowKit Go.ChangeShapes Go.WideShapes
def ZF:List Int:=Go.Pinned.utf8FirstZ.map λ(n:Nat)=>(n:Int)
def AwJ:(Rows.laid_unicode_utf8_first:DataW Unit)=Lib.tabData .u8 ZF:=AO
def Ahz:ZF.length=256/\∀c,c<256->ZF.getD c 0=Lib.firstT c:=AX
def AkC:A8.globalNamed "unicode/utf8.first" =some 1:=by kernel_rfl
def WD:A8.globalNamed "unicode/utf8.acceptRanges" =some 2:=by kernel_rfl
def Wv(i:Nat):DataW Unit:=.agg [.lit (.int .u8 (Lib.accLo i)),.lit (.int .u8 (Lib.accHi i))]
def Auy{α:Type}{l:List α}(h:l.length=2):∃a b,l=[a,b]:=by
 match l,h with
 |[a,b],_=>exact⟨a,b,rfl⟩
def Axk{w:A7}{f:Ab×AJ->Unit}{base:Nat}{j:Nat->Bool}{d:Bool}{c:Nat}{cs:List AJ}{x:DataW Unit×List MemPlace}(h:DataW.trod f A8 w base j d c 203 cs=some x):∃a b,cs=[.int .u8 a,.int .u8 b]/\x.1=.agg [.lit (.int .u8 a),.lit (.int .u8 b)]:=by
 obtain⟨l,p,n,rfl,i,g,h1⟩:=trod_struct2 underlying203 h;have e:cs.length=2:=i.trans AO;obtain⟨m,c1,rfl⟩:=Auy e;have k:A8.cellsOf 5=1:=AO;rw[k]at g h1;obtain⟨a,e0,rfl,-⟩:=DataW.trod_int underlying5 g;obtain⟨b,o,rfl,-⟩:=DataW.trod_int underlying5 h1;grind
def Ay9{w:A7}{f:Ab×AJ->Unit}{base:Nat}{m:Nat->Bool}{c:Bool}{a:Nat}{cs:List AJ}{p:List MemPlace}(h:DataW.trod f A8 w base m c a 204 cs=some (.agg ((List.range 16).map Wv),p))(i:Nat)(j:i<16):cs[2*i]?=some (.int .u8 (Lib.accLo i))/\cs[2*i+1]?=some (.int .u8 (Lib.accHi i)):=by
 have l:=underlying204;have e:A8.cellsOf 203=2:=AO;cases a with
 |zero=>simp[DataW.trod]at h
 |succ a=>
  simp only[DataW.trod,l,e]at h;split at h
  ·have⟨xs,hm,hx⟩:=H1.1 h;have d:xs.map (·.1)=(List.range 16).map Wv:=by
    have:=congrArg Prod.fst hx;simpa using this
   have⟨b,hb,hf⟩:=Lib.mapM_at hm i i (by simp[j]);have⟨x,y,hc,hd⟩:=Axk hf;have k:(xs.map (·.1))[i]?=some b.1:=by rw[GF,hb];rfl
   rw[d,GF,List.getElem?_range j,hd]at k;have g:=Cm k;unfold Wv at g;obtain⟨rfl,rfl⟩:=g;have n:=congrArg (·[0]?) hc;have o:=congrArg (·[1]?) hc;refine⟨?_,?_⟩
   ·grind
   grind
  ·cases h
def Ata{W:World}(h:laidMet A8 (("unicode/utf8.acceptRanges",Rows.laid_unicode_utf8_acceptRanges)::("unicode/utf8.first",Rows.laid_unicode_utf8_first)::[]) W):L6 W:=by
 have h2:=Q8 h;rw[AwJ]at h2;have hF:=Lib.tabIs_of_head AkC AO underlying201 underlying5 AO AO h2;refine⟨λc hc=> ?_,λi hi=> ?_⟩
 ·rw[hF.cell AkC c (by rw[Ahz.1];exact hc),Ahz.2 c hc]
 ·have⟨ps,⟨g',t',cs,fuel,p,q,hg',ht',hvar,hd,_,_⟩,_⟩:=h;obtain rfl:=Cm (WD.symm.trans hg')
  have nD:(A8.globals[2]?).map (·.type)=some 204:=AO
  obtain rfl:=Cm (nD.symm.trans ht');have⟨a0,a1⟩:=Ay9 hd i hi;exact⟨(World.var?_cell WD hvar _).trans AS,(World.var?_cell WD hvar _).trans AS⟩
def Ax2{W:World}(h:laidMet A8 (("math/bits.deBruijn32tab",Rows.laid_math_bits_deBruijn32tab)::("math/bits.deBruijn64tab",Rows.laid_math_bits_deBruijn64tab)::("internal/strconv.uint64pow10",Rows.laid_internal_strconv_uint64pow10)::("unicode/utf8.acceptRanges",Rows.laid_unicode_utf8_acceptRanges)::("unicode/utf8.first",Rows.laid_unicode_utf8_first)::[]) W)(aY:DW W):CD W:=
 ⟨Auh h,aY,Ata (Q8 (Q8 (Q8 h)))⟩
end Go.Proofs.YtonomfeipkdmhaaGreatDoor
