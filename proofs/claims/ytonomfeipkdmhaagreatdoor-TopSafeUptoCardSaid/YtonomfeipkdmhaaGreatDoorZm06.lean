/- Lemmas. -/
import Derived.Test.YtonomfeipkdmhaaGreatDoorZm01
import Derived.Test.YtonomfeipkdmhaaGreatDoorZm02
import Derived.Defers
import Derived.Laws.AppendOwn
import Derived.Laws.CopyOwn
import Derived.Laws.Pointers
import Derived.Laws.Rows
import Derived.Laws.StructEq
import Derived.Laws.Tables
import Derived.Recover
import Derived.Tactics2
set_option linter.all false
set_option maxRecDepth 100000
set_option maxHeartbeats 16000000
namespace Go.Proofs.YtonomfeipkdmhaaGreatDoor
open Go renaming wpList->Aq,Program->Dj,Operand->CV,World->A7,Calls->AD,Value->AJ,TypeId->Ab,Ending->Ag
open Go.RowKit renaming Below->AF
open Go.RowKit Go.Proofs.Tryz
open Go.Proofs.Tryz renaming prog->A8
def Ak(base:Nat):Nat->A5->Option Nat
 |acc,[]=>some acc|acc,c::r=>if AQ (c:Int) (base:Int)<0 then none else Ak base (acc*base+(AQ (c:Int) (base:Int)).toNat) r
def Az(base:Nat)(l:A5):Option Nat:=if l=[]then none else Ak base 0 l
def CY:A5->Option Nat
 |[]=>none|[c]=>Ak 10 0 [c]|c::d::r=>if c=48 then(if d=120\/d=88 then Ak 16 0 r else Ak 8 0 (d::r))else Ak 10 0 (c::d::r)
def BU(s:A5):List (A5):=if 1<(Al 46 s).length/\(Al 46 s).getLast?=some []then(Al 46 s).dropLast else Al 46 s
def Ch:Nat->List (A5)->Nat->Option Nat
 |_,[],sum=>some sum
 |i,[x],sum=>match CY x with
  |none=>none|some v=>if v<2^(8*(4-i))then some (sum+v)else none
 |i,x::y::r,sum=>match CY x with
  |none=>none|some v=>if v<=255 then Ch (i+1) (y::r) (sum+v*2^(8*(3-i)))else none
def OM(l:List (A5)):Option Nat:=if 4<l.length then none else Ch 0 l 0
def CT(s:A5):Option Nat:=OM (BU s)
def QH(l:List (A5)):A5:=(l.getLast?).getD []
def HV(s:A5):Bool:=(Az 10 (QH (BU s))).isSome||(CY (QH (BU s))).isSome
def AaK(s:A5):BU s≠[]:=by
 unfold BU;split
 ·rename_i h;intro a;have:=congrArg List.length a;rw[OJ,Ep]at this;omega
 exact Ik _ _
def Aaa:∀(l:List (A5))(i a v:Nat),i+l.length<=4->0<l.length->a+2^(8*(4-i))<=2^32->Ch i l a=some v->v<2^32
 |[],i,a,v,h,h0,hs,e=>by simp at h0
 |[x],i,a,v,h,_,hs,e=>by
  unfold Ch at e;cases hx:CY x with
  |none=>grind
  |some n=>
   rw[hx]at e;dsimp only at e;by_cases b:n<2^(8*(4-i))
   ·grind
   grind
 |x::y::r,i,a,v,h,_,hs,e=>by
  unfold Ch at e;cases hx:CY x with
  |none=>grind
  |some n=>
   rw[hx]at e;dsimp only at e;by_cases b:n<=255
   ·rw[AC b]at e;refine Aaa _ _ _ v (by simp at h⊢;omega) AN ?_ e;have d:2^(8*(4-i))=256*2^(8*(3-i)):=by
     have:8*(4-i)=8+8*(3-i):=A4;grind
    have c:4-(i+1)=3-i:=A4;rw[c];have:(n+1)*2^(8*(3-i))<=256*2^(8*(3-i)):=Jx _ A4;grind
   grind
variable{v:Nat}
def AsG{s:A5}(h:CT s=some v):v<4294967296:=by
 unfold CT OM at h;by_cases a:4<(BU s).length
 ·simp_all
 rw[AA a]at h;exact Aaa (BU s) 0 0 v A4 (FV.2 (AaK s)) AE h
variable{acc:Nat}
def AhF{C b d:Nat}(a:1<=b):min (min acc C*b+d) C=min (acc*b+d) C:=by
 by_cases h:acc<=C
 ·simp_all
 have h1:min acc C=C:=Nat.min_eq_right A4;have e:C*1<=C*b:=Nat.mul_le_mul_left _ a;have c:C*b<=acc*b:=Jx _ A4;rw[h1,Nat.min_eq_right A4,Nat.min_eq_right A4]
def Aj4(c a:Int):AQ c a<=35:=by unfold AQ PP;omega
def Fm(C:Nat)(w:A7)(o:Option Nat)(e:Ag)(w':A7):Prop:=e=.returned (.tuple #[.int .i64 ((min (o.getD 0) C:Nat):Int),.bool o.isSome])/\w=w'
variable{s:A9}
def Qu{base:Nat}(h:s.toList.isEmpty=false):Az base s.toList=Ak base 0 s.toList:=by
 unfold Az;rw[AA (by intro e;rw[e]at h;cases h)]
def AeD(s:A9)(b:Nat)(w:A7)(z:s.size<=1099511627776)(u:b=8\/b=10\/b=16):AD A8 343 #[.string s,.int .i64 (b:Int)] w (Fm 4294967296 w (Az b s)):=by
 cases hem:s.toList.isEmpty
 ·have q:=H0 (Qu (base:=b) hem);have g:1<=b:=A4;have v:(b:Int)<=16:=A4;clear u;go_in;go_wp2;go_loop[6,13] (λr iv=>∃k m acc:Nat,iv=.int .i64 k/\r=.int .i64 m/\k<=s.size/\m<=4294967296/\Hid (m=min acc 4294967296)/\Hid (Ak b acc (s.toList.drop k)=Ak b 0 s.toList)) (λ_ i=>s.size-(intOf i).toNat)
  ·exact⟨0,0,0,rfl,rfl,AR _,A4,rfl,H0 L5⟩
  obtain⟨k,m,acc,rfl,rfl,y,t,o4,hg⟩:=hrel;by_cases c:k<s.size
  ·have n:=Aw s k c;have B:(k:Int)<s.size:=A4;rw[n]at hg;clear n;by_cases h:AQ (s[k].toNat:Int) (b:Int)<0
   ·have hno:=A6 (Az b s.toList=none) (by rw[q.out,<-hg.out,Ak,AC h]);exact Ady
   have a:=Aj4 (s[k].toNat:Int) (b:Int);have o:=A6 (Ak b (acc*b+(AQ (s[k].toNat:Int) (b:Int)).toNat) (s.toList.drop (k+1))=Ak b 0 s.toList) (by rw[<-hg.out,Ak,AA h]);obtain⟨d,p⟩:∃d:Nat,AQ (s[k].toNat:Int) (b:Int)=(d:Int):=⟨(AQ (s[k].toNat:Int) (b:Int)).toNat,A4⟩;have l:=λw=>GS (s[k].toNat:Int) (b:Int) w (Bo _) (Bf _);rw[p]at o l a h;change Hid _ at l p;have x:m*b<=4294967296*16:=O7 t A4;have f:(m:Int)*b=((m*b:Nat):Int):=by rw[Int.natCast_mul]
   have A:IntKind.i64.wrap ((m:Int)*b)=((m*b:Nat):Int):=by rw[f];exact BI _ A4
   have D:IntKind.i64.wrap (((m*b:Nat):Int)+(d:Int))=((m*b:Nat):Int)+(d:Int):=BI _ A4;have j:=AhF (C:=4294967296) (acc:=acc) (d:=d) g;rw[<-o4.out]at j;change Hid _ at j f;clear hg;go_wp2_with(go_call l;refine AH ?_);go_round;exact⟨k+1,min (m*b+d) 4294967296,acc*b+d,AP,congrArg (Value.int .i64) (by rw[f.out];omega),A4,Ri _ _,H0 j,o⟩;exact AzF
  have aD:=A6 (Az b s.toList=some acc) (by rw[q.out,<-hg.out,CP s k A4];rfl);exact ZC
 have hno:=A6 (Az b s.toList=none) (by unfold Az;rw[AC Q9]);go_in;go_wp2;exact Zj
def VT{b:Nat}{o:Option Nat}(w:A7)(c:Int)(a:c=(b:Int))(e:s.size<=1099511627776)(d:b=8\/b=10\/b=16)(h:Az b s.toList=o):AD A8 343 #[.string s,.int .i64 c] w (Fm 4294967296 w o):=by
 subst h a;exact AeD s b w e d
def AaQ(c d:UInt8)(l:A5):Lib.hasPrefix l [c,d]=match l with|x::y::_=>(c==x&&d==y)|_=>false:=by
 unfold Lib.hasPrefix
 match l with
 |[]=>rfl|[x]=>simp[List.isPrefixOf]|x::y::r=>simp[List.isPrefixOf]
def WV{c:UInt8}{l:A5}(h:s.toList=c::l)(a:0<s.size):s[0]=c:=by
 have:=JG s 0 a;rw[<-this];simp[h]
def J2(k:Nat):(s.extract k s.size).toList=s.toList.drop k:=by
 rw[toList_extract,<-AK,Li]
variable{w w':A7}
def Alo{C:Nat}{o p:Option Nat}{e:Ag}(h:o=p)(r:Fm C w o e w'):Fm C w p e w':=h▸r
variable{n:Nat}
def Rl{c:UInt8}(a:n<256):((c:Int)==n)=decide (c=UInt8.ofNat n):=by
 rw[Fl];simp[CW,II];constructor
 ·intro h;have:c.toNat=n:=A4;rw[<-this];simp
 rintro rfl;rw[UInt8.toNat_ofNat_of_lt' a]
def AdW(s:A9)(w:A7)(D:s.size<=1099511627776):AD A8 344 #[.string s] w (Fm 4294967296 w (CY s)):=by
 have g:=AK s;by_cases h1:s.size<=1
 ·have k:∀c d,Lib.hasPrefix s.data.toList [c,d]=false:=by
   intro c d;rw[<-BQ,AaQ]
   match f:s.toList with
   |[]=>rfl|[x]=>rfl|x::y::r=>rw[f]at g;simp at g;omega
  have i:Az 10 s.toList=CY s.toList:=by
   match f:s.toList with
   |[]=>rfl|[x]=>rfl|x::y::r=>rw[f]at g;simp at g;omega
  have m:=k 48 120;have l:=k 48 88;have H:(s.size:Int)<=1:=A4;have j:=H0 (λw=>VT (o:=CY s) w 10 (b:=10) rfl D AE i);clear k g h1 i;go_in;go_wp2_with(first|(go_call Tryz.strings_HasPrefix;refine AH ?_)|(go_call j;refine AH ?_));go_ret2;exact⟨rfl,rfl⟩
 obtain⟨c,d,r,f⟩:∃c d r,s.toList=c::d::r:=by
  match f:s.toList with
  |[]=>rw[f]at g;simp at g;omega|[x]=>rw[f]at g;simp at g;omega|x::y::r=>exact⟨x,y,r,rfl⟩
 have G:0<s.size:=A4;have v:=WV f G;have H:1<(s.size:Int):=A4;have F:2<=(s.size:Int):=A4;have k:∀a b,Lib.hasPrefix s.data.toList [a,b]=(a==c&&b==d):=by intro a b;rw[<-BQ,AaQ,f]
 have m:=k 48 120;have l:=k 48 88;have u:((s[0].toNat:Int)==48)=decide (c=48):=by rw[v];exact Rl (n:=48) AE
 by_cases hc:c=48
 ·subst hc;by_cases j:d=120\/d=88
  ·have i:CY s.toList=Ak 16 0 r:=by rw[f,CY,AC rfl,AC j]
   have t:Lib.hasPrefix s.data.toList [48,120]=true\/Lib.hasPrefix s.data.toList [48,120]=false/\Lib.hasPrefix s.data.toList [48,88]=true:=by
    rw[m,l];rcases j with rfl|rfl
    ·exact .inl rfl
    exact .inr ⟨rfl,rfl⟩
   have C:s.size=r.length+2:=by rw[<-g,f];rfl
   have hx:(s.extract 2 s.size).toList=r:=by rw[J2,f];rfl
   have h:(s.extract 2 s.size).size<=1099511627776:=by rw[<-AK,hx];omega
   clear m l k u v;by_cases p:r=[]
   ·have z:=A6 (CY s.toList=some 0) (by rw[i,p];rfl);have E:((s.size:Int)==2)=true:=by rw[C,p];rfl
    clear i C hx h p f g j;rcases t with q|⟨q,A⟩;all_goals
     go_in;go_wp2_with(first|(go_call Tryz.strings_HasPrefix;refine AH ?_));go_ret2;exact Alo z.out.symm ⟨rfl,rfl⟩
   have E:((s.size:Int)==2)=false:=by
    have:0<r.length:=FV.2 p;simp only[B6,ne_eq];omega
   have hd':=H0 (λw=>VT (s:=s.extract 2 s.size) (o:=CY s) w 16 (b:=16) rfl h AE (by rw[hx,i];unfold Az;rw[AA p]));clear i C hx h p f g j;rcases t with q|⟨q,A⟩;all_goals
    go_in;go_wp2_with(first|(go_call Tryz.strings_HasPrefix;refine AH ?_)|(go_call hd';refine AH ?_));go_ret2;exact⟨rfl,rfl⟩
  have i:CY s.toList=Ak 8 0 (d::r):=by rw[f,CY,AC rfl,AA j]
  have q:Lib.hasPrefix s.data.toList [48,120]=false:=by
   rw[m];simp only[Qc];right;simp;exactλe=>j (.inl e.symm)
  have A:Lib.hasPrefix s.data.toList [48,88]=false:=by
   rw[l];simp only[Qc];right;simp;exactλe=>j (.inr e.symm)
  have hx:(s.extract 1 s.size).toList=d::r:=by rw[J2,f];rfl
  have h:(s.extract 1 s.size).size<=1099511627776:=by rw[<-AK,J2,C7];omega
  have hd':=H0 (λw=>VT (s:=s.extract 1 s.size) (o:=CY s) w 8 (b:=8) rfl h AE (by rw[hx,i];rfl));have B:((s[0].toNat:Int)==48)=true:=u.trans AE;clear i hx h f g j m l k u v;exact AjI
 have i:CY s.toList=Ak 10 0 (c::d::r):=by rw[f,CY,AA hc]
 have q:Lib.hasPrefix s.data.toList [48,120]=false:=by
  rw[m];simp only[Qc];left;simp;exactλe=>hc e.symm
 have A:Lib.hasPrefix s.data.toList [48,88]=false:=by
  rw[l];simp only[Qc];left;simp;exactλe=>hc e.symm
 have hd':=H0 (λw=>VT (s:=s) (o:=CY s) w 10 (b:=10) rfl D AE (by rw[i,f];rfl));have B:((s[0].toNat:Int)==48)=false:=by rw[u];simpa using hc
 clear i f g m l k u v hc;exact AjI
def Ac3(c:UInt8)(l:A5):∀p∈Al c l,p.length<=l.length:=by
 induction l with
 |nil=>intro p a;simp[Al]at a;subst a;exact AG _
 |cons d r ih=>
  intro p a;rw[Lw]at a;by_cases h:d=c
  ·rw[AC h]at a;rcases Bn.1 a with rfl|a
   ·simp
   have:=ih p a;simp;omega
  rw[AA h]at a;cases hs:Al c r with
  |nil=>exact absurd hs (Ik c r)
  |cons x y=>
   rw[hs]at a ih;rcases Bn.1 a with rfl|a
   ·have:=ih x AN;simp;omega
   have:=ih p (by simp at a⊢;exact .inr a);simp;omega
def Sh(s:A5):∀p∈BU s,p.length<=s.length:=by
 intro p a;unfold BU at a;split at a
 ·exact Ac3 46 s p (List.dropLast_subset _ a)
 exact Ac3 46 s p a
def Akn(s:A5):(BU s).length<=s.length+1:=by
 have:=UV 46 s;unfold BU;split
 ·rw[OJ];omega
 omega
def Tt{l:List A9}{a:List (A5)}(h:l.map (·.toList)=a){N:Nat}(b:∀p∈a,p.length<=N)(i:Nat)(c:i<l.length):(l[i]).size<=N:=by
 rw[<-AK];apply b;rw[<-h];exact OZ (CI c)
def Y3{l:List A9}(h:0<l.length):(l.map (·.toList)).getLast?=some (l[l.length-1].toList):=by
 rw[List.getLast?_eq_getElem?,Bz,GF,Cs A4];rfl
variable{g:Nat}
def Pk{l:List A9}{c:Nat}(h:∀i(h:i<l.length),w.cell? ⟨g,i,none⟩=some (.string l[i])):CA w (.slice (some ⟨g,0,none⟩) l.length c) l:=
 ⟨_,c,rfl,λ_=>⟨g,0,rfl,λi a=>AS⟩⟩
def Aee(s:A9)(w:A7)(o:DW w)(n:s.size<4294967281):AD A8 342 #[.string s] w (AhL w (BU s)):=by
 go_in;go_wp2_with fail;go_call Ayg as e w1⟨l,rfl,hl,hc,hb⟩;have hll:=A6 (l.length=(Al 46 s.toList).length) AcK;have g:0<l.length:=by rw[hll.out];exact FV.2 (Ik _ _)
 have f:l.length<=4294967281:=by rw[hll.out];have:=UV 46 s.toList;rw[AK]at this;omega
 have hlast:=A6 ((Al 46 s.toList).getLast?=some (l[l.length-1].toList)) (by rw[<-hl.out];exact Y3 g);have m:=hc (l.length-1) A4;have p:IntKind.i64.wrap ((l.length:Int)-1)=(l.length:Int)-1:=BI _ A4;replace hc:=H0 hc;by_cases b:l.length=1
 ·have j:(l.length:Int)<=1:=A4;have a:=A6 (l.map (·.toList)=BU s) (by
   unfold BU;rw[AA Nk];exact hl)
  replace b:=H0 b;go_wp2;go_ret;exact⟨_,l,rfl,a,Pk hc,hb⟩
 have j:1<(l.length:Int):=A4;replace b:=H0 b;cases hem:(l[l.length-1].toList.isEmpty)
 ·have a:=A6 (l.map (·.toList)=BU s) (by
   unfold BU;rw[AA Aco];exact hl)
  go_wp2;go_ret;exact⟨_,l,rfl,a,Pk hc,hb⟩
 have a:=A6 ((l.dropLast).map (·.toList)=BU s) (by
  unfold BU;rw[AC ⟨Nk,by rw[hlast.out];congr 1;simpa using hem⟩,<-hl.out,Nc])
 have d:=A6 (l.dropLast.length=l.length-1) OJ;have k:=A6 (CA w1 (.slice (some ⟨w,0,none⟩) (l.length-1) l.length) l.dropLast) (by
  rw[<-d.out];exact Pk (λi q=>by
   have c:i<l.length:=by have:=d.out;omega
   rw[List.getElem_dropLast];exact hc.out i c))
 go_wp2;go_ret;exact⟨_,l.dropLast,rfl,a,k,hb⟩
def VW{v:AJ}{l:List A9}(h:CA w v l)(d:0<l.length):∃g o c,v=.slice (some ⟨g,o,none⟩) l.length c/\(∀i(h:i<l.length),w.cell? ⟨g,o+i,none⟩=some (.string l[i])):=by
 obtain⟨a,c,rfl,hc⟩:=h;obtain⟨g,o,rfl,b⟩:=hc d;exact⟨g,o,c,rfl,b⟩
def AiE{l:List A9}{a:List (A5)}(h:l.map (·.toList)=a)(b:0<l.length):QH a=l[l.length-1].toList:=by
 unfold QH;rw[<-h,Y3 b];rfl
def Aup(s:A9)(w:A7)(r:DW w)(q:s.size<4294967281):AD A8 329 #[.string s] w (GG w (HV s)):=by
 go_in;go_wp2_with fail;go_call Aee as e w1⟨v,l,rfl,hl,hrd,hb⟩;have h:0<l.length:=by
  have:=congrArg List.length hl;rw[Bz]at this;rw[this];exact FV.2 (AaK _)
 have k:l.length<=4294967281:=by
  have:=congrArg List.length hl;rw[Bz]at this;rw[this];have:=Akn s;exact KN
 obtain⟨g,o,c,rfl,b⟩:=VW hrd h;have j:=b (l.length-1) A4;have f:=Tt hl (Sh s) (l.length-1) A4;rw[AK]at f;have a:=H0 (AiE hl h);have u:IntKind.i64.wrap ((l.length:Int)-1)=(l.length:Int)-1:=BI _ A4;clear hrd b;generalize i:l[l.length-1]=t at j f a;replace i:=H0 i;have n:=H0 (λw=>AeD t 10 w A4 AE);have p:=H0 (λw=>AdW t w A4);have m:=A6 (HV s.toList=((Az 10 t.toList).isSome||(CY t).isSome)) (by unfold HV;rw[a.out]);clear f;cases d:(Az 10 t.toList).isSome;all_goals
  replace d:=H0 d;go_wp2_with fail;go_call n;refine AH ?_;rw[d.out];go_wp2_with(go_call p;refine AH ?_);go_ret;exact⟨Ci (by rw[m.out,d.out];rfl),hb⟩
def QD(w:A7)(o:Option Nat)(e:Ag)(w':A7):Prop:=e=.returned (.tuple #[.int .u32 ((o.getD 0:Nat):Int),.bool o.isSome])/\AF w w w'
def Arw{o:Option Nat}(h:o=none)(a:AF w w w'):QD w o (.returned (.tuple #[.int .u32 0,.bool false])) w':=by subst h;exact⟨rfl,a⟩
def An6(s:A9)(w:A7)(L:DW w)(J:s.size<4294967281):AD A8 330 #[.string s] w (QD w (CT s)):=by
 go_in;go_wp2_with fail;go_call Aee as e w1⟨v,l,rfl,hl,hrd,hb⟩;have hll:=A6 ((BU s).length=l.length) AaG;have B:0<l.length:=Wa;obtain⟨g,o,c,rfl,hcc⟩:=VW hrd B;clear hrd;by_cases h4:4<l.length
 ·exact AeJ
 have D:=A6 (CT s.toList=Ch 0 (BU s) 0) (by unfold CT OM;rw[hll.out,AA h4]);have A:∀i(h:i<l.length),l[i].size<=4294967281:=λi q=>by
  have:=Tt hl (Sh s) i q;exact KN
 have x:∀i(h:i<l.length),(BU s).drop i=l[i].toList::(BU s).drop (i+1):=λi q=>by
  rw[<-hl.out,Fr (by simpa using q)];simp
 change Hid _ at hcc A x;go_wp2_with fail;go_loop[5,17] (λC iv=>∃k a:Nat,iv=.int .i64 k/\C=.int .i64 a/\k<=l.length/\a<=4294967296/\Hid (a+2^(8*(4-k))<=4294967296\/k=l.length/\a<4294967296)/\Hid (Ch k ((BU s).drop k) a=CT s)) (λ_ i=>l.length-(intOf i).toNat)
 ·exact⟨0,0,rfl,rfl,AR _,A4,H0 (.inl AE),H0 (by rw[C9,D.out])⟩
 obtain⟨k,a,rfl,rfl,I,K,cJ,hg⟩:=hrel;by_cases n:k<l.length
 ·have N:(k:Int)<l.length:=A4;have p:=hcc.out k n;have O:=A.out k n;have bZ:=H0 (x.out k n);go_wp2_with fail;go_call AdW;refine AH ?_;cases hv:CY l[k].toList with
  |none=>
   exact Al7
  |some v=>
   obtain⟨m,eB⟩:∃m,m=min v 4294967296:=⟨_,rfl⟩;have F:m<=4294967296:=by rw[eB];exact Ri _ _
   rw[show min ((some v).getD 0) 4294967296=m from eB.symm,show(some v).isSome=true from rfl];replace eB:=H0 eB;by_cases E:k+1=l.length
   ·have j:(BU s).drop (k+1)=[]:=Cj Nk;have bF:=A6 (CT s.toList=if v<2^(8*(4-k))then some (a+v)else none) (by rw[<-hg.out,bZ.out,j,Ch,hv]);clear j;replace hv:=H0 hv;rcases(show k=0\/k=1\/k=2\/k=3 by omega)with rfl|rfl|rfl|rfl
    ·have b:(l.length:Int)-1=0:=A4;have aW:a+4294967296<=4294967296:=IV;by_cases hvP:v<4294967296
     ·have d:m=v:=FE;subst d;have iF:decide (4294967296<=(m:Int))=false:=BO A4;have f:=A6 (Ch 1 ((BU s).drop 1) (a+m)=CT s) (by
       exact MH)
      have bL:a+m<4294967296:=A4;change Hid _ at aW bL hvP;go_wp2_with fail;go_round;exact⟨1,a+m,AP,AP,A4,IF,H0 (.inr ⟨A4,bL⟩),f⟩;exact AzF
     have iF:4294967296<=(m:Int):=FE;exact Lz
    ·have b:(l.length:Int)-1=1:=A4;have aW:a+16777216<=4294967296:=IV;by_cases hvP:v<16777216
     ·have d:m=v:=FE;subst d;have iF:decide (16777216<=(m:Int))=false:=BO A4;have f:=A6 (Ch 2 ((BU s).drop 2) (a+m)=CT s) (by
       exact MH)
      have bL:a+m<4294967296:=A4;change Hid _ at aW bL hvP;go_wp2_with fail;go_round;exact⟨2,a+m,AP,AP,A4,IF,H0 (.inr ⟨A4,bL⟩),f⟩;exact AzF
     have iF:16777216<=(m:Int):=FE;exact Lz
    ·have b:(l.length:Int)-1=2:=A4;have aW:a+65536<=4294967296:=IV;by_cases hvP:v<65536
     ·have d:m=v:=FE;subst d;have iF:decide (65536<=(m:Int))=false:=BO A4;have f:=A6 (Ch 3 ((BU s).drop 3) (a+m)=CT s) (by
       exact MH)
      have bL:a+m<4294967296:=A4;change Hid _ at aW bL hvP;go_wp2_with fail;go_round;exact⟨3,a+m,AP,AP,A4,IF,H0 (.inr ⟨A4,bL⟩),f⟩;exact AzF
     have iF:65536<=(m:Int):=FE;exact Lz
    have b:(l.length:Int)-1=3:=A4;have aW:a+256<=4294967296:=IV;by_cases hvP:v<256
    ·have d:m=v:=FE;subst d;have iF:decide (256<=(m:Int))=false:=BO A4;have f:=A6 (Ch 4 ((BU s).drop 4) (a+m)=CT s) (by
      exact MH)
     have bL:a+m<4294967296:=A4;change Hid _ at aW bL hvP;go_wp2_with fail;go_round;exact⟨4,a+m,AP,AP,A4,IF,H0 (.inr ⟨A4,bL⟩),f⟩;exact AzF
    have iF:256<=(m:Int):=FE;exact Lz
   have j:∃y r,(BU s).drop (k+1)=y::r:=by
    exact Agv
   have bF:=A6 (CT s.toList=if v<=255 then Ch (k+1) ((BU s).drop (k+1)) (a+v*2^(8*(3-k)))else none) (by
    obtain⟨y,r,h⟩:=j;rw[<-hg.out,bZ.out,h,Ch,hv])
   clear j;replace hv:=H0 hv;rcases(show k=0\/k=1\/k=2 by omega)with rfl|rfl|rfl
   ·have b:0<(l.length:Int)-1:=A4;have z:(0==(l.length:Int)-1)=false:=B6.2 A4;have aW:a+4294967296<=4294967296:=IV;by_cases hvP:v<=255
    ·have d:m=v:=FE;subst d;have f:=A6 (Ch 1 ((BU s).drop 1) (a+m*16777216)=CT s) (by
      exact Oz)
     have bL:a+m*16777216+16777216<=4294967296:=A4;change Hid _ at aW bL;go_wp2_with fail;go_round;exact⟨1,a+m*16777216,AP,AP,A4,IF,H0 (.inl bL),f⟩;exact AzF
    exact Oe
   ·have b:1<(l.length:Int)-1:=A4;have z:(1==(l.length:Int)-1)=false:=B6.2 A4;have aW:a+16777216<=4294967296:=IV;by_cases hvP:v<=255
    ·have d:m=v:=FE;subst d;have f:=A6 (Ch 2 ((BU s).drop 2) (a+m*65536)=CT s) (by
      exact Oz)
     have bL:a+m*65536+65536<=4294967296:=A4;change Hid _ at aW bL;go_wp2_with fail;go_round;exact⟨2,a+m*65536,AP,AP,A4,IF,H0 (.inl bL),f⟩;exact AzF
    exact Oe
   have b:2<(l.length:Int)-1:=A4;have z:(2==(l.length:Int)-1)=false:=B6.2 A4;have aW:a+65536<=4294967296:=IV;by_cases hvP:v<=255
   ·have d:m=v:=FE;subst d;have iF:(m:Int)<=255:=A4;have f:=A6 (Ch 3 ((BU s).drop 3) (a+m*256)=CT s) (by
     exact Oz)
    have bL:a+m*256+256<=4294967296:=A4;change Hid _ at aW bL;go_wp2_with fail;go_round;exact⟨3,a+m*256,AP,AP,A4,IF,H0 (.inl bL),f⟩;exact AzF
   exact Oe
 have t:k=l.length:=A4;have H:=A6 (CT s.toList=some a) (by
  rw[<-hg.out,Cj Nk,Ch])
 have G:a<4294967296:=by
  exact AlP
 have u:(l.length:Int)<=k:=A4;have M:IntKind.u32.wrap (a:Int)=(a:Int):=WY _ A4 A4;replace t:=H0 t;go_wp2_with fail;go_ret2;unfold QD;rw[H.out];exact⟨rfl,hb⟩
def GI(b n:Nat):A5:=if h:n<b\/b<2 then[BJ n]else GI b (n/b)++[BJ (n%b)]
termination_by n
decreasing_by exact Nat.div_lt_self A4 A4
def Oo{b:Nat}(h:n<b):GI b n=[BJ n]:=by rw[GI,dif_pos (.inl h)]
def Qo{b:Nat}(h:¬n<b)(a:2<=b):GI b n=GI b (n/b)++[BJ (n%b)]:=by rw[GI,dif_neg A4]
def ZS:∀d:Fin 16,PP ((BJ d.val).toNat:Int)=(d.val:Int)/\BJ d.val≠46/\BJ d.val≠120/\BJ d.val≠88/\(0<d.val->BJ d.val≠48):=AX
def Acx:∀d:Fin 10,BJ d.val=UInt8.ofNat (48+d.val):=AX
def AdT{d b:Nat}(h:d<b)(a:b<=16):AQ ((BJ d).toNat:Int) (b:Int)=(d:Int):=by
 have:=(ZS ⟨d,A4⟩).1;unfold AQ;rw[show PP ((BJ d).toNat:Int)=(d:Int)from this,AA A4]
def Nu(n:Nat):GI 10 n=Lib.decDigits n:=by
 induction n using Nat.strongRecOn with
 |_ n ih=>
  by_cases h:n<10
  ·rw[Oo h,Lib.decDigits_one h];exact congrArg (λx=>[x]) (Acx ⟨n,h⟩)
  rw[Qo h AE,ih (n/10) A4]
  conv=>rhs;rw[Lib.decDigits,dif_neg h]
  rw[show BJ (n%10)=UInt8.ofNat (48+n%10)from Acx ⟨n%10,A4⟩]
def Tk(b n:Nat):GI b n≠[]:=by
 rw[GI];split<;>simp
def Ys{b:Nat}(a:2<=b)(e:b<=16)(n:Nat):∀c∈GI b n,∃d,d<b/\c=BJ d:=by
 induction n using Nat.strongRecOn with
 |_ n ih=>
  by_cases h:n<b
  ·rw[Oo h];intro c hc;simp at hc;exact⟨n,h,hc⟩
  rw[Qo h a];intro c hc;rcases BL.1 hc with hc|hc
  ·exact ih (n/b) (Nat.div_lt_self A4 A4) c hc
  simp at hc;exact⟨n%b,Fw _ A4,hc⟩
def AsQ{b:Nat}(a:2<=b)(d:b<=16)(n:Nat)(e:0<n):∃c r,GI b n=c::r/\c≠48:=by
 induction n using Nat.strongRecOn with
 |_ n ih=>
  by_cases h:n<b
  ·exact⟨BJ n,[],Oo h,(ZS ⟨n,A4⟩).2.2.2.2 e⟩
  have⟨c,r,h1,h2⟩:=ih (n/b) (Nat.div_lt_self A4 A4) (Nat.div_pos A4 A4);exact⟨c,r++[BJ (n%b)],by rw[Qo h a,h1];rfl,h2⟩
def Zi(b:Nat):∀(l m:A5)(acc:Nat),Ak b acc (l++m)=(Ak b acc l).bind λx=>Ak b x m
 |[],m,acc=>rfl
 |c::r,m,acc=>by
  rw[Di,Ak,Ak];split
  ·rfl
  exact Zi b r m _
def AlQ{b:Nat}(c:2<=b)(a:b<=16)(n:Nat):Ak b 0 (GI b n)=some n:=by
 have one:∀acc d,d<b->Ak b acc [BJ d]=some (acc*b+d):=by
  intro acc d e;rw[Ak,AdT e a,Ak];simp
 induction n using Nat.strongRecOn with
 |_ n ih=>
  by_cases h:n<b
  ·rw[Oo h,one _ _ h];simp
  rw[Qo h c,Zi,ih (n/b) (Nat.div_lt_self A4 A4)];show Ak b (n/b) [BJ (n%b)]=some n;rw[one _ _ (Fw _ A4),M5,Nat.div_add_mod]
def AmZ(n:Nat):CY (GI 10 n)=some n:=by
 have h:=AlQ (b:=10) AE AE n
 match hL:GI 10 n with
 |[]=>exact absurd hL (Tk _ _)|[c]=>rw[hL]at h;exact h
 |c::d::r=>
  have a:0<n:=by
   by_cases a:n=0
   ·rw[a,Oo AE]at hL;simp at hL
   omega
  have⟨c',r',h1,h2⟩:=AsQ (b:=10) AE AE n a;rw[hL]at h1 h;have⟨rfl,_⟩:=HY h1;rw[CY,AA h2,h]
def AtE{b:Nat}(e:2<=b)(a:b<=16)(n:Nat):∀c∈GI b n,c≠46:=by
 intro c hc;obtain⟨d,f,rfl⟩:=Ys e a n c hc;exact(ZS ⟨d,A4⟩).2.1
def Afj{s x:A5}{b:List (A5)}(h:Al 46 s=b++[x])(hx:x≠[]):BU s=b++[x]:=by
 unfold BU;rw[h,AA];rintro⟨_,a⟩;simp at a;exact hx a
def AhG:∀(a:List (A5))(x:A5),(∀p∈a,∀c∈p,c≠46)->(∀c∈x,c≠46)->Al 46 (a.flatMap (λp=>p++[46])++x)=a++[x]
 |[],x,_,hx=>Nv x hx
 |p::a,x,hp,hx=>by
  have e:(p::a).flatMap (λp=>p++[46])++x=p++46::(a.flatMap (λp=>p++[46])++x):=AN;rw[e,P3,Nv p (hp p AN),AhG a x (λq b=>hp q (by simp[b])) hx];rfl
def Asl{i:Nat}{x:A5}(h:CY x=some v)(a:v<2^(8*(4-i))):Ch i [x] acc=some (acc+v):=by
 rw[Ch,h];dsimp only;rw[AC a]
def XM{i:Nat}{x:A5}{L:List (A5)}(b:L≠[])(h:CY x=some v)(a:v<=255):Ch i (x::L) acc=Ch (i+1) L (acc+v*2^(8*(3-i))):=by
 match L,b with
 |y::r,_=>rw[Ch,h];dsimp only;rw[AC a]
def YN(n:Nat):FF n=[ES n 0,ES n 1,ES n 2].flatMap (λp=>p++[46])++ES n 3:=by
 simp[FF,FD]
def Ahx(n k:Nat):∀c∈ES n k,c≠46:=by
 unfold ES;rw[<-Nu];exact AtE AE AE _
def Rg(n k:Nat):CY (ES n k)=some (n/256^(3-k)%256):=by
 unfold ES;rw[<-Nu];exact AmZ _
def WI(n k:Nat):ES n k≠[]:=by unfold ES;rw[<-Nu];exact Tk _ _
def Al4(n:Nat):Al 46 (FF n)=[ES n 0,ES n 1,ES n 2]++[ES n 3]:=by
 rw[YN];exact AhG _ _ (by intro p a;simp at a;rcases a with rfl|rfl|rfl<;>exact Ahx _ _) (Ahx _ _)
def AsV(h:n<4294967296):OM [ES n 0,ES n 1,ES n 2,ES n 3]=some n:=by
 unfold OM;rw[AA AN,XM AN (Rg n 0) A4,XM AN (Rg n 1) A4,XM AN (Rg n 2) A4,Asl (Rg n 3) A4];congr 1;omega
def Alf(h:n<4294967296):CT (FF n)=some n:=by
 unfold CT;rw[Afj (Al4 n) (WI _ _)];exact AsV h
def AiT(n:Nat):FF n≠[]:=by
 rw[YN];intro h;exact WI n 3 (PI.1 h).2
def DR(l:A5):Option Nat:=if 4<l.length then none else Az 16 l
def Ct(l:A5):Option Nat:=
 if 3<l.length\/(1<l.length/\l.head?=some 48)then none
 else match Az 10 l with|none=>none|some n=>if 255<n then none else some n
def Gl:Nat->Nat->A5->Option Nat
 |0,acc,l=>if(AL 46 l).2.2=true then none else(Ct (AL 46 l).1).map λv=>acc*256+v|k+1,acc,l=>if(AL 46 l).2.2=true then(match Ct (AL 46 l).1 with|none=>none|some v=>Gl k (acc*256+v) (AL 46 l).2.1)else none
def Fk(l:A5):Option Nat:=Gl 3 0 l
def DU(last nb:Bool)(t:A5):Option (List Nat):=
 if last=true/\nb=true/\t.contains 46=true then(Fk t).map λn=>[n/65536,n%65536]else(DR t).map λv=>[v]
def Ir(nb:Bool):Nat->A5->Option (List Nat)
 |0,_=>none
 |f+1,l=>
  match DU (!(AL 58 l).2.2) nb (AL 58 l).1 with
  |none=>none|some x=>if(AL 58 l).2.2=true then(Ir nb f (AL 58 l).2.1).map (λy=>x++y)else some x
def Dt(nb:Bool)(l:A5):Option (List Nat):=if l=[]then some []else Ir nb (l.length+1) l
def DK(nb:Bool)(l:A5):Option (List Nat):=match Dt nb l with|none=>none|some x=>if x.length<=8 then some x else none
def Gw(nb:Bool)(f:Nat)(P:List Nat)(t:A5):Option (List Nat):=match Ir nb f t with|none=>none|some x=>if(P++x).length<=8 then some (P++x)else none
variable{nb:Bool}
def AtF{l:A5}(h:l≠[]):DK nb l=Gw nb (l.length+1) [] l:=by
 unfold DK Gw Dt;rw[AA h];rfl
variable{f:Nat}{P:List Nat}{t:A5}
def AxS(h:DU (!(AL 58 t).2.2) nb (AL 58 t).1=none):Gw nb (f+1) P t=none:=by
 unfold Gw;rw[Ir,h]
variable{x:List Nat}
def AyB(h:DU (!(AL 58 t).2.2) nb (AL 58 t).1=some x)(a:(AL 58 t).2.2=true):Gw nb (f+1) P t=Gw nb f (P++x) (AL 58 t).2.1:=by
 unfold Gw;rw[Ir,h];dsimp only;rw[AC a];cases Ir nb f (AL 58 t).2.1 with
 |none=>rfl|some y=>simp[Option.map_some,CQ]
def Aoe(h:DU (!(AL 58 t).2.2) nb (AL 58 t).1=some x)(a:(AL 58 t).2.2=false):Gw nb (f+1) P t=if(P++x).length<=8 then some (P++x)else none:=by
 unfold Gw;rw[Ir,h];dsimp only;rw[AA (by rw[a];decide)]
def Avd(h:8<P.length):Gw nb f P t=none:=by
 unfold Gw;cases Ir nb f t with
 |none=>rfl|some y=>exact AA Qi
def AvZ{m:Bool}(b:(AL 58 t).2.2=m)(h:DU (!m) nb (AL 58 t).1=some x):((P++x).length<=8->if m=true then Gw nb (f+1) P t=Gw nb f (P++x) (AL 58 t).2.1 else Gw nb (f+1) P t=some (P++x))/\(8<(P++x).length->Gw nb (f+1) P t=none):=by
 subst b;cases b:(AL 58 t).2.2
 ·rw[Aoe h b];exact⟨λa=>by rw[AA AE,AC a],λa=>AA A4⟩
 rw[AyB h b];exact⟨λ_=>by rw[AC rfl],λa=>Avd a⟩
def Aje{a:Bool}(h:a=false\/nb=false\/t.contains 46=false):DU a nb t=(DR t).map λv=>[v]:=by
 unfold DU;rw[AA];rintro⟨h1,c,b⟩;rcases h with h|h|h
 ·rw[h]at h1;cases h1
 ·rw[h]at c;cases c
 rw[h]at b;cases b
def Aml(h:t.contains 46=true):DU true true t=(Fk t).map λn=>[n/65536,n%65536]:=by
 unfold DU;rw[AC ⟨rfl,rfl,h⟩]
def Agl{c:UInt8}{l:A5}(h:(AL c l).2.2=true):(AL c l).2.1.length<l.length:=by
 have:=congrArg List.length (PT c l);rw[h]at this;simp at this;omega
def D4(l:A5):A5×A5×Bool:=Lib.cut l [58,58]
def Ca(l:A5):Option (List Nat):=
 if(D4 l).2.2=true then
  match DK false (D4 l).1 with
  |none=>none
  |some x=>match DK true (D4 l).2.1 with
   |none=>none|some y=>if x.length+y.length<8 then some (x++(List.replicate (8-x.length-y.length) 0++y))else none
 else match DK true l with|none=>none|some x=>if x.length=8 then some x else none
def Eo(nb:Bool):List (A5)->Option (List Nat)
 |[]=>some []|[t]=>DU true nb t
 |t::u::r=>match DU false nb t with|none=>none|some x=>(Eo nb (u::r)).map λy=>x++y
def ZG(c:UInt8)(l:A5):Al c l=(AL c l).1::(if(AL c l).2.2=true then Al c (AL c l).2.1 else[]):=by
 induction l with
 |nil=>rfl
 |cons d r ih=>
  rw[Lw];unfold AL;by_cases h:d=c
  ·simp[h]
  simp_all
def Adg(nb:Bool):∀f l,l.length<f->Ir nb f l=Eo nb (Al 58 l)
 |0,l,h=>A4
 |f+1,l,h=>by
  rw[Ir,ZG];cases hm:(AL 58 l).2.2
  ·simp[Bool.not_false,RQ,if_false];rw[Eo];cases DU true nb (AL 58 l).1<;>rfl
  have a:=Agl hm;obtain⟨u,r,hu⟩:∃u r,Al 58 (AL 58 l).2.1=u::r:=by
   cases hq:Al 58 (AL 58 l).2.1 with
   |nil=>exact absurd hq (Ik _ _)|cons u r=>exact⟨u,r,rfl⟩
  rw[AC rfl,hu,Adg nb f (AL 58 l).2.1 A4,hu];rfl
def Vh(nb:Bool)(l:A5):Dt nb l=if l=[]then some []else Eo nb (Al 58 l):=by
 unfold Dt;rw[Adg nb _ l A4]
def DO:List (A5)->A5
 |[]=>[]|[t]=>t|t::u::r=>t++58::DO (u::r)
def Nn(t:A5)(r:List (A5)):DO (t::r)=t++(if r=[]then[]else 58::DO r):=by
 cases r with
 |nil=>simp[DO]|cons u r=>simp[DO]
def MB(t:A5):Prop:=t≠[]/\∀c∈t,c≠58
def AhM:∀ts:List (A5),ts≠[]->(∀t∈ts,∀c∈t,c≠58)->Al 58 (DO ts)=ts
 |[],h,_=>absurd rfl h|[t],_,h=>Nv t (h t AN)
 |t::u::r,_,h=>by
  rw[DO,P3,Nv t (h t AN),AhM (u::r) AN (λx hx=>h x SC)];rfl
variable{ts:List (A5)}
def Ahr(h:ts≠[])(a:∀t∈ts,MB t):DO ts≠[]:=by
 cases ts with
 |nil=>exact absurd rfl h
 |cons t r=>
  rw[Nn];intro e;exact(a t AN).1 (PI.1 e).1
def AsO(nb:Bool)(a:∀t∈ts,MB t):Dt nb (DO ts)=Eo nb ts:=by
 rw[Vh];by_cases h:ts=[]
 ·subst h;rfl
 rw[AA (Ahr h a),AhM ts h (λt b=>(a t b).2)]
def Ao3:D4 []=([],[],false):=AE
def Pm(c:UInt8)(r:A5):D4 (c::r)=if c=58/\r.head?=some 58 then([],r.tail,true)else(c::(D4 r).1,(D4 r).2.1,(D4 r).2.2):=by
 unfold D4 Lib.cut;have a:([58,58]:A5).isPrefixOf (c::r)=decide (c=58/\r.head?=some 58):=by
  cases r with
  |nil=>grind
  |cons d r=>
   grind
 rw[Lib.index,a];by_cases h:c=58/\r.head?=some 58
 ·simp_all
 rw[BO h,AA h];have b:=Lib.index_ge r [58,58];by_cases h1:Lib.index r [58,58]=-1
 ·simp[h1]
 have g:0<=Lib.index r [58,58]:=A4;have f:0<=Lib.index r [58,58]+1:=A4;have e:(Lib.index r [58,58]+1).toNat=(Lib.index r [58,58]).toNat+1:=A4;simp_all
def Hi:A5->Bool
 |[]=>false
 |c::r=>decide (c=58/\r.head?=some 58)||Hi r
def Afg:∀l,Hi l=false->D4 l=(l,[],false)
 |[],_=>Ao3
 |c::r,h=>by
  unfold Hi at h;rw[J1,LY]at h;rw[Pm,AA h.1,Afg r h.2]
def AlF:∀(X Y:A5),Hi X=false->X.getLast?≠some 58->D4 (X++58::58::Y)=(X,Y,true)
 |[],Y,_,_=>by rw[Do,Pm];rfl
 |c::r,Y,h,hl=>by
  unfold Hi at h;rw[J1]at h;rw[Di,Pm];cases r with
  |nil=>
   have hc:c≠58:=by rintro rfl;exact hl rfl
   rw[AA (λh=>hc h.1),Do,Pm];rfl
  |cons d r=>
   rw[AA (by simpa using h.1),AlF (d::r) Y h.2 (by rw[List.getLast?_cons_cons]at hl;exact hl)]
def AjS(c:UInt8)(r:A5):Hi (c::r)=(decide (c=58/\r.head?=some 58)||Hi r):=rfl
def Akb:∀(a b:A5),Hi (a++b)=(Hi a||decide (a.getLast?=some 58/\b.head?=some 58)||Hi b)
 |[],b=>by simp[Hi]|[c],b=>by simp[Hi]
 |c::d::r,b=>by
  rw[Di,AjS,Akb (d::r) b,AjS c (d::r)];simp only[List.head?_cons,Bool.or_assoc];rfl
def AfT(h:∀c∈t,c≠58):Hi t=false:=by
 induction t with
 |nil=>rfl
 |cons c r ih=>
  unfold Hi;rw[ih (λx hx=>h x (by simp[hx])),BO (λe=>h c AN e.1)];rfl
def AaU(h:∀c∈t,c≠58):t.getLast?≠some 58:=λe=>h 58 (List.mem_of_getLast? e) rfl
def AtA(h:∀c∈t,c≠58):t.head?≠some 58:=λe=>h 58 (List.mem_of_head? e) rfl
def Amr(a:∀t∈ts,MB t):(DO ts).head?≠some 58:=by
 cases ts with
 |nil=>simp[DO]
 |cons t r=>
  have⟨h1,h2⟩:=a t AN;rw[Nn];cases t with
  |nil=>exact absurd rfl h1|cons c t=>rw[Di,List.head?_cons];exact AtA h2
def Aid:∀{ts:List (A5)},(∀t∈ts,MB t)->(DO ts).getLast?≠some 58
 |[],_=>by simp[DO]|[t],hb=>AaU (hb t AN).2
 |t::u::r,hb=>by
  have a:=Aid (ts:=u::r) (λx hx=>hb x SC);have b:=Ahr (ts:=u::r) AN (λx hx=>hb x SC);rw[DO,PK];cases hj:DO (u::r)with
  |nil=>exact absurd hj b
  |cons x y=>
   rw[hj]at a;rw[List.getLast?_cons_cons];cases hq:(x::y).getLast? with
   |none=>simp at hq|some z=>rw[hq]at a;simpa using a
def Wz:∀{ts:List (A5)},(∀t∈ts,MB t)->Hi (DO ts)=false
 |[],_=>rfl|[t],hb=>AfT (hb t AN).2
 |t::u::r,hb=>by
  have a:∀x∈u::r,MB x:=λx hx=>hb x SC;rw[DO,Akb,AfT (hb t AN).2,BO (λe=>AaU (hb t AN).2 e.1),Hi,Wz a,BO (λe=>Amr a e.2)];rfl
def Md(g:Nat->A5)(l:List Nat):Prop:=∀n∈l,MB (g n)/\∀last nb,DU last nb (g n)=some [n]
variable{l:List Nat}
def Md.bet{g:Nat->A5}(h:Md g l):∀t∈l.map g,MB t:=by
 intro t a;obtain⟨n,b,rfl⟩:=EU.1 a;exact(h n b).1
def Ah0{g:Nat->A5}(nb:Bool):∀{l:List Nat},Md g l->Eo nb (l.map g)=some l
 |[],_=>rfl|[n],h=>(h n AN).2 true nb
 |n::m::r,h=>by
  have a:=Ah0 nb (l:=m::r) (λx hx=>h x SC);rw[FR,FR]at *;rw[Eo,(h n AN).2 false nb];rw[a];rfl
def X3{g:Nat->A5}(nb:Bool)(h:Md g l)(a:l.length<=8):DK nb (DO (l.map g))=some l:=by
 unfold DK;rw[AsO nb h.bet,Ah0 nb h];dsimp only;rw[AC a]
def Atz{g:Nat->A5}(h:Md g l)(a:l.length=8):Ca (DO (l.map g))=some l:=by
 unfold Ca;rw[Afg _ (Wz h.bet),AA AN,X3 true h A4];dsimp only;rw[AC a]
def Ams{g:Nat->A5}{m:List Nat}(h:Md g l)(k:Md g m)(a:l.length+m.length<8):Ca (DO (l.map g)++58::58::DO (m.map g))=some (l++(List.replicate (8-l.length-m.length) 0++m)):=by
 unfold Ca;rw[AlF _ _ (Wz h.bet) (Aid h.bet),AC rfl];rw[X3 false h A4,X3 true k A4];dsimp only;rw[AC a]
def UL:∀f n,∀c∈Ej f n,∃d,d<16/\c=BJ d
 |0,n,c,h=>C5
 |f+1,n,c,h=>by
  rw[Ej]at h;split at h
  ·simp at h;exact⟨n,by assumption,h⟩
  rcases BL.1 h with h|h
  ·exact UL f (n/16) c h
  simp at h;exact⟨n%16,Fw _ AE,h⟩
def AjU:∀d:Fin 16,BJ d.val≠58/\BJ d.val≠46:=AX
def Agq(f n:Nat):Ej (f+1) n≠[]:=by rw[Ej];split<;>simp
def XG(acc d:Nat)(h:d<16):Ak 16 acc [BJ d]=some (acc*16+d):=by
 rw[Ak,AdT h AE,Ak];simp
def Akc:∀f n,n<16^(f+1)->Ak 16 0 (Ej (f+1) n)=some n
 |0,n,h=>by
  rw[Ej,AC A4,XG 0 n A4];simp
 |f+1,n,h=>by
  rw[Ej];by_cases a:n<16
  ·rw[AC a,XG 0 n a];simp
  rw[AA a,Zi,Akc f (n/16) (by rw[L0]at h;omega)];show Ak 16 (n/16) [BJ (n%16)]=some n;rw[XG _ _ (Fw _ AE),M5,Nat.div_add_mod]
def Azf(h:DR t=some v)(b:∀c∈t,c≠46)(a nb:Bool):DU a nb t=some [v]:=by
 rw[Aje (.inr (.inr (by
  cases hc:t.contains 46
  ·rfl
  exact absurd rfl (b 46 Oi)))),h];rfl
def AtW(h:n<65536):DR (EM n)=some n:=by
 unfold DR Az;rw[AA (by have:=U5 n;omega),AA (show¬EM n=[]from Agq 3 n)];exact Akc 3 n A4
def YA(h:∀x∈l,x<65536):Md EM l:=by
 intro n b;refine⟨⟨Agq 3 n,?_⟩,Azf (AtW (h n b)) ?_⟩
 ·intro c hc;obtain⟨d,a,rfl⟩:=UL 4 n c hc;exact(AjU ⟨d,a⟩).1
 intro c hc;obtain⟨d,a,rfl⟩:=UL 4 n c hc;exact(AjU ⟨d,a⟩).2
def Mj:List Bool->Nat
 |[]=>0|x::r=>if x=true then Mj r+1 else 0
def IE:Nat->List Bool->Nat->Nat->Nat->Nat×Nat
 |0,_,_,b,e=>(b,e)
 |f+1,l,i,b,e=>
  if i<8 then(if 2<=Mj (l.drop i)/\e-b<Mj (l.drop i)then IE f l (i+Mj (l.drop i)+1) i (i+Mj (l.drop i))else IE f l (i+Mj (l.drop i)+1) b e)else(b,e)
def isZ(n:Nat):Bool:=decide (n=0)
def Aor(l:List Nat):Dr l=Mj (l.map isZ):=by
 induction l with
 |nil=>rfl|cons x r ih=>rw[Dr,FR,Mj,ih];unfold isZ;simp only[II]
def AaF(l:List Nat):∀f i b e,Hb f l i b e=IE f (l.map isZ) i b e
 |0,_,_,_=>rfl
 |f+1,i,b,e=>by
  rw[Hb,IE,Aor,List.map_drop,AaF l f,AaF l f]
def VK:List Bool->Bool
 |a::b::r=>(a&&b)||VK (b::r)
 |_=>false
def Wg(p:List Bool):Bool:=
 decide ((IE 8 p 0 0 0).1<=(IE 8 p 0 0 0).2)&&decide ((IE 8 p 0 0 0).2<=8)&&
  (!decide ((IE 8 p 0 0 0).1<(IE 8 p 0 0 0).2)||(decide ((IE 8 p 0 0 0).1+2<=(IE 8 p 0 0 0).2)&&((p.take (IE 8 p 0 0 0).2).drop (IE 8 p 0 0 0).1).all id))&&
  (decide ((IE 8 p 0 0 0).1<(IE 8 p 0 0 0).2)==VK p)
def Auc:∀a b c d e f g h:Bool,Wg [a,b,c,d,e,f,g,h]=true:=AX
def UJ(h:Gg l):(Ap l).1<=(Ap l).2/\(Ap l).2<=8/\((Ap l).1<(Ap l).2->(Ap l).1+2<=(Ap l).2/\(l.take (Ap l).2).drop (Ap l).1=List.replicate ((Ap l).2-(Ap l).1) 0)/\decide ((Ap l).1<(Ap l).2)=VK (l.map isZ):=by
 have j:Wg (l.map isZ)=true:=by
  match l,h.len with
  |[a,b,c,d,e,f,g,i],_=>exact Auc _ _ _ _ _ _ _ _
 unfold Wg at j;rw[<-AaF]at j;change(decide ((Ap l).1<=(Ap l).2)&&decide ((Ap l).2<=8)&&(!decide ((Ap l).1<(Ap l).2)||(decide ((Ap l).1+2<=(Ap l).2)&&(((l.map isZ).take (Ap l).2).drop (Ap l).1).all id))&&(decide ((Ap l).1<(Ap l).2)==VK (l.map isZ)))=true at j;simp only[C0,II,CW,Gd,Bool.not_eq_true',LY]at j;have⟨⟨⟨h1,h2⟩,k⟩,h4⟩:=j;refine⟨h1,h2,λn=> ?_,h4⟩;rcases k with k|⟨k,m⟩
 ·omega
 refine⟨k,?_⟩;rw[List.eq_replicate_iff];refine⟨by rw[C7,Cl,h.len];omega,?_⟩;intro x hx;rw[<-List.map_take,<-List.map_drop,List.all_map,Et]at m;have:=m x hx;simpa[isZ]using this
variable{e:Nat}
def Aec(d:l.length=8){b:Nat}(c:b<e):∀f i,8<=i+f->e<i->DT f l b e i=if i<8 then 58::DO ((l.drop i).map EM)else[]
 |0,i,h,_=>by rw[AA A4];rfl
 |f+1,i,h,he=>by
  rw[DT];by_cases a:i<8
  ·rw[AC a,AC a,AA A4,AC ⟨A4,.inl A4⟩,Aec d c f (i+1) A4 A4,MQ i A4,FR,Nn];by_cases h9:i+1<8
   ·exact Ajs
   simp_all
  rw[AA a,AA a]
def Aud(d:l.length=8){b:Nat}(a:b<e)(g:e<=8):∀f,8<=e+f->DT f l b e e=DO ((l.drop e).map EM)
 |0,h=>by rw[Cj A4];rfl
 |f+1,h=>by
  rw[DT];by_cases c:e<8
  ·rw[AC c,AA A4,AA A4,Aec d a f (e+1) A4 A4,MQ e A4,FR,Nn];by_cases h9:e+1<8
   ·exact Ajs
   simp_all
  rw[AA c,Cj A4];rfl
def AbG(j:l.length=8){b:Nat}(c:b<e)(g:e<=8):∀f i,8<=i+f->i<=b->DT f l b e i=(if 0<i/\i<b then[58]else[])++DO (((l.take b).drop i).map EM)++58::58::DO ((l.drop e).map EM)
 |0,i,h,hi=>A4
 |f+1,i,h,hi=>by
  rw[DT,AC A4];by_cases k:i=b
  ·subst k;have n:(l.take i).drop i=[]:=Cj Fx;rw[AC ⟨rfl,c⟩,Aud j c g f A4,AA A4,n];rfl
  have o:(l.take b).drop i=pc l i::(l.take b).drop (i+1):=by
   rw[List.drop_take,List.drop_take,MQ i A4,show b-i=(b-(i+1))+1 by omega,List.take_succ_cons]
  rw[AA (λx=>k x.1),AbG j c g f (i+1) A4 A4,o,FR,Nn];have m:((((l.take b).drop (i+1)).map EM)=[])↔¬i+1<b:=by
   rw[List.map_eq_nil_iff,List.drop_eq_nil_iff,Cl];omega
  by_cases d:i+1<b
  ·rw[show(if 0<i+1/\i+1<b then([58]:A5)else[])=[58]from AC ⟨A4,d⟩,AA (λx=>(m.1 x) d)];by_cases a:0<i
   ·rw[show(if 0<i/\(i≠e\/e=b)then([58]:A5)else[])=[58]from AC ⟨a,.inl A4⟩,show(if 0<i/\i<b then([58]:A5)else[])=[58]from AC ⟨a,A4⟩];simp
   rw[show(if 0<i/\(i≠e\/e=b)then([58]:A5)else[])=[]from AA (λx=>a x.1),show(if 0<i/\i<b then([58]:A5)else[])=[]from AA (λx=>a x.1)];simp
  rw[show(if 0<i+1/\i+1<b then([58]:A5)else[])=[]from AA (λx=>d x.2),m.2 d];by_cases a:0<i
  ·rw[show(if 0<i/\(i≠e\/e=b)then([58]:A5)else[])=[58]from AC ⟨a,.inl A4⟩,show(if 0<i/\i<b then([58]:A5)else[])=[58]from AC ⟨a,A4⟩];simp[DO]
  rw[show(if 0<i/\(i≠e\/e=b)then([58]:A5)else[])=[]from AA (λx=>a x.1),show(if 0<i/\i<b then([58]:A5)else[])=[]from AA (λx=>a x.1)];simp[DO]
def Afy(e:l.length=8)(b:Nat):∀f i,8<=i+f->DT f l b b i=(if 0<i/\i<8 then[58]else[])++DO ((l.drop i).map EM)
 |0,i,h=>by rw[AA A4,Cj A4];rfl
 |f+1,i,h=>by
  rw[DT];by_cases c:i<8
  ·rw[AC c,Afy e b f (i+1) A4,MQ i A4,FR,Nn];have g:(((l.drop (i+1)).map EM)=[])↔¬i+1<8:=by simp_all
   by_cases d:i+1<8
   ·simp_all
   rw[show(if 0<i+1/\i+1<8 then([58]:A5)else[])=[]from AA (λx=>d x.2),g.2 d];by_cases a:0<i
   ·rw[show(if 0<i/\(i≠b\/b=b)then([58]:A5)else[])=[58]from AC ⟨a,.inr rfl⟩,show(if 0<i/\i<8 then([58]:A5)else[])=[58]from AC ⟨a,A4⟩];simp[DO]
   rw[show(if 0<i/\(i≠b\/b=b)then([58]:A5)else[])=[]from AA (λx=>a x.1),show(if 0<i/\i<8 then([58]:A5)else[])=[]from AA (λx=>a x.1)];simp[DO]
  rw[AA c,AA (λx=>c x.2),Cj A4];rfl
def AhY(h:Gg l)(a:(Ap l).1<(Ap l).2):Dv l=DO ((l.take (Ap l).1).map EM)++58::58::DO ((l.drop (Ap l).2).map EM):=by
 have:=AbG h.len a (UJ h).2.1 8 0 A4 A4;exact this
def AeN(h:Gg l)(a:¬(Ap l).1<(Ap l).2):Dv l=DO (l.map EM):=by
 have b:(Ap l).2=(Ap l).1:=by have:=(UJ h).1;omega
 have:=Afy h.len (Ap l).1 8 0 A4;unfold Dv;rw[b];exact this
def As7(h:Gg l)(a:(Ap l).1<(Ap l).2):l=l.take (Ap l).1++(List.replicate ((Ap l).2-(Ap l).1) 0++l.drop (Ap l).2):=by
 have⟨h1,h2,h3,h4⟩:=UJ h;rw[<-(h3 a).2];have e:l.take (Ap l).1=(l.take (Ap l).2).take (Ap l).1:=by rw[List.take_take,Q3 A4]
 conv=>lhs;rw[<-F7 (Ap l).2 l,<-F7 (Ap l).1 (l.take (Ap l).2)]
 rw[e,CQ]
def AsL(h:Gg l):Ca (Dv l)=some l:=by
 by_cases a:(Ap l).1<(Ap l).2
 ·have⟨h1,h2,h3,h4⟩:=UJ h;rw[AhY h a,Ams (YA λx hx=>h.lt x (List.mem_of_mem_take hx)) (YA λx hx=>h.lt x (List.mem_of_mem_drop hx)) (by rw[Cl,C7,h.len];omega)];have e:8-(l.take (Ap l).1).length-(l.drop (Ap l).2).length=(Ap l).2-(Ap l).1:=by rw[Cl,C7,h.len];omega
  rw[e,<-As7 h a]
 rw[AeN h a,Atz (YA h.lt) h.len]
def WH(c:UInt8):Prop:=c=58\/∃d,d<16/\c=BJ d
def Si:∀{l:List Nat},∀c∈DO (l.map EM),WH c
 |[],c,h=>C5
 |n::r,c,h=>by
  rw[FR,Nn]at h;rcases BL.1 h with h|h
  ·exact .inr (UL 4 n c h)
  split at h
  ·cases h
  rcases Bn.1 h with h|h
  ·exact .inl h
  exact Si c h
def Aeh(h:Gg l):∀c∈Dv l,WH c:=by
 intro c hc;by_cases a:(Ap l).1<(Ap l).2
 ·rw[AhY h a]at hc;rcases BL.1 hc with hc|hc
  ·exact Si c hc
  rcases Bn.1 hc with hc|hc
  ·exact .inl hc
  rcases Bn.1 hc with hc|hc
  ·exact .inl hc
  exact Si c hc
 rw[AeN h a]at hc;exact Si c hc
def AoE(c:Int)(b:Int)(h:¬AQ c b<0):(AQ c b).toNat<b.toNat:=by
 unfold AQ at h⊢;split
 ·rename_i hb;rw[AC hb]at h;exact absurd AE h
 rename_i hb;rw[AA hb]at h;omega
def AdN(b:Nat):∀(l:A5)(acc n:Nat),Ak b acc l=some n->n<(acc+1)*b^l.length
 |[],acc,n,h=>by cases h;simp
 |c::r,acc,n,h=>by
  rw[Ak]at h;split at h
  ·cases h
  rename_i hd;have h1:=AoE _ _ hd;refine KJ (AdN b r _ n h) ?_;rw[BC,L0,M5 (b^r.length) b,<-Nat.mul_assoc];refine Jx _ ?_;rw[Mq];omega
def Alp{l:A5}(h:DR l=some n):n<65536:=by
 unfold DR at h;split at h
 ·cases h
 rename_i hl;unfold Az at h;split at h
 ·cases h
 have h1:=AdN 16 l 0 n h;have a:(0+1)*16^l.length<=16^4:=by
  rw[Nat.one_mul];exact KP AE A4
 omega
def Ai2{l:A5}(h:Ct l=some n):n<=255:=by
 unfold Ct at h;split at h
 ·cases h
 split at h
 ·cases h
 split at h
 ·cases h
 ·cases h;omega
def AjY:∀(k acc:Nat)(l:A5)(n:Nat),Gl k acc l=some n->n<(acc+1)*256^(k+1)
 |0,acc,l,n,h=>by
  rw[Gl]at h;split at h
  ·cases h
  ·cases hb:Ct (AL 46 l).1 with
   |none=>grind
   |some v=>
    simp_all;cases h;have:=Ai2 hb;omega
 |k+1,acc,l,n,h=>by
  rw[Gl]at h;split at h
  ·split at h
   ·cases h
   rename_i v hb;have h1:=Ai2 hb;refine KJ (AjY k _ _ n h) ?_;rw[L0 256 (k+1),M5 (256^(k+1)) 256,<-Nat.mul_assoc];exact Jx _ A4
  ·cases h
def Al6{a:Bool}(h:DU a nb t=some x):∀n∈x,n<65536:=by
 unfold DU at h;split at h
 ·cases hf:Fk t with
  |none=>rw[hf]at h;cases h
  |some v=>
   rw[hf]at h;cases h;have h1:=AjY 3 0 t v hf;intro n b;simp[Bn,K3,or_false]at b;rcases b with rfl|rfl<;>omega
 ·cases hf:DR t with
  |none=>rw[hf]at h;cases h
  |some v=>
   rw[hf]at h;cases h;intro n b;rw[CO.1 b];exact Alp hf
def Ag9(nb:Bool):∀(f:Nat)(l:A5)(x:List Nat),Ir nb f l=some x->∀n∈x,n<65536
 |0,_,_,h=>(nomatch h)
 |f+1,l,x,h=>by
  rw[Ir]at h;split at h
  ·cases h
  rename_i p hp;split at h
  ·cases hr:Ir nb f (AL 58 l).2.1 with
   |none=>rw[hr]at h;cases h
   |some y=>
    rw[hr]at h;cases h;intro n a;rcases BL.1 a with a|a
    ·exact Al6 hp n a
    exact Ag9 nb f _ y hr n a
  ·cases h;exact Al6 hp
def Yw{l:A5}(h:DK nb l=some x):∀n∈x,n<65536:=by
 unfold DK at h;split at h
 ·cases h
 rename_i y hy;split at h
 ·cases h;unfold Dt at hy;split at hy
  ·cases hy;intro n a;cases a
  exact Ag9 nb _ l x hy
 ·cases h
def AaJ{s:A5}(h:Ca s=some l):Gg l:=by
 unfold Ca at h;split at h
 ·split at h
  ·cases h
  rename_i x hx;split at h
  ·cases h
  rename_i y hy;split at h
  ·cases h;refine⟨B7,λn a=> ?_⟩;rcases BL.1 a with a|a
   ·exact Yw hx n a
   rcases BL.1 a with a|a
   ·rw[List.eq_of_mem_replicate a];decide
   exact Yw hy n a
  ·cases h
 split at h
 ·cases h
 rename_i x hx;split at h
 ·cases h;exact⟨by assumption,Yw hx⟩
 ·cases h
def Wj(e:Ag):Prop:=∃pv,e=.panicked [{v:=.iface 263 pv,recovered:=false}]
def PE(k:IntKind)(w:A7)(o:Option Nat)(e:Ag)(w':A7):Prop:=(match o with|some v=>e=.returned (.int k (v:Int))|none=>Wj e)/\w=w'
def VS{k:IntKind}{o:Option Nat}{a:AJ}(h:o=none):PE k w o (.panicked [{v:=.iface 263 a,recovered:=false}]) w:=by subst h;exact⟨⟨a,rfl⟩,rfl⟩
def AcD{k:IntKind}{o:Option Nat}{n:Int}(h:o=some v)(a:n=(v:Int)):PE k w o (.returned (.int k n)) w:=by subst h;subst a;exact⟨rfl,rfl⟩
def Amk(s:A9)(w:A7)(t:s.size<=1099511627776):AD A8 346 #[.string s] w (PE .u16 w (DR s)):=by
 have a:=AK s;cases hem:s.toList.isEmpty
 ·have p:=H0 (Qu (base:=16) hem);by_cases v:4<s.size
  ·have hno:=A6 (DR s.toList=none) (AC A4);replace a:=H0 a;exact RN
  have l:=A6 (DR s.toList=Ak 16 0 s.toList) (by unfold DR;rw[AA A4,p.out]);replace a:=H0 a;go_in;go_wp2;go_loop[3,17] (λo iv=>∃k acc:Nat,iv=.int .i64 k/\o=.int .i64 acc/\k<=s.size/\acc<=65535/\Hid (acc<16^k)/\Hid (Ak 16 acc (s.toList.drop k)=Ak 16 0 s.toList)) (λ_ i=>s.size-(intOf i).toNat)
  ·exact⟨0,0,rfl,rfl,AR _,AR _,H0 AE,H0 L5⟩
  obtain⟨k,acc,rfl,rfl,r,y,kS,b⟩:=hrel;by_cases f:k<s.size
  ·have m:=Aw s k f;have x:(k:Int)<s.size:=A4;rw[m]at b;clear m;by_cases g:AQ (s[k].toNat:Int) 16<0
   ·have hno:=A6 (DR s.toList=none) (by rw[l.out,<-b.out,Ak,AC (show AQ (s[k].toNat:Int) ((16:Nat):Int)<0 from g)]);go_wp2_with(go_call(GS _ _ _ (Bo _) (Bf _)) as e w'⟨rfl,rfl⟩);exact⟨rfl,VS hno⟩
   have n:=A6 (Ak 16 (acc*16+(AQ (s[k].toNat:Int) ((16:Nat):Int)).toNat) (s.toList.drop (k+1))=Ak 16 0 s.toList) (by rw[<-b.out,Ak,AA (show¬AQ (s[k].toNat:Int) ((16:Nat):Int)<0 from g)]);obtain⟨d,j⟩:∃d:Nat,AQ (s[k].toNat:Int) 16=(d:Int):=⟨(AQ (s[k].toNat:Int) 16).toNat,A4⟩;have z:d<=15:=by
    have:AQ (s[k].toNat:Int) 16<=15:=by unfold AQ;omega
    omega
   have h:=λw=>GS (s[k].toNat:Int) 16 w (Bo _) (Bf _);rw[j]at h g;rw[show AQ (s[k].toNat:Int) ((16:Nat):Int)=(d:Int)from j,Jc]at n;change Hid _ at h j;have iQ:=A6 (acc*16+d<16^(k+1)) V0;have c:acc*16+d<=65535:=by
    exact AeZ
   have A:IntKind.i64.wrap ((acc:Int)*16)=(acc:Int)*16:=BI _ A4;have u:IntKind.i64.wrap ((acc:Int)*16+(d:Int))=(acc:Int)*16+(d:Int):=BI _ A4;go_wp2_with(go_call h;refine AH ?_);go_round;exact⟨k+1,acc*16+d,AP,AP,A4,c,iQ,n⟩;exact AzF
  have q:=A6 (DR s.toList=some acc) (by rw[l.out,<-b.out,CP s k A4];rfl);have hu:IntKind.u16.wrap (acc:Int)=(acc:Int):=by simp[IntKind.wrap,IntKind.bits,IntKind.signed];omega
  clear b;go_wp2;go_ret;exact AcD q rfl
 have hno:=A6 (DR s.toList=none) (by
  have:s.toList=[]:=Q9;rw[this];rfl)
 replace a:=H0 a;exact RN
def ArR(s:A9)(w:A7)(K:s.size<=1099511627776):AD A8 356 #[.string s] w (PE .i64 w (Ct s)):=by
 have a:=AK s
 match hL:s.toList with
 |[]=>
  have m:s.toList.isEmpty=true:=by rw[hL];rfl
  have hno:=A6 (Ct []=none) rfl;change Hid _ at a hL;exact RN
 |c::r=>
  have m:s.toList.isEmpty=false:=by rw[hL];rfl
  have D:0<s.size:=by rw[<-a,hL];simp
  have hc:s[0]=c:=by
   have:=Aw s 0 D;rw[C9,hL]at this;exact(HY this).1.symm
  rw[<-hL];by_cases I:3<s.size
  ·have hno:=A6 (Ct s.toList=none) (AC (.inl A4));have H:3<(s.size:Int):=A4;change Hid _ at a hL;exact RN
  have H:(s.size:Int)<=3:=A4;by_cases f:1<s.size/\c=48
  ·have hno:=A6 (Ct s.toList=none) (AC (.inr ⟨A4,by rw[hL,f.2];rfl⟩));have L:1<(s.size:Int):=A4;have F:((c:Int)==48)=true:=by rw[f.2];rfl
   change Hid _ at a hL;clear f;exact RN
  have B:=Qu (base:=10) m;have x:=A6 (Ct s.toList=match Ak 10 0 s.toList with|none=>none|some n=>if 255<n then none else some n) (by
   unfold Ct;rw[AA (by
    rintro(h|⟨h1,v⟩)
    ·omega
    rw[hL]at v;exact f ⟨A4,Cm v⟩),B]<;>rfl)
  have l:(s.size:Int)<=1\/(1<(s.size:Int)/\((c:Int)==48)=false):=by
   by_cases h1:1<s.size
   ·refine .inr ⟨A4,?_⟩;simp only[B6,ne_eq];intro h;exact f ⟨h1,CM.1 (by show c.toNat=48;omega)⟩
   exact .inl A4
  change Hid _ at a hL B;clear f;rcases l with G|⟨G,g2⟩;all_goals
   go_in;go_wp2;go_loop[3,27] (λE iv=>∃k acc:Nat,iv=.int .i64 k/\E=.int .i64 acc/\k<=s.size/\acc<=999/\Hid (acc<10^k)/\Hid (Ak 10 acc (s.toList.drop k)=Ak 10 0 s.toList)) (λ_ i=>s.size-(intOf i).toNat)
   ·exact⟨0,0,rfl,rfl,AR _,AR _,H0 AE,H0 L5⟩
   obtain⟨k,acc,rfl,rfl,J,O,kS,j⟩:=hrel;by_cases p:k<s.size
   ·have z:=Aw s k p;have N:(k:Int)<s.size:=A4;rw[z]at j;clear z;by_cases q:AQ (s[k].toNat:Int) 10<0
    ·have hno:=A6 (Ct s.toList=none) (by rw[x.out,<-j.out,Ak,AC (show AQ (s[k].toNat:Int) ((10:Nat):Int)<0 from q)]);go_wp2_with(go_call(GS _ _ _ (Bo _) (Bf _)) as e w'⟨rfl,rfl⟩);exact⟨rfl,VS hno⟩
    have A:=A6 (Ak 10 (acc*10+(AQ (s[k].toNat:Int) ((10:Nat):Int)).toNat) (s.toList.drop (k+1))=Ak 10 0 s.toList) (by rw[<-j.out,Ak,AA (show¬AQ (s[k].toNat:Int) ((10:Nat):Int)<0 from q)]);obtain⟨d,u⟩:∃d:Nat,AQ (s[k].toNat:Int) 10=(d:Int):=⟨(AQ (s[k].toNat:Int) 10).toNat,A4⟩;have P:d<=9:=by
     have:AQ (s[k].toNat:Int) 10<=9:=by unfold AQ;omega
     omega
    have t:=λw=>GS (s[k].toNat:Int) 10 w (Bo _) (Bf _);rw[u]at t q;rw[show AQ (s[k].toNat:Int) ((10:Nat):Int)=(d:Int)from u,Jc]at A;change Hid _ at t u;have y:=A6 (acc*10+d<10^(k+1)) V0;have o:acc*10+d<=999:=by
     have h1:=y.out;have v:10^(k+1)<=10^3:=KP AE A4;omega
    have Q:IntKind.i64.wrap ((acc:Int)*10)=(acc:Int)*10:=BI _ A4;have M:IntKind.i64.wrap ((acc:Int)*10+(d:Int))=(acc:Int)*10+(d:Int):=BI _ A4;go_wp2_with(go_call t;refine AH ?_);go_round;exact⟨k+1,acc*10+d,AP,AP,A4,o,y,A⟩;exact AzF
   have C:=A6 (Ct s.toList=if 255<acc then none else some acc) (by rw[x.out,<-j.out,CP s k A4];rfl);clear j;by_cases b:255<acc
   ·have hno:=A6 (Ct s.toList=none) (by rw[C.out,AC b]);go_wp2;exact⟨rfl,VS hno⟩
   have g:=A6 (Ct s.toList=some acc) (by rw[C.out,AA b]);go_wp2;go_ret;exact AcD g rfl
def Aa5{l:A5}(h:Ct l=some n):n<=255:=by
 unfold Ct at h;split at h
 ·cases h
 split at h
 ·cases h
 split at h
 ·cases h
 have:=Cm h;omega
def As0(x:Nat)(h:x<4294967296):bits .and .i64 (x:Int) 65535=((x%65536:Nat):Int):=by
 have:=bits_mask .i64 32 AE (λn a h1=>BI _ A4) 16 AE (x:Int) A4 A4;rw[show((2:Int)^16-1)=65535 by decide]at this;rw[this];omega
def Pr(w:A7)(o:Option Nat)(e:Ag)(w':A7):Prop:=
 (match o with|some v=>e=.returned (.tuple #[.int .u16 ((v/65536:Nat):Int),.int .u16 ((v%65536:Nat):Int)])|none=>Wj e)/\AF w w w'
def Aw7(s:A9)(w:A7)(n:DW w)(E:s.size<=1100000):AD A8 345 #[.string s] w (Pr w (Fk s)):=by
 go_in;go_wp2;go_loopw[0,4,9] (λz u iv wr=>∃(i acc:Nat)(t:A9),iv=.int .i64 i/\u=.int .i64 acc/\z=.string t/\i<=4/\t.size<=s.size/\acc<=4294967295/\Hid (acc<256^i)/\Hid (if i=4 then Fk s.toList=some acc else Fk s.toList=Gl (3-i) acc t)/\AF w w wr) (λ_ _ iv _=>4-(intOf iv).toNat)
 ·exact⟨0,0,s,rfl,rfl,rfl,AE,AG _,AE,H0 AE,H0 rfl,AU _ _⟩
 obtain⟨i,acc,t,rfl,rfl,rfl,H,x,I,l,h,j⟩:=hrel;by_cases G:i<4
 ·have y:(i:Int)<4:=A4;have a:=A6 (Fk s.toList=Gl (3-i) acc t) (by have:=h.out;rw[AA A4]at this;exact this);clear h;have r:=H0 (λw n=>KS t 46 w n A4);have A:=HA 46 t.toList;rw[AK]at A;go_wp2_with fail;go_call(r.out _ (n.next j)) as e w2⟨ta,tb,nd,rfl,h1,h2,rfl⟩;have cF:=Ey j nd;have F:ta.size<=s.size:=V6;have q:tb.size<=s.size:=by rw[<-AK,h2.out];omega
  have p:((i<3/\3-i=(2-i)+1)/\(AL 46 t.toList).2.2=true)\/(i=3/\(AL 46 t.toList).2.2=false)\/(i<3/\(AL 46 t.toList).2.2=false)\/(i=3/\(AL 46 t.toList).2.2=true):=by
   cases(AL 46 t.toList).2.2<;>simp<;>omega
  have j6:=H0 (λw=>ArR ta w A4);rw[h1.out]at j6;generalize b:(AL 46 t.toList).2.2=mo at p⊢;replace b:=H0 b;rcases p with⟨⟨B,g2⟩,rfl⟩|⟨rfl,rfl⟩|⟨B,rfl⟩|⟨rfl,rfl⟩
  ·have k:(i:Int)<3:=A4;rw[g2]at a;cases hv:Ct (AL 46 t.toList).1 with
   |none=>
    have hno:=A6 (Fk s.toList=none) (by rw[a.out,Gl,AC b.out,hv]);exact Afq
   |some v=>
    have d:=Aa5 hv;have g:acc*256+v<256^(i+1):=by have:=l.out;rw[L0];omega
    have f:256^(i+1)<=256^4:=KP AE A4;have c:acc*256+v<=4294967295:=A4;have o:=A6 (Fk s.toList=Gl (3-(i+1)) (acc*256+v) tb.toList) (by
     rw[a.out,Gl,AC b.out,hv,h2.out,show 3-(i+1)=2-i by omega])
    rw[hv]at j6;change Hid _ at hv g;clear f;go_wp2_with fail;go_call j6;refine AH ?_;go_wp2;go_roundw;exact⟨i+1,acc*256+v,tb,AP,AP,rfl,A4,q,c,g,H0 (by rw[AA A4];exact o),cF⟩;exact AzF
  ·rw[show 3-3=0 from rfl]at a;cases hv:Ct (AL 46 t.toList).1 with
   |none=>
    have hno:=A6 (Fk s.toList=none) (by rw[a.out,Gl,AA (by rw[b.out];decide),hv];rfl);exact Afq
   |some v=>
    have d:=Aa5 hv;have g:acc*256+v<256^(3+1):=by have:=l.out;rw[L0];omega
    have c:acc*256+v<=4294967295:=A4;have o:=A6 (Fk s.toList=some (acc*256+v)) (by
     rw[a.out,Gl,AA (by rw[b.out];decide),hv];rfl)
    rw[hv]at j6;change Hid _ at hv g;go_wp2_with fail;go_call j6;refine AH ?_;go_wp2;go_roundw;exact⟨4,acc*256+v,tb,AP,AP,rfl,A4,q,c,g,H0 (by rw[AC rfl];exact o),cF⟩;simp[intOf]
  ·have k:(i:Int)<3:=A4;have hno:=A6 (Fk s.toList=none) (by rw[a.out,show 3-i=(2-i)+1 by omega,Gl,AA (by rw[b.out];decide)]);exact AaX
  have hno:=A6 (Fk s.toList=none) (by rw[a.out,show 3-3=0 from rfl,Gl,AC b.out]);exact AaX
 obtain rfl:i=4:=A4;have D:=A6 (Fk s.toList=some acc) (by have:=h.out;rw[AC rfl]at this;exact this);have b1:=As0 acc A4;have b2:IntKind.u16.wrap (((acc%65536:Nat):Int))=((acc%65536:Nat):Int):=by
  have:acc%65536<65536:=Fw _ AE;simp[IntKind.wrap,IntKind.bits,IntKind.signed]
 have C:=A6 ((acc:Int)/65536=((acc/65536:Nat):Int)) A4;generalize m:acc%65536=md at b1 b2;replace m:=H0 m;clear h l;go_wp2;go_ret2;unfold Pr;rw[D.out];refine⟨?_,j⟩;show _=Ending.returned (.tuple #[.int .u16 ((acc/65536:Nat):Int),.int .u16 ((acc%65536:Nat):Int)]);rw[m.out,<-C.out];rfl
def ArI(p q:Addr)(w:A7):CallsD A8 335 #[.pointer (some p),.pointer (some q)] .returning w λe a w'=>e=.returned (.tuple #[])/\a=.returning/\w'=w:=by
 refine callsD_of_wpS func335 rfl λc₀ cs hu=> ?_;exact Aia
def Ah2{P:Dj}{f:Func}{c₀:Frame}{cs b:List Frame}{R:Ag->FrameMode->A7->Prop}{a:Act}(d:FrameMode)(v:AJ)(i:a.defers=[])(e:b={c₀ with mode:=d}::cs)(h:(results f a.tmps).run P w=.ok v w)(g:R (.returned v) d w):bodyPostS P f c₀ cs R .normal a b w:=⟨i,d,e,v,h,g⟩
def E0:Array AJ:= #[.int .u16 0,.int .u16 0,.int .u16 0,.int .u16 0,.int .u16 0,.int .u16 0,.int .u16 0,.int .u16 0]
def Ro{cs:Array AJ}{t:Ab}(a:w.heap[g]?=some (.cells cs t))(i:Nat)(v:AJ):(w.setCell ⟨g,i,none⟩ v).heap[g]?=some (.cells (cs.setIfInBounds i v) t):=by
 simp only[World.setCell,Js,a];rfl
def Lr{k:Nat}(h:k≠g)(i:Nat)(v:AJ):(w.setCell ⟨g,i,none⟩ v).heap[k]?=w.heap[k]? :=Po w ⟨g,i,none⟩ v k h
def AsN(g g2 B:Nat)(i:AJ)(h:List PanicEntry)(w:A7)(c:Array AJ)(hc:c.size=8)(b:AJ)(f:w.heap[g]?=some (.cells c 30))(k:w.heap[g2]?=some (.cells #[b] 4))(a:g≠g2)(j:B<=g)(n:B<=g2):CallsD A8 335 #[.pointer (some ⟨g,0,none⟩),.pointer (some ⟨g2,0,none⟩)] (.panicking ({v:=.iface 263 i,recovered:=false}::h)) w λe m w'=>e=.returned (.tuple #[])/\m=.panicking ({v:=.iface 263 i,recovered:=true}::h)/\w'.heap[g]?=some (.cells E0 30)/\w'.heap[g2]?=some (.cells #[.bool false] 4)/\AF B w w':=by
 have d:=(setRow_other w g g2 E0 (Jb a)).trans k;have l:=Ia w g c E0 _ _ f;have o:(w.setRow g E0).cell? ⟨g2,0,none⟩=some b:=by simp[World.cell?,d]
 have p:(w.setRow g E0).frozen? ⟨g2,0,none⟩=false:=by simp[World.frozen?,d]
 refine callsD_of_wpS func335 rfl λc₀ cs hu=> ?_;apply wpS_seq;apply wpS_region;simp[wpOpsS,go_sem,recoverD,hu];refine wpS_cond (t:=true) BE ?_;refine wpS_of_wp ?_;go_wp2_with(refine Fb rfl 30 _ _ rfl g E0 rfl rfl 30 c f AO hc AO ?_);refine Ah2 _ _ rfl rfl (by simp[results]) ⟨rfl,rfl,?_,?_,?_⟩
 ·rw[Lr a];exact l
 ·exact Ro d 0 _
 exact(below_setRow (AU _ _) j _).setCell n _
def F5(n:Nat):AJ:=.int .u16 (n:Int)
def Fd(w:A7)(B:Nat)(v:AJ)(l:List Nat):Prop:=w.ownsRow B 29 1 v l.length (l.map F5)
def Fd.nil(w:A7)(B:Nat):Fd w B (.slice none 0 0) []:=KQ _ _ _ _
variable{B:Nat}
def Fd.form{v:AJ}(h:Fd w B v l):∃a c,v=.slice a l.length c:=by
 exact Wh
def Fd.below{K:Nat}{v:AJ}(h:Fd w B v l)(hb:AF K w w')(a:w.heap.size<=K):Fd w' B v l:=by
 exact Sn
def XN:Fs A8 256 29 (.int .u16 0) 2:=.mk' underlying256 AO rfl
def Ahn(w:A7)(a:List AJ)(e:Ab):∀j x,a[j]?=some x->(w.alloc (.cells a.toArray e)).cell? ((⟨w,0,none⟩:Addr).add j)=some x:=by
 intro j x b;have:(w.alloc (.cells a.toArray e)).heap[w.heap.size]?=some (.cells a.toArray e):=CB w _;have e:(⟨w,0,none⟩:Addr).add j=⟨w,j,none⟩:=by unfold Addr.add;split<;>simp_all
 rw[e];simp only[World.cell?];rw[this];simp[b]
variable{ops:Array Oper}{rest:List Oper}{Q:Exit->Act->A7->Prop}
def UT{o:Oper}{a:Act}(e:o.guard=none)(s x:CV)(g:o.op=.call {callee:=.builtin .append,args:= #[s,x],argTypes:= #[256,256]}){W0 w0:A7}{v:AJ}(b:List Nat)(d:a.eval s=v)(hx:a.eval x=.slice (some ⟨w0,0,none⟩) b.length b.length)(hown:Fd w0 B v l)(hbel:AF B W0 w0)(hB:B<=w0.heap.size)(m:l.length<=8)(j:b.length<=8)(h:∀a' c' w',Fd w' B (.slice a' (l.length+b.length) c') (l++b)->AF B W0 w'->Aq A8 ops Q rest (a.put o.dst (.slice a' (l.length+b.length) c')) w'):Aq A8 ops Q (o::rest) a (w0.alloc (.cells (b.map F5).toArray 29)):=by
 have⟨i,hi,hz,hs1,hb1⟩:=XN.i;refine Ig (w0.alloc (.cells (b.map F5).toArray 29)) e s x 256 g B 29 i (.int .u16 0) 1 2 XN.u hi hz hs1 hb1 XN.z AE v l.length (l.map F5) d (hown.alloc _) ⟨w0,0,none⟩ b.length b.length (b.map F5) hx AN
  (Ahn w0 _ _) (by intro y f;obtain⟨n,_,rfl⟩:=EU.1 f;rfl) C1 A4 B7 ?_
 intro c w' hown' aN p;have hO:Fd w' B c (l++b):=by unfold Fd;rw[Aa,Dx];exact hown'
 exact Aii
def Th(w:A7)(o:Option (List Nat))(e:Ag)(w':A7):Prop:=
 (match o with|some x=>∃v,e=.returned v/\Fd w' w v x|none=>Wj e)/\AF w w w'
variable{o:Option (List Nat)}
def Ul{a:AJ}(h:o=none)(b:AF w w w'):Th w o (.panicked [{v:=.iface 263 a,recovered:=false}]) w':=by subst h;exact⟨⟨a,rfl⟩,b⟩
def AbT{v:AJ}(h:o=some x)(a:Fd w' w v x)(b:AF w w w'):Th w o (.returned v) w':=by subst h;exact⟨⟨v,rfl,a⟩,b⟩
def WE:AJ->AJ->Nat| .string s,.bool true=>s.size+1|_,_=>0
def Agi(l:A5)(c:UInt8):l.contains c=decide (0<=Lib.indexByte l c):=by
 exact YD
def Apk(s:A9)(nb:Bool)(w:A7)(p:DW w)(hs:s.size<=1100000):AD A8 336 #[.string s,.bool nb] w (Th w (DK nb s)):=by
 have m8:AF w w w:=AU _ _;have i:=AK s;cases hem:s.toList.isEmpty
 ·have O:s.toList≠[]:=by intro h;rw[h]at hem;cases hem
  have hgo:=H0 (AtF (nb:=nb) O);replace i:=H0 i;clear O;go_in;go_wp2_with fail;go_loopw[0,5,6] (λsv lv mv wr=>∃(t:A9)(P:List Nat)(a:Bool)(f:Nat),sv=.string t/\mv=.bool a/\t.size<=s.size/\Hid (a=true->t.size<f)/\P.length<=8/\Fd wr w lv P/\AF w w wr/\Hid (if a=true then DK nb s.toList=Gw nb f P t else DK nb s.toList=some P)) (λsv _ mv _=>WE sv mv)
  ·exact⟨s,[],true,s.toList.length+1,rfl,rfl,AG _,H0 (λ_=>by rw[i.out];omega),AE,Fd.nil _ _,m8,H0 (by rw[AC rfl];exact hgo)⟩
  obtain⟨t,P,a,f,rfl,rfl,hts,hf,S,q,o,hg⟩:=hrel;clear m8;cases a
  ·have aD:=A6 (DK nb s.toList=some P) (by have:=hg.out;rw[AA AE]at this;exact this);go_wp2_with fail;go_ret;exact AbT aD q o
  have gT:=hf.out rfl;clear hf;obtain⟨f,rfl⟩:∃g,f=g+1:=⟨f-1,A4⟩;have bF:=A6 (DK nb s.toList=Gw nb (f+1) P t) (by have:=hg.out;rw[AC rfl]at this;exact this);clear hg;have fU:=H0 (λw p=>KS t 58 w p A4);have hl:=HA 58 t.toList;rw[AK]at hl;have qJ:=H0 (λh=>Agl (c:=58) (l:=t.toList) h);go_wp2_with fail;refine(fU.out _ (p.next o)).mono ?_;rintro e w2⟨u,H,nd,rfl,h1,h2,hw⟩;have A:AF w w w2:=by rw[hw];exact Ey o nd
  have V:=(show∀v l,Fd wr w v l->Fd w2 w v l fromλv l h=>by rw[hw];exact h) _ _ q;have fD:=A.size;clear hw o q;have wA:u.size<=s.size:=V6;have eD:H.size<=s.size:=by rw[<-AK,h2.out];omega
  have Y:(AL 58 t.toList).2.2=true->H.size<t.size:=λh=>by rw[<-AK,h2.out,<-AK t];exact qJ.out h
  have tI:=H0 (λw=>Amk u w A4);have sP:=H0 (λw p=>Aw7 u w p A4);have Q:=H0 (λw=>Tryz.strings_IndexByte u 46 w);obtain⟨a,K⟩:∃a,(AL 58 t.toList).2.2=a:=⟨_,rfl⟩;rw[K]at Y⊢;have aJ:=H0 (λx hx=>AvZ (nb:=nb) (f:=f) (P:=P) (x:=x) K hx);have dO:=A6 (DU (!a) nb (AL 58 t.toList).1=none->DK nb s.toList=none) (λh=>by rw[bF.out];exact AxS (by rw[K];exact h));have T:∀x,DU (!a) nb (AL 58 t.toList).1=some x->((P++x).length<=8->Hid (if a=true then DK nb s.toList=Gw nb f (P++x) H.toList else DK nb s.toList=some (P++x)))/\(8<(P++x).length->Hid (DK nb s.toList=none)):=λx hx=>by
   rw[bF.out,h2.out];exact aJ.out x hx
  replace T:=H0 T;have E:=A6 (WE (.string H) (.bool a)<WE (.string t) (.bool true)) (by
   cases a
   ·exact Nat.succ_pos _
   exact Nat.succ_lt_succ (Y rfl))
  have hf2:=A6 (a=true->H.size<f) (λh=>by have:=Y h;omega);clear Y hl qJ aJ gT;replace K:=H0 K;by_cases G:(!a)=false\/nb=false\/(AL 58 t.toList).1.contains 46=false
  ·have y:=H0 (Aje G);have r:a=true\/(a=false/\nb=false)\/(a=false/\nb=true/\Hid (∀w,AD A8 47 #[.string u,.int .u8 46] w λe w'=>∃z:Int,e=.returned (.int .i64 z)/\z<0/\w'=w)):=by
    cases a
    ·cases nb
     ·exact .inr (.inl ⟨rfl,rfl⟩)
     refine .inr (.inr ⟨rfl,rfl,H0 (λw=>(Q.out w).mono ?_)⟩);rintro e w'⟨rfl,rfl⟩;refine⟨_,rfl,?_,rfl⟩;have hc:(AL 58 t.toList).1.contains 46=false:=by
      rcases G with h|h|h
      ·cases h
      ·cases h
      exact h
     rw[<-h1.out,Agi,LY,BQ]at hc;have e46:((46:Int).toNat.toUInt8)=46:=rfl;rw[e46];omega
    exact .inl rfl
   clear G Q;cases d:DR (AL 58 t.toList).1 with
   |none=>
    have b:=A6 (DK nb s.toList=none) (dO.out (by rw[y.out,d];rfl));have U:=A6 (∀w,AD A8 346 #[.string u] w (PE .u16 w none)) (λw=>by have:=tI.out w;rw[h1.out,d]at this;exact this);replace d:=H0 d;rcases r with rfl|⟨rfl,rfl⟩|⟨rfl,rfl,B⟩;all_goals
     go_wp2_with(first|(go_at_call 47;refine(B.out _).mono ?_;rintro e w'⟨z,rfl,J,rfl⟩));refine(U.out _).mono ?_;rintro e I⟨⟨pv,rfl⟩,rfl⟩;exact⟨rfl,Ul b A⟩
   |some v=>
    obtain⟨F,j⟩:=T.out [v] (by rw[y.out,d];rfl);have U:=A6 (∀w,AD A8 346 #[.string u] w (PE .u16 w (some v))) (λw=>by have:=tI.out w;rw[h1.out,d]at this;exact this);replace d:=H0 d;have C:(P++[v]).length=P.length+1:=AN;rw[C]at F j;change Hid _ at C F j;by_cases M:P.length+1<=8
    ·rcases r with rfl|⟨rfl,rfl⟩|⟨rfl,rfl,B⟩;all_goals
      go_wp2_with(first|(go_at_call 47;refine(B.out _).mono ?_;rintro e w'⟨z,rfl,J,rfl⟩));refine(U.out _).mono (AH ?_);go_wp2_with(at_builtin;refine UT rfl _ _ rfl [v] rfl rfl V A fD S (by show 1<=8;decide) ?_;intro a' c' w4 N k);go_roundw
      ·exact⟨H,P++[v],_,f,rfl,rfl,eD,by first|exact H0 (λ_=>hf2.out trivial)|exact H0 (λh=>C5),by rw[C.out];exact M,N,k,F.out M⟩
      exact E
    have b:=A6 (DK nb s.toList=none) (j.out A4).out;rcases r with rfl|⟨rfl,rfl⟩|⟨rfl,rfl,B⟩;all_goals
     go_wp2_with(first|(go_at_call 47;refine(B.out _).mono ?_;rintro e w'⟨z,rfl,J,rfl⟩));refine(U.out _).mono (AH ?_);go_wp2_with(at_builtin;refine UT rfl _ _ rfl [v] rfl rfl V A fD S (by show 1<=8;decide) ?_;intro a' c' w4 N k);exact⟨rfl,Ul b k⟩
  have oN:a=false/\nb=true/\(AL 58 t.toList).1.contains 46=true:=by
   cases a
   ·cases nb
    ·exact absurd (.inr (.inl rfl)) G
    refine⟨rfl,rfl,?_⟩;cases h:(AL 58 t.toList).1.contains 46
    ·exact absurd (.inr (.inr h)) G
    rfl
   exact absurd (.inl rfl) G
  clear G;obtain⟨rfl,rfl,hc⟩:=oN;have y:=H0 (Aml hc);have B:=A6 (∀w,AD A8 47 #[.string u,.int .u8 46] w λe w'=>∃z:Int,e=.returned (.int .i64 z)/\0<=z/\w'=w) (λw=>(Q.out w).mono (by
   rintro e w'⟨rfl,rfl⟩;refine⟨_,rfl,?_,rfl⟩;rw[<-h1.out,Agi,JY,BQ]at hc;exact hc))
  replace hc:=H0 hc;clear Q tI;cases d:Fk (AL 58 t.toList).1 with
  |none=>
   have b:=A6 (DK true s.toList=none) (dO.out (by show DU true true _=none;rw[y.out,d];rfl));have Z:=A6 (∀w,DW w->AD A8 345 #[.string u] w (Pr w none)) (λw p=>by have:=sP.out w p;rw[h1.out,d]at this;exact this);replace d:=H0 d;go_wp2_with(go_at_call 47;refine(B.out _).mono ?_;rintro e w'⟨z,rfl,J,rfl⟩);refine(Z.out _ (p.next A)).mono ?_;rintro e I⟨⟨pv,rfl⟩,m⟩;exact⟨rfl,Ul b (A.next m)⟩
  |some v=>
   obtain⟨F,j⟩:=T.out [v/65536,v%65536] (by show DU true true _=_;rw[y.out,d];rfl);have Z:=A6 (∀w,DW w->AD A8 345 #[.string u] w (Pr w (some v))) (λw p=>by have:=sP.out w p;rw[h1.out,d]at this;exact this);replace d:=H0 d;have C:(P++[v/65536,v%65536]).length=P.length+2:=AN;rw[C]at F j;replace C:=H0 C;obtain⟨X,vO⟩:=AI (v/65536);obtain⟨R,sR⟩:=AI (v%65536);have D:=A6 (∀w,DW w->AD A8 345 #[.string u] w λe w'=>e=.returned (.tuple #[.int .u16 (X:Int),.int .u16 (R:Int)])/\AF w w w') (λw p=>by subst vO sR;exact Z.out w p);rw[vO,sR]at F C;change Hid _ at F j vO sR;have W:w.heap.size<=w2.heap.size:=fD;by_cases M:P.length+2<=8
   ·go_wp2_with(go_at_call 47;refine(B.out _).mono ?_;rintro e w'⟨z,rfl,J,rfl⟩);refine(D.out _ (p.next A)).mono ?_;rintro e I⟨rfl,m⟩;have L:=A.next m;have n:=V.below m (AG _);have W:=L.size;go_wp2_with(at_builtin;refine UT rfl _ _ rfl [X,R] rfl rfl n L W S (by show 2<=8;decide) ?_;intro a' c' w4 N k);go_roundw;exact⟨H,P++[X,R],_,f,rfl,rfl,eD,H0 (λh=>C5),by rw[C.out];exact M,N,k,F.out M⟩;exact E
   have b:=A6 (DK true s.toList=none) (j.out A4).out;go_wp2_with(go_at_call 47;refine(B.out _).mono ?_;rintro e w'⟨z,rfl,J,rfl⟩);refine(D.out _ (p.next A)).mono ?_;rintro e I⟨rfl,m⟩;have L:=A.next m;have n:=V.below m (AG _);have W:=L.size;go_wp2_with(at_builtin;refine UT rfl _ _ rfl [X,R] rfl rfl n L W S (by show 2<=8;decide) ?_;intro a' c' w4 N k);exact⟨rfl,Ul b k⟩
 have b:=A6 (DK nb s.toList=some []) (by
  have:s.toList=[]:=Q9;rw[this];rfl)
 replace i:=H0 i;go_in;go_wp2_with fail;go_ret;exact AbT b (Fd.nil _ _) m8
def AhH{f:Func}{p q:Tmp}{d e:Ab}(h:f.results= #[.cell p d,.cell q e])(c:Array AJ)(P:Dj)(w:A7):(results f c).run P w=((asAddr (c.getD p undef)).run P w).andThen λa w₁=>((loadVar d a).run P w₁).andThen λv w₂=>((asAddr (c.getD q undef)).run P w₂).andThen λb w₃=>((loadVar e b).run P w₃).andThen λu w₄=> .ok (.tuple #[v,u]) w₄:=by
 simp only[results,h];simp[Sem.run_bind]
variable{g2:Nat}{c:Array AJ}
def AfY{a:Array AJ}{b:Bool}(f:a.getD 2 undef=.pointer (some ⟨g,0,none⟩))(e:a.getD 3 undef=.pointer (some ⟨g2,0,none⟩))(j:w.heap[g]?=some (.cells c 30))(hc:c.size=8)(k:w.heap[g2]?=some (.cells #[.bool b] 4)):(results Tryz.f326 a).run A8 w=.ok (.tuple #[.agg c,.bool b]) w:=by
 have d:w.cell? ⟨g2,0,none⟩=some (.bool b):=by simp[World.cell?,k]
 have i:(loadVar 4 ⟨g2,0,none⟩).run A8 w=.ok (.bool b) w:=by simp[go_sem,d]
 have h:=K8 w g 30 30 c _ _ j underlying30 rfl (by rw[hc];kernel_rfl);rw[AhH rfl,f,e];simp[asAddr,h,i]
def U0(g g2:Nat):List Deferred:=[{target:=.fn (.func 335) #[.pointer (some ⟨g,0,none⟩),.pointer (some ⟨g2,0,none⟩)],args:= #[]}]
variable{R:Ag->A7->Prop}
def Asp{a:Array AJ}{b:Bool}(h:a.getD 2 undef=.pointer (some ⟨g,0,none⟩))(d:a.getD 3 undef=.pointer (some ⟨g2,0,none⟩))(j:w.heap[g]?=some (.cells c 30))(hc:c.size=8)(k:w.heap[g2]?=some (.cells #[.bool b] 4))(i:R (.returned (.tuple #[.agg c,.bool b])) w):Leaves A8 Tryz.f326 a R (U0 g g2) .returning w:=by
 refine leaves_cons (f:=335) (args:= #[.pointer (some ⟨g,0,none⟩),.pointer (some ⟨g2,0,none⟩)]) AN (by simp[go_sem]) ?_;refine(ArI ⟨g,0,none⟩ ⟨g2,0,none⟩ w).mono ?_;rintro e l w'⟨rfl,rfl,rfl⟩;exact⟨_,AfY h d j hc k,i⟩
def AmU{a:Array AJ}{b h:AJ}(q:a.getD 2 undef=.pointer (some ⟨g,0,none⟩))(i:a.getD 3 undef=.pointer (some ⟨g2,0,none⟩))(o:w.heap[g]?=some (.cells c 30))(hc:c.size=8)(k:w.heap[g2]?=some (.cells #[b] 4))(d:g≠g2)(j:B<=g)(p:B<=g2)(m:∀w',AF B w w'->R (.returned (.tuple #[.agg E0,.bool false])) w'):Leaves A8 Tryz.f326 a R (U0 g g2) (.panicking [{v:=.iface 263 h,recovered:=false}]) w:=by
 refine leaves_cons (f:=335) (args:= #[.pointer (some ⟨g,0,none⟩),.pointer (some ⟨g2,0,none⟩)]) AN (by simp[go_sem]) ?_;refine(AsN g g2 B h [] w c hc b o k d j p).mono ?_;rintro e s w'⟨rfl,rfl,l,r,n⟩;exact⟨_,AfY q i l rfl r,m _ n⟩
def Pc(w:A7)(o:Option (List Nat))(e:Ag)(w':A7):Prop:=
 e=.returned (.tuple #[MA (o.getD [0,0,0,0,0,0,0,0]),.bool o.isSome])/\AF w w w'
def Z5(h:o=none)(a:AF w w w'):Pc w o (.returned (.tuple #[.agg E0,.bool false])) w':=by subst h;exact⟨rfl,a⟩
def X6(h:o=some l)(a:AF w w w'):Pc w o (.returned (.tuple #[.agg (By l),.bool true])) w':=by subst h;exact⟨rfl,a⟩
structure I7(w wx:A7)(c:Array AJ):Prop where
 below:AF w w wx
 size:w.heap.size+2<=wx.heap.size
 a:wx.heap[w.heap.size]?=some (.cells c 30)
 b:wx.heap[w.heap.size+1]?=some (.cells #[.bool false] 4)
variable{wx:A7}
def I7.next{d:A7}(h:I7 w wx c)(hb:AF wx wx d):I7 w d c:=
 ⟨h.below.next hb,Ks,(hb.block _ Q2).trans h.a,(hb.block _ Q2).trans h.b⟩
def I7.start(w:A7):I7 w ((w.alloc (.cells E0 30)).alloc (.cells #[.bool false] 4)) E0:=
 ⟨(Ah _ _).alloc AN _,AN,by rw[Na _ _ AN,CB],heap_alloc2_new w _ _⟩
def I7.panic{d:Array AJ}{s:A5}{j:AJ}(h:I7 w wx c)(hc:c.size=8)(e:Ca s=none)(g:d.getD 2 undef=.pointer (some ⟨w,0,none⟩))(f:d.getD 3 undef=.pointer (some ⟨w.heap.size+1,0,none⟩)):Leaves A8 Tryz.f326 d (Pc w (Ca s)) (U0 w (w.heap.size+1)) (.panicking [{v:=.iface 263 j,recovered:=false}]) wx:=
 AmU g f h.a hc h.b A4 (AG _) A4 (λw' i=>Z5 e (h.below.trans i))
def I7.setRow(h:I7 w wx c)(d:Array AJ):I7 w (wx.setRow w d) d:=
 ⟨below_setRow h.below (AG _) _,by have:=h.size;simpa using this,Ia _ _ _ _ _ _ h.a,(setRow_other _ _ _ _ A4).trans h.b⟩
def I7.cellb(h:I7 w wx c):wx.cell? ⟨w.heap.size+1,0,none⟩=some (.bool false)/\wx.frozen? ⟨w.heap.size+1,0,none⟩=false:=by
 constructor
 ·simp[World.cell?,h.b]
 simp[World.frozen?,h.b]
def I7.done{d:Array AJ}{b:Bool}(h:I7 w wx c)(hc:c.size=8)(f:d.getD 2 undef=.pointer (some ⟨w,0,none⟩))(e:d.getD 3 undef=.pointer (some ⟨w.heap.size+1,0,none⟩))(g:∀w',AF w w w'->R (.returned (.tuple #[.agg c,.bool b])) w'):Leaves A8 Tryz.f326 d R (U0 w (w.heap.size+1)) .returning (wx.setCell ⟨w.heap.size+1,0,none⟩ (.bool b)):=
 Asp f e ((Lr A4 0 _).trans h.a) hc ((Ro h.b 0 (.bool b))) (g _ (h.below.setCell AN _))
def SG{P:Dj}{o:Oper}{a:Act}(u:o.guard=none)(d s:CV)(f sT:Ab)(y:o.op=.call {callee:=.builtin .copy,args:= #[d,s],argTypes:= #[f,sT]})(c:Ab)(hu:P.underlying f=some (.slice c))(A:(P.info? c).map (·.size)=some 1)(m p:Option Addr)(l n i q:Nat)(x:a.eval d=.slice m l n)(r:a.eval s=.slice p i q)(g off:Nat)(b:Array AJ)(t:Ab)(z:w.heap[g]?=some (.cells b t (0,0)))(cs:List AJ)(D:Array AJ)(F:D=(splice b off cs).toArray)(H:cs.length=Nat.min i l)(C:0<cs.length->m=some ⟨g,off,none⟩/\∃k,p=some k/\∀j v,cs[j]?=some v->w.cell? (k.add j)=some v)(B:off+cs.length<=b.size)(h1:∀v∈cs,v.oneCell'=true)(h:Aq P ops Q rest (a.put o.dst (goInt cs.length)) (w.setRow g D)):Aq P ops Q (o::rest) a w:=by
 subst F;by_cases G:cs.length=0
 ·obtain rfl:=EP G;refine wpList_copy_nothing u d s f sT y c hu A m p l n i q x r A4 ?_;have e:(splice b off ([]:List AJ)).toArray=b:=by simp[splice]
  rw[e,setRow_self w g b t (0,0) z]at h;exact h
 obtain⟨rfl,k,rfl,E⟩:=C A4;exact wpList_copy_own u d s f sT y c hu A g off l n k i q x r b t z cs H E B h1 h
def Fd.src{a:Option Addr}{c:Nat}(h:Fd w B (.slice a n c) x)(i:0<x.length):∃b,a=some b/\∀j v,(x.map F5)[j]?=some v->w.cell? (b.add j)=some v:=by
 rcases h.2 with⟨_,m⟩|⟨g,f,e,d,l,k,_⟩
 ·omega
 obtain⟨rfl,_,_⟩:=Value.slice.inj d;exact⟨_,rfl,World.ownsRow.cells h rfl⟩
def Aw1(l:A5):(D4 l).1.length<=l.length/\(D4 l).2.1.length<=l.length:=by
 unfold D4 Lib.cut;split
 ·exact⟨by show(List.take _ l).length<=_;rw[Cl];omega,by show(List.drop _ l).length<=_;rw[C7];omega⟩
 simp_all
def AkH{l:A5}(h:DK nb l=some x):x.length<=8:=by
 unfold DK at h;split at h
 ·cases h
 split at h
 ·cases h;assumption
 ·cases h
def PD(w:A7)(b:DW w)(a:s.size<=1100000)(h:DK nb s.toList=o):AD A8 336 #[.string s,.bool nb] w (Th w o):=h▸Apk s nb w b a
def Awg(s:A9)(w:A7)(hm:DW w)(hs:s.size<=1100000):AD A8 326 #[.string s] w (Pc w (Ca s)):=by
 have oW:=I7.start w;have hm0:=hm.next oW.below;obtain⟨m,aY⟩:=hm0;have hcut:=H0 (Tryz.strings_Cut s ⟨#[58,58]⟩ m _ A4 aY);clear aY;go_enter_defers func326,ntmps326;go_wp2_with fail;refine hcut.out.mono ?_;rintro e w3⟨rfl,nd,hw⟩;have hW:=oW.next (show AF _ _ w3 from hw▸Ey (AU _ _) nd);clear hcut oW hw;have hC:Lib.cut s.data.toList [58,58]=D4 s.toList:=Sj;rw[hC];obtain⟨P,wO⟩:∃x:A9,(⟨(D4 s).1.toArray⟩:A9)=x:=⟨_,rfl⟩;obtain⟨S,oS⟩:∃x:A9,(⟨(D4 s).2.1.toArray⟩:A9)=x:=⟨_,rfl⟩;obtain⟨R,W⟩:∃x,(D4 s).2.2=x:=⟨_,rfl⟩;rw[wO,oS,W];have Y:P.toList=(D4 s).1:=by rw[<-wO];exact toList_mk _
 have J:S.toList=(D4 s).2.1:=by rw[<-oS];exact toList_mk _
 have l:=Aw1 s;have wD:P.size<=1100000:=by rw[<-AK,Y];rw[AK]at l;omega
 have M:S.size<=1100000:=by rw[<-AK,J];rw[AK]at l;omega
 have K:Ca s.toList=if R=true then(match DK false P with
  |none=>none
  |some x=>match DK true S with
   |none=>none
   |some y=>if x.length+y.length<8 then some (x++(List.replicate (8-x.length-y.length) 0++y))else none)
  else match DK true s with|none=>none|some x=>if x.length=8 then some x else none:=by
  rw[Y,J,<-W];rfl
 replace K:=H0 K;clear l Y J wO oS hC;replace W:=H0 W;have p:=hm.next hW.below;cases R
 ·cases hv:DK true s with
  |none=>
   have hno:=A6 (Ca s.toList=none) (by rw[K.out,AA AE,hv]);have aH:=H0 (PD _ p hs hv);exact Agg
  |some x=>
   have aH:=H0 (PD _ p hs hv);have N:=A6 (Ca s.toList=if x.length=8 then some x else none) (by rw[K.out,AA AE,hv]);replace hv:=H0 hv;go_wp2_with fail;refine aH.out.mono ?_;rintro e w4⟨⟨v,rfl,L⟩,hb⟩;obtain⟨V,X,rfl⟩:=L.form;have z:=hW.next hb;clear hb;by_cases b:x.length=8
   ·have d:=A6 (Ca s.toList=some x) (by rw[N.out,AC b]);have C:((x.length:Int)!=8)=false:=by rw[b];rfl
    replace b:=H0 b;obtain⟨D,B⟩:∃D,D=(splice E0 0 (x.map F5)).toArray:=⟨_,rfl⟩;have f:=A6 (D=By x) (by
     rw[B];have e:splice E0 0 (x.map F5)=x.map F5:=by
      unfold splice;rw[J5,Do,Cj (by rw[Bz,b.out];decide),Bq]
     rw[e];rfl)
    have A:D.size=8:=by rw[f.out];simp[By,b.out]
    have G:=A6 ((A8.info? 30).map (·.size)=some D.size) (by rw[A];kernel_rfl);have U:=A6 (D.all (·.oneCell')=true) (by rw[f.out];simp[By,Value.oneCell']);have u:=z.setRow D;have i:=u.setRow D;obtain⟨y0,f2⟩:=i.cellb;change Hid _ at B A;go_wp2_with(first|(refine SG rfl _ _ 256 256 rfl 29 underlying256 AO (some ⟨w,0,none⟩) V 8 8 x.length X rfl rfl w 0 E0 30 z.a (x.map F5) D B (by rw[Bz,b.out];rfl) (λh0=>⟨rfl,L.src OB⟩) (by rw[Bz,b.out];decide) TR ?_)|(refine Cg rfl 30 _ rfl w rfl 30 D _ _ u.a underlying30 rfl G ?_)|(refine Fb rfl 30 _ _ rfl w D rfl rfl 30 _ u.a G rfl U ?_));exact i.done A rfl rfl (λw' hb=>f.out▸X6 d hb)
   have hno:=A6 (Ca s.toList=none) (by rw[N.out,AA b]);have C:((x.length:Int)!=8)=true:=by simp only[JO,ne_eq];omega
   have o:=z.setRow E0;obtain⟨y0,f2⟩:=o.cellb;replace b:=H0 b;go_wp2_with(refine Fb rfl 30 _ _ rfl w E0 rfl rfl 30 _ z.a AO rfl AO ?_);exact o.done rfl rfl rfl (λw' hb=>Z5 hno hb)
 have I:Hid (Ca s.toList=match DK false P with
  |none=>none
  |some x=>match DK true S with
   |none=>none
   |some y=>if x.length+y.length<8 then some (x++(List.replicate (8-x.length-y.length) 0++y))else none):=H0 (by rw[K.out,AC rfl])
 clear K;cases hv:DK false P with
 |none=>
  have hno:=A6 (Ca s.toList=none) (by rw[I.out,hv]);have aH:=H0 (PD _ p wD hv);exact Agg
 |some x=>
  have aH:=H0 (PD _ p wD hv);have O:x.length<=8:=AkH hv;go_wp2_with fail;refine aH.out.mono ?_;rintro e w4⟨⟨v,rfl,L⟩,hb⟩;obtain⟨V,X,rfl⟩:=L.form;have z:=hW.next hb;have m3:=p.next hb;clear hb aH;cases hu:DK true S with
  |none=>
   have hno:=A6 (Ca s.toList=none) (by rw[I.out,hv];dsimp only;rw[hu]);have aH:=H0 (PD _ m3 M hu);change Hid _ at hv hu;go_wp2_with fail;refine aH.out.mono ?_;rintro e w5⟨⟨pv,rfl⟩,hb⟩;exact(z.next hb).panic rfl hno rfl rfl
  |some y=>
   have aH:=H0 (PD _ m3 M hu);have hy8:y.length<=8:=AkH hu;have N:=A6 (Ca s.toList=if x.length+y.length<8 then some (x++(List.replicate (8-x.length-y.length) 0++y))else none) (by rw[I.out,hv];dsimp only;rw[hu]);change Hid _ at hv hu;go_wp2_with fail;refine aH.out.mono ?_;rintro e w5⟨⟨v,rfl,Q⟩,hb⟩;obtain⟨ya,yc,rfl⟩:=Q.form;have lX:=L.below hb (AG _);have u:=z.next hb;have h24:=z.size;clear hb L;by_cases b:x.length+y.length<8
   ·have d:=A6 (Ca s.toList=some (x++(List.replicate (8-x.length-y.length) 0++y))) (by rw[N.out,AC b]);have C:(x.length:Int)+y.length<8:=A4;obtain⟨k,hk⟩:∃k,y.length+k=8:=⟨8-y.length,A4⟩;have jZ:8-(y.length:Int)=k:=A4;have nC:(k:Int)<=8:=A4;obtain⟨D,B⟩:∃D,D=(splice E0 0 (x.map F5)).toArray:=⟨_,rfl⟩;have f:=A6 (D=(x.map F5++List.replicate (8-x.length) (F5 0)).toArray) (by
     rw[B];have e:splice E0 0 (x.map F5)=x.map F5++List.replicate (8-x.length) (F5 0):=by
      unfold splice;rw[J5,Do,Db,Bz];congr 1;have:E0.toList=List.replicate 8 (F5 0):=rfl;rw[this,List.drop_replicate]
     rw[e])
    have A:D.size=8:=by rw[f.out];simp;omega
    obtain⟨E,T⟩:∃E,E=(splice D k (y.map F5)).toArray:=⟨_,rfl⟩;have q:=A6 (E=By (x++(List.replicate (8-x.length-y.length) 0++y))) (by
     rw[T];have e:splice D k (y.map F5)=(x++(List.replicate (8-x.length-y.length) 0++y)).map F5:=by
      unfold splice;rw[Cj (by rw[Of,A,Bz];omega),Bq,f.out];rw[List.take_append,Bz,Bc (by rw[Bz];omega),List.take_replicate,Dx,Dx,List.map_replicate,CQ];congr 3;omega
     rw[e];rfl)
    have r:E.size=8:=by rw[q.out];simp[By];omega
    have G:=A6 ((A8.info? 30).map (·.size)=some E.size) (by rw[r];kernel_rfl);have U:=A6 (E.all (·.oneCell')=true) (by rw[q.out];simp[By,Value.oneCell']);have i:=u.setRow D;have j:=i.setRow E;have F:=j.setRow E;obtain⟨y0,f2⟩:=F.cellb;have H:=@A6 (∀{a:Option Addr}{c:Nat},Fd w5 w4 (.slice a y.length c) y->Fd (w5.setRow w D) w4.heap.size (.slice a y.length c) y) (λh=>by
     refine⟨h.1,?_⟩;rcases h.2 with hn|⟨g,cap,cur,hv,hg,hh,rest⟩
     ·exact .inl hn
     exact .inr ⟨g,cap,cur,hv,hg,by rw[setRow_other _ _ _ _ A4];exact hh,rest⟩)
    have jX:=H.out Q;change Hid _ at B T A r;have t:=H0 hk;clear hk;by_cases hk8:k=8
    ·subst hk8;obtain rfl:y=[]:=EP (by have:=t.out;omega);have t:=0;go_wp2_with(first|(refine SG rfl (.tmp 40) (.tmp 41) 256 256 rfl 29 underlying256 AO (some ⟨w,0,none⟩) V 8 8 x.length X rfl rfl w 0 E0 30 u.a (x.map F5) D B (by rw[Bz];exact(Q3 O).symm) (λh0=>⟨rfl,lX.src OB⟩) (by rw[Bz];show 0+x.length<=8;omega) TR ?_)|(refine SG rfl (.tmp 46) (.tmp 47) 256 256 rfl 29 underlying256 AO _ _ _ _ _ _ rfl rfl w 8 D 30 i.a [] E T (by first|rfl|simp) (λh0=>absurd h0 AE) (by rw[A.out];decide) (by intro v hv;cases hv) ?_)|(refine Cg rfl 30 _ rfl w rfl 30 E _ _ j.a underlying30 rfl G ?_)|(refine Fb rfl 30 _ _ rfl w E rfl rfl 30 _ j.a G rfl U ?_));exact F.done r rfl rfl (λw' hb=>q.out▸X6 d hb)
    have hk8I:(k:Int)<8:=A4;have Z:=A6 ((y.map F5).length=Nat.min y.length (8-k)) (by rw[Bz];have:=t.out;exact(Q3 A4).symm);go_wp2_with(first|(refine SG rfl (.tmp 40) (.tmp 41) 256 256 rfl 29 underlying256 AO (some ⟨w,0,none⟩) V 8 8 x.length X rfl rfl w 0 E0 30 u.a (x.map F5) D B (by rw[Bz];exact(Q3 O).symm) (λh0=>⟨rfl,lX.src OB⟩) (by rw[Bz];show 0+x.length<=8;omega) TR ?_)|(refine SG rfl (.tmp 46) (.tmp 47) 256 256 rfl 29 underlying256 AO (some ⟨w,k,none⟩) ya (8-k) (8-k) y.length yc rfl rfl w k D 30 i.a (y.map F5) E T Z (λh0=>⟨rfl,jX.src OB⟩) (by rw[Bz,A.out];have:=t.out;omega) TR ?_)|(refine Cg rfl 30 _ rfl w rfl 30 E _ _ j.a underlying30 rfl G ?_)|(refine Fb rfl 30 _ _ rfl w E rfl rfl 30 _ j.a G rfl U ?_));exact F.done r rfl rfl (λw' hb=>q.out▸X6 d hb)
   have hno:=A6 (Ca s.toList=none) (by rw[N.out,AA b]);have C:8<=(x.length:Int)+y.length:=A4;have o:=u.setRow E0;obtain⟨y0,f2⟩:=o.cellb;go_wp2_with(refine Fb rfl 30 _ _ rfl w E0 rfl rfl 30 _ u.a AO rfl AO ?_);exact o.done rfl rfl rfl (λw' hb=>Z5 hno hb)
def Py{o:Oper}{a:Act}(c:o.guard=none)(x:CV)(d:o.op=.load 30 x)(b:l.length=8)(e:w.heap[g]?=some (.cells (By l) 30))(hx:a.eval x=.pointer (some ⟨g,0,none⟩))(h:Aq A8 ops Q rest (a.put o.dst (.agg (By l))) w):Aq A8 ops Q (o::rest) a w:=
 Cg c 30 x d g hx 30 (By l) _ _ e underlying30 rfl (by rw[show(By l).size=8 by simp[By,b]];kernel_rfl) h
def Yk{o:Obj}(h:w.heap[g]?=some o)(a:AF w w w'):w'.heap[g]?=some o:=(a.block g (En.1 h).1).trans h
def Asj{o p:Obj}(h:w.heap[g]?=some o):(w.alloc p).heap[g]?=some o:=Yk h (Ah _ _)
def Ed:List Nat:=[0,0,0,0,0,0,0,0]
end Go.Proofs.YtonomfeipkdmhaaGreatDoor
