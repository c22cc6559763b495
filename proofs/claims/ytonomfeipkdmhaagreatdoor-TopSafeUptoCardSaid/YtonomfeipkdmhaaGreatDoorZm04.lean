/- Lemmas. -/
import Derived.Test.YtonomfeipkdmhaaGreatDoorZm01
import Derived.Test.YtonomfeipkdmhaaGreatDoorZm02
import Derived.KernelRfl
import Derived.Lib.Join
set_option linter.all false
set_option maxRecDepth 100000
set_option maxHeartbeats 16000000
namespace Go.Proofs.YtonomfeipkdmhaaGreatDoor
open Go renaming wpList->Aq,maxLen->BK,Operand->CV,World->A7,Calls->AD,Value->AJ,Ending->Ag
open Go.RowKit renaming Below->AF
open Go.RowKit Go.Proofs.Tryz
open Go.Proofs.Tryz renaming prog->A8
def FS(c:UInt8):Bool:=CE (c:Int)||decide (0<=AQ (c:Int) 10)||c.toNat==43||c.toNat==45||c.toNat==46
def Ef:A5->Bool
 |[]=>false|c::r=>CE (c:Int)&&r.all FS
def AtG(s:A9)(h:0<s.size):Ef s.toList=(CE (s[0].toNat:Int)&&(s.toList.drop 1).all FS):=by
 have:=Aw s 0 h;rw[C9]at this;rw[this];rfl
def AbK(c:UInt8):(CE (c:Int)=true/\FS c=true)\/(CE (c:Int)=false/\((0<=AQ (c:Int) 10/\FS c=true)\/(AQ (c:Int) 10<0/\((((c:Int)!=43)=false/\FS c=true)\/(((c:Int)!=43)=true/\((((c:Int)!=45)=false/\FS c=true)\/(((c:Int)!=45)=true/\((((c:Int)!=46)=false/\FS c=true)\/(((c:Int)!=46)=true/\FS c=false))))))))):=by
 unfold FS;cases CE (c:Int)
 ·refine .inr ⟨rfl,?_⟩;by_cases d:0<=AQ (c:Int) 10
  ·grind
  refine .inr ⟨A4,?_⟩;by_cases h1:c.toNat=43
  ·grind
  refine .inr ⟨B7,?_⟩;by_cases b:c.toNat=45
  ·grind
  refine .inr ⟨B7,?_⟩;by_cases a:c.toNat=46
  ·grind
  grind
 simp
def Abv(s:A9)(w:A7)(u:s.size<=1099511627776):AD A8 88 #[.string s] w (AzJ (.bool (Ef s)) w):=by
  by_cases f:0<s.size
  · have g:s.toList.isEmpty=false:=by rw[FZ s f];rfl
    have b:=H0 (AtG s f);have b1:=Bf s[0];cases hl:CE (s[0].toNat:Int)
    · go_in
      go_wp2_with(go_call LG;refine AH ?_);go_ret;exact⟨Ci (by rw[b.out,hl];rfl),rfl⟩
    · go_in
      go_wp2_with(go_call LG;refine AH ?_);go_loop[3] (λi=>∃k:Nat,i=.int .i64 k/\1<=k/\k<=s.size/\Hid ((s.toList.drop k).all FS=(s.toList.drop 1).all FS)) (λi=>s.size-(intOf i).toNat)
      ·exact⟨1,rfl,AG _,f,rfl⟩
      obtain⟨k,rfl,r,t,h⟩:=hrel;by_cases d:k<s.size
      · have v:=Bo s[k]
        have c1:=Bf s[k];have c:=H0 (Aw s k d);have j:(k:Int)<s.size:=A4;rcases AbK s[k]with⟨p,a⟩|⟨p,⟨m,a⟩|⟨m,⟨q,a⟩|⟨q,⟨n,a⟩|⟨n,⟨o,a⟩|⟨o,a⟩⟩⟩⟩⟩;all_goals
          have l:=H0 a;clear a;go_wp2_with(first|(go_call LG;refine AH ?_)|(go_call GS;refine AH ?_));first
            |(go_ret;exact⟨Ci (by rw[b.out,<-h.out,c.out,Hh,l.out];simp),rfl⟩)
            | (go_round
               ·exact⟨k+1,AP,A4,A4,H0 (by rw[<-h.out,c.out,Hh,l.out];simp)⟩
               simp[intOf];omega)
      · have c:=H0 (CP s k A4)
        go_wp2;go_ret;exact⟨Ci (by rw[b.out,<-h.out,c.out,hl];rfl),rfl⟩
  · have g:s.toList.isEmpty=true:=Sb
    have b:=A6 (Ef s.toList=false) Sb;go_in;go_wp2;go_ret;exact⟨Ci b.out.symm,rfl⟩
structure F9 where
 hs:Bool
 sch:A5
 rest:A5
 hq:Bool
 qry:A5
 hf:Bool
 frg:A5
deriving DecidableEq
def Cq(l:A5):F9:=
 let f:=AL 35 l
 let q:=AL 63 f.1
 let s:=AL 58 q.1
 if s.2.2&&Ef s.1 then⟨true,BH s.1,s.2.1,q.2.2,q.2.1,f.2.2,f.2.1⟩else⟨false,[],q.1,q.2.2,q.2.1,f.2.2,f.2.1⟩
def X9(w:A7)(p:F9)(e:Ag)(w':A7):Prop:=
 ∃a b c d:A9,e=.returned (.agg #[.bool p.hs,.string a,.string b,.bool p.hq,.string c,.bool p.hf,.string d])/\
  Hid (a.toList=p.sch)/\Hid (b.toList=p.rest)/\Hid (c.toList=p.qry)/\Hid (d.toList=p.frg)/\AF w w w'
def Ud{c:UInt8}{s a b:A9}(d:a.toList=(AL c s).1)(e:b.toList=(AL c s).2.1):a.size+b.size<=s.size:=by
 have:=HA c s;rwa[<-d,<-e,AK,AK,AK]at this
def Abs(s:A9)(w:A7)(f:DW w)(k:s.size<4294967281):AD A8 37 #[.string s] w (X9 w (Cq s)):=by
 go_in;go_wp2_with fail;go_call(KS _ 35 _ (by exact(f.alloc _).alloc _) k) as e w1⟨f1,f2,n1,rfl,hf1,hf2,rfl⟩;have m:=Ud hf1 hf2;have c:f1.size<4294967281:=A4;generalize hfb0:(AL 35 s.toList).2.2=fb;have i:=H0 hfb0;clear hfb0;go_wp2_with fail;go_call(KS _ 63 _ (by exact((f.alloc _).alloc _).drewN _) c) as e w1⟨q1,q2,n2,rfl,hq1,hq2,rfl⟩;have o:=Ud hq1 hq2;have l:q1.size<4294967281:=A4;generalize hqb0:(AL 63 f1.toList).2.2=qb;have g:=H0 hqb0;clear hqb0;go_wp2_with fail;go_call(KS _ 58 _ (by exact((f.alloc _).alloc _).drewN _) l) as e w1⟨s1,s2,n3,rfl,hs1',hs2',rfl⟩;have z3:=Ud hs1' hs2';have n:s1.size<=1099511627776:=A4;generalize hsb0:(AL 58 q1.toList).2.2=sb;have j:=H0 hsb0;clear hsb0;have b:(sb&&Ef s1)=false->Cq s.toList=⟨false,[],q1.toList,qb,q2.toList,fb,f2.toList⟩:=by
  intro h;unfold Cq;simp only[<-hf1.out,<-hf2.out,i.out,<-hq1.out,<-hq2.out,g.out,<-hs1'.out,<-hs2'.out,j.out,h,if_false,RQ]
 have a:(sb&&Ef s1)=true->Cq s.toList=⟨true,BH s1,s2.toList,qb,q2.toList,fb,f2.toList⟩:=by
  intro h;unfold Cq;simp only[<-hf1.out,<-hf2.out,i.out,<-hq1.out,<-hq2.out,g.out,<-hs1'.out,<-hs2'.out,j.out,h,if_true]
 change Hid _ at b a;cases sb
 ·go_wp2;refine IC (v:=.agg #[.bool false,.string ⟨#[]⟩,.string q1,.bool qb,.string q2,.bool fb,.string f2]) WR rfl ?_;rw[b.out rfl];exact Ajb
 ·cases hnm:Ef s1
  ·go_wp2_with(go_call Abv;refine AH ?_);refine IC (v:=.agg #[.bool false,.string ⟨#[]⟩,.string q1,.bool qb,.string q2,.bool fb,.string f2]) WR rfl ?_;rw[b.out (by rw[hnm];rfl)];exact Ajb
  go_wp2_with(go_call Abv;refine AH ?_);go_call NM as e w2⟨t,rfl,ht,hb⟩;obtain⟨E,d,rfl⟩:=hb.ext;clear hb;go_wp2;refine IC (v:=.agg #[.bool true,.string t,.string s2,.bool qb,.string q2,.bool fb,.string f2]) WR rfl ?_;rw[a.out (by rw[hnm];rfl)];exact AlI
def EQ(l:A5):A5:=HM (JC l)
def Ru(l:A5):(JC l).length<=l.length:=by
 unfold JC Bm DI;have h1:(l.dropWhile λc=>Em (c.toNat:Int)).length<=l.length:=(K2 _).length_le;have a:=(K2 (λc:UInt8=>Em (c.toNat:Int)) (l:=(l.dropWhile λc=>Em (c.toNat:Int)).reverse)).length_le;simp at a⊢;omega
def Aif(s:A9)(w:A7)(b:s.size<=1099511627776):AD A8 38 #[.string s] w (Bi w (EQ s)):=by
 go_in;go_wp2_with fail;go_call Atw as e w1⟨t,rfl,ht,hb⟩;have a:=Ru s;rw[<-ht.out,AK,AK]at a;go_wp2_with fail;go_call Apv as e w2⟨u,rfl,hu,hb2⟩;go_wp2;go_ret;exact Be (hu.out.trans (congrArg HM ht)) (hb.next hb2)
def ApJ(s:A9)(w:A7)(b:s.size<=1099511627776):AD A8 64 #[.string s] w (Bi w (EQ s)):=by
 go_in;go_wp2_with fail;go_call Aoj as e w1⟨t,rfl,ht,hb⟩;have a:=Ru s;rw[<-ht.out,AK,AK]at a;go_wp2_with fail;go_call AxW as e w2⟨u,rfl,hu,hb2⟩;go_wp2;go_ret;exact Be (hu.out.trans (congrArg HM ht)) (hb.next hb2)
def HE(c:UInt8)(l:A5):Nat:=(AL c l).1.length
def AxA(c:UInt8)(l:A5):HE c l<=l.length:=by have:=HA c l;unfold HE;omega
def Zx(c d:UInt8)(r:A5):HE c (d::r)=if d=c then 0 else HE c r+1:=by
 unfold HE;rw[AL];split<;>simp
def Auo(c:UInt8)(l:A5):(AL c l).2.2=decide (HE c l<l.length)/\(AL c l).1=l.take (HE c l)/\((AL c l).2.2=true->(AL c l).2.1=l.drop (HE c l+1)):=by
 induction l with
 |nil=>exact⟨rfl,rfl,λh=>C5⟩
 |cons d r ih=>
  rw[Zx,AL];by_cases h:d=c
  ·simp[h]
  simp only[h];have⟨h1,h2,h3⟩:=ih;refine⟨by rw[h1];simp,by rw[h2];simp,λh=>by rw[h3 h];simp⟩
def AfF{a b:UInt8}(h:a=b):((a:Int)==(b:Int))=true:=by simp[h]
def Al8{a b:UInt8}(h:¬a=b):((a:Int)==(b:Int))=false:=by
 simp[B6];intro e;exact h (CM.1 A4)
def W9(s:A9)(c:UInt8)(f:Int)(h:f=(c:Int))(w:A7)(l:s.size<=1099511627776):AD A8 113 #[.string s,.int .u8 f] w (AzJ (.int .i64 (HE c s.toList:Int)) w):=by
 go_in;go_wp2;go_loop[5] (λi=>∃k:Nat,i=.int .i64 k/\k<=s.size/\Hid (k+HE c (s.toList.drop k)=HE c s)) (λi=>s.size-(intOf i).toNat)
 ·exact⟨0,rfl,AR _,H0 AN⟩
 obtain⟨k,rfl,j,a⟩:=hrel;by_cases b:k<s.size
 ·have d:=H0 (Aw s k b);by_cases hc:s[k]=c
  ·have g:=AfF hc;go_wp2;go_ret;exact⟨Mt (by rw[<-a.out,d.out,Zx,AC hc];simp),rfl⟩
  have g:=Al8 hc;go_wp2;go_round;exact⟨k+1,AP,A4,H0 (by rw[<-a.out,d.out,Zx,AA hc];omega)⟩;exact AzF
 have aD:=A6 (HE c s.toList=s.size) (by rw[<-a.out,CP s k A4];simp[HE,AL];omega);exact VN
def AlU(s:A9)(w:A7)(y:s.size<=1099511627776):AD A8 114 #[.string s] w (AzJ (.bool (Ef s)) w):=by
  go_in;go_wp2;go_loop[3] (λi=>∃k:Nat,i=.int .i64 k/\k<=s.size/\Hid (k=0\/0<k/\((s.toList.drop k).all FS)=Ef s)) (λi=>s.size-(intOf i).toNat)
  ·exact⟨0,rfl,AR _,H0 (Or.inl rfl)⟩
  obtain⟨k,rfl,x,g⟩:=hrel;by_cases j:k<s.size
  · have z:=Bo s[k]
    have c1:=Bf s[k];have d:=H0 (Aw s k j);have m:(k:Int)<s.size:=A4;by_cases a:k=0
    · have u:((k:Int)==0)=true:=by simp[a]
      have f:=A6 (Ef s.toList=(CE (s[k].toNat:Int)&&(s.toList.drop (k+1)).all FS)) (by
        subst a;have:=d.out;rw[C9]at this;rw[this];rfl)
      replace a:=H0 a;cases hl:CE (s[k].toNat:Int)
      · go_wp2_with(first|(go_call Ol;refine AH ?_)|(go_call Eh;refine AH ?_))
        go_ret;exact⟨Ci (by rw[f.out,hl];rfl),rfl⟩
      · go_wp2_with(first|(go_call Ol;refine AH ?_)|(go_call Eh;refine AH ?_))
        go_round;exact⟨k+1,AP,A4,H0 (Or.inr ⟨A4,by rw[f.out,hl];rfl⟩)⟩;exact AzF
    · have u:((k:Int)==0)=false:=B6.2 A4
      have c:=A6 (((s.toList.drop k).all FS)=Ef s) (by
        rcases g.out with h|h
        · exact absurd h a
        · exact h.2)
      clear g;replace a:=H0 a;rcases AbK s[k]with⟨t,b⟩|⟨t,⟨o,b⟩|⟨o,⟨v,b⟩|⟨v,⟨q,b⟩|⟨q,⟨r,b⟩|⟨r,b⟩⟩⟩⟩⟩;all_goals
        have n:=H0 b;clear b;go_wp2_with(first|(go_call Ol;refine AH ?_)|(go_call Eh;refine AH ?_));first
          |(go_ret;exact⟨Ci (by rw[<-c.out,d.out,Hh,n.out];simp),rfl⟩)
          | (go_round
             ·exact⟨k+1,AP,A4,H0 (Or.inr ⟨A4,by rw[<-c.out,d.out,Hh,n.out];simp⟩)⟩
             simp[intOf];omega)
  · have d:=H0 (CP s k A4)
    by_cases p:0<s.size
    · have l:(!s.toList.isEmpty)=true:=by rw[FZ s p];rfl
      have aD:=A6 (Ef s.toList=true) (by
        rcases g.out with h|h
        · omega
        · rw[<-h.2,d.out];rfl)
      clear g;go_wp2;go_ret;exact⟨Ci LP,rfl⟩
    · have l:(!s.toList.isEmpty)=false:=Sb
      have aD:=A6 (Ef s.toList=false) Sb;clear g;go_wp2;go_ret;exact⟨Ci LP,rfl⟩
def ZJ(c:UInt8)(s:A9){n:Nat}(b:HE c s.toList=n):(n<s.size/\(s.extract 0 n).toList=(AL c s).1/\(s.extract (n+1) s.size).toList=(AL c s).2.1/\(AL c s).2.2=true)\/(n=s.size/\s.toList=(AL c s).1/\[]=(AL c s).2.1/\(AL c s).2.2=false):=by
 have⟨h1,h2,h3⟩:=Auo c s;have a:=AxA c s;rw[b,AK]at h1 a;rw[b]at h2 h3;by_cases h:n<s.size
 ·rw[Bx h]at h1;refine .inl ⟨h,?_,?_,h1⟩
  ·rw[toList_extract,h2];rfl
  rw[toList_extract,h3 h1,Fh _ _ (AG _)]
 grind[Uq]
def Agb(s b l a i j m:A9)(d e n:Bool)(k:b.toList=(AL 35 s.toList).1)(h:l.toList=(AL 35 s.toList).2.1)(q:(AL 35 s.toList).2.2=d)(f:a.toList=(AL 63 b.toList).1)(g:i.toList=(AL 63 b.toList).2.1)(o:(AL 63 b.toList).2.2=e)(c:j.toList=(AL 58 a.toList).1)(p:m.toList=(AL 58 a.toList).2.1)(r:(AL 58 a.toList).2.2=n):Cq s.toList=if n&&Ef j then⟨true,BH j,m.toList,e,i.toList,d,l.toList⟩else⟨false,[],a.toList,e,i.toList,d,l.toList⟩:=by
 unfold Cq;simp[<-k,<-h,q,<-f,<-g,o,<-c,<-p,r]
def Azw(s:A9)(w:A7)(B:s.size<=1099511627776):AD A8 63 #[.string s] w (X9 w (Cq s)):=by
 go_in;have b:=ZJ 35 s rfl;generalize hn1:HE 35 s.toList=i at b;change Hid _ at hn1 b;go_wp2_with fail;refine(W9 s 35 35 rfl _ A4).mono (AH ?_);rw[hn1.out];go_upto_if 10 with(fail);go_cut[0] (λp wx=>∃(c g:A9)(f:Bool),p=.string c/\c.size<=s.size/\Hid (c.toList=(AL 35 s.toList).1)/\Hid (g.toList=(AL 35 s.toList).2.1)/\Hid ((AL 35 s.toList).2.2=f)/\wx=(w.alloc (.cells #[.bool false,.string ⟨#[]⟩,.string ⟨#[]⟩,.bool false,.string ⟨#[]⟩,.bool false,.string ⟨#[]⟩] 72)).alloc (.cells #[.bool false,.string ⟨#[]⟩,.string ⟨#[]⟩,.bool false,.string ⟨#[]⟩,.bool f,.string g] 72))
 ·rcases b.out with⟨h1,h2,h3,h4⟩|⟨h1,h2,h3,h4⟩
  ·exact Aj3
  have r:(s.size:Int)<=i:=A4;exact AgJ
 case' rest=>
  obtain⟨c,g,f,rfl,u,o,n,y,rfl⟩:=hcut;clear b hn1
 have b:=ZJ 63 c rfl;generalize hn1:HE 63 c.toList=i at b;change Hid _ at hn1 b;go_wp2_with fail;refine(W9 c 63 63 rfl _ A4).mono (AH ?_);rw[hn1.out];go_upto_if 25 with(fail);go_cut[0] (λp wx=>∃(a j:A9)(h:Bool),p=.string a/\a.size<=c.size/\Hid (a.toList=(AL 63 c.toList).1)/\Hid (j.toList=(AL 63 c.toList).2.1)/\Hid ((AL 63 c.toList).2.2=h)/\wx=(w.alloc (.cells #[.bool false,.string ⟨#[]⟩,.string ⟨#[]⟩,.bool false,.string ⟨#[]⟩,.bool false,.string ⟨#[]⟩] 72)).alloc (.cells #[.bool false,.string ⟨#[]⟩,.string ⟨#[]⟩,.bool h,.string j,.bool f,.string g] 72))
 ·rcases b.out with⟨h1,h2,h3,h4⟩|⟨h1,h2,h3,h4⟩
  ·exact Aj3
  have r:(c.size:Int)<=i:=A4;exact AgJ
 case' rest=>
  obtain⟨a,j,h,rfl,A,l,m,q,rfl⟩:=hcut;clear b hn1
 have b:=ZJ 58 a rfl;generalize hn1:HE 58 a.toList=i at b;change Hid _ at hn1 b;go_wp2_with fail;refine(W9 a 58 58 rfl _ A4).mono (AH ?_);rw[hn1.out];rcases b.out with⟨h1,h2,h3,h4⟩|⟨h1,h2,h3,h4⟩
 ·have hx:=H0 (Agb s c g a j _ _ f h true o n y l m q h2 h3 h4);have k:(a.extract 0 i).size<=1099511627776:=Aj6;clear h2 h3 h4 b;cases hnm:Ef (a.extract 0 i).toList
  ·go_wp2_with(go_at_call 114;refine(AlU _ _ k).mono (AH ?_));refine IC (v:=.agg #[.bool false,.string ⟨#[]⟩,.string a,.bool h,.string j,.bool f,.string g]) Y7 rfl ?_;rw[hx.out,hnm];exact⟨_,_,_,_,rfl,toList_mk [],rfl,rfl,rfl,(Ah _ _).alloc AN _⟩
  go_wp2_with(go_at_call 114;refine(AlU _ _ k).mono (AH ?_));refine(O1 _ _ k).mono ?_;rintro e C⟨t,rfl,ht,z⟩;obtain⟨E,d,rfl⟩:=z.ext;clear z;go_wp2_with fail;refine IC (v:=.agg #[.bool true,.string t,.string (a.extract (i+1) a.size),.bool h,.string j,.bool f,.string g]) Y7 rfl ?_;rw[hx.out,hnm];exact AlI
 have r:(a.size:Int)<=i:=A4;have hx:=H0 (Agb s c g a j a ⟨#[]⟩ f h false o n y l m q h2 ((toList_mk []).trans h3) h4);replace h1:=H0 h1;clear h2 h3 h4 b;go_wp2_with fail;refine IC (v:=.agg #[.bool false,.string ⟨#[]⟩,.string a,.bool h,.string j,.bool f,.string g]) Y7 rfl ?_;rw[hx.out];exact⟨_,_,_,_,rfl,toList_mk [],rfl,rfl,rfl,(Ah _ _).alloc AN _⟩
def Lm:List (A5×A5):=[([97,109,112],[38]),([65,77,80],[38]),([108,116],[60]),([76,84],[60]),([103,116],[62]),([71,84],[62]),([113,117,111,116],[34]),([81,85,79,84],[34]),([110,98,115,112],[194,160]),([115,104,121],[194,173]),([110,111,116],[194,172]),([114,101,103],[194,174]),([99,111,112,121],[194,169]),([112,97,114,97],[194,182]),([115,101,99,116],[194,167]),([121,101,110],[194,165]),([100,101,103],[194,176]),([116,105,109,101,115],[195,151]),([101,97,99,117,116,101],[195,169]),([111,117,109,108],[195,182]),([115,122,108,105,103],[195,159])]
def Ij:List (A5×A5):=[([97,112,111,115],[0x27]),([99,111,108,111,110],[0x3a]),([115,111,108],[0x2f]),([98,115,111,108],[0x5c]),([113,117,101,115,116],[0x3f]),([110,117,109],[0x23]),([112,101,114,99,110,116],[0x25]),([99,111,109,109,97,116],[0x40]),([101,113,117,97,108,115],[0x3d]),([112,108,117,115],[0x2b]),([99,111,109,109,97],[0x2c]),([112,101,114,105,111,100],[0x2e]),([115,101,109,105],[0x3b]),([101,120,99,108],[0x21]),([100,111,108,108,97,114],[0x24]),([97,115,116],[0x2a]),([108,111,119,98,97,114],[0x5f]),([103,114,97,118,101],[0x60]),([72,97,116],[0x5e]),([108,112,97,114],[0x28]),([114,112,97,114],[0x29]),([108,115,113,98],[0x5b]),([114,115,113,98],[0x5d]),([108,99,117,98],[0x7b]),([114,99,117,98],[0x7d]),([118,101,114,98,97,114],[0x7c]),([84,97,98],[9]),([78,101,119,76,105,110,101],[10])]
def Kb:List (A5×A5):=[([110,111,116,105,110],[226,136,137]),([110,118,108,116],[60,226,131,146]),([110,118,103,116],[62,226,131,146]),([122,119,110,106],[226,128,140]),([122,119,106],[226,128,141]),([90,101,114,111,87,105,100,116,104,83,112,97,99,101],[226,128,139]),([78,111,66,114,101,97,107],[226,129,160]),([102,106,108,105,103],[102,106]),([99,111,112,121,115,114],[226,132,151]),([116,105,109,101,115,98,97,114],[226,168,177])]
def I0(t:List (A5×A5))(s:A5):Option (A5):=(t.find? λp=>p.1==s).map (·.2)
def Nz(s:A5):Option (A5):=I0 Lm s
def JU(s:A5):Option (A5):=match I0 Ij s with|some b=>some b|none=>I0 Kb s
def Ji(s:A5):Option (A5):=
 if Lib.hasSuffix s [59]=true then(match Nz s.dropLast with|some t=>some t|none=>JU s.dropLast)else Nz s
def S3:List Nat:=[0x20ac,0x81,0x201a,0x192,0x201e,0x2026,0x2020,0x2021,0x2c6,0x2030,0x160,0x2039,0x152,0x8d,0x17d,0x8f,0x90,0x2018,0x2019,0x201c,0x201d,0x2022,0x2013,0x2014,0x2dc,0x2122,0x161,0x203a,0x153,0x9d,0x17e,0x178]
def Je(n:Nat):Nat:=if 0x80<=n/\n<=0x9f then S3.getD (n-0x80) 0 else n
def It(n:Nat):A5:=if n=0 then An 0xfffd else An (Je n)
def DD(base:Nat):Nat->A5->Nat×Nat
 |n,[]=>(n,0)|n,c::r=>if AQ (c:Int) (base:Int)<0 then(n,0)else((DD base (min (n*base+(AQ (c:Int) (base:Int)).toNat) 0x110000) r).1,(DD base (min (n*base+(AQ (c:Int) (base:Int)).toNat) 0x110000) r).2+1)
def isX:A5->Bool
 |_::_::c::_=>c==120||c==88
 |_=>false
def Gf(s:A5):Nat:=if isX s=true then 16 else 10
def E4(s:A5):Nat:=if isX s=true then 3 else 2
def HW(s:A5):A5×Nat:=
 let r:=DD (Gf s) 0 (s.drop (E4 s))
 if r.2=0 then([38],1)
 else(It r.1,if(s.drop (E4 s+r.2)).head?=some 59 then E4 s+r.2+1 else E4 s+r.2)
def QC(c:UInt8):Bool:=CE (c:Int)||decide (0<=AQ (c:Int) 10)||c==61
def JA(s:A5):Nat->A5×Nat
 |0=>([38],1)
 |n+1=>match Ji ((s.drop 1).take (n+1))with
  |none=>JA s n|some t=>if(s.getD (n+1) 0 !=59&&decide (n+2<s.length)&&QC (s.getD (n+2) 0))=true then([38],1)else(t,n+2)
def GD(s:A5):A5×Nat:=if Lib.hasPrefix s [38,35]=true then HW s else JA s (min 15 (s.length-1))
def K9:Nat->A5->A5
 |0,_=>[]|f+1,l=>if(AL 38 l).2.2=true then(AL 38 l).1++((GD (38::(AL 38 l).2.1)).1++K9 f ((38::(AL 38 l).2.1).drop (GD (38::(AL 38 l).2.1)).2))else l
def Lk(l:A5):A5:=K9 (l.length+1) l
def Gi(c:UInt8):A5:=if c=38 then[38,97,109,112,59]else if c=34 then[38,35,51,52,59]else if c=39 then[38,35,51,57,59]else if c=60 then[38,35,54,48,59]else if c=62 then[38,35,54,50,59]else if c=96 then[38,35,57,54,59]else[c]
def C8(l:A5):A5:=l.flatMap Gi
def Af1(c:UInt8):1<=(Gi c).length/\(Gi c).length<=5:=by
 unfold Gi;repeat' split
 all_goals simp
def Qd(l:A5):l.length<=(C8 l).length/\(C8 l).length<=5*l.length:=by
 induction l with
 |nil=>exact⟨AG _,AG _⟩
 |cons c r ih=>
  have:=Af1 c;show _<=(Gi c++C8 r).length/\(Gi c++C8 r).length<=_;exact WQ
def Ae(c lo hi:Nat):Bool:=decide (lo<=c)&&decide (c<=hi)
def Gv(c:Nat):A5:=
 if(Ae c 0x41 0x5a||Ae c 0xc0 0xd6||Ae c 0xd8 0xde||Ae c 0x391 0x3a1||Ae c 0x3a3 0x3a9||Ae c 0x410 0x42f)=true then An (c+0x20)
 else if(Ae c 0x100 0x12e&&c%2==0)=true then An (c+1)
 else if c=0x130 then[105,204,135]
 else if Ae c 0x400 0x40f=true then An (c+0x50)
 else if c=0x2024\/c=0x3002\/c=0xff61 then[46]
 else if c=0x2100 then[97,47,99]
 else if c=0x2105 then[99,47,111]
 else if Ae c 0x2460 0x2468=true then An (c-0x2460+49)
 else if Ae c 0xff01 0xff5e=true then An (if Ae (c-0xfee0) 65 90=true then c-0xfee0+0x20 else c-0xfee0)
 else if Ae c 0x1d7ce 0x1d7ff=true then An (48+(c-0x1d7ce)%10)
 else[]
def M8(c:Nat):Bool:=c==0xad||c==0x200b||c==0x2060||c==0xfeff
def Nb:List (Nat×Nat):=[(0,0x7f),(0xdf,0xf6),(0xf8,0xff),(0x101,0x12f),(0x300,0x36f),(0x3b1,0x3c9),(0x430,0x45f),(0x3041,0x3096),(0x30a1,0x30fa),(0x4e00,0x9fff),(0xac00,0xd7a3),(0x1f300,0x1f5ff)]
def IY(c:Nat):Bool:=Nb.any λr=>Ae c r.1 r.2
def DY(c:Nat):A5×Nat:=
 if Gv c≠[]then(Gv c,2)else if M8 c=true then([],3)else if IY c=true then(An c,1)else([],0)
def HP(c:Nat):Bool:=decide ((DY c).2=1)&&decide (c≠46)
def Hg:List Nat->Bool
 |[]=>false|c::r=> !Ae c 0x300 0x36f&&(c::r).all HP&&(c::r).any λc=>decide (0x7f<c)
def FP:A5:=[120,110,45,45]
def CG(l:A5):Option (A5):=
 if Lib.hasPrefix l FP=true then(if EA l=true then(match GZ (l.drop 4)with|some m=>if Hg m=true then some l else none|none=>none)else none)
 else if EA l=true then some l
 else if Hg (EY l)=true then(match GX (EY l)with|some t=>some (FP++t)|none=>none)else none
def EI:List Nat->Option (A5)
 |[]=>some []|c::r=>if(DY c).2=0 then none else(EI r).map ((DY c).1++ ·)
def Cc:List (A5)->Option (List (A5))
 |[]=>some []
 |l::r=>match CG l with|none=>none|some t=>(Cc r).map (t:: ·)
def F8:List (A5)->A5
 |[]=>[]|[t]=>t|t::u::r=>t++46::F8 (u::r)
def FL(s:A5):Option (A5):=match EI (EY s)with|none=>none|some t=>(Cc (Al 46 t)).map F8
def Gu(c:UInt8):Bool:=decide (c.toNat<128)&& !(decide (65<=c.toNat)&&decide (c.toNat<=90))
def Ao4:∀n:UInt8,Gu n=true->DY n.toNat=([n],1):=DZ AX
def Anh{c:UInt8}(h:Gu c=true):DY c.toNat=([c],1):=Ao4 c h
def Zd:∀{l:A5},(∀c∈l,Gu c=true)->EI (l.map (·.toNat))=some l
 |[],_=>rfl
 |c::r,h=>by
  rw[FR,EI,Anh (h c (CC ..)),Zd (λx hx=>h x (Cr _ hx))];rfl
variable{l:A5}
theorem Un(h:∀c∈l,Gu c=true):EA l=true:=by
 unfold EA;rw[Et];intro c hc;have:=h c hc;unfold Gu at this;rw[C0]at this;exact this.1
def Ap8(l:A5):F8 (Al 46 l)=l:=by
 induction l with
 |nil=>rfl
 |cons d r ih=>
  rw[Lw];cases hs:Al 46 r with
  |nil=>exact absurd hs (Ik 46 r)
  |cons a q=>
   rw[hs]at ih;by_cases h:d=46
   ·rw[AC h,F8,ih,h];rfl
   rw[AA h];cases q with
   |nil=>show d::a=d::r;rw[show a=r from ih]|cons b q=>show d::a++46::F8 (b::q)=d::r;rw[<-ih];rfl
def RB:∀{t:A5},(46:UInt8) ∉ t->Al 46 t=[t]
 |[],_=>rfl
 |c::r,h=>by
  rw[Lw,AA (λe=>h (by rw[e];exact CC ..)),RB (λa=>h (Cr _ a))];rfl
def Aic:∀{a:List (A5)},a≠[]->(∀l∈a,(46:UInt8) ∉ l)->Al 46 (F8 a)=a
 |[],h,_=>absurd rfl h|[t],_,h=>RB (h t (CC ..))
 |t::u::r,_,h=>by
  show Al 46 (t++46::F8 (u::r))=_;rw[P3,Aic AN (λl b=>h l (Cr _ b)),RB (h t (CC ..))];rfl
def AeT:∀{a:List (A5)}{c:UInt8},c∈F8 a->c=46\/∃l∈a,c∈l
 |[],c,h=>(nomatch h)|[t],c,h=> .inr ⟨t,CC ..,h⟩
 |t::u::r,c,h=>by
  rcases BL.1 h with h|h
  ·exact .inr ⟨t,CC ..,h⟩
  rcases Bn.1 h with h|h
  ·exact .inl h
  rcases AeT h with h|⟨l,b,h⟩
  ·exact .inl h
  exact .inr ⟨l,Cr _ b,h⟩
theorem Ny:∀(l:A5),∀t∈Al 46 l,∀c∈t,c∈l/\c≠46
 |[],t,b,c,hc=>by
  rw[show Al 46 []=[[]]from rfl,CO]at b;grind
 |d::r,t,b,c,hc=>by
  have e:=Ny r;rw[Lw]at b;cases hs:Al 46 r with
  |nil=>grind
  |cons a q=>
   rw[hs]at b e;by_cases h:d=46
   ·rw[AC h]at b;rcases Bn.1 b with rfl|b
    ·cases hc
    grind
   rw[AA h]at b;rcases Bn.1 b with rfl|b
   ·rcases Bn.1 hc with rfl|hc
    ·grind
    grind
   grind
def Nm(c:Nat)(h:Ae c 65 90=false):∀x∈An c,Ae x.toNat 65 90=false:=by
 intro x hx;unfold An at hx;split at hx
 ·unfold Dc at hx;simp[Bn,K3,or_false]at hx;rcases hx with rfl|rfl|rfl<;>rfl
 rename_i hv;by_cases f:c<128
 ·have e:Jj (c:Int)=[UInt8.ofNat c]:=by
   have d:∀n:Fin 128,Jj (n.val:Int)=[UInt8.ofNat n.val]:=AX;exact d ⟨c,f⟩
  rw[e,CO]at hx;rw[hx,LC,JV A4];exact h
 have j:∀x∈Jj (c:Int),128<=x.toNat:=by
  intro x hx;unfold Jj Utf8.encode at hx;have i:Utf8.valid (c:Int)=true\/Utf8.valid (c:Int)=false:=by cases Utf8.valid (c:Int)<;>simp
  simp only[Jc]at hx;have d:∀(n:Nat),128<=n->n<=1114111->∀x∈(if n<128 then(⟨#[UInt8.ofNat n]⟩:A9)else if n<2048 then⟨#[UInt8.ofNat (192+n/64),UInt8.ofNat (128+n%64)]⟩else if n<65536 then⟨#[UInt8.ofNat (224+n/4096),UInt8.ofNat (128+n/64%64),UInt8.ofNat (128+n%64)]⟩else⟨#[UInt8.ofNat (240+n/262144),UInt8.ofNat (128+n/4096%64),UInt8.ofNat (128+n/64%64),UInt8.ofNat (128+n%64)]⟩).data.toList,128<=x.toNat:=by
   intro n h1 k x hx;have of:∀m,128<=m->m<256->128<=(UInt8.ofNat m).toNat:=λm a b=>by rw[LC,JV A4];exact a
   rw[AA A4]at hx;split at hx
   ·exact NZ
   split at hx
   ·exact NZ
   exact NZ
  rcases i with g|g
  ·grind
  rw[g]at hx;exact d 65533 AE AE x hx
 have:=j x hx;unfold Ae;simp;omega
def Av8(c:Nat):∀x∈Gv c,Ae x.toNat 65 90=false:=by
 intro x hx;have fin:∀l:A5,(l.all λx=> !Ae x.toNat 65 90)=true->x∈l->Ae x.toNat 65 90=false:=λl f g=>by simp_all
 have out:∀m,m<65\/90<m->Ae m 65 90=false:=λm h=>by unfold Ae;simp;omega
 have b:∀a d e,Ae a d e=true->d<=a/\a<=e:=λa d e h=>by unfold Ae at h;simpa using h
 unfold Gv at hx;split at hx
 ·rename_i h;simp only[Gd]at h;refine Nm _ (out _ ?_) x hx;grind
 split at hx
 ·rename_i h;rw[C0]at h;have:=b _ _ _ h.1;exact Nm _ (out _ A4) x hx
 split at hx
 ·grind
 split at hx
 ·rename_i h;have:=b _ _ _ h;exact Nm _ (out _ A4) x hx
 split at hx
 ·grind
 split at hx
 ·grind
 split at hx
 ·grind
 split at hx
 ·rename_i h;have:=b _ _ _ h;exact Nm _ (out _ A4) x hx
 split at hx
 ·rename_i h;refine Nm _ (out _ ?_) x hx;split
  ·grind
  rename_i h2;unfold Ae at h2;simp[C0,II]at h2;omega
 split at hx
 ·rename_i h;exact Nm _ (out _ A4) x hx
 ·cases hx
def ArM(c:Nat):∀x∈(DY c).1,Ae x.toNat 65 90=false:=by
 intro x hx;unfold DY at hx;split at hx
 ·exact Av8 c x hx
 rename_i ho;split at hx
 ·cases hx
 split at hx
 ·refine Nm c ?_ x hx;cases h:Ae c 65 90
  ·rfl
  exfalso;have hc:65<=c/\c<=90:=by unfold Ae at h;simpa using h
  have a:∀n:Fin 26,Gv (65+n.val)≠[]:=AX;have:=a ⟨c-65,A4⟩;rw[show 65+(c-65)=c by omega]at this;exact ho this
 ·cases hx
def AdX:∀{l:List Nat}{t:A5},EI l=some t->∀x∈t,Ae x.toNat 65 90=false
 |[],t,h,x,hx=>by cases h;cases hx
 |c::r,t,h,x,hx=>by
  rw[EI]at h;split at h
  ·cases h
  ·cases hm:EI r with
   |none=>rw[hm]at h;cases h
   |some u=>
    rw[hm]at h;cases h;rcases BL.1 hx with hx|hx
    ·exact ArM c x hx
    exact AdX hm x hx
structure Tr(l:A5):Prop where
 each:∀c∈l,Gu c=true/\c≠46
 same:CG l=some l
variable{c:Nat}
def Aoy(h:HP c=true)(a:c<128):Gu (UInt8.ofNat c)=true/\UInt8.ofNat c≠46:=by
 have b:∀n:Fin 128,HP n.val=true->Gu (UInt8.ofNat n.val)=true/\UInt8.ofNat n.val≠46:=AX;exact b ⟨c,a⟩ h
def Azp:∀k:Fin 36,Gu (Er k.val)=true/\Er k.val≠46:=AX
def Awu{l:List Nat}(h:Hg l=true):∀c∈l,HP c=true:=by
 cases l with
 |nil=>cases h
 |cons c r=>
  unfold Hg at h;rw[C0,C0]at h;exact Et.1 h.1.2
variable{t:A5}
def AxZ(j:∀c∈l,Ae c.toNat 65 90=false/\c≠46)(h:CG l=some t):Tr t:=by
 have e:EA l=true->∀c∈l,Gu c=true/\c≠46:=by
  intro a c hc;have f:=j c hc;refine⟨?_,f.2⟩;unfold Gu;have d:=f.1;unfold Ae at d;rw[Et.1 a c hc,d];rfl
 have g:=h;unfold CG at h;split at h
 ·rename_i hx;split at h
  ·rename_i a;split at h
   ·rename_i m hm;split at h
    ·cases h;exact⟨e a,g⟩
    ·cases h
   ·cases h
  ·cases h
 rename_i hx;split at h
 ·rename_i a;cases h;exact⟨e a,g⟩
 split at h
 ·rename_i hlab;split at h
  ·rename_i o ho;cases h;have i:∀c∈FP++o,Gu c=true/\c≠46:=by
    intro c hc;rcases BL.1 hc with hc|hc
    ·unfold FP at hc;simp[K3]at hc;rcases hc with rfl|rfl|rfl|rfl<;>decide
    rcases Aul ho c hc with⟨n,p,b,rfl⟩|rfl|⟨k,q,rfl⟩
    ·exact Aoy ((Awu hlab) n p) b
    ·decide
    exact Azp ⟨k,q⟩
   refine⟨i,?_⟩;unfold CG;rw[AC BE,AC (Un λc hc=>(i c hc).1)];rw[show(FP++o).drop 4=o from rfl,AvM ho];grind
  ·cases h
 ·cases h
def Ad2:∀{a ts:List (A5)},(∀l∈a,∀c∈l,Ae c.toNat 65 90=false/\c≠46)->Cc a=some ts->(∀t∈ts,Tr t)/\ts.length=a.length
 |[],ts,_,h=>by cases h;exact⟨λt b=>(nomatch b),rfl⟩
 |l::r,ts,hl,h=>by
  rw[Cc]at h;cases hw:CG l with
  |none=>grind
  |some t=>
   rw[hw]at h;cases hr:Cc r with
   |none=>grind
   |some u=>
    rw[hr]at h;cases h;have⟨h1,h2⟩:=Ad2 (λx hx=>hl x (Cr _ hx)) hr;refine⟨λx hx=> ?_,AS⟩;rcases Bn.1 hx with rfl|hx
    ·exact AxZ (hl l (CC ..)) hw
    grind
def Xn:∀{ts:List (A5)},(∀t∈ts,Tr t)->Cc ts=some ts
 |[],_=>rfl
 |t::r,h=>by
  rw[Cc,(h t (CC ..)).same];rw[Xn (λx hx=>h x (Cr _ hx))];rfl
variable{n:A5}
def Afn{s:A5}(h:FL s=some n):FL n=some n/\∀c∈n,Gu c=true:=by
 unfold FL at h;cases hm:EI (EY s)with
 |none=>grind
 |some t=>
  rw[hm]at h;dsimp only at h;cases hw:Cc (Al 46 t)with
  |none=>grind
  |some ts=>
   simp_all;cases h;have⟨h1,h2⟩:=Ad2 (λl a c hc=>⟨(AdX hm) c (Ny t l a c hc).1,(Ny t l a c hc).2⟩) hw;have d:ts≠[]:=by
    grind[Ik]
   have b:∀c∈F8 ts,Gu c=true:=by
    intro c hc;rcases AeT hc with rfl|⟨l,a,hc⟩
    ·decide
    exact((h1 l a).each c hc).1
   refine⟨?_,b⟩;unfold FL;rw[SW (Un b),Zd b];dsimp only;rw[Aic d (λl a e=>((h1 l a).each 46 e).2 rfl),Xn h1];rfl
def V3:∀(f:Nat)(s:A5)(st:EN)(m:List Nat),(∀x∈st.l,x<=1114111)->E5 f s st=some m->∀x∈m,x<=1114111
 |0,_,_,_,_,h=>(nomatch h)
 |f+1,s,st,m,hl,h=>by
  rw[E5]at h;split at h
  ·simp_all
  split at h
  ·cases h
  split at h
  ·cases h
  rename_i d n _ _ st' hs;refine V3 f _ st' m ?_ h;unfold Hz at hs;split at hs
  ·cases hs
  rename_i hq;cases hs;intro x hx;rw[Gd,not_or]at hq;have a:=hq.2;rw[Bool.not_eq_true,Bool.not_eq_false']at a;rcases BL.1 hx with hx|hx
  ·grind
  rcases Bn.1 hx with rfl|hx
  ·exact U8 a
  grind
def Ajd{s:A5}{m:List Nat}(h:GZ s=some m):∀x∈m,x<=1114111:=by
 unfold GZ at h;split at h
 ·split at h
  ·exact V3 _ _ _ _ (λx hx=>by cases hx) h
  split at h
  ·cases h
  split at h
  ·refine V3 _ _ _ _ (λx hx=> ?_) h;obtain⟨c,_,rfl⟩:=EU.1 hx;have:=c.toNat_lt;omega
  ·cases h
 exact V3 _ _ _ _ (λx hx=>by cases hx) h
def Aak(m:Nat):∀(l:List Nat)(st:EK),st.out.length<=256+40*st.done->(l.foldl (Cp m) st).out.length<=256+40*(l.foldl (Cp m) st).done
 |[],st,h=>h
 |x::r,st,h=>by
  refine Aak m r _ ?_;unfold Cp;split
  ·have:=Uf st.d st.bias;show(st.out++Fu st.d st.bias).length<=256+40*(st.done+1);exact R4
  split
  ·exact h
  exact h
def Ae6(l:List Nat):∀(f sg:Nat)(st:EK),st.out.length<=256+40*st.done->st.done<=2*l.length->(Fv l f sg st).out.length<=256+80*l.length
 |0,_,st,h,h2=>by show st.out.length<=_;omega
 |f+1,sg,st,h,h2=>by
  rw[Fv];split
  ·rename_i hlt;refine Ae6 l f _ _ ?_ ?_
   ·exact Aak _ l _ h
   exact AjG
  omega
def UR{l:List Nat}(h:GX l=some t):t.length<=20656:=by
 unfold GX at h;split at h
 ·cases h
 rename_i hl;split at h
 ·cases h;have b:=K5 l;have a:=M6 128 l;have:=Ae6 l (l.length+1) 128 (Dg l) (by
   exact Aju) (by show(DQ l).length<=_;omega)
  omega
 ·cases h
def AsH(h:CG l=some t):t.length<=l.length+20660:=by
 unfold CG at h;split at h
 ·exact Vf
 split at h
 ·cases h;omega
 split at h
 ·split at h
  ·rename_i t' he;cases h;have:=UR he;rw[Aa];have:FP.length=4:=rfl;omega
  ·cases h
 ·cases h
def Hm(ls:List (A5)):Nat:=(ls.map List.length).sum
def UP:∀a:List (A5),(F8 a).length<=Hm a+a.length
 |[]=>AR _|[t]=>by show t.length<=_;unfold Hm;simp
 |t::u::r=>by
  show(t++46::F8 (u::r)).length<=_;have:=UP (u::r);unfold Hm at this⊢;rw[Aa,BC,FR,List.sum_cons,BC];omega
def Aa3(l:A5):Hm (Al 46 l)<=l.length/\(Al 46 l).length<=l.length+1:=by
 induction l with
 |nil=>exact⟨AG _,AG _⟩
 |cons d r ih=>
  rw[Lw];cases hs:Al 46 r with
  |nil=>exact absurd hs (Ik 46 r)
  |cons a q=>
   rw[hs]at ih;unfold Hm at ih⊢;by_cases h:d=46
   ·rw[AC h];simp[FR,List.sum_cons,BC,Ep]at ih⊢;omega
   rw[AA h];show(List.map List.length ((d::a)::q)).sum<=_/\((d::a)::q).length<=_;exact TI
def WP:∀a:List (A5),Lib.join a [46]=F8 a
 |[]=>rfl|[t]=>by simp[Lib.join,F8]
 |t::u::r=>by
  have:=WP (u::r);simp only[Lib.join]at this⊢;show _=t++46::F8 (u::r);rw[<-this];simp
def Aac:∀(a:List (A5))(x:A5),Cc (a++[x])=match Cc a with|none=>none|some q=>(CG x).map (λt=>q++[t])
 |[],x=>by
  show(match CG x with|none=>none|some t=>(Cc []).map (t:: ·))=_;cases CG x<;>rfl
 |y::r,x=>by
  show(match CG y with|none=>none|some t=>(Cc (r++[x])).map (t:: ·))=_;show _=match(match CG y with|none=>none|some t=>(Cc r).map (t:: ·))with|none=>none|some q=>(CG x).map (λt=>q++[t])
  cases CG y with
  |none=>rfl
  |some t=>
   rw[Aac];cases Cc r with
   |none=>rfl
   |some q=>
    cases CG x<;>rfl
def AvH{a b:List (A5)}(h:Cc a=none):Cc (a++b)=none:=by
 induction a with
 |nil=>cases h
 |cons y r ih=>
  rw[Di];unfold Cc at h⊢;cases hy:CG y with
  |none=>rfl
  |some t=>
   rw[hy]at h;rw[Option.map_eq_none_iff]at h;rw[ih h];rfl
def XB:∀{a b:List (A5)},Cc a=some b->b.length=a.length/\Hm b<=Hm a+20660*a.length
 |[],b,h=>by cases h;exact⟨rfl,AG _⟩
 |y::r,b,h=>by
  unfold Cc at h;cases hy:CG y with
  |none=>rw[hy]at h;cases h
  |some t=>
   rw[hy]at h;rw[H1]at h;obtain⟨q,c,rfl⟩:=h;have ih:=XB c;have:=AsH hy;unfold Hm at ih⊢;exact TI
def AaN:∀(a:List Nat)(x:Nat),EI (a++[x])=match EI a with|none=>none|some q=>if(DY x).2=0 then none else some (q++(DY x).1)
 |[],x=>by
  show(if(DY x).2=0 then none else(EI []).map ((DY x).1++ ·))=_;split
  ·rfl
  show some ((DY x).1++[])=_;rw[Bq];rfl
 |y::r,x=>by
  show(if(DY y).2=0 then none else(EI (r++[x])).map ((DY y).1++ ·))=match(if(DY y).2=0 then none else(EI r).map ((DY y).1++ ·))with|none=>none|some q=>if(DY x).2=0 then none else some (q++(DY x).1)
  rw[AaN];by_cases h:(DY y).2=0
  ·grind
  simp_all;cases EI r with
  |none=>rfl
  |some q=>
   dsimp only[Option.map_some];split
   ·rfl
   simp
def AlK{a b:List Nat}(h:EI a=none):EI (a++b)=none:=by
 induction a with
 |nil=>cases h
 |cons y r ih=>
  rw[Di];unfold EI at h⊢;split at h
  ·rename_i hy;rw[AC hy]
  rename_i hy;rw[Option.map_eq_none_iff]at h;rw[AA hy,ih h];rfl
def AuD(l:A5)(cs:Array AJ)(a:cs.toList=l.map DS)(n:Nat)(d:n=l.length)(w:A7):(convert 25 9 (.slice (some ⟨w,0,none⟩) n n)).run A8 (w.alloc (.cells cs 5))=.ok (.string ⟨l.toArray⟩) (w.alloc (.cells cs 5)):=by
 subst d;have hx:((l.map λc=>(c.toNat:Int)).map λn=>UInt8.ofNat n.toNat)=l:=by
  exact TM
 have:=Qb (w:=w.alloc (.cells cs 5)) 25 5 underlying25 underlying5 w 0 l.length l.length (l.map λc=>(c.toNat:Int)) AN (λi b=>by
  have hc:cs[0+i]?=some (DS l[i]):=by rw[<-L9,a];simp[b]
  simp only[World.cell?,CB w _];rw[hc];simp[DS,b]) 9 underlying9
 exact TZ
def Oy(l:A5)(cs:Array AJ)(a:cs.toList=l.map DS)(n:Nat)(b:n=l.length):∃t:A9,Hid (t.toList=l)/\∀w:A7,(convert 25 9 (.slice (some ⟨w,0,none⟩) n n)).run A8 (w.alloc (.cells cs 5))=.ok (.string t) (w.alloc (.cells cs 5)):=
 ⟨⟨l.toArray⟩,H0 (toList_mk _),AuD l cs a n b⟩
def AmQ(a:Utf8.valid (c:Int)=true):Utf8.encode (c:Int)=if c<0x80 then⟨#[UInt8.ofNat c]⟩else if c<0x800 then⟨#[UInt8.ofNat (0xC0+c/64),UInt8.ofNat (0x80+c%64)]⟩else if c<0x10000 then⟨#[UInt8.ofNat (0xE0+c/4096),UInt8.ofNat (0x80+c/64%64),UInt8.ofNat (0x80+c%64)]⟩else⟨#[UInt8.ofNat (0xF0+c/262144),UInt8.ofNat (0x80+c/4096%64),UInt8.ofNat (0x80+c/64%64),UInt8.ofNat (0x80+c%64)]⟩:=by
 unfold Utf8.encode;grind
def Azt(h:c<55296\/(57344<=c/\c<=1114111)):Utf8.valid (c:Int)=true:=by unfold Utf8.valid;simp;omega
def AnV{a b d e:A9}(h:Utf8.encode c=if c<0x80 then a else if c<0x800 then b else if c<0x10000 then d else e):(Utf8.encode c).data.toList=if c<0x80 then a.data.toList else if c<0x800 then b.data.toList else if c<0x10000 then d.data.toList else e.data.toList:=by
 grind
def Ayj(h:c<55296\/(57344<=c/\c<=1114111)):An c=Jj c:=by
 unfold An;rw[AA A4]
def NS(h:c<55296\/(57344<=c/\c<=1114111)):An c=if c<0x80 then[UInt8.ofNat c]else if c<0x800 then[UInt8.ofNat (0xC0+c/64),UInt8.ofNat (0x80+c%64)]else if c<0x10000 then[UInt8.ofNat (0xE0+c/4096),UInt8.ofNat (0x80+c/64%64),UInt8.ofNat (0x80+c%64)]else[UInt8.ofNat (0xF0+c/262144),UInt8.ofNat (0x80+c/4096%64),UInt8.ofNat (0x80+c/64%64),UInt8.ofNat (0x80+c%64)]:=by
 rw[Ayj h];exact AnV (AmQ (Azt h))
def u8w{z:Int}(a:0<=z)(h:z<=255):IntKind.u8.wrap z=z:=NO
def K4{n:Nat}{z:Int}(h:z=(n:Int))(a:n<256):Value.int .u8 z=DS (UInt8.ofNat n):=by
 subst h;unfold DS;rw[LC,JV a]
def Zp(c:Nat)(hc:c<=2147483647)(w:A7):AD A8 202 #[.int .i64 (c:Int)] w (Bi w (An c)):=by
 have hB:AF w w w:=AU _ _;have O:0<=(c:Int):=A4;have Q:(c:Int)<=2147483647:=A4;by_cases d:1114111<c\/(55296<=c/\c<=57343)
 ·have hv:=A6 (An c=Dc) (by unfold An;rw[AC A4]);obtain⟨t,ht,b⟩:=Oy [239,191,189] #[.int .u8 239,.int .u8 191,.int .u8 189] rfl 3 rfl;have a:1114111<(c:Int)\/((c:Int)<=1114111/\55296<=(c:Int)/\(c:Int)<=57343):=A4;clear d;go_in;rcases a with h1|⟨h1,p,h⟩;all_goals
   go_wp2_with fail;go_ret;exact Be Yq (hB.alloc (AG _) _)
 have hv:=NS (c:=c) A4;have a:(c:Int)<55296\/(55296<=(c:Int)/\57343<(c:Int)):=A4;have y:(c:Int)<=1114111:=A4;clear d;by_cases h1:c<128
 ·rw[AC h1]at hv;have B:(c:Int)<128:=A4;obtain⟨t,ht,b⟩:=Oy [UInt8.ofNat c] #[.int .u8 (c:Int)] (by rw[K4 rfl A4];rfl) 1 rfl;clear a;replace hv:=H0 hv;generalize(c:Int)=z at *;exact XH
 have B:128<=(c:Int):=A4;have H:(c:Int)%64=((c%64:Nat):Int):=A4;have C:c%64<=63:=A4;obtain⟨r,g⟩:=AI (c%64);have j:(c:Int)/64=((c/64:Nat):Int):=A4;rw[g]at H C hv;rw[AA h1]at hv;have r0:0<=(r:Int):=A4;have P:(r:Int)<=63:=A4;have L:=u8w (z:=128+(r:Int)) A4 A4;by_cases p:c<2048
 ·rw[AC p]at hv;have I:(c:Int)<2048:=A4;have f:c/64<=31:=A4;generalize e:c/64=q at j f hv;have x:0<=(q:Int):=A4;have s:(q:Int)<=31:=A4;have v:=u8w A4 A4;obtain⟨t,ht,b⟩:=Oy [UInt8.ofNat (192+q),UInt8.ofNat (128+r)] #[.int .u8 (192+(q:Int)),.int .u8 (128+(r:Int))] (by rw[K4 (n:=192+q) A4 A4,K4 (n:=128+r) A4 A4];rfl) 2 rfl;clear a;change Hid _ at hv g e;generalize(c:Int)=z at *;generalize(r:Int)=ri at *;generalize(q:Int)=qi at *;exact XH
 have I:2048<=(c:Int):=A4;rw[AA p]at hv;have o:(c:Int)/4096=((c/4096:Nat):Int):=A4;have E:((c/64:Nat):Int)%64=((c/64%64:Nat):Int):=A4;have F:c/64%64<=63:=A4;obtain⟨m,l⟩:=AI (c/64%64);rw[l]at E F hv;have J:0<=(m:Int):=A4;have S:(m:Int)<=63:=A4;have M:=u8w (z:=128+(m:Int)) A4 A4;by_cases h:c<65536
 ·rw[AC h]at hv;have z3:(c:Int)<65536:=A4;have f:c/4096<=15:=A4;generalize e:c/4096=q at o f hv;have x:0<=(q:Int):=A4;have s:(q:Int)<=15:=A4;have v:=u8w (z:=224+(q:Int)) A4 A4;obtain⟨t,ht,b⟩:=Oy [UInt8.ofNat (224+q),UInt8.ofNat (128+m),UInt8.ofNat (128+r)] #[.int .u8 (224+(q:Int)),.int .u8 (128+(m:Int)),.int .u8 (128+(r:Int))] (by rw[K4 (n:=224+q) A4 A4,K4 (n:=128+m) A4 A4,K4 (n:=128+r) A4 A4];rfl) 3 rfl;change Hid _ at hv g e l;generalize((c/64:Nat):Int)=z64 at *;generalize(c:Int)=z at *;generalize(r:Int)=ri at *;generalize(q:Int)=qi at *;generalize(m:Int)=mi at *;go_in;rcases a with G|⟨G,N⟩
  all_goals
   go_wp2_with fail;go_ret;exact Be Yq (hB.alloc (AG _) _)
 rw[AA h]at hv;have z3:65536<=(c:Int):=A4;have i:(c:Int)/262144=((c/262144:Nat):Int):=A4;have A:((c/4096:Nat):Int)%64=((c/4096%64:Nat):Int):=A4;have D:c/4096%64<=63:=A4;have f:c/262144<=4:=A4;obtain⟨q,e⟩:=AI (c/262144);obtain⟨k,u⟩:=AI (c/4096%64);rw[e]at i f hv;rw[u]at A D hv;have x:0<=(q:Int):=A4;have s:(q:Int)<=4:=A4;have R:0<=(k:Int):=A4;have K:(k:Int)<=63:=A4;have v:=u8w (z:=240+(q:Int)) A4 A4;obtain⟨t,ht,b⟩:=Oy [UInt8.ofNat (240+q),UInt8.ofNat (128+k),UInt8.ofNat (128+m),UInt8.ofNat (128+r)] #[.int .u8 (240+(q:Int)),.int .u8 (128+(k:Int)),.int .u8 (128+(m:Int)),.int .u8 (128+(r:Int))] (by rw[K4 (n:=240+q) A4 A4,K4 (n:=128+k) A4 A4,K4 (n:=128+m) A4 A4,K4 (n:=128+r) A4 A4];rfl) 4 rfl;clear a;change Hid _ at hv g e l u;generalize((c/64:Nat):Int)=z64 at *;generalize((c/4096:Nat):Int)=z40 at *;generalize(c:Int)=z at *;generalize(r:Int)=ri at *;generalize(q:Int)=qi at *;generalize(m:Int)=mi at *;generalize(k:Int)=ki at *;exact XH
def Yl(c:Nat)(w:A7)(e:Ag)(w':A7):Prop:=e=.returned (.tuple #[.int .i64 ((Ck c).1:Int),.int .u8 ((Ck c).2.1:Int),.int .u8 ((Ck c).2.2:Int)])/\w=w'
def Ayr(c:Nat)(hc:c<256)(w:A7):AD A8 261 #[.int .u8 (c:Int)] w (Yl c w):=by
 unfold Yl;have j:∀k:Nat,c≠k->(((c:Int)==k)=false):=λk h=>DV;have f:∀k:Nat,c=k->(((c:Int)==k)=true):=λk h=>by simp_all
 have A:0<=(c:Int):=A4;have n:(c:Int)<=255:=A4;have fin:∀(a b d:Nat),Ck c=(a,b,d)->AD A8 261 #[.int .u8 (c:Int)] w (AzJ (.tuple #[.int .i64 (a:Int),.int .u8 (b:Int),.int .u8 (d:Int)]) w)->AD A8 261 #[.int .u8 (c:Int)] w (AzJ (.tuple #[.int .i64 ((Ck c).1:Int),.int .u8 ((Ck c).2.1:Int),.int .u8 ((Ck c).2.2:Int)]) w):=by
  intro a b d h1 y;rw[h1];exact y
 have g:Ck c=Ck c:=rfl
 conv at g=>rhs;unfold Ck
 by_cases p:c<128
 ·refine fin 1 0 0 AS ?_;have r:(c:Int)<128:=A4;exact JS
 have r:128<=(c:Int):=A4;rw[AA p]at g;by_cases v:c<194\/244<c
 ·refine fin 0 0 0 AS ?_;have i:(c:Int)<194\/(194<=(c:Int)/\244<(c:Int)):=A4;go_in;rcases i with i|⟨i,t⟩;all_goals
   go_wp2;go_ret3;simp
 have i:194<=(c:Int):=A4;have t:(c:Int)<=244:=A4;rw[AA v]at g;by_cases a3:c<224
 ·refine fin 2 128 191 AS ?_;have x:(c:Int)<224:=A4;exact JS
 have x:224<=(c:Int):=A4;rw[AA a3]at g;by_cases a4:c=224
 ·have q:=f 224 a4;refine fin 3 160 191 AS ?_;exact JS
 have q:=j 224 a4;rw[AA a4]at g;by_cases a5:c=237
 ·have z:=f 237 a5;refine fin 3 128 159 AS ?_;exact JS
 have z:=j 237 a5;rw[AA a5]at g;by_cases l:c=240
 ·have o:=f 240 l;refine fin 4 144 191 AS ?_;exact JS
 have o:=j 240 l;rw[AA l]at g;by_cases m:c=244
 ·have s:=f 244 m;refine fin 4 128 143 AS ?_;exact JS
 have s:=j 244 m;rw[AA m]at g;by_cases B:c<240
 ·refine fin 3 128 191 AS ?_;have u:(c:Int)<240:=A4;exact JS
 refine fin 4 128 191 AS ?_;have u:240<=(c:Int):=A4;exact JS
def Axw{c:UInt8}{a b:Nat}(h:Ck c.toNat=(1,a,b)):c.toNat<128:=by
 by_cases hc:c.toNat<128
 ·exact hc
 have k:=Ah3 c;unfold Yn at k;simp only[h,C0,Gd,Bool.not_eq_true',JY,Qc,LY]at k;rcases k.2 with(k|k)|k
 ·omega
 ·simp at k
 omega
def LO(k v:Nat):Prop:=(k=1/\v<=31)\/(k=2/\v<=2047)\/(k=3/\v<=131071)\/(k=4/\v<=8388607)
variable{k:Nat}
def AsP{v y:Nat}(h:LO k v)(b:k<4)(a:y<=191):LO (k+1) (64*v+y-128):=by unfold LO at *;omega
def Aqo{v:Nat}(h:LO k v):v<=8388607:=by unfold LO at *;omega
def Am3(p:Nat×Nat)(w:A7)(e:Ag)(w':A7):Prop:=∃b:Bool,e=.returned (.tuple #[.int .i64 (p.1:Int),.int .i64 (p.2:Int),.bool b])/\w=w'
def Avg{a:Nat}(c:2<=a)(b:a<=4):128/2^a=32\/128/2^a=16\/128/2^a=8:=by
 have:a=2\/a=3\/a=4:=A4;grind
def Ap6(pa:Option Addr)(n c:Nat)(l:A5)(w:A7)(h:Fq w pa n c l)(h0:0<n)(hm:n<=BK):AD A8 203 #[.slice pa n c] w (Am3 (E8 l) w):=by
 obtain⟨g,o,rfl,b⟩:=h.cells h0;have R:=h.len;unfold BK at hm;have E:0<l.length:=A4;have N:=b 0 E;rw[Jy]at N;unfold DS at N;have h0n:(0:Nat)<n:=h0;obtain⟨x,r,hl⟩:∃x r,l=x::r:=by
  cases l with
  |nil=>simp at E|cons x r=>simp
 have hx:l[0]=x:=by subst hl;rfl
 rw[hx]at N;have Y:=A6 (l.drop 1=r) AS;obtain⟨⟨a,C,u⟩,sV⟩:∃p,Ck x.toNat=p:=⟨_,rfl⟩;have jN:=Ayr x.toNat x.toNat_lt;unfold Yl at jN;rw[sV]at jN;change Hid _ at jN b hx R;have b0:=Bo x;have b1:=Bf x;clear h;by_cases B:a=1
 ·subst B;have hv:=A6 (E8 l=(x.toNat,1)) (by rw[hl];exact AdI (Axw sV) r);exact AbH
 by_cases G:a=0
 ·subst G;have hv:=A6 (E8 l=(65533,1)) (by rw[hl];exact Amz sV r);exact AbH
 have t:2<=a:=A4;have I:=UX sV t;have cR:=H0 (λS=>AoJ (r:=r) sV t S);have z:=H0 (λS=>Ayv (r:=r) sV t S);have P:=I.le;have l0:=I.l0;have h9:=I.h0;have e1:((a:Int)==1)=false:=DV;have e0:((a:Int)==0)=false:=DV;obtain⟨q,H⟩:=AI (128/2^a);have oV:=Avg t P;rw[H]at cR oV;have V:(128:Int)/2^a=(q:Int):=by rw[<-H];simp
 have iJ:¬((q:Int)=0):=A4;have sB:=A6 (LD (x.toNat%q) ((l.drop 1).take 0)=x.toNat%q) rfl;have L:LO 1 (x.toNat%q):=by
  have:=Fw x.toNat (show 0<q by omega);unfold LO;omega
 have M:(x:Int)%(q:Int)=((x.toNat%q:Nat):Int):=AN;obtain⟨v0,d⟩:=AI (x.toNat%q);rw[d]at M L sB;replace hl:=H0 hl;replace sV:=H0 sV;replace d:=H0 d;replace H:=H0 H;replace L:=H0 L;clear I B G;go_in;go_wp2_with(go_at_call 261;go_call(jN.out _) as e w'⟨rfl,rfl⟩);clear N V iJ e1 e0;replace M:=H0 M;go_loop[6,7,8,9] (λv6 v7 v8 Z=>∃k i s v:Nat,v6=.int .u8 i/\v7=.int .u8 s/\v8=.int .i64 v/\Z=.int .i64 k/\1<=k/\k<=a/\k<=n/\128<=i/\s<=191/\Hid (LO k v)/\Hid (CN (a-1) C u (l.drop 1)=CN (a-k) i s (l.drop k)+(k-1))/\Hid (LD v0 ((l.drop 1).take (k-1))=v)) (λ_ _ _ Z=>a-(intOf Z).toNat)
 ·exact⟨1,C,u,v0,rfl,rfl,by first|rfl|(rw[M.out]),rfl,AG _,A4,h0n,l0,h9,L,H0 rfl,H0 rfl⟩
 obtain⟨k,i,s,v,rfl,rfl,rfl,rfl,nC,kE,hkn,hlo,hhi,F,Q,X⟩:=hrel;by_cases h1:k<a
 ·have nS:(k:Int)<a:=A4;have J:CN (a-k) i s (l.drop k)=0->Hid (E8 l=(65533,k)):=λe=>H0 (by
   have K:CN (a-1) C u r=k-1:=by rw[<-Y.out,Q.out,e];omega
   rw[hl.out,z.out A4,K,show k-1+1=k by omega])
  replace J:=H0 J;obtain⟨m,f⟩:∃m,a-k=m+1:=⟨a-k-1,A4⟩;have T:a-(k+1)=m:=A4;by_cases t:k<n
  ·have h2I:(k:Int)<n:=A4;have D:k<l.length:=by rw[R.out];exact t
   have ck:=b.out k D;unfold DS at ck;have O:=A6 (l.drop k=l[k]::l.drop (k+1)) (Fr D);have A:=A6 ((l.drop 1).take (k+1-1)=(l.drop 1).take (k-1)++[l[k]]) (by
    have e:(l.drop 1)[k-1]' Ql=l[k]:=by rw[List.getElem_drop];congr 1;omega
    rw[<-e,show k+1-1=(k-1)+1 by omega,List.take_add_one,Cs Ql];rfl)
   obtain⟨y,W⟩:=AI (l[k]);rw[W]at ck O A;replace W:=H0 W;by_cases j:i<=y.toNat/\y.toNat<=s
   ·have hn:=A6 (CN (a-1) C u (l.drop 1)=CN (a-(k+1)) 128 191 (l.drop (k+1))+(k+1-1)) (by
     rw[Q.out,O.out,f,CN,AC j,T];omega)
    obtain⟨P,K⟩:=j;have U:=A6 (LD v0 ((l.drop 1).take (k+1-1))=64*v+y.toNat-128) (by
     rw[A.out];unfold LD at X⊢;rw[List.foldl_append,X.out];rfl)
    have d7:=A6 (LO (k+1) (64*v+y.toNat-128)) (AsP F A4 A4);have hvle:=Aqo F;have y128:128<=(y:Int):=A4;have y1:=Bf y;change Hid _ at f T;go_wp2_with fail;go_round;exact⟨k+1,128,191,_,rfl,rfl,Gq,AP,A4,A4,A4,A4,A4,d7,hn,U⟩;exact AzF
   have hn:=J.out (by rw[O.out,f,CN,AA j]);change Hid _ at f T;by_cases P:i<=y.toNat
   ·have h5I:(s:Int)<(y:Int):=A4;replace j:=H0 j;go_wp2_with fail;exact UZ
   replace j:=H0 j;go_wp2_with fail;exact UZ
  have hn:=J.out (by rw[Cj (by rw[R.out];omega),AuJ]);go_wp2;exact UZ
 have hn:=A6 (E8 l=(v,a)) (by
  obtain rfl:k=a:=A4;have K:CN (k-1) C u r=k-1:=by rw[<-Y.out,Q.out,Nat.sub_self];simp[CN]
  rw[hl.out,cR.out K,d.out,<-Y.out,X.out])
 go_wp2;exact UZ
def Aon(f:Nat):sgF f []=[]:=by cases f<;>rfl
def WA(s:A9)(w:A7)(I:s.size<=1000000000):AD A8 135 #[.string s] w (X5 (EY s) w):=by
 have B:=H0 (Aij s);have⟨pa,n,c,w1,hcv,i,hb⟩:=Aea s w;have z:=i.len;rw[AK]at z;go_in;go_wp2;go_loopw[3,4] (λv3 v4 wr=>∃(g:Option Addr)(j o f:Nat)(d:A5)(out:List Nat),v3=.slice g j o/\Fq w1 g j o d/\j<f/\j<=n/\C4 wr w1 v4 out/\AF w1 w1 wr/\Hid (EY s.toList=out++sgF f d)/\out.length+j<=n) (λv3 _ _=>match v3 with| .slice _ k _=>k|_=>0)
 ·exact⟨pa,n,c,n+1,s.toList,[],rfl,i,A4,AG _,C4.nil _ _,AU _ _,H0 (by rw[<-z,<-AK,B.out];rfl),AN⟩
 obtain⟨g,j,o,f,d,out,rfl,i,hf,A,h,a,t,K⟩:=hrel;have F:=a.size;have m:=i.len;by_cases C:0<j
 ·have l:d≠[]:=by intro e;rw[e]at m;simp at m;omega
  obtain⟨q,rfl⟩:∃q,f=q+1:=⟨f-1,A4⟩;have y:=H0 (λw i=>Ap6 g j o d w i C C1);have v:=Aig l;rw[m]at v;have u:=A6 (EY s.toList=(out++[(E8 d).1])++sgF q (d.drop (E8 d).2)) (by rw[t.out,sgF,AA l,CQ];rfl);obtain⟨⟨r,k⟩,x⟩:∃p,E8 d=p:=⟨_,rfl⟩;rw[x]at y v u;have⟨pa2,hsl,hr2⟩:=i.drop k v.2;change Hid _ at t x m;have D:=i.below a (AG _);go_wp21;go_call y as e w2⟨b,rfl,rfl⟩;go_wp2_with(at_builtin;refine Qg rfl _ _ rfl r rfl rfl h a F rfl A4 ?_;intro H w' G J _);go_roundw;grind;grind
 have E:d=[]:=EP A4;have u:=A6 (EY s.toList=out) (by rw[t.out,E,Aon,Bq]);go_wp2;go_ret;exact⟨_,rfl,by rw[u.out];exact h.mono hb.size,hb.next a⟩
def Afi(c:Nat):(An c).length<=4:=by
 exact AbN
def Aj1:∀l:List Nat,(l.flatMap An).length<=4*l.length
 |[]=>AG _
 |c::r=>by
  have h1:=Afi c;have a:=Aj1 r;rw[GV,Aa,BC];omega
def AjE(pa:Option Addr)(n c:Nat)(l:List Nat)(w:A7)(h:Fc w pa n c l)(H:n<=1000000000)(y:∀x∈l,x<=2147483647):AD A8 134 #[.slice pa n c] w (Bi w (l.flatMap An)):=by
 have s:=h.len;have j:∀k(p:k<l.length),∃g o,pa=some ⟨g,o,none⟩/\g<w.heap.size/\w.cell? ⟨g,o+k,none⟩=some (.int .i64 (l[k]:Int)):=λk p=>by
  have⟨g,o,e,hc⟩:=h.cells A4;exact⟨g,o,e,EV w _ (hc k p),hc k p⟩
 change Hid _ at j y s;clear h;go_in;go_wp2;go_loopw[3,4] (λv3 v4 wr=>∃k:Nat,v4=.int .i64 k/\k<=n/\BM wr w 5 v3 ((l.take k).flatMap An)/\AF w w wr) (λ_ v4 _=>n-(intOf v4).toNat)
 ·exact⟨0,rfl,AR _,BM.nil _ _ _,AU _ _⟩
 obtain⟨k,rfl,p,a,hbel⟩:=hrel;have F:=hbel.size;by_cases q:k<n
 ·have d:k<l.length:=by rw[s.out];exact q
  obtain⟨g,o,rfl,D,hc⟩:=j.out k d;have r:=(hbel.cell D).trans hc;have hx:=y.out _ (CI d);have u:=A6 ((l.take (k+1)).flatMap An=(l.take k).flatMap An++An l[k]) (by
   rw[List.take_add_one,Cs d,Jh];simp)
  have b:=Aj1 (l.take k);rw[Cl]at b;generalize f:l[k]=x at r hx u;generalize(l.take k).flatMap An=P at a u b;replace f:=H0 f;clear hc;go_wp2_with fail;go_call Zp as e w2⟨t,rfl,ht,hb⟩;have C:BM w2 w 5 _ P:=HR a hb (AG _);have v:=hbel.trans (hb.mono F);have z:=Afi x;rw[<-ht.out,AK]at z;go_wp2_with(at_builtin;refine Akg rfl _ _ rfl t rfl rfl C v v.size A4 ?_;intro G w' m A);rw[ht.out,<-u.out]at m;go_roundw;exact⟨k+1,AP,A4,m,A⟩;exact AzF
 have he:=A6 (l.take k=l) (Bc (by rw[s.out];omega));have i:=λS B=>Mh (P:=A8) (S:=S) underlying25 underlying5 B a;have E:=i 9 underlying9;clear i;generalize hP:(l.take k).flatMap An=P at a E;exact Ak6
def Apo{w:A7}{pa:Option Addr}{n:Nat}(h:Fq w pa n c l)(a:0<n):(convert 25 9 (.slice pa n c)).run A8 w=.ok (.string ⟨l.toArray⟩) w:=by
 obtain⟨g,o,rfl,hc⟩:=h.cells a;have b:=h.len;have hx:((l.map λc=>(c.toNat:Int)).map λn=>UInt8.ofNat n.toNat)=l:=by
  exact TM
 have:=Qb (w:=w) 25 5 underlying25 underlying5 g o n c (l.map λc=>(c.toNat:Int)) AS (λi d=>by
  simp[DS,show i<l.length by omega]) 9 underlying9
 exact TZ
def Z9:∀{l:A5},EA l=true->(l.map (·.toNat)).flatMap An=l
 |[],_=>rfl
 |c::r,h=>by
  unfold EA at h;rw[Hh,C0,JY]at h;rw[FR,GV,Z9 h.2,NS A4,AC h.1];simp
def Amm(pa:Option Addr)(n c:Nat)(l:A5)(w:A7)(h:Fq w pa n c l)(m:0<n)(j:EA l=true)(A:n<=1000000000):AD A8 76 #[.slice pa n c] w (Bi w l):=by
 have s:=Apo h m;have p:=h.len;have e:(ByteArray.mk l.toArray).toList=l:=toList_mk _;have u:(ByteArray.mk l.toArray).size<=1000000000:=by rw[<-AK,e];omega
 have i:=WA ⟨l.toArray⟩ w u;rw[e,SW j]at i;go_in;go_wp2_with fail;refine i.mono ?_;rintro e r⟨v,rfl,a,q⟩;obtain⟨g,c2,rfl,y⟩:=a.read;have f:(l.map (·.toNat)).length<=1000000000:=by rw[Bz];have:=p;omega
 have o:∀x∈l.map (·.toNat),x<=2147483647:=λx hx=>by
  obtain⟨c,_,rfl⟩:=EU.1 hx;exact CR (Nat.le_of_lt c.toNat_lt) AE
 have d:=AjE g _ c2 _ r y f o;rw[Z9 j]at d;generalize hn3:(l.map (·.toNat)).length=n3 at d⊢;go_wp2_with fail;refine d.mono ?_;rintro e z⟨t,rfl,k,b⟩;go_wp2;go_ret;exact Be k (q.next b)
def Dn:List A9:=[⟨#[97,109,112]⟩,⟨#[65,77,80]⟩,⟨#[108,116]⟩,⟨#[76,84]⟩,⟨#[103,116]⟩,⟨#[71,84]⟩,⟨#[113,117,111,116]⟩,⟨#[81,85,79,84]⟩,⟨#[110,98,115,112]⟩,⟨#[115,104,121]⟩,⟨#[110,111,116]⟩,⟨#[114,101,103]⟩,⟨#[99,111,112,121]⟩,⟨#[112,97,114,97]⟩,⟨#[115,101,99,116]⟩,⟨#[121,101,110]⟩,⟨#[100,101,103]⟩,⟨#[116,105,109,101,115]⟩,⟨#[101,97,99,117,116,101]⟩,⟨#[111,117,109,108]⟩,⟨#[115,122,108,105,103]⟩]
def Ps:List A9:=[⟨#[38]⟩,⟨#[38]⟩,⟨#[60]⟩,⟨#[60]⟩,⟨#[62]⟩,⟨#[62]⟩,⟨#[34]⟩,⟨#[34]⟩,⟨#[194,160]⟩,⟨#[194,173]⟩,⟨#[194,172]⟩,⟨#[194,174]⟩,⟨#[194,169]⟩,⟨#[194,182]⟩,⟨#[194,167]⟩,⟨#[194,165]⟩,⟨#[194,176]⟩,⟨#[195,151]⟩,⟨#[195,169]⟩,⟨#[195,182]⟩,⟨#[195,159]⟩]
def Fa:List A9:=[⟨#[97,112,111,115]⟩,⟨#[99,111,108,111,110]⟩,⟨#[115,111,108]⟩,⟨#[98,115,111,108]⟩,⟨#[113,117,101,115,116]⟩,⟨#[110,117,109]⟩,⟨#[112,101,114,99,110,116]⟩,⟨#[99,111,109,109,97,116]⟩,⟨#[101,113,117,97,108,115]⟩,⟨#[112,108,117,115]⟩,⟨#[99,111,109,109,97]⟩,⟨#[112,101,114,105,111,100]⟩,⟨#[115,101,109,105]⟩,⟨#[101,120,99,108]⟩,⟨#[100,111,108,108,97,114]⟩,⟨#[97,115,116]⟩,⟨#[108,111,119,98,97,114]⟩,⟨#[103,114,97,118,101]⟩,⟨#[72,97,116]⟩,⟨#[108,112,97,114]⟩,⟨#[114,112,97,114]⟩,⟨#[108,115,113,98]⟩,⟨#[114,115,113,98]⟩,⟨#[108,99,117,98]⟩,⟨#[114,99,117,98]⟩,⟨#[118,101,114,98,97,114]⟩,⟨#[84,97,98]⟩,⟨#[78,101,119,76,105,110,101]⟩,⟨#[110,111,116,105,110]⟩,⟨#[110,118,108,116]⟩,⟨#[110,118,103,116]⟩,⟨#[122,119,110,106]⟩,⟨#[122,119,106]⟩,⟨#[90,101,114,111,87,105,100,116,104,83,112,97,99,101]⟩,⟨#[78,111,66,114,101,97,107]⟩,⟨#[102,106,108,105,103]⟩,⟨#[99,111,112,121,115,114]⟩,⟨#[116,105,109,101,115,98,97,114]⟩]
def U7:List A9:=[⟨#[39]⟩,⟨#[58]⟩,⟨#[47]⟩,⟨#[92]⟩,⟨#[63]⟩,⟨#[35]⟩,⟨#[37]⟩,⟨#[64]⟩,⟨#[61]⟩,⟨#[43]⟩,⟨#[44]⟩,⟨#[46]⟩,⟨#[59]⟩,⟨#[33]⟩,⟨#[36]⟩,⟨#[42]⟩,⟨#[95]⟩,⟨#[96]⟩,⟨#[94]⟩,⟨#[40]⟩,⟨#[41]⟩,⟨#[91]⟩,⟨#[93]⟩,⟨#[123]⟩,⟨#[125]⟩,⟨#[124]⟩,⟨#[9]⟩,⟨#[10]⟩,⟨#[226,136,137]⟩,⟨#[60,226,131,146]⟩,⟨#[62,226,131,146]⟩,⟨#[226,128,140]⟩,⟨#[226,128,141]⟩,⟨#[226,128,139]⟩,⟨#[226,129,160]⟩,⟨#[102,106]⟩,⟨#[226,132,151]⟩,⟨#[226,168,177]⟩]
def AxK:∃i,A8.info? 9=some i/\i.zero=some (.string ⟨#[]⟩)/\i.size=1/\i.bytes=16:=IQ AO
def PW(L T:List A9)(w:A7)(e:Ag)(w':A7):Prop:=
 ∃a b:Option Addr,e=.returned (.tuple #[.slice a L.length L.length,.slice b L.length L.length])/\CA w' (.slice a L.length L.length) L/\CA w' (.slice b L.length L.length) T/\AF w w w'
def KV{ops:Array Oper}{rest:List Oper}{o:Oper}{a:Act}{w:A7}{Q:Exit->Act->A7->Prop}(d:Nat)(e:o.dst=some d)(L:List A9)(n:Nat){c:Array (Nat×CV)}(g:o.guard=none)(f:o.op=.buildSlice 22 n c)(h1:0<n)(l:n<=100)(hf:Instr.fill (λi=>some (i*1,1)) ((Array.range (n*1)).map ((Value.string ⟨#[]⟩).cells[· %(Value.string ⟨#[]⟩).cells.size]!)) (c.map λ(i,x)=>(i,a.eval x)).toList=some (L.map Value.string).toArray)(h:Aq A8 ops Q rest (a.put (some d) (.slice (some ⟨w,0,none⟩) n n)) (w.alloc (.cells (L.map Value.string).toArray 9))):Aq A8 ops Q (o::rest) a w:=by
 obtain⟨i,j,k,b,-⟩:=AxK;rw[<-e]at h;exact wpList_buildSlice g 22 9 n c f (L.map Value.string).toArray i _ underlying22 j k (by rw[b];omega) (by rw[b];omega) AS h
def Ab4(w:A7):AD A8 264 #[] w (PW Dn Ps w):=by
 go_in;go_wp2_with(first|(refine KV 2 rfl Dn 21 rfl rfl AE AE AO ?_)|(refine KV 3 rfl Ps 21 rfl rfl AE AE AO ?_));go_ret2;refine⟨_,_,rfl,?_,?_,(Ah _ _).alloc AN _⟩
 ·exact(CA.built w 9 Dn _).below (Ah _ _) (AG _)
 have:=CA.built (w.alloc (.cells (Dn.map Value.string).toArray 9)) 9 Ps Dn.length;exact Rq
def AwF(w:A7):AD A8 262 #[] w (PW Fa U7 w):=by
 go_in;go_wp2_with(first|(refine KV 2 rfl Fa 38 rfl rfl AE AE AO ?_)|(refine KV 3 rfl U7 38 rfl rfl AE AE AO ?_));go_ret2;refine⟨_,_,rfl,?_,?_,(Ah _ _).alloc AN _⟩
 ·exact(CA.built w 9 Fa _).below (Ah _ _) (AG _)
 have:=CA.built (w.alloc (.cells (Fa.map Value.string).toArray 9)) 9 U7 Fa.length;exact Rq
def AhJ(D G:Option Addr)(n:Nat)(L T:List A9)(s:A9)(w:A7)(P:CA w (.slice D n n) L)(O:CA w (.slice G n n) T)(h1:L.length=n)(N:T.length=n)(Y:n<=1000)(o:Option Nat)(l:match o with|none=>∀i(h:i<L.length),L[i].toList≠s.toList|some j=>(∃h:j<L.length,L[j].toList=s.toList)/\∀i(h:i<L.length),i<j->L[i].toList≠s.toList):AD A8 263 #[.slice D n n,.slice G n n,.string s] w (AzJ (.tuple #[.string ((o.map (T.getD · ⟨#[]⟩)).getD ⟨#[]⟩),.bool o.isSome]) w):=by
 have⟨x1,c1,e1,hc1⟩:=P;have⟨x2,c2,e2,hc2⟩:=O;obtain⟨rfl,-,-⟩:D=x1/\n=L.length/\n=c1:=by simpa using e1
 obtain⟨rfl,-,-⟩:G=x2/\n=T.length/\n=c2:=by simpa using e2
 clear e1 e2;obtain⟨R,t⟩:∃R,(o.map (T.getD · ⟨#[]⟩)).getD ⟨#[]⟩=R:=⟨_,rfl⟩;obtain⟨B,r⟩:=AI (o.isSome);rw[t,r];change Hid _ at t r l hc1 hc2 h1 N;go_in;go_wp2;go_loop[8] (λi=>∃k:Nat,i=.int .i64 k/\k<=n/\Hid (∀j,o=some j->k<=j)) (λi=>n-(intOf i).toNat)
 ·exact⟨0,rfl,AR _,H0 (λj _=>AR _)⟩
 obtain⟨k,rfl,V,A⟩:=hrel;by_cases d:k<n
 ·have a:k<L.length:=by rw[h1.out];exact d
  have q:k<T.length:=by rw[N.out];exact d
  obtain⟨X,U,rfl,f⟩:=hc1.out A4;obtain⟨g2,W,rfl,g⟩:=hc2.out A4;have C:=f k a;have u:=g k q;obtain⟨x,hx⟩:=AI (L[k]);obtain⟨y,z⟩:=AI (T[k]);rw[hx]at C;rw[z]at u;change Hid _ at f g hx z;obtain⟨b,F⟩:=AI ((x.toList==s.toList));cases b with
  |true=>
   have m:=A6 (o=some k) (by
    have c:L[k].toList=s.toList:=by rw[hx.out];simpa using F
    cases ho':o with
    |none=>have h:=l.out;rw[ho']at h;exact absurd c (h k a)
    |some j=>
     have h:=l.out;rw[ho']at h;have J:=A.out j ho';by_cases E:k<j
     ·exact absurd c (h.2 k a E)
     congr 1;omega)
   have I:=A6 (y=R) (by rw[<-t.out,m.out,<-z.out];simp[List.getD,q]);have v:=A6 (B=true) (by rw[<-r.out,m.out];rfl);go_wp2;go_ret2;exact⟨by rw[I.out,v.out];rfl,rfl⟩
  |false=>
   have H:=A6 (∀j,o=some j->k+1<=j) (λj e=>by
    have J:=A.out j e;have h:=l.out;rw[e]at h;obtain⟨⟨K,M⟩,-⟩:=h;by_cases E:j=k
    ·subst E;rw[hx.out]at M;rw[M]at F;simp at F
    omega)
   go_wp2;go_round;exact⟨k+1,AP,A4,H⟩;exact AzF
 have p:=A6 (o=none) (by
  cases ho':o with
  |none=>rfl
  |some j=>
   have J:=A.out j ho';have h:=l.out;rw[ho']at h;obtain⟨⟨K,-⟩,-⟩:=h;rw[h1.out]at K;omega)
 have S:=A6 (R=⟨#[]⟩) (by rw[<-t.out,p.out];rfl);have Q:=A6 (B=false) (by rw[<-r.out,p.out];rfl);go_wp2;go_ret2;exact⟨by rw[S.out,Q.out];rfl,rfl⟩
def no59:∀L∈[Dn,Fa],∀i(h:i<L.length),(59:UInt8) ∉ L[i].toList:=by
 have a:∀L∈[Dn,Fa],L.all (λt=> !t.toList.contains 59)=true:=AX;intro L b i h;have:=Et.1 (a L b) L[i] (CI h);simpa using this
def PZ:List A9:=[⟨#[97]⟩,⟨#[97,114,101,97]⟩,⟨#[108,105,110,107]⟩,⟨#[105,109,103]⟩,⟨#[105,109,103]⟩,⟨#[115,99,114,105,112,116]⟩,⟨#[105,102,114,97,109,101]⟩,⟨#[101,109,98,101,100]⟩,⟨#[111,98,106,101,99,116]⟩,⟨#[118,105,100,101,111]⟩,⟨#[118,105,100,101,111]⟩,⟨#[97,117,100,105,111]⟩,⟨#[115,111,117,114,99,101]⟩,⟨#[116,114,97,99,107]⟩,⟨#[105,110,112,117,116]⟩,⟨#[105,110,112,117,116]⟩,⟨#[98,117,116,116,111,110]⟩,⟨#[102,111,114,109]⟩,⟨#[98,108,111,99,107,113,117,111,116,101]⟩,⟨#[113]⟩,⟨#[105,110,115]⟩,⟨#[100,101,108]⟩,⟨#[98,111,100,121]⟩]
def TH:List A9:=[⟨#[104,114,101,102]⟩,⟨#[104,114,101,102]⟩,⟨#[104,114,101,102]⟩,⟨#[115,114,99]⟩,⟨#[108,111,110,103,100,101,115,99]⟩,⟨#[115,114,99]⟩,⟨#[115,114,99]⟩,⟨#[115,114,99]⟩,⟨#[100,97,116,97]⟩,⟨#[115,114,99]⟩,⟨#[112,111,115,116,101,114]⟩,⟨#[115,114,99]⟩,⟨#[115,114,99]⟩,⟨#[115,114,99]⟩,⟨#[115,114,99]⟩,⟨#[102,111,114,109,97,99,116,105,111,110]⟩,⟨#[102,111,114,109,97,99,116,105,111,110]⟩,⟨#[97,99,116,105,111,110]⟩,⟨#[99,105,116,101]⟩,⟨#[99,105,116,101]⟩,⟨#[99,105,116,101]⟩,⟨#[99,105,116,101]⟩,⟨#[98,97,99,107,103,114,111,117,110,100]⟩]
def Ox:List A9:=[⟨#[105,109,103]⟩,⟨#[115,111,117,114,99,101]⟩,⟨#[108,105,110,107]⟩]
def Sv:List A9:=[⟨#[115,114,99,115,101,116]⟩,⟨#[115,114,99,115,101,116]⟩,⟨#[105,109,97,103,101,115,114,99,115,101,116]⟩]
def Pe:List A9:=[⟨#[109,101,116,97]⟩]
def Tv:List A9:=[⟨#[99,111,110,116,101,110,116]⟩]
def elR:Nat->List A9
 |1=>PZ|2=>Ox|_=>Pe
def nmR:Nat->List A9
 |1=>TH|2=>Sv|_=>Tv
def Ayc(w:A7):AD A8 33 #[.int .i64 1] w (PW PZ TH w):=by
 go_in;go_wp2_with(first|(refine KV 7 rfl PZ 23 rfl rfl AE AE AO ?_)|(refine KV 8 rfl TH 23 rfl rfl AE AE AO ?_));go_ret2;refine⟨_,_,rfl,?_,?_,(Ah _ _).alloc AN _⟩
 ·exact(CA.built w 9 PZ _).below (Ah _ _) (AG _)
 have:=CA.built (w.alloc (.cells (PZ.map Value.string).toArray 9)) 9 TH PZ.length;exact Rq
def Auz(w:A7):AD A8 33 #[.int .i64 2] w (PW Ox Sv w):=by
 go_in;go_wp2_with(first|(refine KV 11 rfl Ox 3 rfl rfl AE AE AO ?_)|(refine KV 12 rfl Sv 3 rfl rfl AE AE AO ?_));go_ret2;refine⟨_,_,rfl,?_,?_,(Ah _ _).alloc AN _⟩
 ·exact(CA.built w 9 Ox _).below (Ah _ _) (AG _)
 have:=CA.built (w.alloc (.cells (Ox.map Value.string).toArray 9)) 9 Sv Ox.length;exact Rq
def Auw(w:A7):AD A8 33 #[.int .i64 3] w (PW Pe Tv w):=by
 go_in;go_wp2_with(first|(refine KV 15 rfl Pe 1 rfl rfl AE AE AO ?_)|(refine KV 16 rfl Tv 1 rfl rfl AE AE AO ?_));go_ret2;refine⟨_,_,rfl,?_,?_,(Ah _ _).alloc AN _⟩
 ·exact(CA.built w 9 Pe _).below (Ah _ _) (AG _)
 have:=CA.built (w.alloc (.cells (Pe.map Value.string).toArray 9)) 9 Tv Pe.length;exact Rq
def AuI(k:Nat)(h:1<=k)(a:k<=3)(w:A7):AD A8 33 #[.int .i64 (k:Int)] w (PW (elR k) (nmR k) w):=by
 match k,h,a with
 |1,_,_=>exact Ayc w|2,_,_=>exact Auz w|3,_,_=>exact Auw w
def Ame(k:Nat):(nmR k).length=(elR k).length/\(elR k).length<=23:=by
 match k with
 |0=>exact⟨rfl,AE⟩|1=>exact⟨rfl,AE⟩|2=>exact⟨rfl,AE⟩|_+3=>exact⟨rfl,by show 1<=23;decide⟩
def JD(k:Nat)(e n:A5):Bool:=((elR k).zip (nmR k)).any λp=>p.1.toList==e&&p.2.toList==n
def NV(e n:A5):Nat:=if JD 1 e n=true then 1 else if JD 2 e n=true then 2 else if JD 3 e n=true then 3 else 0
variable{e:A5}
def ApY{i:Nat}(h1:i<(elR k).length)(d:i<(nmR k).length)(b:((elR k)[i].toList==e)=true)(c:((nmR k)[i].toList==n)=true):JD k e n=true:=by
 unfold JD;rw[List.any_eq_true];have a:i<((elR k).zip (nmR k)).length:=by rw[List.length_zip];omega
 refine⟨((elR k)[i],(nmR k)[i]),?_,by rw[b,c];rfl⟩;have:=CI a;rwa[List.getElem_zip]at this
def Aqr(h:∀i(h1:i<(elR k).length)(d:i<(nmR k).length),((elR k)[i].toList==e&&(nmR k)[i].toList==n)=false):JD k e n=false:=by
 unfold JD;rw[Mp];rintro⟨a,b⟩ c;have⟨i,hi,e1⟩:=List.mem_iff_getElem.1 c;rw[List.length_zip]at hi;rw[List.getElem_zip]at e1;have⟨rfl,rfl⟩:=Prod.mk.inj e1;rw[h i A4 A4];decide
def Azz(h:1<=k)(b:k<=3)(c:∀j,1<=j->j<k->JD j e n=false)(a:JD k e n=true):NV e n=k:=by
 unfold NV
 match k,h,b with
 |1,_,_=>rw[AC a]|2,_,_=>rw[AA AS,AC a]|3,_,_=>rw[AA AS,AA AS,AC a]
def AzI(a:∀j,1<=j->j<4->JD j e n=false):NV e n=0:=by
 unfold NV;rw[AA AS,AA AS,AA AS]
def ApV(s t:A9)(w:A7)(P:s.size<=1000)(S:t.size<=1000):AD A8 13 #[.string s,.string t] w (Ao0 w (NV (BH s) (BH t):Nat)):=by
 obtain⟨R,f⟩:=AI (NV (BH s) (BH t));rw[f];replace f:=H0 f;go_in;go_wp2_with fail;go_call O1 as e w1⟨E,rfl,hE,b⟩;go_wp2_with fail;go_call O1 as e w2⟨N,rfl,hN,a⟩;have a:=b.next a;rw[<-hE.out,<-hN.out]at f;clear b;go_wp2;go_loopw[7,8,9,10] (λu U O p wr=>∃k:Nat,u=.int .i64 (k:Int)/\1<=k/\k<=4/\AF w w wr/\Hid (∀j,1<=j->j<k->JD j E N.toList=false)) (λu _ _ _ _=>4-(intOf u).toNat)
 ·exact⟨1,rfl,AE,AE,a,H0 (λj h1 c=>A4)⟩
 obtain⟨k,rfl,I,J,hbel,d⟩:=hrel;by_cases v:k<=3
 ·have K:IntKind.i64.wrap ((k:Int)+1)=(k:Int)+1:=BI _ A4;go_wp2_with fail;go_call AuI as e w3⟨a1,a2,rfl,hL,hT,hb3⟩;have hbel:=hbel.next hb3;have⟨hl2,hl3⟩:=Ame k;clear hb3 a;have⟨x1,c1,e1,hc1⟩:=hL;have⟨x2,c2,e2,hc2⟩:=hT;obtain⟨n,l⟩:∃n,(elR k).length=n:=⟨_,rfl⟩;rw[l]at e1 e2 hl2 hl3;obtain⟨rfl,-⟩:a1=x1/\n=c1:=by simpa using e1
  obtain⟨rfl,-,-⟩:a2=x2/\n=(nmR k).length/\n=c2:=by simpa using e2
  clear e1 e2;rw[l];change Hid _ at hc1 hc2 l hl2;go_wp2;go_loop[10] (λp=>∃i:Nat,p=.int .i64 (i:Int)/\i<=n/\Hid (∀j(h1:j<(elR k).length)(c:j<(nmR k).length),j<i->((elR k)[j].toList==E.toList&&(nmR k)[j].toList==N.toList)=false)) (λp=>n-(intOf p).toNat)
  ·exact⟨0,rfl,AR _,H0 (λj _ _ h=>A4)⟩
  obtain⟨i,rfl,V,G⟩:=hrel;by_cases m:i<n
  ·have F:i<(elR k).length:=by rw[l.out];exact m
   have o:i<(nmR k).length:=by rw[hl2.out];exact m
   obtain⟨T,M,rfl,z⟩:=hc1.out A4;obtain⟨g2,Q,rfl,B⟩:=hc2.out A4;have C:=z i F;have r:=B i o;obtain⟨x,hx⟩:=AI ((elR k)[i]);obtain⟨y,A⟩:=AI ((nmR k)[i]);rw[hx]at C;rw[A]at r;obtain⟨b1,b⟩:=AI ((x.toList==E.toList));obtain⟨b2,a⟩:=AI ((y.toList==N.toList));have aC:(b1&&b2)=false->Hid (∀j(h1:j<(elR k).length)(c:j<(nmR k).length),j<i+1->((elR k)[j].toList==E.toList&&(nmR k)[j].toList==N.toList)=false):=λh=>H0 (λj h1 c L=>by
    by_cases D:j=i
    ·subst D;rw[hx,A,b,a];exact h
    exact G.out j h1 c A4)
   have g:b1=true->b2=true->Hid (R=k):=λh1 c=>H0 (f.out.symm.trans (Azz I v d (ApY F o (by rw[hx,b,h1]) (by rw[A,a,c]))));have H:IntKind.i64.wrap ((i:Int)+1)=(i:Int)+1:=BI _ A4;cases b1 with
   |false=>
    exact Afw
   |true=>
    cases b2 with
    |false=>
     exact Afw
    |true=>
     have hf:=g rfl rfl;exact UE
  have aC:=A6 (∀j,1<=j->j<k+1->JD j E N.toList=false) (λj h1 c=>by
   by_cases D:j=k
   ·subst D;exact Aqr (λq h1 c=>G.out q h1 c (by rw[l.out]at h1;omega))
   exact d.out j h1 A4)
  go_wp2;go_roundw;exact⟨k+1,AP,A4,A4,hbel,aC⟩;exact AzF
 have hf:=H0 (f.out.symm.trans (AzI (λj h1 c=>d.out j h1 A4)));exact UE
end Go.Proofs.YtonomfeipkdmhaaGreatDoor
