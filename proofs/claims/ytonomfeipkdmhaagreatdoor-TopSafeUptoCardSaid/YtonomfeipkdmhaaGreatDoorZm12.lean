/- Lemmas. -/
import Derived.Test.YtonomfeipkdmhaaGreatDoorZm08
import Derived.Test.YtonomfeipkdmhaaGreatDoorZm10
import Derived.Maps.AppendAt
set_option linter.all false
set_option maxRecDepth 100000
set_option maxHeartbeats 16000000
namespace Go.Proofs.YtonomfeipkdmhaaGreatDoor
open Go renaming wpList->Aq,Program->Dj,maxLen->BK,Operand->CV,World->A7,Calls->AD,Value->AJ,TypeId->Ab
open Go.RowKit renaming Below->AF
open Go.RowKit Go.Proofs.Tryz
open Go.Proofs.Tryz renaming prog->A8
def Atd(s:A9)(d:Bool)(w:A7)(L:s.size<=1000000000):AD A8 188 #[.string s,.bool d] w (NL (Bs (B8 d) s.toList) w):=by
 obtain⟨R,p⟩:=AI (Bs (B8 d) s.toList);rw[p];replace p:=H0 p;have v:=H0 (O9 (B8 d));go_in;go_wp2;go_loopw[5,6,7] (λv5 E q wr=>∃(f k:Nat)(l:List A9),E=.int .i64 (f:Int)/\q=.int .i64 (k:Int)/\f<=k/\k<=s.size+1/\l.length<=k/\OwnS wr w 9 v5 l/\AF w w wr/\Hid (k<=s.size->R=l.map (·.toList)++Kv (s.extract f k).toList (Bs (B8 d) (s.toList.drop k)))/\Hid (k=s.size+1->l.map (·.toList)=R)) (λ_ _ q _=>s.size+1-(intOf q).toNat)
 ·exact⟨0,0,[],rfl,rfl,AG _,AR _,AR _,OwnS.nil _ _ _,AU _ _,H0 (λ_=>by rw[C9,PH,Zq (v.out _),p.out];rfl),H0 (λh=>A4)⟩
 obtain⟨f,k,l,rfl,rfl,r,I,H,c,a,z,o⟩:=hrel;have y:=a.size;have C:(f:Int)<=k:=A4;have K:0<=(f:Int):=A4;by_cases m:k<s.size
 ·have A:(k:Int)<s.size:=A4;have J:(k:Int)<=s.size:=A4;have F:((k:Int)==s.size)=false:=DV;have g:=z.out A4;rw[Aw s k m]at g;have x:=Tl s f k r m;have B:((s[k].toNat:Int)==47)=(s[k]==47):=eqI _ 47;have G:((s[k].toNat:Int)==92)=(s[k]==92):=eqI _ 92;have e:B8 d s[k]=(s[k]==47||(d&&s[k]==92)):=rfl;generalize n:B8 d s[k]=N at e;generalize(s[k]==47)=b1 at B e;generalize(s[k]==92)=b2 at G e;have b:(N=true/\(b1=true\/(b1=false/\d=true/\b2=true)))\/(N=false/\b1=false/\(d=false\/(d=true/\b2=false))):=by
   rw[e];cases b1<;>cases b2<;>cases d<;>simp
  clear e;rcases b with⟨rfl,b⟩|⟨rfl,rfl,b⟩
  ·rw[Agm n]at g;have u:=A6 (k+1<=s.size->R=(l++[s.extract f k]).map (·.toList)++Kv (s.extract (k+1) (k+1)).toList (Bs (B8 d) (s.toList.drop (k+1)))) (λ_=>by
    rw[g,PH,Dx,CQ];rfl)
   change Hid _ at n x;clear g;rcases b with rfl|⟨rfl,rfl,rfl⟩;all_goals
    go_wp2_with(at_builtin;refine LH Es rfl _ _ rfl rfl rfl c a y C1 A4 ?_;intro D w' i t _);go_roundw;exact⟨k+1,k+1,l++[s.extract f k],AP,AP,A4,A4,B7,i,t,u,H0 (λh=>A4)⟩;exact AzF
  rw[Agh n,<-x]at g;have u:=A6 (k+1<=s.size->R=l.map (·.toList)++Kv (s.extract f (k+1)).toList (Bs (B8 d) (s.toList.drop (k+1)))) (λ_=>g);replace n:=H0 n;clear g;rcases b with rfl|⟨rfl,rfl⟩;all_goals
   go_wp2;go_roundw;exact⟨f,k+1,l,rfl,AP,A4,A4,A4,c,a,u,H0 (λh=>A4)⟩;exact AzF
 by_cases j:k=s.size
 ·have F:((k:Int)==s.size)=true:=M9;have A:(k:Int)<=s.size:=A4;have hf:=A6 (k+1=s.size+1->(l++[s.extract f k]).map (·.toList)=R) (λ_=>by
   rw[z.out A4,CP s k A4,Dx];show _=_++[(s.extract f k).toList++[]];rw[Bq];rfl)
  replace j:=H0 j;go_wp2_with(at_builtin;refine LH Es rfl _ _ rfl rfl rfl c a y C1 A4 ?_;intro D w' i t _);go_roundw;exact⟨k+1,k+1,l++[s.extract f k],AP,AP,A4,by have:=j.out;omega,B7,i,t,H0 (λh=>by have:=j.out;omega),hf⟩;simp[intOf];have:=j.out;omega
 have A:(s.size:Int)<k:=A4;have hf:=H0 (o.out A4);go_wp2;go_ret;exact⟨_,l,rfl,hf,c,a⟩
variable{g:Nat}
def VO{P:Dj}{T E:Ab}{z:AJ}{b:Nat}(ty:Fs P T E z b){ops:Array Oper}{rest:List Oper}{o:Oper}{a:Act}{Q:Exit->Act->A7->Prop}(D:o.guard=none)(s x:CV)(F:o.op=.call {callee:=.builtin .append,args:= #[s,x],argTypes:= #[T,T]}){W0 w0:A7}{B:Nat}{v:AJ}{l:List A9}{t:A9}(C:a.eval s=v)(hx:a.eval x=.slice (some ⟨w0,0,none⟩) 1 1)(c:OwnS w0 B E v l)(j:AF B W0 w0)(w:B<=w0.heap.size)(n:l.length+1<=BK)(H:(l.length+1)*b<=140737488355328)(G:g<w0.heap.size)(m:v.ownBlock≠some g)(h:∀f w',OwnS w' B E f (l++[t])->AF B W0 w'->f.ownBlock≠some g->w'.heap[g]?=w0.heap[g]? ->g<w'.heap.size->Aq P ops Q rest (a.put o.dst f) w'):Aq P ops Q (o::rest) a (w0.alloc (.cells #[.string t] E)):=by
 have⟨i,hi,hz,hs1,hb1⟩:=ty.i;refine wpList_append_own_at (w0.alloc (.cells #[.string t] E)) D s x T F B E i z 1 b ty.u hi hz hs1 hb1 ty.z AE v l.length (l.map Value.string) C (c.alloc _) ⟨w0,0,none⟩ 1 1 [.string t] hx rfl
  (Uh w0 _ E) (by intro y r;simp at r;subst r;rfl) n H B7 ?_
 intro f w' d p J q;have I:(w0.alloc (.cells #[.string t] E)).heap.size=w0.heap.size+1:=AN;refine h f w' ?_ ((j.alloc w _).grown p A4 (λk A=>(c.lt k A).1)) ?_ ?_ (by have:=p.size;omega)
 ·unfold OwnS;rw[Aa,Dx];exact d
 ·rcases q with e|e
  ·rw[e];exact m
  rw[e];intro h;have:=Cm h;omega
 rw[p.block g A4 (λe=>m e.symm)];exact Lib.alloc_old w0 _ g G
def AsA{w:A7}{B:Nat}{E:Ab}{v:AJ}{l:List A9}(h:OwnS w B E v l)(d:g<B):v.ownBlock≠some g:=by
 rcases h.2 with⟨rfl,_⟩|⟨g',b,a,rfl,c,_⟩
 ·intro e;cases e
 intro e;have:=Cm e;simp at this;omega
def Ae4{w w':A7}{o:Nat}(h:w'.heap[g]?=w.heap[g]?):w'.cell? ⟨g,o,none⟩=w.cell? ⟨g,o,none⟩:=by
 simp[World.cell?,h]
def UU(sch:A9)(pa:Option Addr)(n c:Nat)(l:List A9)(s:A9)(w:A7)(H:EX w pa n c l)(hn:n<=1000000)(hc:n<=c)(hz:s.size<=1100000)(hl:∀t∈l,t.size<=4294967296):AD A8 119 #[.string sch,.slice pa n c,.string s] w (NL (DE sch (l.map (·.toList)) s.toList) w):=by
 obtain⟨R,hR⟩:∃R,DE sch (l.map (·.toList)) s.toList=R:=⟨_,rfl⟩;rw[hR];unfold DE at hR;have aQ:=Ah w (.cells #[] 9);have hpW:=H.below aQ (AG _);have bH:=H.len;obtain⟨T,S⟩:(pa=none->c=0/\l=[])/\(0<l.length->∃g o,pa=some ⟨g,o,none⟩/\∀i(h:i<l.length),(w.alloc (.cells #[] 9)).cell? ⟨g,o+i,none⟩=some (.string l[i])):=by
  obtain⟨rfl,⟨a1,c1,hv,d⟩,aX⟩:=hpW;obtain⟨rfl,-,rfl⟩:pa=a1/\l.length=l.length/\c=c1:=La;refine⟨λh=>⟨aX h,?_⟩,d⟩;cases l with
  |nil=>rfl
  |cons a r=>obtain⟨g,o,e,_⟩:=d AN;rw[h]at e;cases e
 clear H hpW;have qM:=H0 (QA sch);obtain⟨SP,U⟩:=AI (Ar sch);rw[U]at qM hR;replace U:=H0 U;have jK:=H0 (λw=>Atd s SP w A4);have W:=Wx (B8 SP) s.toList;have E:=O9 (B8 SP) s.toList;obtain⟨P,hP⟩:=AI (Bs (B8 SP) s.toList);rw[hP]at jK W hR E;change Hid _ at hP hR;rw[AK]at W;obtain⟨qQ,hpl2⟩:=W;change Hid _ at qQ hl T S;have aY:=A6 (l.length=n) bH;go_in;go_wp2_with(refine Lb Es rfl (.tmp 12) (.tmp 13) rfl l pa c rfl MR T S (OwnS.empty (AG _)) aQ aQ.size Y1 (by rw[aY.out];simp;omega) ?_;intro v1 w1 i9 hb1);rw[Do]at i9;refine(qM.out _).mono (AH ?_);go_wp2_with fail;refine(jK.out _).mono ?_;rintro e w2⟨v2,ps,rfl,hps,bK,L⟩;have ho2:=HR i9 L (AG _);have aE:=hb1.next L;obtain⟨n2,hn2⟩:=AI (ps.length);have hPl:P.length=n2:=by rw[<-hps.out,Bz,hn2]
 have hn20:0<n2:=by rw[<-hPl];exact FV.2 E
 have hn2b:n2<=1100001:=A4;obtain⟨g2,cap2,bF,hg2l,rfl⟩:∃g z,w1.heap.size<=g/\g<w2.heap.size/\v2=.slice (some ⟨g,0,none⟩) ps.length z:=by
  rcases bK.2 with⟨_,Z⟩|⟨g,z,cur,rfl,hg,hh,_⟩
  ·omega
  exact⟨g,z,hg,(En.1 hh).1,rfl⟩
 have d:∀k(hk:k<ps.length),w2.cell? ⟨g2,k,none⟩=some (.string ps[k]):=λk hk=>by
  have:=KH bK k A4;simpa[hk]using this
 have hne1:v1.ownBlock≠some g2:=by
  rcases i9.2 with⟨rfl,_⟩|⟨g',z,cur,rfl,m,hh,_⟩
  ·intro e;cases e
  intro e;have e1:=Cm e;have:=(En.1 hh).1;simp at e1;omega
 replace d:=H0 d;rw[hn2];clear bK i9 T S aQ;go_wp2_with fail;go_loopw[7,9] (λv7 v9 wr=>∃(k:Nat)(out:List A9),v9=.int .i64 (k:Int)/\k<=n2/\OwnS wr w 9 v7 out/\AF w w wr/\v7.ownBlock≠some g2/\wr.heap[g2]?=w2.heap[g2]? /\g2<wr.heap.size/\Hid (Dk sch (out.map (·.toList)) (P.drop k)=R)/\out.length<=n+k/\Hid (∀t∈out,t.size<=4294967296)) (λ_ v9 _=>n2-(intOf v9).toNat)
 ·exact⟨0,l,rfl,AR _,ho2,aE,hne1,rfl,hg2l,H0 RC,A4,hl⟩
 clear ho2 aE hb1 L;obtain⟨k,out,rfl,hk,j,f,A,Q,X,hg,sL,Y⟩:=hrel;have bD:=f.size;by_cases hlt:k<n2
 ·have yP:k<P.length:=A4;have dL:k<ps.length:=A4;have ck:=(Ae4 (o:=k) Q).trans (d.out k dL);have wV:ps[k].toList=P[k]:=by
   exact Abt
  have b:=hg.out;rw[Ahd yP,<-wV]at b;have htz:ps[k].size<=1100000:=by
   rw[<-AK,wV];have:=qQ.out P[k] (CI yP);omega
  obtain⟨t,ht⟩:=AI (ps[k]);rw[ht]at ck b htz;change Hid _ at ht wV Q A;have hLB:((k:Int)==n2-1)=decide (k+1=P.length):=by
   exact AgN
  obtain⟨LB,mK⟩:=AI (decide (k+1=P.length));rw[mK]at hLB b;replace mK:=H0 mK;have bY:=H0 (λw=>Amy t w A4);have oX:=H0 (λw=>Za t w);have aL:=H0 (λw=>X8 t w A4);have gC:=H0 (λw=>Ms t 4 AE w A4);obtain⟨y,c8,rfl,jD⟩:=EX.own j;have mL:out.length<=c8:=by
   rcases j.2 with⟨e,Z⟩|⟨g',z,cur,e,_,_,bE,_⟩
   ·simp at e;omega
   simp at e;omega
  have fY:=H0 (λw1(hb:AF wr wr w1)=>Avi sch y _ c8 out w1 (jD.below hb (AG _)) A4 mL Y);unfold Gh at b;have qA:=H0 (λh=>Acp (l:=t.toList) h);obtain⟨D1,hD1⟩:=AI (G1 t);obtain⟨D2,j0⟩:=AI (EG t);obtain⟨V,hV⟩:=AI (E6 t);rw[hD1]at bY b;rw[j0]at oX b;rw[hV]at aL b qA;change Hid _ at hD1 j0 hV jD;have fJ:∀(x:A9),x.size<=4294967296->∀l6:List A9,(∀t∈l6,t.size<=4294967296)->∀t∈l6++[x],t.size<=4294967296:=λx hx l6 h t ht=>by
   exact Akz
  replace fJ:=H0 fJ;cases D1 with
  |true=>
   rw[AC rfl]at b;go_wp2_with(go_at_call 189;refine(bY.out _).mono (AH ?_));refine(fY.out wr (AU _ _)).mono ?_;rintro e w4⟨v',B,rfl,zH,dW,O⟩;have aU:=f.trans (O.mono bD);have cK:=aU.size;have G:=AsA dW X;have tO:w4.heap[g2]?=w2.heap[g2]? :=(O.block g2 X).trans Q;have D:g2<w4.heap.size:=by have:=O.size;omega
   have eZ:OwnS w4 w 9 v' B:=Jl dW bD;have pY:=A6 (B.length<=out.length/\∀t∈B,t.size<=4294967296) (by
    have hlen:B.length=(CK sch (out.map (·.toList))).length:=by rw[<-zH.out,Bz]
    have s9:∀p∈CK sch (out.map (·.toList)),p∈out.map (·.toList):=λp H=>by
     unfold CK at H;split at H
     ·exact H
     exact(SE _).subset H
    refine⟨?_,λt ht=> ?_⟩
    ·rw[hlen];unfold CK;split<;>simp
    have hm:t.toList∈CK sch (out.map (·.toList)):=by rw[<-zH.out];exact OZ ht
    obtain⟨u,hu,e⟩:=EU.1 (s9 _ hm);rw[<-AK,<-e,AK];exact Y.out u hu)
   have hll:=pY.out.1;have I:=H0 pY.out.2;cases LB with
   |true=>
    have hf:=A6 (Dk sch ((B++[⟨#[]⟩]:List A9).map (·.toList)) (P.drop (k+1))=R) (by
     rw[<-b,AC rfl,Dx,zH.out,VF])
    change Hid _ at b tO;go_wp2_with(at_builtin;refine VO (v:=v') Es rfl _ _ rfl rfl rfl eZ aU cK C1 A4 D G ?_;intro M w' q J N K m);go_roundw;exact⟨k+1,B++[⟨#[]⟩],AP,A4,q,J,N,K.trans tO,m,hf,B7,H0 (fJ.out ⟨#[]⟩ AE B I)⟩;exact AzF
   |false=>
    have hf:=A6 (Dk sch (B.map (·.toList)) (P.drop (k+1))=R) (by
     rw[<-b,AA AE,zH.out])
    change Hid _ at b tO;go_wp2_with fail;go_roundw;exact⟨k+1,B,AP,A4,eZ,aU,G,tO,D,hf,A4,I⟩;exact AzF
  |false=>
   rw[AA AE]at b;cases D2 with
   |true=>
    rw[AC rfl]at b;cases LB with
    |true=>
     have hf:=A6 (Dk sch ((out++[⟨#[]⟩]:List A9).map (·.toList)) (P.drop (k+1))=R) (by
      rw[<-b,AC rfl,Dx,VF])
     replace b:=H0 b;go_wp2_with(first|(go_at_call 189;refine(bY.out _).mono (AH ?_))|(go_at_call 190;refine(oX.out _).mono (AH ?_))|(at_builtin;refine VO (v:=.slice y out.length c8) Es rfl _ _ rfl rfl rfl j f bD C1 A4 X A ?_;intro M w' q J N K m));go_roundw;exact⟨k+1,out++[⟨#[]⟩],AP,A4,q,J,N,K.trans Q,m,hf,B7,H0 (fJ.out ⟨#[]⟩ AE out Y)⟩;exact AzF
    |false=>
     have hf:=A6 (Dk sch (out.map (·.toList)) (P.drop (k+1))=R) (by
      rw[<-b,AA AE])
     replace b:=H0 b;go_wp2_with(first|(go_at_call 189;refine(bY.out _).mono (AH ?_))|(go_at_call 190;refine(oX.out _).mono (AH ?_)));go_roundw;exact⟨k+1,out,AP,A4,j,f,A,Q,X,hf,A4,Y⟩;exact AzF
   |false=>
    rw[AA AE]at b;obtain⟨F,hF⟩:=AI ((sch.toList==[102,105,108,101]));have gE:(sch.toList==Av)=F:=hF;rw[gE]at b;replace gE:=H0 gE;have pF:(out.map (·.toList)).isEmpty=decide (out.length=0):=by cases out<;>rfl
    rw[pF]at b;clear pF;by_cases hA:F=true/\out.length=0/\V=true
    ·obtain⟨rfl,Z,rfl⟩:=hA;have wJ:((out.length:Int)==0)=true:=M9;have yL:t.size=2:=by rw[<-AK];exact qA.out rfl
     have fL:(t.extract 0 1).size=1:=Bk;have hf:=A6 (Dk sch ((out++[t.extract 0 1++⟨#[58]⟩]:List A9).map (·.toList)) (P.drop (k+1))=R) (by
      rw[<-b,AC (by simp[Z]),Dx];congr 2;show[(t.extract 0 1++⟨#[58]⟩).toList]=_;rw[toList_append,toList_extract,C9,show(ByteArray.mk #[58]).toList=[58]from toList_mk [58]])
     change Hid _ at b Z;have lS:(t.extract 0 1++⟨#[58]⟩:A9).size<=4294967296:=by
      rw[Ix,fL];decide
     go_wp2_with(first|(go_at_call 189;refine(bY.out _).mono (AH ?_))|(go_at_call 190;refine(oX.out _).mono (AH ?_))|(go_at_call 118;refine(aL.out _).mono (AH ?_))|(at_builtin;refine VO (v:=.slice y out.length c8) Es rfl _ _ rfl rfl rfl j f bD C1 A4 X A ?_;intro M w' q J N K m));go_roundw;exact⟨k+1,out++[t.extract 0 1++⟨#[58]⟩],AP,A4,q,J,N,K.trans Q,m,hf,B7,H0 (fJ.out _ lS out Y)⟩;exact AzF
    have gT:=A6 (Dk sch (out.map (·.toList)++[Ai 4 t.toList]) (P.drop (k+1))=R) (by
     rw[<-b,AA (by
      intro h;simp only[C0,JY]at h;exact hA ⟨h.1.1,h.1.2,h.2⟩)])
    have hway:F=false\/(F=true/\((out.length:Int)==0)=false)\/(F=true/\((out.length:Int)==0)=true/\V=false):=by
     cases F
     ·exact .inl rfl
     by_cases Z:out.length=0
     ·refine .inr (.inr ⟨rfl,M9,?_⟩);cases V
      ·rfl
      exact absurd ⟨rfl,Z,rfl⟩ hA
     exact .inr (.inl ⟨rfl,DV⟩)
    change Hid _ at b hA;rcases hway with rfl|⟨rfl,wJ⟩|⟨rfl,wJ,rfl⟩;all_goals
     go_wp2_with(first|(go_at_call 189;refine(bY.out _).mono (AH ?_))|(go_at_call 190;refine(oX.out _).mono (AH ?_))|(go_at_call 118;refine(aL.out _).mono (AH ?_)));refine(gC.out _).mono ?_;rintro e w5⟨t2,rfl,ht2,C⟩;have eH:=f.trans (C.mono bD);have dI:=eH.size;have eZ:OwnS w5 w 9 (.slice y out.length c8) out:=HR j C (AG _);have mP:w5.heap[g2]?=w2.heap[g2]? :=(C.block g2 X).trans Q;have hgl5:g2<w5.heap.size:=by have:=C.size;omega
     have kZ:t2.size<=4294967296:=by
      rw[<-AK,ht2.out];have:=I3 4 t.toList;rw[AK]at this;omega
     have hf:=A6 (Dk sch ((out++[t2]).map (·.toList)) (P.drop (k+1))=R) (by
      rw[<-gT.out,Dx,<-ht2.out];rfl)
     replace mP:=H0 mP;go_wp2_with(at_builtin;refine VO (v:=.slice y out.length c8) Es rfl _ _ rfl rfl rfl eZ eH dI C1 A4 hgl5 A ?_;intro M w' q J N K m);go_roundw;exact⟨k+1,out++[t2],AP,A4,q,J,N,K.trans mP,m,hf,B7,H0 (fJ.out t2 kZ out Y)⟩;exact AzF
 have hf:=A6 (out.map (·.toList)=R) (by rw[<-hg.out,Cj A4];rfl);go_wp2_with fail;go_ret;exact⟨_,out,rfl,hf,j,f⟩
variable{a b:A5}
def Zk(h:b≠[]):(a++b).getLast?=b.getLast?:=by
 rw[PK];cases hb:b.getLast? with
 |none=>exact absurd (List.getLast?_eq_none_iff.1 hb) h|some x=>rfl
def NB(scheme:A5)(o:Option Nat):Prop:=∀n,o=some n->n<=65535/\Kh scheme≠some n
inductive Av4 (u:AZ):Prop where
 |file (s:u.scheme=Av) (o:u.opq=false) (us:u.user=[]) (ps:u.pass=[]) (po:u.port=none) (pa:u.path≠[]) (h:u.host=.empty\/(F6 true u.host/\u.host≠ .name GQ))
 |special (s:u.scheme≠Av) (sp:Ar u.scheme=true) (o:u.opq=false) (pa:u.path≠[]) (h:F6 true u.host) (po:NB u.scheme u.port)
 |net (sp:Ar u.scheme=false) (o:u.opq=false) (h:F6 false u.host) (po:NB u.scheme u.port) (e:u.host=.empty->u.user=[]/\u.pass=[]/\u.port=none)
 |plain (sp:Ar u.scheme=false) (o:u.opq=false) (h:u.host=.none) (us:u.user=[]) (ps:u.pass=[]) (po:u.port=none) (pa:u.path≠[])
 |flat (sp:Ar u.scheme=false) (o:u.opq=true) (h:u.host=.none) (us:u.user=[]) (ps:u.pass=[]) (po:u.port=none) (pa:u.path=[]) (fl:∀c∈u.flat,Bv 0 c=false/\c≠35/\c≠63) (hd:u.flat.head?≠some 47) (la:u.flat.getLast?≠some 32)
structure BA(u:AZ):Prop where
 scheme:Ef u.scheme=true/\BH u.scheme=u.scheme
 query:∀q,u.query=some q->∀c∈q,Bv (FU u.scheme) c=false
 frag:∀f,u.frag=some f->∀c∈f,Bv 1 c=false
 user:∀c∈u.user,Bv 5 c=false
 pass:∀c∈u.pass,Bv 5 c=false
 path:Cn u.scheme u.path
 flat:u.opq=false->u.flat=[]
 kind:Av4 u
def Awk:∀n:UInt8,FS (Ds n)=FS n/\CE ((Ds n).toNat:Int)=CE (n:Int)/\Ds (Ds n)=Ds n:=DZ AX
def Y6(c:UInt8):FS (Ds c)=FS c/\CE ((Ds c).toNat:Int)=CE (c:Int)/\Ds (Ds c)=Ds c:=Awk c
variable{s:A5}
def Ayt(h:Ef s=true):Ef (BH s)=true/\BH (BH s)=BH s:=by
 refine⟨?_,?_⟩
 ·cases s with
  |nil=>cases h
  |cons c r=>
   unfold Ef at h;rw[C0]at h;show(CE ((Ds c).toNat:Int)&&(BH r).all FS)=true;rw[(Y6 c).2.1,h.1,JM,Et];intro x hx;obtain⟨y,a,rfl⟩:=EU.1 hx;rw[(Y6 y).1];exact Et.1 h.2 y a
 unfold BH;rw[List.map_map];apply List.map_congr_left;intro c _;exact(Y6 c).2.2
structure R9(p:F9):Prop where
 sch:p.hs=true->Ef p.sch=true/\BH p.sch=p.sch
 rest:∀c∈p.rest,c≠35/\c≠63
 last:p.hq=false->p.hf=false->p.rest.getLast?≠some 32
def Pb(c:UInt8):∀l,∀x∈(AL c l).1,x≠c/\x∈l
 |[],x,h=>(nomatch h)
 |d::r,x,h=>by
  rw[AL]at h;split at h
  ·cases h
  rename_i hd;rcases Bn.1 h with rfl|h
  ·exact⟨hd,CC ..⟩
  exact⟨(Pb c r x h).1,Cr _ (Pb c r x h).2⟩
variable{c:UInt8}
theorem Y0:∀{l},(AL c l).2.2=false->(AL c l).1=l
 |[],_=>rfl
 |d::r,h=>by
  rw[AL]at h⊢;split at h
  ·cases h
  rename_i hd;rw[AA hd];rw[Y0 h]
def Zs:∀{l},(AL c l).2.2=true->l=(AL c l).1++c::(AL c l).2.1
 |[],h=>(nomatch h)
 |d::r,h=>by
  rw[AL]at h⊢;split at h
  ·simp_all
  rename_i hd;rw[AA hd];show d::r=d::((AL c r).1++c::(AL c r).2.1);rw[<-Zs h]
variable{x:UInt8}
theorem TkI(h:(b).getLast?=some x):(a++c::b).getLast?=some x:=by
 rw[PK,List.getLast?_cons,h];rfl
def AbF{p:UInt8->Bool}:∀{l:A5}{x:UInt8},(l.dropWhile p).head?=some x->p x=false
 |[],x,h=>(nomatch h)
 |c::r,x,h=>by
  rw[EF]at h;split at h
  ·exact AbF h
  simp_all
variable{l:A5}
def AxT(h:(JC l).getLast?=some x):Em (x:Int)=false:=by
 unfold JC Bm at h;rw[List.getLast?_reverse]at h;exact AbF h
def Aok{p:UInt8->Bool}(h:l.getLast?=some x)(b:p x=true):(l.filter p).getLast?=some x:=by
 obtain⟨a,rfl⟩:=List.getLast?_eq_some_iff.1 h;rw[Lg,EB,AC b];simp
def At7:(EQ l).getLast?≠some 32:=by
 unfold EQ;cases h:(JC l).getLast? with
 |none=>
  rw[List.getLast?_eq_none_iff]at h;rw[h];simp[HM]
 |some x=>
  have b:∀n:UInt8,Em (n:Int)=false->Ke n=true/\n≠32:=DZ AX;have c:=b x;have a:=c (AxT h);unfold HM;rw[Aok h a.1];intro e;exact a.2 (Cm e)
def AoS{t:A5}(e:t.getLast?≠some 32):R9 (Cq t):=by
 unfold Cq;have hf:=Pb 35 t;have d:=Pb 63 (AL 35 t).1;dsimp only;split
 ·rename_i hs;rw[C0]at hs;have f:=Zs hs.1;refine⟨λ_=>Ayt hs.2,λc hc=> ?_,λh1 b a=> ?_⟩
  ·grind
  grind[Y0,TkI]
 refine⟨λh=>(nomatch h),λc hc=> ?_,λh1 b a=> ?_⟩
 ·grind
 simp_all[Y0]
def AhT(s:A5):R9 (Cq (EQ s)):=AoS At7
def Oq{b:Bool}{set:Nat}(a:set<6){q:A5}(h:GN b (Ai set l)=some q):∀c∈q,Bv set c=false:=by
 unfold GN at h;split at h
 ·cases h;exact O2 a
 ·cases h
def Aa7(s:A5):FU s<6:=by unfold FU;split<;>decide
variable{o:Option Nat}
def Alx(h:Hn a s=some o):NB a o:=by
 intro n b;subst b;unfold Hn at h;split at h
 ·cases h
 split at h
 ·cases h
 split at h
 ·cases h
 split at h
 ·cases h
 ·cases h;exact⟨A4,by assumption⟩
structure Aau(scheme:A5)(a:HI):Prop where
 user:∀c∈a.user,Bv 5 c=false
 pass:∀c∈a.pass,Bv 5 c=false
 host:F6 (Ar scheme) a.host
 port:NB scheme a.port
 empty:a.host=.empty->a.user=[]/\a.pass=[]/\a.port=none
def ArX{n:A5}{a:Bool}(h:ET n a=some .empty):n=[]:=by
 unfold ET at h;split at h
 ·unfold Ja at h;split at h
  ·cases hs:Ca (n.drop 1).dropLast with
   |none=>rw[hs]at h;cases h
   |some l=>rw[hs]at h;cases h
  ·cases h
 split at h
 ·unfold J9 at h;split at h
  ·cases h
  split at h
  ·cases h
  split at h
  ·rename_i m _ _ _;cases hp:CT m with
   |none=>rw[hp]at h;cases h
   |some k=>rw[hp]at h;cases h
  ·cases h
 unfold MM at h;split at h
 ·rename_i he;exact List.isEmpty_iff.1 he
 split at h
 ·cases h
 ·cases h
def AvE{p:A5}(h:MN s=some ([],p)):s=[]/\p=[]:=by
 unfold MN at h;split at h
 ·split at h
  ·cases h
  rename_i hn;cases h;exact absurd rfl hn
 simp_all
def Ado{user pass:A5}{a:HI}(hu:∀c∈user,Bv 5 c=false)(f:∀c∈pass,Bv 5 c=false)(i:s=[]->user=[]/\pass=[])(h:El b user pass s=some a):Aau b a:=by
 unfold El at h;split at h
 ·cases h
 rename_i n p hn;split at h
 ·cases h
 rename_i hh ho;split at h
 ·cases h
 rename_i q hq;cases h;refine⟨hu,f,AlZ ho,Alx hq,λe=> ?_⟩;dsimp only at e;rw[e]at ho;have g:=ArX ho;subst g;have⟨h1,h2⟩:=AvE hn;subst h2;have d:=i h1;refine⟨d.1,d.2,?_⟩;unfold Hn at hq;exact(Cm hq).symm
def AtT{a:HI}(h:Gn b s=some a):Aau b a:=by
 unfold Gn at h;split at h
 ·split at h
  ·cases h
  rename_i hr;exact Ado (O2 AE) (O2 AE) (λe=>absurd e hr) h
 refine Ado ?_ ?_ (λ_=>⟨rfl,rfl⟩) h<;>(intro c hc;cases hc)
def Mn(a s:A5):Cn a (FT a s)/\FT a s≠[]:=⟨NJ (Cn.nil _) _,N3 _ _ _⟩
def Axj:Ar Av=true:=AE
structure Vj(u:AZ):Prop where
 scheme:Ef u.scheme=true/\BH u.scheme=u.scheme
 query:∀q,u.query=some q->∀c∈q,Bv (FU u.scheme) c=false
 frag:∀f,u.frag=some f->∀c∈f,Bv 1 c=false
 user:u.user=[]
 pass:u.pass=[]
 port:u.port=none
 opq:u.opq=false
 flat:u.flat=[]
 path:u.path=[]
variable{p:F9}
def Tq(c:Ef a=true/\BH a=a):Vj (BZ a p):=
 ⟨c,λq b=>Oq (Aa7 _) b,λf hf=>Oq AE hf,rfl,rfl,rfl,rfl,rfl,rfl⟩
def NC{p:UInt8->Prop}(h:l=[]):∀c∈l,p c:=by simp_all
variable{u v:AZ}
def Sp(hu:Vj u)(hf:u.scheme≠Av)(h:FC u s=some v):BA v:=by
 unfold FC at h;cases ha:Gn u.scheme (D5 (Ar u.scheme) s).1 with
 |none=>grind
 |some a=>
  simp_all;cases h;have b:=AtT ha;have c:Cn u.scheme (if(Ar u.scheme|| !(D5 (Ar u.scheme) s).2.isEmpty)=true then FT u.scheme (D5 (Ar u.scheme) s).2 else u.path):=by
   split
   ·exact(Mn _ _).1
   rw[hu.path];exact Cn.nil _
  refine⟨hu.scheme,hu.query,hu.frag,b.user,b.pass,c,λ_=>hu.flat,?_⟩;cases hsp:Ar u.scheme
  ·exact .net hsp hu.opq (by have:=b.host;rw[hsp]at this;exact this) b.port b.empty
  refine .special hf hsp hu.opq ?_ (by have:=b.host;rw[hsp]at this;exact this) b.port;show(if(Ar u.scheme||_)=true then _ else _)≠[];rw[hsp];exact(Mn _ _).2
def AgT:Ef Av=true/\BH Av=Av:=AE
def AoG(hu:Vj u)(hf:u.scheme=Av)(b:u.host=.empty)(h:Il u s=some v):BA v:=by
 unfold Il at h;split at h
 ·cases h;exact⟨hu.scheme,hu.query,hu.frag,NC hu.user,NC hu.pass,NJ (Cn.nil _) _,λ_=>hu.flat,.file hf hu.opq hu.user hu.pass hu.port (N3 _ _ _) (.inl b)⟩
 split at h
 ·cases h;exact⟨hu.scheme,hu.query,hu.frag,NC hu.user,NC hu.pass,(Mn _ _).1,λ_=>hu.flat,.file hf hu.opq hu.user hu.pass hu.port (Mn _ _).2 (.inl b)⟩
 split at h
 ·cases h
 rename_i ho hh;cases h;by_cases a:ho=.name GQ
 ·rw[AC a];exact⟨hu.scheme,hu.query,hu.frag,NC hu.user,NC hu.pass,(Mn _ _).1,λ_=>hu.flat,.file hf hu.opq hu.user hu.pass hu.port (Mn _ _).2 (.inl b)⟩
 rw[AA a];exact⟨hu.scheme,hu.query,hu.frag,NC hu.user,NC hu.pass,(Mn _ _).1,λ_=>hu.flat,.file hf hu.opq hu.user hu.pass hu.port (Mn _ _).2 (.inr ⟨AlZ hh,a⟩)⟩
def All{c:List (A5)}(h:Pt c=true):Cn Av (c.take 1):=by
 cases c with
 |nil=>cases h
 |cons p r=>
  have d:Fo p=true:=h;obtain⟨a,b,rfl,g,i⟩:∃a b,p=[a,b]/\Hx a=true/\b=58:=by
   unfold Fo at d;split at d
   ·rename_i a b;rw[C0,CW]at d;exact⟨a,b,rfl,d.1,d.2⟩
   ·cases d
  subst i;show Cn Av [[a,58]];exact⟨λq f=>by rw[CO.1 f];exact AfV _ g,λ_ q r e _=>by
   rw[Jr]at e;rw[<-e.1];exact d⟩
variable{base:AZ}
def Ag1(a:BA base)(h:base.scheme=Av):base.opq=false/\base.path≠[]/\(base.host=.empty\/(F6 true base.host/\base.host≠ .name GQ)):=by
 cases a.kind with
 |file s o us ps po pa hh=>exact⟨o,pa,hh⟩|special s=>exact absurd h s
 |net sp=>rw[h]at sp;cases sp
 |plain sp=>rw[h]at sp;cases sp
 |flat sp=>rw[h]at sp;cases sp
theorem Ax1(g:BA base\/base=EH)(t:R9 p)(h:I5 base p=some v):BA v:=by
 have hu:Vj (FQ (BZ Av p) .empty):=by
  have:=Tq (p:=p) AgT;exact⟨this.scheme,this.query,this.frag,this.user,this.pass,this.port,this.opq,this.flat,this.path⟩
 have k:base.scheme=Av->BA base:=by
  intro e;rcases g with g|g
  ·exact g
  rw[g]at e;cases e
 obtain⟨fr,r⟩:=AI ((base.scheme==Av));have b:fr=true->base.scheme=Av:=λe=>by simp_all
 have i:∀(l:List (A5))(q:Option (A5)),Cn Av l->l≠[]->(∀x,q=some x->∀c∈x,Bv (FU Av) c=false)->
   BA ⟨Av,[],[],(if fr=true then FQ (FQ (BZ Av p) .empty) base.host else FQ (BZ Av p) .empty).host,none,false,[],l,q,GN p.hf (Ai 1 p.frg)⟩:=by
  intro l q s n o;refine⟨AgT,o,λf hf=>Oq AE hf,λc hc=>(nomatch hc),λc hc=>(nomatch hc),s,λ_=>rfl,.file rfl rfl rfl rfl rfl n ?_⟩;cases fr
  ·exact .inl rfl
  exact(Ag1 (k (b rfl)) (b rfl)).2.2
 have j:∀x,GN p.hq (Ai (FU Av) p.qry)=some x->∀c∈x,Bv (FU Av) c=false:=λx hx=>Oq (Aa7 _) hx;unfold I5 at h;dsimp only at h;rw[r]at h;split at h
 ·exact AoG hu rfl rfl h
 split at h
 ·cases h;have:=i (DE Av (if(fr&&(Pt base.path&& !K0 (p.rest.drop 1)))=true then base.path.take 1 else[]) (p.rest.drop 1)) _ (NJ (by
   split
   ·simp_all[All]
   exact Cn.nil _) _) (N3 _ _ _) j
  cases fr<;>exact this
 split at h
 ·rename_i hc;cases h;rw[C0]at hc;have m:=k (b hc.1);have d:=b hc.1;have a:=d▸m.path;have:=i base.path (if GN p.hq (Ai (FU Av) p.qry)=none then base.query else GN p.hq _) a (Ag1 m d).2.1 (by
   intro x hx;split at hx
   ·have:=m.query x hx;grind
   exact j x hx)
  obtain⟨rfl⟩:=hc.1;exact this
 split at h
 ·rename_i hc;cases h;rw[C0]at hc;have a:=(b hc.1)▸(k (b hc.1)).path;have:=i (DE Av _ p.rest) _ (NJ a.up _) (N3 _ _ _) j;obtain⟨rfl⟩:=hc.1;exact this
 ·cases h;have:=i (DE Av [] p.rest) _ (NJ (Cn.nil _) _) (N3 _ _ _) j;cases fr<;>exact this
def Anr:∀n:UInt8,(Dd 0 n).all (λx=>(x==n)||(!(x==35)&& !(x==63)))=true:=DZ AX
def Aln:∀n:UInt8,(Dd 0 n).head?=some 47->n=47:=DZ AX
def Apu(b:Bool)(s:A5)(h:b=false->s.getLast?≠some 32):(Gk b s).getLast?≠some 32:=by
 unfold Gk;split
 ·simp
 rename_i hc;cases b
 ·exact h rfl
 intro e;obtain⟨a,rfl⟩:=List.getLast?_eq_some_iff.1 e;exact hc (Adx _ _)
def Aya:∀n:UInt8,(Dd 0 n).getLast?=some 32->n=32:=DZ AX
theorem AoV(n:p.hs=true)(b:Ar p.sch=false)(i:R9 p)(h:Hu p=some v):BA v:=by
 have hu:=Tq (p:=p) (i.sch n);have l:p.sch≠Av:=λe=>by rw[e]at b;cases b
 unfold Hu at h;split at h
 ·exact Sp hu l h
 split at h
 ·cases h;exact⟨hu.scheme,hu.query,hu.frag,λc hc=>(nomatch hc),λc hc=>(nomatch hc),NJ (Cn.nil _) _,λ_=>rfl,.plain b rfl rfl rfl rfl rfl (N3 _ _ _)⟩
 rename_i h47;cases h;refine⟨hu.scheme,hu.query,hu.frag,λc hc=>(nomatch hc),λc hc=>(nomatch hc),Cn.nil _,λe=>(nomatch e),.flat b rfl rfl rfl rfl rfl rfl ?_ ?_ ?_⟩
 ·have o:∀c∈Ai 0 p.rest,Bv 0 c=false/\c≠35/\c≠63:=by
   intro c hc;refine⟨O2 AE c hc,?_⟩;have⟨d,hd,hc⟩:=LK.1 hc;have h1:=Anr d;have f:=Et.1 h1 c hc;rw[Gd]at f;rcases f with f|f
   ·rw[CW]at f;rw[f];exact i.rest d hd
   grind
  intro c hc;unfold Gk at hc;split at hc
  ·rcases BL.1 hc with hc|hc
   ·exact o c ((SE _).mem hc)
   simp at hc;rcases hc with rfl|rfl|rfl<;>decide
  grind
 ·have m:p.rest.head?≠some 47:=by
   simp_all[Rx]
  have g:(Ai 0 p.rest).head?≠some 47:=by
   intro e;cases hr:p.rest with
   |nil=>rw[hr]at e;cases e
   |cons c r=>
    rw[hr]at e m;have t:(Dd 0 c++Ai 0 r).head?=some 47:=e;have j:Dd 0 c≠[]:=by unfold Dd;split<;>simp
    have:=Aln c;simp_all
  unfold Gk;split
  ·intro e;cases hd:(Ai 0 p.rest).dropLast with
   |nil=>grind
   |cons c r=>
    apply g;have hx:(Ai 0 p.rest)≠[]:=by intro q;rw[q]at hd;cases hd
    grind[List.dropLast_concat_getLast]
  exact g
 refine Apu _ _ (λk=> ?_);rw[J1]at k;have s:=i.last k.1 k.2;intro e;cases hr:p.rest.getLast? with
 |none=>
  rw[List.getLast?_eq_none_iff]at hr;rw[hr]at e;cases e
 |some x=>
  have⟨a,ha⟩:=List.getLast?_eq_some_iff.1 hr;rw[ha,Rb]at e;have j:Dd 0 x≠[]:=by unfold Dd;split<;>simp
  have:=Aya x;simp_all
def Ayy(a:BA base)(hf:base.scheme≠Av)(k:base.opq=false)(h:MP base p=some v):BA v:=by
 have hu:=Tq (p:=p) a.scheme;have g:∀x,GN p.hq (Ai (FU base.scheme) p.qry)=some x->∀c∈x,Bv (FU base.scheme) c=false:=λx hx=>Oq (Aa7 _) hx;have d:∀(l:List (A5))(q:Option (A5)),Cn base.scheme l->(l≠[]\/l=base.path)->(∀x,q=some x->∀c∈x,Bv (FU base.scheme) c=false)->
   BA ⟨base.scheme,base.user,base.pass,base.host,base.port,false,[],l,q,GN p.hf (Ai 1 p.frg)⟩:=by
  intro l q j b i;refine⟨a.scheme,i,λf hf=>Oq AE hf,a.user,a.pass,j,λ_=>rfl,?_⟩;cases a.kind with
  |file s=>grind|special s sp o pa hh po=>exact .special s sp rfl (by rcases b with h|h;exact h;rw[h];exact pa) hh po|net sp o hh po e=>exact .net sp rfl hh po e|plain sp o hh us ps po pa=>exact .plain sp rfl hh us ps po (by rcases b with h|h;exact h;rw[h];exact pa)|flat sp o=>grind
 unfold MP at h;dsimp only at h;split at h
 ·split at h
  ·exact Sp hu hf h
  exact Sp hu hf h
 split at h
 ·cases h;exact d _ _ (NJ (Cn.nil _) _) (.inl (N3 _ _ _)) g
 split at h
 ·cases h;refine d base.path _ a.path (.inr rfl) ?_;intro x hx;split at hx
  ·exact a.query x hx
  exact g x hx
 ·cases h;exact d _ _ (NJ a.path.up _) (.inl (N3 _ _ _)) g
def Ai1(d:BA base\/(p.hs=true/\base=EH))(i:R9 p)(h:J4 base p=some u):BA u:=by
 unfold J4 at h;split at h
 ·grind[Ax1]
 rename_i hnf;rw[Gd,not_or]at hnf;split at h
 ·rename_i hs;rw[C0,C0]at hs;refine Sp (Tq (i.sch hs.1.1)) (λe=>hnf.1 ?_) h;have:p.sch=Av:=e;grind
 rename_i hns;split at h
 ·rename_i hs;rw[C0]at hs;grind[AoV]
 rename_i hno;have a:BA base:=by
  rcases d with d|⟨g,j⟩
  ·exact d
  exfalso;rw[g]at hno hns;have c:Ar p.sch=true:=by simpa using hno
  apply hns;rw[c,j,JM,JM,Gd];left;have:p.sch≠[]:=by intro e;rw[e]at c;cases c
  simpa[EH]using this
 split at h
 ·unfold NR at h;split at h
  ·cases h
  rename_i hopq _;cases h;refine⟨a.scheme,a.query,λf hf=> ?_,a.user,a.pass,a.path,a.flat,?_⟩
  ·cases hf;exact O2 AE
  ·cases a.kind with
   |file s o=>grind|special s sp o=>grind|net sp o=>grind|plain sp o=>grind|flat sp o hh us ps po pa fl hd la=>exact .flat sp o hh us ps po pa fl hd la
 rename_i hopq;have b:base.opq=false:=by simpa using hopq
 refine Ayy a (λe=> ?_) b h;cases g:p.hs
 ·grind
 simp_all[JM,Gd]
def Abj(a:BA base)(h:IJ base s=some u):BA u:=Ai1 (.inl a) (AhT s) h
def Ain(h:Du s=some u):BA u:=by
 unfold Du at h;split at h
 ·rename_i hs;exact Ai1 (.inr ⟨hs,rfl⟩) (AhT s) h
 ·cases h
def Vl:∀{a:A5}(b:A5),(∀x∈a,x≠c)->AL c (a++c::b)=(a,b,true)
 |[],b,_=>by rw[Do,AL,AC rfl]
 |x::r,b,h=>by
  rw[Di,AL,AA (h x (CC ..)),Vl b (λy d=>h y (Cr _ d))]
def Wm:∀{a:A5},(∀x∈a,x≠c)->AL c a=(a,[],false)
 |[],_=>rfl
 |x::r,h=>by
  rw[AL,AA (h x (CC ..)),Wm (λy b=>h y (Cr _ b))]
def YM{d:Bool}:∀{a:A5}{b:A5},(∀x∈a,B8 d x=false)->(∀c,b.head?=some c->B8 d c=true)->D5 d (a++b)=(a,b)
 |[],[],_,_=>rfl|[],c::r,_,h=>by rw[Do,D5,AC (h c rfl)]
 |x::r,b,h,hb=>by
  rw[Di,D5,AA (by rw[h x (CC ..)];decide),YM (λy e=>h y (Cr _ e)) hb]
def Aj9:∀{T:A5}(p:A5),(∀c∈T,c≠58/\c≠91/\c≠93)->CF false (T++58::p)=some (T,p)
 |[],p,_=>rfl
 |c::r,p,h=>by
  have hc:=h c (CC ..);rw[Di,CF,AA hc.2.1,AA hc.2.2,AA (λe=>hc.1 e.1),Aj9 p (λy a=>h y (Cr _ a))];rfl
def Ajz:∀{T:A5},(∀c∈T,c≠58/\c≠91/\c≠93)->CF false T=none
 |[],_=>rfl
 |c::r,h=>by
  have hc:=h c (CC ..);rw[CF,AA hc.2.1,AA hc.2.2,AA (λe=>hc.1 e.1),Ajz (λy a=>h y (Cr _ a))];rfl
def Agx:∀{T:A5}(Y:A5),(∀c∈T,c≠91/\c≠93)->CF true (T++93::Y)=(CF false Y).map (λp=>(T++93::p.1,p.2))
 |[],Y,_=>by
  rw[Do,CF];rfl
 |c::r,Y,h=>by
  have hc:=h c (CC ..);rw[Di,CF,AA hc.1,AA hc.2,AA (λe=>(nomatch e.2)),Agx Y (λy a=>h y (Cr _ a))];cases CF false Y<;>rfl
def AiX(h:WH c):c≠91/\c≠93/\BR c=false/\c≠63/\c≠35/\c≠64/\B8 true c=false:=by
 rcases h with rfl|⟨d,b,rfl⟩
 ·decide
 have a:∀d:Fin 16,BJ d.val≠91/\BJ d.val≠93/\BR (BJ d.val)=false/\BJ d.val≠63/\BJ d.val≠35/\BJ d.val≠64/\B8 true (BJ d.val)=false:=AX;exact a ⟨d,b⟩
def Yf{a:Bool}(h:B8 true c=false):B8 a c=false:=by
 unfold B8 at h⊢;rw[JM,J1]at h;rw[h.1,h.2];simp
def Pd(c:UInt8):Prop:=BR c=false/\c≠63/\c≠35/\c≠64/\B8 true c=false/\c≠32
def AnU:∀n:UInt8,Cx n=false->BR n=false->n≠63/\n≠35/\n≠64/\B8 true n=false/\n≠32/\n≠58/\n≠91/\n≠93/\n≠124:=DZ AX
def VH(h:Cx c=false)(b:BR c=false):Pd c/\c≠58/\c≠91/\c≠93/\c≠124:=by
 have:=AnU c;have a:=this h b;exact⟨⟨b,a.1,a.2.1,a.2.2.1,a.2.2.2.1,a.2.2.2.2.1⟩,a.2.2.2.2.2⟩
def AwH:∀n:UInt8,Gu n=true->FK n=false->BR n=false/\Cx n=false:=DZ AX
variable{h:Cb}
def M1{f:Bool}(g:F6 f h):(h=.empty/\h.text=[])\/(h.text≠[]/\(∀c∈h.text,Pd c)/\((∀c∈h.text,c≠58/\c≠91/\c≠93/\c≠124)\/∃X,h.text=91::(X++[93])/\∀c∈X,c≠91/\c≠93)):=by
 cases g with
 | @name n h h2 h3 h4=>
  refine .inr ⟨h2,?_,.inl ?_⟩;all_goals
   intro c hc;have a:FK c=false:=by have:=Mp.1 h3 c hc;simpa using this
   have:=AwH c;have j:=this ((Afn h).2 c hc) a;simp_all[VH]
 | @four n h=>
  refine .inr ⟨AiT n,?_,.inl ?_⟩;all_goals
   intro c hc;have b:∀d:Fin 10,Cx (BJ d.val)=false/\BR (BJ d.val)=false:=AX;have i:Pd c/\c≠58/\c≠91/\c≠93/\c≠124:=by
    rcases Ac1 n c hc with rfl|⟨d,e,rfl⟩
    ·exact VH AE AE
    exact VH (b ⟨d,e⟩).1 (b ⟨d,e⟩).2
   grind
 | @six f l h=>
  refine .inr ⟨by show[91]++Dv l++[93]≠[];simp,?_,.inr ⟨Dv l,rfl,λc hc=> ?_⟩⟩
  ·intro c hc;have k:∀c∈Dv l,Pd c:=by
    intro c hc;have a:=Aeh h c hc;have:=AiX a;refine⟨this.2.2.1,this.2.2.2.1,this.2.2.2.2.1,this.2.2.2.2.2.1,this.2.2.2.2.2.2,?_⟩;rintro rfl;rcases a with a|⟨d,e,a⟩
    ·cases a
    have b:∀d:Fin 16,(32:UInt8)≠BJ d.val:=AX;exact b ⟨d,e⟩ a
   rcases BL.1 hc with hc|hc
   ·rcases BL.1 hc with hc|hc
    ·exact ZT
    grind
   exact ZT
  have:=AiX (Aeh h c hc);grind
 |empty=>exact .inl ⟨rfl,rfl⟩
 | @other n h h2 h3=>
  refine .inr ⟨h,?_,.inl ?_⟩;all_goals
   intro c hc;have a:Cx c=false:=by have:=Mp.1 h2 c hc;simpa using this
   have i:=VH a (h3 c hc);grind
def Wr(n:Nat):Lib.itoa (n:Int)=Lib.decDigits n:=by
 unfold Lib.itoa;rw[AA A4,Jc]
def AmM(n:Nat):Az 10 (Lib.itoa (n:Int))=some n:=by
 rw[Wr,<-Nu];unfold Az;rw[AA (Tk _ _)];exact AlQ AE AE n
def Axo(n:Nat):∀c∈Lib.itoa (n:Int),∃d,d<10/\c=BJ d:=by
 rw[Wr,<-Nu];exact Ys AE AE n
def Ayn(n:Nat):Lib.itoa (n:Int)≠[]:=by
 rw[Wr,<-Nu];exact Tk _ _
def AyH:∀d:Fin 10,BR (BJ d.val)=false/\BJ d.val≠63/\BJ d.val≠35/\BJ d.val≠64/\B8 true (BJ d.val)=false/\BJ d.val≠32:=AX
def XZ(o:Option Nat):∀c∈FB o,Pd c:=by
 intro c hc;cases o with
 |none=>cases hc
 |some n=>
  rcases BL.1 hc with hc|hc
  ·exact ZT
  obtain⟨d,a,rfl⟩:=Axo n c hc;exact AyH ⟨d,a⟩
def Ajq:Option Nat->A5
 |none=>[]|some n=>Lib.itoa (n:Int)
def AyT{m:Bool}(g:F6 m h)(o:Option Nat)(k:h=.empty->o=none):MN (h.text++FB o)=some (h.text,Ajq o):=by
 unfold MN;have e0:h.text++FB none=h.text:=Bq _;rcases M1 g with⟨h1,q⟩|⟨b,r,d|⟨X,j,hx⟩⟩
 ·have l:=k h1;subst l;rw[q];rfl
 ·have a:∀c∈h.text,c≠58/\c≠91/\c≠93:=λc hc=>⟨(d c hc).1,(d c hc).2.1,(d c hc).2.2.1⟩;cases o with
  |none=>rw[e0,Ajz a];rfl
  |some n=>
   have f:h.text++FB (some n)=h.text++58::Lib.itoa (n:Int):=rfl;rw[f,Aj9 _ a];dsimp only;rw[AA b];rfl
 have e:∀Y,CF false (h.text++Y)=(CF false Y).map (λp=>(h.text++p.1,p.2)):=by
  intro Y;rw[j];show CF false (91::((X++[93])++Y))=_;rw[CQ,CF,Di,Do,Agx Y hx];cases CF false Y with
  |none=>rfl|some p=>simp
 cases o with
 |none=>
  have i:=e [];rw[Bq]at i;rw[e0,i];rfl
 |some n=>
  have f:h.text++FB (some n)=h.text++58::Lib.itoa (n:Int):=rfl;rw[e];show(if h.text++[]=[]then none else some (h.text++[],Lib.itoa (n:Int)))=_;rw[Bq,AA b];rfl
def AvF(h:NB a o):Hn a (Ajq o)=some o:=by
 cases o with
 |none=>rfl
 |some n=>
  have:=h n rfl;show Hn a (Lib.itoa (n:Int))=_;unfold Hn;rw[AA (Ayn n),AmM];dsimp only;rw[AA A4,AA this.2]
def ApW{user pass:A5}(g:F6 (Ar a) h)(c:NB a o)(b:h=.empty->o=none):El a user pass (h.text++FB o)=some ⟨user,pass,h,o⟩:=by
 unfold El;rw[AyT g o b];dsimp only;rw[AcV g];rw[AvF c]
def AwV:∀n:UInt8,Bv 5 n=false->BR n=false/\n≠63/\n≠35/\n≠64/\B8 true n=false/\n≠58/\n≠32:=DZ AX
def Y2(h:Bv 5 c=false):BR c=false/\c≠63/\c≠35/\c≠64/\B8 true c=false/\c≠58/\c≠32:=AwV c h
def AfD{user pass:A5}(hu:∀c∈user,Bv 5 c=false)(a:∀c∈pass,Bv 5 c=false):∀c∈GJ user pass,BR c=false/\c≠63/\c≠35/\B8 true c=false/\c≠32:=by
 have h1:∀c∈user,BR c=false/\c≠63/\c≠35/\B8 true c=false/\c≠32:=λc hc=>by
  simp_all[Y2]
 have b:∀c∈pass,BR c=false/\c≠63/\c≠35/\B8 true c=false/\c≠32:=λc hc=>by
  simp_all[Y2]
 intro c hc;unfold GJ at hc;split at hc
 ·cases hc
 split at hc
 ·exact Aj7
 rcases BL.1 hc with hc|hc
 ·rcases BL.1 hc with hc|hc
  ·exact Aj7
  grind
 rw[CO.1 hc];decide
def Ayh{user pass:A5}(hu:∀c∈user,Bv 5 c=false)(n:∀c∈pass,Bv 5 c=false)(g:F6 (Ar a) h)(j:NB a o)(i:h=.empty->user=[]/\pass=[]/\o=none):Gn a (GJ user pass++h.text++FB o)=some ⟨user,pass,h,o⟩:=by
 have l:∀c∈h.text++FB o,c≠64:=by
  intro c hc;rcases BL.1 hc with hc|hc
  ·rcases M1 g with⟨-,q⟩|⟨-,k,-⟩
   ·grind
   exact(k c hc).2.2.2.1
  exact(XZ o c hc).2.2.2.1
 have p:=ApW (user:=user) (pass:=pass) g j (λe=>(i e).2.2);unfold Gn;by_cases d:user=[]/\pass=[]
 ·have e:GJ user pass++h.text++FB o=h.text++FB o:=by unfold GJ;rw[AC d];rfl
  simp_all[Mx]
 have m:h.text++FB o≠[]:=by
  intro e;rcases M1 g with⟨h1,-⟩|⟨h1,-⟩
  ·grind
  simp_all
 have f:∀x∈user,x≠58:=λx hx=>(Y2 (hu x hx)).2.2.2.2.2.1;by_cases b:pass=[]
 ·have e:GJ user pass++h.text++FB o=user++64::(h.text++FB o):=by
   unfold GJ;rw[AA d,AC b];simp
  simp_all[On,Wm,Nj]
 have e:GJ user pass++h.text++FB o=(user++58::pass)++64::(h.text++FB o):=by
  unfold GJ;rw[AA d,AA b];simp
 rw[e,On l];simp_all[Vl,Nj]
def AkN(a:List (A5)):∀c,(Ay a).head?=some c->c=47:=by
 intro c h;cases a with
 |nil=>cases h
 |cons p r=>exact(Cm h).symm
def Uj(a:Bool):B8 a 47=true:=by cases a<;>rfl
def AjL{a:Bool}{user pass:A5}{d:Bool}(hu:∀c∈user,Bv 5 c=false)(b:∀c∈pass,Bv 5 c=false)(g:F6 d h):∀c∈GJ user pass++h.text++FB o,B8 a c=false:=by
 intro c hc;rcases BL.1 hc with hc|hc
 ·rcases BL.1 hc with hc|hc
  ·exact Yf (AfD hu b c hc).2.2.2.1
  rcases M1 g with⟨-,e⟩|⟨-,f,-⟩
  ·rw[e]at hc;cases hc
  exact Yf (f c hc).2.2.2.2.1
 exact Yf (XZ o c hc).2.2.2.2.1
def Aa9{a:List (A5)}(h:Cn b a)(c:a≠[]):FT b (Ay a)=a:=by
 cases a with
 |nil=>exact absurd rfl c
 |cons p r=>
  unfold FT;have e:Ay (p::r)=47::(p++Ay r):=rfl;exact YW h
def AhV{user pass:A5}{a:List (A5)}(hu:∀c∈user,Bv 5 c=false)(f:∀c∈pass,Bv 5 c=false)(g:F6 (Ar u.scheme) h)(k:NB u.scheme o)(j:h=.empty->user=[]/\pass=[]/\o=none)(l:Cn u.scheme a)(i:Ar u.scheme=true->a≠[])(e:u.path=[]):FC u (GJ user pass++h.text++FB o++Ay a)=some ⟨u.scheme,user,pass,h,o,u.opq,u.flat,a,u.query,u.frag⟩:=by
 unfold FC;rw[YM (AjL hu f g) (λc hc=>by rw[AkN a c hc];exact Uj _)];rw[Ayh hu f g k j];show some (Kt u ⟨user,pass,h,o⟩ (Ay a))=_;unfold Kt;by_cases b:a=[]
 ·subst b;have d:Ar u.scheme=false:=by
   cases h:Ar u.scheme
   ·rfl
   grind
  rw[AA,e];rw[d];decide
 rw[AC,Aa9 l b];cases a with
 |nil=>grind|cons p r=>show(Ar u.scheme||true)=true;simp
theorem AgG{p:UInt8->Bool}(h:∀c,l.head?=some c->p c=false):l.dropWhile p=l:=by
 cases l with
 |nil=>rfl|cons c r=>rw[EF,AA AS]
def Am7(h:∀c∈l,BR c=false)(d:l.head?≠some 32)(g:l.getLast?≠some 32):EQ l=l:=by
 have b:∀n:UInt8,BR n=false->Ke n=true/\(n≠32->Em (n:Int)=false):=DZ AX;have a:∀c,BR c=false->Ke c=true/\(c≠32->Em (c:Int)=false):=by
  intro c hc;have:=b c;simp_all
 have f:JC l=l:=by
  unfold JC Bm DI;rw[AgG (λc hc=>(a c (h c (List.mem_of_head? hc))).2 (λe=>d (by rw[hc,e])))];grind[AgG]
 unfold EQ;rw[f];unfold HM;simp_all
def XJ(h:Ef s=true):∀c∈s,FS c=true:=by
 intro c hc;cases s with
 |nil=>cases hc
 |cons x r=>
  unfold Ef at h;rw[C0]at h;rcases Bn.1 hc with rfl|hc
  ·unfold FS;rw[h.1];rfl
  exact Et.1 h.2 c hc
def Aw6:∀n:UInt8,FS n=true->BR n=false/\n≠63/\n≠35/\n≠58/\n≠32:=DZ AX
def Qx(h:FS c=true):BR c=false/\c≠63/\c≠35/\c≠58/\c≠32:=Aw6 c h
def Am2:∀n:UInt8,Bv 4 n=false->BR n=false/\n≠63/\n≠35/\n≠32:=DZ AX
def Ast{b:List (A5)}(h:Cn a b):∀c∈Ay b,BR c=false/\c≠63/\c≠35/\c≠32:=by
 intro c hc;have⟨p,hp,hc⟩:=LK.1 hc;rcases Bn.1 hc with rfl|hc
 ·decide
 have:=Am2 c;exact this ((h.each p hp).set c hc)
def F3(u:AZ):A5:=JH u++IZ u
def AkZ(g:BA u):u.host=.none\/∃a,F6 a u.host:=by
 cases g.kind with
 |file s o us ps po pa h=>
  rcases h with h|h
  ·exact .inr ⟨false,by rw[h];exact .empty⟩
  exact .inr ⟨true,h.1⟩
 |special s a o pa h po=>exact .inr ⟨true,h⟩|net a o h po e=>exact .inr ⟨false,h⟩|plain a o h=>exact .inl h|flat a o h=>exact .inl h
def ApN(g:BA u):∀c∈JH u,BR c=false/\c≠63/\c≠35/\c≠32:=by
 intro c hc;unfold JH at hc;split at hc
 ·split at hc
  ·simp[K3]at hc;rcases hc with rfl|rfl<;>decide
  ·cases hc
 rename_i hn;rcases AkZ g with h|⟨d,a⟩
 ·grind
 rcases BL.1 hc with hc|hc
 ·rcases BL.1 hc with hc|hc
  ·rcases BL.1 hc with hc|hc
   ·simp[K3]at hc;rw[hc];decide
   have:=AfD g.user g.pass c hc;grind
  rcases M1 a with⟨-,e⟩|⟨-,b,-⟩
  ·grind
  have:=b c hc;exact⟨this.1,this.2.1,this.2.2.1,this.2.2.2.2.2⟩
 have:=XZ u.port c hc;exact⟨this.1,this.2.1,this.2.2.1,this.2.2.2.2.2⟩
def Ayb(g:BA u)(h:u.opq=true):(∀c∈u.flat,Bv 0 c=false/\c≠35/\c≠63)/\u.flat.getLast?≠some 32:=by
 cases g.kind with
 |file s o=>rw[o]at h;cases h
 |special s sp o=>rw[o]at h;cases h
 |net sp o=>rw[o]at h;cases h
 |plain sp o=>rw[o]at h;cases h
 |flat sp o hh us ps po pa fl hd la=>exact⟨fl,la⟩
def VU(g:BA u):(∀c∈F3 u,BR c=false/\c≠63/\c≠35)/\(F3 u).getLast?≠some 32:=by
 have a:=ApN g;have b:(∀c∈IZ u,BR c=false/\c≠63/\c≠35)/\(IZ u).getLast?≠some 32:=by
  unfold IZ;split
  ·rename_i ho;have⟨h1,h2⟩:=Ayb g ho;exact⟨λc hc=>⟨(h1 c hc).1,(h1 c hc).2.2,(h1 c hc).2.1⟩,h2⟩
  have:=Ast g.path;grind
 refine⟨λc hc=> ?_,λe=> ?_⟩
 ·rcases BL.1 hc with hc|hc
  ·grind
  grind
 unfold F3 at e;by_cases d:IZ u=[]
 ·grind
 grind
def AmB:∀n:UInt8,(Bv 2 n=false\/Bv 3 n=false)->BR n=false/\n≠35/\n≠32:=DZ AX
def Vq(g:BA u):∀c∈Ek 63 u.query,BR c=false/\c≠35/\c≠32:=by
 intro c hc;cases hq:u.query with
 |none=>rw[hq]at hc;cases hc
 |some q=>
  rw[hq]at hc;rcases Bn.1 hc with rfl|hc
  ·decide
  have h1:=g.query q hq c hc;have a:=AmB c;unfold FU at h1;split at h1
  ·exact a (.inr h1)
  exact a (.inl h1)
def Aph:∀n:UInt8,Bv 1 n=false->BR n=false/\n≠32:=DZ AX
def AkQ(g:BA u):∀c∈Ek 35 u.frag,BR c=false/\c≠32:=by
 intro c hc;cases hq:u.frag with
 |none=>rw[hq]at hc;cases hc
 |some q=>
  rw[hq]at hc;rcases Bn.1 hc with rfl|hc
  ·decide
  have a:=Aph c;exact a (g.frag q hq c hc)
def SL(u:AZ):C6 u true=u.scheme++[58]++F3 u++Ek 63 u.query++Ek 35 u.frag:=by
 unfold C6 F3;rw[AC rfl,CQ (u.scheme++[58])]
def Vk(g:BA u):∀c∈C6 u true,BR c=false:=by
 intro c hc;rw[SL]at hc;rcases BL.1 hc with hc|hc
 ·rcases BL.1 hc with hc|hc
  ·rcases BL.1 hc with hc|hc
   ·rcases BL.1 hc with hc|hc
    ·exact(Qx (XJ g.scheme.1 c hc)).1
    rw[CO.1 hc];decide
   exact((VU g).1 c hc).1
  exact(Vq g c hc).1
 exact(AkQ g c hc).1
def AgA(g:BA u):(C6 u true).head?≠some 32/\(C6 u true).getLast?≠some 32:=by
 refine⟨?_,?_⟩
 ·have d:=g.scheme.1;rw[SL];cases h:u.scheme with
  |nil=>simp
  |cons c r=>
   intro e;have:=Qx (XJ d c AS);grind
 rw[SL];by_cases hf:Ek 35 u.frag=[]
 ·rw[hf,Bq];by_cases a:Ek 63 u.query=[]
  ·rw[a,Bq];by_cases b:F3 u=[]
   ·grind
   rw[Zk b];exact(VU g).2
  rw[Zk a];exactλe=>(Vq g 32 (List.mem_of_getLast? e)).2.2 rfl
 rw[Zk hf];exactλe=>(AkQ g 32 (List.mem_of_getLast? e)).2 rfl
def WC(g:BA u):EQ (C6 u true)=C6 u true:=Am7 (Vk g) (AgA g).1 (AgA g).2
def isQ(o:Option (A5)):Bool:=o.isSome
def MK(o:Option (A5)):A5:=o.getD []
def Abu(h:∀x∈a,x≠c)(o:Option (A5)):AL c (a++Ek c o)=(a,MK o,isQ o):=by
 cases o with
 |none=>show AL c (a++[])=_;rw[Bq,Wm h];rfl|some q=>exact Vl q h
def ZX(g:BA u):Cq (C6 u true)=⟨true,u.scheme,F3 u,isQ u.query,MK u.query,isQ u.frag,MK u.frag⟩:=by
 have f:=g.scheme;have a:=XJ f.1;have b:∀x∈u.scheme++[58]++F3 u++Ek 63 u.query,x≠35:=by
  intro c hc;rcases BL.1 hc with hc|hc
  ·rcases BL.1 hc with hc|hc
   ·rcases BL.1 hc with hc|hc
    ·exact(Qx (a c hc)).2.2.1
    grind
   exact((VU g).1 c hc).2.2
  exact(Vq g c hc).2.1
 have d:∀x∈u.scheme++[58]++F3 u,x≠63:=by
  intro c hc;rcases BL.1 hc with hc|hc
  ·rcases BL.1 hc with hc|hc
   ·exact(Qx (a c hc)).2.1
   grind
  exact((VU g).1 c hc).2.1
 unfold Cq;rw[SL,Abu b];dsimp only;rw[Abu d];have e:u.scheme++[58]++F3 u=u.scheme++58::F3 u:=AN;rw[e,Vl (F3 u) (λx hx=>(Qx (a x hx)).2.2.2.1)];grind
def Ada{set:Nat}{o:Option (A5)}(h:∀q,o=some q->∀c∈q,Bv set c=false):GN (isQ o) (Ai set (MK o))=o:=by
 cases o with
 |none=>rfl|some q=>show some (Ai set q)=some q;rw[Nj (h q rfl)]
def Awb(g:BA u)(r:A5):BZ u.scheme ⟨true,u.scheme,r,isQ u.query,MK u.query,isQ u.frag,MK u.frag⟩=⟨u.scheme,[],[],.none,none,false,[],[],u.query,u.frag⟩:=by
 unfold BZ;rw[Ada g.query,Ada g.frag]
def AcY(a:Bool)(r:A5):2<=C2 a (47::47::r):=by
 rw[C2,AC (Uj a),C2,AC (Uj a)];omega
def ApZ{a:Bool}{r:A5}(h:∀c,r.head?=some c->B8 a c=false):C2 a r=0:=by
 cases r with
 |nil=>rfl|cons c r=>rw[C2,AA AS]
def AwN{a:Bool}{r:A5}(h:∀c,r.head?=some c->B8 a c=false):HQ a (47::47::r)=r:=by
 unfold HQ;rw[C2,C2,ApZ h];rfl
def U4(h:u.host≠ .none):F3 u=47::47::(GJ u.user u.pass++u.host.text++FB u.port++IZ u):=by
 unfold F3 JH;rw[AA h];simp
def Rz(h:u.opq=false):IZ u=Ay u.path:=by unfold IZ;rw[AA AS]
def RS{a:Bool}(g:F6 a h):h≠ .none:=by cases g<;>(intro e;cases e)
def Ang(h:(a++b).head?=some c)(d:a≠[]):c∈a:=by
 cases a with
 |nil=>exact absurd rfl d|cons x r=>rw[<-Cm h];exact CC ..
def Aav(g:BA u)(base:AZ):IJ base (C6 u true)=some u:=by
 unfold IJ;rw[WC g,ZX g];have m:=Awb g (F3 u);obtain⟨p,k⟩:∃p:F9,p=⟨true,u.scheme,F3 u,isQ u.query,MK u.query,isQ u.frag,MK u.frag⟩:=⟨_,rfl⟩;rw[<-k]at m⊢;have P:p.hs=true:=by rw[k]
 have B:p.sch=u.scheme:=by rw[k]
 have C:p.rest=F3 u:=by rw[k]
 have S:p.hq=isQ u.query:=by rw[k]
 have R:p.hf=isQ u.frag:=by rw[k]
 unfold J4;rw[P,B,C,JM,Bool.not_true,ON,Jw,JM];cases g.kind with
 |file s o us ps po pa h=>
  have I:u.host≠ .none:=by
   rcases h with h|h
   ·rw[h];decide
   exact RS h.1
  have i:F3 u=47::47::(u.host.text++Ay u.path):=by
   rw[U4 I,us,ps,po,Rz o];show 47::47::([]++u.host.text++[]++Ay u.path)=_;simp
  have n:Cn Av u.path:=s▸g.path;have A:∀h,h=u.host->(⟨u.scheme,[],[],h,none,false,[],u.path,u.query,u.frag⟩:AZ)=u:=by
   intro h hh;subst hh;have h1:=g.flat o;cases u;grind
  rw[AC (by rw[s];rfl)];rw[s]at m;unfold I5;dsimp only;rw[C,i,AC (AcY _ _),m];show Il ⟨Av,[],[],.empty,none,false,[],[],u.query,u.frag⟩ (u.host.text++Ay u.path)=some u;unfold Il;have hcut:∀L,F6 L u.host->D5 true (u.host.text++Ay u.path)=(u.host.text,Ay u.path):=by
   intro L d;refine YM (λx hx=> ?_) (λc hc=>by rw[AkN _ c hc];rfl);rcases M1 d with⟨-,D⟩|⟨-,w,-⟩
   ·grind
   exact(w x hx).2.2.2.2.1
  rcases h with h|⟨d,O⟩
  ·have hc:=hcut false (by rw[h];exact .empty);have F:u.host.text=[]:=L4;rw[hc,F];dsimp only;rw[AC rfl,Aa9 n pa];rw[<-s];exact congrArg some (A .empty h.symm)
  have hc:=hcut true d;rw[hc];have N:E6 u.host.text=false:=by
   cases j:E6 u.host.text
   ·rfl
   have⟨a,b,he,ha,w⟩:=SD j;rcases M1 d with⟨-,D⟩|⟨-,-,k|⟨X,M,-⟩⟩
   ·grind
   ·have:=k b (by rw[he];simp);rcases w with w|w
    ·grind
    grind
   rw[M]at he;rw[Jr]at he;rw[<-he.1]at ha;exact absurd ha AE
  have z:u.host.text≠[]:=by
   rcases M1 d with⟨h1,-⟩|⟨h1,-⟩
   ·rw[h1]at d;cases d
   exact h1
  rw[AA (by rw[N];decide),AA z,AcV d];dsimp only;rw[AA O,Aa9 n pa];rw[<-s];exact congrArg some (A _ rfl)
 |special s sp o pa h po=>
  have i:=U4 (u:=u) (RS h);rw[Rz o]at i;have l:(u.scheme==Av)=false:=by simpa using s
  rw[AA (by rw[l];decide),i,AC (by
   rw[sp,JM,Gd];right;unfold Lib.hasPrefix;simp)]
  have d:F6 (Ar u.scheme) u.host:=by rw[sp];exact h
  have K:∀c,(GJ u.user u.pass++u.host.text++FB u.port++Ay u.path).head?=some c->B8 (Ar u.scheme) c=false:=by
   intro c hc;refine AjL (o:=u.port) g.user g.pass d c (Ang hc ?_);intro e;have B:=(PI.1 (PI.1 e).1).2;rcases M1 d with⟨h1,-⟩|⟨h1,-⟩
   ·rw[h1]at h;cases h
   exact h1 B
  rw[AwN K,m];rw[AhV (u:=⟨u.scheme,[],[],.none,none,false,[],[],u.query,u.frag⟩) g.user g.pass d po (λe=>by rw[e]at h;cases h) g.path (λ_=>pa) rfl];have h1:=g.flat o;cases u<;>grind
 |net sp o h po e=>
  have i:=U4 (RS h);rw[Rz o]at i;have l:(u.scheme==Av)=false:=by
   exact AaI
  have d:F6 (Ar u.scheme) u.host:=by rw[sp];exact h
  rw[AA (by rw[l];decide),AA YP,AC (by rw[sp];rfl)];unfold Hu;rw[C,B,i,m];show FC _ (GJ u.user u.pass++u.host.text++FB u.port++Ay u.path)=_;rw[AhV (u:=⟨u.scheme,[],[],.none,none,false,[],[],u.query,u.frag⟩) g.user g.pass d po e g.path (λhh=>AS) rfl];have h1:=g.flat o;cases u<;>grind
 |plain sp o h us ps po pa=>
  have l:(u.scheme==Av)=false:=by
   exact AaI
  have A:(⟨u.scheme,[],[],.none,none,false,[],u.path,u.query,u.frag⟩:AZ)=u:=by
   have h1:=g.flat o;cases u;grind
  rw[AA (by rw[l];decide),AA YP,AC (by rw[sp];rfl)];unfold Hu;dsimp only;rw[C,B,m];obtain⟨f,r0,v⟩:∃p r,u.path=p::r:=by
   cases hh:u.path with
   |nil=>exact absurd hh pa|cons p r=>grind
  have n:=v▸g.path;have y:=n.each f (CC ..);rw[sp]at y;by_cases j:(decide (2<=u.path.length)&&VD u.path)=true
  ·have i:F3 u=47::46::Ay u.path:=by
    unfold F3 JH;rw[AC h,AC (by rw[o];exact j),Rz o];rfl
   rw[i,AA (by unfold Lib.hasPrefix;simp[List.isPrefixOf])];have G:DE u.scheme [] ((47::46::Ay u.path:A5).drop 1)=u.path:=by
    show DE u.scheme [] (46::Ay u.path)=u.path;rw[v];have J:DE u.scheme [] (f++Ay r0)=f::r0:=YW n;unfold DE at J⊢;rw[sp]at J⊢;have H:(46::Ay (f::r0):A5)=[46]++47::(f++Ay r0):=rfl;rw[H,Zr (Uj false) _ (by intro c hc;rw[CO.1 hc];rfl)];have z:=O9 (B8 false) (f++Ay r0);show Dk u.scheme (Gh u.scheme [] [46] (Bs (B8 false) (f++Ay r0)).isEmpty) (Bs (B8 false) (f++Ay r0))=_;have:Gh u.scheme [] [46] (Bs (B8 false) (f++Ay r0)).isEmpty=[]:=by
     cases hsp:Bs (B8 false) (f++Ay r0)with
     |nil=>grind|cons a b=>rfl
    rw[this];exact J
   rw[G];exact congrArg some A
  have i:F3 u=Ay u.path:=by
   unfold F3 JH;rw[AC h,AA (by rw[o];exact j),Rz o];rfl
  rw[i];have D:Lib.hasPrefix (Ay u.path) [47,47]=false:=by
   cases hh:Lib.hasPrefix (Ay u.path) [47,47]
   ·rfl
   exfalso;rw[v]at hh j;have E:Ay (f::r0)=47::(f++Ay r0):=rfl;rw[E]at hh;unfold Lib.hasPrefix at hh;cases f with
   |nil=>
    cases r0 with
    |nil=>simp[Ay]at hh|cons q r1=>exact j rfl
   |cons c p1=>
    have:=y.slash c (CC ..);simp at hh;rw[<-hh]at this;cases this
  rw[AA (by rw[D];decide),AC (by rw[v,Rx];rfl)];have G:DE u.scheme [] ((Ay u.path).drop 1)=u.path:=by
   rw[v];exact YW n
  rw[G];exact congrArg some A
 |flat sp o h us ps po pa fl j la=>
  have l:(u.scheme==Av)=false:=by
   exact AaI
  rw[AA (by rw[l];decide),AA YP];have i:F3 u=u.flat:=by
   unfold F3 JH IZ;rw[AC h,AA (by rw[o];simp),AC o];rfl
  unfold Hu;dsimp only;have h1:Lib.hasPrefix u.flat [47]=false:=by
   rw[Rx,B6];exact j
  have D:Lib.hasPrefix u.flat [47,47]=false:=by
   cases hh:Lib.hasPrefix u.flat [47,47]
   ·rfl
   exfalso;cases hf:u.flat with
   |nil=>rw[hf]at hh;cases hh
   |cons c r=>
    rw[hf]at hh j;unfold Lib.hasPrefix at hh;simp_all[List.isPrefixOf]
  have Q:Gk (p.hq||p.hf) u.flat=u.flat:=by
   unfold Gk;rw[AA];rw[C0,not_and];intro _ hh;apply la;unfold Lib.hasSuffix at hh;have⟨t,F⟩:=List.isSuffixOf_iff_suffix.1 hh;rw[<-F];simp
  simp_all[Nj];cases u<;>grind
def Aan(g:BA u):Du (C6 u true)=some u:=by
 have:=Aav g EH;unfold IJ at this;unfold Du;rw[WC g,ZX g]at this⊢;exact this
def Avf(c:UInt8):CE (c:Int)=true\/(CE (c:Int)=false/\(0<=AQ (c:Int) 10\/(AQ (c:Int) 10<0/\(((c:Int)==61)=true\/((c:Int)==61)=false)))):=by
 cases h:CE (c:Int)
 ·refine .inr ⟨rfl,?_⟩;by_cases a:AQ (c:Int) 10<0
  ·refine .inr ⟨a,?_⟩;cases((c:Int)==61)
   ·exact .inr rfl
   exact .inl rfl
  exact .inl A4
 exact .inl rfl
def AwD(s:A9)(r:A5)(w:A7)(b:s.toList=[97,109,112,59]++r)(K:s.size<=4294967296):AD A8 137 #[.string s] w (WM [38] 4 w):=by
 have H:4<=s.size:=by rw[<-AK,b];simp
 have J:(s[3].toNat:Int)=59:=PR b 3 A4 rfl;obtain⟨m,o,v,F,I⟩:∃m:Nat,min (s.size:Int) 15=(m:Int)/\4<=m/\m<=15/\m<=s.size:=⟨min s.size 15,A4,A4,A4,A4⟩;have j:∀n,4<=n->n<=15->n<=s.size->Hid (∀w,AD A8 205 #[.string (s.extract 0 n)] w (AlL [38] (n==4) w)):=λn p B i=>H0 (λw=>by
  have hx:(s.extract 0 n).toList=s.toList.take n:=OC;have E:(s.extract 0 n).size=n:=Bk;refine ApM (s.extract 0 n) w A4 (n==4) ?_;by_cases h:n=4
  ·subst h;exact .inl ⟨rfl,by rw[hx,b];rfl⟩
  refine .inr ⟨JR,?_⟩;rw[<-AK,b]at i;rw[hx,b];obtain⟨k,rfl⟩:∃k,n=k+5:=⟨n-5,A4⟩;cases r with
  |nil=>simp at i
  |cons x r=>simp)
 change Hid _ at j b;go_in;go_wp2_with fail;replace o:=H0 o;go_loopw[4] (λv4 wr=>∃n:Nat,v4=.int .i64 (n:Int)/\4<=n/\n<=m/\AF w w wr) (λv4 _=>(intOf v4).toNat)
 ·exact⟨m,rfl,v,AG _,AU _ _⟩
 obtain⟨n,rfl,p,i,a⟩:=hrel;have hc:=j.out n p A4 A4;have C:0<(n:Int):=A4;have G:(n:Int)<=s.size:=A4;have L:0<=(n:Int):=A4;by_cases c:n=4
 ·subst c;go_wp2_with fail;refine(hc.out wr).mono ?_;rintro e A⟨t,rfl,l,f⟩;have d:=H0 (l.out rfl);by_cases D:4<s.size
  ·have y:=Bo s[4];have c1:=Bf s[4];rcases Avf s[4]with q|⟨q,z|⟨z,u|u⟩⟩;all_goals
    go_wp2_with(first|(go_at_call 187;refine(Ol _ _).mono (AH ?_))|(go_at_call 132;refine(Eh _ _ _ y c1).mono (AH ?_)));go_ret2;exact⟨t,rfl,d,a.next f⟩
  go_wp2_with fail;go_ret2;exact⟨t,rfl,d,a.next f⟩
 have g:(n==4)=false:=by simpa using c
 rw[g]at hc;go_wp2_with fail;refine(hc.out wr).mono ?_;rintro e A⟨t,rfl,l,f⟩;go_wp2_with fail;go_roundw;exact⟨n-1,AP,A4,A4,a.next f⟩;exact AzF
def AnR(c:UInt8):(c≠38/\Gi c=[c])\/(c=38/\Gi c=[38,97,109,112,59])\/∃a b:UInt8,Gi c=[38,35,a,b,59]/\(48<=(a:Int)/\(a:Int)<=57)/\(48<=(b:Int)/\(b:Int)<=57)/\AQ (a:Int) 10=(a:Int)-48/\AQ (b:Int) 10=(b:Int)-48/\((a:Int)-48)*10+((b:Int)-48)=(c:Int)/\0<c.toNat/\c.toNat<128:=by
 unfold Gi;by_cases h1:c=38
 ·grind
 rw[AA h1];by_cases g:c=34
 ·subst g;exact .inr (.inr ⟨51,52,AE,AE,AE,AE,AE,AE,AE,AE⟩)
 rw[AA g];by_cases e:c=39
 ·subst e;exact .inr (.inr ⟨51,57,AE,AE,AE,AE,AE,AE,AE,AE⟩)
 rw[AA e];by_cases f:c=60
 ·subst f;exact .inr (.inr ⟨54,48,AE,AE,AE,AE,AE,AE,AE,AE⟩)
 rw[AA f];by_cases d:c=62
 ·subst d;exact .inr (.inr ⟨54,50,AE,AE,AE,AE,AE,AE,AE,AE⟩)
 rw[AA d];by_cases h:c=96
 ·subst h;exact .inr (.inr ⟨57,54,AE,AE,AE,AE,AE,AE,AE,AE⟩)
 grind
def AvX(s:A9)(W:A5)(w:A7)(v:s.toList=C8 W)(T:s.size<=4294967296):AD A8 77 #[.string s] w (Bi w W):=by
 have C:(C8 W).length=s.size:=by rw[<-v,AK]
 have N:W.length<=s.size:=by rw[<-C];exact(Qd W).1
 replace v:=H0 v;go_in;go_wp2;go_loopw[3,4] (λv3 v4 wr=>∃(k i:Nat)(t:A9),v3=.string t/\v4=.int .i64 (i:Int)/\k<=W.length/\i<=s.size/\Hid (t.toList=W.take k)/\Hid (s.toList.drop i=C8 (W.drop k))/\AF w w wr) (λ_ v4 _=>s.size-(intOf v4).toNat)
 ·exact⟨0,0,⟨#[]⟩,rfl,rfl,AR _,AR _,H0 (toList_mk []),H0 v,AU _ _⟩
 obtain⟨k,i,t,rfl,rfl,R,S,p,G,g⟩:=hrel;have J:t.size<=s.size:=by rw[<-AK,p.out,Cl];omega
 by_cases n:k<W.length
 ·obtain⟨c,hc⟩:=AI (W[k]);have rD:=A6 (s.toList.drop i=Gi c++C8 (W.drop (k+1))) (by
   rw[G.out,Fr n,hc];rfl)
  have y:=A6 (W.take (k+1)=W.take k++[c]) (by rw[List.take_add_one,Cs n,hc];rfl);have f:(Gi c).length+(C8 (W.drop (k+1))).length=s.size-i:=by
   rw[<-Aa,<-rD.out,C7,AK]
  have M:=(Af1 c).1;have u:i<s.size:=A4;have O:(i:Int)<s.size:=A4;have hds:=Aw s i u;have x:∀j,j=(Gi c).length->Hid (s.toList.drop (i+j)=C8 (W.drop (k+1))):=λj K=>H0 (by
   rw[<-Ka,rD.out,K,List.drop_left])
  change Hid _ at x hc;rcases AnR c with⟨r,he⟩|⟨r,he⟩|⟨a,b,he,Q,H,D,F,E,L,A⟩
  ·have h:s[i]=c:=by
    exact Xg
   have q:((s[i].toNat:Int)==38)=false:=by rw[h,B6];intro e;exact r (CM.1 (by show c.toNat=38;omega))
   have hx:(s.extract i (i+1)).toList=[c]:=by
    rw[Tl s i i (AG _) u,PH,h];rfl
   have o:(s.extract i (i+1)).size=1:=Bk;have d:=A6 ((t++s.extract i (i+1)).toList=W.take (k+1)) (by rw[toList_append,p.out,hx,y.out]);have hd2:=x.out 1 (by rw[he];rfl);change Hid _ at h he hds hx;go_wp2;go_roundw;exact⟨k+1,i+1,_,rfl,AP,A4,A4,d,hd2,g⟩;exact AzF
  ·have h:s[i]=38:=by
    exact Xg
   have q:((s[i].toNat:Int)==38)=true:=by rw[h];rfl
   have hx:(s.extract (i+1) s.size).toList=97::([109,112,59]++C8 (W.drop (k+1))):=by
    exact AcX
   have o:(s.extract (i+1) s.size).size<=4294967296:=Bk;have hd2:=x.out 5 (by rw[he];rfl);have I:(i:Int)+1<=(s.size:Int):=A4;have P:0<=(i:Int)+1:=A4;have i5:i+5<=s.size:=by rw[he]at f;simp at f;omega
   have m:=H0 (λw=>Ayi _ _ w hx o);have z:=H0 (λw=>AwD _ (C8 (W.drop (k+1))) w hx o);change Hid _ at h he hds hx;go_wp2_with fail;go_call m as e w2⟨t1,rfl,-,hb2⟩;go_wp2_with fail;go_call z as e w3⟨t2,rfl,d,hb3⟩;have hf:=A6 ((t++t2).toList=W.take (k+1)) (by rw[toList_append,p.out,d.out,y.out,r]);have B:t2.size=1:=by rw[<-AK,d.out];rfl
   have aG:=(g.next hb2).next hb3;replace r:=H0 r;exact Aip
  have h:s[i]=38:=by
   exact Xg
  have q:((s[i].toNat:Int)==38)=true:=by rw[h];rfl
  have hx:(s.extract (i+1) s.size).toList=35::a::b::59::C8 (W.drop (k+1)):=by
   exact AcX
  have o:(s.extract (i+1) s.size).size<=4294967296:=Bk;have hd2:=x.out 5 (by rw[he];rfl);have I:(i:Int)+1<=(s.size:Int):=A4;have P:0<=(i:Int)+1:=A4;have i5:i+5<=s.size:=by rw[he]at f;simp at f;omega
  have m:=H0 (λw=>Ann _ a b c _ _ 0 (C8 (W.drop (k+1))) w hx o rfl rfl Q H D F E L A);change Hid _ at h he hds hx D F E;go_wp2_with fail;go_call m as e w2⟨t2,rfl,d,hb2⟩;have hf:=A6 ((t++t2).toList=W.take (k+1)) (by rw[toList_append,p.out,d.out,y.out]);have B:t2.size=1:=by rw[<-AK,d.out];rfl
  have aG:=g.next hb2;exact Aip
 have l:i=s.size:=by
  have h1:=congrArg List.length G;rw[show W.drop k=[]from Cj A4,C7,AK]at h1;simp[C8]at h1;omega
 have O:(s.size:Int)<=i:=A4;have hf:=A6 (t.toList=W) (by rw[p.out,Bc A4]);replace l:=H0 l;go_wp2;go_ret;exact Be hf g
end Go.Proofs.YtonomfeipkdmhaaGreatDoor
