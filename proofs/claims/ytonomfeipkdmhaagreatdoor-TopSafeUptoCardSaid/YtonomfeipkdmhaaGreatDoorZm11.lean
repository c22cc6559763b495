/- Lemmas. -/
import Derived.Test.YtonomfeipkdmhaaGreatDoorZm09
import Derived.Test.YtonomfeipkdmhaaGreatDoorZm10
import Derived.Deep.CutBlock
set_option linter.all false
set_option maxRecDepth 100000
set_option maxHeartbeats 16000000
namespace Go.Proofs.YtonomfeipkdmhaaGreatDoor
open Go renaming World->A7,Calls->AD,Value->AJ,TypeId->Ab,Ending->Ag
open Go.RowKit renaming Below->AF
open Go.RowKit Go.Proofs.Tryz
open Go.Proofs.Tryz renaming prog->A8
def SK(s:A5)(c i:Nat):Prop:=(c=0/\∀j,1<=j->j<i->s[j]? ≠some 45)\/(1<=c/\c<i/\s[c]?=some 45/\∀j,c<j->j<i->s[j]? ≠some 45)
def AtH{s:A5}{c:Nat}(h:SK s c (s.length+1)):GZ s=if c=0 then E5 (s.length+1) s (IL [])else if 255<c then none else if(s.take c).all Gz=true then E5 ((s.drop (c+1)).length+1) (s.drop (c+1)) (IL ((s.take c).map (·.toNat)))else none:=by
 rcases h with⟨rfl,h⟩|⟨h1,o,b,l⟩
 ·simp;cases s with
  |nil=>rfl
  |cons x r=>
   have m:Ew 45 r=none:=Mx λy k e=>by
    obtain⟨j,d,rfl⟩:=O5 k;exact h (j+1) A4 B7 AS
   unfold GZ;rw[Ew,m];by_cases hx:x=45
   ·grind
   grind
 have a:c<s.length:=by
  by_cases hc:c<s.length
  ·exact hc
  grind
 have e:s[c]=45:=by rw[Cs a]at b;exact Cm b
 have i:s=s.take c++45::s.drop (c+1):=by
  rw[<-e,<-Fr a,F7]
 have n:Ew 45 s=some (s.take c,s.drop (c+1)):=by
  conv=>lhs;rw[i]
  refine On (λx hx f=> ?_) _;obtain⟨j,d,rfl⟩:=O5 hx;rw[C7]at d;rw[List.getElem_drop]at f;exact l (c+1+j) A4 A4 (by rw[Cs A4,f])
 have g:(s.take c).length=c:=Fx;unfold GZ;grind
variable{s:A9}
def Aji{j:Nat}(h:j<s.size):s.toList[j]?=some s[j]:=by
 have a:=congrArg List.head? (Aw s j h);rwa[List.head?_drop]at a
structure Af3(R:Option (List Nat))(s:A9)(W wr:A7)(v4 v5 v8 v9 eT lA:AJ)(cut f:Nat)(st:EN):Prop where
 row:C4 wr W v4 st.l
 fcut:v5=.int .i64 (cut:Int)
 fp:v8=.int .i64 (st.p:Int)
 fsign:v9=.int .i64 (st.sign:Int)
 fbias:eT=.int .i64 (st.bias:Int)
 ffirst:lA=.bool st.first
 cl:cut<=s.size
 len:st.l.length<=100000000
 pl:st.p<=255
 sl:st.sign<=1114111
 bl:st.bias<=756
 fuel:s.size-cut<f
 res:Hid ((st.l.length<=255/\R=E5 f (s.toList.drop cut) st)\/(255<st.l.length/\R=none))
 below:AF W W wr
def C4.readN{w:A7}{B:Nat}{v:AJ}{l:List Nat}(h:C4 w B v l):∃pa c,v=.slice pa l.length c/\Fc w pa l.length c l/\(pa=none->c=0):=by
 have a:=h.read;rcases h.2 with⟨rfl,i⟩|⟨g,d,b,rfl,-⟩
 ·have⟨pa,c,e,a⟩:=a;obtain⟨rfl,h1,rfl⟩:none=pa/\0=l.length/\0=c:=by simpa using e
  exact⟨none,0,by rw[<-h1],a,λ_=>rfl⟩
 have⟨pa,c,e,a⟩:=a;exact⟨pa,c,e,a,λf=>by rw[f]at e;cases e⟩
def AmV{st:EN}{d:Nat}(h:st.l.length=255\/Ce (st.sign+(st.p+d)/(st.l.length+1))=false):Hz st d=none:=by
 unfold Hz;rcases h with h|h
 ·simp_all
 simp_all
def Aw2{st:EN}{d:Nat}(h1:st.l.length<255)(a:Ce (st.sign+(st.p+d)/(st.l.length+1))=true):Hz st d=some ⟨(st.p+d)%(st.l.length+1)+1,st.sign+(st.p+d)/(st.l.length+1),Ha d (st.l.length+1) st.first,false,Eu st.l ((st.p+d)%(st.l.length+1)) (st.sign+(st.p+d)/(st.l.length+1))⟩:=by
 unfold Hz;rw[a,BO (show¬st.l.length=255 by omega),AA AE]
def ApB(s:A9)(w:A7)(hs:s.size<=100000000):AD A8 300 #[.string s] w (St (GZ s) w):=by
 obtain⟨R,hR⟩:=AI (GZ s);rw[hR];replace hR:=H0 hR;go_in;go_wp2_with fail;go_loop[5,6] (λv5 v6=>∃c i:Nat,v5=.int .i64 (c:Int)/\v6=.int .i64 (i:Int)/\1<=i/\i<=s.size+1/\Hid (SK s c i)) (λ_ v6=>s.size+1-(intOf v6).toNat)
 ·exact⟨0,1,rfl,rfl,AG _,A4,H0 (.inl ⟨rfl,λj h1 m=>A4⟩)⟩
 obtain⟨c,i,rfl,rfl,rM,hi,X⟩:=hrel;by_cases P:i<s.size
 ·have hI:(i:Int)<s.size:=A4;have H:=Aji P;obtain⟨x,hx⟩:=AI (s[i]);rw[hx]at H;have bF:=H0 H;clear H;by_cases D:x=45
  ·have e45:((x:Int)==45)=true:=by rw[D];rfl
   have I:=A6 (SK s i (i+1)) (.inr ⟨rM,A4,by rw[bF.out,D],λj h1 m=>A4⟩);go_wp2_with fail;go_round;exact⟨i,i+1,rfl,AP,A4,A4,I⟩;exact AzF
  have e45:((x:Int)==45)=false:=by rw[B6];intro e;exact D (CM.1 (by show x.toNat=45;omega))
  have F:s.toList[i]? ≠some 45:=by rw[bF.out];intro e;exact D (Cm e)
  have I:=A6 (SK s c (i+1)) (by
   rcases X.out with⟨h1,m⟩|⟨h1,m,C,h4⟩
   ·refine .inl ⟨h1,λj T h6=> ?_⟩;by_cases E:j=i
    ·rw[E];exact F
    exact m j T A4
   refine .inr ⟨h1,A4,C,λj T h6=> ?_⟩;by_cases E:j=i
   ·rw[E];exact F
   exact h4 j T A4)
  go_wp2_with fail;go_round;exact⟨c,i+1,rfl,AP,A4,A4,I⟩;exact AzF
 have hI:(s.size:Int)<=i:=A4;have A:SK s c (s.toList.length+1):=by
  have hno:∀j,s.size<=j->s.toList[j]? ≠some 45:=λj E e=>by rw[QF (by rw[AK];exact E)]at e;cases e
  rcases X.out with⟨h1,m⟩|⟨h1,m,C,h4⟩
  ·refine .inl ⟨h1,λj T h6=> ?_⟩;by_cases E:j<i
   ·exact m j T E
   exact hno j A4
  refine .inr ⟨h1,?_,C,λj T h6=> ?_⟩
  ·rw[AK];omega
  by_cases E:j<i
  ·exact h4 j T E
  exact hno j A4
 have hv:=H0 (hR.out.symm.trans (AtH A));have hcs:c<=s.size:=by
  rcases A with⟨h1,-⟩|⟨h1,m,C,-⟩
  ·omega
  by_cases hc:c<=s.size
  ·exact hc
  rw[QF Dy]at C;cases C
 have xI:1<=c->c+1<=s.size:=λh=>by
  rcases A with⟨h1,-⟩|⟨h1,m,C,-⟩
  ·omega
  by_cases hc:c<s.size
  ·omega
  rw[QF Dy]at C;cases C
 replace xI:=H0 xI;clear X A P;go_wp2_with fail;go_loopw[4,7] (λv4 v7 wr=>∃k:Nat,v7=.int .i64 (k:Int)/\k<=c/\C4 wr w v4 ((s.toList.take k).map (·.toNat))/\AF w w wr/\Hid ((s.toList.take k).all Gz=true)) (λ_ v7 _=>c-(intOf v7).toNat)
 ·exact⟨0,rfl,AR _,C4.nil _ _,AU _ _,H0 rfl⟩
 obtain⟨k,rfl,hk,o,a,v⟩:=hrel;have bD:=a.size;have u:((s.toList.take k).map (·.toNat)).length=k:=by rw[Bz,Cl,AK];omega
 by_cases hkc:k<c
 ·have jZ:(k:Int)<c:=A4;have kE:k<s.size:=A4;have hksI:(k:Int)<s.size:=A4;have aV:=DX s k kE;have H:=Aji kE;obtain⟨x,hx⟩:=AI (s[k]);rw[hx]at aV H;have m0:=Bo x;have m1:=Bf x;by_cases hb:x.toNat<128
  ·have hbI:(x:Int)<=127:=A4;have nW:=A6 ((s.toList.take (k+1)).map (·.toNat)=(s.toList.take k).map (·.toNat)++[x.toNat]) (by rw[aV,Dx];rfl);have bH:=A6 ((s.toList.take (k+1)).all Gz=true) (by
    rw[aV,KM,v.out];simp[Gz,hb])
   replace H:=H0 H;generalize(s.toList.take k).map (·.toNat)=L at o u nW;go_wp2_with(at_builtin;refine Qg rfl _ _ rfl x.toNat rfl rfl o a bD rfl A4 ?_;intro v' w' ho' bA _);rw[<-nW.out]at ho';go_roundw;exact⟨k+1,AP,A4,ho',bA,bH⟩;exact AzF
  have hbI:127<(x:Int):=A4;have hf:=A6 (R=none) (by
   rw[hv.out,AA A4];by_cases b:255<c
   ·rw[AC b]
   rw[AA b,AA];intro hall;have iU:x∈s.toList.take c:=List.mem_of_getElem? (i:=k) (by rw[RO,AC hkc];exact H);have:=Et.1 hall x iU;unfold Gz at this;exact hb (Mb this))
  go_wp2_with fail;go_ret2;exact NG hf a
 have jZ:(c:Int)<=k:=A4;obtain rfl:k=c:=A4;obtain⟨cut,L,hcut,hLl,hgo,pI⟩:∃(cut:Nat)(L:List Nat),(k=0/\cut=0\/1<=k/\cut=k+1)/\L.length=k/\(s.toList.take k).map (·.toNat)=L/\Hid ((k<=255/\R=E5 ((s.toList.drop cut).length+1) (s.toList.drop cut) (IL L))\/(255<k/\R=none)):=by
  by_cases h0:k=0
  ·subst h0;exact⟨0,[],.inl ⟨rfl,rfl⟩,rfl,rfl,H0 (.inl ⟨A4,by rw[hv.out,AC rfl,C9]⟩)⟩
  refine⟨k+1,_,.inr ⟨A4,rfl⟩,u,rfl,H0 ?_⟩;by_cases b:255<k
  ·exact .inr ⟨b,by rw[hv.out,AA h0,AC b]⟩
  exact .inl ⟨A4,by rw[hv.out,AA h0,AA b,AC v.out]⟩
 rw[hgo]at o;have U:cut<=s.size:=by
  rcases hcut with⟨-,rfl⟩|⟨h1,rfl⟩
  ·omega
  exact xI.out h1
 have qH:∀v5,v5=Value.int .i64 (cut:Int)->Af3 R s w _ _ v5 (.int .i64 0) (.int .i64 128) (.int .i64 72) (.bool true) cut ((s.toList.drop cut).length+1) (IL L):=λv5 e=>⟨o,e,rfl,rfl,rfl,rfl,U,by show L.length<=_;omega,AR _,by show 128<=_;omega,by show 72<=_;omega,by rw[C7,AK];omega,H0 (by
  rcases pI.out with⟨h1,m⟩|⟨h1,m⟩
  ·exact .inl ⟨by show L.length<=_;omega,m⟩
  exact .inr ⟨by show 255<L.length;omega,m⟩),a⟩
 change Hid _ at hgo qH;clear pI v o u jZ;have p:(0=k/\cut=0)\/((0<(k:Int)/\decide (0<k)=true)/\cut=k+1):=by
  rcases hcut with⟨h1,m⟩|⟨h1,m⟩
  ·exact .inl ⟨h1.symm,m⟩
  exact .inr ⟨⟨A4,Bx A4⟩,m⟩
 clear hcut;rcases p with⟨rfl,rfl⟩|⟨⟨q1,q2⟩,rfl⟩;all_goals
  go_wp2_with fail;go_loopw[4,5,8,9,10,11] (λv4 v5 v8 v9 eT lA wr=>∃(cut f:Nat)(st:EN),Af3 R s w wr v4 v5 v8 v9 eT lA cut f st) (λ_ v5 _ _ _ _ _=>s.size-(intOf v5).toNat)
  ·exact⟨_,_,_,qH.out _ Rf⟩
  clear qH a bD;try clear q1 q2
  obtain⟨cut,f,st,hD⟩:=hrel;obtain⟨aH,rfl,rfl,rfl,rfl,rfl,bR,K,hpl,hsl,hbl,vR,l,a⟩:=hD;have bD:=a.size;obtain⟨pa,cc,rfl,y,aX⟩:=aH.readN;obtain⟨⟨q,g,bias,first,L⟩,aF⟩:∃x,st=x:=⟨_,rfl⟩;subst aF;dsimp only at K hpl hsl hbl l aH y⊢;obtain⟨n,I⟩:=AI (L.length);rw[I]at K l y⊢;by_cases P:cut<s.size
  ·have hI:(cut:Int)<s.size:=A4;have i1:(cut:Int)<=s.size:=A4;have i2:0<=(cut:Int):=A4;obtain⟨J,rfl⟩:∃J,f=J+1:=⟨f-1,A4⟩;have u0:(s.extract cut s.size).toList=s.toList.drop cut:=UB;have fL:(s.extract cut s.size).size<=100000000:=Bk;have Y:=λw=>AmI (s.extract cut s.size) bias w fL A4;rw[u0]at Y;have F:s.toList.drop cut≠[]:=by intro e;have:=congrArg List.length e;rw[C7,AK]at this;simp at this;omega
   have Z:=Adv (f:=J) (st:=⟨q,g,bias,first,L⟩) F;have r:=Zw bias (s.toList.drop cut) 0 0 1;obtain⟨O,hO⟩:=AI (G0 bias (s.toList.drop cut) 0 0 1);dsimp only at Z;rw[hO]at Y Z r;replace hO:=H0 hO;cases O with
   |none=>
    have nJ:=A6 (∀w,AD A8 321 #[.string (s.extract cut s.size),.int .i64 (bias:Int)] w (AzJ (.tuple #[.int .i64 0,.int .i64 0]) w)) Y;have hf:=A6 (R=none) (by
     rcases l.out with⟨-,h⟩|⟨-,h⟩
     ·rw[h,Z]
     exact h)
    clear Y;replace r:=H0 r;go_wp2_with fail;refine(nJ.out _).mono (AH ?_);go_wp2_with fail;go_ret2;exact NG hf a
   |some dk=>
    obtain⟨d,k⟩:=dk;have nJ:=A6 (∀w,AD A8 321 #[.string (s.extract cut s.size),.int .i64 (bias:Int)] w (AzJ (.tuple #[.int .i64 (d:Int),.int .i64 (k:Int)]) w)) Y;obtain⟨hk0,u,X⟩:=r d k rfl;rw[C7,AK]at u;dsimp only at Z;clear Y r;have kz:((k:Int)==0)=false:=DV;have n1z:¬((n:Int)+1=0):=A4;have jZ:(cut:Int)+k<=(s.size:Int):=A4;have hq1:((q:Int)+d)/((n:Int)+1)=(((q+d)/(n+1):Nat):Int):=AN;have hq2:((q:Int)+d)%((n:Int)+1)=(((q+d)%(n+1):Nat):Int):=AN;have oV:((q:Int)+d).tmod ((n:Int)+1)=(((q+d)%(n+1):Nat):Int):=by rw[MW A4];simp
    have jW:(q+d)/(n+1)<=q+d:=Pf _ _;have hqm:(q+d)%(n+1)<n+1:=Fw _ A4;have z:=AmV (st:=⟨q,g,bias,first,L⟩) (d:=d);have N:=Aw2 (st:=⟨q,g,bias,first,L⟩) (d:=d);dsimp only at z N;rw[I]at z N;obtain⟨Q,hQ⟩:=AI ((q+d)/(n+1));obtain⟨M,hM⟩:=AI ((q+d)%(n+1));rw[hQ]at hq1 jW z N;rw[hM]at hq2 oV hqm N;have hQ1:(Q:Int)<=2147483902:=A4;have cB:=H0 (λw=>AiO (g+Q) w);rw[show((g+Q:Nat):Int)=(g:Int)+(Q:Int)by omega]at cB;by_cases t:255<=n\/Ce (g+Q)=false
    ·have hf:=A6 (R=none) (by
      rcases l.out with⟨h1,h⟩|⟨-,h⟩
      ·rw[h,Z,z (by rcases t with m|m;exact .inl A4;exact .inr m)]
      exact h)
     have p:Ce (g+Q)=false\/(Ce (g+Q)=true/\255<=(n:Int)):=by
      cases B:Ce (g+Q)
      ·exact .inl rfl
      refine .inr ⟨rfl,?_⟩;rcases t with h|h
      ·omega
      rw[B]at h;cases h
     generalize Ce (g+Q)=sb at cB p;replace N:=H0 N;rcases p with rfl|⟨rfl,b⟩;all_goals
      go_wp2_with fail;refine(nJ.out _).mono (AH ?_);go_wp2_with fail;refine(cB.out _).mono (AH ?_);go_wp2_with fail;go_ret2;exact NG hf a
    have W:n<255:=A4;have B:Ce (g+Q)=true:=by
     cases B:Ce (g+Q)
     ·exact absurd (.inr B) t
     rfl
    have hRn:=A6 (R=E5 J (s.toList.drop (cut+k)) ⟨M+1,g+Q,Ha d (n+1) first,false,Eu L M (g+Q)⟩) (by
     rcases l.out with⟨-,h⟩|⟨h1,-⟩
     ·rw[h,Z,N W B,Ka]
     omega)
    have wS:g+Q<=1114111:=by
     unfold Ce at B;rw[C0]at B;exact Mb B.1
    have G:(Eu L M (g+Q)).length=n+1:=by rw[Qk _ _ _ A4,I]
    have V:=H0 (λw=>Akd d (n+1) first w X A4 A4);rw[show((n+1:Nat):Int)=(n:Int)+1 by omega]at V;have oZ:=YF d (n+1) first X
    rw[B]at cB;generalize Ha d (n+1) first=nb at V oZ hRn
    obtain⟨pb,hsl1,hrt,hnb⟩:=y.take M A4;obtain⟨pc,hsl2,sH,gD⟩:=y.drop M A4;have aQ:=Ah wr (.cells #[] 3);have hrt0:=H0 (hrt.below aQ (AG _));have kH:=A6 (pb=none->cc=0) (λe=>aX (hnb e));have hnc0:=A6 (pc=none->cc-M=0) (λe=>by rw[aX (gD e),Nat.zero_sub]);have kL:=A6 ((([]++L.take M)++[g+Q])++L.drop M=Eu L M (g+Q)) (by unfold Eu;simp);have j7:([]++L.take M:List Nat).length<=1000:=by rw[Do,Cl];omega
    have hlt2:(([]++L.take M)++[g+Q]:List Nat).length<=1000:=by rw[Aa];simp at j7⊢;omega
    replace G:=H0 G;clear y aX aH;go_wp2_with fail;refine(nJ.out _).mono (AH ?_);go_wp2_with fail;refine(cB.out _).mono (AH ?_);go_wp2_with(first|(refine Ab1 rfl (.tmp 86) (.tmp 89) rfl (L.take M) pb cc rfl rfl kH hrt0 (C4.empty (AG _)) aQ aQ.size AN A4 ?_;intro v1 w1 i9 hb1)|(refine Qg rfl (.tmp 91) (.tmp 93) rfl (g+Q) rfl rfl i9 hb1 hb1.size A4 A4 ?_;intro v2 w2 ho2 S _)|(refine Ab1 rfl (.tmp 95) (.tmp 98) rfl (L.drop M) pc (cc-M) rfl rfl hnc0 (sH.below S (AG _)) ho2 S S.size A4 A4 ?_;intro v3 w3 jX hb3));refine(V.out _).mono (AH ?_);rw[kL.out]at jX;have aG:=a.trans (hb3.mono bD);go_wp2_with fail;go_roundw;exact⟨cut+k,J,⟨M+1,g+Q,nb,false,Eu L M (g+Q)⟩,⟨jX.mono bD,AP,AP,AP,rfl,rfl,A4,by have:=G.out;show(Eu L M (g+Q)).length<=_;omega,by show M+1<=255;omega,wS,oZ,A4,H0 (.inl ⟨by have:=G.out;show(Eu L M (g+Q)).length<=_;omega,hRn⟩),aG⟩⟩;exact AzF
  have hI:(s.size:Int)<=cut:=A4;have hend:s.toList.drop cut=[]:=CP s cut A4;by_cases b:n<=255
  ·have hf:=A6 (R=some L) (by
    rcases l.out with⟨-,h⟩|⟨h1,-⟩
    ·obtain⟨J,rfl⟩:∃J,f=J+1:=⟨f-1,A4⟩;rw[h,hend,Ahi]
    omega)
   go_wp2_with fail;go_ret2;exact Aef hf (by rw[<-I];exact aH) a
  have hf:=A6 (R=none) (by
   rcases l.out with⟨h1,-⟩|⟨-,h⟩
   ·omega
   exact h)
  go_wp2_with fail;go_ret2;exact NG hf a
def TN:A9:=⟨#[97,98,99,100,101,102,103,104,105,106,107,108,109,110,111,112,113,114,115,116,117,118,119,120,121,122,48,49,50,51,52,53,54,55,56,57]⟩
def An9(d:Nat)(h:d<36):(TN.extract d (d+1)).toList=[Er d]:=by
 have a:∀d:Fin 36,(TN.extract d.val (d.val+1)).toList=[Er d.val]:=AX;exact a ⟨d,h⟩
def Amf(d0 bias:Nat)(w:A7)(v:d0<=2147483647)(O:bias<=1000000):AD A8 325 #[.int .i64 (d0:Int),.int .i64 (bias:Int)] w λe w'=>∃t:A9,e=.returned (.string t)/\Hid (t.toList=Fu d0 bias)/\w=w':=by
 obtain⟨R,k⟩:=AI (Fu d0 bias);rw[k];replace k:=H0 k;obtain⟨A,p⟩:=AI (TN);have c:=An9;have n:TN.size=36:=AE;rw[p]at c n;have P:(ByteArray.mk #[97,98,99,100,101,102,103,104,105,106,107,108,109,110,111,112,113,114,115,116,117,118,119,120,121,122,48,49,50,51,52,53,54,55,56,57])=A:=p;change Hid _ at p c;go_in;go_wp2;go_loop[0,6,7] (λv0 G l=>∃(d j:Nat)(t:A9),v0=.int .i64 (d:Int)/\G=.string t/\l=.int .i64 (j:Int)/\d<=2147483647/\j<=40/\t.size<=j/\Hid (t.toList++FX bias (40-j) j d=R)) (λ_ _ l=>40-(intOf l).toNat)
 ·exact⟨d0,0,⟨#[]⟩,rfl,rfl,rfl,v,AR _,AR _,H0 (by rw[<-k.out,show(ByteArray.mk #[]).toList=[]from toList_mk []];rfl)⟩
 obtain⟨d,j,t,rfl,rfl,rfl,v,N,E,u⟩:=hrel;by_cases B:j<40
 ·have r:=H0 (λw=>AiJ j bias w A4 A4);have o:=Ns j bias;have f:=u.out;rw[show 40-j=(39-j)+1 by omega,FX]at f;generalize g:D6 j bias=b at r o f;replace g:=H0 g;by_cases h:d<b
  ·rw[AC h]at f;have a:=c.out d A4;have C:(A.extract d (d+1)).size=1:=Bk;have hf:=A6 ((t++A.extract d (d+1)).toList=R) (by rw[toList_append,a,f]);have I:¬(9223372036854775807<t.size+1):=A4;have x:(d:Int)+1<=36:=A4;change Hid _ at f a;go_wp2_with fail;go_call r;refine AH ?_;go_wp2;go_ret;exact⟨_,rfl,hf,rfl⟩
  rw[AA h]at f;obtain⟨q,i⟩:=AI ((d-b)/(36-b));obtain⟨m,hm⟩:=AI ((d-b)%(36-b));have U:q<=d:=by rw[<-i];exact CR (Pf _ _) (Nat.sub_le _ _)
  have Q:m<36-b:=AcA;rw[i,hm]at f;have hx:((d:Int)-b)=((d-b:Nat):Int):=A4;have M:36-(b:Int)=((36-b:Nat):Int):=A4;have J:((d-b:Nat):Int)/((36-b:Nat):Int)=(q:Int):=by rw[<-i];simp
  have H:((d-b:Nat):Int).tmod ((36-b:Nat):Int)=(m:Int):=by rw[MW A4,<-hm];simp
  have z:((d-b:Nat):Int)%((36-b:Nat):Int)=(m:Int):=by rw[<-hm];simp
  have D:¬(((36-b:Nat):Int)=0):=A4;have a:=c.out (b+m) A4;have C:(A.extract (b+m) (b+m+1)).size=1:=Bk;have F:=A6 ((t++A.extract (b+m) (b+m+1)).toList++FX bias (40-(j+1)) (j+1) q=R) (by
   rw[toList_append,a,CQ,show 40-(j+1)=39-j by omega];exact f)
  have I:¬(9223372036854775807<t.size+1):=A4;have T:(b:Int)+m+1<=36:=A4;have y:0<=(b:Int)+m:=A4;have K:((b:Int)+m).toNat=b+m:=A4;have s:((b:Int)+m+1).toNat=b+m+1:=A4;have S:((d-b:Nat):Int)<=2147483647:=A4;have L:(q:Int)<=2147483647:=A4;change Hid _ at f a i hm;generalize((d-b:Nat):Int)=X at *;generalize((36-b:Nat):Int)=Y at *;go_wp2_with fail;go_call r;refine AH ?_;go_wp2;go_round
  ·exact⟨q,j+1,_,by first|rfl|(rw[J]),rfl,AP,A4,A4,Z6,F⟩
  simp[intOf];omega
 have hf:=A6 (t.toList=R) (by
  have:=u.out;rw[show 40-j=0 by omega]at this;rw[<-this];exact(Bq _).symm)
 go_wp2;go_ret;exact⟨_,rfl,hf,rfl⟩
def Ht(l:List Nat)(low:Nat):Nat:=l.foldl (λm c=>if low<=c then min m c else m) 0x110000
def AaP(low:Nat):∀(l:List Nat)(f:Int)(m:Nat),(∀c∈l,c<=1114111)->((f=-1/\m=0x110000)\/(0<=f/\f<=1114111/\f=(m:Int)))->((l.foldl (Fi low) f=-1/\l.foldl (λm c=>if low<=c then min m c else m) m=0x110000)\/(0<=l.foldl (Fi low) f/\l.foldl (Fi low) f<=1114111/\l.foldl (Fi low) f=((l.foldl (λm c=>if low<=c then min m c else m) m:Nat):Int)))
 |[],_,_,_,h=>h
 |c::r,f,m,hc,h=>by
  have h1:=hc c (CC ..);refine AaP low r _ _ (λx hx=>hc x (Cr _ hx)) ?_;unfold Fi;dsimp only;by_cases a:low<=c
  ·rw[AC a];rcases h with⟨rfl,rfl⟩|⟨e,d,rfl⟩
   ·grind
   by_cases b:c<m
   ·grind
   grind
  grind
def AxO{l:List Nat}{low m:Nat}(hc:∀c∈l,c<=1114111)(h:F4 l low=(m:Int)):Ht l low=m:=by
 rcases AaP low l (-1) 0x110000 hc (.inl ⟨rfl,rfl⟩)with⟨h1,-⟩|⟨-,-,a⟩
 ·unfold F4 at h;omega
 unfold F4 at h;unfold Ht;omega
def Asi(l:List Nat)(c low:Nat):Ht (l++[c]) low=if low<=c then min (Ht l low) c else Ht l low:=by unfold Ht;rw[List.foldl_append];rfl
def AmF(pa:Option Addr)(n c:Nat)(l:List Nat)(low:Nat)(w:A7)(h:Fc w pa n c l)(u:n<=1000000000):AD A8 324 #[.slice pa n c,.int .i64 (low:Int)] w (L8 (Ht l low:Int) w):=by
 have r:=h.len;have b:=H0 h.cells;clear h;go_in;go_wp2;go_loop[5,6] (λv5 j=>∃k:Nat,j=.int .i64 k/\k<=n/\v5=.int .i64 ((Ht (l.take k) low:Nat):Int)) (λ_ j=>n-(intOf j).toNat)
 ·exact VE
 obtain⟨k,rfl,t,rfl⟩:=hrel;by_cases q:k<n
 ·have⟨g,o,hpa,hc⟩:=b.out A4;have d:k<l.length:=A4;have p:=hc k d;unfold Cd at p;have e:=A6 (Ht (l.take (k+1)) low=if low<=l[k]then min (Ht (l.take k) low) l[k]else Ht (l.take k) low) (by rw[Akv l k d,Asi]);generalize hx:l[k]=x at p e;generalize hf:Ht (l.take k) low=f at e⊢;change Hid _ at hx hc hf r;subst hpa;by_cases a:low<=x
  ·obtain⟨m,i⟩:=AI (min f x);have s:min (f:Int) (x:Int)=(m:Int):=A4;have aC:=A6 (Ht (l.take (k+1)) low=m) (by rw[e.out,AC a,i]);replace i:=H0 i;exact AlT
  have aC:=A6 (Ht (l.take (k+1)) low=f) (by rw[e.out,AA a]);replace a:=H0 a;exact AlT
 have aD:=A6 (Ht (l.take k) low=Ht l low) (by rw[Bc A4]);exact VN
def AnL(pa:Option Addr)(n c:Nat)(l:List Nat)(w:A7)(h:Fc w pa n c l)(hn:n<=1000000000):AD A8 302 #[.slice pa n c] w (KL (GX l) w):=by
 have bH:=h.len;have bG:=H0 h;clear h;obtain⟨R,hR⟩:=AI (GX l);rw[hR];by_cases h255:255<n
 ·exact AcP
 have iL:=A6 (R=if l.all Ce=true then some (Fv l (l.length+1) 128 (Dg l)).out else none) (by rw[<-hR];unfold GX;rw[AA A4]);replace bH:=H0 bH;go_in;go_wp2_with fail;go_loopw[4,5,6] (λv4 v5 v6 wr=>∃(k:Nat)(t:A9),v4=.string t/\v5=.int .i64 ((DQ (l.take k)).length:Int)/\v6=.int .i64 k/\k<=n/\Hid (t.toList=DQ (l.take k))/\AF w w wr/\Hid ((l.take k).all Ce=true)) (λ_ _ v6 _=>n-(intOf v6).toNat)
 ·exact⟨0,⟨#[]⟩,rfl,rfl,rfl,AR _,H0 (toList_mk []),AU _ _,H0 rfl⟩
 obtain⟨k,t,rfl,rfl,rfl,hk,K,hbel,i⟩:=hrel;have bD:=hbel.size;by_cases S:k<n
 ·have hr:=bG.out.below hbel (AG _);obtain⟨g,o,rfl,hc⟩:=hr.cells A4;have s:k<l.length:=JN;have ck:=hc k s;unfold Cd at ck;have hbs:=Al0 l k s;have wD:=H0 (Ac4 s i);have hno:=H0 (Acv s);have E:(DQ (l.take k)).length<=k:=by
   rw[K5];have:=M6 128 (l.take k);exact OK
  have M:t.size=(DQ (l.take k)).length:=by rw[<-AK,K.out]
  obtain⟨x,hx⟩:=AI (l[k]);rw[hx]at ck hbs wD hno;have cB:=H0 (λw=>AiO x w);replace hc:=H0 hc;clear hr;obtain⟨sb,cJ⟩:=AI (Ce x);rw[cJ]at cB;obtain⟨bl,zK⟩:∃b,(DQ (l.take k)).length=b:=⟨_,rfl⟩;rw[zK]at E M⊢;cases sb
  ·exact Ab2
  have aC:=H0 (wD.out cJ);by_cases C:x<128
  ·rw[AC C]at hbs;have O:=A6 ((DQ (l.take (k+1))).length=bl+1) (by rw[hbs,Aa,zK];rfl);replace hbs:=H0 hbs;have dZ:IntKind.u8.wrap (x:Int)=(x:Int):=NO;obtain⟨u,hu,hcv⟩:=Oy [UInt8.ofNat x] #[.int .u8 (x:Int)] (by rw[K4 (n:=x) rfl A4];rfl) 1 rfl;have wW:u.size=1:=by rw[<-AK,hu.out];rfl
   have F:=A6 ((t++u).toList=DQ (l.take (k+1))) (by rw[toList_append,K.out,hu.out,hbs.out]);have aE:=hbel.alloc bD (.cells #[.int .u8 (x:Int)] 5);go_wp2_with fail;refine(cB.out _).mono (AH ?_);go_wp2_with fail;go_roundw;exact⟨k+1,t++u,rfl,by rw[O.out];go_num,AP,A4,F,aE,aC⟩;exact AzF
  rw[AA C,Bq]at hbs;have O:=A6 ((DQ (l.take (k+1))).length=bl) (by rw[hbs,zK]);have F:=A6 (t.toList=DQ (l.take (k+1))) (by rw[K.out,hbs]);go_wp2_with fail;refine(cB.out _).mono (AH ?_);go_wp2_with fail;go_roundw;exact⟨k+1,t,rfl,by rw[O.out],AP,A4,F,hbel,aC⟩;exact AzF
 have dA:l.take k=l:=Bc JN;rw[dA]at K i⊢;have Z:=A6 (R=some (Fv l (l.length+1) 128 (Dg l)).out) (by rw[iL.out,AC i.out]);clear iL;have E:=M6 128 l;rw[<-K5,bH.out]at E;obtain⟨N0,lN⟩:∃N,(DQ l).length=N:=⟨_,rfl⟩;have j9:=A6 (N0=Io 128 l) (by rw[<-lN,K5]);rw[lN];have M:t.size=N0:=by rw[<-AK,K.out,lN]
 have iR:=A6 ((Dg l).out=if N0=0 then[]else DQ l++[45]) (by
  exact Acs)
 rw[lN]at E;go_upto_if 45 with(fail);go_cut[4] (λs4 wx=>∃z:A9,s4=.string z/\Hid (z.toList=(Dg l).out)/\AF w w wx);case first=>as_aux_lemma=>
  by_cases h0:N0=0
  ·have T:¬0<N0:=A4;rw[AC h0]at iR;have r:=A6 (t.toList=(Dg l).out) (by rw[iR.out,K.out];exact NK.1 (lN.trans h0));replace h0:=H0 h0;go_wp2_with fail;go_meet;exact⟨t,rfl,r,hbel⟩
  have T:0<N0:=A4;rw[AA h0]at iR;have r:=A6 ((t++⟨#[45]⟩).toList=(Dg l).out) (by rw[toList_append,iR.out,K.out,show(ByteArray.mk #[45]).toList=[45]from toList_mk [45]]);go_wp2_with fail;go_meet;exact⟨_,rfl,r,hbel⟩
 ·obtain⟨z,rfl,j,bS⟩:=hcut;have Q:n=l.length:=bH.out.symm;clear hbel bD iR S dA M K;have uS:(Dg l).out.length<=256+40*N0:=by
   exact Aes
  have eC:(Dg l).done=N0:=by rw[j9.out,<-K5];rfl
  go_wp2_with fail;go_loopw[4,5,7,8,9,10] (λv4 W eT v9 v8 lA wr=>∃(f sg:Nat)(st:EK)(t:A9),v4=.string t/\Hid (t.toList=st.out)/\W=.int .i64 (st.done:Int)/\v8=.int .i64 (st.d:Int)/\v9=.int .i64 (sg:Int)/\eT=.int .i64 (st.bias:Int)/\lA=.bool st.first/\AF w w wr/\n<st.done+f/\Hid (st.done=Io sg l)/\st.done<=n/\st.d<=257/\st.bias<=756/\st.out.length<=256+40*st.done/\sg<=1114112/\Hid (R=some (Fv l f sg st).out)) (λ_ W _ _ _ _ _=>n-(intOf W).toNat)
  ·exact⟨n+1,128,Dg l,z,rfl,j,by rw[eC],rfl,rfl,rfl,rfl,bS,A4,H0 (by rw[eC];exact j9),A4,AR _,by show 72<=756;decide,by rw[eC];exact uS,A4,by rw[Q];exact Z⟩
  clear bS uS eC Z j9 E;obtain⟨f,sg,⟨d0,eE,H,G,A⟩,t0,rfl,r,rfl,rfl,rfl,rfl,rfl,hbel,vR,fQ,yJ,rY,kV,sL,hsgl,B⟩:=hrel;dsimp only at r vR fQ yJ rY kV sL B⊢;by_cases S:eE<n
  ·obtain⟨m,aY,xT,wH,bO⟩:=Akp (sg:=sg) (l:=l) (by rw[<-fQ.out];omega);obtain⟨f,rfl⟩:∃g,f=g+1:=⟨f-1,A4⟩;have hm11:m<=1114111:=U8 (Et.1 i m aY);have aJ:=Adw (f:=f) (st:=⟨d0,eE,H,G,A⟩) (show(⟨d0,eE,H,G,A⟩:EK).done<l.length by show eE<l.length;omega) xT;have U:=H0 (λw h=>AmF pa n c l sg w h hn);rw[AxO (λc hc=>U8 (Et.1 i.out c hc)) xT]at U;obtain⟨e,he⟩:=AI (m-sg);obtain⟨p,hp⟩:=AI (e*(eE+1));have heI:(m:Int)-sg=(e:Int):=A4;have rA:(e:Int)*((eE:Int)+1)=(p:Int):=by rw[<-hp];simp
   have hpl:p<=284098305:=Aks;obtain⟨q,hq⟩:=AI (d0+p);have tR:(d0:Int)+p=(q:Int):=A4;have lY:Ld l sg m ⟨d0,eE,H,G,A⟩=⟨q,eE,H,G,A⟩:=by
    unfold Ld;dsimp only;rw[he,hp,hq]
   rw[lY]at aJ;have bM:=B.out;rw[aJ]at bM;have oB:=UY m l ⟨q,eE,H,G,A⟩;have pK:=(Yu m l ⟨q,eE,H,G,A⟩).2 aY;have Y:0<l.count m:=List.count_pos_iff.2 aY;have hbs:=X0 bO wH;have m8:Og q eE 0 ⟨q,eE,H,G,A⟩:=⟨AG _,AG _,AG _,kV,sL⟩;have hBk:=H0 (λk hk=>Xe (m:=m) (l:=l) m8 k hk A4);clear aJ lY m8;have aV:=H0 (λk h=>XI m l k ⟨q,eE,H,G,A⟩ h);have rQ:=A6 (l.take n=l) (by rw[Q];exact Li);have e1:(e:Int)<=1114111:=A4;have q1:(q:Int)<=284098562:=A4;have m0:0<=(m:Int):=A4;have m1:(m:Int)<=1114111:=A4;change Hid _ at bM oB pK Y hbs xT he Q aY bO wH;go_wp2_with fail;refine(U.out _ (bG.out.below hbel (AG _))).mono (AH ?_);go_wp2_with fail;go_loopw[4,5,7,9,10,12] (λv4 W eT v8 lA xL wr=>∃(k:Nat)(st:EK)(t:A9),v4=.string t/\Hid (t.toList=st.out)/\W=.int .i64 (st.done:Int)/\v8=.int .i64 (st.d:Int)/\eT=.int .i64 (st.bias:Int)/\lA=.bool st.first/\xL=.int .i64 (k:Int)/\k<=n/\AF w w wr/\Hid ((l.take k).foldl (Cp m) ⟨q,eE,H,G,A⟩=st)) (λ_ _ _ _ _ xL _=>n-(intOf xL).toNat)
   ·exact⟨0,⟨q,eE,H,G,A⟩,t0,rfl,r,rfl,Gq,rfl,rfl,rfl,AR _,hbel,H0 rfl⟩
   clear r hbel;obtain⟨k,⟨v,y,b1,X,P⟩,z,rfl,j,rfl,rfl,rfl,rfl,rfl,hk,hbel,aF⟩:=hrel;dsimp only at j aF⊢;have oR:=hBk.out k (by rw[<-Q.out];exact hk);rw[aF.out]at oR;obtain⟨B1,B2,B3,B4,B5⟩:=oR;dsimp only at B1 B2 B3 B4 B5;have ht1z:z.size=P.length:=by rw[<-AK,j.out]
   have D1:(v:Int)<=284098820:=A4;have N1:(y:Int)<=1000:=A4;by_cases hkn:k<n
   ·have s:k<l.length:=by rw[<-Q.out];exact hkn
    have hr:=bG.out.below hbel (AG _);obtain⟨g,o,rfl,hc⟩:=hr.cells A4;have ck:=hc k s;unfold Cd at ck;have a:=aV.out k s;rw[aF.out]at a;obtain⟨x,hx⟩:=AI (l[k]);rw[hx]at ck a;replace hc:=H0 hc;clear hr;unfold Cp at a;dsimp only at a;by_cases I:x=m
    ·subst I;rw[AC rfl]at a;have hwp:=H0 (λw=>Amf v b1 w A4 A4);have fO:=Uf v b1;have L:=H0 (λw=>Akd v (y+1) X w A4 A4 A4);rw[show((y+1:Nat):Int)=(y:Int)+1 from A4]at L;obtain⟨nb,lB⟩:=AI (Ha v (y+1) X);rw[lB]at a L;change Hid _ at lB a;go_wp2_with fail;refine(hwp.out _).mono ?_;rintro e' w2⟨u,rfl,hu,rfl⟩;have wW:u.size<=40:=by rw[<-AK,hu.out];exact fO
     have F:=A6 ((z++u).toList=P++Fu v b1) (by rw[toList_append,j.out,hu.out]);go_wp2_with fail;refine(L.out _).mono (AH ?_);go_wp2_with fail;go_roundw;exact⟨k+1,⟨0,y+1,nb,false,P++Fu v b1⟩,z++u,rfl,F,Gq,rfl,rfl,rfl,AP,A4,hbel,a⟩;exact AzF
    rw[AA I]at a;have hne:((x:Int)==m)=false:=DV;by_cases J:x<m
    ·rw[AC J]at a;change Hid _ at a I;go_wp2_with fail;go_roundw;exact⟨k+1,⟨v+1,y,b1,X,P⟩,z,rfl,j,rfl,Gq,rfl,rfl,AP,A4,hbel,a⟩;exact AzF
    rw[AA J]at a;change Hid _ at a I;go_wp2_with fail;go_roundw;exact⟨k+1,⟨v,y,b1,X,P⟩,z,rfl,j,rfl,rfl,rfl,rfl,AP,A4,hbel,a⟩;exact AzF
   have qN:k=n:=A4;have D:=aF.out;rw[qN,rQ.out]at D;have iE:=oB.out;have iP:=pK.out;have fP:=bM.out;rw[D]at iE iP fP;dsimp only at iE iP fP;have V:=hbs.out;rw[<-fQ.out,<-iE]at V;have yZ:=Y.out;have hle:=M6 (m+1) l;rw[V]at hle;have hll:=Q.out;have hd256:v<=255:=A4;have zU:y<=n:=A4;have hdng:eE<y:=A4;replace V:=H0 V.symm;change Hid _ at fP iE iP D yZ hll qN;go_wp2_with fail;go_roundw;exact⟨f,m+1,⟨v+1,y,b1,X,P⟩,z,rfl,j,rfl,Gq,Gq,rfl,rfl,hbel,by show n<y+f;omega,V,zU,by show v+1<=257;omega,B4,B5,A4,fP⟩;exact AzF
  have aD:=A6 (R=some A) (by
   rw[B.out,Ads (by show¬eE<l.length;omega)])
  go_wp2_with fail;go_ret2;exact UC aD r hbel
def AfX(s:A9)(w:A7)(l:A5)(e:Ag)(w':A7):Prop:=∃t:A9,e=.returned (.string t)/\Hid (t.toList=l)/\t.size<=s.size/\w=w'
def Jo(s:A9)(a b:Nat):(s.extract a b).size<=s.size:=Bk
def Lx(k:Nat):(s.extract k s.size).toList=s.toList.drop k:=by
 rw[toList_extract,<-AK,Li]
def QN(s:A9)(w:A7)(g:s.size<=1099511627776):AD A8 176 #[.string s] w (AfX s w (DH s)):=by
 go_in;go_wp2;go_loop[3] (λiv=>∃k:Nat,iv=.int .i64 k/\k<=s.size/\Hid (DH (s.toList.drop k)=DH s)) (λiv=>s.size-(intOf iv).toNat)
 ·exact SU
 obtain⟨k,rfl,f,b⟩:=hrel;by_cases a:k<s.size
 ·have d:=Aw s k a;cases hb:CL (s[k].toNat:Int)
  ·have c:=A6 ((s.extract k s.size).toList=DH s) (by
    rw[Lx,<-b.out,d];unfold DH;rw[EF,AA (by show¬CL _=true;rw[hb];decide)])
   go_wp2_with(go_call KE;refine AH ?_);go_ret;exact⟨_,rfl,c,Jo _ _ _,rfl⟩
  have aC:=A6 (DH (s.toList.drop (k+1))=DH s) (by
   rw[<-b.out,d];unfold DH;rw[EF,AC (show isB s[k]=true from hb)])
  go_wp2_with(go_call KE;refine AH ?_);exact JT
 obtain rfl:k=s.size:=A4;have c:=A6 (ByteArray.empty.toList=DH s) (by rw[<-b.out,CP s s.size (AG _)];exact toList_mk []);go_wp2;go_ret;exact⟨_,rfl,c,AR _,rfl⟩
variable{c:UInt8}{r:A5}
def O4(h:s.toList=c::r):∃h0:0<s.size,s[0]=c:=by
 exact Akf
def Lj(h:s.toList=c::r):s.toList.isEmpty=false:=by simp_all
def Vb(h:s.toList=[]):s.toList.isEmpty=true:=by simp_all
def KT{d:UInt8}(h:c=d):((c:Int)==(d:Int))=true/\((c:Int)!=(d:Int))=false:=by simp_all
def Is{d:UInt8}(h:c≠d):((c:Int)==(d:Int))=false/\((c:Int)!=(d:Int))=true:=
 Mz (λa=>h (CM.1 A4))
def Axe(s:A9)(w:A7)(B:s.size<=4294967000)(k:DW w):AD A8 178 #[.string s] w λe w'=>∃t:A9,e=.returned (.string t)/\Hid (t.toList=LX s)/\t.size<=s.size/\AF w w w':=by
 match a:s.toList with
 |[]=>
  have o:=Vb a;have hy:=A6 (s.toList=LX []) a;replace a:=H0 a;exact Yr
 |c::r=>
  have o:=Lj a;have⟨hp,hc⟩:=O4 a;have A:1<=(s.size:Int):=A4;by_cases f:c=34\/c=39
  ·obtain⟨x,hx⟩:=AI (s.extract 1 s.size);obtain⟨q,l⟩:=AI (s.extract 0 1);have v:x.toList=r:=by rw[<-hx,Lx,a];rfl
   have C:x.size<=s.size:=by rw[<-hx];exact Jo _ _ _
   have g:q=⟨#[c]⟩:=by apply Lo;rw[<-l,toList_extract,a];exact(toList_mk [c]).symm
   have u:=H0 (λw k=>KS x c w k A4);have hy:=A6 (LX (c::r)=(AL c x).1) (by rw[v];exact AC f);have y:=HA c x;rw[AK]at y;rw[<-g]at u;have b:(((c:Int)==34)=true/\((c:Int)!=34)=false)\/((((c:Int)==34)=false/\((c:Int)!=34)=true)/\(((c:Int)==39)=true/\((c:Int)!=39)=false)):=by
    rcases f with h|h
    ·exact .inl (KT (d:=34) h)
    exact .inr ⟨Is (d:=34) (by rw[h];decide),KT (d:=39) h⟩
   change Hid _ at a v g f;rcases b with b|⟨b,D⟩;all_goals
    go_in;go_wp2;refine rds (λw'=>AF w w w') ((AU _ _).drew) λm=> ?_;refine tq 0 ?_;refine tq 1 ?_;refine tq 2 ?_;refine tq 3 ?_;refine rdk 4 λK z=> ?_;go_simp;go_call(u.out _ (k.next m)) as e w3⟨ta,tb,n,rfl,h1,i,rfl⟩;have p:=Ey (AU w w) (1+n);have j:ta.size<=s.size:=V6;clear m;go_wp2;refine rdg z p λm=> ?_;refine tq 5 ?_;refine tq 6 ?_;refine tq 7 ?_;refine tq 8 ?_;refine tq 9 ?_;refine tq 10 ?_;refine tq 11 ?_;refine rdn ?_;go_wp2;go_ret;exact⟨ta,rfl,H0 (by rw[h1.out,hy.out]),j,p⟩
  have h1:=Is (d:=34) (λh=>f (.inl h));have i:=Is (d:=39) (λh=>f (.inr h));replace h1:((c:Int)==34)=false/\((c:Int)!=34)=true:=h1;replace i:((c:Int)==39)=false/\((c:Int)!=39)=true:=i;have⟨h1a,h1b⟩:=h1;have⟨h2a,h2b⟩:=i;have hy:=A6 (s.toList=LX (c::r)) (by rw[a];exact(AA f).symm);change Hid _ at a f;exact Yr
def Ait(c:UInt8)(l:A5):Lib.hasPrefix l [c]=match l with|x::_=>(c==x)|[]=>false:=by
 exact Aib
def AzH(s:A9)(w:A7)(u:s.size<=1000000000):AD A8 179 #[.string s] w λe w'=>∃t:A9,e=.returned (.string t)/\Hid (t.toList=Gr s)/\t.size<=s.size/\AF w w w':=by
 have hlen:=AK s;by_cases p:s.size<3
 ·have hy:=A6 (s.toList=Gr s) (by unfold Gr;rw[AC (.inl A4)]);have o:(s.size:Int)<3:=A4;replace hlen:=H0 hlen;exact Yr
 have o:3<=(s.size:Int):=A4;obtain⟨q,l⟩:=AI (s.extract 0 3);obtain⟨x,hx⟩:=AI (s.extract 3 s.size);have m:=A6 (q.toList=s.toList.take 3) (by rw[<-l,toList_extract];rfl);have j:=A6 (x.toList=s.toList.drop 3) (by rw[<-hx,Lx]);have v:x.size<=s.size:=by rw[<-hx];exact Jo _ _ _
 have A:q.size<=s.size:=by rw[<-l];exact Jo _ _ _
 replace hlen:=H0 hlen;go_in;go_wp2_with fail;go_call NM as e w1⟨lo,rfl,hlo,hB⟩;by_cases hu:lo.toList=[117,114,108]
 ·have i:(lo.toList==[117,114,108])=true:=by rw[hu];rfl
  have nR:=A6 (BH (s.toList.take 3)=[117,114,108]) (by rw[<-m.out,<-hlo.out];exact hu);replace hu:=H0 hu;go_wp2_with fail;go_call QN as e wx⟨y,rfl,hy,hyz,rfl⟩;have d:=H0 (λw=>Tryz.strings_CutPrefix y ⟨#[61]⟩ w);have a:y.data.toList=y.toList:=(BQ ..).symm
  match hL:y.toList with
  |[]=>
   have b:Lib.hasPrefix y.data.toList [61]=false:=by rw[a,hL];rfl
   have aD:=A6 (s.toList=Gr s) (by
    unfold Gr;rw[AA Vt,<-j.out,<-hy.out,hL])
   have jJ:=A6 (∀w,AD A8 218 #[.string y,.string ⟨#[61]⟩] w λe w'=>∃t:A9,e=.returned (.tuple #[.string t,.bool false])/\w'=w) (λw=>by have:=d.out w;rw[b]at this;exact this.mono λe w'⟨h1,h2⟩=>⟨_,h1,h2⟩);clear d;change Hid _ at a hL b;exact Ajl
  |c::r=>
   have b:Lib.hasPrefix y.data.toList [61]=(61==c):=by rw[a,hL];exact Ait 61 (c::r)
   by_cases hc:c=61
   ·have f:Lib.hasPrefix y.data.toList [61]=true:=by rw[b,hc];rfl
    have g:(⟨(Lib.trimPrefix y.data.toList [61]).toArray⟩:A9).toList=r:=by
     rw[toList_mk];unfold Lib.trimPrefix;rw[AC f,a,hL];rfl
    obtain⟨t,k⟩:∃t:A9,(⟨(Lib.trimPrefix y.data.toList [61]).toArray⟩:A9)=t:=⟨_,rfl⟩;have jJ:=A6 (∀w,AD A8 218 #[.string y,.string ⟨#[61]⟩] w λe w'=>e=.returned (.tuple #[.string t,.bool true])/\w'=w) (λw=>by have:=d.out w;rw[f,show(⟨(Lib.trimPrefix y.data.toList (ByteArray.data ⟨#[61]⟩).toList).toArray⟩:A9)=t from k]at this;exact this);rw[k]at g;have n:t.size<=y.size:=by rw[<-AK,g,<-AK,hL];simp
    have aD:=A6 (DH t.toList=Gr s) (by
     unfold Gr;rw[AA Vt,<-j.out,<-hy.out,hL,g];exact(AC hc).symm)
    clear d;change Hid _ at a hL b f g k;go_wp2_with fail;go_call jJ;refine AH ?_;go_wp2_with fail;go_call QN as e wx⟨z,rfl,hz,hzz,rfl⟩;go_wp2;go_ret;exact⟨z,rfl,H0 (by rw[hz.out,aD.out]),A4,hB⟩
   have f:Lib.hasPrefix y.data.toList [61]=false:=by rw[b];simpa using Jb hc
   have aD:=A6 (s.toList=Gr s) (by
    unfold Gr;rw[AA Vt,<-j.out,<-hy.out,hL];exact(AA hc).symm)
   have jJ:=A6 (∀w,AD A8 218 #[.string y,.string ⟨#[61]⟩] w λe w'=>∃t:A9,e=.returned (.tuple #[.string t,.bool false])/\w'=w) (λw=>by have:=d.out w;rw[f]at this;exact this.mono λe w'⟨h1,h2⟩=>⟨_,h1,h2⟩);clear d;change Hid _ at a hL b f;exact Ajl
 have i:(lo.toList==[117,114,108])=false:=by simpa using hu
 have aD:=A6 (s.toList=Gr s) (by
  unfold Gr;rw[AC (.inr (by rw[<-m.out,<-hlo.out];exact hu))])
 replace hu:=H0 hu;go_wp2;go_ret;exact⟨_,rfl,aD,AG _,hB⟩
def AxC(w:A7)(o:Option (A5×Bool×A5))(e:Ag)(w':A7):Prop:=
 ∃(d u:A9)(h b:Bool),e=.returned (.tuple #[.agg #[.string d,.bool h,.string u],.bool b])/\AF w w w'/\d.size<=1000000000/\u.size<=1000000000/\
  Hid ((o=none/\b=false/\d.toList=[]/\h=false/\u.toList=[])\/(o=some (d.toList,h,u.toList)/\b=true))
variable{p:UInt8->Bool}
def XD(l:A5):l.take (l.takeWhile p).length=l.takeWhile p/\l.drop (l.takeWhile p).length=l.dropWhile p:=by
 induction l with
 |nil=>exact⟨rfl,rfl⟩
 |cons c r ih=>
  cases h:p c
  ·simp_all
  simp_all
def Afc(l:A5):(l.takeWhile p).length<=l.length:=by
 have:=congrArg List.length (Qj (p:=p) (l:=l));rw[Aa]at this;omega
def AmL(w:A7)(t:Ab)(a b c v:AJ):(w.alloc (.cells #[a,b,c] t)).setCell ⟨w,0,none⟩ v=w.alloc (.cells #[v,b,c] t):=by
 simp only[World.setCell,World.alloc];congr 1;apply P4;intro k;simp[Js,Array.getElem?_push];by_cases d:w.heap.size=k
 ·simp_all
 simp[d,Jb d]
def Wu(w:A7)(A B:Obj):((w.alloc A).alloc B).heap[w.heap.size]?=some A:=by
 rw[Na _ _ AN,CB]
def SQ(w:A7)(A B:Obj):AF w w ((w.alloc A).alloc B):=(Ah _ _).alloc AN _
variable{h:Bool}
def VA{R:Ag->A7->Prop}{a:Act}{w:A7}{g:Nat}{d u:A9}{b:Bool}(e:a.tmps.getD 2 undef=.pointer (some ⟨g,0,none⟩))(c:a.tmps.getD 3 undef=.bool b)(j:a.defers=[])(i:w.heap[g]?=some (.cells #[.string d,.bool h,.string u] 98))(f:R (.returned (.tuple #[.agg #[.string d,.bool h,.string u],.bool b])) w):bodyPost A8 Tryz.f105 R .ret a w:=by
 refine IC ?_ j f;rw[OG rfl,e,c];simp[asAddr,K8 w g _ 98 _ _ _ i underlying98 rfl AO]
def Anw(s:A9)(w:A7)(hs:s.size<=1000000000)(hm:DW w):AD A8 105 #[.string s] w (AxC w (Dl s)):=by
 have hbl:=H0 (λw=>QN s w A4);have e00:(ByteArray.mk #[]).toList=[]:=toList_mk [];go_in;go_wp2_with fail;refine(hbl.out _).mono ?_;rintro e wx⟨x,rfl,hx,fL,rfl⟩;obtain⟨d,W⟩:=AI (x.toList.takeWhile D8);obtain⟨n,L⟩:=AI (d.length);obtain⟨R,hR⟩:=AI (x.toList.dropWhile D8);have nK:=AK x;have bO:n<=x.size:=by rw[<-L,<-W,<-nK];exact Afc _
 have xE:x.toList.take n=d:=by rw[<-L,<-W];exact(XD _).1
 have v:x.toList.drop n=R:=by rw[<-L,<-W,<-hR];exact(XD _).2
 have hP:=A6 (Dl s.toList=if d=[]/\x.toList.head?≠some 46 then none else LA d (R.dropWhile Hc)) (by
  unfold Dl R1;rw[<-hx.out,W,hR])
 have hnI:(n:Int)<=x.size:=A4;have hd2:=H0 W;replace nK:=H0 nK;clear W;go_upto_block 0 with(fail);go_cut[4] (λs4 wx=>s4=.int .i64 (n:Int)/\wx=w.alloc (.cells #[.string ⟨#[]⟩,.bool false,.string ⟨#[]⟩] 98));case first=>as_aux_lemma=>
  go_wp2_with fail;go_loop[4] (λiv=>∃k:Nat,iv=.int .i64 k/\k<=x.size/\Hid (n=k+((x.toList.drop k).takeWhile D8).length)) (λiv=>x.size-(intOf iv).toNat)
  ·exact⟨0,rfl,AR _,H0 (by rw[C9,hd2.out,L,Db])⟩
  obtain⟨k,rfl,hk,hg⟩:=hrel;by_cases K:k<x.size
  ·have Y:=Aw x k K;have cE:(k:Int)<x.size:=A4;rw[Y,IS]at hg;clear Y;by_cases j:AQ (x[k].toNat:Int) 10<0
   ·have U:=(QY _).1 j;rw[U]at hg;have aD:=A6 (n=k) hg;clear hg;replace U:=H0 U;go_wp2_with(go_at_call 155;refine(GS _ _ _ (Bo _) (Bf _)).mono (AH ?_));go_meet;exact⟨LP,rfl⟩
   have A:D8 x[k]=true:=by
    cases h:D8 x[k]
    ·exact absurd ((QY _).2 h) j
    rfl
   rw[A]at hg;have aC:=A6 (n=(k+1)+((x.toList.drop (k+1)).takeWhile D8).length) Tm;clear hg;replace A:=H0 A;have lJ:0<=AQ (x[k].toNat:Int) 10:=A4;go_wp2_with(go_at_call 155;refine(GS _ _ _ (Bo _) (Bf _)).mono (AH ?_));go_round;exact⟨k+1,AP,A4,aC⟩;exact AzF
  have aD:=A6 (n=k) (by have:=hg.out;rw[CP x k A4]at this;exact this);clear hg;go_wp2_with fail;go_meet;exact⟨LP,rfl⟩
 ·obtain⟨rfl,rfl⟩:=hcut;have cW:=H0 (λw=>Tryz.strings_HasPrefix x ⟨#[46]⟩ w);have f:Lib.hasPrefix x.data.toList [46]=decide (x.toList.head?=some 46):=by
   rw[<-BQ,Ait];cases x.toList with
   |nil=>rfl
   |cons c r=>
    show(46==c)=decide ((some c:Option UInt8)=some 46);by_cases h:c=46
    ·subst h;rfl
    rw[BO (λD=>h (Cm D))];simpa using Jb h
  by_cases T:d=[]/\x.toList.head?≠some 46
  ·have O:=A6 (Dl s.toList=none) (by rw[hP.out,AC T]);have iG:n=0:=by rw[<-L,T.1];rfl
   rw[BO T.2]at f;have hhp2:=A6 (∀w,AD A8 111 #[.string x,.string ⟨#[46]⟩] w λe w'=>e=.returned (.bool false)/\w'=w) (λw=>by have:=cW.out w;rw[f]at this;exact this);clear cW f T hP;subst iG;change Hid _ at L xE v;go_wp2_with(go_at_call 111;refine(hhp2.out _).mono (AH ?_));refine VA rfl rfl rfl (CB _ _) ⟨⟨#[]⟩,⟨#[]⟩,false,false,rfl,Ah _ _,AR _,AR _,H0 (.inl ⟨O,rfl,e00,rfl,e00⟩)⟩
  have b:=A6 (Dl s.toList=LA d (R.dropWhile Hc)) (by rw[hP.out,AA T]);have a:((n:Int)==0)=false\/(((n:Int)==0)=true/\Hid (∀w,AD A8 111 #[.string x,.string ⟨#[46]⟩] w λe w'=>e=.returned (.bool true)/\w'=w)):=by
   by_cases h0:n=0
   ·refine .inr ⟨Q6,H0 (λw=> ?_)⟩;have lJ:d=[]:=NK.1 A4;have hh:x.toList.head?=some 46:=by
     by_cases h:x.toList.head?=some 46
     ·exact h
     exact absurd ⟨lJ,h⟩ T
    rw[Bx hh]at f;have:=cW.out w;rw[f]at this;exact this
   exact .inl (by simp only[B6,ne_eq];omega)
  clear cW f T hP;obtain⟨X,A⟩:=AI (x.extract 0 n);have zQ:X.toList=d:=by rw[<-A,toList_extract,C9];exact xE
  have hdtz:X.size<=x.size:=by rw[<-A];exact Jo _ _ _
  obtain⟨C,d6⟩:∃q:A9,(⟨(Lib.trimLeftB X.data.toList 48).toArray⟩:A9)=q:=⟨_,rfl⟩;have xK:C.toList=d.dropWhile (· ==48):=by
   rw[<-d6,toList_mk,<-BQ,zQ];rfl
  have htlz:C.size<=X.size:=by
   rw[<-AK,xK,<-AK,zQ];have:=congrArg List.length (Qj (p:=(· ==48)) (l:=d));rw[Aa]at this;omega
  have V:=A6 (∀w,AD A8 177 #[.string X,.string ⟨#[48]⟩] w λe w'=>e=.returned (.string C)/\w'=w) (λw=>by
   have:=Tryz.strings_TrimLeft_one X 48 AE w;rw[d6]at this;exact this)
  obtain⟨td,Z,wU⟩:∃td:A9,((C.toList.isEmpty=true/\td=⟨#[48]⟩)\/(C.toList.isEmpty=false/\td=C))/\td.size<=1000000000:=by
   cases h:C.toList.isEmpty
   ·exact⟨C,.inr ⟨rfl,rfl⟩,A4⟩
   exact⟨⟨#[48]⟩,.inl ⟨rfl,rfl⟩,AE⟩
  have G:=A6 (td.toList=GE d) (by
   unfold GE;rw[<-xK];rcases Z with⟨h,rfl⟩|⟨h,rfl⟩
   ·rw[AC (List.isEmpty_iff.1 h)];exact toList_mk [48]
   rw[AA (λD=>by rw[D]at h;cases h)])
  change Hid _ at L xE v hR zQ xK d6;go_upto_region 5 with(fail);go_cut[27] (λs27 wx=>s27=.bool false/\wx=w.alloc (.cells #[.string ⟨#[]⟩,.bool false,.string ⟨#[]⟩] 98));case first=>as_aux_lemma=>
   rcases a with h|⟨h,hh⟩
   ·go_wp2_with fail;go_meet;exact⟨rfl,rfl⟩
   go_wp2_with(go_at_call 111;refine(hh.out _).mono (AH ?_));go_meet;exact⟨rfl,rfl⟩
  ·obtain⟨rfl,rfl⟩:=hcut;clear a;go_upto_if 36 with(go_at_call 177;refine(V.out _).mono (AH ?_));go_cut[4] (λs4 wx=>s4=.int .i64 (n:Int)/\wx=(w.alloc (.cells #[.string ⟨#[]⟩,.bool false,.string ⟨#[]⟩] 98)).alloc (.cells #[.string td,.bool false,.string ⟨#[]⟩] 98));case first=>as_aux_lemma=>
    have aV:=AmL (w.alloc (.cells #[.string ⟨#[]⟩,.bool false,.string ⟨#[]⟩] 98)) 98 (.string C) (.bool false) (.string ⟨#[]⟩) (.string ⟨#[48]⟩);rw[show(w.alloc (.cells #[.string ⟨#[]⟩,.bool false,.string ⟨#[]⟩] 98)).heap.size=w.heap.size+1 by simp]at aV;replace aV:=H0 aV;rcases Z with⟨h,rfl⟩|⟨h,rfl⟩;all_goals
     rw[h];go_wp2_with fail;go_meet;exact⟨rfl,by first|rfl|exact aV⟩
   ·obtain⟨rfl,rfl⟩:=hcut;obtain⟨m,Q⟩:∃m,n+(R.takeWhile Hc).length=m:=⟨_,rfl⟩;have N:n+R.length=x.size:=by
     have:=congrArg List.length v;rw[C7,nK.out]at this;omega
    have hn2x:m<=x.size:=by have:=Afc (p:=Hc) R;omega
    have t5:(m:Int)<=x.size:=A4;obtain⟨z,hz⟩:=AI (x.extract m x.size);have kC:z.toList=R.dropWhile Hc:=by
     rw[<-hz,Lx,<-Q,<-Ka,v.out];exact(XD R).2
    have hzz:z.size<=x.size:=by rw[<-hz];exact Jo _ _ _
    rw[<-kC]at b;change Hid _ at kC N Q;go_upto_block 2 with(fail);go_cut[4] (λs4 wx=>s4=.int .i64 (m:Int)/\wx=(w.alloc (.cells #[.string ⟨#[]⟩,.bool false,.string ⟨#[]⟩] 98)).alloc (.cells #[.string td,.bool false,.string ⟨#[]⟩] 98));case first=>as_aux_lemma=>
     go_wp2_with fail;go_loop[4] (λiv=>∃k:Nat,iv=.int .i64 k/\k<=x.size/\Hid (m=k+((x.toList.drop k).takeWhile Hc).length)) (λiv=>x.size-(intOf iv).toNat)
     ·exact⟨n,rfl,bO,H0 (by rw[v.out,Q.out])⟩
     obtain⟨k,rfl,hk,hg⟩:=hrel;by_cases K:k<x.size
     ·have Y:=Aw x k K;have cE:(k:Int)<x.size:=A4;rw[Y,IS]at hg;clear Y;by_cases i:x[k]=46
      ·have oX:Hc x[k]=true:=by unfold Hc;rw[i];rfl
       rw[oX]at hg;have aC:=A6 (m=(k+1)+((x.toList.drop (k+1)).takeWhile Hc).length) Tm;have E:=KT (d:=46) i;replace E:((x[k].toNat:Int)==46)=true/\((x[k].toNat:Int)!=46)=false:=E;obtain⟨F,hb2⟩:=E;clear hg;change Hid _ at oX i;go_wp2_with fail;go_round;exact⟨k+1,AP,A4,aC⟩;exact AzF
      have E:=Is (d:=46) i;replace E:((x[k].toNat:Int)==46)=false/\((x[k].toNat:Int)!=46)=true:=E;obtain⟨F,hb2⟩:=E;have H:Hc x[k]=D8 x[k]:=by unfold Hc;simp[i]
      rw[H]at hg;change Hid _ at H i;by_cases j:AQ (x[k].toNat:Int) 10<0
      ·have U:=(QY _).1 j;rw[U]at hg;have aD:=A6 (m=k) hg;clear hg;replace U:=H0 U;go_wp2_with(go_at_call 155;refine(GS _ _ _ (Bo _) (Bf _)).mono (AH ?_));go_meet;exact⟨LP,rfl⟩
      have A:D8 x[k]=true:=by
       cases h:D8 x[k]
       ·exact absurd ((QY _).2 h) j
       rfl
      rw[A]at hg;have aC:=A6 (m=(k+1)+((x.toList.drop (k+1)).takeWhile Hc).length) Tm;clear hg;replace A:=H0 A;have lJ:0<=AQ (x[k].toNat:Int) 10:=A4;go_wp2_with(go_at_call 155;refine(GS _ _ _ (Bo _) (Bf _)).mono (AH ?_));go_round;exact⟨k+1,AP,A4,aC⟩;exact AzF
     have aD:=A6 (m=k) (by have:=hg.out;rw[CP x k A4]at this;exact this);clear hg;go_wp2_with fail;go_meet;exact⟨LP,rfl⟩
    ·obtain⟨rfl,rfl⟩:=hcut
     match o:z.toList with
     |[]=>
      have aD:=A6 (Dl s.toList=some (td.toList,false,[])) (by rw[b.out,o,G.out];rfl);have hem:=Vb o;replace o:=H0 o;exact Ace
     |c::r=>
      have hem:=Lj o;obtain⟨hp,hc⟩:=O4 o;have M:((c:Int)==59)=decide (c=59):=by
       by_cases h:c=59
       ·rw[Bx h];exact(KT (d:=59) h).1
       rw[BO h];exact(Is (d:=59) h).1
      have P:((c:Int)==44)=decide (c=44):=by
       by_cases h:c=44
       ·rw[Bx h];exact(KT (d:=44) h).1
       rw[BO h];exact(Is (d:=44) h).1
      by_cases hg:QV c=false
      ·have O:=A6 (Dl s.toList=none) (by rw[b.out,o];exact AC hg);have eD:CL (c:Int)=false/\¬c=59/\¬c=44:=by
        unfold QV isB at hg;simp only[J1,B6,ne_eq]at hg;exact⟨hg.1.1,hg.1.2,hg.2⟩
       obtain⟨b1,b2,b3⟩:=eD;rw[BO b2]at M;rw[BO b3]at P;have m59:((c:Int)!=59)=true:=by rw[bne,M];rfl
       have m44:((c:Int)!=44)=true:=by rw[bne,P];rfl
       change Hid _ at o hg;clear b2 b3;go_wp2_with(go_at_call 110;refine(KE _ _).mono (AH ?_));exact VA rfl rfl rfl (Wu _ _ _) ⟨⟨#[]⟩,⟨#[]⟩,false,false,rfl,SQ _ _ _,AR _,AR _,H0 (.inl ⟨O,rfl,e00,rfl,e00⟩)⟩
      have oD:QV c=true:=by simpa using hg
      have hT:=A6 (Dl s.toList=if Hr z.toList=[]then some (td.toList,false,[])else some (td.toList,true,LX (Gr (Hr z)))) (by
       rw[b.out,o,G.out];exact AA hg)
      have a:CL (c:Int)=true\/(CL (c:Int)=false/\((c:Int)==59)=true/\((c:Int)!=59)=false)\/(CL (c:Int)=false/\(((c:Int)==59)=false/\((c:Int)!=59)=true)/\(((c:Int)==44)=true/\((c:Int)!=44)=false)):=by
       cases E:CL (c:Int)
       ·refine .inr ?_;by_cases h:c=59
        ·exact .inl ⟨rfl,(KT (d:=59) h).1,(KT (d:=59) h).2⟩
        refine .inr ⟨rfl,Is (d:=59) h,KT (d:=44) ?_⟩;unfold QV isB at oD;rw[E]at oD;simp only[Ju,Gd,CW]at oD;exact oD.resolve_left h
       exact .inl rfl
      have eD:=H0 (λw=>QN z w A4);replace o:=H0 o;clear M P hg oD b;go_upto_region 15 with(fail);go_cut[76] (λs76 wx=>s76=.bool false/\wx=(w.alloc (.cells #[.string ⟨#[]⟩,.bool false,.string ⟨#[]⟩] 98)).alloc (.cells #[.string td,.bool false,.string ⟨#[]⟩] 98));case first=>as_aux_lemma=>
       rcases a with h1|⟨h1,D,h3⟩|⟨h1,⟨D,h3⟩,h4,I⟩;all_goals
        go_wp2_with(go_at_call 110;refine(KE _ _).mono (AH ?_));go_meet;exact⟨rfl,rfl⟩
      ·obtain⟨rfl,rfl⟩:=hcut;clear a;go_upto_region 18 with(go_at_call 176;refine(eD.out _).mono ?_;rintro e wy⟨y,rfl,hy,hyz,rfl⟩);have S:(∃B:Bool,((y.toList.isEmpty=true/\B=false/\Hid (y.toList=Hr z))\/(y.toList.isEmpty=false/\B=false/\1<=(y.size:Int)/\(∃h:0<y.size,((y[0].toNat:Int)==59)=false/\((y[0].toNat:Int)==44)=false)/\Hid (y.toList=Hr z))\/(y.toList.isEmpty=false/\B=true/\1<=(y.size:Int)/\(∃h:0<y.size,((y[0].toNat:Int)==59)=true\/(((y[0].toNat:Int)==59)=false/\((y[0].toNat:Int)==44)=true))/\Hid (DH (y.extract 1 y.size).toList=Hr z)))):=by
        match hY:y.toList with
        |[]=>exact⟨false,.inl ⟨rfl,rfl,H0 (by unfold Hr;rw[<-hy.out,hY])⟩⟩
        |c1::r1=>
         obtain⟨g0,g1⟩:=O4 hY;by_cases t:c1=59\/c1=44
         ·refine⟨true,.inr (.inr ⟨rfl,rfl,A4,⟨g0,?_⟩,H0 ?_⟩)⟩
          ·rw[g1];by_cases h:c1=59
           ·exact .inl (KT (d:=59) h).1
           exact .inr ⟨(Is (d:=59) h).1,(KT (d:=44) (t.resolve_left h)).1⟩
          rw[Lx,hY];unfold Hr;rw[<-hy.out,hY];exact(AC t).symm
         refine⟨false,.inr (.inl ⟨rfl,rfl,A4,⟨g0,?_⟩,H0 ?_⟩)⟩
         ·rw[g1];exact⟨(Is (d:=59) (λh=>t (.inl h))).1,(Is (d:=44) (λh=>t (.inr h))).1⟩
         unfold Hr;rw[<-hy.out,hY];exact(AA t).symm
       obtain⟨B,S⟩:=S;replace S:=H0 S;have hy1z:(y.extract 1 y.size).size<=y.size:=Jo _ _ _;have F:=H0 (λw=>QN (y.extract 1 y.size) w A4);go_cut[91] (λs91 wx=>s91=.bool B/\wx=(w.alloc (.cells #[.string ⟨#[]⟩,.bool false,.string ⟨#[]⟩] 98)).alloc (.cells #[.string td,.bool false,.string ⟨#[]⟩] 98));case first=>as_aux_lemma=>
        rcases S.out with⟨h1,rfl,_⟩|⟨h1,rfl,D,⟨h3,h4,I⟩,_⟩|⟨h1,rfl,D,⟨h3,h4|⟨h4,I⟩⟩,_⟩;all_goals
         go_wp2_with fail;go_meet;exact⟨rfl,rfl⟩
       ·obtain⟨rfl,rfl⟩:=hcut;go_upto_if 91 with(fail);go_cut[0] (λs0 wx=>(∃q:A9,s0=.string q/\Hid (q.toList=Hr z)/\q.size<=z.size)/\wx=(w.alloc (.cells #[.string ⟨#[]⟩,.bool false,.string ⟨#[]⟩] 98)).alloc (.cells #[.string td,.bool false,.string ⟨#[]⟩] 98));case first=>as_aux_lemma=>
         rcases S.out with⟨h1,rfl,I⟩|⟨h1,rfl,D,h3,I⟩|⟨h1,rfl,D,h3,I⟩
         ·go_wp2_with fail;go_meet;exact⟨⟨y,rfl,I,hyz⟩,rfl⟩
         ·go_wp2_with fail;go_meet;exact⟨⟨y,rfl,I,hyz⟩,rfl⟩
         go_wp2_with(go_at_call 176;refine(F.out _).mono ?_;rintro e wq⟨q,rfl,hq,wC,rfl⟩);go_meet;exact⟨⟨q,rfl,H0 (by rw[hq.out,I.out]),A4⟩,rfl⟩
        ·obtain⟨⟨q,rfl,hq,wC⟩,rfl⟩:=hcut;clear S F eD
         match J:q.toList with
         |[]=>
          have aD:=A6 (Dl s.toList=some (td.toList,false,[])) (by rw[hT.out,<-hq.out,J];rfl);have xM:=Vb J;replace J:=H0 J;exact Ace
         |cq::rq=>
          have aD:=A6 (Dl s.toList=some (td.toList,true,LX (Gr q))) (by
           rw[hT.out,<-hq.out];exact AA (by rw[J];simp))
          have xM:=Lj J;have nR:=H0 (λw=>AzH q w A4);replace J:=H0 J;go_wp2_with fail;refine(nR.out _).mono ?_;rintro e w3⟨t1,rfl,ht1,ht1z,hb3⟩;obtain⟨E1,k1,rfl⟩:=hb3.ext;have dJ:=(SQ w (.cells #[.string ⟨#[]⟩,.bool false,.string ⟨#[]⟩] 98) (.cells #[.string td,.bool true,.string ⟨#[]⟩] 98)).toExt B7 E1 k1;go_wp2_with fail;refine(Axe t1 _ A4 (hm.next dJ)).mono ?_;rintro e w4⟨t2,rfl,ht2,yL,hb4⟩;obtain⟨E2,k2,rfl⟩:=hb4.ext;go_wp2_with fail;refine VA rfl rfl rfl (g:=w.heap.size) (d:=td) (h:=true) (u:=t2) ?_ ⟨td,t2,true,true,rfl,?_,wU,A4,H0 (.inr ⟨by rw[aD.out,ht2.out,ht1.out],rfl⟩)⟩
          ·rw[UI _ _ _ _ B7,UI _ _ _ _ B7,Wu]
          exact((SQ w _ _).toExt B7 E1 k1).toExt B7 E2 k2
def Au7(d u:A9)(h:Bool)(w:A7)(b:d.size<=1000000000)(hu:u.size<=1000000000):AD A8 62 #[.agg #[.string d,.bool h,.string u]] w (Bi w (Ly (d.toList,h,u.toList))):=by
 have a:=Ah w (.cells #[.string d,.bool h,.string u] 98);cases h
 ·go_in;go_wp2;go_ret;exact⟨_,rfl,H0 rfl,a⟩
 go_in;go_wp2;go_ret;exact⟨_,rfl,H0 (by rw[toList_append,toList_append,show(⟨#[59,32,117,114,108,61]⟩:A9).toList=[59,32,117,114,108,61]from toList_mk _];rfl),a⟩
def Aou(h:D8 c=true):isB c=false/\c≠46/\c≠59/\c≠44/\c≠61:=by
 unfold D8 at h;rw[C0,II]at h;refine⟨?_,?_,?_,?_,?_⟩
 ·unfold isB CL;simp[J1,B6];omega
 all_goals(rintro rfl;revert h;decide)
variable{D:A5}
def Aoo(d:D≠[])(a:∀c∈D,D8 c=true)(b:r.takeWhile D8=[]):Dl (D++r)=LA D (r.dropWhile Hc):=by
 have f:DH (D++r)=D++r:=by
  cases D with
  |nil=>exact absurd rfl d
  |cons c t=>
   unfold DH;rw[Di,EF,AA (by rw[(Aou (a c (CC ..))).1];decide)]
 have e:(D++r).takeWhile D8=D:=by rw[List.takeWhile_append_of_pos a,b,Bq]
 have g:r.dropWhile D8=r:=by
  have:=Qj (p:=D8) (l:=r);rw[b]at this;exact this
 unfold Dl R1;rw[f,e,AA (λh=>d h.1),List.dropWhile_append_of_pos a,g]
def Axy(l:A5):(l.dropWhile p).dropWhile p=l.dropWhile p:=by
 induction l with
 |nil=>rfl
 |cons c r ih=>
  rw[EF];split
  ·exact ih
  simp_all
def AzE{l:A5}(h:c∈l.dropWhile p):c∈l:=(K2 p).subset h
def AmY(a:∀c∈D,D8 c=true):GE D≠[]/\(∀c∈GE D,D8 c=true)/\GE (GE D)=GE D/\(GE D).length<=D.length+1:=by
 unfold GE;by_cases h:D.dropWhile (· ==48)=[]
 ·rw[AC h];refine⟨AN,?_,rfl,AN⟩;intro c hc;obtain rfl:=CO.1 hc;decide
 rw[AA h];refine⟨h,λc hc=>a c (AzE hc),?_,?_⟩
 ·rw[Axy,AA h]
 have:=(K2 (p:=(· ==48)) (l:=D)).length_le;omega
variable{d:A5}
def Aum{u:A5}(a:LA D r=some (d,h,u)):d=GE D/\(h=false->u=[]):=by
 unfold LA at a;split at a
 ·simp_all
 split at a
 ·cases a
 split at a
 ·have:=Cm a;exact⟨(congrArg Prod.fst this).symm,λ_=>(congrArg (λx=>x.2.2) this).symm⟩
 have:=Cm a;have b:=congrArg (λx=>x.2.1) this;exact⟨(congrArg Prod.fst this).symm,λc=>by rw[c]at b;cases b⟩
def Xz{l u:A5}(f:Dl l=some (d,h,u)):d≠[]/\(∀c∈d,D8 c=true)/\GE d=d/\d.length<=l.length+1/\(h=false->u=[]):=by
 unfold Dl R1 at f;split at f
 ·cases f
 have⟨e,hu⟩:=Aum f;obtain⟨h1,j,g,i⟩:=AmY (λc hc=>Et.1 (List.all_takeWhile) c hc);rw[<-e]at h1 j g i;refine⟨h1,j,g,?_,hu⟩;have a:=(List.takeWhile_sublist (p:=D8) (l:=DH l)).length_le;have b:=(K2 (p:=isB) (l:=l)).length_le;unfold DH at a;unfold DH at i;omega
def AiK(h:CE (c:Int)=true):isB c=false/\c≠34/\c≠39:=by
 unfold CE at h;rw[Gd,II,II]at h;refine⟨?_,?_,?_⟩
 ·unfold isB CL;simp[J1,B6];omega
 all_goals(rintro rfl;revert h;decide)
def AkR(h1:d≠[])(e:∀c∈d,D8 c=true)(b:GE d=d)(hc:CE (c:Int)=true):Dl (d++[59,32,117,114,108,61]++c::r)=some (d,true,c::r):=by
 have⟨b1,b2,b3⟩:=AiK hc;have f:DH (c::r)=c::r:=by unfold DH;rw[EF,AA AS]
 have g:Hr (59::32::117::114::108::61::c::r)=117::114::108::61::c::r:=BE;have h:Gr (117::114::108::61::c::r)=c::r:=by
  exact f
 have a:LX (c::r)=c::r:=AA AS;rw[CQ];rw[Aoo h1 e rfl];show LA d (59::32::117::114::108::61::c::r)=_;unfold LA;dsimp only;rw[AA AE,g,AA AN,h,a,b]
def Aom(h:GE d=d)(f:d.head?=some 48):d.length<=1:=by
 cases d with
 |nil=>simp
 |cons c t=>
  obtain rfl:=Cm f;have e:(48::t).dropWhile (· ==48)=t.dropWhile (· ==48):=rfl;unfold GE at h;rw[e]at h;split at h
  ·rw[<-h];simp
  have a:=(K2 (p:=(· ==48)) (l:=t)).length_le;have b:=congrArg List.length h;rw[BC]at b;omega
end Go.Proofs.YtonomfeipkdmhaaGreatDoor
