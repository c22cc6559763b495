/- Lemmas. -/
import Derived.Test.YtonomfeipkdmhaaGreatDoorZm11
import Derived.Test.YtonomfeipkdmhaaGreatDoorZm12
import Derived.Test.YtonomfeipkdmhaaGreatDoorZm13
import Derived.Test.YtonomfeipkdmhaaGreatDoorZm14
set_option linter.all false
set_option maxRecDepth 100000
set_option maxHeartbeats 16000000
namespace Go.Proofs.YtonomfeipkdmhaaGreatDoor
open Go renaming maxLen->BK,World->A7,Calls->AD
open Go.RowKit renaming Below->AF
open Go.RowKit Go.Proofs.Tryz
open Go.Proofs.Tryz renaming prog->A8
def AoR(s:A9)(h:4<=s.size):((s.extract 0 4).toList==[120,110,45,45])=Lib.hasPrefix s FP:=by
 have e:(s.extract 0 4).toList=s.toList.take 4:=OC;rw[Fl,CW,e];unfold Lib.hasPrefix;rw[List.isPrefixOf_iff_prefix];constructor
 ·intro h1;have:=List.take_prefix 4 s.toList;rw[h1]at this;exact this
 intro h1;exact(List.prefix_iff_eq_take.1 h1).symm
def Alj(s:A9)(h:s.size<4):Lib.hasPrefix s FP=false:=by
 cases hp:Lib.hasPrefix s FP
 ·rfl
 have:=(List.isPrefixOf_iff_prefix.1 hp).length_le;rw[AK]at this;exact absurd this (by show¬4<=s.size;omega)
def AtU(s:A9)(w:A7)(hz:s.size<=100000000)(Z:KX s):AD A8 253 #[.string s] w (Ta (CG s) w):=by
 have A:=WA s w A4;have iW:=H0 (Tj s);have b:=PS s;rw[AK]at b;obtain⟨L,Q⟩:=AI (EA s);have G:(((EY s).length:Int)==(s.size:Int))=L:=by
  cases L with
  |true=>
   have:=Aqw Q;rw[AK]at this;rw[CW];omega
  |false=>
   rw[B6];intro e;have:=Z.plain Dy;rw[Q]at this;cases this
 clear Z;obtain⟨R,O⟩:=AI (CG s);rw[O];have hv:=O.symm;unfold CG at hv;replace O:=H0 O;have D:=AoR s;have i:=Alj s;generalize hP:Lib.hasPrefix s FP=P at hv D i;rw[Q]at hv;change Hid _ at hP Q;generalize X:EY s.toList=m at hv A iW b G;replace X:=H0 X;replace A:=H0 A;replace D:=H0 D;replace i:=H0 i;have dC:=A6 ((s.extract 4 s.size).toList=s.toList.drop 4) UB;have rI:(s.extract 4 s.size).size<=100000000:=Bk;have x:=H0 (λw=>ApB (s.extract 4 s.size) w rI);rw[dC.out]at x;have sB:=H0 hv;clear hv;go_in;go_wp2_with fail;refine A.out.mono ?_;rintro e w1⟨v,rfl,Y,a⟩;obtain⟨pa,c,rfl,fH⟩:=Y.read;have K:=H0 (λw'(h:Fc w' pa m.length c m)=>AnL pa m.length c m w' h A4);have l:=H0 (λw'(h:Fc w' pa m.length c m)=>Afh pa m.length c m w' h A4 iW);have M:=H0 fH;generalize hn:m.length=n at G b K l M⊢;replace hn:=H0 hn;clear Y fH A rI;have E:=a.size;cases P with
 |true=>
  have q:4<=s.size:=by
   rcases Nat.lt_or_ge s.size 4 with h|h
   ·exact absurd (i.out h) AE
   exact h
  have h4I:4<=(s.size:Int):=A4;have r:=D.out q;have hv:=sB.out;rw[AC rfl]at hv;cases p:GZ (s.toList.drop 4)with
  |none=>
   rw[p]at x hv;have hf:=A6 (R=none) (by rw[hv];cases L<;>rfl);change Hid _ at p hv;cases L;all_goals
    go_wp2_with fail;refine(x.out _).mono ?_;rintro e W⟨rfl,d⟩;go_wp2_with fail;go_ret2;exact Kf hf (a.trans (d.mono E))
  |some m2=>
   have S:=Ajd p;have aY:=Ajj p;rw[p]at x hv;dsimp only at hv;replace p:=H0 p;cases L with
   |false=>
    have hf:=A6 (R=none) (by rw[hv];rfl);replace hv:=H0 hv;go_wp2_with fail;refine(x.out _).mono ?_;rintro e W⟨v2,rfl,f,d⟩;obtain⟨J,c2,rfl,N⟩:=f.read;clear f N;go_wp2_with fail;go_ret2;exact Kf hf (a.trans (d.mono E))
   |true=>
    rw[AC rfl]at hv;generalize u:Hg m2=B at hv;replace hv:=H0 hv;go_wp2_with fail;refine(x.out _).mono ?_;rintro e W⟨v2,rfl,f,d⟩;obtain⟨J,c2,rfl,N⟩:=f.read;have H:=H0 (Afh J m2.length c2 m2 W N A4 S);rw[u]at H;replace u:=H0 u;clear f N;have k:=a.trans (d.mono E);have iD:=k.size;generalize y:m2.length=n2 at H⊢;replace y:=H0 y;go_wp2_with fail;refine H.out.mono ?_;rintro e V⟨rfl,F⟩;cases B
    ·have hf:=A6 (R=none) JQ;go_wp2_with fail;go_ret2;exact Kf hf (k.trans (F.mono iD))
    have hf:=A6 (R=some s) JQ;go_wp2_with fail;go_ret2;exact Oj hf rfl (k.trans (F.mono iD))
 |false=>
  have hv:=sB.out;rw[AA AE]at hv;have g:((s.size:Int)<4)\/(4<=(s.size:Int)/\((s.extract 0 4).toList==[120,110,45,45])=false):=by
   rcases Nat.lt_or_ge s.size 4 with h|h
   ·exact .inl A4
   exact .inr ⟨A4,D.out h⟩
  cases L with
  |true=>
   rw[AC rfl]at hv;replace hv:=H0 hv;rcases g with q|⟨q,r⟩;all_goals
    go_wp2_with fail;go_ret2;exact Oj hv rfl a
  |false=>
   rw[AA AE]at hv;generalize u:Hg m=B at hv l;replace u:=H0 u;cases o:GX m with
   |none=>
    have hf:=A6 (R=none) (by rw[hv,o];cases B<;>rfl);rw[o]at K;change Hid _ at o hv;rcases g with q|⟨q,r⟩;all_goals
     go_wp2_with fail;refine(K.out _ M).mono ?_;rintro e V⟨t,rfl,ht,j⟩;have U:t.size<=20656:=by rw[<-AK,ht.out];decide
     go_wp2_with fail;go_ret2;exact Kf hf (a.trans (j.mono E))
   |some t0=>
    have d6:=UR o;rw[o]at K hv;replace o:=H0 o;dsimp only at hv;replace hv:=H0 hv;rcases g with q|⟨q,r⟩;all_goals
     go_wp2_with fail;refine(K.out _ M).mono ?_;rintro e V⟨t,rfl,ht,j⟩;have U:t.size<=20656:=by rw[<-AK,ht.out];exact d6
     have z:=a.trans (j.mono E);have C:=z.size;have H:=H0 (l.out V (M.out.below j (AG _)));go_wp2_with fail;refine H.out.mono ?_;rintro e w5⟨rfl,T⟩;have I:=z.trans (T.mono C);cases B
     ·have hf:=A6 (R=none) JQ;go_wp2_with fail;go_ret2;exact Kf hf I
     have hf:=A6 (R=some (FP++t0)) JQ;go_wp2_with fail;go_ret2;exact Oj hf Af8 I
variable{l:A5}
def AbQ{t:A5}(h:CG l=some t):t.length<=l.length+20660:=by
 unfold CG at h;split at h
 ·exact Vf
 split at h
 ·cases h;omega
 split at h
 ·split at h
  ·rename_i t0 h0;have:=UR h0;cases h;rw[Aa];have:FP.length=4:=rfl;omega
  ·cases h
 ·cases h
def Aw5:∀{a y:List (A5)},Cc a=some y->a≠[]->y≠[]
 |[],_,_,h=>absurd rfl h
 |l::r,y,h,_=>by
  rw[Cc]at h;split at h
  ·cases h
  rw[H1]at h;obtain⟨z,_,rfl⟩:=h;simp
variable{p:A5}
def AaT(a:(46:UInt8) ∉ p)(r:A5):Al 46 (p++46::r)=p::Al 46 r:=by
 rw[P3,RB a];rfl
def An7(a:(46:UInt8) ∉ p)(r:A5)(h:CG p=none):Cc (Al 46 (p++46::r))=none:=by
 rw[AaT a,Cc,h]
def Av1(b:(46:UInt8) ∉ p)(r O:A5){x:A5}(h:CG p=some x):((Cc (Al 46 (p++46::r))).map λy=>O++F8 y)=(Cc (Al 46 r)).map λy=>(O++x++[46])++F8 y:=by
 rw[AaT b,Cc,h];cases hw:Cc (Al 46 r)with
 |none=>rfl
 |some y=>
  cases y with
  |nil=>exact absurd rfl (Aw5 hw (Ik 46 r))
  |cons a q=>
   show some (O++(x++46::F8 (a::q)))=some ((O++x++[46])++F8 (a::q));simp
def AqQ(a:(46:UInt8) ∉ p)(O:A5):((Cc (Al 46 p)).map λy=>O++F8 y)=(CG p).map (O++ ·):=by
 rw[RB a,Cc];cases CG p with
 |none=>rfl|some x=>rfl
structure IW(A R0:A5)(R:Option (A5))(f i:Nat):Prop where
 more:i<=A.length->f<=i/\(46:UInt8) ∉ (A.take i).drop f/\KX (A.drop f)/\R=(Cc (Al 46 (A.drop f))).map λy=>R0++F8 y
 last:i=A.length+1->R=some R0
variable{A:A5}{R:Option (A5)}
def IW.start(a:KX A)(h:R=(Cc (Al 46 A)).map F8):IW A [] R 0 0:=by
 refine⟨λ_=>⟨AG _,AN,a,?_⟩,λh=>A4⟩;rw[h];rfl
variable{a:A5}{f i:Nat}
def IW.skip(h:IW A a R f i)(b:i<A.length)(hc:A[i]≠46):IW A a R f (i+1):=by
 have⟨h1,h2,h3,h4⟩:=h.more A4;refine⟨λ_=>⟨A4,?_,h3,h4⟩,λe=>A4⟩;rw[Fe b,Ge Fx,BL,CO];rintro(h|h)
 ·exact h2 h
 exact hc h.symm
def IW.cut(h:IW A a R f i)(b:i<A.length)(hc:A[i]=46):KX ((A.take i).drop f)/\(CG ((A.take i).drop f)=none->R=none)/\∀x,CG ((A.take i).drop f)=some x->IW A (a++x++[46]) R (i+1) (i+1):=by
 have⟨h1,h2,h3,h4⟩:=h.more A4;have e:A.drop f=(A.take i).drop f++46::A.drop (i+1):=by
  conv=>lhs;rw[<-F7 i A]
  rw[Ge Fx,Fr b,hc]
 rw[e]at h3 h4;have⟨cs,hcs⟩:=h3;have⟨w1,w2⟩:=Aew h2 hcs;refine⟨w1,λc=> ?_,λx hx=>⟨λ_=>⟨AG _,AS,w2,?_⟩,λd=>A4⟩⟩
 ·rw[h4,An7 h2 _ c];rfl
 rw[h4,Av1 h2 _ _ hx]
def IW.fin(h:IW A a R f i)(c:i=A.length):KX ((A.take i).drop f)/\(CG ((A.take i).drop f)=none->R=none)/\∀x,CG ((A.take i).drop f)=some x->IW A (a++x) R (i+1) (i+1):=by
 have⟨h1,h2,h3,h4⟩:=h.more A4;rw[Bc A4]at h2⊢;rw[AqQ h2]at h4;refine⟨h3,λb=>by rw[h4,b];rfl,λx hx=>⟨λh=>A4,λ_=>by rw[h4,hx];rfl⟩⟩
def Aoa(s:A9)(w:A7)(hz:s.size<=8000000):AD A8 193 #[.string s] w (KL (FL s) w):=by
 obtain⟨R,N⟩:=AI (FL s);rw[N];have F:=N.symm;unfold FL at F;replace N:=H0 N;have cB:=H0 (WA s w A4);have iW:=H0 (Tj s);have q:=PS s;rw[AK]at q;generalize hm:EY s.toList=m at F cB iW q;change Hid _ at hm F;go_in;go_wp2_with fail;refine cB.out.mono ?_;rintro e w1⟨v,rfl,ho,y⟩;obtain⟨pa,c,rfl,fH⟩:=ho.read;have bG:=H0 fH;generalize L:m.length=n at bG q⊢;replace L:=H0 L;clear ho fH;go_wp2;go_loopw[5,6] (λv5 U wr=>∃(k:Nat)(A:A9),v5=.string A/\U=.int .i64 (k:Int)/\k<=n/\Hid (EI (m.take k)=some A.toList)/\AF w1 w1 wr) (λ_ U _=>n-(intOf U).toNat)
 ·exact⟨0,⟨#[]⟩,rfl,rfl,AR _,H0 (by rw[toList_mk];rfl),AU _ _⟩
 obtain⟨k,A,rfl,rfl,hk,I,h⟩:=hrel;have tE:=h.size;have S:=Rh I;rw[Cl,AK]at S;have hAz:A.size<=96000000:=A4;by_cases u:k<n
 ·have hr:=bG.out.below h (AG _);obtain⟨g,o,rfl,hc⟩:=hr.cells A4;have C:k<m.length:=by rw[L.out];exact u
  have ck:=hc k C;unfold Cd at ck;have l:=AaN (m.take k) m[k];rw[<-Fe C,I.out]at l;dsimp only at l;have j3:=iW.out _ (CI C);have dO:=A6 (EI (m.take (k+1))=none->EI m=none) (λe=>by
   have:=AlK (b:=m.drop (k+1)) e;rwa[F7]at this)
  generalize hx:m[k]=x at ck l j3;change Hid _ at hx hc;clear hr;have Y:=H0 (λw=>Aik x w j3);have P:=YJ x;generalize E:DY x=mm at Y l P;replace E:=H0 E;have⟨ml,mn⟩:=mm;dsimp only at l P;by_cases J:mn=0
  ·rw[AC J]at l;have hf:=A6 (R=none) (by rw[F.out,dO.out l]);subst J;replace l:=H0 l;go_wp2_with fail;go_call Y as e w2⟨t,rfl,ht,p⟩;have B:=h.trans (p.mono tE);go_wp2;go_ret2;exact Lp hf (y.trans (B.mono y.size))
  have nW:((mn:Int)==0)=false:=DV;rw[AA J]at l;change Hid _ at l J;go_wp2_with fail;go_call Y as e w2⟨t,rfl,ht,p⟩;have B:=h.trans (p.mono tE);have G:t.size<=4:=by rw[<-AK,ht.out];exact P
  go_wp2;go_roundw;exact⟨k+1,A++t,rfl,AP,A4,H0 (by rw[l.out,toList_append,ht.out]),B⟩;exact AzF
 have V:m.take k=m:=Bc (by have:=L.out;omega);have aF:=A6 (IW A [] R 0 0) (by
  have h1:=I.out;rw[V]at h1;have⟨cs,hcs⟩:=Aba h1;exact IW.start ⟨cs,hcs⟩ (by rw[F.out,h1]))
 replace V:=H0 V;have p:=y.trans (h.mono y.size);obtain⟨a,ha⟩:=AI (A.size);clear I;go_wp2;go_loopw[9,10,11] (λv9 eT W wq=>∃(O:A9)(f i:Nat),v9=.string O/\eT=.int .i64 (f:Int)/\W=.int .i64 (i:Int)/\i<=A.size+1/\f<=i/\O.size<=20661*f/\Hid (IW A O R f i)/\AF w w wq) (λ_ _ W _=>A.size+1-(intOf W).toNat)
 ·exact⟨⟨#[]⟩,0,0,rfl,rfl,rfl,AR _,AG _,AR _,H0 (by rw[show(ByteArray.mk #[]).toList=[]from toList_mk []];exact aF),p⟩
 obtain⟨O,f,i,rfl,rfl,rfl,hi,hfi,Q,K,cS⟩:=hrel;have tW:=cS.size;clear ha;by_cases hle:i<=A.size
 ·have hleI:(i:Int)<=A.size:=A4;have hfI:(f:Int)<=i:=A4;have D:=A6 ((A.extract f i).toList=(A.toList.take i).drop f) (toList_extract ..);have T:(A.extract f i).size<=i-f:=Bk;have d:=H0 (λw(z:KX (A.extract f i).toList)=>AtU (A.extract f i) w A4 z);rw[D.out]at d;by_cases u:i<A.size
  ·have xC:i<A.toList.length:=by rw[AK];exact u
   have M:A.toList[i]=A[i]:=by
    have h1:=Aw A i u;have h2:=Fr xC;rw[h2]at h1;exact(HY h1).1
   by_cases j:A[i]=46
   ·have Z:((A[i].toNat:Int)!=46)=false:=by rw[j];rfl
    have⟨z,hno,hyes⟩:=K.out.cut xC (M.trans j);change Hid _ at M j;have hlb:=H0 (λw=>d.out w (z));have fO:∀x,CG ((A.toList.take i).drop f)=some x->x.length<=i-f+20660:=λx hx=>by
     have:=AbQ hx;rw[<-D.out,AK]at this;omega
    clear z D d T;cases hW:CG ((A.toList.take i).drop f)with
    |none=>
     exact Ag7
    |some x=>
     rw[hW]at hlb;have H:=H0 (hyes x hW);have X:=fO x hW;replace hW:=H0 hW;clear hno hyes fO;go_wp2_with fail;go_call hlb as e w4⟨t,rfl,ht,hb4⟩;have r:=H0 (ht.out x rfl);have G:t.size<=i-f+20660:=by rw[<-AK,r.out];exact X
     go_wp2;go_roundw;exact⟨O++t++⟨#[46]⟩,i+1,i+1,rfl,AP,AP,A4,A4,by rw[Ix,Ix];show O.size+t.size+1<=_;omega,H0 (by rw[toList_append,toList_append,r.out,toList_mk [46]];exact H),cS.trans (hb4.mono tW)⟩;exact AzF
   have Z:((A[i].toNat:Int)!=46)=true:=by
    rw[JO];intro e;exact j (CM.1 (by show _=46;omega))
   have H:=H0 (K.out.skip xC (by rw[M];exact j));change Hid _ at M j;clear D T d;go_wp2;go_roundw;exact⟨O,f,i+1,rfl,rfl,AP,A4,A4,Q,H,cS⟩;exact AzF
  have⟨z,hno,hyes⟩:=K.out.fin Dy;have hlb:=H0 (λw=>d.out w (z));have fO:∀x,CG ((A.toList.take i).drop f)=some x->x.length<=i-f+20660:=λx hx=>by
   have:=AbQ hx;rw[<-D.out,AK]at this;omega
  clear z D d T;cases hW:CG ((A.toList.take i).drop f)with
  |none=>
   exact Ag7
  |some x=>
   rw[hW]at hlb;have H:=H0 (hyes x hW);have X:=fO x hW;replace hW:=H0 hW;clear hno hyes fO;go_wp2_with fail;go_call hlb as e w4⟨t,rfl,ht,hb4⟩;have r:=H0 (ht.out x rfl);have G:t.size<=i-f+20660:=by rw[<-AK,r.out];exact X
   go_wp2;go_roundw;exact⟨O++t,i+1,i+1,rfl,AP,AP,A4,A4,Z6,H0 (by rw[toList_append,r.out];exact H),cS.trans (hb4.mono tW)⟩;exact AzF
 have hf:=A6 (R=some O) (K.out.last Dy);go_wp2;go_ret2;exact UC hf rfl cS
def AyQ(q:A5)(x c:UInt8):Lib.hasSuffix (q++[x]) [c]=(x==c):=by
 unfold Lib.hasSuffix;rw[Fl];constructor
 ·simp_all
 simp_all
def AkS(s:A9)(h:0<s.size):((s[0].toNat:Int)==91)=Lib.hasPrefix s [91]:=by
 rw[Rx];have e:=Aw s 0 h;rw[C9]at e;rw[e,List.head?_cons];by_cases h1:s[0]=91
 ·simp_all
 have:(some s[0]==some (91:UInt8))=false:=by rw[B6];intro e;exact h1 (Cm e)
 rw[this,B6];intro e;exact h1 (CM.1 (by show _=91;omega))
def Aw9(s:A9)(E:Bool)(w:A7)(H:s.size<=1100000)(B:0<s.size)(q:Lib.hasPrefix s [91]=true):AD A8 120 #[.string s,.bool E] w (Kc (Ja (s.toList.drop 1)) w):=by
 obtain⟨R,p⟩:=AI (Ja (s.toList.drop 1));rw[p];have f:=p.symm;unfold Ja at f;replace p:=H0 p;have F:=(AkS s B).trans q;replace q:=H0 q;have aQ:=Ah w (.cells (AV (AW .none)) 32);have cP:(w.alloc (.cells (AV (AW .none)) 32)).heap[w.heap.size]?=some (.cells (AV (AW .none)) 32 (0,0)):=CB w _;generalize g:w.alloc (.cells (AV (AW .none)) 32)=w0 at aQ cP;have y:=PM g;replace g:=H0 g;have o:=aQ.size;have x:=EZ cP;replace cP:=H0 cP;by_cases I:s.size<2
 ·have hf:=A6 (R=none) (by
   have e:s.toList.drop 1=[]:=Cj Dy;rw[f,e];rfl)
  replace f:=H0 f;go_in;go_wp2_with(refine Ax cP (AV (AW .none)) ?_);exact TK
 obtain⟨n,G⟩:∃n,s.size=n+1:=⟨s.size-1,A4⟩;have C:n<s.size:=A4;have A:1<=(n:Int):=A4;have J:((s.size:Int)-1).toNat=n:=A4;have i3:IntKind.i64.wrap ((s.size:Int)-1)=(s.size:Int)-1:=BI _ A4;have z:(s.extract 1 n).toList=(s.toList.drop 1).dropLast:=by
  rw[toList_extract,OD,C7,AK,List.take_drop];grind
 have k:s.toList.drop 1=(s.extract 1 n).toList++[s[n]]:=by
  have h1:=DX s n C;grind[Fh,Ge,Cl,AK]
 have v:Lib.hasSuffix (s.toList.drop 1) [93]=(s[n]==93):=by rw[k];exact AyQ _ _ _
 rw[v,<-z]at f;have D:(s.extract 1 n).size<=1100000:=Bk;change Hid _ at k v z;by_cases d:s[n]=93
 ·have r:((s[n].toNat:Int)!=93)=false:=by rw[d];rfl
  rw[AC AS]at f;have j:=λw=>AmC (s.extract 1 n) w D;replace d:=H0 d;cases ho:Ca (s.extract 1 n).toList with
  |none=>
   have hf:=A6 (R=none) AS;rw[ho]at j;change Hid _ at j f ho;go_in;go_wp2_with fail;go_call j as e u⟨rfl,b⟩;clear y;have i:=(b.block _ x).trans cP;have aE:=aQ.trans (b.mono o);have dE:=aE.size;have a:=EZ i;have kI:∀c T,(u.alloc (.cells c T)).heap[w.heap.size]?=some (.cells (AV (AW .none)) 32 (0,0)):=λc T=>Uz a i;change Hid _ at kI i;exact AlX
  |some l=>
   have hf:=A6 (R=some (.six l)) AS;have m:=AaJ ho;rw[ho]at j;obtain⟨a0,a1,a2,a3,a4,a5,a6,a7,rfl⟩:=Ak4 m.len;change Hid _ at m f ho;have t:∀w0,AD A8 191 #[.string (s.extract 1 n)] w0 λe w'=>e=.returned (.tuple #[.agg #[.int .u16 (a0:Int),.int .u16 (a1:Int),.int .u16 (a2:Int),.int .u16 (a3:Int),.int .u16 (a4:Int),.int .u16 (a5:Int),.int .u16 (a6:Int),.int .u16 (a7:Int)],.bool true])/\AF w0 w0 w':=
    λw0=>(j w0).mono λe w' h=>⟨h.1,h.2⟩
   replace t:=H0 t;clear j;go_in;go_wp2_with fail;refine(t.out _).mono ?_;rintro e u⟨rfl,b⟩;clear y;have i:=(b.block _ x).trans cP;have aE:=aQ.trans (b.mono o);have dE:=aE.size;have a:=EZ i;have kI:∀c T,(u.alloc (.cells c T)).heap[w.heap.size]?=some (.cells (AV (AW .none)) 32 (0,0)):=λc T=>Uz a i;change Hid _ at kI i;exact Akl
 have r:((s[n].toNat:Int)!=93)=true:=by
  rw[JO];intro e;exact d (CM.1 (by show _=93;omega))
 have hf:=A6 (R=none) AS;change Hid _ at f d;go_in;go_wp2_with(refine Ax cP (AV (AW .none)) ?_);exact TK
def AqL(s:A9)(w:A7)(p:s.size<=1100000)(hP:Lib.hasPrefix s [91]=false):AD A8 120 #[.string s,.bool false] w (Kc (MM s) w):=by
 obtain⟨R,i⟩:=AI (MM s);rw[i];have b:=i.symm;have c:((s.size:Int)<=0)\/(0<(s.size:Int)/\∃h:0<s.size,((s[0].toNat:Int)==91)=false):=by
  exact Aem
 unfold MM at b;have aQ:=Ah w (.cells (AV (AW .none)) 32);have cP:(w.alloc (.cells (AV (AW .none)) 32)).heap[w.heap.size]?=some (.cells (AV (AW .none)) 32 (0,0)):=CB w _;generalize hw0:w.alloc (.cells (AV (AW .none)) 32)=w0 at aQ cP;have l:=PM hw0;have hs0:=aQ.size;have dV:=EZ cP;have f:=H0 (λw=>AkF s false w A4);rw[Awx]at f;have d:s.toList.isEmpty=decide (s.size=0):=by
  have:=AK s;cases hl:s.toList with
  |nil=>simp_all[Ep]|cons a r=>grind[BC]
 rw[d]at b;change Hid _ at i hP hw0 cP d;rcases c with m|⟨m,o,n⟩
 ·have g:s.size=0:=A4;have j:((s.size:Int)==0)=true:=by simp_all
  have hf:=A6 (R=some .empty) AS;change Hid _ at b g;go_in;exact Acu
 have j:((s.size:Int)==0)=false:=DV;rw[AA AS]at b;generalize k:s.toList.any Cx=B at b f;replace k:=H0 k;cases B with
 |true=>
  have hf:=A6 (R=none) (b.trans (AC rfl));replace b:=H0 b;go_in;go_wp2_with(first|(go_call f;refine AH ?_)|(refine Ax cP (AV (AW .none)) ?_));exact TK
 |false=>
  have hf:=A6 (R=some (.opaqueN (Ai 0 s.toList))) (b.trans (AA AE));replace b:=H0 b;go_in;go_wp2_with(go_call f;refine AH ?_);go_call Ms as e w2⟨t,rfl,ht,hb2⟩;clear l;exact AjK
def Ar5(s:A9)(w:A7)(hz:s.size<=1100000)(hP:Lib.hasPrefix s [91]=false):AD A8 120 #[.string s,.bool true] w (Kc (J9 s) w):=by
 obtain⟨R,H⟩:=AI (J9 s);rw[H];have l:=H.symm;replace H:=H0 H;have A:((s.size:Int)<=0)\/(0<(s.size:Int)/\∃h:0<s.size,((s[0].toNat:Int)==91)=false):=by
  exact Aem
 replace hP:=H0 hP;unfold J9 at l;have N:=Ah w (.cells (AV (AW .none)) 32);have o:(w.alloc (.cells (AV (AW .none)) 32)).heap[w.heap.size]?=some (.cells (AV (AW .none)) 32 (0,0)):=CB w _;generalize j:w.alloc (.cells (AV (AW .none)) 32)=w0 at N o;have dS:=PM j;replace j:=H0 j;have W:=N.size;have dV:=EZ o;replace o:=H0 o;have x:=H0 (λw=>AxV s w A4);have y:=Ry s.toList.length s (AG _);rw[AK]at y;generalize Z:Bt s.toList=D at l x y;replace Z:=H0 Z;have dC:=H0 (λn(h:FL D=some n)=>AhP h);have V:=H0 (λw=>Aoa ⟨D.toArray⟩ w (by rw[<-AK,toList_mk];omega));rw[toList_mk]at V;generalize hO:FL D=O at l V dC;change Hid _ at hO l;rcases A with h0|⟨h0,hp,h91⟩;all_goals
  go_in;go_wp2_with fail;refine(x.out _).mono ?_;rintro e w1⟨v,rfl,z,g⟩;clear dS;have T:=Mh (P:=A8) (S:=9) underlying25 underlying5 underlying9 z;have bS:=N.trans (g.mono W);have X:=A6 (w1.heap[w.heap.size]?=some (.cells (AV (AW .none)) 32 (0,0))) ((g.block _ dV).trans o);have K:=bS.size;have j7:=EZ X;go_wp2_with fail;refine(V.out _).mono ?_;rintro e w2⟨t,rfl,ht,i⟩;clear T;have q:=bS.trans (i.mono K);have c:=A6 (w2.heap[w.heap.size]?=some (.cells (AV (AW .none)) 32 (0,0))) ((i.block _ j7).trans X);have dE:=q.size;clear o X dV g i;cases O with
  |none=>
   have hf:=A6 (R=none) l;go_wp2_with(refine Ax c (AV (AW .none)) ?_);refine Gs rfl rfl rfl rfl (GW c) ?_;exact Kx hf (Au q (AG _) _)
  |some n=>
   have eO:=dC.out n rfl;have htz:t.size<=3286800001:=by rw[<-AK,ht.out];show n.length<=_;omega
   have k:t.toList=n:=ht.out;have a:=l.out;dsimp only at a;have I:=H0 (λw=>AkF t true w A4);rw[KeB]at I;obtain⟨em,Y⟩:=AI (t.toList.isEmpty);obtain⟨B,G⟩:=AI (t.toList.any FK);rw[<-k,Y,G]at a;rw[G]at I;replace G:=H0 G;cases em with
   |true=>
    have hf:=A6 (R=none) (a.trans (AC rfl));change Hid _ at a k;go_wp2_with(refine Ax c (AV (AW .none)) ?_);refine Gs rfl rfl rfl rfl (GW c) ?_;exact Kx hf (Au q (AG _) _)
   |false=>
    rw[Ju]at a;cases B with
    |true=>
     have hf:=A6 (R=none) (a.trans (AC rfl));change Hid _ at a k;go_wp2_with(first|(go_at_call 192;refine(I.out _).mono (AH ?_))|(refine Ax c (AV (AW .none)) ?_));refine Gs rfl rfl rfl rfl (GW c) ?_;exact Kx hf (Au q (AG _) _)
    |false=>
     rw[AA AE]at a;have gC:=H0 (λw=>AqP t w A4);have f:=H0 (λw=>AuU t w A4);obtain⟨E,M⟩:=AI (HV t);obtain⟨U,L⟩:=AI (CT t);rw[M,L]at a;rw[M]at gC;rw[L]at f;change Hid _ at M L a k;have p:=EZ c;go_wp2_with(go_at_call 192;refine(I.out _).mono (AH ?_));refine(gC.out _).mono ?_;rintro e w3⟨rfl,r⟩;have F:=q.trans (r.mono dE);have C:=A6 (w3.heap[w.heap.size]?=some (.cells (AV (AW .none)) 32 (0,0))) ((r.block _ p).trans c);have bL:=F.size;have d:=EZ C;cases E with
     |false=>
      have hf:=A6 (R=some (.name n)) (by rw[a.out,AA AE,k.out]);go_wp2_with(refine Ax C (AV ⟨2,t,0,z8⟩) ?_);refine Gs rfl rfl rfl rfl (GW C) ?_;rw[<-AdF k.out];exact Np hf (Au F (AG _) _)
     |true=>
      have nA:=A6 (R=U.map Cb.four) (a.out.trans (AC rfl));cases U with
      |none=>
       have hf:=A6 (R=none) nA;go_wp2_with fail;refine(f.out _).mono ?_;rintro e Q⟨rfl,b⟩;have J:=F.trans (b.mono bL);have u:=A6 (Q.heap[w.heap.size]?=some (.cells (AV (AW .none)) 32 (0,0))) ((b.block _ d).trans C);go_wp2_with(refine Ax u (AV (AW .none)) ?_);refine Gs rfl rfl rfl rfl (GW u) ?_;exact Kx hf (Au J (AG _) _)
      |some m=>
       have hf:=A6 (R=some (.four m)) nA;go_wp2_with fail;refine(f.out _).mono ?_;rintro e Q⟨rfl,b⟩;have J:=F.trans (b.mono bL);have u:=A6 (Q.heap[w.heap.size]?=some (.cells (AV (AW .none)) 32 (0,0))) ((b.block _ d).trans C);go_wp2_with(refine Ax u (AV (AW (.four m))) ?_);refine Gs rfl rfl rfl rfl (GW u) ?_;exact Np hf (Au J (AG _) _)
def Ak5(s:A9)(a:Bool)(w:A7)(b:s.size<=1100000):AD A8 120 #[.string s,.bool a] w (Kc (ET s a) w):=by
 unfold ET;cases hP:Lib.hasPrefix s [91]with
 |true=>
  refine Aw9 s a w b ?_ hP;rcases Nat.eq_zero_or_pos s.size with h|h
  ·have e:=EP Nt;rw[e]at hP;exact absurd hP AE
  exact h
 |false=>
  cases a with
  |true=>rw[AC rfl];exact Ar5 s w b hP|false=>rw[AA AE];exact AqL s w b hP
def KK(n b0 b1 b2 b3:Nat):Nat×Nat:=
 if b0<0x80 then(b0,1)
 else if b0/32=6/\1<n/\b1/64=2 then(if(b0%32)*64+b1%64≥0x80 then((b0%32)*64+b1%64,2)else(65533,1))
 else if b0/16=14/\1<n/\b1/64=2/\2<n/\b2/64=2 then(if(b0%16)*4096+(b1%64)*64+b2%64≥0x800/\Utf8.valid ((((b0%16)*4096+(b1%64)*64+b2%64:Nat)):Int)=true then((b0%16)*4096+(b1%64)*64+b2%64,3)else(65533,1))
 else if b0/8=30/\1<n/\b1/64=2/\2<n/\b2/64=2/\3<n/\b3/64=2 then(if(b0%8)*262144+(b1%64)*4096+(b2%64)*64+b3%64≥0x10000/\Utf8.valid ((((b0%8)*262144+(b1%64)*4096+(b2%64)*64+b3%64:Nat)):Int)=true then((b0%8)*262144+(b1%64)*4096+(b2%64)*64+b3%64,4)else(65533,1))
 else(65533,1)
def L2(l:A5)(i:Nat):Nat:=(l.getD i 0).toNat
def Aq3(l:A5)(i:Nat):(ByteArray.get! ⟨l.toArray⟩ i).toNat=L2 l i:=by
 unfold L2 ByteArray.get!;simp;rfl
def SX(l:A5):BG l=KK l.length (L2 l 0) (L2 l 1) (L2 l 2) (L2 l 3):=by
 unfold BG Utf8.decode KK;have a:(ByteArray.mk l.toArray).size=l.length:=by simp[ByteArray.size]
 simp[Aq3,a,C0,CW,II,Utf8.runeError,and_assoc]
def Avk{n m a b1 b2 b c1 c2:Nat}(e:2<=(KK n a b1 b2 b).2)(c:(KK n a b1 b2 b).2<=m)(l:c1=b1)(f:3<=(KK n a b1 b2 b).2->c2=b2)(d:4<=(KK n a b1 b2 b).2->i=b):KK m a c1 c2 i=KK n a b1 b2 b:=by
 subst l;unfold KK at e c f d⊢;by_cases j:a<0x80
 ·grind
 rw[AA j]at e c f d⊢;rw[AA j];by_cases h:a/32=6/\1<n/\c1/64=2
 ·rw[AC h]at e c f d⊢;by_cases q:(a%32)*64+c1%64≥0x80
  ·grind
  grind
 rw[AA h]at e c f d⊢;by_cases g:a/16=14/\1<n/\c1/64=2/\2<n/\b2/64=2
 ·rw[AC g]at e c f d⊢;by_cases o:(a%16)*4096+(c1%64)*64+b2%64≥0x800/\Utf8.valid ((((a%16)*4096+(c1%64)*64+b2%64:Nat)):Int)=true
  ·grind
  grind
 rw[AA g]at e c f d⊢;by_cases k:a/8=30/\1<n/\c1/64=2/\2<n/\b2/64=2/\3<n/\b/64=2
 ·rw[AC k]at e c f d⊢;by_cases p:(a%8)*262144+(c1%64)*4096+(b2%64)*64+b%64≥0x10000/\Utf8.valid ((((a%8)*262144+(c1%64)*4096+(b2%64)*64+b%64:Nat)):Int)=true
  ·grind
  grind
 simp_all
def Aer(X:A5)(h:2<=(BG l).2):BG (l.take (BG l).2++X)=BG l:=by
 have d:l≠[]:=by
  rintro rfl;revert h;decide
 have b:=UN d;generalize hk:(BG l).2=k at h b⊢;have a:∀i,i<k->L2 (l.take k++X) i=L2 l i:=λi c=>by
  unfold L2;rw[LS,LS,List.getElem?_append_left Fx,List.getElem?_take_of_lt c]
 rw[SX (l.take k++X),SX l];rw[SX l]at hk;rw[a 0 A4];exact Avk A4 AS (a 1 A4) (λe=>a 2 A4) (λf=>a 3 A4)
def Atp(X:A5):BG (Dc++X)=(65533,3):=by
 have:=Aer (l:=Dc) X AX;exact this
def AqM(d:l≠[])(h:(BG l).2<2)(a:BG l≠(65533,1)):∃c r,l=c::r/\c.toNat<128:=by
 cases l with
 |nil=>grind
 |cons c r=>
  refine⟨c,r,rfl,?_⟩;rw[SX]at h a;unfold KK at h a;have e:L2 (c::r) 0=c.toNat:=rfl;rw[e]at h a;by_cases b:c.toNat<128
  ·exact b
  exfalso;rw[AA b]at h a;split at h
  ·rename_i k1;rw[AC k1]at a;split at h
   ·simp at h
   grind
  rename_i k1;rw[AA k1]at a;split at h
  ·rename_i k3;rw[AC k3]at a;split at h
   ·simp at h
   grind
  rename_i k3;rw[AA k3]at a;split at h
  ·rename_i k5;rw[AC k5]at a;split at h
   ·simp at h
   grind
  grind
def Ti:∀(f g:Nat)(l:A5),(Eg f (DC g l)).length<=l.length
 |0,_,l=>AR _
 |f+1,0,l=>by
  rw[];exact AR _
 |f+1,g+1,l=>by
  rw[DC];by_cases a:l=[]
  ·rw[AC a];exact AR _
  rw[AA a];by_cases d:BG l=(65533,1)
  ·rw[AC d,Eg,AA (by simp[Dc]),Atp];have e:(Dc++DC g (l.drop (Ea l))).drop 3=DC g (l.drop (Ea l)):=rfl;rw[e,BC];have h:=Ti f g (l.drop (Ea l));grind[Af7]
  rw[AA d];have j:=UN a;by_cases k:2<=(BG l).2
  ·have i:=Aer (DC g (l.drop (BG l).2)) k;have b:l.take (BG l).2++DC g (l.drop (BG l).2)≠[]:=by
    intro e;have:=congrArg List.length e;rw[Aa,Cl,Ep]at this;omega
   rw[Eg,AA b,i,BC];have m:(l.take (BG l).2++DC g (l.drop (BG l).2)).drop (BG l).2=DC g (l.drop (BG l).2):=by
    rw[Ge AS,List.drop_eq_nil_of_le AS,Do]
   rw[m];have h:=Ti f g (l.drop (BG l).2);grind
  obtain⟨c,r,rfl,hc⟩:=AqM a A4 d;rw[Rn c r hc];show(Eg (f+1) (c::DC g r)).length<=_;rw[Eg,Rn c _ hc];have h:=Ti f g r;grind
def AjX(l:A5):(EY l).length<=l.length:=Ti _ _ l
def AuK{t:A5}(h:CG l=some t):t.length<=86*l.length:=by
 unfold CG at h;split at h
 ·exact Vf
 split at h
 ·cases h;omega
 rename_i hlo;split at h
 ·split at h
  ·rename_i t' he;cases h;have h1:=AeX he;have c:=AjX l;have b:0<l.length:=by
    cases l with
    |nil=>exact absurd rfl hlo|cons a r=>simp
   rw[Aa];have:FP.length=4:=rfl;omega
  ·cases h
 ·cases h
def AiI:∀{a b:List (A5)},Cc a=some b->Hm b<=86*Hm a/\b.length=a.length
 |[],b,h=>by cases h;exact⟨AG _,rfl⟩
 |y::r,b,h=>by
  unfold Cc at h;cases hy:CG y with
  |none=>rw[hy]at h;cases h
  |some t=>
   rw[hy]at h;rw[H1]at h;obtain⟨q,c,rfl⟩:=h;have ih:=AiI c;have:=AuK hy;unfold Hm at ih⊢;exact TI
variable{s:A5}
def Am9{n:A5}(h:FL s=some n):n.length<=348*s.length+1:=by
 unfold FL at h;split at h
 ·cases h
 rename_i t ht;rw[H1]at h;obtain⟨q,a,rfl⟩:=h;have h1:=Rh ht;have e:=AjX s;have c:=AiI a;have d:=Aa3 t;have b:=UP q;omega
def Ajx{n:A5}{a:Bool}{h:Cb}(e:ET n a=some h):h.text.length<=348*n.length+42:=by
 unfold ET at e;split at e
 ·unfold Ja at e;split at e
  ·rw[H1]at e;obtain⟨l,-,rfl⟩:=e;have:=XA l;show([91]++Dv l++[93]).length<=_;grind
  ·cases e
 split at e
 ·unfold J9 at e;split at e
  ·cases e
  rename_i m hm;have h1:=Am9 hm;have b:=Ry _ n (AG _);split at e
  ·cases e
  split at e
  ·rw[H1]at e;obtain⟨k,-,rfl⟩:=e;have:=AjV k;show(FF k).length<=_;omega
  ·cases e;show m.length<=_;omega
 unfold MM at e;split at e
 ·cases e;exact AR _
 split at e
 ·cases e
 ·cases e;have:=I3 0 n;show(Ai 0 n).length<=_;omega
def Xd(a:HI):Nat:=a.user.length+a.pass.length+a.host.text.length
def Akk:∀{b:Bool}{l n p:A5},CF b l=some (n,p)->n.length<=l.length
 |_,[],_,_,h=>C5
 |b,c::r,n,p,h=>by
  rw[CF]at h;split at h
  ·exact ZY
  split at h
  ·exact ZY
  split at h
  ·cases h;exact AR _
  exact ZY
def Ag3{b user pass:A5}{a:HI}(h:El b user pass s=some a):Xd a<=user.length+pass.length+348*s.length+42:=by
 unfold El at h;split at h
 ·cases h
 rename_i n p hn;have c:n.length<=s.length:=by
  unfold MN at hn;split at hn
  ·rename_i n2 p2 hc;split at hn
   ·cases hn
   ·cases hn;exact Akk hc
  simp_all
 split at h
 ·cases h
 rename_i ho hh;have:=Ajx hh;split at h
 ·cases h
 ·cases h;show user.length+pass.length+ho.text.length<=_;omega
def AuB{b:A5}{a:HI}(h:Gn b s=some a):Xd a<=348*s.length+42:=by
 unfold Gn at h;split at h
 ·rename_i w r hc;split at h
  ·cases h
  have h1:=Ag3 h;have f:=I3 5 (AL 58 w).1;have d:=I3 5 (AL 58 w).2.1;have e:=HA 58 w;have c:=congrArg List.length (AdK hc).1;rw[Aa,BC]at c;omega
 have:=Ag3 h;rw[Ep]at this;omega
def Pv(a b:List (A5)):Ay (a++b)=Ay a++Ay b:=by unfold Ay;rw[Jh]
def Ax3(p:A5):(Ay [p]).length=p.length+1:=by unfold Ay;simp
def Als(l:List (A5)):(Ay l.dropLast).length<=(Ay l).length:=by
 rcases List.eq_nil_or_concat l with rfl|⟨a,x,rfl⟩
 ·simp_all
 rw[List.concat_eq_append,RF,Pv,Aa];omega
def AoA(l:List (A5))(k:Nat):(Ay (l.take k)).length<=(Ay l).length:=by
 have:Ay l=Ay (l.take k)++Ay (l.drop k):=by rw[<-Pv,F7]
 rw[this,Aa];omega
theorem Ww(a:A5)(b:List (A5)):(Ay (CK a b)).length<=(Ay b).length:=by
 unfold CK;split
 ·omega
 exact Als _
def Alr(c:A5)(out:List (A5))(p:A5)(d:Bool):(Ay (Gh c out p d)).length<=(Ay out).length+3*p.length+1:=by
 have hu:=Ww c out;have e:=I3 4 p;have f:(Ay [[]]).length=1:=rfl;unfold Gh;split
 ·split
  ·rw[Pv,Aa];omega
  omega
 split
 ·split
  ·rw[Pv,Aa];omega
  omega
 split
 ·rename_i hd;rw[C0]at hd;obtain⟨a,b,rfl,-⟩:=SD hd.2;rw[Pv,Aa];show _+(2+1)<=_+3*2+1;omega
 rw[Pv,Aa,Ax3];omega
def If(ps:List (A5)):Nat:=(ps.map λp=>3*p.length+1).sum
def AbW(a:A5):∀(b out:List (A5)),(Ay (Dk a out b)).length<=(Ay out).length+If b
 |[],out=>Nat.le_add_right _ _
 |p::r,out=>by
  rw[Dk];have h1:=AbW a r (Gh a out p r.isEmpty);have d:=Alr a out p r.isEmpty;have c:If (p::r)=3*p.length+1+If r:=by unfold If;rw[FR,List.sum_cons]
  omega
def Akj(p:UInt8->Bool):∀l,If (Bs p l)<=3*l.length+1
 |[]=>by rw[Bs];decide
 |c::r=>by
  have a:=Akj p r;rw[Bs];split
  ·have b:If ([]::Bs p r)=1+If (Bs p r):=by unfold If;rw[FR];rfl
   grind
  ·cases h:Bs p r with
   |nil=>rw[h]at a;show If [[c]]<=_;rw[BC];have:If [[c]]=4:=rfl;omega
   |cons q qs=>
    rw[h]at a;have b:If (q::qs)=3*q.length+1+If qs:=BE;have d:If ((c::q)::qs)=3*(q.length+1)+1+If qs:=BE;grind
theorem LM(a:A5)(b:List (A5))(s:A5):(Ay (DE a b s)).length<=(Ay b).length+3*s.length+1:=by
 have h1:=AbW a (Bs (B8 (Ar a)) s) b;have c:=Akj (B8 (Ar a)) s;unfold DE;omega
theorem ZQ(a s:A5):(Ay (FT a s)).length<=3*s.length+1:=by
 unfold FT;have b:(Ay []).length=0:=rfl;split
 ·have:=LM a [] (s.drop 1);rw[C7]at this;omega
 have:=LM a [] s;omega
def B9(u:AZ):Nat:=u.scheme.length+u.user.length+u.pass.length+u.host.text.length+u.flat.length+(Ay u.path).length+(Ek 63 u.query).length+(Ek 35 u.frag).length
def Yx(a:Bool):∀l,(D5 a l).1.length+(D5 a l).2.length=l.length
 |[]=>rfl
 |c::r=>by
  rw[D5];split
  ·simp
  have:=Yx a r;simp only[BC];omega
def Aho(d:UInt8)(b:Bool)(set:Nat)(l:A5):(Ek d (GN b (Ai set l))).length<=3*l.length+1:=by
 have:=I3 set l;unfold GN;split
 ·show(d::Ai set l).length<=_;rw[BC];omega
 exact AR _
def AuE:Cb.empty.text.length=0:=rfl
def Ut(a:A5)(p:F9):B9 (BZ a p)<=a.length+3*p.qry.length+3*p.frg.length+2:=by
 have h1:=Aho 63 p.hq (FU a) p.qry;have b:=Aho 35 p.hf 1 p.frg;show a.length+0+0+0+0+0+(Ek 63 (GN p.hq (Ai (FU a) p.qry))).length+(Ek 35 (GN p.hf (Ai 1 p.frg))).length<=_;omega
theorem Ki(u:AZ)(l:List (A5)):B9 (FN u l)+(Ay u.path).length=B9 u+(Ay l).length:=by
 unfold B9 FN;dsimp only;omega
theorem Aa0(u:AZ)(h:Cb):B9 (FQ u h)+u.host.text.length=B9 u+h.text.length:=by
 unfold B9 FQ;dsimp only;omega
variable{u:AZ}
def TY{v:AZ}(h:FC u s=some v):B9 v<=B9 u+348*s.length+43:=by
 unfold FC at h;rw[H1]at h;obtain⟨a,b,rfl⟩:=h;have h1:=AuB b;have d:=Yx (Ar u.scheme) s;have c:=ZQ u.scheme (D5 (Ar u.scheme) s).2;unfold Xd at h1;unfold Kt B9;dsimp only;split<;>omega
def AvB{v:AZ}(h:Il u s=some v):B9 v<=B9 u+348*s.length+43:=by
 have c:=Yx true s;have d:(Ay []).length=0:=rfl;unfold Il at h;split at h
 ·grind[Ki,LM]
 split at h
 ·grind[Ki,ZQ]
 split at h
 ·cases h
 rename_i ho hh;cases h;have b:=Ajx hh;have a:=ZQ u.scheme (D5 true s).2;split
 ·grind[Ki]
 grind[Ki,Aa0]
def Av9(u b:AZ):B9 (PN u b)<=B9 u+(b.user.length+b.pass.length+b.host.text.length):=by
 unfold B9 PN;dsimp only;omega
theorem Afd(u b:AZ):B9 (Oa u b)<=B9 u+((Ay b.path).length+(Ek 63 b.query).length):=by
 unfold B9 Oa;dsimp only;split<;>omega
def AhA(b:AZ):b.user.length+b.pass.length+b.host.text.length+(Ay b.path).length+(Ek 63 b.query).length+b.scheme.length<=B9 b:=by unfold B9;omega
def Jd(p:F9):Nat:=p.sch.length+p.rest.length+p.qry.length+p.frg.length
variable{b:AZ}
def AoO{p:F9}(h:I5 b p=some u):B9 u<=B9 b+348*Jd p+60:=by
 have k:=AhA b;have l:=Ut Av p;have c:=Aa0 (BZ Av p) .empty;have e:Av.length=4:=rfl;have m:(Ay []).length=0:=rfl;have j:Jd p=p.sch.length+p.rest.length+p.qry.length+p.frg.length:=rfl;rw[AuE]at c;unfold I5 at h;dsimp only at h;split at h
 ·have:=AvB h;grind
 obtain⟨v,f,n,d⟩:∃v,(if(b.scheme==Av)=true then FQ (FQ (BZ Av p) .empty) b.host else FQ (BZ Av p) .empty)=v/\B9 v<=6+3*p.qry.length+3*p.frg.length+b.host.text.length/\v.path=[]:=by
  refine⟨_,rfl,?_,?_⟩
  ·split
   ·grind[Aa0]
   omega
  split<;>rfl
 rw[f]at h;split at h
 ·obtain⟨a,g,i⟩:∃a,(if(b.scheme==Av&&(Pt b.path&& !K0 (p.rest.drop 1)))=true then b.path.take 1 else[])=a/\(Ay a).length<=(Ay b.path).length:=by
   refine⟨_,rfl,?_⟩;split
   ·exact AoA b.path 1
   grind
  rw[g]at h;grind[Ki,LM,C7]
 split at h
 ·cases h;have:=Afd v b;omega
 split at h
 ·grind[Ki,LM,Ww]
 grind[Ki,LM]
def AnP(b:Bool)(s:A5):(Gk b s).length<=s.length+3:=by
 unfold Gk;split
 ·simp_all
 omega
def AwP{p:F9}(h:Hu p=some u):B9 u<=348*Jd p+60:=by
 have e:=Ut p.sch p;have c:(Ay []).length=0:=rfl;have b:Jd p=p.sch.length+p.rest.length+p.qry.length+p.frg.length:=rfl;unfold Hu at h;split at h
 ·have:=TY h;grind
 split at h
 ·grind[Ki,LM,C7]
 ·cases h;have f:=AnP (p.hq||p.hf) (Ai 0 p.rest);have a:=I3 0 p.rest;have d:B9 (BZ p.sch p)=p.sch.length+0+0+0+0+0+(Ek 63 (BZ p.sch p).query).length+(Ek 35 (BZ p.sch p).frag).length:=rfl;show p.sch.length+0+0+0+(Gk (p.hq||p.hf) (Ai 0 p.rest)).length+0+(Ek 63 (BZ p.sch p).query).length+(Ek 35 (BZ p.sch p).frag).length<=_;omega
def ArY{p:F9}(h:NR b p=some u):B9 u<=B9 b+348*Jd p+60:=by
 have a:Jd p=p.sch.length+p.rest.length+p.qry.length+p.frg.length:=rfl;unfold NR at h;split at h
 ·cases h
 ·cases h;have:=I3 1 p.frg;unfold B9;show _+_+_+_+_+_+_+(35::Ai 1 p.frg).length<=_;rw[BC];dsimp only;omega
def Ao1{p:F9}(h:MP b p=some u):B9 u<=B9 b+348*Jd p+60:=by
 have d:=AhA b;have e:=Ut b.scheme p;have c:=Av9 (BZ b.scheme p) b;have f:(Ay []).length=0:=rfl;have a:Jd p=p.sch.length+p.rest.length+p.qry.length+p.frg.length:=rfl;unfold MP at h;dsimp only at h;split at h
 ·split at h
  ·have:=TY h;unfold HQ at this;grind
  have:=TY h;grind
 split at h
 ·grind[Ki,LM,C7]
 split at h
 ·grind[Afd]
 grind[Ki,LM,Ww]
def Agr{p:F9}(h:J4 b p=some u):B9 u<=B9 b+348*Jd p+60:=by
 unfold J4 at h;split at h
 ·exact AoO h
 split at h
 ·have h1:=TY h;have a:=Ut p.sch p;have c:Jd p=p.sch.length+p.rest.length+p.qry.length+p.frg.length:=rfl;unfold HQ at h1;rw[C7]at h1;omega
 split at h
 ·have:=AwP h;omega
 split at h
 ·exact ArY h
 exact Ao1 h
def Af5(l:A5):Jd (Cq l)<=l.length:=by
 have a:=HA 35 l;have h1:=HA 63 (AL 35 l).1;have b:=HA 58 (AL 63 (AL 35 l).1).1;unfold Cq Jd;dsimp only;split
 ·dsimp only;rw[VL];omega
 dsimp only;rw[Ep];omega
def Ajr(h:IJ b s=some u):B9 u<=B9 b+348*s.length+60:=by
 have h1:=Agr h;have c:=Af5 (EQ s);have a:(EQ s).length<=s.length:=CR (Y5 _) (Ru _);omega
def AgB:B9 EH=0:=rfl
def AtN(h:Du s=some u):B9 u<=348*s.length+60:=by
 unfold Du at h;split at h
 ·have h1:=Agr h;have b:=Af5 (EQ s);have a:(EQ s).length<=s.length:=CR (Y5 _) (Ru _);rw[AgB]at h1;omega
 ·cases h
def Agc(g:BA u):∀n,u.port=some n->n<=65535:=by
 intro n a;cases g.kind with
 |file s o us ps po pa h=>rw[po]at a;cases a
 |special s sp o pa h po=>exact(po n a).1|net sp o h po e=>exact(po n a).1
 |plain sp o h us ps po pa=>rw[po]at a;cases a
 |flat sp o h us ps po pa fl hd la=>rw[po]at a;cases a
def Anz(n:Nat)(h:n<=65535):(Lib.itoa (n:Int)).length<=40:=TX _ A4 A4
theorem Jn(g:BA u)(f:Bool):(C6 u f).length<=B9 u+50:=by
 have h1:(JH u).length<=u.user.length+u.pass.length+u.host.text.length+46:=by
  unfold JH;split
  ·split
   ·simp
   simp
  have d:(GJ u.user u.pass).length<=u.user.length+u.pass.length+2:=by
   unfold GJ;split
   ·simp
   grind[Aa,BC,Ep]
  have a:(FB u.port).length<=41:=by
   cases hq:u.port with
   |none=>exact AR _
   |some n=>
    have:=Anz n (Agc g n hq);show([58]++Lib.itoa _).length<=_;simp_all[Aa,BC,Ep]
  grind[Aa,BC,Ep]
 have c:(IZ u).length<=u.flat.length+(Ay u.path).length:=by unfold IZ;split<;>omega
 have b:(if f=true then Ek 35 u.frag else[]).length<=(Ek 35 u.frag).length:=by grind
 unfold C6 B9;grind[Aa,BC,Ep]
def Asn:∀h:Cb,Gm (AW h)=h.text
 | .none=>rfl| .empty=>rfl| .name n=>toList_mk n| .four n=>rfl| .six l=>rfl| .opaqueN n=>toList_mk n
def Aek:∀h:Cb,(AW h).kind=0↔h=.none
 | .none=>⟨λ_=>rfl,λ_=>rfl⟩| .empty=>⟨λh=>absurd h AE,λh=>C5⟩| .name n=>⟨λh=>absurd h (by show¬(2:Int)=0;decide),λh=>C5⟩| .four n=>⟨λh=>absurd h (by show¬(3:Int)=0;decide),λh=>C5⟩| .six l=>⟨λh=>absurd h (by show¬(4:Int)=0;decide),λh=>C5⟩| .opaqueN n=>⟨λh=>absurd h (by show¬(5:Int)=0;decide),λh=>C5⟩
def Ajf(l:List A9):FG l=Ay (l.map (·.toList)):=by unfold FG Ay;rw[List.flatMap_map]
def Alw:∀l:List A9,ZE l=VD (l.map (·.toList))
 |[]=>rfl|_::_=>rfl
variable{S:AT}
def ApH(h:Bu S u):HL S=GJ u.user u.pass:=by unfold HL GJ;rw[h.user,h.pass]
def AqE(h:Bu S u):KD S=FB u.port:=by
 unfold KD;rw[h.hasPort,h.port];cases u.port<;>rfl
def AwY(h:Bu S u):Ft S=JH u:=by
 unfold Ft JH;rw[h.host,Asn,ApH h,AqE h];have b:IA S=(!u.opq&&(decide (2<=u.path.length)&&VD u.path)):=by
  unfold IA;rw[h.opq,Alw,<-h.path,Bz]
 rw[b];by_cases a:u.host=.none
 ·rw[AC ((Aek _).2 a),AC a];rfl
 rw[AA (λe=>a ((Aek _).1 e)),AA a]
def Aos(h:Bu S u):GY S=IZ u:=by
 unfold GY IZ;rw[h.opq,h.flat,Ajf,h.path]
def AhN(d:UInt8)(o:Option (A5)):Dh o.isSome ([d]++o.getD [])=Ek d o:=by cases o<;>rfl
def Mo(h:Bu S u)(f:Bool):Hj S f=C6 u f:=by
 unfold Hj C6;rw[h.scheme,AwY h,Aos h,h.hasQuery,h.query,h.hasFrag,h.frag,AhN];congr 1;cases f
 ·rw[Ma];rfl
 rw[Kj,AhN];rfl
def AxI{a:Bool}{h:Cb}(g:F6 a h)(hz:h.text.length<=4294967296):Pg (AW h):=by
 have h6:Gg [0,0,0,0,0,0,0,0]:=⟨rfl,AE⟩;cases g with
 |name h1 h2 h3 h4=>
  exact Aja
 |four h=>exact⟨h,h6,Zc⟩|six h=>exact⟨by show(0:Nat)<4294967296;decide,h,Zc⟩|empty=>exact⟨by show _<4294967296;decide,h6,Zc⟩
 |other h1 h2 h3=>
  exact Aja
def AuZ:Pg (AW .none):=⟨by show(0:Nat)<4294967296;decide,⟨rfl,AE⟩,by show(0:Nat)<=BK;exact AR _⟩
def PQ{t:A9}(h:t.toList=l){K:Nat}(a:l.length<=K):t.size<=K:=by rw[<-AK,h];exact a
def Ag8(d:UInt8)(o:Option (A5)):(o.getD []).length<=(Ek d o).length:=by
 cases o with
 |none=>exact AR _|some q=>show q.length<=(d::q).length;rw[BC];omega
def YG(l:List (A5)):l.length<=(Ay l).length:=by
 induction l with
 |nil=>exact AG _
 |cons p r ih=>
  have:Ay (p::r)=(47::p)++Ay r:=by unfold Ay;rw[GV]
  rw[this,Aa,BC,BC];omega
def AtJ{l:List (A5)}(h:p∈l):p.length<=(Ay l).length:=by
 induction l with
 |nil=>cases h
 |cons q r ih=>
  have:Ay (q::r)=(47::q)++Ay r:=by unfold Ay;rw[GV]
  rw[this,Aa,BC];exact Zl
def ArC:∀h:Cb,(AW h).name.size<=h.text.length
 | .none=>AG _| .empty=>AG _| .name n=>by show(ByteArray.mk n.toArray).size<=n.length;simp[ByteArray.size]| .four n=>AR _| .six l=>AR _| .opaqueN n=>by show(ByteArray.mk n.toArray).size<=n.length;simp[ByteArray.size]
def Ng(h:Bu S u)(g:BA u)(a:B9 u<=4000000000):Ls S:=by
 unfold B9 at a;have d:=Ag8 63 u.query;have i:=Ag8 35 u.frag;have f:=ArC u.host;have j:=YG u.path;refine⟨?_,?_,?_,?_,?_,?_,?_,?_,?_,?_,?_⟩
 ·exact PQ h.scheme A4
 ·exact PQ h.user A4
 ·exact PQ h.pass A4
 ·rw[h.host];omega
 ·exact PQ h.flat A4
 ·exact PQ h.query A4
 ·exact PQ h.frag A4
 ·rw[Ajf,h.path];omega
 ·have:S.path.length=u.path.length:=by rw[<-h.path,Bz]
  rw[this];unfold BK;omega
 ·rw[h.port];cases hq:u.port with
  |none=>simp
  |some n=>
   have:=Agc g n hq;grind
 rw[h.host];rcases AkZ g with e|⟨c,b⟩
 ·rw[e];exact AuZ
 exact AxI b A4
def EL(S H T:List A9)(u:AZ):Bool:=(Gx S u.scheme&&hostA H (AW u.host))&&(if u.scheme=Im then(match RM (C6 u false)with|none=>false|some e=>Gx T e)else true)
def AgE{S H T:List A9}{X:AT}(h:Bu X u):I4 S H T X=EL S H T u:=by
 unfold I4 EL MC F0;rw[h.scheme,h.host,Mo h];congr 1;by_cases a:u.scheme=Im
 ·rw[AC a,AC a,AC a];try(cases RM (C6 u false)<;>rfl)
 simp_all
end Go.Proofs.YtonomfeipkdmhaaGreatDoor
