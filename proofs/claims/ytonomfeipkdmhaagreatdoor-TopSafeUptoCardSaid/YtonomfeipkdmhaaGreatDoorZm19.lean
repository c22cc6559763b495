/- Lemmas. -/
import Derived.Test.YtonomfeipkdmhaaGreatDoorZm15
import Derived.Test.YtonomfeipkdmhaaGreatDoorZm16
import Derived.Test.YtonomfeipkdmhaaGreatDoorZm17
set_option linter.all false
set_option maxRecDepth 100000
set_option maxHeartbeats 16000000
namespace Go.Proofs.YtonomfeipkdmhaaGreatDoor
open Go renaming wpList->Aq,maxLen->BK,Operand->CV,World->A7,Calls->AD,Value->AJ
open Go.RowKit renaming Below->AF
open Go.RowKit Go.Proofs.Tryz
open Go.Proofs.Tryz renaming prog->A8
def AhZ{c:UInt8}:∀{l:A5}{a:Nat},l[a]?=some c->c ∉ l.drop (a+1)->Ew c l=some (l.take a,l.drop (a+1))
 |[],a,h,_=>by simp at h
 |x::r,0,h,hn=>by
  rw[Ew,Mx (λy b e=>hn (by rw[<-e];exact b))];rw[AC JR];rfl
 |x::r,a+1,h,hn=>by
  rw[Ew,AhZ (a:=a) JR hn];rfl
def KR(l:A5)(z:Int)(i:Nat):Prop:=(z=-1/\(64:UInt8) ∉ l.take i)\/∃a:Nat,z=(a:Int)/\a<i/\l[a]?=some 64/\(64:UInt8) ∉ (l.take i).drop (a+1)
variable{i:Nat}
def KR.skip{l:A5}{z:Int}(h:KR l z i)(b:i<l.length)(hc:l[i]≠64):KR l z (i+1):=by
 rcases h with⟨h1,c⟩|⟨a,h1,c,d,e⟩
 ·refine .inl ⟨h1,?_⟩;rw[Fe b,BL,CO];rintro(h|h)
  ·exact c h
  exact hc h.symm
 refine .inr ⟨a,h1,A4,d,?_⟩;rw[Fe b,Ge Fx,BL,CO];rintro(h|h)
 ·exact e h
 exact hc h.symm
def KR.hit{l:A5}(a:i<l.length)(hc:l[i]=64):KR l (i:Int) (i+1):=by
 refine .inr ⟨i,rfl,A4,AS,?_⟩;rw[Cj Fx];simp
def KR.fin{l:A5}{z:Int}(h:KR l z i)(f:l.length<=i):(z=-1/\Ew 64 l=none)\/∃a:Nat,z=(a:Int)/\a<l.length/\Ew 64 l=some (l.take a,l.drop (a+1)):=by
 have e:=Bc f;rcases h with⟨h1,b⟩|⟨a,h1,b,c,d⟩
 ·rw[e]at b;exact .inl ⟨h1,Mx (λy g e=>b (by rw[<-e];exact g))⟩
 rw[e]at d;exact .inr ⟨a,h1,(Hk.1 c).1,AhZ c d⟩
def Aop(sch s:A9)(w:A7)(hz:s.size<=1100000):AD A8 127 #[.string sch,.string s] w (U3 (Gn sch s) w):=by
 obtain⟨R,hR⟩:=AI (Gn sch s);rw[hR];have aD:∀z,KR s z s.size->(z=-1/\Hid (R=El sch [] [] s.toList))\/∃i:Nat,z=(i:Int)/\i<s.size/\Hid (R=if s.toList.drop (i+1)=[]then none else El sch (Ai 5 (AL 58 (s.toList.take i)).1) (Ai 5 (AL 58 (s.toList.take i)).2.1) (s.toList.drop (i+1))):=by
  intro z hzz;rcases hzz.fin Dy with⟨h1,h2⟩|⟨i,h1,hi,h2⟩
  ·exact .inl ⟨h1,H0 (by rw[<-hR,Abr h2])⟩
  rw[AK]at hi;exact .inr ⟨i,h1,hi,H0 (by rw[<-hR,AaY h2])⟩
 change Hid _ at aD hR;have hsp:=H0 (λw=>QA sch w);have vL:AM (w.alloc (.cells Ba 141)) w.heap.size Ba 141:=AM.new _ _ _;have aQ:=Ah w (.cells Ba 141);have T:(w.alloc (.cells Ba 141)).heap.size=w.heap.size+1:=DB _ _;generalize S:w.alloc (.cells Ba 141)=w0 at vL aQ T;have dS:=Uy S;replace S:=H0 S;have oY:AM (w0.alloc (.cells Ba 141)) w.heap.size Ba 141:=vL.alloc _;have dQ:AM (w0.alloc (.cells Ba 141)) w0.heap.size Ba 141:=AM.new _ _ _;have hb1:AF w w (w0.alloc (.cells Ba 141)):=aQ.alloc A4 _;generalize J:w0.alloc (.cells Ba 141)=w1 at oY dQ hb1;have yA:=Uy J;replace J:=H0 J;generalize hg:w0.heap.size=g at dQ T;have t:w.heap.size<=g:=A4;have u:w.heap.size≠g:=A4;change Hid _ at u t oY dQ hb1;clear vL aQ T;go_in;go_wp2_with fail;clear dS yA hg;go_loop[7,8] (λv7 v8=>∃(z:Int)(i:Nat),v7=.int .i64 z/\v8=.int .i64 (i:Int)/\i<=s.size/\Hid (KR s z i)) (λ_ v8=>s.size-(intOf v8).toNat)
 ·exact⟨-1,0,rfl,rfl,AR _,H0 (.inl ⟨rfl,AN⟩)⟩
 obtain⟨z,i,rfl,rfl,hi,K⟩:=hrel;by_cases x:i<s.size
 ·have xC:i<s.toList.length:=by rw[AK];exact x
  have iS:s.toList[i]=s[i]:=by
   have h1:=Aw s i x;rw[Fr xC]at h1;exact(HY h1).1
  by_cases v:s[i]=64
  ·have hq:((s[i].toNat:Int)==64)=true:=by rw[v];rfl
   have aC:=H0 (KR.hit xC (iS.trans v));change Hid _ at iS v;go_wp2;go_round;exact⟨i,i+1,rfl,AP,A4,aC⟩;exact AzF
  have hq:((s[i].toNat:Int)==64)=false:=by
   rw[B6];intro e;exact v (CM.1 (by show _=64;omega))
  have aC:=H0 (K.out.skip xC (by rw[iS];exact v));change Hid _ at iS v;go_wp2;go_round;exact⟨z,i+1,rfl,AP,A4,aC⟩;exact AzF
 have F:=aD.out z (by have e:i=s.size:=A4;exact e▸K)
 clear aD K;go_upto_if 30 with(fail);go_cut[1] (λs1 wx=>∃r us ps:A9,s1=.string r/\r.size<=1100000/\Hid (R=El sch us ps r)/\Hid (AM wx w Ba 141)/\Hid (AM wx g (Ao us ps (AW .none) false 0) 141)/\Hid (AF w w wx))
 ·rcases F with⟨rfl,hres⟩|⟨a,rfl,ha,hres⟩
  ·go_wp2;exact Acg
  have uD:(a:Int)<=s.size:=A4;have ha0:0<=(a:Int):=A4;have hwz:(s.extract 0 a).size<=1100000:=Bk;have fO:=A6 ((s.extract 0 a).toList=s.toList.take a) OC;have hyl:=A6 ((s.extract (a+1) s.size).toList=s.toList.drop (a+1)) ME;have Z:(s.extract (a+1) s.size).size<=1100000:=Bk;have dZ:IntKind.i64.wrap ((a:Int)+1)=(a:Int)+1:=BI ((a:Int)+1) A4;rw[<-fO.out,<-hyl.out]at hres;change Hid _ at fO hyl;obtain⟨W,hW⟩:=AI (s.extract 0 a);obtain⟨r,hr⟩:=AI (s.extract (a+1) s.size);rw[hW]at hwz hres;rw[hr]at Z hres;go_wp2_with fail;go_loop[10] (λeT=>∃k:Nat,eT=.int .i64 (k:Int)/\k<=W.size/\Hid ((58:UInt8) ∉ W.toList.take k)) (λeT=>W.size-(intOf eT).toNat)
  ·exact⟨0,rfl,AR _,H0 AN⟩
  obtain⟨k,rfl,hk,N⟩:=hrel;by_cases x:k<W.size
  ·have B:0<=(k:Int):=A4;have jZ:(k:Int)<=W.size:=A4;have hwr2:IntKind.i64.wrap ((k:Int)+1)=(k:Int)+1:=BI ((k:Int)+1) A4;by_cases m:W[k]=58
   ·have hq:((W[k].toNat:Int)!=58)=false:=by rw[m];rfl
    have hcut:=A6 (AL 58 W.toList=(W.toList.take k,W.toList.drop (k+1),true)) (by
     have e:=F7 k W.toList;rw[Aw W k x,m]at e
     conv=>lhs;rw[<-e]
     exact Ai6 _ _ (λd hd e=>N.out (by rw[<-e];exact hd)))
    replace m:=H0 m;go_wp2_with fail;refine(Ms (W.extract 0 k) 5 AE _ Bk).mono ?_;rintro e j⟨us,rfl,M,c⟩;have V:=A6 (AM j w Ba 141) (AM.keep (w:=w1) oY c);have C:=A6 (AM j g Ba 141) (AM.keep (w:=w1) dQ c);have P:=A6 (AF w w j) (hb1.out.next c);clear c;go_wp2_with(refine BN C 0 (Ao us ⟨#[]⟩ (AW .none) false 0) ?_);refine(Ms (W.extract (k+1) W.size) 5 AE _ Bk).mono ?_;rintro e y⟨ps,rfl,hps,D⟩;have hA3:=A6 (AM y w Ba 141) ((V.out.other u _).keep D);have I:=A6 (AM y g (Ao us ⟨#[]⟩ (AW .none) false 0) 141) ((C.out.set _).keep D);have aG:=A6 (AF w w y) ((Au P t _).next D);clear D;have lP:=A6 (AM (y.setRow g (Ao us ps (AW .none) false 0)) w.heap.size Ba 141) (hA3.out.other u _);have fS:=A6 (AM (y.setRow g (Ao us ps (AW .none) false 0)) g (Ao us ps (AW .none) false 0) 141) (I.out.set _);have aU:=A6 (AF w w (y.setRow g (Ao us ps (AW .none) false 0))) (Au aG t _);have bM:=A6 (R=if r.toList=[]then none else El sch us ps r) (by
     rw[hres.out,hcut.out,M.out,hps.out,toList_extract,toList_extract,C9,Fh _ _ (AG _)])
    by_cases hem:r.toList=[]
    ·have hf:=A6 (R=none) (bM.out.trans (AC hem));have mC:r.toList.isEmpty=true:=Qa;replace hem:=H0 hem;go_wp2_with(first|(refine BN I 1 (Ao us ps (AW .none) false 0) ?_)|(refine Ax lP Ba ?_));exact Agt
    have hf:=A6 (R=El sch us ps r) (bM.out.trans (AA hem));have mC:r.toList.isEmpty=false:=by
     exact AgR
    replace hem:=H0 hem;go_wp2_with(refine BN I 1 (Ao us ps (AW .none) false 0) ?_);go_meet;exact⟨r,us,ps,rfl,Z,hf,lP,fS,aU⟩
   have hq:((W[k].toNat:Int)!=58)=true:=by
    rw[JO];intro e;exact m (CM.1 (by show _=58;omega))
   have aC:=A6 ((58:UInt8) ∉ W.toList.take (k+1)) (by
    rw[DX W k x,BL,CO];rintro(h|h)
    ·exact N.out h
    exact m h.symm)
   replace m:=H0 m;go_wp2;exact JT
  have B:0<=(k:Int):=A4;have jZ:(k:Int)<=W.size:=A4;have hkW:=A6 (k=W.size) A4;have hcut:=A6 (AL 58 W.toList=(W.toList,[],false)) (by
   have e:W.toList.take k=W.toList:=Bc Dy;exact YY _ (λd hd e2=>N.out (by rw[e,<-e2];exact hd)))
  go_wp2_with fail;refine(Ms (W.extract 0 k) 5 AE _ Bk).mono ?_;rintro e j⟨us,rfl,M,c⟩;have V:=A6 (AM j w Ba 141) (AM.keep (w:=w1) oY c);have C:=A6 (AM j g Ba 141) (AM.keep (w:=w1) dQ c);have P:=A6 (AF w w j) (hb1.out.next c);clear c;have lP:=A6 (AM (j.setRow g (Ao us ⟨#[]⟩ (AW .none) false 0)) w.heap.size Ba 141) (V.out.other u _);have fS:=A6 (AM (j.setRow g (Ao us ⟨#[]⟩ (AW .none) false 0)) g (Ao us ⟨#[]⟩ (AW .none) false 0) 141) (C.out.set _);have aU:=A6 (AF w w (j.setRow g (Ao us ⟨#[]⟩ (AW .none) false 0))) (Au P t _);have bM:=A6 (R=if r.toList=[]then none else El sch us (⟨#[]⟩:A9).toList r) (by
   rw[hres.out,hcut.out,M.out,toList_extract,C9,hkW.out,Fh _ _ (AG _),show(⟨#[]⟩:A9).toList=[]from toList_mk []];rfl)
  by_cases hem:r.toList=[]
  ·have hf:=A6 (R=none) (bM.out.trans (AC hem));have mC:r.toList.isEmpty=true:=Qa;replace hem:=H0 hem;go_wp2_with(first|(refine BN C 0 (Ao us ⟨#[]⟩ (AW .none) false 0) ?_)|(refine Ax lP Ba ?_));exact Agt
  have hf:=A6 (R=El sch us (⟨#[]⟩:A9).toList r) (bM.out.trans (AA hem));have mC:r.toList.isEmpty=false:=by
   exact AgR
  replace hem:=H0 hem;go_wp2_with(refine BN C 0 (Ao us ⟨#[]⟩ (AW .none) false 0) ?_);go_meet;exact⟨r,us,⟨#[]⟩,rfl,Z,hf,lP,fS,aU⟩
 clear F oY dQ hb1;obtain⟨r,us,ps,rfl,gJ,hres,E,U,f⟩:=hcut;have pQ:=H0 (λw=>Avw r w A4);go_wp2_with fail;refine(pQ.out _).mono ?_;rintro e w'⟨z2,rfl,L,hw⟩;obtain rfl:=hw.symm;clear pQ;have Y:(z2=0/\Hid (R=none))\/((z2==0)=false/\Hid (AkO (CF false r) r.toList z2)):=by
  rcases L.out with⟨h0,h⟩|⟨k,h0,hk,h⟩
  ·exact .inr ⟨Q6,L⟩
  by_cases B:k=0
  ·refine .inl ⟨A4,H0 ?_⟩;rw[hres.out,XT h,AC (by rw[B,J5])]
  exact .inr ⟨DV,L⟩
 clear L;rcases Y with⟨rfl,hf⟩|⟨Q,L⟩
 ·go_wp2_with(refine Ax E Ba ?_);refine Mv rfl rfl rfl rfl (E.out.set _) (ND _ _ _ _ _) ?_;exact Nh hf (Au f (AG _) _)
 go_upto_if 74 with(fail);go_cut[1,11] (λs11 s12 wx=>∃n p:A9,s11=.string n/\s12=.string p/\n.size<=1100000/\p.size<=1100000/\Hid (R=Jv sch us ps n p)/\Hid (AM wx w Ba 141)/\Hid (AM wx g (Ao us ps (AW .none) false 0) 141)/\Hid (AF w w wx))
 ·rcases L.out with⟨rfl,h⟩|⟨k,rfl,hk,h⟩
  ·have hf2:=A6 (R=Jv sch us ps r (⟨#[]⟩:A9).toList) (by rw[show(⟨#[]⟩:A9).toList=[]from toList_mk [],hres.out,AeC h]);replace h:=H0 h;go_wp2;go_meet;exact⟨r,⟨#[]⟩,rfl,rfl,gJ,AE,hf2,E,U,f⟩
  rw[AK]at hk;have hkn:k≠0:=λe=>by rw[e]at Q;exact absurd Q AE
  have dL:0<(k:Int):=A4;have jZ:(k:Int)<=r.size:=A4;have B:0<=(k:Int):=A4;have dZ:IntKind.i64.wrap ((k:Int)+1)=(k:Int)+1:=BI ((k:Int)+1) A4;have hx1:(r.extract 0 k).size<=1100000:=Bk;have Z:(r.extract (k+1) r.size).size<=1100000:=Bk;have hf:=A6 (R=Jv sch us ps (r.extract 0 k).toList (r.extract (k+1) r.size).toList) (by
   rw[hres.out,XT h,toList_extract,toList_extract,C9,Bc (l:=r.toList) (i:=r.size) Dy,AA (λe=>by
    have:=congrArg List.length e;rw[Cl,AK,Ep]at this;omega)])
  replace h:=H0 h;go_wp2;go_meet;exact⟨_,_,rfl,rfl,hx1,Z,hf,E,U,f⟩
 clear hres E U f L gJ Q;obtain⟨n,q,rfl,rfl,pH,wC,hres,E,U,f⟩:=hcut;have kR:=H0 (λw=>Ak5 n (Ar sch) w pH);have j8:=H0 (λw=>AuA sch q w A4);have G:=hres.out;unfold Jv at G;obtain⟨H,hH⟩:=AI (ET n (Ar sch));obtain⟨O,hO⟩:=AI (Hn sch q);rw[hH]at kR G;rw[hO]at j8 G;change Hid _ at G hH hO;clear hres;go_wp2_with(go_at_call 67;refine(hsp.out _).mono (AH ?_));refine(kR.out _).mono ?_;intro e j hx;obtain⟨HS,wN,rfl,c⟩:=Yg hx;clear hx;have V:=A6 (AM j w Ba 141) (E.out.keep c);have C:=A6 (AM j g (Ao us ps (AW .none) false 0) 141) (U.out.keep c);have P:=A6 (AF w w j) (f.out.next c);have dE:=A6 (w.heap.size<=j.heap.size) P.out.size;clear c kR E U f;have hA3:=A6 (AM (j.alloc (.cells (AV (HS)) 32)) w.heap.size Ba 141) (V.out.alloc _);have I:=A6 (AM (j.alloc (.cells (AV (HS)) 32)) g (Ao us ps (AW .none) false 0) 141) (C.out.alloc _);have A:=A6 (AM (j.alloc (.cells (AV (HS)) 32)) j.heap.size (AV (HS)) 32) (AM.new _ _ _);have aG:=A6 (AF w w (j.alloc (.cells (AV (HS)) 32))) (P.out.alloc dE _);clear V C P;go_wp2_with(refine Cw (AV (HS)) ?_);refine(j8.out _).mono ?_;rintro e w'⟨rfl,hw⟩;obtain rfl:=hw.symm;obtain⟨q2,hq2⟩:=AI (j.heap.size);generalize hw3:j.alloc (.cells (AV (HS)) 32)=y at hA3 I A aG⊢;rw[hq2]at A⊢;clear hw3 hq2 dE hw j8;cases H with
 |none=>
  have hf:=A6 (R=none) G;clear G;cases O;all_goals
   go_wp2_with(refine Ax hA3 Ba ?_);refine Mv rfl rfl rfl rfl (hA3.out.set _) (ND _ _ _ _ _) ?_;exact Nh hf (Au aG (AG _) _)
 |some h=>
  replace wN:Hid (HS=AW h):=wN;have X:=G.out;try dsimp only at X
  replace X:=H0 X;clear G;cases O with
  |none=>
   have hf:=A6 (R=none) X;go_wp2_with(refine Ax hA3 Ba ?_);exact AdA
  |some o=>
   have hf:=A6 (R=some ⟨us.toList,ps.toList,h,o⟩) X;have fS:=A6 (AM (y.setRow g (Ao us ps (HS) false 0)) g (Ao us ps (HS) false 0) 141) (I.out.set _);have lP:=A6 (AM (y.setRow g (Ao us ps (HS) false 0)) w.heap.size Ba 141) (hA3.out.other u _);have aU:=A6 (AF w w (y.setRow g (Ao us ps (HS) false 0))) (Au aG t _);go_upto_region 31 with(first|(refine At A ?_)|(refine MD I 2 (AV (HS)) (Ao us ps (HS) false 0) ?_));generalize hw4:y.setRow g (Ao us ps (HS) false 0)=w4 at lP fS aU⊢;clear hA3 I A aG hw4;have fin:∀(z:Int)(b:Bool),Hid (AM (w4.setRow g (Ao us ps (HS) false z)) g (Ao us ps (HS) false z) 141)/\Hid (AM ((w4.setRow g (Ao us ps (HS) false z)).setRow g (Ao us ps (HS) b z)) g (Ao us ps (HS) b z) 141)/\Hid (AM ((w4.setRow g (Ao us ps (HS) false z)).setRow g (Ao us ps (HS) b z)) w.heap.size Ba 141)/\Hid (AF w w ((w4.setRow g (Ao us ps (HS) false z)).setRow g (Ao us ps (HS) b z))):=λz b=>
    ⟨H0 (fS.out.set _),H0 ((fS.out.set _).set _),H0 ((lP.out.other u _).other u _),H0 (Au (Au aU t _) t _)⟩
   replace fin:=H0 fin;exact AaS
structure Bw where
 right:Bool
 url:AT
 wv:AJ
 ws:List A9
def Ac(r:Bool)(u:AT)(wv:AJ):Array AJ:= #[.bool r,.string u.scheme,.string u.user,.string u.pass,.int .i64 u.host.kind,.string u.host.name,.int .u32 (u.host.four:Int),.int .u16 ((pc u.host.six 0:Nat):Int),.int .u16 ((pc u.host.six 1:Nat):Int),.int .u16 ((pc u.host.six 2:Nat):Int),.int .u16 ((pc u.host.six 3:Nat):Int),.int .u16 ((pc u.host.six 4:Nat):Int),.int .u16 ((pc u.host.six 5:Nat):Int),.int .u16 ((pc u.host.six 6:Nat):Int),.int .u16 ((pc u.host.six 7:Nat):Int),.bool u.hasPort,.int .i64 u.port,.bool u.flatP,.string u.flat,.slice u.pathA u.path.length u.pathC,.bool u.hasQuery,.string u.query,.bool u.hasFrag,.string u.frag,wv]
def Bw.c(x:Bw):Array AJ:=Ac x.right x.url x.wv
def HD(x:Bw):List AJ:=x.c.toList
def TL(x:Bw):(HD x).length=25:=rfl
def Aly(r:Bool)(u:AT)(wv:AJ)(j:Nat)(h:j<23):(Ac r u wv)[1+j]?=(AB u)[j]? :=by
 match j,h with
 |0,_=>rfl|1,_=>rfl|2,_=>rfl|3,_=>rfl|4,_=>rfl|5,_=>rfl|6,_=>rfl|7,_=>rfl|8,_=>rfl|9,_=>rfl|10,_=>rfl|11,_=>rfl
 |12,_=>rfl|13,_=>rfl|14,_=>rfl|15,_=>rfl|16,_=>rfl|17,_=>rfl|18,_=>rfl|19,_=>rfl|20,_=>rfl|21,_=>rfl|22,_=>rfl
 |n+23,h=>omega
structure Ex(x:Bw)(it:CH):Prop where
 right:x.right=it.right
 url:Bu x.url it.url
 ws:x.ws.map (·.toList)=it.ws
def CX:List Bw->List CH->Prop
 |[],[]=>True|x::l,it::L=>Ex x it/\CX l L|_,_=>False
def CX.len:∀{l:List Bw}{L:List CH},CX l L->l.length=L.length
 |[],[],_=>rfl|_::_,_::_,h=>by rw[BC,BC,CX.len h.2]|[],_::_,h=>h.elim|_::_,[],h=>h.elim
def CX.snoc:∀{l:List Bw}{L:List CH}{x:Bw}{a:CH},CX l L->Ex x a->CX (l++[x]) (L++[a])
 |[],[],_,_,_,h=>⟨h,trivial⟩|_::_,_::_,_,_,h,h2=>⟨h.1,CX.snoc h.2 h2⟩|[],_::_,_,_,h,_=>h.elim|_::_,[],_,_,h,_=>h.elim
def CX.get:∀{l:List Bw}{L:List CH},CX l L->∀(i:Nat)(h:i<l.length)(a:i<L.length),Ex l[i] L[i]
 |_::_,_::_,h,0,_,_=>h.1|_::_,_::_,h,i+1,h1,a=>CX.get h.2 i AS AS|[],[],_,i,h1,_=>absurd h1 AN|[],_::_,h,_,_,_=>h.elim|_::_,[],h,_,_,_=>h.elim
variable{x:Bw}
def Ex.of{y:Bw}{a:CH}(h:Ex x a)(h1:y.right=x.right)(c:Bu y.url a.url)(b:y.ws=x.ws):Ex y a:=⟨h1.trans h.right,c,by rw[b];exact h.ws⟩
structure D7(w:A7)(B:Nat)(x:Bw):Prop where
 path:OwnS w B 9 (.slice x.url.pathA x.url.path.length x.url.pathC) x.url.path
 words:OwnS w B 9 x.wv x.ws
structure Jz(w:A7)(x:Bw):Prop where
 path:EX w x.url.pathA x.url.path.length x.url.pathC x.url.path
 cap:x.url.path.length<=x.url.pathC
 words:CA w x.wv x.ws
variable{w:A7}{B:Nat}
def D7.read(h:D7 w B x):Jz w x:=by
 have⟨pa,c,e,hc,hr⟩:=Ec h.path;cases e;exact⟨hr,hc,h.words.read⟩
variable{w':A7}
def D7.chg(h:D7 w B x)(hc:∀k,B<=k->k<w.heap.size->w'.heap[k]?=w.heap[k]?):D7 w' B x:=⟨h.path.chg hc,h.words.chg hc⟩
def D7.below(h:D7 w B x)(a:AF w w w'):D7 w' B x:=h.chg λk _ b=>a.block k b
variable{B':Nat}
def D7.low(h:D7 w B' x)(a:B<=B'):D7 w B x:=⟨h.path.low a,h.words.low a⟩
def Jz.below{K:Nat}(h:Jz w x)(a:AF K w w')(b:w.heap.size<=K):Jz w' x:=⟨h.path.below a b,h.cap,h.words.below a b⟩
def Jz.urlW{u:AZ}(h:Jz w x)(a:Bu x.url u):Cy w x.url u:=⟨a,h.path,h.cap⟩
def CU(w:A7)(B:Nat)(v:AJ)(l:List Bw):Prop:=w.ownsRow B 48 25 v l.length (l.flatMap HD)/\∀x∈l,D7 w B x
def IU(w:A7)(v:AJ)(l:List Bw):Prop:=
 ∃pa c,v=.slice pa l.length c/\l.length<=c/\(0<l.length->∃g o,pa=some ⟨g,o,none⟩/\∀i(h:i<l.length),w.rangeAt g (o+i*25) (HD l[i]))/\∀x∈l,Jz w x
def CU.nil(w:A7)(B:Nat):CU w B (.slice none 0 0) []:=⟨KQ _ _ _ _,λc hc=>by cases hc⟩
variable{v:AJ}{l:List Bw}
def CU.chg(h:CU w B v l)(hc:∀k,B<=k->k<w.heap.size->w'.heap[k]?=w.heap[k]?):CU w' B v l:=
 ⟨PX h.1 hc,λc a=>(h.2 c a).chg hc⟩
def CU.low(h:CU w B' v l)(a:B<=B'):CU w B v l:=⟨SZ h.1 a,λc b=>(h.2 c b).low a⟩
def CU.below(h:CU w B v l)(a:AF w w w'):CU w' B v l:=h.chg λk _ b=>a.block k b
def IU.below{K:Nat}(h:IU w v l)(b:AF K w w')(a:w.heap.size<=K):IU w' v l:=by
 obtain⟨pa,c,rfl,hc,h1,j⟩:=h;refine⟨pa,c,rfl,hc,λd=> ?_,λx hx=>(j x hx).below b a⟩;have⟨g,o,e,hr⟩:=h1 d;exact⟨g,o,e,λi f=>MT (hr i f) b a⟩
def Ajy:∀(l:List Bw)(i:Nat)(h:i<l.length)(j:Nat),j<25->(l.flatMap HD)[i*25+j]?=(HD l[i])[j]?
 |[],i,h,j,hj=>by simp at h
 |a::r,0,h,j,hj=>by
  rw[GV,Db,List.getElem?_append_left (by rw[TL];exact hj)];rfl
 |a::r,i+1,h,j,hj=>by
  rw[GV,UM (by rw[TL];omega),TL,show(i+1)*25+j-25=i*25+j by omega];exact Ajy r i JR j hj
def CU.read(h:CU w B v l):IU w v l:=by
 have⟨hr,hw⟩:=h;rcases hr.2 with⟨rfl,o⟩|⟨g,a,f,rfl,s,r,m,t,d,p⟩
 ·exact⟨none,0,by rw[o],A4,λq=>A4,λc hc=>(hw c hc).read⟩
 refine⟨_,a,rfl,m,λ_=>⟨g,0,rfl,λi n j v b=> ?_⟩,λc hc=>(hw c hc).read⟩;have k:j<25:=by
  have:=(Hk.1 b).1;rwa[TL]at this
 rw[Db];have e:=KH hr (i*25+j) A4;rw[e,Ajy l i n j k];exact b
def Ad4:∃i,A8.info? 48=some i/\i.zero=some (.agg (Ac false zS (.slice none 0 0)))/\i.size=25/\i.bytes=240:=IQ AO
def Q7(r:Bool)(u:AT)(wv:AJ):(A8.info? 48).map (·.size)=some (Ac r u wv).size:=by show _=some 25;kernel_rfl
def Sd(x:Bw):(A8.info? 48).map (·.size)=some (HD x).length:=by show _=some 25;kernel_rfl
variable{n:Nat}
def OwnS.off2{u:AJ}{l:List A9}{xs:List AJ}(h:OwnS w B 9 v l)(hr:w.ownsRow B' 48 25 u n xs)(hg:w.grownBy w' u.ownBlock):OwnS w' B 9 v l:=by
 exact Agj
def D7.off{u:AJ}{xs:List AJ}(h:D7 w B x)(a:w.ownsRow B' 48 25 u n xs)(b:w.grownBy w' u.ownBlock):D7 w' B x:=⟨h.path.off2 a b,h.words.off2 a b⟩
def Ach(r:Bool)(u:AT)(wv:AJ)(h:wv.oneCell'=true):∀v∈(Ac r u wv).toList,v.oneCell'=true:=by
 intro v a;simp[Ac,Bn,K3,or_false]at a;rcases a with rfl|rfl|rfl|rfl|rfl|rfl|rfl|rfl|rfl|rfl|rfl|rfl|rfl|rfl|rfl|rfl|rfl|rfl|rfl|rfl|rfl|rfl|rfl|rfl|rfl;all_goals first|rfl|exact h
def Ae2(r:Bool)(u:AT)(wv:AJ)(h:wv.oneCell'=true):(Ac r u wv).all (·.oneCell')=true:=by
 rw[Array.all_eq_true_iff_forall_mem];exactλv hv=>Ach r u wv h v La
variable{ops:Array Oper}{rest:List Oper}{o:Oper}{a:Act}{Q:Exit->Act->A7->Prop}
def Aeo(D:o.guard=none)(s x:CV)(E:o.op=.call {callee:=.builtin .append,args:= #[s,x],argTypes:= #[42,42]}){W0 w0:A7}(c:Bw)(C:a.eval s=v)(hx:a.eval x=.slice (some ⟨w0,0,none⟩) 1 1)(z:w0.ownsRow B 48 25 v l.length (l.flatMap HD))(f:∀d∈l,D7 w0 B' d)(q:D7 w0 B' c)(m:AF B W0 w0)(y:B<=w0.heap.size)(F:l.length<=1000000000)(h:∀n w',w'.ownsRow B 48 25 n (l++[c]).length ((l++[c]).flatMap HD)->(∀d∈l++[c],D7 w' B' d)->AF B W0 w'->w0.grownBy w' v.ownBlock->Aq A8 ops Q rest (a.put o.dst n) w'):Aq A8 ops Q (o::rest) a (w0.alloc (.cells (Ac c.right c.url c.wv) 48)):=by
 have⟨i,hi,hz,hs1,hb1⟩:=Ad4;have t:=z.alloc (.cells (Ac c.right c.url c.wv) 48);have r:∀d∈l++[c],D7 (w0.alloc (.cells (Ac c.right c.url c.wv) 48)) B' d:=by
  intro d b;rcases BL.1 b with b|b
  ·exact⟨(f d b).path.alloc _,(f d b).words.alloc _⟩
  rw[CO.1 b];exact⟨q.path.alloc _,q.words.alloc _⟩
 refine Ig _ D s x 42 E B 48 i _ 25 240 underlying42 hi hz hs1 hb1 rfl AE v l.length _ C t ⟨w0,0,none⟩ 1 1 (HD c) hx rfl ?_ (Ach _ _ _ q.words.one) C1 A4 B7 ?_
 ·intro j u w;have e:(⟨w0,0,none⟩:Addr).add j=⟨w0,j,none⟩:=by cases j<;>simp[Addr.add]
  rw[e,BV (w0.alloc (.cells (Ac c.right c.url c.wv) 48)) w0.heap.size j _ _ _ (CB w0 _)];rw[L9]at w;exact w
 intro n w' g p G;refine h n w' ?_ (λd b=>(r d b).off t p) ((m.alloc y _).grown p B7 (λk A=>(Om t k A).1)) ((World.grownBy_alloc _ _ _).trans p);simpa using g
def Akm(i:o.guard=none)(s x:CV)(m:o.op=.call {callee:=.builtin .append,args:= #[s,x],argTypes:= #[42,42]}){W0 w0:A7}(c:Bw)(g:a.eval s=v)(hx:a.eval x=.slice (some ⟨w0,0,none⟩) 1 1)(b:CU w0 B v l)(j:D7 w0 B c)(d:AF B W0 w0)(f:B<=w0.heap.size)(k:l.length<=1000000000)(h:∀e w',CU w' B e (l++[c])->AF B W0 w'->w0.grownBy w' v.ownBlock->Aq A8 ops Q rest (a.put o.dst e) w'):Aq A8 ops Q (o::rest) a (w0.alloc (.cells (Ac c.right c.url c.wv) 48)):=
 Aeo i s x m c g hx b.1 b.2 j d f k λe w' h1 n=>h e w' ⟨h1,n⟩
def Kg(c:o.guard=none)(x:CV)(b:o.op=.buildSlice 42 1 #[(0,x)])(r:Bool)(u:AT)(wv:AJ)(hx:a.eval x=.agg (Ac r u wv))(h:Aq A8 ops Q rest (a.put o.dst (.slice (some ⟨w,0,none⟩) 1 1)) (w.alloc (.cells (Ac r u wv) 48))):Aq A8 ops Q (o::rest) a w:=by
 have⟨i,hi,hz,hs1,hb1⟩:=Ad4;refine wpList_buildSlice c 42 48 1 _ b (Ac r u wv) i _ underlying42 hi hz A4 A4 ?_ h;exact AfH
def Qz(h:D7 w B x)(a:B<=w.heap.size):CU (w.alloc (.cells (Ac x.right x.url x.wv) 48)) B (.slice (some ⟨w,0,none⟩) 1 1) [x]:=by
 refine⟨⟨by show([x].flatMap HD).length=1*25;rfl,.inr ⟨w,1,Ac x.right x.url x.wv,rfl,a,CB w _,AG _,by unfold BK;decide,rfl,?_⟩⟩,?_⟩
 ·show(Ac x.right x.url x.wv).toList.take (1*25)=HD x++[];kernel_rfl
 intro d b;rw[CO.1 b];exact⟨h.path.alloc _,h.words.alloc _⟩
def AqO:∀t∈[Lm,Ij,Kb],∀p∈t,p.2.length<=p.1.length+1:=AX
def TC{t:List (A5×A5)}(b:t∈[Lm,Ij,Kb]){s x:A5}(h:I0 t s=some x):x.length<=s.length+1:=by
 unfold I0 at h;cases hf:t.find? λp=>p.1==s with
 |none=>rw[hf]at h;cases h
 |some p=>
  rw[hf]at h;cases h;have h1:=AqO t b p (List.mem_of_find?_eq_some hf);have a:(p.1==s)=true:=by simpa using List.find?_some hf
  rw[CW]at a;rw[a]at h1;exact h1
def ArQ{s x:A5}(h:Ji s=some x):x.length<=s.length+1:=by
 have a:∀s,JU s=some x->x.length<=s.length+1:=by
  intro s h;unfold JU at h;split at h
  ·rename_i b a;cases h;exact TC AN a
  exact TC AN h
 have c:s.dropLast.length<=s.length:=by simp_all
 unfold Ji at h;split at h
 ·split at h
  ·rename_i t ht;cases h;have:=TC AN ht;omega
  have:=a _ h;omega
 exact TC AN h
def Ajm(s:A5):∀n,(JA s n).1.length<=(JA s n).2
 |0=>AG _
 |n+1=>by
  rw[UD];split
  ·exact Ajm s n
  rename_i t ht;split
  ·exact Mg
  have h1:=ArQ ht;have a:((s.drop 1).take (n+1)).length<=n+1:=Fx;show t.length<=n+2;omega
def Alg{base:Nat}{l:A5}(h:(DD base n l).2=0):(DD base n l).1=n:=by
 cases l with
 |nil=>rfl
 |cons c r=>
  rw[DD]at h⊢;split
  ·rfl
  simp_all
def ApP(c:UInt8):AQ (c:Int) 10<=9:=by
 have a:∀n:UInt8,AQ (n:Int) 10<=9:=DZ AX;exact a c
def Am8{l:A5}(h:(DD 10 0 l).2=1):(DD 10 0 l).1<=9:=by
 cases l with
 |nil=>cases h
 |cons c r=>
  rw[DD]at h⊢;split
  ·omega
  rename_i hd;rw[AA hd]at h;rw[Alg A4];have a:(AQ (c:Int) ((10:Nat):Int)).toNat<=9:=by
   have:AQ (c:Int) ((10:Nat):Int)<=9:=ApP c;omega
  omega
def AyY:∀n,n<=9->(It n).length<=3:=AX
def AtX(s:A5):(HW s).1.length<=(HW s).2:=by
 unfold HW;dsimp only;split
 ·simp_all
 rename_i h0;have b:=Aaq (DD (Gf s) 0 (s.drop (E4 s))).1;have a:(It (DD (Gf s) 0 (s.drop (E4 s))).1).length<=E4 s+(DD (Gf s) 0 (s.drop (E4 s))).2:=by
  cases hx:isX s with
  |true=>
   have e:E4 s=3:=by unfold E4;rw[hx];rfl
   omega
  |false=>
   have e:E4 s=2:=by unfold E4;rw[hx];rfl
   have c:Gf s=10:=by unfold Gf;rw[hx];rfl
   rw[e,c]at h0 b⊢;by_cases h1:(DD 10 0 (s.drop 2)).2=1
   ·have:=AyY _ (Am8 h1);omega
   omega
 split
 ·grind
 exact a
def Au0(s:A5):(GD s).1.length<=(GD s).2:=by
 unfold GD;split
 ·exact AtX s
 exact Ajm s _
def AdQ:∀(f:Nat)(l:A5),(K9 f l).length<=l.length
 |0,l=>AR _
 |f+1,l=>by
  rw[K9];split
  ·rename_i h;have a:=congrArg List.length (Xy h);rw[Aa,BC]at a;have h1:=Au0 (38::(AL 38 l).2.1);have b:=(AfG (s:=38::(AL 38 l).2.1) AN);have c:=AdQ f ((38::(AL 38 l).2.1).drop (GD (38::(AL 38 l).2.1)).2);rw[C7,BC]at c;rw[BC]at b;rw[Aa,Aa];omega
  omega
def AyC(l:A5):(Lk l).length<=l.length:=AdQ _ l
def AiY(raw:A5):(Bh raw).length<=9*raw.length:=by
 unfold Bh;have h1:=AyC (HO (CZ raw));have c:=TP (CZ raw);have a:=V4 raw;have b:raw.count 0<=raw.length:=List.count_le_length;omega
def AwB{c:UInt8}{r:A5}(h:BD c=false):(C3 (c::r)).2=[]\/((C3 (c::r)).2.dropWhile BD).length+1<=r.length:=by
 have b:(c::r).dropWhile BS=r.dropWhile BS:=by rw[EF,AC (Ow h)]
 have d:=GL BS r;unfold C3;split
 ·rw[b];cases hx:r.dropWhile BS with
  |nil=>simp
  |cons a q=>
   have e:=JI BS r hx;have f:BD a=true:=by
    unfold BD;unfold BS at e;grind
   rw[hx,BC]at d;refine .inr ?_;rw[EF,AC f];have:=GL BD q;omega
 have g:=ZU _ _ (AG (r.dropWhile BS).length);rw[b];cases hx:(Cz (r.dropWhile BS)).2 with
 |nil=>simp
 |cons a q=>
  grind[GL]
def ApS(p:A5×List (A5)):(GM p).length<=1:=by
 unfold GM;split
 ·simp_all
 simp_all
def AkG:∀(n:Nat)(l:A5),2*(Jp n l).length<=(l.dropWhile BD).length+1
 |0,l=>by show 2*0<=_;omega
 |n+1,l=>by
  rw[Jp];split
  ·simp_all
  rename_i hne;cases hx:l.dropWhile BD with
  |nil=>exact absurd hx hne
  |cons c r=>
   have hc:=JI BD l hx;have h1:=ApS (C3 (c::r)).1;have a:=AkG n (C3 (c::r)).2;rw[Aa,BC];rcases AwB hc with e|e
   ·rw[e]at a⊢;have e0:Jp n []=[]:=by cases n<;>rfl
    rw[e0,Ep];omega
   omega
def Ahf(l:A5):2*(BW l).length<=l.length+1:=by
 have h1:=AkG (l.length+1) l;have a:=GL BD l;unfold BW;omega
def Alv(s:A9)(w:A7):AD A8 111 #[.string s,.string ⟨#[44]⟩] w (AzJ (.bool (s.toList.head?==some 44)) w):=by
 go_call Tryz.strings_HasPrefix;refine AH ?_;have a:(ByteArray.mk #[44]).data.toList=[44]:=rfl;rw[(BQ ..).symm,AgS];exact⟨rfl,rfl⟩
def Ali(s:A9)(w:A7)(b:s.size<=9223372036854775807):AD A8 112 #[.string s,.string ⟨#[44]⟩] w (AzJ (.bool (s.toList.getLast?==some 44)) w):=by
 go_call Tryz.strings_HasSuffix;refine AH ?_;have c:(ByteArray.mk #[44]).data.toList=[44]:=rfl;have a:decide (s.toList.getLast?=some 44)=(s.toList.getLast?==some 44):=by rw[Fl];simp
 rw[(BQ ..).symm,Aah,a];exact⟨rfl,rfl⟩
def Azm(S:AT)(u:AZ)(w:A7)(x:CD w)(n:Cy w S u)(g:BA u)(E:B9 u<=1000000000):AD A8 60 #[.agg (AB S)] w (GG w (ML (C6 u true))):=by
 have l:=Ah w (.cells (AB S) 34);have s:AM (w.alloc (.cells (AB S) 34)) w.heap.size (AB S) 34:=AM.new _ _ _;have j:=Jn g true;have A:=H0 (Ng n.is g A4);have m:=H0 (Mo n.is true);generalize z:C6 u true=L at m j⊢;replace z:=H0 z;obtain⟨R,hR⟩:=AI (ML L);rw[hR];unfold ML at hR;replace hR:=H0 hR;generalize hw0:w.alloc (.cells (AB S) 34)=w0 at l s;change Hid _ at n x;go_in;go_wp2_with(refine At s ?_);clear hw0;go_call(PL S true w0 (n.out.below l (AG _)).inn A (x.out.next l).tabs) as e w1⟨t,rfl,ht,a⟩;have hb2:=l.next a;have v:=A6 (t.toList=L) (ht.out.trans m);have B:t.size<=1000000050:=by rw[<-AK,v.out];omega
 rw[<-v.out]at hR;clear l s a ht m;have q:=H0 (λw=>Alv t w);have h:=H0 (λw=>Ali t w A4);obtain⟨b1,a⟩:=AI (t.toList.isEmpty);obtain⟨b2,b⟩:=AI ((t.toList.head?==some 44));obtain⟨p,i⟩:=AI ((t.toList.getLast?==some 44));rw[b]at q hR;rw[i]at h hR;rw[a]at hR;change Hid _ at b i;go_wp2;go_loop[4] (λv4=>∃k:Nat,v4=.int .i64 (k:Int)/\k<=t.size/\Hid (((t.toList.drop k).all BS&&(!b1&&(!b2&& !p)))=R)) (λv4=>t.size-(intOf v4).toNat)
 ·exact⟨0,rfl,AR _,RC⟩
 obtain⟨k,rfl,D,y⟩:=hrel;by_cases r:k<t.size
 ·have aM:=y.out;rw[Aw t k r,Hh]at aM;obtain⟨o,c⟩:∃o,CL (t[k].toNat:Int)=o:=⟨_,rfl⟩;have f:BS t[k]= !o:=by rw[<-c];rfl
  rw[f]at aM;have m:IntKind.i64.wrap ((k:Int)+1)=(k:Int)+1:=BI _ A4;have d:=H0 (λw=>KE (t[k].toNat:Int) w);rw[c]at d;change Hid _ at c f aM;cases o with
  |true=>
   have hf:=A6 (false=R) Ts;go_wp2_with(go_call d;refine AH ?_);go_ret;exact⟨RK,hb2⟩
  |false=>
   have C:=A6 (((t.toList.drop (k+1)).all BS&&(!b1&&(!b2&& !p)))=R) Ts;go_wp2_with(go_call d;refine AH ?_);refine⟨⟨k+1,AP,A4,C⟩,?_⟩;exact AzF
 have hf:=A6 ((!b1&&(!b2&& !p))=R) (by have:=y.out;rw[CP t k A4]at this;simpa using this);cases b1 with
 |true=>
  have hf2:=A6 (false=R) Xi;go_wp2;exact ZV
 |false=>
  cases b2 with
  |true=>
   have hf2:=A6 (false=R) Xi;go_wp2_with(go_call q;refine AH ?_);exact ZV
  |false=>
   have hf2:=A6 ((!p)=R) Xi;go_wp2_with(first|(go_call q;refine AH ?_)|(go_call h;refine AH ?_));exact ZV
def Agy:∀(xs a:List Nat),xs.length=a.length->((List.range xs.length).all λi=>decide (xs.getD i 0=a.getD i 0))=decide (xs=a)
 |[],[],_=>rfl
 |x::xs,y::a,h=>by
  rw[BC,List.range_succ_eq_map,Hh,List.all_map];simp only[Function.comp_def,List.getD_cons_succ,Agy xs a JR];rw[Fl];simp
 |[],_::_,h=>by simp at h|_::_,[],h=>by simp at h
def AnH(d:Nat)(w:A7)(xs a:List Nat)(hx:xs.length=8)(j:a.length=8):(Op.equalIn (d+2) 30 (.agg (By xs)) (.agg (By a))).run A8 w=.ok (decide (xs=a)) w:=by
 have b:=underlying29;have e:∀w,(sizeOf 29).run A8 w=.ok 1 w:=λw=>by simp_all
 rw[<-Agy xs a (hx.trans j.symm),hx,List.range_eq_range',Op.equalIn];simp only[Sem.run_bind,run_underlying underlying30,QS,e,Std.Legacy.Range.forIn_eq_forIn_range',Std.Legacy.Range.size,Nat.sub_zero,Nat.add_sub_cancel,Nat.div_one];have c:∀i∈List.range' 0 8 1,i<8:=λi k=>by simp_all
 generalize List.range' 0 8 1=l at c⊢;induction l with
 |nil=>simp
 |cons i l ih=>
  have k:=c i AN;have g:(part 29 (By xs) (i*1)).run A8 w=.ok (.int .u16 (xs.getD i 0:Nat)) w:=by
   simp[part,isAgg,run_underlying b,By,List.getD,Cs (show i<xs.length by omega)]
  have f:(part 29 (By a) (i*1)).run A8 w=.ok (.int .u16 (a.getD i 0:Nat)) w:=by
   simp[part,isAgg,run_underlying b,By,List.getD,Cs (show i<a.length by omega)]
  have h:(Op.equalIn (d+1) 29 (.int .u16 (xs.getD i 0:Nat)) (.int .u16 (a.getD i 0:Nat))).run A8 w=.ok (decide (xs.getD i 0=a.getD i 0)) w:=by
   rw[run_equalIn_int w d 29 .u16 .u16 _ _ b];congr 1;rw[Fl];simp;omega
  simp only[List.forIn_cons,Sem.run_bind,g,f,h,QS,Hh];cases hb:decide (xs.getD i 0=a.getD i 0)
  ·simp
  simp_all
def AoX(h:E7):By [pc h.six 0,pc h.six 1,pc h.six 2,pc h.six 3,pc h.six 4,pc h.six 5,pc h.six 6,pc h.six 7]= #[.int .u16 ((pc h.six 0:Nat):Int),.int .u16 ((pc h.six 1:Nat):Int),.int .u16 ((pc h.six 2:Nat):Int),.int .u16 ((pc h.six 3:Nat):Int),.int .u16 ((pc h.six 4:Nat):Int),.int .u16 ((pc h.six 5:Nat):Int),.int .u16 ((pc h.six 6:Nat):Int),.int .u16 ((pc h.six 7:Nat):Int)]:=rfl
def Ay0(w:A7)(h:E7):(Op.equalIn 10000 32 (.agg (AV h)) (.agg (AV h))).run A8 w=.ok true w:=by
 have hf:(A8.fieldsOf 32).toList=[{name:= "Kind",type:=3,offset:=0,embedded:=false,tag:= "",pkgPath:= "",byteOffset:=0},{name:= "Name",type:=9,offset:=1,embedded:=false,tag:= "",pkgPath:= "",byteOffset:=8},{name:= "Four",type:=28,offset:=2,embedded:=false,tag:= "",pkgPath:= "",byteOffset:=24},{name:= "Six",type:=30,offset:=3,embedded:=false,tag:= "",pkgPath:= "",byteOffset:=28}]:=by kernel_rfl
 have h6:∀w,(Op.equalIn 9999 30 (.agg (By [pc h.six 0,pc h.six 1,pc h.six 2,pc h.six 3,pc h.six 4,pc h.six 5,pc h.six 6,pc h.six 7])) (.agg (By [pc h.six 0,pc h.six 1,pc h.six 2,pc h.six 3,pc h.six 4,pc h.six 5,pc h.six 6,pc h.six 7]))).run A8 w=.ok true w:=λw=>by
  simp_all[AnH]
 rw[run_equalIn_struct w 9999 _ _ _ AO AO,hf];rw[AoX]at h6;have p0:∀w,(part 3 (AV h) 0).run A8 w=.ok (.int .i64 h.kind) w:=λw=>BE
 have p1:∀w,(part 9 (AV h) 1).run A8 w=.ok (.string h.name) w:=λw=>BE
 have p2:∀w,(part 28 (AV h) 2).run A8 w=.ok (.int .u32 (h.four:Int)) w:=λw=>BE
 have p3:∀w,(part 30 (AV h) 3).run A8 w=.ok (.agg #[.int .u16 ((pc h.six 0:Nat):Int),.int .u16 ((pc h.six 1:Nat):Int),.int .u16 ((pc h.six 2:Nat):Int),.int .u16 ((pc h.six 3:Nat):Int),.int .u16 ((pc h.six 4:Nat):Int),.int .u16 ((pc h.six 5:Nat):Int),.int .u16 ((pc h.six 6:Nat):Int),.int .u16 ((pc h.six 7:Nat):Int)]) w:=λw=>by
  kernel_rfl
 have q0:∀w,(Op.equalIn 9999 3 (.int .i64 h.kind) (.int .i64 h.kind)).run A8 w=.ok true w:=λw=>Abx
 have q2:∀w,(Op.equalIn 9999 28 (.int .u32 (h.four:Int)) (.int .u32 (h.four:Int))).run A8 w=.ok true w:=λw=>by rw[run_equalIn_int w 9998 _ _ _ _ _ underlying28];simp
 have q1:∀w,(Op.equalIn 9999 9 (.string h.name) (.string h.name)).run A8 w=.ok true w:=λw=>Ag0
 simp[Op.eqFields,p0,p1,p2,p3,q0,q1,q2,h6]
def Co:AZ:=(Du [104,116,116,112,115,58,47,47,104,47,97,47,98]).getD EH
def Ax7:(Du [104,116,116,112,115,58,47,47,104,47,97,47,98]).isSome=true:=AX
def Fg:AZ->Bool:=EL [⟨#[104,116,116,112,115]⟩,⟨#[100,97,116,97]⟩] [⟨#[104]⟩,⟨#[46,99,46,100]⟩] [⟨#[105,109,97,103,101,47,112,110,103]⟩]
def goV:E3 Fg 200 2 Co [120,32,49,120,44,47,47,101,32,50,120,44,32,104,116,116,112,115,58,47,47,81,46,67,46,68,47,39,38,97,109,112,59,44,32,100,97,116,97,58,105,109,97,103,101,47,103,105,102,44,97]=⟨3,0,[104,116,116,112,115,58,47,47,104,47,97,47,120,32,49,120,44,32,104,116,116,112,115,58,47,47,113,46,99,46,100,47,38,35,51,57,59,38,97,109,112,59]⟩:=by
 have a:(E3 Fg 200 2 Co [120,32,49,120,44,47,47,101,32,50,120,44,32,104,116,116,112,115,58,47,47,81,46,67,46,68,47,39,38,97,109,112,59,44,32,100,97,116,97,58,105,109,97,103,101,47,103,105,102,44,97]).kind=3:=AX;have h1:(E3 Fg 200 2 Co [120,32,49,120,44,47,47,101,32,50,120,44,32,104,116,116,112,115,58,47,47,81,46,67,46,68,47,39,38,97,109,112,59,44,32,100,97,116,97,58,105,109,97,103,101,47,103,105,102,44,97]).why=0:=AX;have b:(E3 Fg 200 2 Co [120,32,49,120,44,47,47,101,32,50,120,44,32,104,116,116,112,115,58,47,47,81,46,67,46,68,47,39,38,97,109,112,59,44,32,100,97,116,97,58,105,109,97,103,101,47,103,105,102,44,97]).out=[104,116,116,112,115,58,47,47,104,47,97,47,120,32,49,120,44,32,104,116,116,112,115,58,47,47,113,46,99,46,100,47,38,35,51,57,59,38,97,109,112,59]:=AX;generalize E3 Fg 200 2 Co _=v at a h1 b⊢;cases v;simp_all
def goW:(E3 Fg 200 1 Co [106,97,118,97,38,84,97,98,59,115,99,114,105,112,116,58,120]).kind=2/\(E3 Fg 200 1 Co [106,97,118,97,38,84,97,98,59,115,99,114,105,112,116,58,120]).why=4/\(E3 Fg 200 1 Co [106,97,118,97,38,84,97,98,59,115,99,114,105,112,116,58,120]).out=[]:=AX
def Ai0:Du [104,116,116,112,115,58,47,47,104,47,97,47,98]=some Co:=by
 unfold Co;have h:=Ax7;cases e:Du [104,116,116,112,115,58,47,47,104,47,97,47,98]with
 |none=>rw[e]at h;cases h
 |some u=>rfl
theorem Vp:BA Co:=Ain Ai0
def VX:B9 Co<=1000000:=AX
def AvA:List.count 0 ([120,32,49,120,44,47,47,101,32,50,120,44,32,104,116,116,112,115,58,47,47,81,46,67,46,68,47,39,38,97,109,112,59,44,32,100,97,116,97,58,105,109,97,103,101,47,103,105,102,44,97]:A5)=0/\(CZ [120,32,49,120,44,47,47,101,32,50,120,44,32,104,116,116,112,115,58,47,47,81,46,67,46,68,47,39,38,97,109,112,59,44,32,100,97,116,97,58,105,109,97,103,101,47,103,105,102,44,97]).length<=1000/\(HO (CZ [120,32,49,120,44,47,47,101,32,50,120,44,32,104,116,116,112,115,58,47,47,81,46,67,46,68,47,39,38,97,109,112,59,44,32,100,97,116,97,58,105,109,97,103,101,47,103,105,102,44,97])).length<=1000:=AX
def AsU:List.count 0 ([106,97,118,97,38,84,97,98,59,115,99,114,105,112,116,58,120]:A5)=0/\(CZ [106,97,118,97,38,84,97,98,59,115,99,114,105,112,116,58,120]).length<=1000/\(HO (CZ [106,97,118,97,38,84,97,98,59,115,99,114,105,112,116,58,120])).length<=1000:=AX
end Go.Proofs.YtonomfeipkdmhaaGreatDoor
