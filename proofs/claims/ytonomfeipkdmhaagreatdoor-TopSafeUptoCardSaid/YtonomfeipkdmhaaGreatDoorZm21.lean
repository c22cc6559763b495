/- Lemmas. -/
import Derived.Test.YtonomfeipkdmhaaGreatDoorZm18
import Derived.Test.YtonomfeipkdmhaaGreatDoorZm19
set_option linter.all false
set_option maxRecDepth 100000
set_option maxHeartbeats 16000000
namespace Go.Proofs.YtonomfeipkdmhaaGreatDoor
open Go renaming World->A7,Calls->AD,Value->AJ,TypeId->Ab,Ending->Ag
open Go.RowKit renaming Below->AF
open Go.RowKit Go.Proofs.Tryz
open Go.Proofs.Tryz renaming prog->A8
def AbD(c:UInt8)(a:Bool)(w:A7):AD A8 126 #[.int .u8 (c:Int),.bool a] w (AzJ (.bool (B8 a c)) w):=by
 have d:=V9 a c;generalize hN:B8 a c=N at d⊢;rcases d with⟨b,rfl⟩|⟨b,rfl,rfl⟩|⟨b,rfl,f,rfl⟩|⟨b,rfl,f,rfl⟩;all_goals
  go_in;go_wp2;go_ret;exact⟨rfl,rfl⟩
def Pj(s:A9)(n:Nat)(q:n<=2)(a:Bool)(w:A7)(r:s.size<=1000000000):AD A8 68 #[.string s,.int .i64 (n:Int),.bool a] w (AzJ (.bool (decide (n<=C2 a s))) w):=by
 obtain⟨R,d⟩:=AI (decide (n<=C2 a s));rw[d];replace d:=H0 d;go_in;go_wp2;go_loop[7] (λf=>∃k:Nat,f=.int .i64 (k:Int)/\k<=n/\k<=s.size/\Hid (R=decide (n<=k+C2 a (s.toList.drop k)))) (λf=>n-(intOf f).toNat)
 ·exact⟨0,rfl,AR _,AR _,H0 (by rw[C9,Db,d.out])⟩
 obtain⟨k,rfl,m,p,h⟩:=hrel;by_cases j:k<n
 ·by_cases g:k<s.size
  ·have i:(k:Int)<s.size:=A4;have c:=h.out;rw[Aw s k g,C2]at c;have b:=H0 (λw=>AbD s[k] a w);generalize hN:B8 a s[k]=N at c b;have o:IntKind.i64.wrap ((k:Int)+1)=(k:Int)+1:=BI _ A4;cases N with
   |true=>
    rw[AC rfl]at c;have l:=A6 (R=decide (n<=k+1+C2 a (s.toList.drop (k+1)))) (by rw[c];congr 1;apply propext;omega);go_wp2_with(go_call b;refine AH ?_);go_round;exact⟨k+1,AP,A4,A4,l⟩;exact AzF
   |false=>
    rw[AA AE]at c;have hf:=A6 (R=false) (by rw[c,LY];omega);go_wp2_with(go_call b;refine AH ?_);go_ret;exact⟨KY,rfl⟩
  have i:(s.size:Int)<=k:=A4;have hf:=A6 (R=false) (by rw[h.out,CP s k A4,LY];show¬n<=k+0;omega);go_wp2;go_ret;exact⟨KY,rfl⟩
 have hf:=A6 (R=true) (by rw[h.out,JY];omega);go_wp2;go_ret;exact⟨KY,rfl⟩
def AxE(a:Bool)(c:UInt8)(r:A5):HQ a (c::r)=if B8 a c=true then HQ a r else c::r:=by
 unfold HQ;rw[C2];split<;>rfl
def AmJ(s:A9)(a:Bool)(w:A7)(f:s.size<=1000000000):AD A8 70 #[.string s,.bool a] w λe w'=>∃t:A9,e=.returned (.string t)/\Hid (t.toList=HQ a s)/\t.size<=s.size/\w=w':=by
 go_in;go_wp2;go_loop[0] (λv=>∃u:A9,v=.string u/\u.size<=s.size/\Hid (HQ a u.toList=HQ a s)) (λv=>GO v)
 ·exact Uo
 obtain⟨u,rfl,hus,hu⟩:=hrel;by_cases d:0<u.size
 ·have c:=FZ u d;have j2:=hu.out;rw[c,AxE]at j2;have b:=H0 (λw=>AbD u[0] a w);generalize hN:B8 a u[0]=N at j2 b;cases N with
  |true=>
   go_wp2_with(go_call b;refine AH ?_);go_round;exact⟨_,rfl,Bk,j2⟩;simp[GO];omega
  |false=>
   rw[<-c]at j2;go_wp2_with(go_call b;refine AH ?_);exact VM
 have e0:=(EW u).2 A4;have j2:=A6 (u.toList=HQ a s) (by rw[<-hu.out,e0];rfl);go_wp2;exact VM
def AeK(sch s:A9)(w:A7)(i:s.size<=1100000):AD A8 121 #[.string sch,.string s] w (NL (FT sch s) w):=by
 have a:=H0 (λw=>QA sch w);have c:=H0 (λw=>Pj s 1 AE (Ar sch) w A4);have b:=MZ (Ar sch) s.toList;rw[AK]at b;obtain⟨R,d⟩:=AI (FT sch s);rw[d];have hv:=d.symm;unfold FT at hv;generalize hn:C2 (Ar sch) s.toList=n at b c hv;generalize hSP:Ar sch.toList=SP at a c;by_cases f:0<n
 ·rw[AC f]at hv;have j:(s.extract 1 s.size).toList=s.toList.drop 1:=by rw[toList_extract,Bc Dy]
  rw[<-j]at hv;have g:=H0 (λw=>UU sch none 0 0 [] (s.extract 1 s.size) w (I2 w) AE (AG _) Bk (λt h=>C5));go_in;go_wp2_with(first|(go_call a;refine AH ?_)|(go_call c;refine AH ?_));go_call g as e w1⟨v,l,rfl,hl,ho,hb⟩;exact SR
 rw[AA f]at hv;go_in;go_wp2_with(first|(go_call a;refine AH ?_)|(go_call c;refine AH ?_));go_call(λw=>UU sch none 0 0 [] s w (I2 w) AE (AG _) i (λt h=>C5)) as e w1⟨v,l,rfl,hl,ho,hb⟩;exact SR
def Ih(S:AT)(a:Bool)(q:A9)(b:Bool)(f:A9):AT:=⟨S.scheme,S.user,S.pass,S.host,S.hasPort,S.port,S.flatP,S.flat,S.pathA,S.pathC,S.path,a,q,b,f⟩
def Alb(S:AT)(p:Ev)(w:A7)(e:Ag)(w':A7):Prop:=∃q f:A9,e=.returned (.agg (AB (Ih S p.hq q p.hf f)))/\Hid (q.toList=Ai (FU S.scheme.toList) p.qry.toList)/\Hid (f.toList=Ai 1 p.frg.toList)/\AF w w w'
variable{w wx:A7}{S:AT}
def Fy.fr0{B:Array AJ}{c:Ab}(h:Fy w wx (AB S) 34 B c):BT w wx (w.heap.size+1) B c (w.heap.size+1) B c (w.heap.size+2) w.heap.size S:=
 ⟨A4,A4,A4,AG _,A4,h.below,h.b,h.b,h.r,h.a⟩
def Aps(S:AT)(p:Ev)(w:A7)(F:p.qry.size<=4294967296)(hf:p.frg.size<=4294967296):AD A8 66 #[.agg (AB S),.agg (Ad p)] w (Alb S p w):=by
 have c:=(Fy.start w (AB S) 34 (Ad p) 72).fr0;have h:=H0 (λw=>QA S.scheme w);have i:FU S.scheme.toList=if Ar S.scheme.toList=true then 3 else 2:=rfl;unfold Alb;generalize hSP:Ar S.scheme.toList=SP at i h;generalize hk:FU S.scheme.toList=k at i⊢;change Hid _ at hk hSP;go_in;go_upto_region 1 with(fail);refine As (R:=λwx=>BT w wx (w.heap.size+1) (Ad p) 72 (w.heap.size+1) (Ad p) 72 (w.heap.size+2) w.heap.size S) c ?_;clear c;intro z c;obtain⟨r,s⟩:=AI (w.heap.size+2);obtain⟨b,d⟩:=AI (w.heap.size+1);rw[s,d]at c⊢;obtain⟨K,t⟩:=AI (w);obtain⟨g,x⟩:=AI (w.heap.size);replace c:=A6 (BT w z b (Ad p) 72 b (Ad p) 72 r g S) (x▸c);rw[x]at s d⊢;clear s d;replace t:=H0 t;have D:_=some (Value.string S.scheme):=c.out.g.at 0;go_upto_if 8 with(go_at_call 67;go_call h;refine AH ?_);clear D;go_cut[5] (λC wx=>C=.int .i64 (k:Int)/\k<6/\Hid (BT w wx b (Ad p) 72 b (Ad p) 72 r g S))
 ·cases SP with
  |true=>
   have o:=i;subst o;go_wp2;go_meet;grind
  |false=>
   have n:=i;subst n;go_wp2;go_meet;grind
 clear c i h;have⟨rfl,hk6,c⟩:=hcut;have c:=c.out;have A:_=some (Value.bool p.hq):=c.a.at 3;have l:=c.set (Ih S p.hq S.query S.hasFrag S.frag);have B:_=some (Value.string p.qry):=l.a.at 4;go_wp2_with(refine BN c.g 19 (AB (Ih S p.hq S.query S.hasFrag S.frag)) ?_);go_call Ms as e w2⟨q,rfl,hqv,d⟩;have v:=l.keep d;have m:=v.set (Ih S p.hq q S.hasFrag S.frag);have E:_=some (Value.bool p.hf):=m.a.at 5;have u:=m.set (Ih S p.hq q p.hf S.frag);have G:_=some (Value.string p.frg):=u.a.at 6;clear A B d c l;go_wp2_with(first|(refine BN v.g 20 (AB (Ih S p.hq q S.hasFrag S.frag)) ?_)|(refine BN m.g 21 (AB (Ih S p.hq q p.hf S.frag)) ?_));go_call Ms as e w3⟨f,rfl,hfv,d⟩;have y:=u.keep d;have j:=y.set (Ih S p.hq q p.hf f);go_wp2_with(first|(refine BN y.g 22 (AB (Ih S p.hq q p.hf f)) ?_)|(refine At j.g ?_)|(refine Ax j.r (AB (Ih S p.hq q p.hf f)) ?_));refine Hp rfl rfl rfl (j.r.set _) (Bj _) ?_;have H:=Au j.below j.rw (AB (Ih S p.hq q p.hf f));grind
def Tw{o:Option AZ}{u:AZ}{r K:Nat}(h:o=some u)(hu:CS wx K S u)(a:r<K)(d:w.heap.size<=K)(c:w.heap.size<=r)(b:AF w w wx):Ip o w (.returned (.tuple #[.agg (AB S),.bool true])) (wx.setRow r (AB S)):=
 Aa6 h (hu.row a d _) (Au b c _)
def AbI(S:AT)(u:AZ)(s:A9)(w:A7)(hi:Bu S u)(h0:S.pathA=none)(h1:S.pathC=0)(h2:S.path=[])(P:s.size<=1100000):AD A8 69 #[.agg (AB S),.string s] w (Ip (FC u s) w):=by
 obtain⟨R,W⟩:=AI (FC u s);rw[W];have m:=W.symm;unfold FC at m;replace W:=H0 W;have t:=H0 (λw=>QA S.scheme w);have I:=H0 (λsp w=>Ae5 s sp w A4);have bR:=Qt (Ar u.scheme) s.toList;have Y:=H0 (λ(x:A9)w P=>Aop S.scheme x w P);have j8:=H0 (λ(x:A9)w P=>AeK S.scheme x w P);rw[hi.scheme]at t Y j8;generalize hSP:Ar u.scheme=SP at t bR m;generalize hC:D5 SP s.toList=C at bR m;rw[AK]at bR;generalize hO:Gn u.scheme C.1=O at m;change Hid _ at m hSP hC hO;have nM:=H0 hi;change Hid _ at h0 h1 h2;clear hi;have d:=Cu.start w (AB S) 34 (AB zS) 34;go_in;go_upto_region 1 with(fail);refine As (R:=λwx=>Cu w wx (AB S) 34 (AB zS) 34) d ?_;clear d;intro w1 d;have z:_=some (Value.string S.scheme):=d.a.at 0;go_upto_region 2 with(go_at_call 67;refine(t.out _).mono (AH ?_));clear z;go_wp2_with fail;refine(I.out SP _).mono ?_;rintro e w2⟨a,b,rfl,ha,Z,k⟩;rw[hC.out]at ha Z;have wA:a.size<=1100000:=by rw[<-AK,ha.out];omega
 have eD:b.size<=1100000:=by rw[<-AK,Z.out];omega
 have d:=d.keep k;have z:_=some (Value.string S.scheme):=d.a.at 0;have E:=Y.out a w2 wA;rw[ha.out,hO.out]at E;replace E:=H0 E;clear Y I k;go_wp2_with fail;clear z;refine E.out.mono ?_;rintro e y⟨f,i,rfl,H,G,L⟩;have d:=d.keep L;have hl:=d.b.lt;have T:=d.below.size;clear L E;cases O with
 |none=>
  have hf:=A6 (R=none) m;have n:=d.keep ((AU _ _).alloc (AG _) (.cells (JJ f i OF) 141));replace d:=H0 d;go_wp2_with(first|(refine Cw (JJ f i OF) ?_ (h1:=(Abp _ _ _ _ _)))|(refine OE (AB zS) ?_ (hf:=PJ))|(refine Ax n.b (AB zS) ?_ (h1:=(EO _))));refine G8 rfl rfl rfl rfl (n.b.set _) (Bj _) ?_;exact Rk hf (Au n.below A4 _)
 |some A=>
  have hf:=A6 (R=some (Kt u A C.2)) m;clear m;obtain⟨h,M⟩:=AI (AW A.host);obtain⟨j,Q⟩:=AI (A.port.isSome);obtain⟨p,V⟩:=AI (Kr A.port);have F:JJ f i A=(Ao f i h j p):=by rw[<-M,<-Q,<-V];rfl
  rw[show JJ f i ((some A).getD OF)=(Ao f i h j p)from F];change Hid _ at M Q V F;have hF:BT w (y.alloc (.cells (Ao f i h j p) 141)) y.heap.size (Ao f i h j p) 141 y.heap.size (Ao f i h j p) 141 (w.heap.size+1) w.heap.size S:=
   ⟨A4,A4,A4,AG _,A4,d.below.alloc A4 _,AM.new _ _ _,AM.new _ _ _,d.b.alloc _,d.a.alloc _⟩
  clear d;go_upto_region 6 with(refine Cw (Ao f i h j p) ?_);refine As (R:=λwx=>BT w wx y (Ao f i h j p) 141 y.heap.size (Ao f i h j p) 141 (w.heap.size+1) w.heap.size S) hF ?_;clear hF;intro w4 d;obtain⟨q,X⟩:=AI (y.heap.size);obtain⟨r,U⟩:=AI (w.heap.size+1);obtain⟨g,N⟩:=AI (w.heap.size);replace d:BT w w4 q (Ao f i h j p) 141 q (Ao f i h j p) 141 r g S:=N▸U▸X▸d;rw[X,U,N];rw[U]at hl;replace N:=H0 N;clear X U T;have z0:_=some (Value.string f):=d.a.at 0;go_upto_region 7 with(refine BN d.g 1 (AB {S with user:=f}) ?_);clear z0;refine As (R:=λwx=>BT w wx q (Ao f i h j p) 141 q (Ao f i h j p) 141 r g {S with user:=f}) (d.set {S with user:=f}) ?_;clear d;intro w5 d;have z0:_=some (Value.string i):=d.a.at 1;go_upto_region 8 with(refine BN d.g 2 (AB {S with user:=f,pass:=i}) ?_);clear z0;refine As (R:=λwx=>BT w wx q (Ao f i h j p) 141 q (Ao f i h j p) 141 r g {S with user:=f,pass:=i}) (d.set {S with user:=f,pass:=i}) ?_;clear d;intro w6 d;go_upto_region 9 with(first|(refine wpList_load_mid BE 32 _ rfl q 2 rfl (AV h).toList _ d.a.hostA underlying32 rfl (Tu _) ?_)|(refine MD d.g 3 (AV h) (AB {S with user:=f,pass:=i,host:=h}) ?_));refine As (R:=λwx=>BT w wx q (Ao f i h j p) 141 q (Ao f i h j p) 141 r g {S with user:=f,pass:=i,host:=h}) (d.set {S with user:=f,pass:=i,host:=h}) ?_;clear d;intro w7 d;have z0:_=some (Value.bool j):=d.a.at 13;go_upto_region 10 with(refine BN d.g 14 (AB {S with user:=f,pass:=i,host:=h,hasPort:=j}) ?_);clear z0;refine As (R:=λwx=>BT w wx q (Ao f i h j p) 141 q (Ao f i h j p) 141 r g {S with user:=f,pass:=i,host:=h,hasPort:=j}) (d.set {S with user:=f,pass:=i,host:=h,hasPort:=j}) ?_;clear d;intro w8 d;have z0:_=some (Value.int .i64 p):=d.a.at 14;go_upto_region 11 with(refine BN d.g 15 (AB (Iv S f i h j p)) ?_);clear z0;refine As (R:=λwx=>BT w wx q (Ao f i h j p) 141 q (Ao f i h j p) 141 r g (Iv S f i h j p)) (d.set (Iv S f i h j p)) ?_;clear d;intro w9 d;have z:_=some (Value.string S.scheme):=d.g.at 0;have D:=Z.out;have T:=d.below.size;by_cases J:(SP|| !b.toList.isEmpty)=true
  ·have o:(Ar u.scheme|| !C.2.isEmpty)=true:=by rw[hSP.out,<-D];exact J
   replace o:=H0 o;have bC:SP=true\/(SP=false/\b.toList.isEmpty=false):=by
    cases SP
    ·grind
    simp
   change Hid _ at J D;rcases bC with rfl|⟨rfl,hbe⟩;all_goals
    go_wp2_with fail;refine(j8.out b _ eD).mono ?_;rintro e w10⟨v,l,rfl,hl2,ho,K⟩;have hg4:=d.g.lt;have fM:=d.r.lt;have d:=d.keep K;obtain⟨pa,c,rfl,hlc,-⟩:=Ec ho;have n:=d.set (AY (Iv S f i h j p) pa c l);clear z K;go_wp2_with(first|(refine BN d.g 18 (AB (AY (Iv S f i h j p) pa c l)) ?_)|(refine At n.g ?_)|(refine Ax n.r (AB (AY (Iv S f i h j p) pa c l)) ?_));refine G8 rfl rfl rfl rfl (n.r.set _) (Bj _) ?_;have hx:=Acj (a:=A) nM H G o (pa:=pa) (c:=c) (l:=l) (by rw[hl2.out,D.out]);rw[M.out,Q.out,V.out]at hx;exact Tw hf (CS.row (B:=w9.heap.size) ⟨hx,ho⟩ hg4 (AG _) _) fM T d.rw n.below
  have o:(Ar u.scheme|| !C.2.isEmpty)=false:=by rw[hSP.out,<-D];simpa using J
  replace o:=H0 o;have bC:SP=false/\b.toList.isEmpty=true:=by
   cases SP
   ·grind
   grind
  replace J:=H0 J;obtain⟨rfl,hbe⟩:=bC;replace D:=H0 D;clear z;go_wp2_with(first|(refine At d.g ?_)|(refine Ax d.r (AB (Iv S f i h j p)) ?_ (h1:=(EO _))));refine G8 rfl rfl rfl rfl (d.r.set _) (Bj _) ?_;have hx:=Ah5 (a:=A) nM H G o;rw[M.out,Q.out,V.out]at hx;exact Tw hf (CS.mono (Ra hx h0 h1 h2) (AG _)) d.r.lt T d.rw d.below
def Anb(w:A7)(B S:AT)(C:Array AJ)(T:Ab):BT w ((((w.alloc (.cells (AB B) 34)).alloc (.cells (AB S) 34)).alloc (.cells C T)).alloc (.cells (AB zS) 34)) w.heap.size (AB B) 34 (w.heap.size+2) C T (w.heap.size+3) (w.heap.size+1) S:=by
 have h:=Cu.start w (AB B) 34 (AB S) 34;have hc:=AM.new ((w.alloc (.cells (AB B) 34)).alloc (.cells (AB S) 34)) C T;have c:=AM.new (((w.alloc (.cells (AB B) 34)).alloc (.cells (AB S) 34)).alloc (.cells C T)) (AB zS) 34;simp only[DB]at hc c;exact⟨A4,A4,A4,A4,A4,(h.below.alloc (by simp only[DB];omega) _).alloc (by simp only[DB];omega) _,(h.a.alloc _).alloc _,hc.alloc _,c,(h.b.alloc _).alloc _⟩
def AnS(p:F9):I5 EH p=if 2<=C2 true p.rest then Il (FQ (BZ Av p) .empty) (p.rest.drop 2)else some (FN (FQ (BZ Av p) .empty) (DE Av [] (if 1<=C2 true p.rest then p.rest.drop 1 else p.rest))):=by
 unfold I5;rw[show(EH.scheme==Av)=false from rfl];simp[ON,RQ,if_false];by_cases a:2<=C2 true p.rest
 ·rw[AC a,AC a]
 rw[AA a,AA a];by_cases h1:C2 true p.rest=1
 ·rw[AC h1,AC A4]
 rw[AA h1,AA A4]
def AxJ:A8.built 32 [(0,.int .i64 1)]=some (AV (AW .empty)):=AO
def AuV(B:AT)(is:Bool)(S:AT)(p:Ev)(w:A7)(hi:Bu S (BZ Av p.l))(gJ:p.rest.size<=1100000)(hc:is=false\/2<=C2 true p.rest.toList):AD A8 65 #[.agg (AB B),.bool is,.agg (AB S),.agg (Ad p)] w (Ip (I5 EH p.l) w):=by
 have m:=AnS p.l;generalize hR:I5 EH p.l=R at m⊢;replace hR:=H0 hR;rw[show p.l.rest=p.rest.toList from rfl]at m;generalize hse:p.rest=s at m gJ hc;have rM:=TE hi .empty;obtain⟨u,hu⟩:∃u,FQ (BZ Av p.l) .empty=u:=⟨_,rfl⟩;have hus:=A6 (u.scheme=Av) (by rw[<-hu];rfl);rw[hu]at m rM;generalize hV:G2 S (AW .empty)=V at rM;replace hu:=H0 hu;have z:=H0 (λw=>Pj s 2 AE true w A4);have F:=H0 (λw=>Pj s 1 AE true w A4);have X:=MZ true s;rw[AK]at X;generalize hn:C2 true s.toList=n at m X z F hc;have tF:=H0 (λ(x:A9)w hx=>UU Dp none 0 0 [] x w (I2 w) AE (AG _) hx (λt h=>C5));have H:=H0 (λ(x:A9)w hx=>AeK Dp x w hx);rw[LL]at tF H;have hI:=Anb w B S (Ad p) 72;replace hi:=H0 rM;clear rM;change Hid _ at hn m;go_in;go_upto_region 1 with(fail);refine As (R:=λwx=>BT w wx w (AB B) 34 (w.heap.size+2) (Ad p) 72 (w.heap.size+3) (w.heap.size+1) S) hI ?_;clear hI;intro w1 hI;obtain⟨r,hr⟩:=AI (w.heap.size+3);obtain⟨b,hb⟩:=AI (w.heap.size+2);obtain⟨g,hg⟩:=AI (w.heap.size+1);obtain⟨a,ha⟩:=AI (w.heap.size);replace hI:BT w w1 a (AB B) 34 b (Ad p) 72 r g S:=ha▸hg▸hb▸hr▸hI;rw[hr,hb,hg,ha];clear hr hb hg ha;have y2:=(hI.b.at 2).trans (show(Ad p)[2]?=some (.string s)by rw[<-hse];rfl);have aO:=hI.set (G2 S (AW .empty));rw[hV]at aO;go_upto_region 3 with(first|(refine OE (AV (AW .empty)) ?_ (hf:=AxJ))|(refine MD hI.g 3 (AV (AW .empty)) (AB (G2 S (AW .empty))) ?_));refine As (R:=λwx=>BT w wx a (AB B) 34 b (Ad p) 72 r g (V)) (hV▸aO) ?_;clear hI aO y2;intro w2 hI;change Hid _ at hse hV;by_cases j:2<=n
 ·have hf:=m.out.trans (AC j);rw[Bx j]at z;have h2r:2<=(s.size:Int):=A4;have T:(s.extract 2 s.size).size<=1100000:=Bk;have M:(s.extract 2 s.size).toList=s.toList.drop 2:=by rw[toList_extract,Bc Dy]
  rw[<-M]at hf;replace M:=H0 M;generalize hx:s.extract 2 s.size=x at T hf;unfold Il at hf;have I:=H0 (λw=>Ae5 x true w A4);have bR:=Qt true x;generalize hC:D5 true x.toList=C at bR hf I;rw[AK]at bR;rw[hus.out]at hf;change Hid _ at hf hC;clear m F hc;go_upto_region 4 with(go_at_call 68;refine(z.out _).mono (AH ?_));clear z;go_wp2_with fail;refine(I.out _).mono ?_;rintro e w3⟨nm,rs,rfl,y,oJ,Z⟩;have hI:=hI.keep Z;have pH:nm.size<=1100000:=by rw[<-AK,y.out];omega
  have U:rs.size<=1100000:=by rw[<-AK,oJ.out];omega
  have aL:=H0 (λw=>X8 nm w A4);rw[y.out]at aL;obtain⟨D,hD⟩:=AI (E6 C.1);have d:=hf.out;rw[hD]at aL d;replace hD:=H0 hD;clear Z I;cases D with
  |true=>
   have hf:=A6 (R=some (FN u (DE Av [] x.toList))) (d.trans (AC rfl));replace d:=H0 d;go_upto_region 6 with(go_at_call 118;refine(aL.out _).mono (AH ?_));go_wp2_with fail;refine(tF.out x _ T).mono ?_;rintro e w6⟨v,l,rfl,hl,ho,hb6⟩;have zJ:=hI.g.lt;have sJ:=hI.r.lt;have vJ:=hI.below.size;have aO:=hI.keep hb6;obtain⟨pa,c,rfl,hlc,-⟩:=Ec ho;have dB:=aO.set (AY (V) pa c l);have hO:=H0 (CS.row (K:=_) ⟨Iu (hi) (L:=_) (hl),ho⟩ zJ (AG _) (AB (AY (V) pa c l)));clear hb6 hI ho;go_wp2_with(first|(refine BN aO.g 18 (AB (AY (V) pa c l)) ?_)|(refine At dB.g ?_)|(refine Ax dB.r (AB (AY (V) pa c l)) ?_ (h1:=(EO _))));exact ZZ
  |false=>
   rw[AA AE]at d;have kR:=H0 (λw=>Ak5 nm true w pH);rw[y.out]at kR;obtain⟨NE,J⟩:=AI (nm.toList.isEmpty);have A:(NE=true->C.1=[])/\(NE=false->C.1≠[]):=by
    rw[<-J,y.out];cases C.1 with
    |nil=>simp|cons a b=>simp
   replace A:=H0 A;have gT:=H0 d;clear d;go_upto_if 37 with(go_at_call 118;refine(aL.out _).mono (AH ?_));replace J:=H0 J;go_cut[12] (λs12 wx=>∃(E:AT)(u2:AZ),s12=.string rs/\Hid (Bu E u2)/\Hid (R=some (FN u2 (FT Av rs)))/\BT w wx a (AB B) 34 b (Ad p) 72 r g (E))
   ·cases NE with
    |true=>
     have i:=A.out.1 rfl;have d:=gT.out.trans (AC i);have hf:=A6 (R=some (FN u (FT Av rs))) (d.trans (by rw[oJ.out]));change Hid _ at d i;go_wp21;go_meet;grind
    |false=>
     have i:=A.out.2 rfl;have d:=gT.out.trans (AA i);replace i:=H0 i;generalize hO:ET C.1 true=O at d kR;change Hid _ at hO d;go_wp2_with fail;refine(kR.out _).mono ?_;intro e w4 hh;obtain⟨f,hHH,rfl,W⟩:=Yg hh;have g9:=hI.keep W;have Q:=g9.keep ((AU _ _).alloc (AG _) (.cells (AV f) 32));have P:=AM.new w4 (AV f) 32;clear hh W hI g9 kR;obtain⟨q,hq⟩:=AI (w4.heap.size);replace hq:=H0 hq;cases O with
     |none=>
      have hf:=A6 (R=none) d;go_wp2_with(first|(refine Cw (AV f) ?_)|(refine OE (AB zS) ?_ (hf:=PJ))|(refine Ax Q.r (AB (zS)) ?_));refine G8 rfl rfl rfl rfl (Q.r.set _) (Bj _) ?_;exact Rk hf (Au Q.below Q.rw _)
     |some h=>
      have hf:=A6 (R=some (FN (if h=.name GQ then u else FQ u h) (FT Av rs))) (d.out.trans (by rw[oJ.out]));rw[hq.out]at P;have bP:=Ah4 h;have Y:=H0 (TE hi h);rw[<-show f=AW h from hHH.out]at bP Y;generalize hk:f.kind=k at bP;go_upto_region 12 with(refine Cw (AV f) ?_ (h1:=(UA _)));rw[hq.out];refine As (R:=λwx=>BT w wx a (AB B) 34 b (Ad p) 72 r g (V)/\AM wx q (AV f) 32) ⟨Q,P⟩ ?_;clear Q P d;rintro w5⟨hI,N⟩;have y0:=(N.at 0).trans (show(AV f)[0]?=some (.int .i64 k)by rw[<-hk];rfl);have y1:_=some (Value.string f.name):=N.at 1;replace hk:=H0 hk;rw[show GQ=[108,111,99,97,108,104,111,115,116]from rfl]at bP;rcases bP with⟨G,rfl,nm1⟩|⟨G,rfl,nm1⟩|⟨G,kk⟩
      ·have hf:=H0 (hf.out.trans (by rw[show(Cb.name GQ)=Cb.name [108,111,99,97,108,104,111,115,116]from rfl,AC G]));replace G:=H0 G;go_wp2;go_meet;exact⟨V,u,rfl,hi,hf,hI⟩
      all_goals
       have hf:=H0 (hf.out.trans (by rw[show(Cb.name GQ)=Cb.name [108,111,99,97,108,104,111,115,116]from rfl,AA G]));replace G:=H0 G;try(have kk2:(k !=2)=true:=by rw[bne,kk];rfl)
       go_wp2_with(first|(refine Cg rfl 32 _ rfl q rfl _ (AV f) _ _ N underlying32 rfl OX ?_)|(refine Sr rfl _ _ _ rfl g 3 rfl (.agg (AV f)) rfl (AV f) rfl _ (AB V) (AB (G2 V f)) hI.g OX (by show 3+11<=23;decide) (UA _) AO ?_));go_meet;exact⟨G2 V f,FQ u h,rfl,Y,hf,hI.set _⟩
   clear hI hi;obtain⟨E,u2,rfl,hi,hf,hI⟩:=hcut;go_wp2_with fail;refine(H.out rs _ U).mono ?_;rintro e w6⟨v,l,rfl,hl,ho,hb6⟩;have zJ:=hI.g.lt;have sJ:=hI.r.lt;have vJ:=hI.below.size;have aO:=hI.keep hb6;obtain⟨pa,c,rfl,hlc,-⟩:=Ec ho;have dB:=aO.set (AY (E) pa c l);have hO:=H0 (CS.row (K:=_) ⟨Iu (hi) (L:=_) (hl),ho⟩ zJ (AG _) (AB (AY (E) pa c l)));clear hb6 hI ho;go_wp2_with(first|(refine LF rfl _ _ _ rfl g 18 rfl (.slice pa l.length c) rfl rfl _ (AB (E)) (AB (AY (E) pa c l)) aO.g Xk WW rfl AO ?_)|(refine Cg rfl 34 _ rfl g rfl _ (AB (AY (E) pa c l)) _ _ dB.g underlying34 rfl (Bj _) ?_)|(refine Fb rfl 34 _ _ rfl r (AB (AY (E) pa c l)) rfl rfl 34 _ dB.r (Bj _) rfl (EO _) ?_));exact ZZ
 have hc2:is=false:=hc.elim id (λh=>absurd h j);subst hc2;have hf:=m.out.trans (AA j);rw[BO j]at z;clear m hc;by_cases o:1<=n
 ·rw[AC o]at hf;rw[Bx o]at F;have h1r:1<=(s.size:Int):=A4;have hx1:(s.extract 1 s.size).size<=1100000:=Bk;have M:(s.extract 1 s.size).toList=s.toList.drop 1:=by rw[toList_extract,Bc Dy]
  rw[<-M]at hf;replace M:=H0 M;obtain⟨x,hx⟩:=AI (s.extract 1 s.size);rw[hx]at hx1 hf;replace hf:=H0 hf;go_upto_region 16 with(go_at_call 68;refine(z.out _).mono (AH ?_));go_upto_region 19 with(go_at_call 68;refine(F.out _).mono (AH ?_));clear F z;go_wp2_with fail;refine(tF.out x _ hx1).mono ?_;exact Aeu
 rw[AA o]at hf;rw[BO o]at F;replace hf:=H0 hf;go_upto_region 16 with(go_at_call 68;refine(z.out _).mono (AH ?_));go_upto_region 24 with(go_at_call 68;refine(F.out _).mono (AH ?_));clear F z;go_wp2_with fail;refine(tF.out s _ gJ).mono ?_;exact Aeu
def SA{O R:Option AZ}{a:AT}{r K:Nat}(hf:R=O)(hu:CS wx K a (O.getD EH))(b:r<K)(c:w.heap.size<=K)(e:w.heap.size<=r)(d:AF w w wx):Ip R w (.returned (.tuple #[.agg (AB a),.bool O.isSome])) (wx.setRow r (AB a)):=by
 subst hf;exact⟨a,rfl,hu.row b c _,Au d e _⟩
def AsW{sch:A5}{a:F9}{t:A9}{l:A5}(h:Bu S (BZ sch a))(b:t.toList=l):Bu (DP S true t) ⟨(BZ sch a).scheme,[],[],.none,none,true,l,[],(BZ sch a).query,(BZ sch a).frag⟩:=
 ⟨h.scheme,h.user,h.pass,h.host,h.hasPort,h.port,rfl,b,h.path,h.hasQuery,h.query,h.hasFrag,h.frag⟩
def Aaz(l:A5):decide (1<=C2 false l)=Lib.hasPrefix l [47]/\decide (2<=C2 false l)=Lib.hasPrefix l [47,47]:=by
 unfold Lib.hasPrefix
 match l with
 |[]=>exact⟨rfl,rfl⟩
 |[c]=>
  simp[C2,B8,List.isPrefixOf];by_cases h:c=47
  ·simp_all
  have a:(47:UInt8)≠c:=λe=>h e.symm;simp[h,a]
 |c::d::r=>
  simp[C2,B8,List.isPrefixOf];by_cases h:c=47
  ·subst h;by_cases b:d=47
   ·subst b;simp
   have a:(47:UInt8)≠d:=λe=>b e.symm;simp[b,a]
  have a:(47:UInt8)≠c:=λe=>h e.symm;simp[h,a]
def Apt:∀n:UInt8,(Dd 0 n).getLast?.map (· ==32)=some (n==32):=DZ AX
def AtI(b:Bool)(l:A5)(c:UInt8):Gk b (Ai 0 (l++[c]))=if(b&&c==32)=true then Ai 0 l++[37,50,48]else Ai 0 (l++[c]):=by
 have h1:Lib.hasSuffix (Ai 0 (l++[c])) [32]=(c==32):=by
  have h:=Apt c;rw[ZP,Rb,PK];cases hg:(Dd 0 c).getLast? with
  |none=>grind
  |some x=>
   grind
 unfold Gk;rw[h1];by_cases h:(b&&c==32)=true
 ·obtain rfl:c=32:=by
   grind
  rw[Rb,show Dd 0 32=[32]from rfl,RF]
 grind
def AnZ(b:Bool):Gk b (Ai 0 [])=[]:=by cases b<;>rfl
def At2(s:A9)(h:0<s.size):s.toList=(s.extract 0 (s.size-1)).toList++[s[s.size-1]]:=by
 have h1:=Aw s (s.size-1) A4;rw[CP s (s.size-1+1) A4]at h1;have a:=F7 (s.size-1) s.toList;rw[h1]at a;rw[toList_extract];exact a.symm
def ApD(S:AT)(p:Ev)(w:A7)(hi:Bu S (BZ p.sch.toList p.l))(Q:S.pathA=none)(h1:S.pathC=0)(h2:S.path=[])(hs:S.scheme=p.sch)(ok:Mk p):AD A8 71 #[.agg (AB S),.agg (Ad p)] w (Ip (Hu p.l) w):=by
 obtain⟨R,hR⟩:=AI (Hu p.l);rw[hR];have y:=hR.symm;unfold Hu at y;dsimp only at y;replace hR:=H0 hR;have d:=(Fy.start w (AB S) 34 (Ad p) 72).fr0;have gJ:=ok.rz;rw[show p.l.rest=p.rest.toList from rfl,show p.l.hq=p.hq from rfl,show p.l.hf=p.hf from rfl,<-(Aaz p.rest.toList).2,<-(Aaz p.rest.toList).1]at y;generalize m:p.rest=s at y gJ;have C:=H0 (λw=>Pj s 2 AE false w A4);have G:=H0 (λw=>Pj s 1 AE false w A4);have V:=MZ false s;rw[AK]at V;generalize hn:C2 false s.toList=n at y V C G;have nM:=H0 hi;change Hid _ at Q h1 h2 hs hn y;clear hi ok;go_in;go_upto_region 1 with(fail);refine As (R:=λwx=>BT w wx (w.heap.size+1) (Ad p) 72 (w.heap.size+1) (Ad p) 72 (w.heap.size+2) w.heap.size S) d ?_;clear d;intro w1 d;obtain⟨r,hr⟩:=AI (w.heap.size+2);obtain⟨b,hb⟩:=AI (w.heap.size+1);obtain⟨g,hg⟩:=AI (w.heap.size);replace d:BT w w1 b (Ad p) 72 b (Ad p) 72 r g S:=hg▸hb▸hr▸d;rw[hr,hb,hg];clear hr hb hg;have y2:=(d.a.at 2).trans (show(Ad p)[2]?=some (.string s)by rw[<-m];rfl);replace m:=H0 m;by_cases F:2<=n
 ·have hf:=H0 (y.out.trans (AC (Bx F)));rw[Bx F]at C;have h2r:2<=(s.size:Int):=A4;have hx2:(s.extract 2 s.size).size<=1100000:=Bk;have d9:=A6 ((s.extract 2 s.size).toList=s.toList.drop 2) ME;have lV:=H0 (λx w hx=>AbI S _ x w nM Q h1 h2 hx);obtain⟨O,H⟩:∃O,FC (BZ p.sch.toList p.l) (s.extract 2 s.size).toList=O:=⟨_,rfl⟩;replace hf:=A6 (R=O) (by rw[hf.out,<-H,d9.out];rfl);replace H:=H0 H;clear y G;go_upto_region 3 with(go_at_call 68;refine(C.out _).mono (AH ?_));clear y2 C;have d:=d.drew;refine rds (λw'=>AM w' g (AB S) 34) d.g λj=> ?_;refine tkm 0 (λw hS=>hS.whole) ?_;refine JW 1 13 ?_ j ?_ ?_;rotate_left
  ·exact G3
  refine JW 2 14 ?_ j ?_ ?_;rotate_left
  ·exact G3
  refine rdk 3 λK P=> ?_;go_simp;go_call(lV.out _ _ hx2) as e w4⟨S4,rfl,jM,z⟩;have fM:=d.r.lt;have cK:=d.below.size;have d:=d.keep z;rw[H.out]at jM⊢;replace jM:=H0 jM;clear z j;go_wp2_with fail;refine P.out _ _ (d.g) (λj=> ?_);clear P K;refine JW 4 16 ?_ j ?_ ?_;rotate_left
  ·exact G3
  refine JW 5 17 ?_ j ?_ ?_;rotate_left
  ·exact G3
  refine rdy 6 ?_;refine Ax d.r (AB (S4)) ?_ (h1:=(EO _));refine rde (d.g.other (Jb d.rg) _) λj=> ?_;refine JW 7 5 ?_ j ?_ ?_;rotate_left
  ·exact G3
  refine rdn ?_;go_wp2_with fail;refine G8 rfl rfl rfl rfl (d.r.set _) (Bj _) ?_;exact SA hf jM fM cK d.rw d.below
 by_cases I:1<=n
 ·have hf:=H0 ((y.out.trans (AA AS)).trans (AC (Bx I)));rw[BO F]at C;rw[Bx I]at G;have h1r:1<=(s.size:Int):=A4;have hx1:(s.extract 1 s.size).size<=1100000:=Bk;have d9:=A6 ((s.extract 1 s.size).toList=s.toList.drop 1) ME;clear y;go_upto_region 4 with(go_at_call 68;refine(C.out _).mono (AH ?_));go_upto_region 5 with(go_at_call 68;refine(G.out _).mono (AH ?_));clear y2 C G;have d:=d.drew;refine rds (λw'=>w'.cell? ⟨g,0,none⟩=some (.string S.scheme)) ((d.g.at 0).trans rfl) λj=> ?_;refine tq 0 ?_;refine JW 1 21 ?_ j ?_ ?_;rotate_left
  ·exact G3
  refine JW 2 22 ?_ j ?_ ?_;rotate_left
  ·exact G3
  refine JW 3 23 ?_ j ?_ ?_;rotate_left
  ·exact G3
  refine rdk 4 λK P=> ?_;go_simp;refine(UU S.scheme none 0 0 [] (s.extract 1 s.size) _ (I2 _) AE (AG _) hx1 (λt h=>C5)).mono ?_;rintro e w5⟨v,l,rfl,hl,ho,Y⟩;have hg4:=d.g.lt;have fM:=d.r.lt;have cK:=d.below.size;have d:=d.keep Y;obtain⟨pa,c,rfl,hlc,-⟩:=Ec ho;replace ho:=H0 ho;clear Y j;go_wp2_with fail;refine P.out _ _ ((d.g.at 0).trans rfl) (λj=> ?_);clear P K;refine wpAnyH_take (i:=5) (v:= ?_) rfl AO AO AO (λ_ _ _ h=>h) (Or.inl ⟨BE,?_⟩) j ?_;rotate_left
  ·exact G3
  refine rdy 6 ?_;refine BN d.g 18 (AB (AY S pa c l)) ?_ rfl;have d:=d.set (AY S pa c l);refine rde ((d.g.at 0).trans rfl) λj=> ?_;refine rdn ?_;have H:=CS.row (B:=w1.drew.heap.size) (K:=w1.drew.heap.size) ⟨Iu nM (L:=DE p.sch.toList [] (s.toList.drop 1)) (by rw[hl.out,hs.out,d9.out];rfl),ho⟩ hg4 (AG _) (AB (AY S pa c l));replace H:=H0 H;go_wp2_with(first|(refine At d.g ?_)|(refine Ax d.r (AB (AY S pa c l)) ?_ (h1:=(EO _))));refine G8 rfl rfl rfl rfl (d.r.set _) (Bj _) ?_;exact Tw hf H fM cK d.rw d.below
 have N:=(y.out.trans (AA AS)).trans (AA AS);rw[BO F]at C;rw[BO I]at G;replace N:=H0 N;clear y;go_upto_region 4 with(go_at_call 68;refine(C.out _).mono (AH ?_));go_upto_region 7 with(go_at_call 68;refine(G.out _).mono (AH ?_));clear C G y2;have W:=d.set (DP S true S.flat);have gC:=H0 (λ(x:A9)w hz=>Ms x 0 AE w hz);go_wp2_with(refine BN d.g 16 (AB (DP S true S.flat)) ?_);refine(gC.out s _ A4).mono ?_;rintro e w4⟨t,rfl,ht,z⟩;have W:=W.keep z;have aO:=W.set (DP S true t);clear z d;have m:=m.out;have y3:_=some (Value.bool p.hq):=aO.a.at 3;have X:_=some (Value.bool p.hf):=aO.a.at 5;obtain⟨o,M⟩:=AI (p.hq);obtain⟨D,J⟩:=AI (p.hf);rw[M]at y3 N;rw[J]at X N;change Hid _ at M J m;have U:(∃h:0<s.size,((s[s.size-1].toNat:Int)==32)=true/\(o||D)=true/\Hid (Gk (o||D) (Ai 0 s.toList)=Ai 0 (s.extract 0 (s.size-1)).toList++[37,50,48]))\/(Hid (Gk (o||D) (Ai 0 s.toList)=Ai 0 s.toList)/\((s.size:Int)<=0\/∃h:0<s.size,((s[s.size-1].toNat:Int)==32)=false\/((s[s.size-1].toNat:Int)==32)=true/\o=false/\D=false)):=by
  by_cases h:0<s.size
  ·have hl:=At2 s h;have f:=AtI (o||D) (s.extract 0 (s.size-1)).toList s[s.size-1];rw[<-hl]at f;have q:((s[s.size-1].toNat:Int)==32)=(s[s.size-1]==32):=eqI _ 32;cases hc:(s[s.size-1]==32)with
   |false=>rw[hc,Ma]at f;exact .inr ⟨H0 f,.inr ⟨h,.inl (q.trans hc)⟩⟩
   |true=>
    rw[hc,Kj]at f;cases Z:(o||D)with
    |true=>rw[Z]at f;exact .inl ⟨h,q.trans hc,rfl,H0 f⟩
    |false=>
     rw[Z]at f;exact .inr ⟨H0 f,.inr ⟨h,.inr ⟨q.trans hc,AS⟩⟩⟩
  have Q:=(EW s).2 A4;exact .inr ⟨H0 (by rw[Q];exact AnZ _),.inl A4⟩
 have fin:∀(wx:A7)(k:A9),Hid (k.toList=Gk (o||D) (Ai 0 s.toList))->BT w wx b (Ad p) 72 b (Ad p) 72 r g (DP S true k)->Ip R w (.returned (.tuple #[.agg (AB (DP S true k)),.bool true])) (wx.setRow r (AB (DP S true k))):=λwx k E hF=>
  Aa6 (u:=⟨(BZ p.sch.toList p.l).scheme,[],[],.none,none,true,k.toList,[],(BZ p.sch.toList p.l).query,(BZ p.sch.toList p.l).frag⟩) (by rw[N.out,E.out];rfl) (Ra (AsW nM rfl) Q h1 h2) (Au hF.below hF.rw _)
 replace fin:=H0 fin;clear N;go_upto_region 10 with(refine BN W.g 17 (AB (DP S true t)) ?_);refine As (R:=λwx=>BT w wx b (Ad p) 72 b (Ad p) 72 r g (DP S true t)) aO ?_;clear W aO;intro w5 d;have y5':=H0 X;clear y3 X;have y3:=(d.a.at 3).trans (show(Ad p)[3]?=some (.bool o)by rw[<-M.out];rfl);have X:=(d.a.at 5).trans (show(Ad p)[5]?=some (.bool D)by rw[<-J.out];rfl);clear y5';rcases U with⟨hp0,q32,Z,f⟩|⟨f,hw⟩
 ·have bC:o=true\/(o=false/\D=true):=by
   cases o
   ·grind
   simp
  replace Z:=H0 Z;have fL:(s.extract 0 (s.size-1)).size<=1100000:=Bk;have T:0<(s.size:Int):=A4;have hm1:((s.size:Int)-1).toNat=s.size-1:=A4;have hm3:(s.size:Int)-1<(s.size:Int):=A4;have m3:(s.size:Int)-1<=(s.size:Int):=A4;have dZ:IntKind.i64.wrap ((s.size:Int)-1)=(s.size:Int)-1:=BI _ A4;rcases bC with rfl|⟨rfl,rfl⟩;all_goals
   go_wp2_with fail;refine(gC.out (s.extract 0 (s.size-1)) _ A4).mono ?_;rintro e w6⟨k,rfl,E,hb6⟩;have dB:=d.keep hb6;have yL:k.size<=4294967296:=by
    rw[<-AK,E.out];have cZ:=I3 0 (s.extract 0 (s.size-1)).toList;rw[AK]at cZ;omega
   have hcat:¬(9223372036854775807<k.size+3):=A4;clear y3 X hb6 d;have g9:=dB.set (DP S true (k++⟨#[37,50,48]⟩));have A:=H0 ((show(k++⟨#[37,50,48]⟩:A9).toList=Ai 0 (s.extract 0 (s.size-1)).toList++[37,50,48]by rw[toList_append,E.out,show(⟨#[37,50,48]⟩:A9).toList=[37,50,48]from toList_mk _]).trans f.out.symm);go_upto_region 12 with(refine BN dB.g 17 (AB (DP S true (k++⟨#[37,50,48]⟩))) ?_);generalize h3:k++⟨#[37,50,48]⟩=t3 at g9 A⊢;refine As (R:=λwx=>BT w wx b (Ad p) 72 b (Ad p) 72 r g (DP S true t3)) g9 ?_;clear dB g9 hcat;replace h3:=H0 h3;intro w7 d;go_wp2_with(first|(refine At d.g ?_)|(refine Ax d.r (AB (DP S true t3)) ?_));refine G8 rfl rfl rfl rfl (d.r.set _) (Bj _) ?_;exact fin.out _ _ A d
 have A:=A6 (t.toList=Gk (o||D) (Ai 0 s.toList)) (by rw[f.out,ht.out]);rcases hw with hz0|⟨hp0,q32|⟨q32,rfl,rfl⟩⟩
 ·go_wp2_with(first|(refine At d.g ?_)|(refine Ax d.r (AB (DP S true t)) ?_));refine G8 rfl rfl rfl rfl (d.r.set _) (Bj _) ?_;exact fin.out _ _ A d
 all_goals
  have T:0<(s.size:Int):=A4;have hm1:((s.size:Int)-1).toNat=s.size-1:=A4;have hm3:(s.size:Int)-1<(s.size:Int):=A4;have dZ:IntKind.i64.wrap ((s.size:Int)-1)=(s.size:Int)-1:=BI _ A4;go_wp2_with(first|(refine At d.g ?_)|(refine Ax d.r (AB (DP S true t)) ?_));refine G8 rfl rfl rfl rfl (d.r.set _) (Bj _) ?_;exact fin.out _ _ A d
def Ko(s:A9):AT:=⟨s,⟨#[]⟩,⟨#[]⟩,AW .none,false,0,false,⟨#[]⟩,none,0,[],false,⟨#[]⟩,false,⟨#[]⟩⟩
def AeB(s:A9):A8.built 34 [(0,.string s)]=some (AB (Ko s)):=AO
structure MF(w wx:A7)(a:Nat)(B:AT)(b:Nat)(p:Ev)(r:Nat):Prop where
 ar:a≠r
 br:b≠r
 rw:w.heap.size<=r
 below:AF w w wx
 a:AM wx a (AB B) 34
 b:AM wx b (Ad p) 72
 r:AM wx r (AB zS) 34
def MF.keep{w':A7}{a b r:Nat}{B:AT}{p:Ev}(h:MF w wx a B b p r)(c:AF wx wx w'):MF w w' a B b p r:=⟨h.ar,h.br,h.rw,h.below.next c,h.a.keep c,h.b.keep c,h.r.keep c⟩
def AcN{a:Bool}:∀l:A5,C2 false l<=C2 a l
 |[]=>AG _
 |c::r=>by
  unfold C2 B8;rw[ON,Jw];by_cases h:(c==47)=true
  ·rw[AC h,AC L4];exact Nat.succ_le_succ (AcN r)
  simp_all
def MV(p:F9):Prop:=p.hs=true/\(Ar p.sch=true->2<=C2 false p.rest)
def Acz{s:A5}(h:Ar s=true):s≠[]:=λe=>by rw[e]at h;exact absurd h AE
def Afz(B:AT)(s:A9)(w:A7)(hz:s.size<=1100000)(C:B=zS\/MV (Cq (EQ s))):AD A8 29 #[.agg (AB B),.string s] w (Ip (Du s) w):=by
 obtain⟨R,hR⟩:=AI (Du s);rw[hR];have E:=hR.symm;unfold Du at E;replace hR:=H0 hR;have lS:=Yi s;rw[AK]at lS;have c:=Cu.start w (AB B) 34 (AB zS) 34;replace E:=H0 E;replace C:=H0 C;go_in;go_upto_region 1 with(fail);refine As (R:=λwx=>Cu w wx (AB B) 34 (AB zS) 34) c ?_;clear c;intro w1 c;go_wp2_with fail;refine(ApJ s w1 A4).mono ?_;rintro e w2⟨t,rfl,ht,D⟩;replace c:=c.keep D;have htz:t.size<=1100000:=by rw[<-AK,ht.out];omega
 clear D;go_wp2_with fail;refine(Azw t w2 A4).mono ?_;intro e w3 I;obtain⟨p,rfl,hp,D⟩:=Wd I;have sO:=Z1 hp (by rw[AK];exact htz);replace c:=c.keep D;have hJ:MF w (w3.alloc (.cells (Ad p) 72)) w.heap.size B w3 p (w.heap.size+1):=
  ⟨A4,by have:=c.b.lt;omega,A4,c.below.alloc c.below.size _,c.a.alloc _,AM.new _ _ _,c.b.alloc _⟩
 clear D I c;go_upto_region 2 with(refine Jf rfl 72 _ _ rfl rfl (Ad p) _ _ _ rfl AN rfl (SI p) rfl AO ?_);refine As (R:=λwx=>MF w wx w B w3 p (w.heap.size+1)) hJ ?_;clear hJ;intro w4 c;obtain⟨b,D⟩:=AI (w3.heap.size);obtain⟨r,hr⟩:=AI (w.heap.size+1);obtain⟨a,ha⟩:=AI (w.heap.size);replace c:MF w w4 a B b p r:=ha▸hr▸D▸c;rw[D,hr,ha];clear D hr ha;have V:p.l=Cq (EQ s):=by rw[hp.out,ht.out]
 replace C:=C.out;replace E:=E.out;rw[<-V]at C E;replace V:=H0 V;have gJ:=sO.rz;have wC:=sO.qz;have hfz:=sO.fz;have tB:=H0 sO.q;have uI:=H0 sO.f;have pok':=H0 sO;have d:=H0 (λS w=>Aps S p w A4 A4);have z:=H0 (λw=>QA p.sch w);have mN:=H0 (λw=>Pj p.rest 2 AE false w A4);have gQ:=H0 (λw=>AmJ p.rest true w A4);obtain⟨hs,P⟩:=AI (p.hs);obtain⟨FI,x⟩:=AI ((p.sch.toList==Av));have xV:(p.sch.toList==[102,105,108,101])=FI:=x;obtain⟨SP,i⟩:=AI (Ar p.sch.toList);obtain⟨is,y⟩:=AI (((B.scheme.toList==[102,105,108,101])&& !B.flatP));obtain⟨F,hF⟩:=AI ((B.scheme.toList==[102,105,108,101]));obtain⟨OP,m⟩:=AI (B.flatP);rw[hF,m]at y;obtain⟨D2,j0⟩:=AI ((p.sch.toList !=B.scheme.toList));obtain⟨N,hN⟩:=AI (decide (2<=C2 false p.rest.toList));rw[hN]at mN;rw[i]at z;have l4:p.sch.toList=Av->SP=true:=λe=>by rw[<-i,e];rfl
 have Y:hs=true->FI=true->Hid (is=false\/2<=C2 true p.rest.toList):=λh1 U=>H0 (by
  rcases C with rfl|⟨_,h⟩
  ·left;rw[<-y,<-hF,show zS.scheme.toList=[]from toList_mk []];rfl
  right;exact CR (h (by show Ar p.sch.toList=true;rw[i];exact l4 (eq_of_beq (x.trans U)))) (AcN _))
 have X:SP=true->D2=false->N=true:=λU h3=>by
  rcases C with rfl|⟨_,h⟩
  ·have e:=j0.trans h3;rw[show zS.scheme.toList=[]from toList_mk []]at e;exact absurd (by simpa using e) (Acz (i.trans U))
  rw[<-hN];exact Bx (h (i.trans U))
 have dO:hs=false->is=false/\OP=false/\B.scheme.toList=[]:=λh=>by
  rcases C with rfl|⟨h1,_⟩
  ·exact⟨by rw[<-y,<-hF,show zS.scheme.toList=[]from toList_mk []];rfl,by rw[<-m];rfl,toList_mk []⟩
  exact absurd (h1.symm.trans (P.trans h)) AE
 have Q:R=if hs=true then(if FI=true then I5 EH p.l else if SP=true then FC (BZ p.sch.toList p.l) (HQ true p.rest.toList)else Hu p.l)else none:=by
  rw[E,show p.l.hs=p.hs from rfl,P];cases hs with
  |false=>rfl
  |true=>
   rw[AC rfl,AC rfl];unfold J4;rw[show p.l.hs=p.hs from rfl,P,show p.l.sch=p.sch.toList from rfl,show p.l.rest=p.rest.toList from rfl,x,i];cases FI with
   |true=>rfl
   |false=>
    cases SP with
    |false=>rfl
    |true=>
     have hne:(p.sch.toList==EH.scheme)=false:=by
      rw[B6];exact Acz i
     rw[hne];rfl
 have L:=(c.b.at 0).trans (show(Ad p)[0]?=some (.bool hs)by rw[<-P];rfl);have M:=(c.b.at 1).trans (show(Ad p)[1]?=some (.string p.sch)from rfl);have J:=(c.a.at 0).trans (show(AB B)[0]?=some (.string B.scheme)from rfl);have u:=(c.a.at 16).trans (show(AB B)[16]?=some (.bool OP)by rw[<-m];rfl);replace E:=H0 E;replace C:=H0 C;replace P:=H0 P;replace x:=H0 x;replace i:=H0 i;replace m:=H0 m;replace hN:=H0 hN;replace Y:=H0 Y;replace X:=H0 X;replace dO:=H0 dO;replace Q:=H0 Q;replace l4:=H0 l4;have hDe:=A6 ((p.sch.toList==B.scheme.toList)= !D2) (by rw[<-j0,bne,Bool.not_not]);replace j0:=H0 j0;have hisw:(F=false/\is=false)\/(F=true/\OP=true/\is=false)\/(F=true/\OP=false/\is=true):=by
  rw[<-y];cases F<;>cases OP<;>simp
 replace y:=H0 y;rcases hisw with⟨rfl,rfl⟩|⟨rfl,rfl,rfl⟩|⟨rfl,rfl,rfl⟩;all_goals
  go_upto_region 3 with(fail);replace hF:=H0 hF;cases hs with
  |true=>
   clear dO;cases FI with
   |true=>
    have hf:=A6 (R=I5 EH p.l) (Q.out.trans ((AC rfl).trans (AC rfl)));replace Y:=Y.out rfl rfl;clear Q X;go_upto_region 4 with(fail);clear L M J u xV;replace c:=c.keep (AU _ _).drew;refine rds (λw'=>AM w' a (AB B) 34/\AM w' b (Ad p) 72) (⟨c.a,c.b⟩) λn=> ?_;refine tkm 0 (λw o=>o.1.whole) ?_;refine tq 1 ?_;refine tkm 3 (λw o=>o.2.whole) ?_;refine tkm 5 (λw o=>o.2.whole) ?_;refine rdy 2 ?_;refine wpList_buildTo rfl _ _ rfl (some 39) rfl (AB (Ko Dp)) AO ?_;refine rde (⟨c.a,c.b⟩) λn=> ?_;refine rdk 4 λK T=> ?_;go_simp;refine(d.out (Ko Dp) _).mono ?_;rintro e w4⟨q,f,rfl,G,H,hb4⟩;replace c:=c.keep hb4;clear hb4 n;have y:=Q1 (sch:=Dp) G H tB uI;rw[LL]at y;have hfi:=H0 (λw=>AuV B _ (Gp Dp p q f) p w y gJ Y);replace y:=H0 y;go_wp2_with fail;refine rdg T (⟨c.a,c.b⟩) λn=> ?_;refine rdk 6 λK T=> ?_;go_simp;refine(hfi.out _).mono ?_;rintro e w5⟨S4,rfl,A,j⟩;have fM:=c.r.lt;have cK:=c.below.size;replace c:=c.keep j;replace A:=H0 A;clear j n hfi;go_wp2_with fail;refine rdg T (⟨c.a,c.b⟩) λn=> ?_;refine tq 7 ?_;refine tq 8 ?_;refine rdy 9 ?_;refine Fb rfl 34 _ _ rfl r (AB (S4)) rfl rfl 34 _ c.r (Bj _) rfl (EO _) ?_;refine rde (⟨c.a.other c.ar _,c.b.other c.br _⟩) λn=> ?_;refine tq 10 ?_;refine rdn ?_;go_wp2_with fail;refine G8 rfl rfl rfl rfl (c.r.set _) (Bj _) ?_;exact SA hf A fM cK c.rw c.below
   |false=>
    have gT:=H0 (Q.out.trans ((AC rfl).trans (AA AE)));clear Q Y;go_upto_region 5 with(fail);clear xV;go_wp2_with(first|(refine wpList_buildTo rfl _ _ rfl _ rfl (AB (Ko p.sch)) (AeB p.sch) ?_)|(refine Cg rfl 72 _ rfl b rfl _ (Ad p) _ _ c.b underlying72 rfl (SI p) ?_));refine(d.out (Ko p.sch) _).mono ?_;rintro e w5⟨q,f,rfl,G,H,j⟩;have o:=H0 (Q1 (sch:=p.sch) G H tB uI);obtain⟨S,pP⟩:=AI (Gp p.sch p q f);have lL:Ih (Ko p.sch) p.hq q p.hf f=S:=pP;rw[pP]at o;rw[lL];replace c:=(c.keep j);have hgr:w5.heap.size≠r:=by have:=c.r.lt;omega
    replace c:=c.keep ((AU _ _).alloc (AG _) (.cells (AB S) 34));have k:=AM.new w5 (AB S) 34;replace lL:=H0 lL;replace pP:=H0 pP;clear L M J u j d;obtain⟨g,hg⟩:=AI (w5.heap.size);replace hg:=H0 hg;go_upto_region 6 with(refine Jf rfl 34 _ _ rfl rfl (AB S) _ _ _ rfl AN rfl (Bj _) rfl (EO _) ?_);rw[hg.out]at k hgr⊢;refine As (R:=λwx=>MF w wx a B b p r/\AM wx g (AB S) 34) ⟨c,k⟩ ?_;clear c k;rintro w6⟨c,k⟩;have L:=(c.b.at 0).trans (show(Ad p)[0]?=some (.bool true)by rw[<-P.out];rfl);have M:=(c.b.at 1).trans (show(Ad p)[1]?=some (.string p.sch)from rfl);have y2:=(c.b.at 2).trans (show(Ad p)[2]?=some (.string p.rest)from rfl);have J:=(c.a.at 0).trans (show(AB B)[0]?=some (.string B.scheme)from rfl);go_upto_region 7 with(go_at_call 67;refine(z.out _).mono (AH ?_));clear z;cases SP with
    |true=>
     have Z:=gT.out.trans (AC rfl);obtain⟨O,hO⟩:=AI (FC (BZ p.sch.toList p.l) (HQ true p.rest.toList));have hf:=A6 (R=O) (Z.trans hO);replace Z:=H0 Z;replace hO:=H0 hO;have hdw:D2=true\/(D2=false/\N=true):=by
      cases D2
      ·exact .inr ⟨rfl,X.out rfl rfl⟩
      exact .inl rfl
     clear gT X;rcases hdw with rfl|⟨rfl,rfl⟩;all_goals
      have hD3:=j0.out;first
       |(have hD4:(p.sch.toList==B.scheme.toList)=false:=hDe.out)|(have hD4:(p.sch.toList==B.scheme.toList)=true:=hDe.out)
      go_upto_region 8 with(first|(refine IM BE ?_;go_at_call 68;refine(mN.out _).mono (AH ?_))|(go_at_call 68;refine(mN.out _).mono (AH ?_)));clear L M y2 J mN hD3 hD4;replace c:=c.keep (AU _ _).drew;replace k:=k.keep (AU _ _).drew;refine rds (λw'=>AM w' g (AB S) 34/\w'.cell? ⟨b,2,none⟩=some (.string p.rest)) (⟨k,(c.b.at 2).trans rfl⟩) λn=> ?_;refine tkm 0 (λw o=>o.1.whole) ?_;refine tq 1 ?_;refine tq 2 ?_;refine rdk 3 λK T=> ?_;go_simp;refine(gQ.out _).mono ?_;rintro e w5⟨t,rfl,ht,htz,hw5⟩;obtain rfl:=hw5.symm;have lV:=H0 (λw=>AbI S _ t w o Nd Nd Nd A4);rw[ht.out,hO.out]at lV;clear n;go_wp2_with fail;refine rdg T (⟨k,(c.b.at 2).trans rfl⟩) λn=> ?_;refine rdk 4 λK T=> ?_;go_simp;refine(lV.out _).mono ?_;rintro e w6⟨S4,rfl,A,W⟩;have fM:=c.r.lt;have cK:=c.below.size;replace c:=c.keep W;replace k:=k.keep W;replace A:=H0 A;clear W n lV;go_wp2_with fail;refine rdg T (⟨k,(c.b.at 2).trans rfl⟩) λn=> ?_;refine tq 5 ?_;refine tq 6 ?_;refine rdy 7 ?_;refine Fb rfl 34 _ _ rfl r (AB (S4)) rfl rfl 34 _ c.r (Bj _) rfl (EO _) ?_;refine rde (⟨k.other hgr _,(((c.b.other c.br _).at 2).trans rfl)⟩) λn=> ?_;refine tq 8 ?_;refine rdn ?_;go_wp2_with fail;refine G8 rfl rfl rfl rfl (c.r.set _) (Bj _) ?_;exact SA hf A fM cK c.rw c.below
    |false=>
     have hf:=A6 (R=Hu p.l) (gT.out.trans (AA AE));have mW:=H0 (λw=>ApD S p w o Nd Nd Nd Nd pok'.out);clear gT X;go_upto_region 10 with(fail);clear L M y2 J;go_wp2_with(first|(refine Cg rfl 34 _ rfl g rfl _ (AB S) _ _ k underlying34 rfl (Bj _) ?_)|(refine Cg rfl 72 _ rfl b rfl _ (Ad p) _ _ c.b underlying72 rfl (SI p) ?_));refine(mW.out _).mono ?_;rintro e w7⟨S4,rfl,A,hb7⟩;have fM:=c.r.lt;have cK:=c.below.size;replace c:=c.keep hb7;replace A:=H0 A;clear hb7 mW k;go_wp2_with(refine Fb rfl 34 _ _ rfl r (AB (S4)) rfl rfl 34 _ c.r (Bj _) rfl (EO _) ?_);refine G8 rfl rfl rfl rfl (c.r.set _) (Bj _) ?_;exact SA hf A fM cK c.rw c.below
  |false=>
   obtain⟨h1,U,h3⟩:=dO.out rfl;first
    |exact absurd h1 AE|exact absurd U AE|skip
   all_goals
    subst U;have hf:=A6 (R=none) (Q.out.trans (AA AE));have v:B.scheme.toList.isEmpty=true:=by rw[h3];rfl
    replace h3:=H0 h3;have v:=H0 v;clear Q Y X dO xV j0 h1;go_wp2_with(first|(refine wpList_buildTo rfl _ _ rfl _ rfl (AB (Ko p.sch)) (AeB p.sch) ?_)|(refine Cg rfl 72 _ rfl b rfl _ (Ad p) _ _ c.b underlying72 rfl (SI p) ?_));refine(d.out (Ko p.sch) _).mono ?_;rintro e w5⟨q,f,rfl,G,H,j⟩;replace c:=(c.keep j).keep ((AU _ _).alloc (AG _) (.cells (AB (Ih (Ko p.sch) p.hq q p.hf f)) 34));clear L M J u j d;go_upto_region 6 with(refine Jf rfl 34 _ _ rfl rfl (AB (Ih (Ko p.sch) p.hq q p.hf f)) _ _ _ rfl AN rfl (Bj _) rfl (EO _) ?_);refine As (R:=λwx=>MF w wx a B b p r) c ?_;clear c;intro w6 c;have L:=(c.b.at 0).trans (show(Ad p)[0]?=some (.bool false)by rw[<-P.out];rfl);have M:=(c.b.at 1).trans (show(Ad p)[1]?=some (.string p.sch)from rfl);have J:=(c.a.at 0).trans (show(AB B)[0]?=some (.string B.scheme)from rfl);have u:=(c.a.at 16).trans (show(AB B)[16]?=some (.bool false)by rw[<-m.out];rfl);go_upto_region 7 with(go_at_call 67;refine(z.out _).mono (AH ?_));clear z;go_upto_region 11 with(fail);clear L M;go_upto_region 18 with(fail);clear u;replace v:=v.out;go_upto_region 19 with(fail);clear v J;go_wp2_with(first|(refine wpList_buildTo rfl _ _ rfl _ rfl (AB zS) PJ ?_)|(refine Fb rfl 34 _ _ rfl r (AB (zS)) rfl rfl 34 _ c.r (Bj _) rfl (EO _) ?_));refine G8 rfl rfl rfl rfl (c.r.set _) (Bj _) ?_;exact Rk hf (Au c.below c.rw _)
def Asf(s:A9)(w:A7)(o:s.size<=1100000):AD A8 11 #[.string s] w (Ip (Du s) w):=by
 have k:=H0 (λw=>Afz zS s w o (.inl rfl));have m:=Ah w (.cells (AB zS) 34);have n:AM (w.alloc (.cells (AB zS) 34)) w.heap.size (AB zS) 34:=AM.new _ _ _;generalize l:Du s.toList=R at k⊢;replace l:=H0 l;go_in;go_upto_region 1 with(fail);refine As (R:=λwx=>AF w w wx/\AM wx w (AB zS) 34) ⟨m,n⟩ ?_;clear m n;rintro p⟨a,c⟩;generalize f:w.heap.size=r at c⊢;have j:=H0 (Nat.le_of_eq f);replace f:=H0 f;go_wp2_with(refine wpList_buildTo rfl _ _ rfl _ rfl (AB zS) PJ ?_);go_call k as e w2⟨S4,rfl,i,hb2⟩;have b:=c.keep hb2;have h:=a.next hb2;have d:=a.size;have g:=c.lt;clear a c hb2;replace i:=H0 i;go_wp2_with(refine Ax b (AB (S4)) ?_);refine G8 rfl rfl rfl rfl (b.set _) (Bj _) ?_;exact SA rfl i g d j h
end Go.Proofs.YtonomfeipkdmhaaGreatDoor
