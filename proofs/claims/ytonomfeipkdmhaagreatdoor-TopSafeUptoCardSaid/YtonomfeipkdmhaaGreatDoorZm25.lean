/- Lemmas. -/
import Derived.Test.YtonomfeipkdmhaaGreatDoorZm23
import Derived.Test.YtonomfeipkdmhaaGreatDoorZm24
set_option linter.all false
set_option maxRecDepth 100000
set_option maxHeartbeats 16000000
namespace Go.Proofs.YtonomfeipkdmhaaGreatDoor
open Go renaming World->A7,Calls->AD,Value->AJ,TypeId->Ab
open Go.RowKit renaming Below->AF
open Go.RowKit Go.Proofs.Tryz
open Go.Proofs.Tryz renaming prog->A8
def Aa4{u:AZ}{ws:List (A5)}(g:BA u):GP (C6 u true) ws=⟨true,u,ws⟩:=by unfold GP;rw[Aan g];rfl
def Xj{u:AZ}(g:BA u):MV (Cq (EQ (C6 u true))):=by
 rw[WC g,ZX g];refine⟨rfl,λa=> ?_⟩;have c:u.host≠ .none:=by
  cases g.kind with
  |file s o us ps po pa h=>
   rcases h with h|⟨b,_⟩
   ·rw[h];intro e;cases e
   exact RS b
  |special s sp o pa h po=>exact RS h
  |net sp=>rw[a]at sp;cases sp
  |plain sp=>rw[a]at sp;cases sp
  |flat sp=>rw[a]at sp;cases sp
 rw[U4 c];exact AcY _ _
variable{alw:AZ->Bool}{kind:Nat}
def X7{a:CH}(h:Bd alw kind a=true):a.right=true/\alw a.url=true/\(kind=2->ML (C6 a.url true)=true):=by
 unfold Bd at h;rw[C0,C0]at h;have⟨h1,h2,h3⟩:=h;exact⟨h1,h2,λe=>AS⟩
variable{most:Int}{base:AZ}{raw:A5}
def ArA{W:A5}{l:List CH}{d:A5}(h:Wk alw most kind base raw W l d)(C:kind=1\/kind=2\/kind=3)(j:Rr kind W)(B:AT)(s:A9)(f:s.toList=W)(w:A7):AD A8 30 #[.int .i64 (kind:Int),.agg (AB B),.string s] w (Jm (l,d) w):=by
 have y:=j.len;rw[<-f,AK]at y;rcases C with rfl|rfl|rfl
 ·have e:=h.again;have⟨rfl,rfl⟩:=Prod.mk.inj e;obtain⟨-,g⟩:=h.good _ (CO.2 rfl);have k:C6 (D3 base W []).url true=W:=h.text;have E:D3 base W []=GP s []:=by rw[f,<-k,VC g,Aa4 g]
  rw[E];exact AvU B s w (by rw[<-AK,f];exact j.one rfl) (by rw[f,<-k];exact Xj g)
 ·have e:=h.again;have⟨hl,rfl⟩:=Prod.mk.inj e;have p:∀b∈l,BA b.url/\b.right=true/\Kp (Df b):=λb hit=>by
   have⟨hkb,g⟩:=h.good b hit;obtain⟨i,-,hf⟩:=X7 hkb;rw[<-hl]at hit;obtain⟨c,hc,rfl⟩:=EU.1 hit;exact⟨g,i,Yc (hf rfl) ((ZL _ W (AG _)) c hc).ds⟩
  have G:Cf (l.map Df)=W:=by
   rw[<-h.text];cases hl2:l with
   |nil=>exact absurd hl2 h.ne|cons a r=>rfl
  have t:BW W=l.map Df:=by
   grind[ZA]
  have H:(BW s).map (λc=>GP c.url c.ws)=l:=by
   rw[f,t,List.map_map];have:∀m:List CH,(∀b∈m,b∈l)->m.map ((λc=>GP c.url c.ws)∘Df)=m:=by
    intro m;induction m with
    |nil=>grind
    |cons a m ih=>
     intro v;obtain⟨g,i,-⟩:=p a (v a (CC ..));rw[FR,ih (λb hit=>v b (Cr _ hit))];congr 1;show GP (C6 a.url true) a.ws=a;rw[Aa4 g,<-i]
   grind
  have n:=Au6 B s w y (λc hc=>by
   rw[f]at hc;refine⟨j.set rfl c hc,?_⟩;rw[t]at hc;obtain⟨b,hit,rfl⟩:=EU.1 hc;exact Xj (p b hit).1)
  grind
 have e:IN base (Dl W)=(l,d):=h.again;cases hp:Dl W with
 |none=>rw[hp]at e;exact absurd (Prod.mk.inj e).1.symm h.ne
 |some q=>
  have⟨d',hh,x⟩:=q;rw[hp]at e;obtain⟨z,u,A,-,-⟩:=Xz hp;have D:d'=d/\∃b:CH,l=[b]/\b.ws=[]:=by
   cases hh with
   |true=>have⟨h1,h2⟩:=Prod.mk.inj e;exact⟨h2,_,h1.symm,rfl⟩|false=>have⟨h1,h2⟩:=Prod.mk.inj e;exact⟨h2,_,h1.symm,rfl⟩
  obtain⟨rfl,b,rfl,o⟩:=D;have⟨hkb,g⟩:=h.good b (CO.2 rfl);obtain⟨i,-,-⟩:=X7 hkb;have k:d'++[59,32,117,114,108,61]++C6 b.url true=W:=h.text;have⟨c,r,hcr,hlt⟩:=Yh g;have F:GP (c::r) []=b:=by
   rw[<-hcr,Aa4 g,<-i,<-o]
  have n:=Au4 B s d' c r w AS z u A hlt A4 (j.ref rfl d' true _ (by rw[<-k,hcr];exact AkR z u A hlt)) (by rw[<-hcr];exact Xj g);grind
def Avl{W:A5}{l:List CH}{d:A5}(h:Wk alw most kind base raw W l d)(f:kind=1\/kind=2\/kind=3):W≠[]:=by
 intro e;have a:=h.text;simp_all;cases hl:l with
 |nil=>exact h.ne hl
 |cons it r=>
  obtain⟨-,g⟩:=h.good it AS;obtain⟨c,q,b,-⟩:=Yh g;rw[hl]at a;rcases f with rfl|rfl|rfl
  ·have a:C6 it.url true=[]:=a;grind
  ·have a:DA (Df it)++Da (r.map Df)=[]:=a;have hu:(Df it).url=c::q:=b;unfold DA at a;grind
  have a:d++[59,32,117,114,108,61]++C6 it.url true=[]:=a;simp at a
def Avq(h:(E3 alw most kind base raw).kind≠3):(E3 alw most kind base raw).out=[]:=by
 unfold E3 at h⊢;by_cases d:kind=0
 ·grind
 rw[AA d]at h⊢;by_cases h1:most<(raw.length:Int)
 ·rw[AC h1];rfl
 rw[AA h1]at h⊢;by_cases b:(Am kind base (Bh raw)).1.any (·.right)=false
 ·rw[AC b];rfl
 rw[AA b]at h⊢;by_cases a:(Am kind base (Bh raw)).1.filter (Bd alw kind)=[]
 ·rw[AC a];rfl
 rw[AA a]at h⊢;by_cases c:most<((C8 (FH kind ((Am kind base (Bh raw)).1.filter (Bd alw kind)) (Am kind base (Bh raw)).2)).length:Int)
 ·rw[AC c];rfl
 grind
def AM.rng{w:A7}{g:Nat}{C:Array AJ}{T:Ab}(h:AM w g C T):w.rangeAt g 0 C.toList:=λj v a=>by
 rw[Db];have:=h.at j;rw[this];rwa[L9]at a
def Atj:∀r,r<9->∃k:Nat,(k=0\/k=1\/k=2\/k=3)/\Mc (KG r).1 (KG r).2 k/\NV (BH (KG r).1.toList) (BH (KG r).2.toList)=k/\(KG r).1.size<=1000/\(KG r).2.size<=1000:=by
 have a:∀(d c:A9)(e n:A5)(b:Option Nat)(x:Int),BH d.toList=e->BH c.toList=n->d.size<=1000->c.size<=1000->(∀k,k<27->(keyBytes [.string (JB.getD k ([],[],0)).1,.string (JB.getD k ([],[],0)).2.1]=keyBytes [.string e,.string n]↔b=some k))->(∀k,b=some k->k<27)->M3 b (λ_=>true)=x->keyOf A8 91 (XV e n)=some (Ic e n)->Mc d c x:=λd c e n b x f j a3 a4 a5 g i m w=>YQ d c e n b x f j a3 a4 (Z2 a5) g i m w;intro r l;rcases Ag2 r l with rfl|rfl|rfl|rfl|rfl|rfl|rfl|rfl|rfl
 ·exact⟨1,AE,Aiu,AX,AE,AE⟩
 ·exact⟨2,AE,AgO,AX,AE,AE⟩
 ·exact⟨3,AE,a _ _ [109,101,116,97] [99,111,110,116,101,110,116] (some 26) 3 AX AX AE AE AX (λk h=>MU) BE AO,AX,AE,AE⟩
 ·exact⟨2,AE,a _ _ [115,111,117,114,99,101] [115,114,99,115,101,116] (some 24) 2 AX AX AE AE AX (λk h=>MU) BE AO,AX,AE,AE⟩
 ·exact⟨1,AE,a _ _ [115,99,114,105,112,116] [115,114,99] (some 5) 1 AX AX AE AE AX (λk h=>MU) BE AO,AX,AE,AE⟩
 ·exact⟨1,AE,a _ _ [111,98,106,101,99,116] [100,97,116,97] (some 8) 1 AX AX AE AE AX (λk h=>MU) BE AO,AX,AE,AE⟩
 ·exact⟨1,AE,a _ _ [102,111,114,109] [97,99,116,105,111,110] (some 17) 1 AX AX AE AE AX (λk h=>MU) BE AO,AX,AE,AE⟩
 ·exact⟨2,AE,a _ _ [108,105,110,107] [105,109,97,103,101,115,114,99,115,101,116] (some 25) 2 AX AX AE AE AX (λk h=>MU) BE AO,AX,AE,AE⟩
 exact⟨0,AE,a _ _ [97] [116,105,116,108,101] none 0 AX AX AE AE AX (λk h=>C5) BE AO,AX,AE,AE⟩
def Asm(p:DF)(B:AT)(f d:A9)(pa:Option Addr)(n c:Nat)(w:A7)(g:Mc f d 0):AD A8 10 #[.agg (Br p),.agg (AB B),.string f,.string d,.slice pa n c] w (λe w'=>e=.returned (.agg (BF 1 0 ⟨#[]⟩))/\AF w w w'):=by
 have a:=ID.start w p B (BF 0 0 ⟨#[]⟩);go_in;go_upto_region 1 with(fail);refine As (R:=λwx=>ID w wx p B (BF 0 0 ⟨#[]⟩)) a ?_;intro h a;go_wp2_with fail;go_call g as e w2⟨rfl,hb⟩;have a:=a.keep hb;go_wp2_with(first|(refine wpList_buildTo rfl _ _ rfl _ rfl (BF 1 0 ⟨#[]⟩) AO ?_)|(refine Ax a.o (BF 1 0 ⟨#[]⟩) ?_));have b:=a.setO (BF 1 0 ⟨#[]⟩);refine Fj rfl rfl rfl b.o underlying40 (NW _ _ _) ?_;exact⟨rfl,b.below⟩
def Asr(p:DF)(t:A9)(T:Int)(pa:Option Addr)(n c:Nat)(l:A5)(w:A7)(hp:FW w p)(r6:Cv w pa n c l)(hE:CD w)(ht:t.size<=1100000):AD A8 3 #[.agg (Br p),.string t,.int .i64 T,.slice pa n c] w (GG w true):=by
 have hI0:Ll w (w.alloc (.cells (Br p) 24)) p:=⟨Ah _ _,AM.new _ _ _,hp.below (Ah _ _) (AG _)⟩;replace hE:=H0 hE;replace r6:=H0 r6;have bH:=H0 r6.out.len;replace hp:=H0 hp;go_in;go_upto_region 1 with(fail);refine As (R:=λwx=>Ll w wx p) hI0 ?_;clear hI0;intro w1 hI;go_wp2_with fail;refine(Azr w1 (hE.out.next hI.below)).mono ?_;rintro e w2⟨rfl,a⟩;replace hI:=hI.keep a;clear a;go_wp2_with(refine Cg rfl 24 _ rfl w rfl _ (Br p) _ _ hI.pc underlying24 rfl R5 ?_);refine(ArE p w2 hI.pi).mono ?_;rintro e w3⟨few,rfl,-,a⟩;replace hI:=hI.keep a;clear a;go_wp2_with fail;refine(Asb t w3 (hE.out.next hI.below) ht).mono ?_;rintro e w4⟨S,is,rfl,hu,aZ,a⟩;have bX:=(hI.keep a).alloc (.cells (AB S) 34);have kQ:AM (w4.alloc (.cells (AB S) 34)) w4.heap.size (AB S) 34:=AM.new _ _ _;have mG:=hu.w.next ((AU _ _).alloc (AG _) (.cells (AB S) 34));obtain⟨w5,hw5⟩:∃w5,w4.alloc (.cells (AB S) 34)=w5:=⟨_,rfl⟩;go_upto_region 4 with(refine Jf rfl 34 _ _ rfl rfl (AB S) _ _ _ rfl AN rfl (Bj _) rfl (EO _) ?_);rw[hw5]at bX kQ mG⊢;obtain⟨g1,hg1⟩:=AI (w4.heap.size);rw[hg1]at kQ⊢;clear hw5 hg1 hu a hI;have hI:=bX;clear bX;replace aZ:=H0 aZ;replace mG:=H0 mG;cases few with
 |false=>
  exact RU
 |true=>
 cases is with
 |false=>
  exact RU
 |true=>
 obtain⟨⟨b,a⟩,ht3⟩:=aZ.out rfl;have vB:=mG.out;rw[a]at vB;replace vB:Cy w5 S b:=vB;have gb:=H0 (Ain a);have lb0:=AtN a;rw[AK]at lb0;have lb:=A6 (B9 b<=104460) A4;replace a:=H0 a;replace vB:=H0 vB;clear aZ mG ht lb0;by_cases hs:n<=300
 ·have q:(n:Int)<=300:=A4;by_cases ha:T<0
  ·exact RU
  have ha0:0<=T:=A4;go_upto_region 6 with fail;go_wp2_with fail;refine(Awj T ha0 w5).mono ?_;rintro e w6⟨r,hr,rfl,o5⟩;obtain rfl:=o5.symm;obtain⟨k,hk,N,F⟩:=Atj r hr;obtain⟨el,vS⟩:∃x,(KG r).1=x:=⟨_,rfl⟩;obtain⟨nm,hnm⟩:∃x,(KG r).2=x:=⟨_,rfl⟩;rw[vS,hnm]at N F⊢;replace vS:=H0 vS;replace hnm:=H0 hnm;replace N:=H0 N;replace F:=H0 F;have vG:=H0 (r6.out.below hI.below (AG _));by_cases hk0:k=0
  ·subst hk0;go_wp2_with(first|(refine Cg rfl 24 _ rfl w rfl _ (Br p) _ _ hI.pc underlying24 rfl R5 ?_)|(refine Cg rfl 34 _ rfl g1 rfl _ (AB S) _ _ kQ underlying34 rfl (Bj _) ?_));refine(Asm p S el nm pa n c w5 N).mono ?_;rintro e w7⟨rfl,E⟩;replace hI:=hI.keep E;clear E;have gI:=hI.alloc (.cells (BF 1 0 ⟨#[]⟩) 40);have P:AM (w7.alloc (.cells (BF 1 0 ⟨#[]⟩) 40)) w7.heap.size (BF 1 0 ⟨#[]⟩) 40:=AM.new _ _ _;obtain⟨w8,J⟩:∃w8,w7.alloc (.cells (BF 1 0 ⟨#[]⟩) 40)=w8:=⟨_,rfl⟩;go_upto_region 8 with(refine Jf rfl 40 _ _ rfl rfl (BF 1 0 ⟨#[]⟩) _ _ _ rfl AN rfl (AeV _ _ _) rfl (OO _ _ _) ?_);rw[J]at gI P⊢;clear J;have y0:=(P.at 0).trans (show(BF 1 0 ⟨#[]⟩)[0]?=some (.int .i64 1)from rfl);have y2:=(P.at 2).trans (show(BF 1 0 ⟨#[]⟩)[2]?=some (.string ⟨#[]⟩)from rfl);have he:(⟨#[]⟩:A9).toList.isEmpty=true:=by rw[show(⟨#[]⟩:A9).toList=[]from toList_mk []];rfl
   go_wp2_with fail;go_ret;exact⟨rfl,gI.below⟩
  have G:k=1\/k=2\/k=3:=hk.elim (λe=>absurd e hk0) id;have hfl:=H0 (Amu k G p S b el nm pa n c l w5 (hE.out.next hI.below) hI.pi vB gb.out lb.out N vG JN);obtain⟨A,hA⟩:=AI (E3 (EL p.schemes.l p.hosts.l p.types.l) p.most k b l);rw[hA]at hfl;replace hA:=H0 hA;clear hk;replace G:=H0 G;go_wp2_with(first|(refine Cg rfl 24 _ rfl w rfl _ (Br p) _ _ hI.pc underlying24 rfl R5 ?_)|(refine Cg rfl 34 _ rfl g1 rfl _ (AB S) _ _ kQ underlying34 rfl (Bj _) ?_));refine hfl.out.mono ?_;rintro e w7⟨x,rfl,hx,E⟩;replace hI:=hI.keep E;have hn7:=kQ.keep E;have hu7:=H0 (vB.out.next E);clear E hfl kQ vB vG r6;have gI:=hI.alloc (.cells (BF A.kind A.why x) 40);have hn8:=hn7.alloc (.cells (BF A.kind A.why x) 40);have hu8:=H0 (hu7.out.next ((AU _ _).alloc (AG _) (.cells (BF A.kind A.why x) 40)));have P:AM (w7.alloc (.cells (BF A.kind A.why x) 40)) w7.heap.size (BF A.kind A.why x) 40:=AM.new _ _ _;obtain⟨w8,J⟩:∃w8,w7.alloc (.cells (BF A.kind A.why x) 40)=w8:=⟨_,rfl⟩;go_upto_region 8 with(refine Jf rfl 40 _ _ rfl rfl (BF A.kind A.why x) _ _ _ rfl AN rfl (AeV _ _ _) rfl (OO _ _ _) ?_);rw[J]at gI P hn8 hu8⊢;obtain⟨g2,bF⟩:=AI (w7.heap.size);rw[bF]at P⊢;clear J bF hI hn7 hu7;have hI:=gI;clear gI;have y0:=(P.at 0).trans (show(BF A.kind A.why x)[0]?=some (.int .i64 (A.kind:Int))from rfl);by_cases hA3:A.kind=3
  ·obtain⟨W,L,D,u,Q,hf1,M,mU⟩:=Awe (alw:=EL p.schemes.l p.hosts.l p.types.l) (most:=p.most) (kind:=k) (raw:=l) gb.out (by rw[hA.out];exact hA3);rw[hA.out]at u;subst u;have Z:Hid (x.toList=C8 W):=hx;have g:AM w8 g2 (BF 3 0 x) 40:=P;have y0:w8.cell? ⟨g2,0,none⟩=some (.int .i64 3):=(g.at 0).trans (show(BF 3 0 x)[0]?=some (.int .i64 3)from rfl);have y2:=(g.at 2).trans (show(BF 3 0 x)[2]?=some (.string x)from rfl);have sR:=AiY l;have sY:l.length<=300:=JN;have hWl:W.length<=150000000:=by
    have:=(YO (k:=k) (V:=Bh l) (alw:=EL p.schemes.l p.hosts.l p.types.l) gb.out lb.out A4).1;rw[M,mU,Q.text]at this;exact this
   have fL:x.size<=750000000:=by
    have:=(Qd W).2;rw[<-AK,Z.out];omega
   have wT:=H0 Q.clean;have hWp:=A6 (0<W.length) (FV.2 (Avl Q G));have wP:Rr k W:=by
    have:=ApI (k:=k) G (V:=Bh l) (alw:=EL p.schemes.l p.hosts.l p.types.l) gb.out lb.out A4 hf1;rw[M,mU,Q.text]at this;exact this
   have hkr:=H0 (λ(B:AT)(s:A9)hs wx=>ArA Q G wP B s hs wx);have cR:=A6 (L≠[]/\L.length<=2700/\∀it∈L,it.right=true/\BA it.url/\B9 it.url<=1100000/\EL p.schemes.l p.hosts.l p.types.l it.url=true) ⟨Q.ne,by rw[<-M];exact CR (O6 _ _) (RT (k:=k) (V:=Bh l) gb.out A4).2.1,λit hit=>by
    obtain⟨h1,h2⟩:=Q.good it hit;obtain⟨h3,h4,-⟩:=X7 h1;rw[<-M]at hit;have:=((RT (k:=k) (V:=Bh l) gb.out A4).1 it (Ii.1 hit).1).url;have:=lb.out;exact⟨h3,h2,A4,h4⟩⟩
   have hm1:(n:Int)<=p.most:=by have:=Q.raw;have:=bH.out;omega
   have jO:(x.size:Int)<=p.most:=by
    have h:=Q.out;rw[<-Z.out,AK]at h;omega
   have htz:t.size<=1100000:=A4;clear Q hf1 M mU sR sY hA hx hA3 P wP hWl;go_wp2_with fail;refine(Asf t w8 htz).mono ?_;rintro e w9⟨S2,rfl,hu2,lT⟩;have oU:=(hI.keep lT).alloc (.cells (AB S2) 34);have hv9:=(g.keep lT).alloc (.cells (AB S2) 34);have wS:=AM.new w9 (AB S2) 34;obtain⟨X,nX⟩:∃X,w9.alloc (.cells (AB S2) 34)=X:=⟨_,rfl⟩;go_upto_region 11 with(refine Jf rfl 34 _ _ rfl rfl (AB S2) _ _ _ rfl AN rfl (Bj _) rfl (EO _) ?_);rw[nX]at oU hv9 wS⊢;obtain⟨g3,hg3⟩:=AI (w9.heap.size);rw[hg3]at wS⊢;clear nX hg3 lT hu2 hI g hn8 hu8 y0 y2 w9;obtain⟨w9,nX⟩:=AI (X);rw[nX]at oU hv9 wS⊢;clear nX X;have hl2:=hv9.lt;have hl3:=wS.lt;have cZ:=oU.pc.lt;refine rds (λw'=>AM w' g3 (AB S2) 34/\AM w' g2 (BF 3 0 x) 40) (⟨wS.keep (AU _ _).drew,hv9.keep (AU _ _).drew⟩) λj=> ?_;have d:=(AU w9 w9).drew;obtain⟨C,hwz⟩:=AI (w9.drew);rw[hwz]at d j⊢;obtain⟨hc,g⟩:=j;have j:=And.intro hc g;clear hwz;refine tq 0 ?_;refine tq 1 ?_;refine tkm 3 (λw hS=>hS.1.rng) ?_;have yv2:∀w',AM w' g2 (BF 3 0 x) 40->w'.cell? ⟨g2,2,none⟩=some (.string x):=λw' h=>(h.at 2).trans rfl;refine tq 4 ?_;refine JW 5 74 ?_ j ?_ ?_;rotate_left
   ·first|(intro w aB;have z:=yv2 _ aB.2;(try dsimp only at aB);go_simp;done)|(intro w aB;have z:=yv2 _ aB.2;(try dsimp only at aB);go_simp;with_reducible rfl)
   try simp only[Hy]
   clear yv2 j;refine wpAnyH_ready (rs:=[2,6,8]) AO AN ?_;refine AllReadyH.cons rfl (λK f=> ?_) (AllReadyH.cons rfl (λK f=> ?_) (AllReadyH.cons rfl (λK f=> ?_) AllReadyH.nil))
   iterate 4
    all_goals
     first
     |(go_simp;go_at_call 13;refine (ApV el nm _ F.out.2.1 F.out.2.2).mono ?_;rintro e C ⟨rfl,a⟩;rw [F.out.1];replace hc:=hc.keep a;replace g:=g.keep a;replace d:=d.next a;(try replace d7:=d7.below a (AG _));(try replace u:=u.keep a);(try replace kK:=kK.next a);go_wp2_with fail;refine f.out _ _ (⟨hc,g⟩) (λj=> ?_);clear f K a j;try simp only[Hy])
     |(go_simp;go_at_call 12;have hxs:(C8 W).length=x.size:=(by rw[<-Z.out,AK]);have bG:=H0 (Aqz k S2 (some pb) nb cb W (L,D) C (λwx a=>by have hb2:=d7.below a (AG _);rw[Z.out]at hb2;have m:=hb2.len;have hp:=(Qd W).1;exact AvN (some pb) nb cb W wx hb2.toFq (by have:=hWp.out;omega) A4 wT) (λs hs wx=>hkr.out S2 s hs wx));clear d7 hxs;(try have jW:=u.lt);obtain⟨BB,oR⟩:=AI (C.heap.size);replace oR:=H0 oR;(try rw[oR.out]at jW);refine bG.out.mono ?_;rintro e C⟨v,m,dd,rfl,aZ,bY,fK,a⟩;rw[oR.out]at fK;have aR:=fK.one;obtain⟨H,fK,kK⟩:∃H,CU H BB v m/\AF H H C:=⟨_,fK,AU _ _⟩;replace aZ:=H0 aZ;replace fK:=H0 fK;clear bG oR;replace hc:=hc.keep a;replace g:=g.keep a;replace d:=d.next a;(try replace u:=u.keep a);go_wp2_with fail;refine f.out _ _ (⟨hc,g⟩) (λj=> ?_);clear f K a j;try simp only[Hy])
     |(have a:=(AU C C).alloc (AG _) (.cells #[.slice none 0 0,.string ⟨#[]⟩] 44);have iJ:=AM.new C #[.slice none 0 0,.string ⟨#[]⟩] 44;have hq9:w9.heap.size<=C.heap.size:=d.size;(try have hqr:H.heap.size<=C.heap.size:=kK.size);obtain⟨q,I⟩:=AI (C.heap.size);obtain⟨C,fW⟩:∃wy,C.alloc (.cells #[.slice none 0 0,.string ⟨#[]⟩] 44)=wy:=⟨_,rfl⟩;replace I:=H0 I;replace fW:=H0 fW;go_simp;rw[fW.out,I.out];rw[fW.out]at a iJ;replace hc:=hc.keep a;replace g:=g.keep a;replace d:=d.next a;(try replace d7:=d7.below a (AG _));rw[I.out]at iJ hq9;have u:=iJ;(try rw[I.out]at hqr);clear iJ I fW;(try replace kK:=kK.next a);refine f.out _ _ (⟨hc,g⟩) (λj=> ?_);clear f K a j;try simp only[Hy])
     |(obtain ⟨pb,nb,cb,C,hconv,hbn0,a⟩:=AdU x C;go_simp;clear hconv;replace hc:=hc.keep a;replace g:=g.keep a;replace d:=d.next a;have d7:=hbn0;clear hbn0;(try replace u:=u.keep a);(try replace kK:=kK.next a);refine f.out _ _ (⟨hc,g⟩) (λj=> ?_);clear f K a j;try simp only[Hy])
     try first
     |(refine wpAnyH_ready (rs:=[6,8]) AX AN ?_;refine AllReadyH.cons rfl (λK f=> ?_) (AllReadyH.cons rfl (λK f=> ?_) AllReadyH.nil))|(refine wpAnyH_ready (rs:=[2,8]) AX AN ?_;refine AllReadyH.cons rfl (λK f=> ?_) (AllReadyH.cons rfl (λK f=> ?_) AllReadyH.nil))|(refine wpAnyH_ready (rs:=[2,6]) AX AN ?_;refine AllReadyH.cons rfl (λK f=> ?_) (AllReadyH.cons rfl (λK f=> ?_) AllReadyH.nil))|(refine wpAnyH_ready (rs:=[7,8]) AX AN ?_;refine AllReadyH.cons rfl (λK f=> ?_) (AllReadyH.cons rfl (λK f=> ?_) AllReadyH.nil))|(refine wpAnyH_ready (rs:=[6]) AX AN ?_;refine AllReadyH.cons rfl (λK f=> ?_) AllReadyH.nil)|(refine wpAnyH_ready (rs:=[2]) AX AN ?_;refine AllReadyH.cons rfl (λK f=> ?_) AllReadyH.nil)|(refine wpAnyH_ready (rs:=[8]) AX AN ?_;refine AllReadyH.cons rfl (λK f=> ?_) AllReadyH.nil)|(refine wpAnyH_ready (rs:=[7]) AX AN ?_;refine AllReadyH.cons rfl (λK f=> ?_) AllReadyH.nil)
   all_goals
    have hqB:q<BB\/H.heap.size<=q:=by
     first
      |exact .inl jW|exact .inr hqr
    refine rdy 9 ?_;refine Fb rfl 44 _ _ rfl q (readC v dd) rfl rfl 44 _ u (HU _ _) rfl (MS _ aR) ?_;refine rde (⟨hc.other A4 _,g.other A4 _⟩) λj=> ?_;refine rdn ?_;go_upto_region 12 with fail;refine As (R:=λwx=>Ll w wx p/\AM wx q (readC v dd) 44/\AM wx g2 (BF 3 0 x) 40/\IU wx v m) ⟨⟨Au (oU.below.next d) A4 _,(oU.pc.keep d).other A4 _,hp.out.below (Au (oU.below.next d) A4 _) (AG _)⟩,u.set _,g.other A4 _,(CU.chg fK (λk h1 h2=>(LZ _ _ _ _ (by rcases hqB with h|h<;>omega)).trans (kK.block k h2))).read⟩ ?_;clear u g hc d kK fK hqB j;rintro w12⟨hI12,hc12,hv12,hri12⟩;have o:m.length=L.length:=aZ.out.len;have h0:0<m.length:=by rw[o];exact FV.2 cR.out.1
    have hlm:m.length<=2700:=by rw[o];exact cR.out.2.1
    obtain⟨pi,ci,rfl,oA,cC,Y⟩:=hri12;obtain⟨gi,oi,rfl,y⟩:=cC h0;have lQ:=(Y m[0] (CI h0));clear cC lQ;replace y:=H0 y;replace Y:=H0 Y;replace bY:=H0 bY;replace o:=H0 o;go_wp2_with fail;go_loopw[19] (λxN wr=>∃i:Nat,xN=.int .i64 (i:Int)/\i<=m.length/\AF w12 w12 wr) (λxN _=>m.length-(intOf xN).toNat)
    ·exact⟨0,rfl,AR _,AU _ _⟩
    obtain⟨i,rfl,hi,iA⟩:=hrel;have kW:=hI12.keep iA;have hcr:=hc12.keep iA;have y4:=(hcr.at 0).trans (show(readC (.slice (some ⟨gi,oi,none⟩) m.length ci) dd)[0]?=some (.slice (some ⟨gi,oi,none⟩) m.length ci)from rfl);by_cases U:i<m.length
    ·have hiI:(i:Int)<m.length:=A4;have kG:0<=(i:Int):=A4;have hi2:i<L.length:=by rw[<-o.out];exact U
     have xW:=aZ.out.get i U hi2;obtain⟨hr,j2,hlu,lV⟩:=cR.out.2.2 L[i] (CI hi2);have sH:=xW.right.trans hr;have hXr:=(Y.out m[i] (CI U)).below iA (AG _);have yx:=MT (y.out i U) iA (AG _);obtain⟨xx,uB⟩:=AI (m[i]);rw[uB]at xW sH hXr yx;replace uB:=H0 uB;have hpi:=(hXr.urlW xW.url).inn;have g6:=H0 (λwx hp u=>Ayo p xx.url wx hp u (Ng xW.url j2 A4) (by
      rw[Mo xW.url false];have:=Jn j2 false;omega))
     rw[AgE xW.url,lV]at g6;have yu:=RA yx;have yr:wr.cell? ⟨gi,oi+i*25,none⟩=some (.bool true):=(yx 0 _ rfl).trans (by rw[sH]);obtain⟨xu,uZ⟩:=AI (xx.url);rw[uZ]at g6 hpi yu;have u4:gi<wr.heap.size:=EV _ _ yr;have hg4:q<wr.heap.size:=hcr.lt;have bJ:=(AU wr wr).drew;clear yx hXr xW hr j2 hlu lV sH hcr;replace uZ:=H0 uZ;go_upto_region 15 with fail;refine rds (λw'=>AM w' w (Br p) 24/\w'.cell? ⟨q,0,none⟩=some (.slice (some ⟨gi,oi,none⟩) m.length ci)/\w'.cell? ⟨gi,oi+i*25,none⟩=some (.bool true)/\w'.rangeAt gi (oi+i*25+1) (AB xu).toList) (⟨kW.pc.keep bJ,(bJ.cell (p:=⟨q,0,none⟩) hg4).trans y4,(bJ.cell (p:=⟨gi,oi+i*25,none⟩) u4).trans yr,MT yu bJ (AG _)⟩) λj=> ?_;refine tq 0 ?_;refine tq 1 ?_;refine tq 2 ?_;refine tq 3 ?_;refine tq 4 ?_;refine tq 5 ?_;refine tq 6 ?_;refine tq 7 ?_;refine tkm 8 (λw' hS=>hS.1.rng) ?_;refine tq 9 ?_;refine tq 10 ?_;refine tq 11 ?_;refine tq 12 ?_;refine tq 13 ?_;refine tkm 14 (λw' hS=>hS.2.2.2) ?_;refine rdk 15 λK f=> ?_;go_simp;refine(g6.out _ (kW.pi.below bJ (AG _)) (hpi.below bJ (AG _))).mono ?_;rintro e wb⟨rfl,hba⟩;have O:=bJ.trans (hba.mono bJ.size);clear j;go_wp2_with fail;refine rdg f (⟨kW.pc.keep O,(O.cell (p:=⟨q,0,none⟩) hg4).trans y4,(O.cell (p:=⟨gi,oi+i*25,none⟩) u4).trans yr,MT yu O (AG _)⟩) λj=> ?_;refine tq 16 ?_;refine tq 17 ?_;refine rdn ?_;go_wp2_with fail;go_roundw;exact⟨i+1,AP,A4,iA.next O⟩;exact AzF
    have hiI:(m.length:Int)<=i:=A4;have wJ:0<(m.length:Int):=A4;have hvr:=hv12.keep iA;have yo:=(hvr.at 2).trans (show(BF 3 0 x)[2]?=some (.string x)from rfl);have y3:=(kW.pc.at 3).trans (show(Br p)[3]?=some (.int .i64 p.most)from rfl);go_wp2_with fail;go_ret;exact⟨rfl,kW.below⟩
  have hne:((A.kind:Int)!=3)=true:=by rw[JO];omega
  have hxe:x.toList.isEmpty=true:=by
   have h:=Avq (alw:=EL p.schemes.l p.hosts.l p.types.l) (most:=p.most) (kind:=k) (base:=b) (raw:=l) (by rw[hA.out];exact hA3);rw[hA.out]at h;rw[hx.out,h];rfl
  have y2:=(P.at 2).trans (show(BF A.kind A.why x)[2]?=some (.string x)from rfl);exact RU
 have q:300<(n:Int):=A4;exact RU
end Go.Proofs.YtonomfeipkdmhaaGreatDoor
