/- Lemmas. -/
import Derived.Test.YtonomfeipkdmhaaGreatDoorZm20
import Derived.Test.YtonomfeipkdmhaaGreatDoorZm22
import Derived.Lib.SlBytesConst
set_option linter.all false
set_option maxRecDepth 100000
set_option maxHeartbeats 16000000
namespace Go.Proofs.YtonomfeipkdmhaaGreatDoor
open Go renaming wpList->Aq,maxLen->BK,World->A7,Calls->AD,Value->AJ,Ending->Ag
open Go.RowKit renaming Below->AF
open Go.RowKit Go.Proofs.Tryz
open Go.Proofs.Tryz renaming prog->A8
structure ID(w wx:A7)(p:DF)(B:AT)(D:Array AJ):Prop where
 below:AF w w wx
 size:w.heap.size+3<=wx.heap.size
 a:AM wx w (Br p) 24
 b:AM wx (w.heap.size+1) (AB B) 34
 o:AM wx (w.heap.size+2) D 40
def ID.start(w:A7)(p:DF)(B:AT)(D:Array AJ):ID w (((w.alloc (.cells (Br p) 24)).alloc (.cells (AB B) 34)).alloc (.cells D 40)) p B D:=by
 have h:=Cu.start w (Br p) 24 (AB B) 34;have hn:=AM.new ((w.alloc (.cells (Br p) 24)).alloc (.cells (AB B) 34)) D 40;exact Adu
variable{w wx:A7}{p:DF}{B:AT}{D:Array AJ}
def ID.keep{c:A7}(h:ID w wx p B D)(hb:AF wx wx c):ID w c p B D:=⟨h.below.next hb,Ks,h.a.keep hb,h.b.keep hb,h.o.keep hb⟩
def ID.alloc(h:ID w wx p B D)(o:Obj):ID w (wx.alloc o) p B D:=h.keep ((AU _ _).alloc (AG _) o)
def ID.setO(h:ID w wx p B D)(E:Array AJ):ID w (wx.setRow (w.heap.size+2) E) p B E:=
 ⟨Au h.below A4 _,SO,h.a.other A4 _,h.b.other A4 _,h.o.set _⟩
def Yy(V:Va)(w:A7)(e:Ag)(w':A7):Prop:=∃t:A9,e=.returned (.agg (BF V.kind V.why t))/\Hid (t.toList=V.out)/\AF w w w'
def U2{V:Va}{y:Nat}{w':A7}(h:Qm y=V)(a:AF w w w'):Yy V w (.returned (.agg (BF 2 y ⟨#[]⟩))) w':=by
 subst h;exact⟨⟨#[]⟩,rfl,toList_mk [],a⟩
def AaO:∀{l:List Bw}{L:List CH},CX l L->∀x∈l,∃it∈L,Ex x it
 |[],[],_,x,hx=>by cases hx
 |y::l,it::L,h,x,hx=>by
  rcases Bn.1 hx with rfl|hx
  ·exact⟨it,CC ..,h.1⟩
  have⟨j,hj,hi⟩:=AaO h.2 x hx;exact⟨j,Cr _ hj,hi⟩
 |[],_::_,h,_,_=>h.elim|_::_,[],h,_,_=>h.elim
def QI(k:Nat)(L:List CH)(d:A5):Prop:=∀(v:AJ)(t:A9)(l:List Bw)(w:A7),t.toList=d->CD w->IU w v l->CX l L->0<l.length->l.length<=900000000->(∀x∈l,x.ws.length<=1000000000)->AD A8 28 #[.int .i64 (k:Int),.agg (readC v t)] w (Bi w (C8 (FH k L d)))
def Wy(p:DF)(B:AT)(b:AZ)(el nm:A9)(k:Nat)(pa:Option Addr)(n c:Nat)(raw:A5)(w:A7)(Y:CD w)(hp:FW w p)(hB:Cy w B b)(g:BA b)(gz:B9 b<=1000000)(hK:∀w',AD A8 21 #[.string el,.string nm] w' λr w''=>r=.returned (.int .i64 (k:Int))/\AF w' w' w'')(hk:k≠0)(h:Cv w pa n c raw)(hz:n<=1000000000)(vE:Qf raw)(hzd:(CZ raw).length<=1000000000)(aS:(HO (CZ raw)).length<=1000000000)(hia:TQ k B b (Bh raw))(hg:∀z∈(Am k b (Bh raw)).1,(z.right=true->BA z.url/\B9 z.url<=800000000)/\z.ws.length<=1000000000/\z.url.path.length<=1000000000)(bH:(Am k b (Bh raw)).1.length<=900000000)(q:(Am k b (Bh raw)).1.filter (Bd (EL p.schemes.l p.hosts.l p.types.l) k)≠[]->QI k ((Am k b (Bh raw)).1.filter (Bd (EL p.schemes.l p.hosts.l p.types.l) k)) (Am k b (Bh raw)).2)(m7:(C8 (FH k ((Am k b (Bh raw)).1.filter (Bd (EL p.schemes.l p.hosts.l p.types.l) k)) (Am k b (Bh raw)).2)).length<=4000000000):AD A8 10 #[.agg (Br p),.agg (AB B),.string el,.string nm,.slice pa n c] w (Yy (E3 (EL p.schemes.l p.hosts.l p.types.l) p.most k b raw) w):=by
 have f:=ID.start w p B (BF 0 0 ⟨#[]⟩);have hn:=h.len;obtain⟨V,u⟩:=AI (E3 (EL p.schemes.l p.hosts.l p.types.l) p.most k b raw);rw[u];unfold E3 at u;rw[AA hk,hn]at u;obtain⟨L,hL⟩:∃L,(Am k b (Bh raw)).1=L:=⟨_,rfl⟩;obtain⟨d,hd⟩:∃d,(Am k b (Bh raw)).2=d:=⟨_,rfl⟩;rw[hL,hd]at q m7 u;rw[hL]at hg bH;generalize hA:EL p.schemes.l p.hosts.l p.types.l=A at q m7 u;generalize hF:L.filter (Bd A k)=F at q m7 u;have bG:=H0 (λ(w':A7)(i:AF w w w')=>Asq k B b pa n c raw w' (Y.next i) (hB.next i) (h.below i (AG _)) hz vE hzd aS hia);have cT:=H0 (λ(w':A7)(i:AF w w w')=>Aww B b w' (Y.next i) (hB.next i) g A4);change Hid _ at Y hp hK hL hd hA hF u hg q m7;have hk0:((k:Int)==0)=false:=by simp_all
 clear hia h hB g vE hn hzd aS;go_in;go_upto_region 1 with(fail);refine As (R:=λwx=>ID w wx p B (BF 0 0 ⟨#[]⟩)) f ?_;clear f;intro w1 f;go_wp2_with fail;refine(hK.out w1).mono ?_;rintro e w2⟨rfl,i⟩;have f:=f.keep i;clear i hK;have y3:_=some (Value.int .i64 p.most):=f.a.at 3;by_cases hm:p.most<(n:Int)
 ·have T:=H0 (u.out.symm.trans (AC hm));go_wp2_with fail;go_call(UW 1 _) as e wd⟨rfl,J⟩;have m:=f.keep J;go_wp2_with(refine Ax m.o (BF 2 1 ⟨#[]⟩) ?_ (h1:=(OO _ _ _)));have s:=m.setO (BF 2 1 ⟨#[]⟩);refine Fj rfl rfl rfl s.o underlying40 (NW _ _ _) ?_;exact U2 (T.out.symm) s.below
 have T:=H0 (u.out.symm.trans (AA hm));have jO:(n:Int)<=p.most:=A4;clear u;go_wp2_with(refine At f.b ?_);refine(cT.out w2 f.below).mono ?_;rintro e w3⟨rfl,i⟩;have f:=f.keep i;clear i cT y3;go_wp2_with(refine At f.b ?_);refine(bG.out w3 f.below).mono ?_;rintro e w4⟨v,l,t,rfl,P,ht,ho,i⟩;rw[hL.out]at P;rw[hd.out]at ht;have M:=P.len;have f:=f.keep i;obtain⟨C,D,rfl,-,-,-⟩:=ho.read;have bX:=f.alloc (.cells (readC (.slice C l.length D) t) 44);have dN:AM (w4.alloc (.cells (readC (.slice C l.length D) t) 44)) w4.heap.size (readC (.slice C l.length D) t) 44:=AM.new _ _ _;have U:=ho.below ((AU _ _).alloc (AG _) (.cells (readC (.slice C l.length D) t) 44));generalize hw5:w4.alloc (.cells (readC (.slice C l.length D) t) 44)=w5 at bX dN U;have pY:l.length<=900000000:=A4;replace M:=H0 M;replace P:=H0 P;replace U:=H0 U;clear i bG ho;go_upto_region 9 with(refine Cw (readC (.slice C l.length D) t) ?_);refine As (R:=λwx=>w5=wx) hw5.symm ?_;rintro _ rfl;generalize hg12:w4.heap.size=g12 at dN⊢;clear hw5 f hg12;have y0:_=some (Value.slice C l.length D):=dN.at 0;go_wp2_with fail;refine(Aza (.slice C l.length D) l L w5 U.out.read P A4).mono ?_;rintro e w6⟨rfl,i⟩;have bX:=bX.keep i;have mE:=dN.keep i;have gV:=H0 (U.out.below i);clear i dN U y0;generalize dU:L.any (·.right)=any at T⊢;replace dU:=H0 dU;have f:=bX;clear bX;cases any with
 |false=>
  have S:=H0 (T.out.trans (AC rfl));go_wp2_with fail;go_call(UW 3 _) as e wd⟨rfl,J⟩;have m:=f.keep J;go_wp2_with(refine Ax m.o (BF 2 3 ⟨#[]⟩) ?_ (h1:=(OO _ _ _)));have s:=m.setO (BF 2 3 ⟨#[]⟩);refine Fj rfl rfl rfl s.o underlying40 (NW _ _ _) ?_;exact U2 (S.out.symm) s.below
 |true=>
  have S:=H0 (T.out.trans (AA AE));clear T;have zR:∀x∈l,x.ws.length<=1000000000/\x.url.path.length<=1000000000:=λx hx=>by
   have⟨z,hit,hi⟩:=AaO P x hx;have:=(hg.out z hit).2;rw[<-hi.ws,Bz,<-hi.url.path,Bz]at this;exact this
  have i6:=AnA p k (.slice C l.length D) t l L w6 (Y.out.next f.below) (hp.out.below f.below (AG _)) gV.out.read P pY (λz hit=>(hg.out z hit).1) zR;rw[hA.out,hF.out]at i6;replace i6:=H0 i6;replace zR:=H0 zR;go_wp2_with(first|(refine At f.a ?_)|(refine At mE ?_));refine i6.out.mono ?_;rintro e w7⟨v2,j,rfl,G,Q,hl2,O,i⟩;have f:=f.keep i;have fC:=G.len;obtain⟨E,I,rfl,-,-,-⟩:=Q.read;have gI:=f.alloc (.cells (readC (.slice E j.length I) t) 44);have W:AM (w7.alloc (.cells (readC (.slice E j.length I) t) 44)) w7.heap.size (readC (.slice E j.length I) t) 44:=AM.new _ _ _;have y:=Q.below ((AU _ _).alloc (AG _) (.cells (readC (.slice E j.length I) t) 44));generalize hw8:w7.alloc (.cells (readC (.slice E j.length I) t) 44)=w8 at gI W y;have hl2z:j.length<=900000000:=A4;replace fC:=H0 fC;replace G:=H0 G;replace O:=H0 O;replace y:=H0 y;clear i i6 Q mE gV;go_upto_region 12 with(refine Cw (readC (.slice E j.length I) t) ?_);refine As (R:=λwx=>w8=wx) hw8.symm ?_;rintro _ rfl;generalize hg13:w7.heap.size=g13 at W⊢;clear hw8 f hg13;have f:=gI;clear gI;have y0:_=some (Value.slice E j.length I):=W.at 0;by_cases K:F=[]
  ·have jV:=H0 (S.out.trans (AC K));have cZ:j.length=0:=by rw[fC.out,K];rfl
   rw[cZ]at y0;have hl00:j=[]:=EP cZ;clear S;subst hl00;replace K:=H0 K;go_wp2_with fail;go_call UW as e wd⟨rfl,J⟩;have m:=f.keep J;clear J;go_wp2_with(refine Ax m.o (BF 2 4 ⟨#[]⟩) ?_ (h1:=(OO _ _ _)));have s:=m.setO (BF 2 4 ⟨#[]⟩);refine Fj rfl rfl rfl s.o underlying40 (NW _ _ _) ?_;exact U2 (jV.out.symm) s.below
  have jV:=H0 (S.out.trans (AA K));clear S;have Z:0<j.length:=by
   rw[fC.out];grind
  have qD:=H0 (q.out K (.slice E j.length I) t j w8 ht (Y.out.next f.below) y.out.read G Z hl2z O);generalize hN:j.length=N at y0 W qD Z⊢;replace hN:=H0 hN;have hle:1<=(N:Int):=A4;replace K:=H0 K;go_wp2_with(refine Cg rfl 44 _ rfl g13 rfl _ (readC (.slice E N I) t) _ _ W underlying44 rfl (HU _ _) ?_);refine qD.out.mono ?_;rintro e w9⟨ts,rfl,X,i⟩;have f:=f.keep i;have y3:_=some (Value.int .i64 p.most):=f.a.at 3;have rJ:(C8 (FH k F d)).length=ts.size:=by rw[<-X.out,AK]
  have nA:=jV.out;rw[rJ]at nA;replace rJ:=H0 rJ;clear i qD W y0 jV hle;by_cases hm3:p.most<(ts.size:Int)
  ·have H:=H0 (nA.trans (AC hm3));clear nA;go_wp2_with fail;refine(UW 1 _).mono ?_;rintro e wd⟨rfl,J⟩;have m:=f.keep J;clear J;go_wp2_with(refine Ax m.o (BF 2 1 ⟨#[]⟩) ?_ (h1:=(OO _ _ _)));have s:=m.setO (BF 2 1 ⟨#[]⟩);refine Fj rfl rfl rfl s.o underlying40 (NW _ _ _) ?_;exact U2 (H.out.symm) s.below
  have H:=H0 (nA.trans (AA hm3));have m3:(ts.size:Int)<=p.most:=A4;clear nA;go_wp2_with(first|(refine wpList_buildTo rfl _ _ rfl _ rfl (BF 3 0 ts) AO ?_)|(refine Ax f.o (BF 3 0 ts) ?_ (h1:=(OO _ _ _))));have oU:=f.setO (BF 3 0 ts);refine Fj rfl rfl rfl oU.o underlying40 (NW _ _ _) ?_;exact⟨ts,by rw[H.out],H0 (by rw[H.out];exact X),oU.below⟩
def Mc(el nm:A9)(k:Int):Prop:=∀w,AD A8 21 #[.string el,.string nm] w λr w'=>r=.returned (.int .i64 k)/\AF w w w'
def Z2{e n:A5}{a:Option Nat}(h:∀k,k<27->(keyBytes [.string (JB.getD k ([],[],0)).1,.string (JB.getD k ([],[],0)).2.1]=keyBytes [.string e,.string n]↔a=some k)):QE e n a:=λk b=>by
 rw[<-h k b];unfold QK Ic;exact⟨λe=>by injection e,λe=>by rw[e]⟩
def Aiu:Mc ⟨#[97]⟩ ⟨#[104,114,101,102]⟩ 1:=λw=>
 YQ _ _ [97] [104,114,101,102] (some 0) 1 AX AX AE AE (Z2 AX) (λk h=>MU) AX AO w
def AgO:Mc ⟨#[105,109,103]⟩ ⟨#[115,114,99,115,101,116]⟩ 2:=λw=>
 YQ _ _ [105,109,103] [115,114,99,115,101,116] (some 23) 2 AX AX AE AE (Z2 AX) (λk h=>MU) AX AO w
def AhW{u:AZ}{K:Nat}(h:B9 u<=K):u.path.length<=K:=by
 have:=YG u.path;unfold B9 at h;omega
def ZW{b:AZ}(h:Bu B b)(c:B9 b<=1000000):JZ B:=by
 have a:=h.path;refine⟨?_,λt d=> ?_⟩
 ·have:=AhW c;rw[<-a,Bz]at this;exact this
 have e:t.toList∈b.path:=by rw[<-a];exact OZ d
 have:=AtJ e;rw[AK]at this;unfold B9 at c;omega
def Azd{u:AZ}(g:BA u)(c:B9 u<=1000000000):QI 1 [⟨true,u,[]⟩] []:=λv t l w f a d b e h i=>by
 cases l with
 |nil=>cases e
 |cons x l=>exact AmD v t x l u w a d b.1.url g c
variable{s:A5}
def AoU{b:AZ}(e:BA b):∀a∈(Am 2 b s).1,a.right=true->BA a.url:=by
 intro a hit d;obtain⟨c,hc,rfl⟩:=EU.1 hit;have⟨u,hj,hi,g⟩:=Ot e d;rw[hi];exact g
theorem Aht{L:List CH}(b:L≠[])(h:∀it∈L,BA it.url/\B9 it.url<=1000000000)(f:(Cf (L.map Df)).length<=1000000000):QI 2 L []:=λv t l w k d g e j m i=>by
 have c:FH 2 L []=Cf (L.map Df):=by
  cases L with
  |nil=>exact absurd rfl b|cons a r=>rfl
 rw[c];exact InW v t l L w d g e h j A4 i f
def J8:A5:=[120,32,49,120,44,47,47,101,32,50,120,44,32,104,116,116,112,115,58,47,47,81,46,67,46,68,47,39,38,97,109,112,59,44,32,100,97,116,97,58,105,109,97,103,101,47,103,105,102,44,97]
def I9:A5:=[106,97,118,97,38,84,97,98,59,115,99,114,105,112,116,58,120]
def Sg:A5:=[104,116,116,112,115,58,47,47,104,47,97,47,120,32,49,120,44,32,104,116,116,112,115,58,47,47,113,46,99,46,100,47,38,35,51,57,59,38,97,109,112,59]
def Azu:(∀c∈BW (Bh J8),c.url.length<=1100000)/\(Bh J8).length<=1000/\(∀it∈(Am 2 Co (Bh J8)).1,B9 it.url<=1000/\it.ws.length<=1000/\it.url.path.length<=1000)/\(Am 2 Co (Bh J8)).1.length<=1000/\(Cf (((Am 2 Co (Bh J8)).1.filter (Bd Fg 2)).map Df)).length<=1000/\(C8 (FH 2 ((Am 2 Co (Bh J8)).1.filter (Bd Fg 2)) (Am 2 Co (Bh J8)).2)).length<=1000:=AX
def Ay7:(Bh I9).length<=1000/\(∀it∈(Am 1 Co (Bh I9)).1,B9 it.url<=1000/\it.ws.length<=1000/\it.url.path.length<=1000)/\(Am 1 Co (Bh I9)).1.length<=1000/\(Am 1 Co (Bh I9)).1.filter (Bd Fg 1)=[]/\(C8 (FH 1 ((Am 1 Co (Bh I9)).1.filter (Bd Fg 1)) (Am 1 Co (Bh I9)).2)).length<=1000:=by
 refine⟨AX,AX,AX,?_,AX⟩;exact EP AX
theorem Avm{b:AZ}(d:BA b):∀a∈(Am 1 b s).1,a.right=true->BA a.url:=by
 intro a hit c;obtain rfl:=CO.1 hit;have⟨u,hj,hi,g⟩:=Ot d c;rw[hi];exact g
def Avy(p:DF)(B:AT)(b a:A9)(pa:Option Addr)(n c:Nat)(w:A7)(q:CD w)(k:FW w p)(i:EL p.schemes.l p.hosts.l p.types.l=Fg)(u:p.most=200)(g:Cy w B Co)(m:Mc b a 2)(h:Cv w pa n c J8):AD A8 10 #[.agg (Br p),.agg (AB B),.string b,.string a,.slice pa n c] w (λe w'=>e=.returned (.agg (BF 3 0 ⟨Sg.toArray⟩))/\AF w w w'):=by
 have⟨f1,f2,f3,f4,f5,f6⟩:=Azu;have⟨z1,z2,z3⟩:=AvA;have x:n<=1000000000:=by rw[<-h.len];decide
 have r:=AoU (s:=Bh J8) Vp;refine(Wy p B Co b a 2 pa n c J8 w q k g Vp VX m AE h x (Acw z1) (CR z2 AE) (CR z3 AE) ?_ ?_ ?_ ?_ ?_).mono ?_
 ·intro s w' o y v;rw[<-o]at f1 f2⊢;exact AiM B Co s w' y v (ZW g.is VX) (by rw[<-AK];omega) f1
 ·grind
 ·omega
 ·rw[i];intro f;refine Aht f (λz hit=> ?_) A4;have⟨hm,hk⟩:=Ii.1 hit;have d:=hk;unfold Bd at d;grind
 ·grind
 rintro e w'⟨t,rfl,j,A⟩;rw[i,u,show E3 Fg 200 2 Co J8=⟨3,0,Sg⟩from goV]at j⊢;obtain rfl:=toList_inj (j.out.trans (toList_mk Sg).symm);grind
def AoY(p:DF)(B:AT)(g f:A9)(pa:Option Addr)(n c:Nat)(w:A7)(r:CD w)(k:FW w p)(m:EL p.schemes.l p.hosts.l p.types.l=Fg)(u:p.most=200)(j:Cy w B Co)(o:Mc g f 1)(h:Cv w pa n c I9):AD A8 10 #[.agg (Br p),.agg (AB B),.string g,.string f,.slice pa n c] w (λe w'=>e=.returned (.agg (BF 2 4 ⟨#[]⟩))/\AF w w w'):=by
 have⟨f2,f3,f4,f5,f6⟩:=Ay7;have⟨z1,z2,z3⟩:=AsU;have z:n<=1000000000:=by rw[<-h.len];decide
 have⟨k1,k2,k3⟩:=goW;refine(Wy p B Co g f 1 pa n c I9 w r k j Vp VX o AE h z (Acw z1) (CR z2 AE) (CR z3 AE) ?_ ?_ ?_ ?_ ?_).mono ?_
 ·intro s w' q A y;rw[<-q]at f2⊢;exact AlY B Co s w' A y (ZW j.is VX) (by rw[<-AK];omega)
 ·grind[Avm,Vp]
 ·omega
 ·simp_all
 ·grind
 rintro e w'⟨t,rfl,b,C⟩;rw[m,u]at b⊢;have x:E3 Fg 200 1 Co I9=⟨2,4,[]⟩:=by
  have i:(E3 Fg 200 1 Co I9).kind=2:=k1;have a:(E3 Fg 200 1 Co I9).why=4:=k2;have d:(E3 Fg 200 1 Co I9).out=[]:=k3;generalize E3 Fg 200 1 Co I9=v at i a d⊢;cases v;simp_all
 rw[x]at b⊢;obtain rfl:=toList_inj (b.out.trans (toList_mk []).symm);grind
def RW(l:A5):(DH l).length<=l.length:=GL _ l
def Ayx(l:A5):(Hr l).length<=l.length:=by
 unfold Hr;have h:=RW l;split
 ·simp_all
 rename_i c t e;rw[e,BC]at h;have:=RW t;split
 ·omega
 rw[BC];omega
def AuN(l:A5):(Gr l).length<=l.length:=by
 unfold Gr;split
 ·omega
 have h:=RW (l.drop 3);rw[C7]at h;split
 ·exact Mg
 rename_i c t e;rw[e,BC]at h;have:=RW t;split
 ·omega
 exact Mg
def Ag6(c:UInt8):∀l,(AL c l).1.length<=l.length
 |[]=>AG _
 |d::r=>by
  have a:=Ag6 c r;rw[AL];split
  ·exact AR _
  rw[BC,BC];omega
def Ano(l:A5):(LX l).length<=l.length:=by
 cases l with
 |nil=>exact AG _
 |cons c t=>
  have:=Ag6 c t;show(if c=34\/c=39 then(AL c t).1 else c::t).length<=_;split
  ·rw[BC];omega
  exact Mg
variable{l d:A5}
def Yo{x:A5}{b:Bool}(h:Dl l=some (d,b,x)):x.length<=l.length:=by
 unfold Dl R1 at h;split at h
 ·cases h
 have h1:=RW l;have g:=GL D8 (DH l);have a:=GL Hc ((DH l).dropWhile D8);generalize((DH l).dropWhile D8).dropWhile Hc=r at h a;unfold LA at h;split at h
 ·cases h;exact AR _
 rename_i c t;split at h
 ·cases h
 split at h
 ·cases h;exact AR _
 ·cases h;have e:=Ano (Gr (Hr (c::t)));have f:=AuN (Hr (c::t));have a3:=Ayx (c::t);omega
def Arz{α:Type}(p:α->Bool)(l:List α):(l.takeWhile p).length<=l.length:=(List.takeWhile_sublist p).length_le
def AsE(l:A5):(C3 l).1.1.length<=l.length:=by
 have h:=Arz BS l;unfold C3;split
 ·exact CR (Aku _) h
 exact h
variable{c:Dw}
def Apy{p:A5×List (A5)}(h:c∈GM p):c.url=p.1:=by
 unfold GM at h;split at h
 ·cases h
 simp_all
def Ak8:∀(n:Nat)(l:A5),∀c∈Jp n l,c.url.length<=l.length
 |0,l,c,h=>C5
 |n+1,l,c,h=>by
  have b:=GL BD l;rw[Jp]at h;split at h
  ·cases h
  rename_i hne;rcases BL.1 h with h|h
  ·rw[Apy h];exact CR (AsE _) b
  have d:=Ak8 n _ c h;cases hx:l.dropWhile BD with
  |nil=>exact absurd hx hne
  |cons a r=>
   rw[hx]at d b;have:=Qs (r:=r) (JI BD l hx);rw[BC]at b;omega
def Ah9(h:c∈BW l):c.url.length<=l.length:=Ak8 _ l c h
def Ani{α:Type}{f:α->A5}{l:List α}{a:α}(h:a∈l):(f a).length<=(l.flatMap f).length:=by
 induction l with
 |nil=>cases h
 |cons x r ih=>
  rw[GV,Aa];exact Zl
def Ald:∀ws:List (A5),ws.length<=(ws.flatMap (λt=>32::t)).length
 |[]=>AG _
 |t::r=>by
  have:=Ald r;rw[GV,Aa,BC,BC];omega
def An1(h:c∈BW l):c.ws.length<=3*l.length:=by
 have h1:=Aet _ l (AG _);have a:(44::32::DA c).length<=(Da (BW l)).length:=Ani (f:=λc=>44::32::DA c) h;have b:=Ald c.ws;unfold DA at a;rw[BC,BC,Aa]at a;omega
structure Ai9(K:Nat)(it:CH):Prop where
 good:it.right=true->BA it.url
 url:B9 it.url<=K
 ws:it.ws.length<=9000
def W3{b:AZ}{ws:List (A5)}{K:Nat}(c:BA b)(a:ws.length<=9000)(d:B9 b+348*s.length+60<=K):Ai9 K (D3 b s ws):=by
 unfold D3;cases e:IJ b s with
 |none=>exact⟨λh=>C5,by show B9 EH<=K;rw[AgB];omega,a⟩|some u=>exact⟨λ_=>Abj c e,by have:=Ajr e;show B9 u<=K;omega,a⟩
variable{k:Nat}{V:A5}
def RT{b:AZ}(f:BA b)(j:V.length<=2700):(∀a∈(Am k b V).1,Ai9 (B9 b+939660) a)/\(Am k b V).1.length<=2700/\(Am k b V).2.length<=2701:=by
 by_cases h:k=1
 ·subst h;refine⟨λa hit=> ?_,by show 1<=2700;omega,by show 0<=_;omega⟩;rw[CO.1 hit];exact W3 f (AR _) A4
 by_cases i:k=2
 ·subst i;refine⟨λa hit=> ?_,?_,by show 0<=_;omega⟩
  ·obtain⟨c,hc,rfl⟩:=EU.1 hit;have h1:=Ah9 hc;have m:=An1 hc;exact W3 f A4 A4
  show((BW V).map λc=>D3 b c.url c.ws).length<=_;have:=Ahf V;grind
 by_cases g:k=3
 ·subst g;have e:Am 3 b V=IN b (Dl V):=rfl;rw[e];cases hp:Dl V with
  |none=>exact⟨λa hit=>(by cases hit),AR _,AR _⟩
  |some q=>
   have⟨d,hh,x⟩:=q;obtain⟨-,-,-,l,-⟩:=Xz hp;have n:=Yo hp;cases hh with
   |true=>
    refine⟨λa hit=> ?_,by show 1<=2700;omega,by show d.length<=_;omega⟩;rw[CO.1 hit];exact W3 f (AR _) A4
   |false=>
    refine⟨λa hit=> ?_,by show 1<=2700;omega,by show d.length<=_;omega⟩;rw[CO.1 hit];exact⟨λ_=>f,AS,AR _⟩
 have e:Am k b V=([],[]):=by unfold Am;rw[AA h,AA i,AA g]
 grind
def Ad9{b:AZ}(f:BA b)(q:CH->Bool)(d:∀a,q a=true->a.right=true):∀C:List Dw,(Da (((C.map λc=>D3 b c.url c.ws).filter q).map Df)).length<=C.length*(B9 b+112)+348*(Da C).length
 |[]=>AR _
 |c::C=>by
  have k:=Ad9 f q d C;have e:Da (c::C)=[44,32]++DA c++Da C:=BE;have l:(DA c).length=c.url.length+(c.ws.flatMap (λt=>32::t)).length:=by unfold DA;rw[Aa]
  rw[FR,EB,e,Aa,Aa,BC,Nat.succ_mul];split
  ·rename_i hk;have⟨u,hj,hi,g⟩:=Ot f (d _ hk);rw[hi,FR];have h:∀(x:Dw)(r:List Dw),Da (x::r)=[44,32]++DA x++Da r:=λx r=>BE;rw[h,Aa,Aa];have m:=Ajr hj;have i:=Jn g true;have j:(DA (Df ⟨true,u,c.ws⟩)).length=(C6 u true).length+(c.ws.flatMap (λt=>32::t)).length:=by unfold DA Df;rw[Aa]
   omega
  omega
variable{alw:AZ->Bool}
def YO{b:AZ}(d:BA b)(u:B9 b<=104460)(g:V.length<=2700):(FH k ((Am k b V).1.filter (Bd alw k)) (Am k b V).2).length<=150000000/\(k=2->(Cf (((Am k b V).1.filter (Bd alw k)).map Df)).length<=150000000):=by
 have⟨f1,f2,f3⟩:=RT (k:=k) d g;have f:∀a,Bd alw k a=true->a.right=true:=λa h=>by
  unfold Bd at h;grind
 have o:k=2->(Cf (((Am k b V).1.filter (Bd alw k)).map Df)).length<=150000000:=λe=>by
  subst e;have h1:=Ad9 d _ f (BW V);have q:=Aet _ V (AG _);have t:=Ahf V;have l:=Ase (((Am 2 b V).1.filter (Bd alw 2)).map Df);have n:(Am 2 b V).1=(BW V).map λc=>D3 b c.url c.ws:=rfl;rw[n]at l⊢;have s:(BW V).length*(B9 b+112)<=1350*(104460+112):=O7 A4 A4;omega
 refine⟨?_,o⟩;cases hF:(Am k b V).1.filter (Bd alw k)with
 |nil=>exact AR _
 |cons a r=>
  have m:a∈(Am k b V).1.filter (Bd alw k):=by rw[hF];exact CC ..
  have⟨hm1,hk⟩:=Ii.1 m;have hf:=f1 a hm1;have v:=Jn (hf.good (f a hk)) true;have hu:=hf.url;unfold FH;dsimp only;by_cases j:k=1
  ·grind
  by_cases p:k=2
  ·grind
  by_cases i:k=3
  ·rw[AA j,AA p,AC i];unfold Ly;simp[Aa];omega
  grind
structure Rr(k:Nat)(V:A5):Prop where
 len:V.length<=900000000
 one:k=1->V.length<=1100000
 set:k=2->∀c∈BW V,c.url.length<=1100000
 ref:k=3->∀d h x,Dl V=some (d,h,x)->x.length<=1100000
def AzA(j:k=1\/k=2\/k=3){b:AZ}(g:Bu B b)(i:B9 b<=1000000)(h:Rr k V):TQ k B b V:=λs w a c d=>by
 have f:=h.len;rw[<-a,AK]at f;have e:=ZW g i;rcases j with rfl|rfl|rfl
 ·have h1:=h.one rfl;rw[<-a,AK]at h1;rw[<-a];exact AlY B b s w c d e h1
 ·have h1:=h.set rfl;rw[<-a]at h1⊢;exact AiM B b s w c d e f h1
 have h1:=h.ref rfl;rw[<-a]at h1⊢;exact Awd B b s w c d e A4 h1
theorem Atx{a:CH}(g:BA a.url)(f:B9 a.url<=900000000)(j:d.length<=1000000000):QI 3 [a] d:=λv t l w b c h e i k m=>by
 cases l with
 |nil=>cases i
 |cons x l=>
  have:=As2 v t x l a.url w c h e.1.url g f (by rw[<-AK,b];exact j);rw[b]at this;exact this
theorem AmW{b:AZ}(a:k=1\/k=3)(V:A5):(Am k b V).1.length<=1:=by
 rcases a with rfl|rfl
 ·exact Mg
 show(IN b (Dl V)).1.length<=1;cases Dl V with
 |none=>exact AR _
 |some q=>
  have⟨d,h,x⟩:=q;cases h<;>exact AG _
def ApC(g:k=1\/k=2\/k=3){F:List CH}(f:F≠[])(h1:k≠2->F.length<=1)(l:∀c∈F,c.right=true/\c.ws.length<=9000/\BA c.url/\B9 c.url<=900000000)(p:k=2->(Cf (F.map Df)).length<=1000000000)(n:d.length<=1000000000)(j:k≠3->d=[])(i:k≠2->∀c∈F,c.ws=[]):QI k F d:=by
 have one:k≠2->∃c,F=[c]:=λh=>by
  have:=h1 h
  match F,f,this with
  |[c],_,_=>simp|a::b::r,_,h=>simp at h
 rcases g with rfl|rfl|rfl
 ·obtain⟨c,rfl⟩:=one AE;obtain⟨o,-,m,a3⟩:=l c (CO.2 rfl);rw[j AE];have e:c=⟨true,c.url,[]⟩:=by
   cases c;simp_all
  rw[e];exact Azd m A4
 ·grind[Aht]
 grind[Atx]
def AtY{b:AZ}(d:k≠3)(V:A5):(Am k b V).2=[]:=by
 by_cases c:k=1
 ·subst c;rfl
 by_cases a:k=2
 ·subst a;rfl
 have e:Am k b V=([],[]):=by unfold Am;rw[AA c,AA a,AA d]
 rw[e]
def Ap3{b:AZ}(i:k≠2)(V:A5):∀c∈(Am k b V).1,c.ws=[]:=by
 intro c hit;by_cases g:k=1
 ·subst g;rw[CO.1 hit];rfl
 by_cases f:k=3
 ·subst f;have a:c∈(IN b (Dl V)).1:=hit;cases hp:Dl V with
  |none=>rw[hp]at a;cases a
  |some q=>
   have⟨d,h,x⟩:=q;rw[hp]at a;cases h with
   |true=>rw[CO.1 a];rfl|false=>rw[CO.1 a]
 have e:Am k b V=([],[]):=by unfold Am;rw[AA g,AA i,AA f]
 rw[e]at hit;cases hit
def Amu(k:Nat)(u:k=1\/k=2\/k=3)(p:DF)(B:AT)(b:AZ)(o m:A9)(pa:Option Addr)(n c:Nat)(raw:A5)(w:A7)(y:CD w)(i:FW w p)(s:Cy w B b)(g:BA b)(z:B9 b<=104460)(v:Mc o m k)(h:Cv w pa n c raw)(F:raw.length<=300):AD A8 10 #[.agg (Br p),.agg (AB B),.string o,.string m,.slice pa n c] w (Yy (E3 (EL p.schemes.l p.hosts.l p.types.l) p.most k b raw) w):=by
 have C:=AiY raw;have A:n<=1000000000:=by rw[<-h.len];omega
 have h1:=V4 raw;have r:raw.count 0<=raw.length:=List.count_le_length;have t:=TP (CZ raw);have⟨f1,f2,f3⟩:=RT (k:=k) (V:=Bh raw) g A4;have⟨t1,t2⟩:=YO (k:=k) (V:=Bh raw) (alw:=EL p.schemes.l p.hosts.l p.types.l) g z A4;have D:=(Qd (FH k ((Am k b (Bh raw)).1.filter (Bd (EL p.schemes.l p.hosts.l p.types.l) k)) (Am k b (Bh raw)).2)).2;have j:Rr k (Bh raw):=⟨A4,λ_=>A4,λ_ c hc=>by have:=Ah9 hc;omega,λ_ d E x i=>by have:=Yo i;omega⟩;refine Wy p B b o m k pa n c raw w y i s g A4 v A4 h A (An3 raw) A4 A4 (AzA u s.is A4 j) ?_ A4 ?_ A4
 ·intro a hit;have hf:=f1 a hit;have hu:=hf.url;have:=AhW hu;exact⟨λf=>⟨hf.good f,A4⟩,by have:=hf.ws;omega,A4⟩
 intro q;refine ApC u q (λr=> ?_) (λa hit=> ?_) (λe=>A4) A4 (λt=>AtY t _) (λr a hit=>Ap3 r _ a (Ii.1 hit).1)
 ·grind[AmW]
 have⟨hm,hq⟩:=Ii.1 hit;have f:a.right=true:=by
  unfold Bd at hq;rw[C0]at hq;exact hq.1
 have hf:=f1 a hm;exact⟨f,hf.ws,hf.good f,by have:=hf.url;omega⟩
def ApI(z:k=1\/k=2\/k=3){b:AZ}(g:BA b)(u:B9 b<=104460)(m:V.length<=2700)(w:(Am k b V).1.filter (Bd alw k)≠[]):Rr k (FH k ((Am k b V).1.filter (Bd alw k)) (Am k b V).2):=by
 obtain⟨n,B,C⟩:=RT g m;have⟨t1,t2⟩:=YO (k:=k) (alw:=alw) g u m;have v:∀f,Bd alw k f=true->f.right=true:=λf h=>by
  unfold Bd at h;grind
 have i:∀f∈(Am k b V).1.filter (Bd alw k),BA f.url/\(C6 f.url true).length<=1100000:=λf hit=>by
  have⟨hm,hq⟩:=Ii.1 hit;have hf:=n f hm;have s:=hf.good (v f hq);have:=Jn s true;have:=hf.url;grind
 refine⟨A4,λe=> ?_,λe c hc=> ?_,λe d h x p=> ?_⟩
 ·subst e;cases hF:(Am 1 b V).1.filter (Bd alw 1)with
  |nil=>grind
  |cons f r=>
   have:=(i f AS).2;exact this
 ·subst e;have q:∀f∈(Am 2 b V).1.filter (Bd alw 2),Kp (Df f):=λf hit=>by
   have⟨hm,hq⟩:=Ii.1 hit;obtain⟨c,hc,rfl⟩:=EU.1 hm;have j:=hq;unfold Bd at j;rw[C0,C0]at j;have⟨hr,_,hf⟩:=j;exact Yc AS (ZL _ V (AG _) c hc).ds
  obtain⟨f,r,y⟩:∃f r,(Am 2 b V).1.filter (Bd alw 2)=f::r:=by
   cases h:(Am 2 b V).1.filter _ with
   |nil=>grind|cons a r=>simp
  have o:FH 2 ((Am 2 b V).1.filter (Bd alw 2)) (Am 2 b V).2=Cf (((Am 2 b V).1.filter (Bd alw 2)).map Df):=by rw[y];rfl
  rw[o,ZA _ (λx hx=>by obtain⟨f,hit,rfl⟩:=EU.1 hx;exact q f hit)]at hc;obtain⟨l,t,rfl⟩:=EU.1 hc;exact(i l t).2
 subst e;have hx:=Yo p;cases hF:(Am 3 b V).1.filter (Bd alw 3)with
 |nil=>grind
 |cons f r=>
  have o:(FH 3 (f::r) (Am 3 b V).2).length=(Am 3 b V).2.length+6+(C6 f.url true).length:=by
   show(Ly ((Am 3 b V).2,true,C6 f.url true)).length=_;unfold Ly;simp only[if_true,Aa,BC,Ep]
  have A:=(n f (Ii.1 (show f∈(Am 3 b V).1.filter _ by rw[hF];exact CC ..)).1).url;grind[Jn]
def Awe{most:Int}{kind:Nat}{base:AZ}{raw:A5}(f:BA base)(h:(E3 alw most kind base raw).kind=3):∃W l d,E3 alw most kind base raw=⟨3,0,C8 W⟩/\Wk alw most kind base raw W l d/\(Am kind base (Bh raw)).1.filter (Bd alw kind)≠[]/\(Am kind base (Bh raw)).1.filter (Bd alw kind)=l/\(Am kind base (Bh raw)).2=d:=by
 by_cases a:kind=0
 ·unfold E3 at h;rw[AC a]at h;cases h
 by_cases h1:most<(raw.length:Int)
 ·unfold E3 at h;rw[AA a,AC h1]at h;cases h
 by_cases c:(Am kind base (Bh raw)).1.any (·.right)=false
 ·unfold E3 at h;rw[AA a,AA h1,AC c]at h;cases h
 by_cases b:(Am kind base (Bh raw)).1.filter (Bd alw kind)=[]
 ·unfold E3 at h;rw[AA a,AA h1,AA c,AC b]at h;cases h
 by_cases e:most<((C8 (FH kind ((Am kind base (Bh raw)).1.filter (Bd alw kind)) (Am kind base (Bh raw)).2)).length:Int)
 ·unfold E3 at h;rw[AA a,AA h1,AA c,AA b,AC e]at h;cases h
 have⟨g1,g2,g3⟩:=An2 f rfl b;refine⟨_,_,_,?_,⟨a,rfl,b,g1,g2,g3,h1,e⟩,b,rfl,rfl⟩;unfold E3;grind
def ApE(w:A7)(b:CD w):AD A8 20 #[.string ⟨#[104,116,116,112,115,58,47,47,104,47,97,47,98]⟩] w (λe w'=>∃S:AT,e=.returned (.tuple #[.agg (AB S),.bool true])/\Cy w' S Co/\AF w w w'):=by
 go_call YE as e w'⟨S,rfl,hu,hb⟩;have a:Du (ByteArray.toList ⟨#[104,116,116,112,115,58,47,47,104,47,97,47,98]⟩)=some Co:=by rw[show ByteArray.toList ⟨#[104,116,116,112,115,58,47,47,104,47,97,47,98]⟩=[104,116,116,112,115,58,47,47,104,47,97,47,98]from toList_mk _];exact Ai0
 rw[a]at hu⊢;exact⟨S,rfl,hu.w,hb⟩
def Ye(w:A7)(l:List A9)(h:l.length<=100)(a:∀t∈l,t.size<=100):Ib (w.alloc (.cells (l.map Value.string).toArray 9)) ⟨some ⟨w,0,none⟩,l.length,l⟩:=by
 refine⟨λ_=>⟨w,0,rfl,λi c=> ?_⟩,by unfold BK;show l.length<=_;omega,λt b=>CR (a t b) (by unfold BK;decide),λe=>LW⟩;rw[Db];refine((AM.new w (l.map Value.string).toArray 9).at i).trans ?_;rw[GB,GF,Cs c];rfl
def goP(g2 g3 g4:Nat):DF:=⟨⟨some ⟨g2,0,none⟩,2,[⟨#[104,116,116,112,115]⟩,⟨#[100,97,116,97]⟩]⟩,⟨some ⟨g3,0,none⟩,2,[⟨#[104]⟩,⟨#[46,99,46,100]⟩]⟩,⟨some ⟨g4,0,none⟩,1,[⟨#[105,109,97,103,101,47,112,110,103]⟩]⟩,200⟩
def Kn:Obj:=.cells #[.string ⟨#[104,116,116,112,115]⟩,.string ⟨#[100,97,116,97]⟩] 9
def Le:Obj:=.cells #[.string ⟨#[104]⟩,.string ⟨#[46,99,46,100]⟩] 9
def M7:Obj:=.cells #[.string ⟨#[105,109,97,103,101,47,112,110,103]⟩] 9
def Avx(w:A7):FW (((w.alloc Kn).alloc Le).alloc M7) (goP w (w.heap.size+1) (w.heap.size+1+1)):=by
 have b:=Ye (w.alloc Kn) [⟨#[104]⟩,⟨#[46,99,46,100]⟩] AE AE;have a:=Ye ((w.alloc Kn).alloc Le) [⟨#[105,109,97,103,101,47,112,110,103]⟩] AE AE;rw[DB]at b;rw[DB,DB]at a;exact⟨((Ye w [⟨#[104,116,116,112,115]⟩,⟨#[100,97,116,97]⟩] AE AE).below ((AU _ _).alloc (AG _) Le) (AG _)).below ((AU _ _).alloc (AG _) M7) (AG _),b.below ((AU _ _).alloc (AG _) M7) (AG _),a,BE⟩
def Aci:∃i,A8.info? 9=some i/\i.zero=some (.string ⟨#[]⟩)/\i.size=1/\i.bytes=16:=IQ AO
variable{rest:List Oper}
def Amq{ops:Array Oper}{o:Oper}{a:Act}{Q:Exit->Act->A7->Prop}(e:o.guard=none)(x y:A9)(d:o.op=.buildSlice 22 2 #[(0,.const (.string x)),(1,.const (.string y))])(h:Aq A8 ops Q rest (a.put o.dst (.slice (some ⟨w,0,none⟩) 2 2)) (w.alloc (.cells #[.string x,.string y] 9))):Aq A8 ops Q (o::rest) a w:=by
 obtain⟨i,f,c,b,-⟩:=Aci;refine wpList_buildSlice e 22 9 2 _ d #[.string x,.string y] i _ underlying22 f c A4 A4 ?_ h;rw[b];kernel_rfl
def AtL{ops:Array Oper}{o:Oper}{a:Act}{Q:Exit->Act->A7->Prop}(e:o.guard=none)(x:A9)(d:o.op=.buildSlice 22 1 #[(0,.const (.string x))])(h:Aq A8 ops Q rest (a.put o.dst (.slice (some ⟨w,0,none⟩) 1 1)) (w.alloc (.cells #[.string x] 9))):Aq A8 ops Q (o::rest) a w:=by
 obtain⟨i,f,c,b,-⟩:=Aci;refine wpList_buildSlice e 22 9 1 _ d #[.string x] i _ underlying22 f c A4 A4 ?_ h;rw[b];kernel_rfl
def AeS(w:A7)(l:A5)(a:List Int)(n:Nat)(q:Nat×Nat)(d:l.length=n)(b:a=l.map λc=>(c.toNat:Int)):Cv (w.alloc (.cells (a.map (Value.int .u8)).toArray 5 q)) (some ⟨w,0,none⟩) n n l:=by
 subst b d;refine⟨⟨rfl,AG _,λ_=>⟨w,0,rfl,λi f=> ?_⟩⟩,λe=>LW⟩;rw[Db];refine(World.cell?_alloc_mark w _ _ _ i).trans ?_;rw[GB,GF,GF,Cs f];rfl
def MO:List Int:=[120,32,49,120,44,47,47,101,32,50,120,44,32,104,116,116,112,115,58,47,47,81,46,67,46,68,47,39,38,97,109,112,59,44,32,100,97,116,97,58,105,109,97,103,101,47,103,105,102,44,97]
def M0:List Int:=[106,97,118,97,38,84,97,98,59,115,99,114,105,112,116,58,120]
def AxM:MO=J8.map λc=>(c.toNat:Int):=AX
def Ayl:M0=I9.map λc=>(c.toNat:Int):=AX
structure NA(w wx:A7)(g1 g3:Nat)(S:AT)(p:DF):Prop where
 below:AF w w wx
 u:AM wx g1 (AB S) 34
 pc:AM wx g3 (Br p) 24
 uw:Cy wx S Co
 pi:FW wx p
def NA.keep{c:A7}{b g3:Nat}{S:AT}(h:NA w wx b g3 S p)(a:AF wx wx c):NA w c b g3 S p:=⟨h.below.next a,h.u.keep a,h.pc.keep a,h.uw.next a,h.pi.below a (AG _)⟩
def NA.alloc{a g3:Nat}{S:AT}(h:NA w wx a g3 S p)(o:Obj):NA w (wx.alloc o) a g3 S p:=h.keep ((AU _ _).alloc (AG _) o)
def Att:A8.eqGuardType A8.depth 40=false:=AO
def AeV(k y:Nat)(t:A9):(A8.info? 40).map (·.size)=some (BF k y t).size:=by show _=some 3;kernel_rfl
abbrev goT:A9:=⟨#[104,116,116,112,115,58,47,47,104,47,97,47,120,32,49,120,44,32,104,116,116,112,115,58,47,47,113,46,99,46,100,47,38,35,51,57,59,38,97,109,112,59]⟩
abbrev goU(z:List Int):Obj:=.cells (z.map (Value.int .u8)).toArray 5 ((z.map (Value.int .u8)).toArray.size,(z.map (Value.int .u8)).toArray.size+1)
def Azr(w:A7)(x:CD w):AD A8 6 #[] w (GG w true):=by
 have o:=ApE w x;replace x:=H0 x;go_in;go_wp2_with fail;refine o.mono ?_;rintro e q⟨S,rfl,hu,k⟩;have f:AM (q.alloc (.cells (AB S) 34)) q.heap.size (AB S) 34:=AM.new _ _ _;have m:AF w w (q.alloc (.cells (AB S) 34)):=k.alloc k.size _;have n:Cy (q.alloc (.cells (AB S) 34)) S Co:=hu.next (Ah _ _);obtain⟨a,t⟩:∃a,q.alloc (.cells (AB S) 34)=a:=⟨_,rfl⟩;go_upto_region 2 with(refine Cw (AB S) ?_);rw[t]at f m n⊢;generalize hg1:q.heap.size=g1 at f⊢;clear t hg1 hu k o;have H:NA w (((a.alloc Kn).alloc Le).alloc M7 |>.alloc (.cells (Br (goP a (a.heap.size+1) (a.heap.size+1+1))) 24)) g1 (a.heap.size+1+1+1) S (goP a (a.heap.size+1) (a.heap.size+1+1)):=by
  have J:AF a a (((a.alloc Kn).alloc Le).alloc M7):=(((AU _ _).alloc (AG _) Kn).alloc (by rw[DB];omega) Le).alloc US M7;have B:AF a a (((a.alloc Kn).alloc Le).alloc M7 |>.alloc (.cells (Br (goP a (a.heap.size+1) (a.heap.size+1+1))) 24)):=J.alloc J.size _;have K:=AM.new (((a.alloc Kn).alloc Le).alloc M7) (Br (goP a (a.heap.size+1) (a.heap.size+1+1))) 24;rw[DB,DB,DB]at K;exact⟨m.next B,f.keep B,K,n.next B,(Avx a).below (Ah _ _) (AG _)⟩
 go_upto_region 5 with(first|(refine Amq rfl _ _ rfl ?_)|(refine AtL rfl _ rfl ?_)|(refine wpList_buildTo rfl _ _ rfl _ rfl (Br (goP a (a.alloc Kn).heap.size ((a.alloc Kn).alloc Le).heap.size)) AO ?_)|(refine Jf rfl 24 _ _ rfl rfl (Br (goP a (a.heap.size+1) (a.heap.size+1+1))) _ _ _ rfl AN rfl R5 rfl AO ?_));refine As (R:=λwx=>NA w wx g1 (a.heap.size+1+1+1) S (goP a (a.heap.size+1) (a.heap.size+1+1))) H ?_;clear H f m n;intro C d;obtain⟨g3,i⟩:=AI (a.heap.size+1+1+1);obtain⟨p,o,A,D⟩:∃p,goP a (a.heap.size+1) (a.heap.size+1+1)=p/\EL p.schemes.l p.hosts.l p.types.l=Fg/\p.most=200:=⟨_,rfl,rfl,rfl⟩;rw[i,o]at d;rw[i];try rw[o]
 clear i o;change Hid _ at A D;have c:=Lib.run_convert_bytes_const (P:=A8) C 25 5 (MO.map (Value.int .u8)).toArray 51 51 underlying25 underlying5;have j:=AeS C J8 MO 51 ((MO.map (Value.int .u8)).toArray.size,(MO.map (Value.int .u8)).toArray.size+1) rfl AxM;have b:=d.alloc (goU MO);generalize hwc:C.alloc (goU MO)=wc at c j b;have hf:=H0 (Avy p S ⟨#[105,109,103]⟩ ⟨#[115,114,99,115,101,116]⟩ _ 51 51 wc (x.out.next b.below) b.pi A D b.uw AgO j);clear hwc j;go_wp2_with(first|(refine At d.pc ?_)|(refine At d.u ?_)|(refine wpList_buildFlat rfl _ 5 51 _ rfl .u8 MO underlying25 AO AO rfl AE AE AO ?_));refine hf.out.mono ?_;rintro e h⟨rfl,s⟩;rw[show(⟨Sg.toArray⟩:A9)=goT from rfl];have r:=(b.keep s).alloc (.cells (BF 3 0 goT) 40);have g:AM (h.alloc (.cells (BF 3 0 goT) 40)) h.heap.size (BF 3 0 goT) 40:=AM.new _ _ _;obtain⟨y,v⟩:∃y,h.alloc (.cells (BF 3 0 goT) 40)=y:=⟨_,rfl⟩;go_upto_region 6 with(refine Cw (BF 3 0 goT) ?_);rw[v]at r g⊢;generalize hg4:h.heap.size=g4 at g⊢;clear v hg4 d b c hf s;have d:=r;clear r;have c:=Lib.run_convert_bytes_const (P:=A8) y 25 5 (M0.map (Value.int .u8)).toArray 17 17 underlying25 underlying5;have j:=AeS y I9 M0 17 ((M0.map (Value.int .u8)).toArray.size,(M0.map (Value.int .u8)).toArray.size+1) rfl Ayl;have b:=d.alloc (goU M0);have F:=g.alloc (goU M0);generalize hwc:y.alloc (goU M0)=wc at c j b F;have hf:=H0 (AoY p S ⟨#[97]⟩ ⟨#[104,114,101,102]⟩ _ 17 17 wc (x.out.next b.below) b.pi A D b.uw Aiu j);clear hwc j;go_wp2_with(first|(refine At d.pc ?_)|(refine At d.u ?_)|(refine wpList_buildFlat rfl _ 5 17 _ rfl .u8 M0 underlying25 AO AO rfl AE AE AO ?_));refine hf.out.mono ?_;rintro e h⟨rfl,s⟩;have r:=(b.keep s).alloc (.cells (BF 2 4 ⟨#[]⟩) 40);have E:AM (h.alloc (.cells (BF 2 4 ⟨#[]⟩) 40)) h.heap.size (BF 2 4 ⟨#[]⟩) 40:=AM.new _ _ _;have z:=(F.keep s).alloc (.cells (BF 2 4 ⟨#[]⟩) 40);obtain⟨I,G⟩:∃I,h.alloc (.cells (BF 2 4 ⟨#[]⟩) 40)=I:=⟨_,rfl⟩;go_upto_region 7 with(refine Cw (BF 2 4 ⟨#[]⟩) ?_);rw[G]at r E z⊢;generalize hg5:h.heap.size=g5 at E⊢;clear G hg5 d b c hf s g F;have N:=Att;have M:=λw=>AiZ w 3 0 goT;have L:=λw=>AiZ w 2 4 ⟨#[]⟩;go_wp2_with(first|(refine At z ?_)|(refine wpList_buildTo rfl _ _ rfl _ rfl (BF 3 0 goT) AO ?_)|(refine IM BE ?_;refine At E ?_)|(refine IM BE ?_;refine wpList_buildTo rfl _ _ rfl _ rfl (BF 2 4 ⟨#[]⟩) AO ?_));go_ret;exact⟨rfl,r.below⟩
structure Ll(w wx:A7)(p:DF):Prop where
 below:AF w w wx
 pc:AM wx w (Br p) 24
 pi:FW wx p
def Ll.keep{b:A7}(h:Ll w wx p)(a:AF wx wx b):Ll w b p:=⟨h.below.next a,h.pc.keep a,h.pi.below a (AG _)⟩
def Ll.alloc(h:Ll w wx p)(o:Obj):Ll w (wx.alloc o) p:=h.keep ((AU _ _).alloc (AG _) o)
end Go.Proofs.YtonomfeipkdmhaaGreatDoor
