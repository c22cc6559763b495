/- Lemmas. -/
import Derived.Test.YtonomfeipkdmhaaGreatDoorZm11
import Derived.Test.YtonomfeipkdmhaaGreatDoorZm17
set_option linter.all false
set_option maxRecDepth 100000
set_option maxHeartbeats 16000000
namespace Go.Proofs.YtonomfeipkdmhaaGreatDoor
open Go renaming World->A7,Calls->AD,Value->AJ,Ending->Ag
open Go.RowKit renaming Below->AF
open Go.RowKit Go.Proofs.Tryz
open Go.Proofs.Tryz renaming prog->A8
def AbJ(s:A9)(w:A7):AD A8 111 #[.string s,.string ⟨#[47,47]⟩] w (AzJ (.bool (Lib.hasPrefix s [47,47])) w):=by
 go_call Tryz.strings_HasPrefix;refine AH ?_;have a:(ByteArray.mk #[47,47]).data.toList=[47,47]:=rfl;rw[(BQ ..).symm];exact⟨rfl,rfl⟩
def Aze(B:AT)(b:AZ)(p:Ev)(w:A7)(i:CD w)(d:Cy w B b)(m:JZ B)(c:Mk p):AD A8 86 #[.agg (AB B),.agg (Ad p)] w (LU (J4 b p.l) w):=by
 obtain⟨R,n⟩:=AI (J4 b p.l);rw[n];have hv:=n.symm;unfold J4 at hv;replace n:=H0 n;have hI:=Fy.start w (AB B) 34 (Ad p) 72;have vY:=H0 (λw i d=>Axa B b p w i d m c);have C:=H0 (λw i=>AxR p w i c);have wI:=H0 (λw d=>AvV B b p w d m c);have hrel:=H0 (λw i d=>AmS B b p w i d m c);have hsp:=H0 (λw=>NN p.sch w);have cW:=H0 (λw=>AbJ p.rest w);have H:=c.rz;have M:=c.qz;have G:=c.fz;have tB:=H0 c.q;have uI:=H0 c.f;have aF:=H0 (λw=>S9 p.sch p w A4 A4);have nR:=H0 (λw=>Ac0 p.sch p.rest w A4);have cA:=H0 i;have gX:=H0 d;have s:=H0 d.is;clear c i d m;rw[show p.l.hs=p.hs from rfl,show p.l.sch=p.sch.toList from rfl,show p.l.rest=p.rest.toList from rfl]at hv;obtain⟨x,t⟩:=AI (p.hs);obtain⟨A,v⟩:=AI ((p.sch.toList==Av));have K:(p.sch.toList==[102,105,108,101])=A:=v;obtain⟨z,hSP⟩:=AI (Ar p.sch.toList);obtain⟨O,hO⟩:=AI (b.opq);obtain⟨F,hF⟩:=AI ((b.scheme==Av));have L:(B.scheme.toList==[102,105,108,101])=F:=by rw[s.out.scheme];exact hF
 obtain⟨D,o⟩:=AI ((p.sch.toList==b.scheme));have J:(p.sch.toList==B.scheme.toList)=D:=by rw[s.out.scheme];exact o
 obtain⟨E,j⟩:=AI (Lib.hasPrefix p.rest.toList [47,47]);rw[t,v,hSP,hO,hF,o,j]at hv;rw[hSP]at hsp;rw[j]at cW;have w0:∀{wx:A7},AM wx (w.heap.size+1) (Ad p) 72->wx.cell? ⟨w.heap.size+1,0,none⟩=some (.bool x):=λh=>(h.at 0).trans (by rw[<-t];rfl);have y:∀{wx:A7},AM wx w (AB B) 34->wx.cell? ⟨w,16,none⟩=some (.bool O):=λh=>(h.at 16).trans (by rw[<-hO,<-s.out.opq];rfl);change Hid _ at t v hSP hO hF o j hv;go_in;go_upto_region 1 with(fail);refine As (R:=λwx=>Fy w wx (AB B) 34 (Ad p) 72) hI ?_;clear hI;intro I hI;have y0:=w0 hI.b;have y1:=(hI.b.at 1).trans (show(Ad p)[1]?=some (.string p.sch)from rfl);have y2:=(hI.b.at 2).trans (show(Ad p)[2]?=some (.string p.rest)from rfl);have z6:=y hI.a;have z0:=(hI.a.at 0).trans (show(AB B)[0]?=some (.string B.scheme)from rfl);clear w0 y;cases x with
 |true=>
  cases A with
  |true=>
   have hf:=H0 (hv.out.trans (AC rfl));go_upto_region 4 with(first|((go_at_call 145;go_call NN;refine AH ?_))|((go_at_call 111;go_call AbJ;refine AH ?_)));exact AcO
  |false=>
   have aR:=hv.out.trans (AA AS);cases z with
   |true=>
    cases D with
    |false=>
     exact Adr
    |true=>
     cases E with
     |true=>
      exact Adr
     |false=>
      have k:=aR.trans (AA AE);replace k:=k.trans (AA AE);clear aR;cases O with
      |true=>
       have hf:=H0 (k.trans (AC rfl));clear k;exact AcS
      |false=>
       have hf:=H0 (k.trans (AA AE));clear k;exact AdV
   |false=>
    have hf:=H0 ((aR.trans (AA AS)).trans (AC rfl));clear aR;go_upto_region 10 with(first|((go_at_call 145;refine(hsp.out _).mono (AH ?_)))|((go_at_call 111;refine(cW.out _).mono (AH ?_))));go_wp2_with(first|(refine At hI.b ?_));refine(C.out _ (cA.out.next hI.below)).mono ?_;exact U9
 |false=>
  cases O with
  |true=>
   have hf:=H0 ((((hv.out.trans (AA AS)).trans (AA AS)).trans (AA AS)).trans (AC rfl));exact AcS
  |false=>
   cases F with
   |true=>
    have hf:=H0 (hv.out.trans (AC AS));go_upto_region 4 with(first|((go_at_call 145;refine(hsp.out _).mono (AH ?_)))|((go_at_call 111;refine(cW.out _).mono (AH ?_))));exact AcO
   |false=>
    have hf:=H0 ((((hv.out.trans (AA AS)).trans (AA AS)).trans (AA AS)).trans (AA AE));exact AdV
def AoI(p q:Addr)(w:A7):CallsD A8 85 #[.pointer (some p),.pointer (some q)] .returning w λe a w'=>e=.returned (.tuple #[])/\a=.returning/\w'=w:=by
 refine callsD_of_wpS func85 rfl λc₀ cs hu=> ?_;exact Aia
def Apc(g g2 B:Nat)(j:AJ)(i:List PanicEntry)(w:A7)(c:Array AJ)(b:AJ)(h:AM w g c 34)(hc:c.size=23)(l:w.heap[g2]?=some (.cells #[b] 4))(d:g≠g2)(k:B<=g)(o:B<=g2):CallsD A8 85 #[.pointer (some ⟨g,0,none⟩),.pointer (some ⟨g2,0,none⟩)] (.panicking ({v:=.iface 190 j,recovered:=false}::i)) w λe n w'=>e=.returned (.tuple #[])/\n=.panicking ({v:=.iface 190 j,recovered:=true}::i)/\AM w' g (AB zS) 34/\w'.heap[g2]?=some (.cells #[.bool false] 4)/\AF B w w':=by
 have f:=(LZ w g g2 (AB zS) (Jb d)).trans l;have m:AM (w.setRow g (AB zS)) g (AB zS) 34:=h.set _;have p:(w.setRow g (AB zS)).cell? ⟨g2,0,none⟩=some b:=by simp[World.cell?,f]
 have q:(w.setRow g (AB zS)).frozen? ⟨g2,0,none⟩=false:=by simp[World.frozen?,f]
 have a:AF B w (w.setRow g (AB zS)):=Au (AU _ _) k _;refine callsD_of_wpS func85 rfl λc₀ cs hu=> ?_;apply wpS_seq;apply wpS_region;simp[wpOpsS,go_sem,recoverD,hu];refine wpS_cond (t:=true) BE ?_;refine wpS_of_wp ?_;go_wp2_with(first|(refine Fb rfl 34 _ _ rfl g (AB zS) rfl rfl 34 c h (Bj _) hc (EO _) ?_));refine Ah2 _ _ rfl rfl (by simp[results]) ⟨rfl,rfl,?_,?_,?_⟩
 ·exact(Lr d 0 _).trans m
 ·exact Ro f 0 _
 exact a.setCell o _
variable{w:A7}{g g2:Nat}{S:AT}
def AhU{a:Array AJ}{b:Bool}(e:a.getD 4 undef=.pointer (some ⟨g,0,none⟩))(d:a.getD 5 undef=.pointer (some ⟨g2,0,none⟩))(i:AM w g (AB S) 34)(f:w.heap[g2]?=some (.cells #[.bool b] 4)):(results Tryz.f36 a).run A8 w=.ok (.tuple #[.agg (AB S),.bool b]) w:=by
 have c:w.cell? ⟨g2,0,none⟩=some (.bool b):=by simp[World.cell?,f]
 have h:(loadVar 4 ⟨g2,0,none⟩).run A8 w=.ok (.bool b) w:=by simp[go_sem,c]
 rw[AhH rfl,e,d];simp[asAddr,Sem.run_pure,Result.andThen,K8 w g 34 34 (AB S) _ _ i underlying34 rfl (Bj _),h]
def Aki(g g2:Nat):List Deferred:=[{target:=.fn (.func 85) #[.pointer (some ⟨g,0,none⟩),.pointer (some ⟨g2,0,none⟩)],args:= #[]}]
variable{R:Ag->A7->Prop}
def Alk{a:Array AJ}{b:Bool}(d:a.getD 4 undef=.pointer (some ⟨g,0,none⟩))(c:a.getD 5 undef=.pointer (some ⟨g2,0,none⟩))(j:AM w g (AB S) 34)(i:w.heap[g2]?=some (.cells #[.bool b] 4))(h:R (.returned (.tuple #[.agg (AB S),.bool b])) w):Leaves A8 Tryz.f36 a R (Aki g g2) .returning w:=by
 refine leaves_cons (f:=85) (args:= #[.pointer (some ⟨g,0,none⟩),.pointer (some ⟨g2,0,none⟩)]) AN (by simp[go_sem]) ?_;refine(AoI ⟨g,0,none⟩ ⟨g2,0,none⟩ w).mono ?_;rintro e k w'⟨rfl,rfl,rfl⟩;exact⟨_,AhU d c j i,h⟩
def Avh{a:Array AJ}{B:Nat}{b d:AJ}(p:a.getD 4 undef=.pointer (some ⟨g,0,none⟩))(h:a.getD 5 undef=.pointer (some ⟨g2,0,none⟩))(n:AM w g (AB S) 34)(j:w.heap[g2]?=some (.cells #[b] 4))(c:g≠g2)(i:B<=g)(o:B<=g2)(l:∀w',AF B w w'->R (.returned (.tuple #[.agg (AB zS),.bool false])) w'):Leaves A8 Tryz.f36 a R (Aki g g2) (.panicking [{v:=.iface 190 d,recovered:=false}]) w:=by
 refine leaves_cons (f:=85) (args:= #[.pointer (some ⟨g,0,none⟩),.pointer (some ⟨g2,0,none⟩)]) AN (by simp[go_sem]) ?_;refine(Apc g g2 B d [] w (AB S) b n (Ah1 _) j c i o).mono ?_;rintro e r w'⟨rfl,rfl,k,q,m⟩;exact⟨_,AhU p h k q,l _ m⟩
def Ip(o:Option AZ)(w:A7)(e:Ag)(w':A7):Prop:=∃S:AT,e=.returned (.tuple #[.agg (AB S),.bool o.isSome])/\CS w' w S (o.getD EH)/\AF w w w'
variable{w':A7}
def Rk{o:Option AZ}(h:o=none)(a:AF w w w'):Ip o w (.returned (.tuple #[.agg (AB zS),.bool false])) w':=by
 subst h;exact⟨zS,rfl,Ra Vv rfl rfl rfl,a⟩
def Aa6{o:Option AZ}{u:AZ}(h:o=some u)(hu:CS w' w S u)(a:AF w w w'):Ip o w (.returned (.tuple #[.agg (AB S),.bool true])) w':=by subst h;exact⟨S,rfl,hu,a⟩
structure Jq(w wx:A7)(B:AT)(p:Ev)(S:AT):Prop where
 below:AF w w wx
 size:w.heap.size+4<=wx.heap.size
 a:AM wx w (AB B) 34
 b:AM wx (w.heap.size+1) (Ad p) 72
 r:AM wx (w.heap.size+2) (AB S) 34
 o:wx.heap[w.heap.size+3]?=some (.cells #[.bool false] 4)
def Jq.start(w:A7)(B:AT)(p:Ev):Jq w ((((w.alloc (.cells (AB B) 34)).alloc (.cells (Ad p) 72)).alloc (.cells (AB zS) 34)).alloc (.cells #[.bool false] 4)) B p zS:=by
 have h:=Fy.start w (AB B) 34 (Ad p) 72;refine⟨h.below.alloc (by rw[DB,DB,DB];omega) _,AS,h.a.alloc _,h.b.alloc _,h.r.alloc _,?_⟩;have:=CB (((w.alloc (.cells (AB B) 34)).alloc (.cells (Ad p) 72)).alloc (.cells (AB zS) 34)) (.cells #[.bool false] 4);rwa[DB,DB,DB]at this
variable{wx:A7}{B:AT}{p:Ev}
def Jq.next{c:A7}(h:Jq w wx B p S)(hb:AF wx wx c):Jq w c B p S:=
 ⟨h.below.next hb,Ks,h.a.keep hb,h.b.keep hb,h.r.keep hb,(hb.block _ Q2).trans h.o⟩
def Jq.setRow(h:Jq w wx B p S)(T:AT):Jq w (wx.setRow (w.heap.size+2) (AB T)) B p T:=
 ⟨Au h.below A4 _,by have:=h.size;rw[Nr];exact this,h.a.other A4 _,h.b.other A4 _,h.r.set _,(LZ _ _ _ _ A4).trans h.o⟩
def Jq.cello(h:Jq w wx B p S):wx.cell? ⟨w.heap.size+3,0,none⟩=some (.bool false)/\wx.frozen? ⟨w.heap.size+3,0,none⟩=false:=by
 constructor
 ·simp[World.cell?,h.o]
 simp[World.frozen?,h.o]
def CS.cellSet{B K:Nat}{u:AZ}(h:CS w B S u)(j:g<B)(d:K<=B)(i:Nat)(v:AJ):CS (w.setCell ⟨g,i,none⟩ v) K S u:=by
 refine⟨h.is,Jl ⟨h.own.1,?_⟩ d⟩;rcases h.own.2 with k|⟨g2,b,a,e,c,f,rest⟩
 ·simp_all
 exact .inr ⟨g2,b,a,e,c,by rw[Lr A4];exact f,rest⟩
def Abh(B:AT)(b:AZ)(p:Ev)(w:A7)(q:CD w)(k:Cy w B b)(n:JZ B)(v:Mk p):AD A8 36 #[.agg (AB B),.agg (Ad p)] w (Ip (J4 b p.l) w):=by
 have f:=Jq.start w B p;obtain⟨w0,c⟩:∃w0,(((w.alloc (.cells (AB B) 34)).alloc (.cells (Ad p) 72)).alloc (.cells (AB zS) 34)).alloc (.cells #[.bool false] 4)=w0:=⟨_,rfl⟩;have g:=Aze B b p w0 (by have:=f.below;rw[c]at this;exact q.next this) (by have:=f.below;rw[c]at this;exact k.next this) n v;rw[c]at f;generalize hR:J4 b p.l=R at g⊢;go_enter_defers func36,ntmps36;go_upto_region 2 with(fail);refine As (R:=λwx=>wx=w0) c ?_;rintro _ rfl;go_wp2_with(first|(refine At f.a ?_)|(refine At f.b ?_));refine g.mono ?_;rintro e t⟨d,j⟩;have x:=f.size;have h:=f.next j;cases R with
 |none=>
  obtain⟨y,rfl⟩:=d;exact Avh rfl rfl h.r h.o A4 A4 A4 (λw' s=>Rk rfl (h.below.trans s))
 |some u=>
  obtain⟨S,rfl,hu⟩:=d;have i:=h.setRow S;have⟨y0,f2⟩:=i.cello;have m:CS ((t.setRow (w.heap.size+2) (AB S)).setCell ⟨w.heap.size+3,0,none⟩ (.bool true)) w.heap.size S u:=CS.cellSet (hu.row A4 (AG _) _) A4 A4 0 _;go_wp2_with(refine Ax h.r (AB S) ?_);exact Alk rfl rfl ((Lr A4 0 _).trans i.r) (Ro i.o 0 (.bool true)) (Aa6 rfl m (i.below.setCell (p:=⟨w.heap.size+3,0,none⟩) AN _))
def Alm(l:A5):((Cq l).hq=false->(Cq l).qry=[])/\((Cq l).hf=false->(Cq l).frg=[])/\(Cq l).rest.length<=l.length/\(Cq l).qry.length<=l.length/\(Cq l).frg.length<=l.length/\(Cq l).sch.length<=l.length:=by
 have b:=HA 35 l;have h1:=HA 63 (AL 35 l).1;have a:=HA 58 (AL 63 (AL 35 l).1).1;have d:∀c(m:A5),(AL c m).2.2=false->(AL c m).2.1=[]:=λc m h=>(Uq c m h).2;unfold Cq;dsimp only;split
 ·grind[VL]
 grind
def Z1{l:A5}(h:p.l=Cq l)(a:l.length<=1100000):Mk p:=by
 have b:=Alm l;rw[<-h]at b;have⟨h1,h2,h3,h4,h5,h6⟩:=b;exact⟨h1,h2,by rw[<-AK];exact CR h3 a,by rw[<-AK];exact CR h4 a,by rw[<-AK];exact CR h5 a⟩
def Aqy:JZ zS:=⟨AR _,λt h=>C5⟩
def Wd{P:F9}{e:Ag}(h:X9 w P e w'):∃p:Ev,e=.returned (.agg (Ad p))/\Hid (p.l=P)/\AF w w w':=by
 obtain⟨a,b,c,d,rfl,h1,i,f,g,j⟩:=h;refine⟨⟨P.hs,a,b,P.hq,c,P.hf,d⟩,rfl,H0 ?_,j⟩;show(⟨P.hs,a.toList,b.toList,P.hq,c.toList,P.hf,d.toList⟩:F9)=P;rw[h1.out,i.out,f.out,g.out]
def Yi(l:A5):(EQ l).length<=l.length:=by
 exact CR (Y5 _) (Ru _)
def G8{f:Func}{a:Act}{c:Array AJ}{b:Bool}{p u:Nat}(hf:f.results= #[.cell p 34,.tmp u])(e:a.tmps.getD p undef=.pointer (some ⟨g,0,none⟩))(d:a.tmps.getD u undef=.bool b)(k:a.defers=[])(i:AM w g c 34)(j:(A8.info? 34).map (·.size)=some c.size)(h:R (.returned (.tuple #[.agg c,.bool b])) w):bodyPost A8 f R .ret a w:=by
 refine IC ?_ k h;rw[OG hf,e,d];simp[asAddr,K8 w g _ 34 _ _ _ i underlying34 rfl j]
def Ar9(B:AT)(b:AZ)(s:A9)(w:A7)(o:CD w)(m:Cy w B b)(x:JZ B)(H:s.size<=1100000):AD A8 15 #[.agg (AB B),.string s] w (Ip (IJ b s) w):=by
 have c:=Cu.start w (AB B) 34 (AB zS) 34;have n:=H0 (λw=>Aif s w A4);have r:=H0 o;have z:=H0 m;clear o m;have f:=Yi s;rw[AK]at f;obtain⟨R,k⟩:=AI (IJ b s);rw[k];unfold IJ at k;generalize hC:EQ s.toList=C at k n f;change Hid _ at k hC;go_in;go_upto_region 1 with(fail);refine As (R:=λwx=>Cu w wx (AB B) 34 (AB zS) 34) c ?_;clear c;intro D c;have c:=c.drew;refine rds (λw'=>AM w' w (AB B) 34) c.a λd=> ?_;refine tq 1 ?_;refine tkm 0 (λ_ h=>h.whole) ?_;refine rdk 2 λK j=> ?_;go_simp;refine(n.out _).mono ?_;rintro e G⟨t,rfl,q,g⟩;have c:=c.keep g;clear g d;go_wp2_with fail;refine rdg j c.a λd=> ?_;have y:t.size<=1100000:=by rw[<-AK,q.out];omega
 refine rdk 3 λK j=> ?_;go_simp;refine(Abs t _ (r.out.next c.below).ml A4).mono ?_;intro e E i;obtain⟨p,rfl,l,g⟩:=Wd i;rw[q.out]at l;have v:=Z1 l A4;have c:=c.keep g;clear g d i;go_wp2_with fail;refine rdg j c.a λd=> ?_;refine rdk 4 λK j=> ?_;go_simp;refine(Abh B b p _ (r.out.next c.below) (z.out.next c.below) x v).mono ?_;rintro e F⟨S,rfl,hu,g⟩;have u:=c.b.lt;have A:=c.below.size;have c:=c.keep g;rw[l.out,k.out]at hu⊢;replace hu:=H0 hu;clear g d;go_wp2_with fail;refine j.out _ _ (c.a) (λd=> ?_);clear j K;refine JW 5 11 ?_ d ?_ ?_;rotate_left
 ·exact G3
 refine JW 6 12 ?_ d ?_ ?_;rotate_left
 ·exact G3
 refine rdy 7 ?_;refine Ax c.b (AB S) ?_ (h1:=(EO _));have c:=c.setB (AB S);refine rde c.a λd=> ?_;refine JW 8 5 ?_ d ?_ ?_;rotate_left
 ·exact G3
 refine rdn ?_;go_wp2_with fail;refine G8 rfl rfl rfl rfl c.b (Bj _) ?_;exact⟨S,rfl,hu.out.row u A _,c.below⟩
def YE(s:A9)(w:A7)(B:CD w)(P:s.size<=1100000):AD A8 20 #[.string s] w (Ip (Du s) w):=by
 have y:=H0 (λw=>Aif s w A4);have G:=H0 B;clear B;have b:=Yi s;rw[AK]at b;obtain⟨R,n⟩:=AI (Du s);rw[n];unfold Du at n;generalize hC:EQ s.toList=C at n y b;change Hid _ at n hC;have D:=Ah w (.cells (AB zS) 34);have A:AM (w.alloc (.cells (AB zS) 34)) w.heap.size (AB zS) 34:=AM.new _ _ _;go_in;go_upto_region 1 with(fail);refine As (R:=λwx=>AF w w wx/\AM wx w (AB zS) 34) ⟨D,A⟩ ?_;clear D A;rintro N⟨m,E⟩;go_wp2_with fail;go_call y as e w2⟨t,rfl,ht,a⟩;have g:=m.next a;have i:=E.keep a;have J:t.size<=1100000:=by rw[<-AK,ht.out];omega
 clear a m E;go_wp2_with fail;refine(Abs t _ (G.out.next g).ml A4).mono ?_;intro e h c;obtain⟨p,rfl,u,a⟩:=Wd c;rw[ht.out]at u;have I:=Z1 u A4;have d:=g.next a;have o:=i.keep a;have K:=d.size;clear a c g i;have H:AF w w (h.alloc (.cells (Ad p) 72))/\AM (h.alloc (.cells (Ad p) 72)) w.heap.size (AB zS) 34/\AM (h.alloc (.cells (Ad p) 72)) h.heap.size (Ad p) 72:=⟨d.alloc K _,o.alloc _,AM.new _ _ _⟩;go_upto_region 2 with(refine Cw (Ad p) ?_);refine As (R:=λwx=>AF w w wx/\AM wx w (AB zS) 34/\AM wx h (Ad p) 72) H ?_;clear H d o;rintro O⟨f,r,j⟩;have hf:=n.out;rw[<-u.out]at hf;obtain⟨z,q⟩:=AI (p.hs);have M:=(j.at 0).trans (show(Ad p)[0]?=some (.bool z)by rw[<-q];rfl);rw[show p.l.hs=p.hs from rfl,q]at hf;replace q:=H0 q;cases z with
 |false=>
  have k:=H0 (hf.symm.trans (AA AE));go_wp2_with(first|(refine OE (AB zS) ?_ (hf:=PJ))|(refine Ax r (AB zS) ?_));refine G8 rfl rfl rfl rfl (r.set _) (Bj _) ?_;simp_all[Rk,Au,AG]
 |true=>
  have k:=H0 (hf.symm.trans (AC rfl));replace hf:=H0 hf;go_wp2_with(first|(refine OE (AB zS) ?_ (hf:=PJ))|(refine Cg rfl 72 _ rfl h rfl _ (Ad p) _ _ j underlying72 rfl (SI p) ?_));go_call(Abh zS EH p _ (G.out.next f) (AtR _) Aqy I) as e w6⟨S,rfl,hu,a⟩;rw[<-k.out]at hu⊢;have x:=r.lt;have L:=f.size;have v:=f.next a;have F:=r.keep a;replace hu:=H0 hu;go_wp2_with(refine Ax F (AB S) ?_);refine G8 rfl rfl rfl rfl (F.set _) (Bj _) ?_;exact⟨S,rfl,hu.out.row x L _,Au v (AG _) _⟩
def NQ(c:UInt8)(l:A5):DH (c::l)=if CL (c:Int)=true then DH l else c::l:=EF
def QQ(s:A9)(w:A7)(c:s.size<=1099511627776):AD A8 131 #[.string s] w (AfX s w (DH s)):=by
 go_in;go_wp2;go_loop[0] (λv=>∃u:A9,v=.string u/\u.size<=s.size/\Hid (DH u.toList=DH s)) (λv=>GO v)
 ·exact Uo
 obtain⟨u,rfl,hus,hu⟩:=hrel;by_cases b:0<u.size
 ·have a:=FZ u b;have j2:=hu.out;rw[a,NQ]at j2;cases hb:CL (u[0].toNat:Int)with
  |true=>
   rw[hb]at j2;go_wp2_with(go_call Hs;refine AH ?_);go_round;exact⟨_,rfl,Bk,j2⟩;simp[GO];omega
  |false=>
   rw[hb,<-a]at j2;go_wp2_with(go_call Hs;refine AH ?_);exact VM
 have e0:=(EW u).2 A4;have j2:=A6 (u.toList=DH s) (by rw[<-hu.out,e0];rfl);go_wp2;exact VM
def Amw{c:UInt8}{r:A5}(hc:CE (c:Int)=true):DH (c::r)=c::r/\((c:Int)!=34)=true/\((c:Int)!=39)=true:=by
 have⟨h1,h2,h3⟩:=AiK hc;exact⟨by rw[NQ,AA (by rw[show CL (c:Int)=false from h1];decide)],(Is h2).2,(Is h3).2⟩
def Aol(s:A9)(c:UInt8)(r:A5)(w:A7)(f:s.toList=[117,114,108,61]++c::r)(hc:CE (c:Int)=true)(o:s.size<=1000000000):AD A8 133 #[.string s] w (Bi w (c::r)):=by
 have m:5<=s.size:=by rw[<-AK,f];simp
 have n:3<=(s.size:Int):=A4;have b:(s.extract 0 3).toList=[117,114,108]:=by rw[toList_extract,f];rfl
 have a:(s.extract 3 s.size).toList=61::c::r:=by rw[toList_extract,Bc Dy,f];rfl
 have k:(s.extract 3 s.size).size<=1099511627776:=Bk;have⟨hbl,q34,q39⟩:=Amw (r:=r) hc;change Hid _ at hbl a;go_in;go_wp2_with fail;go_call O1 as e w1⟨t,rfl,ht,hb⟩;have g:(t.toList==[117,114,108])=true:=by rw[ht.out,b];decide
 go_wp2_with fail;go_call QQ as e w'⟨t1,rfl,ht1,hz1,hw⟩;obtain rfl:=hw.symm;rw[a.out,NQ,AA AE]at ht1;have⟨h1,e1⟩:=O4 ht1;have i:=Lj ht1;have l:1<=(t1.size:Int):=A4;have d:=A6 ((t1.extract 1 t1.size).toList=c::r) (by rw[Lx,ht1.out];rfl);have j:(t1.extract 1 t1.size).size<=1099511627776:=by have:=Jo t1 1 t1.size;have:=Jo s 3 s.size;omega
 go_wp2_with fail;go_call QQ as e w'⟨t2,rfl,ht2,hz2,hw⟩;obtain rfl:=hw.symm;rw[d.out,hbl.out]at ht2;have⟨h2,h⟩:=O4 ht2;have p:=Lj ht2;rw[<-h]at q34 q39;replace h:=H0 h;clear i g;go_wp2;go_ret;exact Be ht2 hb
def AvQ(D X:A9):A8.built 98 [(0,.string D),(1,.bool true),(2,.string X)]=some #[.string D,.bool true,.string X]:=AO
def Anc{f:Func}{a:Act}{c:Array AJ}{b:Bool}{p u:Nat}(hf:f.results= #[.cell p 98,.tmp u])(e:a.tmps.getD p undef=.pointer (some ⟨g,0,none⟩))(d:a.tmps.getD u undef=.bool b)(k:a.defers=[])(i:AM w g c 98)(j:(A8.info? 98).map (·.size)=some c.size)(h:R (.returned (.tuple #[.agg c,.bool b])) w):bodyPost A8 f R .ret a w:=by
 refine IC ?_ k h;rw[OG hf,e,d];simp[asAddr,K8 w g _ 98 _ _ _ i underlying98 rfl j]
def AwT(d x:A5)(w:A7)(e:Ag)(w':A7):Prop:=∃D X:A9,e=.returned (.tuple #[.agg #[.string D,.bool true,.string X],.bool true])/\Hid (D.toList=d)/\Hid (X.toList=x)/\AF w w w'
def Auv(s:A9)(d:A5)(c:UInt8)(r:A5)(w:A7)(hs:s.toList=d++[59,32,117,114,108,61]++c::r)(h1:d≠[])(h2:∀x∈d,D8 x=true)(h3:GE d=d)(hc:CE (c:Int)=true)(hz:s.size<=1000000000):AD A8 75 #[.string s] w (AwT d (c::r) w):=by
 have l:s.size=d.length+(6+(r.length+1)):=by rw[<-AK,hs,CQ,Aa];simp;omega
 have hdp:0<d.length:=FV.2 h1;obtain⟨n,hn⟩:=AI (d.length);rw[hn]at l hdp;have j:s.toList=d++(59::32::117::114::108::61::c::r):=by rw[hs,CQ];rfl
 have A:∀k(h:k<s.size),k<n->D8 s[k]=true:=λk h hk=>by
  have e:=Aw s k h;rw[j,Ge A4,Fr A4]at e;rw[<-(HY e).1];exact h2 _ (CI _)
 have M:∀h:n<s.size,s[n]=59:=λh=>by
  have e:=Aw s n h;rw[j,Ge A4,Cj A4]at e;exact(HY e).1.symm
 have P:(s.extract 0 n).toList=d:=by rw[toList_extract,j,C9,TF A4,Bc A4]
 have C:(s.extract n s.size).toList=59::32::117::114::108::61::c::r:=by rw[Lx,j,Ge A4,Cj A4];rfl
 have t:DH s.toList=s.toList:=by
  have i:0<s.size:=A4;have p:=A 0 i A4;have e:=Aw s 0 i;rw[C9]at e;have V:CL (s[0].toNat:Int)=false:=by
   have aT:∀q:Fin 256,D8 (UInt8.ofNat q.val)=true->CL ((UInt8.ofNat q.val).toNat:Int)=false:=AX;have:=aT ⟨s[0].toNat,s[0].toNat_lt⟩;simp only[RZ]at this;exact this p
  rw[e,NQ,AA (by rw[V];decide)]
 have H:d=[48]\/d.head?≠some 48:=by
  by_cases h:d.head?=some 48
  ·left;have:=Aom h3 h
   match d,h,this with
   |[x],h,_=>rw[Cm h]
  exact .inr h
 have z:∀{wx:A7},AF w w (wx.alloc (.cells #[.string ⟨#[]⟩,.bool false,.string ⟨#[]⟩] 98))->True:=λ_=>trivial;clear z;have aQ:=Ah w (.cells #[.string ⟨#[]⟩,.bool false,.string ⟨#[]⟩] 98);have dP:AM (w.alloc (.cells #[.string ⟨#[]⟩,.bool false,.string ⟨#[]⟩] 98)) w.heap.size #[.string ⟨#[]⟩,.bool false,.string ⟨#[]⟩] 98:=AM.new _ _ _;change Hid _ at hs j t A M P C hn H h1;have W:=H0 l;replace l:n+7<=s.size:=A4;clear h2 h3;go_in;go_upto_region 1 with(fail);refine As (R:=λwx=>AF w w wx/\AM wx w #[.string ⟨#[]⟩,.bool false,.string ⟨#[]⟩] 98) ⟨aQ,dP⟩ ?_;clear aQ dP;rintro w1⟨I,bW⟩;obtain⟨g,O⟩:=AI (w.heap.size);rw[O]at bW⊢;replace O:=H0 O;go_wp2_with fail;refine(QQ s _ A4).mono ?_;rintro e w'⟨o,rfl,L,T,J⟩;obtain rfl:=J.symm;obtain rfl:o=s:=Lo (L.out.trans t);clear L T;go_wp2_with fail;go_loop[4] (λv4=>∃k:Nat,v4=.int .i64 (k:Int)/\k<=n) (λv4=>n-(intOf v4).toNat)
 ·exact⟨0,rfl,AR _⟩
 obtain⟨k,rfl,hk⟩:=hrel;have kE:k<o.size:=A4;have jZ:(k:Int)<o.size:=A4;have dZ:IntKind.i64.wrap ((k:Int)+1)=(k:Int)+1:=BI _ A4;by_cases z:k<n
 ·have bY:¬AQ (o[k].toNat:Int) 10<0:=λh=>by
   have:=(QY _).1 h;rw[A.out k kE z]at this;exact absurd this AE
  have lJ:0<=AQ (o[k].toNat:Int) 10:=A4;go_wp2_with(go_at_call 132;refine(Eh _ _ _ (Bo _) (Bf _)).mono (AH ?_));go_round;exact⟨k+1,AP,A4⟩;exact AzF
 obtain rfl:k=n:=A4;have S:=M.out kE;have lJ:AQ (o[k].toNat:Int) 10<0:=by rw[S];decide
 replace S:=H0 S;have hkI2:(k:Int)<=o.size:=A4;have hk0:0<=(k:Int):=A4;go_upto_region 7 with(go_at_call 132;refine(Eh _ _ _ (Bo _) (Bf _)).mono (AH ?_));obtain⟨X,m⟩:=AI (o.extract k o.size);obtain⟨D,F⟩:=AI (o.extract 0 k);rw[m]at C;rw[F]at P;rw[m,F];have hzX:X.size<=o.size:=by rw[<-m];exact Jo _ _ _
 replace m:=H0 m;have U:D.toList.isEmpty=false:=by
  rw[P.out];cases p:d with
  |nil=>exact absurd p h1|cons a b=>rfl
 clear lJ;go_wp2_with fail;go_loop[5] (λv5=>∃u:A9,v5=.string u/\Hid (u.toList=d\/(u.toList=[]/\d=[48]))) (λv5=>GO v5)
 ·exact⟨D,rfl,H0 (.inl P)⟩
 obtain⟨u,rfl,hu⟩:=hrel;have f:(∃i:0<u.size,u.toList.isEmpty=false/\((u[0].toNat:Int)==48)=true/\Hid ((u.extract 1 u.size).toList=[]/\d=[48]))\/(∃i:0<u.size,u.toList.isEmpty=false/\((u[0].toNat:Int)==48)=false/\Hid (u.toList=d))\/(u.toList.isEmpty=true/\Hid (d=[48])):=by
  rcases hu.out with hu|⟨hu,p⟩
  ·cases p:d with
   |nil=>exact absurd p h1
   |cons a b=>
    rw[p]at hu;obtain⟨i,e0⟩:=O4 hu;rcases H.out with h|h
    ·rw[p]at h;obtain⟨rfl,rfl⟩:=HY h;exact .inl ⟨i,Lj hu,by rw[e0];rfl,H0 ⟨by rw[Lx,hu];rfl,rfl⟩⟩
    exact .inr (.inl ⟨i,Lj hu,by rw[e0];exact(Is (d:=48) (λe=>h (by rw[p,e];rfl))).1,H0 hu⟩)
  exact .inr (.inr ⟨Vb hu,H0 p⟩)
 clear hu;rcases f with⟨i,y,q,hx⟩|f
 ·have nS:1<=(u.size:Int):=A4;go_wp2_with fail;go_round;exact⟨_,rfl,H0 (.inr hx)⟩;simp[GO];omega
 have aD:∃Q:A9,Hid (Q.toList=d)/\((∃i:0<u.size,u.toList.isEmpty=false/\((u[0].toNat:Int)==48)=false/\Hid (u=Q))\/(u.toList.isEmpty=true/\Hid ((⟨#[48]⟩:A9)=Q))):=by
  rcases f with⟨i,y,q,hx⟩|⟨y,hx⟩
  ·exact⟨u,hx,.inl ⟨i,y,q,H0 rfl⟩⟩
  exact⟨⟨#[48]⟩,H0 ((toList_mk [48]).trans hx.out.symm),.inr ⟨y,H0 rfl⟩⟩
 clear f;obtain⟨Q,j0,f⟩:=aD;obtain⟨x0,e0⟩:=O4 C;have xne:=Lj C;have q46:((X[0].toNat:Int)==46)=false:=by rw[e0];rfl
 have q59:((X[0].toNat:Int)==59)=true:=by rw[e0];rfl
 have N:((X[0].toNat:Int)!=59)=false:=by rw[e0];rfl
 have jY:CL (X[0].toNat:Int)=false:=by rw[e0];decide
 have hdX:AQ (X[0].toNat:Int) 10<0:=by rw[e0];decide
 replace e0:=H0 e0;clear U;rcases f with⟨i,y,q,hx⟩|⟨y,hx⟩;all_goals
  obtain rfl:=hx.out;clear hx;go_upto_region 13 with fail;clear y;go_loop[0] (λv0=>v0=.string X) (λ_=>0)
  ·rfl
  obtain rfl:=hrel;go_wp2_with(first|(go_at_call 132;refine(Eh _ _ _ (Bo _) (Bf _)).mono (AH ?_))|(go_at_call 128;refine(Hs _ _).mono (AH ?_)));refine(QQ X _ A4).mono ?_;rintro e w'⟨v,rfl,G,hzX1,J⟩;obtain rfl:=J.symm;rw[C.out,NQ,AA AE,<-C.out]at G;obtain rfl:v=X:=Lo G;have nS:1<=(v.size:Int):=A4;have hY:=A6 ((v.extract 1 v.size).toList=32::117::114::108::61::c::r) (by rw[Lx,C.out];rfl);have hzY:=Jo v 1 v.size;go_wp2_with fail;refine(QQ (v.extract 1 v.size) _ A4).mono ?_;rintro e w'⟨Y,rfl,E,hzY2,J⟩;obtain rfl:=J.symm;rw[hY.out,NQ,AC AE,NQ,AA AE]at E;have yne:=Lj E;clear q46 q59 N jY hdX;go_wp2_with fail;refine(Aol Y c r _ E hc A4).mono ?_;rintro e w2⟨Z,rfl,hZ,B⟩;have K:=bW.keep B;have hb3:=I.next B;clear I bW B;go_wp2_with(first|(refine wpList_buildTo rfl _ _ rfl _ rfl #[.string _,.bool true,.string Z] (AvQ _ Z) ?_)|(refine Fb rfl 98 _ _ rfl g #[.string _,.bool true,.string Z] rfl rfl 98 _ K AO rfl AO ?_));refine Anc rfl rfl rfl rfl (K.set _) AO ?_;exact⟨_,Z,rfl,j0,hZ,Au hb3 (by rw[O.out];exact AG _) _⟩
end Go.Proofs.YtonomfeipkdmhaaGreatDoor
