/- Lemmas. -/
import Derived.Test.YtonomfeipkdmhaaGreatDoorZm18
import Derived.Test.YtonomfeipkdmhaaGreatDoorZm19
set_option linter.all false
set_option maxRecDepth 100000
set_option maxHeartbeats 16000000
namespace Go.Proofs.YtonomfeipkdmhaaGreatDoor
open Go renaming World->A7,Calls->AD,Value->AJ,TypeId->Ab,Ending->Ag
open Go.RowKit renaming Below->AF
open Go.RowKit Go.Proofs.Tryz
open Go.Proofs.Tryz renaming prog->A8
variable{w:A7}{g:Nat}
def Fj{f:Func}{R:Ag->A7->Prop}{a:Act}{c:Array AJ}{p:Nat}{T:Ab}{b:Array Field}(hf:f.results= #[.cell p T])(d:a.tmps.getD p undef=.pointer (some ⟨g,0,none⟩))(j:a.defers=[])(e:AM w g c T)(hu:A8.underlying T=some (.struct b))(i:(A8.info? T).map (·.size)=some c.size)(h:R (.returned (.agg c)) w):bodyPost A8 f R .ret a w:=by
 refine IC ?_ j h;rw[Acc hf,d];simp[asAddr,K8 w g _ T _ _ _ e hu rfl i]
def AnE:A8.built 48 []=some (Ac false zS (.slice none 0 0)):=AO
def Atk(it:CH)(w:A7)(e:Ag)(w':A7):Prop:=∃x:Bw,e=.returned (.agg (Ac x.right x.url x.wv))/\Ex x it/\D7 w' w x/\x.wv=.slice none 0 0/\AF w w w'
def Apd:Ex ⟨false,zS,.slice none 0 0,[]⟩ ⟨false,EH,[]⟩:=⟨rfl,Vv,rfl⟩
def Mid(w:A7)(B:Nat):D7 w B ⟨false,zS,.slice none 0 0,[]⟩:=⟨OwnS.nil _ _ _,OwnS.nil _ _ _⟩
def ZD(B:AT)(b:AZ)(s:A9)(w:A7)(j:CD w)(h:Cy w B b)(t:JZ B)(x:s.size<=1100000):AD A8 102 #[.agg (AB B),.string s] w (Atk (D3 b s []) w):=by
 have d:=Cu.start w (AB B) 34 (Ac false zS (.slice none 0 0)) 48;have q:=H0 j;have n:=H0 h;have m:=H0 (λw j h=>Ar9 B b s w j h t x);clear j h;unfold D3;generalize o:IJ b s.toList=R at m⊢;replace o:=H0 o;go_in;go_upto_region 1 with(fail);refine As (R:=λwx=>Cu w wx (AB B) 34 (Ac false zS (.slice none 0 0)) 48) d ?_;clear d;intro y d;go_wp2_with(refine At d.a ?_);go_call(m.out _ (q.out.next d.below) (n.out.next d.below)) as e w2⟨S,rfl,hu,hb⟩;have k:=d.below.size;have v:=d.b.lt;have d:=d.keep hb;have c:=hu.own;have r:=hu.is;clear hb hu m n q;have g:Cu w (w2.alloc (.cells (AB S) 34)) (AB B) 34 (Ac false zS (.slice none 0 0)) 48:=d.keep (Ah _ _);have l:AM (w2.alloc (.cells (AB S) 34)) w2.heap.size (AB S) 34:=AM.new _ _ _;have i:=c.alloc (.cells (AB S) 34);obtain⟨p,f⟩:∃p,w2.alloc (.cells (AB S) 34)=p:=⟨_,rfl⟩;change Hid _ at r c i;cases R with
 |none=>
  go_upto_region 2 with(refine Cw (AB S) ?_);rw[f]at g l i⊢;clear f d c;go_wp2_with(first|(refine wpList_buildTo rfl _ _ rfl _ rfl (Ac false zS (.slice none 0 0)) AnE ?_)|(refine Ax g.b (Ac false zS (.slice none 0 0)) ?_));refine Fj rfl rfl rfl (g.setB _).b underlying48 (Q7 _ _ _) ?_;exact⟨⟨false,zS,.slice none 0 0,[]⟩,rfl,Apd,Mid _ _,rfl,(g.setB _).below⟩
 |some u=>
  go_upto_region 2 with(refine Cw (AB S) ?_);rw[f]at g l i⊢;clear f d c;go_wp2_with(first|(refine At l ?_)|(refine wpList_buildTo rfl _ _ rfl _ rfl (Ac true S (.slice none 0 0)) AO ?_)|(refine Ax g.b (Ac true S (.slice none 0 0)) ?_));refine Fj rfl rfl rfl (g.setB _).b underlying48 (Q7 _ _ _) ?_;refine⟨⟨true,S,.slice none 0 0,[]⟩,rfl,⟨rfl,r,rfl⟩,⟨?_,OwnS.nil _ _ _⟩,rfl,(g.setB _).below⟩;exact(OwnS.row i v _).low k
def readC(v:AJ)(t:A9):Array AJ:= #[v,.string t]
def HU(v:AJ)(t:A9):(A8.info? 44).map (·.size)=some (readC v t).size:=by show _=some 2;kernel_rfl
def Zt:(A8.info? 42).map (·.size)=some 1:=AO
variable{v:AJ}
def MS(t:A9)(h:v.oneCell'=true):(readC v t).all (·.oneCell')=true:=by
 rw[Array.all_eq_true_iff_forall_mem];intro x hx;have a:x=v\/x=.string t:=by simpa[readC]using hx
 rcases a with rfl|rfl
 ·exact h
 rfl
def Jm(r:List CH×A5)(w:A7)(e:Ag)(w':A7):Prop:=
 ∃(v:AJ)(l:List Bw)(t:A9),e=.returned (.agg (readC v t))/\CX l r.1/\Hid (t.toList=r.2)/\CU w' w v l/\AF w w w'
variable{l:List Bw}
def CU.one{B:Nat}(h:CU w B v l):v.oneCell'=true:=by
 rcases h.1.2 with⟨rfl,_⟩|⟨k,b,a,rfl,_⟩<;>rfl
variable{x:Bw}
def D7.row{B:Nat}(h:D7 w B x)(a:g<B)(C:Array AJ):D7 (w.setRow g C) B x:=⟨OwnS.row h.path a C,OwnS.row h.words a C⟩
def CU.row{B:Nat}(h:CU w B v l)(a:g<B)(C:Array AJ):CU (w.setRow g C) B v l:=
 h.chg λk b _=>LZ w g k C A4
structure D9(w wx:A7)(B:AT)(C D:Array AJ):Prop where
 below:AF w w wx
 size:w.heap.size+3<=wx.heap.size
 a:AM wx w (AB B) 34
 o:AM wx (w.heap.size+1) C 44
 r:AM wx (w.heap.size+2) D 44
def D9.start(w:A7)(B:AT)(C D:Array AJ):D9 w (((w.alloc (.cells (AB B) 34)).alloc (.cells C 44)).alloc (.cells D 44)) B C D:=by
 have h:=Cu.start w (AB B) 34 C 44;have hn:=AM.new ((w.alloc (.cells (AB B) 34)).alloc (.cells C 44)) D 44;exact Adu
variable{wx:A7}{B:AT}{C D:Array AJ}
def D9.keep{b:A7}(h:D9 w wx B C D)(hb:AF wx wx b):D9 w b B C D:=⟨h.below.next hb,Ks,h.a.keep hb,h.o.keep hb,h.r.keep hb⟩
def D9.alloc(h:D9 w wx B C D)(o:Obj):D9 w (wx.alloc o) B C D:=h.keep ((AU _ _).alloc (AG _) o)
def D9.setR(h:D9 w wx B C D)(E:Array AJ):D9 w (wx.setRow (w.heap.size+2) E) B C E:=
 ⟨Au h.below A4 _,SO,h.a.other A4 _,h.o.other A4 _,h.r.set _⟩
def D9.setO(h:D9 w wx B C D)(E:Array AJ):D9 w (wx.setRow (w.heap.size+1) E) B E D:=
 ⟨Au h.below A4 _,SO,h.a.other A4 _,h.o.set _,h.r.other A4 _⟩
def r0:Array AJ:=readC (.slice none 0 0) ⟨#[]⟩
def AlY(B:AT)(b:AZ)(s:A9)(w:A7)(h:CD w)(f:Cy w B b)(t:JZ B)(u:s.size<=1100000):AD A8 55 #[.int .i64 1,.agg (AB B),.string s] w (Jm (Am 1 b s) w):=by
 have c:=D9.start w B r0 r0;have hit:=H0 (λw h f=>ZD B b s w h f t u);have p:=H0 h;have l:=H0 f;clear h f;have k:Hid (Am 1 b s.toList=([D3 b s []],[])):=rfl;generalize j:D3 b s []=it at hit k;rw[k.out];replace j:=H0 j;go_in;go_upto_region 2 with(fail);refine As (R:=λwx=>D9 w wx B r0 r0) c ?_;clear c;intro v c;go_wp2_with(refine At c.a ?_);go_call(hit.out _ (p.out.next c.below) (l.out.next c.below)) as e w2⟨x,rfl,hx,ho,n,hb⟩;have q:=c.size;have c:=c.keep hb;have i:=hb.size;have d:=c.alloc (.cells (Ac x.right x.url x.wv) 48);have kP:=H0 (Qz ho i);clear hb hit l p c ho;replace n:=H0 n;generalize hw5:w2.alloc (.cells (Ac x.right x.url x.wv) 48)=w5 at d kP;go_wp2_with(first|(refine Kg rfl _ rfl x.right x.url x.wv rfl ?_;rw[hw5];clear hw5)|(refine BN d.r 0 (readC (.slice (some ⟨w2,0,none⟩) 1 1) ⟨#[]⟩) ?_)|(refine At (d.setR _).r ?_)|(refine Ax (d.setR _).o (readC (.slice (some ⟨w2,0,none⟩) 1 1) ⟨#[]⟩) ?_));have m:=(d.setR (readC (.slice (some ⟨w2,0,none⟩) 1 1) ⟨#[]⟩)).setO (readC (.slice (some ⟨w2,0,none⟩) 1 1) ⟨#[]⟩);refine Fj rfl rfl rfl m.o underlying44 (HU _ _) ?_;refine⟨_,[x],⟨#[]⟩,rfl,⟨hx,trivial⟩,toList_mk [],?_,m.below⟩;exact AjN
def J7(d:A9)(h:Bool)(u:A9):Array AJ:= #[.string d,.bool h,.string u]
def CU.next{w':A7}{B:Nat}(h:CU w B v l)(a:AF w w w'):CU w' B v l:=h.below a
def D9.setG(h:D9 w wx B C D)(b:w.heap.size+3<=g)(E:Array AJ):D9 w (wx.setRow g E) B C D:=
 ⟨Au h.below A4 _,SO,h.a.other A4 _,h.o.other A4 _,h.r.other A4 _⟩
def AhK{b:AZ}(h:Bu B b)(pa:Option Addr)(c:Nat):Bu (AY B pa c B.path) b:=⟨h.scheme,h.user,h.pass,h.host,h.hasPort,h.port,h.opq,h.flat,h.path,h.hasQuery,h.query,h.hasFrag,h.frag⟩
def Awd(B:AT)(b:AZ)(s:A9)(w:A7)(O:CD w)(N:Cy w B b)(T:JZ B)(hz:s.size<=1000000000)(hx:∀d h x,Dl s.toList=some (d,h,x)->x.length<=1100000):AD A8 55 #[.int .i64 3,.agg (AB B),.string s] w (Jm (Am 3 b s) w):=by
 have m:=D9.start w B r0 r0;have jD:=H0 (λw hm=>Anw s w hz hm);have hit:=H0 (λ(u:A9)(hu:u.size<=1100000)w O N=>ZD B b u w O N T hu);have bR:=H0 (λ(w:A7)(h:EX w B.pathA B.path.length B.pathC B.path)=>OS B.pathA B.path.length B.pathC B.path w h (by have:=T.n;omega));have cA:=H0 O;have U:=H0 N;clear O N T;obtain⟨R,hR⟩:=AI (Am 3 b s);rw[hR];have z:=A6 (R=IN b (Dl s)) hR.symm;clear hR;go_in;go_upto_region 2 with(fail);refine As (R:=λwx=>D9 w wx B r0 r0) m ?_;clear m;intro w1 m;go_wp2_with fail;refine(jD.out _ (cA.out.next m.below).ml).mono ?_;rintro e Q⟨d,u,h,ok,rfl,l,rI,wW,H⟩;replace m:=m.keep l;clear l jD;have dE:=m.size;have D:=m.alloc (.cells (J7 d h u) 98);have E:AM (Q.alloc (.cells (J7 d h u) 98)) Q.heap.size (J7 d h u) 98:=AM.new _ _ _;obtain⟨g,hg⟩:=AI (Q.heap.size);obtain⟨S,t⟩:∃S,Q.alloc (.cells (J7 d h u) 98)=S:=⟨_,rfl⟩;rw[t]at D E;rw[hg]at E dE;go_upto_region 15 with(refine Cw (J7 d h u) ?_);refine As (R:=λwx=>S=wx) t.symm ?_;rintro _ rfl;clear t m hg;rcases H.out with⟨h1,rfl,-⟩|⟨h1,rfl⟩
 ·have i:=A6 (R=([],[])) (by rw[z.out,h1];rfl);go_wp2_with(first|(refine At D.r ?_)|(refine Ax D.o r0 ?_ (h1:=AO)));have f:=D.setO r0;refine Fj rfl rfl rfl f.o underlying44 (HU _ _) ?_;exact⟨_,[],⟨#[]⟩,rfl,by rw[i.out];trivial,H0 (by rw[i.out];exact toList_mk []),CU.nil _ _,f.below⟩
 have i:=A6 (R=IN b (some (d.toList,h,u.toList))) (by rw[z.out,h1]);clear z;have vV:=hx _ _ _ h1;rw[AK]at vV;clear hx;replace h1:=H0 h1;have z0:=(E.at 0).trans (show(J7 d h u)[0]?=some (.string d)from rfl);have z1:=(E.at 1).trans (show(J7 d h u)[1]?=some (.bool h)from rfl);have f:=D.setR (readC (.slice none 0 0) d);have Z:=E.other (g':=w.heap.size+2) A4 (readC (.slice none 0 0) d);have y1:=(Z.at 1).trans (show(J7 d h u)[1]?=some (.bool h)from rfl);have y2:=(Z.at 2).trans (show(J7 d h u)[2]?=some (.string u)from rfl);obtain⟨y,W⟩:∃y,S.setRow (w.heap.size+2) (readC (.slice none 0 0) d)=y:=⟨_,rfl⟩;go_upto_region 18 with(refine BN D.r 1 (readC (.slice none 0 0) d) ?_);refine As (R:=λwx=>y=wx) W.symm ?_;rintro _ rfl;rw[W]at f Z y1 y2;clear W z0 z1 D E;cases h with
 |true=>
  obtain⟨it,sW⟩:=AI (D3 b u []);have q:=hit.out u vV;have I:=A6 (R=([it],d.toList)) (by rw[i.out,<-sW];rfl);rw[sW]at q;go_wp2_with(refine At f.a ?_);go_call(q _ (cA.out.next f.below) (U.out.next f.below)) as e w7⟨x,rfl,hxi,ho,vF,l⟩;have hs1:=f.size;have f:=f.keep l;have C:=l.size;have j:=f.alloc (.cells (Ac x.right x.url x.wv) 48);have K:=H0 (Qz ho C);replace vF:=H0 vF;generalize hw8:w7.alloc (.cells (Ac x.right x.url x.wv) 48)=w8 at j K;go_wp2_with(first|(refine Kg rfl _ rfl x.right x.url x.wv rfl ?_;rw[hw8];clear hw8)|(refine BN j.r 0 (readC (.slice (some ⟨w7,0,none⟩) 1 1) d) ?_)|(refine At (j.setR _).r ?_)|(refine Ax (j.setR _).o (readC (.slice (some ⟨w7,0,none⟩) 1 1) d) ?_ (h1:=(MS _ rfl))));have L:=(j.setR (readC (.slice (some ⟨w7,0,none⟩) 1 1) d)).setO (readC (.slice (some ⟨w7,0,none⟩) 1 1) d);refine Fj rfl rfl rfl L.o underlying44 (HU _ _) ?_;refine⟨_,[x],d,rfl,by rw[I.out];exact⟨hxi,trivial⟩,H0 (by rw[I.out]),?_,L.below⟩;exact(((K.out.row A4 _).row A4 _)).low A4
 |false=>
  have I:Hid (R=([⟨true,b,[]⟩],d.toList)):=i;clear i;have p:=f.size;have j:=f.alloc (.cells (AB B) 34);have P:AM (y.alloc (.cells (AB B) 34)) y.heap.size (AB B) 34:=AM.new _ _ _;generalize hw7:y.alloc (.cells (AB B) 34)=w7 at j P;go_upto_region 21 with(first|(refine At f.a ?_)|(refine Cw (AB B) ?_ (h1:=(EO _))));refine As hw7.symm ?_;rintro _ rfl;generalize hk:y.heap.size=k at P p⊢;have x18:=(j.a.at 18).trans (show(AB B)[18]?=some (.slice B.pathA B.path.length B.pathC)from rfl);go_wp2_with fail;go_call(bR.out _ (U.out.path.below j.below (AG _))) as e w8⟨v,rfl,hov,l⟩;have mL:=P.keep l;have nY:=P.lt;have j:=j.keep l;have C:=l.size;obtain⟨pa,c,rfl,bE,hpr2⟩:=Ec hov;have G:=hov;have fA:=mL.set (AB (AY B pa c B.path));have M:=j.setG p (AB (AY B pa c B.path));have fZ:D7 (w8.setRow k (AB (AY B pa c B.path))) w7.heap.size ⟨true,AY B pa c B.path,.slice none 0 0,[]⟩:=⟨OwnS.row G nY _,OwnS.nil _ _ _⟩;obtain⟨A,Y⟩:=AI (w8.setRow k (AB (AY B pa c B.path)));have V:w7.heap.size<=A.heap.size:=by rw[<-Y,Nr];exact C
  go_upto_region 22 with(refine BN mL 18 (AB (AY B pa c B.path)) ?_);refine As Y.symm ?_;rintro _ rfl;rw[Y]at fA M fZ;have F:=M.alloc (.cells (Ac true (AY B pa c B.path) (.slice none 0 0)) 48);have X:=H0 (Qz fZ V);generalize hw10:A.alloc (.cells (Ac true (AY B pa c B.path) (.slice none 0 0)) 48)=w10 at F;have J:=A6 (CU w10 w7 (.slice (some ⟨A,0,none⟩) 1 1) [⟨true,AY B pa c B.path,.slice none 0 0,[]⟩]) (by have:=X.out;rwa[hw10]at this);go_wp2_with(first|(refine At fA ?_)|(refine wpList_buildTo rfl _ _ rfl _ rfl (Ac true (AY B pa c B.path) (.slice none 0 0)) AO ?_)|(refine Kg rfl _ rfl true (AY B pa c B.path) (.slice none 0 0) rfl ?_;rw[hw10];clear hw10)|(refine BN F.r 0 (readC (.slice (some ⟨A,0,none⟩) 1 1) d) ?_)|(refine At (F.setR _).r ?_)|(refine Ax (F.setR _).o (readC (.slice (some ⟨A,0,none⟩) 1 1) d) ?_ (h1:=(MS _ rfl))));have L:=(F.setR (readC (.slice (some ⟨A,0,none⟩) 1 1) d)).setO (readC (.slice (some ⟨A,0,none⟩) 1 1) d);refine Fj rfl rfl rfl L.o underlying44 (HU _ _) ?_;refine⟨_,[⟨true,AY B pa c B.path,.slice none 0 0,[]⟩],d,rfl,by rw[I.out];exact⟨⟨rfl,AhK U.out.is pa c,rfl⟩,trivial⟩,H0 (by rw[I.out]),?_,L.below⟩;exact(((J.out.row A4 _).row A4 _)).low A4
def D9.keepB{b:A7}{K:Nat}(h:D9 w wx B C D)(hb:AF K wx b)(c:w.heap.size+3<=K):D9 w b B C D:=
 ⟨h.below.trans (hb.mono A4),Ks,(hb.block _ A4).trans h.a,(hb.block _ A4).trans h.o,(hb.block _ A4).trans h.r⟩
variable{k:Nat}
def CX.take{C:List Dw}{b:AZ}(h:CX l ((C.take k).map λc=>D3 b c.url c.ws))(hk:k<C.length)(hx:Ex x (D3 b C[k].url C[k].ws)):CX (l++[x]) ((C.take (k+1)).map λc=>D3 b c.url c.ws):=by
 exact Aix
def Axz{b:AZ}{s:A5}{ws:List A9}(h:Ex x (D3 b s [])):Ex ⟨x.right,x.url,v,ws⟩ (D3 b s (ws.map (·.toList))):=⟨h.right,h.url,rfl⟩
def CU.cells{B:Nat}(h:CU w B v l):v.cells= #[v]:=by
 rcases h.1.2 with⟨rfl,_⟩|⟨k,b,a,rfl,_⟩<;>rfl
def AiM(B:AT)(b:AZ)(s:A9)(w:A7)(hE:CD w)(hB:Cy w B b)(bk:JZ B)(hz:s.size<=900000000)(hx:∀c∈BW s,c.url.length<=1100000):AD A8 55 #[.int .i64 2,.agg (AB B),.string s] w (Jm (Am 2 b s) w):=by
  have O:=D9.start w B r0 r0;have hsp:=H0 (λw=>Awz s w hz);have hit:=H0 (λ(u:A9)(hu:u.size<=1100000)w hE hB=>ZD B b u w hE hB bk hu);have cA:=H0 hE;have gX:=H0 hB;clear hE hB bk;obtain⟨R,hR⟩:=AI (Am 2 b s);rw[hR];have hRv:=A6 (R=((BW s).map λc=>D3 b c.url c.ws,[])) hR.symm;clear hR;generalize hC:BW s.toList=C at hRv hx;replace hC:=H0 hC;go_in;go_upto_region 2 with(fail);refine As (R:=λwx=>D9 w wx B r0 r0) O ?_;clear O;intro w1 O;go_wp2_with fail;refine(hsp.out _).mono ?_;rintro e V⟨cv,t,rfl,bR,lS,hcs,L,hb⟩;have hs1:=O.size;have O:=O.keep hb;have hb1:=hb.size;rw[hC.out]at bR;clear hb hsp;have hlen:t.length=C.length:=by rw[<-bR.out,Bz]
  obtain⟨pa,pc,rfl,-⟩:=L.read;change Hid _ at hcs hx;go_wp2_with fail;go_loopw[9,10,27] (λv9 eT iv wr=>∃(k:Nat)(v:AJ)(N:List Bw),iv=.int .i64 (k:Int)/\k<=t.length/\D9 w wr B r0 (readC v ⟨#[]⟩)/\Hid (CX N ((C.take k).map λc=>D3 b c.url c.ws))/\Hid (CU wr V v N)/\N.length=k/\Aj (λg=>g=w.heap.size+2) V wr) (λ_ _ i _=>t.length-(intOf i).toNat)
  ·exact⟨0,.slice none 0 0,[],rfl,AR _,O,H0 trivial,H0 (CU.nil _ _),rfl,Aj.refl _ _⟩
  obtain⟨k,v,N,rfl,hk,kW,aZ,fK,hlk,eP⟩:=hrel;clear O;by_cases hlt:k<t.length
  · have vM:EJ wr w1 (.slice pa t.length pc) t:=L.chg λj hj hlt2=>eP.block j hlt2 A4
    obtain⟨pa',pc',hv,hcc,zR⟩:=vM.read;cases hv;obtain⟨g1,o1,rfl,D⟩:=hcc A4;have y:=D k hlt;have q1:=(vM.2 t[k] (CI ..));have W:=hcs.out t[k] (CI ..);have dY:C[k]' A4=Hv t[k]:=by
      have e1:=bR.out;grind
    have wW:=hx.out _ (CI (show k<C.length by omega));rw[dY]at wW;generalize hc:t[k]=c at y q1 W dY wW;replace hc:=H0 hc;obtain⟨p,Z,d,I⟩:=c;dsimp only at q1 W;have tS:p.size<=1100000:=by rw[<-AK];exact wW
    replace dY:=H0 dY;clear hcc zR D wW vM;have Y:D9 w (wr.alloc (.cells (Af p Z I) 109)) B r0 (readC v ⟨#[]⟩):=kW.alloc _;have gW:AM (wr.alloc (.cells (Af p Z I) 109)) wr.heap.size (Af p Z I) 109:=AM.new _ _ _;have gS:=Ah wr (.cells (Af p Z I) 109);generalize hw3:wr.alloc (.cells (Af p Z I) 109)=w3 at Y gW gS;obtain⟨P,Q,rfl,-,K⟩:=Ec q1;have bN:(Af p (.slice P d.length Q) I).all (·.oneCell')=true:=Nq _ _ _ _ _;go_upto_region 9 with(first|(refine wpList_load_mid rfl 109 _ rfl g1 (o1+k*8) rfl (Af p (.slice P d.length Q) I).toList _ y underlying109 rfl (Av5 _ _ _) ?_)|(refine Cw (Af p (.slice P d.length Q) I) ?_));refine As (R:=λwx=>w3=wx) hw3.symm ?_;rintro _ rfl;clear hw3 y;generalize hp9:wr.heap.size=p9 at gW⊢;have z0:_=some (Value.string p):=gW.at 0;go_wp2_with(refine At Y.a ?_);refine(hit.out p tS w3 (cA.out.next Y.below) (gX.out.next Y.below)).mono ?_;rintro e q⟨x,rfl,G,ho,vF,A⟩;have fS:=Y.keep A;have lM:=gW.keep A;have iV:AF wr wr q:=gS.trans (A.mono gS.size);have hs34:=A.size;have hs23:=gS.size;obtain⟨h,f,xw,xws⟩:=x;dsimp only at ho vF G;subst vF;have jL:D9 w (q.alloc (.cells (Ac h f (.slice none 0 0)) 48)) B r0 (readC v ⟨#[]⟩):=fS.alloc _;have dN:AM (q.alloc (.cells (Ac h f (.slice none 0 0)) 48)) p9 (Af p (.slice P d.length Q) I) 109:=lM.alloc _;have F:AM (q.alloc (.cells (Ac h f (.slice none 0 0)) 48)) q.heap.size (Ac h f (.slice none 0 0)) 48:=AM.new _ _ _;have n:=Ah q (.cells (Ac h f (.slice none 0 0)) 48);have uE:(q.alloc (.cells (Ac h f (.slice none 0 0)) 48)).heap.size=q.heap.size+1:=DB _ _;generalize hw5:q.alloc (.cells (Ac h f (.slice none 0 0)) 48)=w5 at jL dN F n uE;clear Y gW fS lM z0 A;change Hid _ at G ho;go_upto_region 10 with(refine Cw (Ac h f (.slice none 0 0)) ?_);refine As (R:=λwx=>w5=wx) hw5.symm ?_;rintro _ rfl;clear hw5;generalize hp10:q.heap.size=p10 at F uE⊢;have z1:_=some (Value.slice P d.length Q):=dN.at 1;have hwR:EX w5 P d.length Q d:=K.below (iV.trans (n.mono iV.size)) (AG _);go_wp2_with fail;refine(OS P d.length Q d w5 hwR W.2.2).mono ?_;rintro e w6⟨vw,rfl,T,J⟩;have hlt10:=F.lt;have S:=F.keep J;have uF:=jL.keep J;obtain⟨z,E,rfl,-,-⟩:=Ec T;have H:=uF.setG (g:=p10) (by have:=kW.size;omega) (Ac h f (.slice z d.length E));have U:=S.set (Ac h f (.slice z d.length E));have sZ:AF q q (w6.setRow p10 (Ac h f (.slice z d.length E))):=Au (n.trans (J.mono A4)) A4 _;have yM:=OwnS.row T (g:=p10) A4 (Ac h f (.slice z d.length E));clear jL dN F z1 hwR uF;generalize hw7:w6.setRow p10 (Ac h f (.slice z d.length E))=w7 at H U sZ yM;go_upto_region 11 with(refine BN S 24 (Ac h f (.slice z d.length E)) ?_);refine As (R:=λwx=>w7=wx) hw7.symm ?_;rintro _ rfl;clear hw7 S T J;have rP:AF wr wr w7:=iV.trans (sZ.mono iV.size);have hs7:=rP.size;have m:Aj (λg=>g=w.heap.size+2) V w7:=eP.next rP;have hs2r:=eP.size;have M:CU w7 V v N:=fK.out.below rP;have hX:D7 w7 V ⟨h,f,.slice z d.length E,d⟩:=⟨(OwnS.below ho.out.path sZ (AG _)).low A4,yM.low A4⟩;have y0:_=some v:=H.r.at 0;have hXi:=A6 (Ex ⟨h,f,.slice z d.length E,d⟩ (D3 b C[k].url C[k].ws)) (by
      rw[dY.out];exact Axz G)
    clear sZ yM gS iV n K ho G hit cA;go_wp2_with (first| (refine At U ?_)| (refine Kg rfl _ rfl h f (.slice z d.length E) rfl ?_)| (refine Akm rfl _ _ rfl (W0:=w7) (w0:=w7) (B:=V.heap.size) (v:=v) (l:=N) ⟨h,f,.slice z d.length E,d⟩ rfl rfl M hX (AU _ _) A4 A4 ?_;intro v2 w9 mJ X _;have hB9:=H.keepB X A4;have hch9:Aj (λg=>g=w.heap.size+2) V w9:=⟨X.os.trans m.os,X.tape.trans m.tape,X.output.trans m.output,CR m.size X.size,λj hj hn=>(X.block j hj).trans (m.block j hj hn)⟩;clear H y0 U M hX)|(refine LF rfl 42 _ _ rfl (w.heap.size+2) 0 rfl v2 rfl mJ.cells 44 (readC v ⟨#[]⟩) (readC v2 ⟨#[]⟩) hB9.r Zt (by show 0+1<=2;decide) mJ.one rfl ?_))
    refine⟨⟨k+1,v2,N++[⟨h,f,.slice z d.length E,d⟩],AP,A4,hB9.setR _,H0 (aZ.out.take A4 hXi.out),H0 (mJ.row A4 _),AS,hch9.row rfl _⟩,?_⟩;exact AzF
  · obtain rfl:k=t.length:=A4
    have iL:=A6 (R=((C.take t.length).map λc=>D3 b c.url c.ws,[])) (by rw[hRv.out,hlen,Bc (AG _)]);have aR:=fK.out.one;go_wp2_with(first|(refine At kW.r ?_)|(refine Ax kW.o (readC v ⟨#[]⟩) ?_ (h1:=(MS _ aR))));have gI:=kW.setO (readC v ⟨#[]⟩);refine Fj rfl rfl rfl gI.o underlying44 (HU _ _) ?_;refine⟨v,N,⟨#[]⟩,rfl,by rw[iL.out];exact aZ,H0 (by rw[iL.out];exact toList_mk []),?_,gI.below⟩;exact(fK.out.row A4 _).low A4
def RA{o:Nat}(h:w.rangeAt g o (HD x)):w.rangeAt g (o+1) (AB x.url).toList:=λj v a=>by
 have b:j<23:=by
  have:=(Hk.1 a).1;rwa[Of,Ah1]at this
 have:=h (1+j) v (by
  unfold HD Bw.c;rw[L9,Aly x.right x.url x.wv j b];rwa[L9]at a)
 rw[Nat.add_assoc];exact this
def R8(u:AT):(A8.info? 34).map (·.size)=some (AB u).toList.length:=by show _=some 23;kernel_rfl
def AmD(v:AJ)(t:A9)(x:Bw)(l:List Bw)(u:AZ)(w:A7)(n:CD w)(E:IU w v (x::l))(hx:Bu x.url u)(g:BA u)(G:B9 u<=1000000000):AD A8 28 #[.int .i64 1,.agg (readC v t)] w (Bi w (C8 (C6 u true))):=by
 have d:=Ah w (.cells (readC v t) 44);have o:AM (w.alloc (.cells (readC v t) 44)) w.heap.size (readC v t) 44:=AM.new _ _ _;have b:=Jn g true;have p:=H0 (Ng hx g A4);have f:=H0 (Mo hx true);generalize hw0:w.alloc (.cells (readC v t) 44)=w0 at d o;have s:=E.below d (AG _);obtain⟨pa,c,rfl,D,r,A⟩:=s;obtain⟨C,q,rfl,a⟩:=r AN;have y:=RA (a 0 AN);have m:=A x (CC ..);have k:=(m.urlW hx).inn;have z:=(o.at 0).trans (show(readC _ t)[0]?=some (.slice _ (x::l).length c)from rfl);have h:(1:Int)<=((x::l).length:Int):=by rw[BC];omega
 generalize hN:(x::l).length=N at z h D hw0⊢;generalize hL:C6 u true=L at f b⊢;change Hid _ at hL hN n m k;go_in;go_wp2_with(refine wpList_load_mid rfl 34 _ rfl C (q+1) rfl (AB x.url).toList _ y underlying34 rfl (R8 _) ?_);go_call(PL x.url true w0 k p (n.out.next d).tabs) as e w1⟨tw,rfl,htw,hb1⟩;have j:=d.next hb1;have B:tw.size<=4294967296:=by rw[<-AK,htw.out,f.out];omega
 go_wp21;go_call Aa1 as e w2⟨te,rfl,hte,hb3⟩;have F:=A6 (te.toList=C8 L) (by rw[hte.out,htw.out,f.out]);have i:=j.next hb3;go_wp2;go_ret;exact⟨_,rfl,F,i⟩
def AM.irange{r:Bool}{u:AT}{wv:AJ}{T:Ab}(h:AM w g (Ac r u wv) T):w.rangeAt g 1 (AB u).toList:=by
 have:=RA (x:=⟨r,u,wv,[]⟩) h.whole;simpa using this
def FiB(p:DF)(k:Nat)(x:Bw)(a:CH)(J r:Nat)(w:A7)(v:CD w)(K:FW w p)(C:AM w J (Br p) 24)(z:w.cell? ⟨r,0,none⟩=some (.int .i64 (k:Int)))(q:Jz w x)(O:Ex x a)(G:a.right=true->BA a.url/\B9 a.url<=800000000):AD A8 58 #[.agg (Ac x.right x.url x.wv),.pointer (some ⟨J,0,none⟩),.pointer (some ⟨r,0,none⟩)] w (GG w (Bd (EL p.schemes.l p.hosts.l p.types.l) k a)):=by
 have⟨xr,xu,xw,xws⟩:=x;have⟨i1,i2,i3⟩:=O;dsimp only at i1 i2 i3 q⊢;subst i1;obtain⟨R,b⟩:=AI (Bd (EL p.schemes.l p.hosts.l p.types.l) k a);rw[b];unfold Bd at b;have P:=EV w _ z;have m:=Ah w (.cells (Ac a.right xu xw) 48);have c:AM (w.alloc (.cells (Ac a.right xu xw) 48)) w.heap.size (Ac a.right xu xw) 48:=AM.new _ _ _;have o:=C.keep m;have i:=(m.cell (p:=⟨r,0,none⟩) AS).trans z;generalize hw0:w.alloc (.cells (Ac a.right xu xw) 48)=w0 at m c o i;cases hr:a.right with
 |false=>
  rw[hr]at b hw0 c;have hf:=A6 (false=R) AS;have N:=(c.at 0).trans (show(Ac false xu xw)[0]?=some (.bool false)from rfl);change Hid _ at b hr;go_in;go_wp2;go_ret;exact⟨RK,m⟩
 |true=>
  have⟨g,gz⟩:=G hr;rw[hr]at b hw0 c;have N:=(c.at 0).trans (show(Ac true xu xw)[0]?=some (.bool true)from rfl);have t:=c.irange;have E:=Jn g false;have d:Cy w xu a.url:=⟨i2,q.path,q.cap⟩;have L:=H0 (Ng i2 g A4);have s:=H0 (AgE (S:=p.schemes.l) (H:=p.hosts.l) (T:=p.types.l) i2);have j:=H0 (Mo i2 false);generalize hA:EL p.schemes.l p.hosts.l p.types.l a.url=A at s b;generalize hF:ML (C6 a.url true)=F at b;have D:=H0 (λ(w':A7)(f:AF w w w')=>ApG p xu w' (K.below f (AG _)) ((d.below f (AG _)).inn) L (by rw[j.out];omega) (v.next f).tabs (v.next f).ml);rw[s.out]at D;have I:=H0 (λ(w':A7)(f:AF w w w')=>Azm xu a.url w' (v.next f) (d.below f (AG _)) g A4);rw[hF]at I;change Hid _ at hA hF b hr d;clear q z C G j s i2 i3;go_in;go_wp2_with(first|(refine IM BE ?_;refine At o ?_)|(refine IM BE ?_;refine wpList_load_mid rfl 34 _ rfl w 1 rfl (AB xu).toList _ t underlying34 rfl (R8 _) ?_));clear hw0;go_call D as e w1⟨rfl,hb1⟩;have h:=m.next hb1;have M:=(hb1.cell (p:=⟨r,0,none⟩) (by have:=EV w0 _ i;simpa using this)).trans i;have u:=c.keep hb1;have n:=u.irange;cases A with
  |false=>
   have hf:=A6 (false=R) (by have:=b.out;simpa using this);go_wp2;go_ret;exact⟨RK,h⟩
  |true=>
   by_cases B:k=2
   ·subst B;have hf:=A6 (F=R) (by have:=b.out;simpa using this);go_wp2_with(refine IM BE ?_;refine wpList_load_mid rfl 34 _ rfl w 1 rfl (AB xu).toList _ n underlying34 rfl (R8 _) ?_);go_call I as e w2⟨rfl,hb3⟩;have y:=h.next hb3;go_wp2;go_ret;exact⟨RK,y⟩
   have hf:=A6 (true=R) (by
    have:=b.out;rw[show(k !=2)=true by simp_all]at this;simpa using this)
   go_wp2;go_ret;exact⟨RK,h⟩
def Azl(a:Option Addr)(c:Nat)(l:List A9)(w:A7)(h:CA w (.slice a l.length c) l)(b:l.length<=1000000000):AD A8 104 #[.slice a l.length c] w λe w'=>∃v:AJ,e=.returned v/\OwnS w' w 9 v l/\AF w w w':=by
 have⟨a1,c1,hv,hcell⟩:=h;cases hv;cases a with
 |none=>
  have cZ:l=[]:=by simp_all
  subst cZ;exact Wo
 |some a=>
  exact Ahp
variable{L:List CH}
def CX.filt{K:CH->Bool}(h:CX l ((L.take k).filter K))(b:k<L.length)(a:K L[k]=true)(hx:Ex x L[k]):CX (l++[x]) ((L.take (k+1)).filter K):=by
 rw[Fe b,Lg,EB,AC a];exact h.snoc hx
def AtK{K:CH->Bool}(a:k<L.length)(b:K L[k]=false):(L.take (k+1)).filter K=(L.take k).filter K:=by
 rw[Fe a,Lg,EB,AA AS,List.filter_nil,Bq]
def Aob(L:List CH)(n:Nat)(w:A7)(e:Ag)(w':A7):Prop:=∃(v:AJ)(l:List Bw),e=.returned v/\CX l L/\CU w' w v l/\l.length<=n/\(∀x∈l,x.ws.length<=1000000000)/\AF w w w'
def AvY(p:DF)(k:Nat)(v:AJ)(l:List Bw)(L:List CH)(p3 p4:Nat)(w:A7)(hE:CD w)(hp:FW w p)(h3:AM w p3 (Br p) 24)(h4:w.cell? ⟨p4,0,none⟩=some (.int .i64 (k:Int)))(hr:IU w v l)(aZ:CX l L)(hn:l.length<=900000000)(hg:∀m∈L,m.right=true->BA m.url/\B9 m.url<=800000000)(hw:∀x∈l,x.ws.length<=1000000000/\x.url.path.length<=1000000000):AD A8 57 #[v,.func (.func 58) #[] #[.pointer (some ⟨p3,0,none⟩),.pointer (some ⟨p4,0,none⟩)]] w (Aob (L.filter (Bd (EL p.schemes.l p.hosts.l p.types.l) k)) l.length w):=by
  have z:=aZ.len;have J:=h3.lt;have kF:=EV w _ h4;obtain⟨K,hK⟩:=AI (Bd (EL p.schemes.l p.hosts.l p.types.l) k);have gM:=H0 (λ(x:Bw)(m:CH)(w':A7)(hb:AF w w w')(hX:Jz w' x)(C:Ex x m)(u4:m.right=true->BA m.url/\B9 m.url<=800000000)=>FiB p k x m p3 p4 w' (hE.next hb) (hp.below hb (AG _)) ((hb.block _ J).trans h3) ((hb.cell AS).trans h4) hX C u4);rw[hK]at gM⊢;replace hK:=H0 hK;obtain⟨pa,c,rfl,bE,aH,dD⟩:=hr;have cV:AF w w w:=AU _ _;change Hid _ at aH dD aZ z hg hw;clear h3 h4 J kF hE hp;go_in;go_wp2_with fail;go_loopw[5,7,10] (λv5 v7 iv wr=>∃(i:Nat)(v:AJ)(A:List Bw),v5=v/\iv=.int .i64 (i:Int)/\i<=l.length/\Hid (CX A ((L.take i).filter K))/\Hid (CU wr w v A)/\A.length<=i/\Hid (∀x∈A,x.ws.length<=1000000000)/\AF w w wr) (λ_ _ i _=>l.length-(intOf i).toNat)
  ·exact⟨0,.slice none 0 0,[],rfl,rfl,AR _,H0 trivial,H0 (CU.nil _ _),AR _,H0 (λx hx=>by cases hx),cV⟩
  obtain⟨i,v,A,rfl,rfl,hk,yW,fK,hlk,N,o⟩:=hrel;clear cV;by_cases M:i<l.length
  · obtain⟨g1,o1,rfl,u⟩:=aH.out A4
    have y:=MT (u i M) o (AG _);have hL:i<L.length:=by rw[<-z.out];exact M
    have C:=aZ.out.get i M hL;have hX:=(dD.out l[i] (CI ..));have hW:=hw.out l[i] (CI ..);have hG:=hg.out L[i] (CI ..);have O:=AtK (K:=K) hL;have hyes:∀{q:List Bw}{y:Bw},CX q ((L.take i).filter K)->K L[i]=true->Ex y L[i]->CX (q++[y]) ((L.take (i+1)).filter K):=λa b c=>CX.filt a hL b c;obtain⟨x,hx⟩:=AI (l[i]);obtain⟨m,hit⟩:=AI (L[i]);rw[hx]at y C hX hW;rw[hit]at C hG O;have u6:∀(q:List Bw)(y:Bw),CX q ((L.take i).filter K)->K m=true->Ex y m->CX (q++[y]) ((L.take (i+1)).filter K):=by simp_all
    have⟨xr,xu,xw,xws⟩:=x;have⟨hXp,hXc,hXw⟩:=hX;dsimp only at hXp hXc hXw C hW;obtain⟨d,f,rfl,X⟩:=hXw;have S:AM (wr.alloc (.cells (Ac xr xu (.slice d xws.length f)) 48)) wr.heap.size (Ac xr xu (.slice d xws.length f)) 48:=AM.new _ _ _;have P:=Ah wr (.cells (Ac xr xu (.slice d xws.length f)) 48);generalize hw3:wr.alloc (.cells (Ac xr xu (.slice d xws.length f)) 48)=w3 at S P;have eJ:AF w w w3:=o.next P;have hX3:Jz w3 ⟨xr,xu,.slice d xws.length f,xws⟩:=Jz.below (w:=w) ⟨hXp,hXc,⟨d,f,rfl,X⟩⟩ eJ (AG _);have aK:=H0 (gM.out ⟨xr,xu,.slice d xws.length f,xws⟩ m w3 eJ hX3 C hG);change Hid _ at C hx hX3 u6 O;clear hyes hit u;go_upto_region 5 with(first|(refine wpList_load_mid rfl 48 _ rfl g1 (o1+i*25) rfl (Ac xr xu (.slice d xws.length f)).toList _ y underlying48 rfl (Sd ⟨xr,xu,.slice d xws.length f,xws⟩) ?_)|(refine Cw (Ac xr xu (.slice d xws.length f)) ?_));refine As (R:=λwx=>w3=wx) hw3.symm ?_;rintro _ rfl;clear hw3 y;generalize hp7:wr.heap.size=p7 at S⊢;generalize t:K m=kb at aK;cases kb with
    |false=>
      have U:=O.out t;have Q:=A6 (CX A ((L.take (i+1)).filter K)) (by rw[U];exact yW);change Hid _ at t U;go_wp2_with(refine At S ?_);refine aK.out.mono ?_;rintro e w4⟨rfl,n⟩;have iV:=P.trans (n.mono P.size);have Z:=H0 (fK.out.below iV);have iC:=eJ.next n;go_wp21;refine⟨⟨i+1,u5,A,rfl,AP,A4,Q,Z,A4,N,iC⟩,?_⟩;exact AzF
    |true=>
      go_wp2_with (refine At S ?_);refine aK.out.mono ?_;rintro e w4 ⟨rfl,n⟩;have iV:AF wr wr w4:=P.trans (n.mono P.size);have iC:=eJ.next n;have lM:=S.keep n;have nY:=lM.lt;have hRw:CA w (.slice d xws.length f) xws:=⟨d,f,rfl,X⟩;have hXp4:=hXp.below iC (AG _);have y19:=(lM.at 19).trans (show (Ac xr xu (.slice d xws.length f))[19]? =some (.slice xu.pathA xu.path.length xu.pathC) from rfl);have hsw:=o.size;replace t:=H0 t;clear n P eJ S aK;go_wp2_with fail;go_call OS as e w5 ⟨vp,rfl,hvp,hb5⟩;obtain ⟨h,j,rfl,-,-⟩:=Ec hvp;have dN:=lM.keep hb5;have hs45:=hb5.size;have E:AF wr wr w5:=iV.trans (hb5.mono iV.size);have rF:=iC.next hb5;have mE:=dN.set (Ac xr (AY xu h j xu.path) (.slice d xws.length f));have yK:=Au E (g:=p7) A4 (Ac xr (AY xu h j xu.path) (.slice d xws.length f));have oK:=Au rF (g:=p7) A4 (Ac xr (AY xu h j xu.path) (.slice d xws.length f));have H:=OwnS.row hvp (g:=p7) nY (Ac xr (AY xu h j xu.path) (.slice d xws.length f));have Y:(w5.setRow p7 (Ac xr (AY xu h j xu.path) (.slice d xws.length f))).heap.size=w5.heap.size:=Nr _ _ _;obtain ⟨w6,o5⟩:∃ w6,w5.setRow p7 (Ac xr (AY xu h j xu.path) (.slice d xws.length f))=w6:=⟨_,rfl⟩;rw [o5] at mE yK oK H Y;clear hb5 iC iV lM hvp y19 hXp4;go_upto_region 7 with (refine BN dN 19 (Ac xr (AY xu h j xu.path) (.slice d xws.length f)) ?_);refine As (R:=λwx=>w6=wx) o5.symm ?_;rintro _ rfl;clear o5 dN rF E;have y24:=(mE.at 24).trans (show (Ac xr (AY xu h j xu.path) (.slice d xws.length f))[24]? =some (.slice d xws.length f) from rfl);have hRw6:=hRw.below oK (AG _);go_wp2_with fail;go_call Azl as e w7 ⟨vw,rfl,hvw,hb7⟩;obtain ⟨r,s,rfl,-,-⟩:=Ec hvw;have pW:=mE.keep hb7;have rP:AF wr wr w7:=yK.trans (hb7.mono yK.size);have uQ:=oK.next hb7;have hvp7:=H.below hb7 (AG _);have mL:=pW.set (Ac xr (AY xu h j xu.path) (.slice r xws.length s));have G:=Au rP (g:=p7) A4 (Ac xr (AY xu h j xu.path) (.slice r xws.length s));have oO:=Au uQ (g:=p7) A4 (Ac xr (AY xu h j xu.path) (.slice r xws.length s));have I:=OwnS.row hvp7 (g:=p7) nY (Ac xr (AY xu h j xu.path) (.slice r xws.length s));have F:=OwnS.row hvw (g:=p7) A4 (Ac xr (AY xu h j xu.path) (.slice r xws.length s));have T:(w7.setRow p7 (Ac xr (AY xu h j xu.path) (.slice r xws.length s))).heap.size=w7.heap.size:=Nr _ _ _;generalize hw8:w7.setRow p7 (Ac xr (AY xu h j xu.path) (.slice r xws.length s))=w8 at mL G oO I F T;go_upto_region 8 with (refine BN pW 24 (Ac xr (AY xu h j xu.path) (.slice r xws.length s)) ?_);refine As hw8.symm ?_;rintro _ rfl;have D:=fK.out.below G;have hX8:D7 w8 w ⟨xr,AY xu h j xu.path,.slice r xws.length s,xws⟩:=⟨I.low A4,F.low A4⟩;have hIy:=A6 (Ex ⟨xr,AY xu h j xu.path,.slice r xws.length s,xws⟩ m) ⟨C.out.right,AhK C.out.url h j,C.out.ws⟩;have W:=oO.size;go_wp2_with (first| (refine At mL ?_)| (refine Kg rfl _ rfl xr (AY xu h j xu.path) (.slice r xws.length s) rfl ?_)| (refine Akm rfl _ _ rfl (W0:=w) (w0:=w8) (B:=w.heap.size) (v:=u5) (l:=A) ⟨xr,AY xu h j xu.path,.slice r xws.length s,xws⟩ rfl rfl D hX8 oO W A4 ?_;intro v2 w9 mJ lT _;replace mJ:=H0 mJ;clear mL D hX8 oO))
      refine⟨⟨i+1,v2,A++[⟨xr,AY xu h j xu.path,.slice r xws.length s,xws⟩],rfl,AP,A4,H0 (u6.out _ _ yW t hIy.out),mJ,AS,H0 ?_,lT⟩,?_⟩
      · intro q hq
        rcases BL.1 hq with hq|hq
        · exact N.out q hq
        · grind
      · simp[intOf];omega
  · have V:L.take i=L:=Bc (by rw[<-z.out];omega)
    have aD:CX A (L.filter K):=by have:=yW.out;rwa[V]at this
    go_wp21;go_ret;exact⟨u5,A,rfl,aD,fK,A4,N,o⟩
structure K1(w wx:A7)(p:DF)(k:Nat)(C D:Array AJ):Prop where
 below:AF w w wx
 size:w.heap.size+4<=wx.heap.size
 a:AM wx w (Br p) 24
 b:AM wx (w.heap.size+1) #[.int .i64 (k:Int)] 3
 c:AM wx (w.heap.size+2) C 44
 o:AM wx (w.heap.size+3) D 44
def K1.start(w:A7)(p:DF)(k:Nat)(C D:Array AJ):K1 w ((((w.alloc (.cells (Br p) 24)).alloc (.cells #[.int .i64 (k:Int)] 3)).alloc (.cells C 44)).alloc (.cells D 44)) p k C D:=by
 have h:=Cu.start w (Br p) 24 #[.int .i64 (k:Int)] 3;have c:=AM.new ((w.alloc (.cells (Br p) 24)).alloc (.cells #[.int .i64 (k:Int)] 3)) C 44;have d:=AM.new (((w.alloc (.cells (Br p) 24)).alloc (.cells #[.int .i64 (k:Int)] 3)).alloc (.cells C 44)) D 44;rw[DB,DB]at c;rw[DB,DB,DB]at d;exact⟨(h.below.alloc US _).alloc (by rw[DB,DB,DB];omega) _,AS,(h.a.alloc _).alloc _,(h.b.alloc _).alloc _,c.alloc _,d⟩
def K1.keep{d:A7}{p:DF}(h:K1 w wx p k C D)(hb:AF wx wx d):K1 w d p k C D:=⟨h.below.next hb,Ks,h.a.keep hb,h.b.keep hb,h.c.keep hb,h.o.keep hb⟩
def K1.setO{p:DF}(h:K1 w wx p k C D)(E:Array AJ):K1 w (wx.setRow (w.heap.size+3) E) p k C E:=
 ⟨Au h.below A4 _,SO,h.a.other A4 _,h.b.other A4 _,h.c.other A4 _,h.o.set _⟩
def Avz(L:List CH)(t:A9)(n:Nat)(w:A7)(e:Ag)(w':A7):Prop:=∃(v:AJ)(l:List Bw),e=.returned (.agg (readC v t))/\CX l L/\CU w' w v l/\l.length<=n/\(∀x∈l,x.ws.length<=1000000000)/\AF w w w'
def AnA(p:DF)(k:Nat)(v:AJ)(t:A9)(l:List Bw)(L:List CH)(w:A7)(m:CD w)(j:FW w p)(y:IU w v l)(u:CX l L)(r:l.length<=900000000)(n:∀it∈L,it.right=true->BA it.url/\B9 it.url<=800000000)(q:∀x∈l,x.ws.length<=1000000000/\x.url.path.length<=1000000000):AD A8 27 #[.agg (Br p),.int .i64 (k:Int),.agg (readC v t)] w (Avz (L.filter (Bd (EL p.schemes.l p.hosts.l p.types.l) k)) t l.length w):=by
 have d:=K1.start w p k (readC v t) r0;obtain⟨R,B⟩:=AI (L.filter (Bd (EL p.schemes.l p.hosts.l p.types.l) k));go_in;go_upto_region 1 with(fail);refine As (R:=λwx=>K1 w wx p k _ r0) d ?_;intro A d;have z:_=some v:=d.c.at 0;go_wp21;go_call(λ(w':A7)(f:K1 w w' p k (readC v t) r0)=>AvY p k v l L w (w.heap.size+1) w' (m.next f.below) (j.below f.below (AG _)) f.a (f.b.at 0) (y.below f.below (AG _)) u r n q) as e w2⟨v2,l2,rfl,hi2,ho2,hl2,hw2,f⟩;have g:=d.below.size;have s:=d.size;have d:=d.keep f;have C:=(d.c.at 1).trans (show(readC v t)[1]?=some _ from rfl);obtain⟨h,c2,rfl,-,-,-⟩:=ho2.read;go_wp2_with(first|(refine wpList_buildTo rfl _ _ rfl _ rfl (readC (.slice h l2.length c2) t) AO ?_)|(refine Ax d.o (readC (.slice h l2.length c2) t) ?_));have i:=d.setO (readC (.slice h l2.length c2) t);refine Fj rfl rfl rfl i.o underlying44 (HU _ _) ?_;exact⟨_,l2,rfl,hi2,(ho2.row A4 _).low g,hl2,hw2,i.below⟩
def BF(k y:Nat)(t:A9):Array AJ:= #[.int .i64 (k:Int),.int .i64 (y:Int),.string t]
def NW(k y:Nat)(t:A9):(A8.info? 40).map (·.size)=some (BF k y t).size:=by show _=some 3;kernel_rfl
def OO(k y:Nat)(t:A9):(BF k y t).all (·.oneCell')=true:=AO
def UW(y:Nat)(w:A7):AD A8 22 #[.int .i64 (y:Int)] w λe w'=>e=.returned (.agg (BF 2 y ⟨#[]⟩))/\AF w w w':=by
 go_in;go_upto_region 1 with(fail);refine As (R:=λwx=>AF w w wx/\AM wx w (BF 0 0 ⟨#[]⟩) 40) ⟨Ah _ _,AM.new _ _ _⟩ ?_;rintro c⟨b,a⟩;go_wp2_with(first|(refine wpList_buildTo rfl _ _ rfl _ rfl (BF 2 y ⟨#[]⟩) AO ?_)|(refine Ax a (BF 2 y ⟨#[]⟩) ?_));refine Fj rfl rfl rfl (a.set _) underlying40 (NW _ _ _) ?_;exact⟨rfl,Au b (AG _) _⟩
def AuS(x:Bw)(w:A7):AD A8 26 #[.agg (Ac x.right x.url x.wv)] w λe w'=>e=.returned (.bool x.right)/\AF w w w':=by
 have b:=Ah w (.cells (Ac x.right x.url x.wv) 48);have a:AM (w.alloc (.cells (Ac x.right x.url x.wv) 48)) w.heap.size (Ac x.right x.url x.wv) 48:=AM.new _ _ _;generalize hw0:w.alloc (.cells (Ac x.right x.url x.wv) 48)=w0 at b a;have c:=(a.at 0).trans (show(Ac x.right x.url x.wv)[0]?=some (.bool x.right)from rfl);go_in;go_wp2;go_ret;exact⟨rfl,b⟩
def ArF(h:k<L.length):(L.drop k).any (·.right)=(L[k].right||(L.drop (k+1)).any (·.right)):=by rw[Fr h,OV]
def Ax4(v:AJ)(l:List Bw)(L:List CH)(w:A7)(C:IU w v l)(j:CX l L)(F:l.length<=1000000000):AD A8 56 #[v,.func (.func 26) #[] #[]] w λe w'=>(∃z:Int,e=.returned (.int .i64 z)/\Hid (decide (z≥0)=L.any (·.right)))/\AF w w w':=by
 have f:=j.len;obtain⟨pa,c,rfl,E,p,A⟩:=C;have q:AF w w w:=AU _ _;obtain⟨R,hR⟩:∃R,L.any (·.right)=R:=⟨_,rfl⟩;rw[hR];change Hid _ at hR p j f;clear A;go_in;go_wp2;go_loopw[5,8] (λv5 iv wr=>∃k:Nat,iv=.int .i64 (k:Int)/\k<=l.length/\AF w w wr/\Hid ((L.drop k).any (·.right)=R)) (λ_ i _=>l.length-(intOf i).toNat)
 ·exact⟨0,rfl,AR _,q,RC⟩
 obtain⟨k,rfl,D,a,t⟩:=hrel;clear q;by_cases g:k<l.length
 ·obtain⟨s,o,rfl,d⟩:=p.out A4;have y:=MT (d k g) a (AG _);have h:k<L.length:=by rw[<-f.out];exact g
  have u:=j.out.get k g h;have r:=ArF h;have aM:=t.out;rw[r,<-u.right]at aM;generalize hx:l[k]=x at y aM;have m:=H0 (λw=>show AD A8 26 #[.agg (HD x).toArray] w λe w'=>e=.returned (.bool x.right)/\AF w w w' from AuS x w);generalize hb:x.right=b at aM m;change Hid _ at hb hx aM;clear d u r h;cases b with
  |true=>
   have hf:=A6 (true=R) Ts;go_wp2_with(refine wpList_load_mid rfl 48 _ rfl s (o+k*25) rfl (HD x) _ y underlying48 rfl (Sd x) ?_);go_call m as e w3⟨rfl,hb3⟩;have n:=a.next hb3;clear hb3 y;go_wp2;go_ret;exact⟨⟨(k:Int),rfl,H0 (by rw[<-hf.out,II];omega)⟩,n⟩
  |false=>
   have B:=A6 ((L.drop (k+1)).any (·.right)=R) Ts;go_wp2_with(refine wpList_load_mid rfl 48 _ rfl s (o+k*25) rfl (HD x) _ y underlying48 rfl (Sd x) ?_);go_call m as e w3⟨rfl,hb3⟩;have n:=a.next hb3;clear hb3 y;go_wp2;refine⟨⟨k+1,AP,A4,n,B⟩,?_⟩;exact AzF
 have hf:=A6 (false=R) (by
  have:=t.out;rw[Cj (by rw[<-f.out];omega)]at this;exact this)
 go_wp2;go_ret;exact⟨⟨-1,rfl,H0 (by rw[<-hf.out];decide)⟩,a⟩
def Aza(v:AJ)(l:List Bw)(L:List CH)(w:A7)(d:IU w v l)(c:CX l L)(g:l.length<=1000000000):AD A8 25 #[v,.func (.func 26) #[] #[]] w (GG w (L.any (·.right))):=by
 have h:=H0 (Ax4 v l L w d c g);generalize hR:L.any (·.right)=R at h⊢;go_in;go_wp2_with fail;refine h.out.mono ?_;rintro e i⟨⟨z,rfl,b⟩,a⟩;have f:decide (0<=z)=R:=by rw[<-b.out]
 cases R with
 |true=>
  go_wp2;go_ret;exact⟨rfl,a⟩
 |false=>
  go_wp2;go_ret;exact⟨rfl,a⟩
def TQ(k:Nat)(B:AT)(b:AZ)(V:A5):Prop:=∀(s:A9)(w:A7),s.toList=V->CD w->Cy w B b->AD A8 55 #[.int .i64 (k:Int),.agg (AB B),.string s] w (Jm (Am k b V) w)
def Asq(k:Nat)(B:AT)(b:AZ)(pa:Option Addr)(n c:Nat)(l:A5)(w:A7)(j:CD w)(u:Cy w B b)(h:Cv w pa n c l)(G:n<=1000000000)(E:Qf l)(r:(CZ l).length<=1000000000)(F:(HO (CZ l)).length<=1000000000)(g:TQ k B b (Bh l)):AD A8 24 #[.int .i64 (k:Int),.agg (AB B),.slice pa n c] w (Jm (Am k b (Bh l)) w):=by
 have f:=Cu.start w (AB B) 34 r0 44;have D:=H0 (λw h j=>Av2 pa n c l w h G E j r F);have hit:=H0 g;have x:=H0 j;have C:=H0 u;have A:=H0 h;clear j u h g;obtain⟨R,o⟩:=AI (Am k b (Bh l));rw[o];unfold TQ at hit;rw[o]at hit;replace o:=H0 o;go_in;go_upto_region 1 with(fail);refine As (R:=λwx=>Cu w wx (AB B) 34 r0 44) f ?_;clear f;intro H f;have f:=f.drew;refine rds (λw'=>AM w' w (AB B) 34) f.a λi=> ?_;refine tq 0 ?_;refine tq 2 ?_;refine tkm 1 (λ_ h=>h.whole) ?_;refine rdk 3 λK q=> ?_;go_simp;go_call(D.out _ (A.out.below f.below (AG _)) (x.out.next f.below)) as e w2⟨t,rfl,ht,hb⟩;have f:=f.keep hb;clear hb i;go_wp2;refine rdg q f.a λi=> ?_;refine rdk 4 λK q=> ?_;go_simp;go_call(hit.out t _ ht (x.out.next f.below) (C.out.next f.below)) as e w3⟨v,hl,d,rfl,s,hd,m,hb⟩;have p:=f.b.lt;have z:=f.below.size;have f:=f.keep hb;have y:=m.one;replace s:=H0 s;replace m:=H0 m;clear hb i;go_wp2;refine rdg q f.a λi=> ?_;refine rdy 5 ?_;refine Ax f.b (readC v d) ?_ (h1:=(MS _ y));have f:=f.setB (readC v d);refine rde f.a λi=> ?_;refine rdn ?_;go_wp2;refine Fj rfl rfl rfl f.b underlying44 (HU _ _) ?_;exact⟨v,hl,d,rfl,s,hd,(m.out.row p _).low z,f.below⟩
def Ar4(a b:List Dw):∃t,Cf (a++b)=Cf a++t:=by
 cases a with
 |nil=>exact⟨Cf b,rfl⟩
 |cons c r=>
  refine⟨Da b,?_⟩;show DA c++Da (r++b)=(DA c++Da r)++Da b;unfold Da;rw[Jh,CQ]
def Ar7(M:List Dw)(k:Nat):(Cf (M.take k)).length<=(Cf M).length:=by
 have⟨t,ht⟩:=Ar4 (M.take k) (M.drop k);rw[F7]at ht;rw[ht,Aa];omega
def Aox{M:List Dw}(h:k<M.length):Cf (M.take (k+1))=(Cf (M.take k)++R2 k)++DA M[k]:=by
 rw[Fe h,AyO];congr 2;unfold R2;by_cases a:k=0
 ·subst a;rfl
 rw[AA a,AA (by
  intro e;have:=congrArg List.length e;rw[Cl,Ep]at this;omega)]
def AvG{a:CH}(h:Ex x a):DA (Df a)=C6 a.url true++GU x.ws:=by
 show C6 a.url true++a.ws.flatMap (λt=>32::t)=_;rw[<-h.ws];unfold GU;rw[List.flatMap_map]
def Azc(v:AJ)(l:List Bw)(L:List CH)(w:A7)(hE:CD w)(hr:IU w v l)(aZ:CX l L)(hg:∀V∈L,BA V.url/\B9 V.url<=1000000000)(hn:l.length<=1000000000)(hw:∀x∈l,x.ws.length<=1000000000)(hz:(Cf (L.map Df)).length<=1000000000):AD A8 61 #[v] w (Bi w (Cf (L.map Df))):=by
 have u:=aZ.len;obtain⟨M,hM⟩:=AI (L.map Df);have H:M.length=l.length:=by rw[<-hM,Bz,u]
 have hMk:∀k(h:k<L.length),M[k]?=some (Df L[k]):=λk h=>by rw[<-hM,GF,Cs h];rfl
 rw[hM]at hz⊢;replace hM:=H0 hM;have z:=Ei.fresh w w;have aQ:=Ah w (.cells #[.pointer none,.slice none 0 0] 76);have kD:w.heap.size+1<=(w.alloc (.cells #[.pointer none,.slice none 0 0] 76)).heap.size:=by rw[DB];omega
 generalize hw0:w.alloc (.cells #[.pointer none,.slice none 0 0] 76)=w0 at z aQ kD;obtain⟨b,E⟩:=AI (w.heap.size);obtain⟨pa,c,rfl,bE,aH,dD⟩:=hr;have cA:=H0 hE;change Hid _ at aH dD hg hw aZ hMk u H;clear hE;go_in;go_wp2_with fail;rw[E]at z aQ kD;go_loopw[4,5,7,10] (λv4 v5 v7 iv wr=>∃k:Nat,iv=.int .i64 (k:Int)/\k<=l.length/\Ei wr b b (Cf (M.take k))/\AF b w wr/\b+1<=wr.heap.size) (λ_ _ _ i _=>l.length-(intOf i).toNat)
 ·exact⟨0,rfl,AR _,z,aQ,kD⟩
 obtain⟨k,rfl,g,O,r,aP⟩:=hrel;clear z aQ kD;by_cases N:k<l.length
 ·have fC:=u.out;have hMl2:=H.out;obtain⟨g1,o1,rfl,t⟩:=aH.out A4;have y0:=t k N;have hX:=dD.out l[k] (CI ..);have D:=aZ.out.get k N A4;have hG:=hg.out L[k] (CI ..);have hW:=hw.out l[k] (CI ..);have y:=Aox (M:=M) (k:=k) A4;have hMp:=Ar7 M (k+1);have hMv:M[k]' A4=Df L[k]:=by
   have:=hMk.out k A4;rw[Cs A4]at this;exact Cm this
  rw[hMv]at y;obtain⟨x,hx⟩:=AI (l[k]);obtain⟨V,hit⟩:=AI (L[k]' A4);rw[hx]at y0 hX D hW;rw[hit]at D hG y;rw[AvG D]at y;obtain⟨p,d,xw,a⟩:=x;obtain⟨S,P,Q⟩:=hX;dsimp only at S P Q D hW y;obtain⟨m,n,rfl,hwc⟩:=Q;have hy:wr.rangeAt g1 (o1+k*25) (Ac p d (.slice m a.length n)).toList:=MT y0 r A4;have J:AM (wr.alloc (.cells (Ac p d (.slice m a.length n)) 48)) wr.heap.size (Ac p d (.slice m a.length n)) 48:=AM.new _ _ _;have f:Ei (wr.alloc (.cells (Ac p d (.slice m a.length n)) 48)) b b (Cf (M.take k)):=O.keep (Ah _ _);have G:AF b w (wr.alloc (.cells (Ac p d (.slice m a.length n)) 48)):=r.alloc A4 _;have bL:(wr.alloc (.cells (Ac p d (.slice m a.length n)) 48)).heap.size=wr.heap.size+1:=DB _ _;generalize hw3:wr.alloc (.cells (Ac p d (.slice m a.length n)) 48)=w3 at J f G bL;change Hid _ at D hx hit y;clear y0 t hMv O hit fC hMl2;go_upto_region 5 with(first|(refine wpList_load_mid rfl 48 _ rfl g1 (o1+k*25) rfl (Ac p d (.slice m a.length n)).toList _ hy underlying48 rfl (Sd ⟨p,d,.slice m a.length n,a⟩) ?_)|(refine Cw (Ac p d (.slice m a.length n)) ?_));refine As (R:=λwx=>w3=wx) hw3.symm ?_;rintro _ rfl;clear hw3 hy;generalize hp5:wr.heap.size=p5 at J bL aP⊢;generalize K:Cf (M.take k)++R2 k=P0 at y;have B:(Cf (M.take k)++R2 k).length<=1000000000:=by
   have e:=y.out;rw[<-K]at e;rw[e,Aa]at hMp;omega
  have hPk:(Cf (M.take k)).length<=1000000000:=by rw[Aa]at B;omega
  replace K:=H0 K;have hbb1:b<=w3.heap.size:=A4;go_upto_if 16 with(fail);go_cut[17] (λs17 wx=>Ei wx b b P0/\AF b w wx/\AM wx p5 (Ac p d (.slice m a.length n)) 48/\b+1<=wx.heap.size)
  ·by_cases Y:k=0
   ·subst Y;have F:P0=Cf (M.take 0):=by rw[<-K.out];rfl
    rw[<-F]at f;replace F:=H0 F;go_wp2_with fail;go_meet;exact⟨f,G,J,A4⟩
   have jZ:0<(k:Int):=A4;have F:P0=Cf (M.take k)++[44,32]:=by rw[<-K.out];unfold R2;rw[AA Y]
   replace F:=H0 F;go_wp2_with fail;go_call WB as e w4⟨rfl,s,hch4,hkt4⟩;have T:Ei w4 b b P0:=by rw[F.out];rwa[show(ByteArray.mk #[44,32]).toList=[44,32]from toList_mk _]at s
   have I:AF b w w4:=G.trans (hch4.below hbb1 (λk g=>by rcases g with rfl|g;exact AG _;exact g));have Z:=hkt4 _ _ _ AE A4 J;have cK:=hch4.size;clear s hch4 hkt4 f G J;go_wp2_with fail;go_meet;exact⟨T,I,Z,A4⟩
  obtain⟨s,I,Z,cK⟩:=hcut;clear f G J;have hp5b:b+1<=p5:=aP;have hyU:wc.rangeAt p5 1 (AB d).toList:=by
   have:=RA (x:=⟨p,d,.slice m a.length n,a⟩) (o:=0) Z.whole;simpa using this
  have X:Cy wc d V.url:=⟨D.out.url,S.below I A4,P⟩;have gU:=H0 (Ng D.out.url hG.1 A4);have hwx:=H0 (Mo D.out.url true);have hlenu:=Jn hG.1 true;go_wp2_with(refine wpList_load_mid rfl 34 _ rfl p5 1 rfl (AB d).toList _ hyU underlying34 rfl (R8 _) ?_);go_call(PL d true wc X.inn gU (cA.out.next (by rw[E];exact I)).tabs) as e w5⟨tw,rfl,htw,hb45⟩;have A:=A6 (tw.toList=C6 V.url true) (htw.out.trans hwx);have htz:tw.size<=1000000050:=by rw[<-AK,A.out];omega
  have hb5:=s.keep hb45;have dN:=Z.keep hb45;have rF:AF b w w5:=I.trans (hb45.mono A4);have dI:=hb45.size;have hPz:P0.length<=1000000000:=by rw[<-K.out];exact B
  clear hyU X s Z I hb45 htw;go_wp2_with fail;go_call WB as e w6⟨rfl,hb6,hch6,hkt6⟩;have oK:AF b w w6:=rF.trans (hch6.below A4 (λk g=>by rcases g with rfl|g;exact AG _;exact g));have mE:=hkt6 _ _ _ AE A4 dN;have vJ:=hch6.size;have y24:=(mE.at 24).trans (show(Ac p d (.slice m a.length n))[24]?=some (.slice m a.length n)from rfl);generalize jR:P0++tw.toList=P1 at hb6;have C:=A6 (Cf (M.take (k+1))=P1++GU a) (by rw[y.out,<-jR,A.out,CQ]);have hP1z:(P1++GU a).length<=1000000000:=by rw[<-C.out];omega
  rw[Aa]at hP1z;replace jR:=H0 jR;clear hb5 dN rF hch6 hkt6 y;go_wp2_with fail;go_loopw[7,25] (λv7 jv wq=>∃j:Nat,jv=.int .i64 (j:Int)/\j<=a.length/\Ei wq b b (P1++GU (a.take j))/\AF b w wq/\b+1<=wq.heap.size) (λ_ i _=>a.length-(intOf i).toNat)
  ·exact⟨0,rfl,AR _,by rw[J5];simpa[GU]using hb6,oK,A4⟩
  obtain⟨j,rfl,hj,W,tH,hsq⟩:=hrel;clear hb6 oK mE y24;by_cases hjl:j<a.length
  ·obtain⟨g2,o2,rfl,qX⟩:=hwc A4;have y2:=qX j hjl;have U:=EV w _ y2;have y3:wr.cell? ⟨g2,o2+j,none⟩=some (.string a[j]):=(tH.cell (by simp at U⊢;omega)).trans y2;have aV:=AoN hjl;have pD:=Ajg a (j+1);have hpre0:=Ajg a j;rw[aV,Aa,BC,AK]at pD;have hz1:(P1++GU (a.take j)).length<=1000000000:=Qi;have hz2:a[j].size<=1000000000:=A4;generalize htj:a[j]=tj at y3 aV hz2;generalize hP2:P1++GU (a.take j)=P2 at W hz1;have cI:=A6 (P1++GU (a.take (j+1))=(P2++[32])++tj.toList) (by rw[aV,<-hP2];simp);change Hid _ at htj hP2;clear aV pD y2 qX;go_wp2_with fail;go_call(Axl b b P2 32 wr W A4 A4) as e w7⟨rfl,hb7,hch7,-⟩;have uQ:AF b w w7:=tH.trans (hch7.below A4 (λk g=>by rcases g with rfl|g;exact AG _;exact g));have hs7:=hch7.size;clear W tH hch7 y3;go_wp2_with fail;go_call WB as e w8⟨rfl,hb8,hch8,-⟩;have oO:AF b w w8:=uQ.trans (hch8.below A4 (λk g=>by rcases g with rfl|g;exact AG _;exact g));have hs8:=hch8.size;clear hb7 uQ hch8;go_wp2_with fail;refine⟨⟨j+1,AP,A4,by rw[cI.out];exact hb8,oO,A4⟩,?_⟩;exact AzF
  have aD:Cf (M.take (k+1))=P1++GU (a.take j):=by rw[C.out,Bc A4]
  rw[<-aD]at W;replace aD:=H0 aD;go_wp2_with fail;go_roundw;exact⟨k+1,AP,A4,W,tH,hsq⟩;exact AzF
 have q:M.take k=M:=Bc (by rw[H.out];omega);rw[q]at O;have hBl:DL wr b b (Cf M):=O.to (AG _) (AG _);replace q:=H0 q;go_wp2_with fail;go_call Ml as e w3⟨tt,rfl,htt,f⟩;have G:=r.trans f;clear f hBl O;go_wp2_with fail;go_ret;exact⟨tt,rfl,htt,by rw[E];exact G⟩
def InW(v:AJ)(t:A9)(l:List Bw)(L:List CH)(w:A7)(n:CD w)(u:IU w v l)(s:CX l L)(o:∀it∈L,BA it.url/\B9 it.url<=1000000000)(B:0<l.length)(r:l.length<=1000000000)(p:∀x∈l,x.ws.length<=1000000000)(k:(Cf (L.map Df)).length<=1000000000):AD A8 28 #[.int .i64 2,.agg (readC v t)] w (Bi w (C8 (Cf (L.map Df)))):=by
 have b:=Ah w (.cells (readC v t) 44);have j:AM (w.alloc (.cells (readC v t) 44)) w.heap.size (readC v t) 44:=AM.new _ _ _;generalize hw0:w.alloc (.cells (readC v t) 44)=w0 at b j;have h:=u.below b (AG _);have g:=Azc v l L w0 (n.next b) h s o r p k;obtain⟨pa,c,rfl,-,-,-⟩:=h;have z:=(j.at 0).trans (show(readC _ t)[0]?=some (.slice pa l.length c)from rfl);obtain⟨N,i⟩:=AI (l.length);generalize hW:Cf (L.map Df)=W at g k⊢;replace i:=H0 i;go_in;go_wp21;refine g.mono ?_;rintro e A⟨q,rfl,a,d⟩;have f:=b.next d;have m:q.size<=4294967296:=by rw[<-AK,a.out];omega
 go_wp21;go_call Aa1 as e w2⟨te,rfl,hte,hb3⟩;have y:=A6 (te.toList=C8 W) (by rw[hte.out,a.out]);go_wp2;go_ret;exact⟨_,rfl,y,f.next hb3⟩
def As2(v:AJ)(t:A9)(x:Bw)(l:List Bw)(u:AZ)(w:A7)(F:CD w)(T:IU w v (x::l))(hx:Bu x.url u)(g:BA u)(Y:B9 u<=900000000)(r:t.size<=1000000000):AD A8 28 #[.int .i64 3,.agg (readC v t)] w (Bi w (C8 (Ly (t.toList,true,C6 u true)))):=by
 have i:=Ah w (.cells (readC v t) 44);have j:AM (w.alloc (.cells (readC v t) 44)) w.heap.size (readC v t) 44:=AM.new _ _ _;have f:=Jn g true;have I:=H0 (Ng hx g A4);have D:=H0 (Mo hx true);generalize hw0:w.alloc (.cells (readC v t) 44)=w0 at i j;have M:=T.below i (AG _);obtain⟨pa,c,rfl,S,K,P⟩:=M;obtain⟨R,J,rfl,b⟩:=K AN;have y:=RA (b 0 AN);have E:=P x (CC ..);have C:=(E.urlW hx).inn;have O:=(j.at 0).trans (show(readC _ t)[0]?=some (.slice _ (x::l).length c)from rfl);have n:(1:Int)<=((x::l).length:Int):=by rw[BC];omega
 generalize hN:(x::l).length=N at O n S hw0 j⊢;generalize hL:C6 u true=L at D f⊢;change Hid _ at hL hN F E C;have s:=H0 (PL x.url true w0 C I (F.out.next i).tabs);go_in;go_wp2_with(refine wpList_load_mid rfl 34 _ rfl R (J+1) rfl (AB x.url).toList _ y underlying34 rfl (R8 _) ?_);refine s.out.mono ?_;rintro e Q⟨k,rfl,B,h⟩;have A:=i.next h;have a:=A6 (k.toList=L) (by rw[B.out,D.out]);have d:k.size<=1000000000:=by rw[<-AK,a.out];omega
 have W:=((j.keep h).at 1).trans (show(readC _ t)[1]?=some _ from rfl);have p:=H0 (Au7 t k true Q r d);go_wp2_with(refine wpList_buildTo rfl _ _ rfl _ rfl #[.string t,.bool true,.string k] AO ?_);refine p.out.mono ?_;rintro e X⟨H,rfl,q,o⟩;have G:=A6 (H.toList=Ly (t.toList,true,L)) (by rw[q.out,a.out]);have z:=A.next o;have V:H.size<=4294967296:=by
  rw[<-AK,G.out];have h1:=AK t;unfold Ly;grind
 go_wp21;go_call Aa1 as e w3⟨te,rfl,hte,hb5⟩;have U:=A6 (te.toList=C8 (Ly (t.toList,true,L))) (by rw[hte.out,G.out]);have m:=z.next hb5;go_wp2;go_ret;exact⟨_,rfl,U,m⟩
def AiZ(w:A7)(k y:Nat)(t:A9):(Op.equalIn 10000 40 (.agg (BF k y t)) (.agg (BF k y t))).run A8 w=.ok true w:=by
 have hf:(A8.fieldsOf 40).toList=[{name:= "Kind",type:=3,offset:=0,embedded:=false,tag:= "",pkgPath:= "",byteOffset:=0},{name:= "Why",type:=3,offset:=1,embedded:=false,tag:= "",pkgPath:= "",byteOffset:=8},{name:= "Out",type:=9,offset:=2,embedded:=false,tag:= "",pkgPath:= "",byteOffset:=16}]:=by kernel_rfl
 rw[run_equalIn_struct w 9999 _ _ _ AO AO,hf];have p0:∀w,(part 3 (BF k y t) 0).run A8 w=.ok (.int .i64 (k:Int)) w:=λw=>BE
 have p1:∀w,(part 3 (BF k y t) 1).run A8 w=.ok (.int .i64 (y:Int)) w:=λw=>BE
 have p2:∀w,(part 9 (BF k y t) 2).run A8 w=.ok (.string t) w:=λw=>BE
 have q0:∀w(n:Int),(Op.equalIn 9999 3 (.int .i64 n) (.int .i64 n)).run A8 w=.ok true w:=λw n=>Abx
 have q1:∀w,(Op.equalIn 9999 9 (.string t) (.string t)).run A8 w=.ok true w:=λw=>Ag0
 simp[Op.eqFields,p0,p1,p2,q0,q1]
end Go.Proofs.YtonomfeipkdmhaaGreatDoor
