/- Lemmas. -/
import Derived.Test.YtonomfeipkdmhaaGreatDoorZm18
import Derived.Test.YtonomfeipkdmhaaGreatDoorZm19
set_option linter.all false
set_option maxRecDepth 100000
set_option maxHeartbeats 16000000
namespace Go.Proofs.YtonomfeipkdmhaaGreatDoor
open Go renaming maxLen->BK,World->A7,Calls->AD,Value->AJ,TypeId->Ab,Ending->Ag
open Go.RowKit renaming Below->AF
open Go.RowKit Go.Proofs.Tryz
open Go.Proofs.Tryz renaming prog->A8
def Auk(pa b:Option Addr)(c d:Nat)(l:List A9)(w:A7)(h1:EX w pa l.length c l)(k:EX w b l.length d l)(m:l.length<=1000000000):AD A8 101 #[.slice pa l.length c,.slice b l.length d] w λe w'=>e=.returned (.bool true)/\AF w w w':=by
 by_cases i:l.length=0
 ·rw[i];go_call Tryz.slices_Equal_string_empty;refine AH ?_;exact UH
 have⟨a1,c1,hv,hc⟩:=h1.read;cases hv;have⟨a2,c2,hv,hd⟩:=k.read;cases hv;obtain⟨g,o,rfl,h⟩:=hc A4;obtain⟨g2,f,rfl,n⟩:=hd A4;have p:∀j(a:j<l.length),l.getD j ByteArray.empty=l[j]:=λj a=>by simp_all
 go_call(Tryz.slices_Equal_string g o l.length c g2 f l.length d l l w (AG _) (AG _) A4 A4 (λj a=>AS) (λj a=>AS)) as e w'⟨rfl,q,rfl⟩;refine⟨AS,Ey (AU _ _) q⟩
def Atm:A8.eqGuardType A8.depth 32=false:=AO
def AuY(S:AT)(pa:Option Addr)(c:Nat)(w:A7)(h1:EX w S.pathA S.path.length S.pathC S.path)(g:EX w pa S.path.length c S.path)(A:S.path.length<=1000000000):AD A8 54 #[.agg (AB S),.agg (AB (AY S pa c S.path))] w (GG w true):=by
 have d:=Cu.start w (AB S) 34 (AB (AY S pa c S.path)) 34;generalize hw0:(w.alloc (.cells (AB S) 34)).alloc (.cells (AB (AY S pa c S.path)) 34)=w0 at d;have r:=H0 (λw'(f:AF w w w')=>Auk S.pathA pa S.pathC c S.path w' (h1.below f (AG _)) (g.below f (AG _)) A);have G:=Atm;have F:=λw=>Ay0 w S.host;have s:=d.a.host;have i:=d.b.host;have L:_=some (Value.string S.scheme):=d.a.at 0;have J:_=some (Value.string S.user):=d.a.at 1;have I:_=some (Value.string S.pass):=d.a.at 2;have p:_=some (Value.bool S.hasPort):=d.a.at 14;have u:_=some (Value.int .i64 S.port):=d.a.at 15;have h:_=some (Value.bool S.flatP):=d.a.at 16;have o:_=some (Value.string S.flat):=d.a.at 17;have C:_=some (Value.slice S.pathA S.path.length S.pathC):=d.a.at 18;have E:_=some (Value.string S.scheme):=d.b.at 0;have K:_=some (Value.string S.user):=d.b.at 1;have H:_=some (Value.string S.pass):=d.b.at 2;have D:_=some (Value.bool S.hasPort):=d.b.at 14;have B:_=some (Value.int .i64 S.port):=d.b.at 15;have y:_=some (Value.bool S.flatP):=d.b.at 16;have q:_=some (Value.string S.flat):=d.b.at 17;have k:_=some (Value.slice pa S.path.length c):=d.b.at 18;clear h1 g;go_in;go_upto_region 1 with(fail);clear hw0;refine wp_region_lit ?_;simp only[List.append];go_wp2_with(first|(refine IM BE ?_;refine wpList_load_mid rfl 32 _ rfl w 3 rfl (AV S.host).toList _ s underlying32 rfl (Tu _) ?_)|(refine IM BE ?_;refine wpList_load_mid rfl 32 _ rfl (w.heap.size+1) 3 rfl (AV S.host).toList _ i underlying32 rfl (Tu _) ?_));go_call(r.out w0 d.below) as e w3⟨rfl,f⟩;have d:=d.keep f;have x:_=some (Value.bool S.hasQuery):=d.a.at 19;have m:_=some (Value.string S.query):=d.a.at 20;have l:_=some (Value.bool S.hasFrag):=d.a.at 21;have n:_=some (Value.string S.frag):=d.a.at 22;have t:_=some (Value.bool S.hasQuery):=d.b.at 19;have j:_=some (Value.string S.query):=d.b.at 20;have z:_=some (Value.bool S.hasFrag):=d.b.at 21;have v:_=some (Value.string S.frag):=d.b.at 22;go_wp2;go_ret;exact⟨rfl,d.below⟩
def Aot{S T:AT}{u:AZ}(h:Bu S u)(c:Bu T u):T=AY S T.pathA T.pathC S.path:=by
 have e:∀{a b:A9}{l:A5},a.toList=l->b.toList=l->b=a:=λh f=>Lo (f.trans h.symm);have d:T.path=S.path:=by
  have:T.path.map _=S.path.map _:=c.path.trans h.path.symm;grind[List.map_inj_right,Lo]
 cases T;unfold AY;simp only[AT.mk.injEq];exact⟨e h.scheme c.scheme,e h.user c.user,e h.pass c.pass,c.host.trans h.host.symm,c.hasPort.trans h.hasPort.symm,c.port.trans h.port.symm,c.opq.trans h.opq.symm,e h.flat c.flat,trivial,trivial,d,c.hasQuery.trans h.hasQuery.symm,e h.query c.query,c.hasFrag.trans h.hasFrag.symm,e h.frag c.frag⟩
def Aww(S:AT)(u:AZ)(w:A7)(x:CD w)(f:Cy w S u)(g:BA u)(L:B9 u<=1090000):AD A8 23 #[.agg (AB S)] w (GG w true):=by
 have m:=Ah w (.cells (AB S) 34);have p:AM (w.alloc (.cells (AB S) 34)) w.heap.size (AB S) 34:=AM.new _ _ _;have C:=Jn g true;have H:=H0 (Ng f.is g A4);have B:=H0 (Mo f.is true);have J:=H0 (Aan g);have I:=YG u.path;have y:S.path.length<=1000000000:=by
  have:S.path.length=u.path.length:=by rw[<-f.is.path,Bz]
  rw[this];unfold B9 at L;omega
 generalize hw0:w.alloc (.cells (AB S) 34)=w0 at m p;change Hid _ at f x;go_in;go_wp2_with(refine At p ?_);clear hw0;go_call(PL S true w0 (f.out.below m (AG _)).inn H (x.out.next m).tabs) as e w1⟨t,rfl,ht,hb1⟩;have i:=m.next hb1;have k:=p.keep hb1;have v:t.size<=1100000:=by rw[<-AK,ht.out,B.out];omega
 have F:Du t.toList=some u:=by rw[ht.out,B.out];exact J
 clear m p hb1;go_wp2_with fail;have d:=YE t w1 (x.out.next i) v;rw[F]at d;refine d.mono ?_;rintro e b⟨T,rfl,hu,c⟩;clear d F;have h:=i.next c;have A:=k.keep c;have K:=h.size;have D:=A6 (S=AY T S.pathA S.pathC T.path) (Aot hu.is f.out.is);have n:=hu.w;clear i k c;have a:AF w w (b.alloc (.cells (AB T) 34)):=h.alloc K _;have s:AM (b.alloc (.cells (AB T) 34)) w.heap.size (AB S) 34:=A.alloc _;have E:AM (b.alloc (.cells (AB T) 34)) b.heap.size (AB T) 34:=AM.new _ _ _;have o:Cy (b.alloc (.cells (AB T) 34)) T u:=n.below ((AU b b).alloc (AG _) _) (AG _);obtain⟨q,l⟩:∃q,b.alloc (.cells (AB T) 34)=q:=⟨_,rfl⟩;go_upto_region 2 with(refine Cw (AB T) ?_);rw[l]at a s E o⊢;clear l n h A;go_wp2_with(first|(refine At s ?_)|(refine IM BE ?_;refine At s ?_)|(refine IM BE ?_;refine At E ?_));have r:S.path=T.path:=(congrArg AT.path D).trans rfl;have G:EX q S.pathA T.path.length S.pathC T.path:=by
  have:=f.out.path.below a (AG _);rwa[r]at this
 have z:=AuY T S.pathA S.pathC q o.path G (by rw[<-r];exact y);rw[<-D.out]at z;refine z.mono ?_;rintro e M⟨rfl,j⟩;have a:=a.next j;clear z r G j;go_wp2;go_ret;exact⟨rfl,a⟩
def Awi(s:A9)(w:A7)(e:Ag)(w':A7):Prop:=
 ∃S:AT,∃b:Bool,e=.returned (.tuple #[.agg (AB S),.bool b])/\CS w' w S ((Du s).getD EH)/\(b=true->(∃u,Du s.toList=some u)/\s.size<=300)/\AF w w w'
def Asb(s:A9)(w:A7)(x:CD w)(D:s.size<=1100000):AD A8 8 #[.string s] w (Awi s w):=by
 have C:=H0 x;clear x;have z:=Ah w (.cells (AB zS) 34);have v:AM (w.alloc (.cells (AB zS) 34)) w.heap.size (AB zS) 34:=AM.new _ _ _;go_in;go_upto_region 1 with(fail);refine As (R:=λwx=>AF w w wx/\AM wx w (AB zS) 34) ⟨z,v⟩ ?_;clear z v;rintro y⟨a,p⟩;have l:=YE s y (C.out.next a) D;generalize ho:Du s.toList=o at l;replace ho:=H0 ho;go_wp2_with fail;refine l.mono ?_;rintro e b⟨T,rfl,hu,r⟩;obtain⟨k,j⟩:=AI (o.isSome);rw[j];have c:=a.next r;have f:=p.keep r;have m:=a.size;have B:=c.size;have n:=p.lt;clear r a p l;have hb5:AF w w (b.alloc (.cells (AB T) 34)):=c.alloc B _;have cY:AM (b.alloc (.cells (AB T) 34)) w.heap.size (AB zS) 34:=f.alloc _;have kQ:AM (b.alloc (.cells (AB T) 34)) b.heap.size (AB T) 34:=AM.new _ _ _;have i:CS (b.alloc (.cells (AB T) 34)) y.heap.size T (o.getD EH):=hu.next ((AU b b).alloc (AG _) _);obtain⟨t,g⟩:∃t,b.alloc (.cells (AB T) 34)=t:=⟨_,rfl⟩;go_upto_region 2 with(refine Cw (AB T) ?_);rw[g]at hb5 cY kQ i⊢;clear g hu c f;replace i:=H0 i;have h6:=A6 (CS (t.setRow w (AB T)) w.heap.size T (o.getD EH)) (i.out.row n m _);have h:=A6 (k=true->∃u,o=some u) (λe=>by
  cases o with
  |none=>rw[<-j]at e;cases e
  |some u=>exact⟨u,rfl⟩)
 replace j:=H0 j;have d:=H0 (λe:k=true=>h.out e);cases k with
 |false=>
  exact AeI
 |true=>
  replace d:=H0 (d.out rfl);clear h;by_cases A:s.size<=300
  ·have q:(s.size:Int)<=300:=A4;go_wp2_with(first|(refine At kQ ?_)|(refine Ax cY (AB T) ?_));refine G8 rfl rfl rfl rfl (cY.set _) (Bj _) ?_;exact⟨T,true,rfl,(by rw[ho.out];exact h6),λ_=>⟨by rw[ho.out];exact d,A⟩,Au hb5 (AG _) _⟩
  have q:¬(s.size:Int)<=300:=A4;exact AeI
def XP{l:List A9}{k:Nat}(h:k<l.length)(f:A9->Bool):(l.take (k+1)).any f=((l.take k).any f||f l[k]):=by
 rw[Fe h,List.any_append];simp
def Awr{c:UInt8}(h:(c==46)=false):((c:Int)==46)=false:=by
 rw[B6]at h⊢;intro e;exact h (CM.1 (by show c.toNat=46;omega))
def Aus{c:UInt8}(h:(c==46)=true):((c:Int)==46)=true:=by simp_all
def WF{l:List A9}{k:Nat}(h:l.length<=k)(f:A9->Bool):(l.take k).any f=l.any f:=by
 rw[Bc h]
def IH.drewN{w wx:A7}{A:Array AJ}{c:Ab}{B:Array AJ}{d:Ab}(h:IH w wx A c B d)(n:Nat):IH w (wx.drewN n) A c B d:=⟨Ey h.below n,h.a,h.b,h.size⟩
def Ayo(p:DF)(u:AT)(w:A7)(hp:FW w p)(hpu:HF w u)(cO:Ls u)(Y:(Hj u false).length<=900000000):AD A8 14 #[.agg (Br p),.agg (AB u)] w (GG w (I4 p.schemes.l p.hosts.l p.types.l u)):=by
 obtain⟨⟨sa,sc,i⟩,⟨ha,hc,f⟩,⟨ta,tc,g⟩,pm⟩:=p;have V:=IH.start w (Br ⟨⟨sa,sc,i⟩,⟨ha,hc,f⟩,⟨ta,tc,g⟩,pm⟩) 24 (AB u) 34;have hA:Hid (I4 i f g u=(Gx i u.scheme.toList&&hostA f u.host&&MC g u)):=rfl;obtain⟨P,Z⟩:∃P:Array AJ,Br ⟨⟨sa,sc,i⟩,⟨ha,hc,f⟩,⟨ta,tc,g⟩,pm⟩=P:=⟨_,rfl⟩;have tZ:P[0]?=some (.slice sa i.length sc):=by rw[<-Z];rfl
 have jR:P[1]?=some (.slice ha f.length hc):=by rw[<-Z];rfl
 have hP2:P[2]?=some (.slice ta g.length tc):=by rw[<-Z];rfl
 have Q:Ib w ⟨sa,sc,i⟩:=hp.schemes;have dE:Ib w ⟨ha,hc,f⟩:=hp.hosts;have bL:Ib w ⟨ta,tc,g⟩:=hp.types;show AD _ _ _ w (GG w (I4 i f g u));rw[Z]at V⊢;change Hid _ at Z Q dE bL tZ jR hP2;clear hp;go_in;go_upto_region 2 with(fail);refine As (R:=λwx=>IH w wx P 24 (AB u) 34) V ?_;clear V;rintro w0 V;go_wp2_with fail;have hn1:=Q.out.n;unfold BK at hn1;go_loopw[5,6] (λs5 iv wr=>∃(k:Nat)(b:Bool),s5=.bool b/\iv=.int .i64 (k:Int)/\k<=i.length/\Hid (b=(i.take k).any (λx=>x.toList==u.scheme.toList))/\IH w wr P 24 (AB u) 34) (λ_ iv _=>i.length-(intOf iv).toNat)
 ·exact⟨0,false,rfl,rfl,AR _,H0 rfl,V⟩
 obtain⟨k,b,rfl,rfl,hk,hb,v⟩:=hrel;clear V;have x0:=(BV _ _ 0 _ _ _ v.a).trans tZ;have y0:=(BV _ _ 0 _ _ _ v.b).trans (show(AB u)[0]?=some (.string u.scheme)from rfl);by_cases W:k<i.length
 ·have bO:=H0 (XP W (λx=>x.toList==u.scheme.toList));obtain⟨g1,o1,tX,d⟩:=Q.out.cells (by show 0<i.length;omega);replace tX:sa=some ⟨g1,o1,none⟩:=tX;subst tX;have x1:=d k W;have b1:=EV w _ x1;have y1:wr.cell? ⟨g1,o1+k,none⟩=some (.string i[k]):=(v.below.cell OW).trans x1;clear d x1 b1;cases b with
  |true=>
   go_wp2_with fail;go_quiet(fail);go_wp2_with fail;go_roundw;exact⟨k+1,true,rfl,AP,A4,H0 (by rw[bO.out,<-hb.out];rfl),v.drewN _⟩;exact AzF
  |false=>
   cases I:i[k].toList==u.scheme.toList
   ·go_wp2_with fail;go_quiet(fail);go_wp2_with fail;go_roundw;exact⟨k+1,false,rfl,AP,A4,H0 (by rw[bO.out,<-hb.out,I];rfl),v.drewN _⟩;exact AzF
   go_wp2_with fail;go_quiet(fail);go_wp2_with fail;go_roundw;exact⟨k+1,true,rfl,AP,A4,H0 (by rw[bO.out,<-hb.out,I];rfl),v.drewN _⟩;exact AzF
 have dQ:=A6 (b=Gx i u.scheme.toList) (by rw[hb.out,WF A4];rfl);have y3:=(BV _ _ 3 _ _ _ v.b).trans (show(AB u)[3]?=some (.int .i64 u.host.kind)from rfl);have bP:∃B,Hid (B=LR u.host)/\((B=true/\((u.host.kind==0)=true\/((u.host.kind==0)=false/\(u.host.kind==1)=true)))\/(B=false/\(u.host.kind==0)=false/\(u.host.kind==1)=false)):=by
  refine⟨LR u.host,rfl,?_⟩;unfold LR;by_cases h0:u.host.kind=0
  ·exact .inl ⟨by rw[Bx h0];rfl,.inl OB⟩
  by_cases h1:u.host.kind=1
  ·exact .inl ⟨by rw[Bx h1,NY],.inr ⟨OB,by simpa using h1⟩⟩
  exact .inr ⟨by rw[BO h0,BO h1];rfl,OB,by simpa using h1⟩
 obtain⟨B,hBn,hw⟩:=bP;have aK:=H0 (AiN u.host cO.host);rcases hw with⟨rfl,hw|⟨hw,hw2⟩⟩|⟨rfl,hw,hw2⟩;all_goals
  go_wp2_with(first|(refine wpList_load_mid rfl 32 _ rfl (w.heap.size+1) 3 rfl (AV u.host).toList _ (Xp v.b) underlying32 rfl (Zn _) ?_)|(refine IM BE ?_;refine wpList_load_mid rfl 32 _ rfl (w.heap.size+1) 3 rfl (AV u.host).toList _ (Xp v.b) underlying32 rfl (Zn _) ?_));refine(aK.out _).mono ?_;rintro e w2⟨t,rfl,ht,hb2⟩;have hJ2:=v.keep hb2;clear hb2 v x0 y0 y3;go_wp2_with fail;have L:=dE.out.n;unfold BK at L;replace L:f.length<=2^63-1:=L;have htz:t.size<=34359738368:=by
   have h1:=Sq u.host cO.name;rw[<-ht.out,AK]at h1;exact h1
  have D:=H0 (λe:A9=>Am6 u.host t e ht);go_loopw[7,9,10,11] (λs7 iv s10 s11 wr=>∃(j:Nat)(b:Bool),s7=.bool b/\iv=.int .i64 (j:Int)/\j<=f.length/\Hid (b=(LR u.host||(f.take j).any (IP u.host)))/\IH w wr P 24 (AB u) 34) (λ_ iv _ _ _=>f.length-(intOf iv).toNat)
  ·exact⟨0,_,rfl,rfl,AR _,H0 (by rw[<-hBn.out];rfl),hJ2⟩
  obtain⟨j,b2,rfl,rfl,hj,hb2,r⟩:=hrel;clear hJ2 aK;have x1:=(BV _ _ 1 _ _ _ r.a).trans jR;have y3:=(BV _ _ 3 _ _ _ r.b).trans (show(AB u)[3]?=some (.int .i64 u.host.kind)from rfl);by_cases F:j<f.length
  ·have bO:=H0 (XP F (IP u.host));obtain⟨g2,o2,wY,d⟩:=dE.out.cells (by show 0<f.length;omega);replace wY:ha=some ⟨g2,o2,none⟩:=wY;subst wY;have x2:=d j F;have b1:=EV w _ x2;have y1:wr.cell? ⟨g2,o2+j,none⟩=some (.string f[j]):=(r.below.cell OW).trans x2;have m7:=dE.out.each f[j] (CI _);have hE:=D.out f[j];unfold BK at m7;obtain⟨E,M⟩:=AI (f[j]);rw[M]at y1 m7 hE bO;replace M:=H0 M;clear d x2 b1;obtain⟨eb,H⟩:=AI (IP u.host E);rw[H]at hE bO;replace H:=H0 H;go_upto_region 13 with(fail);obtain⟨N,hN⟩:∃N:Int,(t.size:Int)-E.size=N:=⟨_,rfl⟩;rw[hN];have s:=H0 hN;clear hN;cases b2 with
   |true=>
    go_wp2_with fail;go_roundw;exact⟨j+1,true,rfl,AP,A4,H0 N2,r⟩;exact AzF
   |false=>
    cases hE with
    |star h=>
     go_wp2_with fail;go_roundw;exact⟨j+1,true,rfl,AP,A4,H0 N2,r⟩;exact AzF
    |same h0 h=>
     go_wp2_with fail;go_roundw;exact⟨j+1,true,rfl,AP,A4,H0 N2,r⟩;exact AzF
    |kind h0 h1 h=>
     go_wp2_with fail;go_roundw;exact⟨j+1,false,rfl,AP,A4,H0 N2,r⟩;exact AzF
    |long h0 h1 h2 h=>
     rw[s.out]at h;go_wp2_with fail;go_roundw;exact⟨j+1,false,rfl,AP,A4,H0 N2,r⟩;exact AzF
    |none h0 h1 h2 h3 h=>
     rw[s.out]at h3;go_wp2_with fail;go_roundw;exact⟨j+1,false,rfl,AP,A4,H0 N2,r⟩;exact AzF
    |dot c h0 h1 h2 h3 h4 Y h5 h=>
     rw[s.out]at h3;have I:E[0]=c:=by
      rw[<-JG E 0 Y];exact(List.getElem_of_eq h5 _).trans rfl
     have e46:((c:Int)==46)=false:=Awr h;change Hid _ at h5 h;go_wp2_with fail;go_roundw;exact⟨j+1,false,rfl,AP,A4,H0 N2,r⟩;exact AzF
    |tail T c h0 h1 h2 h3 h4 Y h5 h6 h=>
     have I:E[0]=c:=by
      rw[<-JG E 0 Y];exact(List.getElem_of_eq h5 _).trans rfl
     have e46:((c:Int)==46)=true:=Aus h6;change Hid _ at h5 h6;obtain⟨m,rfl⟩:∃m:Nat,N=(m:Int):=⟨t.size-E.size,by have:=s.out;omega⟩;have hmN:t.size-E.size=m:=by have:=s.out;omega
     rw[hmN]at h;have hmz:m<=t.size:=A4;have hmI:(m:Int)<=t.size:=A4;have hx:((t.extract m t.size).toList==E.toList)=eb:=by
      rw[toList_extract,Bc Dy];exact h
     replace h:=H0 h;rw[s.out]at h3;go_wp2_with fail;go_roundw;exact⟨j+1,eb,rfl,AP,A4,H0 N2,r⟩;exact AzF
  have cF:=A6 (b2=hostA f u.host) (by rw[hb2.out,WF A4];rfl);have y0:=(BV _ _ 0 _ _ _ r.b).trans (show(AB u)[0]?=some (.string u.scheme)from rfl);clear hb2 D;by_cases C:u.scheme.toList=Im
  ·have nN:(u.scheme.toList==[100,97,116,97])=true:=by rw[C];rfl
   have U:=A6 (I4 i f g u=(b&&b2&&(match F0 u with|none=>false|some e=>Gx g e))) (by
    rw[hA.out,<-dQ.out,<-cF.out];unfold MC;rw[AC C];rfl)
   replace C:=H0 C;go_wp2_with(refine Cg rfl 34 _ rfl (w.heap.size+1) rfl _ (AB u) _ _ r.b underlying34 rfl MG ?_);refine(Au2 u _ (hpu.below r.below (AG _)) cO Y).mono ?_;rintro e w3⟨t2,rfl,S,X⟩;have hL:=r.keep X;clear X r x1 y3 y0;obtain⟨o,ho⟩:=AI (F0 u);rw[ho]at U S⊢;replace ho:=H0 ho;have J:=A6 (I4 i f g u=(b&&b2&&(o.isSome&&Gx g t2))) (by
    rw[U.out];cases o with
    |none=>rfl
    |some l=>rw[S.out];rfl)
   clear U S;obtain⟨ok,K⟩:=AI (o.isSome);rw[K]at J⊢;replace K:=H0 K;go_wp2_with fail;have O:=bL.out.n;unfold BK at O;replace O:g.length<=2^63-1:=O;go_loopw[14,15] (λs14 iv wr=>∃(q:Nat)(T:Bool),s14=.bool T/\iv=.int .i64 (q:Int)/\q<=g.length/\Hid (T=(g.take q).any (λx=>x.toList==t2.toList))/\IH w wr P 24 (AB u) 34) (λ_ iv _=>g.length-(intOf iv).toNat)
   ·exact⟨0,false,rfl,rfl,AR _,H0 rfl,hL⟩
   obtain⟨q,T,rfl,rfl,iJ,y,A⟩:=hrel;clear hL;have x2:=(BV _ _ 2 _ _ _ A.a).trans hP2;by_cases G:q<g.length
   ·have bO:=H0 (XP G (λx=>x.toList==t2.toList));obtain⟨g3,o3,yS,d⟩:=bL.out.cells (by show 0<g.length;omega);replace yS:ta=some ⟨g3,o3,none⟩:=yS;subst yS;have x3:=d q G;have b1:=EV w _ x3;have y1:wr.cell? ⟨g3,o3+q,none⟩=some (.string g[q]):=(A.below.cell OW).trans x3;clear d x3 b1;cases T with
    |true=>
      go_wp2_with fail;go_roundw;exact⟨q+1,true,rfl,AP,A4,H0 (by rw[bO.out,<-y.out];rfl),A⟩;exact AzF
    |false=>
     cases I:g[q].toList==t2.toList
     ·go_wp2_with fail;go_roundw;exact⟨q+1,false,rfl,AP,A4,H0 (by rw[bO.out,<-y.out,I];rfl),A⟩;exact AzF
     go_wp2_with fail;go_roundw;exact⟨q+1,true,rfl,AP,A4,H0 (by rw[bO.out,<-y.out,I];rfl),A⟩;exact AzF
   have z:=A6 (I4 i f g u=(b&&b2&&(ok&&T))) (by
    rw[J.out,y.out,WF A4];rfl)
   clear J y;cases b with
   |false=>
    go_wp2_with fail;go_ret;exact⟨Ci z.out.symm,A.below⟩
   |true=>
    cases b2 with
    |false=>
     go_wp2_with fail;go_ret;exact⟨Ci z.out.symm,A.below⟩
    |true=>
     cases ok with
     |false=>
      go_wp2_with fail;go_ret;exact⟨Ci z.out.symm,A.below⟩
     |true=>
      go_wp2_with fail;go_ret;exact⟨Ci z.out.symm,A.below⟩
  have nN:(u.scheme.toList==[100,97,116,97])=false:=B6.2 C;have U:=A6 (I4 i f g u=(b&&b2)) (by
   rw[hA.out,<-dQ.out,<-cF.out];unfold MC;rw[AA C,Kj])
  replace C:=H0 C;cases b with
  |false=>
   go_wp2_with fail;go_ret;exact⟨Ci U.out.symm,r.below⟩
  |true=>
   go_wp2_with fail;go_ret;exact⟨Ci U.out.symm,r.below⟩
end Go.Proofs.YtonomfeipkdmhaaGreatDoor
