/- Lemmas. -/
import Derived.Test.YtonomfeipkdmhaaGreatDoorZm13
import Derived.Test.YtonomfeipkdmhaaGreatDoorZm14
set_option linter.all false
set_option maxRecDepth 100000
set_option maxHeartbeats 16000000
namespace Go.Proofs.YtonomfeipkdmhaaGreatDoor
open Go renaming Program->Dj,World->A7,Calls->AD,Value->AJ,TypeId->Ab,Ending->Ag
open Go.RowKit renaming Below->AF
open Go.RowKit Go.Proofs.Tryz
open Go.Proofs.Tryz renaming prog->A8
variable{w':A7}
def Yg{o:Option Cb}{w:A7}{e:Ag}(h:Kc o w e w'):∃H:E7,Hid (H=AW (o.getD .none))/\e=.returned (.tuple #[.agg (AV H),.bool o.isSome])/\AF w w w':=⟨_,H0 rfl,h.1,h.2⟩
def Ao(us ps:A9)(h:E7)(hp:Bool)(p:Int):Array AJ:= #[.string us,.string ps,.int .i64 h.kind,.string h.name,.int .u32 (h.four:Int),.int .u16 ((pc h.six 0:Nat):Int),.int .u16 ((pc h.six 1:Nat):Int),.int .u16 ((pc h.six 2:Nat):Int),.int .u16 ((pc h.six 3:Nat):Int),.int .u16 ((pc h.six 4:Nat):Int),.int .u16 ((pc h.six 5:Nat):Int),.int .u16 ((pc h.six 6:Nat):Int),.int .u16 ((pc h.six 7:Nat):Int),.bool hp,.int .i64 p]
def OF:HI:=⟨[],[],.none,none⟩
def Kr(o:Option Nat):Int:=((o.getD 0:Nat):Int)
def JJ(us ps:A9)(a:HI):Array AJ:=Ao us ps (AW a.host) a.port.isSome (Kr a.port)
def U3(o:Option HI)(w:A7)(e:Ag)(w':A7):Prop:=∃us ps:A9,e=.returned (.tuple #[.agg (JJ us ps (o.getD OF)),.bool o.isSome])/\Hid (us.toList=(o.getD OF).user)/\Hid (ps.toList=(o.getD OF).pass)/\AF w w w'
def Ba:Array AJ:=Ao ⟨#[]⟩ ⟨#[]⟩ (AW .none) false 0
def Uy{w w0:A7}(h:w.alloc (.cells Ba 141)=w0):w.alloc (.cells #[.string ⟨#[]⟩,.string ⟨#[]⟩,.int .i64 0,.string ⟨#[]⟩,.int .u32 0,.int .u16 0,.int .u16 0,.int .u16 0,.int .u16 0,.int .u16 0,.int .u16 0,.int .u16 0,.int .u16 0,.bool false,.int .i64 0] 141)=w0:=h
def ND(b c:A9)(h:E7)(a:Bool)(p:Int):(A8.info? 141).map (·.size)=some (Ao b c h a p).size:=by show _=some 15;kernel_rfl
def Abp(b c:A9)(h:E7)(a:Bool)(p:Int):(Ao b c h a p).all (·.oneCell')=true:=AO
def Mv{f:Func}{R:Ag->A7->Prop}{a:Act}{w:A7}{g:Nat}{c:Array AJ}{b:Bool}{p u:Nat}(hf:f.results= #[.cell p 141,.tmp u])(e:a.tmps.getD p undef=.pointer (some ⟨g,0,none⟩))(d:a.tmps.getD u undef=.bool b)(k:a.defers=[])(i:AM w g c 141)(j:(A8.info? 141).map (·.size)=some c.size)(h:R (.returned (.tuple #[.agg c,.bool b])) w):bodyPost A8 f R .ret a w:=by
 refine IC ?_ k h;rw[OG hf,e,d];simp[asAddr,K8 w g _ 141 _ _ _ i underlying141 rfl j]
def Nh{o:Option HI}{w:A7}(h:o=none)(a:AF w w w'):U3 o w (.returned (.tuple #[.agg Ba,.bool false])) w':=by subst h;exact⟨_,_,rfl,H0 (toList_mk []),H0 (toList_mk []),a⟩
def Au3{o:Option HI}{a b:A9}{h:Cb}{q:Option Nat}{w:A7}(e:o=some ⟨a.toList,b.toList,h,q⟩)(c:AF w w w'):U3 o w (.returned (.tuple #[.agg (Ao a b (AW h) q.isSome (Kr q)),.bool true])) w':=by subst e;exact⟨a,b,rfl,H0 rfl,H0 rfl,c⟩
def Jv(sch us ps n p:A5):Option HI:=match ET n (Ar sch)with
 |none=>none
 |some h=>match Hn sch p with
  |none=>none|some q=>some ⟨us,ps,h,q⟩
variable{s:A5}
def AeC{sch a b:A5}(h:CF false s=none):El sch a b s=Jv sch a b s []:=by
 unfold El MN;rw[h];rfl
def XT{sch a b n p:A5}(h:CF false s=some (n,p)):El sch a b s=if n=[]then none else Jv sch a b n p:=by
 unfold El MN;rw[h];dsimp only;by_cases c:n=[]
 ·simp_all
 rw[AA c,AA c];rfl
def Abr{sch:A5}(h:Ew 64 s=none):Gn sch s=El sch [] [] s:=by unfold Gn;rw[h]
def AaY{sch a b:A5}(h:Ew 64 s=some (a,b)):Gn sch s=if b=[]then none else El sch (Ai 5 (AL 58 a).1) (Ai 5 (AL 58 a).2.1) b:=by unfold Gn;rw[h]
def Azk(sch s:A9)(w:A7)(P:CD w)(hz:s.size<=1100000):AD A8 216 #[.string sch,.string s] w (U3 (Gn sch s) w):=by
 obtain⟨R,S⟩:=AI (Gn sch s);rw[S];have Q:=λw=>Tryz.strings_LastIndexByte s 64 A4 w;have hcut:=Aih s 64;rw[show(((64:UInt8).toNat:Nat):Int)=64 from rfl]at hcut;generalize hzv:Lib.lastIndexByte s 64=z at Q hcut;have v:(z=-1/\Hid (R=El sch [] [] s.toList))\/∃i:Nat,z=(i:Int)/\i<s.size/\Hid (R=if s.toList.drop (i+1)=[]then none else El sch (Ai 5 (AL 58 (s.toList.take i)).1) (Ai 5 (AL 58 (s.toList.take i)).2.1) (s.toList.drop (i+1))):=by
  rcases hcut with⟨h1,U⟩|⟨i,hi,h1,U⟩
  ·exact .inl ⟨h1,H0 (by rw[<-S,Abr U])⟩
  exact .inr ⟨i,h1,hi,H0 (by rw[<-S,AaY U])⟩
 clear hcut;change Hid _ at S hzv Q;have cA:=H0 P;clear P;have hsp:=H0 (λw=>NN sch w);have vL:AM (w.alloc (.cells Ba 141)) w.heap.size Ba 141:=AM.new _ _ _;have X:=Ah w (.cells Ba 141);have D:(w.alloc (.cells Ba 141)).heap.size=w.heap.size+1:=DB _ _;generalize B:w.alloc (.cells Ba 141)=w0 at vL X D;have dS:=Uy B;replace B:=H0 B;have oY:AM (w0.alloc (.cells Ba 141)) w.heap.size Ba 141:=vL.alloc _;have dQ:AM (w0.alloc (.cells Ba 141)) w0.heap.size Ba 141:=AM.new _ _ _;have hb1:AF w w (w0.alloc (.cells Ba 141)):=X.alloc A4 _;generalize y:w0.alloc (.cells Ba 141)=w1 at oY dQ hb1;have yA:=Uy y;replace y:=H0 y;generalize hg:w0.heap.size=g at dQ D;have f:w.heap.size<=g:=A4;have j:w.heap.size≠g:=A4;change Hid _ at j f oY dQ hb1;clear vL X D;go_in;go_wp2_with fail;go_call Q as e w'⟨rfl,G⟩;obtain rfl:=G.symm;clear dS yA hg;go_upto_if 19 with(fail);go_cut[1] (λs1 wx=>∃r us ps:A9,s1=.string r/\r.size<=1100000/\Hid (R=El sch us ps r)/\Hid (AM wx w Ba 141)/\Hid (AM wx g (Ao us ps (AW .none) false 0) 141)/\Hid (AF w w wx))
 ·rcases v with⟨rfl,hres⟩|⟨i,rfl,hi,hres⟩
  ·go_wp21;exact Acg
  have hiI:(i:Int)<=s.size:=A4;have C:(s.extract 0 i).size<=1100000:=Bk;have d9:=A6 ((s.extract 0 i).toList=s.toList.take i) OC;have hyl:=A6 ((s.extract (i+1) s.size).toList=s.toList.drop (i+1)) ME;have K:(s.extract (i+1) s.size).size<=1100000:=Bk;have dZ:IntKind.i64.wrap ((i:Int)+1)=(i:Int)+1:=BI ((i:Int)+1) A4;go_wp2_with fail;refine(KS _ 58 _ (cA.out.next hb1).ml A4).mono ?_;rintro e d⟨u1,p1,T,rfl,L,sD,rfl⟩;have hz1:=Ud L sD;have bJ:AF w w (w1.drewN T):=Ey hb1 _;go_wp2_with fail;go_call Mu as e d⟨us,rfl,hus,c⟩;have J:=A6 (AM d w Ba 141) (AM.keep (w:=w1.drewN T) oY c);have N:=A6 (AM d g Ba 141) (AM.keep (w:=w1.drewN T) dQ c);have F:=A6 (AF w w d) (bJ.next c);clear c;go_wp2_with(refine BN N 0 (Ao us ⟨#[]⟩ (AW .none) false 0) ?_);go_call Mu as e t⟨ps,rfl,hps,hb3⟩;have hA3:=A6 (AM t w Ba 141) ((J.out.other j _).keep hb3);have m:=A6 (AM t g (Ao us ⟨#[]⟩ (AW .none) false 0) 141) ((N.out.set _).keep hb3);have aG:=A6 (AF w w t) ((Au F f _).next hb3);clear hb3;have x:=A6 (R=if(s.extract (i+1) s.size).toList=[]then none else El sch us ps (s.extract (i+1) s.size).toList) (by
   rw[hres.out,hyl.out,hus.out,hps.out,L.out,sD.out,d9.out])
  generalize hr:s.extract (i+1) s.size=r at x K;by_cases hem:r.toList=[]
  ·have hf:=A6 (R=none) (x.out.trans (AC hem));have Y:r.toList.isEmpty=true:=Qa;have M:=A6 (AM (t.setRow g (Ao us ps (AW .none) false 0)) w.heap.size Ba 141) (hA3.out.other j _);replace hem:=H0 hem;go_wp2_with(first|(refine BN m 1 (Ao us ps (AW .none) false 0) ?_)|(refine Ax M Ba ?_ (h1:=(Abp _ _ _ _ _))));refine Mv rfl rfl rfl rfl (M.out.set _) (ND _ _ _ _ _) ?_;exact Nh hf (Au (Au aG f _) (AG _) _)
  have hf:=H0 (x.out.trans (AA hem));have Y:r.toList.isEmpty=false:=by
   cases hs:r.toList with
   |nil=>grind|cons a r=>rfl
  go_wp2_with(refine BN m 1 (Ao us ps (AW .none) false 0) ?_);go_meet;exact⟨r,us,ps,rfl,K,hf,H0 (hA3.out.other j _),H0 (m.out.set _),H0 (Au aG f _)⟩
 clear v Q oY dQ hb1;obtain⟨r,us,ps,rfl,gJ,hres,u,E,hbel⟩:=hcut;have pQ:=H0 (λw=>Awt r w A4);go_wp2_with fail;refine(pQ.out _).mono ?_;rintro e w'⟨i,rfl,oA,G⟩;obtain rfl:=G.symm;clear pQ;go_upto_if 45 with(fail);go_cut[11,12] (λV s12 wx=>∃n p:A9,V=.string n/\s12=.string p/\n.size<=1100000/\p.size<=1100000/\Hid (R=Jv sch us ps n p)/\Hid (AM wx w Ba 141)/\Hid (AM wx g (Ao us ps (AW .none) false 0) 141)/\Hid (AF w w wx))
 ·rcases oA.out with⟨rfl,h⟩|⟨k,rfl,hk,h⟩
  ·have hf:=A6 (R=Jv sch us ps r []) (by rw[hres.out,AeC h]);have Z:=A6 (R=Jv sch us ps r (⟨#[]⟩:A9).toList) (by rw[show(⟨#[]⟩:A9).toList=[]from toList_mk []];exact hf);go_wp21;go_meet;exact⟨r,⟨#[]⟩,rfl,rfl,gJ,AE,Z,u,E,hbel⟩
  rw[AK]at hk;have jZ:(k:Int)<=r.size:=A4;have hk0:0<=(k:Int):=A4;have dZ:IntKind.i64.wrap ((k:Int)+1)=(k:Int)+1:=BI ((k:Int)+1) A4;have C:(r.extract 0 k).size<=1100000:=Bk;have K:(r.extract (k+1) r.size).size<=1100000:=Bk;have x:=A6 (R=if(r.extract 0 k).toList=[]then none else Jv sch us ps (r.extract 0 k).toList (r.extract (k+1) r.size).toList) (by
   rw[hres.out,XT h,toList_extract,toList_extract,C9,Bc (i:=r.size) Dy])
  replace h:=H0 h;obtain⟨n,hn⟩:=AI (r.extract 0 k);obtain⟨q,hq⟩:=AI (r.extract (k+1) r.size);rw[hn]at x C;rw[hq]at x K;by_cases hem:n.toList=[]
  ·have hf:=A6 (R=none) (x.out.trans (AC hem));have Y:n.toList.isEmpty=true:=Qa;replace hem:=H0 hem;go_wp2_with fail;go_region;all_goals
    go_wp2_with(refine Ax u Ba ?_);refine Mv rfl rfl rfl rfl (AM.set (by exact u) _) (ND _ _ _ _ _) ?_;exact Nh hf (Au Ab6 (AG _) _)
  have hf:=H0 (x.out.trans (AA hem));have Y:n.toList.isEmpty=false:=by
   cases hs:n.toList with
   |nil=>grind|cons a r=>rfl
  go_wp21;go_region;all_goals
   go_wp21;go_meet;exact⟨n,q,rfl,rfl,C,K,hf,u,E,H0 Ab6⟩
 clear hres u E hbel oA gJ;obtain⟨n,q,rfl,rfl,pH,wC,hres,u,E,hbel⟩:=hcut;have kR:=H0 (λw P=>AcJ n (Ar sch) w P pH);have j8:=H0 (λw=>Azn sch q w A4);have A:=hres.out;unfold Jv at A;obtain⟨H,hH⟩:=AI (ET n (Ar sch));obtain⟨O,hO⟩:=AI (Hn sch q);rw[hH]at kR A;rw[hO]at j8 A;change Hid _ at A hH hO;clear hres;go_wp2_with(go_at_call 145;refine(hsp.out _).mono (AH ?_));refine(kR.out _ (cA.out.next hbel)).mono ?_;intro e d hx;obtain⟨HS,wN,rfl,c⟩:=Yg hx;clear hx;have J:=A6 (AM d w Ba 141) (u.out.keep c);have N:=A6 (AM d g (Ao us ps (AW .none) false 0) 141) (E.out.keep c);have F:=A6 (AF w w d) (hbel.out.next c);have W:=A6 (w.heap.size<=d.heap.size) F.out.size;clear c kR u E hbel;cases H with
 |none=>
  have hf:=A6 (R=none) A;obtain rfl:HS=AW .none:=wN.out;have hA3:=A6 (AM (d.alloc (.cells (AV (AW .none)) 32)) w.heap.size Ba 141) (J.out.alloc _);have aG:=A6 (AF w w (d.alloc (.cells (AV (AW .none)) 32))) (F.out.alloc W _);go_wp2_with(first|(refine Cw (AV (AW .none)) ?_)|(refine Ax hA3 Ba ?_));exact AdA
 |some h=>
  replace wN:Hid (HS=AW h):=wN;have hA3:=A6 (AM (d.alloc (.cells (AV (HS)) 32)) w.heap.size Ba 141) (J.out.alloc _);have m:=A6 (AM (d.alloc (.cells (AV (HS)) 32)) g (Ao us ps (AW .none) false 0) 141) (N.out.alloc _);have l:=A6 (AM (d.alloc (.cells (AV (HS)) 32)) d.heap.size (AV (HS)) 32) (AM.new _ _ _);have aG:=A6 (AF w w (d.alloc (.cells (AV (HS)) 32))) (F.out.alloc W _);clear J N F;go_upto_region 19 with(refine Cw (AV (HS)) ?_);refine As (R:=λwx=>Hid (AM wx w Ba 141)/\Hid (AM wx g (Ao us ps (AW .none) false 0) 141)/\Hid (AM wx d (AV HS) 32)/\Hid (AF w w wx)) ⟨hA3,m,l,aG⟩ ?_;clear hA3 m l aG;rintro t⟨hA3,m,l,aG⟩;generalize hq2:d.heap.size=q2 at l⊢;clear hq2 W;have fS:=A6 (AM (t.setRow g (Ao us ps (HS) false 0)) g (Ao us ps (HS) false 0) 141) (m.out.set _);have M:=A6 (AM (t.setRow g (Ao us ps (HS) false 0)) w.heap.size Ba 141) (hA3.out.other j _);have aU:=A6 (AF w w (t.setRow g (Ao us ps (HS) false 0))) (Au aG f _);go_wp2_with(first|(refine At l ?_)|(refine MD m 2 (AV (HS)) (Ao us ps (HS) false 0) ?_));refine(j8.out _).mono ?_;rintro e w'⟨rfl,G⟩;obtain rfl:=G.symm;generalize hw4:t.setRow g (Ao us ps (HS) false 0)=w4 at M fS aU⊢;clear hA3 m l aG hw4 G j8;have I:=A.out;try dsimp only at I
  replace I:=H0 I;clear A;have fin:∀(z:Int)(b:Bool),Hid (AM (w4.setRow g (Ao us ps (HS) false z)) g (Ao us ps (HS) false z) 141)/\Hid (AM ((w4.setRow g (Ao us ps (HS) false z)).setRow g (Ao us ps (HS) b z)) g (Ao us ps (HS) b z) 141)/\Hid (AM ((w4.setRow g (Ao us ps (HS) false z)).setRow g (Ao us ps (HS) b z)) w.heap.size Ba 141)/\Hid (AF w w ((w4.setRow g (Ao us ps (HS) false z)).setRow g (Ao us ps (HS) b z))):=λz b=>
   ⟨H0 (fS.out.set _),H0 ((fS.out.set _).set _),H0 ((M.out.other j _).other j _),H0 (Au (Au aU f _) f _)⟩
  replace fin:=H0 fin;cases O with
  |none=>
   have hf:=A6 (R=none) I;obtain⟨jL,uF,vD,iX⟩:=fin.out 0 false;go_wp2_with(first|(refine BN fS 14 (Ao us ps (HS) false 0) ?_)|(refine BN jL 13 (Ao us ps (HS) false 0) ?_)|(refine Ax vD Ba ?_));refine Mv rfl rfl rfl rfl (vD.out.set _) (ND _ _ _ _ _) ?_;exact Nh hf (Au iX (AG _) _)
  |some o=>
   have hf:=A6 (R=some ⟨us.toList,ps.toList,h,o⟩) I;exact AaS
def MZ(a:Bool):∀l,C2 a l<=l.length
 |[]=>AG _
 |c::r=>by
  rw[C2];split
  ·have:=MZ a r;rw[BC];omega
  exact AR _
def To(sch s:A9)(w:A7)(o:s.size<=1000000000):AD A8 207 #[.string sch,.string s] w (AzJ (.int .i64 ((C2 (Ar sch) s.toList:Nat):Int)) w):=by
 have b:=H0 (λw=>NN sch w);obtain⟨R,c⟩:=AI (C2 (Ar sch) s.toList);rw[c];generalize hspv:Ar sch.toList=sp at c b;change Hid _ at hspv c;go_in;go_wp2_with(go_call b;refine AH ?_);go_loop[6] (λi=>∃k:Nat,i=.int .i64 (k:Int)/\k<=s.size/\Hid (R=k+C2 sp (s.toList.drop k))) (λi=>s.size-(intOf i).toNat)
 ·exact⟨0,rfl,AR _,H0 (by rw[C9,Db,c.out])⟩
 obtain⟨k,rfl,n,hg⟩:=hrel;by_cases f:k<s.size
 ·have a:=hg.out;rw[Aw s k f,C2]at a;have g:=V9 sp s[k];generalize j:B8 sp s[k]=N at a g;replace j:=H0 j;have m:IntKind.i64.wrap ((k:Int)+1)=(k:Int)+1:=BI _ A4;cases N with
  |true=>
   rw[AC rfl]at a;have aC:=A6 (R=k+1+C2 sp (s.toList.drop (k+1))) A4;replace a:=H0 a;rcases g with⟨d,_⟩|⟨_,_,h⟩|⟨d,rfl,l,_⟩|⟨_,_,_,h⟩
   ·go_wp2;exact JT
   ·cases h
   ·go_wp2;exact JT
   ·cases h
  |false=>
   rw[AA AE]at a;have hf2:=A6 (R=k) A4;replace a:=H0 a;rcases g with⟨_,h⟩|⟨d,rfl,_⟩|⟨_,_,_,h⟩|⟨d,rfl,l,_⟩
   ·cases h
   ·exact Vy
   ·cases h
   exact Vy
 have hf2:=A6 (R=k) AbC;exact Vy
def AvP(a:Bool)(s:A9):(s.extract (C2 a s) s.size).toList=HQ a s.toList:=by
 rw[toList_extract,Bc Dy];rfl
def Ac0(sch s:A9)(w:A7)(c:s.size<=1000000000):AD A8 149 #[.string sch,.string s] w λe w'=>(∃t:A9,e=.returned (.string t)/\Hid (t.toList=HQ (Ar sch) s.toList)/\t.size<=s.size)/\w=w':=by
 have a:=H0 (λw=>To sch s w c);have hx:=AvP (Ar sch) s;have b:=MZ (Ar sch) s.toList;rw[AK]at b;generalize hn:C2 (Ar sch) s.toList=n at hx b a;go_in;go_wp2_with(go_call a;refine AH ?_);go_ret;exact⟨⟨_,rfl,hx,AS⟩,rfl⟩
def Aei(sch s:A9)(w:A7)(g:s.size<=1100000):AD A8 217 #[.string sch,.string s] w (NL (FT sch s) w):=by
 have a:=H0 (λw=>To sch s w A4);have b:=MZ (Ar sch) s.toList;rw[AK]at b;obtain⟨R,c⟩:=AI (FT sch s);rw[c];have hv:=c.symm;unfold FT at hv;generalize hn:C2 (Ar sch) s.toList=n at b a hv;by_cases d:0<n
 ·rw[AC d]at hv;have i:(s.extract 1 s.size).toList=s.toList.drop 1:=by rw[toList_extract,Bc Dy]
  rw[<-i]at hv;have f:=H0 (λw=>Iz sch none 0 0 [] (s.extract 1 s.size) w (I2 w) AE Bk (λt h=>C5));go_in;go_wp2_with(go_call a;refine AH ?_);go_call f as e w1⟨v,l,rfl,hl,ho,hb⟩;exact SR
 rw[AA d]at hv;go_in;go_wp2_with(go_call a;refine AH ?_);go_call(λw=>Iz sch none 0 0 [] s w (I2 w) AE g (λt h=>C5)) as e w1⟨v,l,rfl,hl,ho,hb⟩;exact SR
structure Ev where
 hs:Bool
 sch:A9
 rest:A9
 hq:Bool
 qry:A9
 hf:Bool
 frg:A9
def Ad(p:Ev):Array AJ:= #[.bool p.hs,.string p.sch,.string p.rest,.bool p.hq,.string p.qry,.bool p.hf,.string p.frg]
def Ev.l(p:Ev):F9:=⟨p.hs,p.sch.toList,p.rest.toList,p.hq,p.qry.toList,p.hf,p.frg.toList⟩
def SI(p:Ev):(A8.info? 72).map (·.size)=some (Ad p).size:=by show _=some 7;kernel_rfl
structure Cu(w wx:A7)(A:Array AJ)(TA:Ab)(B:Array AJ)(TB:Ab):Prop where
 below:AF w w wx
 a:AM wx w A TA
 b:AM wx (w.heap.size+1) B TB
def Cu.start(w:A7)(A:Array AJ)(a:Ab)(B:Array AJ)(b:Ab):Cu w ((w.alloc (.cells A a)).alloc (.cells B b)) A a B b:=
 ⟨(Ah _ _).alloc AN _,(AM.new _ _ _).alloc _,by have:=AM.new (w.alloc (.cells A a)) B b;rwa[DB]at this⟩
variable{wx:A7}{A:Array AJ}{d:Ab}
def Cu.keep{w:A7}{B:Array AJ}{e:Ab}(h:Cu w wx A d B e)(c:AF wx wx w'):Cu w w' A d B e:=⟨h.below.next c,h.a.keep c,h.b.keep c⟩
def Cu.drew{w:A7}{a:Ab}{B:Array AJ}{b:Ab}(h:Cu w wx A a B b):Cu w wx.drew A a B b:=h.keep (AU _ _).drew
def Cu.setB{w:A7}{c:Ab}{B:Array AJ}(h:Cu w wx A c B d)(C:Array AJ):Cu w (wx.setRow (w.heap.size+1) C) A c C d:=
 ⟨Au h.below A4 _,h.a.other A4 _,h.b.set _⟩
def Acc{c:Func}{p:Tmp}{ty:Ab}(h:c.results= #[.cell p ty])(b:Array AJ)(P:Dj)(w:A7):(results c b).run P w=((asAddr (b.getD p undef)).run P w).andThen λa w₁=>(loadVar ty a).run P w₁:=by
 simp only[results,h];simp[Sem.run_bind]
def Hp{f:Func}{R:Ag->A7->Prop}{a:Act}{w:A7}{g:Nat}{c:Array AJ}{p:Nat}(hf:f.results= #[.cell p 34])(b:a.tmps.getD p undef=.pointer (some ⟨g,0,none⟩))(i:a.defers=[])(e:AM w g c 34)(h:(A8.info? 34).map (·.size)=some c.size)(d:R (.returned (.agg c)) w):bodyPost A8 f R .ret a w:=by
 refine IC ?_ i d;rw[Acc hf,b];simp[asAddr,K8 w g _ 34 _ _ _ e underlying34 rfl h]
def Gp(sch:A9)(p:Ev)(q f:A9):AT:=⟨sch,⟨#[]⟩,⟨#[]⟩,AW .none,false,0,false,⟨#[]⟩,none,0,[],p.hq,q,p.hf,f⟩
variable{p:Ev}
def Q1{sch:A9}{q f:A9}(h1:q.toList=Ai (FU sch) p.qry.toList)(a:f.toList=Ai 1 p.frg.toList)(c:p.hq=false->p.qry.toList=[])(b:p.hf=false->p.frg.toList=[]):Bu (Gp sch p q f) (BZ sch p.l):=by
 refine⟨rfl,toList_mk [],toList_mk [],rfl,rfl,rfl,rfl,toList_mk [],rfl,?_,?_,?_,?_⟩
 ·show p.hq=(GN p.hq _).isSome;cases p.hq<;>rfl
 ·show q.toList=(GN p.hq (Ai _ p.qry.toList)).getD [];rw[h1];cases h:p.hq
  ·rw[c h];rfl
  rfl
 ·show p.hf=(GN p.hf _).isSome;cases p.hf<;>rfl
 show f.toList=(GN p.hf (Ai 1 p.frg.toList)).getD [];rw[a];cases h:p.hf
 ·rw[b h];rfl
 rfl
def AM.partAll{w:A7}{g:Nat}(h:AM w g (Ad p) 72):AM w g (Ad p) 72/\w.cell? ⟨g,0,none⟩=some (.bool p.hs)/\w.cell? ⟨g,1,none⟩=some (.string p.sch)/\w.cell? ⟨g,2,none⟩=some (.string p.rest)/\w.cell? ⟨g,3,none⟩=some (.bool p.hq)/\w.cell? ⟨g,4,none⟩=some (.string p.qry)/\w.cell? ⟨g,5,none⟩=some (.bool p.hf)/\w.cell? ⟨g,6,none⟩=some (.string p.frg):=⟨h,(h.at 0).trans rfl,(h.at 1).trans rfl,(h.at 2).trans rfl,(h.at 3).trans rfl,(h.at 4).trans rfl,(h.at 5).trans rfl,(h.at 6).trans rfl⟩
def AlG(sch:A9)(p:Ev)(w:A7)(e:Ag)(w':A7):Prop:=∃q f:A9,e=.returned (.agg (AB (Gp sch p q f)))/\Hid (q.toList=Ai (FU sch) p.qry.toList)/\Hid (f.toList=Ai 1 p.frg.toList)/\AF w w w'
def S9(sch:A9)(p:Ev)(w:A7)(n:p.qry.size<=4294967296)(hf:p.frg.size<=4294967296):AD A8 147 #[.string sch,.agg (Ad p)] w (AlG sch p w):=by
 have c:=Cu.start w (Ad p) 72 (AB zS) 34;have g:=H0 (λw=>NN sch w);have d:FU sch.toList=if Ar sch.toList=true then 3 else 2:=rfl;unfold AlG;generalize hSP:Ar sch.toList=SP at d g;generalize hk:FU sch.toList=k at d⊢;change Hid _ at hk hSP;go_in;go_upto_region 1 with(fail);refine As (R:=λwx=>Cu w wx (Ad p) 72 (AB zS) 34) c ?_;clear c;intro o c;go_upto_if 7 with(go_call g;refine AH ?_);go_cut[5] (λm wx=>m=.int .i64 (k:Int)/\k<6/\Cu w wx (Ad p) 72 (AB zS) 34)
 ·cases SP with
  |true=>
   have i:k=3:=d;clear d;subst i;go_wp2;go_meet;exact⟨rfl,AE,c⟩
  |false=>
   have l:k=2:=d;clear d;subst l;go_wp2;go_meet;exact⟨rfl,AE,c⟩
 clear c d g;have⟨rfl,hk6,c⟩:=hcut;go_upto_region 4 with(fail);have c:=c.drew;refine rds (λw'=>AM w' w (Ad p) 72/\w'.cell? ⟨w,0,none⟩=some (.bool p.hs)/\w'.cell? ⟨w,1,none⟩=some (.string p.sch)/\w'.cell? ⟨w,2,none⟩=some (.string p.rest)/\w'.cell? ⟨w,3,none⟩=some (.bool p.hq)/\w'.cell? ⟨w,4,none⟩=some (.string p.qry)/\w'.cell? ⟨w,5,none⟩=some (.bool p.hf)/\w'.cell? ⟨w,6,none⟩=some (.string p.frg)) c.a.partAll λh=> ?_;refine tq 0 ?_;refine tq 1 ?_;refine tq 2 ?_;refine tq 3 ?_;refine tq 4 ?_;refine tq 5 ?_;refine tq 7 ?_;refine tq 8 ?_;refine tq 9 ?_;refine tq 10 ?_;refine rdk 6 λK j=> ?_;go_simp;go_call Mu as e w2⟨q,rfl,hqv,hb⟩;have c:=c.keep hb;clear hb h;go_wp2;refine rdg j c.a.partAll λh=> ?_;refine rdk 11 λK j=> ?_;go_simp;go_call Mu as e w3⟨f,rfl,hfv,hb⟩;have c:=c.keep hb;clear hb h;go_wp2;refine rdg j c.a.partAll λh=> ?_;refine rdy 12 ?_;refine OE (AB (Gp sch p q f)) ?_;refine rde c.a.partAll λh=> ?_;refine rdy 13 ?_;refine Ax c.b (AB (Gp sch p q f)) ?_;have c:=c.setB (AB (Gp sch p q f));refine rde c.a.partAll λh=> ?_;refine rdn ?_;go_wp2;refine Hp rfl rfl rfl c.b (Bj _) ?_;exact⟨q,f,rfl,hqv,hfv,c.below⟩
def De(S B:AT):AT:=⟨S.scheme,B.user,B.pass,B.host,B.hasPort,B.port,S.flatP,S.flat,S.pathA,S.pathC,S.path,S.hasQuery,S.query,S.hasFrag,S.frag⟩
def Acd(S B:AT):AT:=⟨S.scheme,B.user,S.pass,S.host,S.hasPort,S.port,S.flatP,S.flat,S.pathA,S.pathC,S.path,S.hasQuery,S.query,S.hasFrag,S.frag⟩
def Aft(S B:AT):AT:=⟨S.scheme,B.user,B.pass,S.host,S.hasPort,S.port,S.flatP,S.flat,S.pathA,S.pathC,S.path,S.hasQuery,S.query,S.hasFrag,S.frag⟩
def Ack(S B:AT):AT:=⟨S.scheme,B.user,B.pass,B.host,S.hasPort,S.port,S.flatP,S.flat,S.pathA,S.pathC,S.path,S.hasQuery,S.query,S.hasFrag,S.frag⟩
def Aiv(S B:AT):AT:=⟨S.scheme,B.user,B.pass,B.host,B.hasPort,S.port,S.flatP,S.flat,S.pathA,S.pathC,S.path,S.hasQuery,S.query,S.hasFrag,S.frag⟩
variable{T:Ab}
def AM.host{w:A7}{g:Nat}{u:AT}(h:AM w g (AB u) T):w.rangeAt g 3 (AV u.host).toList:=h.range 3 _ (λj a=>by
 match j,a with
 |0,_=>rfl|1,_=>rfl|2,_=>rfl|3,_=>rfl|4,_=>rfl|5,_=>rfl|6,_=>rfl|7,_=>rfl|8,_=>rfl|9,_=>rfl|10,_=>rfl
 |n+11,h=>exact absurd h (by show¬n+11<11;omega))
def Tu(h:E7):(A8.info? 32).map (·.size)=some (AV h).toList.length:=by rw[OX];rfl
def AnG(g:Nat)(c:Array AJ)(w:A7)(e:Ag)(w':A7):Prop:=e=.returned (.tuple #[])/\AM w' g c 34/\Aj (λk=>k=g) w w'
structure I1(w wx:A7)(g:Nat)(G:Array AJ)(A:Array AJ):Prop where
 ne:w.heap.size≠g
 chg:Aj (λk=>k=g) w wx
 g:AM wx g G 34
 a:AM wx w A 34
variable{G:Array AJ}
def I1.start{w:A7}{g:Nat}(h:AM w g G 34)(A:Array AJ):I1 w (w.alloc (.cells A 34)) g G A:=
 ⟨Nat.ne_of_gt h.lt,(Aj.refl _ _).alloc _,h.alloc _,AM.new _ _ _⟩
def I1.keep{w:A7}{g:Nat}(h:I1 w wx g G A)(b:AF wx wx w'):I1 w w' g G A:=⟨h.ne,h.chg.next b,h.g.keep b,h.a.keep b⟩
def I1.drew{w:A7}{g:Nat}(h:I1 w wx g G A):I1 w wx.drew g G A:=h.keep (AU _ _).drew
def I1.set{w:A7}{g:Nat}(h:I1 w wx g G A)(C:Array AJ):I1 w (wx.setRow g C) g C A:=⟨h.ne,h.chg.row rfl _,h.g.set _,h.a.other h.ne _⟩
variable{B:AT}
def AM.who{w:A7}{g:Nat}(h:AM w g (AB B) 34):AM w g (AB B) 34/\w.cell? ⟨g,1,none⟩=some (.string B.user)/\w.cell? ⟨g,2,none⟩=some (.string B.pass)/\w.cell? ⟨g,14,none⟩=some (.bool B.hasPort)/\w.cell? ⟨g,15,none⟩=some (.int .i64 B.port):=⟨h,(h.at 1).trans rfl,(h.at 2).trans rfl,(h.at 14).trans rfl,(h.at 15).trans rfl⟩
def Xs(g:Nat)(S B:AT)(w:A7)(d:AM w g (AB S) 34):AD A8 220 #[.pointer (some ⟨g,0,none⟩),.agg (AB B)] w (AnG g (AB (De S B)) w):=by
 have b:=I1.start d (AB B);clear d;go_in;go_upto_region 1 with(fail);refine As (R:=λwx=>I1 w wx g (AB S) (AB B)) b ?_;clear b;intro e b;have b:=b.drew;refine rds (λw'=>AM w' w (AB B) 34/\w'.cell? ⟨w,1,none⟩=some (.string B.user)/\w'.cell? ⟨w,2,none⟩=some (.string B.pass)/\w'.cell? ⟨w,14,none⟩=some (.bool B.hasPort)/\w'.cell? ⟨w,15,none⟩=some (.int .i64 B.port)) b.a.who λc=> ?_;refine tq 0 ?_;refine tq 1 ?_;refine tq 2 ?_;refine tq 3 ?_;refine tq 4 ?_;refine tq 5 ?_;refine tq 6 ?_;refine tq 7 ?_;refine tq 8 ?_;refine tq 9 ?_;refine tkm 10 (λ_ h=>h.1.host) ?_;refine tq 11 ?_;refine tq 12 ?_;refine tq 13 ?_;refine tq 14 ?_;refine tq 15 ?_;refine tq 16 ?_;refine rdy 17 ?_;refine BN b.g 1 (AB (Acd S B)) ?_;have b:=b.set (AB (Acd S B));refine rde b.a.who λc=> ?_;refine tq 18 ?_;refine tq 19 ?_;refine rdy 20 ?_;refine BN b.g 2 (AB (Aft S B)) ?_;have b:=b.set (AB (Aft S B));refine rde b.a.who λc=> ?_;refine tq 21 ?_;refine tq 22 ?_;refine rdy 23 ?_;refine MD b.g 3 (AV B.host) (AB (Ack S B)) ?_;have b:=b.set (AB (Ack S B));refine rde b.a.who λc=> ?_;refine tq 24 ?_;refine tq 25 ?_;refine rdy 26 ?_;refine BN b.g 14 (AB (Aiv S B)) ?_;have b:=b.set (AB (Aiv S B));refine rde b.a.who λc=> ?_;refine tq 27 ?_;refine tq 28 ?_;refine rdy 29 ?_;refine BN b.g 15 (AB (De S B)) ?_;have b:=b.set (AB (De S B));refine rde b.a.who λc=> ?_;refine rdn ?_;go_wp2;go_end0;exact⟨rfl,b.g,b.chg⟩
def AY(S:AT)(pa:Option Addr)(c:Nat)(l:List A9):AT:=⟨S.scheme,S.user,S.pass,S.host,S.hasPort,S.port,S.flatP,S.flat,pa,c,l,S.hasQuery,S.query,S.hasFrag,S.frag⟩
def JP(S B:AT):AT:=⟨S.scheme,S.user,S.pass,S.host,S.hasPort,S.port,S.flatP,S.flat,S.pathA,S.pathC,S.path,B.hasQuery,B.query,S.hasFrag,S.frag⟩
def Adm(S B:AT):AT:=⟨S.scheme,S.user,S.pass,S.host,S.hasPort,S.port,S.flatP,S.flat,S.pathA,S.pathC,S.path,B.hasQuery,S.query,S.hasFrag,S.frag⟩
def AdS(g:Nat)(S B:AT)(w:A7)(e:Ag)(w':A7):Prop:=∃(pa:Option Addr)(c:Nat),e=.returned (.tuple #[])/\AM w' g (AB (if S.hasQuery=true then AY S pa c B.path else JP (AY S pa c B.path) B)) 34/\OwnS w' w 9 (.slice pa B.path.length c) B.path/\Aj (λk=>k=g) w w'
def AM.qry{w:A7}{g:Nat}(h:AM w g (AB B) 34):AM w g (AB B) 34/\w.cell? ⟨g,18,none⟩=some (.slice B.pathA B.path.length B.pathC)/\w.cell? ⟨g,19,none⟩=some (.bool B.hasQuery)/\w.cell? ⟨g,20,none⟩=some (.string B.query):=⟨h,(h.at 18).trans rfl,(h.at 19).trans rfl,(h.at 20).trans rfl⟩
def OwnS.row{w:A7}{B:Nat}{E:Ab}{v:AJ}{l:List A9}(h:OwnS w B E v l){g:Nat}(e:g<B)(C:Array AJ):OwnS (w.setRow g C) B E v l:=by
 refine⟨h.1,?_⟩;rcases h.2 with f|⟨g2,b,a,rfl,d,c,rest⟩
 ·simp_all
 exact .inr ⟨g2,b,a,rfl,d,by rw[LZ _ _ _ _ A4];exact c,rest⟩
def AbB(g:Nat)(S B:AT)(w:A7)(p:AM w g (AB S) 34)(o:EX w B.pathA B.path.length B.pathC B.path)(y:B.path.length<=1000000000):AD A8 212 #[.pointer (some ⟨g,0,none⟩),.agg (AB B)] w (AdS g S B w):=by
 have b:=I1.start p (AB B);have m:EX (w.alloc (.cells (AB B) 34)) B.pathA B.path.length B.pathC B.path:=o.below (Ah _ _) (AG _);clear p o;generalize hw1:w.alloc (.cells (AB B) 34)=w1 at b m;have r:=H0 (OS B.pathA B.path.length B.pathC B.path w1 m y);clear m;have l:=b.g.lt;have i:=b.chg.size;have n:=b.a.qry.2.1;unfold AdS;obtain⟨s,f⟩:=AI (S.hasQuery);rw[f];go_in;go_wp2_with fail;clear hw1 n;refine r.out.mono ?_;rintro e z⟨v,rfl,d,x⟩;have b:=b.keep x;obtain⟨pa,c,rfl,u,-⟩:=Ec d;have h:=b.g;have b:=b.set (AB (AY S pa c B.path));have d:=OwnS.row d l (AB (AY S pa c B.path));have k:_=some (Value.bool S.hasQuery):=b.g.at 19;rw[f]at k;change Hid _ at f l;cases s with
 |true=>
  go_wp2_with(refine BN h 18 (AB (AY S pa c B.path)) ?_);go_end0;exact⟨rfl,pa,c,b.g,Jl d i,b.chg⟩
 |false=>
  go_upto_region 3 with(refine BN h 18 (AB (AY S pa c B.path)) ?_);refine As (R:=λwx=>I1 w wx g (AB (AY S pa c B.path)) (AB B)/\OwnS wx w1 9 (.slice pa B.path.length c) B.path) ⟨b,d⟩ ?_;clear b d k h;rintro t⟨b,d⟩;have j:=d;clear d;have d:=A6 (OwnS t.drew w1 9 (.slice pa B.path.length c) B.path) (HR j (AU _ _).drew (AG _));clear j;have b:=b.drew;refine rds (λw'=>AM w' w (AB B) 34/\w'.cell? ⟨w,18,none⟩=some (.slice B.pathA B.path.length B.pathC)/\w'.cell? ⟨w,19,none⟩=some (.bool B.hasQuery)/\w'.cell? ⟨w,20,none⟩=some (.string B.query)) b.a.qry λq=> ?_;refine tq 0 ?_;refine tq 1 ?_;refine tq 2 ?_;refine tq 3 ?_;refine tq 4 ?_;refine tq 5 ?_;refine tq 6 ?_;refine tq 7 ?_;refine rdy 8 ?_;refine BN b.g 19 (AB (Adm (AY S pa c B.path) B)) ?_;have b:=b.set (AB (Adm (AY S pa c B.path) B));refine rde b.a.qry λq=> ?_;refine tq 9 ?_;refine tq 10 ?_;refine rdy 11 ?_;refine BN b.g 20 (AB (JP (AY S pa c B.path) B)) ?_;have b:=b.set (AB (JP (AY S pa c B.path) B));refine rde b.a.qry λq=> ?_;refine rdn ?_;go_wp2;go_end0;exact⟨rfl,pa,c,b.g,Jl (OwnS.row (OwnS.row d l _) l _) i,b.chg⟩
structure CS(w:A7)(B:Nat)(S:AT)(u:AZ):Prop where
 is:Bu S u
 own:OwnS w B 9 (.slice S.pathA S.path.length S.pathC) S.path
variable{S:AT}{u:AZ}
def CS.w{w:A7}{B:Nat}(h:CS w B S u):Cy w S u:=by
 have⟨pa,c,e,hc,hr⟩:=Ec h.own;cases e;exact⟨h.is,hr,hc⟩
variable{K:Nat}
def CS.row{w:A7}{B:Nat}(h:CS w B S u){g:Nat}(a:g<B)(b:K<=B)(C:Array AJ):CS (w.setRow g C) K S u:=⟨h.is,Jl (OwnS.row h.own a C) b⟩
def CS.mono{w:A7}{B:Nat}(h:CS w B S u)(a:K<=B):CS w K S u:=⟨h.is,Jl h.own a⟩
def CS.next{w:A7}{B:Nat}(h:CS w B S u)(a:AF w w w'):CS w' B S u:=⟨h.is,h.own.below a (AG _)⟩
def Ra{w:A7}{B:Nat}(c:Bu S u)(b:S.pathA=none)(h1:S.pathC=0)(a:S.path=[]):CS w B S u:=by
 refine⟨c,?_⟩;rw[b,h1,a];exact OwnS.nil _ _ _
def AiR(e:Ag):Prop:=∃pv,e=.panicked [{v:=.iface 190 pv,recovered:=false}]
def TD(g:Nat)(o:Option AZ)(w:A7)(e:Ag)(w':A7):Prop:=(match o with|none=>AiR e|some u=>e=.returned (.tuple #[])/\∃S:AT,AM w' g (AB S) 34/\CS w' w S u)/\Aj (λk=>k=g) w w'
variable{o:Option AZ}
def AeW{g:Nat}{w:A7}{a:AJ}(h:o=none)(hc:Aj (λk=>k=g) w w'):TD g o w (.panicked [{v:=.iface 190 a,recovered:=false}]) w':=by subst h;exact⟨⟨a,rfl⟩,hc⟩
def QG{g:Nat}{w:A7}(h:o=some u)(a:AM w' g (AB S) 34)(hu:CS w' w S u)(hc:Aj (λk=>k=g) w w'):TD g o w (.returned (.tuple #[])) w':=by subst h;exact⟨⟨rfl,S,a,hu⟩,hc⟩
def Iv(S:AT)(us ps:A9)(h:E7)(hp:Bool)(p:Int):AT:=⟨S.scheme,us,ps,h,hp,p,S.flatP,S.flat,S.pathA,S.pathC,S.path,S.hasQuery,S.query,S.hasFrag,S.frag⟩
variable{c:A9}
def Ah5{b:A9}{a:HI}{r:A5}(h:Bu S u)(h1:b.toList=a.user)(d:c.toList=a.pass)(e:(Ar u.scheme|| !r.isEmpty)=false):Bu (Iv S b c (AW a.host) a.port.isSome (Kr a.port)) (Kt u a r):=
 ⟨h.scheme,h1,d,rfl,rfl,rfl,h.opq,h.flat,by rw[show(Kt u a r).path=u.path from AA (by rw[e];decide)];exact h.path,h.hasQuery,h.query,h.hasFrag,h.frag⟩
def Acj{b d:A9}{a:HI}{r:A5}{pa:Option Addr}{c:Nat}{l:List A9}(h:Bu S u)(h1:b.toList=a.user)(f:d.toList=a.pass)(g:(Ar u.scheme|| !r.isEmpty)=true)(e:l.map (·.toList)=FT u.scheme r):Bu (AY (Iv S b d (AW a.host) a.port.isSome (Kr a.port)) pa c l) (Kt u a r):=
 ⟨h.scheme,h1,f,rfl,rfl,rfl,h.opq,h.flat,by rw[show(Kt u a r).path=FT u.scheme r from AC g];exact e,h.hasQuery,h.query,h.hasFrag,h.frag⟩
structure IK(w wx:A7)(g:Nat)(G:Array AJ)(b:Nat)(A:Array AJ)(T:Ab):Prop where
 ne:b≠g
 chg:Aj (λk=>k=g) w wx
 g:AM wx g G 34
 a:AM wx b A T
def IK.keep{w:A7}{g b:Nat}(h:IK w wx g G b A T)(c:AF wx wx w'):IK w w' g G b A T:=⟨h.ne,h.chg.next c,h.g.keep c,h.a.keep c⟩
def IK.drew{w:A7}{g b:Nat}(h:IK w wx g G b A T):IK w wx.drew g G b A T:=h.keep (AU _ _).drew
def IK.set{w:A7}{g b:Nat}(h:IK w wx g G b A T)(C:Array AJ):IK w (wx.setRow g C) g C b A T:=⟨h.ne,h.chg.row rfl _,h.g.set _,h.a.other h.ne _⟩
def AM.hostA{w:A7}{g:Nat}{d:A9}{h:E7}{b:Bool}{p:Int}(hc:AM w g (Ao c d h b p) T):w.rangeAt g 2 (AV h).toList:=hc.range 2 _ (λj a=>by
 match j,a with
 |0,_=>rfl|1,_=>rfl|2,_=>rfl|3,_=>rfl|4,_=>rfl|5,_=>rfl|6,_=>rfl|7,_=>rfl|8,_=>rfl|9,_=>rfl|10,_=>rfl
 |n+11,h=>exact absurd h (by show¬n+11<11;omega))
def Qt(a:Bool):∀l,(D5 a l).1.length+(D5 a l).2.length=l.length
 |[]=>rfl
 |c::r=>by
  rw[D5];split
  ·simp
  have:=Qt a r;simp only[BC];omega
def AM.authAll{w:A7}{g:Nat}{b:A9}{h:E7}{a:Bool}{p:Int}(hc:AM w g (Ao b c h a p) 141):AM w g (Ao b c h a p) 141/\w.cell? ⟨g,0,none⟩=some (.string b)/\w.cell? ⟨g,1,none⟩=some (.string c)/\w.cell? ⟨g,13,none⟩=some (.bool a)/\w.cell? ⟨g,14,none⟩=some (.int .i64 p):=⟨hc,(hc.at 0).trans rfl,(hc.at 1).trans rfl,(hc.at 13).trans rfl,(hc.at 14).trans rfl⟩
def Xw(g:Nat)(S:AT)(u:AZ)(s:A9)(w:A7)(T:CD w)(V:AM w g (AB S) 34)(hi:Bu S u)(h0:S.pathA=none)(h1:S.pathC=0)(h2:S.path=[])(X:s.size<=1100000):AD A8 148 #[.pointer (some ⟨g,0,none⟩),.string s] w (TD g (FC u s) w):=by
 obtain⟨R,hR⟩:=AI (FC u s);rw[hR];have z:=hR.symm;unfold FC at z;replace hR:=H0 hR;have F:=H0 (λw=>NN S.scheme w);have M:=H0 (λsp w=>Aap s sp w A4);have bR:=Qt (Ar u.scheme) s.toList;have lV:=H0 (λ(x:A9)w T X=>Azk S.scheme x w T X);have j8:=H0 (λ(x:A9)w X=>Aei S.scheme x w X);rw[hi.scheme]at F lV j8;generalize hSP:Ar u.scheme=SP at F bR z;generalize hC:D5 SP s.toList=C at bR z;rw[AK]at bR;generalize hO:Gn u.scheme C.1=O at z;change Hid _ at z hSP hC hO;have cA:=H0 T;have nM:=H0 hi;have W:_=some (Value.string S.scheme):=V.at 0;replace V:=H0 V;replace h0:=H0 h0;replace h1:=H0 h1;replace h2:=H0 h2;clear T hi;go_in;go_wp2_with(go_at_call 145;refine(F.out _).mono (AH ?_));refine(M.out SP _).mono ?_;rintro e w1⟨a,b,rfl,ha,hb,j⟩;have N:AF w w w1:=j;rw[hC.out]at ha hb;have wA:a.size<=1100000:=by rw[<-AK,ha.out];omega
 have eD:b.size<=1100000:=by rw[<-AK,hb.out];omega
 have m:=V.out.keep j;have y:Aj (λk=>k=g) w w1:=(Aj.refl _ _).next j;have W:_=some (Value.string S.scheme):=m.at 0;have I:=cA.out.next j;clear j;have J:=lV.out a w1 I wA;rw[ha.out,hO.out]at J;replace J:=H0 J;replace I:=H0 I;replace m:=H0 m;replace y:=H0 y;replace N:=H0 N;clear lV M;go_wp2_with fail;clear W;refine J.out.mono ?_;rintro e Q⟨f,i,rfl,L,K,r⟩;have u7:=I.out.next r;have Y:=m.out.keep r;have t:=y.out.next r;have pT:g<Q.heap.size:=Y.lt;clear r J m y I;cases O with
 |none=>
  have hf:=A6 (R=none) z;change Hid _ at Y t u7;go_wp2_with(refine Cw (JJ f i OF) ?_);exact⟨rfl,AeW hf (t.out.alloc _)⟩
 |some A=>
  have hf:=A6 (R=some (Kt u A C.2)) z;have d:IK w (Q.alloc (.cells (JJ f i A) 141)) g (AB S) Q.heap.size (JJ f i A) 141:=⟨Nat.ne_of_gt pT,t.alloc _,Y.alloc _,AM.new _ _ _⟩;have n:=u7.next ((AU _ _).alloc (AG _) (.cells (JJ f i A) 141));clear z Y t u7;go_upto_region 5 with(refine Cw (JJ f i A) ?_);refine As (R:=λwx=>IK w wx g (AB S) Q.heap.size (JJ f i A) 141/\CD wx) ⟨d,n⟩ ?_;clear d n;rintro w3⟨d,n⟩;generalize hq:Q.heap.size=q at d⊢;obtain⟨h,U⟩:=AI (AW A.host);obtain⟨o,Z⟩:=AI (A.port.isSome);obtain⟨p,tQ⟩:=AI (Kr A.port);rw[show JJ f i A=Ao f i h o p by rw[<-U,<-Z,<-tQ];rfl]at d;change Hid _ at U Z tQ;clear hq pT;replace n:=H0 (n.next (AU _ _).drew);have d:=d.drew;refine rds (λw'=>AM w' q (Ao f i h o p) 141/\w'.cell? ⟨q,0,none⟩=some (.string f)/\w'.cell? ⟨q,1,none⟩=some (.string i)/\w'.cell? ⟨q,13,none⟩=some (.bool o)/\w'.cell? ⟨q,14,none⟩=some (.int .i64 p)) d.a.authAll λH=> ?_;refine tq 0 ?_;refine tq 1 ?_;refine tq 2 ?_;refine tq 3 ?_;refine tq 4 ?_;refine tq 5 ?_;refine tq 6 ?_;refine tq 7 ?_;refine tq 8 ?_;refine tq 9 ?_;refine tkm 10 (λ_ h=>h.1.hostA) ?_;refine tq 11 ?_;refine tq 12 ?_;refine tq 13 ?_;refine tq 14 ?_;refine tq 15 ?_;refine tq 16 ?_;refine rdy 17 ?_;refine BN d.g 1 (AB {S with user:=f}) ?_;have d:=d.set (AB {S with user:=f});refine rde d.a.authAll λH=> ?_;refine tq 18 ?_;refine tq 19 ?_;refine rdy 20 ?_;refine BN d.g 2 (AB {S with user:=f,pass:=i}) ?_;have d:=d.set (AB {S with user:=f,pass:=i});refine rde d.a.authAll λH=> ?_;refine tq 21 ?_;refine tq 22 ?_;refine rdy 23 ?_;refine MD d.g 3 (AV h) (AB {S with user:=f,pass:=i,host:=h}) ?_;have d:=d.set (AB {S with user:=f,pass:=i,host:=h});refine rde d.a.authAll λH=> ?_;refine tq 24 ?_;refine tq 25 ?_;refine rdy 26 ?_;refine BN d.g 14 (AB {S with user:=f,pass:=i,host:=h,hasPort:=o}) ?_;have d:=d.set (AB {S with user:=f,pass:=i,host:=h,hasPort:=o});refine rde d.a.authAll λH=> ?_;refine tq 27 ?_;refine tq 28 ?_;refine rdy 29 ?_;refine BN d.g 15 (AB (Iv S f i h o p)) ?_;have d:=d.set (AB (Iv S f i h o p));refine rde d.a.authAll λH=> ?_;refine rdn ?_;go_upto_region 6 with(fail);refine As (R:=λwx=>IK w wx g (AB (Iv S f i h o p)) q (Ao f i h o p) 141) d ?_;clear d H;intro w4 d;have W:_=some (Value.string S.scheme):=d.g.at 0;have G:=hb.out;by_cases D:(SP|| !b.toList.isEmpty)=true
  ·have E:(Ar u.scheme|| !C.2.isEmpty)=true:=by rw[hSP.out,<-G];exact D
   replace E:=H0 E;have bC:SP=true\/(SP=false/\b.toList.isEmpty=false):=by
    cases SP
    ·exact .inr ⟨rfl,by simpa using D⟩
    exact .inl rfl
   change Hid _ at D G;rcases bC with rfl|⟨rfl,hbe⟩;all_goals
    go_wp2_with fail;refine(j8.out b _ eD).mono ?_;rintro e w5⟨v,l,rfl,hl,ho,P⟩;have hg4:=d.g.lt;have cK:=d.chg.size;have d:=d.keep P;obtain⟨pa,c,rfl,hlc,-⟩:=Ec ho;clear W P;go_wp2_with(refine BN d.g 18 (AB (AY (Iv S f i h o p) pa c l)) ?_);go_end0;refine QG hf (d.g.set _) (CS.row (B:=w4.heap.size) ⟨?_,ho⟩ hg4 cK _) (d.set _).chg;have hx:=Acj (a:=A) nM L K E (pa:=pa) (c:=c) (l:=l) (by rw[hl.out,G.out]);rw[U.out,Z.out,tQ.out]at hx;exact hx
  have E:(Ar u.scheme|| !C.2.isEmpty)=false:=by rw[hSP.out,<-G];simpa using D
  replace E:=H0 E;have bC:SP=false/\b.toList.isEmpty=true:=by
   cases SP
   ·exact⟨rfl,by simpa using D⟩
   exact absurd rfl D
  replace D:=H0 D;obtain⟨rfl,hbe⟩:=bC;replace G:=H0 G;go_wp2_with fail;go_end0;refine QG hf d.g (Ra ?_ h0 h1 h2) d.chg;have hx:=Ah5 (a:=A) nM L K E;rw[U.out,Z.out,tQ.out]at hx;exact hx
def Iu(h:Bu S u){L:List (A5)}{pa:Option Addr}{c:Nat}{l:List A9}(a:l.map (·.toList)=L):Bu (AY S pa c l) (FN u L):=
 ⟨h.scheme,h.user,h.pass,h.host,h.hasPort,h.port,h.opq,h.flat,a,h.hasQuery,h.query,h.hasFrag,h.frag⟩
def G2(S:AT)(h:E7):AT:=⟨S.scheme,S.user,S.pass,h,S.hasPort,S.port,S.flatP,S.flat,S.pathA,S.pathC,S.path,S.hasQuery,S.query,S.hasFrag,S.frag⟩
def TE(h:Bu S u)(x:Cb):Bu (G2 S (AW x)) (FQ u x):=
 ⟨h.scheme,h.user,h.pass,rfl,h.hasPort,h.port,h.opq,h.flat,h.path,h.hasQuery,h.query,h.hasFrag,h.frag⟩
def Ah4(h:Cb):(h=.name GQ/\(AW h).kind=2/\((AW h).name.toList==GQ)=true)\/(h≠ .name GQ/\(AW h).kind=2/\((AW h).name.toList==GQ)=false)\/(h≠ .name GQ/\((AW h).kind==2)=false):=by
 cases h with
 |name n=>
  by_cases a:n=GQ
  ·left;subst a;exact⟨rfl,rfl,by rw[show(AW (.name GQ)).name.toList=GQ from toList_mk _];exact beq_self_eq_true _⟩
  right;left;exact⟨λe=>a (Cb.name.inj e),rfl,by rw[show(AW (.name n)).name.toList=n from toList_mk _];simpa using a⟩
 |none=>exact .inr (.inr ⟨AN,AE⟩)|empty=>exact .inr (.inr ⟨AN,AE⟩)|four n=>exact .inr (.inr ⟨AN,BE⟩)|six l=>exact .inr (.inr ⟨AN,BE⟩)|opaqueN n=>exact .inr (.inr ⟨AN,BE⟩)
def AM.keepS{w:A7}{g:Nat}(h:AM w g (AB S) 34)(a:AF w w w'):AM w' g (AB S) 34/\w'.cell? ⟨g,0,none⟩=some (.string S.scheme):=⟨h.keep a,((h.keep a).at 0).trans rfl⟩
def Amb(g:Nat)(S:AT)(u:AZ)(s:A9)(w:A7)(F:CD w)(J:AM w g (AB S) 34)(Q:Bu S u)(T:s.size<=1100000):AD A8 208 #[.pointer (some ⟨g,0,none⟩),.string s] w (TD g (Il u s) w):=by
 obtain⟨R,X⟩:=AI (Il u s);rw[X];have j:=X.symm;unfold Il at j;have m:=H0 (λw=>Aap s true w A4);have U:=Qt true s;have j8:=H0 (λ(x:A9)w T=>Aei S.scheme x w T);have n:=H0 (λw=>Iz S.scheme none 0 0 [] s w (I2 w) AE T (λt h=>C5));rw[Q.scheme]at j8 n;generalize hC:D5 true s.toList=C at U j m;rw[AK]at U;replace j:=H0 j;have cA:=H0 F;have nM:=H0 Q;replace J:=H0 J;clear F Q;go_in;go_wp2_with fail;refine(m.out _).mono ?_;rintro e w1⟨a,b,rfl,y,P,d⟩;have wA:a.size<=1100000:=by rw[<-AK,y.out];omega
 have eD:b.size<=1100000:=by rw[<-AK,P.out];omega
 have z:=H0 (λw=>Us a w A4);rw[y.out]at z;obtain⟨hg1,Z⟩:=J.out.keepS d;have hc1:Aj (λk=>k=g) w w1:=(Aj.refl _ _).next d;have I:=cA.out.next d;clear d m J;replace hg1:=H0 hg1;replace hc1:=H0 hc1;replace I:=H0 I;generalize W:E6 C.1=D at z j;replace W:=H0 W;cases D with
 |true=>
  have hf:=H0 (j.out.trans (AC rfl));go_wp2_with(go_call(z.out _) as e w'⟨rfl,rfl⟩);go_call(n.out _) as e w5⟨v,l,rfl,hl,ho,hb5⟩;exact Abm
 |false=>
  have f:=j.out;rw[AA AE]at f;clear j n;by_cases r:C.1=[]
  ·rw[AC r]at f;have B:a.toList.isEmpty=true:=by rw[y.out,r];rfl
   have hf:=A6 (R=some (FN u (FT u.scheme b))) (f.trans (by rw[P.out]));replace f:=H0 f;go_wp2_with(go_call(z.out _) as e w'⟨rfl,rfl⟩);go_call(j8.out b _ eD) as e w5⟨v,l,rfl,hl,ho,hb5⟩;exact Abm
  rw[AA r]at f;have B:a.toList.isEmpty=false:=by
   rw[y.out];cases hx:C.1 with
   |nil=>grind|cons p q=>rfl
  have G:=H0 (λw F=>AcJ a true w F wA);rw[y.out]at G;generalize hO:ET C.1 true=O at f G;change Hid _ at hO f;go_wp2_with(go_at_call 265;refine(z.out _).mono (AH ?_));refine(G.out _ I).mono ?_;rintro e E⟨rfl,o⟩;have M:=hg1.out.keep o;have i:=hc1.out.next o;have Y:g<E.heap.size:=M.lt;clear o G hg1 hc1 I Z;cases O with
  |none=>
   have hf:=A6 (R=none) f;replace i:=H0 i;go_wp2_with(refine Cw (AV (AW .none)) ?_ (h1:=(UA _)));exact⟨rfl,AeW hf (i.out.alloc _)⟩
  |some h=>
   have hf:=A6 (R=some (FN (if h=.name GQ then u else FQ u h) (FT u.scheme b))) (f.out.trans (by rw[P.out]));clear f;have hI:IK w (E.alloc (.cells (AV (AW h)) 32)) g (AB S) E.heap.size (AV (AW h)) 32:=⟨Nat.ne_of_gt Y,i.alloc _,M.alloc _,AM.new _ _ _⟩;clear M i;go_upto_region 5 with(refine Cw (AV (AW h)) ?_);refine As (R:=λwx=>IK w wx g (AB S) E.heap.size (AV (AW h)) 32) hI ?_;clear hI;intro w3 hI;generalize hq:E.heap.size=q at hI⊢;have K:=Ah4 h;have hi2:=H0 (TE nM h);generalize hH:AW h=H at hI K hi2;have y0:_=some (Value.int .i64 H.kind):=hI.a.at 0;have y1:_=some (Value.string H.name):=hI.a.at 1;have Z:_=some (Value.string S.scheme):=hI.g.at 0;generalize V:H.kind=k at K y0;replace V:=H0 V;clear hq Y B;rcases K with⟨A,rfl,N⟩|⟨A,rfl,N⟩|⟨A,kk⟩
   ·rw[AC A]at hf;rw[show GQ=[108,111,99,97,108,104,111,115,116]from rfl]at N;go_wp2_with fail;go_call(j8.out b _ eD) as e w5⟨v,l,rfl,hl,ho,hb5⟩;have hg4:=hI.g.lt;have cK:=hI.chg.size;have hI:=hI.keep hb5;obtain⟨pa,c,rfl,hlc,-⟩:=Ec ho;go_wp2_with(refine BN hI.g 18 (AB (AY S pa c l)) ?_);go_end0;exact QG hf (hI.g.set _) (CS.row ⟨Iu nM hl,ho⟩ hg4 cK _) (hI.set _).chg
   ·rw[AA A]at hf;rw[show GQ=[108,111,99,97,108,104,111,115,116]from rfl]at N;have aO:=hI.set (AB (G2 S H));have L:_=some (Value.string S.scheme):=aO.g.at 0;replace aO:=H0 aO;go_wp2_with(first|(refine Cg rfl 32 _ rfl q rfl _ (AV H) _ _ hI.a underlying32 rfl OX ?_)|(refine MD hI.g 3 (AV H) (AB (G2 S H)) ?_));exact Ac9
   rw[AA A]at hf;have kk2:(k !=2)=true:=by simp_all
   have aO:=hI.set (AB (G2 S H));have L:_=some (Value.string S.scheme):=aO.g.at 0;replace aO:=H0 aO;go_wp2_with(first|(refine Cg rfl 32 _ rfl q rfl _ (AV H) _ _ hI.a underlying32 rfl OX ?_)|(refine Sr rfl _ _ _ rfl g 3 rfl (.agg (AV H)) rfl (AV H) rfl _ (AB S) (AB (G2 S H)) hI.g OX (by show 3+11<=23;decide) (UA _) AO ?_));exact Ac9
structure Mk(p:Ev):Prop where
 q:p.hq=false->p.qry.toList=[]
 f:p.hf=false->p.frg.toList=[]
 rz:p.rest.size<=1100000
 qz:p.qry.size<=1100000
 fz:p.frg.size<=1100000
def LU(o:Option AZ)(w:A7)(e:Ag)(w':A7):Prop:=(match o with|none=>AiR e|some u=>∃S:AT,e=.returned (.agg (AB S))/\CS w' w S u)/\AF w w w'
def Vo{w:A7}{a:AJ}(h:o=none)(b:AF w w w'):LU o w (.panicked [{v:=.iface 190 a,recovered:=false}]) w':=by subst h;exact⟨⟨a,rfl⟩,b⟩
def RX{w:A7}(h:o=some u)(hu:CS w' w S u)(a:AF w w w'):LU o w (.returned (.agg (AB S))) w':=by subst h;exact⟨⟨S,rfl,hu⟩,a⟩
structure BT(w wx:A7)(a:Nat)(A:Array AJ)(TA:Ab)(b:Nat)(B:Array AJ)(TB:Ab)(r g:Nat)(S:AT):Prop where
 ag:a≠g
 bg:b≠g
 rg:r≠g
 gw:w.heap.size<=g
 rw:w.heap.size<=r
 below:AF w w wx
 a:AM wx a A TA
 b:AM wx b B TB
 r:AM wx r (AB zS) 34
 g:AM wx g (AB S) 34
section
variable {w wx w':World} {a b r g:Nat} {A B:Array Value} {TA TB:TypeId} {S S':AT}
def BT.keep(h:BT w wx a A TA b B TB r g S)(c:AF wx wx w'):BT w w' a A TA b B TB r g S:=⟨h.ag,h.bg,h.rg,h.gw,h.rw,h.below.next c,h.a.keep c,h.b.keep c,h.r.keep c,h.g.keep c⟩
def BT.drew(h:BT w wx a A TA b B TB r g S):BT w wx.drew a A TA b B TB r g S:=h.keep (AU _ _).drew
def BT.set(h:BT w wx a A TA b B TB r g S)(c:AT):BT w (wx.setRow g (AB c)) a A TA b B TB r g c:=⟨h.ag,h.bg,h.rg,h.gw,h.rw,Au h.below h.gw _,h.a.other h.ag _,h.b.other h.bg _,h.r.other h.rg _,h.g.set _⟩
def BT.chg(h:BT w wx a A TA b B TB r g S)(hc:Aj (λk=>k=g) wx w')(c:AM w' g (AB S') 34):BT w w' a A TA b B TB r g S':=
 ⟨h.ag,h.bg,h.rg,h.gw,h.rw,Aj.belowNew h.below h.below.size h.gw hc,h.a.chg hc h.ag,h.b.chg hc h.bg,h.r.chg hc h.rg,c⟩
def BT.out(h:BT w wx a A TA b B TB r g S)(hc:Aj (λk=>k=g) wx w'):AF w w w':=Aj.belowNew h.below h.below.size h.gw hc
def BT.env(h:BT w wx a A TA b B TB r g S)(c:CD w):CD wx:=c.next h.below
end
def Amt(s:A9)(w:A7):AD A8 218 #[.string s,.string ⟨#[47,47]⟩] w λe w'=>∃r:A9,e=.returned (.tuple #[.string r,.bool (Lib.hasPrefix s [47,47])])/\r.size<=s.size/\Hid (Lib.hasPrefix s [47,47]=true->r.toList=s.toList.drop 2)/\w=w':=by
 go_call Tryz.strings_CutPrefix;refine AH ?_;have a:(ByteArray.mk #[47,47]).data.toList=[47,47]:=rfl;rw[(BQ ..).symm];have hl:(Lib.trimPrefix s [47,47]).length<=s.size:=by
  exact Z0
 exact Wf
def ArG(s:A9)(w:A7):AD A8 218 #[.string s,.string ⟨#[47]⟩] w λe w'=>∃r:A9,e=.returned (.tuple #[.string r,.bool (Lib.hasPrefix s [47])])/\r.size<=s.size/\Hid (Lib.hasPrefix s [47]=true->r.toList=s.toList.drop 1)/\w=w':=by
 go_call Tryz.strings_CutPrefix;refine AH ?_;have a:(ByteArray.mk #[47]).data.toList=[47]:=rfl;rw[(BQ ..).symm];have hl:(Lib.trimPrefix s [47]).length<=s.size:=by
  exact Z0
 exact Wf
def Atv(s:A9)(w:A7)(a:s.size<=4294967296):AD A8 219 #[.string s,.string ⟨#[32]⟩] w λe w'=>∃r:A9,e=.returned (.tuple #[.string r,.bool (Lib.hasSuffix s [32])])/\r.size<=s.size/\Hid (Lib.hasSuffix s [32]=true->r.toList=s.toList.dropLast)/\w=w':=by
 go_call Tryz.strings_CutSuffix;refine AH ?_;have b:(ByteArray.mk #[32]).data.toList=[32]:=rfl;rw[(BQ ..).symm];have hl:(Lib.trimSuffix s [32]).length<=s.size:=by
  exact AdP
 exact AcF
def DP(S:AT)(b:Bool)(f:A9):AT:=⟨S.scheme,S.user,S.pass,S.host,S.hasPort,S.port,b,f,S.pathA,S.pathC,S.path,S.hasQuery,S.query,S.hasFrag,S.frag⟩
def An4{sch:A9}{q f t:A9}{l:A5}(h:Bu (Gp sch p q f) (BZ sch p.l))(a:t.toList=l):Bu (DP (Gp sch p q f) true t) ⟨(BZ sch p.l).scheme,[],[],.none,none,true,l,[],(BZ sch p.l).query,(BZ sch p.l).frag⟩:=
 ⟨h.scheme,toList_mk [],toList_mk [],rfl,rfl,rfl,rfl,a,rfl,h.hasQuery,h.query,h.hasFrag,h.frag⟩
def AxR(p:Ev)(w:A7)(hE:CD w)(Z:Mk p):AD A8 150 #[.agg (Ad p)] w (LU (Hu p.l) w):=by
 obtain⟨R,hR⟩:=AI (Hu p.l);rw[hR];have y:=hR.symm;unfold Hu at y;dsimp only at y;replace hR:=H0 hR;have C:=Cu.start w (Ad p) 72 (AB zS) 34;have aF:=H0 (λw=>S9 p.sch p w (by have:=Z.qz;omega) (by have:=Z.fz;omega));have fA:=H0 (λw=>Amt p.rest w);have jF:=H0 (λw=>ArG p.rest w);have gC:=H0 (λw=>Mu p.rest 0 AE w (by have:=Z.rz;omega));rw[show p.l.rest=p.rest.toList from rfl,show p.l.sch=p.sch.toList from rfl,show p.l.hq=p.hq from rfl,show p.l.hf=p.hf from rfl]at y;replace y:=H0 y;have n:=H0 Z;have cA:=H0 hE;clear Z hE;go_in;go_upto_region 1 with(fail);refine As (R:=λwx=>Cu w wx (Ad p) 72 (AB zS) 34) C ?_;clear C;intro w1 C;have y1:_=some (Value.string p.sch):=C.a.at 1;go_wp2_with(refine At C.a ?_);refine(aF.out _).mono ?_;rintro e w2⟨q,f,rfl,hqv,hfv,hb⟩;have fD:=hb.size;have hbl:=C.b.lt;have W:=C.keep hb;have T:=Q1 hqv hfv n.out.q n.out.f;obtain⟨S,hS⟩:=AI (Gp p.sch p q f);have h0:S.pathA=none:=K6;have h1:S.pathC=0:=K6;have h2:S.path=[]:=K6;have h3:S.scheme=p.sch:=K6;have B:∀t:A9,Bu (DP S true t) ⟨(BZ p.sch.toList p.l).scheme,[],[],.none,none,true,t.toList,[],(BZ p.sch.toList p.l).query,(BZ p.sch.toList p.l).frag⟩:=λt=>by
  rw[<-hS];exact An4 T rfl
 rw[hS]at T⊢;change Hid _ at T B hS h0 h1 h2 h3;have i:BT w (w2.alloc (.cells (AB S) 34)) w.heap.size (Ad p) 72 w.heap.size (Ad p) 72 (w.heap.size+1) w2.heap.size S:=
  ⟨A4,A4,A4,A4,A4,W.below.alloc A4 _,W.a.alloc _,W.a.alloc _,W.b.alloc _,AM.new _ _ _⟩
 clear C W hb y1 hbl;go_upto_region 2 with(refine Cw (AB S) ?_);refine As (R:=λwx=>BT w wx w (Ad p) 72 w.heap.size (Ad p) 72 (w.heap.size+1) w2.heap.size S) i ?_;clear i;intro w3 i;generalize hg:w2.heap.size=g at i⊢;clear hg fD;have y2:_=some (Value.string p.rest):=i.a.at 2;have y5:_=some (Value.bool p.hf):=i.a.at 5;have x0:_=some (Value.string S.scheme):=i.g.at 0;generalize J:Lib.hasPrefix p.rest.toList [47,47]=b2 at fA y;replace J:=H0 J;cases b2 with
 |true=>
  have hf:=y.out.trans (AC rfl);replace hf:=H0 hf;clear y;go_wp2_with(go_call(fA.out _) as e w'⟨r,rfl,bW,s,rfl⟩);have j:=i;go_call(Xw g S (BZ p.sch.toList p.l) r _ (j.env cA) j.g T h0 h1 h2 (by have:=n.out.rz;omega)) as e w4⟨hres,hc⟩;have tA:r.toList=p.rest.toList.drop 2:=by first|exact s.out rfl|exact s.out|exact s.out trivial
  have hf:=hf.out;rw[<-tA]at hf;generalize hO:FC (BZ p.sch.toList p.l) r.toList=O at hf hres;cases O with
  |none=>
   obtain⟨pv,rfl⟩:=hres;exact⟨rfl,Vo hf (j.out hc)⟩
  |some u=>
   obtain⟨rfl,S',bV,hu⟩:=hres;have k:=j.chg hc bV;have gO:=j.r.lt;have dI:=j.below.size;go_wp2_with(first|(refine At k.g ?_)|(refine Ax k.r (AB S') ?_ (h1:=(EO _))));refine Hp rfl rfl rfl (k.r.set _) (Bj _) ?_;exact RX hf (hu.row gO dI _) (Au k.below k.rw _)
 |false=>
  have U:=y.out.trans (AA AE);clear y;generalize P:Lib.hasPrefix p.rest.toList [47]=b1 at jF U;replace P:=H0 P;cases b1 with
  |true=>
   have m:=U.trans (AC rfl);change Hid _ at U m;go_upto_region 6 with(go_call(fA.out _) as e w'⟨r,rfl,bW,s,rfl⟩);go_upto_region 8 with(go_at_call 218;go_call(jF.out _) as e w'⟨r1,rfl,hs1,dE,rfl⟩);have tA:r1.toList=p.rest.toList.drop 1:=by first|exact dE.out rfl|exact dE.out|exact dE.out trivial
   have m:=m.out;rw[<-tA]at m;change Hid _ at m tA;go_wp2_with fail;go_call(Iz S.scheme none 0 0 [] r1 _ (I2 _) AE (by have:=n.out.rz;omega) (λt h=>C5)) as e w5⟨v,l,rfl,hl,ho,hb5⟩;have hg4:=i.g.lt;have fM:=i.r.lt;have cK:=i.below.size;have k:=i.keep hb5;obtain⟨pa,c,rfl,hlc,-⟩:=Ec ho;have d:=k.set (AY S pa c l);have V:=hl.out;rw[h3.out]at V;have hO:CS w5 _ (AY S pa c l) _:=⟨Iu T V,ho⟩;go_wp2_with(first|(refine BN k.g 18 (AB (AY S pa c l)) ?_)|(refine At d.g ?_)|(refine Ax d.r (AB (AY S pa c l)) ?_ (h1:=(EO _))));refine Hp rfl rfl rfl (d.r.set _) (Bj _) ?_;exact RX m ((hO.row hg4 (AG _) _).row fM cK _) (Au d.below d.rw _)
  |false=>
   have m:=U.trans (AA AE);change Hid _ at U m;go_upto_region 6 with(go_at_call 218;refine(fA.out _).mono ?_;rintro e w'⟨r,rfl,bW,s,rfl⟩);go_upto_region 10 with(go_at_call 218;refine(jF.out _).mono ?_;rintro e w'⟨r1,rfl,hs1,dE,rfl⟩);clear x0;have H:=H0 (i.set (DP S true S.flat));have Y:=H0 ((H.out.a.at 2).trans (show(Ad p)[2]?=some (.string p.rest)from rfl));have z2:=Y.out;go_wp2_with(refine BN i.g 16 (AB (DP S true S.flat)) ?_);refine(gC.out _).mono ?_;rintro e w4⟨t,rfl,ht,L⟩;have htz:t.size<=4294967296:=by
    rw[<-AK,ht.out];have cZ:=I3 0 p.rest.toList;have dP:=n.out.rz;rw[AK]at cZ;omega
   have k:=H.out.keep L;have d:=k.set (DP S true t);have N:_=some (Value.bool p.hq):=d.a.at 3;have X:_=some (Value.bool p.hf):=d.a.at 5;have x17:_=some (Value.string t):=d.g.at 17;clear y2 y5 Y z2 L i;replace d:=H0 d;obtain⟨F,Q⟩:=AI (p.hq);obtain⟨gG,I⟩:=AI (p.hf);rw[Q]at N m;rw[I]at X m;change Hid _ at Q I;have fin:∀(wx:A7)(G:A9),R=some ⟨(BZ p.sch.toList p.l).scheme,[],[],.none,none,true,G.toList,[],(BZ p.sch.toList p.l).query,(BZ p.sch.toList p.l).frag⟩->BT w wx w (Ad p) 72 w.heap.size (Ad p) 72 (w.heap.size+1) g (DP S true G)->LU R w (.returned (.agg (AB (DP S true G)))) (wx.setRow (w.heap.size+1) (AB (DP S true G))):=λwx G hr i=>by
    refine RX hr ?_ (Au i.below i.rw _);exact Ra (B.out G) h0 h1 h2
   replace fin:=H0 fin;by_cases sG:(F||gG)=true
   ·have E:=H0 (λw=>Atv t w htz);obtain⟨sx,oT⟩:=AI (Lib.hasSuffix t [32]);have D:R=some ⟨(BZ p.sch.toList p.l).scheme,[],[],.none,none,true,if sx=true then t.toList.dropLast++[37,50,48]else t.toList,[],(BZ p.sch.toList p.l).query,(BZ p.sch.toList p.l).frag⟩:=by
     rw[m.out,<-ht.out];unfold Gk;grind
    rw[oT]at E;change Hid _ at oT D;have bC:F=true\/(F=false/\gG=true):=by
     cases F
     ·grind
     simp
    replace sG:=H0 sG;cases sx with
    |true=>
     have o:=D.out;rw[AC rfl]at o;replace o:=H0 o;rcases bC with rfl|⟨rfl,rfl⟩;all_goals
      go_upto_region 15 with(first|(refine BN k.g 17 (AB (DP S true t)) ?_)|(go_at_call 219;refine(E.out _).mono ?_;rintro e w'⟨h,rfl,iI,cQ,rfl⟩));have M:=o.out;have oE:h.toList=t.toList.dropLast:=by first|exact cQ.out rfl|exact cQ.out|exact cQ.out trivial
      rw[<-oE,show(h.toList++[37,50,48]:A5)=(h++⟨#[37,50,48]⟩).toList by rw[toList_append,show(⟨#[37,50,48]⟩:A9).toList=[37,50,48]from toList_mk _]]at M;replace M:=H0 M;have hcat:¬(9223372036854775807<h.size+3):=A4;clear x17 N X;generalize A:h++⟨#[37,50,48]⟩=t3 at M;have K:=A6 (∀x,x=t3->BT w ((w4.setRow g (AB (DP S true t))).setRow g (AB (DP S true x))) w.heap.size (Ad p) 72 w.heap.size (Ad p) 72 (w.heap.size+1) g (DP S true t3)) (λx e=>by subst e;exact d.out.set _);replace A:=H0 A;go_upto_region 16 with(refine BN d.out.g 17 (AB (DP S true (h++⟨#[37,50,48]⟩))) ?_);refine As (R:=λwx=>BT w wx w (Ad p) 72 w.heap.size (Ad p) 72 (w.heap.size+1) g (DP S true t3)) (by first|exact K.out _ A|exact A.out▸d.out.set _) ?_;clear K;intro w7 z;go_wp2_with(first|(refine At z.g ?_)|(refine Ax z.r (AB (DP S true t3)) ?_));refine Hp rfl rfl rfl (z.r.set _) (Bj _) ?_;exact fin.out _ _ M z
    |false=>
     have o:=D.out;rw[AA AE]at o;replace o:=H0 o;rcases bC with rfl|⟨rfl,rfl⟩;all_goals
      go_wp2_with(first|(refine BN k.g 17 (AB (DP S true t)) ?_)|(go_at_call 219;refine(E.out _).mono ?_;rintro e w'⟨h,rfl,iI,cQ,rfl⟩)|(refine At d.out.g ?_)|(refine Ax d.out.r (AB (DP S true t)) ?_ (h1:=(EO _))));refine Hp rfl rfl rfl (d.out.r.set _) (Bj _) ?_;exact fin.out _ _ o d
   have bC:F=false/\gG=false:=by
    cases F
    ·grind
    grind
   replace sG:=H0 sG;obtain⟨rfl,rfl⟩:=bC;have o:=A6 (R=some ⟨(BZ p.sch.toList p.l).scheme,[],[],.none,none,true,t.toList,[],(BZ p.sch.toList p.l).query,(BZ p.sch.toList p.l).frag⟩) (by
    rw[m.out,<-ht.out];rfl)
   go_wp2_with(first|(refine BN k.g 17 (AB (DP S true t)) ?_)|(refine At d.out.g ?_)|(refine Ax d.out.r (AB (DP S true t)) ?_ (h1:=(EO _))));refine Hp rfl rfl rfl (d.out.r.set _) (Bj _) ?_;exact fin.out _ _ o d
structure Fy(w wx:A7)(A:Array AJ)(TA:Ab)(B:Array AJ)(TB:Ab):Prop where
 below:AF w w wx
 a:AM wx w A TA
 b:AM wx (w.heap.size+1) B TB
 r:AM wx (w.heap.size+2) (AB zS) 34
section
variable {w wx w':World} {A B:Array Value} {TA TB:TypeId}
def Fy.start(w:A7)(A:Array AJ)(c:Ab)(B:Array AJ)(d:Ab):Fy w (((w.alloc (.cells A c)).alloc (.cells B d)).alloc (.cells (AB zS) 34)) A c B d:=by
 have h:=Cu.start w A c B d;refine⟨h.below.alloc US _,h.a.alloc _,h.b.alloc _,?_⟩;have:=AM.new ((w.alloc (.cells A c)).alloc (.cells B d)) (AB zS) 34;rwa[DB,DB]at this
def Fy.keep(h:Fy w wx A TA B TB)(c:AF wx wx w'):Fy w w' A TA B TB:=⟨h.below.next c,h.a.keep c,h.b.keep c,h.r.keep c⟩
def Fy.fr(h:Fy w wx A TA B TB)(S:AT):BT w (wx.alloc (.cells (AB S) 34)) w.heap.size A TA (w.heap.size+1) B TB (w.heap.size+2) wx.heap.size S:=
 ⟨Nat.ne_of_lt h.a.lt,Nat.ne_of_lt h.b.lt,Nat.ne_of_lt h.r.lt,h.below.size,A4,h.below.alloc h.below.size _,h.a.alloc _,h.b.alloc _,h.r.alloc _,AM.new _ _ _⟩
end
def BT.fin{w:A7}{a b r g:Nat}{B:Array AJ}{e:Ab}{R:Option AZ}(h:BT w wx a A d b B e r g S)(c:CS wx K S u/\r<K/\w.heap.size<=K)(f:R=some u):LU R w (.returned (.agg (AB S))) (wx.setRow r (AB S)):=
 RX f (c.1.row c.2.1 c.2.2 _) (Au h.below h.rw _)
def BT.rel{w:A7}{a b r g:Nat}(h:BT w wx a (AB B) 34 b (Ad p) 72 r g S):AM wx g (AB S) 34/\wx.cell? ⟨g,0,none⟩=some (.string S.scheme)/\wx.cell? ⟨a,18,none⟩=some (.slice B.pathA B.path.length B.pathC)/\wx.cell? ⟨b,2,none⟩=some (.string p.rest):=
 ⟨h.g,(h.g.at 0).trans rfl,(h.a.at 18).trans rfl,(h.b.at 2).trans rfl⟩
def AjJ{l:List A9}(h:l.map (·.toList)=CK s (B.path.map (·.toList)))(e:B.path.length<=1000000)(d:∀t∈B.path,t.size<=4294967296):l.length<=1000000/\∀t∈l,t.size<=4294967296:=by
 have b:∀x∈CK s (B.path.map (·.toList)),x∈B.path.map (·.toList):=by
  intro x hx;unfold CK at hx;split at hx
  ·exact hx
  exact List.dropLast_subset _ hx
 have a:(CK s (B.path.map (·.toList))).length<=B.path.length:=by
  unfold CK;split
  ·simp
  simp
 constructor
 ·grind
 intro t c;have:=b t (h▸OZ c);grind[AK]
structure JZ(B:AT):Prop where
 n:B.path.length<=1000000
 z:∀t∈B.path,t.size<=4294967296
def Ahl{b:AZ}(h:Bu S u)(a:Bu B b):Bu (De S B) (PN u b):=
 ⟨h.scheme,a.user,a.pass,a.host,a.hasPort,a.port,h.opq,h.flat,h.path,h.hasQuery,h.query,h.hasFrag,h.frag⟩
def Afm{b:AZ}(h:Bu S u)(a:Bu B b)(pa:Option Addr)(c:Nat):Bu (if S.hasQuery=true then AY S pa c B.path else JP (AY S pa c B.path) B) (Oa u b):=by
 unfold Oa;cases hq:u.query with
 |none=>
  have h1:¬S.hasQuery=true:=by rw[h.hasQuery,hq];decide
  rw[AA h1];exact⟨h.scheme,h.user,h.pass,h.host,h.hasPort,h.port,h.opq,h.flat,a.path,a.hasQuery,a.query,h.hasFrag,h.frag⟩
 |some q=>
  have h1:S.hasQuery=true:=by rw[h.hasQuery,hq];rfl
  rw[AC h1,AA AN];exact⟨h.scheme,h.user,h.pass,h.host,h.hasPort,h.port,h.opq,h.flat,a.path,by rw[<-hq];exact h.hasQuery,by rw[<-hq];exact h.query,h.hasFrag,h.frag⟩
def UG(S:AT):AT:=⟨S.scheme,S.user,S.pass,S.host,S.hasPort,S.port,S.flatP,S.flat,S.pathA,S.pathC,S.path,S.hasQuery,S.query,true,S.frag⟩
def Rp(S:AT)(f:A9):AT:=⟨S.scheme,S.user,S.pass,S.host,S.hasPort,S.port,S.flatP,S.flat,S.pathA,S.pathC,S.path,S.hasQuery,S.query,true,f⟩
def AyN{b:AZ}(h:Bu B b)(pa:Option Addr)(c:Nat){f:A9}{l:A5}(hf:f.toList=l):Bu (Rp (AY B pa c B.path) f) ⟨b.scheme,b.user,b.pass,b.host,b.port,b.opq,b.flat,b.path,b.query,some l⟩:=
 ⟨h.scheme,h.user,h.pass,h.host,h.hasPort,h.port,h.opq,h.flat,h.path,h.hasQuery,h.query,rfl,hf⟩
def AvV(B:AT)(b:AZ)(p:Ev)(w:A7)(A:Cy w B b)(H:JZ B)(M:Mk p):AD A8 151 #[.agg (AB B),.agg (Ad p)] w (LU (NR b p.l) w):=by
 obtain⟨R,z⟩:=AI (NR b p.l);rw[z];have m:=z.symm;unfold NR at m;try dsimp only at m
 replace z:=H0 z;have q:=Fy.start w (AB B) 34 (Ad p) 72;have P:=H0 A.path;have O:=H0 A.is;have X:=H.n;have S:=M.fz;clear M A H;rw[show p.l.hf=p.hf from rfl,show p.l.hq=p.hq from rfl,show p.l.rest=p.rest.toList from rfl,show p.l.frg=p.frg.toList from rfl]at m;obtain⟨f,u⟩:=AI (p.hf);obtain⟨i,s⟩:=AI (p.hq);obtain⟨k,D⟩:=AI (p.rest.toList.isEmpty);rw[u,s,D]at m;have G:∀{wx:A7},AM wx (w.heap.size+1) (Ad p) 72->wx.cell? ⟨w.heap.size+1,5,none⟩=some (.bool f):=λh=>(h.at 5).trans (by rw[<-u];rfl);have J:∀{wx:A7},AM wx (w.heap.size+1) (Ad p) 72->wx.cell? ⟨w.heap.size+1,3,none⟩=some (.bool i):=λh=>(h.at 3).trans (by rw[<-s];rfl);change Hid _ at u s;go_in;go_upto_region 1 with(fail);refine As (R:=λwx=>Fy w wx (AB B) 34 (Ad p) 72) q ?_;clear q;intro I q;have z5:=G q.b;have z3:=J q.b;have Y:=(q.b.at 2).trans (show(Ad p)[2]?=some (.string p.rest)from rfl);clear G J;by_cases d:(!f||i|| !k)=true
 ·replace m:=H0 m;have C:f=false\/(f=true/\i=true)\/(f=true/\i=false/\k=false):=by
   cases f<;>cases i<;>cases k<;>simp at d⊢
  have E:=H0 q.below;rcases C with rfl|⟨rfl,rfl⟩|⟨rfl,rfl,rfl⟩;all_goals
   go_wp21;exact⟨rfl,Vo m E⟩
 rw[AA d]at m;have C:f=true/\i=false/\k=true:=by
  cases f<;>cases i<;>cases k<;>simp at d⊢
 replace d:=H0 d;have hf:=H0 m;clear m;obtain⟨rfl,rfl,rfl⟩:=C;have j:=q.fr B;go_upto_region 4 with(first|(refine Cg rfl 34 _ rfl w rfl _ (AB B) _ _ q.a underlying34 rfl (Bj _) ?_)|(refine Jf rfl 34 _ _ rfl rfl (AB (B)) _ _ _ rfl AN rfl (Bj _) rfl (EO _) ?_));refine As (R:=λwx=>BT w wx (w.heap.size) (AB B) 34 (w.heap.size+1) (Ad p) 72 (w.heap.size+2) I.heap.size B) j ?_;intro V j;generalize hg:I.heap.size=g at j⊢;have T:=(j.a.at 18).trans (show(AB B)[18]?=some (.slice B.pathA B.path.length B.pathC)from rfl);go_wp2_with fail;go_call(OS B.pathA B.path.length B.pathC B.path _ (P.out.below j.below (AG _)) A4) as e w5⟨v,rfl,ho,hb5⟩;have x:=j.g.lt;have U:=j.r.lt;have Q:=j.below.size;obtain⟨pa,c,rfl,-,-⟩:=Ec ho;replace j:=j.keep hb5;have y:=j.set (AY B pa c B.path);have L:=y.set (UG (AY B pa c B.path));have W:=(L.b.at 6).trans (show(Ad p)[6]?=some (.string p.frg)from rfl);have F:=OwnS.row (OwnS.row ho x (AB (AY B pa c B.path))) x (AB (UG (AY B pa c B.path)));go_wp2_with(first|(refine LF rfl _ _ _ rfl g 18 rfl (.slice pa B.path.length c) rfl rfl _ (AB (B)) (AB (AY B pa c B.path)) j.g Xk WW rfl AO ?_)|(refine LF rfl _ _ _ rfl g 21 rfl (.bool true) rfl rfl _ (AB (AY B pa c B.path)) (AB (UG (AY B pa c B.path))) y.g At9 (by show 21+1<=23;decide) rfl AO ?_));go_call Mu as e w6⟨t,rfl,ht,hb6⟩;have K:=L.keep hb6;have o:=K.set (Rp (AY B pa c B.path) t);have N:=HR F hb6 (AG _);go_wp2_with(first|(refine LF rfl _ _ _ rfl g 22 rfl (.string t) rfl rfl _ (AB (UG (AY B pa c B.path))) (AB (Rp (AY B pa c B.path) t)) K.g AtM (by show 22+1<=23;decide) rfl AO ?_)|(refine Cg rfl 34 _ rfl g rfl _ (AB (Rp (AY B pa c B.path) t)) _ _ o.g underlying34 rfl (Bj _) ?_)|(refine Fb rfl 34 _ _ rfl (w.heap.size+2) (AB (Rp (AY B pa c B.path) t)) rfl rfl 34 _ o.r (Bj _) rfl (EO _) ?_));refine Hp rfl rfl rfl (o.r.set _) (Bj _) ?_;exact o.fin ⟨⟨AyN O pa c ht,OwnS.row N x _⟩,U,Q⟩ hf
def AmS(B:AT)(b:AZ)(p:Ev)(w:A7)(Q:CD w)(D:Cy w B b)(H:JZ B)(y:Mk p):AD A8 152 #[.agg (AB B),.agg (Ad p)] w (LU (MP b p.l) w):=by
 obtain⟨R,F⟩:=AI (MP b p.l);rw[F];have hv:=F.symm;unfold MP at hv;try dsimp only at hv
 replace F:=H0 F;have hI:=Fy.start w (AB B) 34 (Ad p) 72;have Z:=H0 D.path;have jI:=H0 D.is;have bE:=D.cap;have V:=H.n;have W:=H.z;have gJ:=y.rz;have wC:=y.qz;have hfz:=y.fz;have tB:=H0 y.q;have uI:=H0 y.f;have cA:=H0 Q;clear y Q D H;have aF:=H0 (λw=>S9 B.scheme p w A4 A4);have d:=H0 (λw=>To B.scheme p.rest w A4);have i:=H0 (λw=>NN B.scheme w);have nR:=H0 (λw=>Ac0 B.scheme p.rest w A4);have vP:=H0 (λw hp=>Ai5 B.scheme B.pathA B.path.length B.pathC B.path w hp V bE W);have m:=MZ (Ar b.scheme) p.rest.toList;rw[AK]at m;rw[<-jI.out.scheme,show p.l.rest=p.rest.toList from rfl]at hv;rw[<-jI.out.scheme]at m;generalize hSP:Ar B.scheme.toList=SP at d i hv nR m;generalize hnn:C2 SP p.rest.toList=n at d hv m;change Hid _ at hnn hv;go_in;go_upto_region 1 with(fail);refine As (R:=λwx=>Fy w wx (AB B) 34 (Ad p) 72) hI ?_;clear hI;intro w1 hI;have y0:_=some (Value.string B.scheme):=hI.a.at 0;go_wp2_with(refine At hI.b ?_);go_call S9 as e w2⟨q,f,rfl,hqv,hfv,j⟩;have aZ:=Q1 hqv hfv tB uI;obtain⟨S,hS⟩:=AI (Gp B.scheme p q f);have h0:S.pathA=none:=K6;have h1:S.pathC=0:=K6;have h2:S.path=[]:=K6;have x:S.scheme=B.scheme:=K6;rw[hS]at aZ⊢;change Hid _ at aZ hS h0 h1 h2;have aO:=hI.keep j;have X:=aO.fr S;clear hI aO j y0 aF;go_upto_region 2 with(refine Cw (AB (S)) ?_);refine As (R:=λwx=>BT w wx (w.heap.size) (AB B) 34 (w.heap.size+1) (Ad p) 72 (w.heap.size+2) w2.heap.size S) X ?_;clear X;intro w3 hI;generalize hg:w2.heap.size=g at hI⊢;clear hg;have x0:=(hI.g.at 0).trans (show(AB S)[0]?=some (.string B.scheme)by rw[<-x];rfl);have y2:_=some (Value.string p.rest):=hI.b.at 2;rw[<-x]at vP;replace x:=H0 x;by_cases C:2<=n
 ·have t5:2<=(n:Int):=A4;have aR:=hv.out;rw[AC C]at aR;cases SP with
  |true=>
   rw[AC rfl]at aR;replace aR:=H0 aR;go_wp2_with(first|(go_at_call 207;refine(d.out _).mono (AH ?_))|(go_at_call 145;refine(i.out _).mono (AH ?_))|(go_at_call 149;refine(nR.out _).mono ?_;rintro e w'⟨⟨r,rfl,bW,o⟩,rfl⟩));exact Adt
  |false=>
   rw[AA AE]at aR;have h2r:2<=(p.rest.size:Int):=A4;have bW:=A6 ((p.rest.extract 2 p.rest.size).toList=p.rest.toList.drop 2) ME;have o:(p.rest.extract 2 p.rest.size).size<=p.rest.size:=Bk;generalize hre:p.rest.extract 2 p.rest.size=r at bW o;replace aR:=H0 aR;go_wp2_with(first|(go_at_call 207;refine(d.out _).mono (AH ?_))|(go_at_call 145;refine(i.out _).mono (AH ?_)));exact Adt
 have aR:=hv.out;rw[AA C]at aR;have t5:(n:Int)<2:=A4;by_cases G:n=1
 ·subst G;rw[AC rfl]at aR;have h1r:1<=(p.rest.size:Int):=A4;have bW:=A6 ((p.rest.extract 1 p.rest.size).toList=p.rest.toList.drop 1) ME;have o:(p.rest.extract 1 p.rest.size).size<=1100000:=Bk;rw[<-bW.out]at aR;have hf:=H0 aR;clear aR hv;go_upto_region 10 with(first|(go_at_call 207;refine(d.out _).mono (AH ?_))|(go_at_call 145;refine(i.out _).mono (AH ?_)));go_wp2_with(refine At hI.a ?_);refine(Xs g S B _ hI.g).mono ?_;rintro e w4⟨rfl,bV,eP⟩;have hI:=hI.chg eP bV;clear bV eP;clear x0 y2;go_upto_region 11 with(fail);refine As (R:=λwx=>BT w wx (w.heap.size) (AB B) 34 (w.heap.size+1) (Ad p) 72 (w.heap.size+2) g (De S B)) hI ?_;clear hI;intro P hI;have hI:=hI.drew;refine rds (λw'=>w'.cell? ⟨g,0,none⟩=some (.string (De S B).scheme)/\w'.cell? ⟨w,18,none⟩=some (.slice B.pathA B.path.length B.pathC)/\w'.cell? ⟨w.heap.size+1,2,none⟩=some (.string p.rest)) hI.rel.2 λk=> ?_;refine tq 0 ?_;refine tq 1 ?_;refine tq 2 ?_;refine tq 3 ?_;refine tq 4 ?_;refine rdk 5 λK A=> ?_;go_simp;refine(Iz (De S B).scheme none 0 0 [] (p.rest.extract 1 p.rest.size) _ (I2 _) AE o (λt h=>C5)).mono ?_;rintro e U⟨v,l5,rfl,L,ho,j⟩;have s:=hI.g.lt;have dI:=hI.below.size;have cY:=hI.r.lt;obtain⟨pa,c,rfl,-,-⟩:=Ec ho;have hI:=hI.keep j;replace ho:=H0 ho;clear j k;go_wp2_with fail;refine rdg A hI.rel.2 λk=> ?_;refine tq 6 ?_;refine rdy 7 ?_;refine BN hI.g 18 (AB (AY (De S B) pa c l5)) ?_;have hI:=hI.set (AY (De S B) pa c l5);refine rde hI.rel.2 λk=> ?_;refine rdn ?_;go_upto_region 15 with(fail);refine As (R:=λwx=>BT w wx (w.heap.size) (AB B) 34 (w.heap.size+1) (Ad p) 72 (w.heap.size+2) g (AY (De S B) pa c l5)/\OwnS wx P.drew.heap.size 9 (.slice pa l5.length c) l5) ⟨hI,OwnS.row ho s _⟩ ?_;clear hI ho k;rintro w7⟨hI,ho⟩;have hl2:=L.out;rw[show(De S B).scheme=S.scheme from rfl,x.out]at hl2;exact AgC
 obtain rfl:n=0:=A4;rw[AA AE]at aR;generalize hre:p.rest.toList.isEmpty=re at aR;cases re with
 |true=>
  have hf:=H0 (aR.trans (AC rfl));clear aR hv;go_upto_region 13 with(first|(go_at_call 207;refine(d.out _).mono (AH ?_))|(go_at_call 145;refine(i.out _).mono (AH ?_)));go_wp2_with(refine At hI.a ?_);refine(Xs g S B _ hI.g).mono ?_;rintro e w4⟨rfl,bV,eP⟩;have hI:=hI.chg eP bV;clear bV eP;clear x0 y2;have dI:=hI.below.size;have cY:=hI.r.lt;go_wp2_with(refine At hI.a ?_);refine(AbB g (De S B) B _ hI.g (Z.out.below hI.below (AG _)) A4).mono ?_;rintro e U⟨pa,c,rfl,bV,ho,eP⟩;have uA:=Afm (Ahl aZ jI) jI pa c;have iM:(if(De S B).hasQuery=true then AY (De S B) pa c B.path else JP (AY (De S B) pa c B.path) B).path=B.path/\(if(De S B).hasQuery=true then AY (De S B) pa c B.path else JP (AY (De S B) pa c B.path) B).pathA=pa/\(if(De S B).hasQuery=true then AY (De S B) pa c B.path else JP (AY (De S B) pa c B.path) B).pathC=c:=by
   split<;>exact⟨rfl,rfl,rfl⟩
  generalize hT:(if(De S B).hasQuery=true then AY (De S B) pa c B.path else JP (AY (De S B) pa c B.path) B)=T at bV uA iM;exact Afa
 |false=>
  have hf:=H0 (aR.trans (AA AE));clear aR hv;go_upto_region 3 with(first|(go_at_call 207;refine(d.out _).mono (AH ?_))|(go_at_call 145;refine(i.out _).mono (AH ?_)));go_wp2_with(refine At hI.a ?_);refine(Xs g S B _ hI.g).mono ?_;rintro e w4⟨rfl,bV,eP⟩;have hI:=hI.chg eP bV;clear bV eP;clear x0 y2;go_upto_region 4 with(fail);refine As (R:=λwx=>BT w wx (w.heap.size) (AB B) 34 (w.heap.size+1) (Ad p) 72 (w.heap.size+2) g (De S B)) hI ?_;clear hI;intro P hI;have E:=Z.out.below hI.below (AG _);replace E:=H0 (E.below (AU _ _).drew (AG _));have hI:=hI.drew;refine rds (λw'=>w'.cell? ⟨g,0,none⟩=some (.string (De S B).scheme)/\w'.cell? ⟨w,18,none⟩=some (.slice B.pathA B.path.length B.pathC)/\w'.cell? ⟨w.heap.size+1,2,none⟩=some (.string p.rest)) hI.rel.2 λk=> ?_;refine tq 0 ?_;refine tq 1 ?_;refine tq 2 ?_;refine tq 3 ?_;refine tq 4 ?_;refine tq 5 ?_;refine tq 7 ?_;refine tq 8 ?_;refine rdk 6 λK A=> ?_;go_simp;refine(vP.out _ E).mono ?_;rintro e w4⟨v,l,rfl,Y,ho,j⟩;have M:=AjJ Y V W;obtain⟨N,rK⟩:=M;obtain⟨J,c4,rfl,I⟩:=EX.own ho;have hI:=hI.keep j;replace I:=H0 I;clear j k ho E;go_wp2_with fail;refine rdg A hI.rel.2 λk=> ?_;refine rdk 9 λK A=> ?_;go_simp;refine(Iz (De S B).scheme J l.length c4 l p.rest _ I N gJ rK).mono ?_;rintro e P⟨v,l5,rfl,L,ho,j⟩;have s:=hI.g.lt;have dI:=hI.below.size;have cY:=hI.r.lt;obtain⟨pa,c,rfl,-,-⟩:=Ec ho;have hI:=hI.keep j;replace ho:=H0 ho;clear j k;go_wp2_with fail;refine rdg A hI.rel.2 λk=> ?_;refine tq 10 ?_;refine rdy 11 ?_;refine BN hI.g 18 (AB (AY (De S B) pa c l5)) ?_;have hI:=hI.set (AY (De S B) pa c l5);refine rde hI.rel.2 λk=> ?_;refine rdn ?_;go_upto_region 15 with(fail);refine As (R:=λwx=>BT w wx (w.heap.size) (AB B) 34 (w.heap.size+1) (Ad p) 72 (w.heap.size+2) g (AY (De S B) pa c l5)/\OwnS wx w4 9 (.slice pa l5.length c) l5) ⟨hI,OwnS.row ho s _⟩ ?_;clear hI ho k;rintro U⟨hI,ho⟩;have hl2:=L.out;rw[Y.out,jI.out.path,show(De S B).scheme=S.scheme from rfl,x.out]at hl2;exact AgC
def Axv{b:AZ}(h:Bu S u)(a:Bu B b):Bu (G2 S B.host) (FQ u b.host):=
 ⟨h.scheme,h.user,h.pass,a.host,h.hasPort,h.port,h.opq,h.flat,h.path,h.hasQuery,h.query,h.hasFrag,h.frag⟩
def Dp:A9:=⟨#[102,105,108,101]⟩
def LL:Dp.toList=Av:=toList_mk _
def Axa(B:AT)(b:AZ)(p:Ev)(w:A7)(hE:CD w)(hB:Cy w B b)(bk:JZ B)(Q:Mk p):AD A8 146 #[.agg (AB B),.agg (Ad p)] w (LU (I5 b p.l) w):=by
 obtain⟨R,hR⟩:=AI (I5 b p.l);rw[hR];have m:=hR.symm;unfold I5 at m;try dsimp only at m
 replace hR:=H0 hR;have hI:=Fy.start w (AB B) 34 (Ad p) 72;have vH:=H0 hB.path;have I:=H0 hB.is;have bE:=hB.cap;have hn:=bk.n;have hz:=bk.z;have gJ:=Q.rz;have wC:=Q.qz;have hfz:=Q.fz;have tB:=H0 Q.q;have uI:=H0 Q.f;have cA:=H0 hE;clear Q hE hB bk;have aF:=H0 (λw=>S9 Dp p w A4 A4);have d:=H0 (λw=>To Dp p.rest w A4);have vP:=H0 (λw hp=>Ai5 Dp B.pathA B.path.length B.pathC B.path w hp hn bE hz);have hle:=MZ true p.rest.toList;rw[AK]at hle;rw[show Ar Dp.toList=true by rw[LL];rfl]at d;rw[LL]at vP;rw[show p.l.rest=p.rest.toList from rfl]at m;obtain⟨fr,gG⟩:=AI ((b.scheme==Av));have mV:(B.scheme.toList==[102,105,108,101])=fr:=by rw[I.out.scheme];exact gG
 rw[gG]at m;replace gG:=H0 gG;generalize hnn:C2 true p.rest.toList=n at d m hle;change Hid _ at hnn m;go_in;go_upto_region 1 with(fail);refine As (R:=λwx=>Fy w wx (AB B) 34 (Ad p) 72) hI ?_;clear hI;intro w1 hI;go_wp2_with(refine At hI.b ?_);refine(aF.out _).mono ?_;rintro e w2⟨q,f,rfl,hqv,hfv,hb⟩;have aO:=hI.keep hb;have hF:=aO.fr (Gp Dp p q f);have gE:=hF.set (G2 (Gp Dp p q f) (AW .empty));have aZ:=TE (Q1 hqv hfv tB uI) .empty;rw[LL]at aZ;go_upto_region 3 with(first|(refine Cw (AB (Gp Dp p q f)) ?_)|(refine BN hF.g 3 (AB (G2 (Gp Dp p q f) (AW .empty))) ?_));refine As (R:=λwx=>BT w wx (w.heap.size) (AB B) 34 (w.heap.size+1) (Ad p) 72 (w.heap.size+2) w2.heap.size (G2 (Gp Dp p q f) (AW .empty))) gE ?_;clear hI aO hb aF hF gE;intro w3 hI;generalize hg:w2.heap.size=g at hI⊢;obtain⟨U,hU⟩:∃U,U=G2 (Gp Dp p q f) (AW .empty):=⟨_,rfl⟩;rw[<-hU]at aZ hI;have vX:U.scheme=Dp:=by rw[hU];rfl
 replace hU:=H0 hU;clear hg;obtain⟨u,hu⟩:∃u,FQ (BZ Av p.l) .empty=u:=⟨_,rfl⟩;have hus:u.scheme=Av:=by rw[<-hu];rfl
 rw[hu]at m aZ;change Hid _ at hu hus aZ;have z0:_=some (Value.string B.scheme):=hI.a.at 0;have C:_=some (Value.string p.rest):=hI.b.at 2;have y:=(hI.g.at 0).trans (show(AB U)[0]?=some (.string Dp)by rw[<-vX];rfl);by_cases Z:2<=n
 ·have t5:2<=(n:Int):=A4;have aR:=m.out;rw[AC Z]at aR;have h2r:2<=(p.rest.size:Int):=A4;have E:(p.rest.extract 2 p.rest.size).toList=p.rest.toList.drop 2:=by rw[toList_extract,Bc Dy]
  have x:(p.rest.extract 2 p.rest.size).size<=1100000:=Bk;rw[<-E]at aR;change Hid _ at E aR;go_wp2_with(go_at_call 207;refine(d.out _).mono (AH ?_));refine(Amb g U u (p.rest.extract 2 p.rest.size) _ (hI.env cA) hI.g aZ x).mono ?_;rintro e D⟨hres,hc⟩;have aR:=aR.out;clear C y z0 m;generalize hO:Il u (p.rest.extract 2 p.rest.size).toList=O at aR hres;replace hO:=H0 hO;cases O with
  |none=>
   exact Xf
  |some u2=>
   exact Ad0
 have aR:=m.out;rw[AA Z]at aR;have t5:(n:Int)<2:=A4;cases fr with
 |true=>
  rw[AC rfl]at aR;have hV:=H0 (Axv aZ I);have aO:=hI.set (G2 U B.host);go_upto_region 11 with(first|(go_at_call 207;refine(d.out _).mono (AH ?_))|(refine wpList_load_mid BE 32 _ rfl w 3 rfl (AV B.host).toList _ hI.a.host underlying32 rfl (Tu _) ?_)|(refine MD hI.g 3 (AV B.host) (AB (G2 U B.host)) ?_));refine As (R:=λwx=>BT w wx (w.heap.size) (AB B) 34 (w.heap.size+1) (Ad p) 72 (w.heap.size+2) g (G2 U B.host)) aO ?_;clear hI aO y C z0;intro D hI;obtain⟨V,A⟩:∃V,V=G2 U B.host:=⟨_,rfl⟩;rw[<-A]at hV hI;have L:V.scheme=Dp:=by rw[A];exact vX
  replace A:=H0 A;generalize sB:FQ u b.host=v at hV aR;replace sB:=H0 sB;have y:=(hI.g.at 0).trans (show(AB (V))[0]?=some (.string Dp)by rw[<-L];rfl);have C:_=some (Value.string p.rest):=hI.b.at 2;by_cases F:n=1
  ·subst F;rw[AC rfl]at aR;have h1r:1<=(p.rest.size:Int):=A4;have E:(p.rest.extract 1 p.rest.size).toList=p.rest.toList.drop 1:=by rw[toList_extract,Bc Dy]
   have x:(p.rest.extract 1 p.rest.size).size<=1100000:=Bk;rw[<-E]at aR;generalize hre:p.rest.extract 1 p.rest.size=r at aR x;have hre2:=hre;change Hid _ at hre E;have G:=H0 (λw=>AeQ r w A4);cases hpl:B.path with
   |nil=>
    have o:B.path.length=0:=by rw[hpl];rfl
    have x18:=(hI.a.at 18).trans (show(AB B)[18]?=some (.slice B.pathA 0 B.pathC)by rw[<-o];rfl);have X:Pt b.path=false:=by rw[<-I.out.path,hpl];rfl
    rw[X]at aR;have hf:=H0 (aR.trans (congrArg some (congrArg (FN (v)) (congrArg (λl=>DE Av l r) (AA AN)))));change Hid _ at hpl aR o X;go_wp2_with(go_at_call 207;refine(d.out _).mono (AH ?_));refine(Iz Dp none 0 0 [] r _ (I2 _) OU A4 (λt h=>C5)).mono ?_;exact Wb
   |cons t0 tr=>
    have o:B.path.length=tr.length+1:=by rw[hpl];rfl
    have hlI:0<(B.path.length:Int):=A4;obtain⟨pa0,pc0,Y,j⟩:=(vH.out.below hI.below (AG _)).read;obtain⟨g0,o0,W,j⟩:=j A4;have cH:=j 0 A4;rw[Jy]at cH;have ht0:B.path[0]' A4=t0:=by simp[hpl]
    rw[ht0]at cH;have hpa:B.pathA=some ⟨g0,o0,none⟩:=by cases Y;exact W
    have x18:=(hI.a.at 18).trans (show(AB B)[18]?=some (.slice (some ⟨g0,o0,none⟩) B.path.length B.pathC)by rw[<-hpa];rfl);have hz0:t0.size<=4294967296:=hz t0 (by rw[hpl];exact CC ..);have J:=H0 (λw=>AaB t0 w hz0);have X:Pt b.path=Fo t0.toList:=by rw[<-I.out.path,hpl];rfl
    have dA:b.path.take 1=[t0].map (·.toList):=by rw[<-I.out.path,hpl];rfl
    rw[X,dA]at aR;obtain⟨P,lN⟩:=AI (Fo t0);obtain⟨H,s⟩:=AI (K0 r);rw[lN,s]at aR;rw[lN]at J;rw[s]at G;change Hid _ at lN s hpl o X dA ht0;replace j:=H0 @j;clear j Y W;by_cases k:(P&& !H)=true
    ·obtain⟨rfl,rfl⟩:P=true/\H=false:=by cases P<;>cases H<;>simp at k⊢
     have hf:=H0 (aR.trans (congrArg some (congrArg (FN (v)) (congrArg (λl=>DE Av l r) (AC rfl)))));change Hid _ at k aR;go_upto_region 16 with(first|(go_at_call 207;refine(d.out _).mono (AH ?_))|(go_at_call 209;refine(J.out _).mono (AH ?_))|(go_at_call 210;refine(G.out _).mono (AH ?_)));have M:=A6 (∀wx,AM wx D #[.string t0] 9->EX wx (some ⟨D,0,none⟩) 1 1 [t0]) (λwx h=>⟨rfl,⟨_,1,rfl,λ_=>⟨_,0,rfl,λi hi=>by
      have kG:i=0:=by simp at hi;omega
      subst kG;exact h.at 0⟩⟩,λh=>C5⟩)
     have aC:=AM.new D #[.string t0] 9;have hI:=hI.keep ((AU _ _).alloc (AG _) (.cells #[.string t0] 9));have x0':=(hI.g.at 0).trans (show(AB V)[0]?=some (.string Dp)by rw[<-L];rfl);refine As (R:=λwx=>BT w wx (w.heap.size) (AB B) 34 (w.heap.size+1) (Ad p) 72 (w.heap.size+2) g (V)/\AM wx D #[.string t0] 9) ⟨hI,aC⟩ ?_;clear hI aC y x0' C x18 cH;rintro w5⟨hI,aC⟩;have y:=(hI.g.at 0).trans (show(AB V)[0]?=some (.string Dp)by rw[<-L];rfl);go_wp2_with fail;refine(Iz Dp (some ⟨D,0,none⟩) 1 1 [t0] r _ (M.out _ aC) OU A4 (λt h=>by rw[CO.1 h];exact hz0)).mono ?_;exact Wb
    have hf:=H0 (aR.trans (congrArg some (congrArg (FN (v)) (congrArg (λl=>DE Av l r) (AA (by rw[JM];exact k))))));have bC:P=false\/(P=true/\H=true):=by cases P<;>cases H<;>simp at k⊢
    change Hid _ at k aR;rcases bC with rfl|⟨rfl,rfl⟩;all_goals
     go_wp2_with(first|(go_at_call 207;refine(d.out _).mono (AH ?_))|(go_at_call 209;refine(J.out _).mono (AH ?_))|(go_at_call 210;refine(G.out _).mono (AH ?_)));refine(Iz Dp none 0 0 [] r _ (I2 _) OU A4 (λt h=>C5)).mono ?_;rintro e w6⟨v,l5,rfl,lH,ho,hb⟩;have hg5:=hI.g.lt;have dI:=hI.below.size;have cY:=hI.r.lt;obtain⟨pa,c,rfl,-,-⟩:=Ec ho;have hI:=hI.keep hb;have aO:=hI.set (AY (V) pa c l5);have ho2:=OwnS.row ho hg5 (AB (AY (V) pa c l5));have fX:=lH.out;rw[LL]at fX;replace fX:=H0 fX;clear hb;go_wp2_with(first|(refine BN hI.g 18 (AB (AY (V) pa c l5)) ?_)|(refine At aO.g ?_)|(refine Ax aO.r (AB (AY (V) pa c l5)) ?_));refine Hp rfl rfl rfl (aO.r.set _) (Bj _) ?_;exact aO.fin ⟨⟨Iu hV (fX),ho2⟩,cY,dI⟩ hf
  obtain rfl:n=0:=A4;rw[AA AE]at aR;generalize hre:p.rest.toList.isEmpty=re at aR;cases re with
  |true=>
   have hf:=H0 (aR.trans (AC rfl));clear aR m;go_upto_region 18 with(go_at_call 207;refine(d.out _).mono (AH ?_));clear y C;have hg5:=hI.g.lt;have dI:=hI.below.size;have cY:=hI.r.lt;go_wp2_with(refine At hI.a ?_);refine(AbB g (V) B _ hI.g (vH.out.below hI.below (AG _)) A4).mono ?_;rintro e w6⟨pa,c,rfl,bV,ho,eP⟩;have uA:=Afm hV I pa c;have iM:(if(V:AT).hasQuery=true then AY (V) pa c B.path else JP (AY (V) pa c B.path) B).path=B.path/\(if(V:AT).hasQuery=true then AY (V) pa c B.path else JP (AY (V) pa c B.path) B).pathA=pa/\(if(V:AT).hasQuery=true then AY (V) pa c B.path else JP (AY (V) pa c B.path) B).pathC=c:=by
    split<;>exact⟨rfl,rfl,rfl⟩
   generalize hT:(if(V:AT).hasQuery=true then AY (V) pa c B.path else JP (AY (V) pa c B.path) B)=T at bV uA iM;exact Afa
  |false=>
   have S:=aR.trans (AA AE);clear aR;have G:=H0 (λw=>AeQ p.rest w A4);generalize s:K0 p.rest.toList=H at S G;replace s:=H0 s;cases H with
   |false=>
    have hf:=H0 (S.trans (AC rfl));clear S m;go_upto_region 20 with(first|(go_at_call 207;refine(d.out _).mono (AH ?_))|(go_at_call 210;refine(G.out _).mono (AH ?_)));clear y C;refine As (R:=λwx=>BT w wx (w.heap.size) (AB B) 34 (w.heap.size+1) (Ad p) 72 (w.heap.size+2) g (V)) hI ?_;clear hI;intro w5 hI;have M:=vH.out.below hI.below (AG _);replace M:=H0 (M.below (AU _ _).drew (AG _));have hI:=hI.drew;refine rds (λw'=>w'.cell? ⟨g,0,none⟩=some (.string (V).scheme)/\w'.cell? ⟨w,18,none⟩=some (.slice B.pathA B.path.length B.pathC)/\w'.cell? ⟨w.heap.size+1,2,none⟩=some (.string p.rest)) hI.rel.2 λN=> ?_;refine tq 0 ?_;refine tq 1 ?_;refine tq 2 ?_;refine tq 3 ?_;refine tq 4 ?_;refine tq 5 ?_;refine tq 7 ?_;refine tq 8 ?_;refine rdk 6 λK hK=> ?_;go_simp;refine(vP.out _ M).mono ?_;rintro e D⟨v,l,rfl,hl,ho,hb⟩;have hll:=AjJ hl hn hz;obtain⟨hn4,rK⟩:=hll;obtain⟨pa4,c4,rfl,yG⟩:=EX.own ho;have hI:=hI.keep hb;replace yG:=H0 yG;clear hb N ho M;go_wp2_with fail;refine rdg hK hI.rel.2 λN=> ?_;refine rdk 9 λK hK=> ?_;go_simp;refine(Iz Dp pa4 l.length c4 l p.rest _ yG hn4 gJ rK).mono ?_;rintro e w5⟨v,l5,rfl,lH,ho,hb⟩;have hg5:=hI.g.lt;have dI:=hI.below.size;have cY:=hI.r.lt;obtain⟨pa,c,rfl,-,-⟩:=Ec ho;have hI:=hI.keep hb;replace ho:=H0 ho;clear hb N;go_wp2_with fail;refine rdg hK hI.rel.2 λN=> ?_;refine tq 10 ?_;refine rdy 11 ?_;refine BN hI.g 18 (AB (AY (V) pa c l5)) ?_;have hI:=hI.set (AY (V) pa c l5);refine rde hI.rel.2 λN=> ?_;refine rdn ?_;go_upto_region 21 with(fail);refine As (R:=λwx=>BT w wx (w.heap.size) (AB B) 34 (w.heap.size+1) (Ad p) 72 (w.heap.size+2) g (AY (V) pa c l5)/\OwnS wx D 9 (.slice pa l5.length c) l5) ⟨hI,OwnS.row ho hg5 _⟩ ?_;clear hI ho N;rintro w6⟨hI,ho⟩;have hl2:=lH.out;rw[hl.out,I.out.path,LL]at hl2;go_wp2_with(first|(refine At hI.g ?_)|(refine Ax hI.r (AB (AY (V) pa c l5)) ?_));refine Hp rfl rfl rfl (hI.r.set _) (Bj _) ?_;exact hI.fin ⟨⟨Iu hV hl2,ho⟩,cY,dI⟩ hf
   |true=>
    have hf:=H0 (S.trans (AA AE));clear S m;go_wp2_with(first|(go_at_call 207;refine(d.out _).mono (AH ?_))|(go_at_call 210;refine(G.out _).mono (AH ?_)));refine(Iz Dp none 0 0 [] p.rest _ (I2 _) OU gJ (λt h=>C5)).mono ?_;exact Wb
 |false=>
  rw[show(if false=true then FQ u b.host else u)=u from AA AE]at aR;go_upto_region 11 with(go_at_call 207;refine(d.out _).mono (AH ?_));clear y C z0;have y:=(hI.g.at 0).trans (show(AB (U))[0]?=some (.string Dp)by rw[<-vX];rfl);have C:_=some (Value.string p.rest):=hI.b.at 2;by_cases F:n=1
  ·subst F;rw[AC rfl]at aR;have h1r:1<=(p.rest.size:Int):=A4;have E:(p.rest.extract 1 p.rest.size).toList=p.rest.toList.drop 1:=by rw[toList_extract,Bc Dy]
   have x:(p.rest.extract 1 p.rest.size).size<=1100000:=Bk;rw[<-E]at aR;generalize hre:p.rest.extract 1 p.rest.size=r at aR x;have hre2:=hre;change Hid _ at hre E;have hf:=H0 (aR.trans (congrArg some (congrArg (FN (u)) (congrArg (λl=>DE Av l r) (AA AN)))));replace aR:=H0 aR;go_wp2_with(go_at_call 207;refine(d.out _).mono (AH ?_));refine(Iz Dp none 0 0 [] r _ (I2 _) OU A4 (λt h=>C5)).mono ?_;exact AbY
  obtain rfl:n=0:=A4;rw[AA AE]at aR;have hf:=H0 (aR.trans ((AA AN).trans (AA AN)));clear aR m;go_wp2_with(go_at_call 207;refine(d.out _).mono (AH ?_));refine(Iz Dp none 0 0 [] p.rest _ (I2 _) OU gJ (λt h=>C5)).mono ?_;exact AbY
end Go.Proofs.YtonomfeipkdmhaaGreatDoor
