/- Lemmas. -/
import Derived.Test.YtonomfeipkdmhaaGreatDoorZm07
import Derived.Test.YtonomfeipkdmhaaGreatDoorZm08
import Derived.Test.YtonomfeipkdmhaaGreatDoorZm09
import Derived.Test.YtonomfeipkdmhaaGreatDoorZm10
set_option linter.all false
set_option maxRecDepth 100000
set_option maxHeartbeats 16000000
namespace Go.Proofs.YtonomfeipkdmhaaGreatDoor
open Go renaming wpList->Aq,Program->Dj,maxLen->BK,Operand->CV,World->A7,Calls->AD,Value->AJ,TypeId->Ab,Ending->Ag
open Go.RowKit renaming Below->AF
open Go.RowKit Go.Proofs.Tryz
open Go.Proofs.Tryz renaming prog->A8
def Ta(o:Option (A5))(w:A7)(e:Ag)(w':A7):Prop:=∃t:A9,e=.returned (.tuple #[.string t,.bool o.isSome])/\Hid (∀x,o=some x->t.toList=x)/\AF w w w'
variable{w w':A7}{t:A9}
def Kf{o:Option (A5)}(h:o=none)(a:AF w w w'):Ta o w (.returned (.tuple #[.string t,.bool false])) w':=by
 subst h;exact⟨t,rfl,H0 (λx hx=>by cases hx),a⟩
def Oj{o:Option (A5)}{l:A5}(h:o=some l)(a:t.toList=l)(b:AF w w w'):Ta o w (.returned (.tuple #[.string t,.bool true])) w':=by
 subst h;exact⟨t,rfl,H0 (λx hx=>by cases hx;exact a),b⟩
def UF:∀(f:Nat)(s:A5)(st:EN)(m:List Nat),st.l.length<=255->E5 f s st=some m->m.length<=255
 |0,_,_,_,_,h=>(nomatch h)
 |f+1,s,st,m,hl,h=>by
  rw[E5]at h;split at h
  ·simp_all
  split at h
  ·cases h
  split at h
  ·cases h
  rename_i d n _ _ st' hs;have h1:=Aoc hs;have a:st.l.length≠255:=by
   intro e;unfold Hz at hs;rw[e]at hs;cases hs
  exact UF f _ st' m A4 h
variable{s:A5}
def Ajj{m:List Nat}(h:GZ s=some m):m.length<=255:=by
 unfold GZ at h;split at h
 ·split at h
  ·exact UF _ _ _ _ (AR _) h
  split at h
  ·cases h
  rename_i hl;split at h
  ·refine UF _ _ _ _ ?_ h;show(List.map _ _).length<=255;rw[Bz];omega
  ·cases h
 exact UF _ _ _ _ (AR _) h
def Av0(s:A9)(w:A7):AD A8 218 #[.string s,.string ⟨#[120,110,45,45]⟩] w λe w'=>∃r:A9,e=.returned (.tuple #[.string r,.bool (Lib.hasPrefix s FP)])/\r.size<=s.size/\Hid (Lib.hasPrefix s FP=true->r.toList=s.toList.drop 4)/\w=w':=by
 go_call Tryz.strings_CutPrefix;refine AH ?_;have a:(ByteArray.mk #[120,110,45,45]).data.toList=FP:=rfl;rw[(BQ ..).symm,a];have hl:(Lib.trimPrefix s FP).length<=s.size:=by
  exact Z0
 exact Wf
def As8(s:A9)(w:A7)(T:s.size<=100000000)(hu:L6 w):AD A8 340 #[.string s] w (Ta (CG s) w):=by
 obtain⟨R,u⟩:=AI (CG s);rw[u];have hv:=u.symm;unfold CG at hv;replace u:=H0 u;have g:=H0 (λw=>Ayz s w A4);have p:=H0 (Av0 s);have I:=H0 (λw hu=>AkU s w T hu);have O:=H0 (Tj s);obtain⟨P,K⟩:=AI (Lib.hasPrefix s FP);obtain⟨L,N⟩:=AI (EA s);rw[K]at hv p;rw[N]at hv g;change Hid _ at K N;cases P with
 |true=>
  rw[AC rfl]at hv;cases L with
  |false=>
   rw[AA AE]at hv;replace hv:=H0 hv;go_in;go_wp2_with fail;go_call(g.out _) as e k⟨rfl,rfl⟩;go_wp2_with fail;go_call(p.out _) as e k⟨r,rfl,C,y,rfl⟩;go_wp2;go_ret2;exact Kf hv (AU _ _)
  |true=>
   rw[AC rfl]at hv;replace hv:=H0 hv;go_in;go_wp2_with fail;refine(g.out _).mono (AH ?_);go_wp2_with fail;refine(p.out _).mono ?_;rintro e k⟨r,rfl,C,y,rfl⟩;have H:=y.out AN;have q:=H0 (λw=>Aof r w A4);have f:=hv.out;rw[<-H]at f;replace H:=H0 H;cases l:GZ r with
   |none=>
    rw[l]at q f;change Hid _ at l f;go_wp2_with fail;go_call(q.out _) as e x⟨rfl,a⟩;go_wp2;go_ret2;exact Kf f a
   |some m=>
    have A:=Ajd l;have W:=Ajj l;rw[l]at q f;dsimp only at f;replace l:=H0 l;generalize n:Hg m=B at f;replace f:=H0 f;go_wp2_with fail;go_call(q.out _) as e x⟨v,rfl,F,a⟩;obtain⟨pa,c,rfl,z⟩:=F.read;have d:=H0 (AgF pa m.length c m x z A4 A);rw[n]at d;go_wp2_with fail;refine d.out.mono ?_;rintro e J⟨rfl,i⟩;have E:=a.size;have b:=a.trans (i.mono E);cases B
    ·have h:=A6 (R=none) (by rw[f.out];rfl);go_wp21;go_ret2;exact Kf h b
    have h:=A6 (R=some s) (by rw[f.out];rfl);go_wp21;go_ret2;exact Oj h rfl b
 |false=>
  rw[AA AE]at hv;cases L with
  |true=>
   rw[AC rfl]at hv;replace hv:=H0 hv;go_in;go_wp2_with fail;go_call(g.out _) as e k⟨rfl,rfl⟩;go_wp2_with fail;go_call(p.out _) as e k⟨r,rfl,C,y,rfl⟩;go_wp21;go_ret2;exact Oj hv rfl (AU _ _)
  |false=>
   rw[AA AE]at hv;have j:=PS s;rw[AK]at j;generalize M:EY s.toList=m at hv I O j;replace M:=H0 M;generalize n:Hg m=B at hv;replace hv:=H0 hv;go_in;go_wp2_with fail;refine(g.out _).mono (AH ?_);go_wp2_with fail;refine(p.out _).mono ?_;rintro e k⟨r,rfl,C,y,rfl⟩;go_wp2_with fail;refine(I.out _ hu).mono ?_;rintro e x⟨v,rfl,F,a⟩;obtain⟨pa,c,rfl,z⟩:=F.read;have d:=H0 (AgF pa m.length c m x z A4 O);rw[n]at d;replace n:=H0 n;have E:=a.size;go_wp2_with fail;refine d.out.mono ?_;rintro e J⟨rfl,i⟩;have b:=a.trans (i.mono E);cases B
   ·have h:=A6 (R=none) JQ;go_wp21;go_ret2;exact Kf h b
   have h:=A6 (R=match GX m with|some t=>some (FP++t)|none=>none) JQ;have U:=H0 (AnN pa m.length c m J (z.below i (AG _)) A4);have S:=b.size;go_wp2_with fail;refine U.out.mono ?_;rintro e V⟨t,rfl,ht,G⟩;have o:=b.trans (G.mono S);cases ho2:GX m with
   |none=>
    rw[ho2]at h ht;have D:t.size<=20656:=by rw[<-AK,ht.out];decide
    go_wp2;go_ret2;exact Kf h o
   |some t0=>
    have Q:=UR ho2;rw[ho2]at h ht;have D:t.size<=20656:=by rw[<-AK,ht.out];exact Q
    go_wp2;go_ret2;exact Oj h Af8 o
def AsB(r:Int):(Utf8.encode r).data.toList.length<=4:=by
 unfold Utf8.encode;dsimp only;repeat' split
 all_goals simp
def AiB(c:Nat):(An c).length<=4:=by
 unfold An;by_cases h:0x10ffff<c\/(0xd800<=c/\c<=0xdfff)
 ·rw[AC h];unfold Dc;simp
 rw[AA h];unfold Jj;exact AsB _
def Ao7(c:Nat):(Gv c).length<=4:=by
 unfold Gv;repeat' split
 all_goals first|exact AiB _|(simp;done)
def YJ(c:Nat):(DY c).1.length<=4:=by
 unfold DY;split
 ·exact Ao7 c
 split
 ·simp
 split
 ·exact AiB c
 simp
def Rh:∀{l:List Nat}{q:A5},EI l=some q->q.length<=4*l.length
 |[],q,h=>by cases h;exact AG _
 |x::r,q,h=>by
  unfold EI at h;split at h
  ·cases h
  rw[H1]at h;obtain⟨b,a,rfl⟩:=h;have:=Rh a;have:=YJ x;exact WQ
variable{B:Nat}{v:AJ}
def C4.readC{b:Nat}{l:List Nat}(h:C4 w B v l)(m:b<B):∃pa c,v=.slice pa l.length c/\∀w',Aj (Gy b w) w w'->Fc w' pa l.length c l:=by
 have j:∀w',Aj (Gy b w) w w'->C4 w' B v l:=by
  intro w' hc;refine⟨h.1,?_⟩;rcases h.2 with n|⟨g,f,d,rfl,k,i,rest⟩
  ·simp_all
  have a:=(En.1 i).1;exact .inr ⟨g,f,d,rfl,k,by rw[hc.block g a (by unfold Gy;omega)];exact i,rest⟩
 obtain⟨pa,c,rfl,_⟩:=h.read;refine⟨pa,c,rfl,λw' hc=> ?_⟩;have⟨pa',c',e,hr⟩:=(j w' hc).read;cases e;exact hr
def Apl(s:A9)(w:A7)(h:DW w)(a:s.size<4294967281):AD A8 339 #[.string s,.string ⟨#[46]⟩] w λe w'=>∃l:List A9,e=.returned (.slice (some ⟨w,0,none⟩) l.length l.length)/\Hid (l.map (·.toList)=Al 46 s.toList)/\w'=w.alloc (.cells (l.map Value.string).toArray 9):=by
 have⟨m,hm⟩:=h;go_call Tryz.strings_Split;refine AH ?_;refine⟨Lib.splitB ⟨#[46]⟩ 0 (Lib.countB s ⟨#[46]⟩) s,by rw[Lib.splitB_all _ (AG _) 0 _ _ rfl],H0 ?_,rfl⟩;rw[(funext λt=>BQ ..),Lib.splitB_data ⟨#[46]⟩ 0 (Lib.countB s ⟨#[46]⟩) s,BQ,<-AeG];rfl
def AmH(q r:List (A5))(x y:A5):(q++x::r).set q.length y=(q++[y])++r:=by simp_all
def Zo(l:List A9)(i:Nat)(h:i<l.length):(l.map Value.string).toArray[i]?=some (.string l[i]):=AN
def AyE(l:List A9)(i:Nat)(t:A9):(l.map Value.string).toArray.setIfInBounds i (.string t)=((l.set i t).map Value.string).toArray:=by simp_all
def AoW{b:List (A5)}{x:A5}(h:x∈b):x.length<=Hm b:=by
 induction b with
 |nil=>cases h
 |cons a r ih=>
  unfold Hm at ih⊢;rw[FR,List.sum_cons];exact Zl
def As1(s:A9)(w:A7)(hz:s.size<=8000000)(hE:CD w):AD A8 327 #[.string s] w (KL (FL s) w):=by
 obtain⟨R,hR⟩:=AI (FL s);rw[hR];have hv:=hR.symm;unfold FL at hv;replace hR:=H0 hR;have cB:=H0 (λw hu=>AkU s w A4 hu);have iW:=H0 (Tj s);have y:=PS s;rw[AK]at y;generalize hm:EY s.toList=m at hv cB iW y;change Hid _ at hm hv;have cA:=H0 hE;clear hE;go_in;go_wp2_with fail;have aQ:=Ah w (.cells #[.pointer none,.slice none 0 0] 76);refine(cB.out _ (cA.out.next aQ).utf).mono ?_;rintro e T⟨v,rfl,ho,N⟩;have zB:Ei T T w []:=(Ei.fresh w T).keep N;obtain⟨pa,c,rfl,aH⟩:=ho.readC (b:=w.heap.size) AN;have H:AF w w T:=aQ.trans (N.mono AN);generalize hn:m.length=n at aH y⊢;change Hid _ at aH hn;clear ho N aQ;have P:=H.size;generalize hC:T.heap.size=C at aH zB P;replace hC:=H0 hC;go_wp2_with fail;go_loopw[17] (λL wr=>∃(k:Nat)(q:A5),L=.int .i64 (k:Int)/\k<=n/\Hid (EI (m.take k)=some q)/\Ei wr C w q/\Aj (Gy w C) T wr) (λL _=>n-(intOf L).toNat)
 ·exact⟨0,[],rfl,AR _,H0 rfl,zB,Aj.refl _ _⟩
 clear zB;obtain⟨k,q,rfl,hk,hq,cD,eP⟩:=hrel;have tE:=eP.size;have jW:=Rh hq;rw[Cl]at jW;have h:AF w w wr:=H.trans (eP.below (by rw[hC.out];exact P) (λk hk=>by unfold Gy at hk;omega));by_cases hlt:k<n
 ·obtain⟨g,o,rfl,hc⟩:=(aH.out wr eP).cells A4;have Q:k<m.length:=by rw[hn.out];exact hlt
  have ck:=hc k Q;unfold Cd at ck;have u:=AaN (m.take k) m[k];rw[<-Fe Q,hq.out]at u;dsimp only at u;have j3:=iW.out _ (CI Q);have dO:=A6 (EI (m.take (k+1))=none->EI m=none) (λe=>by
   have:=AlK (b:=m.drop (k+1)) e;rwa[F7]at this)
  generalize hx:m[k]=x at ck u j3;change Hid _ at hx hc;have kB:=H0 (λw=>Afu x w j3);have m3:=YJ x;generalize hmm:DY x=mm at kB u m3;replace hmm:=H0 hmm;obtain⟨ml,mn⟩:=mm;dsimp only at u m3;by_cases h0:mn=0
  ·rw[AC h0]at u;have hf:=A6 (R=none) (by rw[hv.out,dO.out u]);subst h0;replace u:=H0 u;go_wp2_with fail;refine(kB.out _).mono ?_;rintro e z⟨t,rfl,F,f⟩;go_wp2_with fail;go_ret2;exact Lp hf (h.trans (f.mono h.size))
  have nW:((mn:Int)==0)=false:=DV;rw[AA h0]at u;change Hid _ at u h0;go_wp2_with fail;refine(kB.out _).mono ?_;rintro e z⟨t,rfl,F,f⟩;have htz:t.size<=4:=by rw[<-AK,F.out];exact m3
  have X:=cD.keep f;have dE:=f.size;have oF:C<=z.heap.size:=by have:=hC.out;omega
  have hw:=H0 (AxX C w q t z X A4 A4 oF);go_wp2_with fail;refine hw.out.mono ?_;rintro e w3⟨rfl,hbl3,oG⟩;have hch4:=(eP.trans (Aj.of f)).trans oG;have yT:=A6 (EI (m.take (k+1))=some (q++t.toList)) (by rw[u.out,F.out]);go_wp2_with fail;go_roundw;exact⟨k+1,q++t.toList,AP,A4,yT,hbl3,hch4⟩;exact AzF
 have dA:m.take k=m:=Bc (by rw[hn.out];omega);rw[dA]at hq;have aI:=A6 (R=(Cc (Al 46 q)).map F8) (by rw[hv.out,hq.out]);have Y:=H0 (Ml w w q wr (cD.to (AG _) P) h.size);clear aH cD eP tE;have jK:=Aa3 q;generalize J:Al 46 q=ls at aI jK;replace J:=H0 J;have hq96:q.length<=96000000:=A4;replace jW:=H0 jW;go_wp2_with fail;refine Y.out.mono ?_;rintro e z⟨I,rfl,d6,f⟩;have aE:=h.trans f;have htz:I.size<=96000000:=by rw[<-AK,d6.out];exact hq96
 have hsr:=H0 (Apl I z (cA.out.next aE).ml A4);go_wp2_with fail;refine hsr.out.mono ?_;rintro e w3⟨l,rfl,hl,rfl⟩;have S:l.map (·.toList)=ls:=by rw[hl.out,d6.out];exact J
 have i:ls.length=l.length:=by rw[<-S,Bz]
 obtain⟨V,tK⟩:=AI (l.length);rw[tK]at i;rw[tK];have hn2z:V<=96000001:=A4;have K:=aE.size;have B:=A6 ((z.alloc (.cells (l.map Value.string).toArray 9)).heap[z.heap.size]?=some (.cells (l.map Value.string).toArray 9 (0,0))) (CB z _);have D:AF w w (z.alloc (.cells (l.map Value.string).toArray 9)):=aE.alloc K _;obtain⟨G,hG⟩:=AI (z.heap.size);rw[hG]at B K⊢;replace hG:=H0 hG;generalize(z.alloc (.cells (l.map Value.string).toArray 9))=w3 at B D⊢;change Hid _ at S i jK;clear Y hsr f hl;go_wp2_with fail;go_loopw[35] (λO wr=>∃(k:Nat)(a:List A9)(A:List (A5)),O=.int .i64 (k:Int)/\k<=V/\a.length=V/\Hid (Cc (ls.take k)=some A)/\Hid (a.map (·.toList)=A++ls.drop k)/\Hid (wr.heap[G]?=some (.cells (a.map Value.string).toArray 9 (0,0)))/\AF w w wr) (λO _=>V-(intOf O).toNat)
 ·exact⟨0,l,[],rfl,AR _,tK,H0 rfl,H0 (by rw[S.out];rfl),B,D⟩
 clear B D tK;obtain⟨k,a,A,rfl,hk,bR,M,eU,B,D⟩:=hrel;have xZ:=D.size;by_cases hlt2:k<V
 ·have zN:k<a.length:=A4;have wZ:k<ls.length:=by rw[i.out];exact hlt2
  have uU:A.length=k:=by
   have:=(XB M).1;exact OK
  have Z:ls.drop k=ls[k]::ls.drop (k+1):=Fr wZ;have r:a[k].toList=ls[k]:=by
   have h1:(a.map (·.toList))[k]?=some a[k].toList:=by rw[GF,Cs zN];rfl
   rw[eU.out,UM A4,uU,Nat.sub_self,Z]at h1;rw[Ho]at h1;exact(Cm h1).symm
  have cc:wr.cell? ⟨G,k,none⟩=some (.string a[k]):=by rw[BV _ _ k _ _ _ B.out];exact Zo a k zN
  have gN:a[k].size<=96000000:=by
   rw[<-AK,r];have:=AoW (CI wZ);have:=jK.out.1;omega
  have d:=Aac (ls.take k) ls[k];rw[<-Fe wZ,M.out]at d;dsimp only at d;have dO:=A6 (Cc (ls.take (k+1))=none->Cc ls=none) (λe=>by
   have:=AvH (b:=ls.drop (k+1)) e;rwa[F7]at this)
  obtain⟨t,F⟩:=AI (a[k]);rw[F]at r cc gN;replace F:=H0 F;rw[<-r]at d;rw[<-r]at Z;replace r:=H0 r;have dZ:=H0 (As8 t wr A4 (cA.out.next D).utf);have hGlt:G<wr.heap.size:=EZ B;cases j4:CG t with
  |none=>
   rw[j4]at dZ d;have hf:=A6 (R=none) (by rw[aI.out,dO.out d];rfl);change Hid _ at d j4 Z uU;go_wp2_with fail;refine dZ.out.mono ?_;rintro e W⟨U,rfl,ht2,E⟩;go_wp2_with fail;go_ret2;exact Lp hf (D.trans (E.mono xZ))
  |some x=>
   rw[j4]at dZ d;replace j4:=H0 j4;replace d:=A6 (Cc (ls.take (k+1))=some (A++[x])) d;go_wp2_with fail;refine dZ.out.mono ?_;rintro e W⟨U,rfl,ht2,E⟩;have mP:=A6 (W.heap[G]?=some (.cells (a.map Value.string).toArray 9 (0,0))) (by rw[E.block G hGlt];exact B);have cc5:W.cell? ⟨G,k,none⟩=some (.string t):=by rw[BV _ _ k _ _ _ mP.out];rw[<-F.out];exact Zo a k zN
   have fr5:W.frozen? ⟨G,k,none⟩=false:=Lib.frozen_of_heap mP k;have aC:=A6 ((a.set k U).map (·.toList)=(A++[x])++ls.drop (k+1)) (by
    rw[List.map_set,eU.out,Z,<-uU,AmH,ht2.out x rfl])
   have hhp6:=A6 ((W.setCell ⟨G,k,none⟩ (.string U)).heap[G]?=some (.cells ((a.set k U).map Value.string).toArray 9 (0,0))) (by rw[Ee mP.out,AyE]);have iX:AF w w (W.setCell ⟨G,k,none⟩ (.string U)):=(D.trans (E.mono xZ)).setCell (p:=⟨G,k,none⟩) K _;change Hid _ at Z uU;go_wp2_with fail;go_roundw;exact⟨k+1,a.set k U,A++[x],AP,A4,by rw[List.length_set];exact bR,d,aC,hhp6,iX⟩;exact AzF
 have mY:ls.take k=ls:=Bc (by rw[i.out];omega);have rD:ls.drop k=[]:=Cj (by rw[i.out];omega);have oV:=M.out;rw[mY]at oV;have gW:=eU.out;rw[rD,Bq]at gW;have hf:=A6 (R=some (F8 A)) (by rw[aI.out,oV];rfl);have fC:=XB oV;have hjl:=UP A;have hsp:=jK.out;rw[i.out]at fC;have hjb:(F8 A).length<=140737488355328:=A4;have uG:a.map (·.data.toList)=A:=by
  rw[<-gW];exact List.map_congr_left λt _=>(BQ ..).symm
 have lO:=Tryz.strings_Join G 0 V a ⟨#[46]⟩ wr (λj x hx=>by
  rw[Db,BV _ _ j _ _ _ B.out];rw[Hk]at hx;obtain⟨h1,rfl⟩:=hx;exact Zo a j h1) (EZ B) A4 A4 (by rw[uG,show(ByteArray.mk #[46]).data.toList=[46]from rfl,WP];exact hjb)
 rw[uG,show(ByteArray.mk #[46]).data.toList=[46]from rfl,WP,bR]at lO;replace lO:=H0 lO;replace hjl:=H0 hjl;replace fC:=H0 fC;replace uG:=H0 uG;replace gW:=H0 gW;replace oV:=H0 oV;replace hsp:=H0 hsp;replace mY:=H0 mY;replace rD:=H0 rD;go_wp2_with fail;refine lO.out.mono ?_;rintro e w6⟨rfl,hb6⟩;go_wp2_with fail;go_ret2;exact UC hf (toList_mk _) (D.trans (hb6.mono xZ))
def Ak4{l:List Nat}(h:l.length=8):∃a b c d e f g i,l=[a,b,c,d,e,f,g,i]:=by
 match l,h with
 |[a,b,c,d,e,f,g,i],_=>exact⟨a,b,c,d,e,f,g,i,rfl⟩
def Aui(s:A9)(w:A7)(a:s.size<=1100000):AD A8 219 #[.string s,.string ⟨#[93]⟩] w λe w'=>∃r:A9,e=.returned (.tuple #[.string r,.bool (Lib.hasSuffix s [93])])/\r.size<=s.size/\Hid (Lib.hasSuffix s [93]=true->r.toList=s.toList.dropLast)/\w=w':=by
 go_call Tryz.strings_CutSuffix;refine AH ?_;have b:(ByteArray.mk #[93]).data.toList=[93]:=rfl;rw[(BQ ..).symm];have hl:(Lib.trimSuffix s [93]).length<=s.size:=by
  exact AdP
 exact AcF
def z8:List Nat:=[0,0,0,0,0,0,0,0]
def Kx{o:Option Cb}(h:o=none)(a:AF w w w'):Kc o w (.returned (.tuple #[.agg (AV (AW .none)),.bool false])) w':=by subst h;exact⟨rfl,a⟩
def Np{o:Option Cb}{h:Cb}(e:o=some h)(a:AF w w w'):Kc o w (.returned (.tuple #[.agg (AV (AW h)),.bool true])) w':=by subst e;exact⟨rfl,a⟩
def Au9(s:A9)(w:A7)(u:DW w)(G:s.size<=1100000):AD A8 303 #[.string s] w (Kc (Ja s) w):=by
 obtain⟨R,q⟩:=AI (Ja s);rw[q];have d:=q.symm;unfold Ja at d;replace q:=H0 q;have i:=H0 (λw=>Aui s w G);generalize B:Lib.hasSuffix s [93]=P at d i;replace B:=H0 B;cases P with
 |false=>
  have d:=H0 (d.trans (AA AE));go_in;go_wp21;go_call(i.out _) as e F⟨r,rfl,E,D,rfl⟩;go_wp2_with(refine Ax (CB w _) (AV (AW .none)) ?_);refine Gs rfl rfl rfl rfl (GW (CB w _)) ?_;exact Kx d (Au (Ah _ _) (AG _) _)
 |true=>
  rw[AC rfl]at d;replace d:=H0 d;have C:=H0 (λ(r:A9)w(u:DW w)(h:r.size<=1100000)=>Awg r w u h);go_in;go_wp2_with fail;refine(i.out _).mono ?_;rintro e F⟨r,rfl,E,D,rfl⟩;have y:=D.out AN;have t:=d.out;rw[<-y]at t;replace y:=H0 y;have k:=Ah w (.cells (AV (AW .none)) 32);have g:(w.alloc (.cells (AV (AW .none)) 32)).heap[w.heap.size]?=some (.cells (AV (AW .none)) 32 (0,0)):=CB w _;generalize j:w.alloc (.cells (AV (AW .none)) 32)=w0 at k g;have A:=PM j;rw[A];clear A;replace j:=H0 j;have o:=k.size;have z:=EZ g;have p:=H0 (C.out r w0 (u.next k) A4);clear C;cases ho:Ca r with
  |none=>
   have hf:=A6 (R=none) AS;have f:=p.out;rw[ho]at f;replace f:=H0 f;clear p;change Hid _ at t ho;go_wp2_with fail;refine f.out.mono ?_;rintro e x⟨rfl,b⟩;have n:=(b.block _ z).trans g;have aE:=k.trans (b.mono o);have dE:=aE.size;have a:=EZ n;replace g:=H0 g;have kI:∀c T,(x.alloc (.cells c T)).heap[w.heap.size]?=some (.cells (AV (AW .none)) 32 (0,0)):=λc T=>Uz a n;replace kI:=H0 kI;exact AlX
  |some l=>
   have hf:=A6 (R=some (.six l)) AS;have m:=AaJ ho;have f:=p.out;rw[ho]at f;clear p;obtain⟨a0,a1,a2,a3,a4,a5,a6,a7,rfl⟩:=Ak4 m.len;change Hid _ at m t ho;have v:AD A8 326 #[.string r] w0 λe w'=>e=.returned (.tuple #[.agg #[.int .u16 (a0:Int),.int .u16 (a1:Int),.int .u16 (a2:Int),.int .u16 (a3:Int),.int .u16 (a4:Int),.int .u16 (a5:Int),.int .u16 (a6:Int),.int .u16 (a7:Int)],.bool true])/\AF w0 w0 w':=
    f.mono λe w' h=>⟨h.1,h.2⟩
   replace v:=H0 v;clear f;go_wp2_with fail;refine v.out.mono ?_;rintro e x⟨rfl,b⟩;have n:=(b.block _ z).trans g;have aE:=k.trans (b.mono o);have dE:=aE.size;have a:=EZ n;replace g:=H0 g;have kI:∀c T,(x.alloc (.cells c T)).heap[w.heap.size]?=some (.cells (AV (AW .none)) 32 (0,0)):=λc T=>Uz a n;replace kI:=H0 kI;exact Akl
def AhP{n:A5}(h:FL s=some n):n.length<=2988*s.length+1:=by
 unfold FL at h;split at h
 ·cases h
 rename_i t ht;rw[H1]at h;obtain⟨q,a,rfl⟩:=h;have h1:=Rh ht;have e:=PS s;have c:=AbP a;have d:=Aa3 t;have b:=UP q;omega
def AfK(c:UInt8):(Cx c=true/\FK c=true)\/(Cx c=false/\(c:Int)<32/\FK c=true)\/(Cx c=false/\32<=(c:Int)/\((c:Int)==37)=true/\FK c=true)\/(Cx c=false/\32<=(c:Int)/\((c:Int)==37)=false/\((c:Int)==127)=true/\FK c=true)\/(Cx c=false/\32<=(c:Int)/\((c:Int)==37)=false/\((c:Int)==127)=false/\FK c=false):=by
 have d:decide (c<32)=decide (c.toNat<32):=decide_eq_decide.2 BE;have f:(c==37)=((c:Int)==37):=by
  by_cases h:c=37
  ·simp_all
  rw[B6.2 h,Eq.comm,B6];intro e;exact h (CM.1 (by have:(37:UInt8).toNat=37:=rfl;omega))
 have a:(c==127)=((c:Int)==127):=by
  by_cases h:c=127
  ·simp_all
  rw[B6.2 h,Eq.comm,B6];intro e;exact h (CM.1 (by have:(127:UInt8).toNat=127:=rfl;omega))
 have g:FK c=(Cx c||decide (c.toNat<32)||((c:Int)==37)||((c:Int)==127)):=by unfold FK;rw[d,f,a]
 rw[g];generalize Cx c=b;generalize hb3:((c:Int)==127)=b3;generalize hb2:((c:Int)==37)=b2;by_cases h:c.toNat<32
 ·rw[Bx h];cases b
  ·grind
  simp
 rw[BO h];have i:32<=(c:Int):=A4;cases b
 ·cases b2
  ·cases b3
   ·grind
   grind
  grind
 simp
def AdF{n:A5}(h:t.toList=n):AW (.name n)=⟨2,t,0,z8⟩:=by rw[U6 h];rfl
def Azo(s:A9)(w:A7)(g:CD w)(hz:s.size<=1100000):AD A8 304 #[.string s] w (Kc (J9 s) w):=by
 obtain⟨R,I⟩:=AI (J9 s);rw[I];have o:=I.symm;unfold J9 at o;replace I:=H0 I;have q:=H0 (λw=>Ava s w A4);have G:=Ry s.toList.length s (AG _);rw[AK]at G;generalize hD:Bt s.toList=D at o q G;replace hD:=H0 hD;have dC:=H0 (λn(h:FL D=some n)=>AhP h);have Q:=H0 (λw(g:CD w)=>As1 ⟨D.toArray⟩ w (by rw[<-AK,toList_mk];omega) g);rw[toList_mk]at Q;generalize hO:FL D=O at o Q dC;replace hO:=H0 hO;have cA:=H0 g;clear g;have M:=Ah w (.cells (AV (AW .none)) 32);have u:(w.alloc (.cells (AV (AW .none)) 32)).heap[w.heap.size]?=some (.cells (AV (AW .none)) 32 (0,0)):=CB w _;generalize l:w.alloc (.cells (AV (AW .none)) 32)=w0 at M u;have dS:=PM l;replace l:=H0 l;have hs0:=M.size;have dV:=EZ u;change Hid _ at u o;go_in;go_wp2_with fail;refine(q.out _).mono ?_;rintro e w1⟨v,rfl,y,j⟩;clear dS;have K:=Mh (P:=A8) (S:=9) underlying25 underlying5 underlying9 y;have X:=M.trans (j.mono hs0);have T:=A6 (w1.heap[w.heap.size]?=some (.cells (AV (AW .none)) 32 (0,0))) ((j.block _ dV).trans u);have hs1:=X.size;have j7:=EZ T;go_wp2_with fail;refine(Q.out _ (cA.out.next X)).mono ?_;rintro e w2⟨t,rfl,ht,i⟩;clear K;have aE:=X.trans (i.mono hs1);have cQ:=A6 (w2.heap[w.heap.size]?=some (.cells (AV (AW .none)) 32 (0,0))) ((i.block _ j7).trans T);have dE:=aE.size;clear u T dV j i;cases O with
 |none=>
  have hf:=H0 o;exact Aio
 |some n=>
  have eO:=dC.out n rfl;have htz:t.size<=3286800001:=by rw[<-AK,ht.out];show n.length<=_;omega
  have p:t.toList=n:=ht.out;have b:=o.out;dsimp only at b;obtain⟨em,V⟩:=AI (t.toList.isEmpty);rw[<-p,V]at b;cases em with
  |true=>
   have hf:=H0 (b.trans (AC rfl));change Hid _ at b p;exact Aio
  |false=>
   rw[Ju]at b;change Hid _ at b p;go_wp2_with fail;go_loop[6,7,25] (λ_ _ v25=>∃k:Nat,v25=.int .i64 (k:Int)/\k<=t.size/\Hid (t.toList.any FK=(t.toList.drop k).any FK)) (λ_ _ v25=>t.size-(intOf v25).toNat)
   ·exact SU
   obtain⟨k,rfl,hk,hg⟩:=hrel;by_cases J:k<t.size
   ·have z:=hg.out;rw[Aw t k J,OV]at z;have L:=H0 (Ah6 t[k]);have W:=AfK t[k];obtain⟨B,hB⟩:=AI (Cx t[k]);obtain⟨N,hN⟩:=AI (FK t[k]);rw[hB]at L W;rw[hN]at z W;change Hid _ at hB hN z;rcases W with⟨rfl,rfl⟩|⟨rfl,Y,rfl⟩|⟨rfl,Y,q2,rfl⟩|⟨rfl,Y,q2,q3,rfl⟩|⟨rfl,Y,q2,q3,rfl⟩
    rotate_right
    ·have aC:=A6 (t.toList.any FK=(t.toList.drop (k+1)).any FK) (by rw[z.out,Ju]);go_wp2_with(go_call(L.out _) as e w'⟨rfl,rfl⟩);exact JT
    all_goals
     have hf:=A6 (R=none) (by rw[b.out,z.out];rfl);go_wp2_with(first|(go_at_call 305;refine(L.out _).mono (AH ?_))|(refine Ax cQ (AV (AW .none)) ?_));refine Gs rfl rfl rfl rfl (GW cQ) ?_;exact Kx hf (Au aE (AG _) _)
   have H:=A6 (R=if HV t.toList=true then(CT t).map Cb.four else some (.name n)) (by
    rw[b.out,hg.out,CP t k A4];rw[AA AE,p.out])
   have gC:=H0 (λw hm=>Aup t w hm A4);have f:=H0 (λw hm=>An6 t w hm A4);obtain⟨E,g⟩:=AI (HV t);obtain⟨U,hU⟩:=AI (CT t);rw[g]at gC H;rw[hU]at f H;change Hid _ at g hU;have x:=EZ cQ;go_wp2_with fail;refine(gC.out _ (cA.out.next aE).ml).mono ?_;rintro e w3⟨rfl,F⟩;have A:=aE.trans (F.mono dE);have r:=A6 (w3.heap[w.heap.size]?=some (.cells (AV (AW .none)) 32 (0,0))) ((F.block _ x).trans cQ);have bL:=A.size;have c:=EZ r;cases E with
   |false=>
    have hf:=H0 (H.out.trans (AA AE));go_wp2_with(refine Ax r (AV ⟨2,t,0,z8⟩) ?_);refine Gs rfl rfl rfl rfl (GW r) ?_;rw[<-AdF p.out];exact Np hf (Au A (AG _) _)
   |true=>
    have nA:=A6 (R=U.map Cb.four) (H.out.trans (AC rfl));have d:=H0 (f.out w3 (cA.out.next A).ml);clear f;cases U with
    |none=>
     have hf:=A6 (R=none) nA;go_wp2_with fail;refine d.out.mono ?_;rintro e w4⟨rfl,a⟩;have Z:=A.trans (a.mono bL);have C:=H0 ((a.block _ c).trans r);go_wp2_with(refine Ax C (AV (AW .none)) ?_);refine Gs rfl rfl rfl rfl (GW C) ?_;exact Kx hf (Au Z (AG _) _)
    |some m=>
     have hf:=H0 nA;go_wp2_with fail;refine d.out.mono ?_;rintro e w4⟨rfl,a⟩;have Z:=A.trans (a.mono bL);have C:=H0 ((a.block _ c).trans r);go_wp2_with(refine Ax C (AV (AW (.four m))) ?_);refine Gs rfl rfl rfl rfl (GW C) ?_;exact Np hf (Au Z (AG _) _)
def Avt{n:A5}(h:t.toList=n):AW (.opaqueN n)=⟨5,t,0,z8⟩:=by rw[U6 h];rfl
def AcJ(s:A9)(j:Bool)(w:A7)(n:CD w)(v:s.size<=1100000):AD A8 266 #[.string s,.bool j] w (Kc (ET s j) w):=by
 obtain⟨R,i⟩:=AI (ET s j);rw[i];have b:=i.symm;unfold ET at b;replace i:=H0 i;have cW:=H0 (λw=>Tryz.strings_HasPrefix s ⟨#[91]⟩ w);rw[show s.data.toList=s.toList from(BQ ..).symm,show(ByteArray.mk #[91]).data.toList=[91]from rfl]at cW;have p:=H0 n;clear n;have aQ:=Ah w (.cells (AV (AW .none)) 32);have cP:(w.alloc (.cells (AV (AW .none)) 32)).heap[w.heap.size]?=some (.cells (AV (AW .none)) 32 (0,0)):=CB w _;generalize f:w.alloc (.cells (AV (AW .none)) 32)=w0 at aQ cP;have dS:=PM f;replace f:=H0 f;have hs0:=aQ.size;have dV:=EZ cP;replace cP:=H0 cP;generalize g:Lib.hasPrefix s [91]=P at b cW;cases P with
 |true=>
  replace b:=A6 (R=Ja (s.toList.drop 1)) (b.trans (AC rfl));have h1:1<=s.size:=by
   have:=AK s;cases hs:s.toList with
   |nil=>rw[hs]at g;cases g
   |cons a r=>grind
  have z:1<=(s.size:Int):=A4;replace g:=H0 g;have q:=A6 ((s.extract 1 s.size).toList=s.toList.drop 1) ME;have u:(s.extract 1 s.size).size<=1100000:=Bk;have hbr:=Au9 (s.extract 1 s.size) w0 (p.out.next aQ).ml u;rw[q.out,<-b.out]at hbr;exact Ah7
 |false=>
  rw[AA AE]at b;replace g:=H0 g;cases j with
  |true=>
   replace b:=A6 (R=J9 s) (b.trans (AC rfl));have hbr:=Azo s w0 (p.out.next aQ) v;rw[<-b.out]at hbr;exact Ah7
  |false=>
   have c:R=if s.toList.isEmpty=true then some .empty else if s.toList.any Cx=true then none else some (.opaqueN (Ai 0 s.toList)):=b.trans (AA AE);clear b;generalize hem:s.toList.isEmpty=em at c;cases em with
   |true=>
    have hf:=A6 (R=some .empty) (c.trans (AC rfl));replace c:=H0 c;go_in;go_wp2_with fail;go_call cW as e w1⟨rfl,hw⟩;obtain rfl:=hw.symm;clear dS;exact Acu
   |false=>
    rw[AA AE]at c;replace c:=H0 c;go_in;go_wp2_with fail;go_call cW as e w1⟨rfl,hw⟩;obtain rfl:=hw.symm;clear dS;go_wp2_with fail;go_loop[6,24] (λ_ d=>∃k:Nat,d=.int .i64 (k:Int)/\k<=s.size/\Hid (s.toList.any Cx=(s.toList.drop k).any Cx)) (λ_ d=>s.size-(intOf d).toNat)
    ·exact SU
    obtain⟨k,rfl,y,o⟩:=hrel;by_cases l:k<s.size
    ·have h:=o.out;rw[Aw s k l,OV]at h;have m:=H0 (Ah6 s[k]);generalize hB:Cx s[k]=B at m h;change Hid _ at hB h;cases B with
     |false=>
      have aC:=A6 (s.toList.any Cx=(s.toList.drop (k+1)).any Cx) (by rw[h.out,Ju]);go_wp2_with(go_call(m.out _) as e w'⟨rfl,rfl⟩);exact JT
     |true=>
      have hf:=A6 (R=none) (by rw[c.out,h.out];rfl);go_wp2_with(first|(go_at_call 305;refine(m.out _).mono (AH ?_))|(refine Ax cP (AV (AW .none)) ?_));exact TK
    have hf:=A6 (R=some (.opaqueN (Ai 0 s.toList))) (by
     rw[c.out,o.out,CP s k A4];rw[AA AE])
    have x:=H0 (Mu s 0 AE w0 A4);go_wp2_with fail;refine x.out.mono ?_;rintro e w2⟨t,rfl,ht,hb2⟩;exact AjK
def Awh(c:UInt8)(w:A7):AD A8 251 #[.int .u8 (c:Int)] w (AzJ (.bool (Cx c)) w):=by
 obtain⟨R,hR⟩:=AI (Cx c);rw[hR];replace hR:=H0 hR;have b:(⟨#[0,9,10,13,32,35,47,58,60,62,63,64,91,92,93,94,124]⟩:A9).toList=NX:=toList_mk NX;generalize hTe:(⟨#[0,9,10,13,32,35,47,58,60,62,63,64,91,92,93,94,124]⟩:A9)=T at b;have j:T.size=17:=by rw[<-AK,b];rfl
 go_in;go_wp2;rw[hTe];replace b:=H0 b;go_loop[4] (λv4=>∃k:Nat,v4=.int .i64 (k:Int)/\k<=T.size/\Hid (R=(NX.drop k).contains c)) (λv4=>T.size-(intOf v4).toNat)
 ·exact AgX
 obtain⟨k,rfl,l,f⟩:=hrel;by_cases d:k<T.size
 ·have g:=Aw T k d;rw[b.out]at g;have a:=f.out;rw[g,Nl]at a;have i:((T[k].toNat:Int)==(c:Int))=(c==T[k]):=by
   by_cases h:c=T[k]
   ·rw[<-h];simp
   rw[B6.2 h,B6];intro e;exact h (CM.1 A4)
  generalize hqe:(c==T[k])=q at a i;cases q
  ·rw[Ju]at a;replace a:=H0 a;go_wp2;go_round;exact⟨k+1,AP,A4,a⟩;exact AzF
  rw[Bool.true_or]at a;replace a:=H0 a;go_wp2;go_ret;exact⟨by rw[a.out];rfl,rfl⟩
 have hf:=A6 (R=false) (by rw[f.out,show NX.drop k=[]from Cj (by have:NX.length=17:=rfl;omega)];rfl);go_wp2;go_ret;exact⟨KY,rfl⟩
def O8(name:Bool)(c:UInt8):Bool:=if name=true then FK c else Cx c
def AkF(s:A9)(name:Bool)(w:A7)(o:s.size<=4294967296):AD A8 192 #[.string s,.bool name] w (AzJ (.bool (s.toList.any (O8 name))) w):=by
  obtain⟨R,hR⟩:=AI (s.toList.any (O8 name));rw[hR];replace hR:=H0 hR;go_in;go_wp2;go_loop[5] (λv5=>∃k:Nat,v5=.int .i64 (k:Int)/\k<=s.size/\Hid (R=(s.toList.drop k).any (O8 name))) (λv5=>s.size-(intOf v5).toNat)
  ·exact AgX
  obtain⟨k,rfl,n,hv⟩:=hrel;by_cases d:k<s.size
  · have a:=hv.out
    rw[Aw s k d,OV]at a;have f:=H0 (Awh s[k]);have b:=AfK s[k];have m:O8 name s[k]=if name=true then FK s[k]else Cx s[k]:=rfl;rw[m]at a;obtain⟨B,h⟩:=AI (Cx s[k]);obtain⟨N,l⟩:=AI (FK s[k]);rw[h]at f b a;rw[l]at a b;have a:=H0 a;rcases b with⟨rfl,rfl⟩|⟨rfl,c,rfl⟩|⟨rfl,c,g,rfl⟩|⟨rfl,c,g,i,rfl⟩|⟨rfl,c,g,i,rfl⟩;all_goals cases name
    all_goals first
      | (have hf:=A6 (R=true) (by rw [a.out];rfl)
         go_wp2_with(go_call f;refine AH ?_);go_ret;exact⟨KY,rfl⟩)
      | (have j:=A6 (R=(s.toList.drop (k+1)).any (O8 _)) (by rw [a.out];rfl)
         go_wp2_with(go_call f;refine AH ?_);go_round
         · exact⟨k+1,AP,A4,j⟩
         · simp[intOf];omega)
  · have hf:=A6 (R=false) TO
    go_wp2;go_ret;exact⟨KY,rfl⟩
def KeB:O8 true=FK:=rfl
def Awx:O8 false=Cx:=rfl
def BS(c:UInt8):Bool:= !BX c
def d0:Dm:=⟨false,0,false,0,false,0⟩
def FY:Dm->List (A5)->Option Dm
 |st,[]=>some st|st,t::r=>(I8 st t).bind λst'=>FY st' r
def EE(ws:List (A5)):Option Dm:=(FY d0 ws).bind λst=>if(st.hh&& !st.hw)=true then none else some st
structure Dw where
 url:A5
 ws:List (A5)
 st:Dm
def FO(u:A5):A5:=(u.reverse.dropWhile (λc=>c==44)).reverse
def C3(l:A5):(A5×List (A5))×A5:=
 if(l.takeWhile BS).getLast?=some 44 then((FO (l.takeWhile BS),[]),l.dropWhile BS)
 else((l.takeWhile BS,(Cz (l.dropWhile BS)).1),(Cz (l.dropWhile BS)).2.drop 1)
def GM(p:A5×List (A5)):List Dw:=match EE p.2 with|none=>[]|some st=>[⟨p.1,p.2,st⟩]
def Jp:Nat->A5->List Dw
 |0,_=>[]|n+1,l=>if l.dropWhile BD=[]then[]else GM (C3 (l.dropWhile BD)).1++Jp n (C3 (l.dropWhile BD)).2
def BW(l:A5):List Dw:=Jp (l.length+1) l
variable{α:Type}
theorem JI(p:α->Bool):∀(l:List α){c r},l.dropWhile p=c::r->p c=false
 |[],_,_,h=>C5
 |a::l,c,r,h=>by
  rw[EF]at h;cases hp:p a
  ·simp_all
  rw[hp]at h;exact JI p l h
def Aqd(p:α->Bool):∀(t s:List α),(∀c∈t,p c=true)->(t++s).dropWhile p=s.dropWhile p
 |[],s,_=>rfl|a::t,s,h=>by simp_all
theorem GL(p:α->Bool)(l:List α):(l.dropWhile p).length<=l.length:=(K2 _).length_le
def ZU:∀(n:Nat)(l:A5),l.length<=n->(Cz l).2.length<=l.length:=by
 intro n;induction n with
 |zero=>intro l a;obtain rfl:l=[]:=EP A4;exact AG _
 |succ n ih=>
  intro l a;have b:=GL BX l;rw[Lt];by_cases h:(Bl BP false (l.dropWhile BX)).1=[]
  ·simp_all
  have h1:=PA BP false (l.dropWhile BX);have c:=FV.2 h;rw[AA h];have:=ih (Bl BP false (l.dropWhile BX)).2.1 A4;show(Cz (Bl BP false (l.dropWhile BX)).2.1).2.length<=l.length;omega
variable{c:UInt8}
def Ow(h:BD c=false):BS c=true:=by
 unfold BD at h;unfold BS;rw[J1]at h;rw[h.2];rfl
theorem Qs{r:A5}(h:BD c=false):(C3 (c::r)).2.length<=r.length:=by
 have a:(c::r).dropWhile BS=r.dropWhile BS:=by rw[EF,AC (Ow h)]
 have b:=GL BS r;unfold C3;split
 ·simp_all
 have:=ZU _ _ (AG (r.dropWhile BS).length);rw[a];rw[C7];omega
def Axh:∀(N:Nat)(l:A5),l.length<=N->∀n,l.length<n->Jp n l=Jp (l.length+1) l:=by
 intro N;induction N with
 |zero=>
  exact AeA
 |succ N ih=>
  intro l hl n hn;obtain⟨m,rfl⟩:∃m,n=m+1:=⟨n-1,A4⟩;unfold Jp;have a:=GL BD l;cases hd:l.dropWhile BD with
  |nil=>rfl
  |cons c r=>
   grind[Qs,JI]
theorem Lq(l:A5):BW l=if l.dropWhile BD=[]then[]else GM (C3 (l.dropWhile BD)).1++BW (C3 (l.dropWhile BD)).2:=by
 unfold BW
 conv=>lhs;unfold Jp
 have a:=GL BD l;cases hd:l.dropWhile BD with
 |nil=>rw[AC rfl,AC rfl]
 |cons c r=>
  rw[hd]at a;have b:=Qs (r:=r) (JI BD l hd);have d:r.length+1<=l.length:=a;rw[AA AN,AA AN,Axh _ _ (AG _) l.length A4]
def Adl{t:A5}(s:A5)(h:∀c∈t,BD c=true):BW (t++s)=BW s:=by
 rw[Lq,Lq s,Aqd BD t s h]
def IT(c:UInt8):Bool:=okF c||c==119||c==104||c==120
def At5:∀n:UInt8,IT n=true->BD n=false/\n≠40/\n≠41:=DZ AX
def AdY(h:IT c=true):BD c=false/\c≠40/\c≠41:=At5 c h
def Aw4{st e:Dm}{t:A5}(h:I8 st t=some e):t≠[]/\∀c∈t,IT c=true:=by
 unfold I8 at h;cases hl:t.getLast? with
 |none=>grind
 |some d=>
  rw[hl]at h;have a:t≠[]:=by rintro rfl;cases hl
  have b:t=t.dropLast++[d]:=by
   rw[List.getLast?_eq_some_getLast a]at hl;cases hl;exact(List.dropLast_concat_getLast a).symm
  have i:∀m,Az 10 t.dropLast=some m->∀c∈t.dropLast,IT c=true:=λm f c hc=>by
   unfold IT;rw[VP ((AaC f).2 c hc)];rfl
  have g:(∀c∈t.dropLast,IT c=true)/\IT d=true:=by
   unfold takeC at h;dsimp only at h;split at h
   ·rename_i hd;refine⟨?_,by rw[hd];decide⟩;split at h
    ·rename_i hk;unfold okW at hk;cases hn:Az 10 t.dropLast with
     |none=>grind|some m=>grind
    ·cases h
   split at h
   ·rename_i hd;refine⟨?_,by rw[hd];decide⟩;split at h
    ·rename_i hk;unfold okH at hk;cases hn:Az 10 t.dropLast with
     |none=>grind|some m=>grind
    ·cases h
   split at h
   ·rename_i hd;refine⟨?_,by rw[hd];decide⟩;split at h
    ·rename_i hk;unfold okX at hk;cases hn:DN t.dropLast with
     |none=>grind|some m=>exactλc hc=>by unfold IT;rw[Axm (by rw[hn];rfl) c hc];rfl
    ·cases h
   ·cases h
  refine⟨a,λc hc=> ?_⟩;rw[b]at hc;rcases BL.1 hc with hc|hc
  ·grind
  grind
def An5:∀(ws:List (A5))(st:Dm){b:Dm},FY st ws=some b->∀t∈ws,t≠[]/\∀c∈t,IT c=true:=by
 intro ws;induction ws with
 |nil=>intro st b _ t d;cases d
 |cons a r ih=>
  intro st b h t d;unfold FY at h;cases ha:I8 st a with
  |none=>rw[ha]at h;cases h
  |some s2=>
   rw[ha]at h;rcases Bn.1 d with rfl|d
   ·exact Aw4 ha
   exact ih s2 h t d
def Ai7{ws:List (A5)}{st:Dm}(h:EE ws=some st):∀t∈ws,t≠[]/\∀c∈t,IT c=true:=by
 unfold EE at h;cases ha:FY d0 ws with
 |none=>rw[ha]at h;cases h
 |some s2=>exact An5 ws d0 ha
def W7(c:UInt8):Prop:=c≠40/\c≠44
def AnT(h:W7 c):BP false c=(BS c,false):=by
 have h1:((c:Int)==40)=false:=by
  rw[B6];intro e;exact h.1 (CM.1 (by show c.toNat=40;omega))
 have a:((c:Int)==44)=false:=by
  rw[B6];intro e;exact h.2 (CM.1 (by show c.toNat=44;omega))
 unfold BP BD BS;rw[h1,a];cases BX c<;>rfl
def Azq:BD 40=false:=AE
def Mm(Y:A5):Prop:=Y=[]\/∃b X,Y=b::X/\BD b=true
variable{Y:A5}
theorem YR(h:Mm Y):Bl BP false Y=([],Y,false):=by
 rcases h with rfl|⟨b,X,rfl,a⟩
 ·rfl
 have h1:((b:Int)==40)=false:=by
  rw[B6];intro e;obtain rfl:b=40:=CM.1 (by show b.toNat=40;omega);rw[Azq]at a;cases a
 have c:BP false b=(false,false):=by
  unfold BP;rw[h1,a];rfl
 rw[NH (by rw[c]),c]
def AlE(d:Mm Y):∀(R:A5),(∀c∈R,W7 c)->Bl BP false (R++Y)=(R.takeWhile BS,R.dropWhile BS++Y,false)
 |[],_=>YR d
 |a::R,h=>by
  have b:=AnT (h a (CC ..));cases hb:BS a
  ·rw[hb]at b;rw[Di,NH (by rw[b]),b,IS,EF,hb];rfl
  rw[hb]at b;rw[Di,OI (by rw[b]),b,AlE d R (λc hc=>h c (Cr _ hc)),IS,EF,hb];rfl
def Mm.drop(h:Y.dropWhile BX=[]\/∃X,Y.dropWhile BX=44::X):Mm (Y.dropWhile BX):=by
 rcases h with h|⟨X,h⟩
 ·exact .inl h
 exact .inr ⟨44,X,h,AE⟩
structure Kp(c:Dw):Prop where
 ne:c.url≠[]
 nb:∀b∈c.url,BS b=true
 hd:c.url.head?≠some 44
 lt:c.url.getLast?≠some 44
 ds:EE c.ws=some c.st
def YU(l:A5):∃t,l=FO l++t/\(∀x∈t,x=44)/\(FO l).getLast?≠some 44:=by
 refine⟨(l.reverse.takeWhile (λc=>c==44)).reverse,?_,?_,?_⟩
 ·unfold FO;rw[<-SM,Qj,List.reverse_reverse]
 ·intro x hx;have:=List.mem_reverse.1 hx;have b:∀(m:A5),x∈m.takeWhile (λc=>c==44)->x=44:=by
   intro m;induction m with
   |nil=>simp
   |cons a m ih=>
    intro h;rw[IS]at h;split at h
    ·rename_i ha;rcases Bn.1 h with rfl|h
     ·grind
     exact ih h
    ·cases h
  grind
 unfold FO;rw[List.getLast?_reverse];intro e;cases hd:l.reverse.dropWhile (λc=>c==44)with
 |nil=>grind
 |cons a r=>
  rw[hd]at e;have:=JI _ _ hd;cases e<;>grind
def Ael{p:UInt8->Bool}:∀{l:A5}{c:UInt8},c∈l.takeWhile p->p c=true
 |[],_,h=>C5
 |a::l,c,h=>by
  rw[IS]at h;cases ha:p a
  ·simp_all
  rw[ha]at h;rcases Bn.1 h with rfl|h
  ·exact ha
  exact Ael h
def Amg:BD 44=true:=AE
def Adn{r:A5}(h:BD c=false):∀x∈GM (C3 (c::r)).1,Kp x:=by
 have j:=Ow h;have i:c≠44:=by rintro rfl;rw[Amg]at h;cases h
 have g:(c::r).takeWhile BS=c::r.takeWhile BS:=by simp_all
 intro x hx;unfold GM at hx;cases hd:EE (C3 (c::r)).1.2 with
 |none=>grind
 |some st=>
  rw[hd]at hx;obtain rfl:=CO.1 hx;have e:∀b∈(c::r).takeWhile BS,BS b=true:=λb f=>Ael f;have d:(C3 (c::r)).1.1≠[]/\(∀b∈(C3 (c::r)).1.1,BS b=true)/\(C3 (c::r)).1.1.head?≠some 44/\(C3 (c::r)).1.1.getLast?≠some 44:=by
   unfold C3;split
   ·have⟨t,h1,h2,h3⟩:=YU ((c::r).takeWhile BS);cases hq:FO _ with
    |nil=>
     grind
    |cons a q=>
     grind
   grind
  exact⟨d.1,d.2.1,d.2.2.1,d.2.2.2,hd⟩
def ZL:∀(n:Nat)(l:A5),l.length<=n->∀x∈BW l,Kp x:=by
 intro n;induction n with
 |zero=>
  intro l d x hx;obtain rfl:l=[]:=EP A4;cases hx
 |succ n ih=>
  intro l d x hx;rw[Lq]at hx;have a:=GL BD l;cases hd:l.dropWhile BD with
  |nil=>rw[hd]at hx;cases hx
  |cons c r=>
   rw[hd]at hx a;have b:=JI BD l hd;have f:=Qs (r:=r) b;have e:r.length+1<=l.length:=a;rcases BL.1 hx with hx|hx
   ·exact Adn b x hx
   exact ih _ A4 x hx
def DA(c:Dw):A5:=c.url++c.ws.flatMap (λt=>32::t)
def Da(l:List Dw):A5:=l.flatMap (λc=>44::32::DA c)
def Cf:List Dw->A5
 |[]=>[]|c::r=>DA c++Da r
def AyO(l:List Dw)(c:Dw):Cf (l++[c])=(Cf l++if l=[]then[]else[44,32])++DA c:=by
 cases l with
 |nil=>simp[Cf,Da]|cons a r=>simp[Cf,Da]
def Vd{p:UInt8->Bool}:∀(u Y:A5),(∀b∈u,p b=true)->(u++Y).takeWhile p=u++Y.takeWhile p/\(u++Y).dropWhile p=Y.dropWhile p
 |[],Y,_=>⟨rfl,rfl⟩|a::u,Y,h=>by simp_all
def AoT{t:A5}(h:t≠[]/\∀c∈t,IT c=true):(∀c∈t,W7 c)/\∀c∈t,BS c=true:=by
 refine⟨λc hc=> ?_,λc hc=>Ow (AdY (h.2 c hc)).1⟩;have:=AdY (h.2 c hc);refine⟨this.2.1,?_⟩;rintro rfl;cases this.1
theorem AhC(ws:List (A5))(b:Y=[]\/∃X,Y=44::X):Mm (ws.flatMap (λt=>32::t)++Y):=by
 cases ws with
 |nil=>
  rcases b with rfl|⟨X,rfl⟩
  ·exact .inl rfl
  exact .inr ⟨44,X,rfl,AE⟩
 |cons a r=>exact .inr ⟨32,_,rfl,AE⟩
def Ala(d:Y=[]\/∃X,Y=44::X):∀(ws:List (A5)),(∀t∈ws,t≠[]/\∀c∈t,IT c=true)->Cz (ws.flatMap (λt=>32::t)++Y)=(ws,Y)
 |[],_=>by
  have e:Y.dropWhile BX=Y:=by
   rcases d with rfl|⟨X,rfl⟩
   ·rfl
   rfl
  grind[AhC,Lt,YR]
 |a::r,h=>by
  have g:=h a (CC ..);have⟨hc,hb⟩:=AoT g;have i:(a::r).flatMap (λt=>32::t)++Y=32::(a++(r.flatMap (λt=>32::t)++Y)):=AN;have b:∃x q,a=x::q:=by
   cases a with
   |nil=>grind|cons x q=>simp
  have⟨x,q,hxq⟩:=b;have hx:BX x=false:=by
   have:=hb x AS;unfold BS at this;simpa using this
  have k:(32::(a++(r.flatMap (λt=>32::t)++Y))).dropWhile BX=a++(r.flatMap (λt=>32::t)++Y):=by
   rw[EF,AC AE,hxq,Di,EF,AA AS]
  have f:=AlE (AhC r d) a hc;have⟨t1,t2⟩:=Vd a [] hb;rw[Bq]at t1 t2;rw[t1,t2,show([]:A5).takeWhile BS=[]from rfl,show([]:A5).dropWhile BS=[]from rfl,Bq,Do]at f;rw[i,Lt,k,f,AA g.1,Ala d r (λt j=>h t (Cr _ j))]
def RD(u:A5)(x:UInt8):(u++[x]).getLast?=some x:=by simp_all
def AyS{u:A5}(b:u≠[])(h:u.getLast?≠some 44):FO (u++[44])=u:=by
 unfold FO;rw[SM];show((44::u.reverse).dropWhile (λc=>c==44)).reverse=u;rw[EF,AC AE];cases hr:u.reverse with
 |nil=>exact absurd (by rw[<-List.reverse_reverse u,hr];rfl) b
 |cons a r=>
  have d:a≠44:=by
   rintro rfl;apply h;rw[<-List.reverse_reverse u,hr,List.getLast?_reverse];rfl
  rw[EF,AA (by simpa using d),<-hr,List.reverse_reverse]
def AzD{u:A5}(a:u≠[])(d:∀b∈u,BS b=true)(h:u.head?≠some 44):∃x q,u=x::q/\BD x=false:=by
 cases u with
 |nil=>exact absurd rfl a
 |cons x q=>
  refine⟨x,q,rfl,?_⟩;have hx:=d x (CC ..);have c:x≠44:=λe=>h (by rw[List.head?_cons,e]);unfold BD;unfold BS at hx;rw[J1];refine⟨?_,by simpa using hx⟩;rw[B6];intro e;exact c (CM.1 (by show x.toNat=44;omega))
def Ajo{c:Dw}(i:Kp c)(f:Y=[]\/∃Z,Y=44::32::Z):BW (DA c++Y)=c::BW (Y.drop 2):=by
 have⟨u,ws,st⟩:=c;have⟨hne,hnb,hhd,hlt,hds⟩:=i;have⟨x,q,hxq,hx⟩:=AzD hne hnb hhd;have m:(DA ⟨u,ws,st⟩++Y).dropWhile BD=DA ⟨u,ws,st⟩++Y:=by
  unfold DA;simp_all
 have o:DA ⟨u,ws,st⟩++Y≠[]:=by
  unfold DA;grind
 have d:∀c∈[(32:UInt8)],BD c=true:=AE;have l:∀p,p=(u,ws)->GM p=[⟨u,ws,st⟩]:=by
  rintro p rfl;unfold GM;rw[hds]
 have b:=hlt;have e:Y=[]\/∃X,Y=44::X:=by
  rcases f with rfl|⟨Z,rfl⟩
  ·simp
  simp
 have n:∃R,C3 (DA ⟨u,ws,st⟩++Y)=((u,ws),R)/\BW R=BW (Y.drop 2):=by
  cases ws with
  |nil=>
   have e0:DA ⟨u,[],st⟩=u:=by unfold DA;simp
   rw[e0];have⟨t1,t2⟩:=Vd u Y hnb;rcases f with rfl|⟨Z,rfl⟩
   ·rw[List.takeWhile_nil,Bq]at t1;rw[Bq]at t2;rw[Bq];refine⟨_,by unfold C3;rw[t1,t2,AA b];rfl,rfl⟩
   have h:(44::32::Z).takeWhile BS=[44]:=by rw[IS,AC AE,IS,AA AE]
   have k:(44::32::Z).dropWhile BS=32::Z:=BE;rw[h]at t1;rw[k]at t2;refine⟨32::Z,by unfold C3;rw[t1,t2,AC (RD u 44),AyS hne b],?_⟩;exact Adl Z d
  |cons a r=>
   have e0:DA ⟨u,a::r,st⟩++Y=u++((a::r).flatMap (λt=>32::t)++Y):=by unfold DA;simp
   have g:=Ala e _ (Ai7 hds);rw[e0];have⟨t1,t2⟩:=Vd u ((a::r).flatMap (λt=>32::t)++Y) hnb;have j:(a::r).flatMap (λt=>32::t)++Y=32::(a++r.flatMap (λt=>32::t)++Y):=AN;rw[j]at t1 t2 g⊢;rw[IS,AA AE,Bq]at t1;rw[EF,AA AE]at t2;refine⟨Y.drop 1,by unfold C3;rw[t1,t2,AA b,g],?_⟩;rcases f with rfl|⟨Z,rfl⟩
   ·rfl
   exact Adl Z d
 grind[Lq]
def AfO:∀(r:List Dw)(c:Dw),Kp c->(∀x∈r,Kp x)->BW (DA c++Da r)=c::r
 |[],c,hc,_=>by
  rw[Ajo hc (Y:=Da []) (.inl rfl)];rfl
 |d::r,c,hc,h=>by
  have e:Da (d::r)=44::32::(DA d++Da r):=by unfold Da;simp
  rw[e,Ajo hc (.inr ⟨_,rfl⟩)];show c::BW (DA d++Da r)=_;rw[AfO r d (h d (CC ..)) (λx hx=>h x (Cr _ hx))]
theorem ZA(l:List Dw)(h:∀x∈l,Kp x):BW (Cf l)=l:=by
 cases l with
 |nil=>rfl|cons c r=>exact AfO r c (h c (CC ..)) (λx hx=>h x (Cr _ hx))
def Aty(w:A7)(A B:Obj):((w.alloc A).alloc B).heap[w.heap.size+1]?=some B:=by
 have:=CB (w.alloc A) B;simpa using this
variable{g:Nat}
def Iq{i k:Nat}(h:k≠g):(w.setCell ⟨g,i,none⟩ v).heap[k]?=w.heap[k]? :=Po _ _ _ _ h
def LI{i:Nat}{a:A7}(h:AF B a w)(b:B<=g):AF B a (w.setCell ⟨g,i,none⟩ v):=h.setCell b v
def e0:A9:=ByteArray.empty
def DJ:AJ:=.slice none 0 0
def Afp(l:List A9)(w:A7)(e:Ag)(w':A7):Prop:=
 (Hid (EE (l.map (·.toList))=none)/\e=.returned (.tuple #[.agg (Af e0 DJ d0),.bool false])/\AF w w w')\/
 (∃st wv,Hid (EE (l.map (·.toList))=some st)/\e=.returned (.tuple #[.agg (Af e0 wv st),.bool true])/\OwnS w' w 9 wv l/\AF w w w')
def Kz(u:A9)(wv:AJ)(st:Dm):(A8.info? 109).map (·.size)=some (Af u wv st).size:=AO
def Nq(u:A9)(pa:Option Addr)(n c:Nat)(st:Dm):(Af u (.slice pa n c) st).all (·.oneCell')=true:=AO
variable{a:Act}
def Zm{R:Ag->A7->Prop}{u:A9}{wv:AJ}{st:Dm}{b:Bool}(h2:a.tmps.getD 2 undef=.pointer (some ⟨g,0,none⟩))(h3:a.tmps.getD 3 undef=.bool b)(hd:a.defers=[])(hg:w.heap[g]?=some (.cells (Af u wv st) 109 (0,0)))(hR:R (.returned (.tuple #[.agg (Af u wv st),.bool b])) w):bodyPost A8 Tryz.f175 R .ret a w:=by
 exact Abd
def AyU(pa:Option Addr)(c:Nat)(l:List A9)(w:A7)(b:CA w (.slice pa l.length c) l)(f:l.length<=1000000000):AD A8 104 #[.slice pa l.length c] w λe w'=>∃v,e=.returned v/\OwnS w' w 9 v l/\AF w w w':=by
 have⟨pa',c',he,hc⟩:=b;cases he;cases pa with
 |none=>
  have a:l=[]:=by simp_all
  subst a;exact Wo
 |some ad=>
  by_cases a:0<l.length
  ·have⟨g,o,e,hcell⟩:=hc a;cases e;go_call(Tryz.slices_Clone_string g o l.length c l w (AG _) A4 (λj d=>AS)) as e w'⟨v,rfl,ho,_,hb⟩;exact⟨v,rfl,by rw[Bc (AG _)]at ho;exact ho,hb⟩
  obtain rfl:l=[]:=EP A4;exact Adb
variable{B':Nat}{E:Ab}
def OwnS.low{l:List A9}(h:OwnS w B' E v l)(hB:B<=B'):OwnS w B E v l:=by
 exact Aab
def AiQ(st:Dm)(l:List A9)(k:Nat)(h:k<l.length):FY st ((l.drop k).map (·.toList))=(I8 st l[k].toList).bind λa=>FY a ((l.drop (k+1)).map (·.toList)):=by
 rw[Fr h,FR,FY]
def Asg(v:AJ)(l:List A9)(w:A7)(R:CA w v l)(Z:∀x∈l,x.size<=1000000000)(X:l.length<=1000000000):AD A8 175 #[v] w (Afp l w):=by
 have K:=R;obtain⟨pa,c,rfl,hc⟩:=R;go_in;go_wp2;go_loopw[9] (λi wr=>∃(k:Nat)(st:Dm),i=.int .i64 k/\k<=l.length/\Hid (FY d0 (l.map (·.toList))=FY st ((l.drop k).map (·.toList)))/\wr.heap[w.heap.size]?=some (.cells (Af e0 DJ d0) 109 (0,0))/\wr.heap[w.heap.size+1]?=some (.cells (Af e0 DJ st) 109 (0,0))/\AF w w wr) (λi _=>l.length-(intOf i).toNat)
 ·exact AgP
 obtain⟨k,st,rfl,hk,f,s,p,a⟩:=hrel;have lc:w.heap.size+1<wr.heap.size:=(En.1 p).1;by_cases z:k<l.length
 ·have z1:(k:Int)<l.length:=A4;obtain⟨Y,V,rfl,N⟩:=hc A4;have I:=N k z;have b1:=EV w _ I;have Q:wr.cell? ⟨Y,V+k,none⟩=some (.string l[k]):=(a.cell OW).trans I;have L:l[k].size<=1000000000:=Z _ (CI ..);have O:=H0 (AiQ st l k z);have E:=H0 (Awc (w.heap.size+1) e0 DJ st l[k] wr p L);clear N I b1 hc;change Hid _ at s p;generalize m:I8 st l[k].toList=o at E;cases o with
  |none=>
   have y:=A6 (EE (l.map (·.toList))=none) (by unfold EE;rw[f.out,O.out,m];rfl);replace m:=H0 m;go_wp2_with fail;refine E.out.mono ?_;rintro e h⟨rfl,r,-⟩;have j:h.heap[w.heap.size]?=some (.cells (Af e0 DJ d0) 109 (0,0)):=(r.block _ A4 A4).trans s;have d:AF w w h:=a.trans (r.below A4 SB);replace j:=H0 j;clear r;go_wp2_with(refine KW j (Af e0 DJ d0) ?_);refine Zm rfl rfl rfl (Ia _ _ _ _ _ _ j) (.inl ⟨y,rfl,Au d (AG _) _⟩)
  |some st2=>
   have W:=A6 (FY d0 (l.map (·.toList))=FY st2 ((l.drop (k+1)).map (·.toList))) (by rw[f.out,O.out,m];rfl);replace m:=H0 m;go_wp2_with fail;refine E.out.mono ?_;rintro e h⟨rfl,r,t⟩;have j:h.heap[w.heap.size]?=some (.cells (Af e0 DJ d0) 109 (0,0)):=(r.block _ A4 A4).trans s;have d:AF w w h:=a.trans (r.below A4 SB);have C:=H0 (t st2 rfl);replace j:=H0 j;clear r t;go_wp2;go_roundw;exact⟨k+1,st2,AP,A4,W,j,C,d⟩;exact AzF
 have n:FY d0 (l.map (·.toList))=some st:=by rw[f.out,Cj A4];rfl
 have B:=A6 (EE (l.map (·.toList))=if(st.hh&& !st.hw)=true then none else some st) (by unfold EE;rw[n];rfl);have M:CA wr (.slice pa l.length c) l:=K.below a (AG _);have U:=H0 (AyU pa c l wr M X);clear f M n;have P:=BV _ _ 2 _ _ _ p;have S:=BV _ _ 4 _ _ _ p;simp only[Af,GB,Ho,KB]at P S;obtain⟨G,H⟩:=AI (st.hw);obtain⟨D,F⟩:=AI (st.hh);rw[H]at P;rw[F]at S;rw[H,F]at B;change Hid _ at H F s p;have g:(D=true/\G=false)\/(D=false\/(D=true/\G=true)):=by cases D<;>cases G<;>simp
 rcases g with⟨rfl,rfl⟩|g
 ·have y:Hid (EE (l.map (·.toList))=none):=B;go_wp2_with(refine KW s (Af e0 DJ d0) ?_);refine Zm rfl rfl rfl (Ia _ _ _ _ _ _ s) (.inl ⟨y,rfl,Au a (AG _) _⟩)
 have A:=A6 (EE (l.map (·.toList))=some st) (by rw[B.out];rcases g with rfl|⟨rfl,rfl⟩<;>simp);clear B;rcases g with rfl|⟨rfl,rfl⟩;all_goals
  go_wp2_with fail;refine U.out.mono ?_;rintro e h⟨wv,rfl,m,d⟩;obtain⟨u,q,rfl,-⟩:=m.read;have j:h.heap[w.heap.size]?=some (.cells (Af e0 DJ d0) 109 (0,0)):=(d.block _ A4).trans s;have t:h.heap[w.heap.size+1]?=some (.cells (Af e0 DJ st) 109 (0,0)):=(d.block _ A4).trans p;have C:(h.setCell ⟨w.heap.size+1,1,none⟩ (.slice u l.length q)).heap[w.heap.size+1]?=some (.cells (Af e0 (.slice u l.length q) st) 109 (0,0)):=Ee t;have J:(h.setCell ⟨w.heap.size+1,1,none⟩ (.slice u l.length q)).heap[w.heap.size]?=some (.cells (Af e0 DJ d0) 109 (0,0)):=(Iq A4).trans j;have Q:=BV _ _ 1 _ _ _ t;have f1:=G4 _ _ 1 _ _ t;simp only[Af,GB,Ho,KB]at Q;change Hid _ at j t J C;have T:AF w w (h.setCell ⟨w.heap.size+1,1,none⟩ (.slice u l.length q)):=LI (a.trans (d.mono A4)) A4;have b:∀cs,OwnS ((h.setCell ⟨w.heap.size+1,1,none⟩ (.slice u l.length q)).setRow w cs) w.heap.size 9 (.slice u l.length q) l:=λcs=>(m.chg (λi h1 h2=>(setRow_other _ _ _ _ A4).trans (Iq A4))).low A4;replace b:=H0 b;clear m;go_wp2_with(first|(refine At C ?_)|(refine KW J (Af e0 (.slice u l.length q) st) ?_));refine Zm rfl rfl rfl (Ia _ _ _ _ _ _ J) (.inr ⟨_,_,A,rfl,b.out _,Au T (AG _) _⟩)
structure GK where
 url:A9
 wv:AJ
 ws:List A9
 st:Dm
def Kl(c:GK):List AJ:=(Af c.url c.wv c.st).toList
def Hv(c:GK):Dw:=⟨c.url.toList,c.ws.map (·.toList),c.st⟩
def EJ(w:A7)(B:Nat)(v:AJ)(l:List GK):Prop:=w.ownsRow B 109 8 v l.length (l.flatMap Kl)/\∀c∈l,OwnS w B 9 c.wv c.ws
def EJ.nil(w:A7)(B:Nat):EJ w B (.slice none 0 0) []:=⟨KQ _ _ _ _,λc hc=>by cases hc⟩
variable{n:Nat}{xs:List AJ}
def PX{s:Nat}(h:w.ownsRow B E s v n xs)(hc:∀k,B<=k->k<w.heap.size->w'.heap[k]?=w.heap[k]?):w'.ownsRow B E s v n xs:=by
 exact Acl
def SZ{s:Nat}(h:w.ownsRow B' E s v n xs)(hB:B<=B'):w.ownsRow B E s v n xs:=by
 exact Aab
variable{l:List GK}
def EJ.chg(h:EJ w B v l)(hc:∀k,B<=k->k<w.heap.size->w'.heap[k]?=w.heap[k]?):EJ w' B v l:=
 ⟨PX h.1 hc,λc a=>(h.2 c a).chg hc⟩
def EJ.low(h:EJ w B' v l)(a:B<=B'):EJ w B v l:=⟨SZ h.1 a,λc b=>(h.2 c b).low a⟩
def EJ.below(h:EJ w B v l)(a:AF w w w'):EJ w' B v l:=h.chg λk _ b=>a.block k b
def Aat:∃i,A8.info? 109=some i/\i.zero=some (.agg (Af e0 DJ d0))/\i.size=8/\i.bytes=88:=IQ AO
def OwnS.off{u:AJ}{l:List A9}(h:OwnS w B 9 v l)(hr:w.ownsRow B' 109 8 u n xs)(hg:w.grownBy w' u.ownBlock):OwnS w' B 9 v l:=by
 exact Agj
def OwnS.one{l:List A9}(h:OwnS w B E v l):v.oneCell'=true:=by
 rcases h.2 with⟨rfl,_⟩|⟨k,b,a,rfl,_⟩<;>rfl
variable{ops:Array Oper}{rest:List Oper}{o:Oper}{Q:Exit->Act->A7->Prop}
def Zz(C:o.guard=none)(s x:CV)(D:o.op=.call {callee:=.builtin .append,args:= #[s,x],argTypes:= #[105,105]}){W0 w0:A7}(c:GK)(A:a.eval s=v)(hx:a.eval x=.slice (some ⟨w0,0,none⟩) 1 1)(b:EJ w0 B v l)(w:OwnS w0 B 9 c.wv c.ws)(m:AF B W0 w0)(y:B<=w0.heap.size)(E:l.length<=1000000000)(h:∀n w',EJ w' B n (l++[c])->AF B W0 w'->Aq A8 ops Q rest (a.put o.dst n) w'):Aq A8 ops Q (o::rest) a (w0.alloc (.cells (Af c.url c.wv c.st) 109)):=by
 have⟨i,hi,hz,hs1,hb1⟩:=Aat;have q:=b.1.alloc (.cells (Af c.url c.wv c.st) 109);have p:∀d∈l++[c],OwnS (w0.alloc (.cells (Af c.url c.wv c.st) 109)) B 9 d.wv d.ws:=by
  intro d f;rcases BL.1 f with f|f
  ·exact(b.2 d f).alloc _
  rw[CO.1 f];exact w.alloc _
 refine Ig _ C s x 105 D B 109 i _ 8 88 underlying105 hi hz hs1 hb1 rfl AE v l.length _ A q ⟨w0,0,none⟩ 1 1 (Kl c) hx rfl ?_ ?_ C1 A4 B7 ?_
 ·intro j u t;have e:(⟨w0,0,none⟩:Addr).add j=⟨w0,j,none⟩:=by cases j<;>simp[Addr.add]
  rw[e];unfold Kl at t;simpa using t
 ·intro u hu;simp[Kl,Af,Bn,K3,or_false]at hu;rcases hu with rfl|rfl|rfl|rfl|rfl|rfl|rfl|rfl
  ·rfl
  ·exact w.one
  all_goals rfl
 intro n w' g r F;refine h n w' ⟨?_,?_⟩ ((m.alloc y _).grown r B7 (λk z=>(Om q k z).1))
 ·simpa using g
 exactλd f=>(p d f).off q r
def Wc(c:o.guard=none)(x:CV)(b:o.op=.buildSlice 105 1 #[(0,x)])(u:A9)(wv:AJ)(st:Dm)(hx:a.eval x=.agg (Af u wv st))(h:Aq A8 ops Q rest (a.put o.dst (.slice (some ⟨w,0,none⟩) 1 1)) (w.alloc (.cells (Af u wv st) 109))):Aq A8 ops Q (o::rest) a w:=by
 have⟨i,hi,hz,hs1,hb1⟩:=Aat;refine wpList_buildSlice c 105 109 1 _ b (Af u wv st) i _ underlying105 hi hz A4 A4 ?_ h;exact AfH
def Ov{P:Dj}(cG:o.guard=none)(ty:Ab)(x y:CV)(ho:o.op=.store ty x y)(hd:o.dst=none)(cells:Array AJ)(t:Ab)(dM:Array AJ)(g:Nat)(hx:a.eval x=.pointer (some ⟨g,0,none⟩))(hgw:g=w.heap.size)(hy:a.eval y=.agg cells)(hi:(P.info? ty).map (·.size)=some cells.size)(cL:dM.size=cells.size)(h1:cells.all (·.oneCell')=true)(h:Aq P ops Q rest a (w.alloc (.cells cells t))):Aq P ops Q (o::rest) a (w.alloc (.cells dM t)):=by
 exact AiU
def Aah(l:A5)(c:UInt8):Lib.hasSuffix l [c]=decide (l.getLast?=some c):=by
 exact Afx
def Abk(s:A9)(w:A7)(e:Ag)(w':A7):Prop:=
 ∃(v:AJ)(l:List GK),e=.returned v/\Hid (l.map Hv=BW s)/\l.length<=s.size/\(∀c∈l,c.url.size<=s.size/\(∀x∈c.ws,x.size<=1000000000)/\c.ws.length<=1000000000)/\EJ w' w v l/\AF w w w'
def Ax6:∀args w,(callFunc 171 args).run A8 w=.ok (.enter 171 args) w:=PF func171 AO rfl
def AmE:∀args w,(callFunc 172 args).run A8 w=.ok (.enter 172 args) w:=PF func172 AO rfl
def AdO:∀(n:Nat)(l:A5),l.length<=n->∀t∈(Cz l).1,t.length<=l.length:=by
 intro n;induction n with
 |zero=>
  intro l b t a;obtain rfl:l=[]:=EP A4;have e:Cz []=([],[]):=rfl;rw[e]at a;cases a
 |succ n ih=>
  intro l b t a;have c:=GL BX l;rw[Lt]at a;by_cases h:(Bl BP false (l.dropWhile BX)).1=[]
  ·simp_all
  have h1:=PA BP false (l.dropWhile BX);have d:=FV.2 h;rw[AA h]at a;rcases Bn.1 a with rfl|a
  ·omega
  have:=ih (Bl BP false (l.dropWhile BX)).2.1 A4 t a;omega
def AwM{j:Nat}(h:(s.drop j).dropWhile BD=[]):BW (s.drop j)=[]:=by rw[Lq,h,AC rfl]
def Awz(s:A9)(w:A7)(hz:s.size<=900000000):AD A8 103 #[.string s] w (Abk s w):=by
 have hsl:=AK s;go_in;go_wp2_with fail;go_loopg[3] (s.size) (λg v wr=>∃(j:Nat)(l:List GK),g=s.size-j/\j<=s.size/\l.length<=j/\Hid (BW s.toList=l.map Hv++BW (s.toList.drop j))/\(∀c∈l,c.url.size<=s.size/\(∀x∈c.ws,x.size<=1000000000)/\c.ws.length<=1000000000)/\EJ wr (w.heap.size+2) v l/\Iw wr (w.heap.size+1) j/\KU wr w s/\AF w w wr)
 ·refine⟨0,[],rfl,AR _,AG _,H0 AN,(λc hc=>by cases hc),EJ.nil _ _,?_,?_,(Ah _ _).alloc AN _⟩
  ·have:=CB (w.alloc (.cells #[.string s] 9)) (.cells #[.int .i64 0] 3);unfold Iw;simpa using this
  exact(Na _ _ AN).trans (CB _ _)
 obtain⟨j,l,I,hj,hlj,E,aP,b,a,d,F⟩:=hrel;replace I:=H0 I;have hwz0:w.heap.size+1<wr.heap.size:=(En.1 a).1;go_wp2_with fail;refine(Uk 171 #[] (VR BD) (λ_ _=>True) (λ_=>False) (w.heap.size+1) w.heap.size s (λst c w _=>(Aqh (c.toNat:Int) w).mono Zf) Ax6 (λ_ _ _ _=>trivial) (λx=>x) (λx=>x) A4 A4 () j wr trivial a d hj).mono ?_;rintro e M⟨t1,rfl,ht1,hz1,p,r,-,R⟩;have K:=Tg ht1;rw[Vg]at K;dsimp only at K;have pS:Aj (· =w.heap.size+1) wr M:=R.mono (λi h=>h.elim id False.elim);have lsz:wr.heap.size<=M.heap.size:=R.size;have gA:EJ M (w.heap.size+2) _ l:=b.chg (λk h1 G=>pS.block k G A4);have dQ:AF w w M:=F.trans (pS.below A4 SB);clear ht1 R pS b F a d;obtain⟨u,X⟩:=AI (j+t1.size);rw[X]at K hz1 p;have hjj:j<=u:=A4;have xa:=BV _ _ 0 _ _ _ p;have xs:=BV _ _ 0 _ _ _ r;simp only[GB,Ho]at xa xs;replace X:=H0 X;by_cases hend:u=s.size
 ·obtain⟨e1,n1⟩:=LQ (show(u:Int)=(s.size:Int)by omega);have aD:=A6 (l.map Hv=BW s) (by
   rw[E.out,AwM (by rw[<-K];exact CP s _ A4),Bq])
  change Hid _ at K p r hend;go_wp2_with fail;go_ret;exact⟨_,l,rfl,aD,A4,aP,gA.low A4,dQ⟩
 obtain⟨e1,n1⟩:=Mz (show¬(u:Int)=(s.size:Int)by omega);have j7:u<s.size:=A4;have H:=Aw s u j7;have cH:BD s[u]=false:=JI BD (s.toList.drop j) (by rw[<-K,H]);have aJ:=A6 (BW (s.toList.drop j)=GM (C3 (s.toList.drop u)).1++BW (C3 (s.toList.drop u)).2) (by
  rw[Lq,<-K,AA (by rw[H];simp)])
 change Hid _ at p r;clear K;go_wp2_with fail;refine(Uk 172 #[] (VR BS) (λ_ _=>True) (λ_=>False) (w.heap.size+1) w.heap.size s (λst c w _=>(AuH (c.toNat:Int) w).mono Zf) AmE (λ_ _ _ _=>trivial) (λx=>x) (λx=>x) A4 A4 () u M trivial p r hz1).mono ?_;rintro e w2⟨U,rfl,hU,N,a,d,-,oF⟩;have y:=Tg hU;rw[Vg]at y hU;dsimp only at y hU;have xO:Aj (· =w.heap.size+1) M w2:=oF.mono (λi h=>h.elim id False.elim);have lsz2:M.heap.size<=w2.heap.size:=oF.size;have b:EJ w2 (w.heap.size+2) _ l:=gA.chg (λk h1 G=>xO.block k G A4);have F:AF w w w2:=dQ.trans (xO.below A4 SB);have hUp:0<U.size:=by
  rw[<-AK,hU.out,H,IS,AC (Ow cH)];simp
 have hUz0:U.size<=s.size:=A4;clear oF xO gA dQ p r xa xs;obtain⟨S,hk2⟩:=AI (u+U.size);rw[hk2]at y N a;have hk2j:u<S:=A4;have pJ:=H0 (λw=>Tryz.strings_HasSuffix U ⟨#[44]⟩ w A4);have e2:Lib.hasSuffix U.data.toList (ByteArray.mk #[44]).data.toList=decide (U.toList.getLast?=some 44):=by
  rw[<-BQ];exact Aah _ _
 rw[e2]at pJ;change Hid _ at a d hk2 H;clear cH e2;by_cases f:U.toList.getLast?=some 44;rw[Bx f]at pJ;have htr:=H0 (λw=>Tryz.strings_TrimRight_one U 44 AE w A4);obtain⟨T,Y⟩:∃q:A9,(⟨(Lib.trimRightB U.data.toList 44).toArray⟩:A9)=q:=⟨_,rfl⟩;rw[Y]at htr;have zO:T.toList=FO U.toList:=by rw[<-Y,toList_mk,<-BQ];rfl
 have uH:T.size<=s.size:=by
  obtain⟨t,ht,_⟩:=YU U;have:=congrArg List.length ht;rw[Aa,<-zO,AK,AK]at this;omega
 obtain⟨m,hm⟩:∃m:List A9,[]=m:=⟨_,rfl⟩;have bN:=A6 (C3 (s.toList.drop u)=((T.toList,m.map (·.toList)),s.toList.drop S)) (by
  unfold C3;rw[<-hU.out,AC f,zO,y,<-hm];rfl)
 change Hid _ at Y zO f y;go_wp2_with(first|(go_at_call 112;refine(pJ.out _).mono ?_;rintro e w'⟨rfl,C⟩;obtain rfl:=C.symm)|(go_at_call 173;refine(htr.out _).mono ?_;rintro e w'⟨rfl,C⟩;obtain rfl:=C.symm));obtain⟨n,rfl⟩:∃n,n=S:=⟨_,rfl⟩;have hn:n<=s.size:=N;have P:∀x∈m,x.size<=1000000000:=λx hx=>by subst hm;cases hx
 have fO:m.length<=1000000000:=by subst hm;decide
 have kY:CA w2 (.slice none 0 0) m:=by subst hm;exact⟨none,0,rfl,λh=>C5⟩
 rotate_left;rw[BO f]at pJ;have hU1:=A6 (C3 (s.toList.drop u)=((U.toList,(Cz (s.toList.drop S)).1),(Cz (s.toList.drop S)).2.drop 1)) (by
  unfold C3;rw[<-hU.out,AA f,y])
 change Hid _ at f y;go_wp2_with(first|(go_at_call 112;refine(pJ.out _).mono ?_;rintro e w'⟨rfl,C⟩;obtain rfl:=C.symm));refine(Aqi (w.heap.size+1) w.heap.size s S w2 a d N A4 A4).mono ?_;clear a d;rintro e w3⟨V,m,n0,rfl,oM,J,hkn,iG,hwln,uX,a,d,L⟩;replace b:EJ w3 (w.heap.size+2) _ l:=b.chg (λk h1 G=>L.block k G A4);replace F:AF w w w3:=F.trans (L.below A4 SB);have P:∀x∈m,x.size<=1000000000:=by
  intro x hx;have h1:x.toList∈(Cz (s.toList.drop S)).1:=by rw[<-oM.out];exact OZ hx
  have G:=AdO _ _ (AG _) _ h1;rw[AK,C7,hsl]at G;omega
 have fO:m.length<=1000000000:=A4;obtain⟨pv,cv,rfl,-⟩:=uX.read;have xa:=BV _ _ 0 _ _ _ a;have xs:=BV _ _ 0 _ _ _ d;have fa:=G4 _ _ 0 _ _ a;simp only[GB,Ho]at xa xs;clear L;obtain⟨T,rfl⟩:∃t,t=U:=⟨_,rfl⟩;have uH:=hUz0;by_cases hn0e:n0<s.size;obtain⟨n,xF⟩:∃n,n0+1=n:=⟨_,rfl⟩;have hn:n<=s.size:=A4;obtain⟨W,hW⟩:∃W,w3.setCell ⟨w.heap.size+1,0,none⟩ (.int .i64 ((n0:Int)+1))=W:=⟨_,rfl⟩;have bN:=A6 (C3 (s.toList.drop u)=((T.toList,m.map (·.toList)),s.toList.drop n)) (by
  rw[hU1.out,<-oM.out,<-J.out,Ka,xF])
 have kY:CA W (.slice pv m.length cv) m:=by rw[<-hW];exact OwnS.read (uX.chg λk h1 G=>Iq A4)
 replace a:=A6 (Iw W (w.heap.size+1) n) (by
  rw[<-hW,<-xF];unfold Iw;rw[Ee a];rfl)
 replace d:=A6 (KU W w s) (by rw[<-hW];exact(Iq A4).trans d);replace b:EJ (w3.setCell ⟨w.heap.size+1,0,none⟩ (.int .i64 ((n0:Int)+1))) (w.heap.size+2) _ l:=b.chg λk h1 G=>Iq A4;rw[hW]at b;replace F:AF w w W:=by rw[<-hW];exact LI F A4
 have lO:u<n:=A4;change Hid _ at hW xF;clear uX;go_wp2_with fail;rw[hW.out];rotate_left;obtain⟨n,rfl⟩:∃n,n=n0:=⟨_,rfl⟩;have hn:n<=s.size:=iG;have bN:=A6 (C3 (s.toList.drop u)=((T.toList,m.map (·.toList)),s.toList.drop n)) (by
  rw[hU1.out,<-oM.out,<-J.out,Ka,CP s n A4,CP s (n+1) A4])
 have kY:=uX.read;change Hid _ at a d;clear uX;go_wp2_with fail;all_goals
  refine(Asg _ m _ kY P fO).mono ?_;have vN:=(En.1 a).1;rintro e B (⟨O,rfl,o⟩|⟨st,wv,O,rfl,gV,o⟩)
  ·have aC:=A6 (BW s.toList=l.map Hv++BW (s.toList.drop n)) (by
    rw[E.out,aJ.out,bN.out];unfold GM;dsimp only;rw[O.out];rfl)
   have D:=o.alloc o.size (.cells (Af e0 DJ d0) 109);have Z:=H0 ((D.block _ vN).trans a);have Q:=H0 ((D.block _ A4).trans d);have jG:=b.below D;have jC:=F.trans (D.mono A4);clear o D;go_wp2_with(refine Ov rfl 109 _ _ rfl rfl (Af e0 DJ d0) 109 _ _ rfl rfl rfl (Kz _ _ _) rfl (Nq _ _ _ _ _) ?_);go_roundg(s.size-n)
   ·exact⟨n,l,rfl,hn,A4,aC,aP,jG,Z,Q,jC⟩
   have:=I.out;omega
  have aC:=A6 (BW s.toList=(l++[GK.mk T wv m st]).map Hv++BW (s.toList.drop n)) (by
   rw[E.out,aJ.out,bN.out];unfold GM;dsimp only;rw[O.out,Dx,CQ];rfl)
  obtain⟨z,A,rfl,-⟩:=gV.read;have hnb:(B.alloc (.cells (Af e0 (.slice z m.length A) st) 109)).heap[B.heap.size]?=some (.cells (Af e0 (.slice z m.length A) st) 109 (0,0)):=CB _ _;have y0:=BV _ _ 0 _ _ _ hnb;simp only[Af,GB,Ho,KB]at y0;change World.cell? (B.alloc (.cells (Af e0 (.slice z m.length A) st) 109)) _=_ at y0;have eY:(B.alloc (.cells (Af T (.slice z m.length A) st) 109)).heap[B.heap.size]?=some (.cells (Af T (.slice z m.length A) st) 109 (0,0)):=CB _ _;have dL:∀k,k<B.heap.size->(B.alloc (.cells (Af T (.slice z m.length A) st) 109)).heap[k]?=B.heap[k]? :=λk hk=>Na _ _ hk;have lsz:=o.size;have Z:=H0 ((dL _ A4).trans ((o.block _ vN).trans a));have Q:=H0 ((dL _ A4).trans ((o.block _ A4).trans d));have jG:=b.chg λk _ hk=>(dL k A4).trans (o.block k hk);have sX:OwnS _ (w.heap.size+2) 9 (.slice z m.length A) m:=(gV.chg (λk _ hk=>dL k hk)).low A4;have jC:=(F.trans (o.mono A4)).alloc A4 (.cells (Af T (.slice z m.length A) st) 109);have lR:(B.alloc (.cells (Af T (.slice z m.length A) st) 109)).heap.size=B.heap.size+1:=AN;change Hid _ at eY dL lR;clear o gV hnb;go_wp2_with(first|(refine Ov rfl 109 _ _ rfl rfl (Af e0 (.slice z m.length A) st) 109 _ _ rfl rfl rfl (Kz _ _ _) rfl (Nq _ _ _ _ _) ?_)|(refine Cg (w:=(B.alloc (.cells (Af T (.slice z m.length A) st) 109))) rfl 109 _ rfl B rfl _ (Af T (.slice z m.length A) st) _ _ eY underlying109 rfl (Kz _ _ _) ?_)|(refine Wc rfl _ rfl T (.slice z m.length A) st rfl ?_)|(refine Zz rfl _ _ rfl (GK.mk T (.slice z m.length A) m st) rfl BE jG sX (AU (w.heap.size+2) _) (by rw[lR.out];omega) A4 ?_;intro v' w8 iK eD));have qO:=H0 ((eD.block _ A4).trans Z);have jH:=H0 ((eD.block _ A4).trans Q);have o7:=jC.trans (eD.mono A4);go_wp2_with fail;go_roundg(s.size-n)
  ·refine⟨n,_,rfl,hn,?_,aC,?_,iK,qO,jH,o7⟩
   ·rw[Aa];show l.length+1<=_;omega
   intro c hc;rcases BL.1 hc with hc|hc
   ·exact aP c hc
   rw[CO.1 hc];exact⟨uH,P,fO⟩
  have:=I.out;omega
def KI(w:A7)(v:AJ)(l:List GK):Prop:=
 ∃pa c,v=.slice pa l.length c/\(0<l.length->∃g o,pa=some ⟨g,o,none⟩/\∀i(h:i<l.length),w.rangeAt g (o+i*8) (Kl l[i]))/\∀c∈l,CA w c.wv c.ws
variable{K:Nat}
def MT{o:Nat}{cs:List AJ}(h:w.rangeAt g o cs)(a:AF K w w')(d:w.heap.size<=K):w'.rangeAt g o cs:=λj v b=>by
 have:=h j v b;have c:=EV w _ this;exact(a.cell A4).trans this
def KI.below(h:KI w v l)(b:AF K w w')(a:w.heap.size<=K):KI w' v l:=by
 obtain⟨pa,c,rfl,h1,f⟩:=h;refine⟨pa,c,rfl,λd=> ?_,λc hc=>(f c hc).below b a⟩;obtain⟨g,o,rfl,j⟩:=h1 d;exact⟨g,o,rfl,λi e=>MT (j i e) b a⟩
def Rs(c:GK):(Kl c).length=8:=rfl
def XU:∀(l:List GK)(i:Nat)(h:i<l.length)(j:Nat),j<8->(l.flatMap Kl)[i*8+j]?=(Kl l[i])[j]?
 |[],i,h,j,hj=>by simp at h
 |a::r,0,h,j,hj=>by
  rw[GV,Db,List.getElem?_append_left (by rw[Rs];exact hj)];rfl
 |a::r,i+1,h,j,hj=>by
  rw[GV,UM (by rw[Rs];omega),Rs,show(i+1)*8+j-8=i*8+j by omega];exact XU r i JR j hj
def EJ.read(h:EJ w B v l):KI w v l:=by
 have⟨hr,hw⟩:=h;rcases hr.2 with⟨rfl,m⟩|⟨g,a,e,rfl,r,p,q,s,d,n⟩
 ·exact⟨none,0,by rw[m],λo=>A4,λc hc=>(hw c hc).read⟩
 refine⟨_,a,rfl,λ_=>⟨g,0,rfl,λi k j v b=> ?_⟩,λc hc=>(hw c hc).read⟩;have f:j<8:=by
  have:=(Hk.1 b).1;rwa[Rs]at this
 rw[Db];have:=KH hr (i*8+j) A4;rw[this,<-b,<-XU l i k j f]
def AhE(s:A9)(w:A7)(i:s.size<=1000000000):AD A8 200 #[.string s] w (AzJ (.tuple #[.int .i64 (IG s.toList:Int),.bool ((Az 10 s.toList).isSome&&decide (1<=IG s))]) w):=by
 have hw:=H0 (λw=>Tc s w A4);unfold Fm at hw;rw[show min ((Az 10 s.toList).getD 0) Bp=IG s from rfl]at hw;obtain⟨b,c⟩:∃b,(Az 10 s.toList).isSome=b:=⟨_,rfl⟩;generalize IG s.toList=n at hw⊢;rw[c]at hw⊢;replace c:=H0 c;have a:b=false\/(b=true/\decide (0<n)=true/\Hid (decide (1<=n)=true))\/(b=true/\decide (0<n)=false/\Hid (decide (1<=n)=false)):=by
  cases b
  ·exact .inl rfl
  by_cases h:1<=n
  ·exact .inr (.inl ⟨rfl,Bx A4,H0 (Bx h)⟩)
  exact .inr (.inr ⟨rfl,BO A4,H0 (BO h)⟩)
 generalize decide (1<=n)=d at a⊢;go_in;rcases a with rfl|⟨rfl,g,f⟩|⟨rfl,g,f⟩
 ·exact XL
 ·obtain rfl:=f.out;exact XL
 obtain rfl:=f.out;exact XL
def OL{R:Ag->A7->Prop}{u:A9}{wv:AJ}{st:Dm}{b:Bool}(h2:a.tmps.getD 2 undef=.pointer (some ⟨g,0,none⟩))(h3:a.tmps.getD 3 undef=.bool b)(hd:a.defers=[])(hg:w.heap[g]?=some (.cells (Af u wv st) 109 (0,0)))(hR:R (.returned (.tuple #[.agg (Af u wv st),.bool b])) w):bodyPost A8 Tryz.f130 R .ret a w:=by
 exact Abd
def Ahq(pa:Option Addr)(n c:Nat)(l:List A9)(w:A7)(hr:CA w (.slice pa n c) l)(eO:l.length=n)(aX:pa=none->c=0)(hz:∀x∈l,x.size<=1000000000)(hl:l.length<=1000000000):AD A8 130 #[.slice pa n c] w (Afp l w):=by
  subst eO;have hrd:=hr;obtain⟨a1,c1,hv,hc⟩:=hr;obtain⟨rfl,-,rfl⟩:pa=a1/\l.length=l.length/\c=c1:=La;clear hv;replace aX:=H0 aX;replace hc:=H0 hc;go_in;go_wp2_with fail;go_loopw[5] (λi wr=>∃(k:Nat)(st:Dm),i=.int .i64 k/\k<=l.length/\Hid (FY d0 (l.map (·.toList))=FY st ((l.drop k).map (·.toList)))/\wr.heap[w.heap.size]?=some (.cells (Af e0 DJ d0) 109 (0,0))/\wr.heap[w.heap.size+1]?=some (.cells (Af e0 DJ st) 109 (0,0))/\AF w w wr) (λi _=>l.length-(intOf i).toNat)
  ·exact AgP
  obtain⟨k,st,rfl,hk,hrun,u,d,b⟩:=hrel;have lc:w.heap.size+1<wr.heap.size:=(En.1 d).1;by_cases R:k<l.length
  · have z1:(k:Int)<l.length:=A4
    obtain⟨g1,o1,rfl,i7⟩:=hc.out A4;have x1:=i7 k R;have b1:=EV w _ x1;have y1:wr.cell? ⟨g1,o1+k,none⟩=some (.string l[k]):=(b.cell OW).trans x1;have hzk:l[k].size<=1000000000:=hz _ (CI ..);have aF:=H0 (AiQ st l k R);obtain⟨t,ht⟩:=AI (l[k]);rw[ht]at y1 hzk aF;replace ht:=H0 ht;clear i7 x1 b1;replace u:=H0 u;by_cases h0:0<t.size;rotate_left
    · have e:t.toList=[]:=(EW t).2 A4
      have f:=A6 (EE (l.map (·.toList))=none) (by unfold EE;rw[hrun.out,aF.out,e];rfl);have hem:t.toList.isEmpty=true:=NI;have xM:(t.toList==[])=true:=NI;replace e:=H0 e;replace d:=H0 d;go_wp2_with(refine KW u (Af e0 DJ d0) ?_);refine OL rfl rfl rfl (Ia _ _ _ _ _ _ u) (.inl ⟨f,rfl,Au b (AG _) _⟩)
    have hne:(!t.toList.isEmpty)=true:=by rw[FZ t h0];rfl
    have hem:t.toList.isEmpty=false:=by rw[FZ t h0];rfl
    obtain⟨-,gH,P⟩:=Abn t h0;obtain⟨H,hH⟩:=AI (t.extract 0 (t.size-1));rw[hH]at P;have N:H.size<=1000000000:=Wn;obtain⟨F,I,B,E,J,A⟩:=st;have D:=A6 (I8 ⟨F,I,B,E,J,A⟩ t.toList=takeC ⟨F,I,B,E,J,A⟩ H.toList t[t.size-1]) (by unfold I8;rw[gH,P]);clear gH P;have nS:1<=(t.size:Int):=A4;obtain⟨c,m⟩:=AI (t[t.size-1]);rw[m]at D;have x2:=BV _ _ 2 _ _ _ d;have x4:=BV _ _ 4 _ _ _ d;have x6:=BV _ _ 6 _ _ _ d;simp only[Af,GB,Ho,KB]at x2 x4 x6;have f2:=G4 _ _ 2 _ _ d;have f3:=G4 _ _ 3 _ _ d;have f4:=G4 _ _ 4 _ _ d;have f5:=G4 _ _ 5 _ _ d;have f6:=G4 _ _ 6 _ _ d;have f7:=G4 _ _ 7 _ _ d;have x3:=BV _ _ 3 _ _ _ d;have x5:=BV _ _ 5 _ _ _ d;have x7:=BV _ _ 7 _ _ _ d;simp only[Af,GB,Ho,KB]at x3 x5 x7;replace d:=H0 d;replace m:=H0 m;by_cases c1:c=119
    · have U:((c:Int)==119)=true:=by rw[c1];rfl
      have hV:=D.out;unfold takeC okW at hV;rw[AC c1]at hV;clear D;replace c1:=H0 c1;have j:=H0 (λw=>AhE H w N);generalize((Az 10 H.toList).isSome&&decide (1<=IG H))=p at hV j;generalize(IG H.toList:Int)=z at hV j;rw[<-m.out]at U;have v:=A6 (((wr.setCell ⟨w.heap.size+1,2,none⟩ (.bool true)).setCell ⟨w.heap.size+1,3,none⟩ (.int .i64 z)).heap[w.heap.size]?=some (.cells (Af e0 DJ d0) 109 (0,0))) ((Iq A4).trans ((Iq A4).trans u));have V:=A6 (((wr.setCell ⟨w.heap.size+1,2,none⟩ (.bool true)).setCell ⟨w.heap.size+1,3,none⟩ (.int .i64 z)).heap[w.heap.size+1]?=some (.cells (Af e0 DJ ⟨true,z,B,E,J,A⟩) 109 (0,0))) (by rw[Ee (Ee d.out)];rfl);have G:AF w w ((wr.setCell ⟨w.heap.size+1,2,none⟩ (.bool true)).setCell ⟨w.heap.size+1,3,none⟩ (.int .i64 z)):=LI (LI b A4) A4;cases F;cases J;cases p;rotate_left
      · replace hV:=hV.trans (AC rfl)
        have W:=A6 (FY d0 (l.map (·.toList))=FY ⟨true,z,B,E,false,A⟩ ((l.drop (k+1)).map (·.toList))) (by rw[hrun.out,aF.out,hV];rfl);clear hV;go_wp2_with fail;refine(j.out _).mono (AH ?_);go_wp2_with fail;go_roundw;exact⟨k+1,⟨true,z,B,E,false,A⟩,AP,A4,W,v,V,G⟩;exact AzF
      all_goals
        replace hV:=hV.trans (AA AN);have f:=A6 (EE (l.map (·.toList))=none) Wt;clear hV;go_wp2_with fail;refine(j.out _).mono (AH ?_);go_wp2_with(refine KW v (Af e0 DJ d0) ?_);exact OL rfl rfl rfl (Ia _ _ _ _ _ _ v) (.inl ⟨f,rfl,Au G (AG _) _⟩)
    have U:((c:Int)==119)=false:=u8c.2 c1;by_cases c2:c=104
    · have q2:((c:Int)==104)=true:=by rw[c2];rfl
      have hV:=D.out;unfold takeC okH at hV;rw[AA c1,AC c2]at hV;clear D;replace c2:=H0 c2;have j:=H0 (λw=>AhE H w N);generalize((Az 10 H.toList).isSome&&decide (1<=IG H))=p at hV j;generalize(IG H.toList:Int)=z at hV j;rw[<-m.out]at U q2;have v:=A6 (((wr.setCell ⟨w.heap.size+1,4,none⟩ (.bool true)).setCell ⟨w.heap.size+1,5,none⟩ (.int .i64 z)).heap[w.heap.size]?=some (.cells (Af e0 DJ d0) 109 (0,0))) ((Iq A4).trans ((Iq A4).trans u));have V:=A6 (((wr.setCell ⟨w.heap.size+1,4,none⟩ (.bool true)).setCell ⟨w.heap.size+1,5,none⟩ (.int .i64 z)).heap[w.heap.size+1]?=some (.cells (Af e0 DJ ⟨F,I,true,z,J,A⟩) 109 (0,0))) (by rw[Ee (Ee d.out)];rfl);have G:AF w w ((wr.setCell ⟨w.heap.size+1,4,none⟩ (.bool true)).setCell ⟨w.heap.size+1,5,none⟩ (.int .i64 z)):=LI (LI b A4) A4;cases B;cases J;cases p;rotate_left
      · replace hV:=hV.trans (AC rfl)
        have W:=A6 (FY d0 (l.map (·.toList))=FY ⟨F,I,true,z,false,A⟩ ((l.drop (k+1)).map (·.toList))) (by rw[hrun.out,aF.out,hV];rfl);clear hV;go_wp2_with fail;refine(j.out _).mono (AH ?_);go_wp2_with fail;go_roundw;exact⟨k+1,⟨F,I,true,z,false,A⟩,AP,A4,W,v,V,G⟩;exact AzF
      all_goals
        replace hV:=hV.trans (AA AN);have f:=A6 (EE (l.map (·.toList))=none) Wt;clear hV;go_wp2_with fail;refine(j.out _).mono (AH ?_);go_wp2_with(refine KW v (Af e0 DJ d0) ?_);exact OL rfl rfl rfl (Ia _ _ _ _ _ _ v) (.inl ⟨f,rfl,Au G (AG _) _⟩)
    have q2:((c:Int)==104)=false:=u8c.2 c2;by_cases y:c=120
    · have q3:((c:Int)==120)=true:=by rw[y];rfl
      have hV:=D.out;unfold takeC okX geZ SY at hV;rw[AA c1,AA c2,AC y]at hV;clear D;replace c1:=H0 c1;replace c2:=H0 c2;replace y:=H0 y;have j:=H0 (λw=>AyZ H w N);unfold RL at j;generalize((DN H).map GA).getD 0=n at hV j;generalize(DN H).isSome=p at hV j;rw[<-m.out]at U q2 q3;generalize hr:FloatKind.f64.format.order n 0=r at hV;have y7:(wr.setCell ⟨w.heap.size+1,6,none⟩ (.bool true)).cell? ⟨w.heap.size+1,7,none⟩=some (.float .f64 A):=(BV _ _ 7 _ _ _ (Ee d)).trans rfl;have g7:(wr.setCell ⟨w.heap.size+1,6,none⟩ (.bool true)).frozen? ⟨w.heap.size+1,7,none⟩=false:=G4 _ _ 7 _ _ (Ee d);have zst:(store ⟨w.heap.size+1,7,none⟩ (.float .f64 n)).run A8 (wr.setCell ⟨w.heap.size+1,6,none⟩ (.bool true))=.ok () ((wr.setCell ⟨w.heap.size+1,6,none⟩ (.bool true)).setCell ⟨w.heap.size+1,7,none⟩ (.float .f64 n)):=by
        rw[run_store _ _ _ _ _ rfl,y7];dsimp only;rw[g7];rfl
      clear y7 g7;have v:=A6 (((wr.setCell ⟨w.heap.size+1,6,none⟩ (.bool true)).setCell ⟨w.heap.size+1,7,none⟩ (.float .f64 n)).heap[w.heap.size]?=some (.cells (Af e0 DJ d0) 109 (0,0))) ((Iq A4).trans ((Iq A4).trans u));have V:=A6 (((wr.setCell ⟨w.heap.size+1,6,none⟩ (.bool true)).setCell ⟨w.heap.size+1,7,none⟩ (.float .f64 n)).heap[w.heap.size+1]?=some (.cells (Af e0 DJ ⟨F,I,B,E,true,n⟩) 109 (0,0))) (by rw[Ee (Ee d.out)];rfl);have G:AF w w ((wr.setCell ⟨w.heap.size+1,6,none⟩ (.bool true)).setCell ⟨w.heap.size+1,7,none⟩ (.float .f64 n)):=LI (LI b A4) A4;cases F;cases B;cases J;cases p;rotate_left;rcases r with _|_|_|_;rotate_left 2
      iterate 2
        · replace hV:=hV.trans (AC rfl)
          have W:=A6 (FY d0 (l.map (·.toList))=FY ⟨false,I,false,E,true,n⟩ ((l.drop (k+1)).map (·.toList))) (by rw[hrun.out,aF.out,hV];rfl);clear hV;go_wp2_with fail;refine(j.out _).mono (AH ?_);go_wp2_with fail;go_roundw;exact⟨k+1,⟨false,I,false,E,true,n⟩,AP,A4,W,v,V,G⟩;exact AzF
      all_goals
        replace hV:=hV.trans (AA AN);have f:=A6 (EE (l.map (·.toList))=none) Wt;clear hV;go_wp2_with fail;refine(j.out _).mono (AH ?_);go_wp2_with(refine KW v (Af e0 DJ d0) ?_);exact OL rfl rfl rfl (Ia _ _ _ _ _ _ v) (.inl ⟨f,rfl,Au G (AG _) _⟩)
    have q3:((c:Int)==120)=false:=u8c.2 y;have f:=A6 (EE (l.map (·.toList))=none) (by unfold EE;rw[hrun.out,aF.out,D.out];unfold takeC;rw[AA c1,AA c2,AA y];rfl);rw[<-m.out]at U q2 q3;replace c1:=H0 c1;replace c2:=H0 c2;replace y:=H0 y;go_wp2_with(refine KW u (Af e0 DJ d0) ?_);refine OL rfl rfl rfl (Ia _ _ _ _ _ _ u) (.inl ⟨f,rfl,Au b (AG _) _⟩)
  · have iS:(l.length:Int)<=k:=A4
    have C:FY d0 (l.map (·.toList))=some st:=by rw[hrun.out,Cj A4];rfl
    have hD:=A6 (EE (l.map (·.toList))=if(st.hh&& !st.hw)=true then none else some st) (by unfold EE;rw[C];rfl);have bG:CA wr (.slice pa l.length c) l:=hrd.below b (AG _);clear hrun C;have x2:=BV _ _ 2 _ _ _ d;have x4:=BV _ _ 4 _ _ _ d;simp only[Af,GB,Ho,KB]at x2 x4;obtain⟨bw,iA⟩:=AI (st.hw);obtain⟨X,Y⟩:=AI (st.hh);rw[iA]at x2;rw[Y]at x4;rw[iA,Y]at hD;replace iA:=H0 iA;replace Y:=H0 Y;replace u:=H0 u;replace d:=H0 d;have s:(X=true/\bw=false)\/(X=false\/(X=true/\bw=true)):=by cases X<;>cases bw<;>simp
    rcases s with⟨rfl,rfl⟩|s
    · have f:Hid (EE (l.map (·.toList))=none):=hD
      go_wp2_with(refine KW u (Af e0 DJ d0) ?_);refine OL rfl rfl rfl (Ia _ _ _ _ _ _ u) (.inl ⟨f,rfl,Au b (AG _) _⟩)
    · have T:=A6 (EE (l.map (·.toList))=some st) (by rw[hD.out];rcases s with rfl|⟨rfl,rfl⟩<;>simp)
      clear hD;have oH:OwnS (wr.alloc (.cells #[] 9)) wr.heap.size 9 (.slice (some ⟨wr,0,none⟩) 0 0) []:=OwnS.empty (AG _);have O:=Ah wr (.cells #[] 9);obtain⟨pa3,y,sU,mR⟩:=bG.below O (AG _);obtain⟨rfl,-,rfl⟩:pa=pa3/\l.length=l.length/\c=y:=by simpa using sU
      clear sU;have fB:pa=none->c=0/\l=[]:=λh=>⟨aX.out h,by
        cases l with
        |nil=>rfl
        |cons a r=>obtain⟨g,o,e,_⟩:=hc.out AN;rw[h]at e;cases e⟩
      replace mR:=H0 mR;replace fB:=H0 fB;replace oH:=H0 oH;rcases s with rfl|⟨rfl,rfl⟩;all_goals
        go_wp2_with (first| (refine Lb Es rfl (.tmp 124) (.tmp 125) rfl l pa c rfl rfl fB mR oH O O.size (by unfold BK;simp;omega) B7 ?_;intro wv Q Z K;rw[Do]at Z;obtain⟨L,M,rfl,-⟩:=Z.read;have fG:Q.heap[w.heap.size]?=some (.cells (Af e0 DJ d0) 109 (0,0)):=(K.block _ A4).trans u;have S:Q.heap[w.heap.size+1]?=some (.cells (Af e0 DJ st) 109 (0,0)):=(K.block _ A4).trans d;have lG:(Q.setCell ⟨w.heap.size+1,1,none⟩ (.slice L l.length M)).heap[w.heap.size+1]?=some (.cells (Af e0 (.slice L l.length M) st) 109 (0,0)):=Ee S;have lF:(Q.setCell ⟨w.heap.size+1,1,none⟩ (.slice L l.length M)).heap[w.heap.size]?=some (.cells (Af e0 DJ d0) 109 (0,0)):=(Iq A4).trans fG;have y1:=BV _ _ 1 _ _ _ S;have f1:=G4 _ _ 1 _ _ S;simp only[Af,GB,Ho,KB]at y1;replace fG:=H0 fG;replace S:=H0 S;replace lF:=H0 lF;replace lG:=H0 lG;have aG:AF w w (Q.setCell ⟨w.heap.size+1,1,none⟩ (.slice L l.length M)):=LI (b.trans (K.mono A4)) A4;have q:∀cs,OwnS ((Q.setCell ⟨w.heap.size+1,1,none⟩ (.slice L l.length M)).setRow w cs) w.heap.size 9 (.slice L l.length M) l:=λcs=>(Z.chg (λi h1 h2=>(setRow_other _ _ _ _ A4).trans (Iq A4))).low A4;replace q:=H0 q;clear Z)|(refine At lG ?_)|(refine KW lF (Af e0 (.slice L l.length M) st) ?_))
        refine OL rfl rfl rfl (Ia _ _ _ _ _ _ lF) (.inr ⟨_,_,T,rfl,q.out _,Au aG (AG _) _⟩)
theorem YC:∀(st:Bool)(l:A5),Mm (Bl BP st l).2.1
 |st,[]=> .inl rfl
 |st,c::r=>by
  cases h:(BP st c).1
  ·rw[NH h];refine .inr ⟨c,r,rfl,?_⟩;unfold BP at h;cases st
   ·rw[AA AE]at h;split at h
    ·cases h
    split at h
    ·assumption
    ·cases h
   simp_all
  rw[OI h];exact YC _ r
def Amv:∀(n:Nat)(l:A5),l.length<=n->Mm l->((Cz l).1.flatMap (λt=>32::t)).length+(Cz l).2.length<=l.length:=by
 intro n;induction n with
 |zero=>
  intro l a _;obtain rfl:l=[]:=EP A4;decide
 |succ n ih=>
  intro l a c;rw[Lt];by_cases h:(Bl BP false (l.dropWhile BX)).1=[]
  ·rw[AC h];simpa using(GL BX l)
  rw[AA h];have f:(l.dropWhile BX).length+1<=l.length:=by
   rcases c with rfl|⟨b,X,rfl,d⟩
   ·exact absurd rfl h
   ·cases hbl:BX b
    ·exfalso;have e:(b::X).dropWhile BX=b::X:=by simp_all
     rw[e,YR (.inr ⟨b,X,rfl,d⟩)]at h;exact h rfl
    simp_all[GL]
  grind[PA,YC]
def Aku(u:A5):(FO u).length<=u.length:=by
 unfold FO;rw[List.length_reverse];have:=GL (λc=>c==44) u.reverse;rwa[List.length_reverse]at this
def Azh(l:A5):Mm (l.dropWhile BS):=by
 cases hd:l.dropWhile BS with
 |nil=>exact .inl rfl
 |cons c r=>
  refine .inr ⟨c,r,rfl,?_⟩;have:=JI BS l hd;unfold BS at this;unfold BD;rw[show BX c=true by simp_all];exact NY _
def Amc(l:A5):(C3 l).1.1.length+((C3 l).1.2.flatMap (λt=>32::t)).length+(C3 l).2.length<=l.length:=by
 have a:=congrArg List.length (Qj (p:=BS) (l:=l));rw[Aa]at a;unfold C3;split
 ·have:=Aku (l.takeWhile BS);simp[List.flatMap_nil,Ep];omega
 dsimp only;have:=Amv _ _ (AG _) (Azh l);rw[C7];omega
def AsR(a b:List Dw):Da (a++b)=Da a++Da b:=by unfold Da;rw[Jh]
def Aet:∀(n:Nat)(l:A5),l.length<=n->(Da (BW l)).length<=3*l.length:=by
 intro n;induction n with
 |zero=>
  intro l f;obtain rfl:l=[]:=EP A4;decide
 |succ n ih=>
  intro l f;have b:=GL BD l;rw[Lq];cases hd:l.dropWhile BD with
  |nil=>rw[AC rfl];exact AR _
  |cons c r=>
   rw[hd]at b;have d:=JI BD l hd;have i:=Qs (r:=r) d;have g:r.length+1<=l.length:=b;have j:=Amc (c::r);have h:=ih (C3 (c::r)).2 A4;rw[AA AN,AsR,Aa];have a:=Adn (r:=r) d;unfold GM at a⊢;cases hq:EE (C3 (c::r)).1.2 with
   |none=>rw[hq]at a;show 0+_<=_;omega
   |some st=>
    rw[hq]at a;have e:(Da [⟨(C3 (c::r)).1.1,(C3 (c::r)).1.2,st⟩]).length=2+((C3 (c::r)).1.1.length+((C3 (c::r)).1.2.flatMap (λt=>32::t)).length):=by
     unfold Da DA;grind
    grind
def Ase(l:List Dw):(Cf l).length<=(Da l).length:=by
 cases l with
 |nil=>exact AG _
 |cons c r=>
  unfold Cf;have e:Da (c::r)=[44,32]++DA c++Da r:=by unfold Da;simp
  rw[e,Aa,Aa,Aa];omega
def Av5(u:A9)(wv:AJ)(st:Dm):(A8.info? 109).map (·.size)=some (Af u wv st).toList.length:=AO
def sT(l:A5):A9:=⟨l.toArray⟩
def KI.built(w:A7)(l:List GK)(c:Nat)(h:∀d∈l,CA w d.wv d.ws):KI (w.alloc (.cells (l.flatMap Kl).toArray 109)) (.slice (some ⟨w,0,none⟩) l.length c) l:=by
 refine⟨_,c,rfl,λ_=>⟨_,0,rfl,λi e j v a=> ?_⟩,λd f=>(h d f).below ((AU w w).alloc (AG _) _) (AG _)⟩;have b:j<8:=by
  have:=(Hk.1 a).1;rwa[Rs]at this
 have hc:=BV (w.alloc (.cells (l.flatMap Kl).toArray 109)) w.heap.size (i*8+j) _ _ _ (CB w _);rw[Db,hc,GB,XU l i e j b];exact a
variable{pa:Option Addr}
def KI.take{c b:Nat}(h:KI w (.slice pa n c) l)(k:Nat)(s:k<=l.length):KI w (.slice pa k b) (l.take k):=by
 obtain⟨e,c2,f,h1,q⟩:=h;cases f;have a:(l.take k).length=k:=Fx;refine⟨pa,b,by rw[a],λj=> ?_,λd m=>q d (List.mem_of_mem_take m)⟩;rw[a]at j;obtain⟨g,o,rfl,r⟩:=h1 A4;refine⟨g,o,rfl,λi p=> ?_⟩;rw[a]at p;rw[List.getElem_take];exact r i A4
structure QT(w:A7)(pa:Option Addr)(n c:Nat)(l:List GK)(L:List Dw):Prop where
 read:KI w (.slice pa n c) l
 len:l.length=n
 list:l.map Hv=L
 nan:∀c∈l,At3 c.st.d
 ws:∀c∈l,c.ws.length<=1000000000
 small:n<=1000000000
 sz:∀c∈l,∀x∈c.ws,x.size<=1000000000
 uz:∀c∈l,c.url.size<=1000000000
def QT.below{c:Nat}{L:List Dw}(h:QT w pa n c l L)(a:AF K w w')(b:w.heap.size<=K):QT w' pa n c l L:=
 ⟨h.read.below a b,h.len,h.list,h.nan,h.ws,h.small,h.sz,h.uz⟩
def QT.none{c:Nat}(h:QT w pa n c l []):n=0:=by
 rw[<-h.len,List.map_eq_nil_iff.1 h.list];rfl
def GU(ws:List A9):A5:=ws.flatMap (λt=>32::t.toList)
def AoN{ws:List A9}{k:Nat}(h:k<ws.length):GU (ws.take (k+1))=GU (ws.take k)++32::ws[k].toList:=by
 unfold GU;rw[List.take_add_one,Cs h,Option.toList_some,Jh];simp[GV,List.flatMap_nil,Bq]
def Ajg(ws:List A9)(k:Nat):(GU (ws.take k)).length<=(GU ws).length:=by
 have e:GU ws=GU (ws.take k)++GU (ws.drop k):=by unfold GU;rw[<-Jh,F7]
 rw[e,Aa];omega
def R2(k:Nat):A5:=if k=0 then[]else[44,32]
end Go.Proofs.YtonomfeipkdmhaaGreatDoor
