/- Part 27: lemmas. -/
import Derived.Test.YtonomfeipkdmhaaGreatDoorK26
set_option linter.unusedVariables false
set_option linter.unusedSimpArgs false
set_option maxRecDepth 100000
set_option maxHeartbeats 16000000
namespace Go.Proofs.YtonomfeipkdmhaaGreatDoor
open Go.RowKit Go.Proofs.Tryz
structure AP where
 right:Bool
 url:Al
 wv:Value
 ws:List ByteArray
def Au (r:Bool) (u:Al) (wv:Value):Array Value:= #[.bool r,.string u.scheme,.string u.user,.string u.pass,.int .i64 u.host.kind,.string u.host.name,.int .u32 (u.host.four:Int),.int .u16 ((pc u.host.six 0:Nat):Int),.int .u16 ((pc u.host.six 1:Nat):Int),.int .u16 ((pc u.host.six 2:Nat):Int),.int .u16 ((pc u.host.six 3:Nat):Int),.int .u16 ((pc u.host.six 4:Nat):Int),.int .u16 ((pc u.host.six 5:Nat):Int),.int .u16 ((pc u.host.six 6:Nat):Int),.int .u16 ((pc u.host.six 7:Nat):Int),
 .bool u.hasPort,.int .i64 u.port,.bool u.flatP,.string u.flat,.slice u.pathA u.path.length u.pathC,.bool u.hasQuery,.string u.query,.bool u.hasFrag,.string u.frag,wv]
def AP.c (x:AP):Array Value:=Au x.right x.url x.wv
def Dh (x:AP):List Value:=x.c.toList
theorem Hc (x:AP):(Dh x).length=25:=rfl
theorem Zk (r:Bool) (u:Al) (wv:Value) (j:Nat) (h:j<23):(Au r u wv)[1+j]? =(Ab u)[j]? :=by
 match j,h with
 | 0,_=>rfl | 1,_=>rfl | 2,_=>rfl | 3,_=>rfl | 4,_=>rfl | 5,_=>rfl | 6,_=>rfl | 7,_=>rfl | 8,_=>rfl | 9,_=>rfl | 10,_=>rfl | 11,_=>rfl
 | 12,_=>rfl | 13,_=>rfl | 14,_=>rfl | 15,_=>rfl | 16,_=>rfl | 17,_=>rfl | 18,_=>rfl | 19,_=>rfl | 20,_=>rfl | 21,_=>rfl | 22,_=>rfl
 | n+23,h=>omega
structure VB (x:AP) (it:BR):Prop where
 right:x.right=it.right
 url:Gt x.url it.url
 ws:x.ws.map (·.toList)=it.ws
def Dx:List AP->List BR->Prop
 | [],[]=>True
 | x :: l,it :: L=>VB x it/\Dx l L
 | _,_=>False
theorem Dx.len:∀ {l:List AP} {L:List BR},Dx l L->l.length=L.length
 | [],[],_=>rfl
 | _ :: _,_ :: _,h=>by rw [List.length_cons,List.length_cons,Dx.len h.2]
 | [],_ :: _,h=>h.elim
 | _ :: _,[],h=>h.elim
theorem Dx.snoc:∀ {l:List AP} {L:List BR} {x:AP} {it:BR},Dx l L->VB x it->Dx (l++[x]) (L++[it])
 | [],[],_,_,_,h=>⟨h,trivial⟩
 | _ :: _,_ :: _,_,_,h,h2=>⟨h.1,Dx.snoc h.2 h2⟩
 | [],_ :: _,_,_,h,_=>h.elim
 | _ :: _,[],_,_,h,_=>h.elim
theorem Dx.get:∀ {l:List AP} {L:List BR},Dx l L->∀ (i:Nat) (h:i<l.length) (h2:i<L.length),VB l[i] L[i]
 | _ :: _,_ :: _,h,0,_,_=>h.1
 | _ :: _,_ :: _,h,i+1,h1,h2=>Dx.get h.2 i (by simpa using h1) (by simpa using h2)
 | [],[],_,i,h1,_=>absurd h1 (by simp)
 | [],_ :: _,h,_,_,_=>h.elim
 | _ :: _,[],h,_,_,_=>h.elim
structure HQ (w:World) (B:Nat) (x:AP):Prop where
 path:AI w B 9 (.slice x.url.pathA x.url.path.length x.url.pathC) x.url.path
 words:AI w B 9 x.wv x.ws
structure I9 (w:World) (x:AP):Prop where
 path:DJ w x.url.pathA x.url.path.length x.url.pathC x.url.path
 cap:x.url.path.length<=x.url.pathC
 words:Fg w x.wv x.ws
theorem HQ.read {w:World} {B:Nat} {x:AP} (h:HQ w B x):I9 w x:=by
 obtain ⟨pa,c,e,hc,hr⟩:=BA h.path;cases e;exact ⟨hr,hc,h.words.read⟩
theorem HQ.chg {w w':World} {B:Nat} {x:AP} (h:HQ w B x) (hc:∀ k,B<=k->k<w.heap.size->w'.heap[k]? =w.heap[k]?):HQ w' B x:=⟨h.path.chg hc,h.words.chg hc⟩
theorem HQ.low {w:World} {B B':Nat} {x:AP} (h:HQ w B' x) (hB:B<=B'):HQ w B x:=⟨h.path.low hB,h.words.low hB⟩
theorem I9.below {w w':World} {K:Nat} {x:AP} (h:I9 w x) (hb:Below K w w') (hK:w.heap.size<=K):I9 w' x:=⟨h.path.below hb hK,h.cap,h.words.below hb hK⟩
theorem I9.urlW {w:World} {x:AP} {u:Aq} (h:I9 w x) (hi:Gt x.url u):DI w x.url u:=⟨hi,h.path,h.cap⟩
def Cb (w:World) (B:Nat) (v:Value) (l:List AP):Prop:=w.ownsRow B 48 25 v l.length (l.flatMap Dh)/\∀ x∈l,HQ w B x
def FL (w:World) (v:Value) (l:List AP):Prop:=
 ∃ pa c,v= .slice pa l.length c/\l.length<=c/\(0<l.length->∃ g o,pa=some ⟨g,o,none⟩/\∀ i (h:i<l.length),w.rangeAt g (o+i * 25) (Dh l[i]))/\∀ x∈l,I9 w x
theorem Cb.nil (w:World) (B:Nat):Cb w B (.slice none 0 0) []:=⟨World.ownsRow_nil _ _ _ _,fun c hc=>by cases hc⟩
theorem Cb.chg {w w':World} {B:Nat} {v:Value} {l:List AP} (h:Cb w B v l) (hc:∀ k,B<=k->k<w.heap.size->w'.heap[k]? =w.heap[k]?):Cb w' B v l:=
 ⟨NR h.1 hc,fun c hm=>(h.2 c hm).chg hc⟩
theorem Cb.low {w:World} {B B':Nat} {v:Value} {l:List AP} (h:Cb w B' v l) (hB:B<=B'):Cb w B v l:=⟨Nt h.1 hB,fun c hm=>(h.2 c hm).low hB⟩
theorem Cb.below {w w':World} {B:Nat} {v:Value} {l:List AP} (h:Cb w B v l) (hb:Below w.heap.size w w'):Cb w' B v l:=h.chg fun k _ hk=>hb.block k hk
theorem FL.below {w w':World} {K:Nat} {v:Value} {l:List AP} (h:FL w v l) (hb:Below K w w') (hK:w.heap.size<=K):FL w' v l:=by
 obtain ⟨pa,c,rfl,hc,h1,h2⟩:=h;refine ⟨pa,c,rfl,hc,fun h0=> ?_,fun x hx=>(h2 x hx).below hb hK⟩
 obtain ⟨g,o,e,hr⟩:=h1 h0;exact ⟨g,o,e,fun i hi=>Fu (hr i hi) hb hK⟩
theorem AcW:∀ (l:List AP) (i:Nat) (h:i<l.length) (j:Nat),j<25->(l.flatMap Dh)[i * 25+j]? =(Dh l[i])[j]?
 | [],i,h,j,hj=>by simp at h
 | a :: r,0,h,j,hj=>by
  rw [List.flatMap_cons,Nat.zero_mul,Nat.zero_add,List.getElem?_append_left (by rw [Hc];exact hj)];rfl
 | a :: r,i+1,h,j,hj=>by
  rw [List.flatMap_cons,List.getElem?_append_right (by rw [Hc];omega),Hc,show (i+1) * 25+j - 25=i * 25+j by omega]
  exact AcW r i (by simpa using h) j hj
theorem Cb.read {w:World} {B:Nat} {v:Value} {l:List AP} (h:Cb w B v l):FL w v l:=by
 obtain ⟨hr,hw⟩:=h;have hr2:=hr;rcases hr.2 with ⟨rfl,hn⟩ | ⟨g,cap,cur,rfl,hg,hh,hcap,hml,hcs,hcur⟩
 ·exact ⟨none,0,by rw [hn],by omega,fun h0=>by omega,fun c hc=>(hw c hc).read⟩
 ·refine ⟨_,cap,rfl,hcap,fun _=>⟨g,0,rfl,fun i hi j v hv=> ?_⟩,fun c hc=>(hw c hc).read⟩
  have hj:j<25:=by
   have:=(List.getElem?_eq_some_iff.1 hv).1
   rwa [Hc] at this
  have hlt:i * 25+j<l.length * 25:=by omega
  rw [Nat.zero_add];have e:=World.ownsRow.cellAt hr2 (i * 25+j) hlt;rw [e,AcW l i hi j hj];exact hv
theorem Acp:∃ i,prog.info? 48=some i/\i.zero=some (.agg (Au false zS (.slice none 0 0)))/\i.size=25/\i.bytes=240:=info_parts (by kernel_rfl)
theorem DT (r:Bool) (u:Al) (wv:Value):(prog.info? 48).map (·.size)=some (Au r u wv).size:=by show _=some 25;kernel_rfl
theorem JZ (x:AP):(prog.info? 48).map (·.size)=some (Dh x).length:=by show _=some 25;kernel_rfl
theorem AI.off2 {w w':World} {B B':Nat} {v u:Value} {l:List ByteArray} {n:Nat} {xs:List Value} (h:AI w B 9 v l) (hr:w.ownsRow B' 48 25 u n xs) (hg:w.grownBy w' u.ownBlock):AI w' B 9 v l:=by
 refine ⟨h.1,?_⟩;rcases h.2 with hn | ⟨k,cap,cur,rfl,hk,hh,rest⟩
 ·exact .inl hn
 ·refine .inr ⟨k,cap,cur,rfl,hk,(hg.block k (Array.getElem?_eq_some_iff.1 hh).1 ?_).trans hh,rest⟩;rcases hr.2 with ⟨rfl,_⟩ | ⟨g,cap2,cur2,rfl,_,hh2,_⟩
  ·exact fun e=>by cases e
  ·intro e;obtain rfl:k=g:=by simpa [Value.ownBlock] using e
   rw [hh] at hh2;simp at hh2
theorem HQ.off {w w':World} {B B':Nat} {x:AP} {u:Value} {n:Nat} {xs:List Value} (h:HQ w B x) (hr:w.ownsRow B' 48 25 u n xs) (hg:w.grownBy w' u.ownBlock):HQ w' B x:=⟨h.path.off2 hr hg,h.words.off2 hr hg⟩
theorem Wu (r:Bool) (u:Al) (wv:Value) (h:wv.oneCell'=true):∀ v∈(Au r u wv).toList,v.oneCell'=true:=by
 intro v hv;simp only [Au,List.mem_cons,List.not_mem_nil,or_false] at hv;rcases hv with rfl | rfl | rfl | rfl | rfl | rfl | rfl | rfl | rfl | rfl | rfl | rfl | rfl | rfl | rfl | rfl | rfl | rfl | rfl | rfl | rfl | rfl | rfl | rfl | rfl
 all_goals first | rfl | exact h
theorem Jh (r:Bool) (u:Al) (wv:Value) (h:wv.oneCell'=true):(Au r u wv).all (·.oneCell')=true:=by
 rw [Array.all_eq_true_iff_forall_mem];exact fun v hv=>Wu r u wv h v (by simpa using hv)
theorem KH {ops:Array Oper} {rest:List Oper} {o:Oper} {a:Act} {Q:Exit->Act->World->Prop}
  (hgd:o.guard=none) (s x:Operand) (ho:o.op= .call { callee:= .builtin .append,args:= #[s,x],argTypes:= #[42,42] })
  {W0 w0:World} {B:Nat} {v:Value} {l:List AP} (c:AP) (hs:a.eval s=v) (hx:a.eval x= .slice (some ⟨w0.heap.size,0,none⟩) 1 1)
  (hown:Cb w0 B v l) (hnew:HQ w0 B c) (hbel:Below B W0 w0) (hB:B<=w0.heap.size) (hl:l.length<=1000000000)
  (h:∀ v' w',Cb w' B v' (l++[c])->Below B W0 w'->w0.grownBy w' v.ownBlock->wpList prog ops Q rest (a.put o.dst v') w'):
  wpList prog ops Q (o :: rest) a (w0.alloc (.cells (Au c.right c.url c.wv) 48)):=by
 obtain ⟨i,hi,hz,hs1,hb1⟩:=Acp;have hgr:w0.grownBy (w0.alloc (.cells (Au c.right c.url c.wv) 48)) none:=World.grownBy_alloc _ _ _;have hgr2:w0.grownBy (w0.alloc (.cells (Au c.right c.url c.wv) 48)) v.ownBlock:=World.grownBy_alloc _ _ _;have hr:=hown.1.alloc (.cells (Au c.right c.url c.wv) 48)
 have hws:∀ d∈l++[c],HQ (w0.alloc (.cells (Au c.right c.url c.wv) 48)) B d:=by
  intro d hd;rcases List.mem_append.1 hd with hd | hd
  ·exact ⟨(hown.2 d hd).path.alloc _,(hown.2 d hd).words.alloc _⟩
  ·rw [List.mem_singleton.1 hd];exact ⟨hnew.path.alloc _,hnew.words.alloc _⟩
 refine wpList_append_own _ hgd s x 42 ho B 48 i _ 25 240 underlying42 hi hz hs1 hb1 rfl (by decide) v l.length _ hs hr ⟨w0.heap.size,0,none⟩ 1 1 (Dh c) hx rfl ?_ (Wu _ _ _ hnew.words.one) (by unfold maxLen;omega) (by omega) (by simp;omega) ?_
 ·intro j u hj;have hc:=cell_of_row (w0.alloc (.cells (Au c.right c.url c.wv) 48)) w0.heap.size j _ _ _ (heap_alloc_new w0 _)
  have e:(⟨w0.heap.size,0,none⟩:Addr).add j=⟨w0.heap.size,j,none⟩:=by cases j<;>simp [Addr.add]
  rw [e,hc];unfold Dh AP.c at hj;rw [Array.getElem?_toList] at hj;exact hj
 ·intro v' w' hown' hgrow hnil;refine h v' w' ⟨?_,?_⟩ ((hbel.alloc hB _).grown hgrow (by simp;omega) (fun k hk=>(World.ownsRow.lt hr k hk).1)) (hgr2.trans hgrow)
  ·rw [List.length_append,List.flatMap_append];simpa using hown'
  ·exact fun d hd=>(hws d hd).off hr hgrow
theorem Iq {ops:Array Oper} {rest:List Oper} {o:Oper} {a:Act} {w:World} {Q:Exit->Act->World->Prop} (hg:o.guard=none) (x:Operand) (ho:o.op= .buildSlice 42 1 #[(0,x)])
  (r:Bool) (u:Al) (wv:Value) (hx:a.eval x= .agg (Au r u wv))
  (h:wpList prog ops Q rest (a.put o.dst (.slice (some ⟨w.heap.size,0,none⟩) 1 1)) (w.alloc (.cells (Au r u wv) 48))):wpList prog ops Q (o :: rest) a w:=by
 obtain ⟨i,hi,hz,hs1,hb1⟩:=Acp;refine wpList_buildSlice hg 42 48 1 _ ho (Au r u wv) i _ underlying42 hi hz (by rw [hs1];omega) (by rw [hs1];omega) ?_ h
 rw [hs1];rw [Array.toList_map];show Instr.fill _ _ [(0,a.eval x)]=_;rw [hx]
 kernel_rfl
theorem Zw {w:World} {B:Nat} {x:AP} (h:HQ w B x) (hB:B<=w.heap.size):Cb (w.alloc (.cells (Au x.right x.url x.wv) 48)) B (.slice (some ⟨w.heap.size,0,none⟩) 1 1) [x]:=by
 refine ⟨⟨by show ([x].flatMap Dh).length=1 * 25;rfl,.inr ⟨w.heap.size,1,Au x.right x.url x.wv,rfl,hB,heap_alloc_new w _,Nat.le_refl _,by unfold maxLen;decide,rfl,?_⟩⟩,?_⟩
 ·show (Au x.right x.url x.wv).toList.take (1 * 25)=Dh x++[];rw [List.append_nil]
  kernel_rfl
 ·intro d hd;rw [List.mem_singleton.1 hd];exact ⟨h.path.alloc _,h.words.alloc _⟩
theorem Co {S:Al} {u:Aq} (h:Gt S u) {L:List (List UInt8)} {pa:Option Addr} {c:Nat} {l:List ByteArray} (hl:l.map (·.toList)=L):Gt (Ak S pa c l) (Bw u L):=
 ⟨h.scheme,h.user,h.pass,h.host,h.hasPort,h.port,h.opq,h.flat,hl,h.hasQuery,h.query,h.hasFrag,h.frag⟩
def Ec (S:Al) (h:CL):Al:=⟨S.scheme,S.user,S.pass,h,S.hasPort,S.port,S.flatP,S.flat,S.pathA,S.pathC,S.path,S.hasQuery,S.query,S.hasFrag,S.frag⟩
theorem Wm {S:Al} {u:Aq} (h:Gt S u) (x:Bz):Gt (Ec S (Am x)) (Bk u x):=
 ⟨h.scheme,h.user,h.pass,rfl,h.hasPort,h.port,h.opq,h.flat,h.path,h.hasQuery,h.query,h.hasFrag,h.frag⟩
theorem Pu (h:Bz):(h= .name Et/\(Am h).kind=2/\((Am h).name.toList==Et)=true)\/(h≠ .name Et/\(Am h).kind=2/\((Am h).name.toList==Et)=false)\/(h≠ .name Et/\((Am h).kind==2)=false):=by
 cases h with
 | name n=>
  by_cases hn:n=Et
  ·left;subst hn;exact ⟨rfl,rfl,by rw [show (Am (.name Et)).name.toList=Et from toList_mk _];exact beq_self_eq_true _⟩
  ·right;left;exact ⟨fun e=>hn (Bz.name.inj e),rfl,by rw [show (Am (.name n)).name.toList=n from toList_mk _];simpa using hn⟩
 | none=>exact .inr (.inr ⟨by simp,by decide⟩)
 | empty=>exact .inr (.inr ⟨by simp,by decide⟩)
 | four n=>exact .inr (.inr ⟨by simp,by show ((3:Int)==2)=false;decide⟩)
 | six l=>exact .inr (.inr ⟨by simp,by show ((4:Int)==2)=false;decide⟩)
 | opaqueN n=>exact .inr (.inr ⟨by simp,by show ((5:Int)==2)=false;decide⟩)
theorem AJ.keepS {w w':World} {g:Nat} {S:Al} (h:AJ w g (Ab S) 34) (hb:Below w.heap.size w w'):AJ w' g (Ab S) 34/\w'.cell? ⟨g,0,none⟩=some (.string S.scheme):=⟨h.keep hb,((h.keep hb).at 0).trans rfl⟩
theorem Tw (g:Nat) (S:Al) (u:Aq) (s:ByteArray) (w:World) (hE:GZ w) (hg:AJ w g (Ab S) 34) (hi:Gt S u) (hz:s.size<=1100000):
  Calls prog 208 #[.pointer (some ⟨g,0,none⟩),.string s] w (Ot g (GO u s.toList) w):=by
 obtain ⟨R,hR⟩:=N2 (GO u s.toList);rw [hR];have hv:=hR.symm;unfold GO at hv;replace hR:=H0 hR;have hcs:=H0 (fun w=>Sv s true w (by omega))
 have hcl:=MH true s.toList;have hpo:=H0 (fun (x:ByteArray) w hz=>Qd S.scheme x w hz)
 have hse:=H0 (fun w=>Bm S.scheme none 0 0 [] s w (C2 w) (by decide) hz (fun t h=>by cases h))
 rw [hi.scheme] at hpo hse;obtain ⟨C,hC⟩:=N2 (BK true s.toList);rw [hC] at hcl hv hcs;rw [Aa] at hcl;replace hv:=H0 hv;replace hC:=H0 hC;have hE':=H0 hE;have hi':=H0 hi;replace hg:=H0 hg;clear hE hi;go_enter func208,ntmps208;go_wp2_with fail;refine (hcs.out _).mono ?_;rintro e w1 ⟨a,b,rfl,ha,hb,hbel⟩;have haz:a.size<=1100000:=by rw [<-Aa,ha.out];omega
 have hbz:b.size<=1100000:=by rw [<-Aa,hb.out];omega
 have hdr:=H0 (fun w=>Ko a w (by omega))
 rw [ha.out] at hdr;obtain ⟨hg1,x0⟩:=hg.out.keepS hbel;have hc1:BI (fun k=>k=g) w w1:=(BI.refl _ _).next hbel
 have hE1:=hE'.out.next hbel
 clear hbel hcs hg;replace hg1:=H0 hg1;replace hc1:=H0 hc1;replace hE1:=H0 hE1;obtain ⟨D,hD⟩:=N2 (BT C.1);rw [hD] at hdr hv;replace hD:=H0 hD
 cases D with
 | true=>
  have hf:Hid (R=some (Bw u (Dl u.scheme [] s.toList))):=H0 (hv.out.trans (if_pos rfl));clear hv hpo;go_wp2_with (go_at_call 265;refine (hdr.out _).mono ?_;rintro e w' ⟨rfl,rfl⟩);refine (hse.out _).mono ?_;rintro e w5 ⟨v,l,rfl,hl,ho,hb5⟩;have hg4:=hg1.out.lt;have hs4:=hc1.out.size;have hg5:=hg1.out.keep hb5;have hc5:=hc1.out.next hb5
  obtain ⟨pa,c,rfl,hlc,-⟩:=BA ho;clear x0 hb5 hse;go_wp2_with (refine Ad rfl _ _ _ rfl g 18 rfl (.slice pa l.length c) rfl rfl _ (Ab S) (Ab (Ak S pa c l)) hg5 Bn (by show 18+1<=23;decide) rfl (by kernel_rfl) ?_)
  go_end0;exact Dc hf.out (hg5.set _) (Er.row (B:=w1.heap.size) ⟨Co hi'.out hl.out,ho⟩ hg4 hs4 _) (hc5.row rfl _)
 | false=>
  have hv1:=hv.out;rw [if_neg (by decide)] at hv1
  clear hv hse
  by_cases hne:C.1=[]
  ·rw [if_pos hne] at hv1;have hae:a.toList.isEmpty=true:=by rw [ha.out,hne];rfl
   have hf:Hid (R=some (Bw u (BZ u.scheme b.toList))):=H0 (hv1.trans (by rw [hb.out]))
   replace hv1:=H0 hv1;replace hne:=H0 hne;go_wp2_with (go_at_call 265;refine (hdr.out _).mono ?_;rintro e w' ⟨rfl,rfl⟩);refine (hpo.out b _ hbz).mono ?_;rintro e w5 ⟨v,l,rfl,hl,ho,hb5⟩;have hg4:=hg1.out.lt;have hs4:=hc1.out.size;have hg5:=hg1.out.keep hb5;have hc5:=hc1.out.next hb5
   obtain ⟨pa,c,rfl,hlc,-⟩:=BA ho;clear x0 hb5 hpo;go_wp2_with (refine Ad rfl _ _ _ rfl g 18 rfl (.slice pa l.length c) rfl rfl _ (Ab S) (Ab (Ak S pa c l)) hg5 Bn (by show 18+1<=23;decide) rfl (by kernel_rfl) ?_)
   go_end0;exact Dc hf.out (hg5.set _) (Er.row (B:=w1.heap.size) ⟨Co hi'.out hl.out,ho⟩ hg4 hs4 _) (hc5.row rfl _)
  ·rw [if_neg hne] at hv1
   have hae:a.toList.isEmpty=false:=by
    rw [ha.out]
    cases hx:C.1 with
    | nil=>exact absurd hx hne
    | cons p q=>rfl
   replace hne:=H0 hne;have hho:=H0 (fun w hE=>KK a true w hE haz)
   rw [ha.out] at hho;obtain ⟨O,hO⟩:=N2 (DO C.1 true);rw [hO] at hv1 hho;replace hO:=H0 hO;replace hv1:=H0 hv1;go_wp2_with (go_at_call 265;refine (hdr.out _).mono ?_;rintro e w' ⟨rfl,rfl⟩);refine (hho.out _ hE1.out).mono ?_;rintro e w2 ⟨rfl,hb2⟩;have hg2:=hg1.out.keep hb2;have hc2:=hc1.out.next hb2
   have hgl2:g<w2.heap.size:=hg2.lt;clear hb2 hho hg1 hc1 hE1 x0
   cases O with
   | none=>
    have hf:Hid (R=none):=H0 hv1.out;replace hg2:=H0 hg2;replace hc2:=H0 hc2;go_wp2_with (refine Ag rfl 32 _ _ rfl rfl (An (Am .none)) _ _ _ rfl (by simp) rfl AN rfl (A2 _) ?_)
    exact ⟨rfl,Ly hf.out (hc2.out.alloc _)⟩
   | some h=>
    have hf:Hid (R=some (Bw (if h= .name Et then u else Bk u h) (BZ u.scheme b.toList))):=H0 (hv1.out.trans (by rw [hb.out]))
    clear hv1;have hI:G5 w (w2.alloc (.cells (An (Am h)) 32)) g (Ab S) w2.heap.size (An (Am h)) 32:=⟨Nat.ne_of_gt hgl2,hc2.alloc _,hg2.alloc _,AJ.new _ _ _⟩;clear hg2 hc2;go_upto_region 5 with (refine Ag rfl 32 _ _ rfl rfl (An (Am h)) _ _ _ rfl (by simp) rfl AN rfl (A2 _) ?_)
    refine Ar (R:=fun wx=>G5 w wx g (Ab S) w2.heap.size (An (Am h)) 32) hI ?_
    clear hI;intro w3 hI;obtain ⟨q,hq⟩:=N2 (w2.heap.size);rw [hq] at hI⊢;have hways:=Pu h;have hi2:=H0 (Wm hi'.out h);obtain ⟨H,hH⟩:=N2 (Am h);rw [hH] at hI hways hi2;have y0:=(hI.a.at 0).trans (show (An H)[0]? =some (.int .i64 H.kind) from rfl);have y1:=(hI.a.at 1).trans (show (An H)[1]? =some (.string H.name) from rfl);have x0:=(hI.g.at 0).trans (show (Ab S)[0]? =some (.string S.scheme) from rfl);replace hH:=H0 hH;obtain ⟨k,hk⟩:=N2 (H.kind);rw [hk] at hways y0;replace hk:=H0 hk;clear hq hgl2 hae;have same:∀ (wy:World) (S2:Al) (u2:Aq),Gt S2 u2->u2.scheme=u.scheme->S2.scheme=S.scheme->True:=fun _ _ _ _ _ _=>trivial
    clear same;rcases hways with ⟨e1,rfl,nm⟩ | ⟨e1,rfl,nm⟩ | ⟨e1,kk⟩
    ·rw [if_pos e1] at hf;replace e1:=H0 e1;rw [show Et=[108,111,99,97,108,104,111,115,116] from rfl] at nm;go_wp2_with fail;refine (hpo.out b _ hbz).mono ?_;rintro e w5 ⟨v,l,rfl,hl,ho,hb5⟩;have hg4:=hI.g.lt;have hs4:=hI.chg.size;replace hI:=hI.keep hb5;obtain ⟨pa,c,rfl,hlc,-⟩:=BA ho;clear x0 y0 y1 hb5 hpo;go_wp2_with (refine Ad rfl _ _ _ rfl g 18 rfl (.slice pa l.length c) rfl rfl _ (Ab S) (Ab (Ak S pa c l)) hI.g Bn (by show 18+1<=23;decide) rfl (by kernel_rfl) ?_)
     go_end0;exact Dc hf.out (hI.g.set _) (Er.row (B:=w3.heap.size) ⟨Co hi'.out hl.out,ho⟩ hg4 hs4 _) (hI.set _).chg
    ·rw [if_neg e1] at hf;replace e1:=H0 e1;rw [show Et=[108,111,99,97,108,104,111,115,116] from rfl] at nm;have hI2:=hI.set (Ab (Ec S H));have x02:=(hI2.g.at 0).trans (show (Ab (Ec S H))[0]? =some (.string S.scheme) from rfl);replace hI2:=H0 hI2
     go_wp2_with (first
      | (refine wpList_load_row rfl 32 _ rfl q rfl _ (An H) _ _ hI.a underlying32 rfl AN ?_)
      | (refine BF rfl _ _ _ rfl g 3 rfl (.agg (An H)) rfl (An H) rfl _ (Ab S) (Ab (Ec S H)) hI.g AN (by show 3+11<=23;decide) (A2 _) (by kernel_rfl) ?_))
     refine (hpo.out b _ hbz).mono ?_;rintro e w5 ⟨v,l,rfl,hl,ho,hb5⟩;have hg4:=hI2.out.g.lt;have hs4:=hI2.out.chg.size;replace hI:=hI2.out.keep hb5;obtain ⟨pa,c,rfl,hlc,-⟩:=BA ho;clear x0 x02 y0 y1 hb5 hpo hI2;go_wp2_with (refine Ad rfl _ _ _ rfl g 18 rfl (.slice pa l.length c) rfl rfl _ (Ab (Ec S H)) (Ab (Ak (Ec S H) pa c l)) hI.g Bn (by show 18+1<=23;decide) rfl (by kernel_rfl) ?_)
     go_end0;exact Dc hf.out (hI.g.set _) (Er.row (B:=(w3.setRow g (Ab (Ec S H))).heap.size) ⟨Co hi2.out hl.out,ho⟩ hg4 hs4 _) (hI.set _).chg
    ·rw [if_neg e1] at hf;have kk2:(k != 2)=true:=by rw [bne,kk];rfl
     replace e1:=H0 e1;have hI2:=hI.set (Ab (Ec S H));have x02:=(hI2.g.at 0).trans (show (Ab (Ec S H))[0]? =some (.string S.scheme) from rfl);replace hI2:=H0 hI2
     go_wp2_with (first
      | (refine wpList_load_row rfl 32 _ rfl q rfl _ (An H) _ _ hI.a underlying32 rfl AN ?_)
      | (refine BF rfl _ _ _ rfl g 3 rfl (.agg (An H)) rfl (An H) rfl _ (Ab S) (Ab (Ec S H)) hI.g AN (by show 3+11<=23;decide) (A2 _) (by kernel_rfl) ?_))
     refine (hpo.out b _ hbz).mono ?_;rintro e w5 ⟨v,l,rfl,hl,ho,hb5⟩;have hg4:=hI2.out.g.lt;have hs4:=hI2.out.chg.size;replace hI:=hI2.out.keep hb5;obtain ⟨pa,c,rfl,hlc,-⟩:=BA ho;clear x0 x02 y0 y1 hb5 hpo hI2;go_wp2_with (refine Ad rfl _ _ _ rfl g 18 rfl (.slice pa l.length c) rfl rfl _ (Ab (Ec S H)) (Ab (Ak (Ec S H) pa c l)) hI.g Bn (by show 18+1<=23;decide) rfl (by kernel_rfl) ?_)
     go_end0;exact Dc hf.out (hI.g.set _) (Er.row (B:=(w3.setRow g (Ab (Ec S H))).heap.size) ⟨Co hi2.out hl.out,ho⟩ hg4 hs4 _) (hI.set _).chg
structure KZ (p:Dq):Prop where
 q:p.hq=false->p.qry.toList=[]
 f:p.hf=false->p.frg.toList=[]
 rz:p.rest.size<=1100000
 qz:p.qry.size<=1100000
 fz:p.frg.size<=1100000
def Mc (o:Option Aq) (w:World) (e:Ending) (w':World):Prop:=(match o with | none=>AeW e | some u=>∃ S:Al,e= .returned (.agg (Ab S))/\Er w' w.heap.size S u)/\Below w.heap.size w w'
theorem BG {o:Option Aq} {w w':World} {pv:Value} (h:o=none) (hb:Below w.heap.size w w'):Mc o w (.panicked [{ v:= .iface 190 pv,recovered:=false }]) w':=by subst h;exact ⟨⟨pv,rfl⟩,hb⟩
theorem Cn {o:Option Aq} {u:Aq} {S:Al} {w w':World} (h:o=some u) (hu:Er w' w.heap.size S u) (hb:Below w.heap.size w w'):Mc o w (.returned (.agg (Ab S))) w':=by subst h;exact ⟨⟨S,rfl,hu⟩,hb⟩
structure Fr (w wx:World) (a:Nat) (A:Array Value) (TA:TypeId) (b:Nat) (B:Array Value) (TB:TypeId) (r g:Nat) (S:Al):Prop where
 ag:a≠g
 bg:b≠g
 rg:r≠g
 gw:w.heap.size<=g
 rw:w.heap.size<=r
 below:Below w.heap.size w wx
 a:AJ wx a A TA
 b:AJ wx b B TB
 r:AJ wx r (Ab zS) 34
 g:AJ wx g (Ab S) 34
section
variable {w wx w':World} {a b r g:Nat} {A B:Array Value} {TA TB:TypeId} {S S':Al}
theorem Fr.keep (h:Fr w wx a A TA b B TB r g S) (hb:Below wx.heap.size wx w'):Fr w w' a A TA b B TB r g S:=⟨h.ag,h.bg,h.rg,h.gw,h.rw,h.below.next hb,h.a.keep hb,h.b.keep hb,h.r.keep hb,h.g.keep hb⟩
theorem Fr.drew (h:Fr w wx a A TA b B TB r g S):Fr w wx.drew a A TA b B TB r g S:=h.keep (Below.refl _ _).drew
theorem Fr.set (h:Fr w wx a A TA b B TB r g S) (S':Al):Fr w (wx.setRow g (Ab S')) a A TA b B TB r g S':=⟨h.ag,h.bg,h.rg,h.gw,h.rw,Ae h.below h.gw _,h.a.other h.ag _,h.b.other h.bg _,h.r.other h.rg _,h.g.set _⟩
theorem Fr.chg (h:Fr w wx a A TA b B TB r g S) (hc:BI (fun k=>k=g) wx w') (hg:AJ w' g (Ab S') 34):Fr w w' a A TA b B TB r g S':=
 ⟨h.ag,h.bg,h.rg,h.gw,h.rw,BI.belowNew h.below h.below.size h.gw hc,h.a.chg hc h.ag,h.b.chg hc h.bg,h.r.chg hc h.rg,hg⟩
theorem Fr.out (h:Fr w wx a A TA b B TB r g S) (hc:BI (fun k=>k=g) wx w'):Below w.heap.size w w':=BI.belowNew h.below h.below.size h.gw hc
theorem Fr.env (h:Fr w wx a A TA b B TB r g S) (hE:GZ w):GZ wx:=hE.next h.below
end
theorem AgB (s:ByteArray) (w:World):Calls prog 218 #[.string s,.string ⟨#[47,47]⟩] w fun e w'=>∃ r:ByteArray,e= .returned (.tuple #[.string r,.bool (Lib.hasPrefix s.toList [47,47])])/\r.size<=s.size/\Hid (Lib.hasPrefix s.toList [47,47]=true->r.toList=s.toList.drop 2)/\w=w':=by
 refine (Tryz.strings_CutPrefix s ⟨#[47,47]⟩ w).mono ?_;rintro e w' ⟨rfl,rfl⟩;have e1:s.data.toList=s.toList:=(ByteArray.toList_eq ..).symm;have e2:(ByteArray.mk #[47,47]).data.toList=[47,47]:=rfl;rw [e1,e2]
 have hl:(Lib.trimPrefix s.toList [47,47]).length<=s.size:=by
  rw [<-Aa];unfold Lib.trimPrefix;split
  ·rw [List.length_drop];omega
  ·exact Nat.le_refl _
 refine ⟨_,rfl,by rw [<-Aa,toList_mk];exact hl,H0 (fun h=> ?_),rfl⟩
 rw [toList_mk];unfold Lib.trimPrefix;rw [if_pos h];rfl
theorem Agd (s:ByteArray) (w:World):Calls prog 218 #[.string s,.string ⟨#[47]⟩] w fun e w'=>∃ r:ByteArray,e= .returned (.tuple #[.string r,.bool (Lib.hasPrefix s.toList [47])])/\r.size<=s.size/\Hid (Lib.hasPrefix s.toList [47]=true->r.toList=s.toList.drop 1)/\w=w':=by
 refine (Tryz.strings_CutPrefix s ⟨#[47]⟩ w).mono ?_;rintro e w' ⟨rfl,rfl⟩;have e1:s.data.toList=s.toList:=(ByteArray.toList_eq ..).symm;have e2:(ByteArray.mk #[47]).data.toList=[47]:=rfl;rw [e1,e2]
 have hl:(Lib.trimPrefix s.toList [47]).length<=s.size:=by
  rw [<-Aa];unfold Lib.trimPrefix;split
  ·rw [List.length_drop];omega
  ·exact Nat.le_refl _
 refine ⟨_,rfl,by rw [<-Aa,toList_mk];exact hl,H0 (fun h=> ?_),rfl⟩
 rw [toList_mk];unfold Lib.trimPrefix;rw [if_pos h];rfl
theorem Agh (s:ByteArray) (w:World) (hz:s.size<=4294967296):Calls prog 219 #[.string s,.string ⟨#[32]⟩] w fun e w'=>∃ r:ByteArray,e= .returned (.tuple #[.string r,.bool (Lib.hasSuffix s.toList [32])])/\r.size<=s.size/\Hid (Lib.hasSuffix s.toList [32]=true->r.toList=s.toList.dropLast)/\w=w':=by
 refine (Tryz.strings_CutSuffix s ⟨#[32]⟩ w (by omega)).mono ?_
 rintro e w' ⟨rfl,rfl⟩;have e1:s.data.toList=s.toList:=(ByteArray.toList_eq ..).symm;have e2:(ByteArray.mk #[32]).data.toList=[32]:=rfl;rw [e1,e2]
 have hl:(Lib.trimSuffix s.toList [32]).length<=s.size:=by
  rw [<-Aa];unfold Lib.trimSuffix;split
  ·rw [List.length_take];omega
  ·exact Nat.le_refl _
 refine ⟨_,rfl,by rw [<-Aa,toList_mk];exact hl,H0 (fun h=> ?_),rfl⟩
 rw [toList_mk];unfold Lib.trimSuffix;rw [if_pos h,List.dropLast_eq_take];rfl
def C0 (S:Al) (b:Bool) (f:ByteArray):Al:=⟨S.scheme,S.user,S.pass,S.host,S.hasPort,S.port,b,f,S.pathA,S.pathC,S.path,S.hasQuery,S.query,S.hasFrag,S.frag⟩
theorem AeF {sch:ByteArray} {p:Dq} {q f t:ByteArray} {l:List UInt8} (h:Gt (Dw sch p q f) (Ax sch.toList p.l)) (ht:t.toList=l):Gt (C0 (Dw sch p q f) true t) ⟨(Ax sch.toList p.l).scheme,[],[],.none,none,true,l,[],(Ax sch.toList p.l).query,(Ax sch.toList p.l).frag⟩:=
 ⟨h.scheme,toList_mk [],toList_mk [],rfl,rfl,rfl,rfl,ht,rfl,h.hasQuery,h.query,h.hasFrag,h.frag⟩
theorem Tj (p:Dq) (w:World) (hE:GZ w) (ok:KZ p):Calls prog 150 #[.agg (Av p)] w (Mc (GE p.l) w):=by
 obtain ⟨R,hR⟩:=N2 (GE p.l);rw [hR];have hv:=hR.symm;unfold GE at hv;dsimp only at hv;replace hR:=H0 hR;have hI:=Mn.start w (Av p) 72 (Ab zS) 34;have hst:=H0 (fun w=>Kf p.sch p w (by have:=ok.qz;omega) (by have:=ok.fz;omega))
 have hcp:=H0 (fun w=>AgB p.rest w)
 have hcp1:=H0 (fun w=>Agd p.rest w)
 have hen:=H0 (fun w=>DR p.rest 0 (by decide) w (by have:=ok.rz;omega))
 rw [show p.l.rest=p.rest.toList from rfl,show p.l.sch=p.sch.toList from rfl,show p.l.hq=p.hq from rfl,show p.l.hf=p.hf from rfl] at hv;replace hv:=H0 hv;have ok':=H0 ok;have hE':=H0 hE;clear ok hE;go_enter func150,ntmps150;go_upto_region 1 with (fail)
 refine Ar (R:=fun wx=>Mn w wx (Av p) 72 (Ab zS) 34) hI ?_
 clear hI;intro w1 hI;have y1:=(hI.a.at 1).trans (show (Av p)[1]? =some (.string p.sch) from rfl);go_wp2_with (refine wpList_load_row rfl 72 _ rfl w.heap.size rfl _ (Av p) _ _ hI.a underlying72 rfl (Cm p) ?_);refine (hst.out _).mono ?_;rintro e w2 ⟨q,f,rfl,hqv,hfv,hb⟩;have hsz1:=hI.below.size;have hsz2:=hb.size;have hbl:=hI.b.lt;have hI2:=hI.keep hb;have his:=Hs hqv.out hfv.out ok'.out.q ok'.out.f;obtain ⟨S,hS⟩:=N2 (Dw p.sch p q f);have h0:S.pathA=none:=by rw [<-hS];rfl
 have h1:S.pathC=0:=by rw [<-hS];rfl
 have h2:S.path=[]:=by rw [<-hS];rfl
 have h3:S.scheme=p.sch:=by rw [<-hS];rfl
 have his2:∀ t:ByteArray,Gt (C0 S true t) ⟨(Ax p.sch.toList p.l).scheme,[],[],.none,none,true,t.toList,[],(Ax p.sch.toList p.l).query,(Ax p.sch.toList p.l).frag⟩:=fun t=>by
  rw [<-hS];exact AeF his rfl
 rw [hS] at his⊢;replace his:=H0 his;replace his2:=H0 his2;replace hS:=H0 hS;replace h0:=H0 h0;replace h1:=H0 h1;replace h2:=H0 h2;replace h3:=H0 h3
 have hF:Fr w (w2.alloc (.cells (Ab S) 34)) w.heap.size (Av p) 72 w.heap.size (Av p) 72 (w.heap.size+1) w2.heap.size S:=
  ⟨by have:=hI2.a.lt;omega,by have:=hI2.a.lt;omega,by have:=hI2.b.lt;omega,by omega,by omega,hI2.below.alloc (by omega) _,hI2.a.alloc _,hI2.a.alloc _,hI2.b.alloc _,AJ.new _ _ _⟩
 clear hI hI2 hb y1 hbl;go_upto_region 2 with (refine Ag rfl 34 _ _ rfl rfl (Ab S) _ _ _ rfl (by simp) rfl (Ac _) rfl (As _) ?_)
 refine Ar (R:=fun wx=>Fr w wx w.heap.size (Av p) 72 w.heap.size (Av p) 72 (w.heap.size+1) w2.heap.size S) hF ?_
 clear hF;intro w3 hF;obtain ⟨g,hg⟩:=N2 (w2.heap.size);rw [hg] at hF⊢;clear hg hsz1 hsz2;have y2:=(hF.a.at 2).trans (show (Av p)[2]? =some (.string p.rest) from rfl);have y3:=(hF.a.at 3).trans (show (Av p)[3]? =some (.bool p.hq) from rfl);have y5:=(hF.a.at 5).trans (show (Av p)[5]? =some (.bool p.hf) from rfl);have x0:=(hF.g.at 0).trans (show (Ab S)[0]? =some (.string S.scheme) from rfl);obtain ⟨b2,hb2⟩:∃ b,Lib.hasPrefix p.rest.toList [47,47]=b:=⟨_,rfl⟩;rw [hb2] at hcp hv;replace hb2:=H0 hb2
 cases b2 with
 | true=>
  have hf:=hv.out.trans (if_pos rfl);replace hf:=H0 hf;clear hv;go_wp2_with (go_at_call 218;refine (hcp.out _).mono ?_;rintro e w' ⟨r,rfl,hr1,hr2,rfl⟩);have hF':=hF;refine (LN g S (Ax p.sch.toList p.l) r _ (hF'.env hE'.out) hF'.g his.out h0.out h1.out h2.out (by have:=ok'.out.rz;omega)).mono ?_
  rintro e w4 ⟨hres,hc⟩;have hr1l:r.toList=p.rest.toList.drop 2:=by first | exact hr2.out rfl | exact hr2.out | exact hr2.out trivial
  have hf:=hf.out;rw [<-hr1l] at hf;clear y2 y3 y5 x0;obtain ⟨O,hO⟩:=N2 (Ig (Ax p.sch.toList p.l) r.toList);rw [hO] at hf hres;replace hO:=H0 hO
  cases O with
  | none=>
   obtain ⟨pv,rfl⟩:=hres;exact ⟨rfl,BG hf (hF'.out hc)⟩
  | some u=>
   obtain ⟨rfl,S',hcel,hu⟩:=hres;have hF2:=hF'.chg hc hcel;have hrl:=hF'.r.lt;have hs5:=hF'.below.size;replace hf:=H0 hf;clear hF hF' hc hcel
   go_wp2_with (first
    | (refine wpList_load_row rfl 34 _ rfl g rfl _ (Ab S') _ _ hF2.g underlying34 rfl (Ac _) ?_)
    | (refine wpList_store_row rfl 34 _ _ rfl (w.heap.size+1) (Ab S') rfl rfl 34 _ hF2.r (Ac _) rfl (As _) ?_))
   refine Bc rfl rfl rfl (hF2.r.set _) (Ac _) ?_;exact Cn hf.out (hu.row hrl hs5 _) (Ae hF2.below hF2.rw _)
 | false=>
  have hv1:=hv.out.trans (if_neg (by decide))
  clear hv;obtain ⟨b1,hb1⟩:∃ b,Lib.hasPrefix p.rest.toList [47]=b:=⟨_,rfl⟩;rw [hb1] at hcp1 hv1;replace hb1:=H0 hb1
  cases b1 with
  | true=>
   have hv2:=hv1.trans (if_pos rfl);replace hv1:=H0 hv1;replace hv2:=H0 hv2;go_upto_region 6 with (go_at_call 218;refine (hcp.out _).mono ?_;rintro e w' ⟨r,rfl,hr1,hr2,rfl⟩)
   go_upto_region 8 with (go_at_call 218;refine (hcp1.out _).mono ?_;rintro e w' ⟨r1,rfl,hs1,hs2,rfl⟩)
   have hr1l:r1.toList=p.rest.toList.drop 1:=by first | exact hs2.out rfl | exact hs2.out | exact hs2.out trivial
   replace hv2:=hv2.out;rw [<-hr1l] at hv2;replace hv2:=H0 hv2;replace hr1l:=H0 hr1l;go_wp2_with fail;refine (Bm S.scheme none 0 0 [] r1 _ (C2 _) (by decide) (by have:=ok'.out.rz;omega) (fun t h=>by cases h)).mono ?_
   rintro e w5 ⟨v,l,rfl,hl,ho,hb5⟩;have hg4:=hF.g.lt;have hr4:=hF.r.lt;have hs4:=hF.below.size;have hF2:=hF.keep hb5;obtain ⟨pa,c,rfl,hlc,-⟩:=BA ho;have hF3:=hF2.set (Ak S pa c l);have hl2:=hl.out;rw [h3.out] at hl2;have hO:Er w5 _ (Ak S pa c l) _:=⟨Co his.out hl2,ho⟩;replace hl:=H0 hl;clear x0 y2 y3 y5 hb5 hl2 hF
   go_wp2_with (first
    | (refine Ad rfl _ _ _ rfl g 18 rfl (.slice pa l.length c) rfl rfl _ (Ab S) (Ab (Ak S pa c l)) hF2.g Bn (by show 18+1<=23;decide) rfl (by kernel_rfl) ?_)
    | (refine wpList_load_row rfl 34 _ rfl g rfl _ (Ab (Ak S pa c l)) _ _ hF3.g underlying34 rfl (Ac _) ?_)
    | (refine wpList_store_row rfl 34 _ _ rfl (w.heap.size+1) (Ab (Ak S pa c l)) rfl rfl 34 _ hF3.r (Ac _) rfl (As _) ?_))
   refine Bc rfl rfl rfl (hF3.r.set _) (Ac _) ?_;exact Cn hv2.out ((hO.row hg4 (Nat.le_refl _) _).row hr4 hs4 _) (Ae hF3.below hF3.rw _)
  | false=>
   have hv2:=hv1.trans (if_neg (by decide))
   replace hv1:=H0 hv1;replace hv2:=H0 hv2;go_upto_region 6 with (go_at_call 218;refine (hcp.out _).mono ?_;rintro e w' ⟨r,rfl,hr1,hr2,rfl⟩)
   go_upto_region 10 with (go_at_call 218;refine (hcp1.out _).mono ?_;rintro e w' ⟨r1,rfl,hs1,hs2,rfl⟩)
   clear x0;have hF1:=H0 (hF.set (C0 S true S.flat));have y2':=H0 ((hF1.out.a.at 2).trans (show (Av p)[2]? =some (.string p.rest) from rfl));have z2:=y2'.out;go_wp2_with (refine Ad rfl _ _ _ rfl g 16 rfl (.bool true) rfl rfl _ (Ab S) (Ab (C0 S true S.flat)) hF.g Jt (by show 16+1<=23;decide) rfl (by kernel_rfl) ?_)
   refine (hen.out _).mono ?_;rintro e w4 ⟨t,rfl,ht,hb4⟩
   have htz:t.size<=4294967296:=by
    rw [<-Aa,ht.out];have hl0:=CW 0 p.rest.toList;have hr0:=ok'.out.rz;rw [Aa] at hl0;omega
   have hF2:=hF1.out.keep hb4;have hF3:=hF2.set (C0 S true t);have y3':=(hF3.a.at 3).trans (show (Av p)[3]? =some (.bool p.hq) from rfl);have y5':=(hF3.a.at 5).trans (show (Av p)[5]? =some (.bool p.hf) from rfl);have x17:=(hF3.g.at 17).trans (show (Ab (C0 S true t))[17]? =some (.string t) from rfl);clear y2 y3 y5 y2' z2 hb4 hF;replace hF3:=H0 hF3;obtain ⟨hq,hqe⟩:∃ b,p.hq=b:=⟨_,rfl⟩;obtain ⟨hfr,hfe⟩:∃ b,p.hf=b:=⟨_,rfl⟩;rw [hqe] at y3' hv2;rw [hfe] at y5' hv2;replace hqe:=H0 hqe;replace hfe:=H0 hfe
   have fin:∀ (wx:World) (t2:ByteArray),R=some ⟨(Ax p.sch.toList p.l).scheme,[],[],.none,none,true,t2.toList,[],(Ax p.sch.toList p.l).query,(Ax p.sch.toList p.l).frag⟩->Fr w wx w.heap.size (Av p) 72 w.heap.size (Av p) 72 (w.heap.size+1) g (C0 S true t2)->Mc R w (.returned (.agg (Ab (C0 S true t2)))) (wx.setRow (w.heap.size+1) (Ab (C0 S true t2))):=fun wx t2 hr hF=>by
    refine Cn hr ?_ (Ae hF.below hF.rw _);exact Pg (his2.out t2) h0.out h1.out h2.out
   replace fin:=H0 fin
   by_cases hqf:(hq || hfr)=true
   ·have hcs:=H0 (fun w=>Agh t w htz)
    obtain ⟨sx,hsx⟩:∃ b,Lib.hasSuffix t.toList [32]=b:=⟨_,rfl⟩
    have hfl:R=some ⟨(Ax p.sch.toList p.l).scheme,[],[],.none,none,true,if sx=true then t.toList.dropLast++[37,50,48] else t.toList,[],(Ax p.sch.toList p.l).query,(Ax p.sch.toList p.l).frag⟩:=by
     rw [hv2.out,<-ht.out];unfold D3;rw [hqf,hsx,Bool.true_and]
    rw [hsx] at hcs;replace hsx:=H0 hsx;replace hfl:=H0 hfl
    have hcase:hq=true\/(hq=false/\hfr=true):=by
     cases hq
     ·exact .inr ⟨rfl,by simpa using hqf⟩
     ·exact .inl rfl
    replace hqf:=H0 hqf
    cases sx with
    | true=>
     have hf3:=hfl.out;rw [if_pos rfl] at hf3;replace hf3:=H0 hf3;rcases hcase with rfl | ⟨rfl,rfl⟩
     all_goals
      go_upto_region 15 with (first
       | (refine Ad rfl _ _ _ rfl g 17 rfl (.string t) rfl rfl _ (Ab (C0 S true S.flat)) (Ab (C0 S true t)) hF2.g Fy (by show 17+1<=23;decide) rfl (by kernel_rfl) ?_)
       | (go_at_call 219;refine (hcs.out _).mono ?_;rintro e w' ⟨h,rfl,hh1,hh2,rfl⟩))
      have hfin:=hf3.out;have hh3:h.toList=t.toList.dropLast:=by first | exact hh2.out rfl | exact hh2.out | exact hh2.out trivial
      rw [<-hh3,show (h.toList++[37,50,48]:List UInt8)=(h++⟨#[37,50,48]⟩).toList by rw [toList_append,show (⟨#[37,50,48]⟩:ByteArray).toList=[37,50,48] from toList_mk _]] at hfin
      replace hfin:=H0 hfin;have hcat:¬ (9223372036854775807<h.size+3):=by omega
      clear x17 y3' y5';obtain ⟨t3,ht3⟩:∃ t3,h++⟨#[37,50,48]⟩=t3:=⟨_,rfl⟩;rw [ht3] at hfin;have hF5:Hid (∀ x,x=t3->Fr w ((w4.setRow g (Ab (C0 S true t))).setRow g (Ab (C0 S true x))) w.heap.size (Av p) 72 w.heap.size (Av p) 72 (w.heap.size+1) g (C0 S true t3)):=H0 (fun x e=>by subst e;exact hF3.out.set _)
      replace ht3:=H0 ht3;go_upto_region 16 with (refine Ad rfl _ _ _ rfl g 17 rfl (.string (h++⟨#[37,50,48]⟩)) rfl rfl _ (Ab (C0 S true t)) (Ab (C0 S true (h++⟨#[37,50,48]⟩))) hF3.out.g Fy (by show 17+1<=23;decide) rfl (by kernel_rfl) ?_)
      refine Ar (R:=fun wx=>Fr w wx w.heap.size (Av p) 72 w.heap.size (Av p) 72 (w.heap.size+1) g (C0 S true t3)) (by first | exact hF5.out _ ht3.out | exact ht3.out ▸ hF3.out.set _) ?_
      clear hF5;intro w7 hF7
      go_wp2_with (first
       | (refine wpList_load_row rfl 34 _ rfl g rfl _ (Ab (C0 S true t3)) _ _ hF7.g underlying34 rfl (Ac _) ?_)
       | (refine wpList_store_row rfl 34 _ _ rfl (w.heap.size+1) (Ab (C0 S true t3)) rfl rfl 34 _ hF7.r (Ac _) rfl (As _) ?_))
      refine Bc rfl rfl rfl (hF7.r.set _) (Ac _) ?_;exact fin.out _ _ hfin.out hF7
    | false=>
     have hf3:=hfl.out;rw [if_neg (by decide)] at hf3
     replace hf3:=H0 hf3;rcases hcase with rfl | ⟨rfl,rfl⟩
     all_goals
      go_wp2_with (first
       | (refine Ad rfl _ _ _ rfl g 17 rfl (.string t) rfl rfl _ (Ab (C0 S true S.flat)) (Ab (C0 S true t)) hF2.g Fy (by show 17+1<=23;decide) rfl (by kernel_rfl) ?_)
       | (go_at_call 219;refine (hcs.out _).mono ?_;rintro e w' ⟨h,rfl,hh1,hh2,rfl⟩)
       | (refine wpList_load_row rfl 34 _ rfl g rfl _ (Ab (C0 S true t)) _ _ hF3.out.g underlying34 rfl (Ac _) ?_)
       | (refine wpList_store_row rfl 34 _ _ rfl (w.heap.size+1) (Ab (C0 S true t)) rfl rfl 34 _ hF3.out.r (Ac _) rfl (As _) ?_))
      refine Bc rfl rfl rfl (hF3.out.r.set _) (Ac _) ?_;exact fin.out _ _ hf3.out hF3.out
   ·have hcase:hq=false/\hfr=false:=by
     cases hq
     ·exact ⟨rfl,by simpa using hqf⟩
     ·exact absurd rfl hqf
    replace hqf:=H0 hqf;obtain ⟨rfl,rfl⟩:=hcase
    have hf3:Hid (R=some ⟨(Ax p.sch.toList p.l).scheme,[],[],.none,none,true,t.toList,[],(Ax p.sch.toList p.l).query,(Ax p.sch.toList p.l).frag⟩):=H0 (by
     rw [hv2.out,<-ht.out];rfl)
    go_wp2_with (first
     | (refine Ad rfl _ _ _ rfl g 17 rfl (.string t) rfl rfl _ (Ab (C0 S true S.flat)) (Ab (C0 S true t)) hF2.g Fy (by show 17+1<=23;decide) rfl (by kernel_rfl) ?_)
     | (refine wpList_load_row rfl 34 _ rfl g rfl _ (Ab (C0 S true t)) _ _ hF3.out.g underlying34 rfl (Ac _) ?_)
     | (refine wpList_store_row rfl 34 _ _ rfl (w.heap.size+1) (Ab (C0 S true t)) rfl rfl 34 _ hF3.out.r (Ac _) rfl (As _) ?_))
    refine Bc rfl rfl rfl (hF3.out.r.set _) (Ac _) ?_;exact fin.out _ _ hf3.out hF3.out
end Go.Proofs.YtonomfeipkdmhaaGreatDoor
