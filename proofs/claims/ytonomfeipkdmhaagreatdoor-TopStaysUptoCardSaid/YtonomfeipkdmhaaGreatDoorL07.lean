/- Part 7: lemmas. -/
import Derived.Test.YtonomfeipkdmhaaGreatDoorL06
set_option linter.unusedVariables false
set_option linter.unusedSimpArgs false
set_option maxRecDepth 100000
set_option maxHeartbeats 16000000
namespace Go.Proofs.YtonomfeipkdmhaaGreatDoor
open Go.RowKit
theorem E8 (low:Nat):∀ (l:List Nat) (f:Int),(f= -1\/(0<=f/\(low:Int)<=f))->
  (l.foldl (BV low) f=f\/∃ c∈l,l.foldl (BV low) f=(c:Int)/\low<=c)/\(∀ c∈l,low<=c->0<=l.foldl (BV low) f/\l.foldl (BV low) f<=(c:Int))/\(0<=f->0<=l.foldl (BV low) f/\l.foldl (BV low) f<=f)
 | [],f,_=>⟨.inl rfl,fun c hc=>(nomatch hc),fun h=>⟨h,Int.le_refl _⟩⟩
 | x :: r,f,hf=>by
  rw [List.foldl_cons]
  by_cases hx:low<=x/\(f<0\/(x:Int)<f)
  ·have e:BV low f x=(x:Int):=if_pos hx;rw [e];obtain ⟨h1,h2,h3⟩:=E8 low r (x:Int) (.inr ⟨Qa,Qa⟩);have h4:=h3 Qa;refine ⟨.inr ?_,?_,?_⟩
   ·rcases h1 with h1 | ⟨c,hc,hh⟩
    ·exact ⟨x,List.mem_cons_self ..,h1,hx.1⟩
    ·exact ⟨c,List.mem_cons_of_mem _ hc,hh⟩
   ·intro c hc hl
    rcases List.mem_cons.1 hc with rfl | hc
    ·exact h4
    ·exact h2 c hc hl
   ·intro h0;have:=hx.2;omega
  ·have e:BV low f x=f:=if_neg hx;rw [e];obtain ⟨h1,h2,h3⟩:=E8 low r f hf;refine ⟨?_,?_,h3⟩
   ·rcases h1 with h1 | ⟨c,hc,hh⟩
    ·exact .inl h1
    ·exact .inr ⟨c,List.mem_cons_of_mem _ hc,hh⟩
   ·intro c hc hl
    rcases List.mem_cons.1 hc with rfl | hc
    ·have h0:0<=f/\f<=(c:Int):=by
      by_cases hfn:f<0
      ·exact absurd ⟨hl,.inl hfn⟩ hx
      ·refine ⟨Qa,?_⟩
       by_cases hlt:(c:Int)<f
       ·exact absurd ⟨hl,.inr hlt⟩ hx
       ·omega
     have:=h3 h0.1;omega
    ·exact h2 c hc hl
theorem Ue {l:List Nat} {low c:Nat} (hc:c∈l) (h:low<=c):∃ m∈l,Cz l low=(m:Int)/\low<=m/\∀ x∈l,low<=x->m<=x:=by
 obtain ⟨h1,h2,-⟩:=E8 low l (-1) (.inl rfl);have h3:=h2 c hc h
 rcases h1 with h1 | ⟨m,hm,he,hl⟩
 ·unfold Cz at *;omega
 ·exact ⟨m,hm,he,hl,fun x hx hlx=>by have:=h2 x hx hlx;rw [he] at this;omega⟩
def Rd (X:List UInt8) (d0 d1:Dm):Prop:=∀ f rest,(X++rest).length<f->∃ f',rest.length<f'/\DD f (X++rest) d0=DD f' rest d1
theorem Rd.nil (d:Dm):Rd [] d d:=fun f rest h=>⟨f,h,rfl⟩
theorem Rd.trans {X Y:List UInt8} {a b c:Dm} (h:Rd X a b) (k:Rd Y b c):Rd (X++Y) a c:=by
 intro f rest hf;rw [List.append_assoc] at hf⊢;obtain ⟨f1,h1,e1⟩:=h f (Y++rest) hf;obtain ⟨f2,h2,e2⟩:=k f1 rest h1;exact ⟨f2,h2,e1.trans e2⟩
theorem Ad0 (d bias:Nat):TD d bias≠[]:=by
 unfold TD;rw [Is]
 split<;>simp
theorem Rd.one {d:Nat} {a b:Dm} (hd:d<=2147483647) (h:D9 a d=some b):Rd (TD d a.bias) a b:=by
 intro f rest hf
 have hne:TD d a.bias++rest≠[]:=fun e=>Ad0 d a.bias (List.append_eq_nil_iff.1 e).1
 cases f with
 | zero=>omega
 | succ f=>
  have hlen:0<(TD d a.bias).length:=List.length_pos_iff.2 (Ad0 d a.bias)
  refine ⟨f,by rw [List.length_append] at hf;omega,?_⟩
  rw [DD,if_neg hne,AhP _ _ _ hd];dsimp only;rw [h];dsimp only;rw [List.drop_left]
def Oo (m c:Nat):Bool:=decide (c<m)
def leN (m c:Nat):Bool:=decide (c<=m)
structure Mid (l:List Nat) (m:Nat) (a b:List Nat) (st:CU) (dec:Dm) (hd:List UInt8) (d0:Dm):Prop where
 l:dec.l=a.filter (leN m)++b.filter (Oo m)
 done:st.done=dec.l.length
 lin:dec.sign * (st.done+1)+dec.p+st.d=m * (st.done+1)+(a.filter (leN m)).length
 sign:dec.sign<=m
 bias:dec.bias=st.bias
 first:dec.first=st.first
 out:∃ X,st.out=hd++X/\Rd X d0 dec
theorem AfW {l a b:List Nat} {m c:Nat} {st:CU} {dec:Dm} {hd:List UInt8} {d0:Dm} (hl:l=a++c :: b) (hlen:l.length<=255) (hm:Bj m=true) (h:Mid l m a (c :: b) st dec hd d0):
  ∃ dec',Mid l m (a++[c]) b (AV m st c) dec' hd d0:=by
 unfold AV
 by_cases hc:c=m
 ·subst hc;rw [if_pos rfl]
  have hB:(c :: b).filter (Oo c)=b.filter (Oo c):=by rw [List.filter_cons,if_neg (by unfold Oo;simp)]
  have hl0:=h.l;rw [hB] at hl0;have hlin:=h.lin;have hsg:=h.sign
  have hpos:(a.filter (leN c)).length<=st.done:=by rw [h.done,hl0,List.length_append];omega
  have hn:st.done<255:=by
   rw [h.done,hl0,List.length_append];have h1:=List.length_filter_le (leN c) a;have h2:=List.length_filter_le (Oo c) b;rw [hl,List.length_append,List.length_cons] at hlen;omega
  have hm2:c<=1114111:=by
   unfold Bj at hm;rw [Bool.and_eq_true,decide_eq_true_iff] at hm;exact hm.1
  obtain ⟨pos,hpe⟩:∃ pos,(a.filter (leN c)).length=pos:=⟨_,rfl⟩;obtain ⟨n,hne⟩:=N2 (st.done)
  have hdl:dec.l.length=n:=by rw [<-h.done];exact hne
  rw [hpe] at hlin hpos;rw [hne] at hlin hpos hn;obtain ⟨q,hq⟩:∃ q,c=dec.sign+q:=⟨c - dec.sign,Qa⟩
  have hsum:dec.p+st.d=q * (n+1)+pos:=by
   rw [hq,Nat.add_mul] at hlin;omega
  have hdiv:(dec.p+st.d) / (n+1)=q:=by
   rw [hsum,Nat.add_comm,Nat.add_mul_div_right _ _ Qa,Nat.div_eq_of_lt Qa,Nat.zero_add]
  have hmod:(dec.p+st.d) % (n+1)=pos:=by
   rw [hsum,Nat.add_comm,Nat.add_mul_mod_self_right,Nat.mod_eq_of_lt Qa]
  have hdle:st.d<=2147483647:=by
   have h1:q * (n+1)<=1114111 * 255:=Nat.mul_le_mul Qa Qa;omega
  have hstep:D9 dec st.d=some ⟨pos+1,c,E9 st.d (n+1) dec.first,false,Gk dec.l pos c⟩:=by
   unfold D9;rw [hdl,hdiv,hmod,<-hq,if_neg];rw [hm];simp;omega
  refine ⟨⟨pos+1,c,E9 st.d (n+1) dec.first,false,Gk dec.l pos c⟩,?_,?_,?_,Nat.le_refl _,?_,rfl,?_⟩
  rotate_right
  ·obtain ⟨X,hX,hr⟩:=h.out;refine ⟨X++TD st.d st.bias,?_,?_⟩;rotate_left
   ·exact hr.trans (h.bias ▸ Rd.one hdle hstep)
   ·show st.out++_=_;rw [hX,List.append_assoc]
  ·show Gk dec.l pos c=_;unfold Gk
   rw [hl0,<-hpe,List.take_left,List.drop_left,List.filter_append,List.filter_cons,if_pos (by unfold leN;simp)]
   simp
  ·show st.done+1=(Gk dec.l pos c).length;unfold Gk;rw [List.length_append,List.length_cons,List.length_take,List.length_drop,hdl,hne];omega
  ·show c * (st.done+1+1)+(pos+1)+0=c * (st.done+1+1)+_
   rw [List.filter_append,List.length_append,hpe,List.filter_cons,if_pos (by unfold leN;simp)]
   rfl
  ·show E9 st.d (n+1) dec.first=E9 st.d (st.done+1) st.first
   rw [hne,h.first]
 ·rw [if_neg hc]
  by_cases hlt:c<m
  ·rw [if_pos hlt]
   have h1:leN m c=true:=by unfold leN;simp;omega
   have h2:Oo m c=true:=by unfold Oo;simp;omega
   refine ⟨dec,?_,h.done,?_,h.sign,h.bias,h.first,h.out⟩
   ·rw [h.l,List.filter_append,List.filter_cons,if_pos h2,List.filter_cons,if_pos h1];simp
   ·have:=h.lin;show dec.sign * (st.done+1)+dec.p+(st.d+1)=m * (st.done+1)+_;rw [List.filter_append,List.length_append,List.filter_cons,if_pos h1];simp;omega
  ·rw [if_neg hlt]
   have h1:leN m c=false:=by unfold leN;simp;omega
   have h2:Oo m c=false:=by unfold Oo;simp;omega
   refine ⟨dec,?_,h.done,?_,h.sign,h.bias,h.first,h.out⟩
   ·rw [h.l,List.filter_append,List.filter_cons,if_neg Akk,List.filter_cons,if_neg (by rw [h1];decide)];simp
   ·rw [h.lin,List.filter_append,List.length_append,List.filter_cons,if_neg (by rw [h1];decide)];simp
theorem Abw {l:List Nat} {m:Nat} {hd:List UInt8} {d0:Dm} (hlen:l.length<=255) (hm:Bj m=true):∀ (b a:List Nat) (st:CU) (dec:Dm),l=a++b->Mid l m a b st dec hd d0->
  ∃ dec',Mid l m l [] (b.foldl (AV m) st) dec' hd d0
 | [],a,st,dec,hl,h=>by
  rw [List.append_nil] at hl;subst hl;exact ⟨dec,h⟩
 | c :: b,a,st,dec,hl,h=>by
  obtain ⟨dec',h'⟩:=AfW hl hlen hm h
  exact Abw hlen hm b (a++[c]) _ dec' (by rw [hl];simp) h'
structure AhB (l:List Nat) (sign:Nat) (st:CU) (dec:Dm) (hd:List UInt8) (d0:Dm):Prop where
 l:dec.l=l.filter (Oo sign)
 done:st.done=dec.l.length
 lin:dec.sign * (st.done+1)+dec.p+st.d=sign * (st.done+1)
 sign:dec.sign<=sign
 bias:dec.bias=st.bias
 first:dec.first=st.first
 out:∃ X,st.out=hd++X/\Rd X d0 dec
theorem NI {p:Nat->Bool}:∀ {l:List Nat},(l.filter p).length=l.length->l.filter p=l
 | [],_=>rfl
 | x :: r,h=>by
  have h1:=List.length_filter_le p r;rw [List.filter_cons] at h⊢;split at h
  ·rename_i hx;rw [if_pos hx,NI (l:=r) Qy]
  ·rw [List.length_cons] at h;omega
theorem Mk {p q:Nat->Bool}:∀ {l:List Nat} {x:Nat},(∀ c∈l,p c=true->q c=true)->x∈l->p x=false->q x=true->(l.filter p).length<(l.filter q).length
 | [],x,_,hx,_,_=>(nomatch hx)
 | y :: r,x,h,hx,hp,hq=>by
  have hsub:∀ (r:List Nat),(∀ c∈r,p c=true->q c=true)->(r.filter p).length<=(r.filter q).length:=by
   intro r
   induction r with
   | nil=>intro _;exact Nat.le_refl _
   | cons z r ih=>
    intro h
    have:=ih (fun c hc=>h c (List.mem_cons_of_mem _ hc))
    rw [List.filter_cons,List.filter_cons]
    by_cases hz:p z=true
    ·rw [if_pos hz,if_pos (h z (List.mem_cons_self ..) hz)];simp;exact this
    ·rw [if_neg hz];split
     ·simp;omega
     ·exact this
  rw [List.filter_cons,List.filter_cons]
  rcases List.mem_cons.1 hx with rfl | hx
  ·rw [if_neg (by rw [hp];decide),if_pos hq,List.length_cons]
   have:=hsub r (fun c hc=>h c (List.mem_cons_of_mem _ hc))
   omega
  ·have ih:=Mk (l:=r) (fun c hc=>h c (List.mem_cons_of_mem _ hc)) hx hp hq
   by_cases hz:p y=true
   ·rw [if_pos hz,if_pos (h y (List.mem_cons_self ..) hz)];simp;exact ih
   ·rw [if_neg hz];split
    ·simp;omega
    ·exact ih
theorem R9 {p:Nat->Bool}:∀ {l:List Nat},(l.filter p).length<l.length->∃ c∈l,p c=false
 | [],h=>by simp at h
 | x :: r,h=>by
  rw [List.filter_cons] at h;cases hx:p x
  ·exact ⟨x,List.mem_cons_self ..,hx⟩
  ·rw [if_pos hx] at h;obtain ⟨c,hc,hp⟩:=R9 (l:=r) Qy;exact ⟨c,List.mem_cons_of_mem _ hc,hp⟩
theorem Uq {l:List Nat} {hd:List UInt8} {d0:Dm} (hlen:l.length<=255) (hs:∀ c∈l,Bj c=true):∀ (f sign:Nat) (st:CU) (dec:Dm),l.length<st.done+f->AhB l sign st dec hd d0->
  ∃ dec' X,(Fu l f sign st).out=hd++X/\Rd X d0 dec'/\dec'.l=l
 | 0,sign,st,dec,hf,h=>by
  have:=List.length_filter_le (Oo sign) l;rw [<-h.l,<-h.done] at this;omega
 | f+1,sign,st,dec,hf,h=>by
  rw [Fu]
  by_cases hlt:st.done<l.length
  ·rw [if_pos hlt]
   obtain ⟨c,hc,hcn⟩:=R9 (p:=Oo sign) (l:=l) (by rw [<-h.l,<-h.done];exact hlt)
   have hcs:sign<=c:=by unfold Oo at hcn;simp at hcn;exact hcn
   obtain ⟨m,hm,he,hlow,hmin⟩:=Ue hc hcs;rw [he,Int.toNat_natCast]
   have hfil:l.filter (Oo m)=l.filter (Oo sign):=by
    apply List.filter_congr;intro x hx;unfold Oo
    by_cases hxs:x<sign
    ·simp [hxs];omega
    ·have:=hmin x hx Qa;simp [hxs];omega
   have hmid:Mid l m [] l ⟨st.d+(m - sign) * (st.done+1),st.done,st.bias,st.first,st.out⟩ dec hd d0:=by
    refine ⟨by rw [h.l,hfil];rfl,h.done,?_,Nat.le_trans h.sign hlow,h.bias,h.first,h.out⟩
    show dec.sign * (st.done+1)+dec.p+(st.d+(m - sign) * (st.done+1))=m * (st.done+1)+0;have:=h.lin;obtain ⟨k,rfl⟩:∃ k,m=sign+k:=⟨m - sign,Qa⟩;rw [Nat.add_sub_cancel_left,Nat.add_mul];omega
   obtain ⟨dec',h'⟩:=Abw hlen (hs m hm) l [] _ dec rfl hmid
   obtain ⟨st2,hst2⟩:∃ st2,l.foldl (AV m) ⟨st.d+(m - sign) * (st.done+1),st.done,st.bias,st.first,st.out⟩=st2:=⟨_,rfl⟩
   rw [hst2] at h'⊢
   have hl':dec'.l=l.filter (Oo (m+1)):=by
    rw [h'.l,List.filter_nil,List.append_nil];apply List.filter_congr;intro x _;unfold leN Oo;rw [Bool.eq_iff_iff];simp;omega
   have hgrow:st.done<st2.done:=by
    rw [h'.done,hl',h.done,h.l,<-hfil]
    refine Mk (x:=m) (fun c _ hc=> ?_) hm (by unfold Oo;simp) (by unfold Oo;simp)
    unfold Oo at hc⊢;simp at hc⊢;omega
   refine Uq hlen hs f (m+1) ⟨st2.d+1,st2.done,st2.bias,st2.first,st2.out⟩ dec' (by show l.length<st2.done+f;omega) ⟨hl',h'.done,?_,by have:=h'.sign;omega,h'.bias,h'.first,h'.out⟩
   have hlin:=h'.lin;have hd:=h'.done;have hl2:=h'.l;rw [List.filter_nil,List.append_nil] at hl2;rw [<-hl2,<-hd] at hlin;show dec'.sign * (st2.done+1)+dec'.p+(st2.d+1)=(m+1) * (st2.done+1);rw [Nat.add_mul];omega
  ·rw [if_neg hlt];obtain ⟨X,hX,hr⟩:=h.out;refine ⟨dec,X,hX,hr,?_⟩;rw [h.l];refine NI ?_;have:=List.length_filter_le (Oo sign) l;rw [<-h.l,<-h.done] at this⊢;omega
theorem MM (bias:Nat):∀ f j d,∀ x∈Is bias f j d,x≠45/\OK x=true/\∃ k,k<36/\x=Gl k
 | 0,_,_,x,h=>(nomatch h)
 | f+1,j,d,x,h=>by
  have hb:=HL j bias;rw [Is] at h
  have key:∀ k,k<36->x=Gl k->x≠45/\OK x=true/\∃ k,k<36/\x=Gl k:=by
   intro k hk e;have:=Kn ⟨k,hk⟩;rw [e]
   exact ⟨this.2.1,by unfold OK;simp;exact this.2.2,k,hk,rfl⟩
  split at h
  ·rename_i hd;exact key d Qa (List.mem_singleton.1 h)
  ·rcases List.mem_cons.1 h with h | h
   ·have hm:(d - BP j bias) % (36 - BP j bias)<36 - BP j bias:=Nat.mod_lt _ Qa;exact key _ Qa h
   ·exact MM bias f _ _ x h
theorem Hm (p:UInt8->Prop) (hp:∀ d bias,∀ x∈TD d bias,p x) (m:Nat):∀ (l:List Nat) (st:CU) (hd:List UInt8),(∃ X,st.out=hd++X/\∀ x∈X,p x)->∃ X,(l.foldl (AV m) st).out=hd++X/\∀ x∈X,p x
 | [],st,hd,h=>h
 | c :: r,st,hd,h=>by
  rw [List.foldl_cons];refine Hm p hp m r _ hd ?_;obtain ⟨X,hX,hx⟩:=h;unfold AV;split
  ·refine ⟨X++TD st.d st.bias,by rw [<-List.append_assoc,<-hX],fun x h=> ?_⟩
   rcases List.mem_append.1 h with h | h
   ·exact hx x h
   ·exact hp _ _ x h
  ·split
   ·exact ⟨X,hX,hx⟩
   ·exact ⟨X,hX,hx⟩
theorem MQ (p:UInt8->Prop) (hp:∀ d bias,∀ x∈TD d bias,p x) (l:List Nat):∀ (f sign:Nat) (st:CU) (hd:List UInt8),(∃ X,st.out=hd++X/\∀ x∈X,p x)->∃ X,(Fu l f sign st).out=hd++X/\∀ x∈X,p x
 | 0,_,st,hd,h=>h
 | f+1,sign,st,hd,h=>by
  rw [Fu];split
  ·exact MQ p hp l f _ _ hd (Hm p hp _ l _ hd h)
  ·exact h
theorem Sd (l:List Nat):(Cd l).map (·.toNat)=l.filter (Oo 128):=by
 unfold Cd;rw [List.map_map]
 have:∀ m:List Nat,(∀ c∈m,c<128)->m.map ((·.toNat) ∘ UInt8.ofNat)=m:=by
  intro m
  induction m with
  | nil=>intro _;rfl
  | cons c r ih=>
   intro h
   rw [List.map_cons,ih (fun x hx=>h x (List.mem_cons_of_mem _ hx))]
   have hc:=h c (List.mem_cons_self ..);congr 1;show (UInt8.ofNat c).toNat=c;rw [UInt8.toNat_ofNat'];exact Nat.mod_eq_of_lt Qa
 rw [this _ (fun c hc=>by have:=(List.mem_filter.1 hc).2;unfold Acg at this;simpa using this)]
 rfl
theorem Ac6 (l:List Nat):(Cd l).all OK=true:=by
 rw [List.all_eq_true];intro x hx;obtain ⟨c,hc,rfl⟩:=List.mem_map.1 hx;have:=(List.mem_filter.1 hc).2;unfold Acg at this;unfold OK;simp at this⊢;omega
def AhL (l:List Nat) (x:UInt8):Prop:=(∃ c∈l,c<128/\x=UInt8.ofNat c)\/x=45\/∃ k,k<36/\x=Gl k
theorem Zn {l:List Nat} {o:List UInt8} (h:Ld l=some o):∀ x∈o,AhL l x:=by
 unfold Ld at h;split at h
 ·cases h
 ·split at h
  ·cases h
   obtain ⟨X,hX,hx⟩:=MQ (fun x=>AhL l x) (fun d bias x hx=> .inr (.inr (MM bias 40 0 d x hx).2.2)) l (l.length+1) 128 (Ff l) (Ff l).out ⟨[],(List.append_nil _).symm,fun x h=>(nomatch h)⟩
   rw [hX];intro x h
   rcases List.mem_append.1 h with h | h
   ·unfold Ff at h;dsimp only at h
    have hb:∀ x∈Cd l,AhL l x:=by
     intro x hx;obtain ⟨c,hc,rfl⟩:=List.mem_map.1 hx;have h2:=List.mem_filter.1 hc
     exact .inl ⟨c,h2.1,by have:=h2.2;unfold Acg at this;simpa using this,rfl⟩
    split at h
    ·cases h
    ·rcases List.mem_append.1 h with h | h
     ·exact hb x h
     ·exact .inr (.inl (List.mem_singleton.1 h))
   ·exact hx x h
  ·cases h
theorem AgS {l:List Nat} {o:List UInt8} (h:Ld l=some o):Nf o=some l:=by
 unfold Ld at h;split at h
 ·cases h
 rename_i hlen;split at h
 case isFalse=>cases h
 rename_i hs;cases h;have hs':∀ c∈l,Bj c=true:=List.all_eq_true.1 hs;obtain ⟨d0,hd0⟩:=N2 (OJ (l.filter (Oo 128)))
 have hO:AhB l 128 (Ff l) d0 (Ff l).out d0:=by
  subst hd0;refine ⟨rfl,?_,?_,Nat.le_refl _,rfl,rfl,[],(List.append_nil _).symm,Rd.nil _⟩
  ·show (Cd l).length=(l.filter (Oo 128)).length;rw [<-Sd,List.length_map]
  ·show 128 * _+0+0=128 * _;omega
 have hlen':l.length<=255:=Qa;obtain ⟨dec',X,hX,hr,hl⟩:=Uq hlen' hs' (l.length+1) 128 (Ff l) d0 Qa hO
 have hfin:∀ f,X.length<f->DD f X d0=some l:=by
  intro f hf
  obtain ⟨f',h1,h2⟩:=hr f [] (by rw [List.append_nil];exact hf)
  rw [List.append_nil] at h2;rw [h2]
  cases f' with
  | zero=>simp at h1
  | succ g=>rw [DD,if_pos rfl,hl]
 obtain ⟨X2,hX2,hx2⟩:=MQ (fun x=>x≠45) (fun d bias x hx=>(MM bias 40 0 d x hx).1) l (l.length+1) 128 (Ff l) (Ff l).out ⟨[],(List.append_nil _).symm,fun x h=>(nomatch h)⟩
 have hXX:X=X2:=List.append_cancel_left (hX.symm.trans hX2);subst hXX;have hb:=Sd l;have hlow:=Ac6 l
 have hle:(Cd l).length<=255:=by
  have:=congrArg List.length hb;rw [List.length_map] at this;have h2:=List.length_filter_le (Oo 128) l;omega
 rw [hX];unfold Nf
 by_cases he:Cd l=[]
 ·have e0:(Ff l).out=[]:=by unfold Ff;rw [he];rfl
  have ed:d0=OJ []:=by rw [<-hd0,<-hb,he];rfl
  rw [e0,List.nil_append,E7 hx2];dsimp only;rw [<-ed];exact hfin _ Qa
 ·have e0:(Ff l).out=Cd l++[45]:=by unfold Ff;dsimp only;rw [if_neg he]
  have ed:d0=OJ ((Cd l).map (·.toNat)):=by rw [<-hd0,hb]
  rw [e0,List.append_assoc,List.cons_append,List.nil_append,E4 hx2];dsimp only;rw [if_neg he,if_neg Qa,if_pos hlow,<-ed];exact hfin _ Qa
def En (c lo hi:Nat):Bool:=decide (lo<=c) && decide (c<=hi)
def Fd (c:Nat):List UInt8:=
 if (En c 0x41 0x5a || En c 0xc0 0xd6 || En c 0xd8 0xde || En c 0x391 0x3a1 || En c 0x3a3 0x3a9 || En c 0x410 0x42f)=true then Bv (c+0x20)
 else if (En c 0x100 0x12e && c % 2==0)=true then Bv (c+1)
 else if c=0x130 then [105,204,135]
 else if En c 0x400 0x40f=true then Bv (c+0x50)
 else if c=0x2024\/c=0x3002\/c=0xff61 then [46]
 else if c=0x2100 then [97,47,99]
 else if c=0x2105 then [99,47,111]
 else if En c 0x2460 0x2468=true then Bv (c - 0x2460+49)
 else if En c 0xff01 0xff5e=true then Bv (if En (c - 0xfee0) 65 90=true then c - 0xfee0+0x20 else c - 0xfee0)
 else if En c 0x1d7ce 0x1d7ff=true then Bv (48+(c - 0x1d7ce) % 10)
 else []
def Wl (c:Nat):Bool:=c==0xad || c==0x200b || c==0x2060 || c==0xfeff
def Ih:List (Nat × Nat):=[(0,0x7f),(0xdf,0xf6),(0xf8,0xff),(0x101,0x12f),(0x300,0x36f),(0x3b1,0x3c9),(0x430,0x45f),(0x3041,0x3096),(0x30a1,0x30fa),(0x4e00,0x9fff),(0xac00,0xd7a3),(0x1f300,0x1f5ff)]
def Ix (c:Nat):Bool:=Ih.any fun r=>En c r.1 r.2
def Fp (c:Nat):List UInt8 × Nat:=
 if Fd c≠[] then (Fd c,2) else if Wl c=true then ([],3) else if Ix c=true then (Bv c,1) else ([],0)
def G1 (c:Nat):Bool:=decide ((Fp c).2=1) && decide (c≠46)
def Hz:List Nat->Bool
 | []=>false
 | c :: r=> !En c 0x300 0x36f && (c :: r).all G1 && (c :: r).any fun c=>decide (0x7f<c)
def Wa:List UInt8:=[120,110,45,45]
def AU (l:List UInt8):Option (List UInt8):=
 if Lib.hasPrefix l Wa=true then (if Ja l=true then (match Nf (l.drop 4) with | some m=>if Hz m=true then some l else none | none=>none) else none)
 else if Ja l=true then some l
 else if Hz (KA l)=true then (match Ld (KA l) with | some t=>some (Wa++t) | none=>none) else none
def CF:List Nat->Option (List UInt8)
 | []=>some []
 | c :: r=>if (Fp c).2=0 then none else (CF r).map ((Fp c).1++ ·)
def AY:List (List UInt8)->Option (List (List UInt8))
 | []=>some []
 | l :: r=>match AU l with | none=>none | some t=>(AY r).map (t :: ·)
def E3:List (List UInt8)->List UInt8
 | []=>[]
 | [t]=>t
 | t :: u :: r=>t++46 :: E3 (u :: r)
def CG (s:List UInt8):Option (List UInt8):=match CF (KA s) with | none=>none | some t=>(AY (Ay 46 t)).map E3
def Fs (c:UInt8):Bool:=decide (c.toNat<128) && !(decide (65<=c.toNat) && decide (c.toNat<=90))
theorem Aen:∀ n:Fin 256,Fs (UInt8.ofNat n.val)=true->Fp n.val=([UInt8.ofNat n.val],1):=Qe
theorem Ac7 {c:UInt8} (h:Fs c=true):Fp c.toNat=([c],1):=by
 have:=Aen ⟨c.toNat,c.toNat_lt⟩;simp only [UInt8.ofNat_toNat] at this;exact this h
theorem Jz:∀ {l:List UInt8},(∀ c∈l,Fs c=true)->CF (l.map (·.toNat))=some l
 | [],_=>rfl
 | c :: r,h=>by
  rw [List.map_cons,CF,Ac7 (h c (List.mem_cons_self ..)),if_neg (show ¬ (1:Nat)=0 by decide),Jz (l:=r) (fun x hx=>h x (List.mem_cons_of_mem _ hx))]
  rfl
theorem Kw {l:List UInt8} (h:∀ c∈l,Fs c=true):Ja l=true:=by
 unfold Ja;rw [List.all_eq_true];intro c hc;have:=h c hc;unfold Fs at this;rw [Bool.and_eq_true] at this;exact this.1
theorem Yo (l:List UInt8):E3 (Ay 46 l)=l:=by
 induction l with
 | nil=>rfl
 | cons d r ih=>
  rw [Do];have hne:=DI 46 r
  cases hs:Ay 46 r with
  | nil=>exact absurd hs hne
  | cons a q=>
   rw [hs] at ih
   by_cases h:d=46
   ·rw [if_pos h,E3,ih,h];rfl
   ·rw [if_neg h]
    cases q with
    | nil=>show d :: a=d :: r;rw [show a=r from ih]
    | cons b q=>show d :: a++46 :: E3 (b :: q)=d :: r;rw [<-ih];rfl
theorem K6:∀ {t:List UInt8},(46:UInt8) ∉ t->Ay 46 t=[t]
 | [],_=>rfl
 | c :: r,h=>by
  rw [Do,if_neg (fun e=>h (by rw [e];exact List.mem_cons_self ..)),K6 (t:=r) (fun hh=>h (List.mem_cons_of_mem _ hh))]
  rfl
theorem NK:∀ {ls:List (List UInt8)},ls≠[]->(∀ l∈ls,(46:UInt8) ∉ l)->Ay 46 (E3 ls)=ls
 | [],h,_=>absurd rfl h
 | [t],_,h=>K6 (h t (List.mem_cons_self ..))
 | t :: u :: r,_,h=>by
  have h1:=K6 (h t (List.mem_cons_self ..))
  have h2:=NK (ls:=u :: r) Qf (fun l hl=>h l (List.mem_cons_of_mem _ hl))
  show Ay 46 (t++46 :: E3 (u :: r))=_;rw [Hy,h2,h1];rfl
theorem S4:∀ {ls:List (List UInt8)} {c:UInt8},c∈E3 ls->c=46\/∃ l∈ls,c∈l
 | [],c,h=>(nomatch h)
 | [t],c,h=> .inr ⟨t,List.mem_cons_self ..,h⟩
 | t :: u :: r,c,h=>by
  rcases List.mem_append.1 (show c∈t++46 :: E3 (u :: r) from h) with h | h
  ·exact .inr ⟨t,List.mem_cons_self ..,h⟩
  ·rcases List.mem_cons.1 h with h | h
   ·exact .inl h
   ·rcases S4 h with h | ⟨l,hl,h⟩
    ·exact .inl h
    ·exact .inr ⟨l,List.mem_cons_of_mem _ hl,h⟩
theorem Ex:∀ (l:List UInt8),∀ t∈Ay 46 l,∀ c∈t,c∈l/\c≠46
 | [],t,ht,c,hc=>by
  rw [show Ay 46 []=[[]] from rfl,List.mem_singleton] at ht;subst ht;cases hc
 | d :: r,t,ht,c,hc=>by
  have ih:=Ex r;have hne:=DI 46 r;rw [Do] at ht
  cases hs:Ay 46 r with
  | nil=>exact absurd hs hne
  | cons a q=>
   rw [hs] at ht ih
   by_cases h:d=46
   ·rw [if_pos h] at ht
    rcases List.mem_cons.1 ht with rfl | ht
    ·cases hc
    ·exact ⟨List.mem_cons_of_mem _ (ih t ht c hc).1,(ih t ht c hc).2⟩
   ·rw [if_neg h] at ht
    rcases List.mem_cons.1 ht with rfl | ht
    ·rcases List.mem_cons.1 hc with rfl | hc
     ·exact ⟨List.mem_cons_self ..,h⟩
     ·exact ⟨List.mem_cons_of_mem _ (ih a (List.mem_cons_self ..) c hc).1,(ih a (List.mem_cons_self ..) c hc).2⟩
    ·exact ⟨List.mem_cons_of_mem _ (ih t (List.mem_cons_of_mem _ ht) c hc).1,(ih t (List.mem_cons_of_mem _ ht) c hc).2⟩
theorem EF (c:Nat) (h:En c 65 90=false):∀ x∈Bv c,En x.toNat 65 90=false:=by
 intro x hx;unfold Bv at hx;split at hx
 ·unfold FM at hx;simp only [List.mem_cons,List.not_mem_nil,or_false] at hx
  rcases hx with rfl | rfl | rfl<;>rfl
 ·rename_i hv
  by_cases h80:c<128
  ·have e:PW (c:Int)=[UInt8.ofNat c]:=by
    have key:∀ n:Fin 128,PW (n.val:Int)=[UInt8.ofNat n.val]:=Qe;exact key ⟨c,h80⟩
   rw [e,List.mem_singleton] at hx;rw [hx,UInt8.toNat_ofNat',Nat.mod_eq_of_lt Qa];exact h
  ·have hb:∀ x∈PW (c:Int),128<=x.toNat:=by
    intro x hx;unfold PW Utf8.encode at hx
    have hval:Utf8.valid (c:Int)=true\/Utf8.valid (c:Int)=false:=by cases Utf8.valid (c:Int)<;>simp
    simp only [Int.toNat_natCast] at hx
    have key:∀ (n:Nat),128<=n->n<=1114111->∀ x∈(if n<128 then (⟨#[UInt8.ofNat n]⟩:ByteArray) else if n<2048 then ⟨#[UInt8.ofNat (192+n / 64),UInt8.ofNat (128+n % 64)]⟩ else if n<65536 then ⟨#[UInt8.ofNat (224+n / 4096),UInt8.ofNat (128+n / 64 % 64),UInt8.ofNat (128+n % 64)]⟩ else ⟨#[UInt8.ofNat (240+n / 262144),UInt8.ofNat (128+n / 4096 % 64),UInt8.ofNat (128+n / 64 % 64),UInt8.ofNat (128+n % 64)]⟩).data.toList,128<=x.toNat:=by
     intro n h1 h2 x hx
     have of:∀ m,128<=m->m<256->128<=(UInt8.ofNat m).toNat:=fun m a b=>by rw [UInt8.toNat_ofNat',Nat.mod_eq_of_lt Qa];exact a
     rw [if_neg Qa] at hx;split at hx
     ·simp only [List.mem_cons,List.not_mem_nil,or_false] at hx
      rcases hx with rfl | rfl<;>exact of _ Qa Qa
     ·split at hx
      ·simp only [List.mem_cons,List.not_mem_nil,or_false] at hx
       rcases hx with rfl | rfl | rfl<;>exact of _ Qa Qa
      ·simp only [List.mem_cons,List.not_mem_nil,or_false] at hx
       rcases hx with rfl | rfl | rfl | rfl<;>exact of _ Qa Qa
    rcases hval with hv2 | hv2
    ·rw [hv2] at hx;exact key c Qa Qa x hx
    ·rw [hv2] at hx;exact key 65533 Qc Qc x hx
   have:=hb x hx;unfold En;simp;omega
theorem Ya (c:Nat):∀ x∈Fd c,En x.toNat 65 90=false:=by
 intro x hx
 have fin:∀ l:List UInt8,(l.all fun x=> !En x.toNat 65 90)=true->x∈l->En x.toNat 65 90=false:=fun l hl hm=>by simpa using List.all_eq_true.1 hl x hm
 have out:∀ m,m<65\/90<m->En m 65 90=false:=fun m h=>by unfold En;simp;omega
 have ins:∀ a lo hi,En a lo hi=true->lo<=a/\a<=hi:=fun a lo hi h=>by unfold En at h;simpa using h
 unfold Fd at hx;split at hx
 ·rename_i h;simp only [Bool.or_eq_true] at h;refine EF _ (out _ ?_) x hx
  rcases h with ((((h | h) | h) | h) | h) | h<;>have:=ins _ _ _ h<;>omega
 split at hx
 ·rename_i h;rw [Bool.and_eq_true] at h;have:=ins _ _ _ h.1;exact EF _ (out _ Qa) x hx
 split at hx
 ·exact fin _ Qc hx
 split at hx
 ·rename_i h;have:=ins _ _ _ h;exact EF _ (out _ Qa) x hx
 split at hx
 ·exact fin _ Qc hx
 split at hx
 ·exact fin _ Qc hx
 split at hx
 ·exact fin _ Qc hx
 split at hx
 ·rename_i h;have:=ins _ _ _ h;exact EF _ (out _ Qa) x hx
 split at hx
 ·rename_i h;have:=ins _ _ _ h;refine EF _ (out _ ?_) x hx;split
  ·rename_i h2;have:=ins _ _ _ h2;omega
  ·rename_i h2;unfold En at h2;simp only [Bool.and_eq_true,decide_eq_true_eq,not_and] at h2;omega
 split at hx
 ·rename_i h;have:=ins _ _ _ h;exact EF _ (out _ Qa) x hx
 ·cases hx
theorem YT (c:Nat):∀ x∈(Fp c).1,En x.toNat 65 90=false:=by
 intro x hx;unfold Fp at hx;split at hx
 ·exact Ya c x hx
 ·rename_i ho;split at hx
  ·cases hx
  ·split at hx
   ·refine EF c ?_ x hx;cases h:En c 65 90
    ·rfl
    ·exfalso
     have hc:65<=c/\c<=90:=by unfold En at h;simpa using h
     have key:∀ n:Fin 26,Fd (65+n.val)≠[]:=Qe;have:=key ⟨c - 65,Qa⟩
     rw [show 65+(c - 65)=c by omega] at this
     exact ho this
   ·cases hx
theorem Mw:∀ {l:List Nat} {t:List UInt8},CF l=some t->∀ x∈t,En x.toNat 65 90=false
 | [],t,h,x,hx=>by cases h;cases hx
 | c :: r,t,h,x,hx=>by
  rw [CF] at h;split at h
  ·cases h
  ·cases hm:CF r with
   | none=>rw [hm] at h;cases h
   | some u=>
    rw [hm] at h;cases h
    rcases List.mem_append.1 hx with hx | hx
    ·exact YT c x hx
    ·exact Mw hm x hx
structure Kh (l:List UInt8):Prop where
 each:∀ c∈l,Fs c=true/\c≠46
 same:AU l=some l
theorem Zc {c:Nat} (h:G1 c=true) (h80:c<128):Fs (UInt8.ofNat c)=true/\UInt8.ofNat c≠46:=by
 have key:∀ n:Fin 128,G1 n.val=true->Fs (UInt8.ofNat n.val)=true/\UInt8.ofNat n.val≠46:=Qe
 exact key ⟨c,h80⟩ h
theorem AbK:∀ k:Fin 36,Fs (Gl k.val)=true/\Gl k.val≠46:=Qe
theorem AaG {l:List Nat} (h:Hz l=true):∀ c∈l,G1 c=true:=by
 cases l with
 | nil=>cases h
 | cons c r=>
  unfold Hz at h;rw [Bool.and_eq_true,Bool.and_eq_true] at h;exact List.all_eq_true.1 h.1.2
theorem VL {l t:List UInt8} (hl:∀ c∈l,En c.toNat 65 90=false/\c≠46) (h:AU l=some t):Kh t:=by
 have hname:Ja l=true->∀ c∈l,Fs c=true/\c≠46:=by
  intro hlow c hc;have h1:=List.all_eq_true.1 hlow c hc;have h2:=hl c hc;refine ⟨?_,h2.2⟩;unfold Fs;have h3:=h2.1;unfold En at h3;rw [h1,h3];rfl
 have h0:=h;unfold AU at h;split at h
 ·rename_i hx;split at h
  ·rename_i hlow;split at h
   ·rename_i m hm;split at h
    ·cases h;exact ⟨hname hlow,h0⟩
    ·cases h
   ·cases h
  ·cases h
 ·rename_i hx;split at h
  ·rename_i hlow;cases h;exact ⟨hname hlow,h0⟩
  ·split at h
   ·rename_i hlab;split at h
    ·rename_i o ho;cases h;have hall:=AaG hlab
     have heach:∀ c∈Wa++o,Fs c=true/\c≠46:=by
      intro c hc
      rcases List.mem_append.1 hc with hc | hc
      ·unfold Wa at hc;simp only [List.mem_cons,List.not_mem_nil,or_false] at hc
       rcases hc with rfl | rfl | rfl | rfl<;>decide
      ·rcases Zn ho c hc with ⟨n,hn,h80,rfl⟩ | rfl | ⟨k,hk,rfl⟩
       ·exact Zc (hall n hn) h80
       ·decide
       ·exact AbK ⟨k,hk⟩
     refine ⟨heach,?_⟩;unfold AU
     rw [if_pos (by unfold Lib.hasPrefix Wa;simp [List.isPrefixOf]),if_pos (Kw fun c hc=>(heach c hc).1)]
     rw [show (Wa++o).drop 4=o from rfl,AgS ho];dsimp only;rw [if_pos hlab]
    ·cases h
   ·cases h
theorem KS:∀ {ls ts:List (List UInt8)},(∀ l∈ls,∀ c∈l,En c.toNat 65 90=false/\c≠46)->AY ls=some ts->(∀ t∈ts,Kh t)/\ts.length=ls.length
 | [],ts,_,h=>by cases h;exact ⟨fun t ht=>(nomatch ht),rfl⟩
 | l :: r,ts,hl,h=>by
  rw [AY] at h
  cases hw:AU l with
  | none=>rw [hw] at h;cases h
  | some t=>
   rw [hw] at h;dsimp only at h
   cases hr:AY r with
   | none=>rw [hr] at h;cases h
   | some u=>
    rw [hr] at h;cases h
    obtain ⟨h1,h2⟩:=KS (fun x hx=>hl x (List.mem_cons_of_mem _ hx)) hr
    refine ⟨fun x hx=> ?_,by rw [List.length_cons,List.length_cons,h2]⟩
    rcases List.mem_cons.1 hx with rfl | hx
    ·exact VL (hl l (List.mem_cons_self ..)) hw
    ·exact h1 x hx
theorem Hr:∀ {ts:List (List UInt8)},(∀ t∈ts,Kh t)->AY ts=some ts
 | [],_=>rfl
 | t :: r,h=>by
  rw [AY,(h t (List.mem_cons_self ..)).same];dsimp only
  rw [Hr (fun x hx=>h x (List.mem_cons_of_mem _ hx))]
  rfl
theorem OA {s n:List UInt8} (h:CG s=some n):CG n=some n/\∀ c∈n,Fs c=true:=by
 unfold CG at h
 cases hm:CF (KA s) with
 | none=>rw [hm] at h;cases h
 | some t=>
  rw [hm] at h;dsimp only at h
  cases hw:AY (Ay 46 t) with
  | none=>rw [hw] at h;cases h
  | some ts=>
   rw [hw] at h;cases h;have hb:=Mw hm
   obtain ⟨h1,h2⟩:=KS (fun l hl c hc=>⟨hb c (Ex t l hl c hc).1,(Ex t l hl c hc).2⟩) hw
   have hne:ts≠[]:=by
    intro e;rw [e] at h2;exact DI 46 t (List.length_eq_zero_iff.1 h2.symm)
   have hname:∀ c∈E3 ts,Fs c=true:=by
    intro c hc
    rcases S4 hc with rfl | ⟨l,hl,hc⟩
    ·decide
    ·exact ((h1 l hl).each c hc).1
   refine ⟨?_,hname⟩;unfold CG;rw [WI (Kw hname),Jz hname];dsimp only
   rw [NK hne (fun l hl hh=>((h1 l hl).each 46 hh).2 rfl),Hr h1]
   rfl
def BM (c:UInt8):Bool:=decide (c<32) || decide (126<c)
def Air (c:UInt8):Bool:=[32,34,60,62,96].contains c || BM c
def MR (c:UInt8):Bool:=[32,34,35,60,62].contains c || BM c
def AiN (c:UInt8):Bool:=c==39 || MR c
def Ahq (c:UInt8):Bool:=[63,94,96,123,125].contains c || MR c
def AiK (c:UInt8):Bool:=[47,58,59,61,64,91,92,93,124].contains c || Ahq c
def F3 (set:Nat) (c:UInt8):Bool:=match set with
 | 0=>BM c
 | 1=>Air c
 | 2=>MR c
 | 3=>AiN c
 | 4=>Ahq c
 | 5=>AiK c
 | _=>false
def Yh (d:Nat):UInt8:=if d<10 then UInt8.ofNat (48+d) else UInt8.ofNat (55+d)
def Fm (set:Nat) (c:UInt8):List UInt8:=if F3 set c=true then [37,Yh (c.toNat / 16),Yh (c.toNat % 16)] else [c]
def AZ (set:Nat) (l:List UInt8):List UInt8:=l.flatMap (Fm set)
theorem Uv (set:Nat) (l:List UInt8) (c:UInt8):AZ set (l++[c])=AZ set l++Fm set c:=by unfold AZ;rw [List.flatMap_append];simp
theorem AfI (set:Nat) (c:UInt8):(Fm set c).length<=3:=by unfold Fm;split<;>simp
theorem C8 (set:Nat):∀ l,(AZ set l).length<=3 * l.length
 | []=>Nat.le_refl _
 | c :: r=>by
  have h1:=AfI set c;have h2:=C8 set r;show (Fm set c++AZ set r).length<=_;rw [List.length_append,List.length_cons];omega
theorem AeR:∀ (set:Fin 6) (n:Fin 256),(Fm set.val (UInt8.ofNat n.val)).all (fun c=> !F3 set.val c)=true:=Qe
theorem GH {set:Nat} (hs:set<6) {l:List UInt8}:∀ c∈AZ set l,F3 set c=false:=by
 intro c hc;obtain ⟨d,hd,hc⟩:=List.mem_flatMap.1 hc;have h:=AeR ⟨set,hs⟩ ⟨d.toNat,d.toNat_lt⟩;simp only [UInt8.ofNat_toNat] at h;simpa using List.all_eq_true.1 h c hc
theorem Hg {set:Nat}:∀ {l:List UInt8},(∀ c∈l,F3 set c=false)->AZ set l=l
 | [],_=>rfl
 | c :: r,h=>by
  have h1:=h c (List.mem_cons_self ..)
  have h2:=Hg (l:=r) (fun x hx=>h x (List.mem_cons_of_mem _ hx))
  show Fm set c++AZ set r=_;rw [h2];unfold Fm
  rw [if_neg (by rw [h1];decide)];rfl
def WX (c:UInt8):Option Nat:=if Ag (c.toNat:Int) 16<0 then none else some (Ag (c.toNat:Int) 16).toNat
def B9:List UInt8->List UInt8
 | []=>[]
 | c :: r=>match r with
  | a :: b :: q=>if c=37 then (match WX a,WX b with | some x,some y=>UInt8.ofNat (x * 16+y) :: B9 q | _,_=>c :: B9 (a :: b :: q)) else c :: B9 (a :: b :: q)
  | [a]=>c :: B9 [a]
  | []=>[c]
theorem PQ:∀ {l:List UInt8},(∀ c∈l,c≠37)->B9 l=l
 | [],_=>rfl
 | [a],_=>rfl
 | [a,b],h=>rfl
 | c :: a :: b :: q,h=>by
  rw [B9,if_neg (h c (List.mem_cons_self ..)),PQ (l:=a :: b :: q) (fun x hx=>h x (List.mem_cons_of_mem _ hx))]
def Aw:List UInt8:=[102,105,108,101]
def Aj (s:List UInt8):Bool:=[[102,116,112],Aw,[104,116,116,112],[104,116,116,112,115],[119,115],[119,115,115]].contains s
def Ii (s:List UInt8):Option Nat:=if s=[102,116,112] then some 21 else if s=[104,116,116,112]\/s=[119,115] then some 80 else if s=[104,116,116,112,115]\/s=[119,115,115] then some 443 else none
def L1 (c:UInt8):Bool:=Bn (c.toNat:Int)
def Ce:List UInt8->Bool
 | [a,b]=>L1 a && (b==58 || b==124)
 | _=>false
def CT:List UInt8->Bool
 | [a,b]=>L1 a && b==58
 | _=>false
def E0:List UInt8->Bool
 | a :: b :: r=>Ce [a,b] && (match r with | []=>true | c :: _=>[47,92,63,35].contains c)
 | _=>false
def Kb (r:List UInt8):Option (List UInt8):=match r with
 | b :: e :: q=>if b=50/\(e=101\/e=69) then some q else none
 | _=>none
def Ev:List UInt8->Option (List UInt8)
 | []=>none
 | c :: r=>if c=46 then some r else if c=37 then Kb r else none
theorem CS (c:UInt8) (r:List UInt8):Ev (c :: r)=if c=46 then some r else if c=37 then Kb r else none:=rfl
def Lp (s:List UInt8):Bool:=Ev s==some []
def IZ (s:List UInt8):Bool:=match Ev s with | some r=>Lp r | none=>false
def EE:List (List UInt8)->Bool
 | [p]=>CT p
 | _=>false
def IU (scheme:List UInt8) (path:List (List UInt8)):List (List UInt8):=if (scheme==Aw && EE path)=true then path else path.dropLast
def AB (sp:Bool) (c:UInt8):Bool:=c==47 || (sp && c==92)
def Cw (p:UInt8->Bool):List UInt8->List (List UInt8)
 | []=>[[]]
 | c :: r=>if p c=true then [] :: Cw p r else match Cw p r with
  | []=>[[c]]
  | q :: qs=>(c :: q) :: qs
theorem In (p:UInt8->Bool):∀ l,Cw p l≠[]
 | []=>by simp [Cw]
 | c :: r=>by
  rw [Cw];split
  ·simp
  ·cases h:Cw p r<;>simp
theorem We (p:UInt8->Bool):∀ l,∀ q∈Cw p l,∀ c∈q,p c=false
 | [],q,hq,c,hc=>by rw [Cw,List.mem_singleton] at hq;subst hq;cases hc
 | d :: r,q,hq,c,hc=>by
  have ih:=We p r;rw [Cw] at hq;cases hd:p d
  ·rw [hd,if_neg Qc] at hq
   cases h:Cw p r with
   | nil=>exact absurd h (In p r)
   | cons a qs=>
    rw [h] at hq ih;dsimp only at hq
    rcases List.mem_cons.1 hq with rfl | hq
    ·rcases List.mem_cons.1 hc with rfl | hc
     ·exact hd
     ·exact ih a (List.mem_cons_self ..) c hc
    ·exact ih q (List.mem_cons_of_mem _ hq) c hc
  ·rw [hd,if_pos rfl] at hq
   rcases List.mem_cons.1 hq with rfl | hq
   ·cases hc
   ·exact ih q hq c hc
theorem Sa {p:UInt8->Bool}:∀ {l:List UInt8},(∀ c∈l,p c=false)->Cw p l=[l]
 | [],_=>rfl
 | c :: r,h=>by rw [Cw,if_neg (by rw [h c (List.mem_cons_self ..)];decide),Sa (l:=r) (fun x hx=>h x (List.mem_cons_of_mem _ hx))]
theorem M2 {p:UInt8->Bool} {d:UInt8} (hd:p d=true):∀ {l:List UInt8} (r:List UInt8),(∀ c∈l,p c=false)->Cw p (l++d :: r)=l :: Cw p r
 | [],r,_=>by rw [List.nil_append,Cw,if_pos hd]
 | c :: l,r,h=>by rw [List.cons_append,Cw,if_neg (by rw [h c (List.mem_cons_self ..)];decide),M2 hd r (fun x hx=>h x (List.mem_cons_of_mem _ hx))]
def CV (scheme:List UInt8) (out:List (List UInt8)) (p:List UInt8) (last:Bool):List (List UInt8):=
 if IZ p=true then (if last=true then IU scheme out++[[]] else IU scheme out)
 else if Lp p=true then (if last=true then out++[[]] else out)
 else if (scheme==Aw && out.isEmpty && Ce p)=true then out++[p.take 1++[58]]
 else out++[AZ 4 p]
def Dz (scheme:List UInt8):List (List UInt8)->List (List UInt8)->List (List UInt8)
 | out,[]=>out
 | out,p :: r=>Dz scheme (CV scheme out p r.isEmpty) r
def Dx (scheme:List UInt8) (path:List (List UInt8)) (s:List UInt8):List (List UInt8):=Dz scheme path (Cw (AB (Aj scheme)) s)
structure Th (sp:Bool) (p:List UInt8):Prop where
 slash:∀ c∈p,AB sp c=false
 set:∀ c∈p,F3 4 c=false
 dot:Lp p=false
 dots:IZ p=false
structure AA (scheme:List UInt8) (path:List (List UInt8)):Prop where
 each:∀ p∈path,Th (Aj scheme) p
 drive:(scheme==Aw)=true->∀ p r,path=p :: r->Ce p=true->CT p=true
theorem AA.nil (scheme:List UInt8):AA scheme []:=⟨fun p hp=>(nomatch hp),fun _ p r h=>(nomatch h)⟩
theorem Us (sp:Bool):Th sp []:=⟨fun c hc=>(nomatch hc),fun c hc=>(nomatch hc),rfl,rfl⟩
theorem GX (c:UInt8):(F3 4 c=false/\Fm 4 c=[c])\/(F3 4 c=true/\∃ a b,Fm 4 c=[37,a,b]/\¬ (a=50/\(b=101\/b=69))):=by
 cases h:F3 4 c
 ·exact .inl ⟨rfl,by unfold Fm;rw [h];rfl⟩
 ·refine .inr ⟨rfl,Yh (c.toNat / 16),Yh (c.toNat % 16),by unfold Fm;rw [h];rfl,?_⟩
  have key:∀ n:Fin 256,F3 4 (UInt8.ofNat n.val)=true->¬ (Yh (n.val / 16)=50/\(Yh (n.val % 16)=101\/Yh (n.val % 16)=69)):=Qe
  have:=key ⟨c.toNat,c.toNat_lt⟩;simp only [UInt8.ofNat_toNat] at this;exact this h
theorem OP {p:List UInt8} {a:UInt8} {r:List UInt8} (h:AZ 4 p=a :: r) (ha:a≠37):∃ q,p=a :: q/\AZ 4 q=r:=by
 cases p with
 | nil=>cases h
 | cons c q=>
  have h2:Fm 4 c++AZ 4 q=a :: r:=h
  rcases GX c with ⟨-,e⟩ | ⟨-,x,y,e,-⟩
  ·rw [e,List.cons_append,List.nil_append,List.cons.injEq] at h2
   exact ⟨q,by rw [h2.1],h2.2⟩
  ·rw [e,List.cons_append,List.cons.injEq] at h2;exact absurd h2.1.symm ha
theorem PN {p r:List UInt8} (h:Ev (AZ 4 p)=some r):∃ q,Ev p=some q/\AZ 4 q=r:=by
 cases p with
 | nil=>cases h
 | cons c q=>
  have e0:AZ 4 (c :: q)=Fm 4 c++AZ 4 q:=rfl
  rcases GX c with ⟨hc,e⟩ | ⟨hc,x,y,e,hn⟩
  ·have e1:AZ 4 (c :: q)=c :: AZ 4 q:=by rw [e0,e];rfl
   rw [e1,CS] at h;rw [CS]
   by_cases h46:c=46
   ·rw [if_pos h46] at h⊢;exact ⟨q,rfl,Option.some.inj h⟩
   ·rw [if_neg h46] at h⊢
    by_cases h37:c=37
    ·rw [if_pos h37] at h⊢;unfold Kb at h;split at h
     ·rename_i b e2 q2 hq;split at h
      ·rename_i hh;obtain ⟨h2,h3⟩:=hh;obtain ⟨q3,rfl,hq3⟩:=OP hq Akk
       obtain ⟨q4,rfl,hq4⟩:=OP hq3 (by rcases h3 with rfl | rfl<;>decide)
       exact ⟨q4,by unfold Kb;dsimp only;rw [if_pos ⟨h2,h3⟩],by rw [hq4];exact Option.some.inj h⟩
      ·cases h
     ·cases h
    ·rw [if_neg h37] at h;cases h
  ·have e2:AZ 4 (c :: q)=37 :: x :: y :: AZ 4 q:=by rw [e0,e];rfl
   rw [e2,CS,if_neg Qc,if_pos rfl] at h;unfold Kb at h;dsimp only at h;rw [if_neg hn] at h;cases h
theorem Abx {p:List UInt8} (h:Lp (AZ 4 p)=true):Lp p=true:=by
 unfold Lp at h⊢;rw [beq_iff_eq] at h⊢;obtain ⟨q,hq,he⟩:=PN h;rw [hq]
 cases q with
 | nil=>rfl
 | cons c q=>
  have e0:AZ 4 (c :: q)=Fm 4 c++AZ 4 q:=rfl;rw [e0] at he
  rcases GX c with ⟨-,e⟩ | ⟨-,x,y,e,-⟩<;>rw [e] at he<;>cases he
theorem Aep {p:List UInt8} (h:IZ (AZ 4 p)=true):IZ p=true:=by
 unfold IZ at h⊢
 cases hb:Ev (AZ 4 p) with
 | none=>rw [hb] at h;cases h
 | some r=>
  rw [hb] at h;obtain ⟨q,hq,rfl⟩:=PN hb;rw [hq];exact Abx h
theorem AcT (sp:Bool) {p:List UInt8} (h:∀ c∈p,AB sp c=false):∀ c∈AZ 4 p,AB sp c=false:=by
 intro c hc;obtain ⟨d,hd,hc⟩:=List.mem_flatMap.1 hc;have hds:=h d hd
 rcases GX d with ⟨-,e⟩ | ⟨hin,x,y,e,-⟩
 ·rw [e,List.mem_singleton] at hc;rw [hc];exact hds
 ·have key:∀ (sp:Bool) (n:Fin 256),F3 4 (UInt8.ofNat n.val)=true->(Fm 4 (UInt8.ofNat n.val)).all (fun c=> !AB sp c)=true:=Qe
  have:=key sp ⟨d.toNat,d.toNat_lt⟩;simp only [UInt8.ofNat_toNat] at this;simpa using List.all_eq_true.1 (this hin) c hc
theorem Agd {sp:Bool} {p:List UInt8} (h:∀ c∈p,AB sp c=false) (h1:Lp p=false) (h2:IZ p=false):Th sp (AZ 4 p):=by
 refine ⟨AcT sp h,GH Qc,?_,?_⟩
 ·cases hd:Lp (AZ 4 p)
  ·rfl
  ·rw [Abx hd] at h1;cases h1
 ·cases hd:IZ (AZ 4 p)
  ·rfl
  ·rw [Aep hd] at h2;cases h2
theorem HM {p:List UInt8} (h:Ce p=true):∃ a b,p=[a,b]/\L1 a=true/\(b=58\/b=124):=by
 unfold Ce at h;split at h
 ·rename_i a b;rw [Bool.and_eq_true,Bool.or_eq_true,beq_iff_eq,beq_iff_eq] at h;exact ⟨a,b,rfl,h.1,h.2⟩
 ·cases h
theorem TM (sp:Bool) {a:UInt8} (h:L1 a=true):AB sp a=false/\F3 4 a=false/\a≠46/\a≠37:=by
 have key:∀ (sp:Bool) (n:Fin 256),L1 (UInt8.ofNat n.val)=true->AB sp (UInt8.ofNat n.val)=false/\F3 4 (UInt8.ofNat n.val)=false/\UInt8.ofNat n.val≠46/\UInt8.ofNat n.val≠37:=Qe
 have:=key sp ⟨a.toNat,a.toNat_lt⟩;simp only [UInt8.ofNat_toNat] at this;exact this h
theorem Pg (sp:Bool) {a:UInt8} (h:L1 a=true):Th sp [a,58]:=by
 obtain ⟨h1,h2,h3,h4⟩:=TM sp h
 have hs:AB sp 58=false:=by cases sp<;>rfl
 have hb:Ev [a,58]=none:=by rw [CS,if_neg h3,if_neg h4]
 refine ⟨fun c hc=> ?_,fun c hc=> ?_,by unfold Lp;rw [hb];rfl,by unfold IZ;rw [hb]⟩
 ·rcases List.mem_cons.1 hc with rfl | hc
  ·exact h1
  ·rw [List.mem_singleton.1 hc];exact hs
 ·rcases List.mem_cons.1 hc with rfl | hc
  ·exact h2
  ·rw [List.mem_singleton.1 hc];rfl
theorem AA.drop {scheme:List UInt8} {path:List (List UInt8)} (h:AA scheme path):AA scheme path.dropLast:=by
 refine ⟨fun p hp=>h.each p ((List.dropLast_sublist _).mem hp),fun hf p r e hd=> ?_⟩
 cases path with
 | nil=>cases e
 | cons a qs=>
  cases qs with
  | nil=>cases e
  | cons b bs=>
   rw [List.dropLast_cons_cons,List.cons.injEq] at e
   exact h.drive hf p (b :: bs) (by rw [e.1]) hd
theorem AA.up {scheme:List UInt8} {path:List (List UInt8)} (h:AA scheme path):AA scheme (IU scheme path):=by
 unfold IU;split
 ·exact h
 ·exact h.drop
theorem AA.snoc {scheme:List UInt8} {path:List (List UInt8)} (h:AA scheme path) {p:List UInt8} (hp:Th (Aj scheme) p) (hd:(scheme==Aw)=true->path=[]->Ce p=true->CT p=true):AA scheme (path++[p]):=by
 refine ⟨fun q hq=> ?_,fun hf q r e hq=> ?_⟩
 ·rcases List.mem_append.1 hq with hq | hq
  ·exact h.each q hq
  ·rw [List.mem_singleton.1 hq];exact hp
 ·cases path with
  | nil=>
   rw [List.nil_append,List.cons.injEq] at e;rw [<-e.1] at hq⊢;exact hd hf rfl hq
  | cons a qs=>
   rw [List.cons_append,List.cons.injEq] at e
   exact h.drive hf q qs (by rw [e.1]) hq
theorem Acy {p:List UInt8} (h:Ce (AZ 4 p)=true):Ce p=true:=by
 obtain ⟨a,b,e,ha,hb⟩:=HM h;obtain ⟨q,rfl,hq⟩:=OP e (TM false ha).2.2.2
 obtain ⟨q2,rfl,hq2⟩:=OP hq (by rcases hb with rfl | rfl<;>decide)
 cases q2 with
 | nil=>rw [<-e];exact h
 | cons c q3=>
  have e0:AZ 4 (c :: q3)=Fm 4 c++AZ 4 q3:=rfl;rw [e0] at hq2
  rcases GX c with ⟨-,e⟩ | ⟨-,x,y,e,-⟩<;>rw [e] at hq2<;>cases hq2
theorem VU {scheme:List UInt8} {out:List (List UInt8)} {p:List UInt8} {last:Bool} (h:AA scheme out) (hp:∀ c∈p,AB (Aj scheme) c=false):AA scheme (CV scheme out p last):=by
 unfold CV;split
 ·split
  ·exact h.up.snoc (Us _) (fun _ _ e=>Akq)
  ·exact h.up
 ·rename_i h1;split
  ·split
   ·exact h.snoc (Us _) (fun _ _ e=>Akq)
   ·exact h
  ·rename_i h2;split
   ·rename_i h3;rw [Bool.and_eq_true] at h3;obtain ⟨a,b,rfl,ha,-⟩:=HM h3.2
    exact h.snoc (Pg _ ha) (fun _ _ _=>by show (L1 a && true)=true;rw [ha];rfl)
   ·rename_i h3
    refine h.snoc (Agd hp Aki Q2) (fun hf ho hd=> ?_)
    exact absurd (by rw [hf,ho,Acy hd];rfl) h3
theorem PT {scheme:List UInt8}:∀ (ps:List (List UInt8)) {out:List (List UInt8)},AA scheme out->(∀ p∈ps,∀ c∈p,AB (Aj scheme) c=false)->AA scheme (Dz scheme out ps)
 | [],out,h,_=>h
 | p :: r,out,h,hp=>PT r (VU h (hp p (List.mem_cons_self ..))) (fun q hq=>hp q (List.mem_cons_of_mem _ hq))
theorem Xv {scheme:List UInt8}:∀ (ps:List (List UInt8)) (out:List (List UInt8)),ps≠[]->Dz scheme out ps≠[]
 | [],_,h=>absurd rfl h
 | [p],out,_=>by
  show CV scheme out p true≠[];unfold CV;split
  ·rw [if_pos rfl];simp
  ·split
   ·rw [if_pos rfl];simp
   ·split<;>simp
 | p :: q :: r,out,_=>Xv (q :: r) (CV scheme out p false) Qf
theorem EP {scheme:List UInt8} {path:List (List UInt8)} (h:AA scheme path) (s:List UInt8):AA scheme (Dx scheme path s):=PT _ h (We _ s)
theorem Hd (scheme:List UInt8) (path:List (List UInt8)) (s:List UInt8):Dx scheme path s≠[]:=Xv _ _ (In _ s)
def Az (path:List (List UInt8)):List UInt8:=path.flatMap (fun p=>47 :: p)
theorem Tn {sp:Bool}:∀ (path:List (List UInt8)) (p:List UInt8),(∀ q∈p :: path,∀ c∈q,AB sp c=false)->Cw (AB sp) (p++Az path)=p :: path
 | [],p,h=>by
  show Cw (AB sp) (p++[])=[p];rw [List.append_nil,Sa (h p (List.mem_cons_self ..))]
 | q :: r,p,h=>by
  show Cw (AB sp) (p++47 :: (q++Az r))=_
  rw [M2 (by unfold AB;rfl) _ (h p (List.mem_cons_self ..)),Tn r q (fun x hx=>h x (List.mem_cons_of_mem _ hx))]
theorem VH {scheme:List UInt8} {out:List (List UInt8)} {p:List UInt8} {last:Bool} (hp:Th (Aj scheme) p) (hd:(scheme==Aw)=true->out=[]->Ce p=true->CT p=true):CV scheme out p last=out++[p]:=by
 unfold CV
 rw [if_neg (by rw [hp.dots];decide),if_neg (by rw [hp.dot];decide)]
 split
 ·rename_i h;rw [Bool.and_eq_true,Bool.and_eq_true] at h;have hn:=hd h.1.1 (List.isEmpty_iff.1 h.1.2) h.2;obtain ⟨a,b,rfl,-,-⟩:=HM h.2
  have:b=58:=by
   unfold CT at hn;rw [Bool.and_eq_true,beq_iff_eq] at hn;exact hn.2
  rw [this];rfl
 ·rw [Hg hp.set]
theorem RF {scheme:List UInt8}:∀ (ps out:List (List UInt8)),AA scheme (out++ps)->Dz scheme out ps=out++ps
 | [],out,_=>by rw [List.append_nil];rfl
 | p :: r,out,h=>by
  have h1:CV scheme out p r.isEmpty=out++[p]:=VH (h.each p Qf) (fun hf ho hd=>by subst ho;exact h.drive hf p r rfl hd)
  show Dz scheme (CV scheme out p r.isEmpty) r=_
  rw [h1,RF r (out++[p]) (by rw [List.append_assoc];exact h),List.append_assoc];rfl
theorem Nl {scheme:List UInt8} {p:List UInt8} {path:List (List UInt8)} (h:AA scheme (p :: path)):Dx scheme [] (p++Az path)=p :: path:=by
 unfold Dx
 rw [Tn path p (fun q hq=>(h.each q hq).slash)]
 exact RF (p :: path) [] h
def Ep (l:List UInt8):Option Nat:=if 4<l.length then none else Bm 16 l
def Ct (l:List UInt8):Option Nat:=
 if 3<l.length\/(1<l.length/\l.head? =some 48) then none
 else match Bm 10 l with | none=>none | some n=>if 255<n then none else some n
def Fj:Nat->Nat->List UInt8->Option Nat
 | 0,acc,l=>if (Ak 46 l).2.2=true then none else (Ct (Ak 46 l).1).map fun v=>acc * 256+v
 | k+1,acc,l=>if (Ak 46 l).2.2=true then (match Ct (Ak 46 l).1 with | none=>none | some v=>Fj k (acc * 256+v) (Ak 46 l).2.1) else none
def GE (l:List UInt8):Option Nat:=Fj 3 0 l
def C9 (last nb:Bool) (t:List UInt8):Option (List Nat):=
 if last=true/\nb=true/\t.contains 46=true then (GE t).map fun n=>[n / 65536,n % 65536] else (Ep t).map fun v=>[v]
def HD (nb:Bool):Nat->List UInt8->Option (List Nat)
 | 0,_=>none
 | f+1,l=>
  match C9 (!(Ak 58 l).2.2) nb (Ak 58 l).1 with
  | none=>none
  | some x=>if (Ak 58 l).2.2=true then (HD nb f (Ak 58 l).2.1).map (fun y=>x++y) else some x
def AbL (nb:Bool) (l:List UInt8):Option (List Nat):=if l=[] then some [] else HD nb (l.length+1) l
def Ec (nb:Bool) (l:List UInt8):Option (List Nat):=match AbL nb l with | none=>none | some x=>if x.length<=8 then some x else none
def I9 (nb:Bool) (f:Nat) (P:List Nat) (t:List UInt8):Option (List Nat):=match HD nb f t with | none=>none | some x=>if (P++x).length<=8 then some (P++x) else none
theorem Ahc {nb:Bool} {l:List UInt8} (h:l≠[]):Ec nb l=I9 nb (l.length+1) [] l:=by
 unfold Ec I9 AbL;rw [if_neg h];rfl
theorem Adi {nb:Bool} {f:Nat} {P:List Nat} {t:List UInt8} (h:C9 (!(Ak 58 t).2.2) nb (Ak 58 t).1=none):I9 nb (f+1) P t=none:=by
 unfold I9;rw [HD,h]
theorem Acc {nb:Bool} {f:Nat} {P x:List Nat} {t:List UInt8} (h:C9 (!(Ak 58 t).2.2) nb (Ak 58 t).1=some x) (hm:(Ak 58 t).2.2=true):
  I9 nb (f+1) P t=I9 nb f (P++x) (Ak 58 t).2.1:=by
 unfold I9;rw [HD,h];dsimp only;rw [if_pos hm]
 cases HD nb f (Ak 58 t).2.1 with
 | none=>rfl
 | some y=>simp only [Option.map_some,List.append_assoc]
theorem Aco {nb:Bool} {f:Nat} {P x:List Nat} {t:List UInt8} (h:C9 (!(Ak 58 t).2.2) nb (Ak 58 t).1=some x) (hm:(Ak 58 t).2.2=false):
  I9 nb (f+1) P t=if (P++x).length<=8 then some (P++x) else none:=by
 unfold I9;rw [HD,h];dsimp only
 rw [if_neg (by rw [hm];decide)]
theorem Acq {nb:Bool} {f:Nat} {P:List Nat} {t:List UInt8} (h:8<P.length):I9 nb f P t=none:=by
 unfold I9
 cases HD nb f t with
 | none=>rfl
 | some y=>exact if_neg Ahw
theorem Acv {nb m:Bool} {f:Nat} {P x:List Nat} {t:List UInt8} (hm:(Ak 58 t).2.2=m) (h:C9 (!m) nb (Ak 58 t).1=some x):
  ((P++x).length<=8->if m=true then I9 nb (f+1) P t=I9 nb f (P++x) (Ak 58 t).2.1 else I9 nb (f+1) P t=some (P++x))/\(8<(P++x).length->I9 nb (f+1) P t=none):=by
 subst hm;cases hm:(Ak 58 t).2.2
 ·rw [Aco h hm]
  exact ⟨fun h8=>by rw [if_neg Qc,if_pos h8],fun h8=>if_neg Qa⟩
 ·rw [Acc h hm]
  exact ⟨fun _=>by rw [if_pos rfl],fun h8=>Acq h8⟩
theorem RV {last nb:Bool} {t:List UInt8} (h:last=false\/nb=false\/t.contains 46=false):C9 last nb t=(Ep t).map fun v=>[v]:=by
 unfold C9;rw [if_neg];rintro ⟨h1,h2,h3⟩
 rcases h with h | h | h
 ·rw [h] at h1;cases h1
 ·rw [h] at h2;cases h2
 ·rw [h] at h3;cases h3
theorem XI {t:List UInt8} (h:t.contains 46=true):C9 true true t=(GE t).map fun n=>[n / 65536,n % 65536]:=by
 unfold C9;rw [if_pos ⟨rfl,rfl,h⟩]
theorem Ra {c:UInt8} {l:List UInt8} (h:(Ak c l).2.2=true):(Ak c l).2.1.length<l.length:=by
 have:=congrArg List.length (Pd c l);rw [h] at this;simp at this;omega
def Ia (l:List UInt8):List UInt8 × List UInt8 × Bool:=Lib.cut l [58,58]
def F7 (l:List UInt8):Option (List Nat):=
 if (Ia l).2.2=true then
  match Ec false (Ia l).1 with
  | none=>none
  | some x=>match Ec true (Ia l).2.1 with
   | none=>none
   | some y=>if x.length+y.length<8 then some (x++(List.replicate (8 - x.length - y.length) 0++y)) else none
 else match Ec true l with | none=>none | some x=>if x.length=8 then some x else none
end Go.Proofs.YtonomfeipkdmhaaGreatDoor
