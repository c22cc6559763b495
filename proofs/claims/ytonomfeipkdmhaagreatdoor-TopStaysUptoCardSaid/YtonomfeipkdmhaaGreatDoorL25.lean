/- Part 25: lemmas. -/
import Derived.Test.YtonomfeipkdmhaaGreatDoorL24
import Derived.Lib.SlBuf
import Derived.Lib.SlBytesConst
set_option linter.unusedVariables false
set_option linter.unusedSimpArgs false
set_option maxRecDepth 100000
set_option maxHeartbeats 16000000
namespace Go.Proofs.YtonomfeipkdmhaaGreatDoor
open Go.RowKit
def Ij (el nm:ByteArray) (k:Int):Prop:=∀ w,Calls Tryz.prog 21 #[.string el,.string nm] w fun r w'=>r= .returned (.int .i64 k)/\Below w.heap.size w w'
theorem Afb {e n:List UInt8} {kq:Option Nat} (h:∀ k,k<27->(keyBytes [.string (Ib.getD k ([],[],0)).1,.string (Ib.getD k ([],[],0)).2.1]=keyBytes [.string e,.string n]↔kq=some k)):AeN e n kq:=fun k hk=>by
 rw [<-h k hk];unfold AeH Hl
 exact ⟨fun e=>by injection e,fun e=>by rw [e]⟩
theorem L5:Ij ⟨#[97]⟩ ⟨#[104,114,101,102]⟩ 1:=fun w=>
 Si _ _ [97] [104,114,101,102] (some 0) 1 Qe Qe Qc Qc (Afb Qe) (fun k h=>Aib) Qe Qb w
theorem KP:Ij ⟨#[105,109,103]⟩ ⟨#[115,114,99,115,101,116]⟩ 2:=fun w=>
 Si _ _ [105,109,103] [115,114,99,115,101,116] (some 23) 2 Qe Qe Qc Qc (Afb Qe) (fun k h=>Aib) Qe Qb w
theorem Lf {u:Ao} {K:Nat} (h:A6 u<=K):u.path.length<=K:=by
 have:=JK u.path;unfold A6 at h;omega
theorem Nr {B:Am} {b:Ao} (h:G0 B b) (hz:A6 b<=1000000):F2 B:=by
 have hp:=h.path
 refine ⟨?_,fun t ht=> ?_⟩
 ·have:=Lf hz;rw [<-hp,List.length_map] at this;exact this
 ·have hm:t.toList∈b.path:=by rw [<-hp];exact List.mem_map_of_mem ht
  have:=AdR hm;rw [Aa] at this;unfold A6 at hz;omega
theorem XS {W:List UInt8} (h:∀ c∈W,BM c=false):(BL W).count 0=0/\C6 (BL W)=BL W/\FQ (BL W)=BL W:=by
 have hs:=Rb h
 refine ⟨List.count_eq_zero.2 fun hm=>(LM (hs _ hm)).1 rfl,LQ (fun c hc=>(LM (hs c hc)).1),M0 (List.all_eq_true.2 fun c hc=>(LM (hs c hc)).2)⟩
theorem Za {u:Ao} (g:AI u) (hz:A6 u<=1000000000):Pq 1 [⟨true,u,[]⟩] []:=fun v t l w ht hE hr his h0 hn hw=>by
 cases l with
 | nil=>cases h0
 | cons x l=>exact Ac5 v t x l u w hE hr his.1.url g hz
theorem Wx {b:Ao} {s:List UInt8} (hb:AI b):∀ it∈(Al 2 b s).1,it.right=true->AI it.url:=by
 intro it hit hr
 obtain ⟨c,hc,rfl⟩:=List.mem_map.1 (show it∈(Cf s).map (fun c=>BI b c.url c.ws) from hit)
 obtain ⟨u,hj,hi,g⟩:=D4 hb hr;rw [hi];exact g
theorem Rf {L:List BG} (hne:L≠[]) (hg:∀ it∈L,AI it.url/\A6 it.url<=1000000000) (hz:(A9 (L.map Co)).length<=1000000000):Pq 2 L []:=fun v t l w ht hE hr his h0 hn hw=>by
 have he:DR 2 L []=A9 (L.map Co):=by
  cases L with
  | nil=>exact absurd rfl hne
  | cons a r=>rfl
 rw [he];exact Acu v t l L w hE hr his hg h0 Qa hw hz
def Nn:List UInt8:=[120,32,49,120,44,47,47,101,32,50,120,44,32,104,116,116,112,115,58,47,47,81,46,67,46,68,47,39,38,97,109,112,59,44,32,100,97,116,97,58,105,109,97,103,101,47,103,105,102,44,97]
def KE:List UInt8:=[106,97,118,97,38,84,97,98,59,115,99,114,105,112,116,58,120]
def Ae9:List UInt8:=[104,116,116,112,115,58,47,47,104,47,97,47,120,32,49,120,44,32,104,116,116,112,115,58,47,47,113,46,99,46,100,47,38,35,51,57,59,38,97,109,112,59]
theorem Ab6:(∀ c∈Cf (AD Nn),c.url.length<=1100000)/\(AD Nn).length<=1000/\(∀ it∈(Al 2 I6 (AD Nn)).1,A6 it.url<=1000/\it.ws.length<=1000/\it.url.path.length<=1000)/\(Al 2 I6 (AD Nn)).1.length<=1000/\(A9 (((Al 2 I6 (AD Nn)).1.filter (AS Er 2)).map Co)).length<=1000/\(BL (DR 2 ((Al 2 I6 (AD Nn)).1.filter (AS Er 2)) (Al 2 I6 (AD Nn)).2)).length<=1000:=Qe
theorem Ack:(AD KE).length<=1000/\(∀ it∈(Al 1 I6 (AD KE)).1,A6 it.url<=1000/\it.ws.length<=1000/\it.url.path.length<=1000)/\(Al 1 I6 (AD KE)).1.length<=1000/\(Al 1 I6 (AD KE)).1.filter (AS Er 1)=[]/\(BL (DR 1 ((Al 1 I6 (AD KE)).1.filter (AS Er 1)) (Al 1 I6 (AD KE)).2)).length<=1000:=by
 refine ⟨Qe,Qe,Qe,?_,Qe⟩;exact List.eq_nil_of_length_eq_zero Qe
theorem XW {b:Ao} {s:List UInt8} (hb:AI b):∀ it∈(Al 1 b s).1,it.right=true->AI it.url:=by
 intro it hit hr;obtain rfl:=List.mem_singleton.1 (show it∈[BI b s []] from hit);obtain ⟨u,hj,hi,g⟩:=D4 hb hr;rw [hi];exact g
theorem Z3 (p:Df) (B:Am) (el nm:ByteArray) (pa:Option Addr) (n c:Nat) (w:World) (hE:Gu w) (hp:Em w p) (hal:Eu p.schemes.l p.hosts.l p.types.l=Er) (hmo:p.most=200) (hB:DM w B I6) (hK:Ij el nm 2) (h:BU w pa n c Nn):
  Calls Tryz.prog 10 #[.agg (BK p),.agg (Ab B),.string el,.string nm,.slice pa n c] w (fun e w'=>e= .returned (.agg (Bh 3 0 ⟨Ae9.toArray⟩))/\Below w.heap.size w w'):=by
 obtain ⟨f1,f2,f3,f4,f5,f6⟩:=Ab6;obtain ⟨z1,z2,z3⟩:=Afa
 have hn:n<=1000000000:=by rw [<-h.len];decide
 have key:=goV;have hki:=Wx (s:=AD Nn) Me;refine (IR p B I6 el nm 2 pa n c Nn w hE hp hB Me OR hK Qc h hn (IE z1) (Nat.le_trans z2 Qc) (Nat.le_trans z3 Qc) ?_ ?_ ?_ ?_ ?_).mono ?_
 ·intro s w' hs hE' hB';rw [<-hs] at f1 f2⊢
  exact Pa B I6 s w' hE' hB' (Nr hB.is OR) (by rw [<-Aa];omega) f1
 ·intro it hit;obtain ⟨a1,a2,a3⟩:=f3 it hit
  exact ⟨fun hr=>⟨hki it hit hr,Qa⟩,Qa,Qa⟩
 ·omega
 ·rw [hal];intro hne
  refine Rf hne (fun it hit=> ?_) Qa
  obtain ⟨hm,hk⟩:=List.mem_filter.1 hit;have hk2:=hk;unfold AS at hk2;rw [Bool.and_eq_true] at hk2;have:=(f3 it hm).1;exact ⟨hki it hm hk2.1,Qa⟩
 ·rw [hal];omega
 ·rintro e w' ⟨t,rfl,ht,hb⟩;rw [hal,hmo,show A5 Er 200 2 I6 Nn=⟨3,0,Ae9⟩ from key] at ht⊢;obtain rfl:t=⟨Ae9.toArray⟩:=toList_inj (ht.out.trans (toList_mk Ae9).symm);exact ⟨rfl,hb⟩
theorem AaM (p:Df) (B:Am) (el nm:ByteArray) (pa:Option Addr) (n c:Nat) (w:World) (hE:Gu w) (hp:Em w p) (hal:Eu p.schemes.l p.hosts.l p.types.l=Er) (hmo:p.most=200) (hB:DM w B I6) (hK:Ij el nm 1) (h:BU w pa n c KE):
  Calls Tryz.prog 10 #[.agg (BK p),.agg (Ab B),.string el,.string nm,.slice pa n c] w (fun e w'=>e= .returned (.agg (Bh 2 4 ⟨#[]⟩))/\Below w.heap.size w w'):=by
 obtain ⟨f2,f3,f4,f5,f6⟩:=Ack;obtain ⟨z1,z2,z3⟩:=AeO
 have hn:n<=1000000000:=by rw [<-h.len];decide
 obtain ⟨k1,k2,k3⟩:=goW;have hki:=XW (s:=AD KE) Me;refine (IR p B I6 el nm 1 pa n c KE w hE hp hB Me OR hK Qc h hn (IE z1) (Nat.le_trans z2 Qc) (Nat.le_trans z3 Qc) ?_ ?_ ?_ ?_ ?_).mono ?_
 ·intro s w' hs hE' hB';rw [<-hs] at f2⊢
  exact PI B I6 s w' hE' hB' (Nr hB.is OR) (by rw [<-Aa];omega)
 ·intro it hit;obtain ⟨a1,a2,a3⟩:=f3 it hit
  exact ⟨fun hr=>⟨hki it hit hr,Qa⟩,Qa,Qa⟩
 ·omega
 ·rw [hal]
  exact fun hne=>absurd f5 hne
 ·rw [hal];omega
 ·rintro e w' ⟨t,rfl,ht,hb⟩;rw [hal,hmo] at ht⊢
  have e3:A5 Er 200 1 I6 KE=⟨2,4,[]⟩:=by
   have k1':(A5 Er 200 1 I6 KE).kind=2:=k1;have k2':(A5 Er 200 1 I6 KE).why=4:=k2;have k3':(A5 Er 200 1 I6 KE).out=[]:=k3;generalize A5 Er 200 1 I6 KE=v at k1' k2' k3'⊢;cases v
   simp_all
  rw [e3] at ht⊢;obtain rfl:t=⟨#[]⟩:=toList_inj (ht.out.trans (toList_mk []).symm);exact ⟨rfl,hb⟩
theorem GB (l:List UInt8):(Bk l).length<=l.length:=B6 _ l
theorem Ag8 (l:List UInt8):(KG l).length<=l.length:=by
 unfold KG;have h:=GB l;split
 ·exact Nat.zero_le _
 ·rename_i c t e;rw [e,List.length_cons] at h;have:=GB t;split
  ·omega
  ·rw [List.length_cons];omega
theorem Wj (l:List UInt8):(BR l).length<=l.length:=by
 unfold BR;split
 ·exact Nat.le_refl _
 ·have h:=GB (l.drop 3);rw [List.length_drop] at h;split
  ·exact Nat.le_refl _
  ·rename_i c t e;rw [e,List.length_cons] at h;have:=GB t;split
   ·omega
   ·exact Nat.le_refl _
theorem Yl (c:UInt8):∀ l,(Ak c l).1.length<=l.length
 | []=>Nat.le_refl _
 | d :: r=>by
  have ih:=Yl c r;rw [Ak];split
  ·exact Nat.zero_le _
  ·show ((d :: (Ak c r).1).length<=_);rw [List.length_cons,List.length_cons];omega
theorem V4 (l:List UInt8):(Ej l).length<=l.length:=by
 cases l with
 | nil=>exact Nat.le_refl _
 | cons c t=>
  have:=Yl c t
  show (if c=34\/c=39 then (Ak c t).1 else c :: t).length<=_
  split
  ·rw [List.length_cons];omega
  ·exact Nat.le_refl _
theorem Ll {l d x:List UInt8} {b:Bool} (h:Bi l=some (d,b,x)):x.length<=l.length:=by
 unfold Bi O4 at h;split at h
 ·cases h
 ·have h1:=GB l;have h2:=B6 Jr (Bk l);have h3:=B6 KB ((Bk l).dropWhile Jr);generalize ((Bk l).dropWhile Jr).dropWhile KB=r at h h3;unfold Iw at h;split at h
  ·cases h;exact Nat.zero_le _
  ·rename_i c t;split at h
   ·cases h
   ·split at h
    ·cases h;exact Nat.zero_le _
    ·cases h;have a1:=V4 (BR (KG (c :: t)));have a2:=Wj (KG (c :: t));have a3:=Ag8 (c :: t);omega
theorem Afo {α:Type} (p:α->Bool) (l:List α):(l.takeWhile p).length<=l.length:=(List.takeWhile_sublist p).length_le
theorem Aek (l:List UInt8):(C4 l).1.1.length<=l.length:=by
 have h:=Afo A0 l;unfold C4;split
 ·exact Nat.le_trans (S5 _) h
 ·exact h
theorem Yy {p:List UInt8 × List (List UInt8)} {c:EW} (h:c∈CJ p):c.url=p.1:=by
 unfold CJ at h;split at h
 ·cases h
 ·rw [List.mem_singleton.1 h]
theorem WY:∀ (n:Nat) (l:List UInt8),∀ c∈O2 n l,c.url.length<=l.length
 | 0,l,c,h=>Qr
 | n+1,l,c,h=>by
  have h0:=B6 BX l;rw [O2] at h;split at h
  ·cases h
  ·rename_i hne
   rcases List.mem_append.1 h with h | h
   ·rw [Yy h];exact Nat.le_trans (Aek _) h0
   ·have ih:=WY n _ c h
    cases hx:l.dropWhile BX with
    | nil=>exact absurd hx hne
    | cons a r=>
     rw [hx] at ih h0;have:=Jl (r:=r) (DY BX l hx);rw [List.length_cons] at h0;omega
theorem Xu {l:List UInt8} {c:EW} (h:c∈Cf l):c.url.length<=l.length:=WY _ l c h
theorem AfD {α:Type} {f:α->List UInt8} {l:List α} {a:α} (h:a∈l):(f a).length<=(l.flatMap f).length:=by
 induction l with
 | nil=>cases h
 | cons x r ih=>
  rw [List.flatMap_cons,List.length_append]
  rcases List.mem_cons.1 h with rfl | h
  ·omega
  ·have:=ih h;omega
theorem On:∀ ws:List (List UInt8),ws.length<=(ws.flatMap (fun t=>32 :: t)).length
 | []=>Nat.le_refl _
 | t :: r=>by
  have:=On r;rw [List.flatMap_cons,List.length_append,List.length_cons,List.length_cons];omega
theorem AgE {l:List UInt8} {c:EW} (h:c∈Cf l):c.ws.length<=3 * l.length:=by
 have h1:=Xi _ l (Nat.le_refl _)
 have h2:(44 :: 32 :: Ck c).length<=(Ch (Cf l)).length:=AfD (f:=fun c=>44 :: 32 :: Ck c) h
 have h3:=On c.ws;unfold Ck at h2;rw [List.length_cons,List.length_cons,List.length_append] at h2;omega
structure Ahx (K:Nat) (it:BG):Prop where
 good:it.right=true->AI it.url
 url:A6 it.url<=K
 ws:it.ws.length<=9000
theorem Nd {b:Ao} {s:List UInt8} {ws:List (List UInt8)} {K:Nat} (hb:AI b) (hn:ws.length<=9000) (hK:A6 b+348 * s.length+60<=K):Ahx K (BI b s ws):=by
 unfold BI
 cases e:Ho b s with
 | none=>exact ⟨fun h=>Qr,by show A6 FU<=K;rw [Ur];omega,hn⟩
 | some u=>exact ⟨fun _=>PM hb e,by have:=Td e;show A6 u<=K;omega,hn⟩
theorem Ku {k:Nat} {b:Ao} {V:List UInt8} (hb:AI b) (hV:V.length<=2700):
  (∀ it∈(Al k b V).1,Ahx (A6 b+939660) it)/\(Al k b V).1.length<=2700/\(Al k b V).2.length<=2701:=by
 by_cases k1:k=1
 ·subst k1
  refine ⟨fun it hit=> ?_,by show 1<=2700;omega,by show 0<=_;omega⟩
  rw [List.mem_singleton.1 (show it∈[BI b V []] from hit)];exact Nd hb (Nat.zero_le _) Qa
 by_cases k2:k=2
 ·subst k2
  refine ⟨fun it hit=> ?_,?_,by show 0<=_;omega⟩
  ·obtain ⟨c,hc,rfl⟩:=List.mem_map.1 (show it∈(Cf V).map (fun c=>BI b c.url c.ws) from hit)
   have h1:=Xu hc;have h2:=AgE hc;exact Nd hb Qa Qa
  ·show ((Cf V).map fun c=>BI b c.url c.ws).length<=_
   have:=Ri V;rw [List.length_map];omega
 by_cases k3:k=3
 ·subst k3;have e:Al 3 b V=E5 b (Bi V):=rfl;rw [e]
  cases hp:Bi V with
  | none=>exact ⟨fun it hit=>(by cases hit),Nat.zero_le _,Nat.zero_le _⟩
  | some q=>
   obtain ⟨d,hh,x⟩:=q;obtain ⟨-,-,-,p4,-⟩:=Tj hp;have p5:=Ll hp
   cases hh with
   | true=>
    refine ⟨fun it hit=> ?_,by show 1<=2700;omega,by show d.length<=_;omega⟩
    rw [List.mem_singleton.1 (show it∈[BI b x []] from hit)];exact Nd hb (Nat.zero_le _) Qa
   | false=>
    refine ⟨fun it hit=> ?_,by show 1<=2700;omega,by show d.length<=_;omega⟩
    rw [List.mem_singleton.1 (show it∈[(⟨true,b,[]⟩:BG)] from hit)]
    exact ⟨fun _=>hb,by show A6 b<=_;omega,Nat.zero_le _⟩
 ·have e:Al k b V=([],[]):=by unfold Al;rw [if_neg k1,if_neg k2,if_neg k3]
  rw [e]
  exact ⟨fun it hit=>(by cases hit),Nat.zero_le _,Nat.zero_le _⟩
theorem Wc {b:Ao} (hb:AI b) (q:BG->Bool) (hq:∀ it,q it=true->it.right=true):∀ C:List EW,
  (Ch (((C.map fun c=>BI b c.url c.ws).filter q).map Co)).length<=C.length * (A6 b+112)+348 * (Ch C).length
 | []=>Nat.zero_le _
 | c :: C=>by
  have ih:=Wc hb q hq C
  have e:Ch (c :: C)=[44,32]++Ck c++Ch C:=by unfold Ch;simp
  have et:(Ck c).length=c.url.length+(c.ws.flatMap (fun t=>32 :: t)).length:=by unfold Ck;rw [List.length_append]
  rw [List.map_cons,List.filter_cons,e,List.length_append,List.length_append,et,List.length_cons,Nat.succ_mul];have h2:([44,32]:List UInt8).length=2:=rfl;split
  ·rename_i hk;obtain ⟨u,hj,hi,g⟩:=D4 hb (hq _ hk);rw [hi,List.map_cons]
   have e2:∀ (x:EW) (r:List EW),Ch (x :: r)=[44,32]++Ck x++Ch r:=fun x r=>by unfold Ch;simp
   rw [e2,List.length_append,List.length_append];have l1:=Td hj;have l2:=CY g true
   have e3:(Ck (Co ⟨true,u,c.ws⟩)).length=(AW u true).length+(c.ws.flatMap (fun t=>32 :: t)).length:=by unfold Ck Co;rw [List.length_append]
   rw [e3];omega
  ·omega
theorem MH {k:Nat} {b:Ao} {V:List UInt8} {alw:Ao->Bool} (hb:AI b) (lb:A6 b<=104460) (hV:V.length<=2700):
  (DR k ((Al k b V).1.filter (AS alw k)) (Al k b V).2).length<=150000000/\(k=2->(A9 (((Al k b V).1.filter (AS alw k)).map Co)).length<=150000000):=by
 obtain ⟨f1,f2,f3⟩:=Ku (k:=k) hb hV
 have hright:∀ it,AS alw k it=true->it.right=true:=fun it h=>by
  unfold AS at h;rw [Bool.and_eq_true] at h;exact h.1
 have h2:k=2->(A9 (((Al k b V).1.filter (AS alw k)).map Co)).length<=150000000:=fun e=>by
  subst e;have h1:=Wc hb (AS alw 2) hright (Cf V);have h3:=Xi _ V (Nat.le_refl _);have h4:=Ri V;have h5:=YO (((Al 2 b V).1.filter (AS alw 2)).map Co)
  have h6:(Al 2 b V).1=(Cf V).map fun c=>BI b c.url c.ws:=rfl
  rw [h6] at h5⊢;have h7:(Cf V).length * (A6 b+112)<=1350 * (104460+112):=Nat.mul_le_mul Qa Qa;omega
 refine ⟨?_,h2⟩
 cases hF:(Al k b V).1.filter (AS alw k) with
 | nil=>exact Nat.zero_le _
 | cons it r=>
  have hm:it∈(Al k b V).1.filter (AS alw k):=Q4;obtain ⟨hm1,hk⟩:=List.mem_filter.1 hm;have hf:=f1 it hm1;have hw:=CY (hf.good (hright it hk)) true;have hu:=hf.url;unfold DR;dsimp only
  by_cases k1:k=1
  ·rw [if_pos k1];omega
  by_cases k2:k=2
  ·rw [if_neg k1,if_pos k2,<-hF];exact h2 k2
  by_cases k3:k=3
  ·rw [if_neg k1,if_neg k2,if_pos k3];unfold Gm;simp only [if_true,List.length_append,List.length_cons,List.length_nil];omega
  ·rw [if_neg k1,if_neg k2,if_neg k3];exact Nat.zero_le _
theorem BU.holds {w:World} {pa:Option Addr} {n c:Nat} {l:List UInt8} (h:BU w pa n c l):Lib.HoldsBytes w (.slice pa n c) l:=by
 refine ⟨pa,c,by rw [h.len],fun e=>by subst e;exact h.nil0.2.2,fun a e i x hx=> ?_⟩
 subst e;have hi:=(List.getElem?_eq_some_iff.1 hx).1;have hl:=h.len;have:=h.at i Qa;rw [this,Pk l i hi,(List.getElem?_eq_some_iff.1 hx).2]
theorem BU.piece {w:World} {pa:Option Addr} {n c:Nat} {l:List UInt8} (h:BU w pa n c l) (k j:Nat) (hk:k<=j) (hj:j<=n):
  ∃ pa',(∀ w0,(Instr.slice 25 (.slice pa n c) (some (.int .i64 (k:Int))) (some (.int .i64 (j:Int))) none).run Tryz.prog w0= .ok (.slice pa' (j - k) (c - k)) w0)/\Lib.HoldsBytes w (.slice pa' (j - k) (c - k)) ((l.drop k).take (j - k)):=by
 obtain ⟨pa',hrun,hc⟩:=h.mid k j hk hj;have hl:=h.len
 have hlen:((l.drop k).take (j - k)).length=j - k:=by rw [List.length_take,List.length_drop];omega
 refine ⟨pa',hrun,pa',c - k,by rw [hlen],fun e=> ?_,fun a e i x hx=> ?_⟩
 ·by_cases h0:0<j - k
  ·obtain ⟨ad,e2,-⟩:=hc h0;rw [e] at e2;cases e2
  ·exact List.eq_nil_of_length_eq_zero Qa
 ·have hi:=(List.getElem?_eq_some_iff.1 hx).1;obtain ⟨ad,e2,hv⟩:=hc Qa;rw [e] at e2;cases e2
  exact hv i _ (by rw [List.getElem?_map,hx];rfl)
theorem AbX {w0 wr:World} {h N:Nat} {acc:List UInt8} (hb:Lib.Buf w0 wr h N acc) (hN:acc.length=N):BU wr (some ⟨h,0,none⟩) N N acc:=by
 refine ⟨⟨hN,Nat.le_refl _,fun _=>⟨h,0,rfl,fun i hi=> ?_⟩⟩,fun e=>Akq⟩
 rw [Nat.zero_add];exact hb.holds i acc[i] (List.getElem?_eq_getElem hi)
theorem X7 {w0 wr:World} {h N:Nat} {acc:List UInt8} (hb:Lib.Buf w0 wr h N acc):Lib.Buf w0 wr.drew h N acc:=⟨hb.below.drew,hb.there,hb.free,hb.holds,hb.fits⟩
theorem KY (l:List UInt8) (s:Nat):(C6 (l.take s)).length+(C6 (l.drop s)).length=(C6 l).length:=by
 rw [<-List.length_append,<-Hi,List.take_append_drop]
theorem OD (w:World) (h N:Nat):(Instr.slice 25 (.slice (some ⟨h,0,none⟩) N N) (some (.int .i64 0)) (some (.int .i64 (N:Int))) none).run Tryz.prog w= .ok (.slice (some ⟨h,0,none⟩) N N) w:=by
 rw [run_slice_lh w _ _ N N Rz .i64 .i64 0 (N:Int) Qa Qa Qa,FC]
 by_cases h0:N=0
 ·subst h0;simp [Result.andThen,sliced]
 ·have:¬ (N:Int).toNat=0:=Qa;simp [Result.andThen,sliced,Addr.add,h0]
theorem Vm (ad:Addr) (n c:Nat) (l:List UInt8) (gb d:Nat) (pn:Addr) (cn:Nat) (w:World) (h:BU w (some ad) n c l) (hz:n<=1000000000) (hold:w.cell? ⟨gb,0,none⟩=some (.int .u8 0)) (hnew:BU w (some pn) 3 cn FM) (h0:0<l.count 0):
  Calls Tryz.prog 96 #[.slice (some ad) n c,.slice (some ⟨gb,0,none⟩) 1 d,.slice (some pn) 3 cn,.int .i64 (-1)] w (Abj (C6 l) w):=by
 have hcnt:=H0 (RD (d:=d) w h hold);have hln:=h.len;have hrl:=Mg l;obtain ⟨bI,hi,hzz,hs1,hb1⟩:=AeJ
 have hcle:l.count 0<=n:=by rw [<-hln];exact List.count_le_length
 obtain ⟨m,hm⟩:=N2 (l.count 0);rw [hm] at hcnt h0 hrl hcle;obtain ⟨N,hN⟩:=N2 (n+m * 2);have hNr:Hid ((C6 l).length=N):=H0 Qa;have hNz:N<=3000000000:=Qa;have hmI:decide ((m:Int)=0)=false:=QS;have hwm:IntKind.i64.wrap ((m:Int) * 2)=(m:Int) * 2:=IntWalk.i64_in _ Qa;have hwa:IntKind.i64.wrap ((n:Int)+(m:Int) * 2)=(N:Int):=QK;have hNI:(n:Int)+(m:Int) * 2=(N:Int):=Qa;replace hm:=H0 hm;replace hrl:=H0 hrl;replace hN:=H0 hN
 have hbuf0:Lib.Buf w (w.alloc (.cells (madeCells #[.int .u8 0] N) 5)) w.heap.size N []:=by
  have:=Lib.Buf.start w (madeCells #[.int .u8 0] N) 5 N 0 (by simp [madeCells])
  exact this
 have hnz:=H0 h;have hnew2:=H0 hnew;clear h hnew;go_enter Tryz.func96,Tryz.ntmps96
 go_upto_region 9 with (first
  | (go_at_call 163;refine hcnt.out.mono ?_;rintro e w' ⟨rfl,rfl⟩)
  | (refine wpList_make_row _ rfl _ _ 25 rfl 5 bI (.int .u8 0) Tryz.underlying25 hi hzz hs1 rfl .i64 .i64 N rfl rfl (by rw [hb1];omega) Qa ?_))
 refine Ap (R:=fun wx=>Lib.Buf w wx w.heap.size N []) hbuf0 ?_
 clear hbuf0;intro w1 hbuf1;go_wp2_with fail
 go_loopw [11,12,13,49] (fun v11 v12 v13 v49 wr=>∃ k s:Nat,v49= .int .i64 (k:Int)/\v12= .int .i64 (s:Int)/\v11= .int .i64 (((C6 (l.take s)).length:Nat):Int)/\Hid (Lib.Buf w wr w.heap.size N (C6 (l.take s)))/\s<=n/\Hid ((l.drop s).count 0+k=m)) (fun _ _ _ v49 _=>m - (intOf v49).toNat)
 case atStart=>exact ⟨0,0,rfl,rfl,rfl,H0 hbuf1,Nat.zero_le _,H0 (by rw [List.drop_zero,Nat.add_zero];exact hm.out)⟩
 case round=>
  obtain ⟨k,s,rfl,rfl,rfl,hbuf,hs,hct⟩:=hrel;clear hbuf1;have hbe:=hbuf.out.below;have htk:=KY l s;rw [hNr.out] at htk;obtain ⟨A,hA⟩:=N2 (C6 (l.take s));rw [hA] at hbuf htk⊢;replace hA:=H0 hA;have hhold:Hid (wr.cell? ⟨gb,0,none⟩=some (.int .u8 0)):=H0 ((hbe.cell (World.block_lt_of_cell? w _ hold)).trans hold)
  have hdl:(l.drop s).length=n - s:=by rw [List.length_drop,hln]
  obtain ⟨p1,hrun1,hb1⟩:=hnz.out.drop s hs
  have htl1:=fun W=>Lib.run_slice_tailV (P:=Tryz.prog) W 25 5 Tryz.underlying25 (fun w=>FC w) w.heap.size N A.length Qa
  by_cases hk:k<m
  ·obtain ⟨i,hix,hil,hcl,hsp,hc2⟩:=Acf (l:=l.drop s) (by have:=hct.out;omega)
   have hidx:=ZF (d:=d) wr (hb1.below hbe (Nat.le_refl _)) hhold.out;rw [hix] at hidx;obtain ⟨J,hJ⟩:=N2 (s+i);obtain ⟨p2,hrun2,hp2⟩:=hnz.out.piece s J Qa Qa
   rw [show J - s=i by omega] at hrun2 hp2
   have hrd:=Aaz Qa hcl hsp hil;rw [hA.out] at hrd;have hpl:((l.drop s).take i).length=i:=Qs;obtain ⟨p,hp⟩:∃ p,(l.drop s).take i=p:=⟨_,rfl⟩;rw [hp] at hrd hpl hp2;have htk2:=KY l (s+i+1);rw [hrd,hNr.out,List.length_append,List.length_append,hpl,show FM.length=3 from rfl] at htk2;obtain ⟨wr1,hcp1,hbf1⟩:=Lib.copy_part (P:=Tryz.prog) w wr.drew w.heap.size N A p _ 25 3 5 Tryz.underlying25 Qb (Nat.le_refl _) (X7 hbuf.out) hp2 Qa;rw [hpl] at hcp1;obtain ⟨A2,hA2⟩:=N2 (A++p)
   have hA2l:A2.length=A.length+i:=by rw [<-hA2,List.length_append,hpl]
   rw [hA2] at hbf1
   have htl2:=fun W=>Lib.run_slice_tailV (P:=Tryz.prog) W 25 5 Tryz.underlying25 (fun w=>FC w) w.heap.size N A2.length Qa
   obtain ⟨wr2,hcp2,hbf2⟩:=Lib.copy_part (P:=Tryz.prog) w wr1 w.heap.size N A2 FM _ 25 3 5 Tryz.underlying25 Qb (Nat.le_refl _) hbf1 hnew2.out.holds (by rw [show FM.length=3 from rfl];omega)
   rw [show FM.length=3 from rfl] at hcp2;have hne2:¬ N=A2.length:=Qa;have hA2N:(A2.length:Int)<=(N:Int):=Qa;have hA20:(0:Int)<=(A2.length:Int):=Qa;unfold Lib.tailV at hcp2;rw [if_neg hne2] at hcp2;clear htl2;have hw0:IntKind.i64.wrap ((s:Int)+(i:Int))=(J:Int):=QK;have hw1:IntKind.i64.wrap ((A.length:Int)+(i:Int))=(A2.length:Int):=QK;obtain ⟨A3,hA3⟩:=N2 (A2++FM)
   have hA3l:A3.length=A2.length+3:=by rw [<-hA3,List.length_append];rfl
   rw [hA3] at hbf2;have hw2:IntKind.i64.wrap ((A2.length:Int)+((3:Nat):Int))=(A3.length:Int):=QK;have hw2':IntKind.i64.wrap ((A2.length:Int)+3)=(A3.length:Int):=hw2;have hv0:(s:Int)+(i:Int)=(J:Int):=Qa;have hv2:(A2.length:Int)+3=(A3.length:Int):=Qa
   have hrd2:Hid (C6 (l.take (J+1))=A3):=H0 (by rw [<-hJ,hrd,<-hA3,<-hA2,List.append_assoc])
   have hct2:Hid ((l.drop (J+1)).count 0+(k+1)=m):=H0 (by
    have h1:=hct.out;rw [List.drop_drop] at hc2
    rw [show J+1=s+(i+1) by omega]
    omega)
   have hJn:J+1<=n:=Qa;replace hJ:=H0 hJ;replace hrd:=H0 hrd;replace hp:=H0 hp;replace hpl:=H0 hpl;replace hA2:=H0 hA2;replace hA3:=H0 hA3;replace hix:=H0 hix;replace hsp:=H0 hsp;replace hc2:=H0 hc2;replace hidx:=H0 hidx;replace hbf2:=H0 hbf2;replace hdl:=H0 hdl;replace htk2:=H0 htk2;replace hA2l:=H0 hA2l;replace hA3l:=H0 hA3l;clear hbf1 hb1 hp2 hcl hil
   go_upto_region 15 with (go_at_call 164;refine hidx.out.mono ?_;rintro e w' ⟨rfl,rfl⟩)
   refine wp_region_noPanic ?_
   refine wp_region_held_drew (S:=fun _=>True) Qb (trivial) (fun hHeld=> ?_)
   refine T0 0 58 ?_ hHeld ?_ ?_;rotate_left
   ·intro w hSw;(try dsimp only at hSw);go_simp;try with_reducible rfl
   try simp only [P3]
   refine T0 1 59 ?_ hHeld ?_ ?_;rotate_left
   ·intro w hSw;(try dsimp only at hSw);go_simp;try with_reducible rfl
   try simp only [P3]
   refine T0 2 60 ?_ hHeld ?_ ?_;rotate_left
   ·intro w hSw;(try dsimp only at hSw);go_simp;try with_reducible rfl
   try simp only [P3]
   refine T0 3 61 ?_ hHeld ?_ ?_;rotate_left
   ·intro w hSw;(try dsimp only at hSw);go_simp;try with_reducible rfl
   try simp only [P3]
   refine T0 4 62 ?_ hHeld ?_ ?_;rotate_left
   ·intro w hSw;(try dsimp only at hSw);go_simp;try with_reducible rfl
   try simp only [P3]
   refine T0 5 63 ?_ hHeld ?_ ?_;rotate_left
   ·intro w hSw;(try dsimp only at hSw);go_simp;try with_reducible rfl
   try simp only [P3]
   refine T0 6 64 ?_ hHeld ?_ ?_;rotate_left
   ·intro w hSw;(try dsimp only at hSw);go_simp;try with_reducible rfl
   try simp only [P3]
   refine T0 7 65 ?_ hHeld ?_ ?_;rotate_left
   ·intro w hSw;(try dsimp only at hSw);go_simp;try with_reducible rfl
   try simp only [P3]
   refine wpAnyH_ready (rs:=[8]) Qb Qf ?_
   refine AllReadyH.cons rfl (fun K hK=> ?_) AllReadyH.nil
   refine Lib.wp_copy_run _ _ _ 25 25 rfl _ _ rfl rfl hcp1 ?_
   refine hK.out _ _ trivial (fun hHeld=> ?_)
   clear hK K
   try simp only [P3]
   refine T0 9 67 ?_ hHeld ?_ ?_;rotate_left
   ·intro w hSw;(try dsimp only at hSw);go_simp;try with_reducible rfl
   try simp only [P3]
   refine wpAnyH_ready (rs:=[10]) Qb Qf ?_
   refine AllReadyH.cons rfl (fun K hK=> ?_) AllReadyH.nil
   go_simp
   refine hK.out _ _ (trivial) (fun hHeld=> ?_)
   clear hK K
   try simp only [P3]
   refine wpAnyH_done Qb ?_ _;refine NoPanic.normal ?_;go_wp2_with (refine Lib.wpList_copy_run _ rfl _ _ 25 25 rfl _ _ rfl rfl hcp2 ?_);go_roundw
   case rel=>exact ⟨k+1,J+1,by first | rfl | omega,by first | rfl | omega,by rw [hrd2.out],H0 (by rw [hrd2.out];exact hbf2.out),hJn,hct2⟩
   case measure=>simp [intOf];omega
  ·have hc0:(l.drop s).count 0=0:=by have:=hct.out;omega
   have hfin:Hid (A++l.drop s=C6 l):=H0 (by
    rw [<-hA.out,<-HU hc0,HU hc0]
    conv=>rhs;rw [<-List.take_append_drop s l,Hi,HU hc0])
   rw [HU hc0,hdl] at htk;obtain ⟨wr1,hcp1,hbf1⟩:=Lib.copy_part (P:=Tryz.prog) w wr.drew w.heap.size N A (l.drop s) _ 25 3 5 Tryz.underlying25 Qb (Nat.le_refl _) (X7 hbuf.out) (hb1.holds) Qa;rw [hdl] at hcp1;obtain ⟨q,hq⟩:=N2 (n - s);rw [hq] at hcp1 hrun1;have hwz:IntKind.i64.wrap ((A.length:Int)+(q:Int))=(N:Int):=QK;have hvz:(A.length:Int)+(q:Int)=(N:Int):=Qa;have hwhole:=OD (h:=w.heap.size) (N:=N)
   have hbn:=AbX hbf1 (by rw [List.length_append,hdl];omega)
   rw [hfin.out] at hbn;have hbel:=hbf1.below;replace hbn:=H0 hbn;replace hq:=H0 hq;replace hdl:=H0 hdl;replace htk:=H0 htk;clear hbf1 hb1 hc0
   go_upto_region 28 with fail
   refine wp_region_noPanic ?_
   refine wp_region_held_drew (S:=fun _=>True) Qb (trivial) (fun hHeld=> ?_)
   refine T0 0 120 ?_ hHeld ?_ ?_;rotate_left
   ·intro w hSw;(try dsimp only at hSw);go_simp;try with_reducible rfl
   try simp only [P3]
   refine T0 1 121 ?_ hHeld ?_ ?_;rotate_left
   ·intro w hSw;(try dsimp only at hSw);go_simp;try with_reducible rfl
   try simp only [P3]
   refine T0 2 122 ?_ hHeld ?_ ?_;rotate_left
   ·intro w hSw;(try dsimp only at hSw);go_simp;try with_reducible rfl
   try simp only [P3]
   refine T0 3 123 ?_ hHeld ?_ ?_;rotate_left
   ·intro w hSw;(try dsimp only at hSw);go_simp;try with_reducible rfl
   try simp only [P3]
   refine T0 4 124 ?_ hHeld ?_ ?_;rotate_left
   ·intro w hSw;(try dsimp only at hSw);go_simp;try with_reducible rfl
   try simp only [P3]
   refine T0 5 125 ?_ hHeld ?_ ?_;rotate_left
   ·intro w hSw;(try dsimp only at hSw);go_simp;try with_reducible rfl
   try simp only [P3]
   refine T0 6 126 ?_ hHeld ?_ ?_;rotate_left
   ·intro w hSw;(try dsimp only at hSw);go_simp;try with_reducible rfl
   try simp only [P3]
   refine wpAnyH_ready (rs:=[7]) Qb Qf ?_
   refine AllReadyH.cons rfl (fun K hK=> ?_) AllReadyH.nil
   refine Lib.wp_copy_run _ _ _ 25 25 rfl _ _ rfl rfl hcp1 ?_
   refine hK.out _ _ trivial (fun hHeld=> ?_)
   clear hK K
   try simp only [P3]
   refine T0 8 128 ?_ hHeld ?_ ?_;rotate_left
   ·intro w hSw;(try dsimp only at hSw);go_simp;try with_reducible rfl
   try simp only [P3]
   refine wpAnyH_ready (rs:=[9]) Qb Qf ?_
   refine AllReadyH.cons rfl (fun K hK=> ?_) AllReadyH.nil
   go_simp
   refine hK.out _ _ (trivial) (fun hHeld=> ?_)
   clear hK K
   try simp only [P3]
   refine wpAnyH_done Qb ?_ _;refine NoPanic.normal ?_;go_wp2_with fail;go_ret;exact ⟨_,_,_,rfl,hbn.out,hbel⟩
theorem Adq (l:List UInt8):Ww l:=fun pa n c gb d pn cn w h hz hold hnew=>by
 by_cases h0:l.count 0=0
 ·exact I4 pa n c l gb d (some pn) cn w h hz hold h0
 ·cases pa with
  | none=>
   obtain ⟨rfl,rfl,rfl⟩:=h.nil0;exact absurd rfl h0
  | some ad=>
   have hr:=H0 (Vm ad n c l gb d pn cn w h hz hold hnew Qa);clear h hnew h0;go_enter Tryz.func48,Tryz.ntmps48;go_wp2_with fail;refine hr.out.mono ?_;rintro e w1 ⟨pv,nv,cv,rfl,hb,hbel⟩;replace hb:=H0 hb;go_wp2_with fail;go_ret;exact ⟨_,_,_,rfl,hb.out,hbel⟩
theorem AbP (v:Value) (t:ByteArray) (x:AO) (l:List AO) (u:Ao) (w:World) (hE:Gu w) (hr:FA w v (x :: l)) (hx:G0 x.url u) (g:AI u) (hz:A6 u<=900000000) (htz:t.size<=1000000000):
  Calls Tryz.prog 28 #[.int .i64 3,.agg (readC v t)] w (EI w (BL (Gm (t.toList,true,AW u true)))):=by
 have hb0:Below w.heap.size w (w.alloc (.cells (readC v t) 44)):=(Below.refl _ _).alloc (Nat.le_refl _) _;have hc0:AG (w.alloc (.cells (readC v t) 44)) w.heap.size (readC v t) 44:=AG.new _ _ _;have hlen:=CY g true;have hfit:=H0 (EO hx g Qa);have hwr:=H0 (FD hx true);obtain ⟨w0,hw0⟩:∃ w0,w.alloc (.cells (readC v t) 44)=w0:=⟨_,rfl⟩;rw [hw0] at hb0 hc0;have hr0:=hr.below hb0 (Nat.le_refl _);obtain ⟨pa,c,rfl,hcap,hrow,hreads⟩:=hr0;obtain ⟨g1,o1,rfl,hcell⟩:=hrow Qf;have y:w0.rangeAt g1 (o1+0 * 25+1) (Ab x.url).toList:=Fg (hcell 0 Qf);rw [Nat.zero_mul,Nat.add_zero] at y;have hX:=hreads x (List.mem_cons_self ..);have hpin:=(hX.urlW hx).inn;have y0:=(hc0.at 0).trans (show (readC (.slice (some ⟨g1,o1,none⟩) (x :: l).length c) t)[0]? =some (.slice (some ⟨g1,o1,none⟩) (x :: l).length c) from rfl)
 have hle:(1:Int)<=((x :: l).length:Int):=by rw [List.length_cons];omega
 obtain ⟨N,hN⟩:∃ N,(x :: l).length=N:=⟨_,rfl⟩;rw [hN] at y0 hle hcap hw0 hc0⊢;have hN0:decide ((N:Int)=0)=false:=QS;obtain ⟨L,hL⟩:=N2 (AW u true);rw [hL] at hwr hlen⊢;replace hL:=H0 hL;replace hN:=H0 hN;replace hE:=H0 hE;replace hX:=H0 hX;replace hpin:=H0 hpin
 have hw1:=H0 (Gr x.url true w0 hpin.out hfit.out (hE.out.next hb0).tabs)
 clear hr hrow hcell hreads;go_enter Tryz.func28,Tryz.ntmps28;go_wp2_with (refine wpList_load_mid rfl 34 _ rfl g1 (o1+1) rfl (Ab x.url).toList _ y Tryz.underlying34 rfl (Gv _) ?_);clear hw0;refine hw1.out.mono ?_;rintro e w1 ⟨tw,rfl,htw,hb1⟩
 have hb2:=hb0.next hb1
 have htw2:Hid (tw.toList=L):=H0 (by rw [htw.out,hwr.out])
 have htwz:tw.size<=1000000000:=by rw [<-Aa,htw2.out];omega
 have y1:=((hc0.keep hb1).at 1).trans (show (readC (.slice (some ⟨g1,o1,none⟩) N c) t)[1]? =some (.string t) from rfl);have hwf:=H0 (Vb t tw true w1 htz htwz);clear hb0 hb1 y y0 hc0 htw hw1;go_wp2_with (refine wpList_buildTo rfl _ _ rfl _ rfl #[.string t,.bool true,.string tw] Qb ?_);refine hwf.out.mono ?_;rintro e w2 ⟨tr,rfl,htr,hb3⟩
 have hfr:Hid (tr.toList=Gm (t.toList,true,L)):=H0 (by rw [htr.out,htw2.out])
 have hb4:=hb2.next hb3
 have htz2:tr.size<=4294967296:=by
  rw [<-Aa,hfr.out];have h1:=Aa t;unfold Gm;simp only [if_true,List.length_append,List.length_cons,List.length_nil];omega
 clear hb3 hb2 htr hwf y1;go_wp2_with fail;refine (IH tr w2 htz2).mono ?_;rintro e w3 ⟨te,rfl,hte,hb5⟩
 have hfin:Hid (te.toList=BL (Gm (t.toList,true,L))):=H0 (by rw [hte.out,hfr.out])
 have hb6:=hb4.next hb5
 clear hb5 hb4;go_wp2_with fail;go_ret;exact ⟨_,rfl,hfin,hb6⟩
structure Zm (k:Nat) (V:List UInt8):Prop where
 len:V.length<=900000000
 one:k=1->V.length<=1100000
 set:k=2->∀ c∈Cf V,c.url.length<=1100000
 ref:k=3->∀ d h x,Bi V=some (d,h,x)->x.length<=1100000
theorem RC {k:Nat} (hk:k=1\/k=2\/k=3) {B:Am} {b:Ao} (hB:G0 B b) (lb:A6 b<=1000000) {V:List UInt8} (h:Zm k V):O0 k B b V:=fun s w hs hE hBw=>by
 have hz:=h.len;rw [<-hs,Aa] at hz;have bk:=Nr hB lb
 rcases hk with rfl | rfl | rfl
 ·have h1:=h.one rfl;rw [<-hs,Aa] at h1;rw [<-hs];exact PI B b s w hE hBw bk h1
 ·have h1:=h.set rfl;rw [<-hs] at h1⊢;exact Pa B b s w hE hBw bk hz h1
 ·have h1:=h.ref rfl;rw [<-hs] at h1⊢;exact YS B b s w hE hBw bk Qa h1
theorem ZS {it:BG} {d:List UInt8} (g:AI it.url) (hz:A6 it.url<=900000000) (hd:d.length<=1000000000):Pq 3 [it] d:=fun v t l w ht hE hr his h0 hn hw=>by
 cases l with
 | nil=>cases h0
 | cons x l=>
  have:=AbP v t x l it.url w hE hr his.1.url g hz (by rw [<-Aa,ht];exact hd)
  rw [ht] at this;exact this
theorem UD {b:Ao} {k:Nat} (hk:k=1\/k=3) (V:List UInt8):(Al k b V).1.length<=1:=by
 rcases hk with rfl | rfl
 ·exact Nat.le_refl _
 ·show (E5 b (Bi V)).1.length<=1
  cases Bi V with
  | none=>exact Nat.zero_le _
  | some q=>
   obtain ⟨d,h,x⟩:=q
   cases h<;>exact Nat.le_refl _
theorem PJ {k:Nat} (hk:k=1\/k=2\/k=3) {F:List BG} {d:List UInt8} (hne:F≠[]) (h1:k≠2->F.length<=1) (hg:∀ it∈F,it.right=true/\it.ws.length<=9000/\AI it.url/\A6 it.url<=900000000) (hz:k=2->(A9 (F.map Co)).length<=1000000000) (hd:d.length<=1000000000) (hd0:k≠3->d=[]) (hw1:k≠2->∀ it∈F,it.ws=[]):Pq k F d:=by
 have one:k≠2->∃ it,F=[it]:=fun h=>by
  have:=h1 h
  match F,hne,this with
  | [it],_,_=>exact ⟨it,rfl⟩
  | a :: b :: r,_,h=>simp at h
 rcases hk with rfl | rfl | rfl
 ·obtain ⟨it,rfl⟩:=one Qc;obtain ⟨a1,-,a2,a3⟩:=hg it (List.mem_singleton.2 rfl);have a4:=hw1 Qc it (List.mem_singleton.2 rfl);rw [hd0 Qc]
  have e:it=⟨true,it.url,[]⟩:=by
   cases it
   simp_all
  rw [e];exact Za a2 Qa
 ·rw [hd0 Qc]
  exact Rf hne (fun it hit=>by obtain ⟨-,-,a2,a3⟩:=hg it hit;exact ⟨a2,Qa⟩) (hz rfl)
 ·obtain ⟨it,rfl⟩:=one Qc;obtain ⟨-,-,a2,a3⟩:=hg it (List.mem_singleton.2 rfl);exact ZS a2 a3 hd
theorem NG {b:Ao} {k:Nat} (hk:k≠3) (V:List UInt8):(Al k b V).2=[]:=by
 by_cases k1:k=1
 ·subst k1;rfl
 by_cases k2:k=2
 ·subst k2;rfl
 have e:Al k b V=([],[]):=by unfold Al;rw [if_neg k1,if_neg k2,if_neg hk]
 rw [e]
theorem NR {b:Ao} {k:Nat} (hk:k≠2) (V:List UInt8):∀ it∈(Al k b V).1,it.ws=[]:=by
 intro it hit
 by_cases k1:k=1
 ·subst k1;rw [List.mem_singleton.1 (show it∈[BI b V []] from hit)];rfl
 by_cases k3:k=3
 ·subst k3;have hit2:it∈(E5 b (Bi V)).1:=hit
  cases hp:Bi V with
  | none=>rw [hp] at hit2;cases hit2
  | some q=>
   obtain ⟨d,h,x⟩:=q;rw [hp] at hit2
   cases h with
   | true=>rw [List.mem_singleton.1 (show it∈[BI b x []] from hit2)];rfl
   | false=>rw [List.mem_singleton.1 (show it∈[(⟨true,b,[]⟩:BG)] from hit2)]
 have e:Al k b V=([],[]):=by unfold Al;rw [if_neg k1,if_neg hk,if_neg k3]
 rw [e] at hit;cases hit
theorem U1 (k:Nat) (hk:k=1\/k=2\/k=3) (p:Df) (B:Am) (b:Ao) (el nm:ByteArray) (pa:Option Addr) (n c:Nat) (raw:List UInt8) (w:World) (hE:Gu w) (hp:Em w p) (hB:DM w B b) (g:AI b) (lb:A6 b<=104460) (hK:Ij el nm k) (h:BU w pa n c raw) (hr:raw.length<=300):
  Calls Tryz.prog 10 #[.agg (BK p),.agg (Ab B),.string el,.string nm,.slice pa n c] w (Zr (A5 (Eu p.schemes.l p.hosts.l p.types.l) p.most k b raw) w):=by
 have hV:=Lg raw
 have hn:n<=1000000000:=by rw [<-h.len];omega
 have h1:=Mg raw;have h2:raw.count 0<=raw.length:=List.count_le_length;have h3:=Ki (C6 raw);obtain ⟨f1,f2,f3⟩:=Ku (k:=k) (V:=AD raw) g Qa;obtain ⟨t1,t2⟩:=MH (k:=k) (V:=AD raw) (alw:=Eu p.schemes.l p.hosts.l p.types.l) g lb Qa;have hel:=(JU (DR k ((Al k b (AD raw)).1.filter (AS (Eu p.schemes.l p.hosts.l p.types.l) k)) (Al k b (AD raw)).2)).2
 have htx:Zm k (AD raw):=⟨Qa,fun _=>Qa,fun _ c hc=>by have:=Xu hc;omega,fun _ d hh x hp=>by have:=Ll hp;omega⟩
 refine IR p B b el nm k pa n c raw w hE hp hB g Qa hK (by rcases hk with rfl | rfl | rfl<;>decide) h hn (Adq raw) Qa Qa (RC hk hB.is Qa htx) ?_ Qa ?_ Qa
 ·intro it hit;have hf:=f1 it hit;have hu:=hf.url;have:=Lf hu
  exact ⟨fun hright=>⟨hf.good hright,Qa⟩,by have:=hf.ws;omega,Qa⟩
 ·intro hne
  refine PJ hk hne (fun h2=> ?_) (fun it hit=> ?_) (fun e=>by have:=t2 e;omega) Qa (fun h3=>NG h3 _) (fun h2 it hit=>NR h2 _ it (List.mem_filter.1 hit).1)
  ·have e1:=UD (b:=b) (k:=k) (hk.elim .inl fun e=>e.elim (fun e=>absurd e h2) .inr) (AD raw)
   exact Nat.le_trans (List.length_filter_le _ _) e1
  ·obtain ⟨hm,hq⟩:=List.mem_filter.1 hit
   have hright:it.right=true:=by
    unfold AS at hq;rw [Bool.and_eq_true] at hq;exact hq.1
   have hf:=f1 it hm
   exact ⟨hright,hf.ws,hf.good hright,by have:=hf.url;omega⟩
theorem Ac0 {k:Nat} (hk:k=1\/k=2\/k=3) {b:Ao} {V:List UInt8} {alw:Ao->Bool} (g:AI b) (lb:A6 b<=104460) (hV:V.length<=2700) (hne:(Al k b V).1.filter (AS alw k)≠[]):
  Zm k (DR k ((Al k b V).1.filter (AS alw k)) (Al k b V).2):=by
 obtain ⟨f1,f2,f3⟩:=Ku (k:=k) g hV;obtain ⟨t1,t2⟩:=MH (k:=k) (alw:=alw) g lb hV
 have hright:∀ it,AS alw k it=true->it.right=true:=fun it h=>by
  unfold AS at h;rw [Bool.and_eq_true] at h;exact h.1
 have hall:∀ it∈(Al k b V).1.filter (AS alw k),AI it.url/\(AW it.url true).length<=1100000:=fun it hit=>by
  obtain ⟨hm,hq⟩:=List.mem_filter.1 hit;have hf:=f1 it hm;have gu:=hf.good (hright it hq);have:=CY gu true;have:=hf.url;exact ⟨gu,Qa⟩
 obtain ⟨a1,a2,a3⟩:=NN (alw:=alw) (s:=V) g rfl hne
 refine ⟨Qa,fun e=> ?_,fun e c hc=> ?_,fun e d h x hp=> ?_⟩
 ·subst e
  cases hF:(Al 1 b V).1.filter (AS alw 1) with
  | nil=>exact absurd hF hne
  | cons it r=>
   have:=(hall it Q4).2;show (AW it.url true).length<=_;exact this
 ·subst e
  have e2:∀ s,Al 2 b s=((Cf s).map fun c=>BI b c.url c.ws,[]):=fun _=>rfl
  have key:∀ it∈(Al 2 b V).1.filter (AS alw 2),L8 (Co it):=fun it hit=>by
   obtain ⟨hm,hq⟩:=List.mem_filter.1 hit;obtain ⟨c,hc,rfl⟩:=List.mem_map.1 hm;have hq2:=hq;unfold AS at hq2;rw [Bool.and_eq_true,Bool.and_eq_true] at hq2;obtain ⟨hr,_,hf⟩:=hq2;obtain ⟨u,hj,hi,gu⟩:=D4 g hr;rw [hi] at hf⊢
   exact S9 (by simpa using hf) (UA _ V (Nat.le_refl _) c hc).ds
  obtain ⟨it,r,hir⟩:∃ it r,(Al 2 b V).1.filter (AS alw 2)=it :: r:=by
   cases h:(Al 2 b V).1.filter (AS alw 2) with
   | nil=>exact absurd h hne
   | cons a r=>exact ⟨a,r,rfl⟩
  have ht:DR 2 ((Al 2 b V).1.filter (AS alw 2)) (Al 2 b V).2=A9 (((Al 2 b V).1.filter (AS alw 2)).map Co):=by rw [hir];rfl
  rw [ht,RW _ (fun x hx=>by obtain ⟨it,hit,rfl⟩:=List.mem_map.1 hx;exact key it hit)] at hc
  obtain ⟨it2,hit2,rfl⟩:=List.mem_map.1 hc;exact (hall it2 hit2).2
 ·subst e;have e3:Al 3 b (DR 3 ((Al 3 b V).1.filter (AS alw 3)) (Al 3 b V).2)=E5 b (Bi (DR 3 ((Al 3 b V).1.filter (AS alw 3)) (Al 3 b V).2)):=rfl;rw [e3,hp] at a3;have hx:=Ll hp
  cases hF:(Al 3 b V).1.filter (AS alw 3) with
  | nil=>exact absurd hF hne
  | cons it r=>
   have h1:=(hall it Q4).2;rw [hF] at hx
   have ht:(DR 3 (it :: r) (Al 3 b V).2).length=(Al 3 b V).2.length+6+(AW it.url true).length:=by
    show (Gm ((Al 3 b V).2,true,AW it.url true)).length=_;unfold Gm;simp only [if_true,List.length_append,List.length_cons,List.length_nil]
   have h2:A6 it.url<=A6 b+939660:=(f1 it (List.mem_filter.1 (show it∈(Al 3 b V).1.filter (AS alw 3) by rw [hF];exact List.mem_cons_self ..)).1).url
   have h3:=CY (hall it Q4).1 true;omega
theorem LV {alw:Ao->Bool} {most:Int} {kind:Nat} {base:Ao} {raw:List UInt8} (hb:AI base) (h:(A5 alw most kind base raw).kind=3):
  ∃ W l d,A5 alw most kind base raw=⟨3,0,BL W⟩/\Aic alw most kind base raw W l d/\(Al kind base (AD raw)).1.filter (AS alw kind)≠[]/\(Al kind base (AD raw)).1.filter (AS alw kind)=l/\(Al kind base (AD raw)).2=d:=by
 by_cases h0:kind=0
 ·unfold A5 at h;rw [if_pos h0] at h;cases h
 by_cases h1:most<(raw.length:Int)
 ·unfold A5 at h;rw [if_neg h0,if_pos h1] at h;cases h
 by_cases h2:(Al kind base (AD raw)).1.any (·.right)=false
 ·unfold A5 at h;rw [if_neg h0,if_neg h1,if_pos h2] at h;cases h
 by_cases h3:(Al kind base (AD raw)).1.filter (AS alw kind)=[]
 ·unfold A5 at h;rw [if_neg h0,if_neg h1,if_neg h2,if_pos h3] at h;cases h
 by_cases h4:most<((BL (DR kind ((Al kind base (AD raw)).1.filter (AS alw kind)) (Al kind base (AD raw)).2)).length:Int)
 ·unfold A5 at h;rw [if_neg h0,if_neg h1,if_neg h2,if_neg h3,if_pos h4] at h;cases h
 obtain ⟨g1,g2,g3⟩:=NN hb rfl h3;refine ⟨_,_,_,?_,⟨h0,rfl,h3,g1,g2,g3,h1,h4⟩,h3,rfl,rfl⟩;unfold A5;rw [if_neg h0,if_neg h1,if_neg h2,if_neg h3,if_neg h4]
theorem Vi (k:Nat) (hk:k=1\/k=2\/k=3) (p:Df) (B:Am) (b:Ao) (el nm:ByteArray) (pa:Option Addr) (n c:Nat) (raw:List UInt8) (x:ByteArray) (w:World) (hE:Gu w) (hp:Em w p) (hB:DM w B b) (g:AI b) (lb:A6 b<=104460) (hK:Ij el nm k) (hr:raw.length<=300)
  (hkept:A5 (Eu p.schemes.l p.hosts.l p.types.l) p.most k b raw=⟨3,0,x.toList⟩) (h:BU w pa n c x.toList):
  Calls Tryz.prog 10 #[.agg (BK p),.agg (Ab B),.string el,.string nm,.slice pa n c] w (fun e w'=>e= .returned (.agg (Bh 3 0 x))/\Below w.heap.size w w'):=by
 have hV:=Lg raw
 obtain ⟨W,l,d,hq,hkp,hfst,hl,hd⟩:=LV (alw:=Eu p.schemes.l p.hosts.l p.types.l) (most:=p.most) (kind:=k) (raw:=raw) g (by rw [hkept])
 rw [hkept] at hq;have hx:x.toList=BL W:=congrArg AeK.out hq;have hself:=hkp.self;have hEq:A5 (Eu p.schemes.l p.hosts.l p.types.l) p.most k b (BL W)=⟨3,0,BL W⟩:=hself;have hv:=MN hkp.clean;obtain ⟨e0,e1,e2⟩:=XS hkp.clean
 have hfl:l.filter (AS (Eu p.schemes.l p.hosts.l p.types.l) k)=l:=List.filter_eq_self.2 fun it hit=>(hkp.good it hit).1
 obtain ⟨f1,f2,f3⟩:=Ku (k:=k) (V:=AD raw) g Qa;obtain ⟨t1,t2⟩:=MH (k:=k) (V:=AD raw) (alw:=Eu p.schemes.l p.hosts.l p.types.l) g lb Qa;have htk:=Ac0 hk g lb (V:=AD raw) (alw:=Eu p.schemes.l p.hosts.l p.types.l) Qa hfst
 have hmem:∀ it∈l,it∈(Al k b (AD raw)).1:=fun it hit=>by rw [<-hl] at hit;exact (List.mem_filter.1 hit).1
 have hlen:l.length<=2700:=by rw [<-hl];exact Nat.le_trans (List.length_filter_le _ _) f2
 have hitems:k≠2->l.length<=1:=fun h2=>by
  rw [<-hl]
  exact Nat.le_trans (List.length_filter_le _ _) (UD (hk.elim .inl fun e=>e.elim (fun e=>absurd e h2) .inr) (AD raw))
 have hdw:k≠3->d=[]:=fun h3=>by rw [<-hd];exact NG h3 _
 have hww:k≠2->∀ it∈l,it.ws=[]:=fun h2 it hit=>NR h2 _ it (hmem it hit)
 have hdl:d.length<=2701:=by rw [<-hd];exact f3
 rw [hl,hd] at t1 htk;rw [hl] at t2;rw [hkp.text] at t1 htk;have hel:=(JU W).2;rw [hx] at h
 have hn:n<=1000000000:=by rw [<-h.len];omega
 refine (IR p B b el nm k pa n c (BL W) w hE hp hB g Qa hK (by rcases hk with rfl | rfl | rfl<;>decide) h hn (IE e0) (by rw [e1];omega) (by rw [e1,e2];omega) (by rw [hv];exact RC hk hB.is Qa htk) ?_ ?_ ?_ ?_).mono ?_
 ·rw [hv,hkp.again];intro it hit;have hf:=f1 it (hmem it hit);have hu:=hf.url;have:=Lf hu
  exact ⟨fun _=>⟨(hkp.good it hit).2,Qa⟩,by have:=hf.ws;omega,Qa⟩
 ·rw [hv,hkp.again];show l.length<=_;omega
 ·rw [hv,hkp.again];dsimp only;rw [hfl];intro hne
  refine PJ hk hne hitems (fun it hit=> ?_) (fun e=>by have:=t2 e;omega) Qa hdw hww
  have hf:=f1 it (hmem it hit);have hq:=(hkp.good it hit).1
  have hright:it.right=true:=by
   unfold AS at hq;rw [Bool.and_eq_true] at hq;exact hq.1
  exact ⟨hright,hf.ws,(hkp.good it hit).2,by have:=hf.url;omega⟩
 ·rw [hv,hkp.again];dsimp only;rw [hfl,hkp.text];omega
 ·rintro e w' ⟨t,rfl,ht,hb⟩;rw [hEq] at ht⊢;obtain rfl:t=x:=toList_inj (ht.out.trans hx.symm);exact ⟨rfl,hb⟩
def Ag6 (s:ByteArray) (w:World) (e:Ending) (w':World):Prop:=
 ∃ S:Am,∃ b:Bool,e= .returned (.tuple #[.agg (Ab S),.bool b])/\Ew w' w.heap.size S ((DJ s.toList).getD FU)/\(b=true->(∃ u,DJ s.toList=some u)/\s.size<=300)/\Below w.heap.size w w'
theorem Af6 (s:ByteArray) (w:World) (hE:Gu w) (hz:s.size<=1100000):Calls Tryz.prog 8 #[.string s] w (Ag6 s w):=by
 have hE':=H0 hE;clear hE;have hb0:Below w.heap.size w (w.alloc (.cells (Ab zS) 34)):=(Below.refl _ _).alloc (Nat.le_refl _) _;have hr0:AG (w.alloc (.cells (Ab zS) 34)) w.heap.size (Ab zS) 34:=AG.new _ _ _;go_enter Tryz.func8,Tryz.ntmps8
 go_upto_region 1 with (fail)
 refine Ap (R:=fun wx=>Below w.heap.size w wx/\AG wx w.heap.size (Ab zS) 34) ⟨hb0,hr0⟩ ?_
 clear hb0 hr0;rintro w1 ⟨hb1,hr1⟩
 have hp:=Ls s w1 (hE'.out.next hb1) hz
 obtain ⟨o,ho⟩:=N2 (DJ s.toList);rw [ho] at hp;replace ho:=H0 ho;go_wp2_with fail;refine hp.mono ?_;rintro e w2 ⟨T,rfl,hu,hb⟩;obtain ⟨k,hk⟩:=N2 (o.isSome);rw [hk]
 have hb2:=hb1.next hb
 have hr2:=hr1.keep hb;have hs1:=hb1.size;have hs2:=hb2.size;have hlt:=hr1.lt;clear hb hb1 hr1 hp;have hb5:Below w.heap.size w (w2.alloc (.cells (Ab T) 34)):=hb2.alloc hs2 _;have hr5:AG (w2.alloc (.cells (Ab T) 34)) w.heap.size (Ab zS) 34:=hr2.alloc _;have hn5:AG (w2.alloc (.cells (Ab T) 34)) w2.heap.size (Ab T) 34:=AG.new _ _ _
 have hu5:Ew (w2.alloc (.cells (Ab T) 34)) w1.heap.size T (o.getD FU):=hu.next ((Below.refl w2.heap.size w2).alloc (Nat.le_refl _) _)
 obtain ⟨w5,hw5⟩:∃ w5,w2.alloc (.cells (Ab T) 34)=w5:=⟨_,rfl⟩
 go_upto_region 2 with (refine Af rfl 34 _ _ rfl rfl (Ab T) _ _ _ rfl Qf rfl (Ac _) rfl (Au _) ?_)
 rw [hw5] at hb5 hr5 hn5 hu5⊢;clear hw5 hu hb2 hr2;replace hu5:=H0 hu5;have h6:Hid (Ew (w5.setRow w.heap.size (Ab T)) w.heap.size T (o.getD FU)):=H0 (hu5.out.row hlt hs1 _)
 have hk2:Hid (k=true->∃ u,o=some u):=H0 (fun e=>by
  cases o with
  | none=>rw [<-hk] at e;cases e
  | some u=>exact ⟨u,rfl⟩)
 replace hk:=H0 hk
 have hk3:=H0 (fun e:k=true=>hk2.out e)
 cases k with
 | false=>
  go_wp2_with (first
   | (refine wpList_load_row rfl 34 _ rfl w2.heap.size rfl 34 (Ab T) _ _ hn5 Tryz.underlying34 rfl (Ac _) ?_)
   | (refine wpList_store_row rfl 34 _ _ rfl w.heap.size (Ab T) rfl rfl 34 _ hr5 (Ac _) rfl (Au _) ?_))
  refine HH rfl rfl rfl rfl (hr5.set _) (Ac _) ?_
  exact ⟨T,false,rfl,(by rw [ho.out];exact h6.out),fun e=>Akq,Ae hb5 (Nat.le_refl _) _⟩
 | true=>
  replace hk3:=H0 (hk3.out rfl);clear hk2
  by_cases h3:s.size<=300
  ·have q:(s.size:Int)<=300:=Qa
   go_wp2_with (first
    | (refine wpList_load_row rfl 34 _ rfl w2.heap.size rfl 34 (Ab T) _ _ hn5 Tryz.underlying34 rfl (Ac _) ?_)
    | (refine wpList_store_row rfl 34 _ _ rfl w.heap.size (Ab T) rfl rfl 34 _ hr5 (Ac _) rfl (Au _) ?_))
   refine HH rfl rfl rfl rfl (hr5.set _) (Ac _) ?_
   exact ⟨T,true,rfl,(by rw [ho.out];exact h6.out),fun _=>⟨by rw [ho.out];exact hk3.out,h3⟩,Ae hb5 (Nat.le_refl _) _⟩
  ·have q:¬ (s.size:Int)<=300:=Qa
   go_wp2_with (first
    | (refine wpList_load_row rfl 34 _ rfl w2.heap.size rfl 34 (Ab T) _ _ hn5 Tryz.underlying34 rfl (Ac _) ?_)
    | (refine wpList_store_row rfl 34 _ _ rfl w.heap.size (Ab T) rfl rfl 34 _ hr5 (Ac _) rfl (Au _) ?_))
   refine HH rfl rfl rfl rfl (hr5.set _) (Ac _) ?_
   exact ⟨T,false,rfl,(by rw [ho.out];exact h6.out),fun e=>Akq,Ae hb5 (Nat.le_refl _) _⟩
theorem F4 (w:World) (k y:Nat) (t:ByteArray):(Op.equalIn 10000 40 (.agg (Bh k y t)) (.agg (Bh k y t))).run Tryz.prog w= .ok true w:=by
 have hf:(Tryz.prog.fieldsOf 40).toList=[{ name:= "Kind",type:=3,offset:=0,embedded:=false,tag:= "",pkgPath:= "",byteOffset:=0 },{ name:= "Why",type:=3,offset:=1,embedded:=false,tag:= "",pkgPath:= "",byteOffset:=8 },{ name:= "Out",type:=9,offset:=2,embedded:=false,tag:= "",pkgPath:= "",byteOffset:=16 }]:=by kernel_rfl
 have hu:Tryz.prog.underlying 40=some (.struct (Tryz.prog.fieldsOf 40)):=Qb;rw [show (10000:Nat)=9999+1 from rfl,run_equalIn_struct w 9999 _ _ _ hu Qb,hf]
 have p0:∀ w,(part 3 (Bh k y t) 0).run Tryz.prog w= .ok (.int .i64 (k:Int)) w:=fun w=>by simp [part,isAgg,run_underlying Tryz.underlying3,Bh]
 have p1:∀ w,(part 3 (Bh k y t) 1).run Tryz.prog w= .ok (.int .i64 (y:Int)) w:=fun w=>by simp [part,isAgg,run_underlying Tryz.underlying3,Bh]
 have p2:∀ w,(part 9 (Bh k y t) 2).run Tryz.prog w= .ok (.string t) w:=fun w=>by simp [part,isAgg,run_underlying Tryz.underlying9,Bh]
 have q0:∀ w (n:Int),(Op.equalIn 9999 3 (.int .i64 n) (.int .i64 n)).run Tryz.prog w= .ok true w:=fun w n=>by rw [show (9999:Nat)=9998+1 from rfl,run_equalIn_int w 9998 _ _ _ _ _ Tryz.underlying3];simp
 have q1:∀ w,(Op.equalIn 9999 9 (.string t) (.string t)).run Tryz.prog w= .ok true w:=fun w=>by rw [show (9999:Nat)=9998+1 from rfl,run_equalIn_string w 9998 _ _ _ Tryz.underlying9];simp
 simp [Op.eqFields,p0,p1,p2,q0,q1,Result.andThen]
theorem AfK (w:World) (hE:Gu w):Calls Tryz.prog 20 #[.string ⟨#[104,116,116,112,115,58,47,47,104,47,97,47,98]⟩] w (fun e w'=>∃ S:Am,e= .returned (.tuple #[.agg (Ab S),.bool true])/\DM w' S I6/\Below w.heap.size w w'):=by
 refine (Ls ⟨#[104,116,116,112,115,58,47,47,104,47,97,47,98]⟩ w hE Qc).mono ?_;rintro e w' ⟨S,rfl,hu,hb⟩
 have hp:DJ (ByteArray.toList ⟨#[104,116,116,112,115,58,47,47,104,47,97,47,98]⟩)=some I6:=by rw [show ByteArray.toList ⟨#[104,116,116,112,115,58,47,47,104,47,97,47,98]⟩=[104,116,116,112,115,58,47,47,104,47,97,47,98] from toList_mk _];exact AfA
 rw [hp] at hu⊢;exact ⟨S,rfl,hu.w,hb⟩
theorem Lh (w:World) (l:List ByteArray) (h:l.length<=100) (hz:∀ t∈l,t.size<=100):GJ (w.alloc (.cells (l.map Value.string).toArray 9)) ⟨some ⟨w.heap.size,0,none⟩,l.length,l⟩:=by
 have hc:=AG.new w (l.map Value.string).toArray 9
 refine ⟨fun _=>⟨w.heap.size,0,rfl,fun i hi=> ?_⟩,by unfold maxLen;show l.length<=_;omega,fun t ht=>Nat.le_trans (hz t ht) (by unfold maxLen;decide),fun e=>Akq⟩
 rw [Nat.zero_add];refine (hc.at i).trans ?_;rw [List.getElem?_toArray,List.getElem?_map,List.getElem?_eq_getElem hi];rfl
def goP (g2 g3 g4:Nat):Df:=⟨⟨some ⟨g2,0,none⟩,2,[⟨#[104,116,116,112,115]⟩,⟨#[100,97,116,97]⟩]⟩,⟨some ⟨g3,0,none⟩,2,[⟨#[104]⟩,⟨#[46,99,46,100]⟩]⟩,⟨some ⟨g4,0,none⟩,1,[⟨#[105,109,97,103,101,47,112,110,103]⟩]⟩,200⟩
def SH:Obj:= .cells #[.string ⟨#[104,116,116,112,115]⟩,.string ⟨#[100,97,116,97]⟩] 9
def Vv:Obj:= .cells #[.string ⟨#[104]⟩,.string ⟨#[46,99,46,100]⟩] 9
def Xh:Obj:= .cells #[.string ⟨#[105,109,97,103,101,47,112,110,103]⟩] 9
theorem AhQ (w:World):Em (((w.alloc SH).alloc Vv).alloc Xh) (goP w.heap.size (w.heap.size+1) (w.heap.size+1+1)):=by
 have h1:=Lh w [⟨#[104,116,116,112,115]⟩,⟨#[100,97,116,97]⟩] Qc Qc;have h2:=Lh (w.alloc SH) [⟨#[104]⟩,⟨#[46,99,46,100]⟩] Qc Qc;have h3:=Lh ((w.alloc SH).alloc Vv) [⟨#[105,109,97,103,101,47,112,110,103]⟩] Qc Qc;rw [Ai] at h2;rw [Ai,Ai] at h3
 exact ⟨(h1.below ((Below.refl _ _).alloc (Nat.le_refl _) Vv) (Nat.le_refl _)).below ((Below.refl _ _).alloc (Nat.le_refl _) Xh) (Nat.le_refl _),h2.below ((Below.refl _ _).alloc (Nat.le_refl _) Xh) (Nat.le_refl _),h3,(by show (Lit.int .i64 200).wf=true;decide)⟩
theorem Ahz:∃ i,Tryz.prog.info? 9=some i/\i.zero=some (.string ⟨#[]⟩)/\i.size=1/\i.bytes=16:=info_parts Qb
theorem VE {ops:Array Oper} {rest:List Oper} {o:Oper} {a:Act} {w:World} {Q:Exit->Act->World->Prop} (hg:o.guard=none) (x y:ByteArray) (ho:o.op= .buildSlice 22 2 #[(0,.const (.string x)),(1,.const (.string y))])
  (h:wpList Tryz.prog ops Q rest (a.put o.dst (.slice (some ⟨w.heap.size,0,none⟩) 2 2)) (w.alloc (.cells #[.string x,.string y] 9))):wpList Tryz.prog ops Q (o :: rest) a w:=by
 obtain ⟨i,hi,hz,hs1,-⟩:=Ahz
 refine wpList_buildSlice hg 22 9 2 _ ho #[.string x,.string y] i _ Tryz.underlying22 hi hz (by rw [hs1];decide) (by rw [hs1];decide) ?_ h
 rw [hs1,Array.toList_map];show Instr.fill _ _ [(0,.string x),(1,.string y)]=_
 kernel_rfl
theorem Vg {ops:Array Oper} {rest:List Oper} {o:Oper} {a:Act} {w:World} {Q:Exit->Act->World->Prop} (hg:o.guard=none) (x:ByteArray) (ho:o.op= .buildSlice 22 1 #[(0,.const (.string x))])
  (h:wpList Tryz.prog ops Q rest (a.put o.dst (.slice (some ⟨w.heap.size,0,none⟩) 1 1)) (w.alloc (.cells #[.string x] 9))):wpList Tryz.prog ops Q (o :: rest) a w:=by
 obtain ⟨i,hi,hz,hs1,-⟩:=Ahz
 refine wpList_buildSlice hg 22 9 1 _ ho #[.string x] i _ Tryz.underlying22 hi hz (by rw [hs1];decide) (by rw [hs1];decide) ?_ h
 rw [hs1,Array.toList_map];show Instr.fill _ _ [(0,.string x)]=_
 kernel_rfl
theorem Sg (w:World) (l:List UInt8) (zs:List Int) (n:Nat) (q:Nat × Nat) (hn:l.length=n) (hz:zs=l.map fun c=>(c.toNat:Int)):BU (w.alloc (.cells (zs.map (Value.int .u8)).toArray 5 q)) (some ⟨w.heap.size,0,none⟩) n n l:=by
 subst hz hn
 refine ⟨⟨rfl,Nat.le_refl _,fun _=>⟨w.heap.size,0,rfl,fun i hi=> ?_⟩⟩,fun e=>Akq⟩
 rw [Nat.zero_add];refine (World.cell?_alloc_mark w _ _ _ i).trans ?_;rw [List.getElem?_toArray,List.getElem?_map,List.getElem?_map,List.getElem?_eq_getElem hi];rfl
def OE:List Int:=[120,32,49,120,44,47,47,101,32,50,120,44,32,104,116,116,112,115,58,47,47,81,46,67,46,68,47,39,38,97,109,112,59,44,32,100,97,116,97,58,105,109,97,103,101,47,103,105,102,44,97]
def Lq:List Int:=[106,97,118,97,38,84,97,98,59,115,99,114,105,112,116,58,120]
theorem Ag4:OE=Nn.map fun c=>(c.toNat:Int):=Qe
theorem Ag7:Lq=KE.map fun c=>(c.toNat:Int):=Qe
structure GoI (w wx:World) (g1 g3:Nat) (S:Am) (p:Df):Prop where
 below:Below w.heap.size w wx
 u:AG wx g1 (Ab S) 34
 pc:AG wx g3 (BK p) 24
 uw:DM wx S I6
 pi:Em wx p
theorem GoI.keep {w wx wy:World} {g1 g3:Nat} {S:Am} {p:Df} (h:GoI w wx g1 g3 S p) (hb:Below wx.heap.size wx wy):GoI w wy g1 g3 S p:=⟨h.below.next hb,h.u.keep hb,h.pc.keep hb,h.uw.next hb,h.pi.below hb (Nat.le_refl _)⟩
theorem GoI.alloc {w wx:World} {g1 g3:Nat} {S:Am} {p:Df} (h:GoI w wx g1 g3 S p) (o:Obj):GoI w (wx.alloc o) g1 g3 S p:=h.keep ((Below.refl _ _).alloc (Nat.le_refl _) o)
theorem Oh:Tryz.prog.eqGuardType Tryz.prog.depth 40=false:=Qb
theorem Mj (k y:Nat) (t:ByteArray):(Tryz.prog.info? 40).map (·.size)=some (Bh k y t).size:=by show _=some 3;kernel_rfl
theorem Aet (w:World) (hE:Gu w):Calls Tryz.prog 6 #[] w (Lt w true):=by
 have hp:=AfK w hE;replace hE:=H0 hE;go_enter Tryz.func6,Tryz.ntmps6;go_wp2_with fail;refine hp.mono ?_;rintro e w1 ⟨S,rfl,hu,hb1⟩;have hn2:AG (w1.alloc (.cells (Ab S) 34)) w1.heap.size (Ab S) 34:=AG.new _ _ _;have hb2:Below w.heap.size w (w1.alloc (.cells (Ab S) 34)):=hb1.alloc hb1.size _
 have hu2:DM (w1.alloc (.cells (Ab S) 34)) S I6:=hu.next ((Below.refl _ _).alloc (Nat.le_refl _) _)
 obtain ⟨w2,hw2⟩:∃ w2,w1.alloc (.cells (Ab S) 34)=w2:=⟨_,rfl⟩
 go_upto_region 2 with (refine Af rfl 34 _ _ rfl rfl (Ab S) _ _ _ rfl Qf rfl (Ac _) rfl (Au _) ?_)
 rw [hw2] at hn2 hb2 hu2⊢;obtain ⟨g1,hg1⟩:∃ g,w1.heap.size=g:=⟨_,rfl⟩;rw [hg1] at hn2⊢;clear hw2 hg1 hu hb1 hp
 have hI3:GoI w (((w2.alloc SH).alloc Vv).alloc Xh |>.alloc (.cells (BK (goP w2.heap.size (w2.heap.size+1) (w2.heap.size+1+1))) 24)) g1 (w2.heap.size+1+1+1) S (goP w2.heap.size (w2.heap.size+1) (w2.heap.size+1+1)):=by
  have b3:Below w2.heap.size w2 (((w2.alloc SH).alloc Vv).alloc Xh):=(((Below.refl _ _).alloc (Nat.le_refl _) SH).alloc (by rw [Ai];omega) Vv).alloc Akw Xh
  have b4:Below w2.heap.size w2 (((w2.alloc SH).alloc Vv).alloc Xh |>.alloc (.cells (BK (goP w2.heap.size (w2.heap.size+1) (w2.heap.size+1+1))) 24)):=b3.alloc b3.size _;have cn:=AG.new (((w2.alloc SH).alloc Vv).alloc Xh) (BK (goP w2.heap.size (w2.heap.size+1) (w2.heap.size+1+1))) 24;rw [Ai,Ai,Ai] at cn
  exact ⟨hb2.next b4,hn2.keep b4,cn,hu2.next b4,(AhQ w2).below ((Below.refl _ _).alloc (Nat.le_refl _) _) (Nat.le_refl _)⟩
 go_upto_region 5 with (first
  | (refine VE rfl _ _ rfl ?_)
  | (refine Vg rfl _ rfl ?_)
  | (refine wpList_buildTo rfl _ _ rfl _ rfl (BK (goP w2.heap.size (w2.alloc SH).heap.size ((w2.alloc SH).alloc Vv).heap.size)) Qb ?_)
  | (refine Af rfl 24 _ _ rfl rfl (BK (goP w2.heap.size (w2.heap.size+1) (w2.heap.size+1+1))) _ _ _ rfl Qf rfl DP rfl Qb ?_))
 refine Ap (R:=fun wx=>GoI w wx g1 (w2.heap.size+1+1+1) S (goP w2.heap.size (w2.heap.size+1) (w2.heap.size+1+1))) hI3 ?_
 clear hI3 hn2 hb2 hu2;intro w3 hI;obtain ⟨g3,hg3⟩:∃ g,w2.heap.size+1+1+1=g:=⟨_,rfl⟩
 obtain ⟨p,hp,hal,hmo⟩:∃ p,goP w2.heap.size (w2.heap.size+1) (w2.heap.size+1+1)=p/\Eu p.schemes.l p.hosts.l p.types.l=Er/\p.most=200:=⟨_,rfl,rfl,rfl⟩
 rw [hg3,hp] at hI;rw [hg3]
 try rw [hp]
 clear hg3 hp;replace hal:=H0 hal;replace hmo:=H0 hmo;have hcv:=Lib.run_convert_bytes_const (P:=Tryz.prog) w3 25 5 (OE.map (Value.int .u8)).toArray 51 51 Tryz.underlying25 Tryz.underlying5;have hbn:=Sg w3 Nn OE 51 ((OE.map (Value.int .u8)).toArray.size,(OE.map (Value.int .u8)).toArray.size+1) rfl Ag4;have hIc:=hI.alloc (.cells (OE.map (Value.int .u8)).toArray 5 ((OE.map (Value.int .u8)).toArray.size,(OE.map (Value.int .u8)).toArray.size+1));obtain ⟨wc,hwc⟩:∃ wc,w3.alloc (.cells (OE.map (Value.int .u8)).toArray 5 ((OE.map (Value.int .u8)).toArray.size,(OE.map (Value.int .u8)).toArray.size+1))=wc:=⟨_,rfl⟩;rw [hwc] at hcv hbn hIc
 have hf:=H0 (Z3 p S ⟨#[105,109,103]⟩ ⟨#[115,114,99,115,101,116]⟩ _ 51 51 wc (hE.out.next hIc.below) hIc.pi hal.out hmo.out hIc.uw KP hbn)
 clear hwc hbn
 go_wp2_with (first
  | (refine wpList_load_row rfl 24 _ rfl g3 rfl _ (BK p) _ _ hI.pc Tryz.underlying24 rfl DP ?_)
  | (refine wpList_load_row rfl 34 _ rfl g1 rfl _ (Ab S) _ _ hI.u Tryz.underlying34 rfl (Ac _) ?_)
  | (refine wpList_buildFlat rfl _ 5 51 _ rfl .u8 OE Tryz.underlying25 Qb Qb rfl Qc Qc Qb ?_))
 refine hf.out.mono ?_;rintro e wd ⟨rfl,hbd⟩;rw [show (⟨Ae9.toArray⟩:ByteArray)=⟨#[104,116,116,112,115,58,47,47,104,47,97,47,120,32,49,120,44,32,104,116,116,112,115,58,47,47,113,46,99,46,100,47,38,35,51,57,59,38,97,109,112,59]⟩ from rfl];have hI2:=(hIc.keep hbd).alloc (.cells (Bh 3 0 ⟨#[104,116,116,112,115,58,47,47,104,47,97,47,120,32,49,120,44,32,104,116,116,112,115,58,47,47,113,46,99,46,100,47,38,35,51,57,59,38,97,109,112,59]⟩) 40);have hn4:AG (wd.alloc (.cells (Bh 3 0 ⟨#[104,116,116,112,115,58,47,47,104,47,97,47,120,32,49,120,44,32,104,116,116,112,115,58,47,47,113,46,99,46,100,47,38,35,51,57,59,38,97,109,112,59]⟩) 40)) wd.heap.size (Bh 3 0 ⟨#[104,116,116,112,115,58,47,47,104,47,97,47,120,32,49,120,44,32,104,116,116,112,115,58,47,47,113,46,99,46,100,47,38,35,51,57,59,38,97,109,112,59]⟩) 40:=AG.new _ _ _;obtain ⟨w4,hw4⟩:∃ w4,wd.alloc (.cells (Bh 3 0 ⟨#[104,116,116,112,115,58,47,47,104,47,97,47,120,32,49,120,44,32,104,116,116,112,115,58,47,47,113,46,99,46,100,47,38,35,51,57,59,38,97,109,112,59]⟩) 40)=w4:=⟨_,rfl⟩
 go_upto_region 6 with (refine Af rfl 40 _ _ rfl rfl (Bh 3 0 ⟨#[104,116,116,112,115,58,47,47,104,47,97,47,120,32,49,120,44,32,104,116,116,112,115,58,47,47,113,46,99,46,100,47,38,35,51,57,59,38,97,109,112,59]⟩) _ _ _ rfl Qf rfl (Mj _ _ _) rfl (D5 _ _ _) ?_)
 rw [hw4] at hI2 hn4⊢;obtain ⟨g4,hg4⟩:∃ g,wd.heap.size=g:=⟨_,rfl⟩;rw [hg4] at hn4⊢;clear hw4 hg4 hI hIc hcv hf hbd;have hI:=hI2;clear hI2;have hcv:=Lib.run_convert_bytes_const (P:=Tryz.prog) w4 25 5 (Lq.map (Value.int .u8)).toArray 17 17 Tryz.underlying25 Tryz.underlying5;have hbn:=Sg w4 KE Lq 17 ((Lq.map (Value.int .u8)).toArray.size,(Lq.map (Value.int .u8)).toArray.size+1) rfl Ag7;have hIc:=hI.alloc (.cells (Lq.map (Value.int .u8)).toArray 5 ((Lq.map (Value.int .u8)).toArray.size,(Lq.map (Value.int .u8)).toArray.size+1));have hnc:=hn4.alloc (.cells (Lq.map (Value.int .u8)).toArray 5 ((Lq.map (Value.int .u8)).toArray.size,(Lq.map (Value.int .u8)).toArray.size+1));obtain ⟨wc,hwc⟩:∃ wc,w4.alloc (.cells (Lq.map (Value.int .u8)).toArray 5 ((Lq.map (Value.int .u8)).toArray.size,(Lq.map (Value.int .u8)).toArray.size+1))=wc:=⟨_,rfl⟩;rw [hwc] at hcv hbn hIc hnc
 have hf:=H0 (AaM p S ⟨#[97]⟩ ⟨#[104,114,101,102]⟩ _ 17 17 wc (hE.out.next hIc.below) hIc.pi hal.out hmo.out hIc.uw L5 hbn)
 clear hwc hbn
 go_wp2_with (first
  | (refine wpList_load_row rfl 24 _ rfl g3 rfl _ (BK p) _ _ hI.pc Tryz.underlying24 rfl DP ?_)
  | (refine wpList_load_row rfl 34 _ rfl g1 rfl _ (Ab S) _ _ hI.u Tryz.underlying34 rfl (Ac _) ?_)
  | (refine wpList_buildFlat rfl _ 5 17 _ rfl .u8 Lq Tryz.underlying25 Qb Qb rfl Qc Qc Qb ?_))
 refine hf.out.mono ?_;rintro e wd ⟨rfl,hbd⟩;have hI2:=(hIc.keep hbd).alloc (.cells (Bh 2 4 ⟨#[]⟩) 40);have hn5:AG (wd.alloc (.cells (Bh 2 4 ⟨#[]⟩) 40)) wd.heap.size (Bh 2 4 ⟨#[]⟩) 40:=AG.new _ _ _;have hn6:=(hnc.keep hbd).alloc (.cells (Bh 2 4 ⟨#[]⟩) 40);obtain ⟨w6,hw6⟩:∃ w6,wd.alloc (.cells (Bh 2 4 ⟨#[]⟩) 40)=w6:=⟨_,rfl⟩
 go_upto_region 7 with (refine Af rfl 40 _ _ rfl rfl (Bh 2 4 ⟨#[]⟩) _ _ _ rfl Qf rfl (Mj _ _ _) rfl (D5 _ _ _) ?_)
 rw [hw6] at hI2 hn5 hn6⊢;obtain ⟨g5,hg5⟩:∃ g,wd.heap.size=g:=⟨_,rfl⟩;rw [hg5] at hn5⊢;clear hw6 hg5 hI hIc hcv hf hbd hn4 hnc;have hgd:=Oh
 have hq1:=fun w=>F4 w 3 0 ⟨#[104,116,116,112,115,58,47,47,104,47,97,47,120,32,49,120,44,32,104,116,116,112,115,58,47,47,113,46,99,46,100,47,38,35,51,57,59,38,97,109,112,59]⟩
 have hq2:=fun w=>F4 w 2 4 ⟨#[]⟩
 go_wp2_with (first
  | (refine wpList_load_row rfl 40 _ rfl g4 rfl _ (Bh 3 0 ⟨#[104,116,116,112,115,58,47,47,104,47,97,47,120,32,49,120,44,32,104,116,116,112,115,58,47,47,113,46,99,46,100,47,38,35,51,57,59,38,97,109,112,59]⟩) _ _ hn6 Tryz.underlying40 rfl (CW _ _ _) ?_)
  | (refine wpList_buildTo rfl _ _ rfl _ rfl (Bh 3 0 ⟨#[104,116,116,112,115,58,47,47,104,47,97,47,120,32,49,120,44,32,104,116,116,112,115,58,47,47,113,46,99,46,100,47,38,35,51,57,59,38,97,109,112,59]⟩) Qb ?_)
  | (refine Bd Qt ?_;refine wpList_load_row rfl 40 _ rfl g5 rfl _ (Bh 2 4 ⟨#[]⟩) _ _ hn5 Tryz.underlying40 rfl (CW _ _ _) ?_)
  | (refine Bd Qt ?_;refine wpList_buildTo rfl _ _ rfl _ rfl (Bh 2 4 ⟨#[]⟩) Qb ?_))
 go_ret;exact ⟨rfl,hI2.below⟩
end Go.Proofs.YtonomfeipkdmhaaGreatDoor
