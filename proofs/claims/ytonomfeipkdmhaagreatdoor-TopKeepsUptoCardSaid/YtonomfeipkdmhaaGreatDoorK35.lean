/- Part 35: lemmas. -/
import Derived.Test.YtonomfeipkdmhaaGreatDoorK31
set_option linter.unusedVariables false
set_option linter.unusedSimpArgs false
set_option maxRecDepth 100000
set_option maxHeartbeats 16000000
namespace Go.Proofs.YtonomfeipkdmhaaGreatDoor
open Go.RowKit Go.Proofs.Tryz
theorem Ir (z:Int) (w:World) (h0:0<=z) (h1:z<256):Calls prog 138 #[.int .i64 z] w (Cy w (Lib.decDigits z.toNat)):=by
 obtain ⟨n,rfl⟩:=Int.eq_ofNat_of_zero_le h0;exact Yt 256 n w (by omega) (by omega)
theorem Ia {t:ByteArray} {n:Nat} (h:t.toList=Lib.decDigits n) (hn:n<256):t.size<=3:=by
 rw [<-Aa,h];exact CB _ hn
theorem Zo (n:Nat) (hn:n<4294967296) (w:World):
  Calls prog 78 #[.int .u32 (n:Int)] w (Cy w (DD n)):=by
 have hnI:(n:Int)<4294967296:=by omega
 have hbel:Below w.heap.size w w:=Below.refl _ _;go_enter func78,ntmps78;go_wp2_with fail;refine (Ir _ _ (by omega) (by omega)).mono ?_
 rintro e w1 ⟨t1,rfl,ht1,hb⟩;replace hbel:=hbel.next hb
 clear hb;have hz1:=Ia ht1.out (by omega)
 go_wp2_with fail;refine (Ir _ _ (by omega) (by omega)).mono ?_
 rintro e w2 ⟨t2,rfl,ht2,hb⟩;replace hbel:=hbel.next hb
 clear hb;have hz2:=Ia ht2.out (by omega)
 go_wp2_with fail;refine (Ir _ _ (by omega) (by omega)).mono ?_
 rintro e w3 ⟨t3,rfl,ht3,hb⟩;replace hbel:=hbel.next hb
 clear hb;have hz3:=Ia ht3.out (by omega)
 go_wp2_with fail;refine (Ir _ _ (by omega) (by omega)).mono ?_
 rintro e w4 ⟨t4,rfl,ht4,hb⟩;replace hbel:=hbel.next hb
 clear hb;have hz4:=Ia ht4.out (by omega)
 go_wp2_with fail;go_ret;refine BL ?_ hbel;have e1:((n:Int) / 16777216).toNat=n / 16777216 % 256:=by omega
 have e2:((n:Int) / 65536 % 256).toNat=n / 65536 % 256:=by omega
 have e3:((n:Int) / 256 % 256).toNat=n / 256 % 256:=by omega
 have e4:((n:Int) % 256).toNat=n % 256:=by omega
 have d:(ByteArray.mk #[46]).toList=[46]:=toList_mk _;simp only [toList_append,ht1.out,ht2.out,ht3.out,ht4.out,d,e1,e2,e3,e4,DD,DB,Cq];simp
def EH:Nat->List Nat->Nat->Nat->Nat->Nat × Nat
 | 0,_,_,fr,m=>(fr,m)
 | f+1,l,i,fr,m=>if i<8 then (if m<Ef (l.drop i) then EH f l (i+1) i (Ef (l.drop i)) else EH f l (i+1) fr m) else (fr,m)
theorem Abp (f:Nat) (l:List Nat) (i b e:Nat) (h:8<=i):EH f l i b e=(b,e):=by
 cases f with
 | zero=>rfl
 | succ f=>rw [EH,if_neg (by omega)]
theorem Ns {l m:List Nat} (h:∀ i,Ef (l.drop i)=Ef (m.drop i)):∀ f i b e,EH f l i b e=EH f m i b e
 | 0,_,_,_=>rfl
 | f+1,i,b,e=>by simp only [EH,h,Ns h f]
theorem JK {l m:List Nat} (h:∀ i,Ef (l.drop i)=Ef (m.drop i)):∀ f i b e,FW f l i b e=FW f m i b e
 | 0,_,_,_=>rfl
 | f+1,i,b,e=>by simp only [FW,h,JK h f]
def F1 (x:Nat):Nat:=if x=0 then 0 else 1
theorem We (l:List Nat):Ef (l.map F1)=Ef l:=by
 induction l with
 | nil=>rfl
 | cons x r ih=>
  simp only [List.map_cons,Ef,ih,F1]
  by_cases h:x=0<;>simp [h]
theorem Aec:∀ a b c d e f g h:Fin 2,EH 8 [a.val,b.val,c.val,d.val,e.val,f.val,g.val,h.val] 0 8 1=
  (if (AT [a.val,b.val,c.val,d.val,e.val,f.val,g.val,h.val]).1<(AT [a.val,b.val,c.val,d.val,e.val,f.val,g.val,h.val]).2 then ((AT [a.val,b.val,c.val,d.val,e.val,f.val,g.val,h.val]).1,(AT [a.val,b.val,c.val,d.val,e.val,f.val,g.val,h.val]).2 - (AT [a.val,b.val,c.val,d.val,e.val,f.val,g.val,h.val]).1) else (8,1)):=by decide+kernel
theorem AeJ:∀ a b c d e f g h:Fin 2,(AT [a.val,b.val,c.val,d.val,e.val,f.val,g.val,h.val]).1<=(AT [a.val,b.val,c.val,d.val,e.val,f.val,g.val,h.val]).2/\(AT [a.val,b.val,c.val,d.val,e.val,f.val,g.val,h.val]).2<=8:=by decide+kernel
theorem CV (x:Nat):F1 x<2:=by unfold F1;split<;>decide
theorem Ad9 {l:List Nat} (h:Tu l):EH 8 l 0 8 1=if (AT l).1<(AT l).2 then ((AT l).1,(AT l).2 - (AT l).1) else (8,1):=by
 have hd:∀ i,Ef (l.drop i)=Ef ((l.map F1).drop i):=fun i=>by rw [<-List.map_drop,We]
 have h1:AT l=AT (l.map F1):=JK hd _ _ _ _;rw [Ns hd,h1]
 match l,h.len with
 | [a,b,c,d,e,f,g,x],_=>exact Aec ⟨F1 a,CV a⟩ ⟨F1 b,CV b⟩ ⟨F1 c,CV c⟩ ⟨F1 d,CV d⟩ ⟨F1 e,CV e⟩ ⟨F1 f,CV f⟩ ⟨F1 g,CV g⟩ ⟨F1 x,CV x⟩
theorem Ae7 {l:List Nat} (h:Tu l):(AT l).1<=(AT l).2/\(AT l).2<=8:=by
 have hd:∀ i,Ef (l.drop i)=Ef ((l.map F1).drop i):=fun i=>by rw [<-List.map_drop,We]
 have h1:AT l=AT (l.map F1):=JK hd _ _ _ _;rw [h1]
 match l,h.len with
 | [a,b,c,d,e,f,g,x],_=>exact AeJ ⟨F1 a,CV a⟩ ⟨F1 b,CV b⟩ ⟨F1 c,CV c⟩ ⟨F1 d,CV d⟩ ⟨F1 e,CV e⟩ ⟨F1 f,CV f⟩ ⟨F1 g,CV g⟩ ⟨F1 x,CV x⟩
def AbQ (t:ByteArray) (b e i:Nat):Prop:=(i=0/\t.toList.isEmpty=true)\/(0<i/\∃ h:0<t.size,(t[t.size - 1].toNat=58↔(i=e/\b<e)))
theorem Aet:∀ d:Fin 16,¬ (Bs d.val).toNat=58:=by decide+kernel
theorem AaL:∀ f n,∃ r d,FC (f+1) n=r++[Bs d]/\d<16
 | f,n=>by
  by_cases h:n<16
  ·exact ⟨[],n,by rw [FC,if_pos h];rfl,h⟩
  ·exact ⟨FC f (n / 16),n % 16,by rw [FC,if_neg h],by omega⟩
theorem Sr {t:ByteArray} {r:List UInt8} {c:UInt8} (h:t.toList=r++[c]):∃ h:0<t.size,t[t.size - 1]=c:=by
 have hz:=congrArg List.length h;rw [Aa,List.length_append] at hz;have h0:0<t.size:=by simp at hz;omega
 refine ⟨h0,?_⟩;have:t.toList[t.size - 1]? =some t[t.size - 1]:=by rw [List.getElem?_eq_getElem (by rw [Aa];omega),CS t (t.size - 1) (by omega)]
 rw [h,List.getElem?_append_right (by simp at hz;omega)] at this
 have e:t.size - 1 - r.length=0:=by simp at hz;omega
 rw [e] at this;exact (Option.some.inj this).symm
theorem Acx (l:List Nat) (h:Tu l) (w:World):
  Calls prog 79 #[U8 l] w (Cy w (Ey l)):=by
 have hcell:∀ i,i<8->(w.alloc (.cells (AV l) 30)).cell? ⟨w.heap.size,i,none⟩=some (.int .u16 ((pc l i:Nat):Int)):=by
  intro i hi;rw [World.cell?_alloc_at _ _ _ _ rfl];exact (h.at i hi).2
 have hbel0:Below w.heap.size w (w.alloc (.cells (AV l) 30)):=(Below.refl _ _).alloc (Nat.le_refl _) _;have hlt0:w.heap.size<(w.alloc (.cells (AV l) 30)).heap.size:=by simp
 have hrr:=H0 (Ad9 h);replace hcell:=H0 hcell;unfold U8;go_enter func79,ntmps79;go_wp2_with fail;generalize w.alloc (.cells (AV l) 30)=wa at hcell hbel0 hlt0⊢;go_loop [3,4,5] (fun fv mv iv=>∃ (f i fr m:Nat),fv= .int .i64 fr/\mv= .int .i64 m/\iv= .int .i64 i/\i<=8/\fr<=8/\m<=8/\8<=i+f/\Hid (EH f l i fr m=EH 8 l 0 8 1)) (fun _ _ i=>8 - (intOf i).toNat)
 case atStart=>exact ⟨8,0,8,1,rfl,rfl,rfl,by omega,by omega,by omega,by omega,rfl⟩
 case round=>
  obtain ⟨f,i,fr,m,rfl,rfl,rfl,hi,hfr,hm,hf,hr⟩:=hrel
  by_cases hlt:i<8
  ·obtain ⟨f,rfl⟩:∃ g,f=g+1:=⟨f - 1,by omega⟩
   have hlt2:(i:Int)<8:=by omega
   have hzl:i+Ef (l.drop i)<=8:=by
    have:=YQ (l.drop i);rw [List.length_drop,h.len] at this;omega
   generalize hz:Ef (l.drop i)=z at hzl
   have hr2:Hid (EH 8 l 0 8 1=if m<z then EH f l (i+1) i z else EH f l (i+1) fr m):=H0 (by
    rw [<-hr.out,EH,if_pos hlt,hz])
   replace hz:=H0 hz;clear hr;go_wp2_with fail;go_loop [6] (fun jv=>∃ j:Nat,jv= .int .i64 j/\i+j<=8/\Hid (j+Ef (l.drop (i+j))=z)) (fun j=>8 - (intOf j).toNat)
   case atStart=>exact ⟨0,rfl,by omega,H0 (by rw [Nat.add_zero,hz.out];omega)⟩
   case round=>
    obtain ⟨j,rfl,hj8,hj⟩:=hrel;have e9:(i:Int)+(j:Int)=((i+j:Nat):Int):=by omega
    by_cases hgo:i+j<8/\pc l (i+j)=0
    ·obtain ⟨hj1,hj0⟩:=hgo;have hc:=hcell.out (i+j) hj1;have hdr:=H0 (EL (l:=l) (i+j) (by rw [h.len];exact hj1))
     rw [hj0] at hc;have hj1I:(i:Int)+(j:Int)<8:=by omega
     replace hj0:=H0 hj0;replace e9:=H0 e9;go_wp2_with fail;go_round
     case rel=>exact ⟨j+1,by go_num,by omega,H0 (by rw [<-hj.out,hdr.out,Ef,if_pos hj0.out,<-Nat.add_assoc];omega)⟩
     case measure=>simp [intOf];omega
    ·have hend:Hid (j=z):=H0 (by
      rw [<-hj.out]
      by_cases h8:i+j<8
      ·rw [EL (i+j) (by rw [h.len];exact h8),Ef,if_neg (fun e=>hgo ⟨h8,e⟩)];rfl
      ·rw [List.drop_of_length_le (by rw [h.len];omega)];rfl)
     have hor:((i:Int)+(j:Int)<8/\wa.cell? ⟨w.heap.size,i+j,none⟩=some (.int .u16 ((pc l (i+j):Nat):Int))/\(((pc l (i+j):Nat):Int)==0)=false)\/8<=(i:Int)+(j:Int):=by
      by_cases h8:i+j<8
      ·exact .inl ⟨by omega,hcell.out (i+j) h8,by simp only [beq_eq_false_iff_ne,ne_eq];intro e;exact hgo ⟨h8,by omega⟩⟩
      ·exact .inr (by omega)
     clear hgo;replace e9:=H0 e9
     have hcs:((m:Int)<(j:Int)/\Hid (EH f l (i+1) i j=EH 8 l 0 8 1))\/((j:Int)<=(m:Int)/\Hid (EH f l (i+1) fr m=EH 8 l 0 8 1)):=by
      by_cases ht:m<j
      ·exact .inl ⟨by omega,H0 (by rw [hr2.out,<-hend.out,if_pos ht])⟩
      ·exact .inr ⟨by omega,H0 (by rw [hr2.out,<-hend.out,if_neg ht])⟩
     rcases hor with ⟨h8,hc,hne⟩ | h8<;>rcases hcs with ⟨t1,hnew⟩ | ⟨t1,hnew⟩
     all_goals
      go_wp2_with fail;go_round
      case rel=>first
       | exact ⟨f,i+1,i,j,rfl,rfl,by go_num,by omega,by omega,by omega,by omega,hnew⟩
       | exact ⟨f,i+1,fr,m,rfl,rfl,by go_num,by omega,by omega,by omega,by omega,hnew⟩
      case measure=>simp [intOf];omega
  ·have hfin:Hid (EH 8 l 0 8 1=(fr,m)):=H0 (by rw [<-hr.out,Abp _ _ _ _ _ (by omega)])
   have hge:(8:Int)<=(i:Int):=by omega
   clear hr;obtain ⟨hbe,he8⟩:=Ae7 h;have hL:Hid (Ey l=Cd 8 l (AT l).1 (AT l).2 0):=rfl;have hfm:=H0 (hfin.out.symm.trans hrr.out);generalize (AT l).1=b at hL hbe hfm;generalize (AT l).2=e at hL hbe he8 hfm;clear hrr hfin;go_wp2_with fail;go_loopw [7,8] (fun sv iv wr=>∃ (f i:Nat) (t:ByteArray),sv= .string t/\iv= .int .i64 i/\i<=8/\8<=i+f/\t.size<=6 * i/\Hid (t.toList++Cd f l b e i=Ey l)/\Hid (AbQ t b e i)/\(b<e->i<=b\/e<=i)/\Below w.heap.size w wr/\Hid (∀ i,i<8->wr.cell? ⟨w.heap.size,i,none⟩=some (.int .u16 ((pc l i:Nat):Int)))) (fun _ i _=>8 - (intOf i).toNat)
   case atStart=>exact ⟨8,0,_,rfl,rfl,by omega,by omega,Nat.zero_le _,H0 (by rw [hL.out,show (ByteArray.mk #[]).toList=[] from toList_mk _];rfl),H0 (.inl ⟨rfl,by rw [show (ByteArray.mk #[]).toList=[] from toList_mk _];rfl⟩),by omega,hbel0,hcell⟩
   case round=>
    obtain ⟨f,i,t,rfl,rfl,hi,hf,hts,hr,hlast,hout,hbel,hcl⟩:=hrel;clear hbel0 hlt0 hcell hL
    by_cases hlt:i<8
    ·obtain ⟨f,rfl⟩:∃ g,f=g+1:=⟨f - 1,by omega⟩
     have hltI:(i:Int)<8:=by omega
     by_cases hA:i=b/\b<e
     ·have hfm2:fr=b/\m=e - b:=by
       have:=hfm.out;rw [if_pos hA.2] at this;exact ⟨congrArg Prod.fst this,congrArg Prod.snd this⟩
      have g1:((i:Int)==(fr:Int))=true:=by rw [hfm2.1,hA.1];simp
      have g2:(i:Int)+(m:Int)=(e:Int):=by rw [hfm2.2,hA.1];omega
      have hnew:Hid ((t++⟨#[58,58]⟩).toList++Cd f l b e e=Ey l):=H0 (by rw [<-hr.out,Cd,if_pos hlt,if_pos hA,toList_append,show (ByteArray.mk #[58,58]).toList=[58,58] from toList_mk _];simp)
      have hl2:Hid (AbQ (t++⟨#[58,58]⟩) b e e):=H0 (by
       obtain ⟨h0,hc⟩:=Sr (t:=t++⟨#[58,58]⟩) (r:=t.toList++[58]) (c:=58) (by rw [toList_append,show (ByteArray.mk #[58,58]).toList=[58,58] from toList_mk _];simp)
       exact .inr ⟨by omega,h0,by rw [hc];exact ⟨fun _=>⟨rfl,hA.2⟩,fun _=>rfl⟩⟩)
      have hz:(t++⟨#[58,58]⟩:ByteArray).size=t.size+2:=ByteArray.size_append;have hie:i<e:=by omega
      have hmI:(m:Int)<=8:=by omega
      replace hz:=H0 hz;replace g2:=H0 g2;clear hA hfm2 hlast;go_wp2_with fail;go_roundw
      case rel=>exact ⟨f,e,_,rfl,by rw [g2.out],by omega,by omega,by have:=hz.out;omega,hnew,hl2,fun _=> .inr (Nat.le_refl _),hbel,hcl⟩
      case measure=>have:=g2.out;simp [intOf];omega
     ·have hne:((i:Int)==(fr:Int))=false:=by
       have:=hfm.out;simp only [beq_eq_false_iff_ne,ne_eq];intro hq;have hq2:i=fr:=by omega
       by_cases hlt3:b<e
       ·rw [if_pos hlt3] at this;exact hA ⟨hq2.trans (congrArg Prod.fst this),hlt3⟩
       ·rw [if_neg hlt3] at this;have:=congrArg Prod.fst this;simp at this;omega
      have hc:=hcl.out i hlt;have hpl:=(h.at i hlt).1;have hplI:IntKind.i64.wrap ((pc l i:Nat):Int)=((pc l i:Nat):Int):=IntWalk.i64_in _ (by omega)
      obtain ⟨hr0,hd0,hx0,hdl⟩:=AaL 3 (pc l i);replace hpl:=H0 hpl;have hx4:=LZ (pc l i)
      have hnext:¬ (i+1=e/\b<e):=by
       rintro ⟨q1,q2⟩;rcases hout q2 with q3 | q3
       ·exact hA ⟨by omega,q2⟩
       ·omega
      have hsep:(0<i/\(i≠e\/e=b))\/¬ (0<i/\(i≠e\/e=b)):=Classical.em _
      have hcs:(t.toList.isEmpty=true/\Hid ((if 0<i/\(i≠e\/e=b) then [58] else ([]:List UInt8))=[]))\/(∃ h0:0<t.size,(!t.toList.isEmpty)=true/\((t[t.size - 1].toNat:Int) != 58)=false/\Hid ((if 0<i/\(i≠e\/e=b) then [58] else ([]:List UInt8))=[]))\/
        (∃ h0:0<t.size,(!t.toList.isEmpty)=true/\((t[t.size - 1].toNat:Int) != 58)=true/\Hid ((if 0<i/\(i≠e\/e=b) then [58] else ([]:List UInt8))=[58])):=by
       rcases hlast.out with ⟨q0,qe⟩ | ⟨q0,h0,qi⟩
       ·exact .inl ⟨qe,H0 (by rw [if_neg (by omega)])⟩
       ·have hem:(!t.toList.isEmpty)=true:=by
         cases ht0:t.toList with
         | nil=>have:=congrArg List.length ht0;rw [Aa,List.length_nil] at this;omega
         | cons x r=>rfl
        by_cases q5:t[t.size - 1].toNat=58
        ·obtain ⟨q6,q7⟩:=qi.1 q5;exact .inr (.inl ⟨h0,hem,by rw [q5];rfl,H0 (if_neg (fun ⟨_,q8⟩=>q8.elim (fun q9=>q9 q6) (fun q9=>absurd q7 (by rw [q9];exact Nat.lt_irrefl b))))⟩)
        ·exact .inr (.inr ⟨h0,hem,by simp only [bne_iff_ne,ne_eq];omega,H0 (if_pos ⟨q0,by
          by_cases q6:i=e
          ·have:¬ b<e:=fun q7=>q5 (qi.2 ⟨q6,q7⟩)
           omega
          ·exact .inl q6⟩)⟩)
      have hstep:Hid (Cd (f+1) l b e i=(if 0<i/\(i≠e\/e=b) then [58] else ([]:List UInt8))++Fd (pc l i)++Cd f l b e (i+1)):=H0 (by rw [Cd,if_pos hlt,if_neg hA])
      have hout2:b<e->i+1<=b\/e<=i+1:=by
       intro q2;rcases hout q2 with q3 | q3
       ·by_cases q4:i=b
        ·exact absurd ⟨q4,q2⟩ hA
        ·exact .inl (by omega)
       ·exact .inr (by omega)
      have d58:(ByteArray.mk #[58]).toList=[58]:=toList_mk _;have n58:(ByteArray.mk #[58]).size=1:=rfl;replace d58:=H0 d58;replace n58:=H0 n58;replace hx0:=H0 hx0;replace hnext:=H0 hnext;have hts2:t.size<=48:=by omega
      replace hts:=H0 hts;replace hlt:=H0 hlt;replace hi:=H0 hi;replace hf:=H0 hf;replace hx4:=H0 hx4;replace hdl:=H0 hdl;replace hout2:=H0 hout2;clear hA hsep hlast hout;rcases hcs with ⟨q1,hif⟩ | ⟨h0,q1,q2,hif⟩ | ⟨h0,q1,q2,hif⟩
      all_goals
       go_wp2_with fail;refine (XH (pc l i) _ hpl.out).mono ?_;rintro e' w3 ⟨th,rfl,hth,hb⟩;have hzh:th.size<=4:=by rw [<-Aa,hth.out];exact hx4
       have hbl:=hbel.next hb
       have hcl3:=H0 (fun j (hj:j<8)=>(hb.cell (p:=⟨w.heap.size,j,none⟩) (World.block_lt_of_cell? wr _ (hcl.out j hj))).trans (hcl.out j hj))
       have hm1:(t++th:ByteArray).size=t.size+th.size:=ByteArray.size_append;have hm2:(t++⟨#[58]⟩++th:ByteArray).size=t.size+1+th.size:=by rw [ByteArray.size_append,ByteArray.size_append,n58.out]
       replace hm1:=H0 hm1;replace hm2:=H0 hm2
       have hN1:(if 0<i/\(i≠e\/e=b) then [58] else ([]:List UInt8))=[]->Hid ((t++th).toList++Cd f l b e (i+1)=Ey l):=fun q=>H0 (by
        rw [<-hr.out,hstep.out,q,toList_append,hth.out];simp)
       have hN2:(if 0<i/\(i≠e\/e=b) then [58] else ([]:List UInt8))=[58]->Hid ((t++⟨#[58]⟩++th).toList++Cd f l b e (i+1)=Ey l):=fun q=>H0 (by
        rw [<-hr.out,hstep.out,q,toList_append,toList_append,d58.out,hth.out];simp)
       have hK:∀ x:ByteArray,Hid (AbQ (x++th) b e (i+1)):=fun x=>H0 (by
        obtain ⟨h1,h2⟩:=Sr (t:=x++th) (r:=x.toList++hr0) (c:=Bs hd0) (by rw [toList_append,hth.out];show _++FC 4 _=_;rw [hx0.out];simp)
        exact .inr ⟨by omega,h1,⟨fun h3=>absurd (by rw [<-h2];exact h3) (Aet ⟨hd0,hdl.out⟩),fun h3=>absurd h3 hnext.out⟩⟩)
       replace hN1:=H0 hN1;replace hN2:=H0 hN2;replace hK:=H0 hK;go_wp2_with fail;go_roundw
       case rel=>first
        | exact ⟨f,i+1,_,rfl,by go_num,by have:=hlt.out;omega,by have:=hf.out;omega,by have:=hm1.out;have:=hts.out;omega,hN1.out hif.out,hK.out _,hout2.out,hbl,hcl3⟩
        | exact ⟨f,i+1,_,rfl,by go_num,by have:=hlt.out;omega,by have:=hf.out;omega,by have:=hm2.out;have:=hts.out;omega,hN2.out hif.out,hK.out _,hout2.out,hbl,hcl3⟩
       case measure=>have:=hlt.out;simp [intOf];omega
    ·have hfin:Hid (t.toList=Ey l):=H0 (by rw [<-hr.out,Rq _ _ _ _ _ (by omega)];simp)
     have hge2:(8:Int)<=(i:Int):=by omega
     go_wp2_with fail;go_ret;exact BL hfin.out hbel
theorem Sg (h:CL) (ok:ME h) (w:World):
  Calls prog 34 #[.agg (An h)] w (Cy w (Fa h)):=by
 have hsv:=SX ok.six;replace hsv:=H0 hsv;unfold An;have hb1:Below w.heap.size w (w.alloc (.cells (An h) 32)):=(Below.refl _ _).alloc (Nat.le_refl _) _;unfold An at hb1;rcases Rt h with ⟨k2,e⟩ | ⟨k2,⟨k5,e⟩ | ⟨k5,⟨k3,e⟩ | ⟨k3,⟨k4,e⟩ | ⟨k4,e⟩⟩⟩⟩
 all_goals replace e:=H0 e
 ·go_enter func34,ntmps34;go_wp2_with fail;go_ret;exact BL e.out.symm hb1
 ·go_enter func34,ntmps34;go_wp2_with fail;go_ret;exact BL e.out.symm hb1
 ·go_enter func34,ntmps34;go_wp2_with fail;refine (Zo h.four ok.four _).mono ?_;rintro e' w2 ⟨t,rfl,ht',hb⟩;go_wp2_with fail;go_ret;exact BL (ht'.out.trans e.out.symm) (hb1.next hb)
 ·go_enter func34,ntmps34;go_wp2_with fail;rw [<-hsv.out];refine (Acx h.six ok.six _).mono ?_;rintro e' w2 ⟨t,rfl,ht',hb⟩;have hz:=G4 ht'.out (Jy _);go_wp2_with fail;go_ret;refine BL ?_ (hb1.next hb)
  rw [e.out,toList_append,toList_append,ht'.out,show (ByteArray.mk #[91]).toList=[91] from toList_mk _,show (ByteArray.mk #[93]).toList=[93] from toList_mk _]
 ·go_enter func34,ntmps34;go_wp2_with fail;go_ret;exact BL ((toList_mk []).trans e.out.symm) hb1
theorem Aao (u:Al) (w:World) (hp:Fs w u) (hl:(DK u.path).length<=549755813888) (hn:u.path.length<=maxLen):
  Calls prog 141 #[.agg (Ab u)] w (Cy w (E3 u)):=by
 have hI:=Sn.start w u;obtain ⟨x0,x1,x2,x3,x4,x5,x6,x7,x8,x9,x10,x11,x12,x13,x14,x15,x16,x17,x18,x19,x20,x21,x22⟩:=LJ u;have hX:Hid (E3 u=if u.flatP then u.flat.toList else DK u.path):=rfl
 unfold maxLen at hn;replace hp:=H0 hp;clear x0 x1 x2 x3 x4 x5 x6 x7 x8 x9 x10 x11 x12 x13 x14 x15 x19 x20 x21 x22;rcases EP u.flatP with hop | hop
 ·rw [hop] at hX x16;have hbx:=hI.box;have c18:=(hbx 18).trans x18;have c16:=(hbx 16).trans x16;have d31:(ByteArray.mk #[47]).toList=[47]:=toList_mk _;replace d31:=H0 d31;clear hbx x16 x17 x18;go_enter func141,ntmps141;go_wp2_with fail;go_loop [3,4] (fun sv iv=>∃ (k:Nat) (t:ByteArray),sv= .string t/\iv= .int .i64 k/\k<=u.path.length/\Hid (t.toList=DK (u.path.take k))) (fun _ i=>u.path.length - (intOf i).toNat)
  case atStart=>exact ⟨0,_,rfl,rfl,Nat.zero_le _,H0 (toList_mk [])⟩
  case round=>
   obtain ⟨k,t,rfl,rfl,hk,ht⟩:=hrel;have hle:=LR u.path k
   by_cases hlt:k<u.path.length
   ·obtain ⟨g,o,hpa,hcc⟩:=hp.out (by omega)
    have y1:(w.alloc (.cells (Ab u) 34)).cell? ⟨g,o+k,none⟩=some (.string u.path[k]):=by
     rw [World.cell?_alloc_past _ _ _ (World.block_lt_of_cell? w _ (hcc k hlt))];exact hcc k hlt
    have hle2:=LR u.path (k+1);have hsn:=PM hlt;have htz:t.size=(DK (u.path.take k)).length:=by rw [<-Aa,ht.out]
    have hz:t.size+(1+u.path[k].size)<=549755813888:=by
     rw [hsn,List.length_append] at hle2;simp [Aa] at hle2;omega
    have hltI:(k:Int)<(u.path.length:Int):=by omega
    have f1:¬ (9223372036854775807<t.size+1+u.path[k].size):=by omega
    have hnew:Hid ((t++⟨#[47]⟩++u.path[k]).toList=DK (u.path.take (k+1))):=H0 (by
     rw [hsn,toList_append,toList_append,d31.out,ht.out];simp)
    replace hsn:=H0 hsn;replace htz:=H0 htz;clear hcc hle hle2;rw [hpa] at c18;go_wp2_with fail;go_round
    case rel=>exact ⟨k+1,_,rfl,by go_num,by omega,hnew⟩
    case measure=>simp [intOf];omega
   ·have hfin:Hid (t.toList=E3 u):=H0 (by rw [hX.out,ht.out,List.take_of_length_le (by omega)];rfl)
    have hgeI:(u.path.length:Int)<=(k:Int):=by omega
    go_wp2_with fail;go_ret;exact BL hfin.out hI.below
 ·rw [hop] at hX x16;have hbx:=hI.box;have c17:=(hbx 17).trans x17;have c16:=(hbx 16).trans x16;clear hbx x16 x17 x18;go_enter func141,ntmps141;go_wp2_with fail;go_ret;exact BL (by rw [hX.out];rfl) hI.below
theorem Uw {a b:Bool} (h:a=b):a=b:=h
theorem Xy (u:Al) (w:World) (hp:Fs w u) (fit:Gs u):
  Calls prog 140 #[.agg (Ab u)] w (Cy w (CQ u)):=by
 have hI:=Sn.start w u;obtain ⟨x0,x1,x2,x3,x4,x5,x6,x7,x8,x9,x10,x11,x12,x13,x14,x15,x16,x17,x18,x19,x20,x21,x22⟩:=LJ u;have hbx:=hI.box;have hfu:=fit.user;have hfp:=fit.pass;have d46:(ByteArray.mk #[47,46]).toList=[47,46]:=toList_mk _;have d47:(ByteArray.mk #[47,47]).toList=[47,47]:=toList_mk _;have d58:(ByteArray.mk #[58]).toList=[58]:=toList_mk _;have d64:(ByteArray.mk #[64]).toList=[64]:=toList_mk _;replace d46:=H0 d46;replace d47:=H0 d47;replace d58:=H0 d58;replace d64:=H0 d64
 by_cases hk:u.host.kind=0
 ·have k1:(u.host.kind==0)=true:=by simp [hk]
  have hah:Hid (CQ u=Ex (K9 u) [47,46]):=H0 (by unfold CQ;rw [if_pos hk])
  have hdot:(u.flatP=true/\K9 u=false)\/(u.flatP=false/\(u.path.length:Int)<=1/\K9 u=false)\/(u.flatP=false/\(1:Int)<(u.path.length:Int)/\∃ g o t,u.pathA=some ⟨g,o,none⟩/\(w.alloc (.cells (Ab u) 34)).cell? ⟨g,o,none⟩=some (.string t)/\t.toList.isEmpty=K9 u):=by
   unfold K9;cases hfl:u.flatP
   ·by_cases h2:2<=u.path.length
    ·have hpw:=hp.below hI.below (Nat.le_refl _);obtain ⟨g,o,e1,hc⟩:=hpw (by omega)
     have h0:=hc 0 (by omega)
     refine .inr (.inr ⟨rfl,by omega,g,o,u.path[0],e1,h0,?_⟩)
     rw [Nn u.path (by omega)];simp [h2]
    ·exact .inr (.inl ⟨rfl,by omega,by simp [h2]⟩)
   ·exact .inl ⟨rfl,rfl⟩
  clear hk;replace hp:=H0 hp;rcases hdot with ⟨d1,d2⟩ | ⟨d1,d2,d3⟩ | ⟨d1,d2,g,o,t0,d3,d4,d5⟩
  ·replace d2:=H0 d2;rw [d1] at x16;go_enter func140,ntmps140;go_wp2_with fail;go_ret;exact BL (by rw [hah.out,d2.out];exact toList_mk []) hI.below
  ·replace d3:=H0 d3;rw [d1] at x16;go_enter func140,ntmps140;go_wp2_with fail;go_ret;exact BL (by rw [hah.out,d3.out];exact toList_mk []) hI.below
  ·rw [d1] at x16;rw [d3] at x18;rcases EP (K9 u) with hd | hd
   all_goals
    rw [hd] at d5;replace hd:=H0 hd;go_enter func140,ntmps140;go_wp2_with fail;go_ret
    first
     | exact BL (by rw [hah.out,hd.out];exact toList_mk []) hI.below
     | exact BL (by rw [hah.out,hd.out];exact toList_mk _) hI.below
 ·have k1:(u.host.kind==0)=false:=by simp [hk]
  have hah:Hid (CQ u=[47,47]++F4 u++Fa u.host++Jj u):=H0 (by unfold CQ;rw [if_neg hk])
  have hhl:=JS u.host fit.name;have hwl:=Pb u fit.user fit.pass;clear hk;replace hp:=H0 hp;go_enter func140,ntmps140;go_upto_region 6 with (fail)
  obtain ⟨B,hB⟩:∃ B:Bool,B= !(u.user.toList.isEmpty && u.pass.toList.isEmpty):=⟨_,rfl⟩
  have hcs:(u.user.toList.isEmpty=true/\u.pass.toList.isEmpty=true/\Hid (F4 u=[]))\/(u.user.toList.isEmpty=false/\u.pass.toList.isEmpty=true/\Hid (F4 u=u.user.toList++[64]))\/(u.user.toList.isEmpty=true/\u.pass.toList.isEmpty=false/\Hid (F4 u=u.user.toList++[58]++u.pass.toList++[64]))\/(u.user.toList.isEmpty=false/\u.pass.toList.isEmpty=false/\Hid (F4 u=u.user.toList++[58]++u.pass.toList++[64])):=by
   cases hu:u.user.toList<;>cases hp:u.pass.toList
   ·exact .inl ⟨rfl,rfl,H0 (by simp [F4,hu,hp])⟩
   ·exact .inr (.inr (.inl ⟨rfl,rfl,H0 (by simp [F4,hu,hp])⟩))
   ·exact .inr (.inl ⟨rfl,rfl,H0 (by simp [F4,hu,hp])⟩)
   ·exact .inr (.inr (.inr ⟨rfl,rfl,H0 (by simp [F4,hu,hp])⟩))
  replace hB:=H0 hB;go_cut [31] (fun s31 wx=>s31= .bool B/\Sn w wx u)
  case first=>as_aux_lemma=>
   rcases hcs with ⟨q1,q2,q3⟩ | ⟨q1,q2,q3⟩ | ⟨q1,q2,q3⟩ | ⟨q1,q2,q3⟩
   all_goals
    go_wp2_with fail;go_meet;refine ⟨?_,hI⟩;rw [hB.out,Uw q1,Uw q2];rfl
  case rest=>
   clear hI hbx;obtain ⟨rfl,hI⟩:=hcut;have hbx:=hI.box;go_upto_if 31 with (fail)
   go_cut [3] (fun s3 wx=>(∃ t:ByteArray,s3= .string t/\Hid (t.toList=[47,47]++F4 u))/\Sn w wx u)
   case first=>as_aux_lemma=>
    have f1:¬ (9223372036854775807<2+u.user.size):=by omega
    have f2:¬ (9223372036854775807<2+u.user.size+1):=by omega
    have f3:¬ (9223372036854775807<2+u.user.size+1+u.pass.size):=by omega
    have f4:¬ (9223372036854775807<2+u.user.size+1+u.pass.size+1):=by omega
    replace hfu:=H0 hfu;replace hfp:=H0 hfp;replace hwl:=H0 hwl;replace hhl:=H0 hhl;have c1:=(hbx 1).trans x1;have c2:=(hbx 2).trans x2;clear hbx x0 x1 x2 x3 x4 x5 x6 x7 x8 x9 x10 x11 x12 x13 x14 x15 x16 x17 x18 x19 x20 x21 x22 hah;rcases hcs with ⟨q1,q2,q3⟩ | ⟨q1,q2,q3⟩ | ⟨q1,q2,q3⟩ | ⟨q1,q2,q3⟩
    ·obtain rfl:B=false:=by rw [hB.out,Uw q1,Uw q2];rfl
     go_wp2_with fail;go_meet;exact ⟨⟨_,rfl,H0 (by rw [d47.out,q3.out];rfl)⟩,hI⟩
    ·obtain rfl:B=true:=by rw [hB.out,Uw q1,Uw q2];rfl
     go_wp2_with fail;go_meet;exact ⟨⟨_,rfl,H0 (by simp only [toList_append,d47.out,d64.out,q3.out];simp)⟩,hI⟩
    all_goals
     obtain rfl:B=true:=by rw [hB.out,Uw q1,Uw q2];rfl
     go_wp2_with fail;go_meet;exact ⟨⟨_,rfl,H0 (by simp only [toList_append,d47.out,d58.out,d64.out,q3.out];simp)⟩,hI⟩
   case rest=>
    clear hI hbx;obtain ⟨⟨t,rfl,ht⟩,hI⟩:=hcut;have hbx:=hI.box;have htz:t.size<=68719476740:=by rw [<-Aa,ht.out,List.length_append];simp;omega
    go_wp2_with fail;refine (Sg u.host fit.host _).mono ?_;rintro e w2 ⟨t2,rfl,ht2,hb⟩;replace hI:=hI.keep hb;have hz2:=G4 ht2.out hhl;clear hb hbx;have hbx:=hI.box;rcases EP u.hasPort with hpt | hpt
    ·rw [hpt] at x14;replace hpt:=H0 hpt;go_wp2_with fail;go_ret;exact BL (by rw [hah.out,toList_append,ht.out,ht2.out];simp [Jj,Ex,hpt.out]) hI.below
    ·rw [hpt] at x14;replace hpt:=H0 hpt;go_wp2_with fail;refine (Xg u.port _ fit.port.1 fit.port.2).mono ?_;rintro e w3 ⟨t3,rfl,ht3,hb⟩;replace hI:=hI.keep hb;have hz3:=G4 ht3.out (Lo u.port fit.port.1 fit.port.2);clear hb hbx;go_wp2_with fail;go_ret;exact BL (by rw [hah.out,toList_append,toList_append,toList_append,ht.out,ht2.out,ht3.out,d58.out];simp [Jj,Ex,hpt.out]) hI.below
theorem Sn.drew {w wx:World} {u:Al} (h:Sn w wx u):Sn w wx.drew u:=⟨h.below.drew,h.blk,h.size⟩
theorem Sn.range {w wx:World} {u:Al} (h:Sn w wx u):wx.rangeAt w.heap.size 0 (Ab u).toList:=fun j v hv=>by
 rw [Nat.zero_add];exact (h.box j).trans (by rw [<-Array.getElem?_toList];exact hv)
theorem AdY {w wx:World} {u:Al} (h:Sn w wx u):Sn w wx u/\wx.cell? ⟨w.heap.size,0,none⟩=some (.string u.scheme):=⟨h,(h.box 0).trans (LJ u).1⟩
theorem VA (u:Al):(prog.info? 34).map (·.size)=some (Ab u).toList.length:=by rw [Fv];rfl
theorem Xq (u:Al) (f:Bool) (w:World) (hp:Fs w u) (fit:Gs u):
  Calls prog 80 #[.agg (Ab u),.bool f] w (Cy w (Eg u f)):=by
 have hI:=Sn.start w u;obtain ⟨x0,x1,x2,x3,x4,x5,x6,x7,x8,x9,x10,x11,x12,x13,x14,x15,x16,x17,x18,x19,x20,x21,x22⟩:=LJ u;have f1:=fit.scheme;have f2:=fit.query;have f3:=fit.frag;have f4:=fit.path;have f5:=fit.flat;have hal:=OE u fit
 have hpx:(E3 u).length<=34359738368:=by
  unfold E3;split
  ·rw [Aa];exact f5
  ·exact f4
 have hX:Hid (Eg u f=u.scheme.toList++[58]++CQ u++E3 u++Ex u.hasQuery ([63]++u.query.toList)++Ex (u.hasFrag && f) ([35]++u.frag.toList)):=rfl;replace hp:=H0 hp;go_enter func80,ntmps80;go_upto_region 1 with (fail)
 generalize w.alloc (.cells (Ab u) 34)=wa at hI⊢;have z1:¬ (9223372036854775807<u.scheme.size+1):=by omega
 replace f1:=H0 f1;replace f2:=H0 f2;replace f3:=H0 f3;replace f4:=H0 f4;replace f5:=H0 f5;replace hal:=H0 hal;replace hpx:=H0 hpx;refine wp_region_noPanic ?_;refine wp_region_held_drew (S:=fun w'=>Sn w w' u/\w'.cell? ⟨w.heap.size,0,none⟩=some (.string u.scheme)) (by kernel_rfl) (AdY hI.drew) (fun hHeld=> ?_)
 refine wpAnyH_take (i:=3) (v:= .agg (Ab u).toList.toArray) rfl (by kernel_rfl) (by kernel_rfl) (by kernel_rfl) (fun _ _ _ h=>h) (yieldsIf_load_mid (by rfl) 34 _ rfl w.heap.size 0 rfl (Ab u).toList _ (fun _ h=>h.1.range) underlying34 rfl (VA u)) hHeld ?_
 try simp only [P3]
 refine wpAnyH_take (i:=6) (v:= .agg (Ab u).toList.toArray) rfl (by kernel_rfl) (by kernel_rfl) (by kernel_rfl) (fun _ _ _ h=>h) (yieldsIf_load_mid (by rfl) 34 _ rfl w.heap.size 0 rfl (Ab u).toList _ (fun _ h=>h.1.range) underlying34 rfl (VA u)) hHeld ?_
 try simp only [P3]
 refine wpAnyH_take (i:=0) (v:= ?_) rfl (by kernel_rfl) (by kernel_rfl) (by kernel_rfl) (fun _ _ _ h=>h) (Or.inl ⟨by rfl,?_⟩) hHeld ?_
 rotate_left
 ·intro w hSw;(try dsimp only at hSw);go_simp;try with_reducible rfl
 try simp only [P3]
 refine wpAnyH_take (i:=1) (v:= ?_) rfl (by kernel_rfl) (by kernel_rfl) (by kernel_rfl) (fun _ _ _ h=>h) (Or.inl ⟨by rfl,?_⟩) hHeld ?_
 rotate_left
 ·intro w hSw;(try dsimp only at hSw);go_simp;try with_reducible rfl
 try simp only [P3]
 refine wpAnyH_take (i:=2) (v:= ?_) rfl (by kernel_rfl) (by kernel_rfl) (by kernel_rfl) (fun _ _ _ h=>h) (Or.inl ⟨by rfl,?_⟩) hHeld ?_
 rotate_left
 ·intro w hSw;(try dsimp only at hSw);go_simp;try with_reducible rfl
 try simp only [P3]
 refine wpAnyH_ready (rs:=[4]) (by kernel_rfl) (by simp) ?_
 refine AllReadyH.cons rfl (fun K hK=> ?_) AllReadyH.nil
 go_simp;refine (Xy u _ (hp.out.below hHeld.1.below (Nat.le_refl _)) fit).mono ?_;rintro e w3 ⟨t1,rfl,ht1,hb⟩;have hI3:=hHeld.1.keep hb;clear hb hHeld;have hz1:t1.size<=103079215300:=by rw [<-Aa,ht1.out];exact hal.out
 have z2:¬ (9223372036854775807<u.scheme.size+1+t1.size):=by have:=f1.out;omega
 replace hz1:=H0 hz1;go_wp2_with fail;refine hK.out _ _ (AdY hI3) (fun hHeld=> ?_)
 clear hK K
 try simp only [P3]
 refine wpAnyH_take (i:=5) (v:= ?_) rfl (by kernel_rfl) (by kernel_rfl) (by kernel_rfl) (fun _ _ _ h=>h) (Or.inl ⟨by rfl,?_⟩) hHeld ?_
 rotate_left
 ·intro w hSw;(try dsimp only at hSw);go_simp;try with_reducible rfl
 try simp only [P3]
 refine wpAnyH_ready (rs:=[7]) (by kernel_rfl) (by simp) ?_
 refine AllReadyH.cons rfl (fun K hK=> ?_) AllReadyH.nil
 go_simp;refine (Aao u _ (hp.out.below hHeld.1.below (Nat.le_refl _)) (by have:=f4.out;omega) fit.pieces).mono ?_
 rintro e w4 ⟨t2,rfl,ht2,hb⟩;have hI4:=hHeld.1.keep hb;clear hb hHeld;have hz2:t2.size<=34359738368:=by rw [<-Aa,ht2.out];exact hpx.out
 have z3:¬ (9223372036854775807<u.scheme.size+1+t1.size+t2.size):=by have:=f1.out;have:=hz1.out;omega
 replace hz2:=H0 hz2;go_wp2_with fail;refine hK.out _ _ (AdY hI4) (fun hHeld=> ?_)
 clear hK K
 try simp only [P3]
 refine wpAnyH_take (i:=8) (v:= ?_) rfl (by kernel_rfl) (by kernel_rfl) (by kernel_rfl) (fun _ _ _ h=>h) (Or.inl ⟨by rfl,?_⟩) hHeld ?_
 rotate_left
 ·intro w hSw;(try dsimp only at hSw);go_simp;try with_reducible rfl
 try simp only [P3]
 refine wpAnyH_ready (rs:=[9]) (by kernel_rfl) (by simp) ?_
 refine AllReadyH.cons rfl (fun K hK=> ?_) AllReadyH.nil
 go_simp;refine hK.out _ _ (AdY hI4) (fun hHeld=> ?_)
 clear hK K
 try simp only [P3]
 refine wpAnyH_done (by kernel_rfl) ?_ _
 refine NoPanic.normal ?_;have hI:=hHeld.1;clear hHeld;generalize hT:u.scheme++⟨#[58]⟩++t1++t2=t
 have htL:Hid (t.toList=u.scheme.toList++[58]++CQ u++E3 u):=H0 (by
  rw [<-hT,toList_append,toList_append,toList_append,ht1.out,ht2.out,show (ByteArray.mk #[58]).toList=[58] from toList_mk _])
 have htz:t.size<=171798692040:=by
  rw [<-Aa,htL.out];simp only [List.length_append,Aa,List.length_cons,List.length_nil];have:=f1.out;have:=hal.out;have:=hpx.out;omega
 have q1:¬ (9223372036854775807<t.size+1+u.query.size):=by have:=f2.out;omega
 have q2:¬ (9223372036854775807<t.size+1+u.query.size+1+u.frag.size):=by have:=f2.out;have:=f3.out;omega
 have q3:¬ (9223372036854775807<t.size+1+u.frag.size):=by have:=f3.out;omega
 have q4:¬ (9223372036854775807<t.size+1):=by omega
 have q5:¬ (9223372036854775807<t.size+1+u.query.size+1):=by have:=f2.out;omega
 have d63:(ByteArray.mk #[63]).toList=[63]:=toList_mk _;have d35:(ByteArray.mk #[35]).toList=[35]:=toList_mk _;replace d63:=H0 d63;replace d35:=H0 d35;have c19:=(hI.box 19).trans x19;have c20:=(hI.box 20).trans x20;have c21:=(hI.box 21).trans x21;have c22:=(hI.box 22).trans x22;clear hT ht1 ht2 z1 z2 z3 htz x0 x1 x2 x3 x4 x5 x6 x7 x8 x9 x10 x11 x12 x13 x14 x15 x16 x17 x18 x19 x20 x21 x22
 rcases EP u.hasQuery with hq | hq<;>rcases EP u.hasFrag with hg | hg<;>rcases EP f with hf | hf
 all_goals
  rw [hq] at c19;rw [hg] at c21;subst hf;replace hq:=H0 hq;replace hg:=H0 hg;go_wp2_with fail;go_ret;refine BL ?_ hI.below;rw [hX.out,hq.out,hg.out];simp only [toList_append,htL.out,d63.out,d35.out,Ex];simp
theorem R6 {c:UInt8} {l:List UInt8} (h:(Af c l).2.2=true):l=(Af c l).1++c :: (Af c l).2.1:=by
 have:=Jz c l;rw [h] at this;exact this
theorem Gr (c:Int) (w:World):
  Calls prog 143 #[.int .u8 c] w fun e w'=>e= .returned (.bool (KC c))/\w=w':=by
 go_enter func143,ntmps143;go_wp2
 all_goals (go_ret;exact ⟨AF (by rw [Bool.eq_iff_iff];simp [KC];omega),rfl⟩)
theorem Nk (s:ByteArray) (w:World) (hs:s.size<=1099511627776):
  Calls prog 142 #[.string s] w fun e w'=>∃ t:ByteArray,e= .returned (.string t)/\Hid (t.toList=AG KC s.toList)/\t.size<=s.size/\w=w':=by
 go_enter func142,ntmps142;go_wp2_with fail;go_loop [0] (fun v=>∃ u:ByteArray,v= .string u/\u.size<=s.size/\Hid (AG KC u.toList=AG KC s.toList)) (fun v=>LK v)
 case atStart=>exact ⟨s,rfl,Nat.le_refl _,rfl⟩
 case round=>
  obtain ⟨u,rfl,hus,hu⟩:=hrel
  by_cases hgo:∃ h:0<u.size,KC (u[u.size - 1].toNat:Int)=true
  ·obtain ⟨g0,gp⟩:=hgo
   have gne:(!u.toList.isEmpty)=true:=by
    rw [Ca u g0];rfl
   have gx:=H0 (FJ u g0);go_wp2_with ((with_reducible refine (Gr _ _).mono ?_);rintro e w' ⟨rfl,rfl⟩);go_round
   case rel=>exact ⟨_,rfl,by rw [<-Aa,toList_extract,List.length_drop,List.length_take,Aa];omega,H0 (by rw [<-hu.out,gx.out,Gm gp])⟩
   case measure=>simp [LK];omega
  ·have ge:Hid (u.toList=AG KC s.toList):=H0 (by
    rw [<-hu.out]
    by_cases g0:0<u.size
    ·rw [FJ u g0,HE (by simpa using fun h=>hgo ⟨g0,h⟩)]
    ·rw [(At u).2 (by omega)];rfl)
   have gor:(∃ g0:0<u.size,(!u.toList.isEmpty)=true/\KC (u[u.size - 1].toNat:Int)=false)\/u.toList.isEmpty=true:=by
    by_cases g0:0<u.size
    ·exact .inl ⟨g0,by rw [Ca u g0];rfl,by simpa using fun h=>hgo ⟨g0,h⟩⟩
    ·exact .inr (by rw [(At u).2 (by omega)];rfl)
   clear hgo hu;rcases gor with ⟨g0,gne,gp⟩ | gne
   all_goals
    go_wp2_with ((with_reducible refine (Gr _ _).mono ?_);rintro e w' ⟨rfl,rfl⟩);go_ret;exact ⟨_,rfl,ge,hus,rfl⟩
theorem u8q {c d:UInt8}:(c=d->((c.toNat:Int)==(d.toNat:Int))=true)/\(c≠d->((c.toNat:Int)==(d.toNat:Int))=false):=by
 refine ⟨fun h=>by subst h;simp,fun h=> ?_⟩
 rw [beq_eq_false_iff_ne];exact fun h2=>h (UInt8.toNat_inj.1 (by omega))
theorem Mw (s:ByteArray) (c:UInt8) (w:World) (hs:s.size<=1099511627776):
  Calls prog 81 #[.string s,.int .u8 (c.toNat:Int)] w fun e w'=>e= .returned (.int .i64 ((Af c s.toList).1.length:Int))/\w=w':=by
 have hlen:=H0 (Aa s);go_enter func81,ntmps81;go_wp2_with fail;go_loop [5] (fun iv=>∃ k:Nat,iv= .int .i64 k/\k<=s.size/\Hid (∀ d∈s.toList.take k,d≠c)) (fun iv=>s.size - (intOf iv).toNat)
 case atStart=>exact ⟨0,rfl,Nat.zero_le _,H0 (by simp)⟩
 case round=>
  obtain ⟨k,rfl,hk,hg⟩:=hrel
  by_cases hlt:k<s.size
  ·have hltI:(k:Int)<(s.size:Int):=by omega
   by_cases h:s[k]=c
   ·have hfin:Hid ((Af c s.toList).1.length=k):=H0 (by
     have e:s.toList=s.toList.take k++c :: s.toList.drop (k+1):=by rw [<-h,<-Ao s k hlt,List.take_append_drop]
     rw [e,AbJ _ _ hg.out]
     rw [List.length_take,hlen.out];omega)
    have q:=u8q.1 h;replace h:=H0 h;go_wp2_with fail;go_ret;exact ⟨Io (by rw [hfin.out]),rfl⟩
   ·have hnew:Hid (∀ d∈s.toList.take (k+1),d≠c):=H0 (by
     rw [A5 s k hlt];intro d hd;rcases List.mem_append.1 hd with hd | hd
     ·exact hg.out d hd
     ·simp at hd;rw [hd];exact h)
    have q:=u8q.2 h;replace h:=H0 h;go_wp2_with fail;go_round
    case rel=>exact ⟨k+1,by go_num,by omega,hnew⟩
    case measure=>simp [intOf];omega
  ·have hgeI:(s.size:Int)<=(k:Int):=by omega
   have hfin:Hid ((Af c s.toList).1.length=s.size):=H0 (by
    have:=hg.out;rw [Cl s k (by omega)] at this
    rw [Uh _ this,hlen.out])
   go_wp2_with fail;go_ret;exact ⟨Io (by rw [hfin.out]),rfl⟩
def Jf:ByteArray:=⟨#[33,35,36,37,38,39,42,43,45,46,94,95,96,124,126]⟩
theorem Va:Jf.toList=Dj:=toList_mk _
theorem PU (k:Nat) (h:k<15) (c:UInt8):(Dj.take (k+1)).contains c=((Dj.take k).contains c || c==Jf[k]'h):=by
 have e:=A5 Jf k h;rw [Va] at e;rw [e];simp only [List.contains_append,List.contains_cons,List.contains_nil,Bool.or_false]
theorem AaA (c:UInt8):∃ b,(AU (c.toNat:Int) || decide (0<=Ah (c.toNat:Int) 10))=b/\Kq c=(b || Dj.contains c)/\
  ((AU (c.toNat:Int)=true/\b=true)\/(AU (c.toNat:Int)=false/\decide (0<=Ah (c.toNat:Int) 10)=true/\b=true)\/(AU (c.toNat:Int)=false/\decide (0<=Ah (c.toNat:Int) 10)=false/\b=false)):=by
 refine ⟨_,rfl,rfl,?_⟩;cases hl:AU (c.toNat:Int)
 ·by_cases hd:0<=Ah (c.toNat:Int) 10
  ·exact .inr (.inl ⟨rfl,decide_eq_true hd,by rw [decide_eq_true hd];rfl⟩)
  ·exact .inr (.inr ⟨rfl,decide_eq_false hd,by rw [decide_eq_false hd];rfl⟩)
 ·exact .inl ⟨rfl,rfl⟩
theorem AbD (b:Bool) (c:UInt8) (j:Nat) (h:j<15):((Jf[j]'h=c)->(b || (Dj.take (j+1)).contains c)=true)/\(Jf[j]'h≠c->(b || (Dj.take (j+1)).contains c)=(b || (Dj.take j).contains c)):=by
 rw [PU j h];refine ⟨fun e=> ?_,fun e=> ?_⟩
 ·have:(c==Jf[j])=true:=by rw [e];exact beq_self_eq_true c
  rw [this];simp
 ·have:(c==Jf[j])=false:=by rw [beq_eq_false_iff_ne];exact fun x=>e x.symm
  rw [this,Bool.or_false]
theorem Yv (b:Bool) (c:UInt8) (j:Nat) (h:j<15) (h2:(b || (Dj.take j).contains c)=true):(b || (Dj.take (j+1)).contains c)=true:=by
 rw [PU j h,<-Bool.or_assoc,h2];rfl
theorem O9 (s:ByteArray) (w:World) (hs:s.size<=1099511627776):
  Calls prog 144 #[.string s] w (IY w (F9 s.toList)):=by
 have hlen:=H0 (Aa s);go_enter func144,ntmps144;go_wp2_with fail;obtain ⟨S,hS⟩:∃ S,S=Jf:=⟨_,rfl⟩;have hSz:S.size=15:=by rw [hS];rfl
 rw [show (ByteArray.mk #[33,35,36,37,38,39,42,43,45,46,94,95,96,124,126])=S from hS.symm];have hat:Hid (∀ (b:Bool) (c:UInt8) (j:Nat) (h:j<S.size),((S[j]'h=c)->(b || (Dj.take (j+1)).contains c)=true)/\(S[j]'h≠c->(b || (Dj.take (j+1)).contains c)=(b || (Dj.take j).contains c))):=H0 (by subst hS;exact AbD)
 replace hS:=H0 hS;replace hSz:=H0 hSz;go_loopw [4,5,6] (fun iv _ _ wr=>∃ k:Nat,iv= .int .i64 k/\k<=s.size/\Hid ((s.toList.take k).all Kq=true)/\Below w.heap.size w wr) (fun iv _ _ _=>s.size - (intOf iv).toNat)
 case atStart=>exact ⟨0,rfl,Nat.zero_le _,H0 rfl,Below.refl _ _⟩
 case round=>
  obtain ⟨k,rfl,hk,hg,hB⟩:=hrel
  by_cases hlt:k<s.size
  ·have hltI:(k:Int)<(s.size:Int):=by omega
   obtain ⟨b,hb1,hb2,hway⟩:=AaA s[k];replace hb1:=H0 hb1;replace hb2:=H0 hb2;obtain ⟨wo,rfl⟩:∃ wo:World,wo=wr:=⟨_,rfl⟩;rcases hway with ⟨q1,rfl⟩ | ⟨q1,q2,rfl⟩ | ⟨q1,q2,rfl⟩
   all_goals
    go_wp2_with (first
     | (go_at_call 187;refine (Wy _ _).mono ?_;rintro e w' ⟨rfl,rfl⟩)
     | (go_at_call 132;refine (Yl _ _ _ (AC _) (AK _)).mono ?_;rintro e w' ⟨rfl,rfl⟩))
    clear q1
    try clear q2
    go_loopw [5,6] (fun fv jv wi=>∃ (j:Nat) (f:Bool),jv= .int .i64 j/\fv= .bool f/\j<=15/\Hid (((AU (s[k].toNat:Int) || decide (0<=Ah (s[k].toNat:Int) 10)) || (Dj.take j).contains s[k])=f)/\Below w.heap.size w wi) (fun _ jv _=>15 - (intOf jv).toNat)
    case atStart=>exact ⟨0,_,rfl,rfl,by omega,H0 (by rw [hb1.out];rfl),hB⟩
    case round=>
     obtain ⟨j,f,rfl,rfl,hj,hf,hBi⟩:=hrel;have hz:(S.size:Int)=15:=by rw [hSz.out];rfl
     by_cases hjl:j<15
     ·have hjI:(j:Int)<(S.size:Int):=by omega
      have hj0:(0:Int)<=(j:Int):=by omega
      have hjN:j<S.size:=by omega
      have hk0:(0:Int)<=(k:Int):=by omega
      have hstep:=hat.out (AU (s[k].toNat:Int) || decide (0<=Ah (s[k].toNat:Int) 10)) s[k] j hjN;have hkeep:=Yv (AU (s[k].toNat:Int) || decide (0<=Ah (s[k].toNat:Int) 10)) s[k] j hjl;replace hz:=H0 hz;replace hkeep:=H0 hkeep;cases f
      ·by_cases he:S[j]=s[k]
       ·have hnew:=H0 (hstep.1 he);have q:=u8q.1 he;replace he:=H0 he;replace hstep:=H0 hstep;go_wp2_with fail;go_quiet (fail);go_wp2_with fail;go_roundw
        case rel=>exact ⟨j+1,true,by go_num,rfl,by omega,hnew,below_drewN hBi _⟩
        case measure=>simp [intOf];omega
       ·have hnew:=H0 ((hstep.2 he).trans hf.out);have q:=u8q.2 he;replace he:=H0 he;replace hstep:=H0 hstep;go_wp2_with fail;go_quiet (fail);go_wp2_with fail;go_roundw
        case rel=>exact ⟨j+1,false,by go_num,rfl,by omega,hnew,below_drewN hBi _⟩
        case measure=>simp [intOf];omega
      ·have hnew:=H0 (hkeep.out hf.out);replace hstep:=H0 hstep;go_wp2_with fail;go_quiet (fail);go_wp2_with fail;go_roundw
       case rel=>exact ⟨j+1,true,by go_num,rfl,by omega,hnew,below_drewN hBi _⟩
       case measure=>simp [intOf];omega
     ·have hjE:j=15:=by omega
      have htok:Hid (Kq s[k]=f):=H0 (by rw [hb2.out,<-hf.out,hb1.out,hjE];rfl)
      have hjI:(S.size:Int)<=(j:Int):=by omega
      replace hjE:=H0 hjE;replace hz:=H0 hz;cases f
      ·have hno:Hid (F9 s.toList=false):=H0 (by
        unfold F9;have e:s.toList=s.toList.take k++s[k] :: s.toList.drop (k+1):=by rw [<-Ao s k hlt,List.take_append_drop]
        rw [e,List.all_append,List.all_cons,htok.out];simp)
       go_wp2_with fail;go_ret;exact ⟨AF hno.out.symm,hBi⟩
      ·have hnew:Hid ((s.toList.take (k+1)).all Kq=true):=H0 (by
        rw [A5 s k hlt,List.all_append,hg.out];simp [htok.out])
       go_wp2_with fail;go_roundw
       case rel=>exact ⟨k+1,by go_num,by omega,hnew,hBi⟩
       case measure=>simp [intOf];omega
  ·have hgeI:(s.size:Int)<=(k:Int):=by omega
   have hall:Hid (s.toList.all Kq=true):=H0 (by have:=hg.out;rw [Cl s k (by omega)] at this;exact this)
   cases hem:s.toList.isEmpty
   ·have hfin:Hid (F9 s.toList=true):=H0 (by unfold F9;rw [hem,hall.out];rfl)
    go_wp2_with fail;go_ret;exact ⟨AF hfin.out.symm,hB⟩
   ·have hfin:Hid (F9 s.toList=false):=H0 (by unfold F9;rw [hem];rfl)
    go_wp2_with fail;go_ret;exact ⟨AF hfin.out.symm,hB⟩
end Go.Proofs.YtonomfeipkdmhaaGreatDoor
