/- Part 24: lemmas. -/
import Derived.Test.YtonomfeipkdmhaaGreatDoorK23
set_option linter.unusedVariables false
set_option linter.unusedSimpArgs false
set_option maxRecDepth 100000
set_option maxHeartbeats 16000000
namespace Go.Proofs.YtonomfeipkdmhaaGreatDoor
open Go.RowKit Go.Proofs.Tryz
theorem BX {P:Program} {ops:Array Oper} {rest:List Oper} {o:Oper} {a:Act} {w:World} {Q:Exit->Act->World->Prop} (hgd:o.guard=none) (ty:TypeId) (x y:Operand) (ho:o.op= .store ty x y) (hd:o.dst=none)
  (cells:Array Value) (t:TypeId) (old:Array Value) (g:Nat) (hx:a.eval x= .pointer (some ⟨g,0,none⟩)) (hgw:g=w.heap.size) (hy:a.eval y= .agg cells) (hi:(P.info? ty).map (·.size)=some cells.size)
  (hold:old.size=cells.size) (h1:cells.all (·.oneCell')=true)
  (h:wpList P ops Q rest a (w.alloc (.cells cells t))):wpList P ops Q (o :: rest) a (w.alloc (.cells old t)):=by
 subst hgw;refine wpList_store_row hgd ty x y ho w.heap.size cells hx hy t old (by show (w.heap.push _)[w.heap.size]? =_;simp) hi hold h1 ?_
 rw [World.setRow_alloc_new,hd];exact h
theorem PI (l:List UInt8) (c:UInt8):Lib.hasSuffix l [c]=decide (l.getLast? =some c):=by
 unfold Lib.hasSuffix;rcases List.eq_nil_or_concat l with rfl | ⟨L,d,rfl⟩
 ·rfl
 ·have e:(L++[d]).reverse=d :: L.reverse:=by rw [List.reverse_append];rfl
  have e2:(L++[d]).getLast? =some d:=by rw [List.getLast?_append];rfl
  have e3:L.concat d=L++[d]:=List.concat_eq_append
  try rw [e3]
  unfold List.isSuffixOf;rw [e,e2];show (c==d && true)=decide (some d=some c);rw [Bool.and_true,Bool.eq_iff_iff,beq_iff_eq,decide_eq_true_iff];exact ⟨fun h=>by rw [h],fun h=>(Option.some.inj h).symm⟩
def Adx (s:ByteArray) (w:World) (e:Ending) (w':World):Prop:=
 ∃ (v:Value) (l:List EE),e= .returned v/\Hid (l.map GP=Fe s.toList)/\l.length<=s.size/\(∀ c∈l,c.url.size<=s.size/\(∀ x∈c.ws,x.size<=1000000000)/\c.ws.length<=1000000000)/\FD w' w.heap.size v l/\Below w.heap.size w w'
theorem AfE:∀ args w,(callFunc 171 args).run prog w= .ok (.enter 171 args) w:=C4 func171 (by kernel_rfl) rfl
theorem Afs:∀ args w,(callFunc 172 args).run prog w= .ok (.enter 172 args) w:=C4 func172 (by kernel_rfl) rfl
theorem Aeo:∀ (n:Nat) (l:List UInt8),l.length<=n->∀ t∈(Ou l).1,t.length<=l.length:=by
 intro n
 induction n with
 | zero=>
  intro l hl t ht;obtain rfl:l=[]:=List.eq_nil_of_length_eq_zero (by omega)
  have e:Ou []=([],[]):=rfl;rw [e] at ht;cases ht
 | succ n ih=>
  intro l hl t ht;have h3:=Jv Eh l;rw [O3] at ht
  by_cases h:(Bl BV false (l.dropWhile Eh)).1=[]
  ·rw [if_pos h] at ht;cases ht
  ·have h1:=J9 BV false (l.dropWhile Eh);have h2:=List.length_pos_iff.2 h;rw [if_neg h] at ht;rcases List.mem_cons.1 ht with rfl | ht
   ·omega
   ·have:=ih (Bl BV false (l.dropWhile Eh)).2.1 (by omega) t ht
    omega
theorem Hi {s:List UInt8} {j:Nat} (h:(s.drop j).dropWhile Gn=[]):Fe (s.drop j)=[]:=by rw [Ss,h,if_pos rfl]
theorem Xu (s:ByteArray) (w:World) (hz:s.size<=900000000):
  Calls prog 103 #[.string s] w (Adx s w):=by
 have hsl:=Aa s;go_enter func103,ntmps103;go_wp2_with fail;go_loopg [3] (s.size) (fun g v wr=>∃ (j:Nat) (l:List EE),g=s.size - j/\j<=s.size/\l.length<=j/\Hid (Fe s.toList=l.map GP++Fe (s.toList.drop j))/\(∀ c∈l,c.url.size<=s.size/\(∀ x∈c.ws,x.size<=1000000000)/\c.ws.length<=1000000000)/\FD wr (w.heap.size+2) v l/\FN wr (w.heap.size+1) j/\GX wr w.heap.size s/\Below w.heap.size w wr)
 case atStart=>
  refine ⟨0,[],rfl,Nat.zero_le _,Nat.le_refl _,H0 (by simp),(fun c hc=>by cases hc),FD.nil _ _,?_,?_,((Below.refl _ _).alloc (Nat.le_refl _) _).alloc (by simp) _⟩
  ·have:=heap_alloc_new (w.alloc (.cells #[.string s] 9)) (.cells #[.int .i64 0] 3);unfold FN;simpa using this
  ·exact (heap_alloc_old _ _ (by simp)).trans (heap_alloc_new _ _)
 case round=>
  obtain ⟨j,l,hgk,hj,hlj,hrun,hsz,hown,hba,hbs,hB⟩:=hrel;replace hgk:=H0 hgk;have hwz0:w.heap.size+1<wr.heap.size:=(Array.getElem?_eq_some_iff.1 hba).1;go_wp2_with fail;refine (LH 171 #[] (Vs Gn) (fun _ _=>True) (fun _=>False) (w.heap.size+1) w.heap.size s (fun st c w _=>(AdB (c.toNat:Int) w).mono (by rintro e w' ⟨rfl,rfl⟩;exact ⟨rfl,trivial,BI.refl _ _⟩)) AfE (fun _ _ _ _=>trivial) (fun x=>x) (fun x=>x) (by omega) (by omega) () j wr trivial hba hbs hj).mono ?_
  rintro e w1 ⟨t1,rfl,ht1,hz1,hba1,hbs1,-,hC1⟩;have hd1:=LX ht1.out;rw [Ih] at hd1;dsimp only at hd1
  have hC1':BI (· =w.heap.size+1) wr w1:=hC1.mono (fun i h=>h.elim id False.elim)
  have lsz:wr.heap.size<=w1.heap.size:=hC1.size;have hown1:FD w1 (w.heap.size+2) _ l:=hown.chg (fun k h1 h2=>hC1'.block k h2 (by omega))
  have hB1:Below w.heap.size w w1:=hB.trans (hC1'.below (by omega) (by intro i hi;omega))
  clear ht1 hC1 hC1' hown hB hba hbs;obtain ⟨j1,hj1⟩:=N2 (j+t1.size);rw [hj1] at hd1 hz1 hba1;have hjj:j<=j1:=by omega
  have xa:=cell_of_row _ _ 0 _ _ _ hba1;have xs:=cell_of_row _ _ 0 _ _ _ hbs1;simp only [List.getElem?_toArray,List.getElem?_cons_zero] at xa xs;replace hj1:=H0 hj1
  by_cases hend:j1=s.size
  ·obtain ⟨e1,n1⟩:=MX (show (j1:Int)=(s.size:Int) by omega)
   have hfin:Hid (l.map GP=Fe s.toList):=H0 (by
    rw [hrun.out,Hi (by rw [<-hd1];exact AM s _ (by omega)),List.append_nil])
   replace hd1:=H0 hd1;replace hba1:=H0 hba1;replace hbs1:=H0 hbs1;replace hend:=H0 hend;go_wp2_with fail;go_ret;exact ⟨_,l,rfl,hfin,by omega,hsz,hown1.low (by omega),hB1⟩
  obtain ⟨e1,n1⟩:=TS (show ¬ (j1:Int)=(s.size:Int) by omega)
  have hlt1:j1<s.size:=by omega
  have hcr:=Ao s j1 hlt1;have hc0:Gn s[j1]=false:=JG Gn (s.toList.drop j) (by rw [<-hd1,hcr])
  have hstep:Hid (Fe (s.toList.drop j)=Gc (LV (s.toList.drop j1)).1++Fe (LV (s.toList.drop j1)).2):=H0 (by
   rw [Ss,<-hd1,if_neg (by rw [hcr];simp)])
  replace hba1:=H0 hba1;replace hbs1:=H0 hbs1;clear hd1;go_wp2_with fail;refine (LH 172 #[] (Vs Ff) (fun _ _=>True) (fun _=>False) (w.heap.size+1) w.heap.size s (fun st c w _=>(AcI (c.toNat:Int) w).mono (by rintro e w' ⟨rfl,rfl⟩;exact ⟨rfl,trivial,BI.refl _ _⟩)) Afs (fun _ _ _ _=>trivial) (fun x=>x) (fun x=>x) (by omega) (by omega) () j1 w1 trivial hba1.out hbs1.out hz1).mono ?_
  rintro e w2 ⟨U,rfl,hU,hz2,hba2,hbs2,-,hC2⟩;have hd2:=LX hU.out;rw [Ih] at hd2 hU;dsimp only at hd2 hU
  have hC2':BI (· =w.heap.size+1) w1 w2:=hC2.mono (fun i h=>h.elim id False.elim)
  have lsz2:w1.heap.size<=w2.heap.size:=hC2.size;have hown2:FD w2 (w.heap.size+2) _ l:=hown1.chg (fun k h1 h2=>hC2'.block k h2 (by omega))
  have hB2:Below w.heap.size w w2:=hB1.trans (hC2'.below (by omega) (by intro i hi;omega))
  have hUp:0<U.size:=by
   rw [<-Aa,hU.out,hcr,List.takeWhile_cons,if_pos (Wg hc0)];simp
  have hUz0:U.size<=s.size:=by omega
  clear hC2 hC2' hown1 hB1 hba1 hbs1 xa xs;obtain ⟨k2,hk2⟩:=N2 (j1+U.size);rw [hk2] at hd2 hz2 hba2;have hk2j:j1<k2:=by omega
  have hsuf:=H0 (fun w=>Tryz.strings_HasSuffix U ⟨#[44]⟩ w (by omega))
  have e2:Lib.hasSuffix U.data.toList (ByteArray.mk #[44]).data.toList=decide (U.toList.getLast? =some 44):=by
   rw [<-ByteArray.toList_eq];exact PI _ _
  rw [e2] at hsuf;replace hba2:=H0 hba2;replace hbs2:=H0 hbs2;replace hk2:=H0 hk2;replace hcr:=H0 hcr;clear hc0 e2
  by_cases hlast:U.toList.getLast? =some 44
  ·rw [decide_eq_true hlast] at hsuf;have htr:=H0 (fun w=>Tryz.strings_TrimRight_one U 44 (by decide) w (by omega))
   obtain ⟨U2,hU2⟩:∃ q:ByteArray,(⟨(Lib.trimRightB U.data.toList 44).toArray⟩:ByteArray)=q:=⟨_,rfl⟩;rw [hU2] at htr;have hU2l:U2.toList=RO U.toList:=by rw [<-hU2,toList_mk,<-ByteArray.toList_eq];rfl
   have hUz:U2.size<=s.size:=by
    obtain ⟨t,ht,_⟩:=Aaw U.toList;have:=congrArg List.length ht;rw [List.length_append,<-hU2l,Aa,Aa] at this;omega
   have hone:Hid (LV (s.toList.drop j1)=((U2.toList,([]:List ByteArray).map (·.toList)),s.toList.drop k2)):=H0 (by
    unfold LV
    rw [<-hU.out,if_pos hlast,hU2l,hd2];rfl)
   replace hU2:=H0 hU2;replace hU2l:=H0 hU2l;replace hlast:=H0 hlast;replace hd2:=H0 hd2;go_wp2_with (first | (go_at_call 112;refine (hsuf.out _).mono ?_;rintro e w' ⟨rfl,hw'⟩;obtain rfl:=hw'.symm) | (go_at_call 173;refine (htr.out _).mono ?_;rintro e w' ⟨rfl,hw'⟩;obtain rfl:=hw'.symm))
   have hn:k2<=s.size:=hz2;have hwz:∀ x∈([]:List ByteArray),x.size<=1000000000:=fun x hx=>by cases hx
   have hwl:([]:List ByteArray).length<=1000000000:=by decide
   have hrdv:Fg w2 (.slice none 0 0) ([]:List ByteArray):=⟨none,0,rfl,fun h=>by cases h⟩
   refine (IC (.slice none 0 0) ([]:List ByteArray) w2 hrdv hwz hwl).mono ?_;have lat:w.heap.size+1<w2.heap.size:=(Array.getElem?_eq_some_iff.1 hba2.out).1;have lst:w.heap.size<w2.heap.size:=by omega
   rintro e w6 (⟨hds,rfl,hb6⟩ | ⟨st,wv,hds,rfl,ho6,hb6⟩)
   ·have hnew:Hid (Fe s.toList=l.map GP++Fe (s.toList.drop k2)):=H0 (by
     rw [hrun.out,hstep.out,hone.out];unfold Gc;dsimp only
     rw [hds.out];rfl)
    have hb7:Below w2.heap.size w2 (w6.alloc (.cells (Ap e0 Fq d0) 109)):=hb6.alloc hb6.size _;have hbe:FN (w6.alloc (.cells (Ap e0 Fq d0) 109)) (w.heap.size+1) k2:=(hb7.block _ lat).trans hba2.out;have hse:GX (w6.alloc (.cells (Ap e0 Fq d0) 109)) w.heap.size s:=(hb7.block _ lst).trans hbs2.out;have hoe:=hown2.below hb7;have hBe:=hB2.trans (hb7.mono (by omega))
    replace hbe:=H0 hbe;replace hse:=H0 hse;clear hb6 hb7;go_wp2_with (refine BX rfl 109 _ _ rfl rfl (Ap e0 Fq d0) 109 _ _ rfl rfl rfl (Cp _ _ _) rfl (Du _ _ _ _ _) ?_);go_roundg (s.size - k2)
    case measure=>have:=hgk.out;omega
    case rel=>exact ⟨k2,l,rfl,hn,by omega,hnew,hsz,hoe,hbe.out,hse.out,hBe⟩
   ·have hnew:Hid (Fe s.toList=(l++[EE.mk U2 wv ([]:List ByteArray) st]).map GP++Fe (s.toList.drop k2)):=H0 (by
     rw [hrun.out,hstep.out,hone.out];unfold Gc;dsimp only
     rw [hds.out,List.map_append,List.append_assoc];rfl)
    obtain ⟨pb,cb,rfl,-⟩:=ho6.read;have hb7:Below w2.heap.size w2 (w6.alloc (.cells (Ap e0 (.slice pb ([]:List ByteArray).length cb) st) 109)):=hb6.alloc hb6.size _;have hnb:(w6.alloc (.cells (Ap e0 (.slice pb ([]:List ByteArray).length cb) st) 109)).heap[w6.heap.size]? =some (.cells (Ap e0 (.slice pb ([]:List ByteArray).length cb) st) 109 (0,0)):=heap_alloc_new _ _;have y0:=cell_of_row _ _ 0 _ _ _ hnb;have f0:=frozen_of_row _ _ 0 _ _ hnb;simp only [Ap,List.getElem?_toArray,List.getElem?_cons_zero,List.getElem?_cons_succ] at y0
    change World.cell? (w6.alloc (.cells (Ap e0 (.slice pb ([]:List ByteArray).length cb) st) 109)) _=_ at y0
    have hnb2:(w6.alloc (.cells (Ap U2 (.slice pb ([]:List ByteArray).length cb) st) 109)).heap[w6.heap.size]? =some (.cells (Ap U2 (.slice pb ([]:List ByteArray).length cb) st) 109 (0,0)):=heap_alloc_new _ _;have hkp:∀ k,k<w6.heap.size->(w6.alloc (.cells (Ap U2 (.slice pb ([]:List ByteArray).length cb) st) 109)).heap[k]? =w6.heap[k]? :=fun k hk=>heap_alloc_old _ _ hk
    have lsz:=hb6.size;have hbe:FN (w6.alloc (.cells (Ap U2 (.slice pb ([]:List ByteArray).length cb) st) 109)) (w.heap.size+1) k2:=(hkp _ (by omega)).trans ((hb6.block _ lat).trans hba2.out)
    have hse:GX (w6.alloc (.cells (Ap U2 (.slice pb ([]:List ByteArray).length cb) st) 109)) w.heap.size s:=(hkp _ (by omega)).trans ((hb6.block _ lst).trans hbs2.out)
    have hoe:FD (w6.alloc (.cells (Ap U2 (.slice pb ([]:List ByteArray).length cb) st) 109)) (w.heap.size+2) _ l:=hown2.chg (fun k _ hk=>(hkp k (by omega)).trans (hb6.block k hk))
    have hwe:AI (w6.alloc (.cells (Ap U2 (.slice pb ([]:List ByteArray).length cb) st) 109)) (w.heap.size+2) 9 (.slice pb ([]:List ByteArray).length cb) ([]:List ByteArray):=(ho6.chg (fun k _ hk=>hkp k hk)).low (by omega)
    have hBe:Below w.heap.size w (w6.alloc (.cells (Ap U2 (.slice pb ([]:List ByteArray).length cb) st) 109)):=(hB2.trans (hb6.mono (by omega))).alloc (by omega) _
    have lse:(w6.alloc (.cells (Ap U2 (.slice pb ([]:List ByteArray).length cb) st) 109)).heap.size=w6.heap.size+1:=by simp
    replace hbe:=H0 hbe;replace hse:=H0 hse;replace hnb2:=H0 hnb2;replace hkp:=H0 hkp;replace lse:=H0 lse;clear hb6 hb7 ho6 hnb
    go_wp2_with (first
     | (refine BX rfl 109 _ _ rfl rfl (Ap e0 (.slice pb ([]:List ByteArray).length cb) st) 109 _ _ rfl rfl rfl (Cp _ _ _) rfl (Du _ _ _ _ _) ?_)
     | (refine wpList_load_row (w:=(w6.alloc (.cells (Ap U2 (.slice pb ([]:List ByteArray).length cb) st) 109))) rfl 109 _ rfl w6.heap.size rfl _ (Ap U2 (.slice pb ([]:List ByteArray).length cb) st) _ _ hnb2.out underlying109 rfl (Cp _ _ _) ?_)
     | (refine Jw rfl _ rfl U2 (.slice pb ([]:List ByteArray).length cb) st rfl ?_)
     | (refine Im rfl _ _ rfl (EE.mk U2 (.slice pb ([]:List ByteArray).length cb) ([]:List ByteArray) st) rfl (by rfl) hoe hwe (Below.refl (w.heap.size+2) _) (by rw [lse.out];omega) (by omega) ?_;intro v' w8 hoz hbz))
    have hbz1:FN w8 (w.heap.size+1) k2:=(hbz.block _ (by omega)).trans hbe.out
    have hbz2:GX w8 w.heap.size s:=(hbz.block _ (by omega)).trans hse.out
    have hBz:=hBe.trans (hbz.mono (by omega))
    go_wp2_with fail;go_roundg (s.size - k2)
    case measure=>have:=hgk.out;omega
    case rel=>
     refine ⟨k2,_,rfl,hn,?_,hnew,?_,hoz,hbz1,hbz2,hBz⟩
     ·rw [List.length_append];show l.length+1<=_;omega
     ·intro c hc;rcases List.mem_append.1 hc with hc | hc
      ·exact hsz c hc
      ·rw [List.mem_singleton.1 hc];exact ⟨hUz,hwz,hwl⟩
  ·rw [decide_eq_false hlast] at hsuf
   have hU1:Hid (LV (s.toList.drop j1)=((U.toList,(Ou (s.toList.drop k2)).1),(Ou (s.toList.drop k2)).2.drop 1)):=H0 (by
    unfold LV
    rw [<-hU.out,if_neg hlast,hd2])
   replace hlast:=H0 hlast;replace hd2:=H0 hd2;go_wp2_with (first | (go_at_call 112;refine (hsuf.out _).mono ?_;rintro e w' ⟨rfl,hw'⟩;obtain rfl:=hw'.symm))
   refine (PA (w.heap.size+1) w.heap.size s k2 w2 hba2.out hbs2.out hz2 (by omega) (by omega)).mono ?_
   rintro e w3 ⟨V,wl,n0,rfl,hwl1,hwl2,hkn,hn0,hwln,hoV,hba3,hbs3,hC3⟩;have lsz3:w2.heap.size<=w3.heap.size:=hC3.size;have hown3:FD w3 (w.heap.size+2) _ l:=hown2.chg (fun k h1 h2=>hC3.block k h2 (by omega))
   have hB3:Below w.heap.size w w3:=hB2.trans (hC3.below (by omega) (by intro i hi;omega))
   have hwz:∀ x∈wl,x.size<=1000000000:=by
    intro x hx;have h1:x.toList∈(Ou (s.toList.drop k2)).1:=by rw [<-hwl1.out];exact List.mem_map_of_mem hx
    have h2:=Aeo _ _ (Nat.le_refl _) _ h1;rw [Aa,List.length_drop,hsl] at h2;omega
   have hwl:wl.length<=1000000000:=by omega
   obtain ⟨pv,cv,rfl,-⟩:=hoV.read;have xa:=cell_of_row _ _ 0 _ _ _ hba3;have xs:=cell_of_row _ _ 0 _ _ _ hbs3;have fa:=frozen_of_row _ _ 0 _ _ hba3;simp only [List.getElem?_toArray,List.getElem?_cons_zero] at xa xs;clear hC3 hown2 hB2 hba2 hbs2
   by_cases hn0e:n0<s.size
   ·have hn0I:(n0:Int)<(s.size:Int):=by omega
    have hbn:FN (w3.setCell ⟨w.heap.size+1,0,none⟩ (.int .i64 ((n0+1:Nat):Int))) (w.heap.size+1) (n0+1):=by
     unfold FN;rw [A6 hba3];rfl
    have hsn:GX (w3.setCell ⟨w.heap.size+1,0,none⟩ (.int .i64 ((n0+1:Nat):Int))) w.heap.size s:=(LM (by omega)).trans hbs3
    have hownn:FD (w3.setCell ⟨w.heap.size+1,0,none⟩ (.int .i64 ((n0+1:Nat):Int))) (w.heap.size+2) _ l:=hown3.chg (fun k h1 h2=>LM (by omega))
    have hBn:Below w.heap.size w (w3.setCell ⟨w.heap.size+1,0,none⟩ (.int .i64 ((n0+1:Nat):Int))):=Su hB3 (by omega)
    have hrn:AI (w3.setCell ⟨w.heap.size+1,0,none⟩ (.int .i64 ((n0+1:Nat):Int))) w2.heap.size 9 (.slice pv wl.length cv) wl:=hoV.chg (fun k h1 h2=>LM (by omega))
    have hrdv:=hrn.read;have ej:((n0+1:Nat):Int)=(n0:Int)+1:=by omega
    rw [ej] at hbn hsn hownn hBn hrdv;have hn1:n0+1<=s.size:=by omega
    have hone:Hid (LV (s.toList.drop j1)=((U.toList,wl.map (·.toList)),s.toList.drop (n0+1))):=H0 (by
     rw [hU1.out,<-hwl1.out,<-hwl2.out,List.drop_drop])
    have hUz:=hUz0;replace ej:=H0 ej;replace hba3:=H0 hba3;replace hbs3:=H0 hbs3;replace hbn:=H0 hbn;replace hsn:=H0 hsn;replace hrn:=H0 hrn;clear hown3 hB3 hoV;go_wp2_with fail;have hn:n0+1<=s.size:=hn1;refine (IC (.slice pv wl.length cv) wl (w3.setCell ⟨w.heap.size+1,0,none⟩ (.int .i64 ((n0:Int)+1))) hrdv hwz hwl).mono ?_;have lat:w.heap.size+1<(w3.setCell ⟨w.heap.size+1,0,none⟩ (.int .i64 ((n0:Int)+1))).heap.size:=(Array.getElem?_eq_some_iff.1 hbn.out).1;have lst:w.heap.size<(w3.setCell ⟨w.heap.size+1,0,none⟩ (.int .i64 ((n0:Int)+1))).heap.size:=by omega
    rintro e w6 (⟨hds,rfl,hb6⟩ | ⟨st,wv,hds,rfl,ho6,hb6⟩)
    ·have hnew:Hid (Fe s.toList=l.map GP++Fe (s.toList.drop (n0+1))):=H0 (by
      rw [hrun.out,hstep.out,hone.out];unfold Gc;dsimp only
      rw [hds.out];rfl)
     have hb7:Below (w3.setCell ⟨w.heap.size+1,0,none⟩ (.int .i64 ((n0:Int)+1))).heap.size (w3.setCell ⟨w.heap.size+1,0,none⟩ (.int .i64 ((n0:Int)+1))) (w6.alloc (.cells (Ap e0 Fq d0) 109)):=hb6.alloc hb6.size _;have hbe:FN (w6.alloc (.cells (Ap e0 Fq d0) 109)) (w.heap.size+1) (n0+1):=(hb7.block _ lat).trans hbn.out;have hse:GX (w6.alloc (.cells (Ap e0 Fq d0) 109)) w.heap.size s:=(hb7.block _ lst).trans hsn.out;have hoe:=hownn.below hb7;have hBe:=hBn.trans (hb7.mono (by omega))
     replace hbe:=H0 hbe;replace hse:=H0 hse;clear hb6 hb7;go_wp2_with (refine BX rfl 109 _ _ rfl rfl (Ap e0 Fq d0) 109 _ _ rfl rfl rfl (Cp _ _ _) rfl (Du _ _ _ _ _) ?_);go_roundg (s.size - (n0+1))
     case measure=>have:=hgk.out;omega
     case rel=>exact ⟨(n0+1),l,rfl,hn,by omega,hnew,hsz,hoe,hbe.out,hse.out,hBe⟩
    ·have hnew:Hid (Fe s.toList=(l++[EE.mk U wv wl st]).map GP++Fe (s.toList.drop (n0+1))):=H0 (by
      rw [hrun.out,hstep.out,hone.out];unfold Gc;dsimp only
      rw [hds.out,List.map_append,List.append_assoc];rfl)
     obtain ⟨pb,cb,rfl,-⟩:=ho6.read;have hb7:Below (w3.setCell ⟨w.heap.size+1,0,none⟩ (.int .i64 ((n0:Int)+1))).heap.size (w3.setCell ⟨w.heap.size+1,0,none⟩ (.int .i64 ((n0:Int)+1))) (w6.alloc (.cells (Ap e0 (.slice pb wl.length cb) st) 109)):=hb6.alloc hb6.size _;have hnb:(w6.alloc (.cells (Ap e0 (.slice pb wl.length cb) st) 109)).heap[w6.heap.size]? =some (.cells (Ap e0 (.slice pb wl.length cb) st) 109 (0,0)):=heap_alloc_new _ _;have y0:=cell_of_row _ _ 0 _ _ _ hnb;have f0:=frozen_of_row _ _ 0 _ _ hnb;simp only [Ap,List.getElem?_toArray,List.getElem?_cons_zero,List.getElem?_cons_succ] at y0
     change World.cell? (w6.alloc (.cells (Ap e0 (.slice pb wl.length cb) st) 109)) _=_ at y0
     have hnb2:(w6.alloc (.cells (Ap U (.slice pb wl.length cb) st) 109)).heap[w6.heap.size]? =some (.cells (Ap U (.slice pb wl.length cb) st) 109 (0,0)):=heap_alloc_new _ _;have hkp:∀ k,k<w6.heap.size->(w6.alloc (.cells (Ap U (.slice pb wl.length cb) st) 109)).heap[k]? =w6.heap[k]? :=fun k hk=>heap_alloc_old _ _ hk
     have lsz:=hb6.size;have hbe:FN (w6.alloc (.cells (Ap U (.slice pb wl.length cb) st) 109)) (w.heap.size+1) (n0+1):=(hkp _ (by omega)).trans ((hb6.block _ lat).trans hbn.out)
     have hse:GX (w6.alloc (.cells (Ap U (.slice pb wl.length cb) st) 109)) w.heap.size s:=(hkp _ (by omega)).trans ((hb6.block _ lst).trans hsn.out)
     have hoe:FD (w6.alloc (.cells (Ap U (.slice pb wl.length cb) st) 109)) (w.heap.size+2) _ l:=hownn.chg (fun k _ hk=>(hkp k (by omega)).trans (hb6.block k hk))
     have hwe:AI (w6.alloc (.cells (Ap U (.slice pb wl.length cb) st) 109)) (w.heap.size+2) 9 (.slice pb wl.length cb) wl:=(ho6.chg (fun k _ hk=>hkp k hk)).low (by omega)
     have hBe:Below w.heap.size w (w6.alloc (.cells (Ap U (.slice pb wl.length cb) st) 109)):=(hBn.trans (hb6.mono (by omega))).alloc (by omega) _
     have lse:(w6.alloc (.cells (Ap U (.slice pb wl.length cb) st) 109)).heap.size=w6.heap.size+1:=by simp
     replace hbe:=H0 hbe;replace hse:=H0 hse;replace hnb2:=H0 hnb2;replace hkp:=H0 hkp;replace lse:=H0 lse;clear hb6 hb7 ho6 hnb
     go_wp2_with (first
      | (refine BX rfl 109 _ _ rfl rfl (Ap e0 (.slice pb wl.length cb) st) 109 _ _ rfl rfl rfl (Cp _ _ _) rfl (Du _ _ _ _ _) ?_)
      | (refine wpList_load_row (w:=(w6.alloc (.cells (Ap U (.slice pb wl.length cb) st) 109))) rfl 109 _ rfl w6.heap.size rfl _ (Ap U (.slice pb wl.length cb) st) _ _ hnb2.out underlying109 rfl (Cp _ _ _) ?_)
      | (refine Jw rfl _ rfl U (.slice pb wl.length cb) st rfl ?_)
      | (refine Im rfl _ _ rfl (EE.mk U (.slice pb wl.length cb) wl st) rfl (by rfl) hoe hwe (Below.refl (w.heap.size+2) _) (by rw [lse.out];omega) (by omega) ?_;intro v' w8 hoz hbz))
     have hbz1:FN w8 (w.heap.size+1) (n0+1):=(hbz.block _ (by omega)).trans hbe.out
     have hbz2:GX w8 w.heap.size s:=(hbz.block _ (by omega)).trans hse.out
     have hBz:=hBe.trans (hbz.mono (by omega))
     go_wp2_with fail;go_roundg (s.size - (n0+1))
     case measure=>have:=hgk.out;omega
     case rel=>
      refine ⟨(n0+1),_,rfl,hn,?_,hnew,?_,hoz,hbz1,hbz2,hBz⟩
      ·rw [List.length_append];show l.length+1<=_;omega
      ·intro c hc;rcases List.mem_append.1 hc with hc | hc
       ·exact hsz c hc
       ·rw [List.mem_singleton.1 hc];exact ⟨hUz,hwz,hwl⟩
   ·have hn0I:(s.size:Int)<=(n0:Int):=by omega
    have hone:Hid (LV (s.toList.drop j1)=((U.toList,wl.map (·.toList)),s.toList.drop n0)):=H0 (by
     rw [hU1.out,<-hwl1.out,<-hwl2.out,List.drop_drop,AM s n0 (by omega),AM s (n0+1) (by omega)])
    have hUz:=hUz0;have hrdv:=hoV.read;replace hba3:=H0 hba3;replace hbs3:=H0 hbs3;clear hoV;go_wp2_with fail;have hn:n0<=s.size:=hn0;refine (IC (.slice pv wl.length cv) wl w3 hrdv hwz hwl).mono ?_;have lat:w.heap.size+1<w3.heap.size:=(Array.getElem?_eq_some_iff.1 hba3.out).1;have lst:w.heap.size<w3.heap.size:=by omega
    rintro e w6 (⟨hds,rfl,hb6⟩ | ⟨st,wv,hds,rfl,ho6,hb6⟩)
    ·have hnew:Hid (Fe s.toList=l.map GP++Fe (s.toList.drop n0)):=H0 (by
      rw [hrun.out,hstep.out,hone.out];unfold Gc;dsimp only
      rw [hds.out];rfl)
     have hb7:Below w3.heap.size w3 (w6.alloc (.cells (Ap e0 Fq d0) 109)):=hb6.alloc hb6.size _;have hbe:FN (w6.alloc (.cells (Ap e0 Fq d0) 109)) (w.heap.size+1) n0:=(hb7.block _ lat).trans hba3.out;have hse:GX (w6.alloc (.cells (Ap e0 Fq d0) 109)) w.heap.size s:=(hb7.block _ lst).trans hbs3.out;have hoe:=hown3.below hb7;have hBe:=hB3.trans (hb7.mono (by omega))
     replace hbe:=H0 hbe;replace hse:=H0 hse;clear hb6 hb7;go_wp2_with (refine BX rfl 109 _ _ rfl rfl (Ap e0 Fq d0) 109 _ _ rfl rfl rfl (Cp _ _ _) rfl (Du _ _ _ _ _) ?_);go_roundg (s.size - n0)
     case measure=>have:=hgk.out;omega
     case rel=>exact ⟨n0,l,rfl,hn,by omega,hnew,hsz,hoe,hbe.out,hse.out,hBe⟩
    ·have hnew:Hid (Fe s.toList=(l++[EE.mk U wv wl st]).map GP++Fe (s.toList.drop n0)):=H0 (by
      rw [hrun.out,hstep.out,hone.out];unfold Gc;dsimp only
      rw [hds.out,List.map_append,List.append_assoc];rfl)
     obtain ⟨pb,cb,rfl,-⟩:=ho6.read;have hb7:Below w3.heap.size w3 (w6.alloc (.cells (Ap e0 (.slice pb wl.length cb) st) 109)):=hb6.alloc hb6.size _;have hnb:(w6.alloc (.cells (Ap e0 (.slice pb wl.length cb) st) 109)).heap[w6.heap.size]? =some (.cells (Ap e0 (.slice pb wl.length cb) st) 109 (0,0)):=heap_alloc_new _ _;have y0:=cell_of_row _ _ 0 _ _ _ hnb;have f0:=frozen_of_row _ _ 0 _ _ hnb;simp only [Ap,List.getElem?_toArray,List.getElem?_cons_zero,List.getElem?_cons_succ] at y0
     change World.cell? (w6.alloc (.cells (Ap e0 (.slice pb wl.length cb) st) 109)) _=_ at y0
     have hnb2:(w6.alloc (.cells (Ap U (.slice pb wl.length cb) st) 109)).heap[w6.heap.size]? =some (.cells (Ap U (.slice pb wl.length cb) st) 109 (0,0)):=heap_alloc_new _ _;have hkp:∀ k,k<w6.heap.size->(w6.alloc (.cells (Ap U (.slice pb wl.length cb) st) 109)).heap[k]? =w6.heap[k]? :=fun k hk=>heap_alloc_old _ _ hk
     have lsz:=hb6.size;have hbe:FN (w6.alloc (.cells (Ap U (.slice pb wl.length cb) st) 109)) (w.heap.size+1) n0:=(hkp _ (by omega)).trans ((hb6.block _ lat).trans hba3.out)
     have hse:GX (w6.alloc (.cells (Ap U (.slice pb wl.length cb) st) 109)) w.heap.size s:=(hkp _ (by omega)).trans ((hb6.block _ lst).trans hbs3.out)
     have hoe:FD (w6.alloc (.cells (Ap U (.slice pb wl.length cb) st) 109)) (w.heap.size+2) _ l:=hown3.chg (fun k _ hk=>(hkp k (by omega)).trans (hb6.block k hk))
     have hwe:AI (w6.alloc (.cells (Ap U (.slice pb wl.length cb) st) 109)) (w.heap.size+2) 9 (.slice pb wl.length cb) wl:=(ho6.chg (fun k _ hk=>hkp k hk)).low (by omega)
     have hBe:Below w.heap.size w (w6.alloc (.cells (Ap U (.slice pb wl.length cb) st) 109)):=(hB3.trans (hb6.mono (by omega))).alloc (by omega) _
     have lse:(w6.alloc (.cells (Ap U (.slice pb wl.length cb) st) 109)).heap.size=w6.heap.size+1:=by simp
     replace hbe:=H0 hbe;replace hse:=H0 hse;replace hnb2:=H0 hnb2;replace hkp:=H0 hkp;replace lse:=H0 lse;clear hb6 hb7 ho6 hnb
     go_wp2_with (first
      | (refine BX rfl 109 _ _ rfl rfl (Ap e0 (.slice pb wl.length cb) st) 109 _ _ rfl rfl rfl (Cp _ _ _) rfl (Du _ _ _ _ _) ?_)
      | (refine wpList_load_row (w:=(w6.alloc (.cells (Ap U (.slice pb wl.length cb) st) 109))) rfl 109 _ rfl w6.heap.size rfl _ (Ap U (.slice pb wl.length cb) st) _ _ hnb2.out underlying109 rfl (Cp _ _ _) ?_)
      | (refine Jw rfl _ rfl U (.slice pb wl.length cb) st rfl ?_)
      | (refine Im rfl _ _ rfl (EE.mk U (.slice pb wl.length cb) wl st) rfl (by rfl) hoe hwe (Below.refl (w.heap.size+2) _) (by rw [lse.out];omega) (by omega) ?_;intro v' w8 hoz hbz))
     have hbz1:FN w8 (w.heap.size+1) n0:=(hbz.block _ (by omega)).trans hbe.out
     have hbz2:GX w8 w.heap.size s:=(hbz.block _ (by omega)).trans hse.out
     have hBz:=hBe.trans (hbz.mono (by omega))
     go_wp2_with fail;go_roundg (s.size - n0)
     case measure=>have:=hgk.out;omega
     case rel=>
      refine ⟨n0,_,rfl,hn,?_,hnew,?_,hoz,hbz1,hbz2,hBz⟩
      ·rw [List.length_append];show l.length+1<=_;omega
      ·intro c hc;rcases List.mem_append.1 hc with hc | hc
       ·exact hsz c hc
       ·rw [List.mem_singleton.1 hc];exact ⟨hUz,hwz,hwl⟩
def Agc (w:World) (v:Value) (l:List EE):Prop:=
 ∃ pa c,v= .slice pa l.length c/\(0<l.length->∃ g o,pa=some ⟨g,o,none⟩/\∀ i (h:i<l.length),w.rangeAt g (o+i * 8) (Ha l[i]))/\∀ c∈l,Fg w c.wv c.ws
theorem Fu {w w':World} {g o K:Nat} {cs:List Value} (h:w.rangeAt g o cs) (hb:Below K w w') (hK:w.heap.size<=K):w'.rangeAt g o cs:=fun j v hv=>by
 have:=h j v hv;have hl:=World.block_lt_of_cell? w _ this;exact (hb.cell (by simp at hl⊢;omega)).trans this
theorem Ib (c:EE):(Ha c).length=8:=rfl
theorem AeN:∀ (l:List EE) (i:Nat) (h:i<l.length) (j:Nat),j<8->(l.flatMap Ha)[i * 8+j]? =(Ha l[i])[j]?
 | [],i,h,j,hj=>by simp at h
 | a :: r,0,h,j,hj=>by
  rw [List.flatMap_cons,Nat.zero_mul,Nat.zero_add,List.getElem?_append_left (by rw [Ib];exact hj)];rfl
 | a :: r,i+1,h,j,hj=>by
  rw [List.flatMap_cons,List.getElem?_append_right (by rw [Ib];omega),Ib,show (i+1) * 8+j - 8=i * 8+j by omega]
  exact AeN r i (by simpa using h) j hj
theorem FD.read {w:World} {B:Nat} {v:Value} {l:List EE} (h:FD w B v l):Agc w v l:=by
 obtain ⟨hr,hw⟩:=h;have hr2:=hr;rcases hr.2 with ⟨rfl,hn⟩ | ⟨g,cap,cur,rfl,hg,hh,hcap,hml,hcs,hcur⟩
 ·exact ⟨none,0,by rw [hn],fun h0=>by omega,fun c hc=>(hw c hc).read⟩
 ·refine ⟨_,cap,rfl,fun _=>⟨g,0,rfl,fun i hi j v hv=> ?_⟩,fun c hc=>(hw c hc).read⟩
  have hj:j<8:=by
   have:=(List.getElem?_eq_some_iff.1 hv).1
   rwa [Ib] at this
  have hlt:i * 8+j<l.length * 8:=by omega
  rw [Nat.zero_add];have:=World.ownsRow.cellAt hr2 (i * 8+j) hlt;rw [this,<-hv,<-AeN l i hi j hj]
theorem Wb (p:UInt8->Bool):∀ l,(∀ q∈Ci p l,q.length<=l.length)/\(Ci p l).length<=l.length+1
 | []=>⟨fun q hq=>by rw [Ci,List.mem_singleton] at hq;subst hq;exact Nat.le_refl _,Nat.le_refl _⟩
 | c :: r=>by
  have ih:=Wb p r;rw [Ci];split
  ·refine ⟨fun q hq=> ?_,by simp only [List.length_cons];omega⟩
   rcases List.mem_cons.1 hq with rfl | hq
   ·simp
   ·have:=ih.1 q hq;simp only [List.length_cons];omega
  ·cases hs:Ci p r with
   | nil=>exact absurd hs (Is p r)
   | cons a qs=>
    rw [hs] at ih;refine ⟨fun q hq=> ?_,by have:=ih.2;simp only [List.length_cons] at this⊢;omega⟩
    rcases List.mem_cons.1 hq with rfl | hq
    ·have:=ih.1 a (List.mem_cons_self ..);simp only [List.length_cons];omega
    ·have:=ih.1 q (List.mem_cons_of_mem _ hq);simp only [List.length_cons];omega
theorem VD:([⟨#[]⟩]:List ByteArray).map (·.toList)=[[]]:=by
 rw [List.map_cons,List.map_nil]
 exact congrArg (· :: []) (toList_mk [])
theorem Yb {l:List UInt8} (h:BT l=true):l.length=2:=by
 unfold BT at h;split at h
 ·rfl
 ·cases h
theorem Bm (sch:ByteArray) (pa:Option Addr) (n c:Nat) (l:List ByteArray) (s:ByteArray) (w:World) (hp:DJ w pa n c l) (hn:n<=1000000) (hz:s.size<=1100000) (hl:∀ t∈l,t.size<=4294967296):
  Calls prog 211 #[.string sch,.slice pa n c,.string s] w (Ol (Dl sch.toList (l.map (·.toList)) s.toList) w):=by
 obtain ⟨R,hR⟩:∃ R,Dl sch.toList (l.map (·.toList)) s.toList=R:=⟨_,rfl⟩
 rw [hR];unfold Dl at hR;have hln:=hp.len;have hp':=H0 hp;clear hp;have hspc:=H0 (DN sch);obtain ⟨SP,hSP⟩:=N2 (Aj sch.toList);rw [hSP] at hspc hR;replace hSP:=H0 hSP;have hspl:=H0 (fun w=>Sw s SP w (by omega))
 have hpl:=Wb (AB SP) s.toList;obtain ⟨P,hP⟩:=N2 (Ci (AB SP) s.toList);rw [hP] at hspl hpl hR;replace hP:=H0 hP;replace hR:=H0 hR;rw [Aa] at hpl;obtain ⟨hpl1,hpl2⟩:=hpl;replace hpl1:=H0 hpl1;replace hl:=H0 hl;go_enter func211,ntmps211;go_wp2_with fail;refine (hspc.out _).mono ?_;rintro e w0 ⟨rfl,rfl⟩;go_wp2_with fail;refine (hspl.out _).mono ?_;rintro e w1 ⟨v1,ps,rfl,hps,hown1,hb1⟩;obtain ⟨a1,c1,rfl,hrd⟩:=hown1.read;have hrd1:Fg w1 (.slice a1 ps.length c1) ps:=⟨a1,c1,rfl,hrd⟩;have hs1:=hb1.size;have hcl:=H0 (GM pa n c l w1 (hp'.out.below hb1 (Nat.le_refl _)) (by omega))
 go_wp2_with fail;refine hcl.out.mono ?_;rintro e w2 ⟨v2,rfl,hown2,hb2⟩;obtain ⟨n2,hn2⟩:=N2 (ps.length);have hPl:P.length=n2:=by rw [<-hps.out,List.length_map,hn2]
 have hn2b:n2<=1100001:=by omega
 rw [hn2] at hrd1⊢;replace hrd1:=H0 hrd1;clear hrd hown1 hcl;go_wp2_with fail
 go_loopw [8,20] (fun v8 v20 wr=>∃ (k:Nat) (out:List ByteArray),v20= .int .i64 (k:Int)/\k<=n2/\AI wr w1.heap.size 9 v8 out/\Below w1.heap.size w1 wr/\Hid (Dn sch.toList (out.map (·.toList)) (P.drop k)=R)/\out.length<=n+k/\Hid (∀ t∈out,t.size<=4294967296)) (fun _ v20 _=>n2 - (intOf v20).toNat)
 case atStart=>exact ⟨0,l,rfl,Nat.zero_le _,hown2,hb2,H0 (by rw [List.drop_zero];exact hR.out),by omega,hl⟩
 case round=>
  clear hown2 hb2;obtain ⟨k,out,rfl,hk,hown,hbel,hg,hol,hoz⟩:=hrel;have hszw:=hbel.size
  by_cases hlt:k<n2
  ·have hI:(k:Int)<(n2:Int):=by omega
   have hkP:k<P.length:=by omega
   have hkp:k<ps.length:=by omega
   have hrd2:=hrd1.out.below hbel (Nat.le_refl _);obtain ⟨a2,c2,hve,hcell⟩:=hrd2;obtain ⟨g',o',e1,hcc⟩:=hcell (by omega)
   have e2:a1=a2:=by simpa using congrArg (fun v=>match v with | Value.slice a _ _=>a | _=>none) hve
   subst e2;subst e1;clear hve hcell;have ck:=hcc k hkp
   have hpk:ps[k].toList=P[k]:=by
    have h1:(ps.map (·.toList))[k]? =some ps[k].toList:=by rw [List.getElem?_map,List.getElem?_eq_getElem hkp];rfl
    rw [hps.out,List.getElem?_eq_getElem hkP] at h1;exact (Option.some.inj h1).symm
   have hgs:=hg.out;rw [Adi hkP,<-hpk] at hgs
   have htz:ps[k].size<=1100000:=by
    rw [<-Aa,hpk];have:=hpl1.out P[k] (List.getElem_mem hkP);omega
   obtain ⟨t,ht⟩:=N2 (ps[k]);rw [ht] at ck hgs htz;replace ht:=H0 ht;replace hpk:=H0 hpk;replace hcc:=H0 hcc
   have hLB:((k:Int)==(n2:Int) - 1)=decide (k+1=P.length):=by
    rw [hPl]
    by_cases h:k+1=n2
    ·rw [decide_eq_true h,beq_iff_eq];omega
    ·rw [decide_eq_false h,beq_eq_false_iff_ne];omega
   obtain ⟨LB,hLBe⟩:∃ b,decide (k+1=P.length)=b:=⟨_,rfl⟩;rw [hLBe] at hLB hgs;replace hLBe:=H0 hLBe;have hdd:=H0 (fun w=>Ac7 t w (by omega))
   have hdo:=H0 (fun w=>YH t w (by omega))
   have hdr:=H0 (fun w=>Ko t w (by omega))
   have hup:=H0 (fun v w own=>AfF sch v w1.heap.size out w own (by omega) hoz.out)
   have hen:=H0 (fun w=>DR t 4 (by decide) w (by omega))
   obtain ⟨a8,c8,rfl,_⟩:=hown.read;unfold CC at hgs;have hdr2:=H0 (fun h=>Yb (l:=t.toList) h)
   obtain ⟨D1,hD1⟩:∃ b,IK t.toList=b:=⟨_,rfl⟩;obtain ⟨D2,hD2⟩:∃ b,K3 t.toList=b:=⟨_,rfl⟩;obtain ⟨V,hV⟩:∃ b,BT t.toList=b:=⟨_,rfl⟩;rw [hD1] at hdd hgs;rw [hD2] at hdo hgs;rw [hV] at hdr hgs hdr2;replace hD1:=H0 hD1;replace hD2:=H0 hD2;replace hV:=H0 hV
   have hszp:∀ (x:ByteArray),x.size<=4294967296->∀ out':List ByteArray,(∀ t∈out',t.size<=4294967296)->∀ t∈out'++[x],t.size<=4294967296:=fun x hx out' h t ht=>by
    rcases List.mem_append.1 ht with ht | ht
    ·exact h t ht
    ·rw [List.mem_singleton.1 ht];exact hx
   replace hszp:=H0 hszp
   cases D1 with
   | true=>
    rw [if_pos rfl] at hgs;go_wp2_with fail;refine (hdd.out _).mono ?_;rintro e w3 ⟨rfl,hb3⟩;have hown3:AI w3 w1.heap.size 9 (.slice a8 out.length c8) out:=Bp hown hb3 (Nat.le_refl _);have hbel3:=hbel.trans (hb3.mono hszw);have hs3:=hbel3.size;have hup3:=H0 (hup.out _ w3 hown3);go_wp2_with fail;refine hup3.out.mono ?_;rintro e w4 ⟨v',l',rfl,hul,hown4,hpre,rfl⟩
    have hll:l'.length<=out.length:=by
     rcases hpre.out with e | e
     ·rw [e];exact Nat.le_refl _
     ·rw [e,List.length_dropLast];omega
    have hlz:Hid (∀ t∈l',t.size<=4294967296):=H0 (fun t ht=>hoz.out t (by
     rcases hpre.out with e | e
     ·rw [e] at ht;exact ht
     ·rw [e] at ht;exact (List.dropLast_sublist out).subset ht))
    cases LB with
    | true=>
     have hf:Hid (Dn sch.toList ((l'++[⟨#[]⟩]:List ByteArray).map (·.toList)) (P.drop (k+1))=R):=H0 (by
      rw [<-hgs,if_pos rfl,List.map_append,hul.out,VD])
     replace hgs:=H0 hgs;go_wp2_with (at_builtin;refine BO He rfl _ _ rfl rfl rfl hown4 hbel3 hs3 (by unfold maxLen;omega) (by omega) ?_;intro v' w' ho' hb' _)
     go_roundw
     case rel=>exact ⟨k+1,l'++[⟨#[]⟩],by go_num,by omega,ho',hb',hf,by simp;omega,H0 (hszp.out ⟨#[]⟩ (by decide) l' hlz.out)⟩
     case measure=>simp [intOf];omega
    | false=>
     have hf:Hid (Dn sch.toList (l'.map (·.toList)) (P.drop (k+1))=R):=H0 (by
      rw [<-hgs,if_neg (by decide),hul.out])
     replace hgs:=H0 hgs;go_wp2_with fail;go_roundw
     case rel=>exact ⟨k+1,l',by go_num,by omega,hown4,hbel3,hf,by omega,hlz⟩
     case measure=>simp [intOf];omega
   | false=>
    rw [if_neg (by decide)] at hgs
    cases D2 with
    | true=>
     rw [if_pos rfl] at hgs;go_wp2_with fail;refine (hdd.out _).mono ?_;rintro e w3 ⟨rfl,hb3⟩;have hbel3:=hbel.trans (hb3.mono hszw);have hs3:=hbel3.size;have hown3:AI w3 w1.heap.size 9 (.slice a8 out.length c8) out:=Bp hown hb3 (Nat.le_refl _);go_wp2_with fail;refine (hdo.out _).mono ?_;rintro e w4 ⟨rfl,hb4⟩;have hbel4:=hbel3.trans (hb4.mono hs3);have hs4:=hbel4.size;have hown4:AI w4 w1.heap.size 9 (.slice a8 out.length c8) out:=Bp hown3 hb4 (Nat.le_refl _)
     cases LB with
     | true=>
      have hf:Hid (Dn sch.toList ((out++[⟨#[]⟩]:List ByteArray).map (·.toList)) (P.drop (k+1))=R):=H0 (by
       rw [<-hgs,if_pos rfl,List.map_append,VD])
      replace hgs:=H0 hgs;go_wp2_with (at_builtin;refine BO He rfl _ _ rfl rfl rfl hown4 hbel4 hs4 (by unfold maxLen;omega) (by omega) ?_;intro v' w' ho' hb' _)
      go_roundw
      case rel=>exact ⟨k+1,out++[⟨#[]⟩],by go_num,by omega,ho',hb',hf,by simp;omega,H0 (hszp.out ⟨#[]⟩ (by decide) out hoz.out)⟩
      case measure=>simp [intOf];omega
     | false=>
      have hf:Hid (Dn sch.toList (out.map (·.toList)) (P.drop (k+1))=R):=H0 (by
       rw [<-hgs,if_neg (by decide)])
      replace hgs:=H0 hgs;go_wp2_with fail;go_roundw
      case rel=>exact ⟨k+1,out,by go_num,by omega,hown4,hbel4,hf,by omega,hoz⟩
      case measure=>simp [intOf];omega
    | false=>
     rw [if_neg (by decide)] at hgs
     go_wp2_with fail;refine (hdd.out _).mono ?_;rintro e w3 ⟨rfl,hb3⟩;have hbel3:=hbel.trans (hb3.mono hszw);have hs3:=hbel3.size;have hown3:AI w3 w1.heap.size 9 (.slice a8 out.length c8) out:=Bp hown hb3 (Nat.le_refl _);go_wp2_with fail;refine (hdo.out _).mono ?_;rintro e w4 ⟨rfl,hb4⟩;have hbel4:=hbel3.trans (hb4.mono hs3);have hs4:=hbel4.size;have hown4:AI w4 w1.heap.size 9 (.slice a8 out.length c8) out:=Bp hown3 hb4 (Nat.le_refl _);obtain ⟨F,hF⟩:∃ b,(sch.toList==[102,105,108,101])=b:=⟨_,rfl⟩;have hF2:(sch.toList==Aw)=F:=hF;rw [hF2] at hgs;replace hF2:=H0 hF2
     cases F with
     | false=>
      have hf0:Dn sch.toList (out.map (·.toList)++[A1 4 t.toList]) (P.drop (k+1))=R:=by
       rw [<-hgs,if_neg (by simp)]
      replace hgs:=H0 hgs;replace hf0:=H0 hf0;go_wp2_with (go_at_call 265;refine (hdr.out _).mono ?_;rintro e w' ⟨rfl,rfl⟩);refine (hen.out _).mono ?_;rintro e w5 ⟨t2,rfl,ht2,hb5⟩;have hbel5:=hbel4.trans (hb5.mono hs4);have hs5:=hbel5.size;have hown5:AI w5 w1.heap.size 9 (.slice a8 out.length c8) out:=Bp hown4 hb5 (Nat.le_refl _)
      have htz2:t2.size<=4294967296:=by
       rw [<-Aa,ht2.out];have:=CW 4 t.toList;rw [Aa] at this;omega
      have hf:Hid (Dn sch.toList ((out++[t2]).map (·.toList)) (P.drop (k+1))=R):=H0 (by
       rw [<-hf0.out,List.map_append,<-ht2.out];rfl)
      go_wp2_with (at_builtin;refine BO He rfl _ _ rfl rfl rfl hown5 hbel5 hs5 (by unfold maxLen;omega) (by omega) ?_;intro v' w' ho' hb' _)
      go_roundw
      case rel=>exact ⟨k+1,out++[t2],by go_num,by omega,ho',hb',hf,by simp;omega,H0 (hszp.out t2 htz2 out hoz.out)⟩
      case measure=>simp [intOf];omega
     | true=>
      by_cases hol0:out.length=0
      ·have hoe:out=[]:=List.eq_nil_of_length_eq_zero hol0;subst hoe;replace hol0:=H0 hol0
       cases V with
       | false=>
        have hf0:Dn sch.toList (([]:List ByteArray).map (·.toList)++[A1 4 t.toList]) (P.drop (k+1))=R:=by
         rw [<-hgs,if_neg (by simp)]
        replace hgs:=H0 hgs;replace hf0:=H0 hf0;go_wp2_with (go_at_call 265;refine (hdr.out _).mono ?_;rintro e w' ⟨rfl,rfl⟩);refine (hen.out _).mono ?_;rintro e w5 ⟨t2,rfl,ht2,hb5⟩;have hbel5:=hbel4.trans (hb5.mono hs4);have hs5:=hbel5.size;have hown5:AI w5 w1.heap.size 9 (.slice a8 0 c8) []:=Bp hown4 hb5 (Nat.le_refl _)
        have htz2:t2.size<=4294967296:=by
         rw [<-Aa,ht2.out];have:=CW 4 t.toList;rw [Aa] at this;omega
        have hf:Hid (Dn sch.toList ((([]:List ByteArray)++[t2]).map (·.toList)) (P.drop (k+1))=R):=H0 (by
         rw [<-hf0.out,List.map_append,<-ht2.out];rfl)
        go_wp2_with (at_builtin;refine BO He rfl _ _ rfl rfl rfl hown5 hbel5 hs5 (by unfold maxLen;omega) (by omega) ?_;intro v' w' ho' hb' _)
        go_roundw
        case rel=>exact ⟨k+1,([]:List ByteArray)++[t2],by go_num,by omega,ho',hb',hf,by simp;omega,H0 (hszp.out t2 htz2 [] hoz.out)⟩
        case measure=>simp [intOf];omega
       | true=>
        have ht2z:t.size=2:=by rw [<-Aa];exact hdr2.out rfl
        have htI:(1:Int)<=(t.size:Int):=by omega
        have hxz:(t.extract 0 1).size=1:=by rw [ByteArray.size_extract];omega
        have hf:Hid (Dn sch.toList (([]++[t.extract 0 1++⟨#[58]⟩]:List ByteArray).map (·.toList)) (P.drop (k+1))=R):=H0 (by
         rw [<-hgs,if_pos (by simp)]
         show Dn _ [(t.extract 0 1++⟨#[58]⟩).toList] _=_
         rw [toList_append,toList_extract,List.drop_zero,show (ByteArray.mk #[58]).toList=[58] from toList_mk [58]];rfl)
        replace hgs:=H0 hgs
        have hcz:(t.extract 0 1++⟨#[58]⟩:ByteArray).size<=4294967296:=by
         rw [ByteArray.size_append,hxz];decide
        go_wp2_with (first | (go_at_call 265;refine (hdr.out _).mono ?_;rintro e w' ⟨rfl,rfl⟩) | (at_builtin;refine BO He rfl _ _ rfl rfl rfl hown4 hbel4 hs4 (by unfold maxLen;omega) (by omega) ?_;intro v' w' ho' hb' _))
        go_roundw
        case rel=>exact ⟨k+1,[]++[t.extract 0 1++⟨#[58]⟩],by go_num,by omega,ho',hb',hf,by simp;omega,H0 (hszp.out _ hcz [] (fun t h=>by cases h))⟩
        case measure=>simp [intOf];omega
      ·have hoI:((out.length:Int)==0)=false:=by rw [beq_eq_false_iff_ne];omega
       have hoI2:¬ (out.length=0):=hol0
       have hie:(out.map (·.toList)).isEmpty=false:=by
        cases out with
        | nil=>exact absurd rfl hol0
        | cons a r=>rfl
       rw [hie] at hgs;replace hie:=H0 hie;replace hol0:=H0 hol0
       have hf0:Dn sch.toList (out.map (·.toList)++[A1 4 t.toList]) (P.drop (k+1))=R:=by
        rw [<-hgs,if_neg (by simp)]
       replace hgs:=H0 hgs;replace hf0:=H0 hf0;go_wp2_with (go_at_call 265;refine (hdr.out _).mono ?_;rintro e w' ⟨rfl,rfl⟩);refine (hen.out _).mono ?_;rintro e w5 ⟨t2,rfl,ht2,hb5⟩;have hbel5:=hbel4.trans (hb5.mono hs4);have hs5:=hbel5.size;have hown5:AI w5 w1.heap.size 9 (.slice a8 out.length c8) out:=Bp hown4 hb5 (Nat.le_refl _)
       have htz2:t2.size<=4294967296:=by
        rw [<-Aa,ht2.out];have:=CW 4 t.toList;rw [Aa] at this;omega
       have hf:Hid (Dn sch.toList ((out++[t2]).map (·.toList)) (P.drop (k+1))=R):=H0 (by
        rw [<-hf0.out,List.map_append,<-ht2.out];rfl)
       go_wp2_with (at_builtin;refine BO He rfl _ _ rfl rfl rfl hown5 hbel5 hs5 (by unfold maxLen;omega) (by omega) ?_;intro v' w' ho' hb' _)
       go_roundw
       case rel=>exact ⟨k+1,out++[t2],by go_num,by omega,ho',hb',hf,by simp;omega,H0 (hszp.out t2 htz2 out hoz.out)⟩
       case measure=>simp [intOf];omega
  ·have hI:(n2:Int)<=(k:Int):=by omega
   have hf:Hid (out.map (·.toList)=R):=H0 (by rw [<-hg.out,List.drop_of_length_le (by omega)];rfl)
   go_wp2_with fail;go_ret;exact ⟨_,out,rfl,hf,Dv hown hs1,hb1.trans (hbel.mono hs1)⟩
end Go.Proofs.YtonomfeipkdmhaaGreatDoor
