/- Part 10: lemmas. -/
import Derived.Test.YtonomfeipkdmhaaGreatDoorK09
import Derived.Shelf.SlicesQ.IndexFunc
import Derived.Shelf.Spec.DecodeRune
import Derived.Shelf.Spec.SlicesInsert
import Derived.Shelf.Spec.SlicesInsertGrow
set_option linter.unusedVariables false
set_option linter.unusedSimpArgs false
set_option maxRecDepth 100000
set_option maxHeartbeats 16000000
namespace Go.Proofs.YtonomfeipkdmhaaGreatDoor
open Go.RowKit
def F3 (n:Nat):Value:= .int .i64 (n:Int)
def Ei (w:World) (B:Nat) (v:Value) (l:List Nat):Prop:=w.ownsRow B 3 1 v l.length (l.map F3)
theorem Ei.nil (w:World) (B:Nat):Ei w B (.slice none 0 0) []:=World.ownsRow_nil _ _ _ _
theorem Af2:E1 Tryz.prog 150 3 (.int .i64 0) 8:=E1.mk' Tryz.underlying150 (by kernel_rfl) rfl
theorem Ei.below {w w':World} {B K:Nat} {v:Value} {l:List Nat} (h:Ei w B v l) (hb:Below K w w') (hK:w.heap.size<=K):Ei w' B v l:=Bp h hb hK
theorem Ei.mono {w:World} {B C:Nat} {v:Value} {l:List Nat} (h:Ei w B v l) (hC:C<=B):Ei w C v l:=by
 refine ⟨h.1,?_⟩
 rcases h.2 with hn | ⟨g,cap,cur,rfl,hg,rest⟩
 ·exact .inl hn
 ·exact .inr ⟨g,cap,cur,rfl,by omega,rest⟩
structure Vq (w:World) (pa:Option Addr) (n c:Nat) (l:List Nat):Prop where
 len:l.length=n
 cap:n<=c
 cells:0<n->∃ g o,pa=some ⟨g,o,none⟩/\∀ i (h:i<l.length),w.cell? ⟨g,o+i,none⟩=some (F3 l[i])
theorem Ei.read {w:World} {B:Nat} {v:Value} {l:List Nat} (h:Ei w B v l):∃ pa c,v= .slice pa l.length c/\Vq w pa l.length c l:=by
 rcases h.2 with ⟨rfl,hn⟩ | ⟨g,cap,cur,rfl,hg,hh,hcap,hml,hcs,hcur⟩
 ·exact ⟨none,0,by rw [hn],rfl,by omega,fun h0=>by omega⟩
 ·refine ⟨_,cap,rfl,rfl,hcap,fun _=>⟨g,0,rfl,fun i hi=> ?_⟩⟩
  have:=World.ownsRow.cellAt h i (by omega)
  rw [Nat.zero_add,this];simp [hi]
theorem Vq.below {w w':World} {K:Nat} {pa:Option Addr} {n c:Nat} {l:List Nat} (h:Vq w pa n c l) (hb:Below K w w') (hK:w.heap.size<=K):Vq w' pa n c l:=by
 refine ⟨h.len,h.cap,fun h0=> ?_⟩
 obtain ⟨g,o,e,hc⟩:=h.cells h0
 refine ⟨g,o,e,fun i hi=> ?_⟩
 have:=World.block_lt_of_cell? w _ (hc i hi)
 rw [hb.cell (by simp at this⊢;omega)]
 exact hc i hi
theorem LI {ops:Array Oper} {rest:List Oper} {o:Oper} {a:Act} {Q:Exit->Act->World->Prop}
  (hgd:o.guard=none) (s x:Operand) (ho:o.op= .call { callee:= .builtin .append,args:= #[s,x],argTypes:= #[150,150] })
  {W0 w0:World} {B:Nat} {v:Value} {l:List Nat} {n:Int} (c:Nat) (hs:a.eval s=v) (hx:a.eval x= .slice (some ⟨w0.heap.size,0,none⟩) 1 1)
  (hown:Ei w0 B v l) (hbel:Below B W0 w0) (hB:B<=w0.heap.size) (hc:n=(c:Int)) (h63:l.length<=1000000000)
  (h:∀ v' w',Ei w' B v' (l++[c])->Below B W0 w'->(v'= .slice none 0 0->False)->wpList Tryz.prog ops Q rest (a.put o.dst v') w'):
  wpList Tryz.prog ops Q (o :: rest) a (w0.alloc (.cells #[.int .i64 n] 3)):=by
 subst hc
 refine Jk Af2 hgd s x ho (xs:=l.map F3) (v:=v) rfl hs hx (by simpa [Ei] using hown) hbel hB (by unfold maxLen;simp;omega) (by simp;omega) ?_
 intro v' w' h1 h2 h3;refine h v' w' ?_ h2 h3;simpa [Ei,F3] using h1
theorem Yh {w:World} {B k:Nat} {v:Value} {l:List Nat} (h:Ei w B v l) (hk:k<B) (s:ByteArray) (p:Nat):Ei (w.iterAt k s p) B v l:=by
 refine ⟨h.1,?_⟩
 rcases h.2 with hn | ⟨g,cap,cur,rfl,hg,hh,rest⟩
 ·exact .inl hn
 ·refine .inr ⟨g,cap,cur,rfl,hg,?_,rest⟩;simp only [World.iterAt]
  rw [Array.getElem?_setIfInBounds_ne (by omega)]
  exact hh
def Ad8 (l:List Nat) (w:World) (e:Ending) (w':World):Prop:=∃ v:Value,e= .returned v/\Ei w' w.heap.size v l/\Below w.heap.size w w'
def SF:Array Value:= #[.int .i64 0,.int .i64 0x7f,.int .i64 0xdf,.int .i64 0xf6,.int .i64 0xf8,.int .i64 0xff,.int .i64 0x101,.int .i64 0x12f,.int .i64 0x300,.int .i64 0x36f,.int .i64 0x3b1,.int .i64 0x3c9,.int .i64 0x430,.int .i64 0x45f,.int .i64 0x3041,.int .i64 0x3096,.int .i64 0x30a1,.int .i64 0x30fa,.int .i64 0x4e00,.int .i64 0x9fff,.int .i64 0xac00,.int .i64 0xd7a3,.int .i64 0x1f300,.int .i64 0x1f5ff]
def KA (k:Nat):Nat:=(HR.getD k (0,0)).1
def KL (k:Nat):Nat:=(HR.getD k (0,0)).2
theorem Aav (w:World):∀ k:Nat,k<12->(Instr.index 267 (.agg SF) (.int .i64 (k:Int))).run Tryz.prog w= .ok (.agg #[.int .i64 (KA k:Int),.int .i64 (KL k:Int)]) w
 | 0,_=>by kernel_rfl
 | 1,_=>by kernel_rfl
 | 2,_=>by kernel_rfl
 | 3,_=>by kernel_rfl
 | 4,_=>by kernel_rfl
 | 5,_=>by kernel_rfl
 | 6,_=>by kernel_rfl
 | 7,_=>by kernel_rfl
 | 8,_=>by kernel_rfl
 | 9,_=>by kernel_rfl
 | 10,_=>by kernel_rfl
 | 11,_=>by kernel_rfl
 | n+12,h=>by omega
theorem Y4:(Tryz.prog.info? 267).map (·.size)=some 24:=by kernel_rfl
theorem AaP {c k:Nat} (hk:k<12) (h:D9 c (KA k) (KL k)=true):Ic c=true:=by
 unfold Ic;rw [List.any_eq_true];have hl:k<HR.length:=hk;refine ⟨HR[k],List.getElem_mem hl,?_⟩;unfold KA KL at h;rw [List.getD_eq_getElem?_getD,List.getElem?_eq_getElem hl] at h;exact h
theorem Ac2 {c:Nat} (h:∀ k,k<12->D9 c (KA k) (KL k)=false):Ic c=false:=by
 unfold Ic;rw [List.any_eq_false];intro r hr;obtain ⟨k,hk,rfl⟩:=List.getElem_of_mem hr;have:=h k hk;unfold KA KL at this;rw [List.getD_eq_getElem?_getD,List.getElem?_eq_getElem hk] at this;rw [show D9 c HR[k].1 HR[k].2=false from this];decide
theorem ZB (c:Nat) (w:World):Calls Tryz.prog 349 #[.int .i64 (c:Int)] w fun e w'=>e= .returned (.bool (Ic c))/\Below w.heap.size w w':=by
 obtain ⟨R,hR⟩:=N2 (Ic c);rw [hR];replace hR:=H0 hR;go_enter Tryz.func349,Tryz.ntmps349
 go_wp2_with (first
  | (refine Ag rfl 267 _ _ rfl rfl SF _ _ _ rfl (by simp) rfl Y4 rfl (by kernel_rfl) ?_)
  | (refine wpList_load_row rfl 267 _ rfl w.heap.size rfl _ SF _ _ (heap_alloc_new w _) Tryz.underlying267 rfl Y4 ?_))
 have hbw:Below w.heap.size w (w.alloc (.cells SF 267)):=(Below.refl _ _).alloc (Nat.le_refl _) _
 go_loopw [20] (fun v wr=>∃ k:Nat,v= .int .i64 k/\k<=12/\Below w.heap.size w wr/\Hid (∀ j,j<k->D9 c (KA j) (KL j)=false)) (fun v _=>12 - (intOf v).toNat)
 case atStart=>exact ⟨0,rfl,by omega,hbw,H0 (fun j hj=>absurd hj (Nat.not_lt_zero _))⟩
 case round=>
  clear hbw;obtain ⟨k,rfl,hk,hbel,hno⟩:=hrel;have hsz:=hbel.size
  by_cases hlt:k<12
  ·have hltI:(k:Int)<12:=by omega
   have hix:=fun w=>Aav w k hlt
   have hz:=DA c (KA k) (KL k);obtain ⟨q,hq⟩:=N2 (D9 c (KA k) (KL k));rw [hq] at hz;have hyes:=H0 (AaP (c:=c) hlt);replace hq:=H0 hq;obtain ⟨lo,hlo⟩:∃ x,KA k=x:=⟨_,rfl⟩;obtain ⟨hi,hhi⟩:∃ x,KL k=x:=⟨_,rfl⟩;rw [hlo,hhi] at hix hz;replace hlo:=H0 hlo;replace hhi:=H0 hhi;cases q
   ·have hne:Hid (∀ j,j<k+1->D9 c (KA j) (KL j)=false):=H0 (fun j hj=>by
     by_cases e:j=k
     ·subst e;exact hq.out
     ·exact hno.out j (by omega))
    go_wp2_with (go_at_call 357;refine (Cr _ _ _ _).mono ?_;rintro e w' ⟨rfl,rfl⟩);go_roundw
    case rel=>exact ⟨k+1,by go_num,by omega,hbel.alloc hsz _,hne⟩
    case measure=>simp [intOf];omega
   ·have hfin:Hid (R=true):=H0 (hR.out.symm.trans (hyes.out hq.out));go_wp2_with (go_at_call 357;refine (Cr _ _ _ _).mono ?_;rintro e w' ⟨rfl,rfl⟩);go_ret
    exact ⟨by rw [hfin.out];rfl,hbel.alloc hsz _⟩
  ·have hltI:(12:Int)<=(k:Int):=by omega
   have hfin:Hid (R=false):=H0 (hR.out.symm.trans (Ac2 (fun j hj=>hno.out j (by omega))))
   go_wp2_with fail;go_ret
   exact ⟨by rw [hfin.out];rfl,hbel⟩
def AbF (m:List UInt8 × Nat) (w:World) (e:Ending) (w':World):Prop:=∃ t:ByteArray,e= .returned (.tuple #[.string t,.int .i64 (m.2:Int)])/\Hid (t.toList=m.1)/\Below w.heap.size w w'
theorem J6 {m:List UInt8 × Nat} {l:List UInt8} {n:Nat} {t:ByteArray} {w w':World} (h:m=(l,n)) (ht:t.toList=l) (hb:Below w.heap.size w w'):AbF m w (.returned (.tuple #[.string t,.int .i64 (n:Int)])) w':=by
 subst h;exact ⟨t,rfl,H0 ht,hb⟩
theorem YC (c:Nat) (w:World) (hc:c<=1114111):Calls Tryz.prog 338 #[.int .i64 (c:Int)] w (AbF (Fc c) w):=by
 obtain ⟨R,hR⟩:=N2 (Fc c);rw [hR]
 have hv:R=if E2 c≠[] then (E2 c,2) else if Wk c=true then ([],3) else if Ic c=true then (Bj c,1) else ([],0):=hR.symm
 replace hR:=H0 hR
 have hot:=H0 (fun w=>Z2 c w hc)
 have hgo:=Ac3 c;have hva:=ZB c
 have hsi:=H0 (JI c (by omega))
 obtain ⟨O,hO⟩:=N2 (E2 c);obtain ⟨G,hG⟩:=N2 (Wk c);obtain ⟨V,hV⟩:=N2 (Ic c);rw [hO] at hv hot;rw [hG] at hv hgo;rw [hV] at hv hva;replace hgo:=H0 hgo;replace hva:=H0 hva;replace hO:=H0 hO;replace hG:=H0 hG;replace hV:=H0 hV
 cases O with
 | cons x r=>
  have hf:Hid (R=(x :: r,2)):=H0 (hv.trans (if_pos (by simp)))
  replace hv:=H0 hv;go_enter Tryz.func338,Tryz.ntmps338;go_wp2_with fail;refine (hot.out _).mono ?_;rintro e w1 ⟨t,rfl,ht,rfl⟩
  have hem:t.toList.isEmpty=false:=by rw [ht.out];rfl
  go_wp2_with fail;go_ret2;exact J6 hf.out ht.out (Below.refl _ _)
 | nil=>
  rw [if_neg (by simp)] at hv
  cases G with
  | true=>
   have hf:Hid (R=([],3)):=H0 (hv.trans (if_pos rfl));replace hv:=H0 hv;go_enter Tryz.func338,Tryz.ntmps338;go_wp2_with fail;refine (hot.out _).mono ?_;rintro e w1 ⟨t,rfl,ht,rfl⟩
   have hem:t.toList.isEmpty=true:=by rw [ht.out];rfl
   go_wp2_with fail;refine (hgo.out _).mono ?_;rintro e w2 ⟨rfl,rfl⟩;go_wp2_with fail;go_ret2;exact J6 hf.out (toList_mk []) (Below.refl _ _)
  | false=>
   rw [if_neg (by decide)] at hv
   cases V with
   | true=>
    have hf:Hid (R=(Bj c,1)):=H0 (hv.trans (if_pos rfl));replace hv:=H0 hv;go_enter Tryz.func338,Tryz.ntmps338;go_wp2_with fail;refine (hot.out _).mono ?_;rintro e w1 ⟨t,rfl,ht,rfl⟩
    have hem:t.toList.isEmpty=true:=by rw [ht.out];rfl
    go_wp2_with fail;refine (hgo.out _).mono ?_;rintro e w2 ⟨rfl,rfl⟩;go_wp2_with fail;refine (hva.out _).mono ?_;rintro e w3 ⟨rfl,hb3⟩;go_wp2_with fail;refine (hsi.out _).mono ?_;rintro e w4 ⟨t2,rfl,ht2,rfl⟩;go_wp2_with fail;go_ret2;exact J6 hf.out ht2.out hb3
   | false=>
    have hf:Hid (R=([],0)):=H0 (hv.trans (if_neg (by decide)))
    replace hv:=H0 hv;go_enter Tryz.func338,Tryz.ntmps338;go_wp2_with fail;refine (hot.out _).mono ?_;rintro e w1 ⟨t,rfl,ht,rfl⟩
    have hem:t.toList.isEmpty=true:=by rw [ht.out];rfl
    go_wp2_with fail;refine (hgo.out _).mono ?_;rintro e w2 ⟨rfl,rfl⟩;go_wp2_with fail;refine (hva.out _).mono ?_;rintro e w3 ⟨rfl,hb3⟩;go_wp2_with fail;go_ret2;exact J6 hf.out (toList_mk []) hb3
theorem VT {l:List Nat} {c:Nat} (h:l≠[]) (hc:l.headD 0=c):Hl l=(!D9 c 0x300 0x36f && l.all GD && l.any fun c=>decide (0x7f<c)):=by
 cases l with
 | nil=>exact absurd rfl h
 | cons a r=>rw [<-hc];rfl
theorem Acy (l:List Nat) (p:Nat->Bool) (k:Nat) (h:k<l.length):(l.take (k+1)).any p=((l.take k).any p || p l[k]):=by
 rw [List.take_succ_eq_append_getElem h,List.any_append];simp
theorem Afa {l:List Nat} {p:Nat->Bool} {k:Nat} (h:k<l.length) (hp:p l[k]=false):l.all p=false:=by
 rw [List.all_eq_false]
 exact ⟨l[k],List.getElem_mem h,by rw [hp];decide⟩
theorem RM (pa:Option Addr) (n c:Nat) (l:List Nat) (w:World) (h:Vq w pa n c l) (hn:n<=1000000000) (hs:∀ x∈l,x<=1114111):Calls Tryz.prog 353 #[.slice pa n c] w fun e w'=>e= .returned (.bool (Hl l))/\Below w.heap.size w w':=by
 have hln:=h.len;have hread:=H0 h;clear h
 by_cases h0:n=0
 ·have hf:Hl l=false:=by rw [List.length_eq_zero_iff.1 (hln.trans h0)];rfl
  subst h0;rw [hf];replace hln:=H0 hln;replace hf:=H0 hf;go_enter Tryz.func353,Tryz.ntmps353;go_wp2_with fail;go_ret;exact ⟨rfl,Below.refl _ _⟩
 have hneI:((n:Int)==0)=false:=by rw [beq_eq_false_iff_ne];omega
 have hnI:(0:Int)<(n:Int):=by omega
 obtain ⟨g,o,rfl,hc0⟩:=hread.out.cells (by omega)
 have hl0:0<l.length:=by omega
 have ck0:=hc0 0 hl0;unfold F3 at ck0;rw [Nat.add_zero] at ck0;obtain ⟨x0,hx0⟩:∃ x,l[0]=x:=⟨_,rfl⟩;rw [hx0] at ck0
 have hlab:=VT (l:=l) (c:=x0) (fun e=>by rw [e] at hl0;cases hl0) (by
  cases l with
  | nil=>cases hl0
  | cons a r=>exact hx0)
 have hz0:=DA x0 0x300 0x36f;obtain ⟨q0,hq0⟩:∃ q,D9 x0 0x300 0x36f=q:=⟨_,rfl⟩;have hz0:QD (x0:Int) 768 879=q0:=hz0.trans hq0;rw [hq0] at hlab;replace hq0:=H0 hq0;replace hx0:=H0 hx0;replace hc0:=H0 hc0;obtain ⟨R,hR⟩:=N2 (Hl l);rw [hR] at hlab⊢;replace hR:=H0 hR;replace h0:=H0 h0;replace hln:=H0 hln;replace hs:=H0 hs;cases q0
 case true=>
  have hf:Hid (R=false):=H0 (hlab.trans (by simp))
  replace hlab:=H0 hlab;go_enter Tryz.func353,Tryz.ntmps353;go_wp2_with (go_at_call 357;refine (Cr _ _ _ _).mono ?_;rintro e w' ⟨rfl,rfl⟩)
  all_goals
   go_ret
   exact ⟨by rw [hf.out];rfl,Below.refl _ _⟩
 have hlab:R=(l.all GD && l.any fun c=>decide (0x7f<c)):=hlab.trans (by simp)
 replace hlab:=H0 hlab;go_enter Tryz.func353,Tryz.ntmps353;go_wp2_with (go_at_call 357;refine (Cr _ _ _ _).mono ?_;rintro e w' ⟨rfl,rfl⟩)
 go_loopw [3,19] (fun v3 v19 wr=>∃ k:Nat,v19= .int .i64 (k:Int)/\k<=n/\v3= .bool ((l.take k).any fun c=>decide (0x7f<c))/\Below w.heap.size w wr/\Hid ((l.take k).all GD=true)) (fun _ v19 _=>n - (intOf v19).toNat)
 case atStart=>exact ⟨0,rfl,Nat.zero_le _,rfl,Below.refl _ _,H0 rfl⟩
 case round=>
  obtain ⟨k,rfl,hk,rfl,hbel,hall⟩:=hrel;clear ck0;have hszw:=hbel.size
  by_cases hlt:k<n
  ·have hI:(k:Int)<(n:Int):=by omega
   have hr:=hread.out.below hbel (Nat.le_refl _)
   obtain ⟨g',o',e1,hc⟩:=hr.cells (by omega)
   cases e1
   have hkl:k<l.length:=by have:=hln.out;omega
   have ck:=hc k hkl;unfold F3 at ck
   have hany:=Acy l (fun c=>decide (0x7f<c)) k hkl
   have hano:=H0 (Afa (p:=GD) hkl);have hmem:=List.getElem_mem hkl
   have hall2:Hid (GD l[k]=true->(l.take (k+1)).all GD=true):=H0 (fun e=>by
    rw [List.take_succ_eq_append_getElem hkl,List.all_append,hall.out,Bool.true_and,List.all_cons,e];rfl)
   obtain ⟨x,hx⟩:=N2 (l[k]);rw [hx] at ck hany hano hmem hall2;have hx11:=hs.out x hmem;replace hmem:=H0 hmem;replace hx:=H0 hx;replace hc:=H0 hc;clear hr
   obtain ⟨A,hA⟩:∃ A,((l.take k).any fun c=>decide (0x7f<c))=A:=⟨_,rfl⟩
   rw [hA] at hany⊢;replace hA:=H0 hA
   have hmp:=H0 (fun w=>YC x w hx11)
   have hoks:GD x=(decide ((Fc x).2=1) && decide (x≠46)):=rfl;obtain ⟨m,hm⟩:=N2 (Fc x);rw [hm] at hmp hoks;replace hm:=H0 hm;obtain ⟨ml,mn⟩:=m;dsimp only at hoks
   by_cases h1:mn=1
   ·subst h1
    by_cases h46:x=46
    ·subst h46
     have hf:Hid (R=false):=H0 (by rw [hlab.out,hano.out (by rw [hoks];rfl)];rfl)
     replace hoks:=H0 hoks;replace hany:=H0 hany;go_wp2_with fail;refine (hmp.out _).mono ?_;rintro e w1 ⟨t,rfl,ht,hb1⟩;go_wp2_with fail;go_ret
     exact ⟨by rw [hf.out];rfl,hbel.trans (hb1.mono hszw)⟩
    ·have hx46:((x:Int)==46)=false:=by rw [beq_eq_false_iff_ne];omega
     have hnew:=H0 (hall2.out (by rw [hoks];simp [h46]))
     replace hoks:=H0 hoks
     have hgt:decide (0x7f<x)=decide (127<(x:Int)):=decide_eq_decide.2 (by omega)
     rw [hgt] at hany;obtain ⟨D,hD⟩:=N2 (decide (127<(x:Int)));rw [hD] at hany;have hnat:decide (127<x)=D:=hgt.trans hD;replace hgt:=H0 hgt;replace h46:=H0 h46;replace hany:=H0 hany;go_wp2_with fail;refine (hmp.out _).mono ?_;rintro e w1 ⟨t,rfl,ht,hb1⟩;have hb2:=hbel.trans (hb1.mono hszw);cases A
     all_goals
      go_wp2_with fail;go_roundw
      case rel=>exact ⟨k+1,by go_num,by omega,by rw [hany.out];simp,hb2,hnew⟩
      case measure=>simp [intOf];omega
   ·have hmn:((mn:Int)==1)=false:=by rw [beq_eq_false_iff_ne];omega
    have hf:Hid (R=false):=H0 (by rw [hlab.out,hano.out (by rw [hoks];simp [h1])];rfl)
    replace hoks:=H0 hoks;replace hany:=H0 hany;replace h1:=H0 h1;go_wp2_with fail;refine (hmp.out _).mono ?_;rintro e w1 ⟨t,rfl,ht,hb1⟩;go_wp2_with fail;go_ret
    exact ⟨by rw [hf.out];rfl,hbel.trans (hb1.mono hszw)⟩
  ·have hI:(n:Int)<=(k:Int):=by omega
   have htk:l.take k=l:=List.take_of_length_le (by have:=hln.out;omega)
   have hf:Hid (R=(l.take k).any fun c=>decide (0x7f<c)):=H0 (by rw [hlab.out,htk];rw [htk] at hall;rw [hall.out];simp)
   replace htk:=H0 htk;go_wp2_with fail;go_ret
   exact ⟨by rw [hf.out];rfl,hbel⟩
def UB (n:Int) (w:World) (e:Ending) (w':World):Prop:=e= .returned (.int .i64 n)/\w=w'
theorem Zx (c:UInt8) (r:List UInt8):Ho (c :: r)=IH ((A9 c.toNat).2.2 - 1) (A9 c.toNat).1 (A9 c.toNat).2.1 r+1:=rfl
theorem QQ (pa:Option Addr) (n c:Nat) (l:List UInt8) (w:World) (h:FV w pa n c l) (h0:0<n) (hm:n<=maxLen):
  Calls Tryz.prog 99 #[.slice pa n c] w (UB (Ho l:Int) w):=by
 obtain ⟨g,o,rfl,hcell⟩:=h.cells h0;have hln:=h.len;unfold maxLen at hm
 have h0l:0<l.length:=by omega
 have c0:=hcell 0 h0l;rw [Nat.add_zero] at c0;unfold DC at c0;have h0n:(0:Nat)<n:=h0
 obtain ⟨x,r,hl⟩:∃ x r,l=x :: r:=by
  cases l with
  | nil=>simp at h0l
  | cons x r=>exact ⟨x,r,rfl⟩
 have hx:l[0]=x:=by subst hl;rfl
 rw [hx] at c0
 have hb:Hid (Ho l=IH ((A9 x.toNat).2.2 - 1) (A9 x.toNat).1 (A9 x.toNat).2.1 (l.drop 1)+1):=H0 (by rw [hl];rfl)
 have hbeh:=WW x.toNat x.toNat_lt;unfold Yu at hbeh;have hsz:=AdP x.toNat;obtain ⟨lo0,hlo⟩:∃ v,(A9 x.toNat).1=v:=⟨_,rfl⟩;obtain ⟨hi0,hhi⟩:∃ v,(A9 x.toNat).2.1=v:=⟨_,rfl⟩;obtain ⟨sz,hsze⟩:∃ v,(A9 x.toNat).2.2=v:=⟨_,rfl⟩;rw [hlo,hhi,hsze] at hb hbeh;rw [hsze] at hsz;replace hbeh:=H0 hbeh;replace hcell:=H0 hcell;replace hlo:=H0 hlo;replace hhi:=H0 hhi;replace hsze:=H0 hsze;replace hl:=H0 hl;replace hx:=H0 hx;replace hln:=H0 hln;clear h;go_enter Tryz.func99,Tryz.ntmps99;go_wp2_with (go_at_call 169;refine (hbeh.out _).mono ?_;rintro e w' ⟨rfl,rfl⟩);clear c0
 go_loop [3,4,6] (fun v3 v4 v6=>∃ k lo hi:Nat,v3= .int .u8 lo/\v4= .int .u8 hi/\v6= .int .i64 k/\1<=k/\k<=sz/\k<=n/\Hid (Ho l=IH (sz - k) lo hi (l.drop k)+k)) (fun _ _ v6=>sz - (intOf v6).toNat)
 case atStart=>exact ⟨1,lo0,hi0,rfl,rfl,rfl,Nat.le_refl _,hsz.1,h0n,hb⟩
 case round=>
  obtain ⟨k,lo,hi,rfl,rfl,rfl,hk1,hks,hkn,hv⟩:=hrel;clear hb
  have fin:∀ m,Hid (IH (sz - k) lo hi (l.drop k)=m)->Hid (Ho l=m+k):=fun m e=>H0 (by rw [hv.out,e.out])
  replace fin:=H0 fin
  by_cases h1:k<sz
  ·have h1I:(k:Int)<(sz:Int):=by omega
   obtain ⟨m,hm1⟩:∃ m,sz - k=m+1:=⟨sz - k - 1,by omega⟩
   have hm2:sz - (k+1)=m:=by omega
   by_cases h2:k<n
   ·have h2I:(k:Int)<(n:Int):=by omega
    have hkl:k<l.length:=by rw [hln.out];exact h2
    have ck:=hcell.out k hkl;unfold DC at ck;have hd:Hid (l.drop k=l[k] :: l.drop (k+1)):=H0 (List.drop_eq_getElem_cons hkl);obtain ⟨y,hy⟩:=N2 (l[k]);rw [hy] at ck hd;replace hy:=H0 hy
    by_cases h3:lo<=y.toNat/\y.toNat<=hi
    ·have hn:Hid (Ho l=IH (sz - (k+1)) 128 191 (l.drop (k+1))+(k+1)):=H0 (by
      rw [hv.out,hd.out,hm1,IH,if_pos h3,hm2];omega)
     obtain ⟨h4,h5⟩:=h3
     have h4I:(lo:Int)<=(y.toNat:Int):=by omega
     have h5I:(y.toNat:Int)<=(hi:Int):=by omega
     replace hm1:=H0 hm1;replace hm2:=H0 hm2;go_wp2_with fail;go_round
     case rel=>exact ⟨k+1,128,191,rfl,rfl,by go_num,by omega,by omega,by omega,hn⟩
     case measure=>simp [intOf];omega
    ·have hn:Hid (Ho l=0+k):=fin.out 0 (H0 (by rw [hd.out,hm1,IH,if_neg h3]))
     replace hm1:=H0 hm1;replace hm2:=H0 hm2
     by_cases h4:lo<=y.toNat
     ·have h4I:(lo:Int)<=(y.toNat:Int):=by omega
      have h5I:(hi:Int)<(y.toNat:Int):=by omega
      replace h3:=H0 h3;go_wp2_with fail;go_ret
      exact ⟨by rw [hn.out,Nat.zero_add];rfl,rfl⟩
     ·have h4I:(y.toNat:Int)<(lo:Int):=by omega
      replace h3:=H0 h3;go_wp2_with fail;go_ret
      exact ⟨by rw [hn.out,Nat.zero_add];rfl,rfl⟩
   ·have h2I:(n:Int)<=(k:Int):=by omega
    have hn:Hid (Ho l=0+k):=fin.out 0 (H0 (by
     rw [List.drop_of_length_le (by rw [hln.out];omega),hm1];rfl))
    replace hm1:=H0 hm1;replace hm2:=H0 hm2;go_wp2_with fail;go_ret
    exact ⟨by rw [hn.out,Nat.zero_add];rfl,rfl⟩
  ·have h1I:(sz:Int)<=(k:Int):=by omega
   have hn:Hid (Ho l=0+k):=fin.out 0 (H0 (by rw [show sz - k=0 by omega];rfl))
   go_wp2_with fail;go_ret
   exact ⟨by rw [hn.out,Nat.zero_add];rfl,rfl⟩
theorem Pa (j bias:Nat) (w:World) (hj:j<=1000000000) (hb:bias<=1000000000):Calls Tryz.prog 370 #[.int .i64 (j:Int),.int .i64 (bias:Int)] w (UB (BB j bias:Int) w):=by
 have h1:(j:Int)<=1000000000:=by omega
 have h2:(bias:Int)<=1000000000:=by omega
 have h3:(0:Int)<=(j:Int):=by omega
 have h4:(0:Int)<=(bias:Int):=by omega
 go_enter Tryz.func370,Tryz.ntmps370;go_wp2_with fail
 all_goals
  go_ret;refine ⟨Io ?_,rfl⟩;unfold BB;omega
def Di (c:UInt8):Int:=match Ja c with | none=> -1 | some d=>(d:Int)
theorem Aaq (c:UInt8) (w:World):Calls Tryz.prog 369 #[.int .u8 (c.toNat:Int)] w (UB (Di c) w):=by
 have b0:=AC c;have b1:=AK c
 have hway:((97:Int)<=(c.toNat:Int)/\(c.toNat:Int)<=122/\Di c=(c.toNat:Int) - 97)\/((c.toNat:Int)<97/\(65:Int)<=(c.toNat:Int)/\(c.toNat:Int)<=90/\Di c=(c.toNat:Int) - 65)\/((c.toNat:Int)<97/\(c.toNat:Int)<65/\(48:Int)<=(c.toNat:Int)/\(c.toNat:Int)<=57/\Di c=(c.toNat:Int) - 48+26)\/
   ((97:Int)<=(c.toNat:Int)/\(122:Int)<(c.toNat:Int)/\(90:Int)<(c.toNat:Int)/\(57:Int)<(c.toNat:Int)/\Di c= -1)\/((c.toNat:Int)<97/\(65:Int)<=(c.toNat:Int)/\(90:Int)<(c.toNat:Int)/\(57:Int)<(c.toNat:Int)/\Di c= -1)\/((c.toNat:Int)<97/\(c.toNat:Int)<65/\(48:Int)<=(c.toNat:Int)/\(57:Int)<(c.toNat:Int)/\Di c= -1)\/((c.toNat:Int)<97/\(c.toNat:Int)<65/\(c.toNat:Int)<48/\(c.toNat:Int)<=57/\Di c= -1):=by
  have key:∀ n:Fin 256,((97:Int)<=((UInt8.ofNat n.val).toNat:Int)/\((UInt8.ofNat n.val).toNat:Int)<=122/\Di (UInt8.ofNat n.val)=((UInt8.ofNat n.val).toNat:Int) - 97)\/(((UInt8.ofNat n.val).toNat:Int)<97/\(65:Int)<=((UInt8.ofNat n.val).toNat:Int)/\((UInt8.ofNat n.val).toNat:Int)<=90/\Di (UInt8.ofNat n.val)=((UInt8.ofNat n.val).toNat:Int) - 65)\/(((UInt8.ofNat n.val).toNat:Int)<97/\((UInt8.ofNat n.val).toNat:Int)<65/\(48:Int)<=((UInt8.ofNat n.val).toNat:Int)/\((UInt8.ofNat n.val).toNat:Int)<=57/\Di (UInt8.ofNat n.val)=((UInt8.ofNat n.val).toNat:Int) - 48+26)\/
   ((97:Int)<=((UInt8.ofNat n.val).toNat:Int)/\(122:Int)<((UInt8.ofNat n.val).toNat:Int)/\(90:Int)<((UInt8.ofNat n.val).toNat:Int)/\(57:Int)<((UInt8.ofNat n.val).toNat:Int)/\Di (UInt8.ofNat n.val)= -1)\/(((UInt8.ofNat n.val).toNat:Int)<97/\(65:Int)<=((UInt8.ofNat n.val).toNat:Int)/\(90:Int)<((UInt8.ofNat n.val).toNat:Int)/\(57:Int)<((UInt8.ofNat n.val).toNat:Int)/\Di (UInt8.ofNat n.val)= -1)\/(((UInt8.ofNat n.val).toNat:Int)<97/\((UInt8.ofNat n.val).toNat:Int)<65/\(48:Int)<=((UInt8.ofNat n.val).toNat:Int)/\(57:Int)<((UInt8.ofNat n.val).toNat:Int)/\Di (UInt8.ofNat n.val)= -1)\/(((UInt8.ofNat n.val).toNat:Int)<97/\((UInt8.ofNat n.val).toNat:Int)<65/\((UInt8.ofNat n.val).toNat:Int)<48/\((UInt8.ofNat n.val).toNat:Int)<=57/\Di (UInt8.ofNat n.val)= -1):=by decide+kernel
  have:=key ⟨c.toNat,c.toNat_lt⟩;simp only [UInt8.ofNat_toNat] at this;exact this
 generalize Di c=v at hway⊢;generalize (c.toNat:Int)=z at *;go_enter Tryz.func369,Tryz.ntmps369
 rcases hway with ⟨h1,h2,rfl⟩ | ⟨h1,h2,h3,rfl⟩ | ⟨h1,h2,h3,h4,rfl⟩ | ⟨h1,h2,h3,h4,rfl⟩ | ⟨h1,h2,h3,h4,rfl⟩ | ⟨h1,h2,h3,h4,rfl⟩ | ⟨h1,h2,h3,h4,rfl⟩
 all_goals
  go_wp2_with fail;go_ret;exact ⟨rfl,rfl⟩
theorem OV (d:Nat) (w:World) (hd:d<36):Calls Tryz.prog 373 #[.int .i64 (d:Int)] w fun e w'=>e= .returned (.int .u8 ((Ge d).toNat:Int))/\w=w':=by
 have hway:((d:Int)<26/\Hid (((Ge d).toNat:Int)=97+(d:Int)))\/((26:Int)<=(d:Int)/\Hid (((Ge d).toNat:Int)=48+(d:Int) - 26)):=by
  have key:∀ d:Fin 36,((d.val:Int)<26/\((Ge d.val).toNat:Int)=97+(d.val:Int))\/((26:Int)<=(d.val:Int)/\((Ge d.val).toNat:Int)=48+(d.val:Int) - 26):=by decide+kernel
  rcases key ⟨d,hd⟩ with ⟨h1,h2⟩ | ⟨h1,h2⟩
  ·exact .inl ⟨h1,H0 h2⟩
  ·exact .inr ⟨h1,H0 h2⟩
 have h0:(0:Int)<=(d:Int):=by omega
 have h36:(d:Int)<36:=by omega
 generalize ((Ge d).toNat:Int)=v at hway⊢;generalize (d:Int)=z at *;go_enter Tryz.func373,Tryz.ntmps373
 rcases hway with ⟨h1,h2⟩ | ⟨h1,h2⟩
 ·have hw:IntKind.u8.wrap (97+z)=97+z:=by rw [IntKind.wrap_u8];omega
  go_wp2_with fail;go_ret
  exact ⟨by rw [h2.out];rfl,rfl⟩
 ·have hw:IntKind.u8.wrap (48+z - 26)=48+z - 26:=by rw [IntKind.wrap_u8];omega
  go_wp2_with fail;go_ret
  exact ⟨by rw [h2.out];rfl,rfl⟩
theorem KV (c:Nat) (w:World):Calls Tryz.prog 362 #[.int .i64 (c:Int)] w fun e w'=>e= .returned (.bool (Bd c))/\w=w':=by
 have h0:(0:Int)<=(c:Int):=by omega
 have hway:((c:Int)<55296/\(c:Int)<=1114111/\Bd c=true)\/((55296:Int)<=(c:Int)/\(c:Int)<=1114111/\(57343:Int)<(c:Int)/\Bd c=true)\/((55296:Int)<=(c:Int)/\(c:Int)<=1114111/\(c:Int)<=57343/\Bd c=false)\/((1114111:Int)<(c:Int)/\Bd c=false):=by
  unfold Bd
  by_cases h1:c<55296
  ·exact .inl ⟨by omega,by omega,by simp;omega⟩
  by_cases h2:c<=57343
  ·exact .inr (.inr (.inl ⟨by omega,by omega,by omega,by simp;omega⟩))
  by_cases h3:c<=1114111
  ·exact .inr (.inl ⟨by omega,by omega,by omega,by simp;omega⟩)
  ·exact .inr (.inr (.inr ⟨by omega,by simp;omega⟩))
 generalize Bd c=v at hway⊢;generalize (c:Int)=z at *;go_enter Tryz.func362,Tryz.ntmps362
 rcases hway with ⟨h1,h2,rfl⟩ | ⟨h1,h2,h3,rfl⟩ | ⟨h1,h2,h3,rfl⟩ | ⟨h1,rfl⟩
 all_goals
  go_wp2_with fail;go_ret
  refine ⟨?_,rfl⟩;first | rfl | (show Ending.returned (Value.bool _)=_;congr 2;simp<;>omega)
theorem Ti {f d k:Nat} (h:d<=455):Dd f d k=k+36 * d / (d+38):=by
 cases f with
 | zero=>rfl
 | succ f=>rw [Dd,if_neg (by omega)]
theorem SO {f d k:Nat} (h:455<d):Dd (f+1) d k=Dd f (d / 35) (k+36):=by rw [Dd,if_pos h]
theorem Iw (d n:Nat) (first:Bool) (w:World) (hd:d<=2147483647) (hn:1<=n) (hn2:n<=1000000000):Calls Tryz.prog 364 #[.int .i64 (d:Int),.int .i64 (n:Int),.bool first] w (UB (EO d n first:Int) w):=by
 have h0:(0:Int)<=(d:Int):=by omega
 have h1:(d:Int)<=2147483647:=by omega
 have h2:(1:Int)<=(n:Int):=by omega
 have h3:(n:Int)<=1000000000:=by omega
 have hn0:((n:Int)==0)=false:=by rw [beq_eq_false_iff_ne];omega
 have hne:¬ ((n:Int)=0):=by omega
 have hA:Hid (EO d n first=Dd 20 (Ft d first+Ft d first / n) 0):=rfl
 have ha:Ft d first<=2147483647:=by unfold Ft;split<;>omega
 have haI:Hid ((Ft d first:Int)=if first=true then (d:Int) / 700 else (d:Int) / 2):=H0 (by unfold Ft;split<;>omega)
 obtain ⟨a,hae⟩:=N2 (Ft d first)
 rw [hae] at hA ha haI;replace hae:=H0 hae;have hq:a / n<=a:=Nat.div_le_self _ _
 have hqI:(a:Int) / (n:Int)=((a / n:Nat):Int):=by simp
 obtain ⟨q,hqe⟩:=N2 (a / n);rw [hqe] at hA hq hqI;replace hqe:=H0 hqe
 have hbd:a+q<456 * 35 ^ 20:=Nat.lt_of_le_of_lt (show a+q<=4294967294 by omega) (by decide)
 have hrest:∀ (wx:World),True:=fun _=>trivial
 cases first
 all_goals
  have hdI:=haI.out;simp only [if_true,Bool.false_eq_true,if_false] at hdI;have hdI2:=hdI.symm
  have a0:(0:Int)<=(a:Int):=by omega
  have a1:(a:Int)<=2147483647:=by omega
  have q0:(0:Int)<=(q:Int):=by omega
  have q1:(q:Int)<=2147483647:=by omega
  clear hdI haI;go_enter Tryz.func364,Tryz.ntmps364;go_wp2_with fail
  go_loop [0,7] (fun v0 v7=>∃ f x k:Nat,v0= .int .i64 x/\v7= .int .i64 k/\x<456 * 35 ^ f/\x<=4294967294/\k+36 * f<=720/\Hid (Dd 20 (a+q) 0=Dd f x k)) (fun v0 _=>(intOf v0).toNat)
  case atStart=>exact ⟨20,a+q,0,by first | rfl | (congr 1<;>omega),rfl,hbd,by omega,by omega,H0 rfl⟩
  case round=>
   clear hdI2 hqI hn0 hne;obtain ⟨f,x,k,rfl,rfl,hx,hxl,hk,hv⟩:=hrel
   have xl:(x:Int)<=4294967294:=by omega
   have x0:(0:Int)<=(x:Int):=by omega
   have k0:(0:Int)<=(k:Int):=by omega
   have k1:(k:Int)<=720:=by omega
   by_cases h455:455<x
   ·have hI:(455:Int)<(x:Int):=by omega
    cases f with
    | zero=>rw [Nat.pow_zero] at hx;omega
    | succ f=>
     have hnx:Hid (Dd 20 (a+q) 0=Dd f (x / 35) (k+36)):=H0 (by rw [hv.out,SO h455])
     have hxn:x / 35<456 * 35 ^ f:=Nat.div_lt_of_lt_mul (by rw [Nat.pow_succ] at hx;omega)
     replace hx:=H0 hx;replace hbd:=H0 hbd;go_wp2_with fail;go_round
     case rel=>exact ⟨f,x / 35,k+36,by first | rfl | (congr 1<;>omega),by first | rfl | (congr 1<;>omega),hxn,by omega,by omega,hnx⟩
     case measure=>simp [intOf];omega
   ·have hI:(x:Int)<=455:=by omega
    have hfin:Hid (Dd 20 (a+q) 0=k+36 * x / (x+38)):=H0 (by rw [hv.out,Ti (by omega)])
    have hs0:¬ ((x:Int)+38=0):=by omega
    have hs1:(((x:Int)+38)==0)=false:=by rw [beq_eq_false_iff_ne];omega
    have hz:36 * (x:Int) / ((x:Int)+38)=((36 * x / (x+38):Nat):Int):=by simp
    have hzl:36 * x / (x+38)<=36:=Nat.div_le_of_le_mul (by omega)
    obtain ⟨z,hze⟩:=N2 (36 * x / (x+38));rw [hze] at hz hzl hfin;replace hze:=H0 hze
    have z0:(0:Int)<=(z:Int):=by omega
    have z1:(z:Int)<=36:=by omega
    replace hx:=H0 hx;replace hbd:=H0 hbd;go_wp2_with fail;go_ret
    exact ⟨Io (by rw [hA.out,hfin.out];omega),rfl⟩
theorem UV (l:List Nat) (c low:Nat):Cs (l++[c]) low=BH low (Cs l low) c:=by unfold Cs;rw [List.foldl_append];rfl
theorem Abr (l:List Nat) (low:Nat):Cs l low= -1\/(0<=Cs l low/\∃ c∈l,Cs l low=(c:Int)):=by
 obtain ⟨h1,-,-⟩:=ES low l (-1) (.inl rfl)
 rcases h1 with h1 | ⟨c,hc,h1,h2⟩
 ·exact .inl h1
 ·exact .inr ⟨by unfold Cs;omega,c,hc,h1⟩
theorem Xw (l:List Nat) (k:Nat) (h:k<l.length):l.take (k+1)=l.take k++[l[k]]:=List.take_succ_eq_append_getElem h
theorem Zt (pa:Option Addr) (n c:Nat) (l:List Nat) (low:Nat) (w:World) (h:Vq w pa n c l) (hn:n<=1000000000):Calls Tryz.prog 365 #[.slice pa n c,.int .i64 (low:Int)] w (UB (Cs l low) w):=by
 have hln:=h.len;have hcell:=H0 h.cells;clear h;go_enter Tryz.func365,Tryz.ntmps365;go_wp2_with fail
 go_loop [5,10] (fun v5 v10=>∃ k:Nat,v10= .int .i64 k/\k<=n/\v5= .int .i64 (Cs (l.take k) low)) (fun _ v10=>n - (intOf v10).toNat)
 case atStart=>exact ⟨0,rfl,Nat.zero_le _,rfl⟩
 case round=>
  obtain ⟨k,rfl,hk,rfl⟩:=hrel;have hlo:=Abr (l.take k) low
  by_cases hlt:k<n
  ·have hI:(k:Int)<(n:Int):=by omega
   obtain ⟨g,o,hpa,hc⟩:=hcell.out (by omega)
   have hkl:k<l.length:=by omega
   have ck:=hc k hkl;unfold F3 at ck
   have hsn:Hid (Cs (l.take (k+1)) low=BH low (Cs (l.take k) low) l[k]):=H0 (by rw [Xw l k hkl,UV])
   obtain ⟨x,hx⟩:=N2 (l[k]);rw [hx] at ck hsn;replace hx:=H0 hx;replace hc:=H0 hc;replace hlo:=H0 hlo;obtain ⟨f,hf⟩:=N2 (Cs (l.take k) low);rw [hf] at hsn hlo⊢;replace hf:=H0 hf;replace hln:=H0 hln;subst hpa
   have hway:((x:Int)<(low:Int)/\BH low f x=f)\/((low:Int)<=(x:Int)/\f<0/\BH low f x=x)\/((low:Int)<=(x:Int)/\0<=f/\(x:Int)<f/\BH low f x=x)\/((low:Int)<=(x:Int)/\0<=f/\f<=(x:Int)/\BH low f x=f):=by
    unfold BH
    by_cases h1:x<low
    ·exact .inl ⟨by omega,by rw [if_neg (by omega)]⟩
    by_cases h2:f<0
    ·exact .inr (.inl ⟨by omega,h2,by rw [if_pos (by omega)]⟩)
    by_cases h3:(x:Int)<f
    ·exact .inr (.inr (.inl ⟨by omega,by omega,h3,by rw [if_pos (by omega)]⟩))
    ·exact .inr (.inr (.inr ⟨by omega,by omega,by omega,by rw [if_neg (by omega)]⟩))
   rcases hway with ⟨q1,hv⟩ | ⟨q1,q2,hv⟩ | ⟨q1,q2,q3,hv⟩ | ⟨q1,q2,q3,hv⟩
   all_goals
    have hnew:=H0 (hsn.out.trans hv);clear hv;go_wp2_with fail;go_round
    case rel=>exact ⟨k+1,by go_num,by omega,by rw [hnew.out]⟩
    case measure=>simp [intOf];omega
  ·have hI:(n:Int)<=(k:Int):=by omega
   have hfin:Hid (Cs (l.take k) low=Cs l low):=H0 (by rw [List.take_of_length_le (by omega)])
   go_wp2_with fail;go_ret;exact ⟨Io hfin.out,rfl⟩
def Ae4 (o:Option (Nat × Nat)) (w:World) (e:Ending) (w':World):Prop:=e= .returned (.tuple #[.int .i64 ((o.getD (0,0)).1:Int),.int .i64 ((o.getD (0,0)).2:Int)])/\w=w'
theorem K0 {o:Option (Nat × Nat)} {w:World} (h:o=none):Ae4 o w (.returned (.tuple #[.int .i64 0,.int .i64 0])) w:=by subst h;exact ⟨rfl,rfl⟩
theorem UJ (c:UInt8):(Di c= -1/\Ja c=none)\/∃ d:Nat,d<36/\Di c=(d:Int)/\Ja c=some d:=by
 unfold Di
 cases h:Ja c with
 | none=>exact .inl ⟨rfl,rfl⟩
 | some d=>exact .inr ⟨d,Ac9 h,rfl,rfl⟩
theorem Vz (s:ByteArray) (bias:Nat) (w:World) (hs:s.size<=100000000) (hb:bias<=100000000):Calls Tryz.prog 361 #[.string s,.int .i64 (bias:Int)] w (Ae4 (Kv bias s.toList 0 0 1) w):=by
 obtain ⟨R,hR⟩:=N2 (Kv bias s.toList 0 0 1);rw [hR];replace hR:=H0 hR;go_enter Tryz.func361,Tryz.ntmps361;go_wp2_with fail
 go_loop [6,7,13] (fun v6 v7 v13=>∃ k sum wt:Nat,v6= .int .i64 sum/\v7= .int .i64 wt/\v13= .int .i64 k/\k<=s.size/\sum<=2147483647/\wt<=75161927680/\Hid (R=Kv bias (s.toList.drop k) k sum wt)) (fun _ _ v13=>s.size - (intOf v13).toNat)
 case atStart=>exact ⟨0,0,1,rfl,rfl,rfl,Nat.zero_le _,by omega,by omega,H0 hR.out.symm⟩
 case round=>
  obtain ⟨k,sum,wt,rfl,rfl,rfl,hk,hsum,hwt,hv⟩:=hrel
  by_cases hlt:k<s.size
  ·have hI:(k:Int)<(s.size:Int):=by omega
   have hdr:=Ao s k hlt;obtain ⟨c,hc⟩:=N2 (s[k]);rw [hc] at hdr;have hwo:=H0 (Aaq c)
   have hbd:=H0 (fun w=>Pa k bias w (by omega) (by omega))
   have hb1:=Hv k bias;have hst:=hv.out;rw [hdr,Kv] at hst;replace hdr:=H0 hdr;obtain ⟨b,hbe⟩:=N2 (BB k bias);rw [hbe] at hbd hst hb1;replace hbe:=H0 hbe
   rcases UJ c with ⟨h1,h2⟩ | ⟨d,hd,h1,h2⟩
   ·rw [h1] at hwo;rw [h2] at hst;dsimp only at hst;replace hst:=H0 hst;replace h1:=H0 h1;replace h2:=H0 h2;go_wp2_with fail;refine (hwo.out _).mono ?_;rintro e w1 ⟨rfl,rfl⟩;go_wp2_with fail;go_ret2;exact K0 hst.out
   ·rw [h1] at hwo;rw [h2] at hst;dsimp only at hst;replace h1:=H0 h1;replace h2:=H0 h2;obtain ⟨p,hp⟩:=N2 (d * wt)
    have hpI:(d:Int) * (wt:Int)=(p:Int):=by rw [<-hp];simp
    have hpl:p<=2630667468800:=by rw [<-hp];exact Nat.le_trans (Nat.mul_le_mul (show d<=35 by omega) hwt) (by decide)
    rw [hp] at hst
    have p0:(0:Int)<=(p:Int):=by omega
    have p1:(p:Int)<=2630667468800:=by omega
    have s0:(0:Int)<=(sum:Int):=by omega
    have s1:(sum:Int)<=2147483647:=by omega
    by_cases hg:2147483647<sum+p
    ·have hgI:(2147483647:Int)<(sum:Int)+(p:Int):=by omega
     rw [if_pos hg] at hst;replace hst:=H0 hst;replace hg:=H0 hg;replace hp:=H0 hp;go_wp2_with fail;refine (hwo.out _).mono ?_;rintro e w1 ⟨rfl,rfl⟩;go_wp2_with fail;go_ret2;exact K0 hst.out
    ·have hgI:(sum:Int)+(p:Int)<=2147483647:=by omega
     rw [if_neg hg] at hst
     by_cases hdb:d<b
     ·have hdI:(d:Int)<(b:Int):=by omega
      rw [if_pos hdb] at hst;replace hst:=H0 hst;replace hg:=H0 hg;replace hp:=H0 hp;go_wp2_with fail;refine (hwo.out _).mono ?_;rintro e w1 ⟨rfl,rfl⟩;go_wp2_with fail;refine (hbd.out _).mono ?_;rintro e w2 ⟨rfl,rfl⟩;go_wp2_with fail;go_ret2
      exact ⟨by rw [hst.out];first | rfl | (congr 4<;>simp),rfl⟩
     ·have hdI:(b:Int)<=(d:Int):=by omega
      rw [if_neg hdb] at hst
      have hwp:wt<=p:=by
       rw [<-hp]
       exact Nat.le_mul_of_pos_left wt (by omega)
      obtain ⟨q,hq⟩:=N2 (wt * (36 - b))
      have hqI:(wt:Int) * (36 - (b:Int))=(q:Int):=by
       rw [<-hq,Int.natCast_mul,Int.natCast_sub (by omega)];rfl
      have hql:q<=75161927680:=by rw [<-hq];exact Nat.le_trans (Nat.mul_le_mul (show wt<=2147483647 by omega) (show 36 - b<=35 by omega)) (by decide)
      rw [hq] at hst
      have q0:(0:Int)<=(q:Int):=by omega
      have q1:(q:Int)<=75161927680:=by omega
      have b0:(0:Int)<=(b:Int):=by omega
      have b1:(b:Int)<=26:=by omega
      have hss:(sum:Int)+(p:Int)=((sum+p:Nat):Int):=by omega
      obtain ⟨z,hz⟩:=N2 (sum+p)
      have hzl:z<=2147483647:=by omega
      have hzI:(sum:Int)+(p:Int)=(z:Int):=by rw [<-hz];exact hss
      rw [hz] at hst;clear hss;replace hz:=H0 hz;replace hst:=H0 hst;replace hg:=H0 hg;replace hp:=H0 hp;replace hq:=H0 hq
      have z1:(z:Int)<=2147483647:=by omega
      go_wp2_with fail;refine (hwo.out _).mono ?_;rintro e w1 ⟨rfl,rfl⟩;go_wp2_with fail;refine (hbd.out _).mono ?_;rintro e w2 ⟨rfl,rfl⟩;go_wp2_with fail;go_round
      case rel=>exact ⟨k+1,z,q,by first | rfl | (congr 1<;>omega),by first | rfl | (congr 1<;>omega),by go_num,by omega,hzl,hql,hst⟩
      case measure=>simp [intOf];omega
  ·have hI:(s.size:Int)<=(k:Int):=by omega
   have hfin:Hid (R=none):=H0 (by rw [hv.out,AM s k (by omega)];rfl)
   go_wp2_with fail;go_ret2;exact K0 hfin.out
def Afn (l:List UInt8) (B:Nat) (w:World) (e:Ending) (w':World):Prop:=∃ v:Value,e= .returned v/\CA w' B 5 v l/\Below B w w'
theorem Z5 {bias f j d:Nat} (h:d<BB j bias):Ip bias (f+1) j d=[Ge d]:=by rw [Ip,if_pos h]
theorem AaS {bias f j d:Nat} (h:¬ d<BB j bias):Ip bias (f+1) j d=Ge (BB j bias+(d - BB j bias) % (36 - BB j bias)) :: Ip bias f (j+1) ((d - BB j bias) / (36 - BB j bias)):=by rw [Ip,if_neg h]
theorem Xc (v:Value) (B d bias:Nat) (l:List UInt8) (w:World) (hown:CA w B 5 v l) (hB:B<=w.heap.size) (hl:l.length<=1000000000) (hd:d<=2147483647) (hb:bias<=100000000):
  Calls Tryz.prog 366 #[v,.int .i64 (d:Int),.int .i64 (bias:Int)] w (Afn (l++RH d bias) B w):=by
 obtain ⟨a1,k1,c1,hve⟩:∃ a k c,v= .slice a k c:=by
  rcases hown.2 with ⟨hv,_⟩ | ⟨g,cap,cur,hv,_⟩
  ·exact ⟨_,_,_,hv⟩
  ·exact ⟨_,_,_,hv⟩
 subst hve;obtain ⟨R,hR⟩:=N2 (RH d bias);have hR0:Hid (R=Ip bias (39+1) 0 d):=H0 hR.symm;rw [hR];replace hR:=H0 hR
 have hdp:d<10 ^ 39:=Nat.lt_of_le_of_lt hd (by decide)
 replace hdp:=H0 hdp;have hBw:=hB;go_enter Tryz.func366,Tryz.ntmps366;go_wp2_with fail
 go_loopw [0,1,7] (fun v0 v1 v7 wr=>∃ (f j x:Nat) (m:List UInt8),v1= .int .i64 x/\v7= .int .i64 j/\x<=2147483647/\j+f<=39/\Hid (x<10 ^ f)/\CA wr B 5 v0 (l++m)/\B<=wr.heap.size/\Below B w wr/\Hid (R=m++Ip bias (f+1) j x)/\m.length<=40/\m.length<=j) (fun _ v1 _ _=>(intOf v1).toNat)
 case atStart=>exact ⟨39,0,d,[],rfl,rfl,hd,by omega,hdp,by rw [List.append_nil];exact hown,hB,Below.refl _ _,hR0,by simp,by simp⟩
 case round=>
  clear hown hR0 hdp hB;obtain ⟨f,j,x,m,rfl,rfl,hx,hjf,hxp,hown,hB,hbel,hv,hml,hmj⟩:=hrel
  have hbd:=H0 (fun w=>Pa j bias w (by omega) (by omega))
  have hb1:=Hv j bias;obtain ⟨b,hbe⟩:=N2 (BB j bias);have hstop:=Z5 (bias:=bias) (f:=f) (j:=j) (d:=x);have hmore:=AaS (bias:=bias) (f:=f) (j:=j) (d:=x);rw [hbe] at hbd hb1 hstop hmore
  have x0:(0:Int)<=(x:Int):=by omega
  have x1:(x:Int)<=2147483647:=by omega
  have b0:(1:Int)<=(b:Int):=by omega
  have b1:(b:Int)<=26:=by omega
  replace hbe:=H0 hbe
  by_cases hxb:x<b
  ·have hI:(x:Int)<(b:Int):=by omega
   have hfin:Hid (l++R=(l++m)++[Ge x]):=H0 (by rw [hv.out,hstop hxb,List.append_assoc])
   have hdg:=H0 (fun w=>OV x w (by omega))
   replace hstop:=H0 hstop;replace hmore:=H0 hmore;replace hxp:=H0 hxp;go_wp2_with fail;refine (hbd.out _).mono ?_;rintro e w1 ⟨rfl,rfl⟩;go_wp2_with fail;refine (hdg.out _).mono ?_;rintro e w2 ⟨rfl,rfl⟩
   go_wp2_with (at_builtin;refine A8 ty8 rfl _ _ rfl (Ge x) rfl rfl hown hbel hB rfl (by unfold maxLen;rw [List.length_append];omega) (by rw [List.length_append];omega) ?_;intro v' w' ho' hb' _)
   go_wp2_with fail;go_ret
   exact ⟨_,rfl,by rw [hfin.out];exact ho',hb'⟩
  ·have hI:(b:Int)<=(x:Int):=by omega
   cases f with
   | zero=>
    have:=hxp.out;rw [Nat.pow_zero] at this;omega
   | succ f=>
    have hnx:=YF hb1 hxp.out;obtain ⟨y,hy⟩:=N2 (x - b);obtain ⟨t,ht⟩:=N2 (36 - b);have hm2:=hmore hxb;rw [hy,ht] at hm2 hnx
    have hyI:(x:Int) - (b:Int)=(y:Int):=by omega
    have htI:(36:Int) - (b:Int)=(t:Int):=by omega
    obtain ⟨r,hr⟩:=N2 (y % t);obtain ⟨q,hq⟩:=N2 (y / t)
    have hrI:(y:Int) % (t:Int)=(r:Int):=by rw [<-hr];simp
    have hqI:(y:Int) / (t:Int)=(q:Int):=by rw [<-hq];simp
    have hrl:r<t:=by rw [<-hr];exact Nat.mod_lt _ (by omega)
    have hql:q<=y:=by rw [<-hq];exact Nat.div_le_self _ _
    rw [hr,hq] at hm2;rw [hq] at hnx
    have hnew:Hid (R=(m++[Ge (b+r)])++Ip bias (f+1) (j+1) q):=H0 (by rw [hv.out,hm2,List.append_assoc];rfl)
    have hdg:=H0 (fun w=>OV (b+r) w (by omega))
    have hbr:(b:Int)+(r:Int)=((b+r:Nat):Int):=by omega
    obtain ⟨z,hz⟩:=N2 (b+r);rw [hz] at hdg hnew hbr
    have y0:(0:Int)<=(y:Int):=by omega
    have y1:(y:Int)<=2147483647:=by omega
    have t0:(1:Int)<=(t:Int):=by omega
    have t1:(t:Int)<=35:=by omega
    have tne:((t:Int)==0)=false:=by rw [beq_eq_false_iff_ne];omega
    have tne2:¬ ((t:Int)=0):=by omega
    have r0:(0:Int)<=(r:Int):=by omega
    have r1:(r:Int)<=35:=by omega
    have q0:(0:Int)<=(q:Int):=by omega
    have q1:(q:Int)<=2147483647:=by omega
    replace hnx:=H0 hnx;replace hm2:=H0 hm2;replace hy:=H0 hy;replace ht:=H0 ht;replace hr:=H0 hr;replace hq:=H0 hq;replace hz:=H0 hz;replace hstop:=H0 hstop;replace hmore:=H0 hmore;replace hxp:=H0 hxp;go_wp2_with fail;refine (hbd.out _).mono ?_;rintro e w1 ⟨rfl,rfl⟩;go_wp2_with fail;refine (hdg.out _).mono ?_;rintro e w2 ⟨rfl,rfl⟩
    go_wp2_with (at_builtin;refine A8 ty8 rfl _ _ rfl (Ge z) rfl rfl hown hbel hB rfl (by unfold maxLen;rw [List.length_append];omega) (by rw [List.length_append];omega) ?_;intro v' w' ho' hb' _)
    go_wp2_with fail;go_roundw
    case rel=>exact ⟨f,j+1,q,m++[Ge z],by first | rfl | (congr 1<;>omega),by go_num,by omega,by omega,hnx,by rw [<-List.append_assoc];exact ho',by have:=hb'.size;omega,hb',hnew,by simp;omega,by simp;omega⟩
    case measure=>simp [intOf];omega
end Go.Proofs.YtonomfeipkdmhaaGreatDoor
namespace Go.Proofs
open Go.Shelf
def Tryz.lays7_32_ren:Go.Shelf.Ren:=⟨fun | 32=>98 | 49=>168 | n=>n,fun | 30=>25 | 21=>21 | 3=>3 | 0=>0 | 5=>5 | 4=>4 | 33=>121 | 66=>201 | 25=>200 | 69=>204 | 68=>203 | n=>n,fun | 2=>1 | 3=>2 | n=>n⟩
theorem Tryz.lays7_32:Go.Proofs.Lays7.n32 Tryz.prog Tryz.lays7_32_ren:={
 mixed:=by kernel_rfl
 f32:=Tryz.func98.trans (congrArg some (by kernel_rfl))
 f49:=Tryz.func168.trans (congrArg some (by kernel_rfl))
 t0:=Tryz.underlying0
 a0:=Tryz.isAgg0
 z0:=Tryz.sizeOf0
 v0:=Tryz.zeroValue0
 i0:=by kernel_rfl
 t3:=Tryz.underlying3
 a3:=Tryz.isAgg3
 z3:=Tryz.sizeOf3
 v3:=Tryz.zeroValue3
 i3:=by kernel_rfl
 t4:=Tryz.underlying4
 a4:=Tryz.isAgg4
 z4:=Tryz.sizeOf4
 v4:=Tryz.zeroValue4
 i4:=by kernel_rfl
 t5:=Tryz.underlying5
 a5:=Tryz.isAgg5
 z5:=Tryz.sizeOf5
 v5:=Tryz.zeroValue5
 i5:=by kernel_rfl
 t21:=Tryz.underlying21
 a21:=Tryz.isAgg21
 z21:=Tryz.sizeOf21
 v21:=Tryz.zeroValue21
 i21:=by kernel_rfl
 t25:=Tryz.underlying200
 a25:=Tryz.isAgg200
 z25:=Tryz.sizeOf200
 v25:=Tryz.zeroValue200
 i25:=by kernel_rfl
 t30:=Tryz.underlying25
 a30:=Tryz.isAgg25
 z30:=Tryz.sizeOf25
 v30:=Tryz.zeroValue25
 i30:=by kernel_rfl
 t33:=Tryz.underlying121
 a33:=Tryz.isAgg121
 z33:=Tryz.sizeOf121
 v33:=Tryz.zeroValue121
 i33:=by kernel_rfl
 t66:=Tryz.underlying201
 a66:=Tryz.isAgg201
 z66:=Tryz.sizeOf201
 t68:=Tryz.underlying203
 a68:=Tryz.isAgg203
 z68:=Tryz.sizeOf203
 v68:=Tryz.zeroValue203
 i68:=by kernel_rfl
 t69:=Tryz.underlying204
 a69:=Tryz.isAgg204
 z69:=Tryz.sizeOf204
 v69:=Tryz.zeroValue204
 i69:=by kernel_rfl
 g2:=by kernel_rfl
 g3:=by kernel_rfl }
open Go.RowKit Go.Lib in
theorem Tryz.utf8_DecodeRune (s:ByteArray) (b off cap:Nat) (w:World) (hT:Lib.Utf8Tabs 1 2 w) (hp:∀ j,j<s.size->w.cell? ⟨b,off+j,none⟩=some (.int .u8 (s.get! j).toNat)):
  Calls Tryz.prog 98 #[.slice (some ⟨b,off,none⟩) s.size cap] w fun e w'=>e= .returned (.tuple #[.int .i32 (Lib.decodeGo s).1,.int .i64 (Lib.decodeGo s).2])/\Below w.heap.size w w':=Any7.utf8_DecodeRune Tryz.lays7_32 s b off cap w hT hp
def Tryz.lays2_21_ren:Go.Shelf.Ren:=⟨fun | 21=>363 | 27=>371 | 28=>372 | 35=>375 | 39=>376 | n=>n,fun | 22=>150 | 3=>3 | 4=>4 | 0=>0 | n=>n,fun | n=>n⟩
theorem Tryz.lays2_21:Go.Proofs.Lays2.n21 Tryz.prog Tryz.lays2_21_ren:={
 mixed:=by kernel_rfl
 f21:=Tryz.func363.trans (congrArg some (by kernel_rfl))
 f27:=Tryz.func371.trans (congrArg some (by kernel_rfl))
 f28:=Tryz.func372.trans (congrArg some (by kernel_rfl))
 f35:=Tryz.func375.trans (congrArg some (by kernel_rfl))
 f39:=Tryz.func376.trans (congrArg some (by kernel_rfl))
 t0:=Tryz.underlying0
 a0:=Tryz.isAgg0
 z0:=Tryz.sizeOf0
 v0:=Tryz.zeroValue0
 t3:=Tryz.underlying3
 a3:=Tryz.isAgg3
 z3:=Tryz.sizeOf3
 v3:=Tryz.zeroValue3
 t4:=Tryz.underlying4
 a4:=Tryz.isAgg4
 z4:=Tryz.sizeOf4
 v4:=Tryz.zeroValue4
 t22:=Tryz.underlying150
 a22:=Tryz.isAgg150
 z22:=Tryz.sizeOf150
 v22:=Tryz.zeroValue150
 i3:=by kernel_rfl }
end Go.Proofs
