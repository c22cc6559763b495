/- Part 5: lemmas. -/
import Derived.Test.YtonomfeipkdmhaaGreatDoorK04
import Derived.Lib.AppendStr
set_option linter.unusedVariables false
set_option linter.unusedSimpArgs false
set_option maxRecDepth 100000
set_option maxHeartbeats 16000000
namespace Go.Proofs.YtonomfeipkdmhaaGreatDoor
open Go.RowKit
theorem Ahq:E1 Tryz.prog 25 5 (.int .u8 0) 1:= .mk' Tryz.underlying25 (by kernel_rfl) rfl
def AV (l:List Nat):Array Value:=(l.map fun n:Nat=>Value.int .u16 (n:Int)).toArray
def U8 (l:List Nat):Value:= .agg (AV l)
structure Tu (l:List Nat):Prop where
 len:l.length=8
 lt:∀ x∈l,x<65536
def pc (l:List Nat) (i:Nat):Nat:=l.getD i 0
theorem Tu.at {l:List Nat} (h:Tu l) (i:Nat) (hi:i<8):pc l i<65536/\(AV l)[i]? =some (.int .u16 ((pc l i:Nat):Int)):=by
 unfold pc
 have hi2:i<l.length:=by rw [h.len];exact hi
 have e:l.getD i 0=l[i]:=by simp [List.getD,hi2]
 rw [e]
 exact ⟨h.lt _ (List.getElem_mem hi2),by simp [AV,hi2]⟩
def Ef:List Nat->Nat
 | []=>0
 | x :: r=>if x=0 then Ef r+1 else 0
theorem YQ (l:List Nat):Ef l<=l.length:=by
 induction l with
 | nil=>exact Nat.le_refl _
 | cons x r ih=>unfold Ef;split<;>simp<;>omega
theorem EL {l:List Nat} (i:Nat) (hi:i<l.length):l.drop i=pc l i :: l.drop (i+1):=by
 unfold pc;rw [List.drop_eq_getElem_cons hi];simp [List.getD,hi]
def FW:Nat->List Nat->Nat->Nat->Nat->Nat × Nat
 | 0,_,_,b,e=>(b,e)
 | f+1,l,i,b,e=>
  if i<8 then (if 2<=Ef (l.drop i)/\e - b<Ef (l.drop i) then FW f l (i+Ef (l.drop i)+1) i (i+Ef (l.drop i)) else FW f l (i+Ef (l.drop i)+1) b e) else (b,e)
def AT (l:List Nat):Nat × Nat:=FW 8 l 0 0 0
theorem Aal (f:Nat) (l:List Nat) (i b e:Nat) (h:8<=i):FW f l i b e=(b,e):=by
 cases f with
 | zero=>rfl
 | succ f=>rw [FW,if_neg (by omega)]
theorem PG (l:List Nat) (h:Tu l) (w:World):
  Calls Tryz.prog 160 #[U8 l] w fun e w'=>e= .returned (.tuple #[.int .i64 ((AT l).1:Int),.int .i64 ((AT l).2:Int)])/\((AT l).1<=(AT l).2/\(AT l).2<=8)/\Below w.heap.size w w':=by
 have hcell:∀ i,i<8->(w.alloc (.cells (AV l) 30)).cell? ⟨w.heap.size,i,none⟩=some (.int .u16 ((pc l i:Nat):Int)):=by
  intro i hi;rw [World.cell?_alloc_at _ _ _ _ rfl];exact (h.at i hi).2
 have hbel:Below w.heap.size w (w.alloc (.cells (AV l) 30)):=(Below.refl _ _).alloc (Nat.le_refl _) _;unfold U8;go_enter Tryz.func160,Tryz.ntmps160;replace hcell:=H0 hcell;go_wp2_with fail
 go_loop [4,5,6] (fun bv ev iv=>∃ (f i b e:Nat),bv= .int .i64 b/\ev= .int .i64 e/\iv= .int .i64 i/\i<=9/\b<=e/\e<=8/\8<=i+f/\Hid (FW f l i b e=AT l)) (fun _ _ i=>9 - (intOf i).toNat)
 case atStart=>exact ⟨8,0,0,0,rfl,rfl,rfl,by omega,by omega,by omega,by omega,rfl⟩
 case round=>
  obtain ⟨f,i,b,e,rfl,rfl,rfl,hi,hbe,he,hf,hr⟩:=hrel
  by_cases hlt:i<8
  ·obtain ⟨f,rfl⟩:∃ g,f=g+1:=⟨f - 1,by omega⟩
   have hlt2:(i:Int)<8:=by omega
   have hzl:i+Ef (l.drop i)<=8:=by
    have:=YQ (l.drop i);rw [List.length_drop,h.len] at this;omega
   generalize hz:Ef (l.drop i)=z at hzl
   have hr2:Hid (AT l=if 2<=z/\e - b<z then FW f l (i+z+1) i (i+z) else FW f l (i+z+1) b e):=H0 (by
    rw [<-hr.out,FW,if_pos hlt,hz])
   replace hz:=H0 hz;clear hr;go_wp2_with fail
   go_loop [7] (fun jv=>∃ j:Nat,jv= .int .i64 j/\i<=j/\j<=8/\Hid (j+Ef (l.drop j)=i+z)) (fun j=>8 - (intOf j).toNat)
   case atStart=>exact ⟨i,rfl,Nat.le_refl _,by omega,H0 (by rw [hz.out])⟩
   case round=>
    obtain ⟨j,rfl,hij,hj8,hj⟩:=hrel
    by_cases hgo:j<8/\pc l j=0
    ·obtain ⟨hj1,hj0⟩:=hgo;have hc:=hcell.out j hj1
     have hdr:=H0 (EL (l:=l) j (by rw [h.len];exact hj1))
     rw [hj0] at hc
     have hj1I:(j:Int)<8:=by omega
     replace hj0:=H0 hj0;go_wp2_with fail;go_round
     case rel=>exact ⟨j+1,by go_num,by omega,by omega,H0 (by rw [<-hj.out,hdr.out,Ef,if_pos hj0.out];omega)⟩
     case measure=>simp [intOf];omega
    ·have hend:Hid (j=i+z):=H0 (by
      rw [<-hj.out]
      by_cases h8:j<8
      ·rw [EL j (by rw [h.len];exact h8),Ef,if_neg (fun e=>hgo ⟨h8,e⟩)];rfl
      ·rw [List.drop_of_length_le (by rw [h.len];omega)];rfl)
     have hor:((j:Int)<8/\(w.alloc (.cells (AV l) 30)).cell? ⟨w.heap.size,j,none⟩=some (.int .u16 ((pc l j:Nat):Int))/\(((pc l j:Nat):Int)==0)=false)\/8<=(j:Int):=by
      by_cases h8:j<8
      ·exact .inl ⟨by omega,hcell.out j h8,by simp only [beq_eq_false_iff_ne,ne_eq];intro e;exact hgo ⟨h8,by omega⟩⟩
      ·exact .inr (by omega)
     clear hgo
     have hzz:z=j - i:=by have:=hend.out;omega
     replace hzz:=H0 hzz
     by_cases htake:2<=j - i/\e - b<j - i
     ·have t1:(2:Int)<=(j:Int) - (i:Int):=by omega
      have t2:(e:Int) - (b:Int)<(j:Int) - (i:Int):=by omega
      have hnew:Hid (FW f l (j+1) i j=AT l):=H0 (by
       rw [hr2.out,<-hend.out,if_pos (by rw [hzz.out];exact htake)])
      clear htake
      rcases hor with ⟨h8,hc,hne⟩ | h8
      all_goals
       go_wp2_with fail;go_round
       case rel=>exact ⟨f,j+1,i,j,rfl,rfl,by go_num,by omega,by omega,by omega,by omega,hnew⟩
       case measure=>simp [intOf];omega
     ·have hnew:Hid (FW f l (j+1) b e=AT l):=H0 (by
       rw [hr2.out,<-hend.out,if_neg (by rw [hzz.out];exact htake)])
      have hcs:(j:Int) - (i:Int)<2\/(2:Int)<=(j:Int) - (i:Int)/\(j:Int) - (i:Int)<=(e:Int) - (b:Int):=by omega
      clear htake
      rcases hor with ⟨h8,hc,hne⟩ | h8<;>rcases hcs with t1 | ⟨t1,t2⟩
      all_goals
       go_wp2_with fail;go_round
       case rel=>exact ⟨f,j+1,b,e,rfl,rfl,by go_num,by omega,by omega,by omega,by omega,hnew⟩
       case measure=>simp [intOf];omega
  ·have hfin:Hid (AT l=(b,e)):=H0 (by rw [<-hr.out,Aal _ _ _ _ _ (by omega)])
   have hge:(8:Int)<=(i:Int):=by omega
   clear hr;go_wp2_with fail;go_ret2;rw [hfin.out];exact ⟨rfl,⟨hbe,he⟩,hbel⟩
theorem OZ {ops:Array Oper} {rest:List Oper} {o:Oper} {a:Act} {Q:Exit->Act->World->Prop}
  (hgd:o.guard=none) (s x:Operand) (ho:o.op= .call { callee:= .builtin .append,args:= #[s,x],argTypes:= #[25,9] })
  {W0 w0:World} {B:Nat} {v:Value} {l:List UInt8} (t:ByteArray) (hs:a.eval s=v) (hx:a.eval x= .string t)
  (hown:CA w0 B 5 v l) (hbel:Below B W0 w0) (hB:B<=w0.heap.size) (hsz:l.length+t.size<=1099511627776)
  (h:∀ v' w',CA w' B 5 v' (l++t.toList)->Below B W0 w'->wpList Tryz.prog ops Q rest (a.put o.dst v') w'):wpList Tryz.prog ops Q (o :: rest) a w0:=by
 obtain ⟨i0,hi,hz0,hz1,hz2⟩:=info_parts Wp
 refine Lib.wpList_append_own_string _ hgd s x 25 9 ho B 5 i0 Tryz.underlying25 Tryz.underlying9 hi hz0 hz1 hz2 v l.length _ hs (GG.1 hown) t hx (by unfold maxLen;omega) (by omega) hB ?_
 intro v' w' hown' hgrow _
 refine h v' w' (GG.2 ?_) (hbel.grown hgrow hB (fun k hk=>(World.ownsRow.lt hown k hk).1))
 rw [List.length_append,Aa]
 have e:Lib.byteCells (l++t.toList)=Lib.byteCells l++Lib.strCells t:=by simp [Lib.byteCells,Lib.strCells,ByteArray.toList_eq]
 rw [e];exact hown'
theorem SX {l:List Nat} (h:Tu l):U8 l= .agg #[.int .u16 ((pc l 0:Nat):Int),.int .u16 ((pc l 1:Nat):Int),.int .u16 ((pc l 2:Nat):Int),.int .u16 ((pc l 3:Nat):Int),.int .u16 ((pc l 4:Nat):Int),.int .u16 ((pc l 5:Nat):Int),.int .u16 ((pc l 6:Nat):Int),.int .u16 ((pc l 7:Nat):Int)]:=by
 have hl:=h.len
 match l,hl with
 | [a,b,c,d,e,f,g,h],_=>rfl
def Cd:Nat->List Nat->Nat->Nat->Nat->List UInt8
 | 0,_,_,_,_=>[]
 | f+1,l,b,e,i=>
  if i<8 then (if i=b/\b<e then [58,58]++Cd f l b e e else (if 0<i/\(i≠e\/e=b) then [58] else [])++Fd (pc l i)++Cd f l b e (i+1)) else []
def Ey (l:List Nat):List UInt8:=Cd 8 l (AT l).1 (AT l).2 0
theorem Rq (f:Nat) (l:List Nat) (b e i:Nat) (h:8<=i):Cd f l b e i=[]:=by
 cases f with
 | zero=>rfl
 | succ f=>rw [Cd,if_neg (by omega)]
theorem U7:∀ f n,(FC f n).length<=f
 | 0,_=>Nat.le_refl _
 | f+1,n=>by
  have:=U7 f (n / 16)
  unfold FC;split<;>simp<;>omega
theorem LZ (n:Nat):(Fd n).length<=4:=U7 4 n
theorem TF (l:List Nat) (h:Tu l) (w:World) (ht:Ij w):
  Calls Tryz.prog 93 #[U8 l] w (Cy w (Ey l)):=by
 have hcell:∀ i,i<8->(w.alloc (.cells (AV l) 30)).cell? ⟨w.heap.size,i,none⟩=some (.int .u16 ((pc l i:Nat):Int)):=by
  intro i hi;rw [World.cell?_alloc_at _ _ _ _ rfl];exact (h.at i hi).2
 have hbel0:Below w.heap.size w (w.alloc (.cells (AV l) 30)):=(Below.refl _ _).alloc (Nat.le_refl _) _;have hsv:=SX h;replace hcell:=H0 hcell;replace hsv:=H0 hsv
 have c0:=hcell.out 0 (by decide)
 have c1:=hcell.out 1 (by decide)
 have c2:=hcell.out 2 (by decide)
 have c3:=hcell.out 3 (by decide)
 have c4:=hcell.out 4 (by decide)
 have c5:=hcell.out 5 (by decide)
 have c6:=hcell.out 6 (by decide)
 have c7:=hcell.out 7 (by decide)
 unfold U8;go_enter Tryz.func93,Tryz.ntmps93;go_wp2_with fail;rw [<-hsv.out];refine (PG l h _).mono ?_;rintro e w2 ⟨rfl,⟨hbe,he8⟩,hb⟩
 have hcell2:Hid (∀ i,i<8->w2.cell? ⟨w.heap.size,i,none⟩=some (.int .u16 ((pc l i:Nat):Int))):=H0 (fun i hi=>(hb.cell (by simp)).trans (hcell.out i hi))
 have hbel2:=hbel0.next hb
 have hsz2:=hbel2.size
 have ht2:=ht.next hbel2
 have hlt2:w.heap.size<w2.heap.size:=by have:=hb.size;simp at this;omega
 clear c0 c1 c2 c3 c4 c5 c6 c7 hcell hb hbel0;have hL:Hid (Ey l=Cd 8 l (AT l).1 (AT l).2 0):=rfl;generalize (AT l).1=b at hL hbe⊢;generalize (AT l).2=e at hL hbe he8⊢;go_wp2_with fail
 go_loopw [5,6] (fun ov iv wr=>∃ (f i:Nat) (P:List UInt8),iv= .int .i64 i/\i<=8/\8<=i+f/\P.length<=6 * i/\Hid (P++Cd f l b e i=Ey l)/\CA wr w2.heap.size 5 ov P/\Below w2.heap.size w2 wr) (fun _ i _=>8 - (intOf i).toNat)
 case atStart=>exact ⟨8,0,[],rfl,by omega,by omega,by simp,H0 hL.out.symm,CA.nil _ _ _,Below.refl _ _⟩
 case round=>
  obtain ⟨f,i,P,rfl,hi,hf,hP,hr,hown,hbel⟩:=hrel;have hsz:=hbel.size
  by_cases hlt:i<8
  ·obtain ⟨f,rfl⟩:∃ g,f=g+1:=⟨f - 1,by omega⟩
   have hltI:(i:Int)<8:=by omega
   by_cases hA:i=b/\b<e
   ·have g1:((i:Int)==(b:Int))=true:=by simp [hA.1]
    have g2:(b:Int)<(e:Int):=by omega
    have hi2:i<e:=by omega
    have hnew:Hid ((P++[58,58])++Cd f l b e e=Ey l):=H0 (by rw [<-hr.out,Cd,if_pos hlt,if_pos hA];simp)
    have htx:(ByteArray.mk #[58,58]).toList=[58,58]:=toList_mk _;replace htx:=H0 htx;clear hA
    go_wp2_with (at_builtin;refine OZ rfl _ _ rfl ⟨#[58,58]⟩ rfl rfl hown hbel hsz (by show P.length+2<=_;omega) ?_;intro v' w' ho' hb')
    go_roundw
    case rel=>exact ⟨f,e,P++[58,58],by go_num,by omega,by omega,by simp;omega,hnew,by rw [<-htx.out];exact ho',hb'⟩
    case measure=>simp [intOf];omega
   ·have hA2:((i:Int)==(b:Int))=false\/((i:Int)==(b:Int))=true/\(e:Int)<=(b:Int):=by
     by_cases h1:i=b
     ·exact .inr ⟨by simp [h1],by omega⟩
     ·exact .inl (beq_eq_false_iff_ne.2 (by omega))
    have hcl:=hcell2.out i hlt;have hcw:wr.cell? ⟨w.heap.size,i,none⟩=some (.int .u16 ((pc l i:Nat):Int)):=(hbel.cell hlt2).trans hcl;have hpl:=H0 (h.at i hlt).1
    have hplI:Hid (IntKind.u64.wrap ((pc l i:Nat):Int)=((pc l i:Nat):Int)):=H0 (Gf _ (by omega) (by have:=hpl.out;omega))
    have hx4:=LZ (pc l i)
    by_cases hc:0<i/\(i≠e\/e=b)
    ·have hnew:Hid ((P++[58]++Fd (pc l i))++Cd f l b e (i+1)=Ey l):=H0 (by rw [<-hr.out,Cd,if_pos hlt,if_neg hA,if_pos hc];simp)
     have k0:(0:Int)<(i:Int):=by omega
     have hc2:((i:Int) != (e:Int))=true\/((i:Int) != (e:Int))=false/\((e:Int)==(b:Int))=true:=by
      by_cases h1:i=e
      ·have:e=b:=by rcases hc.2 with h2 | h2;exact absurd h1 h2;exact h2
       exact .inr ⟨by simp [h1],by simp [this]⟩
      ·exact .inl (by simp;omega)
     clear hA hc hcl
     rcases hA2 with g1 | ⟨g1,g2⟩<;>rcases hc2 with g3 | ⟨g3,g4⟩
     all_goals
      go_wp2_with (at_builtin;refine A8 Ahq rfl _ _ rfl 58 rfl rfl hown hbel hsz rfl (by unfold maxLen;omega) (by omega) ?_;intro v1 w1 ho1 hb1 _;have hcw1:=(hb1.cell hlt2).trans (hcell2.out i hlt))
      refine (HD w2.heap.size (pc l i) _ hplI.out hpl.out _ _ _ ho1 (ht2.next hb1) hb1.size (by simp;omega)).mono ?_
      rintro e' w3 ⟨v3,rfl,ho3,hb3⟩;go_wp2_with fail;go_roundw
      case rel=>exact ⟨f,i+1,_,by go_num,by omega,by omega,by simp;omega,hnew,ho3,hb1.trans hb3⟩
      case measure=>simp [intOf];omega
    ·have hnew:Hid ((P++Fd (pc l i))++Cd f l b e (i+1)=Ey l):=H0 (by rw [<-hr.out,Cd,if_pos hlt,if_neg hA,if_neg hc];simp)
     have hc2:(i:Int)<=0\/(0:Int)<(i:Int)/\((i:Int) != (e:Int))=false/\((e:Int)==(b:Int))=false:=by
      by_cases h0:0<i
      ·have h1:i=e:=by
        by_cases h1:i=e
        ·exact h1
        ·exact absurd ⟨h0,.inl h1⟩ hc
       have h2:¬ e=b:=fun h2=>hc ⟨h0,.inr h2⟩
       exact .inr ⟨by omega,by simp [h1],beq_eq_false_iff_ne.2 (by omega)⟩
      ·exact .inl (by omega)
     clear hA hc hcl
     rcases hA2 with g1 | ⟨g1,g2⟩<;>rcases hc2 with g3 | ⟨g3,g4,g5⟩
     all_goals
      go_wp2_with fail
      refine (HD w2.heap.size (pc l i) _ hplI.out hpl.out _ _ _ hown (ht2.next hbel) hsz (by omega)).mono ?_
      rintro e' w3 ⟨v3,rfl,ho3,hb3⟩;go_wp2_with fail;go_roundw
      case rel=>exact ⟨f,i+1,_,by go_num,by omega,by omega,by simp;omega,hnew,ho3,hbel.trans hb3⟩
      case measure=>simp [intOf];omega
  ·have hfin:Hid (P=Ey l):=H0 (by rw [<-hr.out,Rq _ _ _ _ _ (by omega),List.append_nil])
   have hgeI:(8:Int)<=(i:Int):=by omega
   have hcv:=Hu (P:=Tryz.prog) (S:=9) Tryz.underlying25 Tryz.underlying5 Tryz.underlying9 hown;clear hr;go_wp2_with fail;go_ret
   exact F6 hfin.out (hbel2.next hbel)
def TX (nb:Bool):List (List UInt8)->Option (List Nat)
 | []=>some []
 | [t]=>C3 true nb t
 | t :: u :: r=>match C3 false nb t with | none=>none | some x=>(TX nb (u :: r)).map fun y=>x++y
theorem Xp (c:UInt8) (l:List UInt8):Ay c l=(Af c l).1 :: (if (Af c l).2.2=true then Ay c (Af c l).2.1 else []):=by
 induction l with
 | nil=>rfl
 | cons d r ih=>
  rw [Da];unfold Af
  by_cases h:d=c
  ·simp [h]
  ·simp only [h,if_false];rw [ih];rfl
theorem NN (nb:Bool):∀ f l,l.length<f->HI nb f l=TX nb (Ay 58 l)
 | 0,l,h=>by omega
 | f+1,l,h=>by
  rw [HI,Xp];cases hm:(Af 58 l).2.2
  ·simp only [Bool.not_false,Bool.false_eq_true,if_false];rw [TX]
   cases C3 true nb (Af 58 l).1<;>rfl
  ·have hs:=Oz hm
   have ih:=NN nb f (Af 58 l).2.1 (by omega)
   obtain ⟨u,r,hu⟩:∃ u r,Ay 58 (Af 58 l).2.1=u :: r:=by
    cases hq:Ay 58 (Af 58 l).2.1 with
    | nil=>exact absurd hq (Ds _ _)
    | cons u r=>exact ⟨u,r,rfl⟩
   rw [if_pos rfl,hu,TX,ih,hu];rfl
theorem Yf (nb:Bool) (l:List UInt8):ZC nb l=if l=[] then some [] else TX nb (Ay 58 l):=by
 unfold ZC;rw [NN nb _ l (by omega)]
def BY:List (List UInt8)->List UInt8
 | []=>[]
 | [t]=>t
 | t :: u :: r=>t++58 :: BY (u :: r)
theorem Eu (t:List UInt8) (r:List (List UInt8)):BY (t :: r)=t++(if r=[] then [] else 58 :: BY r):=by
 cases r with
 | nil=>simp [BY]
 | cons u r=>simp [BY]
def Bet (t:List UInt8):Prop:=t≠[]/\∀ c∈t,c≠58
theorem Pv:∀ ts:List (List UInt8),ts≠[]->(∀ t∈ts,∀ c∈t,c≠58)->Ay 58 (BY ts)=ts
 | [],h,_=>absurd rfl h
 | [t],_,h=>JT t (h t (by simp))
 | t :: u :: r,_,h=>by
  rw [BY,Hj,JT t (h t (by simp)),Pv (u :: r) (by simp) (fun x hx=>h x (by simp at hx⊢;exact .inr hx))]
  rfl
theorem UF {ts:List (List UInt8)} (h:ts≠[]) (hb:∀ t∈ts,Bet t):BY ts≠[]:=by
 cases ts with
 | nil=>exact absurd rfl h
 | cons t r=>
  rw [Eu];intro e
  exact (hb t (by simp)).1 (List.append_eq_nil_iff.1 e).1
theorem AaX (nb:Bool) {ts:List (List UInt8)} (hb:∀ t∈ts,Bet t):ZC nb (BY ts)=TX nb ts:=by
 rw [Yf]
 by_cases h:ts=[]
 ·subst h;rfl
 ·rw [if_neg (UF h hb),Pv ts h (fun t ht=>(hb t ht).2)]
theorem AbL:HK []=([],[],false):=by decide
theorem Kk (c:UInt8) (r:List UInt8):HK (c :: r)=if c=58/\r.head? =some 58 then ([],r.tail,true) else (c :: (HK r).1,(HK r).2.1,(HK r).2.2):=by
 unfold HK Lib.cut
 have hp:([58,58]:List UInt8).isPrefixOf (c :: r)=decide (c=58/\r.head? =some 58):=by
  cases r with
  | nil=>simp [List.isPrefixOf]
  | cons d r=>
   simp only [List.isPrefixOf,List.head?_cons,Option.some.injEq];rw [Bool.eq_iff_iff];simp only [Bool.and_true,Bool.and_eq_true,beq_iff_eq,decide_eq_true_eq]
   exact ⟨fun ⟨a,b⟩=>⟨a.symm,b.symm⟩,fun ⟨a,b⟩=>⟨a.symm,b.symm⟩⟩
 rw [Lib.index,hp]
 by_cases h:c=58/\r.head? =some 58
 ·rw [decide_eq_true h,if_pos h]
  cases r with
  | nil=>simp at h
  | cons d r=>simp
 ·rw [decide_eq_false h,if_neg h];have hg:=Lib.index_ge r [58,58]
  by_cases h1:Lib.index r [58,58]= -1
  ·simp [h1]
  ·have h0:0<=Lib.index r [58,58]:=by omega
   have e2:0<=Lib.index r [58,58]+1:=by omega
   have e:(Lib.index r [58,58]+1).toNat=(Lib.index r [58,58]).toNat+1:=by omega
   have e3:(Lib.index r [58,58]).toNat+1+2=((Lib.index r [58,58]).toNat+2)+1:=by omega
   simp [h1,h0,e,e2]
def FZ:List UInt8->Bool
 | []=>false
 | c :: r=>decide (c=58/\r.head? =some 58) || FZ r
theorem RB:∀ l,FZ l=false->HK l=(l,[],false)
 | [],_=>AbL
 | c :: r,h=>by
  unfold FZ at h;rw [Bool.or_eq_false_iff,decide_eq_false_iff_not] at h;rw [Kk,if_neg h.1,RB r h.2]
theorem Y8:∀ (X Y:List UInt8),FZ X=false->X.getLast? ≠some 58->HK (X++58 :: 58 :: Y)=(X,Y,true)
 | [],Y,_,_=>by rw [List.nil_append,Kk,if_pos ⟨rfl,rfl⟩];rfl
 | c :: r,Y,h,hl=>by
  unfold FZ at h;rw [Bool.or_eq_false_iff,decide_eq_false_iff_not] at h;rw [List.cons_append,Kk]
  cases r with
  | nil=>
   have hc:c≠58:=by rintro rfl;exact hl rfl
   rw [if_neg (fun h=>hc h.1),List.nil_append,Kk,if_pos ⟨rfl,rfl⟩];rfl
  | cons d r=>
   rw [if_neg (by simpa using h.1),Y8 (d :: r) Y h.2 (by rw [List.getLast?_cons_cons] at hl;exact hl)]
theorem PW (c:UInt8) (r:List UInt8):FZ (c :: r)=(decide (c=58/\r.head? =some 58) || FZ r):=rfl
theorem Adw:∀ (a b:List UInt8),FZ (a++b)=(FZ a || decide (a.getLast? =some 58/\b.head? =some 58) || FZ b)
 | [],b=>by simp [FZ]
 | [c],b=>by simp [FZ]
 | c :: d :: r,b=>by
  have ih:=Adw (d :: r) b;rw [List.cons_append,PW,ih,PW c (d :: r),List.getLast?_cons_cons];simp only [List.cons_append,List.head?_cons,Bool.or_assoc];rfl
theorem UO {t:List UInt8} (h:∀ c∈t,c≠58):FZ t=false:=by
 induction t with
 | nil=>rfl
 | cons c r ih=>
  unfold FZ
  rw [ih (fun x hx=>h x (by simp [hx])),decide_eq_false (fun e=>h c (by simp) e.1)];rfl
theorem YG {t:List UInt8} (h:∀ c∈t,c≠58):t.getLast? ≠some 58:=fun e=>h 58 (List.mem_of_getLast? e) rfl
theorem Aev {t:List UInt8} (h:∀ c∈t,c≠58):t.head? ≠some 58:=fun e=>h 58 (List.mem_of_head? e) rfl
theorem AaQ {ts:List (List UInt8)} (hb:∀ t∈ts,Bet t):(BY ts).head? ≠some 58:=by
 cases ts with
 | nil=>simp [BY]
 | cons t r=>
  obtain ⟨h1,h2⟩:=hb t (by simp)
  rw [Eu]
  cases t with
  | nil=>exact absurd rfl h1
  | cons c t=>rw [List.cons_append,List.head?_cons];exact Aev (t:=c :: t) h2
theorem RW:∀ {ts:List (List UInt8)},(∀ t∈ts,Bet t)->(BY ts).getLast? ≠some 58
 | [],_=>by simp [BY]
 | [t],hb=>YG (hb t (by simp)).2
 | t :: u :: r,hb=>by
  have ih:=RW (ts:=u :: r) (fun x hx=>hb x (by simp at hx⊢;exact .inr hx))
  have hn:=UF (ts:=u :: r) (by simp) (fun x hx=>hb x (by simp at hx⊢;exact .inr hx))
  rw [BY,List.getLast?_append]
  cases hj:BY (u :: r) with
  | nil=>exact absurd hj hn
  | cons x y=>
   rw [hj] at ih;rw [List.getLast?_cons_cons]
   cases hq:(x :: y).getLast? with
   | none=>simp at hq
   | some z=>rw [hq] at ih;simpa using ih
theorem TT:∀ {ts:List (List UInt8)},(∀ t∈ts,Bet t)->FZ (BY ts)=false
 | [],_=>rfl
 | [t],hb=>UO (hb t (by simp)).2
 | t :: u :: r,hb=>by
  have hb2:∀ x∈u :: r,Bet x:=fun x hx=>hb x (by simp at hx⊢;exact .inr hx)
  have ih:=TT hb2
  rw [BY,Adw,UO (hb t (by simp)).2,decide_eq_false (fun e=>YG (hb t (by simp)).2 e.1),FZ,ih,decide_eq_false (fun e=>AaQ hb2 e.2)]
  rfl
def Tk (g:Nat->List UInt8) (l:List Nat):Prop:=∀ n∈l,Bet (g n)/\∀ last nb,C3 last nb (g n)=some [n]
theorem Tk.bet {g:Nat->List UInt8} {l:List Nat} (h:Tk g l):∀ t∈l.map g,Bet t:=by
 intro t ht;obtain ⟨n,hn,rfl⟩:=List.mem_map.1 ht;exact (h n hn).1
theorem St {g:Nat->List UInt8} (nb:Bool):∀ {l:List Nat},Tk g l->TX nb (l.map g)=some l
 | [],_=>rfl
 | [n],h=>(h n (by simp)).2 true nb
 | n :: m :: r,h=>by
  have ih:=St nb (l:=m :: r) (fun x hx=>h x (by simp at hx⊢;exact .inr hx))
  rw [List.map_cons,List.map_cons] at *
  rw [TX,(h n (by simp)).2 false nb]
  dsimp only;rw [ih];rfl
theorem M2 {g:Nat->List UInt8} (nb:Bool) {l:List Nat} (h:Tk g l) (h8:l.length<=8):D4 nb (BY (l.map g))=some l:=by
 unfold D4;rw [AaX nb h.bet,St nb h];dsimp only;rw [if_pos h8]
theorem XC {g:Nat->List UInt8} {l:List Nat} (h:Tk g l) (h8:l.length=8):FP (BY (l.map g))=some l:=by
 unfold FP
 rw [RB _ (TT h.bet),if_neg (by simp),M2 true h (by omega)]
 dsimp only;rw [if_pos h8]
theorem Abw {g:Nat->List UInt8} {l m:List Nat} (h:Tk g l) (k:Tk g m) (h8:l.length+m.length<8):
  FP (BY (l.map g)++58 :: 58 :: BY (m.map g))=some (l++(List.replicate (8 - l.length - m.length) 0++m)):=by
 unfold FP;rw [Y8 _ _ (TT h.bet) (RW h.bet),if_pos rfl];dsimp only
 rw [M2 false h (by omega),M2 true k (by omega)]
 dsimp only;rw [if_pos h8]
theorem L6:∀ f n,∀ c∈FC f n,∃ d,d<16/\c=Bs d
 | 0,n,c,h=>by cases h
 | f+1,n,c,h=>by
  rw [FC] at h;split at h
  ·simp at h;exact ⟨n,by assumption,h⟩
  ·rcases List.mem_append.1 h with h | h
   ·exact L6 f (n / 16) c h
   ·simp at h;exact ⟨n % 16,Nat.mod_lt _ (by decide),h⟩
theorem YJ:∀ d:Fin 16,Bs d.val≠58/\Bs d.val≠46:=by decide+kernel
theorem YP (f n:Nat):FC (f+1) n≠[]:=by rw [FC];split<;>simp
theorem PP (acc d:Nat) (h:d<16):AE 16 acc [Bs d]=some (acc * 16+d):=by
 rw [AE,Nj (b:=16) h (by decide),if_neg (by omega),AE];simp
theorem Rh:∀ f n,n<16 ^ (f+1)->AE 16 0 (FC (f+1) n)=some n
 | 0,n,h=>by
  rw [FC,if_pos (by omega),PP 0 n (by omega)];simp
 | f+1,n,h=>by
  rw [FC]
  by_cases h2:n<16
  ·rw [if_pos h2,PP 0 n h2];simp
  ·rw [if_neg h2,Hq,Rh f (n / 16) (by rw [Nat.pow_succ] at h;omega)]
   show AE 16 (n / 16) [Bs (n % 16)]=some n
   rw [PP _ _ (Nat.mod_lt _ (by decide)),Nat.mul_comm,Nat.div_add_mod]
theorem Tn {t:List UInt8} {v:Nat} (h:Ee t=some v) (h46:∀ c∈t,c≠46) (last nb:Bool):C3 last nb t=some [v]:=by
 rw [Pl (.inr (.inr (by
  cases hc:t.contains 46
  ·rfl
  ·exact absurd rfl (h46 46 (by simpa using hc))))),h];rfl
theorem VC {n:Nat} (h:n<65536):Ee (Fd n)=some n:=by
 unfold Ee Bo
 rw [if_neg (by have:=LZ n;omega),if_neg (show ¬ Fd n=[] from YP 3 n)]
 exact Rh 3 n (by omega)
theorem Mr {l:List Nat} (h:∀ x∈l,x<65536):Tk Fd l:=by
 intro n hn;refine ⟨⟨YP 3 n,?_⟩,Tn (VC (h n hn)) ?_⟩
 ·intro c hc;obtain ⟨d,hd,rfl⟩:=L6 4 n c hc;exact (YJ ⟨d,hd⟩).1
 ·intro c hc;obtain ⟨d,hd,rfl⟩:=L6 4 n c hc;exact (YJ ⟨d,hd⟩).2
def M7:List Bool->Nat
 | []=>0
 | x :: r=>if x=true then M7 r+1 else 0
def Ep:Nat->List Bool->Nat->Nat->Nat->Nat × Nat
 | 0,_,_,b,e=>(b,e)
 | f+1,l,i,b,e=>
  if i<8 then (if 2<=M7 (l.drop i)/\e - b<M7 (l.drop i) then Ep f l (i+M7 (l.drop i)+1) i (i+M7 (l.drop i)) else Ep f l (i+M7 (l.drop i)+1) b e) else (b,e)
def isZ (n:Nat):Bool:=decide (n=0)
theorem AfD (l:List Nat):Ef l=M7 (l.map isZ):=by
 induction l with
 | nil=>rfl
 | cons x r ih=>rw [Ef,List.map_cons,M7,ih];unfold isZ;simp only [decide_eq_true_eq]
theorem Sz (l:List Nat):∀ f i b e,FW f l i b e=Ep f (l.map isZ) i b e
 | 0,_,_,_=>rfl
 | f+1,i,b,e=>by
  rw [FW,Ep,AfD,List.map_drop,Sz l f,Sz l f]
def SE:List Bool->Bool
 | a :: b :: r=>(a && b) || SE (b :: r)
 | _=>false
def Aby (p:List Bool):Bool:=
 decide ((Ep 8 p 0 0 0).1<=(Ep 8 p 0 0 0).2) && decide ((Ep 8 p 0 0 0).2<=8) &&
  (!decide ((Ep 8 p 0 0 0).1<(Ep 8 p 0 0 0).2) || (decide ((Ep 8 p 0 0 0).1+2<=(Ep 8 p 0 0 0).2) && ((p.take (Ep 8 p 0 0 0).2).drop (Ep 8 p 0 0 0).1).all id)) &&
  (decide ((Ep 8 p 0 0 0).1<(Ep 8 p 0 0 0).2)==SE p)
theorem Afu:∀ a b c d e f g h:Bool,Aby [a,b,c,d,e,f,g,h]=true:=by decide+kernel
theorem J7 {l:List Nat} (h:Tu l):(AT l).1<=(AT l).2/\(AT l).2<=8/\((AT l).1<(AT l).2->(AT l).1+2<=(AT l).2/\(l.take (AT l).2).drop (AT l).1=List.replicate ((AT l).2 - (AT l).1) 0)/\
  decide ((AT l).1<(AT l).2)=SE (l.map isZ):=by
 have hr:Aby (l.map isZ)=true:=by
  have hl:=h.len
  match l,hl with
  | [a,b,c,d,e,f,g,i],_=>exact Afu _ _ _ _ _ _ _ _
 unfold Aby at hr;rw [<-Sz l 8 0 0 0] at hr
 change (decide ((AT l).1<=(AT l).2) && decide ((AT l).2<=8) && (!decide ((AT l).1<(AT l).2) || (decide ((AT l).1+2<=(AT l).2) && (((l.map isZ).take (AT l).2).drop (AT l).1).all id)) && (decide ((AT l).1<(AT l).2)==SE (l.map isZ)))=true at hr
 simp only [Bool.and_eq_true,decide_eq_true_eq,beq_iff_eq,Bool.or_eq_true,Bool.not_eq_true',decide_eq_false_iff_not] at hr;obtain ⟨⟨⟨h1,h2⟩,h3⟩,h4⟩:=hr
 refine ⟨h1,h2,fun hlt=> ?_,h4⟩
 rcases h3 with h3 | ⟨h3,h5⟩
 ·exact absurd hlt h3
 ·refine ⟨h3,?_⟩;rw [List.eq_replicate_iff]
  refine ⟨by rw [List.length_drop,List.length_take,h.len];omega,?_⟩
  intro x hx;rw [<-List.map_take,<-List.map_drop,List.all_map,List.all_eq_true] at h5;have:=h5 x hx;simpa [isZ] using this
theorem YL {l:List Nat} (hl:l.length=8) {b e:Nat} (hbe:b<e):∀ f i,8<=i+f->e<i->Cd f l b e i=if i<8 then 58 :: BY ((l.drop i).map Fd) else []
 | 0,i,h,_=>by rw [if_neg (by omega)];rfl
 | f+1,i,h,he=>by
  rw [Cd]
  by_cases h8:i<8
  ·rw [if_pos h8,if_pos h8,if_neg (by omega),if_pos ⟨by omega,.inl (by omega)⟩,YL hl hbe f (i+1) (by omega) (by omega),EL i (by omega),List.map_cons,Eu]
   by_cases h9:i+1<8
   ·rw [if_pos h9,if_neg (by intro e;have:=congrArg List.length e;simp at this;omega)];simp
   ·rw [if_neg h9,if_pos (by rw [List.drop_of_length_le (by omega)];rfl)];simp
  ·rw [if_neg h8,if_neg h8]
theorem AeB {l:List Nat} (hl:l.length=8) {b e:Nat} (hbe:b<e) (he8:e<=8):∀ f,8<=e+f->Cd f l b e e=BY ((l.drop e).map Fd)
 | 0,h=>by rw [List.drop_of_length_le (by omega)];rfl
 | f+1,h=>by
  rw [Cd]
  by_cases h8:e<8
  ·rw [if_pos h8,if_neg (by omega),if_neg (by omega),YL hl hbe f (e+1) (by omega) (by omega),EL e (by omega),List.map_cons,Eu]
   by_cases h9:e+1<8
   ·rw [if_pos h9,if_neg (by intro e;have:=congrArg List.length e;simp at this;omega)];simp
   ·rw [if_neg h9,if_pos (by rw [List.drop_of_length_le (by omega)];rfl)];simp
  ·rw [if_neg h8,List.drop_of_length_le (by omega)];rfl
theorem UI {l:List Nat} (hl:l.length=8) {b e:Nat} (hbe:b<e) (he8:e<=8):∀ f i,8<=i+f->i<=b->
  Cd f l b e i=(if 0<i/\i<b then [58] else [])++BY (((l.take b).drop i).map Fd)++58 :: 58 :: BY ((l.drop e).map Fd)
 | 0,i,h,hi=>by omega
 | f+1,i,h,hi=>by
  rw [Cd,if_pos (by omega)]
  by_cases hb:i=b
  ·subst hb
   have hz:(l.take i).drop i=[]:=List.drop_of_length_le (by rw [List.length_take];omega)
   rw [if_pos ⟨rfl,hbe⟩,AeB hl hbe he8 f (by omega),if_neg (by omega),hz]
   rfl
  ·have hd:(l.take b).drop i=pc l i :: (l.take b).drop (i+1):=by
    rw [List.drop_take,List.drop_take,EL i (by omega),show b - i=(b - (i+1))+1 by omega,List.take_succ_cons]
   rw [if_neg (fun x=>hb x.1),UI hl hbe he8 f (i+1) (by omega) (by omega),hd,List.map_cons,Eu]
   have hn:((((l.take b).drop (i+1)).map Fd)=[])↔¬ i+1<b:=by
    rw [List.map_eq_nil_iff,List.drop_eq_nil_iff,List.length_take];omega
   by_cases h9:i+1<b
   ·rw [show (if 0<i+1/\i+1<b then ([58]:List UInt8) else [])=[58] from if_pos ⟨by omega,h9⟩,if_neg (fun x=>(hn.1 x) h9)]
    by_cases h0:0<i
    ·rw [show (if 0<i/\(i≠e\/e=b) then ([58]:List UInt8) else [])=[58] from if_pos ⟨h0,.inl (by omega)⟩,show (if 0<i/\i<b then ([58]:List UInt8) else [])=[58] from if_pos ⟨h0,by omega⟩];simp
    ·rw [show (if 0<i/\(i≠e\/e=b) then ([58]:List UInt8) else [])=[] from if_neg (fun x=>h0 x.1),show (if 0<i/\i<b then ([58]:List UInt8) else [])=[] from if_neg (fun x=>h0 x.1)];simp
   ·rw [show (if 0<i+1/\i+1<b then ([58]:List UInt8) else [])=[] from if_neg (fun x=>h9 x.2),if_pos (hn.2 h9),hn.2 h9]
    by_cases h0:0<i
    ·rw [show (if 0<i/\(i≠e\/e=b) then ([58]:List UInt8) else [])=[58] from if_pos ⟨h0,.inl (by omega)⟩,show (if 0<i/\i<b then ([58]:List UInt8) else [])=[58] from if_pos ⟨h0,by omega⟩];simp [BY]
    ·rw [show (if 0<i/\(i≠e\/e=b) then ([58]:List UInt8) else [])=[] from if_neg (fun x=>h0 x.1),show (if 0<i/\i<b then ([58]:List UInt8) else [])=[] from if_neg (fun x=>h0 x.1)];simp [BY]
theorem AcX {l:List Nat} (hl:l.length=8) (b:Nat):∀ f i,8<=i+f->Cd f l b b i=(if 0<i/\i<8 then [58] else [])++BY ((l.drop i).map Fd)
 | 0,i,h=>by rw [if_neg (by omega),List.drop_of_length_le (by omega)];rfl
 | f+1,i,h=>by
  rw [Cd]
  by_cases h8:i<8
  ·rw [if_pos h8,if_neg (by omega),AcX hl b f (i+1) (by omega),EL i (by omega),List.map_cons,Eu]
   have hn:(((l.drop (i+1)).map Fd)=[])↔¬ i+1<8:=by
    rw [List.map_eq_nil_iff,List.drop_eq_nil_iff];omega
   by_cases h9:i+1<8
   ·rw [show (if 0<i+1/\i+1<8 then ([58]:List UInt8) else [])=[58] from if_pos ⟨by omega,h9⟩,if_neg (fun x=>(hn.1 x) h9)]
    by_cases h0:0<i
    ·rw [show (if 0<i/\(i≠b\/b=b) then ([58]:List UInt8) else [])=[58] from if_pos ⟨h0,.inr rfl⟩,show (if 0<i/\i<8 then ([58]:List UInt8) else [])=[58] from if_pos ⟨h0,by omega⟩];simp
    ·rw [show (if 0<i/\(i≠b\/b=b) then ([58]:List UInt8) else [])=[] from if_neg (fun x=>h0 x.1),show (if 0<i/\i<8 then ([58]:List UInt8) else [])=[] from if_neg (fun x=>h0 x.1)];simp
   ·rw [show (if 0<i+1/\i+1<8 then ([58]:List UInt8) else [])=[] from if_neg (fun x=>h9 x.2),if_pos (hn.2 h9),hn.2 h9]
    by_cases h0:0<i
    ·rw [show (if 0<i/\(i≠b\/b=b) then ([58]:List UInt8) else [])=[58] from if_pos ⟨h0,.inr rfl⟩,show (if 0<i/\i<8 then ([58]:List UInt8) else [])=[58] from if_pos ⟨h0,by omega⟩];simp [BY]
    ·rw [show (if 0<i/\(i≠b\/b=b) then ([58]:List UInt8) else [])=[] from if_neg (fun x=>h0 x.1),show (if 0<i/\i<8 then ([58]:List UInt8) else [])=[] from if_neg (fun x=>h0 x.1)];simp [BY]
  ·rw [if_neg h8,if_neg (fun x=>h8 x.2),List.drop_of_length_le (by omega)];rfl
theorem Vn {l:List Nat} (h:Tu l) (hlt:(AT l).1<(AT l).2):Ey l=BY ((l.take (AT l).1).map Fd)++58 :: 58 :: BY ((l.drop (AT l).2).map Fd):=by
 have:=UI h.len hlt (J7 h).2.1 8 0 (by omega) (by omega)
 rw [if_neg (by omega),List.drop_zero,List.nil_append] at this
 exact this
theorem Vw {l:List Nat} (h:Tu l) (hlt:¬ (AT l).1<(AT l).2):Ey l=BY (l.map Fd):=by
 have he:(AT l).2=(AT l).1:=by have:=(J7 h).1;omega
 have:=AcX h.len (AT l).1 8 0 (by omega)
 rw [if_neg (by omega),List.drop_zero,List.nil_append] at this
 unfold Ey;rw [he];exact this
theorem AaT {l:List Nat} (h:Tu l) (hlt:(AT l).1<(AT l).2):l=l.take (AT l).1++(List.replicate ((AT l).2 - (AT l).1) 0++l.drop (AT l).2):=by
 obtain ⟨h1,h2,h3,h4⟩:=J7 h;rw [<-(h3 hlt).2]
 have e:l.take (AT l).1=(l.take (AT l).2).take (AT l).1:=by rw [List.take_take,Nat.min_eq_left (by omega)]
 conv=>lhs;rw [<-List.take_append_drop (AT l).2 l,<-List.take_append_drop (AT l).1 (l.take (AT l).2)]
 rw [e,List.append_assoc]
theorem Zm {l:List Nat} (h:Tu l):FP (Ey l)=some l:=by
 have ht:Tk Fd l:=Mr h.lt
 by_cases hlt:(AT l).1<(AT l).2
 ·obtain ⟨h1,h2,h3,h4⟩:=J7 h
  rw [Vn h hlt,Abw (Mr fun x hx=>h.lt x (List.mem_of_mem_take hx)) (Mr fun x hx=>h.lt x (List.mem_of_mem_drop hx)) (by rw [List.length_take,List.length_drop,h.len];omega)]
  have e:8 - (l.take (AT l).1).length - (l.drop (AT l).2).length=(AT l).2 - (AT l).1:=by rw [List.length_take,List.length_drop,h.len];omega
  rw [e,<-AaT h hlt]
 ·rw [Vw h hlt,XC ht h.len]
def AfH (c:UInt8):Prop:=c=58\/∃ d,d<16/\c=Bs d
theorem J5:∀ {l:List Nat},∀ c∈BY (l.map Fd),AfH c
 | [],c,h=>by cases h
 | n :: r,c,h=>by
  rw [List.map_cons,Eu] at h
  rcases List.mem_append.1 h with h | h
  ·exact .inr (L6 4 n c h)
  ·split at h
   ·cases h
   ·rcases List.mem_cons.1 h with h | h
    ·exact .inl h
    ·exact J5 c h
theorem R1 {l:List Nat} (h:Tu l):∀ c∈Ey l,AfH c:=by
 intro c hc
 by_cases hlt:(AT l).1<(AT l).2
 ·rw [Vn h hlt] at hc
  rcases List.mem_append.1 hc with hc | hc
  ·exact J5 c hc
  ·rcases List.mem_cons.1 hc with hc | hc
   ·exact .inl hc
   ·rcases List.mem_cons.1 hc with hc | hc
    ·exact .inl hc
    ·exact J5 c hc
 ·rw [Vw h hlt] at hc;exact J5 c hc
theorem ZY (c:Int) (b:Int) (h:¬ Ah c b<0):(Ah c b).toNat<b.toNat:=by
 unfold Ah at h⊢;split
 ·rename_i hb;rw [if_pos hb] at h;exact absurd (by decide) h
 ·rename_i hb;rw [if_neg hb] at h;omega
theorem RF (b:Nat):∀ (l:List UInt8) (acc n:Nat),AE b acc l=some n->n<(acc+1) * b ^ l.length
 | [],acc,n,h=>by cases h;simp
 | c :: r,acc,n,h=>by
  rw [AE] at h;split at h
  ·cases h
  ·rename_i hd;have h1:=ZY _ _ hd;rw [Int.toNat_natCast] at h1;have h2:=RF b r _ n h;refine Nat.lt_of_lt_of_le h2 ?_;rw [List.length_cons,Nat.pow_succ,Nat.mul_comm (b ^ r.length) b,<-Nat.mul_assoc];refine Nat.mul_le_mul_right _ ?_;rw [Nat.add_mul];omega
theorem Aar {l:List UInt8} {n:Nat} (h:Ee l=some n):n<65536:=by
 unfold Ee at h;split at h
 ·cases h
 ·rename_i hl;unfold Bo at h;split at h
  ·cases h
  ·have h1:=RF 16 l 0 n h
   have h2:(0+1) * 16 ^ l.length<=16 ^ 4:=by
    rw [Nat.zero_add,Nat.one_mul]
    exact Nat.pow_le_pow_right (by decide) (by omega)
   omega
theorem Pt {l:List UInt8} {n:Nat} (h:Cg l=some n):n<=255:=by
 unfold Cg at h;split at h
 ·cases h
 ·split at h
  ·cases h
  ·split at h
   ·cases h
   ·cases h;omega
theorem Sm:∀ (k acc:Nat) (l:List UInt8) (n:Nat),E0 k acc l=some n->n<(acc+1) * 256 ^ (k+1)
 | 0,acc,l,n,h=>by
  rw [E0] at h;split at h
  ·cases h
  ·cases hb:Cg (Af 46 l).1 with
   | none=>rw [hb] at h;cases h
   | some v=>
    rw [hb] at h;cases h;have:=Pt hb;show acc * 256+v<(acc+1) * 256 ^ 1;omega
 | k+1,acc,l,n,h=>by
  rw [E0] at h;split at h
  ·split at h
   ·cases h
   ·rename_i v hb;have h1:=Pt hb;have h2:=Sm k _ _ n h;refine Nat.lt_of_lt_of_le h2 ?_;rw [Nat.pow_succ 256 (k+1),Nat.mul_comm (256 ^ (k+1)) 256,<-Nat.mul_assoc]
    exact Nat.mul_le_mul_right _ (by omega)
  ·cases h
theorem Sl {last nb:Bool} {t:List UInt8} {x:List Nat} (h:C3 last nb t=some x):∀ n∈x,n<65536:=by
 unfold C3 at h;split at h
 ·cases hf:GF t with
  | none=>rw [hf] at h;cases h
  | some v=>
   rw [hf] at h;cases h;have h1:=Sm 3 0 t v hf;intro n hn;simp only [List.mem_cons,List.not_mem_nil,or_false] at hn
   rcases hn with rfl | rfl<;>omega
 ·cases hf:Ee t with
  | none=>rw [hf] at h;cases h
  | some v=>
   rw [hf] at h;cases h;intro n hn;rw [List.mem_singleton.1 hn];exact Aar hf
theorem Ws (nb:Bool):∀ (f:Nat) (l:List UInt8) (x:List Nat),HI nb f l=some x->∀ n∈x,n<65536
 | 0,_,_,h=>(nomatch h)
 | f+1,l,x,h=>by
  rw [HI] at h;split at h
  ·cases h
  ·rename_i p hp;split at h
   ·cases hr:HI nb f (Af 58 l).2.1 with
    | none=>rw [hr] at h;cases h
    | some y=>
     rw [hr] at h;cases h;intro n hn
     rcases List.mem_append.1 hn with hn | hn
     ·exact Sl hp n hn
     ·exact Ws nb f _ y hr n hn
   ·cases h;exact Sl hp
theorem TN {nb:Bool} {l:List UInt8} {x:List Nat} (h:D4 nb l=some x):∀ n∈x,n<65536:=by
 unfold D4 at h;split at h
 ·cases h
 ·rename_i y hy;split at h
  ·cases h;unfold ZC at hy;split at hy
   ·cases hy;intro n hn;cases hn
   ·exact Ws nb _ l x hy
  ·cases h
theorem VJ {s:List UInt8} {l:List Nat} (h:FP s=some l):Tu l:=by
 unfold FP at h;split at h
 ·split at h
  ·cases h
  ·rename_i x hx;split at h
   ·cases h
   ·rename_i y hy;split at h
    ·cases h
     refine ⟨by simp;omega,fun n hn=> ?_⟩
     rcases List.mem_append.1 hn with hn | hn
     ·exact TN hx n hn
     ·rcases List.mem_append.1 hn with hn | hn
      ·rw [List.eq_of_mem_replicate hn];decide
      ·exact TN hy n hn
    ·cases h
 ·split at h
  ·cases h
  ·rename_i x hx;split at h
   ·cases h
    exact ⟨by assumption,TN hx⟩
   ·cases h
inductive Bz where
 | none
 | empty
 | name (n:List UInt8)
 | four (n:Nat)
 | six (l:List Nat)
 | opaqueN (n:List UInt8)
deriving DecidableEq
def Bz.text:Bz->List UInt8
 | .none=>[]
 | .empty=>[]
 | .name n=>n
 | .four n=>DD n
 | .six l=>[91]++Ey l++[93]
 | .opaqueN n=>n
def Af8:List UInt8:=[0,9,10,13,32,35,47,58,60,62,63,64,91,92,93,94,124]
def EN (c:UInt8):Bool:=Af8.contains c
def IU (c:UInt8):Bool:=EN c || decide (c<32) || c==37 || c==127
def Ts (s:List UInt8):Option Bz:=if Lib.hasSuffix s [93]=true then (FP s.dropLast).map Bz.six else Option.none
def KI (s:List UInt8):Option Bz:=match Cv (BN s) with
 | Option.none=>Option.none
 | some n=>if (n.isEmpty || n.any IU)=true then Option.none else if LO n=true then (Bq n).map Bz.four else some (.name n)
def PQ (s:List UInt8):Option Bz:=if s.isEmpty=true then some .empty else if s.any EN=true then Option.none else some (.opaqueN (A1 0 s))
def DO (s:List UInt8) (special:Bool):Option Bz:=if Lib.hasPrefix s [91]=true then Ts (s.drop 1) else if special=true then KI s else PQ s
inductive Be:Bool->Bz->Prop where
 | name {n:List UInt8} (h:Cv n=some n) (h2:n≠[]) (h3:n.any IU=false) (h4:LO n=false):Be true (.name n)
 | four {n:Nat} (h:n<4294967296):Be true (.four n)
 | six {sp:Bool} {l:List Nat} (h:Tu l):Be sp (.six l)
 | empty:Be false .empty
 | other {n:List UInt8} (h:n≠[]) (h2:n.any EN=false) (h3:∀ c∈n,FO 0 c=false):Be false (.opaqueN n)
theorem AbI:∀ n:Fin 256,EN (UInt8.ofNat n.val)=false->(E6 0 (UInt8.ofNat n.val)).all (fun c=> !EN c)=true:=by decide+kernel
theorem CY (c:UInt8) (l:List UInt8):Lib.hasPrefix l [c]=(l.head? ==some c):=by
 unfold Lib.hasPrefix
 cases l with
 | nil=>rfl
 | cons x r=>
  rw [List.head?_cons,Bool.eq_iff_iff];simp [List.isPrefixOf]
  exact ⟨fun h=>h.symm,fun h=>h.symm⟩
theorem JF (l:List UInt8) (c:UInt8):Lib.hasSuffix (l++[c]) [c]=true:=by
 unfold Lib.hasSuffix;simp [List.isSuffixOf,List.isPrefixOf]
theorem JE {n:List UInt8} {p:UInt8->Bool} (h:n.any p=false) {c:UInt8} (hp:p c=true):Lib.hasPrefix n [c]=false:=by
 rw [CY]
 cases n with
 | nil=>rfl
 | cons x r=>
  rw [List.any_cons,Bool.or_eq_false_iff] at h;rw [List.head?_cons,beq_eq_false_iff_ne];intro e;rw [Option.some.inj e,hp] at h;cases h.1
theorem O1 {s:List UInt8} {sp:Bool} {h:Bz} (e:DO s sp=some h):Be sp h:=by
 unfold DO at e;split at e
 ·unfold Ts at e;split at e
  ·cases hs:FP (s.drop 1).dropLast with
   | none=>rw [hs] at e;cases e
   | some l=>
    rw [hs] at e;cases e;exact .six (VJ hs)
  ·cases e
 ·split at e
  ·rename_i hsp;rw [hsp];unfold KI at e
   cases hd:Cv (BN s) with
   | none=>rw [hd] at e;cases e
   | some n=>
    rw [hd] at e;dsimp only at e;split at e
    ·cases e
    ·rename_i hn;rw [Bool.or_eq_true,not_or] at hn;split at e
     ·rename_i hends
      cases hp:Bq n with
      | none=>rw [hp] at e;cases e
      | some k=>
       rw [hp] at e;cases e;exact .four (AaI hp)
     ·rename_i hends;cases e
      exact .name (Ng hd).1 (fun h=>hn.1 (by rw [h];rfl)) (by simpa using hn.2) (by simpa using hends)
  ·rename_i hsp
   have:sp=false:=by simpa using hsp
   subst this;unfold PQ at e;split at e
   ·cases e;exact .empty
   ·rename_i hne;split at e
    ·cases e
    ·rename_i hb;cases e
     refine .other ?_ ?_ (Gu (by decide))
     ·intro he
      cases s with
      | nil=>exact hne rfl
      | cons c r=>
       have h1:E6 0 c++A1 0 r=[]:=he;have h2:=(List.append_eq_nil_iff.1 h1).1;unfold E6 at h2
       split at h2<;>cases h2
     ·rw [List.any_eq_false];intro c hc;obtain ⟨d,hd,hc⟩:=List.mem_flatMap.1 hc
      have hbd:EN d=false:=by
       have:=List.any_eq_false.1 (by simpa using hb) d hd
       simpa using this
      have:=AbI ⟨d.toNat,d.toNat_lt⟩;simp only [UInt8.ofNat_toNat] at this;simpa using List.all_eq_true.1 (this hbd) c hc
theorem Aac (n:Nat):LO (DD n)=true:=by
 unfold LO;have h:Ba (DD n)=[Cq n 0,Cq n 1,Cq n 2]++[Cq n 3]:=RJ (M9 n) (PS n 3);rw [h];unfold Wn;rw [List.getLast?_concat,Option.getD_some,Ht];simp
theorem SD {n:List UInt8} (h:∀ c∈n,Fi c=true) (hx:∀ c∈n,c≠120):Cv n=some n:=by
 unfold Cv;rw [Vb (JR h),Ju h];dsimp only
 have hg:∀ t∈Ay 46 n,J2 t:=by
  intro t ht
  refine ⟨fun c hc=>⟨h c (EA n t ht c hc).1,(EA n t ht c hc).2⟩,?_⟩
  unfold AW
  have hno:Lib.hasPrefix t TW=false:=by
   cases t with
   | nil=>rfl
   | cons c r=>
    unfold Lib.hasPrefix TW;have:c≠120:=hx c (EA n _ ht c (List.mem_cons_self ..)).1;simp [List.isPrefixOf,Ne.symm this]
  rw [if_neg (by rw [hno];decide),if_pos (JR fun c hc=>h c (EA n t ht c hc).1)]
 rw [Hm hg];show some (EZ (Ay 46 n))=some n;rw [Vj]
theorem Pz (n:Nat):∀ c∈DD n,c=46\/∃ d,d<10/\c=Bs d:=by
 intro c hc;rw [Iy] at hc
 have hb:∀ k,∀ c∈Cq n k,∃ d,d<10/\c=Bs d:=by
  intro k c hc;unfold Cq at hc;rw [<-GA] at hc
  exact OG (by decide) (by decide) _ c hc
 rcases List.mem_append.1 hc with hc | hc
 ·obtain ⟨p,hp,hc⟩:=List.mem_flatMap.1 hc
  rcases List.mem_append.1 hc with hc | hc
  ·simp only [List.mem_cons,List.not_mem_nil,or_false] at hp
   rcases hp with rfl | rfl | rfl<;>exact .inr (hb _ c hc)
  ·exact .inl (List.mem_singleton.1 hc)
 ·exact .inr (hb _ c hc)
theorem Kp:∀ d:Fin 10,Fi (Bs d.val)=true/\Bs d.val≠120/\IU (Bs d.val)=false/\Bs d.val≠37:=by decide+kernel
theorem PK {sp:Bool} {h:Bz} (g:Be sp h):DO h.text sp=some h:=by
 cases g with
 | @name n h h2 h3 h4=>
  show DO n true=_
  have hp:Lib.hasPrefix n [91]=false:=JE h3 (by decide)
  have hd:BN n=n:=Pe (fun c hc e=>by
   have:=List.any_eq_false.1 h3 c hc;rw [e] at this
   exact this (by decide))
  unfold DO
  rw [if_neg (by rw [hp];decide),if_pos rfl]
  unfold KI;rw [hd,h];dsimp only
  rw [if_neg,if_neg (by rw [h4];decide)]
  rw [h3,Bool.or_false];intro he;exact h2 (List.isEmpty_iff.1 he)
 | @four n h=>
  show DO (DD n) true=_;have hb:=Pz n
  have hname:∀ c∈DD n,Fi c=true:=by
   intro c hc
   rcases hb c hc with rfl | ⟨d,hd,rfl⟩
   ·decide
   ·exact (Kp ⟨d,hd⟩).1
  have hbad:(DD n).any IU=false:=by
   rw [List.any_eq_false];intro c hc
   rcases hb c hc with rfl | ⟨d,hd,rfl⟩
   ·decide
   ·rw [(Kp ⟨d,hd⟩).2.2.1];decide
  have h37:∀ c∈DD n,c≠37:=by
   intro c hc
   rcases hb c hc with rfl | ⟨d,hd,rfl⟩
   ·decide
   ·exact (Kp ⟨d,hd⟩).2.2.2
  have h120:∀ c∈DD n,c≠120:=by
   intro c hc
   rcases hb c hc with rfl | ⟨d,hd,rfl⟩
   ·decide
   ·exact (Kp ⟨d,hd⟩).2.1
  have hp:Lib.hasPrefix (DD n) [91]=false:=JE hbad (by decide)
  have hne:(DD n).isEmpty=false:=by
   cases h:DD n with
   | nil=>exact absurd h (Wh n)
   | cons c r=>rfl
  unfold DO
  rw [if_neg (by rw [hp];decide),if_pos rfl]
  unfold KI;rw [Pe h37,SD hname h120];dsimp only
  rw [hne,hbad,if_neg (by decide),Aac,if_pos rfl,Ww h]
  rfl
 | @six sp l h=>
  show DO ([91]++Ey l++[93]) sp=_;unfold DO
  rw [if_pos (by rw [CY];rfl)]
  unfold Ts;have e:([91]++Ey l++[93]).drop 1=Ey l++[93]:=rfl;rw [e,if_pos (JF _ _),List.dropLast_concat,Zm h];rfl
 | empty=>rfl
 | @other n h h2 h3=>
  show DO n false=_
  have hp:Lib.hasPrefix n [91]=false:=JE h2 (by decide)
  unfold DO
  rw [if_neg (by rw [hp];decide),if_neg (by decide)]
  unfold PQ
  rw [if_neg (fun e=>h (List.isEmpty_iff.1 e)),if_neg (by rw [h2];decide),Hb h3]
end Go.Proofs.YtonomfeipkdmhaaGreatDoor
