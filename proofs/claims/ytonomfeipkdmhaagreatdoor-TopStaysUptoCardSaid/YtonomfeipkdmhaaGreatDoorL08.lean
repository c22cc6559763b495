/- Part 8: lemmas. -/
import Derived.Test.YtonomfeipkdmhaaGreatDoorL07
set_option linter.unusedVariables false
set_option linter.unusedSimpArgs false
set_option maxRecDepth 100000
set_option maxHeartbeats 16000000
namespace Go.Proofs.YtonomfeipkdmhaaGreatDoor
open Go.RowKit
theorem AjS:EZ Tryz.prog 25 5 (.int .u8 0) 1:= .mk' Tryz.underlying25 Qb rfl
def Be (l:List Nat):Array Value:=(l.map fun n:Nat=>Value.int .u16 (n:Int)).toArray
def Adr (l:List Nat):Value:= .agg (Be l)
structure YP (l:List Nat):Prop where
 len:l.length=8
 lt:∀ x∈l,x<65536
def pc (l:List Nat) (i:Nat):Nat:=l.getD i 0
theorem YP.at {l:List Nat} (h:YP l) (i:Nat) (hi:i<8):pc l i<65536/\(Be l)[i]? =some (.int .u16 ((pc l i:Nat):Int)):=by
 unfold pc
 have hi2:i<l.length:=by rw [h.len];exact hi
 have e:l.getD i 0=l[i]:=by simp [List.getD,hi2]
 rw [e]
 exact ⟨h.lt _ (List.getElem_mem hi2),by simp [Be,hi2]⟩
def Lo:List Nat->Nat
 | []=>0
 | x :: r=>if x=0 then Lo r+1 else 0
theorem Agx (l:List Nat):Lo l<=l.length:=by
 induction l with
 | nil=>exact Nat.le_refl _
 | cons x r ih=>unfold Lo;split<;>simp<;>omega
theorem Gs {l:List Nat} (i:Nat) (hi:i<l.length):l.drop i=pc l i :: l.drop (i+1):=by
 unfold pc;rw [List.drop_eq_getElem_cons hi];simp [List.getD,hi]
def HA:Nat->List Nat->Nat->Nat->Nat->Nat × Nat
 | 0,_,_,b,e=>(b,e)
 | f+1,l,i,b,e=>
  if i<8 then (if 2<=Lo (l.drop i)/\e - b<Lo (l.drop i) then HA f l (i+Lo (l.drop i)+1) i (i+Lo (l.drop i)) else HA f l (i+Lo (l.drop i)+1) b e) else (b,e)
def Bz (l:List Nat):Nat × Nat:=HA 8 l 0 0 0
theorem AbN (f:Nat) (l:List Nat) (i b e:Nat) (h:8<=i):HA f l i b e=(b,e):=by
 cases f with
 | zero=>rfl
 | succ f=>rw [HA,if_neg Qa]
theorem RX (l:List Nat) (h:YP l) (w:World):
  Calls Tryz.prog 160 #[Adr l] w fun e w'=>e= .returned (.tuple #[.int .i64 ((Bz l).1:Int),.int .i64 ((Bz l).2:Int)])/\((Bz l).1<=(Bz l).2/\(Bz l).2<=8)/\Below w.heap.size w w':=by
 have hcell:∀ i,i<8->(w.alloc (.cells (Be l) 30)).cell? ⟨w.heap.size,i,none⟩=some (.int .u16 ((pc l i:Nat):Int)):=by
  intro i hi;rw [World.cell?_alloc_at _ _ _ _ rfl];exact (h.at i hi).2
 have hbel:Below w.heap.size w (w.alloc (.cells (Be l) 30)):=(Below.refl _ _).alloc (Nat.le_refl _) _;unfold Adr;go_enter Tryz.func160,Tryz.ntmps160;replace hcell:=H0 hcell;go_wp2_with fail
 go_loop [4,5,6] (fun bv ev iv=>∃ (f i b e:Nat),bv= .int .i64 b/\ev= .int .i64 e/\iv= .int .i64 i/\i<=9/\b<=e/\e<=8/\8<=i+f/\Hid (HA f l i b e=Bz l)) (fun _ _ i=>9 - (intOf i).toNat)
 case atStart=>exact ⟨8,0,0,0,rfl,rfl,rfl,Qa,Qa,Qa,Qa,rfl⟩
 case round=>
  obtain ⟨f,i,b,e,rfl,rfl,rfl,hi,hbe,he,hf,hr⟩:=hrel
  by_cases hlt:i<8
  ·obtain ⟨f,rfl⟩:∃ g,f=g+1:=⟨f - 1,Qa⟩;have hlt2:(i:Int)<8:=Qa
   have hzl:i+Lo (l.drop i)<=8:=by
    have:=Agx (l.drop i);rw [List.length_drop,h.len] at this;omega
   generalize hz:Lo (l.drop i)=z at hzl
   have hr2:Hid (Bz l=if 2<=z/\e - b<z then HA f l (i+z+1) i (i+z) else HA f l (i+z+1) b e):=H0 (by
    rw [<-hr.out,HA,if_pos hlt,hz])
   replace hz:=H0 hz;clear hr;go_wp2_with fail
   go_loop [7] (fun jv=>∃ j:Nat,jv= .int .i64 j/\i<=j/\j<=8/\Hid (j+Lo (l.drop j)=i+z)) (fun j=>8 - (intOf j).toNat)
   case atStart=>exact ⟨i,rfl,Nat.le_refl _,Qa,H0 (by rw [hz.out])⟩
   case round=>
    obtain ⟨j,rfl,hij,hj8,hj⟩:=hrel
    by_cases hgo:j<8/\pc l j=0
    ·obtain ⟨hj1,hj0⟩:=hgo;have hc:=hcell.out j hj1
     have hdr:=H0 (Gs (l:=l) j (by rw [h.len];exact hj1))
     rw [hj0] at hc;have hj1I:(j:Int)<8:=Qa;replace hj0:=H0 hj0;go_wp2_with fail;go_round
     case rel=>exact ⟨j+1,Ql,Qa,Qa,H0 (by rw [<-hj.out,hdr.out,Lo,if_pos hj0.out];omega)⟩
     case measure=>simp [intOf];omega
    ·have hend:Hid (j=i+z):=H0 (by
      rw [<-hj.out]
      by_cases h8:j<8
      ·rw [Gs j (by rw [h.len];exact h8),Lo,if_neg (fun e=>hgo ⟨h8,e⟩)];rfl
      ·rw [List.drop_of_length_le (by rw [h.len];omega)];rfl)
     have hor:((j:Int)<8/\(w.alloc (.cells (Be l) 30)).cell? ⟨w.heap.size,j,none⟩=some (.int .u16 ((pc l j:Nat):Int))/\(((pc l j:Nat):Int)==0)=false)\/8<=(j:Int):=by
      by_cases h8:j<8
      ·exact .inl ⟨Qa,hcell.out j h8,by simp only [beq_eq_false_iff_ne,ne_eq];intro e;exact hgo ⟨h8,Qa⟩⟩
      ·exact .inr Qa
     clear hgo
     have hzz:z=j - i:=by have:=hend.out;omega
     replace hzz:=H0 hzz
     by_cases htake:2<=j - i/\e - b<j - i
     ·have t1:(2:Int)<=(j:Int) - (i:Int):=Qa;have t2:(e:Int) - (b:Int)<(j:Int) - (i:Int):=Qa
      have hnew:Hid (HA f l (j+1) i j=Bz l):=H0 (by
       rw [hr2.out,<-hend.out,if_pos (by rw [hzz.out];exact htake)])
      clear htake
      rcases hor with ⟨h8,hc,hne⟩ | h8
      all_goals
       go_wp2_with fail;go_round
       case rel=>exact ⟨f,j+1,i,j,rfl,rfl,Ql,Qa,Qa,Qa,Qa,hnew⟩
       case measure=>simp [intOf];omega
     ·have hnew:Hid (HA f l (j+1) b e=Bz l):=H0 (by
       rw [hr2.out,<-hend.out,if_neg (by rw [hzz.out];exact htake)])
      have hcs:(j:Int) - (i:Int)<2\/(2:Int)<=(j:Int) - (i:Int)/\(j:Int) - (i:Int)<=(e:Int) - (b:Int):=Qa
      clear htake
      rcases hor with ⟨h8,hc,hne⟩ | h8<;>rcases hcs with t1 | ⟨t1,t2⟩
      all_goals
       go_wp2_with fail;go_round
       case rel=>exact ⟨f,j+1,b,e,rfl,rfl,Ql,Qa,Qa,Qa,Qa,hnew⟩
       case measure=>simp [intOf];omega
  ·have hfin:Hid (Bz l=(b,e)):=H0 (by rw [<-hr.out,AbN _ _ _ _ _ Qa])
   have hge:(8:Int)<=(i:Int):=Qa;clear hr;go_wp2_with fail;go_ret2;rw [hfin.out];exact ⟨rfl,⟨hbe,he⟩,hbel⟩
theorem PY {ops:Array Oper} {rest:List Oper} {o:Oper} {a:Act} {Q:Exit->Act->World->Prop}
  (hgd:o.guard=none) (s x:Operand) (ho:o.op= .call { callee:= .builtin .append,args:= #[s,x],argTypes:= #[25,9] })
  {W0 w0:World} {B:Nat} {v:Value} {l:List UInt8} (t:ByteArray) (hs:a.eval s=v) (hx:a.eval x= .string t)
  (hown:CZ w0 B 5 v l) (hbel:Below B W0 w0) (hB:B<=w0.heap.size) (hsz:l.length+t.size<=1099511627776)
  (h:∀ v' w',CZ w' B 5 v' (l++t.toList)->Below B W0 w'->wpList Tryz.prog ops Q rest (a.put o.dst v') w'):wpList Tryz.prog ops Q (o :: rest) a w0:=by
 obtain ⟨i0,hi,hz0,hz1,hz2⟩:=info_parts Wt;refine Lib.wpList_append_own_string _ hgd s x 25 9 ho B 5 i0 Tryz.underlying25 Tryz.underlying9 hi hz0 hz1 hz2 v l.length _ hs (GW.1 hown) t hx Qm Qa hB ?_;intro v' w' hown' hgrow _
 refine h v' w' (GW.2 ?_) (hbel.grown hgrow hB (fun k hk=>(World.ownsRow.lt hown k hk).1))
 rw [List.length_append,Aa]
 have e:Lib.byteCells (l++t.toList)=Lib.byteCells l++Lib.strCells t:=by simp [Lib.byteCells,Lib.strCells,ByteArray.toList_eq]
 rw [e];exact hown'
theorem Abt {l:List Nat} (h:YP l):Adr l= .agg #[.int .u16 ((pc l 0:Nat):Int),.int .u16 ((pc l 1:Nat):Int),.int .u16 ((pc l 2:Nat):Int),.int .u16 ((pc l 3:Nat):Int),.int .u16 ((pc l 4:Nat):Int),.int .u16 ((pc l 5:Nat):Int),.int .u16 ((pc l 6:Nat):Int),.int .u16 ((pc l 7:Nat):Int)]:=by
 have hl:=h.len
 match l,hl with
 | [a,b,c,d,e,f,g,h],_=>rfl
def DT:Nat->List Nat->Nat->Nat->Nat->List UInt8
 | 0,_,_,_,_=>[]
 | f+1,l,b,e,i=>
  if i<8 then (if i=b/\b<e then [58,58]++DT f l b e e else (if 0<i/\(i≠e\/e=b) then [58] else [])++FL (pc l i)++DT f l b e (i+1)) else []
def Gj (l:List Nat):List UInt8:=DT 8 l (Bz l).1 (Bz l).2 0
theorem Adk (f:Nat) (l:List Nat) (b e i:Nat) (h:8<=i):DT f l b e i=[]:=by
 cases f with
 | zero=>rfl
 | succ f=>rw [DT,if_neg Qa]
theorem Xf:∀ f n,(I8 f n).length<=f
 | 0,_=>Nat.le_refl _
 | f+1,n=>by
  have:=Xf f (n / 16)
  unfold I8;split<;>simp<;>omega
theorem O5 (n:Nat):(FL n).length<=4:=Xf 4 n
theorem UU (l:List Nat) (h:YP l) (w:World) (ht:IG w):
  Calls Tryz.prog 93 #[Adr l] w (EI w (Gj l)):=by
 have hcell:∀ i,i<8->(w.alloc (.cells (Be l) 30)).cell? ⟨w.heap.size,i,none⟩=some (.int .u16 ((pc l i:Nat):Int)):=by
  intro i hi;rw [World.cell?_alloc_at _ _ _ _ rfl];exact (h.at i hi).2
 have hbel0:Below w.heap.size w (w.alloc (.cells (Be l) 30)):=(Below.refl _ _).alloc (Nat.le_refl _) _;have hsv:=Abt h;replace hcell:=H0 hcell;replace hsv:=H0 hsv;have c0:=hcell.out 0 Qc;have c1:=hcell.out 1 Qc;have c2:=hcell.out 2 Qc;have c3:=hcell.out 3 Qc;have c4:=hcell.out 4 Qc;have c5:=hcell.out 5 Qc;have c6:=hcell.out 6 Qc;have c7:=hcell.out 7 Qc;unfold Adr;go_enter Tryz.func93,Tryz.ntmps93;go_wp2_with fail;rw [<-hsv.out];refine (RX l h _).mono ?_;rintro e w2 ⟨rfl,⟨hbe,he8⟩,hb⟩
 have hcell2:Hid (∀ i,i<8->w2.cell? ⟨w.heap.size,i,none⟩=some (.int .u16 ((pc l i:Nat):Int))):=H0 (fun i hi=>(hb.cell Qf).trans (hcell.out i hi))
 have hbel2:=hbel0.next hb
 have hsz2:=hbel2.size
 have ht2:=ht.next hbel2
 have hlt2:w.heap.size<w2.heap.size:=by have:=hb.size;simp at this;omega
 clear c0 c1 c2 c3 c4 c5 c6 c7 hcell hb hbel0;have hL:Hid (Gj l=DT 8 l (Bz l).1 (Bz l).2 0):=rfl;generalize (Bz l).1=b at hL hbe⊢;generalize (Bz l).2=e at hL hbe he8⊢;go_wp2_with fail
 go_loopw [5,6] (fun ov iv wr=>∃ (f i:Nat) (P:List UInt8),iv= .int .i64 i/\i<=8/\8<=i+f/\P.length<=6 * i/\Hid (P++DT f l b e i=Gj l)/\CZ wr w2.heap.size 5 ov P/\Below w2.heap.size w2 wr) (fun _ i _=>8 - (intOf i).toNat)
 case atStart=>exact ⟨8,0,[],rfl,Qa,Qa,Qf,H0 hL.out.symm,CZ.nil _ _ _,Below.refl _ _⟩
 case round=>
  obtain ⟨f,i,P,rfl,hi,hf,hP,hr,hown,hbel⟩:=hrel;have hsz:=hbel.size
  by_cases hlt:i<8
  ·obtain ⟨f,rfl⟩:∃ g,f=g+1:=⟨f - 1,Qa⟩;have hltI:(i:Int)<8:=Qa
   by_cases hA:i=b/\b<e
   ·have g1:((i:Int)==(b:Int))=true:=by simp [hA.1]
    have g2:(b:Int)<(e:Int):=Qa;have hi2:i<e:=Qa
    have hnew:Hid ((P++[58,58])++DT f l b e e=Gj l):=H0 (by rw [<-hr.out,DT,if_pos hlt,if_pos hA];simp)
    have htx:(ByteArray.mk #[58,58]).toList=[58,58]:=toList_mk _;replace htx:=H0 htx;clear hA
    go_wp2_with (at_builtin;refine PY rfl _ _ rfl ⟨#[58,58]⟩ rfl rfl hown hbel hsz (by show P.length+2<=_;omega) ?_;intro v' w' ho' hb')
    go_roundw
    case rel=>exact ⟨f,e,P++[58,58],Ql,Qa,Qa,Qi,hnew,by rw [<-htx.out];exact ho',hb'⟩
    case measure=>simp [intOf];omega
   ·have hA2:((i:Int)==(b:Int))=false\/((i:Int)==(b:Int))=true/\(e:Int)<=(b:Int):=by
     by_cases h1:i=b
     ·exact .inr ⟨by simp [h1],Qa⟩
     ·exact .inl (beq_eq_false_iff_ne.2 Qa)
    have hcl:=hcell2.out i hlt;have hcw:wr.cell? ⟨w.heap.size,i,none⟩=some (.int .u16 ((pc l i:Nat):Int)):=(hbel.cell hlt2).trans hcl;have hpl:=H0 (h.at i hlt).1
    have hplI:Hid (IntKind.u64.wrap ((pc l i:Nat):Int)=((pc l i:Nat):Int)):=H0 (Gt _ Qa (by have:=hpl.out;omega))
    have hx4:=O5 (pc l i)
    by_cases hc:0<i/\(i≠e\/e=b)
    ·have hnew:Hid ((P++[58]++FL (pc l i))++DT f l b e (i+1)=Gj l):=H0 (by rw [<-hr.out,DT,if_pos hlt,if_neg hA,if_pos hc];simp)
     have k0:(0:Int)<(i:Int):=Qa
     have hc2:((i:Int) != (e:Int))=true\/((i:Int) != (e:Int))=false/\((e:Int)==(b:Int))=true:=by
      by_cases h1:i=e
      ·have:e=b:=by rcases hc.2 with h2 | h2;exact absurd h1 h2;exact h2
       exact .inr ⟨by simp [h1],by simp [this]⟩
      ·exact .inl Qi
     clear hA hc hcl
     rcases hA2 with g1 | ⟨g1,g2⟩<;>rcases hc2 with g3 | ⟨g3,g4⟩
     all_goals
      go_wp2_with (at_builtin;refine By AjS rfl _ _ rfl 58 rfl rfl hown hbel hsz rfl Qm Qa ?_;intro v1 w1 ho1 hb1 _;have hcw1:=(hb1.cell hlt2).trans (hcell2.out i hlt))
      refine (HR w2.heap.size (pc l i) _ hplI.out hpl.out _ _ _ ho1 (ht2.next hb1) hb1.size Qi).mono ?_
      rintro e' w3 ⟨v3,rfl,ho3,hb3⟩;go_wp2_with fail;go_roundw
      case rel=>exact ⟨f,i+1,_,Ql,Qa,Qa,Qi,hnew,ho3,hb1.trans hb3⟩
      case measure=>simp [intOf];omega
    ·have hnew:Hid ((P++FL (pc l i))++DT f l b e (i+1)=Gj l):=H0 (by rw [<-hr.out,DT,if_pos hlt,if_neg hA,if_neg hc];simp)
     have hc2:(i:Int)<=0\/(0:Int)<(i:Int)/\((i:Int) != (e:Int))=false/\((e:Int)==(b:Int))=false:=by
      by_cases h0:0<i
      ·have h1:i=e:=by
        by_cases h1:i=e
        ·exact h1
        ·exact absurd ⟨h0,.inl h1⟩ hc
       have h2:¬ e=b:=fun h2=>hc ⟨h0,.inr h2⟩
       exact .inr ⟨Qa,by simp [h1],beq_eq_false_iff_ne.2 Qa⟩
      ·exact .inl Qa
     clear hA hc hcl
     rcases hA2 with g1 | ⟨g1,g2⟩<;>rcases hc2 with g3 | ⟨g3,g4,g5⟩
     all_goals
      go_wp2_with fail
      refine (HR w2.heap.size (pc l i) _ hplI.out hpl.out _ _ _ hown (ht2.next hbel) hsz Qa).mono ?_
      rintro e' w3 ⟨v3,rfl,ho3,hb3⟩;go_wp2_with fail;go_roundw
      case rel=>exact ⟨f,i+1,_,Ql,Qa,Qa,Qi,hnew,ho3,hbel.trans hb3⟩
      case measure=>simp [intOf];omega
  ·have hfin:Hid (P=Gj l):=H0 (by rw [<-hr.out,Adk _ _ _ _ _ Qa,List.append_nil])
   have hgeI:(8:Int)<=(i:Int):=Qa;have hcv:=JY (P:=Tryz.prog) (S:=9) Tryz.underlying25 Tryz.underlying5 Tryz.underlying9 hown;clear hr;go_wp2_with fail;go_ret
   exact Hk hfin.out (hbel2.next hbel)
def XE (nb:Bool):List (List UInt8)->Option (List Nat)
 | []=>some []
 | [t]=>C9 true nb t
 | t :: u :: r=>match C9 false nb t with | none=>none | some x=>(XE nb (u :: r)).map fun y=>x++y
theorem Aam (c:UInt8) (l:List UInt8):Ay c l=(Ak c l).1 :: (if (Ak c l).2.2=true then Ay c (Ak c l).2.1 else []):=by
 induction l with
 | nil=>rfl
 | cons d r ih=>
  rw [Do];unfold Ak
  by_cases h:d=c
  ·simp [h]
  ·simp only [h,if_false];rw [ih];rfl
theorem NO (nb:Bool):∀ f l,l.length<f->HD nb f l=XE nb (Ay 58 l)
 | 0,l,h=>Qa
 | f+1,l,h=>by
  rw [HD,Aam];cases hm:(Ak 58 l).2.2
  ·simp only [Bool.not_false,Bool.false_eq_true,if_false];rw [XE]
   cases C9 true nb (Ak 58 l).1<;>rfl
  ·have hs:=Ra hm;have ih:=NO nb f (Ak 58 l).2.1 Qa
   obtain ⟨u,r,hu⟩:∃ u r,Ay 58 (Ak 58 l).2.1=u :: r:=by
    cases hq:Ay 58 (Ak 58 l).2.1 with
    | nil=>exact absurd hq (DI _ _)
    | cons u r=>exact ⟨u,r,rfl⟩
   rw [if_pos rfl,hu,XE,ih,hu];rfl
theorem ZK (nb:Bool) (l:List UInt8):AbL nb l=if l=[] then some [] else XE nb (Ay 58 l):=by
 unfold AbL;rw [NO nb _ l Qa]
def Cg:List (List UInt8)->List UInt8
 | []=>[]
 | [t]=>t
 | t :: u :: r=>t++58 :: Cg (u :: r)
theorem ED (t:List UInt8) (r:List (List UInt8)):Cg (t :: r)=t++(if r=[] then [] else 58 :: Cg r):=by
 cases r with
 | nil=>simp [Cg]
 | cons u r=>simp [Cg]
def Bet (t:List UInt8):Prop:=t≠[]/\∀ c∈t,c≠58
theorem R0:∀ ts:List (List UInt8),ts≠[]->(∀ t∈ts,∀ c∈t,c≠58)->Ay 58 (Cg ts)=ts
 | [],h,_=>absurd rfl h
 | [t],_,h=>Kj t (h t Qf)
 | t :: u :: r,_,h=>by
  rw [Cg,Hy,Kj t (h t Qf),R0 (u :: r) Qf (fun x hx=>h x Agf)]
  rfl
theorem Ym {ts:List (List UInt8)} (h:ts≠[]) (hb:∀ t∈ts,Bet t):Cg ts≠[]:=by
 cases ts with
 | nil=>exact absurd rfl h
 | cons t r=>
  rw [ED];intro e;exact (hb t Qf).1 (List.append_eq_nil_iff.1 e).1
theorem Ab8 (nb:Bool) {ts:List (List UInt8)} (hb:∀ t∈ts,Bet t):AbL nb (Cg ts)=XE nb ts:=by
 rw [ZK]
 by_cases h:ts=[]
 ·subst h;rfl
 ·rw [if_neg (Ym h hb),R0 ts h (fun t ht=>(hb t ht).2)]
theorem Aeg:Ia []=([],[],false):=Qc
theorem Ks (c:UInt8) (r:List UInt8):Ia (c :: r)=if c=58/\r.head? =some 58 then ([],r.tail,true) else (c :: (Ia r).1,(Ia r).2.1,(Ia r).2.2):=by
 unfold Ia Lib.cut
 have hp:([58,58]:List UInt8).isPrefixOf (c :: r)=decide (c=58/\r.head? =some 58):=by
  cases r with
  | nil=>simp [List.isPrefixOf]
  | cons d r=>
   simp only [List.isPrefixOf,List.head?_cons,Option.some.injEq];rw [Bool.eq_iff_iff];simp only [Bool.and_true,Bool.and_eq_true,beq_iff_eq,decide_eq_true_eq]
   exact ⟨fun ⟨a,b⟩=>⟨a.symm,b.symm⟩,fun ⟨a,b⟩=>⟨a.symm,b.symm⟩⟩
 rw [Lib.index,hp]
 by_cases h:c=58/\r.head? =some 58
 ·rw [decide_eq_true h,if_pos h]
  cases r with
  | nil=>simp at h
  | cons d r=>simp
 ·rw [decide_eq_false h,if_neg h];have hg:=Lib.index_ge r [58,58]
  by_cases h1:Lib.index r [58,58]= -1
  ·simp [h1]
  ·have h0:0<=Lib.index r [58,58]:=Qa;have e2:0<=Lib.index r [58,58]+1:=Qa;have e:(Lib.index r [58,58]+1).toNat=(Lib.index r [58,58]).toNat+1:=Qa;have e3:(Lib.index r [58,58]).toNat+1+2=((Lib.index r [58,58]).toNat+2)+1:=Qa;simp [h1,h0,e,e2]
def Gd:List UInt8->Bool
 | []=>false
 | c :: r=>decide (c=58/\r.head? =some 58) || Gd r
theorem S8:∀ l,Gd l=false->Ia l=(l,[],false)
 | [],_=>Aeg
 | c :: r,h=>by
  unfold Gd at h;rw [Bool.or_eq_false_iff,decide_eq_false_iff_not] at h;rw [Ks,if_neg h.1,S8 r h.2]
theorem Abo:∀ (X Y:List UInt8),Gd X=false->X.getLast? ≠some 58->Ia (X++58 :: 58 :: Y)=(X,Y,true)
 | [],Y,_,_=>by rw [List.nil_append,Ks,if_pos ⟨rfl,rfl⟩];rfl
 | c :: r,Y,h,hl=>by
  unfold Gd at h;rw [Bool.or_eq_false_iff,decide_eq_false_iff_not] at h;rw [List.cons_append,Ks]
  cases r with
  | nil=>
   have hc:c≠58:=by rintro rfl;exact hl rfl
   rw [if_neg (fun h=>hc h.1),List.nil_append,Ks,if_pos ⟨rfl,rfl⟩];rfl
  | cons d r=>
   rw [if_neg (by simpa using h.1),Abo (d :: r) Y h.2 (by rw [List.getLast?_cons_cons] at hl;exact hl)]
theorem RT (c:UInt8) (r:List UInt8):Gd (c :: r)=(decide (c=58/\r.head? =some 58) || Gd r):=rfl
theorem Mv:∀ (a b:List UInt8),Gd (a++b)=(Gd a || decide (a.getLast? =some 58/\b.head? =some 58) || Gd b)
 | [],b=>by simp [Gd]
 | [c],b=>by simp [Gd]
 | c :: d :: r,b=>by
  have ih:=Mv (d :: r) b;rw [List.cons_append,RT,ih,RT c (d :: r),List.getLast?_cons_cons];simp only [List.cons_append,List.head?_cons,Bool.or_assoc];rfl
theorem Wd {t:List UInt8} (h:∀ c∈t,c≠58):Gd t=false:=by
 induction t with
 | nil=>rfl
 | cons c r ih=>
  unfold Gd
  rw [ih (fun x hx=>h x (by simp [hx])),decide_eq_false (fun e=>h c Qf e.1)];rfl
theorem Aa3 {t:List UInt8} (h:∀ c∈t,c≠58):t.getLast? ≠some 58:=fun e=>h 58 (List.mem_of_getLast? e) rfl
theorem AgO {t:List UInt8} (h:∀ c∈t,c≠58):t.head? ≠some 58:=fun e=>h 58 (List.mem_of_head? e) rfl
theorem AdS {ts:List (List UInt8)} (hb:∀ t∈ts,Bet t):(Cg ts).head? ≠some 58:=by
 cases ts with
 | nil=>simp [Cg]
 | cons t r=>
  obtain ⟨h1,h2⟩:=hb t Qf;rw [ED]
  cases t with
  | nil=>exact absurd rfl h1
  | cons c t=>rw [List.cons_append,List.head?_cons];exact AgO (t:=c :: t) h2
theorem TH:∀ {ts:List (List UInt8)},(∀ t∈ts,Bet t)->(Cg ts).getLast? ≠some 58
 | [],_=>by simp [Cg]
 | [t],hb=>Aa3 (hb t Qf).2
 | t :: u :: r,hb=>by
  have ih:=TH (ts:=u :: r) (fun x hx=>hb x Agf)
  have hn:=Ym (ts:=u :: r) Qf (fun x hx=>hb x Agf)
  rw [Cg,List.getLast?_append]
  cases hj:Cg (u :: r) with
  | nil=>exact absurd hj hn
  | cons x y=>
   rw [hj] at ih;rw [List.getLast?_cons_cons]
   cases hq:(x :: y).getLast? with
   | none=>simp at hq
   | some z=>rw [hq] at ih;simpa using ih
theorem Vz:∀ {ts:List (List UInt8)},(∀ t∈ts,Bet t)->Gd (Cg ts)=false
 | [],_=>rfl
 | [t],hb=>Wd (hb t Qf).2
 | t :: u :: r,hb=>by
  have hb2:∀ x∈u :: r,Bet x:=fun x hx=>hb x Agf
  have ih:=Vz hb2
  rw [Cg,Mv,Wd (hb t Qf).2,decide_eq_false (fun e=>Aa3 (hb t Qf).2 e.1),Gd,ih,decide_eq_false (fun e=>AdS hb2 e.2)]
  rfl
def V0 (g:Nat->List UInt8) (l:List Nat):Prop:=∀ n∈l,Bet (g n)/\∀ last nb,C9 last nb (g n)=some [n]
theorem V0.bet {g:Nat->List UInt8} {l:List Nat} (h:V0 g l):∀ t∈l.map g,Bet t:=by
 intro t ht;obtain ⟨n,hn,rfl⟩:=List.mem_map.1 ht;exact (h n hn).1
theorem Tb {g:Nat->List UInt8} (nb:Bool):∀ {l:List Nat},V0 g l->XE nb (l.map g)=some l
 | [],_=>rfl
 | [n],h=>(h n Qf).2 true nb
 | n :: m :: r,h=>by
  have ih:=Tb nb (l:=m :: r) (fun x hx=>h x Agf)
  rw [List.map_cons,List.map_cons] at *;rw [XE,(h n Qf).2 false nb];dsimp only;rw [ih];rfl
theorem NA {g:Nat->List UInt8} (nb:Bool) {l:List Nat} (h:V0 g l) (h8:l.length<=8):Ec nb (Cg (l.map g))=some l:=by
 unfold Ec;rw [Ab8 nb h.bet,Tb nb h];dsimp only;rw [if_pos h8]
theorem Y9 {g:Nat->List UInt8} {l:List Nat} (h:V0 g l) (h8:l.length=8):F7 (Cg (l.map g))=some l:=by
 unfold F7;rw [S8 _ (Vz h.bet),if_neg Qf,NA true h Qa];dsimp only;rw [if_pos h8]
theorem Af3 {g:Nat->List UInt8} {l m:List Nat} (h:V0 g l) (k:V0 g m) (h8:l.length+m.length<8):
  F7 (Cg (l.map g)++58 :: 58 :: Cg (m.map g))=some (l++(List.replicate (8 - l.length - m.length) 0++m)):=by
 unfold F7;rw [Abo _ _ (Vz h.bet) (TH h.bet),if_pos rfl];dsimp only;rw [NA false h Qa,NA true k Qa];dsimp only;rw [if_pos h8]
theorem L3:∀ f n,∀ c∈I8 f n,∃ d,d<16/\c=BN d
 | 0,n,c,h=>Qr
 | f+1,n,c,h=>by
  rw [I8] at h;split at h
  ·simp at h;exact ⟨n,by assumption,h⟩
  ·rcases List.mem_append.1 h with h | h
   ·exact L3 f (n / 16) c h
   ·simp at h;exact ⟨n % 16,Nat.mod_lt _ Qc,h⟩
theorem Aa6:∀ d:Fin 16,BN d.val≠58/\BN d.val≠46:=Qe
theorem Aa7 (f n:Nat):I8 (f+1) n≠[]:=by rw [I8];split<;>simp
theorem R6 (acc d:Nat) (h:d<16):AC 16 acc [BN d]=some (acc * 16+d):=by
 rw [AC,Oq (b:=16) h Qc,if_neg Qa,AC];simp
theorem TL:∀ f n,n<16 ^ (f+1)->AC 16 0 (I8 (f+1) n)=some n
 | 0,n,h=>by
  rw [I8,if_pos Qa,R6 0 n Qa];simp
 | f+1,n,h=>by
  rw [I8]
  by_cases h2:n<16
  ·rw [if_pos h2,R6 0 n h2];simp
  ·rw [if_neg h2,Hq,TL f (n / 16) (by rw [Nat.pow_succ] at h;omega)]
   show AC 16 (n / 16) [BN (n % 16)]=some n;rw [R6 _ _ (Nat.mod_lt _ Qc),Nat.mul_comm,Nat.div_add_mod]
theorem U6 {t:List UInt8} {v:Nat} (h:Ep t=some v) (h46:∀ c∈t,c≠46) (last nb:Bool):C9 last nb t=some [v]:=by
 rw [RV (.inr (.inr (by
  cases hc:t.contains 46
  ·rfl
  ·exact absurd rfl (h46 46 (by simpa using hc))))),h];rfl
theorem YG {n:Nat} (h:n<65536):Ep (FL n)=some n:=by
 unfold Ep Bm
 rw [if_neg (by have:=O5 n;omega),if_neg (show ¬ FL n=[] from Aa7 3 n)]
 exact TL 3 n Qa
theorem Nj {l:List Nat} (h:∀ x∈l,x<65536):V0 FL l:=by
 intro n hn;refine ⟨⟨Aa7 3 n,?_⟩,U6 (YG (h n hn)) ?_⟩
 ·intro c hc;obtain ⟨d,hd,rfl⟩:=L3 4 n c hc;exact (Aa6 ⟨d,hd⟩).1
 ·intro c hc;obtain ⟨d,hd,rfl⟩:=L3 4 n c hc;exact (Aa6 ⟨d,hd⟩).2
def NB:List Bool->Nat
 | []=>0
 | x :: r=>if x=true then NB r+1 else 0
def EC:Nat->List Bool->Nat->Nat->Nat->Nat × Nat
 | 0,_,_,b,e=>(b,e)
 | f+1,l,i,b,e=>
  if i<8 then (if 2<=NB (l.drop i)/\e - b<NB (l.drop i) then EC f l (i+NB (l.drop i)+1) i (i+NB (l.drop i)) else EC f l (i+NB (l.drop i)+1) b e) else (b,e)
def isZ (n:Nat):Bool:=decide (n=0)
theorem AhF (l:List Nat):Lo l=NB (l.map isZ):=by
 induction l with
 | nil=>rfl
 | cons x r ih=>rw [Lo,List.map_cons,NB,ih];unfold isZ;simp only [decide_eq_true_eq]
theorem VB (l:List Nat):∀ f i b e,HA f l i b e=EC f (l.map isZ) i b e
 | 0,_,_,_=>rfl
 | f+1,i,b,e=>by
  rw [HA,EC,AhF,List.map_drop,VB l f,VB l f]
def Vn:List Bool->Bool
 | a :: b :: r=>(a && b) || Vn (b :: r)
 | _=>false
def AeC (p:List Bool):Bool:=
 decide ((EC 8 p 0 0 0).1<=(EC 8 p 0 0 0).2) && decide ((EC 8 p 0 0 0).2<=8) &&
  (!decide ((EC 8 p 0 0 0).1<(EC 8 p 0 0 0).2) || (decide ((EC 8 p 0 0 0).1+2<=(EC 8 p 0 0 0).2) && ((p.take (EC 8 p 0 0 0).2).drop (EC 8 p 0 0 0).1).all id)) &&
  (decide ((EC 8 p 0 0 0).1<(EC 8 p 0 0 0).2)==Vn p)
theorem AhK:∀ a b c d e f g h:Bool,AeC [a,b,c,d,e,f,g,h]=true:=Qe
theorem JZ {l:List Nat} (h:YP l):(Bz l).1<=(Bz l).2/\(Bz l).2<=8/\((Bz l).1<(Bz l).2->(Bz l).1+2<=(Bz l).2/\(l.take (Bz l).2).drop (Bz l).1=List.replicate ((Bz l).2 - (Bz l).1) 0)/\
  decide ((Bz l).1<(Bz l).2)=Vn (l.map isZ):=by
 have hr:AeC (l.map isZ)=true:=by
  have hl:=h.len
  match l,hl with
  | [a,b,c,d,e,f,g,i],_=>exact AhK _ _ _ _ _ _ _ _
 unfold AeC at hr;rw [<-VB l 8 0 0 0] at hr
 change (decide ((Bz l).1<=(Bz l).2) && decide ((Bz l).2<=8) && (!decide ((Bz l).1<(Bz l).2) || (decide ((Bz l).1+2<=(Bz l).2) && (((l.map isZ).take (Bz l).2).drop (Bz l).1).all id)) && (decide ((Bz l).1<(Bz l).2)==Vn (l.map isZ)))=true at hr
 simp only [Bool.and_eq_true,decide_eq_true_eq,beq_iff_eq,Bool.or_eq_true,Bool.not_eq_true',decide_eq_false_iff_not] at hr;obtain ⟨⟨⟨h1,h2⟩,h3⟩,h4⟩:=hr
 refine ⟨h1,h2,fun hlt=> ?_,h4⟩
 rcases h3 with h3 | ⟨h3,h5⟩
 ·exact absurd hlt h3
 ·refine ⟨h3,?_⟩;rw [List.eq_replicate_iff]
  refine ⟨by rw [List.length_drop,List.length_take,h.len];omega,?_⟩
  intro x hx;rw [<-List.map_take,<-List.map_drop,List.all_map,List.all_eq_true] at h5;have:=h5 x hx;simpa [isZ] using this
theorem AbE {l:List Nat} (hl:l.length=8) {b e:Nat} (hbe:b<e):∀ f i,8<=i+f->e<i->DT f l b e i=if i<8 then 58 :: Cg ((l.drop i).map FL) else []
 | 0,i,h,_=>by rw [if_neg Qa];rfl
 | f+1,i,h,he=>by
  rw [DT]
  by_cases h8:i<8
  ·rw [if_pos h8,if_pos h8,if_neg Qa,if_pos ⟨Qa,.inl Qa⟩,AbE hl hbe f (i+1) Qa Qa,Gs i Qa,List.map_cons,ED]
   by_cases h9:i+1<8
   ·rw [if_pos h9,if_neg (by intro e;have:=congrArg List.length e;simp at this;omega)];simp
   ·rw [if_neg h9,if_pos Agg];simp
  ·rw [if_neg h8,if_neg h8]
theorem AgD {l:List Nat} (hl:l.length=8) {b e:Nat} (hbe:b<e) (he8:e<=8):∀ f,8<=e+f->DT f l b e e=Cg ((l.drop e).map FL)
 | 0,h=>Agg
 | f+1,h=>by
  rw [DT]
  by_cases h8:e<8
  ·rw [if_pos h8,if_neg Qa,if_neg Qa,AbE hl hbe f (e+1) Qa Qa,Gs e Qa,List.map_cons,ED]
   by_cases h9:e+1<8
   ·rw [if_pos h9,if_neg (by intro e;have:=congrArg List.length e;simp at this;omega)];simp
   ·rw [if_neg h9,if_pos Agg];simp
  ·rw [if_neg h8,List.drop_of_length_le Qa];rfl
theorem Wk {l:List Nat} (hl:l.length=8) {b e:Nat} (hbe:b<e) (he8:e<=8):∀ f i,8<=i+f->i<=b->
  DT f l b e i=(if 0<i/\i<b then [58] else [])++Cg (((l.take b).drop i).map FL)++58 :: 58 :: Cg ((l.drop e).map FL)
 | 0,i,h,hi=>Qa
 | f+1,i,h,hi=>by
  rw [DT,if_pos Qa]
  by_cases hb:i=b
  ·subst hb;have hz:(l.take i).drop i=[]:=List.drop_of_length_le Qs;rw [if_pos ⟨rfl,hbe⟩,AgD hl hbe he8 f Qa,if_neg Qa,hz];rfl
  ·have hd:(l.take b).drop i=pc l i :: (l.take b).drop (i+1):=by
    rw [List.drop_take,List.drop_take,Gs i Qa,show b - i=(b - (i+1))+1 by omega,List.take_succ_cons]
   rw [if_neg (fun x=>hb x.1),Wk hl hbe he8 f (i+1) Qa Qa,hd,List.map_cons,ED]
   have hn:((((l.take b).drop (i+1)).map FL)=[])↔¬ i+1<b:=by
    rw [List.map_eq_nil_iff,List.drop_eq_nil_iff,List.length_take];omega
   by_cases h9:i+1<b
   ·rw [show (if 0<i+1/\i+1<b then ([58]:List UInt8) else [])=[58] from if_pos ⟨Qa,h9⟩,if_neg (fun x=>(hn.1 x) h9)]
    by_cases h0:0<i
    ·rw [show (if 0<i/\(i≠e\/e=b) then ([58]:List UInt8) else [])=[58] from if_pos ⟨h0,.inl Qa⟩,show (if 0<i/\i<b then ([58]:List UInt8) else [])=[58] from if_pos ⟨h0,Qa⟩];simp
    ·rw [show (if 0<i/\(i≠e\/e=b) then ([58]:List UInt8) else [])=[] from if_neg (fun x=>h0 x.1),show (if 0<i/\i<b then ([58]:List UInt8) else [])=[] from if_neg (fun x=>h0 x.1)];simp
   ·rw [show (if 0<i+1/\i+1<b then ([58]:List UInt8) else [])=[] from if_neg (fun x=>h9 x.2),if_pos (hn.2 h9),hn.2 h9]
    by_cases h0:0<i
    ·rw [show (if 0<i/\(i≠e\/e=b) then ([58]:List UInt8) else [])=[58] from if_pos ⟨h0,.inl Qa⟩,show (if 0<i/\i<b then ([58]:List UInt8) else [])=[58] from if_pos ⟨h0,Qa⟩];simp [Cg]
    ·rw [show (if 0<i/\(i≠e\/e=b) then ([58]:List UInt8) else [])=[] from if_neg (fun x=>h0 x.1),show (if 0<i/\i<b then ([58]:List UInt8) else [])=[] from if_neg (fun x=>h0 x.1)];simp [Cg]
theorem Afx {l:List Nat} (hl:l.length=8) (b:Nat):∀ f i,8<=i+f->DT f l b b i=(if 0<i/\i<8 then [58] else [])++Cg ((l.drop i).map FL)
 | 0,i,h=>by rw [if_neg Qa,List.drop_of_length_le Qa];rfl
 | f+1,i,h=>by
  rw [DT]
  by_cases h8:i<8
  ·rw [if_pos h8,if_neg Qa,Afx hl b f (i+1) Qa,Gs i Qa,List.map_cons,ED]
   have hn:(((l.drop (i+1)).map FL)=[])↔¬ i+1<8:=by
    rw [List.map_eq_nil_iff,List.drop_eq_nil_iff];omega
   by_cases h9:i+1<8
   ·rw [show (if 0<i+1/\i+1<8 then ([58]:List UInt8) else [])=[58] from if_pos ⟨Qa,h9⟩,if_neg (fun x=>(hn.1 x) h9)]
    by_cases h0:0<i
    ·rw [show (if 0<i/\(i≠b\/b=b) then ([58]:List UInt8) else [])=[58] from if_pos ⟨h0,.inr rfl⟩,show (if 0<i/\i<8 then ([58]:List UInt8) else [])=[58] from if_pos ⟨h0,Qa⟩];simp
    ·rw [show (if 0<i/\(i≠b\/b=b) then ([58]:List UInt8) else [])=[] from if_neg (fun x=>h0 x.1),show (if 0<i/\i<8 then ([58]:List UInt8) else [])=[] from if_neg (fun x=>h0 x.1)];simp
   ·rw [show (if 0<i+1/\i+1<8 then ([58]:List UInt8) else [])=[] from if_neg (fun x=>h9 x.2),if_pos (hn.2 h9),hn.2 h9]
    by_cases h0:0<i
    ·rw [show (if 0<i/\(i≠b\/b=b) then ([58]:List UInt8) else [])=[58] from if_pos ⟨h0,.inr rfl⟩,show (if 0<i/\i<8 then ([58]:List UInt8) else [])=[58] from if_pos ⟨h0,Qa⟩];simp [Cg]
    ·rw [show (if 0<i/\(i≠b\/b=b) then ([58]:List UInt8) else [])=[] from if_neg (fun x=>h0 x.1),show (if 0<i/\i<8 then ([58]:List UInt8) else [])=[] from if_neg (fun x=>h0 x.1)];simp [Cg]
  ·rw [if_neg h8,if_neg (fun x=>h8 x.2),List.drop_of_length_le Qa];rfl
theorem YB {l:List Nat} (h:YP l) (hlt:(Bz l).1<(Bz l).2):Gj l=Cg ((l.take (Bz l).1).map FL)++58 :: 58 :: Cg ((l.drop (Bz l).2).map FL):=by
 have:=Wk h.len hlt (JZ h).2.1 8 0 Qa Qa;rw [if_neg Qa,List.drop_zero,List.nil_append] at this;exact this
theorem W3 {l:List Nat} (h:YP l) (hlt:¬ (Bz l).1<(Bz l).2):Gj l=Cg (l.map FL):=by
 have he:(Bz l).2=(Bz l).1:=by have:=(JZ h).1;omega
 have:=Afx h.len (Bz l).1 8 0 Qa;rw [if_neg Qa,List.drop_zero,List.nil_append] at this;unfold Gj;rw [he];exact this
theorem AdX {l:List Nat} (h:YP l) (hlt:(Bz l).1<(Bz l).2):l=l.take (Bz l).1++(List.replicate ((Bz l).2 - (Bz l).1) 0++l.drop (Bz l).2):=by
 obtain ⟨h1,h2,h3,h4⟩:=JZ h;rw [<-(h3 hlt).2]
 have e:l.take (Bz l).1=(l.take (Bz l).2).take (Bz l).1:=by rw [List.take_take,Nat.min_eq_left Qa]
 conv=>lhs;rw [<-List.take_append_drop (Bz l).2 l,<-List.take_append_drop (Bz l).1 (l.take (Bz l).2)]
 rw [e,List.append_assoc]
theorem Ads {l:List Nat} (h:YP l):F7 (Gj l)=some l:=by
 have ht:V0 FL l:=Nj h.lt
 by_cases hlt:(Bz l).1<(Bz l).2
 ·obtain ⟨h1,h2,h3,h4⟩:=JZ h
  rw [YB h hlt,Af3 (Nj fun x hx=>h.lt x (List.mem_of_mem_take hx)) (Nj fun x hx=>h.lt x (List.mem_of_mem_drop hx)) (by rw [List.length_take,List.length_drop,h.len];omega)]
  have e:8 - (l.take (Bz l).1).length - (l.drop (Bz l).2).length=(Bz l).2 - (Bz l).1:=by rw [List.length_take,List.length_drop,h.len];omega
  rw [e,<-AdX h hlt]
 ·rw [W3 h hlt,Y9 ht h.len]
def Ah1 (c:UInt8):Prop:=c=58\/∃ d,d<16/\c=BN d
theorem J9:∀ {l:List Nat},∀ c∈Cg (l.map FL),Ah1 c
 | [],c,h=>Qr
 | n :: r,c,h=>by
  rw [List.map_cons,ED] at h
  rcases List.mem_append.1 h with h | h
  ·exact .inr (L3 4 n c h)
  ·split at h
   ·cases h
   ·rcases List.mem_cons.1 h with h | h
    ·exact .inl h
    ·exact J9 c h
theorem Uh {l:List Nat} (h:YP l):∀ c∈Gj l,Ah1 c:=by
 intro c hc
 by_cases hlt:(Bz l).1<(Bz l).2
 ·rw [YB h hlt] at hc
  rcases List.mem_append.1 hc with hc | hc
  ·exact J9 c hc
  ·rcases List.mem_cons.1 hc with hc | hc
   ·exact .inl hc
   ·rcases List.mem_cons.1 hc with hc | hc
    ·exact .inl hc
    ·exact J9 c hc
 ·rw [W3 h hlt] at hc;exact J9 c hc
theorem Ab2 (c:Int) (b:Int) (h:¬ Ag c b<0):(Ag c b).toNat<b.toNat:=by
 unfold Ag at h⊢;split
 ·rename_i hb;rw [if_pos hb] at h;exact absurd Qc h
 ·rename_i hb;rw [if_neg hb] at h;omega
theorem Uy (b:Nat):∀ (l:List UInt8) (acc n:Nat),AC b acc l=some n->n<(acc+1) * b ^ l.length
 | [],acc,n,h=>by cases h;simp
 | c :: r,acc,n,h=>by
  rw [AC] at h;split at h
  ·cases h
  ·rename_i hd;have h1:=Ab2 _ _ hd;rw [Int.toNat_natCast] at h1;have h2:=Uy b r _ n h;refine Nat.lt_of_lt_of_le h2 ?_;rw [List.length_cons,Nat.pow_succ,Nat.mul_comm (b ^ r.length) b,<-Nat.mul_assoc];refine Nat.mul_le_mul_right _ ?_;rw [Nat.add_mul];omega
theorem AdI {l:List UInt8} {n:Nat} (h:Ep l=some n):n<65536:=by
 unfold Ep at h;split at h
 ·cases h
 ·rename_i hl;unfold Bm at h;split at h
  ·cases h
  ·have h1:=Uy 16 l 0 n h
   have h2:(0+1) * 16 ^ l.length<=16 ^ 4:=by
    rw [Nat.zero_add,Nat.one_mul];exact Nat.pow_le_pow_right Qc Qa
   omega
theorem Px {l:List UInt8} {n:Nat} (h:Ct l=some n):n<=255:=by
 unfold Ct at h;split at h
 ·cases h
 ·split at h
  ·cases h
  ·split at h
   ·cases h
   ·cases h;omega
theorem Tc:∀ (k acc:Nat) (l:List UInt8) (n:Nat),Fj k acc l=some n->n<(acc+1) * 256 ^ (k+1)
 | 0,acc,l,n,h=>by
  rw [Fj] at h;split at h
  ·cases h
  ·cases hb:Ct (Ak 46 l).1 with
   | none=>rw [hb] at h;cases h
   | some v=>
    rw [hb] at h;cases h;have:=Px hb;show acc * 256+v<(acc+1) * 256 ^ 1;omega
 | k+1,acc,l,n,h=>by
  rw [Fj] at h;split at h
  ·split at h
   ·cases h
   ·rename_i v hb;have h1:=Px hb;have h2:=Tc k _ _ n h;refine Nat.lt_of_lt_of_le h2 ?_;rw [Nat.pow_succ 256 (k+1),Nat.mul_comm (256 ^ (k+1)) 256,<-Nat.mul_assoc];exact Nat.mul_le_mul_right _ Qa
  ·cases h
theorem Te {last nb:Bool} {t:List UInt8} {x:List Nat} (h:C9 last nb t=some x):∀ n∈x,n<65536:=by
 unfold C9 at h;split at h
 ·cases hf:GE t with
  | none=>rw [hf] at h;cases h
  | some v=>
   rw [hf] at h;cases h;have h1:=Tc 3 0 t v hf;intro n hn;simp only [List.mem_cons,List.not_mem_nil,or_false] at hn
   rcases hn with rfl | rfl<;>omega
 ·cases hf:Ep t with
  | none=>rw [hf] at h;cases h
  | some v=>
   rw [hf] at h;cases h;intro n hn;rw [List.mem_singleton.1 hn];exact AdI hf
theorem W7 (nb:Bool):∀ (f:Nat) (l:List UInt8) (x:List Nat),HD nb f l=some x->∀ n∈x,n<65536
 | 0,_,_,h=>(nomatch h)
 | f+1,l,x,h=>by
  rw [HD] at h;split at h
  ·cases h
  ·rename_i p hp;split at h
   ·cases hr:HD nb f (Ak 58 l).2.1 with
    | none=>rw [hr] at h;cases h
    | some y=>
     rw [hr] at h;cases h;intro n hn
     rcases List.mem_append.1 hn with hn | hn
     ·exact Te hp n hn
     ·exact W7 nb f _ y hr n hn
   ·cases h;exact Te hp
theorem VY {nb:Bool} {l:List UInt8} {x:List Nat} (h:Ec nb l=some x):∀ n∈x,n<65536:=by
 unfold Ec at h;split at h
 ·cases h
 ·rename_i y hy;split at h
  ·cases h;unfold AbL at hy;split at hy
   ·cases hy;intro n hn;cases hn
   ·exact W7 nb _ l x hy
  ·cases h
theorem Yw {s:List UInt8} {l:List Nat} (h:F7 s=some l):YP l:=by
 unfold F7 at h;split at h
 ·split at h
  ·cases h
  ·rename_i x hx;split at h
   ·cases h
   ·rename_i y hy;split at h
    ·cases h
     refine ⟨Qi,fun n hn=> ?_⟩
     rcases List.mem_append.1 hn with hn | hn
     ·exact VY hx n hn
     ·rcases List.mem_append.1 hn with hn | hn
      ·rw [List.eq_of_mem_replicate hn];decide
      ·exact VY hy n hn
    ·cases h
 ·split at h
  ·cases h
  ·rename_i x hx;split at h
   ·cases h
    exact ⟨by assumption,VY hx⟩
   ·cases h
inductive BO where
 | none
 | empty
 | name (n:List UInt8)
 | four (n:Nat)
 | six (l:List Nat)
 | opaqueN (n:List UInt8)
deriving DecidableEq
def BO.text:BO->List UInt8
 | .none=>[]
 | .empty=>[]
 | .name n=>n
 | .four n=>El n
 | .six l=>[91]++Gj l++[93]
 | .opaqueN n=>n
def Aio:List UInt8:=[0,9,10,13,32,35,47,58,60,62,63,64,91,92,93,94,124]
def EV (c:UInt8):Bool:=Aio.contains c
def Jb (c:UInt8):Bool:=EV c || decide (c<32) || c==37 || c==127
def UM (s:List UInt8):Option BO:=if Lib.hasSuffix s [93]=true then (F7 s.dropLast).map BO.six else Option.none
def KK (s:List UInt8):Option BO:=match CG (B9 s) with
 | Option.none=>Option.none
 | some n=>if (n.isEmpty || n.any Jb)=true then Option.none else if Mn n=true then (BD n).map BO.four else some (.name n)
def Ru (s:List UInt8):Option BO:=if s.isEmpty=true then some .empty else if s.any EV=true then Option.none else some (.opaqueN (AZ 0 s))
def D6 (s:List UInt8) (special:Bool):Option BO:=if Lib.hasPrefix s [91]=true then UM (s.drop 1) else if special=true then KK s else Ru s
inductive Bo:Bool->BO->Prop where
 | name {n:List UInt8} (h:CG n=some n) (h2:n≠[]) (h3:n.any Jb=false) (h4:Mn n=false):Bo true (.name n)
 | four {n:Nat} (h:n<4294967296):Bo true (.four n)
 | six {sp:Bool} {l:List Nat} (h:YP l):Bo sp (.six l)
 | empty:Bo false .empty
 | other {n:List UInt8} (h:n≠[]) (h2:n.any EV=false) (h3:∀ c∈n,F3 0 c=false):Bo false (.opaqueN n)
theorem Ad3:∀ n:Fin 256,EV (UInt8.ofNat n.val)=false->(Fm 0 (UInt8.ofNat n.val)).all (fun c=> !EV c)=true:=Qe
theorem Dk (c:UInt8) (l:List UInt8):Lib.hasPrefix l [c]=(l.head? ==some c):=by
 unfold Lib.hasPrefix
 cases l with
 | nil=>rfl
 | cons x r=>
  rw [List.head?_cons,Bool.eq_iff_iff];simp [List.isPrefixOf]
  exact ⟨fun h=>h.symm,fun h=>h.symm⟩
theorem JO (l:List UInt8) (c:UInt8):Lib.hasSuffix (l++[c]) [c]=true:=by
 unfold Lib.hasSuffix;simp [List.isSuffixOf,List.isPrefixOf]
theorem JM {n:List UInt8} {p:UInt8->Bool} (h:n.any p=false) {c:UInt8} (hp:p c=true):Lib.hasPrefix n [c]=false:=by
 rw [Dk]
 cases n with
 | nil=>rfl
 | cons x r=>
  rw [List.any_cons,Bool.or_eq_false_iff] at h;rw [List.head?_cons,beq_eq_false_iff_ne];intro e;rw [Option.some.inj e,hp] at h;cases h.1
theorem O1 {s:List UInt8} {sp:Bool} {h:BO} (e:D6 s sp=some h):Bo sp h:=by
 unfold D6 at e;split at e
 ·unfold UM at e;split at e
  ·cases hs:F7 (s.drop 1).dropLast with
   | none=>rw [hs] at e;cases e
   | some l=>
    rw [hs] at e;cases e;exact .six (Yw hs)
  ·cases e
 ·split at e
  ·rename_i hsp;rw [hsp];unfold KK at e
   cases hd:CG (B9 s) with
   | none=>rw [hd] at e;cases e
   | some n=>
    rw [hd] at e;dsimp only at e;split at e
    ·cases e
    ·rename_i hn;rw [Bool.or_eq_true,not_or] at hn;split at e
     ·rename_i hends
      cases hp:BD n with
      | none=>rw [hp] at e;cases e
      | some k=>
       rw [hp] at e;cases e;exact .four (Adc hp)
     ·rename_i hends;cases e
      exact .name (OA hd).1 (fun h=>hn.1 (by rw [h];rfl)) (by simpa using hn.2) (by simpa using hends)
  ·rename_i hsp
   have:sp=false:=by simpa using hsp
   subst this;unfold Ru at e;split at e
   ·cases e;exact .empty
   ·rename_i hne;split at e
    ·cases e
    ·rename_i hb;cases e;refine .other ?_ ?_ (GH Qc)
     ·intro he
      cases s with
      | nil=>exact hne rfl
      | cons c r=>
       have h1:Fm 0 c++AZ 0 r=[]:=he;have h2:=(List.append_eq_nil_iff.1 h1).1;unfold Fm at h2
       split at h2<;>cases h2
     ·rw [List.any_eq_false];intro c hc;obtain ⟨d,hd,hc⟩:=List.mem_flatMap.1 hc
      have hbd:EV d=false:=by
       have:=List.any_eq_false.1 (by simpa using hb) d hd
       simpa using this
      have:=Ad3 ⟨d.toNat,d.toNat_lt⟩;simp only [UInt8.ofNat_toNat] at this;simpa using List.all_eq_true.1 (this hbd) c hc
theorem AcB (n:Nat):Mn (El n)=true:=by
 unfold Mn;have h:Bg (El n)=[CN n 0,CN n 1,CN n 2]++[CN n 3]:=TV (NM n) (Rc n 3);rw [h];unfold Yi;rw [List.getLast?_concat,Option.getD_some,Ie];simp
theorem U5 {n:List UInt8} (h:∀ c∈n,Fs c=true) (hx:∀ c∈n,c≠120):CG n=some n:=by
 unfold CG;rw [WI (Kw h),Jz h];dsimp only
 have hg:∀ t∈Ay 46 n,Kh t:=by
  intro t ht
  refine ⟨fun c hc=>⟨h c (Ex n t ht c hc).1,(Ex n t ht c hc).2⟩,?_⟩
  unfold AU
  have hno:Lib.hasPrefix t Wa=false:=by
   cases t with
   | nil=>rfl
   | cons c r=>
    unfold Lib.hasPrefix Wa;have:c≠120:=hx c (Ex n _ ht c (List.mem_cons_self ..)).1;simp [List.isPrefixOf,Ne.symm this]
  rw [if_neg (by rw [hno];decide),if_pos (Kw fun c hc=>h c (Ex n t ht c hc).1)]
 rw [Hr hg];show some (E3 (Ay 46 n))=some n;rw [Yo]
theorem R8 (n:Nat):∀ c∈El n,c=46\/∃ d,d<10/\c=BN d:=by
 intro c hc;rw [IB] at hc
 have hb:∀ k,∀ c∈CN n k,∃ d,d<10/\c=BN d:=by
  intro k c hc;unfold CN at hc;rw [<-GU] at hc;exact O8 Qc Qc _ c hc
 rcases List.mem_append.1 hc with hc | hc
 ·obtain ⟨p,hp,hc⟩:=List.mem_flatMap.1 hc
  rcases List.mem_append.1 hc with hc | hc
  ·simp only [List.mem_cons,List.not_mem_nil,or_false] at hp
   rcases hp with rfl | rfl | rfl<;>exact .inr (hb _ c hc)
  ·exact .inl (List.mem_singleton.1 hc)
 ·exact .inr (hb _ c hc)
theorem J2:∀ d:Fin 10,Fs (BN d.val)=true/\BN d.val≠120/\Jb (BN d.val)=false/\BN d.val≠37:=Qe
theorem RS {sp:Bool} {h:BO} (g:Bo sp h):D6 h.text sp=some h:=by
 cases g with
 | @name n h h2 h3 h4=>
  show D6 n true=_;have hp:Lib.hasPrefix n [91]=false:=JM h3 Qc
  have hd:B9 n=n:=PQ (fun c hc e=>by
   have:=List.any_eq_false.1 h3 c hc;rw [e] at this
   exact this Qc)
  unfold D6
  rw [if_neg (by rw [hp];decide),if_pos rfl]
  unfold KK;rw [hd,h];dsimp only
  rw [if_neg,if_neg (by rw [h4];decide)]
  rw [h3,Bool.or_false];intro he;exact h2 (List.isEmpty_iff.1 he)
 | @four n h=>
  show D6 (El n) true=_;have hb:=R8 n
  have hname:∀ c∈El n,Fs c=true:=by
   intro c hc
   rcases hb c hc with rfl | ⟨d,hd,rfl⟩
   ·decide
   ·exact (J2 ⟨d,hd⟩).1
  have hbad:(El n).any Jb=false:=by
   rw [List.any_eq_false];intro c hc
   rcases hb c hc with rfl | ⟨d,hd,rfl⟩
   ·decide
   ·rw [(J2 ⟨d,hd⟩).2.2.1];decide
  have h37:∀ c∈El n,c≠37:=by
   intro c hc
   rcases hb c hc with rfl | ⟨d,hd,rfl⟩
   ·decide
   ·exact (J2 ⟨d,hd⟩).2.2.2
  have h120:∀ c∈El n,c≠120:=by
   intro c hc
   rcases hb c hc with rfl | ⟨d,hd,rfl⟩
   ·decide
   ·exact (J2 ⟨d,hd⟩).2.1
  have hp:Lib.hasPrefix (El n) [91]=false:=JM hbad Qc
  have hne:(El n).isEmpty=false:=by
   cases h:El n with
   | nil=>exact absurd h (WP n)
   | cons c r=>rfl
  unfold D6
  rw [if_neg (by rw [hp];decide),if_pos rfl]
  unfold KK;rw [PQ h37,U5 hname h120];dsimp only;rw [hne,hbad,if_neg Qc,AcB,if_pos rfl,Xg h];rfl
 | @six sp l h=>
  show D6 ([91]++Gj l++[93]) sp=_;unfold D6
  rw [if_pos (by rw [Dk];rfl)]
  unfold UM;have e:([91]++Gj l++[93]).drop 1=Gj l++[93]:=rfl;rw [e,if_pos (JO _ _),List.dropLast_concat,Ads h];rfl
 | empty=>rfl
 | @other n h h2 h3=>
  show D6 n false=_;have hp:Lib.hasPrefix n [91]=false:=JM h2 Qc;unfold D6
  rw [if_neg (by rw [hp];decide),if_neg Qc]
  unfold Ru
  rw [if_neg (fun e=>h (List.isEmpty_iff.1 e)),if_neg Akk,Hg h3]
def ET (c:UInt8):Bool:=Bn (c.toNat:Int) || decide (0<=Ag (c.toNat:Int) 10) || c.toNat==43 || c.toNat==45 || c.toNat==46
def CI:List UInt8->Bool
 | []=>false
 | c :: r=>Bn (c.toNat:Int) && r.all ET
theorem Zh (s:ByteArray) (h:0<s.size):CI s.toList=(Bn (s[0].toNat:Int) && (s.toList.drop 1).all ET):=by
 have:=As s 0 h;rw [List.drop_zero] at this;rw [this];rfl
theorem AcF (c:UInt8):(Bn (c.toNat:Int)=true/\ET c=true)\/(Bn (c.toNat:Int)=false/\
  ((0<=Ag (c.toNat:Int) 10/\ET c=true)\/(Ag (c.toNat:Int) 10<0/\
   ((((c.toNat:Int) != 43)=false/\ET c=true)\/(((c.toNat:Int) != 43)=true/\
    ((((c.toNat:Int) != 45)=false/\ET c=true)\/(((c.toNat:Int) != 45)=true/\
     ((((c.toNat:Int) != 46)=false/\ET c=true)\/(((c.toNat:Int) != 46)=true/\ET c=false))))))))):=by
 unfold ET;cases Bn (c.toNat:Int)
 ·refine .inr ⟨rfl,?_⟩
  by_cases hd:0<=Ag (c.toNat:Int) 10
  ·exact .inl ⟨hd,by simp [hd]⟩
  ·refine .inr ⟨Qa,?_⟩
   by_cases h1:c.toNat=43
   ·exact .inl (by simp [h1])
   refine .inr ⟨Qi,?_⟩
   by_cases h2:c.toNat=45
   ·exact .inl (by simp [h2])
   refine .inr ⟨Qi,?_⟩
   by_cases h3:c.toNat=46
   ·exact .inl (by simp [h3])
   exact .inr ⟨Qi,by simp [hd,h1,h2,h3]⟩
 ·exact .inl ⟨rfl,rfl⟩
theorem Un (s:ByteArray) (w:World) (hs:s.size<=1099511627776):
    Calls Tryz.prog 88 #[.string s] w fun e w'=>e= .returned (.bool (CI s.toList))/\w=w':=by
  by_cases h0:0<s.size
  · have hne:s.toList.isEmpty=false:=by rw [EX s h0];rfl
    have hd:=H0 (Zh s h0);have b0:=AN s[0];have b1:=AX s[0];cases hl:Bn (s[0].toNat:Int)
    · go_enter Tryz.func88,Tryz.ntmps88
      go_wp2_with (go_at_call 154;refine (Dt _ _).mono ?_;rintro e w' ⟨rfl,rfl⟩);go_ret
      exact ⟨A7 (by rw [hd.out,hl];rfl),rfl⟩
    · go_enter Tryz.func88,Tryz.ntmps88
      go_wp2_with (go_at_call 154;refine (Dt _ _).mono ?_;rintro e w' ⟨rfl,rfl⟩)
      go_loop [3] (fun i=>∃ k:Nat,i= .int .i64 k/\1<=k/\k<=s.size/\Hid ((s.toList.drop k).all ET=(s.toList.drop 1).all ET)) (fun i=>s.size - (intOf i).toNat)
      case atStart=>exact ⟨1,rfl,Nat.le_refl _,h0,rfl⟩
      case round=>
        obtain ⟨k,rfl,hk1,hk,hr⟩:=hrel
        by_cases hlt:k<s.size
        · have c0:=AN s[k]
          have c1:=AX s[k];have hdc:=H0 (As s k hlt);have hlt2:(k:Int)<(s.size:Int):=Qa
          rcases AcF s[k] with ⟨x1,x2⟩ | ⟨x1,⟨x3,x2⟩ | ⟨x3,⟨x4,x2⟩ | ⟨x4,⟨x5,x2⟩ | ⟨x5,⟨x6,x2⟩ | ⟨x6,x2⟩⟩⟩⟩⟩
          all_goals
            have hq:=H0 x2;clear x2
            go_wp2_with (first
              | (go_at_call 154;refine (Dt _ _).mono ?_;rintro e w' ⟨rfl,rfl⟩)
              | (go_at_call 155;refine (A8 _ _ _ c0 c1).mono ?_;rintro e w' ⟨rfl,rfl⟩))
            first
              | (go_ret;exact ⟨A7 (by rw [hd.out,<-hr.out,hdc.out,List.all_cons,hq.out];simp),rfl⟩)
              | (go_round
                 case rel=>exact ⟨k+1,Ql,Qa,Qa,H0 (by rw [<-hr.out,hdc.out,List.all_cons,hq.out];simp)⟩
                 case measure=>simp [intOf];omega)
        · have hdc:=H0 (AL s k Qa)
          go_wp2_with fail;go_ret
          exact ⟨A7 (by rw [hd.out,<-hr.out,hdc.out,hl];rfl),rfl⟩
  · have hne:s.toList.isEmpty=true:=by rw [(AF s).2 Qa];rfl
    have hd:Hid (CI s.toList=false):=H0 (by rw [(AF s).2 Qa];rfl)
    go_enter Tryz.func88,Tryz.ntmps88;go_wp2_with fail;go_ret;exact ⟨A7 hd.out.symm,rfl⟩
structure Cq where
 hs:Bool
 sch:List UInt8
 rest:List UInt8
 hq:Bool
 qry:List UInt8
 hf:Bool
 frg:List UInt8
deriving DecidableEq
def Cp (l:List UInt8):Cq:=
 let f:=Ak 35 l
 let q:=Ak 63 f.1
 let s:=Ak 58 q.1
 if s.2.2 && CI s.1 then ⟨true,AJ s.1,s.2.1,q.2.2,q.2.1,f.2.2,f.2.1⟩ else ⟨false,[],q.1,q.2.2,q.2.1,f.2.2,f.2.1⟩
def YI (w:World) (p:Cq) (e:Ending) (w':World):Prop:=
 ∃ a b c d:ByteArray,e= .returned (.agg #[.bool p.hs,.string a,.string b,.bool p.hq,.string c,.bool p.hf,.string d])/\
  Hid (a.toList=p.sch)/\Hid (b.toList=p.rest)/\Hid (c.toList=p.qry)/\Hid (d.toList=p.frg)/\Below w.heap.size w w'
theorem J0 {c:UInt8} {s a b:ByteArray} (ha:a.toList=(Ak c s.toList).1) (hb:b.toList=(Ak c s.toList).2.1):a.size+b.size<=s.size:=by
 have:=Cr c s.toList
 rwa [<-ha,<-hb,Aa,Aa,Aa] at this
theorem Je (s:ByteArray) (w:World) (hm:ML w) (hs:s.size<4294967281):
  Calls Tryz.prog 37 #[.string s] w (YI w (Cp s.toList)):=by
 go_enter Tryz.func37,Tryz.ntmps37;go_wp2_with fail
 refine (FF _ 35 _ (by exact (hm.alloc _).alloc _) hs).mono ?_
 rintro e w1 ⟨f1,f2,n1,rfl,hf1,hf2,rfl⟩;have z1:=J0 hf1.out hf2.out;have hs1:f1.size<4294967281:=Qa;generalize hfb0:(Ak 35 s.toList).2.2=fb;have hfb:=H0 hfb0;clear hfb0;go_wp2_with fail
 refine (FF _ 63 _ (by exact ((hm.alloc _).alloc _).drewN _) hs1).mono ?_
 rintro e w1 ⟨q1,q2,n2,rfl,hq1,hq2,rfl⟩;have z2:=J0 hq1.out hq2.out;have hs2:q1.size<4294967281:=Qa;generalize hqb0:(Ak 63 f1.toList).2.2=qb;have hqb:=H0 hqb0;clear hqb0;go_wp2_with fail
 refine (FF _ 58 _ (by exact ((hm.alloc _).alloc _).drewN _) hs2).mono ?_
 rintro e w1 ⟨s1,s2,n3,rfl,hs1',hs2',rfl⟩;have z3:=J0 hs1'.out hs2'.out;have hs3:s1.size<=1099511627776:=Qa;generalize hsb0:(Ak 58 q1.toList).2.2=sb;have hsb:=H0 hsb0;clear hsb0
 have hno:(sb && CI s1.toList)=false->Cp s.toList=⟨false,[],q1.toList,qb,q2.toList,fb,f2.toList⟩:=by
  intro h;unfold Cp;simp only [<-hf1.out,<-hf2.out,hfb.out,<-hq1.out,<-hq2.out,hqb.out,<-hs1'.out,<-hs2'.out,hsb.out,h,if_false,Bool.false_eq_true]
 have hyes:(sb && CI s1.toList)=true->Cp s.toList=⟨true,AJ s1.toList,s2.toList,qb,q2.toList,fb,f2.toList⟩:=by
  intro h;unfold Cp;simp only [<-hf1.out,<-hf2.out,hfb.out,<-hq1.out,<-hq2.out,hqb.out,<-hs1'.out,<-hs2'.out,hsb.out,h,if_true]
 replace hno:=H0 hno;replace hyes:=H0 hyes;cases sb
 ·go_wp2_with fail;refine bodyPost_ret (v:= .agg #[.bool false,.string ⟨#[]⟩,.string q1,.bool qb,.string q2,.bool fb,.string f2]) Aj3 rfl ?_;rw [hno.out rfl];exact ⟨_,_,_,_,rfl,toList_mk [],rfl,rfl,rfl,below_drewN (((Below.refl _ _).alloc (Nat.le_refl _) _).alloc Qf _) _⟩
 ·cases hnm:CI s1.toList
  ·go_wp2_with (go_at_call 88;refine (Un _ _ hs3).mono ?_;rintro e w' ⟨rfl,rfl⟩);refine bodyPost_ret (v:= .agg #[.bool false,.string ⟨#[]⟩,.string q1,.bool qb,.string q2,.bool fb,.string f2]) Aj3 rfl ?_
   rw [hno.out (by rw [hnm];rfl)]
   exact ⟨_,_,_,_,rfl,toList_mk [],rfl,rfl,rfl,below_drewN (((Below.refl _ _).alloc (Nat.le_refl _) _).alloc Qf _) _⟩
  ·go_wp2_with (go_at_call 88;refine (Un _ _ hs3).mono ?_;rintro e w' ⟨rfl,rfl⟩);refine (EM _ _ hs3).mono ?_;rintro e w2 ⟨t,rfl,ht,hb⟩;obtain ⟨E,d,rfl⟩:=hb.ext;clear hb;go_wp2_with fail;refine bodyPost_ret (v:= .agg #[.bool true,.string t,.string s2,.bool qb,.string q2,.bool fb,.string f2]) Aj3 rfl ?_
   rw [hyes.out (by rw [hnm];rfl)]
   exact ⟨_,_,_,_,rfl,ht,rfl,rfl,rfl,(((Below.refl _ _).alloc (Nat.le_refl _) _).alloc Qf _).toExt (by simp<;>omega) _ _⟩
def DL (l:List UInt8):List UInt8:=Fe (L2 l)
theorem Kt (l:List UInt8):(L2 l).length<=l.length:=by
 unfold L2 Bt DU
 have h1:(l.dropWhile fun c=>MZ (c.toNat:Int)).length<=l.length:=(List.dropWhile_sublist _).length_le
 have h2:=(List.dropWhile_sublist (fun c:UInt8=>MZ (c.toNat:Int)) (l:=(l.dropWhile fun c=>MZ (c.toNat:Int)).reverse)).length_le
 simp at h2⊢;omega
theorem Ua (s:ByteArray) (w:World) (hs:s.size<=1099511627776):
  Calls Tryz.prog 38 #[.string s] w (EI w (DL s.toList)):=by
 go_enter Tryz.func38,Tryz.ntmps38;go_wp2_with fail;refine (AeA s _ hs).mono ?_;rintro e w1 ⟨t,rfl,ht,hb⟩;have hl:=Kt s.toList;rw [<-ht.out,Aa,Aa] at hl;have hl2:t.size<=1099511627776:=Qa;go_wp2_with fail;refine (Ac9 t _ hl2).mono ?_;rintro e w2 ⟨u,rfl,hu,hb2⟩;have hq:=H0 (hu.out.trans (congrArg Fe ht.out));go_wp2_with fail;go_ret
 exact GC hq.out (hb.next hb2)
def BZ (sp:Bool):List UInt8->List UInt8 × List UInt8
 | []=>([],[])
 | c :: r=>if AB sp c=true then ([],c :: r) else (c :: (BZ sp r).1,(BZ sp r).2)
def IX (scheme s:List UInt8):Option (Option Nat):=if s=[] then some none else match Bm 10 s with
 | none=>none
 | some n=>if 65535<n then none else if Ii scheme=some n then some none else some (some n)
def BE:Bool->List UInt8->Option (List UInt8 × List UInt8)
 | _,[]=>none
 | b,c :: r=>if c=91 then (BE true r).map (fun p=>(c :: p.1,p.2)) else if c=93 then (BE false r).map (fun p=>(c :: p.1,p.2))
  else if c=58/\b=false then some ([],r) else (BE b r).map (fun p=>(c :: p.1,p.2))
structure FW where
 user:List UInt8
 pass:List UInt8
 host:BO
 port:Option Nat
def FJ (s:List UInt8):Option (List UInt8 × List UInt8):=match BE false s with
 | some (n,p)=>if n=[] then none else some (n,p)
 | none=>some (s,[])
def Fa (scheme user pass s:List UInt8):Option FW:=match FJ s with
 | none=>none
 | some (n,p)=>match D6 n (Aj scheme) with
  | none=>none
  | some h=>match IX scheme p with
   | none=>none
   | some q=>some ⟨user,pass,h,q⟩
def GG (scheme s:List UInt8):Option FW:=match CP 64 s with
 | some (w,r)=>if r=[] then none else Fa scheme (AZ 5 (Ak 58 w).1) (AZ 5 (Ak 58 w).2.1) r
 | none=>Fa scheme [] [] s
structure Ao where
 scheme:List UInt8
 user:List UInt8
 pass:List UInt8
 host:BO
 port:Option Nat
 opq:Bool
 flat:List UInt8
 path:List (List UInt8)
 query:Option (List UInt8)
 frag:Option (List UInt8)
deriving DecidableEq
def FU:Ao:=⟨[],[],[],.none,none,false,[],[],none,none⟩
def Hw (b:Bool) (l:List UInt8):Option (List UInt8):=if b=true then some l else none
def G3 (scheme:List UInt8):Nat:=if Aj scheme=true then 3 else 2
def Ax (scheme:List UInt8) (p:Cq):Ao:=⟨scheme,[],[],.none,none,false,[],[],Hw p.hq (AZ (G3 scheme) p.qry),Hw p.hf (AZ 1 p.frg)⟩
def A4 (sp:Bool):List UInt8->Nat
 | []=>0
 | c :: r=>if AB sp c=true then A4 sp r+1 else 0
def FN (sp:Bool) (s:List UInt8):List UInt8:=s.drop (A4 sp s)
def Cj (scheme s:List UInt8):List (List UInt8):=Dx scheme [] (if 0<A4 (Aj scheme) s then s.drop 1 else s)
def VS (u:Ao) (a:FW) (rest:List UInt8):Ao:=
 ⟨u.scheme,a.user,a.pass,a.host,a.port,u.opq,u.flat,if (Aj u.scheme || !rest.isEmpty)=true then Cj u.scheme rest else u.path,u.query,u.frag⟩
def IP (u:Ao) (s:List UInt8):Option Ao:=(GG u.scheme (BZ (Aj u.scheme) s).1).map fun a=>VS u a (BZ (Aj u.scheme) s).2
def EB:List UInt8:=[108,111,99,97,108,104,111,115,116]
def Bu (u:Ao) (h:BO):Ao:=⟨u.scheme,u.user,u.pass,h,u.port,u.opq,u.flat,u.path,u.query,u.frag⟩
def BF (u:Ao) (l:List (List UInt8)):Ao:=⟨u.scheme,u.user,u.pass,u.host,u.port,u.opq,u.flat,l,u.query,u.frag⟩
def DH (u base:Ao):Ao:=⟨u.scheme,base.user,base.pass,base.host,base.port,u.opq,u.flat,u.path,u.query,u.frag⟩
def Gw (u base:Ao):Ao:=⟨u.scheme,u.user,u.pass,u.host,u.port,u.opq,u.flat,base.path,if u.query=none then base.query else u.query,u.frag⟩
def GM (u:Ao) (s:List UInt8):Option Ao:=
 if Ce (BZ true s).1=true then some (BF u (Dx u.scheme [] s))
 else if (BZ true s).1=[] then some (BF u (Cj u.scheme (BZ true s).2))
 else match D6 (BZ true s).1 true with
  | none=>none
  | some h=>some (BF (if h= .name EB then u else Bu u h) (Cj u.scheme (BZ true s).2))
def EU:List (List UInt8)->Bool
 | []=>false
 | p :: _=>CT p
def LW (base:Ao) (p:Cq):Option Ao:=
 let u:=Bu (Ax Aw p) .empty
 let from_:=base.scheme==Aw
 if 2<=A4 true p.rest then GM u (p.rest.drop 2)
 else
  let v:=if from_=true then Bu u base.host else u
  if A4 true p.rest=1 then some (BF v (Dx Aw (if (from_ && (EU base.path && !E0 (p.rest.drop 1)))=true then base.path.take 1 else []) (p.rest.drop 1)))
  else if (from_ && p.rest.isEmpty)=true then some (Gw v base)
  else if (from_ && !E0 p.rest)=true then some (BF v (Dx Aw (IU Aw base.path) p.rest))
  else some (BF v (Dx Aw [] p.rest))
def Eh (b:Bool) (s:List UInt8):List UInt8:=if (b && Lib.hasSuffix s [32])=true then s.dropLast++[37,50,48] else s
def GI (p:Cq):Option Ao:=
 let u:=Ax p.sch p
 if Lib.hasPrefix p.rest [47,47]=true then IP u (p.rest.drop 2)
 else if Lib.hasPrefix p.rest [47]=true then some (BF u (Dx u.scheme [] (p.rest.drop 1)))
 else some ⟨u.scheme,[],[],.none,none,true,Eh (p.hq || p.hf) (AZ 0 p.rest),[],u.query,u.frag⟩
def Ro (base:Ao) (p:Cq):Option Ao:=if (!p.hf || p.hq || !p.rest.isEmpty)=true then none
 else some ⟨base.scheme,base.user,base.pass,base.host,base.port,base.opq,base.flat,base.path,base.query,some (AZ 1 p.frg)⟩
def EL (base:Ao) (p:Cq):Option Ao:=
 let u:=Ax base.scheme p
 let sp:=Aj base.scheme
 if 2<=A4 sp p.rest then (if sp=true then IP u (FN sp p.rest) else IP u (p.rest.drop 2))
 else if A4 sp p.rest=1 then some (BF (DH u base) (Dx u.scheme [] (p.rest.drop 1)))
 else if p.rest.isEmpty=true then some (Gw (DH u base) base)
 else some (BF (DH u base) (Dx u.scheme (IU u.scheme base.path) p.rest))
def I7 (base:Ao) (p:Cq):Option Ao:=
 if ((p.hs && p.sch==Aw) || (!p.hs && (!base.opq && base.scheme==Aw)))=true then LW base p
 else if ((p.hs && Aj p.sch) && (!(p.sch==base.scheme) || Lib.hasPrefix p.rest [47,47]))=true then IP (Ax p.sch p) (FN (Aj p.sch) p.rest)
 else if (p.hs && !(p.hs && Aj p.sch))=true then GI p
 else if base.opq=true then Ro base p
 else EL base p
def Ho (base:Ao) (s:List UInt8):Option Ao:=I7 base (Cp (DL s))
def DJ (s:List UInt8):Option Ao:=if (Cp (DL s)).hs=true then I7 FU (Cp (DL s)) else none
def Ir (user pass:List UInt8):List UInt8:=if user=[]/\pass=[] then [] else if pass=[] then user++[64] else user++[58]++pass++[64]
def D8:Option Nat->List UInt8
 | none=>[]
 | some n=>[58]++Lib.itoa (n:Int)
def Abh:List (List UInt8)->Bool
 | []=>false
 | p :: _=>p.isEmpty
def F6 (u:Ao):List UInt8:=if u.host= .none then (if (!u.opq && (decide (2<=u.path.length) && Abh u.path))=true then [47,46] else []) else [47,47]++Ir u.user u.pass++u.host.text++D8 u.port
def Ha (u:Ao):List UInt8:=if u.opq=true then u.flat else Az u.path
def F1 (d:UInt8):Option (List UInt8)->List UInt8
 | none=>[]
 | some q=>d :: q
def AW (u:Ao) (f:Bool):List UInt8:=u.scheme++[58]++F6 u++Ha u++F1 63 u.query++(if f=true then F1 35 u.frag else [])
end Go.Proofs.YtonomfeipkdmhaaGreatDoor
