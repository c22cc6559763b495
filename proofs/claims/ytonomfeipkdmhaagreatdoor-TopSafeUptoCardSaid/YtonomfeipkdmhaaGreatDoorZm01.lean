/- Lemmas. -/
import Derived.Test.YtonomfeipkdmhaaGreatDoorZm00
import Derived.Deep.Cut
import Derived.Deep.CutRange
import Derived.Deep.RegionWith
import Derived.Deep.WholeRow
import Derived.Great.BuildSlice
import Derived.Handed
import Derived.HandedShaped
import Derived.IntWalk
import Derived.JoinedCond
import Derived.LaidLaws
import Derived.Laws.BitsLemmas
import Derived.Laws.Externs
import Derived.Laws.FloatArith
import Derived.Lib.AppendStr
import Derived.Lib.Builder
import Derived.Lib.ItoaNum
import Derived.Lib.LaidTab
import Derived.Lib.SplitLaws
import Derived.ProofKit
import Derived.SevenTiedAt
import Derived.Shelf.SlicesQ.IndexFunc
import Derived.Shelf.Spec.DecodeRune
import Derived.Shelf.Spec.SlicesInsert
import Derived.Shelf.Spec.SlicesInsertGrow
set_option linter.all false
set_option maxRecDepth 100000
set_option maxHeartbeats 16000000
namespace Go.Proofs.YtonomfeipkdmhaaGreatDoor
open Go renaming wpList->Aq,Program->Dj,maxLen->BK,Operand->CV,World->A7,Calls->AD,Value->AJ,TypeId->Ab,Ending->Ag
open Go.RowKit renaming Below->AF
open Go.RowKit Go.Proofs.Tryz
open Go.Proofs.Tryz renaming prog->A8
def DL(w:A7)(B b:Nat)(l:A5):Prop:=Lib.IsBuilder 76 5 B b (Lib.byteCells l) w
def Ahg:(A8.info? 76).map (·.size)=some 2:=AO
def Aga:liesAt A8 A8.depth 76 (2/A8.cellsOf 76) 0 76 1=true:=AO
def Z8(B b:Nat)(l:A5)(w:A7)(h:DL w B b l):AD A8 91 #[.pointer (some ⟨b,0,none⟩)] w λe w'=>e=.returned (.tuple #[])/\(Lib.BuilderAt 76 5 B b (.pointer (some ⟨b,0,none⟩)) (Lib.byteCells l) w'/\AF B w w'):=by
 have⟨j,hj,hjs⟩:=H1.1 Ahg;rcases h with h|h
 ·have c:=h.cell0;have a:=h.shape;have k:=h.frozen0;have d:=Lib.run_to_unsafe (P:=A8) w ⟨b,0,none⟩ underlying74 underlying158 hj (by rw[hjs];decide) a (Nat.zero_lt_succ 1);have i:=λw=>run_callFunc_extern (P:=A8) (w:=w) (args:= #[.pointer (some ⟨b,0,none⟩)]) func158 AO AO AO (e:=Extern.AbiNoEscape.same) AO;have g:=Lib.run_from_unsafe (P:=A8) w ⟨b,0,none⟩ underlying158 underlying74 hj a Aga;have f:=Lib.run_noEscape (P:=A8) w (.pointer (some ⟨b,0,none⟩));go_in;go_wp2;go_end0;exact⟨rfl,h.used _,(AU B w).setCell (p:=⟨b,0,none⟩) h.1 _⟩
 have c:=h.cell0;have d:=Lib.run_neq_ptr_same (P:=A8) w ⟨b,0,none⟩ underlying74 hj;go_in;go_wp2;go_end0;exact⟨rfl,h,AU B _⟩
def Oh:(A8.info? 5).map (λi=>(i.zero,i.size,i.bytes))=some (some (.int .u8 0),1,1):=AO
variable{w:A7}{B n:Nat}{v:AJ}
def Q5{e:Ab}{xs:List AJ}(h:w.ownsRow B e 1 v n xs):∃a k c,v=.slice a k c:=by
 rcases h.2 with⟨f,_⟩|⟨g,d,b,f,_⟩
 ·simp_all
 simp_all
variable{b:Nat}
def PV{p:AJ}{T:Ab}(h:w.heap[b]?=some (.cells #[p,v] T (0,0))):w.cell? ⟨b,1,none⟩=some v/\w.frozen? ⟨b,1,none⟩=false:=
 ⟨by rw[Lib.cell_of_heap h];rfl,Lib.frozen_of_heap h 1⟩
def Re:(76:Ab)≠5:=AE
def EZ{o:Obj}(h:w.heap[b]?=some o):b<w.heap.size:=(En.1 h).1
def RG(l m:A5):Lib.byteCells (l++m)=Lib.byteCells l++Lib.byteCells m:=by simp[Lib.byteCells]
def Afe(s:A9):Lib.strCells s=Lib.byteCells s.toList:=by simp[Lib.strCells,Lib.byteCells,BQ]
def KF(B b:Nat)(l:A5)(c:UInt8)(f:Int)(p:f=(c:Int))(w:A7)(h:DL w B b l)(o:l.length<=1099511627776)(m:B<=w.heap.size):AD A8 41 #[.pointer (some ⟨b,0,none⟩),.int .u8 f] w λe w'=>e=.returned .nilIface/\DL w' B b (l++[c])/\AF B w w':=by
 have⟨i0,hi,hz0,hz1,hz2⟩:=IQ Oh;go_in;go_wp2_with fail;go_call Z8 as e w1⟨rfl,⟨hBb,v,hblk,hown,hne⟩,hb⟩;have d:=EZ hblk;have c1:w1.cell? ⟨b,1,none⟩=some v:=QB;rw[Hd]at hown;go_wp2_with(at_builtin;refine Ig _ rfl _ _ 25 rfl B 5 i0 (.int .u8 0) 1 1 underlying25 hi hz0 hz1 hz2 rfl AE _ _ _ rfl (hown.alloc _) ⟨w1,0,none⟩ 1 1 [.int .u8 (c:Int)] rfl rfl (Uh w1 _ _) (by intro u hu;simp at hu;subst hu;rfl) C1 A4 B7 ?_;intro n q a g _;obtain⟨r,s,c2,rfl⟩:=Q5 a;have i:=(g.block b B7 (λe=>hne e.symm)).trans ((Lib.alloc_old w1 _ b d).trans hblk);have⟨d1,f1⟩:=PV i);go_wp2;go_ret;refine⟨rfl,Or.inr ?_,?_⟩
 ·exact QJ hBb i (by rw[RG,Aa,Hd];exact a) Re
 exact((hb.alloc A4 _).grown g B7 (λk j=>(hown.lt k j).1)).setCell hBb _
def Hw(B b:Nat)(l:A5)(s:A9)(w:A7)(h:DL w B b l)(m:l.length<=1099511627776)(o:s.size<=1099511627776)(i:B<=w.heap.size):AD A8 40 #[.pointer (some ⟨b,0,none⟩),.string s] w λe w'=>e=.returned (.tuple #[.int .i64 s.size,.nilIface])/\DL w' B b (l++s.toList)/\AF B w w':=by
 have⟨i0,hi,hz0,hz1,hz2⟩:=IQ Oh;go_in;go_wp2_with fail;go_call Z8 as e w1⟨rfl,⟨hBb,v,hblk,hown,hne⟩,hb⟩;have c:=EZ hblk;have c1:w1.cell? ⟨b,1,none⟩=some v:=QB;rw[Hd]at hown;go_wp2_with(at_builtin;refine Ux _ rfl _ _ 25 9 rfl B 5 i0 underlying25 underlying9 hi hz0 hz1 hz2 _ _ _ rfl hown s rfl C1 A4 A4 ?_;intro j n a d _;obtain⟨p,q,c2,rfl⟩:=Q5 a;have f:=(d.block b c (λe=>hne e.symm)).trans hblk;have⟨d1,f1⟩:=PV f);go_wp2;go_ret2;refine⟨rfl,Or.inr ?_,?_⟩
 ·exact QJ hBb f (by rw[RG,Aa,Hd,Hd,<-Afe,AK];exact a) Re
 exact(hb.grown d A4 (λk g=>(hown.lt k g).1)).setCell hBb _
def Ml(B b:Nat)(l:A5)(w:A7)(h:DL w B b l)(a:B<=w.heap.size):AD A8 42 #[.pointer (some ⟨b,0,none⟩)] w λe w'=>∃t:A9,e=.returned (.string t)/\Hid (t.toList=l)/\AF B w w':=
 (Tryz.Builder_String_any B b l w h a).mono λe w'⟨he,hb⟩=>⟨_,he,toList_mk l,hb⟩
variable{w':A7}
def DL.keep{l:A5}(h:DL w B b l)(f:AF w w w'):DL w' B b l:=by
 have e:∀p,Lib.BuilderAt 76 5 B b p (Lib.byteCells l) w->Lib.BuilderAt 76 5 B b p (Lib.byteCells l) w':=by
  rintro p⟨g,v,a,c,d⟩;exact⟨g,v,by rw[f.block b (EZ a)];exact a,HR c f (AG _),d⟩
 rcases h with h|h
 ·exact .inl (e _ h)
 exact .inr (e _ h)
def DL.fresh(w:A7):DL (w.alloc (.cells #[.pointer none,.slice none 0 0] 76)) w.heap.size w []:=Lib.fresh_isBuilder _ _ w
def Es:Fs A8 22 9 (.string ByteArray.empty) 16:=.mk' underlying22 AO rfl
variable{P:Dj}{E:Ab}{ops:Array Oper}{rest:List Oper}{o:Oper}{a:Act}{Q:Exit->Act->A7->Prop}{W0 w0:A7}
def Lb{T:Ab}{z:AJ}(ty:Fs P T E z b)(A:o.guard=none)(s x:CV)(D:o.op=.call {callee:=.builtin .append,args:= #[s,x],argTypes:= #[T,T]}){l:List A9}(m:List A9)(pa:Option Addr)(pc:Nat)(w:a.eval s=v)(hx:a.eval x=.slice pa m.length pc)(F:pa=none->pc=0/\m=[])(f:0<m.length->∃g o,pa=some ⟨g,o,none⟩/\∀i(h:i<m.length),w0.cell? ⟨g,o+i,none⟩=some (.string m[i]))(c:OwnS w0 B E v l)(d:AF B W0 w0)(r:B<=w0.heap.size)(q:l.length+m.length<=BK)(J:(l.length+m.length)*b<=140737488355328)(h:∀p w',OwnS w' B E p (l++m)->AF B W0 w'->Aq P ops Q rest (a.put o.dst p) w'):Aq P ops Q (o::rest) a w0:=by
 have⟨i,hi,hz,hs1,hb1⟩:=ty.i;cases hpa:pa with
 |none=>
  obtain⟨rfl,rfl⟩:=F hpa;subst hpa;refine wpList_append_own_none A s x T D B E i 1 ty.u hi v l.length _ w c hx ?_;have:=h v w0 AS d;exact this
 |some ad=>
  subst hpa;have I:∀j u,(m.map Value.string)[j]?=some u->w0.cell? (ad.add j)=some u:=by
   intro j u hj;have hjl:j<m.length:=by
    have:=Hk.1 hj;simpa using this.1
   have⟨g,o,e,hc⟩:=f A4;exact Aep
  refine Ig w0 A s x T D B E i z 1 b ty.u hi hz hs1 hb1 ty.z AE v l.length _ w c ad m.length pc (m.map Value.string) hx AN I (by intro y C;simp at C;obtain⟨t,_,rfl⟩:=C;rfl) q J r ?_;intro p w' n H F;refine h p w' ?_ (d.grown H r (λk G=>(Om c k G).1));unfold OwnS;rw[Aa,Dx];exact n
def OwnS.empty(hB:B<=w.heap.size):OwnS (w.alloc (.cells #[] E)) B E (.slice (some ⟨w,0,none⟩) 0 0) []:=by
 exact AdJ
structure Fq(w:A7)(pa:Option Addr)(n c:Nat)(l:A5):Prop where
 len:l.length=n
 cap:n<=c
 cells:0<n->∃g o,pa=some ⟨g,o,none⟩/\∀i(h:i<l.length),w.cell? ⟨g,o+i,none⟩=some (DS l[i])
variable{K c:Nat}{pa:Option Addr}
def Fq.below{l:A5}(h:Fq w pa n c l)(hb:AF K w w')(a:w.heap.size<=K):Fq w' pa n c l:=by
 exact AbR
def Sw:A8.underlying 25=some (.slice (A8.elem 25)):=AO
def Axf(w:A7):(sizeOf (A8.elem 25)).run A8 w=.ok 1 w:=AO
def Fq.drop{l:A5}(h:Fq w pa n c l)(k:Nat)(b:k<=n):∃a,(∀w0,(Instr.slice 25 (.slice pa n c) (some (.int .i64 (k:Int))) none none).run A8 w0=.ok (.slice a (n-k) (c-k)) w0)/\Fq w a (n-k) (c-k) (l.drop k):=by
 refine⟨if c=k then pa else pa.map (·.add (k*1)),λw0=> ?_,?_⟩
 ·rw[run_slice_l w0 _ pa n c Sw .i64 (k:Int) A4 A4];rfl
 exact Aen
def Fq.take{l:A5}(h:Fq w pa n c l)(k:Nat)(d:k<=n):∃a,(∀w0,(Instr.slice 25 (.slice pa n c) none (some (.int .i64 (k:Int))) none).run A8 w0=.ok (.slice a k c) w0)/\Fq w a k c (l.take k):=by
 have b:=h.cap;refine⟨if c=0 then pa else pa.map (·.add (0*1)),λw0=> ?_,?_⟩
 ·rw[run_slice_h w0 _ pa n c Sw .i64 (k:Int) A4 A4];rfl
 exact AkP
def Aea(s:A9)(w:A7):∃(pa:Option Addr)(n c:Nat)(w':A7),(convert 9 25 (.string s)).run A8 w=.ok (.slice pa n c) w'/\Fq w' pa n c s.toList/\AF w w w':=by
 refine⟨_,_,_,_,Lib.run_convert_string_bytes w 9 25 5 s underlying9 underlying25 underlying5,⟨AK s,grownCap_ge w s.size 0 _,λ_=>⟨w,0,rfl,λi a=> ?_⟩⟩,Below.bytesWorld (AU _ _) (AG _) _ s⟩;rw[Db];exact(IX.made w _ s).cell i a
def AzG{K:Act->A7->Prop}(l:Region.wanted o (yielded ops a.tmps)=true)(h:∀j:Exit->Act->A7->Prop,(∀a w,K a w->j .normal a w)->Aq P ops j [o] a w):if Region.wanted o (yielded ops a.tmps)=true then Oper.wp P o a w K Q else K (a.put o.dst undef) w:=by
 rw[AC l];have i:=h (λe a w=>match e with| .normal=>K a w| .outgrown=>False|e=>Q e a w) (λ_ _ k=>k);unfold Aq at i;rw[AC l]at i;rcases i with b|⟨_,n,w',hf⟩
 ·unfold Oper.wp at b⊢;generalize(execOp a.eval o).run P w=r at b⊢;cases r with
  |ok v w'=>
   cases v with
   |value v=>exact b|skip=>exact b|defer d=>exact b
   |enter f args=>
    refine Calls.mono b ?_;intro e m g;cases e with
    |returned v=>exact g|panicked c=>exact g|outgrown=>have⟨_,_,hx⟩:=g;exact hx.elim
   |row row args=>exact Rows.mono b (λ_ _ h=>h)|_=>exact b
  |halt hh w'=>cases hh<;>exact b
 simp_all
def DW(w:A7):Prop:=∃m,w.cell? ⟨0,0,none⟩=some (.int .i64 m)
def DW.next(h:DW w)(a:AF w w w'):DW w':=by
 have⟨m,hm⟩:=h;have:=EV w _ hm;exact⟨m,(a.cell A4).trans hm⟩
def DW.alloc(h:DW w)(o:Obj):DW (w.alloc o):=h.next ((AU _ _).alloc (AG _) o)
def DW.drewN(h:DW w)(n:Nat):DW (w.drewN n):=h.next (Ey (AU _ _) n)
def AL(c:UInt8):A5->A5×A5×Bool
 |[]=>([],[],false)|d::r=>if d=c then([],r,true)else(d::(AL c r).1,(AL c r).2.1,(AL c r).2.2)
def AwA(c:UInt8)(l:A5):Lib.index l [c]=Lib.indexByte l c:=by
 induction l with
 |nil=>rfl
 |cons d r ih=>
  unfold Lib.index Lib.indexByte;rw[ih];by_cases h:d=c
  ·simp_all
  simp[h,Jb h]
def Atn(c:UInt8)(l:A5):Lib.cut l [c]=AL c l:=by
 unfold Lib.cut;rw[AwA];induction l with
 |nil=>rfl
 |cons d r ih=>
  unfold Lib.indexByte AL;by_cases h:d=c
  ·simp[h]
  have f:=Lib.indexByte_ge r c;rw[<-ih];by_cases h1:Lib.indexByte r c=-1
  ·simp[h,h1]
  have b:0<=Lib.indexByte r c:=A4;have e:(Lib.indexByte r c+1).toNat=(Lib.indexByte r c).toNat+1:=A4;have a:0<=Lib.indexByte r c+1:=A4;simp[h,h1,b,e,a]
def AaA(w:A7)(a b:A5)(f:Bool)(e:Ag)(w':A7):Prop:=
 ∃(ta tb:A9)(n:Nat),e=.returned (.tuple #[.string ta,.string tb,.bool f])/\Hid (ta.toList=a)/\Hid (tb.toList=b)/\w'=w.drewN n
def KS(s:A9)(c:UInt8)(w:A7)(h:DW w)(b:s.size<4294967281):AD A8 87 #[.string s,.string ⟨#[c]⟩] w (AaA w (AL c s).1 (AL c s).2.1 (AL c s).2.2):=by
 have⟨m,hm⟩:=h;go_call Tryz.strings_Cut as e w'⟨rfl,n,rfl⟩;have a:Lib.cut s.data.toList [c]=AL c s.toList:=by rw[Atn,BQ]
 simp only[a];exact⟨_,_,n,rfl,toList_mk _,toList_mk _,rfl⟩
def PT(c:UInt8)(l:A5):l=(AL c l).1++(if(AL c l).2.2 then c::(AL c l).2.1 else[]):=by
 induction l with
 |nil=>rfl
 |cons d r ih=>
  unfold AL;by_cases h:d=c
  ·simp[h]
  simp[h,if_false,Di];rw[<-ih]
theorem Uq(c:UInt8)(l:A5)(h:(AL c l).2.2=false):(AL c l).1=l/\(AL c l).2.1=[]:=by
 induction l with
 |nil=>exact⟨rfl,rfl⟩
 |cons d r ih=>
  unfold AL at h⊢;by_cases a:d=c
  ·simp_all
  simp_all
def Ai6{c:UInt8}(a b:A5)(h:∀d∈a,d≠c):AL c (a++c::b)=(a,b,true):=by
 induction a with
 |nil=>simp[AL]
 |cons d r ih=>
  rw[Di];unfold AL;rw[AA (h d AN),ih (λx hx=>h x (by simp[hx]))]
def YY{c:UInt8}(a:A5)(h:∀d∈a,d≠c):AL c a=(a,[],false):=by
 induction a with
 |nil=>rfl
 |cons d r ih=>
  unfold AL;rw[AA (h d AN),ih (λx hx=>h x (by simp[hx]))]
def HA(c:UInt8)(l:A5):(AL c l).1.length+(AL c l).2.1.length<=l.length:=by
 have:=congrArg List.length (PT c l);rw[Aa]at this;cases h:(AL c l).2.2
 ·rw[(Uq c l h).2];simp;omega
 simp_all
def Al(c:UInt8):A5->List (A5)
 |[]=>[[]]|d::r=>if d=c then[]::Al c r else(d::(Al c r).headD [])::(Al c r).tail
def Lw(c d:UInt8)(r:A5):Al c (d::r)=if d=c then[]::Al c r else(d::(Al c r).headD [])::(Al c r).tail:=rfl
theorem Ik(c:UInt8)(l:A5):Al c l≠[]:=by
 cases l with
 |nil=>simp[Al]|cons d r=>unfold Al;split<;>simp
def ApK(c:UInt8)(l:A5):(Al c l).headD []::(Al c l).tail=Al c l:=by
 have:=Ik c l;cases h:Al c l with
 |nil=>exact absurd h this|cons a b=>rfl
def AeG(c:UInt8)(l:A5):Lib.split l [c]=Al c l:=by
 unfold Lib.split;induction l with
 |nil=>rfl
 |cons d r ih=>
  by_cases h:d=c
  ·subst h;have e:Lib.index (d::r) [d]=((0:Nat):Int):=by rw[Lib.index];simp
   rw[Lib.count_cons_eq,Nat.add_comm,Lib.splitK];rw[e];unfold Al;grind
  have e:Lib.index (d::r) [c]=if Lib.index r [c]== -1 then -1 else Lib.index r [c]+1:=by
   have f:([c]:A5).isPrefixOf (d::r)=false:=by simp[List.isPrefixOf,Jb h]
   rw[Lib.index,f];simp
  rw[Lib.count_cons_ne d c r h];unfold Al;rw[AA h,<-ih];by_cases g:Lib.index r [c]=-1
  ·rw[Lib.count_miss g];rfl
  have k:=Lib.index_ge r [c];obtain⟨j,b⟩:∃j:Nat,Lib.index r [c]=j:=⟨(Lib.index r [c]).toNat,A4⟩;have a:Lib.index (d::r) [c]=((j+1:Nat):Int):=by simp_all
  have i:Lib.count r [c]=Lib.count (r.drop (j+1)) [c]+1:=by rw[Lib.count_hit AN b,List.length_singleton,Nat.add_comm]
  rw[i,Lib.splitK,Lib.splitK,AA M9,a,b];simp
def P3(c:UInt8)(a b:A5):Al c (a++c::b)=Al c a++Al c b:=by
 induction a with
 |nil=>simp[Al]
 |cons d r ih=>
  rw[Di,Lw,Lw];by_cases h:d=c
  ·rw[AC h,AC h,ih];rfl
  rw[AA h,AA h,ih];have:=Ik c r;cases hs:Al c r with
  |nil=>exact absurd hs this|cons x y=>simp
def Nv{c:UInt8}(a:A5)(h:∀d∈a,d≠c):Al c a=[a]:=by
 induction a with
 |nil=>rfl|cons d r ih=>unfold Al;rw[AA (h d AN),ih (λx hx=>h x (by simp[hx]))];rfl
def UV(c:UInt8)(l:A5):(Al c l).length<=l.length+1:=by
 induction l with
 |nil=>simp[Al]
 |cons d r ih=>
  unfold Al;have:=ApK c r;have a:=congrArg List.length this;exact OH
def AhL(w:A7)(ls:List (A5))(e:Ag)(w':A7):Prop:=
 ∃(v:AJ)(l:List A9),e=.returned v/\Hid (l.map (·.toList)=ls)/\CA w' v l/\AF w w w'
def Ayg(s:A9)(c:UInt8)(w:A7)(h:DW w)(a:s.size<4294967281):AD A8 339 #[.string s,.string ⟨#[c]⟩] w λe w'=>∃l:List A9,e=.returned (.slice (some ⟨w,0,none⟩) l.length l.length)/\Hid (l.map (·.toList)=Al c s)/\(∀i(h:i<l.length),w'.cell? ⟨w,i,none⟩=some (.string l[i]))/\AF w w w':=by
 have⟨m,hm⟩:=h;go_call Tryz.strings_Split;refine AH ?_;refine⟨Lib.splitB ⟨#[c]⟩ 0 (Lib.countB s ⟨#[c]⟩) s,by rw[Lib.splitB_all _ (AG _) 0 _ _ rfl],H0 ?_,?_,Ah _ _⟩
 ·rw[(funext λt=>BQ ..),Lib.splitB_data ⟨#[c]⟩ 0 (Lib.countB s ⟨#[c]⟩) s,BQ,<-AeG];rfl
 simp_all
def GC(w:World):Prop:=Lib.TabIs A8 w "internal/strconv.uint64pow10" .u64 Lib.pow10Tab∧w.cell? ⟨5,15,none⟩=some (.int .u8 4)
def Acn:A8.globalNamed "internal/strconv.uint64pow10" =some 3:=by kernel_rfl
def GC.next(h:GC w)(a:AF w w w'):GC w':=by
 refine⟨?_,(a.cell (EV w _ h.2)).trans h.2⟩;have h1:=h.1;unfold Lib.TabIs World.var? at h1⊢;rw[Acn]at h1⊢;simp only[Option.bind_some]at h1⊢;rw[a.block _ (by grind)];exact h1
def GC.alloc(h:GC w)(o:Obj):GC (w.alloc o):=h.next ((AU _ _).alloc (AG _) o)
def Qy{l:A5}:BM w B E v l↔w.ownsRow B E 1 v l.length (Lib.byteCells l):=by
 have:l.map DS=Lib.byteCells l:=rfl;unfold BM;rw[this]
def L7(u:Nat):Prop:=u<18446744073709551616
def Apb(B u:Nat)(c:Int)(b:c=(u:Int))(hu:L7 u)(v:AJ)(l:A5)(w:A7)(h:BM w B 5 v l)(f:GC w)(d:B<=w.heap.size)(g:l.length<=1099511627776):AD A8 222 #[v,.int .u64 c,.int .i64 10] w λe w'=>∃a,e=.returned a/\BM w' B 5 a (l++Lib.decDigits u)/\AF B w w':=by
 subst b;go_call(Tryz.internal_strconv_AppendUint_10 B l.length u hu v (Lib.byteCells l) w (Qy.1 h) d A4 f.1) as e w'⟨a,rfl,ho,hb,_⟩;refine⟨a,rfl,Qy.2 ?_,hb⟩;rw[Aa];have:Lib.byteCells (l++Lib.decDigits u)=Lib.byteCells l++Lib.byteCells (Lib.decDigits u):=by simp[Lib.byteCells]
 rw[this];exact ho
def Tb(B u:Nat)(b:Int)(c:b=(u:Int))(hu:L7 u)(v:AJ)(l:A5)(w:A7)(h:BM w B 5 v l)(g:GC w)(d:B<=w.heap.size)(f:l.length<=1099511627776):AD A8 159 #[v,.int .u64 b,.int .i64 10] w λe w'=>∃a,e=.returned a/\BM w' B 5 a (l++Lib.decDigits u)/\AF B w w':=by
 go_in;go_wp2_with fail;go_call Apb as e w1⟨a,rfl,ho,hb⟩;go_wp2;go_ret;exact⟨_,rfl,ho,hb⟩
def AxY(w:A7)(h:w.cell? ⟨5,15,none⟩=some (.int .u8 4)):AD A8 312 #[.int .u64 16] w (AzJ (.int .i64 4) w):=by
 have e:(IntKind.u64.wrap (bits BinOp.and IntKind.u64 16 (IntKind.u64.wrap (-16))*285870213051353865)/288230376151711744).toNat=15:=AX;have a:w.cell? ⟨5,(IntKind.u64.wrap (bits BinOp.and IntKind.u64 16 (IntKind.u64.wrap (-16))*285870213051353865)/288230376151711744).toNat,none⟩=some (.int .u8 4):=by simp_all
 exact KO
def Ane(w:A7)(h:w.cell? ⟨5,15,none⟩=some (.int .u8 4)):AD A8 283 #[.int .u64 16] w (AzJ (.int .i64 4) w):=by
 go_in;go_wp2_with fail;go_call AxY;refine AH ?_;go_wp2;exact Lv
def Avb(w:A7):AD A8 282 #[.int .i64 16] w (AzJ (.bool true) w):=by
 exact KO
def AbA:(A8.info? 5).map (λi=>(i.zero,i.size,i.bytes))=some (some (.int .u8 0),1,1):=AO
def BJ(d:Nat):UInt8:=UInt8.ofNat (if d<10 then 48+d else 87+d)
def Ej:Nat->Nat->A5
 |0,_=>[]|f+1,n=>if n<16 then[BJ n]else Ej f (n/16)++[BJ (n%16)]
def EM(n:Nat):A5:=Ej 4 n
def J3(w:A7)(g j:Nat)(D:A5):Prop:=∃arr:Array AJ,w.heap[g]?=some (.cells arr 225 (0,0))/\arr.size=65/\arr.toList.drop j=Lib.byteCells D
variable{g j:Nat}{D:A5}
def J3.cell(h:J3 w g j D)(i:Nat)(a:i<65):(∃x,w.cell? ⟨g,i,none⟩=some x)/\w.frozen? ⟨g,i,none⟩=false:=by
 have⟨arr,hb,hs,_⟩:=h;exact⟨⟨arr[i],by rw[Lib.cell_of_heap hb,Pl A4]⟩,Lib.frozen_of_heap hb i⟩
def J3.set(h:J3 w g (j+1) D)(a:j<65)(c:UInt8):J3 (w.setCell ⟨g,j,none⟩ (.int .u8 (c:Int))) g j (c::D):=by
 have⟨arr,hb,hs,hd⟩:=h;refine⟨arr.setIfInBounds j (.int .u8 (c:Int)),by simp[World.setCell,Js,hb],AS,?_⟩;rw[Array.toList_setIfInBounds,Fr AS,List.getElem_set_self,List.drop_set_of_lt A4,hd];rfl
def J3.news(h:J3 w g j D)(a:j<=65):D.length=65-j/\∀i u,(Lib.byteCells D)[i]?=some u->w.cell? ((⟨g,j,none⟩:Addr).add i)=some u:=by
 have⟨arr,hb,hs,hd⟩:=h;refine⟨?_,λi u hu=> ?_⟩
 ·have:=congrArg List.length hd;rw[Hd,C7,Of]at this;omega
 have e:(⟨g,j,none⟩:Addr).add i=⟨g,j+i,none⟩:=by unfold Addr.add;split<;>simp_all
 rw[e,Lib.cell_of_heap hb,<-hu,<-hd,List.getElem?_drop,L9]
def Q4(n:Int)(h₀:0<=n)(h₁:n<2^64):IntKind.u64.wrap n=n:=by
 simp[IntKind.wrap,IntKind.bits,IntKind.signed];omega
def At4(x:Nat)(h:x<65536):bits .and .u64 (x:Int) 15=(x:Int)%16:=bits_mask .u64 64 AE Q4 4 AE (x:Int) A4 A4
def Aeg{f:Nat}(h:16<=n):Ej (f+1) n=Ej f (n/16)++[BJ (n%16)]:=by rw[Ej,AA A4]
def W6{f:Nat}(h:n<16):Ej (f+1) n=[BJ n]:=by rw[Ej,AC h]
def VY:A9:=⟨#[48,49,50,51,52,53,54,55,56,57,97,98,99,100,101,102,103,104,105,106,107,108,109,110,111,112,113,114,115,116,117,118,119,120,121,122]⟩
def Aas:∀d:Fin 16,VY[d.val]'(by have:=d.isLt;show d.val<36;omega)=BJ d.val:=AX
def AmN(w:A7):(zeroValue 225).run A8 w=.ok (.agg (Array.replicate 65 (.int .u8 0))) w:=AO
def AxH(g f:Nat)(hf:f<4)(w:A7):(Instr.sliceAt 225 (.pointer (some ⟨g,0,none⟩)) (some (.int .i64 ((f:Int)+1+61-1))) none none).run A8 w=.ok (.slice (some ⟨g,f+61,none⟩) (4-f) (4-f)) w:=by
 have a:A8.arrayLen 225=65:=AO;have b:(sizeOf (A8.elem 225)).run A8 w=.ok 1 w:=AO;rw[run_sliceAt_array_l w 225 ⟨g,0,none⟩ AO .i64 _ A4 A4,b];simp only[QS,slicedAt,a];have c:((f:Int)+1+61-1).toNat=f+61:=A4;have e:65-(f+61)=4-f:=A4;have d:(⟨g,0,none⟩:Addr).add ((f+61)*1)=⟨g,f+61,none⟩:=by unfold Addr.add;rw[AA A4];simp
 grind
def Amh(B u:Nat)(hu:u<65536)(v:AJ)(l:A5)(w:A7)(h:BM w B 5 v l)(C:w.cell? ⟨5,15,none⟩=some (.int .u8 4))(S:B<=w.heap.size)(hl:l.length<=1099511627776):AD A8 226 #[v,.int .u64 (u:Int),.int .i64 16,.bool false,.bool true] w λe w'=>∃A,e=.returned (.tuple #[A,.string ⟨#[]⟩])/\BM w' B 5 A (l++EM u)/\AF B w w':=by
 have J:=AmN;have o:=EV w _ C;have z:(w.alloc (.cells (Array.replicate 65 (.int .u8 0)) 225)).cell? ⟨5,15,none⟩=some (.int .u8 4):=by
  rw[World.cell?_alloc_past _ _ _ o];exact C
 have C:=H0 z;go_in;go_wp2_with(first|(go_call Avb;refine AH ?_)|(go_call Ane;refine AH ?_));have M:J3 (w.alloc (.cells (Array.replicate 65 (.int .u8 0)) 225)) w.heap.size 65 []:=⟨_,CB w _,AN,by simp[Lib.byteCells]⟩;have F:=Ah w (.cells (Array.replicate 65 (.int .u8 0)) 225);have L:w.heap.size+1<=(w.alloc (.cells (Array.replicate 65 (.int .u8 0)) 225)).heap.size:=AN;clear z C J o;generalize w.alloc (.cells (Array.replicate 65 (.int .u8 0)) 225)=wa at M F L⊢;go_loopw[1,13] (λZ I wr=>∃(a f:Nat)(D:A5),Z=.int .u64 a/\I=.int .i64 ((f+61:Nat):Int)/\1<=f/\f<=4/\a<65536/\Hid (a<16^f)/\Hid (EM u=Ej f a++D)/\J3 wr w (f+61) D/\AF w w wr/\w.heap.size+1<=wr.heap.size) (λ_ i _=>(intOf i).toNat)
 ·exact⟨u,4,[],rfl,rfl,A4,A4,hu,H0 A4,H0 (by simp[EM]),M,F,L⟩
 obtain⟨a,f,D,rfl,rfl,hf1,V,G,b,Q,E,c,aP⟩:=hrel;clear M F L;obtain⟨f,rfl⟩:∃g,f=g+1:=⟨f-1,A4⟩;by_cases r:16<=a
 ·have X:1<=f:=by
   rcases Nat.eq_zero_or_pos f with H|H
   ·have:=b.out;rw[H]at this;omega
   exact H
  have e:=At4 a G;have s:(a:Int)%16=((a%16:Nat):Int):=A4;rw[s]at e;have W:a%16<16:=Fw _ AE;have m:=A6 (a/16<16^f) (by
   have:=b.out;rw[L0]at this;exact Qn A4)
  have K:=A6 (EM u=Ej f (a/16)++(BJ (a%16)::D)) (by rw[Q.out,Aeg r];simp);have⟨⟨x,hc⟩,hfz⟩:=E.cell (f+61) A4;have q:=J3.set (j:=f+61) E A4 (BJ (a%16));have d:J3 (wr.setCell ⟨w,f+61,none⟩ (.int .u8 ((VY[a%16]'(by show a%16<36;omega)).toNat:Int))) w.heap.size (f+61) (BJ (a%16)::D):=by
   rw[Aas ⟨a%16,W⟩];exact q
  have N:16<=(a:Int):=A4;change Hid _ at s d;clear q;go_wp2;go_roundw;exact⟨a/16,f,BJ (a%16)::D,AP,AP,X,A4,A4,m,K,d,c.setCell (AG _) _,B7⟩;exact AzF
 have O:a<16:=A4;have K:=A6 (EM u=BJ a::D) (by rw[Q.out,W6 O];rfl);have⟨⟨x,hc⟩,hfz⟩:=E.cell (f+61) A4;have q:=J3.set (j:=f+61) E A4 (BJ a);have d:J3 (wr.setCell ⟨w,f+61,none⟩ (.int .u8 ((VY[a]'(by show a<36;omega)).toNat:Int))) w.heap.size (f+61) (BJ a::D):=by
  rw[Aas ⟨a,O⟩];exact q
 replace d:=H0 d;clear q;have hsl:=AxH w f A4;have⟨hDl,hnews⟩:=d.out.news A4;have P:=c.setCell (p:=⟨w,f+61,none⟩) (AG _) (.int .u8 ((VY[a]'(by show a<36;omega)).toNat:Int));have R:=HR h P (AG _);change Hid _ at hnews hDl;clear d;have⟨i0,hi,hz0,hz1,hz2⟩:=IQ AbA;go_wp2_with(at_builtin;refine Ig _ rfl _ _ 25 rfl B 5 i0 (.int .u8 0) 1 1 underlying25 hi hz0 hz1 hz2 rfl AE v l.length _ rfl R ⟨w,f+61,none⟩ (4-f) (4-f) (Lib.byteCells (BJ a::D)) rfl (by rw[Hd,hDl.out];omega) hnews Xh C1 A4 B7 ?_;intro A w2 n U _);go_ret2;refine⟨A,rfl,?_,(P.mono S).grown U B7 (λk T=>(R.lt k T).1)⟩;rw[Qy,K.out,Aa];have Y:Lib.byteCells (l++BJ a::D)=Lib.byteCells l++Lib.byteCells (BJ a::D):=by simp[Lib.byteCells]
 have e2:65-(f+61)=4-f:=A4;rw[Y,hDl.out,e2];exact n
def Axd(B u:Nat)(hu:u<65536)(v:AJ)(l:A5)(w:A7)(h:BM w B 5 v l)(d:w.cell? ⟨5,15,none⟩=some (.int .u8 4))(b:B<=w.heap.size)(c:l.length<=1099511627776):AD A8 222 #[v,.int .u64 (u:Int),.int .i64 16] w λe w'=>∃a,e=.returned a/\BM w' B 5 a (l++EM u)/\AF B w w':=by
 go_in;go_wp2_with fail;go_call Amh as e w1⟨a,rfl,ho,hb⟩;go_wp2;go_ret;exact⟨_,rfl,ho,hb⟩
def Ajv(B u:Nat)(b:Int)(g:b=(u:Int))(hu:u<65536)(v:AJ)(l:A5)(w:A7)(h:BM w B 5 v l)(f:GC w)(c:B<=w.heap.size)(d:l.length<=1099511627776):AD A8 159 #[v,.int .u64 b,.int .i64 16] w λe w'=>∃a,e=.returned a/\BM w' B 5 a (l++EM u)/\AF B w w':=by
 go_in;go_wp2_with fail;go_call(Axd B u hu v l _ h f.2 c d) as e w1⟨a,rfl,ho,hb⟩;go_wp2;go_ret;exact⟨_,rfl,ho,hb⟩
def WY(n:Int)(h₀:0<=n)(h₁:n<2^32):IntKind.u32.wrap n=n:=by rw[IntKind.wrap_u32];omega
def Ss(x:Nat)(h:x<4294967296):bits .and .u32 (x:Int) 255=((x%256:Nat):Int):=by
 have:=bits_mask .u32 32 AE WY 8 AE (x:Int) A4 A4;rw[show((2:Int)^8-1)=255 by decide]at this;rw[this];omega
def ES(n k:Nat):A5:=Lib.decDigits (n/256^(3-k)%256)
def FD(n:Nat):Nat->A5
 |0=>[]|k+1=>FD n k++ES n k++(if k<3 then[46]else[])
def FF(n:Nat):A5:=FD n 4
def Qv(u:Nat)(h:u<256):(Lib.decDigits u).length<=3:=by
 rw[Lib.decDigits];split
 ·simp
 rw[Lib.decDigits];split
 ·simp
 rw[Lib.decDigits,dif_pos A4];simp
def Aqm(n k:Nat):(ES n k).length<=3:=Qv _ (Fw _ AE)
def Zg(n:Nat):∀k,(FD n k).length<=4*k
 |0=>by simp[FD]
 |k+1=>by
  have h1:=Zg n k;have a:=Aqm n k;simp[FD];exact OH
def L7.small{u:Nat}(h:u<256):L7 u:=by unfold L7;omega
def YI:Fs A8 25 5 (.int .u8 0) 1:=.mk' underlying25 AO rfl
def AsX(n:Nat)(D:n<4294967296)(w:A7)(x:GC w):AD A8 92 #[.int .u32 (n:Int)] w (Bi w (FF n)):=by
 have e0:=A6 (IntKind.u64.wrap (bits BinOp.and IntKind.u32 ((n:Int)/16777216) 255)=((n/16777216%256:Nat):Int)) (by have h:=Ss (n/16777216) A4;rw[show((n/16777216:Nat):Int)=(n:Int)/16777216 by omega]at h;rw[h,Q4 _ A4 A4]);have z:=A6 (IntKind.u64.wrap (bits BinOp.and IntKind.u32 ((n:Int)/65536) 255)=((n/65536%256:Nat):Int)) (by have h:=Ss (n/65536) A4;rw[show((n/65536:Nat):Int)=(n:Int)/65536 by omega]at h;rw[h,Q4 _ A4 A4]);have B:=A6 (IntKind.u64.wrap (bits BinOp.and IntKind.u32 ((n:Int)/256) 255)=((n/256%256:Nat):Int)) (by have h:=Ss (n/256) A4;rw[show((n/256:Nat):Int)=(n:Int)/256 by omega]at h;rw[h,Q4 _ A4 A4]);have y:=A6 (IntKind.u64.wrap (bits BinOp.and IntKind.u32 ((n:Int)) 255)=((n%256:Nat):Int)) (by have h:=Ss (n) A4;rw[show((n:Nat):Int)=(n:Int)by omega]at h;rw[h,Q4 _ A4 A4]);go_in;go_wp2;go_loopw[3,4] (λv iv wr=>∃k:Nat,k<=4/\iv=.int .i64 (24-8*(k:Int))/\BM wr w 5 v (FD n k)/\AF w w wr) (λ_ i _=>(intOf i+8).toNat)
 ·exact⟨0,A4,rfl,BM.nil _ _ _,AU _ _⟩
 obtain⟨k,C,rfl,b,a⟩:=hrel;have o:=a.size;have s:=Zg n k;have j:=x.next a;rcases(show k=0\/k=1\/k=2\/k=3\/k=4 by omega)with rfl|rfl|rfl|rfl|rfl
 ·go_wp2_with fail;refine(Tb w (n/16777216%256) _ ?hu (L7.small (Fw _ AE)) _ _ _ b j o A4).mono ?_;case hu=>exact e0.out
  rintro e p⟨q,rfl,l,c⟩;have g:=a.trans c;have m:=g.size;have r:(FD n 0++Lib.decDigits (n/16777216%256)).length<=100:=by
   have:=Qv (n/16777216%256) (Fw _ AE);exact R4
  go_wp2_with(at_builtin;refine HZ YI rfl _ _ rfl 46 rfl rfl l g m rfl C1 A4 ?_;intro u t f d _);go_roundw;exact⟨1,A4,Rf,by have e:FD n 1=FD n 0++Lib.decDigits (n/16777216%256)++[46]:=(by simp[FD,ES]);rw[e];exact f,d⟩;simp[intOf]
 ·go_wp2_with fail;refine(Tb w (n/65536%256) _ ?hu (L7.small (Fw _ AE)) _ _ _ b j o A4).mono ?_;case hu=>exact z.out
  rintro e p⟨q,rfl,l,c⟩;have g:=a.trans c;have m:=g.size;have r:(FD n 1++Lib.decDigits (n/65536%256)).length<=100:=by
   have:=Qv (n/65536%256) (Fw _ AE);exact R4
  go_wp2_with(at_builtin;refine HZ YI rfl _ _ rfl 46 rfl rfl l g m rfl C1 A4 ?_;intro u t f d _);go_roundw;exact⟨2,A4,Rf,by have e:FD n 2=FD n 1++Lib.decDigits (n/65536%256)++[46]:=(by simp[FD,ES]);rw[e];exact f,d⟩;simp[intOf]
 ·go_wp2_with fail;refine(Tb w (n/256%256) _ ?hu (L7.small (Fw _ AE)) _ _ _ b j o A4).mono ?_;case hu=>exact B.out
  rintro e p⟨q,rfl,l,c⟩;have g:=a.trans c;have m:=g.size;have r:(FD n 2++Lib.decDigits (n/256%256)).length<=100:=by
   have:=Qv (n/256%256) (Fw _ AE);exact R4
  go_wp2_with(at_builtin;refine HZ YI rfl _ _ rfl 46 rfl rfl l g m rfl C1 A4 ?_;intro u t f d _);go_roundw;exact⟨3,A4,Rf,by have e:FD n 3=FD n 2++Lib.decDigits (n/256%256)++[46]:=(by simp[FD,ES]);rw[e];exact f,d⟩;simp[intOf]
 ·go_wp2_with fail;refine(Tb w (n%256) _ ?hu (L7.small (Fw _ AE)) _ _ _ b j o A4).mono ?_;case hu=>exact y.out
  rintro e p⟨q,rfl,l,c⟩;have g:=a.trans c;go_wp2;go_roundw;exact⟨4,A4,Rf,by have e:FD n 4=FD n 3++Lib.decDigits (n%256):=(by simp[FD,ES]);rw[e];exact l,g⟩;simp[intOf]
 have A:=Mh (P:=A8) (S:=9) underlying25 underlying5 underlying9 b;go_wp2;go_ret;exact My rfl a
def Ash:Fs A8 25 5 (.int .u8 0) 1:=.mk' underlying25 AO rfl
def By(l:List Nat):Array AJ:=(l.map λn:Nat=>Value.int .u16 (n:Int)).toArray
def MA(l:List Nat):AJ:=.agg (By l)
structure Gg(l:List Nat):Prop where
 len:l.length=8
 lt:∀x∈l,x<65536
def pc(l:List Nat)(i:Nat):Nat:=l.getD i 0
variable{l:List Nat}
def Gg.at(h:Gg l)(i:Nat)(b:i<8):pc l i<65536/\(By l)[i]?=some (.int .u16 ((pc l i:Nat):Int)):=by
 unfold pc;have a:i<l.length:=by rw[h.len];exact b
 have e:l.getD i 0=l[i]:=by simp_all
 rw[e];exact⟨h.lt _ (CI a),by simp[By,a]⟩
def Dr:List Nat->Nat
 |[]=>0|x::r=>if x=0 then Dr r+1 else 0
def AeO(l:List Nat):Dr l<=l.length:=by
 induction l with
 |nil=>exact AG _|cons x r ih=>unfold Dr;split<;>simp<;>omega
def MQ(i:Nat)(a:i<l.length):l.drop i=pc l i::l.drop (i+1):=by
 unfold pc;rw[Fr a];simp[a]
def Hb:Nat->List Nat->Nat->Nat->Nat->Nat×Nat
 |0,_,_,b,e=>(b,e)
 |f+1,l,i,b,e=>
  if i<8 then(if 2<=Dr (l.drop i)/\e-b<Dr (l.drop i)then Hb f l (i+Dr (l.drop i)+1) i (i+Dr (l.drop i))else Hb f l (i+Dr (l.drop i)+1) b e)else(b,e)
def Ap(l:List Nat):Nat×Nat:=Hb 8 l 0 0 0
def ArK(f:Nat)(l:List Nat)(i b e:Nat)(h:8<=i):Hb f l i b e=(b,e):=by
 cases f with
 |zero=>rfl|succ f=>rw[Hb,AA A4]
def Avp(l:List Nat)(h:Gg l)(w:A7):AD A8 160 #[MA l] w λe w'=>e=.returned (.tuple #[.int .i64 ((Ap l).1:Int),.int .i64 ((Ap l).2:Int)])/\((Ap l).1<=(Ap l).2/\(Ap l).2<=8)/\AF w w w':=by
 have a:∀i,i<8->(w.alloc (.cells (By l) 30)).cell? ⟨w,i,none⟩=some (.int .u16 ((pc l i:Nat):Int)):=by
  exact Vz
 have n:=Ah w (.cells (By l) 30);unfold MA;go_in;replace a:=H0 a;go_wp2;go_loop[4,5,6] (λG M iv=>∃(f i b e:Nat),G=.int .i64 b/\M=.int .i64 e/\iv=.int .i64 i/\i<=9/\b<=e/\e<=8/\8<=i+f/\Hid (Hb f l i b e=Ap l)) (λ_ _ i=>9-(intOf i).toNat)
 ·exact⟨8,0,0,0,rfl,rfl,rfl,A4,A4,A4,A4,rfl⟩
 obtain⟨f,i,b,e,rfl,rfl,rfl,hi,r,F,hf,q⟩:=hrel;by_cases s:i<8
 ·obtain⟨f,rfl⟩:∃g,f=g+1:=⟨f-1,A4⟩;have x:(i:Int)<8:=A4;have D:i+Dr (l.drop i)<=8:=by
   have:=AeO (l.drop i);rw[C7,h.len]at this;omega
  generalize p:Dr (l.drop i)=z at D;have m:=A6 (Ap l=if 2<=z/\e-b<z then Hb f l (i+z+1) i (i+z)else Hb f l (i+z+1) b e) (by
   rw[<-q.out,Hb,AC s,p])
  replace p:=H0 p;clear q;go_wp2;go_loop[7] (λH=>∃j:Nat,H=.int .i64 j/\i<=j/\j<=8/\Hid (j+Dr (l.drop j)=i+z)) (λj=>8-(intOf j).toNat)
  ·exact⟨i,rfl,AG _,A4,H0 (by rw[p.out])⟩
  obtain⟨j,rfl,K,J,A⟩:=hrel;by_cases hgo:j<8/\pc l j=0
  ·have⟨hj1,o⟩:=hgo;have hc:=a.out j hj1;have I:=H0 (MQ (l:=l) j (by rw[h.len];exact hj1));rw[o]at hc;have B:(j:Int)<8:=A4;replace o:=H0 o;go_wp2;go_round;exact⟨j+1,AP,A4,A4,H0 (by rw[<-A.out,I.out,Dr,AC o.out];omega)⟩;exact AzF
  have d:=A6 (j=i+z) (by
   rw[<-A.out];by_cases h8:j<8
   ·rw[MQ j (by rw[h.len];exact h8),Dr,AA (λe=>hgo ⟨h8,e⟩)];rfl
   rw[Cj (by rw[h.len];omega)];rfl)
  have C:((j:Int)<8/\(w.alloc (.cells (By l) 30)).cell? ⟨w,j,none⟩=some (.int .u16 ((pc l j:Nat):Int))/\(((pc l j:Nat):Int)==0)=false)\/8<=(j:Int):=by
   by_cases h8:j<8
   ·exact .inl ⟨A4,a.out j h8,Al9⟩
   exact .inr A4
  clear hgo;have k:z=j-i:=by have:=d.out;omega
  replace k:=H0 k;by_cases c:2<=j-i/\e-b<j-i
  ·have y:2<=(j:Int)-i:=A4;have E:(e:Int)-b<(j:Int)-i:=A4;have u:=A6 (Hb f l (j+1) i j=Ap l) (by
    rw[m.out,<-d.out,AC (by rw[k.out];exact c)])
   clear c;rcases C with⟨h8,hc,v⟩|h8;all_goals
    go_wp2;go_round;exact⟨f,j+1,i,j,rfl,rfl,AP,A4,A4,A4,A4,u⟩;exact AzF
  have u:=A6 (Hb f l (j+1) b e=Ap l) (by
   rw[m.out,<-d.out,AA (by rw[k.out];exact c)])
  have t:(j:Int)-i<2\/2<=(j:Int)-i/\(j:Int)-i<=(e:Int)-b:=A4;clear c;rcases C with⟨h8,hc,v⟩|h8<;>rcases t with y|⟨y,E⟩
  all_goals
   go_wp2;go_round;exact⟨f,j+1,b,e,rfl,rfl,AP,A4,A4,A4,A4,u⟩;exact AzF
 have L:=A6 (Ap l=(b,e)) (by rw[<-q.out,ArK _ _ _ _ _ A4]);clear q;go_wp2;go_ret2;rw[L.out];exact⟨rfl,⟨r,F⟩,n⟩
def Akg(n:o.guard=none)(s x:CV)(p:o.op=.call {callee:=.builtin .append,args:= #[s,x],argTypes:= #[25,9]}){l:A5}(t:A9)(j:a.eval s=v)(hx:a.eval x=.string t)(b:BM w0 B 5 v l)(d:AF B W0 w0)(g:B<=w0.heap.size)(q:l.length+t.size<=1099511627776)(h:∀f w',BM w' B 5 f (l++t.toList)->AF B W0 w'->Aq A8 ops Q rest (a.put o.dst f) w'):Aq A8 ops Q (o::rest) a w0:=by
 have⟨i0,hi,hz0,hz1,hz2⟩:=IQ AbA;refine Ux _ n s x 25 9 p B 5 i0 underlying25 underlying9 hi hz0 hz1 hz2 v l.length _ j (Qy.1 b) t hx C1 A4 g ?_;intro f w' c m _;refine h f w' (Qy.2 ?_) (d.grown m g (λk i=>(Om b k i).1));rw[Aa,AK];have e:Lib.byteCells (l++t.toList)=Lib.byteCells l++Lib.strCells t:=by simp[Lib.byteCells,Lib.strCells,BQ]
 rw[e];exact c
def ZO(h:Gg l):MA l=.agg #[.int .u16 ((pc l 0:Nat):Int),.int .u16 ((pc l 1:Nat):Int),.int .u16 ((pc l 2:Nat):Int),.int .u16 ((pc l 3:Nat):Int),.int .u16 ((pc l 4:Nat):Int),.int .u16 ((pc l 5:Nat):Int),.int .u16 ((pc l 6:Nat):Int),.int .u16 ((pc l 7:Nat):Int)]:=by
 match l,h.len with
 |[a,b,c,d,e,f,g,h],_=>rfl
def DT:Nat->List Nat->Nat->Nat->Nat->A5
 |0,_,_,_,_=>[]
 |f+1,l,b,e,i=>
  if i<8 then(if i=b/\b<e then[58,58]++DT f l b e e else(if 0<i/\(i≠e\/e=b)then[58]else[])++EM (pc l i)++DT f l b e (i+1))else[]
def Dv(l:List Nat):A5:=DT 8 l (Ap l).1 (Ap l).2 0
def AjZ(f:Nat)(l:List Nat)(b e i:Nat)(h:8<=i):DT f l b e i=[]:=by
 cases f with
 |zero=>rfl|succ f=>rw[DT,AA A4]
def AbL:∀f n,(Ej f n).length<=f
 |0,_=>AG _
 |f+1,n=>by
  have:=AbL f (n/16);unfold Ej;exact OH
def U5(n:Nat):(EM n).length<=4:=AbL 4 n
def Atq(l:List Nat)(h:Gg l)(w:A7)(R:GC w):AD A8 93 #[MA l] w (Bi w (Dv l)):=by
 have a:∀i,i<8->(w.alloc (.cells (By l) 30)).cell? ⟨w,i,none⟩=some (.int .u16 ((pc l i:Nat):Int)):=by
  exact Vz
 have I:=Ah w (.cells (By l) 30);have J:=ZO h;change Hid _ at a J;have c0:=a.out 0 AE;have c1:=a.out 1 AE;have c2:=a.out 2 AE;have c3:=a.out 3 AE;have c4:=a.out 4 AE;have c5:=a.out 5 AE;have V:=a.out 6 AE;have c7:=a.out 7 AE;unfold MA;go_in;go_wp2_with fail;rw[<-J.out];refine(Avp l h _).mono ?_;rintro e p⟨rfl,⟨x,Y⟩,z⟩;have i4:=A6 (∀i,i<8->p.cell? ⟨w,i,none⟩=some (.int .u16 ((pc l i:Nat):Int))) (λi hi=>(z.cell AN).trans (a.out i hi));have K:=I.next z;have u:=R.next K;have m:w.heap.size<p.heap.size:=by have:=z.size;simp at this;omega
 clear c0 c1 c2 c3 c4 c5 V c7 a z I;have C:Hid (Dv l=DT 8 l (Ap l).1 (Ap l).2 0):=rfl;generalize(Ap l).1=b at C x⊢;generalize(Ap l).2=e at C x Y⊢;go_wp2_with fail;go_loopw[5,6] (λW iv wr=>∃(f i:Nat)(P:A5),iv=.int .i64 i/\i<=8/\8<=i+f/\P.length<=6*i/\Hid (P++DT f l b e i=Dv l)/\BM wr p 5 W P/\AF p p wr) (λ_ i _=>8-(intOf i).toNat)
 ·exact⟨8,0,[],rfl,A4,A4,AN,H0 C.out.symm,BM.nil _ _ _,AU _ _⟩
 obtain⟨f,i,P,rfl,hi,hf,hP,v,d,c⟩:=hrel;have B:=c.size;by_cases j:i<8
 ·obtain⟨f,rfl⟩:∃g,f=g+1:=⟨f-1,A4⟩;have cE:(i:Int)<8:=A4;by_cases n:i=b/\b<e
  ·have A:((i:Int)==b)=true:=by simp[n.1]
   have g2:(b:Int)<e:=A4;have hi2:i<e:=A4;have y:=A6 ((P++[58,58])++DT f l b e e=Dv l) (by rw[<-v.out,DT,AC j,AC n];simp);have r:(ByteArray.mk #[58,58]).toList=[58,58]:=toList_mk _;replace r:=H0 r;clear n;go_wp2_with(at_builtin;refine Akg rfl _ _ rfl ⟨#[58,58]⟩ rfl rfl d c B (by show P.length+2<=_;omega) ?_;intro v' w' F N);go_roundw;exact⟨f,e,P++[58,58],AP,A4,A4,B7,y,by rw[<-r.out];exact F,N⟩;exact AzF
  have H:((i:Int)==b)=false\/((i:Int)==b)=true/\(e:Int)<=b:=by
   by_cases h1:i=b
   ·exact .inr ⟨by simp[h1],A4⟩
   exact .inl (B6.2 A4)
  have D:=i4.out i j;have O:wr.cell? ⟨w,i,none⟩=some (.int .u16 ((pc l i:Nat):Int)):=(c.cell m).trans D;have s:=H0 (h.at i j).1;have M:=A6 (IntKind.u64.wrap ((pc l i:Nat):Int)=((pc l i:Nat):Int)) (Q4 _ A4 (by have:=s.out;omega));have X:=U5 (pc l i);by_cases hc:0<i/\(i≠e\/e=b)
  ·have y:=A6 ((P++[58]++EM (pc l i))++DT f l b e (i+1)=Dv l) (by rw[<-v.out,DT,AC j,AA n,AC hc];simp);have k0:0<(i:Int):=A4;have o:((i:Int)!=e)=true\/((i:Int)!=e)=false/\((e:Int)==b)=true:=by
    by_cases h1:i=e
    ·have:e=b:=by rcases hc.2 with t|t;exact absurd h1 t;exact t
     exact .inr ⟨by simp[h1],by simp[this]⟩
    exact .inl B7
   clear n hc D;rcases H with A|⟨A,g2⟩<;>rcases o with g3|⟨g3,g4⟩
   all_goals
    go_wp2_with(at_builtin;refine HZ Ash rfl _ _ rfl 58 rfl rfl d c B rfl C1 A4 ?_;intro v1 w1 T k _;have L:=(k.cell m).trans (i4.out i j));refine(Ajv p (pc l i) _ M s _ _ _ T (u.next k) k.size B7).mono ?_;rintro e' Q⟨v3,rfl,E,q⟩;go_wp2_with fail;go_roundw;exact⟨f,i+1,_,AP,A4,A4,B7,y,E,k.trans q⟩;exact AzF
  have y:=A6 ((P++EM (pc l i))++DT f l b e (i+1)=Dv l) (by rw[<-v.out,DT,AC j,AA n,AA hc];simp);have o:(i:Int)<=0\/0<(i:Int)/\((i:Int)!=e)=false/\((e:Int)==b)=false:=by
   by_cases G:0<i
   ·have h1:i=e:=by
     by_cases h1:i=e
     ·exact h1
     exact absurd ⟨G,.inl h1⟩ hc
    have t:¬e=b:=λt=>hc ⟨G,.inr t⟩;exact .inr ⟨A4,by simp[h1],B6.2 A4⟩
   exact .inl A4
  clear n hc D;rcases H with A|⟨A,g2⟩<;>rcases o with g3|⟨g3,g4,g5⟩
  all_goals
   go_wp2_with fail;refine(Ajv p (pc l i) _ M s _ _ _ d (u.next c) B A4).mono ?_;rintro e' Q⟨v3,rfl,E,q⟩;go_wp2_with fail;go_roundw;exact⟨f,i+1,_,AP,A4,A4,B7,y,E,c.trans q⟩;exact AzF
 have Z:=A6 (P=Dv l) (by rw[<-v.out,AjZ _ _ _ _ _ A4,Bq]);have U:=Mh (P:=A8) (S:=9) underlying25 underlying5 underlying9 d;clear v;go_wp2_with fail;go_ret;exact My Z (K.next c)
structure E7 where
 kind:Int
 name:A9
 four:Nat
 six:List Nat
def AV(h:E7):Array AJ:= #[.int .i64 h.kind,.string h.name,.int .u32 (h.four:Int),.int .u16 ((pc h.six 0:Nat):Int),.int .u16 ((pc h.six 1:Nat):Int),.int .u16 ((pc h.six 2:Nat):Int),.int .u16 ((pc h.six 3:Nat):Int),.int .u16 ((pc h.six 4:Nat):Int),.int .u16 ((pc h.six 5:Nat):Int),.int .u16 ((pc h.six 6:Nat):Int),.int .u16 ((pc h.six 7:Nat):Int)]
structure Pg(h:E7):Prop where
 four:h.four<4294967296
 six:Gg h.six
 name:h.name.size<=BK
def Gm(h:E7):A5:=if h.kind=2\/h.kind=5 then h.name.toList else if h.kind=3 then FF h.four else if h.kind=4 then[91]++Dv h.six++[93]else[]
def Aj0(h:E7):((h.kind==2)=true/\Gm h=h.name.toList)\/((h.kind==2)=false/\(((h.kind==5)=true/\Gm h=h.name.toList)\/((h.kind==5)=false/\(((h.kind==3)=true/\Gm h=FF h.four)\/((h.kind==3)=false/\(((h.kind==4)=true/\Gm h=[91]++Dv h.six++[93])\/((h.kind==4)=false/\Gm h=[]))))))):=by
 unfold Gm;by_cases c:h.kind=2
 ·grind
 refine .inr ⟨by simp[c],?_⟩;by_cases a:h.kind=5
 ·grind
 refine .inr ⟨by simp[a],?_⟩;by_cases b:h.kind=3
 ·grind
 refine .inr ⟨by simp[b],?_⟩;by_cases d:h.kind=4
 ·grind
 grind
def AjV(n:Nat):(FF n).length<=16:=Zg n 4
def Vr:∀f l b e i,(DT f l b e i).length<=5*f
 |0,_,_,_,_=>by simp[DT]
 |f+1,l,b,e,i=>by
  have h1:=Vr f l b e e;have c:=Vr f l b e (i+1);have a:=U5 (pc l i);unfold DT;split
  ·split
   ·simp;omega
   simp only[Aa];exact OH
  simp
def XA(l:List Nat):(Dv l).length<=40:=Vr 8 l _ _ 0
def OQ{t:A9}{l:A5}(h:t.toList=l)(a:l.length<=n):t.size<=n:=by rw[<-AK,h];exact a
def AkJ(h:E7)(c:Pg h)(w:A7)(j:GC w):AD A8 44 #[.agg (AV h)] w (Bi w (Gm h)):=by
 have b:=ZO c.six;replace b:=H0 b;unfold AV;have a:=j.alloc (.cells (AV h) 32);have hb1:=Ah w (.cells (AV h) 32);unfold AV at a hb1;rcases Aj0 h with⟨g,e⟩|⟨g,⟨i,e⟩|⟨i,⟨f,e⟩|⟨f,⟨d,e⟩|⟨d,e⟩⟩⟩⟩;all_goals replace e:=H0 e
 ·exact Ua
 ·exact Ua
 ·go_in;go_wp2_with fail;go_call(AsX h.four c.four _ a) as e' w2⟨t,rfl,ht',hb⟩;go_wp2;go_ret;exact Be (ht'.out.trans e.out.symm) (hb1.next hb)
 ·go_in;go_wp2_with fail;rw[<-b.out];go_call(Atq h.six c.six _ a) as e' w2⟨t,rfl,ht',hb⟩;exact AgZ
 go_in;go_wp2;go_ret;exact Be ((toList_mk []).trans e.out.symm) hb1
def As{s:Code}{R:A7->Prop}(h:R w)(k:∀w',R w'->s.wp P Q a w'):s.wp P Q a w:=k w h
def Jf(cG:o.guard=none)(ty:Ab)(x y:CV)(ho:o.op=.store ty x y)(hd:o.dst=none)(cells:Array AJ)(t:Ab)(dM:Array AJ)(g:Nat)(hx:a.eval x=.pointer (some ⟨g,0,none⟩))(hgw:g=w.heap.size)(hy:a.eval y=.agg cells)(hi:(P.info? ty).map (·.size)=some cells.size)(cL:dM.size=cells.size)(h1:cells.all (·.oneCell')=true)(h:Aq P ops Q rest a (w.alloc (.cells cells t))):Aq P ops Q (o::rest) a (w.alloc (.cells dM t)):=by
 exact AiU
def TU{o:Obj}{i:Nat}(h:i=w.heap.size):(w.alloc o).heap[i]?=some o:=by subst h;exact CB w o
def Uz{o p:Obj}{i:Nat}(a:i<w.heap.size)(h:w.heap[i]?=some p):(w.alloc o).heap[i]?=some p:=by
 have:(w.heap.push o)[i]?=some p:=by rw[Array.getElem?_push_lt a];rw[<-h];simp
 exact this
def U6{t:A9}{l:A5}(h:t.toList=l):t=⟨l.toArray⟩:=by
 have⟨⟨m⟩⟩:=t;have:m=l:=(toList_mk m).symm.trans h;rw[this]
def Cd(n:Nat):AJ:=.int .i64 (n:Int)
def C4(w:A7)(B:Nat)(v:AJ)(l:List Nat):Prop:=w.ownsRow B 3 1 v l.length (l.map Cd)
def C4.nil(w:A7)(B:Nat):C4 w B (.slice none 0 0) []:=KQ _ _ _ _
def R7:Fs A8 150 3 (.int .i64 0) 8:=Fs.mk' underlying150 AO rfl
def C4.below(h:C4 w B v l)(a:AF K w w')(b:w.heap.size<=K):C4 w' B v l:=HR h a b
def C4.mono{C:Nat}(h:C4 w B v l)(a:C<=B):C4 w C v l:=by
 exact Wq
structure Fc(w:A7)(pa:Option Addr)(n c:Nat)(l:List Nat):Prop where
 len:l.length=n
 cap:n<=c
 cells:0<n->∃g o,pa=some ⟨g,o,none⟩/\∀i(h:i<l.length),w.cell? ⟨g,o+i,none⟩=some (Cd l[i])
def C4.read(h:C4 w B v l):∃pa c,v=.slice pa l.length c/\Fc w pa l.length c l:=by
 rcases h.2 with⟨rfl,f⟩|⟨g,a,d,rfl,n,m,e,p,b,j⟩
 ·exact⟨none,0,by rw[f],rfl,A4,λk=>A4⟩
 refine⟨_,a,rfl,rfl,e,λ_=>⟨g,0,rfl,λi o=> ?_⟩⟩;have:=KH h i A4;grind
def Fc.below(h:Fc w pa n c l)(hb:AF K w w')(a:w.heap.size<=K):Fc w' pa n c l:=by
 exact AbR
def Qg(k:o.guard=none)(s x:CV)(m:o.op=.call {callee:=.builtin .append,args:= #[s,x],argTypes:= #[150,150]}){n:Int}(c:Nat)(j:a.eval s=v)(hx:a.eval x=.slice (some ⟨w0,0,none⟩) 1 1)(d:C4 w0 B v l)(e:AF B W0 w0)(f:B<=w0.heap.size)(hc:n=(c:Int))(i:l.length<=1000000000)(h:∀b w',C4 w' B b (l++[c])->AF B W0 w'->(b=.slice none 0 0->False)->Aq A8 ops Q rest (a.put o.dst b) w'):Aq A8 ops Q (o::rest) a (w0.alloc (.cells #[.int .i64 n] 3)):=by
 subst hc;refine Xq R7 k s x m (xs:=l.map Cd) rfl j hx (by simpa[C4]using d) e f (by unfold BK;simp;omega) B7 ?_;intro b w' h1 p g;refine h b w' ?_ p g;simpa[C4,Cd]using h1
def AtZ{k:Nat}(h:C4 w B v l)(e:k<B)(s:A9)(p:Nat):C4 (w.iterAt k s p) B v l:=by
 refine⟨h.1,?_⟩;rcases h.2 with f|⟨g,b,a,rfl,d,c,rest⟩
 ·simp_all
 refine .inr ⟨g,b,a,rfl,d,?_,rest⟩;simp only[World.iterAt];rw[Array.getElem?_setIfInBounds_ne A4];exact c
def X5(l:List Nat)(w:A7)(e:Ag)(w':A7):Prop:=∃v:AJ,e=.returned v/\C4 w' w v l/\AF w w w'
end Go.Proofs.YtonomfeipkdmhaaGreatDoor
namespace Go.Proofs
open Go renaming World->A7,Calls->AD
open Go.RowKit renaming Below->AF
open Go.Proofs.Tryz
open Go.Proofs.Tryz renaming prog->A8
open Go.Shelf
def Tryz.lays7_32_ren:Go.Shelf.Ren:=⟨fun|32=>98|49=>168|n=>n,fun|30=>25|21=>21|3=>3|0=>0|5=>5|4=>4|33=>121|66=>201|25=>200|69=>204|68=>203|n=>n,fun|2=>1|3=>2|n=>n⟩
def Tryz.lays7_32:Go.Proofs.Lays7.n32 A8 Tryz.lays7_32_ren:={mixed:=AO,f32:=func98.trans (congrArg some AO),f49:=func168.trans (congrArg some AO),t0:=underlying0,a0:=Tryz.isAgg0,z0:=Tryz.sizeOf0,v0:=Tryz.zeroValue0,i0:=AO,t3:=underlying3,a3:=Tryz.isAgg3,z3:=Tryz.sizeOf3,v3:=Tryz.zeroValue3,i3:=AO,t4:=underlying4,a4:=Tryz.isAgg4,z4:=Tryz.sizeOf4,v4:=Tryz.zeroValue4,i4:=AO,t5:=underlying5,a5:=Tryz.isAgg5,z5:=Tryz.sizeOf5,v5:=Tryz.zeroValue5,i5:=AO,t21:=underlying21,a21:=Tryz.isAgg21,z21:=Tryz.sizeOf21,v21:=Tryz.zeroValue21,i21:=AO,t25:=underlying200,a25:=Tryz.isAgg200,z25:=Tryz.sizeOf200,v25:=Tryz.zeroValue200,i25:=AO,t30:=underlying25,a30:=Tryz.isAgg25,z30:=Tryz.sizeOf25,v30:=Tryz.zeroValue25,i30:=AO,t33:=underlying121,a33:=Tryz.isAgg121,z33:=Tryz.sizeOf121,v33:=Tryz.zeroValue121,i33:=AO,t66:=underlying201,a66:=Tryz.isAgg201,z66:=Tryz.sizeOf201,t68:=underlying203,a68:=Tryz.isAgg203,z68:=Tryz.sizeOf203,v68:=Tryz.zeroValue203,i68:=AO,t69:=underlying204,a69:=Tryz.isAgg204,z69:=Tryz.sizeOf204,v69:=Tryz.zeroValue204,i69:=AO,g2:=AO,g3:=AO}
open Go.RowKit Go.Lib in
def Tryz.utf8_DecodeRune(s:A9)(b off a:Nat)(w:A7)(c:Lib.Utf8Tabs 1 2 w)(d:∀j,j<s.size->w.cell? ⟨b,off+j,none⟩=some (.int .u8 (s.get! j).toNat)):
  AD A8 98 #[.slice (some ⟨b,off,none⟩) s.size a] w λe w'=>e=.returned (.tuple #[.int .i32 (Lib.decodeGo s).1,.int .i64 (Lib.decodeGo s).2])/\AF w w w':=Any7.utf8_DecodeRune Tryz.lays7_32 s b off a w c d
def Tryz.lays2_21_ren:Go.Shelf.Ren:=⟨fun|21=>363|27=>371|28=>372|35=>375|39=>376|n=>n,fun|22=>150|3=>3|4=>4|0=>0|n=>n,fun|n=>n⟩
def Tryz.lays2_21:Go.Proofs.Lays2.n21 A8 Tryz.lays2_21_ren:={mixed:=AO,f21:=func363.trans (congrArg some AO),f27:=func371.trans (congrArg some AO),f28:=func372.trans (congrArg some AO),f35:=func375.trans (congrArg some AO),f39:=func376.trans (congrArg some AO),t0:=underlying0,a0:=Tryz.isAgg0,z0:=Tryz.sizeOf0,v0:=Tryz.zeroValue0,t3:=underlying3,a3:=Tryz.isAgg3,z3:=Tryz.sizeOf3,v3:=Tryz.zeroValue3,t4:=underlying4,a4:=Tryz.isAgg4,z4:=Tryz.sizeOf4,v4:=Tryz.zeroValue4,t22:=underlying150,a22:=Tryz.isAgg150,z22:=Tryz.sizeOf150,v22:=Tryz.zeroValue150,i3:=AO}
end Go.Proofs
namespace Go.Proofs.YtonomfeipkdmhaaGreatDoor
open Go renaming Program->Dj,maxLen->BK,World->A7,Calls->AD,Value->AJ,TypeId->Ab
open Go.RowKit renaming Below->AF
open Go.RowKit Go.Proofs.Tryz
open Go.Proofs.Tryz renaming prog->A8
def Atc(B b:Nat)(l m:A5)(pa:Option Addr)(n c:Nat)(W0 w:A7)(h:DL w B b l)(t:Fq W0 pa n c m)(E:AF B W0 w)(q:W0.heap.size<=B)(C:0<n)(H:l.length<=1099511627776)(J:n<=1099511627776)(F:B<=w.heap.size):AD A8 100 #[.pointer (some ⟨b,0,none⟩),.slice pa n c] w λe w'=>e=.returned (.tuple #[.int .i64 n,.nilIface])/\DL w' B b (l++m)/\AF B w w':=by
 have⟨i0,hi,hz0,hz1,hz2⟩:=IQ Oh;have D:=t.len;go_in;go_wp2_with fail;go_call Z8 as e w1⟨rfl,⟨hBb,v,hblk,hown,hne⟩,hb⟩;obtain⟨g,o,rfl,d⟩:=(t.below (E.trans hb) q).cells C;have p:=EZ hblk;have c1:w1.cell? ⟨b,1,none⟩=some v:=QB;rw[Hd]at hown;have f:∀j u,(m.map DS)[j]?=some u->w1.cell? ((⟨g,o,none⟩:Addr).add j)=some u:=by
  intro j u i;rw[GF]at i;cases hm:m[j]? with
  |none=>rw[hm]at i;cases i
  |some x=>
   rw[hm]at i;cases i;have⟨hjl,hx⟩:=Hk.1 hm;have:=d j hjl;have e:(⟨g,o,none⟩:Addr).add j=⟨g,o+j,none⟩:=by unfold Addr.add;split<;>simp_all
   rw[e,this,hx]
 have A:∀u∈m.map DS,u.oneCell'=true:=by intro u hu;obtain⟨x,_,rfl⟩:=EU.1 hu;rfl
 have y:(m.map DS).length=n*1:=by simp_all
 go_wp2_with(at_builtin;refine Ig _ rfl _ _ 25 rfl B 5 i0 (.int .u8 0) 1 1 underlying25 hi hz0 hz1 hz2 rfl AE _ _ _ rfl hown ⟨g,o,none⟩ n c (m.map DS) rfl y f A C1 A4 A4 ?_;intro G I a r _;obtain⟨K,L,c2,rfl⟩:=Q5 a;have s:=(r.block b p (λe=>hne e.symm)).trans hblk;have⟨d1,f1⟩:=PV s);go_wp2;go_ret2;refine⟨rfl,Or.inr ?_,?_⟩
 ·exact QJ hBb s (by rw[RG,Aa,Hd,Hd,D];exact a) Re
 exact(hb.grown r A4 (λk z=>(hown.lt k z).1)).setCell hBb _
def Yb{u:Nat}(h:¬u<10):Lib.decDigits u=Lib.decDigits (u/10)++[UInt8.ofNat (48+u%10)]:=by
 rw[Lib.decDigits,dif_neg h]
def QL:∀(k u:Nat),u<10^(k+1)->(Lib.decDigits u).length<=k+1
 |0,u,h=>by rw[Lib.decDigits,dif_pos A4];simp
 |k+1,u,h=>by
  rw[Lib.decDigits];split
  ·simp
  have:=QL k (u/10) Ak0;rw[Aa];simp;omega
def Ur(d:Nat)(h:d<10):((UInt8.ofNat (48+d)).toNat:Int)=48+(d:Int):=by
 rw[UInt8.toNat_ofNat_of_lt' (by show 48+d<256;omega)];omega
def UQ(n:Int)(h₀:0<=n)(h₁:n<256):IntKind.u8.wrap n=n:=by simp[IntKind.wrap,IntKind.bits,IntKind.signed];omega
def SS{P:Dj}{T E S:Ab}(a:P.underlying T=some (.slice E))(b:P.underlying E=some (.int .u8))(d:P.underlying S=some .string)(c:UInt8):∃s:A9,Hid (s.toList=[c])/\s.size<=1/\∀(w:A7)(g:Nat),w.cell? ⟨g,0,none⟩=some (.int .u8 (c:Int))->(convert T S (.slice (some ⟨g,0,none⟩) 1 1)).run P w=.ok (.string s) w:=by
 refine⟨⟨[c].toArray⟩,H0 (toList_mk _),AG _,λw g hc=> ?_⟩;have:=Qb (w:=w) T E a b g 0 1 1 [(c:Int)] rfl (λi e=>by
  obtain rfl:i=0:=A4;exact hc) S d
 rw[this];unfold strOfNums;simp
def AmO(k:Nat):∀(n:Nat)(w:A7),n<k->n<4294967296->AD A8 138 #[.int .i64 (n:Int)] w (Bi w (Lib.decDigits n)):=by
 induction k with
 |zero=>intro n w c _;omega
 |succ k ih=>
  intro n w c l;by_cases h10:n<10
  ·exact Ahv
  obtain⟨gY,bQ,nG,hcv⟩:=SS (P:=A8) (S:=9) underlying25 underlying5 underlying9 (UInt8.ofNat (48+n%10));have e1:IntKind.u8.wrap (48+(n:Int)%10)=48+(n:Int)%10:=UQ _ A4 A4;have i:IntKind.i64.wrap (48+(n:Int)%10)=48+(n:Int)%10:=BI _ A4;have j:(n:Int).tmod 10=(n:Int)%10:=MW A4;have g:IntKind.i64.wrap ((n:Int)/10)=((n/10:Nat):Int):=Lf;rw[Ur (n%10) A4,show((n%10:Nat):Int)=(n:Int)%10 by omega]at hcv;have bQ:=H0 bQ;go_in;go_wp2_with fail;go_region_with
   ((go_at_call 138;refine(ih (n/10) _ A4 A4).mono ?_;rintro e h⟨t,rfl,a,b⟩;obtain⟨E,d,rfl⟩:=b.ext;clear b;have m:t.size<=10:=by{rw[<-AK,a.out];exact CR (QL 9 _ A4) AE};have f:¬(9223372036854775807<t.size+gY.size):=A4))
  all_goals
   go_wp2_with fail;go_ret;refine Be (by rw[toList_append,a.out,bQ.out.out,Yb h10]) ?_;first
    |exact(Km _ _ _).alloc AN _|exact(Ah _ _).toExt AN _ _
def AkA(k:Nat):∀(n:Nat)(w:A7),n<k->n<9223372036854775808->AD A8 206 #[.int .i64 (n:Int)] w (Bi w (Lib.decDigits n)):=by
 induction k with
 |zero=>intro n w f _;omega
 |succ k ih=>
  intro n w f m;by_cases h10:n<10
  ·have c:(n:Int)<10:=A4;exact Ahv
  have c:10<=(n:Int):=A4;obtain⟨gY,bQ,nG,hcv⟩:=SS (P:=A8) (S:=9) underlying25 underlying5 underlying9 (UInt8.ofNat (48+n%10));have e1:IntKind.u8.wrap (48+(n:Int)%10)=48+(n:Int)%10:=UQ _ A4 A4;have j:IntKind.i64.wrap (48+(n:Int)%10)=48+(n:Int)%10:=BI _ A4;have l:(n:Int).tmod 10=(n:Int)%10:=MW A4;have h:IntKind.i64.wrap ((n:Int)/10)=((n/10:Nat):Int):=Lf;rw[Ur (n%10) A4,show((n%10:Nat):Int)=(n:Int)%10 by omega]at hcv;have bQ:=H0 bQ;go_in;go_wp2_with fail;go_region_with
   ((go_at_call 206;refine(ih (n/10) _ A4 A4).mono ?_;rintro e i⟨t,rfl,a,b⟩;obtain⟨E,d,rfl⟩:=b.ext;clear b;have o:t.size<=20:=by{rw[<-AK,a.out];exact CR (QL 19 _ A4) AE};have g:¬(9223372036854775807<t.size+gY.size):=A4))
  all_goals
   go_wp2_with fail;go_ret;refine Be (by rw[toList_append,a.out,bQ.out.out,Yb h10]) ?_;first
    |exact(Km _ _ _).alloc AN _|exact(Ah _ _).toExt AN _ _
def AhS(m:Nat)(h:0<m):Lib.itoa (-(m:Int))=45::Lib.decDigits m:=by
 unfold Lib.itoa;rw[AC A4];congr 2;omega
def Alq(k:Nat):∀(m:Nat)(w:A7),m<k->0<m->m<=9223372036854775808->AD A8 206 #[.int .i64 (-(m:Int))] w (Bi w (Lib.itoa (-(m:Int)))):=by
 induction k with
 |zero=>intro m w o _ _;omega
 |succ k ih=>
  intro m w o u x;have g:=H0 (AhS m u);have c: -(m:Int)<0:=A4;by_cases f:m<10
  ·have j: -10< -(m:Int):=A4;have e0:IntKind.i64.wrap (- -(m:Int))=(m:Int):=Lf;generalize -(m:Int)=z at j c g e0⊢;go_in;go_wp2_with fail;refine(AkA 10 m _ f A4).mono ?_;rintro e r⟨t,rfl,a,h⟩;have i:t.size<=20:=by rw[<-AK,a.out];exact CR (QL 19 _ A4) AE
   go_wp2_with fail;go_ret;exact Be (by rw[toList_append,a.out,g.out,show(ByteArray.mk #[45]).toList=[45]from toList_mk _];rfl) h
  have j: -(m:Int)<= -10:=A4;obtain⟨q,l,B,n⟩:=SS (P:=A8) (S:=9) underlying25 underlying5 underlying9 (UInt8.ofNat (48+m%10));have b:=H0 (AhS (m/10) A4);have v:(-(m:Int)).tmod 10=-((m:Int)%10):=by rw[Int.neg_tmod,MW A4]
  have y:IntKind.i64.wrap (48+(m:Int)%10)=48+(m:Int)%10:=BI _ A4;have A:IntKind.u8.wrap (48+(m:Int)%10)=48+(m:Int)%10:=UQ _ A4 A4;have p:IntKind.i64.wrap ((-(m:Int)).tdiv 10)=-((m/10:Nat):Int):=by rw[Int.neg_tdiv,Int.tdiv_eq_ediv_of_nonneg A4,BI _ A4];omega
  rw[Ur (m%10) A4,show((m%10:Nat):Int)=(m:Int)%10 by omega]at n;have l:=H0 l;generalize i: -(m:Int)=z at j c g v p⊢;replace i:=H0 i;go_in;go_wp2_with fail;go_region_with
   ((go_at_call 206;refine(ih (m/10) _ A4 A4 A4).mono ?_;rintro e r⟨t,rfl,a,h⟩;obtain⟨E,d,rfl⟩:=h.ext;clear h;have i:t.size<=30:=by{rw[<-AK,a.out,b.out];have:=QL 19 (m/10) A4;simp;omega};have s:¬(9223372036854775807<t.size+q.size):=A4))
  all_goals
   go_wp2_with fail;go_ret;refine Be (by rw[toList_append,a.out,l.out.out,g.out,b.out,Yb f];rfl) ?_;first
    |exact(Km _ _ _).alloc AN _|exact(Ah _ _).toExt AN _ _
def As4(n:Int)(w:A7)(b: -9223372036854775808<=n)(h1:n<=9223372036854775807):AD A8 206 #[.int .i64 n] w (Bi w (Lib.itoa n)):=by
 by_cases a:n<0
 ·obtain⟨m,rfl⟩:∃m:Nat,n=-(m:Int):=⟨n.natAbs,A4⟩;exact Alq (m+1) m w A4 A4 A4
 obtain⟨m,rfl⟩:∃m:Nat,n=(m:Int):=⟨n.natAbs,A4⟩;exact AkA (m+1) m w A4 A4
def Adj:A9:=⟨#[48,49,50,51,52,53,54,55,56,57,97,98,99,100,101,102]⟩
def AiF:∀f n,(Ej f n).length<=f
 |0,_=>AG _
 |f+1,n=>by
  have:=AiF f (n/16);unfold Ej;exact OH
def Y8:∀d:Fin 16,((Adj.toList.take (d.val+1)).drop d.val)=[BJ d.val]:=by
 rw[show Adj.toList=[48,49,50,51,52,53,54,55,56,57,97,98,99,100,101,102]from toList_mk _];decide+kernel
def Ay2(k:Nat):∀(n:Nat)(w:A7),k<=3->n<16^(k+1)->AD A8 139 #[.int .i64 (n:Int)] w (Bi w (Ej (k+1) n)):=by
 induction k with
 |zero=>
  intro n w _ b;have a:=H0 (Y8 ⟨n,b⟩);have g:IntKind.i64.wrap ((n:Int)+1)=(n:Int)+1:=BI _ A4;go_in;go_wp2;go_ret;exact Be (by rw[toList_extract];exact a.out.trans (W6 b).symm) (AU _ _)
 |succ k ih=>
  intro n w l b;by_cases c:n<16
  ·have a:=H0 (Y8 ⟨n,c⟩);have g:IntKind.i64.wrap ((n:Int)+1)=(n:Int)+1:=BI _ A4;go_in;go_wp2;go_ret;exact Be (by rw[toList_extract];exact a.out.trans (W6 c).symm) (AU _ _)
  have h:16^(k+2)<=65536:=CR (KP AE A4) (by decide:16^4<=65536);have i:n<65536:=KJ b h;have a:=H0 (Y8 ⟨n%16,A4⟩);have v:(n:Int).tmod 16=(n:Int)%16:=MW A4;have g:IntKind.i64.wrap ((n:Int)%16+1)=(n:Int)%16+1:=BI _ A4;have p:IntKind.i64.wrap ((n:Int)/16)=((n/16:Nat):Int):=Lf;have b1:0<=(n:Int)%16:=A4;have u:(n:Int)%16+1<=16:=A4;have j:(n:Int)%16<=(n:Int)%16+1:=A4;have o:((n:Int)%16).toNat=n%16:=A4;have q:((n:Int)%16+1).toNat=n%16+1:=A4;have hx:((ByteArray.mk #[48,49,50,51,52,53,54,55,56,57,97,98,99,100,101,102]).extract (n%16) (n%16+1)).size=1:=by rw[<-AK,toList_extract];exact congrArg List.length a
  have b:=H0 b;go_in;go_wp2;go_region_with
   ((go_call ih as e w1⟨t,rfl,ht,hb⟩;obtain⟨E,d,rfl⟩:=hb.ext;clear hb;have r:t.size<=4:=by{rw[<-AK,ht.out];exact CR (AiF _ _) A4};have m:¬(9223372036854775807<t.size+((ByteArray.mk #[48,49,50,51,52,53,54,55,56,57,97,98,99,100,101,102]).extract (n%16) (n%16+1)).size):=(by rw[hx];omega);have s:¬(9223372036854775807<t.size+1):=A4))
  trace_state;all_goals
   go_wp2;go_ret;refine Be ?_ ((AU _ _).toExt (AG _) _ _);rw[toList_append,ht.out,toList_extract,Aeg (f:=k+1) (by omega:16<=n)];exact congrArg (_++ ·) a
def Anp(n:Nat)(w:A7)(h:n<65536):AD A8 139 #[.int .i64 (n:Int)] w (Bi w (EM n)):=Ay2 3 n w (AG _) h
def T1(z:Int)(w:A7)(a:0<=z)(h1:z<256):AD A8 138 #[.int .i64 z] w (Bi w (Lib.decDigits z.toNat)):=by
 obtain⟨n,rfl⟩:=Int.eq_ofNat_of_zero_le a;exact AmO 256 n w A4 A4
def Vm{t:A9}{n:Nat}(h:t.toList=Lib.decDigits n)(a:n<256):t.size<=3:=by
 rw[<-AK,h];exact Qv _ a
def ArB(n:Nat)(l:n<4294967296)(w:A7):AD A8 78 #[.int .u32 (n:Int)] w (Bi w (FF n)):=by
 have a:AF w w w:=AU _ _;go_in;go_wp2_with fail;go_call T1 as e w1⟨t1,rfl,ht1,hb⟩;have a:=a.next hb;clear hb;have i:=Vm ht1 A4;go_wp2_with fail;go_call T1 as e w2⟨t2,rfl,ht2,hb⟩;have a:=a.next hb;clear hb;have f:=Vm ht2 A4;go_wp2_with fail;go_call T1 as e w3⟨t3,rfl,ht3,hb⟩;have a:=a.next hb;clear hb;have k:=Vm ht3 A4;go_wp2_with fail;go_call T1 as e w4⟨t4,rfl,ht4,hb⟩;have a:=a.next hb;clear hb;have j:=Vm ht4 A4;go_wp2;go_ret;refine Be ?_ a;have c:((n:Int)/16777216).toNat=n/16777216%256:=A4;have h:((n:Int)/65536%256).toNat=n/65536%256:=A4;have b:((n:Int)/256%256).toNat=n/256%256:=A4;have g:((n:Int)%256).toNat=n%256:=A4;have d:(ByteArray.mk #[46]).toList=[46]:=toList_mk _;simp only[toList_append,ht1.out,ht2.out,ht3.out,ht4.out,d,c,h,b,g,FF,FD,ES];simp
def Fz:Nat->List Nat->Nat->Nat->Nat->Nat×Nat
 |0,_,_,fr,m=>(fr,m)|f+1,l,i,fr,m=>if i<8 then(if m<Dr (l.drop i)then Fz f l (i+1) i (Dr (l.drop i))else Fz f l (i+1) fr m)else(fr,m)
def AvS(f:Nat)(l:List Nat)(i b e:Nat)(h:8<=i):Fz f l i b e=(b,e):=by
 cases f with
 |zero=>rfl|succ f=>rw[Fz,AA A4]
variable{l:List Nat}
def Ad8{m:List Nat}(h:∀i,Dr (l.drop i)=Dr (m.drop i)):∀f i b e,Fz f l i b e=Fz f m i b e
 |0,_,_,_=>rfl|f+1,i,b,e=>by simp[Fz,h,Ad8 h f]
def YK{m:List Nat}(h:∀i,Dr (l.drop i)=Dr (m.drop i)):∀f i b e,Hb f l i b e=Hb f m i b e
 |0,_,_,_=>rfl|f+1,i,b,e=>by simp[Hb,h,YK h f]
def FM(x:Nat):Nat:=if x=0 then 0 else 1
def Akx(l:List Nat):Dr (l.map FM)=Dr l:=by
 induction l with
 |nil=>rfl
 |cons x r ih=>
  simp only[FR,Dr,ih,FM];by_cases h:x=0<;>simp
def Azy:∀a b c d e f g h:Fin 2,Fz 8 [a.val,b.val,c.val,d.val,e.val,f.val,g.val,h.val] 0 8 1=(if(Ap [a.val,b.val,c.val,d.val,e.val,f.val,g.val,h.val]).1<(Ap [a.val,b.val,c.val,d.val,e.val,f.val,g.val,h.val]).2 then((Ap [a.val,b.val,c.val,d.val,e.val,f.val,g.val,h.val]).1,(Ap [a.val,b.val,c.val,d.val,e.val,f.val,g.val,h.val]).2-(Ap [a.val,b.val,c.val,d.val,e.val,f.val,g.val,h.val]).1)else(8,1)):=AX
def AnO:∀a b c d e f g h:Fin 2,(Ap [a.val,b.val,c.val,d.val,e.val,f.val,g.val,h.val]).1<=(Ap [a.val,b.val,c.val,d.val,e.val,f.val,g.val,h.val]).2/\(Ap [a.val,b.val,c.val,d.val,e.val,f.val,g.val,h.val]).2<=8:=AX
def He(x:Nat):FM x<2:=by unfold FM;split<;>decide
def Amd(h:Gg l):Fz 8 l 0 8 1=if(Ap l).1<(Ap l).2 then((Ap l).1,(Ap l).2-(Ap l).1)else(8,1):=by
 have j:∀i,Dr (l.drop i)=Dr ((l.map FM).drop i):=λi=>by rw[<-List.map_drop,Akx]
 have h1:Ap l=Ap (l.map FM):=YK j _ _ _ _;rw[Ad8 j,h1]
 match l,h.len with
 |[a,b,c,d,e,f,g,x],_=>exact Azy ⟨FM a,He a⟩ ⟨FM b,He b⟩ ⟨FM c,He c⟩ ⟨FM d,He d⟩ ⟨FM e,He e⟩ ⟨FM f,He f⟩ ⟨FM g,He g⟩ ⟨FM x,He x⟩
def Ax5(h:Gg l):(Ap l).1<=(Ap l).2/\(Ap l).2<=8:=by
 have h1:Ap l=Ap (l.map FM):=YK (λi=>by rw[<-List.map_drop,Akx]) _ _ _ _;rw[h1]
 match l,h.len with
 |[a,b,c,d,e,f,g,x],_=>exact AnO ⟨FM a,He a⟩ ⟨FM b,He b⟩ ⟨FM c,He c⟩ ⟨FM d,He d⟩ ⟨FM e,He e⟩ ⟨FM f,He f⟩ ⟨FM g,He g⟩ ⟨FM x,He x⟩
def XY(t:A9)(b e i:Nat):Prop:=(i=0/\t.toList.isEmpty=true)\/(0<i/\∃h:0<t.size,(t[t.size-1].toNat=58↔(i=e/\b<e)))
def Alz:∀d:Fin 16,¬(BJ d.val).toNat=58:=AX
def AsI:∀f n,∃r d,Ej (f+1) n=r++[BJ d]/\d<16
 |f,n=>by
  by_cases h:n<16
  ·exact⟨[],n,by rw[Ej,AC h];rfl,h⟩
  exact⟨Ej f (n/16),n%16,by rw[Ej,AA h],A4⟩
def AkD{t:A9}{r:A5}{c:UInt8}(h:t.toList=r++[c]):∃h:0<t.size,t[t.size-1]=c:=by
 have a:=congrArg List.length h;rw[AK]at a;have b:0<t.size:=by simp_all
 refine⟨b,?_⟩;have:t.toList[t.size-1]?=some t[t.size-1]:=by rw[Cs Dy,JG t (t.size-1) A4]
 rw[h,UM AS]at this;have e:t.size-1-r.length=0:=by simp_all
 rw[e]at this;exact(Cm this).symm
def Apq(l:List Nat)(h:Gg l)(w:A7):AD A8 79 #[MA l] w (Bi w (Dv l)):=by
 have a:∀i,i<8->(w.alloc (.cells (By l) 30)).cell? ⟨w,i,none⟩=some (.int .u16 ((pc l i:Nat):Int)):=by
  exact Vz
 have cV:=Ah w (.cells (By l) 30);have dV:w.heap.size<(w.alloc (.cells (By l) 30)).heap.size:=AN;have sH:=H0 (Amd h);replace a:=H0 a;unfold MA;go_in;go_wp2_with fail;generalize w.alloc (.cells (By l) 30)=wa at a cV dV⊢;go_loop[3,4,5] (λfv mv iv=>∃(f i fr m:Nat),fv=.int .i64 fr/\mv=.int .i64 m/\iv=.int .i64 i/\i<=8/\fr<=8/\m<=8/\8<=i+f/\Hid (Fz f l i fr m=Fz 8 l 0 8 1)) (λ_ _ i=>8-(intOf i).toNat)
 ·exact⟨8,0,8,1,rfl,rfl,rfl,A4,A4,A4,A4,rfl⟩
 obtain⟨f,i,fr,m,rfl,rfl,rfl,hi,gG,hm,hf,B⟩:=hrel;by_cases d:i<8
 ·obtain⟨f,rfl⟩:∃g,f=g+1:=⟨f-1,A4⟩;have hlt2:(i:Int)<8:=A4;have kC:i+Dr (l.drop i)<=8:=by
   have:=AeO (l.drop i);rw[C7,h.len]at this;omega
  generalize G:Dr (l.drop i)=z at kC;have S:=A6 (Fz 8 l 0 8 1=if m<z then Fz f l (i+1) i z else Fz f l (i+1) fr m) (by
   rw[<-B.out,Fz,AC d,G])
  replace G:=H0 G;clear B;go_wp2_with fail;go_loop[6] (λjv=>∃j:Nat,jv=.int .i64 j/\i+j<=8/\Hid (j+Dr (l.drop (i+j))=z)) (λj=>8-(intOf j).toNat)
  ·exact⟨0,rfl,A4,H0 (by rw[Jy,G.out];omega)⟩
  obtain⟨j,rfl,hj8,R⟩:=hrel;by_cases hgo:i+j<8/\pc l (i+j)=0
  ·obtain⟨P,X⟩:=hgo;have hc:=a.out (i+j) P;have aL:=H0 (MQ (l:=l) (i+j) (by rw[h.len];exact P));rw[X]at hc;have hj1I:(i:Int)+j<8:=A4;replace X:=H0 X;go_wp2_with fail;go_round;exact⟨j+1,AP,A4,H0 (by rw[<-R.out,aL.out,Dr,AC X.out,<-Nat.add_assoc];omega)⟩;exact AzF
  have D:=A6 (j=z) (by
   rw[<-R.out];by_cases h8:i+j<8
   ·rw[MQ (i+j) (by rw[h.len];exact h8),Dr,AA (λe=>hgo ⟨h8,e⟩)];rfl
   rw[Cj (by rw[h.len];omega)];rfl)
  have lU:((i:Int)+j<8/\wa.cell? ⟨w,i+j,none⟩=some (.int .u16 ((pc l (i+j):Nat):Int))/\(((pc l (i+j):Nat):Int)==0)=false)\/8<=(i:Int)+j:=by
   by_cases h8:i+j<8
   ·exact .inl ⟨A4,a.out (i+j) h8,Al9⟩
   exact .inr A4
  clear hgo;have H:((m:Int)<j/\Hid (Fz f l (i+1) i j=Fz 8 l 0 8 1))\/((j:Int)<=m/\Hid (Fz f l (i+1) fr m=Fz 8 l 0 8 1)):=by
   by_cases ht:m<j
   ·exact .inl ⟨A4,H0 (by rw[S.out,<-D.out,AC ht])⟩
   exact .inr ⟨A4,H0 (by rw[S.out,<-D.out,AA ht])⟩
  rcases lU with⟨h8,hc,hne⟩|h8<;>rcases H with⟨t1,W⟩|⟨t1,W⟩
  all_goals
   go_wp2_with fail;go_round
   ·first
    |exact⟨f,i+1,i,j,rfl,rfl,AP,A4,A4,A4,A4,W⟩|exact⟨f,i+1,fr,m,rfl,rfl,AP,A4,A4,A4,A4,W⟩
   simp[intOf];omega
 have Y:=A6 (Fz 8 l 0 8 1=(fr,m)) (by rw[<-B.out,AvS _ _ _ _ _ A4]);clear B;obtain⟨U,y8⟩:=Ax5 h;have hL:Hid (Dv l=DT 8 l (Ap l).1 (Ap l).2 0):=rfl;have v:=H0 (Y.out.symm.trans sH);generalize(Ap l).1=b at hL U v;generalize(Ap l).2=e at hL U y8 v;clear sH Y;go_wp2_with fail;go_loopw[7,8] (λsv iv wr=>∃(f i:Nat)(t:A9),sv=.string t/\iv=.int .i64 i/\i<=8/\8<=i+f/\t.size<=6*i/\Hid (t.toList++DT f l b e i=Dv l)/\Hid (XY t b e i)/\(b<e->i<=b\/e<=i)/\AF w w wr/\Hid (∀i,i<8->wr.cell? ⟨w,i,none⟩=some (.int .u16 ((pc l i:Nat):Int)))) (λ_ i _=>8-(intOf i).toNat)
 ·exact⟨8,0,_,rfl,rfl,A4,A4,AR _,H0 (by rw[hL.out,show(ByteArray.mk #[]).toList=[]from toList_mk _];rfl),H0 (.inl ⟨rfl,by rw[show(ByteArray.mk #[]).toList=[]from toList_mk _];rfl⟩),A4,cV,a⟩
 obtain⟨f,i,t,rfl,rfl,hi,hf,F,B,k,iH,n,bR⟩:=hrel;clear cV dV a hL;by_cases d:i<8
 ·obtain⟨f,rfl⟩:∃g,f=g+1:=⟨f-1,A4⟩;have cE:(i:Int)<8:=A4;by_cases o:i=b/\b<e
  ·have xJ:fr=b/\m=e-b:=by
    have:=v.out;rw[AC o.2]at this;exact⟨congrArg Prod.fst this,congrArg Prod.snd this⟩
   have g1:((i:Int)==fr)=true:=by rw[xJ.1,o.1];simp
   have g2:(i:Int)+m=(e:Int):=by rw[xJ.2,o.1];omega
   have W:=A6 ((t++⟨#[58,58]⟩).toList++DT f l b e e=Dv l) (by rw[<-B.out,DT,AC d,AC o,toList_append,show(ByteArray.mk #[58,58]).toList=[58,58]from toList_mk _];simp);have hl2:=A6 (XY (t++⟨#[58,58]⟩) b e e) (by
    obtain⟨C,hc⟩:=AkD (t:=t++⟨#[58,58]⟩) (r:=t.toList++[58]) (c:=58) (by rw[toList_append,show(ByteArray.mk #[58,58]).toList=[58,58]from toList_mk _];simp);exact .inr ⟨A4,C,by rw[hc];exact⟨λ_=>⟨rfl,o.2⟩,λ_=>rfl⟩⟩)
   have G:(t++⟨#[58,58]⟩:A9).size=t.size+2:=Ix;have pF:i<e:=A4;change Hid _ at G g2;clear o xJ k;go_wp2_with fail;go_roundw;exact⟨f,e,_,rfl,by rw[g2.out],A4,A4,by have:=G.out;omega,W,hl2,λ_=> .inr (AG _),n,bR⟩;have:=g2.out;exact AzF
  have hne:((i:Int)==fr)=false:=by
   have:=v.out;simp only[B6,ne_eq];intro hq;have hq2:i=fr:=A4;by_cases s:b<e
   ·rw[AC s]at this;exact o ⟨hq2.trans (congrArg Prod.fst this),s⟩
   rw[AA s]at this;have:=congrArg Prod.fst this;simp at this;omega
  have hc:=bR.out i d;have I:=(h.at i d).1;have zC:IntKind.i64.wrap ((pc l i:Nat):Int)=((pc l i:Nat):Int):=BI _ A4;obtain⟨dP,lJ,Q,dC⟩:=AsI 3 (pc l i);replace I:=H0 I;have N:=U5 (pc l i);have cI:¬(i+1=e/\b<e):=by
   rintro⟨q1,J⟩;rcases iH J with q3|q3
   ·exact o ⟨A4,J⟩
   omega
  have H:(t.toList.isEmpty=true/\Hid ((if 0<i/\(i≠e\/e=b)then[58]else([]:A5))=[]))\/(∃C:0<t.size,(!t.toList.isEmpty)=true/\((t[t.size-1].toNat:Int)!=58)=false/\Hid ((if 0<i/\(i≠e\/e=b)then[58]else([]:A5))=[]))\/
    (∃C:0<t.size,(!t.toList.isEmpty)=true/\((t[t.size-1].toNat:Int)!=58)=true/\Hid ((if 0<i/\(i≠e\/e=b)then[58]else([]:A5))=[58])):=by
   rcases k.out with⟨q0,qe⟩|⟨q0,C,qi⟩
   ·exact .inl ⟨qe,H0 Td⟩
   have O:(!t.toList.isEmpty)=true:=by
    cases ht0:t.toList with
    |nil=>have:=congrArg List.length ht0;rw[AK,Ep]at this;omega|cons x r=>rfl
   by_cases q5:t[t.size-1].toNat=58
   ·obtain⟨Z,q7⟩:=qi.1 q5;exact .inr (.inl ⟨C,O,by rw[q5];rfl,H0 (AA (λ⟨_,q8⟩=>q8.elim (λq9=>q9 Z) (λq9=>absurd q7 (by rw[q9];exact Nat.lt_irrefl b))))⟩)
   exact .inr (.inr ⟨C,O,Xu,H0 (AC ⟨q0,by
    by_cases Z:i=e
    ·have:¬b<e:=λq7=>q5 (qi.2 ⟨Z,q7⟩);omega
    exact .inl Z⟩)⟩)
  have aJ:=A6 (DT (f+1) l b e i=(if 0<i/\(i≠e\/e=b)then[58]else([]:A5))++EM (pc l i)++DT f l b e (i+1)) (by rw[DT,AC d,AA o]);have rR:b<e->i+1<=b\/e<=i+1:=by
   intro J;rcases iH J with q3|q3
   ·by_cases q4:i=b
    ·exact absurd ⟨q4,J⟩ o
    exact .inl A4
   exact .inr A4
  have z9:(ByteArray.mk #[58]).toList=[58]:=toList_mk _;have L:(ByteArray.mk #[58]).size=1:=rfl;change Hid _ at z9 L Q cI;have hts2:t.size<=48:=A4;change Hid _ at F d hi hf N dC rR;clear o k iH;rcases H with⟨q1,u⟩|⟨C,q1,J,u⟩|⟨C,q1,J,u⟩;all_goals
   go_wp2_with fail;refine(Anp (pc l i) _ I).mono ?_;rintro e' w3⟨A,rfl,y,hb⟩;have hzh:A.size<=4:=by rw[<-AK,y.out];exact N
   have V:=n.next hb;have E:=H0 (λj(R:j<8)=>(hb.cell (p:=⟨w,j,none⟩) (EV wr _ (bR.out j R))).trans (bR.out j R));have T:(t++A:A9).size=t.size+A.size:=Ix;have jO:(t++⟨#[58]⟩++A:A9).size=t.size+1+A.size:=by rw[Ix,Ix,L.out]
   change Hid _ at T jO;have M:(if 0<i/\(i≠e\/e=b)then[58]else([]:A5))=[]->Hid ((t++A).toList++DT f l b e (i+1)=Dv l):=λq=>H0 (by
    rw[<-B.out,aJ.out,q,toList_append,y.out];simp)
   have K:(if 0<i/\(i≠e\/e=b)then[58]else([]:A5))=[58]->Hid ((t++⟨#[58]⟩++A).toList++DT f l b e (i+1)=Dv l):=λq=>H0 (by
    rw[<-B.out,aJ.out,q,toList_append,toList_append,z9.out,y.out];simp)
   have hK:∀x:A9,Hid (XY (x++A) b e (i+1)):=λx=>H0 (by
    obtain⟨h1,h2⟩:=AkD (t:=x++A) (r:=x.toList++dP) (c:=BJ lJ) (by rw[toList_append,y.out];show _++Ej 4 _=_;rw[Q.out];simp);exact .inr ⟨A4,h1,⟨λh3=>absurd (by rw[<-h2];exact h3) (Alz ⟨lJ,dC⟩),λh3=>absurd h3 cI⟩⟩)
   change Hid _ at M K hK;go_wp2_with fail;go_roundw
   ·first
    |exact⟨f,i+1,_,rfl,AP,by have:=d.out;omega,by have:=hf.out;omega,by have:=T.out;have:=F.out;omega,M.out u,hK.out _,rR,V,E⟩|exact⟨f,i+1,_,rfl,AP,by have:=d.out;omega,by have:=hf.out;omega,by have:=jO.out;have:=F.out;omega,K.out u,hK.out _,rR,V,E⟩
   have:=d.out;exact AzF
 have Y:=A6 (t.toList=Dv l) (by rw[<-B.out,AjZ _ _ _ _ _ A4];simp);go_wp2_with fail;go_ret;exact Be Y n
def OwnS.le{w:A7}{B:Nat}{E:Ab}{v:AJ}{l:List A9}(h:OwnS w B E v l):l.length<=BK:=by
 rcases h.2 with⟨_,e⟩|⟨g,b,a,_,_,_,d,c,_⟩
 ·omega
 omega
end Go.Proofs.YtonomfeipkdmhaaGreatDoor
namespace Go.Proofs.YtonomfeipkdmhaaGreatDoor
open Go.Proofs.Tryz
open Go.Proofs.Tryz renaming prog->A8
def AyI(n:Nat):Ieee.Toward.even.cut false n 0=n:=by
 unfold Ieee.Toward.cut;simp[Nat.mod_one]
def Ao9{n:Nat}(d:n≠0)(h:n<2^53):Ieee.double.nearest false n 0=(n.log2+1022)*2^52+n*2^(52-n.log2):=by
 have l:n.log2<=52:=by
  have:=(Nat.log2_lt d).2 h;omega
 have a:max ((0:Int)+n.log2-Ieee.double.fractionBits) Ieee.double.leastPlace=(n.log2:Int)-52:=by
  have c:Ieee.double.leastPlace=-1074:=AE;have j:(Ieee.double.fractionBits:Int)=52:=rfl;rw[j];omega
 unfold Ieee.Format.nearest;rw[AA d];dsimp only;rw[a];have e:((0:Int)-((n.log2:Int)-52)).toNat=52-n.log2:=A4;have g:((n.log2:Int)-52-0).toNat=0:=A4;have k:((n.log2:Int)-52-Ieee.double.leastPlace).toNat=n.log2+1022:=by
  have c:Ieee.double.leastPlace=-1074:=AE;rw[c];omega
 rw[e,g,k,AyI,Nat.shiftLeft_eq];have i:n*2^(52-n.log2)<2^53:=by
  exact Ajk
 rw[Q3]
 ·rfl
 have h1:(n.log2+1022)*2^52<=1074*2^52:=Jx _ A4;have f:n*2^(52-n.log2)<=2*2^52:=CR (Nat.le_of_lt i) AE;have b:=Nat.add_le_add h1 f;rw[<-Mq]at b;exact CR b (Jx _ AE)
def AnB{n:Nat}(c:n≠0)(h:n<2^53):Ieee.double.read (Ieee.double.nearest false n 0)=.number false (n*2^(52-n.log2)) ((n.log2:Int)-52):=by
 have j:n.log2<=52:=by
  have:=(Nat.log2_lt c).2 h;omega
 have e:n*2^(52-n.log2)<2^53:=by
  exact Ajk
 have f:2^52<=n*2^(52-n.log2):=by
  have:2^n.log2*2^(52-n.log2)<=n*2^(52-n.log2):=Jx _ (Nat.log2_self_le c);rw[<-Nat.pow_add,show n.log2+(52-n.log2)=52 by omega]at this;exact this
 rw[Ao9 c h];generalize hM:n*2^(52-n.log2)=M at e f⊢;generalize n.log2=L at j⊢;unfold Ieee.Format.read;have l:Ieee.double.binade=2^52:=rfl;have o:Ieee.double.infRung=2047*2^52:=AE;have m:Ieee.double.signWeight=2^63:=AE;have i:Ieee.double.leastPlace=-1074:=AE;rw[l,m,i];obtain⟨r,b⟩:∃r,M=2^52+r:=⟨M-2^52,AS⟩;have a:r<2^52:=by
  rw[b]at e;exact Nat.lt_of_add_lt_add_left e
 have hx:(L+1022)*2^52+M=r+(L+1023)*2^52:=by
  rw[b,<-Nat.add_assoc,Mq (L+1022) 1,Nat.add_comm r]
 rw[hx];generalize hB:(2:Nat)^52=B at b a f;have d:(2:Nat)^63=2048*B:=by rw[<-hB]
 rw[d];have k:r+(L+1023)*B<1076*B:=by
  have h1:(L+1023)*B<=1075*B:=Jx _ A4;omega
 have g:(r+(L+1023)*B)%(2048*B)=r+(L+1023)*B:=JV A4;rw[g,Nat.div_eq_of_lt A4];grind
def Ays:Ieee.double.read (Ieee.double.nearest false 0 0)=.number false 0 (-1074):=AE
end Go.Proofs.YtonomfeipkdmhaaGreatDoor
namespace Go.Proofs.YtonomfeipkdmhaaGreatDoor
open Go renaming Program->Dj,World->A7,Value->AJ
open Go.Proofs.Tryz
open Go.Proofs.Tryz renaming prog->A8
open Go.RowKit Go.ChangeShapes Go.WideShapes
def cell0:DataW Unit->List AJ
 | .lit (.int k n)=>[.int k n]|_=>[]
def Ak3:DataW Unit->List AJ
 | .agg l=>l.flatMap cell0|d=>cell0 d
def Anu:DataW Unit->List AJ
 | .agg l=>l.flatMap Ak3|d=>Ak3 d
def Amn:DataW Unit->List Int
 | .agg l=>l.map fun| .lit (.int _ n)=>n|_=>0
 |_=>[]
def Alt(l:List AJ):Obj->Obj
 | .cells _ t fr=> .cells l.toArray t fr|o=>o
def Afr(P:Dj)(h:Array Obj):List (String×DataW Unit)->Array Obj
 |[]=>h|x::r=>Afr P (match P.globalNamed x.1 with|some g=>h.modify g (Alt (Anu x.2))|none=>h) r
noncomputable def ZK(P:Dj)(os:Os)(l:List (String×DataW Unit)):A7:=
 let w0:=World.holding P os ⟨#[],#[],[]⟩
 {w0 with heap:=Afr P w0.heap l}
def Q8{P:Dj}{x:String×DataW Unit}{rest:List (String×DataW Unit)}{W:A7}(h:laidMet P (x::rest) W):laidMet P rest W:=by
 obtain⟨f,⟨g,t,cs,a,p,q,_,_,_,_,c,rfl⟩,e,hc⟩:=h;exact⟨q,c,(List.nodup_append.1 e).2.1,λb off d=>hc b off (List.mem_append_right _ d)⟩
def ApL:(Rows.laid_math_bits_deBruijn64tab:DataW Unit)=Lib.tabData .u8 (Amn Rows.laid_math_bits_deBruijn64tab):=AO
def Auh{rest:List (String×DataW Unit)}{W:A7}
  (h:laidMet A8 (("math/bits.deBruijn32tab",Rows.laid_math_bits_deBruijn32tab)::("math/bits.deBruijn64tab",Rows.laid_math_bits_deBruijn64tab)::("internal/strconv.uint64pow10",Rows.laid_internal_strconv_uint64pow10)::rest) W):GC W:=by
 have h2:=Q8 h;have h3:=Q8 h2;rw[ApL]at h2
 have hb:A8.globalNamed "math/bits.deBruijn64tab" =some 5:=by kernel_rfl
 refine⟨Lib.tabIs_of_head Acn AO underlying224 underlying161 AO AO h3,?_⟩;have ht:=Lib.tabIs_of_head hb AO underlying252 underlying5 AO AO h2;exact(ht.cell hb 15 AE).trans rfl
end Go.Proofs.YtonomfeipkdmhaaGreatDoor
namespace Go.Proofs.YtonomfeipkdmhaaGreatDoor.topSafe
open Go.Proofs.Tryz
open Go.Proofs.Tryz renaming prog->A8
def looksNot:false=A8.looks []:=AO
end Go.Proofs.YtonomfeipkdmhaaGreatDoor.topSafe
namespace Go.Proofs.YtonomfeipkdmhaaGreatDoor
open Go renaming maxLen->BK,World->A7,Value->AJ
open Go.RowKit Go.Proofs.Tryz
open Go.Proofs.Tryz renaming prog->A8
def Wp(k:IntKind)(w:A7)(a:Option Addr)(len cap:Nat)(zs:List Int):Prop:=
 (a=none/\len=0/\cap=0/\zs=[])\/∃x:Addr,a=some x/\len<=cap/\cap<=BK/\zs.length=cap/\(∀i,i<zs.length->w.cell? (x.add i)=some (.int k (zs.getD i 0)))/\(∀n∈zs,(Lit.int k n).wf=true)
def Aov(w:A7)(v:AJ)(l:A5):Prop:=
 ∃a c,v=.slice a l.length c/\(0<l.length->∃g o,a=some ⟨g,o,none⟩/\∀i(h:i<l.length),w.cell? ⟨g,o+i,none⟩=some (.int .u8 (l[i].toNat:Int)))
def Axc{w:A7}{x:Addr}{v:AJ}(h:w.cell? x=some v):x=⟨x.block,x.off,none⟩:=by
 obtain⟨b,o,a⟩:=x;cases a with
 |none=>rfl
 |some s=>
  exfalso;simp only[World.cell?]at h;split at h
  ·simp at h
  ·cases h
def AvR(b o i:Nat):(⟨b,o,none⟩:Addr).add i=⟨b,o+i,none⟩:=by
 unfold Addr.add;split<;>simp_all
def Wp.bytes{w:A7}{a:Option Addr}{len c:Nat}{f:List Int}(h:Wp .u8 w a len c f):∃l:A5,l.length=len/\Aov w (.slice a len c) l/\len<=BK:=by
 rcases h with⟨rfl,rfl,rfl,rfl⟩|⟨x,rfl,o,m,q,b,g⟩
 ·exact⟨[],rfl,⟨none,0,rfl,λh=>absurd h AE⟩,AR _⟩
 refine⟨(f.take len).map λn=>UInt8.ofNat n.toNat,AS,⟨some x,c,AS,λj=> ?_⟩,A4⟩;have hx:=Axc (show w.cell? x=_ from b 0 (by simp at j;omega));refine⟨x.block,x.off,by rw[<-hx],λi k=> ?_⟩;have d:i<f.length:=by simp at k;omega
 have hc:=b i d;rw[hx]at hc;have p:=bounds_u8 (g _ (CI d));have e:f.getD i 0=f[i]:=by simp[d]
 rw[e]at hc;rw[AvR]at hc;rw[hc];simp;omega
end Go.Proofs.YtonomfeipkdmhaaGreatDoor
