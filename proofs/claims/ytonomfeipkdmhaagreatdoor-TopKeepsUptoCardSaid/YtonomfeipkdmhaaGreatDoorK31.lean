/- Part 31: lemmas. -/
import Derived.Test.YtonomfeipkdmhaaGreatDoorK30
import Derived.Lib.SlicesS
set_option linter.unusedVariables false
set_option linter.unusedSimpArgs false
set_option maxRecDepth 100000
set_option maxHeartbeats 16000000
namespace Go.Proofs.YtonomfeipkdmhaaGreatDoor
open Go.RowKit Go.Proofs.Tryz
structure Sn (w wx:World) (u:Al):Prop where
 below:Below w.heap.size w wx
 blk:wx.heap[w.heap.size]? =some (.cells (Ab u) 34 (0,0))
 size:w.heap.size+1<=wx.heap.size
theorem Sn.start (w:World) (u:Al):Sn w (w.alloc (.cells (Ab u) 34)) u:=⟨(Below.refl _ _).alloc (Nat.le_refl _) _,Mm rfl,by simp⟩
theorem Sn.keep {w wx w':World} {u:Al} (h:Sn w wx u) (hb:Below wx.heap.size wx w'):Sn w w' u:=
 ⟨h.below.next hb,(hb.block _ h.size).trans h.blk,by have:=hb.size;have:=h.size;omega⟩
theorem Sn.box {w wx:World} {u:Al} (h:Sn w wx u) (i:Nat):wx.cell? ⟨w.heap.size,i,none⟩=(Ab u)[i]? :=cell_of_row _ _ _ _ _ _ h.blk
theorem toList_inj {s t:ByteArray} (h:s.toList=t.toList):s=t:=(Me h).trans (Me rfl).symm
theorem Oh (l:List ByteArray) (s:ByteArray):Lib.containsS l s=FI l s.toList:=by
 rw [Bool.eq_iff_iff,Lib.containsS_iff];unfold FI;rw [List.any_eq_true];constructor
 ·intro h;exact ⟨s,h,beq_self_eq_true _⟩
 ·rintro ⟨x,hx,he⟩;have:x=s:=Df (by simpa using he)
  rwa [this] at hx
theorem Lr (x:Abt) (s:ByteArray) (w:World) (hx:EY w x):
  Calls prog 180 #[.slice x.a x.l.length x.c,.string s] w fun e w'=>e= .returned (.bool (FI x.l s.toList))/\w=w':=by
 have hn:=hx.n;unfold maxLen at hn
 by_cases h0:0<x.l.length
 ·obtain ⟨g,o,e,hc⟩:=hx.cells h0;rw [e];refine (Tryz.slices_Contains_string g o x.l.length x.c x.l s w (Nat.le_refl _) (by omega) (fun j hj=>by rw [hc j hj];simp [hj])).mono ?_
  rintro e w' ⟨rfl,rfl⟩;exact ⟨by rw [List.take_length,Oh],rfl⟩
 ·have e0:x.l=[]:=List.eq_nil_of_length_eq_zero (by omega)
  rw [e0];refine (Tryz.slices_Contains_string_empty x.a x.c s w).mono ?_;rintro e w' ⟨rfl,rfl⟩;exact ⟨rfl,rfl⟩
theorem EY.below {w w':World} {K:Nat} {x:Abt} (h:EY w x) (hb:Below K w w') (hK:w.heap.size<=K):EY w' x:=⟨h.cells.below hb hK,h.n,h.each,h.nilC⟩
theorem Eb.below {w w':World} {K:Nat} {p:C6} (h:Eb w p) (hb:Below K w w') (hK:w.heap.size<=K):Eb w' p:=⟨h.schemes.below hb hK,h.hosts.below hb hK,h.types.below hb hK,h.most⟩
theorem UL (p:C6) (s:ByteArray) (w:World) (hp:Eb w p):
  Calls prog 106 #[.agg (By p),.string s] w (IY w (FI p.schemes.l s.toList)):=by
 have hB:Below w.heap.size w (w.alloc (.cells (By p) 24)):=(Below.refl _ _).alloc (Nat.le_refl _) _;have x0:(w.alloc (.cells (By p) 24)).cell? ⟨w.heap.size,0,none⟩=some (.slice p.schemes.a p.schemes.l.length p.schemes.c):=(World.cell?_alloc_at _ _ _ _ rfl).trans rfl;have hok:=hp.schemes.below hB (Nat.le_refl _);go_enter func106,ntmps106;go_wp2_with fail;refine (Lr p.schemes s _ hok).mono ?_;rintro e w' ⟨rfl,rfl⟩;go_wp2_with fail;go_ret;exact ⟨rfl,hB⟩
theorem Z1 (p:C6) (s:ByteArray) (w:World) (hp:Eb w p):
  Calls prog 109 #[.agg (By p),.string s] w (IY w (FI p.types.l s.toList)):=by
 have hB:Below w.heap.size w (w.alloc (.cells (By p) 24)):=(Below.refl _ _).alloc (Nat.le_refl _) _;have x0:(w.alloc (.cells (By p) 24)).cell? ⟨w.heap.size,2,none⟩=some (.slice p.types.a p.types.l.length p.types.c):=(World.cell?_alloc_at _ _ _ _ rfl).trans rfl;have hok:=hp.types.below hB (Nat.le_refl _);go_enter func109,ntmps109;go_wp2_with fail;refine (Lr p.types s _ hok).mono ?_;rintro e w' ⟨rfl,rfl⟩;go_wp2_with fail;go_ret;exact ⟨rfl,hB⟩
theorem UM:(prog.info? 32).map (·.size)=some 11:=by kernel_rfl
theorem DW:(prog.info? 24).map (·.size)=some 4:=by kernel_rfl
theorem Yr (h:CL) (t e:ByteArray) (ht:t.toList=Fa h):
  (G8 h e=true/\((e.toList==t.toList)=true\/((e.toList==t.toList)=false/\(e.toList==[42])=true)))\/
  ((e.toList==t.toList)=false/\(e.toList==[42])=false/\∃ b1 b2 b3 b4,Lib.hasPrefix e.toList [46]=b1/\(h.kind==2)=b2/\decide ((e.size:Int)<(h.name.size:Int))=b3/\Lib.hasSuffix h.name.toList e.toList=b4/\G8 h e=(b1 && b2 && b3 && b4)):=by
 unfold G8;rw [<-ht];cases h1:e.toList==t.toList
 ·cases h2:e.toList==[42]
  ·refine .inr ⟨rfl,rfl,_,_,_,_,rfl,rfl,rfl,rfl,?_⟩;have e2:decide (h.kind=2)=(h.kind==2):=by rw [Bool.eq_iff_iff];simp
   have e3:decide (e.size<h.name.size)=decide ((e.size:Int)<(h.name.size:Int)):=by rw [Bool.eq_iff_iff];simp
   rw [e2,e3];rfl
  ·exact .inl ⟨rfl,.inr ⟨rfl,rfl⟩⟩
 ·exact .inl ⟨rfl,.inl rfl⟩
theorem Zi (p:C6) (h:CL) (w:World) (hp:Eb w p) (ok:ME h) (ht:Ij w):
  Calls prog 107 #[.agg (By p),.agg (An h)] w (IY w (hostA p.hosts.l h)):=by
 obtain ⟨ps,⟨pa,pc,l⟩,pt,pm⟩:=p;obtain ⟨P,hPd⟩:∃ P:Array Value,By ⟨ps,⟨pa,pc,l⟩,pt,pm⟩=P:=⟨_,rfl⟩;have hP1:P[1]? =some (.slice pa l.length pc):=by rw [<-hPd];rfl
 have hp2:EY w ⟨pa,pc,l⟩:=hp.hosts;rw [hPd];show Calls _ _ _ w (IY w (hostA l h));replace hPd:=H0 hPd;clear hp;have hB1:Below w.heap.size w (w.alloc (.cells P 24)):=(Below.refl _ _).alloc (Nat.le_refl _) _;have hB:Below w.heap.size w ((w.alloc (.cells P 24)).alloc (.cells (An h) 32)):=hB1.alloc hB1.size _;have hP:((w.alloc (.cells P 24)).alloc (.cells (An h) 32)).heap[w.heap.size]? =some (.cells P 24 (0,0)):=heap_alloc2_old w _ _;have hH:((w.alloc (.cells P 24)).alloc (.cells (An h) 32)).heap[w.heap.size+1]? =some (.cells (An h) 32 (0,0)):=Mm (by simp)
 have hsz:w.heap.size+1<((w.alloc (.cells P 24)).alloc (.cells (An h) 32)).heap.size:=by simp
 have x1:=(cell_of_row _ _ 1 _ _ _ hP).trans hP1;have y0:=(cell_of_row _ _ 0 _ _ _ hH).trans (show (An h)[0]? =some (.int .i64 h.kind) from rfl);have y1:=(cell_of_row _ _ 1 _ _ _ hH).trans (show (An h)[1]? =some (.string h.name) from rfl);have hmx:=ok.name;unfold maxLen at hmx;have hok:=hp2.below hB (Nat.le_refl _);have htw:=ht.next hB
 replace hP:=H0 hP;go_enter func107,ntmps107
 by_cases hno:Iu h=true
 ·have hfin:Hid (hostA l h=true):=H0 (by unfold hostA;rw [hno];rfl)
  have hway:(h.kind==0)=true\/((h.kind==0)=false/\(h.kind==1)=true):=by
   unfold Iu at hno;rw [Bool.or_eq_true,decide_eq_true_eq,decide_eq_true_eq] at hno;simp only [beq_iff_eq,beq_eq_false_iff_ne,ne_eq];omega
  clear hno;rcases hway with q | ⟨q,q2⟩
  all_goals
   go_wp2_with fail;go_ret;exact ⟨AF hfin.out.symm,hB⟩
 have q0:(h.kind==0)=false/\(h.kind==1)=false:=by
  unfold Iu at hno;rw [Bool.or_eq_true,decide_eq_true_eq,decide_eq_true_eq] at hno;simp only [beq_eq_false_iff_ne,ne_eq];omega
 obtain ⟨q0,q1⟩:=q0
 have hV:Hid (hostA l h=l.any (G8 h)):=H0 (by
  unfold hostA;cases hh:Iu h
  ·rfl
  ·exact absurd hh hno)
 clear hno;go_wp2_with (refine wpList_load_row rfl 32 _ rfl (w.heap.size+1) rfl _ (An h) _ _ hH underlying32 rfl UM ?_);refine (Kz h ok _ htw).mono ?_;rintro e w1 ⟨t,rfl,htx,hb⟩;have hB1:=hB.next hb
 have hok1:=hok.below hb (Nat.le_refl _);have z1:=(hb.cell (p:=⟨w.heap.size,1,none⟩) (by simp;omega)).trans x1
 have z2:=(hb.cell (p:=⟨w.heap.size+1,0,none⟩) (by simp)).trans y0
 have z3:=(hb.cell (p:=⟨w.heap.size+1,1,none⟩) (by simp)).trans y1
 clear hb hB hok x1 y0 y1 hP hH hsz htw
 have htl:t.size<=9223372036854775807:=by
  rw [<-Aa,htx.out];have h1:=Mu h.four;have h2:=Jy h.six;unfold Fa;split
  ·rw [Aa];exact hmx
  ·split
   ·omega
   ·split<;>simp<;>omega
 obtain ⟨hcells,hn,heach,-⟩:=hok1;unfold maxLen at hn heach;dsimp only [Mt] at hcells hn heach;replace hcells:=H0 hcells;replace heach:=H0 heach;go_wp2_with fail;go_loop [21] (fun iv=>∃ k:Nat,iv= .int .i64 k/\k<=l.length/\Hid ((l.take k).any (G8 h)=false)) (fun iv=>l.length - (intOf iv).toNat)
 case atStart=>exact ⟨0,rfl,Nat.zero_le _,H0 rfl⟩
 case round=>
  obtain ⟨k,rfl,hk,hg⟩:=hrel
  by_cases hlt:k<l.length
  ·have hltI:(k:Int)<(l.length:Int):=by omega
   obtain ⟨g,o,rfl,hc⟩:=hcells.out (by omega)
   have c1:=hc k hlt;clear hc;have hez:=heach.out l[k] (List.getElem_mem _);have hsn:l.take (k+1)=l.take k++[l[k]]:=List.take_succ_eq_append_getElem hlt
   have hyes:G8 h l[k]=true->Hid (hostA l h=true):=fun e=>H0 (by
    rw [hV.out,<-List.take_append_drop (k+1) l,List.any_append,hsn,List.any_append]
    simp [e])
   have hnew:G8 h l[k]=false->Hid ((l.take (k+1)).any (G8 h)=false):=fun e=>H0 (by
    rw [hsn,List.any_append,hg.out]
    simp [e])
   have hw:=Yr h t l[k] htx.out;replace hsn:=H0 hsn;obtain ⟨e,he⟩:=N2 (l[k]);rw [he] at c1 hez hyes hnew hw;replace he:=H0 he;have hezI:(e.size:Int)<=9223372036854775807:=by omega
   rcases hw with ⟨hE,q1 | ⟨q1,q2⟩⟩ | ⟨q1,q2,b1,b2,b3,b4,r1,r2,r3,r4,hE⟩
   ·have hfin:=hyes hE;replace hE:=H0 hE;replace hnew:=H0 hnew;replace hyes:=H0 hyes;go_wp2_with fail;go_ret;exact ⟨AF hfin.out.symm,hB1⟩
   ·have hfin:=hyes hE;replace hE:=H0 hE;replace hnew:=H0 hnew;replace hyes:=H0 hyes;go_wp2_with fail;go_ret;exact ⟨AF hfin.out.symm,hB1⟩
   ·have hpf:=fun w=>Tryz.strings_HasPrefix e ⟨#[46]⟩ w
    have hsf:=fun w=>Tryz.strings_HasSuffix h.name e w hmx
    have e1:Lib.hasPrefix e.data.toList (ByteArray.mk #[46]).data.toList=b1:=by rw [<-r1,<-ByteArray.toList_eq]
    have e2:Lib.hasSuffix h.name.data.toList e.data.toList=b4:=by rw [<-r4,<-ByteArray.toList_eq,<-ByteArray.toList_eq]
    simp only [e1] at hpf;simp only [e2] at hsf;have r3':decide (e.size<h.name.size)=b3:=by rw [<-r3,Bool.eq_iff_iff];simp
    replace r1:=H0 r1;replace r4:=H0 r4;replace hpf:=H0 hpf;replace hsf:=H0 hsf;clear e1 e2;cases b1
    ·have hn2:=hnew (by rw [hE];rfl)
     replace hE:=H0 hE;replace hnew:=H0 hnew;replace hyes:=H0 hyes;go_wp2_with (go_at_call 111;refine (hpf.out _).mono ?_;rintro e w' ⟨rfl,rfl⟩);go_round
     case rel=>exact ⟨k+1,by go_num,by omega,hn2⟩
     case measure=>simp [intOf];omega
    cases b2
    ·have hn2:=hnew (by rw [hE];rfl)
     replace hE:=H0 hE;replace hnew:=H0 hnew;replace hyes:=H0 hyes;go_wp2_with (go_at_call 111;refine (hpf.out _).mono ?_;rintro e w' ⟨rfl,rfl⟩);go_round
     case rel=>exact ⟨k+1,by go_num,by omega,hn2⟩
     case measure=>simp [intOf];omega
    cases b3
    ·have hn2:=hnew (by rw [hE];rfl)
     replace hE:=H0 hE;replace hnew:=H0 hnew;replace hyes:=H0 hyes;go_wp2_with (go_at_call 111;refine (hpf.out _).mono ?_;rintro e w' ⟨rfl,rfl⟩);go_round
     case rel=>exact ⟨k+1,by go_num,by omega,hn2⟩
     case measure=>simp [intOf];omega
    cases b4
    ·have hn2:=hnew (by rw [hE];rfl)
     replace hE:=H0 hE;replace hnew:=H0 hnew;replace hyes:=H0 hyes
     go_wp2_with (first
      | (go_at_call 111;refine (hpf.out _).mono ?_;rintro e w' ⟨rfl,rfl⟩)
      | (go_at_call 112;refine (hsf.out _).mono ?_;rintro e w' ⟨rfl,rfl⟩))
     go_round
     case rel=>exact ⟨k+1,by go_num,by omega,hn2⟩
     case measure=>simp [intOf];omega
    ·have hfin:=hyes (by rw [hE];rfl)
     replace hE:=H0 hE;replace hnew:=H0 hnew;replace hyes:=H0 hyes
     go_wp2_with (first
      | (go_at_call 111;refine (hpf.out _).mono ?_;rintro e w' ⟨rfl,rfl⟩)
      | (go_at_call 112;refine (hsf.out _).mono ?_;rintro e w' ⟨rfl,rfl⟩))
     go_ret;exact ⟨AF hfin.out.symm,hB1⟩
  ·have hgeI:(l.length:Int)<=(k:Int):=by omega
   have hfin:Hid (hostA l h=false):=H0 (by
    rw [hV.out,<-hg.out,List.take_of_length_le (by omega)])
   go_wp2_with fail;go_ret;exact ⟨AF hfin.out.symm,hB1⟩
structure LF (w wx:World) (A:Array Value) (TA:TypeId) (B:Array Value) (TB:TypeId):Prop where
 below:Below w.heap.size w wx
 a:wx.heap[w.heap.size]? =some (.cells A TA (0,0))
 b:wx.heap[w.heap.size+1]? =some (.cells B TB (0,0))
 size:w.heap.size+2<=wx.heap.size
theorem LF.start (w:World) (A:Array Value) (TA:TypeId) (B:Array Value) (TB:TypeId):LF w ((w.alloc (.cells A TA)).alloc (.cells B TB)) A TA B TB:=
 ⟨((Below.refl _ _).alloc (Nat.le_refl _) _).alloc (by simp) _,heap_alloc2_old w _ _,Mm (by simp),by simp⟩
theorem LF.keep {w wx w':World} {A:Array Value} {TA:TypeId} {B:Array Value} {TB:TypeId} (h:LF w wx A TA B TB) (hb:Below wx.heap.size wx w'):LF w w' A TA B TB:=
 ⟨h.below.next hb,(hb.block _ (by have:=h.size;omega)).trans h.a,(hb.block _ (by have:=h.size;omega)).trans h.b,by have:=hb.size;have:=h.size;omega⟩
theorem HX {w:World} {g:Nat} {u:Al} {T:TypeId} (h:w.heap[g]? =some (.cells (Ab u) T (0,0))):w.rangeAt g 3 (An u.host).toList:=fun j v hv=>by
 have e:=cell_of_row w g (3+j) _ _ _ h;rw [e]
 match j,hv with
 | 0,hv=>exact hv
 | 1,hv=>exact hv
 | 2,hv=>exact hv
 | 3,hv=>exact hv
 | 4,hv=>exact hv
 | 5,hv=>exact hv
 | 6,hv=>exact hv
 | 7,hv=>exact hv
 | 8,hv=>exact hv
 | 9,hv=>exact hv
 | 10,hv=>exact hv
 | n+11,hv=>exact absurd (List.getElem?_eq_some_iff.1 hv).1 (by show ¬ n+11<11;omega)
theorem Kd (h:CL):(prog.info? 32).map (·.size)=some (An h).toList.length:=by rw [UM];rfl
theorem Yj (p:C6) (u:Al) (w:World) (hp:Eb w p) (hpu:Fs w u) (fit:Gs u) (hz:(Eg u false).length<=900000000) (ht:Ij w) (hm:ML w):
  Calls prog 59 #[.agg (By p),.agg (Ab u)] w (IY w (CI p.schemes.l p.hosts.l p.types.l u)):=by
 have hI:=LF.start w (By p) 24 (Ab u) 34;have x0:=(cell_of_row _ _ 0 _ _ _ hI.b).trans (show (Ab u)[0]? =some (.string u.scheme) from rfl);have hA:Hid (CI p.schemes.l p.hosts.l p.types.l u=(FI p.schemes.l u.scheme.toList && hostA p.hosts.l u.host && NO p.types.l u)):=rfl;go_enter func59,ntmps59;go_wp2_with (refine wpList_load_row rfl 24 _ rfl w.heap.size rfl _ (By p) _ _ hI.a underlying24 rfl DW ?_);refine (UL p u.scheme _ (hp.below hI.below (Nat.le_refl _))).mono ?_;rintro e w1 ⟨rfl,hb⟩;replace hI:=hI.keep hb;clear hb x0;have x0:=(cell_of_row _ _ 0 _ _ _ hI.b).trans (show (Ab u)[0]? =some (.string u.scheme) from rfl);obtain ⟨b1,hb1⟩:∃ b,FI p.schemes.l u.scheme.toList=b:=⟨_,rfl⟩;rw [hb1] at hA⊢;replace hb1:=H0 hb1;cases b1
 ·have hno:Hid (CI p.schemes.l p.hosts.l p.types.l u=false):=H0 (by rw [hA.out];rfl)
  go_wp2_with fail;go_ret;exact ⟨AF hno.out.symm,hI.below⟩
 go_wp2_with (first
  | (refine wpList_load_row rfl 24 _ rfl w.heap.size rfl _ (By p) _ _ hI.a underlying24 rfl DW ?_)
  | (refine AH (by rfl) ?_;refine wpList_load_row rfl 24 _ rfl w.heap.size rfl _ (By p) _ _ hI.a underlying24 rfl DW ?_)
  | (refine wpList_load_mid rfl 32 _ rfl (w.heap.size+1) 3 rfl (An u.host).toList _ (HX hI.b) underlying32 rfl (Kd _) ?_)
  | (refine AH (by rfl) ?_;refine wpList_load_mid rfl 32 _ rfl (w.heap.size+1) 3 rfl (An u.host).toList _ (HX hI.b) underlying32 rfl (Kd _) ?_))
 refine (Zi p u.host _ (hp.below hI.below (Nat.le_refl _)) fit.host (ht.next hI.below)).mono ?_
 rintro e w2 ⟨rfl,hb⟩;replace hI:=hI.keep hb;clear hb x0;have x0:=(cell_of_row _ _ 0 _ _ _ hI.b).trans (show (Ab u)[0]? =some (.string u.scheme) from rfl);obtain ⟨b2,hb2⟩:∃ b,hostA p.hosts.l u.host=b:=⟨_,rfl⟩;rw [hb2] at hA⊢;replace hb2:=H0 hb2;cases b2
 ·have hno:Hid (CI p.schemes.l p.hosts.l p.types.l u=false):=H0 (by rw [hA.out];rfl)
  go_wp2_with fail;go_ret;exact ⟨AF hno.out.symm,hI.below⟩
 by_cases hd:u.scheme.toList=GH
 ·have hdI:(u.scheme.toList==[100,97,116,97])=true:=by rw [hd];rfl
  have hdN:(u.scheme.toList != [100,97,116,97])=false:=by rw [hd];rfl
  have hT:Hid (CI p.schemes.l p.hosts.l p.types.l u=match DG u with | none=>false | some e=>FI p.types.l e):=H0 (by
   rw [hA.out];unfold NO;rw [if_pos hd];rfl)
  clear hA;replace hd:=H0 hd;go_wp2_with (refine wpList_load_row rfl 34 _ rfl (w.heap.size+1) rfl _ (Ab u) _ _ hI.b underlying34 rfl Fv ?_);refine (AbR u _ (hpu.below hI.below (Nat.le_refl _)) fit hz (ht.next hI.below) (hm.next hI.below)).mono ?_
  rintro e w3 ⟨t,rfl,htx,hb⟩;replace hI:=hI.keep hb;clear hb x0;obtain ⟨o,ho⟩:=N2 (DG u);rw [ho] at hT htx⊢;replace ho:=H0 ho
  cases o with
  | none=>
   have hno:Hid (CI p.schemes.l p.hosts.l p.types.l u=false):=hT;go_wp2_with fail;go_ret;exact ⟨AF hno.out.symm,hI.below⟩
  | some l=>
   have hyes:Hid (CI p.schemes.l p.hosts.l p.types.l u=FI p.types.l t.toList):=H0 (by rw [hT.out,htx.out];rfl)
   clear htx hT
   go_wp2_with (first
    | (refine wpList_load_row rfl 24 _ rfl w.heap.size rfl _ (By p) _ _ hI.a underlying24 rfl DW ?_)
    | (refine AH (by rfl) ?_;refine wpList_load_row rfl 24 _ rfl w.heap.size rfl _ (By p) _ _ hI.a underlying24 rfl DW ?_))
   refine (Z1 p t _ (hp.below hI.below (Nat.le_refl _))).mono ?_;rintro e w4 ⟨rfl,hb⟩;replace hI:=hI.keep hb;clear hb;go_wp2_with fail;go_ret;exact ⟨AF hyes.out.symm,hI.below⟩
 ·have hdI:(u.scheme.toList==[100,97,116,97])=false:=by simpa [GH] using hd
  have hdN:(u.scheme.toList != [100,97,116,97])=true:=by simpa [GH] using hd
  have hyes:Hid (CI p.schemes.l p.hosts.l p.types.l u=true):=H0 (by
   rw [hA.out];unfold NO;rw [if_neg hd];rfl)
  replace hd:=H0 hd;go_wp2_with fail;go_ret;exact ⟨AF hyes.out.symm,hI.below⟩
theorem AJ.irange {w:World} {g:Nat} {r:Bool} {u:Al} {wv:Value} {T:TypeId} (h:AJ w g (Au r u wv) T):w.rangeAt g 1 (Ab u).toList:=by
 have:=GI (x:=⟨r,u,wv,[]⟩) (o:=0) h.whole;simpa using this
theorem Adm (p:C6) (k:Nat) (x:AP) (it:BR) (p3 p4:Nat) (w:World) (hE:GZ w) (hp:Eb w p) (h3:AJ w p3 (By p) 24) (h4:w.cell? ⟨p4,0,none⟩=some (.int .i64 (k:Int))) (hX:I9 w x) (hI:VB x it) (hg:it.right=true->AY it.url/\Bt it.url<=800000000):
  Calls prog 58 #[.agg (Au x.right x.url x.wv),.pointer (some ⟨p3,0,none⟩),.pointer (some ⟨p4,0,none⟩)] w (IY w (Dm (GL p.schemes.l p.hosts.l p.types.l) k it)):=by
 obtain ⟨xr,xu,xw,xws⟩:=x;obtain ⟨i1,i2,i3⟩:=hI;dsimp only at i1 i2 i3 hX⊢;subst i1;obtain ⟨R,hR⟩:=N2 (Dm (GL p.schemes.l p.hosts.l p.types.l) k it);rw [hR];unfold Dm at hR;have hlt3:=h3.lt;have hlt4:=World.block_lt_of_cell? w _ h4;have hb0:Below w.heap.size w (w.alloc (.cells (Au it.right xu xw) 48)):=(Below.refl _ _).alloc (Nat.le_refl _) _;have hc0:AJ (w.alloc (.cells (Au it.right xu xw) 48)) w.heap.size (Au it.right xu xw) 48:=AJ.new _ _ _;have h30:=h3.keep hb0;have h40:=(hb0.cell (p:=⟨p4,0,none⟩) (by simpa using hlt4)).trans h4
 obtain ⟨w0,hw0⟩:∃ w0,w.alloc (.cells (Au it.right xu xw) 48)=w0:=⟨_,rfl⟩;rw [hw0] at hb0 hc0 h30 h40
 cases hr:it.right with
 | false=>
  rw [hr] at hR hw0 hc0;have hf:Hid (false=R):=H0 (by rw [<-hR];rfl)
  have x0:=(hc0.at 0).trans (show (Au false xu xw)[0]? =some (.bool false) from rfl);replace hR:=H0 hR;replace hr:=H0 hr;clear hg hX h4 h3;go_enter func58,ntmps58;go_wp2_with fail;go_ret;exact ⟨by rw [<-hf.out];rfl,hb0⟩
 | true=>
  obtain ⟨g,gz⟩:=hg hr;rw [hr] at hR hw0 hc0;have x0:=(hc0.at 0).trans (show (Au true xu xw)[0]? =some (.bool true) from rfl);have hyU:=hc0.irange;have hlen:=DQ g false;have hUW:DI w xu it.url:=⟨i2,hX.path,hX.cap⟩;have hfit:=H0 (EF i2 g (by omega))
  have hal:=H0 (PN (S:=p.schemes.l) (H:=p.hosts.l) (T:=p.types.l) i2);have hwf:=H0 (EG i2 false);obtain ⟨A,hA⟩:=N2 (GL p.schemes.l p.hosts.l p.types.l it.url);rw [hA] at hal hR;obtain ⟨F,hF⟩:=N2 (V4 (AS it.url true));rw [hF] at hR;have hallow:=H0 (fun (w':World) (hb:Below w.heap.size w w')=>Yj p xu w' (hp.below hb (Nat.le_refl _)) ((hUW.below hb (Nat.le_refl _)).inn) hfit.out (by rw [hwf.out];omega) (hE.next hb).tabs (hE.next hb).ml)
  rw [hal.out] at hallow;have hfits:=H0 (fun (w':World) (hb:Below w.heap.size w w')=>Adh xu it.url w' (hE.next hb) (hUW.below hb (Nat.le_refl _)) g (by omega))
  rw [hF] at hfits;replace hA:=H0 hA;replace hF:=H0 hF;replace hR:=H0 hR;replace hr:=H0 hr;replace hUW:=H0 hUW;clear hX h4 h3 hg hwf hal i2 i3;go_enter func58,ntmps58
  go_wp2_with (first
   | (refine AH (by rfl) ?_;refine wpList_load_row rfl 24 _ rfl p3 rfl _ (By p) _ _ h30 underlying24 rfl DW ?_)
   | (refine AH (by rfl) ?_;refine wpList_load_mid rfl 34 _ rfl w.heap.size 1 rfl (Ab xu).toList _ hyU underlying34 rfl (JP _) ?_))
  clear hw0;refine (hallow.out w0 hb0).mono ?_;rintro e w1 ⟨rfl,hb1⟩;have hb2:=hb0.next hb1
  have h41:=(hb1.cell (p:=⟨p4,0,none⟩) (by have:=World.block_lt_of_cell? w0 _ h40;simpa using this)).trans h40
  have hc1:=hc0.keep hb1;have hyU1:=hc1.irange;clear hb0 hb1 h40 h30 x0 hyU hc0 hallow
  cases A with
  | false=>
   have hf:Hid (false=R):=H0 (by have:=hR.out;simpa using this)
   go_wp2_with fail;go_ret;exact ⟨by rw [<-hf.out];rfl,hb2⟩
  | true=>
   by_cases hk2:k=2
   ·subst hk2;have hf:Hid (F=R):=H0 (by have:=hR.out;simpa using this)
    go_wp2_with (refine AH (by rfl) ?_;refine wpList_load_mid rfl 34 _ rfl w.heap.size 1 rfl (Ab xu).toList _ hyU1 underlying34 rfl (JP _) ?_)
    refine (hfits.out w1 hb2).mono ?_;rintro e w2 ⟨rfl,hb3⟩;have hb4:=hb2.next hb3
    clear hb3 hb2 hyU1;go_wp2_with fail;go_ret;exact ⟨by rw [<-hf.out];rfl,hb4⟩
   ·have hkn:((k:Int) != 2)=true:=by simp only [bne_iff_ne,ne_eq];omega
    have hke:((k:Int)==2)=false:=by simp only [beq_eq_false_iff_ne,ne_eq];omega
    have hf:Hid (true=R):=H0 (by
     have:=hR.out;rw [show (k != 2)=true by simpa using hk2] at this
     simpa using this)
    go_wp2_with fail;go_ret;exact ⟨by rw [<-hf.out];rfl,hb2⟩
theorem M0.setG {w wx:World} {B:Al} {C D:Array Value} (h:M0 w wx B C D) {g:Nat} (hg:w.heap.size+3<=g) (E:Array Value):M0 w (wx.setRow g E) B C D:=
 ⟨Ae h.below (by omega) _,by rw [CG];exact h.size,h.a.other (by omega) _,h.o.other (by omega) _,h.r.other (by omega) _⟩
theorem Abk {B:Al} {b:Aq} (h:Gt B b) (pa:Option Addr) (c:Nat):Gt (Ak B pa c B.path) b:=⟨h.scheme,h.user,h.pass,h.host,h.hasPort,h.port,h.opq,h.flat,h.path,h.hasQuery,h.query,h.hasFrag,h.frag⟩
theorem Aay (u:ByteArray) (wv:Value) (st:Oi):(prog.info? 109).map (·.size)=some (Ap u wv st).toList.length:=by kernel_rfl
def sT (l:List UInt8):ByteArray:=⟨l.toArray⟩
def Dk (ws:List ByteArray):List UInt8:=ws.flatMap (fun t=>32 :: t.toList)
theorem UZ {ws:List ByteArray} {k:Nat} (h:k<ws.length):Dk (ws.take (k+1))=Dk (ws.take k)++32 :: ws[k].toList:=by
 unfold Dk;rw [List.take_add_one,List.getElem?_eq_getElem h,Option.toList_some,List.flatMap_append];simp only [List.flatMap_cons,List.flatMap_nil,List.append_nil]
theorem Pm (ws:List ByteArray) (k:Nat):(Dk (ws.take k)).length<=(Dk ws).length:=by
 have e:Dk ws=Dk (ws.take k)++Dk (ws.drop k):=by unfold Dk;rw [<-List.flatMap_append,List.take_append_drop]
 rw [e,List.length_append];omega
def Acr (k:Nat):List UInt8:=if k=0 then [] else [44,32]
theorem M0.keepB {w wx wy:World} {B:Al} {C D:Array Value} {K:Nat} (h:M0 w wx B C D) (hb:Below K wx wy) (hK:w.heap.size+3<=K):M0 w wy B C D:=
 ⟨h.below.trans (hb.mono (by omega)),by have:=hb.size;have:=h.size;omega,(hb.block _ (by omega)).trans h.a,(hb.block _ (by omega)).trans h.o,(hb.block _ (by omega)).trans h.r⟩
theorem Dx.take {l:List AP} {C:List LC} {b:Aq} {k:Nat} {x:AP} (h:Dx l ((C.take k).map fun c=>Do b c.url c.ws)) (hk:k<C.length) (hx:VB x (Do b C[k].url C[k].ws)):Dx (l++[x]) ((C.take (k+1)).map fun c=>Do b c.url c.ws):=by
 rw [List.take_succ_eq_append_getElem hk,List.map_append];exact h.snoc hx
theorem WT {x:AP} {b:Aq} {s:List UInt8} {ws:List ByteArray} {v:Value} (h:VB x (Do b s [])):VB ⟨x.right,x.url,v,ws⟩ (Do b s (ws.map (·.toList))):=⟨h.right,h.url,rfl⟩
theorem Cb.cells {w:World} {B:Nat} {v:Value} {l:List AP} (h:Cb w B v l):v.cells= #[v]:=by
 rcases h.1.2 with ⟨rfl,_⟩ | ⟨k,cap,cur,rfl,_⟩<;>rfl
theorem XZ (B:Al) (b:Aq) (s:ByteArray) (w:World) (hE:GZ w) (hB:DI w B b) (bk:GC B) (hz:s.size<=900000000) (hx:∀ c∈Fe s.toList,c.url.length<=1100000):Calls prog 55 #[.int .i64 2,.agg (Ab B),.string s] w (Oo (Bi 2 b s.toList) w):=by
  have hI:=M0.start w B r0 r0;have hsp:=H0 (fun w=>Xu s w hz)
  have hit:=H0 (fun (u:ByteArray) (hu:u.size<=1100000) w hE hB=>Vy B b u w hE hB bk hu)
  have hE':=H0 hE;have hB':=H0 hB;clear hE hB bk;obtain ⟨R,hR⟩:=N2 (Bi 2 b s.toList);rw [hR];have hRv:Hid (R=((Fe s.toList).map fun c=>Do b c.url c.ws,[])):=H0 hR.symm
  clear hR;obtain ⟨C,hC⟩:=N2 (Fe s.toList);rw [hC] at hRv hx;replace hC:=H0 hC;go_enter func55,ntmps55;go_upto_region 2 with (fail)
  refine Ar (R:=fun wx=>M0 w wx B r0 r0) hI ?_
  clear hI;intro w1 hI;go_wp2_with fail;refine (hsp.out _).mono ?_;rintro e w2 ⟨cv,cl,rfl,hcl,hcz,hcs,hown,hb⟩;have hs1:=hI.size;have hB1:=hI.below;replace hI:=hI.keep hb;have hb1:=hb.size;rw [hC.out] at hcl;clear hb hsp;have hlen:cl.length=C.length:=by rw [<-hcl.out,List.length_map]
  obtain ⟨pa,pc,rfl,-⟩:=hown.read;replace hcs:=H0 hcs;replace hx:=H0 hx;go_wp2_with fail;go_loopw [9,10,27] (fun v9 v10 iv wr=>∃ (k:Nat) (v:Value) (hl:List AP),iv= .int .i64 (k:Int)/\k<=cl.length/\M0 w wr B r0 (readC v ⟨#[]⟩)/\Hid (Dx hl ((C.take k).map fun c=>Do b c.url c.ws))/\Hid (Cb wr w2.heap.size v hl)/\hl.length=k/\BI (fun g=>g=w.heap.size+2) w2 wr) (fun _ _ i _=>cl.length - (intOf i).toNat)
  case atStart=>exact ⟨0,.slice none 0 0,[],rfl,Nat.zero_le _,hI,H0 trivial,H0 (Cb.nil _ _),rfl,BI.refl _ _⟩
  case round=>
    obtain ⟨k,v,hl,rfl,hk,hIr,his,hoi,hlk,hch⟩:=hrel;clear hI
    by_cases hlt:k<cl.length
    · have hoc:FD wr w1.heap.size (.slice pa cl.length pc) cl:=hown.chg fun j hj hlt2=>hch.block j hlt2 (by omega)
      obtain ⟨pa',pc',hv,hcc,hww⟩:=hoc.read;cases hv;obtain ⟨g1,o1,rfl,hcell⟩:=hcc (by omega)
      have y:=hcell k hlt;have q1:=(hoc.2 cl[k] (List.getElem_mem ..));have hzz:=hcs.out cl[k] (List.getElem_mem ..)
      have hcand:C[k]'(by omega)=GP cl[k]:=by
        have e1:=hcl.out;have:C[k]? =some (GP cl[k]):=by rw [<-e1,List.getElem?_map,List.getElem?_eq_getElem hlt];rfl
        rw [List.getElem?_eq_getElem (by omega)] at this
        exact Option.some.inj this
      have huz:=hx.out _ (List.getElem_mem (show k<C.length by omega))
      rw [hcand] at huz;obtain ⟨c,hc⟩:=N2 (cl[k]);rw [hc] at y q1 hzz hcand huz;replace hc:=H0 hc;obtain ⟨cu,cw,cws,cst⟩:=c;dsimp only at q1 hzz;have hcuz:cu.size<=1100000:=by rw [<-Aa];exact huz
      replace hcand:=H0 hcand;clear hcc hww hcell huz hoc;have hltI:(k:Int)<(cl.length:Int):=by omega
      have hB3:M0 w (wr.alloc (.cells (Ap cu cw cst) 109)) B r0 (readC v ⟨#[]⟩):=hIr.alloc _;have hc3:AJ (wr.alloc (.cells (Ap cu cw cst) 109)) wr.heap.size (Ap cu cw cst) 109:=AJ.new _ _ _;have hbr3:Below wr.heap.size wr (wr.alloc (.cells (Ap cu cw cst) 109)):=(Below.refl _ _).alloc (Nat.le_refl _) _;obtain ⟨w3,hw3⟩:∃ w3,wr.alloc (.cells (Ap cu cw cst) 109)=w3:=⟨_,rfl⟩;rw [hw3] at hB3 hc3 hbr3;obtain ⟨ga,gc,rfl,-,hwR0⟩:=BA q1
      have hone:(Ap cu (.slice ga cws.length gc) cst).all (·.oneCell')=true:=Du _ _ _ _ _
      go_upto_region 9 with (first
        | (refine wpList_load_mid rfl 109 _ rfl g1 (o1+k * 8) rfl (Ap cu (.slice ga cws.length gc) cst).toList _ y underlying109 rfl (Aay _ _ _) ?_)
        | (refine Ag rfl 109 _ _ rfl rfl (Ap cu (.slice ga cws.length gc) cst) _ _ _ rfl (by simp) rfl (Cp _ _ _) rfl hone ?_))
      refine Ar (R:=fun wx=>w3=wx) hw3.symm ?_
      rintro _ rfl;clear hw3 y;obtain ⟨p9,hp9⟩:∃ p,wr.heap.size=p:=⟨_,rfl⟩;rw [hp9] at hc3⊢;have z0:=(hc3.at 0).trans (show (Ap cu (.slice ga cws.length gc) cst)[0]? =some (.string cu) from rfl);go_wp2_with (refine wpList_load_row rfl 34 _ rfl w.heap.size rfl _ (Ab B) _ _ hB3.a underlying34 rfl (Ac _) ?_);refine (hit.out cu hcuz w3 (hE'.out.next hB3.below) (hB'.out.next hB3.below)).mono ?_
      rintro e w4 ⟨x,rfl,hxi,ho,hwv,hb4⟩;have hB4:=hB3.keep hb4;have hc4:=hc3.keep hb4;have hbr4:Below wr.heap.size wr w4:=hbr3.trans (hb4.mono hbr3.size);have hs34:=hb4.size;have hs23:=hbr3.size;obtain ⟨xr,xu,xw,xws⟩:=x;dsimp only at ho hwv hxi;subst hwv;have hB5:M0 w (w4.alloc (.cells (Au xr xu (.slice none 0 0)) 48)) B r0 (readC v ⟨#[]⟩):=hB4.alloc _;have hc5:AJ (w4.alloc (.cells (Au xr xu (.slice none 0 0)) 48)) p9 (Ap cu (.slice ga cws.length gc) cst) 109:=hc4.alloc _;have hd5:AJ (w4.alloc (.cells (Au xr xu (.slice none 0 0)) 48)) w4.heap.size (Au xr xu (.slice none 0 0)) 48:=AJ.new _ _ _;have hb45:Below w4.heap.size w4 (w4.alloc (.cells (Au xr xu (.slice none 0 0)) 48)):=(Below.refl _ _).alloc (Nat.le_refl _) _;have hsz5:(w4.alloc (.cells (Au xr xu (.slice none 0 0)) 48)).heap.size=w4.heap.size+1:=Ai _ _;obtain ⟨w5,hw5⟩:∃ w5,w4.alloc (.cells (Au xr xu (.slice none 0 0)) 48)=w5:=⟨_,rfl⟩;rw [hw5] at hB5 hc5 hd5 hb45 hsz5;clear hB3 hc3 hB4 hc4 z0 hb4;replace hxi:=H0 hxi;replace ho:=H0 ho;go_upto_region 10 with (refine Ag rfl 48 _ _ rfl rfl (Au xr xu (.slice none 0 0)) _ _ _ rfl (by simp) rfl (DT _ _ _) rfl (Jh _ _ _ rfl) ?_)
      refine Ar (R:=fun wx=>w5=wx) hw5.symm ?_
      rintro _ rfl;clear hw5;obtain ⟨p10,hp10⟩:∃ p,w4.heap.size=p:=⟨_,rfl⟩;rw [hp10] at hd5 hsz5⊢;have z1:=(hc5.at 1).trans (show (Ap cu (.slice ga cws.length gc) cst)[1]? =some (.slice ga cws.length gc) from rfl);have hwR:DJ w5 ga cws.length gc cws:=hwR0.below (hbr4.trans (hb45.mono hbr4.size)) (Nat.le_refl _);go_wp2_with fail;refine (GM ga cws.length gc cws w5 hwR hzz.2.2).mono ?_;rintro e w6 ⟨vw,rfl,hvw,hb6⟩;have hlt10:=hd5.lt;have hd6:=hd5.keep hb6;have hB6:=hB5.keep hb6;have hb56:=hb6.size;obtain ⟨va,vc,rfl,-,-⟩:=BA hvw;have hB7:=hB6.setG (g:=p10) (by have:=hIr.size;omega) (Au xr xu (.slice va cws.length vc))
      have hd7:=hd6.set (Au xr xu (.slice va cws.length vc));have hb47:Below w4.heap.size w4 (w6.setRow p10 (Au xr xu (.slice va cws.length vc))):=Ae (hb45.trans (hb6.mono (by omega))) (by omega) _
      have hvw7:=AI.row hvw (g:=p10) (by omega) (Au xr xu (.slice va cws.length vc))
      clear hB5 hc5 hd5 z1 hwR hB6;obtain ⟨w7,hw7⟩:∃ w7,w6.setRow p10 (Au xr xu (.slice va cws.length vc))=w7:=⟨_,rfl⟩;rw [hw7] at hB7 hd7 hb47 hvw7;go_upto_region 11 with (refine Ad rfl 22 _ _ rfl p10 24 rfl (.slice va cws.length vc) rfl rfl 48 (Au xr xu (.slice none 0 0)) (Au xr xu (.slice va cws.length vc)) hd6 Bn (by show 24+1<=25;decide) rfl (by kernel_rfl) ?_)
      refine Ar (R:=fun wx=>w7=wx) hw7.symm ?_
      rintro _ rfl;clear hw7 hd6 hvw hb6;have hbr7:Below wr.heap.size wr w7:=hbr4.trans (hb47.mono hbr4.size);have hs7:=hbr7.size;have hch7:BI (fun g=>g=w.heap.size+2) w2 w7:=hch.next hbr7
      have hs2r:=hch.size;have hoi7:Cb w7 w2.heap.size v hl:=hoi.out.below hbr7;have hX:HQ w7 w2.heap.size ⟨xr,xu,.slice va cws.length vc,cws⟩:=⟨(AI.below ho.out.path hb47 (Nat.le_refl _)).low (by omega),hvw7.low (by omega)⟩
      have hv1:=hoi7.one;have y0:=(hB7.r.at 0).trans (show (readC v ⟨#[]⟩)[0]? =some v from rfl)
      have hXi:Hid (VB ⟨xr,xu,.slice va cws.length vc,cws⟩ (Do b C[k].url C[k].ws)):=H0 (by
        rw [hcand.out]
        exact WT (x:=⟨xr,xu,.slice none 0 0,xws⟩) hxi.out)
      clear hb47 hvw7 hbr3 hbr4 hb45 hwR0 ho hxi hit hE'
      go_wp2_with (first
        | (refine wpList_load_row rfl 48 _ rfl p10 rfl _ (Au xr xu (.slice va cws.length vc)) _ _ hd7 underlying48 rfl (DT _ _ _) ?_)
        | (refine Iq rfl _ rfl xr xu (.slice va cws.length vc) rfl ?_)
        | (refine KH rfl _ _ rfl (W0:=w7) (w0:=w7) (B:=w2.heap.size) (v:=v) (l:=hl) ⟨xr,xu,.slice va cws.length vc,cws⟩ rfl rfl hoi7 hX (Below.refl _ _) (by omega) (by omega) ?_
           intro v2 w9 hoi9 hb9 _;have hB9:=hB7.keepB hb9 (by omega)
           have hch9:BI (fun g=>g=w.heap.size+2) w2 w9:=⟨hb9.os.trans hch7.os,hb9.tape.trans hch7.tape,hb9.output.trans hch7.output,Nat.le_trans hch7.size hb9.size,fun j hj hn=>(hb9.block j hj).trans (hch7.block j hj hn)⟩
           clear hB7 y0 hd7 hoi7 hX)
        | (refine Ad rfl 42 _ _ rfl (w.heap.size+2) 0 rfl v2 rfl hoi9.cells 44 (readC v ⟨#[]⟩) (readC v2 ⟨#[]⟩) hB9.r Sb (by show 0+1<=2;decide) hoi9.one rfl ?_))
      refine ⟨⟨k+1,v2,hl++[⟨xr,xu,.slice va cws.length vc,cws⟩],by go_num,by omega,hB9.setR _,H0 (his.out.take (by omega) hXi.out),H0 (hoi9.row (by omega) _),by rw [List.length_append,hlk];rfl,hch9.row rfl _⟩,?_⟩
      simp [intOf];omega
    · have hltI:(cl.length:Int)<=(k:Int):=by omega
      obtain rfl:k=cl.length:=by omega
      have hR2:Hid (R=((C.take cl.length).map fun c=>Do b c.url c.ws,[])):=H0 (by rw [hRv.out,hlen,List.take_of_length_le (Nat.le_refl _)])
      have hv1:=hoi.out.one
      go_wp2_with (first
        | (refine wpList_load_row rfl 44 _ rfl (w.heap.size+2) rfl _ (readC v ⟨#[]⟩) _ _ hIr.r underlying44 rfl (CJ _ _) ?_)
        | (refine wpList_store_row rfl 44 _ _ rfl (w.heap.size+1) (readC v ⟨#[]⟩) rfl rfl 44 _ hIr.o (CJ _ _) rfl (Gh _ hv1) ?_))
      have hI8:=hIr.setO (readC v ⟨#[]⟩);refine Em rfl rfl rfl hI8.o underlying44 (CJ _ _) ?_;refine ⟨v,hl,⟨#[]⟩,rfl,by rw [hR2.out];exact his.out,H0 (by rw [hR2.out];exact toList_mk []),?_,hI8.below⟩
      exact (hoi.out.row (g:=w.heap.size+1) (by omega) _).low (by omega)
theorem WH (a:Option Addr) (c:Nat) (l:List ByteArray) (w:World) (h:Fg w (.slice a l.length c) l) (hn:l.length<=1000000000):
  Calls prog 104 #[.slice a l.length c] w fun e w'=>∃ v:Value,e= .returned v/\AI w' w.heap.size 9 v l/\Below w.heap.size w w':=by
 obtain ⟨a1,c1,hv,hcell⟩:=h;cases hv
 cases a with
 | none=>
  have hl0:l=[]:=by
   cases l with
   | nil=>rfl
   | cons a r=>obtain ⟨g,o,e,_⟩:=hcell (by simp);cases e
  subst hl0;refine (Tryz.slices_Clone_string_nil _ _ w).mono ?_;rintro e w' ⟨rfl,rfl⟩;exact ⟨_,rfl,AI.nil _ _ _,Below.refl _ _⟩
 | some a=>
  by_cases h0:l.length=0
  ·have hl0:l=[]:=List.eq_nil_of_length_eq_zero h0;subst hl0;refine (Tryz.slices_Clone_string_zero a c w).mono ?_;rintro e w' ⟨v,rfl,ho,_,hb⟩;exact ⟨v,rfl,ho,hb⟩
  ·obtain ⟨g,o,e,hcc⟩:=hcell (by omega)
   cases e;refine (Tryz.slices_Clone_string g o l.length c l w (Nat.le_refl _) (by omega) (fun j hj=> ?_)).mono ?_
   ·rw [hcc j hj,List.getD_eq_getElem?_getD,List.getElem?_eq_getElem hj];rfl
   ·rintro e w' ⟨v,rfl,ho,_,hb⟩;rw [List.take_length] at ho;exact ⟨v,rfl,ho,hb⟩
theorem Dx.filt {l:List AP} {L:List BR} {K:BR->Bool} {k:Nat} {x:AP} (h:Dx l ((L.take k).filter K)) (hk:k<L.length) (hK:K L[k]=true) (hx:VB x L[k]):Dx (l++[x]) ((L.take (k+1)).filter K):=by
 rw [List.take_succ_eq_append_getElem hk,List.filter_append,List.filter_cons,if_pos hK,List.filter_nil];exact h.snoc hx
theorem Aei {L:List BR} {K:BR->Bool} {k:Nat} (hk:k<L.length) (hK:K L[k]=false):(L.take (k+1)).filter K=(L.take k).filter K:=by
 rw [List.take_succ_eq_append_getElem hk,List.filter_append,List.filter_cons,if_neg (by rw [hK];decide),List.filter_nil,List.append_nil]
def Afe (L:List BR) (n:Nat) (w:World) (e:Ending) (w':World):Prop:=∃ (v:Value) (l:List AP),e= .returned v/\Dx l L/\Cb w' w.heap.size v l/\l.length<=n/\(∀ x∈l,x.ws.length<=1000000000)/\Below w.heap.size w w'
theorem Xf (p:C6) (k:Nat) (v:Value) (l:List AP) (L:List BR) (p3 p4:Nat) (w:World) (hE:GZ w) (hp:Eb w p) (h3:AJ w p3 (By p) 24) (h4:w.cell? ⟨p4,0,none⟩=some (.int .i64 (k:Int))) (hr:FL w v l) (his:Dx l L) (hn:l.length<=900000000)
    (hg:∀ it∈L,it.right=true->AY it.url/\Bt it.url<=800000000) (hw:∀ x∈l,x.ws.length<=1000000000/\x.url.path.length<=1000000000):
    Calls prog 57 #[v,.func (.func 58) #[] #[.pointer (some ⟨p3,0,none⟩),.pointer (some ⟨p4,0,none⟩)]] w (Afe (L.filter (Dm (GL p.schemes.l p.hosts.l p.types.l) k)) l.length w):=by
  have hlen:=his.len;have hlt3:=h3.lt;have hlt4:=World.block_lt_of_cell? w _ h4;obtain ⟨K,hK⟩:=N2 (Dm (GL p.schemes.l p.hosts.l p.types.l) k)
  have hask:=H0 (fun (x:AP) (it:BR) (w':World) (hb:Below w.heap.size w w') (hX:I9 w' x) (hI:VB x it) (hgi:it.right=true->AY it.url/\Bt it.url<=800000000)=>
    Adm p k x it p3 p4 w' (hE.next hb) (hp.below hb (Nat.le_refl _)) ((hb.block _ hlt3).trans h3) ((hb.cell (by simpa using hlt4)).trans h4) hX hI hgi)
  rw [hK] at hask⊢;replace hK:=H0 hK;obtain ⟨pa,c,rfl,hcap,hrow,hreads⟩:=hr;have hbel0:Below w.heap.size w w:=Below.refl _ _;replace hrow:=H0 hrow;replace hreads:=H0 hreads;replace his:=H0 his;replace hlen:=H0 hlen;replace hg:=H0 hg;replace hw:=H0 hw;clear h3 h4 hlt3 hlt4 hE hp;go_enter func57,ntmps57;go_wp2_with fail;go_loopw [5,7,10] (fun v5 v7 iv wr=>∃ (i:Nat) (v:Value) (hl:List AP),v5=v/\iv= .int .i64 (i:Int)/\i<=l.length/\Hid (Dx hl ((L.take i).filter K))/\Hid (Cb wr w.heap.size v hl)/\hl.length<=i/\Hid (∀ x∈hl,x.ws.length<=1000000000)/\Below w.heap.size w wr) (fun _ _ i _=>l.length - (intOf i).toNat)
  case atStart=>exact ⟨0,.slice none 0 0,[],rfl,rfl,Nat.zero_le _,H0 trivial,H0 (Cb.nil _ _),Nat.zero_le _,H0 (fun x hx=>by cases hx),hbel0⟩
  case round=>
    obtain ⟨i,v,hl,rfl,rfl,hk,hisl,hoi,hlk,hws,hbel⟩:=hrel;clear hbel0
    by_cases hlt:i<l.length
    · obtain ⟨g1,o1,rfl,hcell⟩:=hrow.out (by omega)
      have y:=Fu (hcell i hlt) hbel (Nat.le_refl _);have hL:i<L.length:=by rw [<-hlen.out];exact hlt
      have hI:=his.out.get i hlt hL;have hX:=(hreads.out l[i] (List.getElem_mem ..));have hW:=hw.out l[i] (List.getElem_mem ..);have hG:=hg.out L[i] (List.getElem_mem ..);have hno:=Aei (K:=K) hL;have hyes:∀ {q:List AP} {y:AP},Dx q ((L.take i).filter K)->K L[i]=true->VB y L[i]->Dx (q++[y]) ((L.take (i+1)).filter K):=fun a b c=>Dx.filt a hL b c
      obtain ⟨x,hx⟩:=N2 (l[i]);obtain ⟨it,hit⟩:=N2 (L[i]);rw [hx] at y hI hX hW;rw [hit] at hI hG hno;have hyes2:∀ (q:List AP) (y:AP),Dx q ((L.take i).filter K)->K it=true->VB y it->Dx (q++[y]) ((L.take (i+1)).filter K):=by rw [<-hit];exact fun q y=>hyes
      obtain ⟨xr,xu,xw,xws⟩:=x;obtain ⟨hXp,hXc,hXw⟩:=hX;dsimp only at hXp hXc hXw hI hW;obtain ⟨ga,gc,rfl,hwc⟩:=hXw;have hltI:(i:Int)<(l.length:Int):=by omega
      have hc3:AJ (wr.alloc (.cells (Au xr xu (.slice ga xws.length gc)) 48)) wr.heap.size (Au xr xu (.slice ga xws.length gc)) 48:=AJ.new _ _ _;have hbr3:Below wr.heap.size wr (wr.alloc (.cells (Au xr xu (.slice ga xws.length gc)) 48)):=(Below.refl _ _).alloc (Nat.le_refl _) _;obtain ⟨w3,hw3⟩:∃ w3,wr.alloc (.cells (Au xr xu (.slice ga xws.length gc)) 48)=w3:=⟨_,rfl⟩;rw [hw3] at hc3 hbr3;have hbe3:Below w.heap.size w w3:=hbel.next hbr3
      have hX3:I9 w3 ⟨xr,xu,.slice ga xws.length gc,xws⟩:=I9.below (w:=w) ⟨hXp,hXc,⟨ga,gc,rfl,hwc⟩⟩ hbe3 (Nat.le_refl _);have hcall:=H0 (hask.out ⟨xr,xu,.slice ga xws.length gc,xws⟩ it w3 hbe3 hX3 hI hG);replace hI:=H0 hI;replace hx:=H0 hx;replace hX3:=H0 hX3;replace hyes2:=H0 hyes2;replace hno:=H0 hno;clear hyes hit hcell
      go_upto_region 5 with (first
        | (refine wpList_load_mid rfl 48 _ rfl g1 (o1+i * 25) rfl (Au xr xu (.slice ga xws.length gc)).toList _ y underlying48 rfl (JZ ⟨xr,xu,.slice ga xws.length gc,xws⟩) ?_)
        | (refine Ag rfl 48 _ _ rfl rfl (Au xr xu (.slice ga xws.length gc)) _ _ _ rfl (by simp) rfl (DT _ _ _) rfl (Jh _ _ _ rfl) ?_))
      refine Ar (R:=fun wx=>w3=wx) hw3.symm ?_
      rintro _ rfl;clear hw3 y;obtain ⟨p7,hp7⟩:∃ p,wr.heap.size=p:=⟨_,rfl⟩;rw [hp7] at hc3⊢;obtain ⟨kb,hkb⟩:=N2 (K it);rw [hkb] at hcall
      cases kb with
      | false=>
        have hn1:=hno.out hkb;have hisl2:Hid (Dx hl ((L.take (i+1)).filter K)):=H0 (by rw [hn1];exact hisl.out)
        replace hkb:=H0 hkb;replace hn1:=H0 hn1;go_wp2_with (refine wpList_load_row rfl 48 _ rfl p7 rfl _ (Au xr xu (.slice ga xws.length gc)) _ _ hc3 underlying48 rfl (DT _ _ _) ?_);refine hcall.out.mono ?_;rintro e w4 ⟨rfl,hb4⟩;have hbr4:Below wr.heap.size wr w4:=hbr3.trans (hb4.mono hbr3.size);have hoi4:Hid (Cb w4 w.heap.size u5 hl):=H0 (hoi.out.below hbr4);have hbe4:=hbe3.next hb4
        clear hb4 hbr3 hbe3 hc3 hoi;go_wp2_with fail;refine ⟨⟨i+1,u5,hl,rfl,by go_num,by omega,hisl2,hoi4,by omega,hws,hbe4⟩,?_⟩
        simp [intOf];omega
      | true=>
        go_wp2_with (refine wpList_load_row rfl 48 _ rfl p7 rfl _ (Au xr xu (.slice ga xws.length gc)) _ _ hc3 underlying48 rfl (DT _ _ _) ?_);refine hcall.out.mono ?_;rintro e w4 ⟨rfl,hb4⟩;have hbr4:Below wr.heap.size wr w4:=hbr3.trans (hb4.mono hbr3.size);have hbe4:=hbe3.next hb4
        have hc4:=hc3.keep hb4;have hlt7:=hc4.lt;have hRw:Fg w (.slice ga xws.length gc) xws:=⟨ga,gc,rfl,hwc⟩;have hXp4:=hXp.below hbe4 (Nat.le_refl _);have y19:=(hc4.at 19).trans (show (Au xr xu (.slice ga xws.length gc))[19]? =some (.slice xu.pathA xu.path.length xu.pathC) from rfl);have hsw:=hbel.size;replace hkb:=H0 hkb;clear hb4 hbr3 hbe3 hc3 hcall;go_wp2_with fail;refine (GM xu.pathA xu.path.length xu.pathC xu.path w4 hXp4 hW.2).mono ?_;rintro e w5 ⟨vp,rfl,hvp,hb5⟩;obtain ⟨va,vc,rfl,-,-⟩:=BA hvp;have hc5:=hc4.keep hb5;have hs45:=hb5.size;have hbr5:Below wr.heap.size wr w5:=hbr4.trans (hb5.mono hbr4.size);have hbe5:=hbe4.next hb5
        have hc6:=hc5.set (Au xr (Ak xu va vc xu.path) (.slice ga xws.length gc));have hbr6:=Ae hbr5 (g:=p7) (by omega) (Au xr (Ak xu va vc xu.path) (.slice ga xws.length gc))
        have hbe6:=Ae hbe5 (g:=p7) (by omega) (Au xr (Ak xu va vc xu.path) (.slice ga xws.length gc))
        have hvp6:=AI.row hvp (g:=p7) hlt7 (Au xr (Ak xu va vc xu.path) (.slice ga xws.length gc));have hs56:(w5.setRow p7 (Au xr (Ak xu va vc xu.path) (.slice ga xws.length gc))).heap.size=w5.heap.size:=CG _ _ _;obtain ⟨w6,hw6⟩:∃ w6,w5.setRow p7 (Au xr (Ak xu va vc xu.path) (.slice ga xws.length gc))=w6:=⟨_,rfl⟩;rw [hw6] at hc6 hbr6 hbe6 hvp6 hs56;clear hb5 hbe4 hbr4 hc4 hvp y19 hXp4;go_upto_region 7 with (refine Ad rfl 22 _ _ rfl p7 19 rfl (.slice va xu.path.length vc) rfl rfl 48 (Au xr xu (.slice ga xws.length gc)) (Au xr (Ak xu va vc xu.path) (.slice ga xws.length gc)) hc5 Bn (by show 19+1<=25;decide) rfl (by kernel_rfl) ?_)
        refine Ar (R:=fun wx=>w6=wx) hw6.symm ?_
        rintro _ rfl;clear hw6 hc5 hbe5 hbr5;have y24:=(hc6.at 24).trans (show (Au xr (Ak xu va vc xu.path) (.slice ga xws.length gc))[24]? =some (.slice ga xws.length gc) from rfl);have hRw6:=hRw.below hbe6 (Nat.le_refl _);go_wp2_with fail;refine (WH ga gc xws w6 hRw6 hW.1).mono ?_;rintro e w7 ⟨vw,rfl,hvw,hb7⟩;obtain ⟨vb,vd,rfl,-,-⟩:=BA hvw;have hc7:=hc6.keep hb7;have hs67:=hb7.size;have hbr7:Below wr.heap.size wr w7:=hbr6.trans (hb7.mono hbr6.size);have hbe7:=hbe6.next hb7
        have hvp7:=hvp6.below hb7 (Nat.le_refl _);have hc8:=hc7.set (Au xr (Ak xu va vc xu.path) (.slice vb xws.length vd));have hbr8:=Ae hbr7 (g:=p7) (by omega) (Au xr (Ak xu va vc xu.path) (.slice vb xws.length vd))
        have hbe8:=Ae hbe7 (g:=p7) (by omega) (Au xr (Ak xu va vc xu.path) (.slice vb xws.length vd))
        have hvp8:=AI.row hvp7 (g:=p7) hlt7 (Au xr (Ak xu va vc xu.path) (.slice vb xws.length vd));have hvw8:=AI.row hvw (g:=p7) (by omega) (Au xr (Ak xu va vc xu.path) (.slice vb xws.length vd))
        have hs78:(w7.setRow p7 (Au xr (Ak xu va vc xu.path) (.slice vb xws.length vd))).heap.size=w7.heap.size:=CG _ _ _;obtain ⟨w8,hw8⟩:∃ w8,w7.setRow p7 (Au xr (Ak xu va vc xu.path) (.slice vb xws.length vd))=w8:=⟨_,rfl⟩;rw [hw8] at hc8 hbr8 hbe8 hvp8 hvw8 hs78;clear hb7 hbe6 hbr6 hc6 hvp6 y24 hRw6 hvp7 hvw;go_upto_region 8 with (refine Ad rfl 22 _ _ rfl p7 24 rfl (.slice vb xws.length vd) rfl rfl 48 (Au xr (Ak xu va vc xu.path) (.slice ga xws.length gc)) (Au xr (Ak xu va vc xu.path) (.slice vb xws.length vd)) hc7 Bn (by show 24+1<=25;decide) rfl (by kernel_rfl) ?_)
        refine Ar (R:=fun wx=>w8=wx) hw8.symm ?_
        rintro _ rfl;clear hw8 hc7 hbe7 hbr7;have hoi8:Cb w8 w.heap.size u5 hl:=hoi.out.below hbr8;have hX8:HQ w8 w.heap.size ⟨xr,Ak xu va vc xu.path,.slice vb xws.length vd,xws⟩:=⟨hvp8.low (by omega),hvw8.low (by omega)⟩
        have hIy:Hid (VB ⟨xr,Ak xu va vc xu.path,.slice vb xws.length vd,xws⟩ it):=H0 ⟨hI.out.right,Abk hI.out.url va vc,hI.out.ws⟩;have hsw8:w.heap.size<=w8.heap.size:=hbe8.size;clear hvp8 hvw8 hoi hbr8
        go_wp2_with (first
          | (refine wpList_load_row rfl 48 _ rfl p7 rfl _ (Au xr (Ak xu va vc xu.path) (.slice vb xws.length vd)) _ _ hc8 underlying48 rfl (DT _ _ _) ?_)
          | (refine Iq rfl _ rfl xr (Ak xu va vc xu.path) (.slice vb xws.length vd) rfl ?_)
          | (refine KH rfl _ _ rfl (W0:=w) (w0:=w8) (B:=w.heap.size) (v:=u5) (l:=hl) ⟨xr,Ak xu va vc xu.path,.slice vb xws.length vd,xws⟩ rfl rfl hoi8 hX8 hbe8 hsw8 (by omega) ?_
             intro v2 w9 hoi9 hb9 _;replace hoi9:=H0 hoi9
             clear hc8 hoi8 hX8 hbe8))
        refine ⟨⟨i+1,v2,hl++[⟨xr,Ak xu va vc xu.path,.slice vb xws.length vd,xws⟩],rfl,by go_num,by omega,H0 (hyes2.out _ _ hisl.out hkb.out hIy.out),hoi9,by rw [List.length_append,List.length_singleton];omega,H0 ?_,hb9⟩,?_⟩
        · intro q hq
          rcases List.mem_append.1 hq with hq | hq
          · exact hws.out q hq
          · rw [List.mem_singleton.1 hq];exact hW.1
        · simp [intOf];omega
    · have hltI:(l.length:Int)<=(i:Int):=by omega
      have hall:L.take i=L:=List.take_of_length_le (by rw [<-hlen.out];omega)
      have hfin:Dx hl (L.filter K):=by have:=hisl.out;rwa [hall] at this
      replace hall:=H0 hall;replace hfin:=H0 hfin;go_wp2_with fail;go_ret;exact ⟨u5,hl,rfl,hfin.out,hoi.out,by omega,hws.out,hbel⟩
end Go.Proofs.YtonomfeipkdmhaaGreatDoor
