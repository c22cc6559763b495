/- Part 12: lemmas. -/
import Derived.Test.YtonomfeipkdmhaaGreatDoorK10
import Derived.Laws.Externs
set_option linter.unusedVariables false
set_option linter.unusedSimpArgs false
set_option maxRecDepth 100000
set_option maxHeartbeats 16000000
namespace Go.Proofs.YtonomfeipkdmhaaGreatDoor
open Go.RowKit
def Uo (o:Option (List UInt8)) (w:World) (e:Ending) (w':World):Prop:=∃ t:ByteArray,e= .returned (.tuple #[.string t,.bool o.isSome])/\Hid (t.toList=o.getD [])/\Below w.heap.size w w'
theorem AR {o:Option (List UInt8)} {w w':World} {l:List UInt8} (h:o=some l) (hb:Below w.heap.size w w'):Uo o w (.returned (.tuple #[.string ⟨l.toArray⟩,.bool true])) w':=by
 subst h;exact ⟨_,rfl,H0 (toList_mk l),hb⟩
theorem Fm {o:Option (List UInt8)} {w w':World} (h:o=none) (hb:Below w.heap.size w w'):Uo o w (.returned (.tuple #[.string ⟨#[]⟩,.bool false])) w':=by
 subst h;exact ⟨_,rfl,H0 (toList_mk []),hb⟩
theorem Bx {s:ByteArray} {l:List UInt8} (h:s.toList=l):s=⟨l.toArray⟩:=Df (h.trans (toList_mk l).symm)
theorem Th {t:List (List UInt8 × List UInt8)} {s:List UInt8} (h:∀ p∈t,p.1≠s):C9 t s=none:=by
 unfold C9;rw [List.find?_eq_none.2,Option.map_none];intro p hp;rw [beq_iff_eq];exact h p hp
theorem V9 (s:ByteArray) (w:World):Calls Tryz.prog 235 #[.string s] w (Uo (Cw s.toList) w):=by
 by_cases h0:s.toList=[97,109,112]
 ·obtain rfl:=Bx h0
  have hv:Cw (ByteArray.mk #[97,109,112]).toList=some [38]:=by rw [h0];decide+kernel
  clear h0;go_enter Tryz.func235,Tryz.ntmps235;go_wp2_with fail;go_ret2;exact AR hv (Below.refl _ _)
 by_cases h1:s.toList=[65,77,80]
 ·obtain rfl:=Bx h1
  have hv:Cw (ByteArray.mk #[65,77,80]).toList=some [38]:=by rw [h1];decide+kernel
  clear h1;go_enter Tryz.func235,Tryz.ntmps235;go_wp2_with fail;go_ret2;exact AR hv (Below.refl _ _)
 by_cases h2:s.toList=[108,116]
 ·obtain rfl:=Bx h2
  have hv:Cw (ByteArray.mk #[108,116]).toList=some [60]:=by rw [h2];decide+kernel
  clear h2;go_enter Tryz.func235,Tryz.ntmps235;go_wp2_with fail;go_ret2;exact AR hv (Below.refl _ _)
 by_cases h3:s.toList=[76,84]
 ·obtain rfl:=Bx h3
  have hv:Cw (ByteArray.mk #[76,84]).toList=some [60]:=by rw [h3];decide+kernel
  clear h3;go_enter Tryz.func235,Tryz.ntmps235;go_wp2_with fail;go_ret2;exact AR hv (Below.refl _ _)
 by_cases h4:s.toList=[103,116]
 ·obtain rfl:=Bx h4
  have hv:Cw (ByteArray.mk #[103,116]).toList=some [62]:=by rw [h4];decide+kernel
  clear h4;go_enter Tryz.func235,Tryz.ntmps235;go_wp2_with fail;go_ret2;exact AR hv (Below.refl _ _)
 by_cases h5:s.toList=[71,84]
 ·obtain rfl:=Bx h5
  have hv:Cw (ByteArray.mk #[71,84]).toList=some [62]:=by rw [h5];decide+kernel
  clear h5;go_enter Tryz.func235,Tryz.ntmps235;go_wp2_with fail;go_ret2;exact AR hv (Below.refl _ _)
 by_cases h6:s.toList=[113,117,111,116]
 ·obtain rfl:=Bx h6
  have hv:Cw (ByteArray.mk #[113,117,111,116]).toList=some [34]:=by rw [h6];decide+kernel
  clear h6;go_enter Tryz.func235,Tryz.ntmps235;go_wp2_with fail;go_ret2;exact AR hv (Below.refl _ _)
 by_cases h7:s.toList=[81,85,79,84]
 ·obtain rfl:=Bx h7
  have hv:Cw (ByteArray.mk #[81,85,79,84]).toList=some [34]:=by rw [h7];decide+kernel
  clear h7;go_enter Tryz.func235,Tryz.ntmps235;go_wp2_with fail;go_ret2;exact AR hv (Below.refl _ _)
 by_cases h8:s.toList=[110,98,115,112]
 ·obtain rfl:=Bx h8
  have hv:Cw (ByteArray.mk #[110,98,115,112]).toList=some [194,160]:=by rw [h8];decide+kernel
  clear h8;go_enter Tryz.func235,Tryz.ntmps235;go_wp2_with fail;go_ret2;exact AR hv (Below.refl _ _)
 by_cases h9:s.toList=[115,104,121]
 ·obtain rfl:=Bx h9
  have hv:Cw (ByteArray.mk #[115,104,121]).toList=some [194,173]:=by rw [h9];decide+kernel
  clear h9;go_enter Tryz.func235,Tryz.ntmps235;go_wp2_with fail;go_ret2;exact AR hv (Below.refl _ _)
 by_cases h10:s.toList=[110,111,116]
 ·obtain rfl:=Bx h10
  have hv:Cw (ByteArray.mk #[110,111,116]).toList=some [194,172]:=by rw [h10];decide+kernel
  clear h10;go_enter Tryz.func235,Tryz.ntmps235;go_wp2_with fail;go_ret2;exact AR hv (Below.refl _ _)
 by_cases h11:s.toList=[114,101,103]
 ·obtain rfl:=Bx h11
  have hv:Cw (ByteArray.mk #[114,101,103]).toList=some [194,174]:=by rw [h11];decide+kernel
  clear h11;go_enter Tryz.func235,Tryz.ntmps235;go_wp2_with fail;go_ret2;exact AR hv (Below.refl _ _)
 by_cases h12:s.toList=[99,111,112,121]
 ·obtain rfl:=Bx h12
  have hv:Cw (ByteArray.mk #[99,111,112,121]).toList=some [194,169]:=by rw [h12];decide+kernel
  clear h12;go_enter Tryz.func235,Tryz.ntmps235;go_wp2_with fail;go_ret2;exact AR hv (Below.refl _ _)
 by_cases h13:s.toList=[112,97,114,97]
 ·obtain rfl:=Bx h13
  have hv:Cw (ByteArray.mk #[112,97,114,97]).toList=some [194,182]:=by rw [h13];decide+kernel
  clear h13;go_enter Tryz.func235,Tryz.ntmps235;go_wp2_with fail;go_ret2;exact AR hv (Below.refl _ _)
 by_cases h14:s.toList=[115,101,99,116]
 ·obtain rfl:=Bx h14
  have hv:Cw (ByteArray.mk #[115,101,99,116]).toList=some [194,167]:=by rw [h14];decide+kernel
  clear h14;go_enter Tryz.func235,Tryz.ntmps235;go_wp2_with fail;go_ret2;exact AR hv (Below.refl _ _)
 by_cases h15:s.toList=[121,101,110]
 ·obtain rfl:=Bx h15
  have hv:Cw (ByteArray.mk #[121,101,110]).toList=some [194,165]:=by rw [h15];decide+kernel
  clear h15;go_enter Tryz.func235,Tryz.ntmps235;go_wp2_with fail;go_ret2;exact AR hv (Below.refl _ _)
 by_cases h16:s.toList=[100,101,103]
 ·obtain rfl:=Bx h16
  have hv:Cw (ByteArray.mk #[100,101,103]).toList=some [194,176]:=by rw [h16];decide+kernel
  clear h16;go_enter Tryz.func235,Tryz.ntmps235;go_wp2_with fail;go_ret2;exact AR hv (Below.refl _ _)
 by_cases h17:s.toList=[116,105,109,101,115]
 ·obtain rfl:=Bx h17
  have hv:Cw (ByteArray.mk #[116,105,109,101,115]).toList=some [195,151]:=by rw [h17];decide+kernel
  clear h17;go_enter Tryz.func235,Tryz.ntmps235;go_wp2_with fail;go_ret2;exact AR hv (Below.refl _ _)
 by_cases h18:s.toList=[101,97,99,117,116,101]
 ·obtain rfl:=Bx h18
  have hv:Cw (ByteArray.mk #[101,97,99,117,116,101]).toList=some [195,169]:=by rw [h18];decide+kernel
  clear h18;go_enter Tryz.func235,Tryz.ntmps235;go_wp2_with fail;go_ret2;exact AR hv (Below.refl _ _)
 by_cases h19:s.toList=[111,117,109,108]
 ·obtain rfl:=Bx h19
  have hv:Cw (ByteArray.mk #[111,117,109,108]).toList=some [195,182]:=by rw [h19];decide+kernel
  clear h19;go_enter Tryz.func235,Tryz.ntmps235;go_wp2_with fail;go_ret2;exact AR hv (Below.refl _ _)
 by_cases h20:s.toList=[115,122,108,105,103]
 ·obtain rfl:=Bx h20
  have hv:Cw (ByteArray.mk #[115,122,108,105,103]).toList=some [195,159]:=by rw [h20];decide+kernel
  clear h20;go_enter Tryz.func235,Tryz.ntmps235;go_wp2_with fail;go_ret2;exact AR hv (Below.refl _ _)
 have hv:Cw s.toList=none:=Th (by
  intro p hp;simp only [Ub,List.mem_cons,List.not_mem_nil,or_false] at hp
  rcases hp with rfl | rfl | rfl | rfl | rfl | rfl | rfl | rfl | rfl | rfl | rfl | rfl | rfl | rfl | rfl | rfl | rfl | rfl | rfl | rfl | rfl
  all_goals (intro e;first | exact h0 e.symm | exact h1 e.symm | exact h2 e.symm | exact h3 e.symm | exact h4 e.symm | exact h5 e.symm | exact h6 e.symm | exact h7 e.symm | exact h8 e.symm | exact h9 e.symm | exact h10 e.symm | exact h11 e.symm | exact h12 e.symm | exact h13 e.symm | exact h14 e.symm | exact h15 e.symm | exact h16 e.symm | exact h17 e.symm | exact h18 e.symm | exact h19 e.symm | exact h20 e.symm))
 have n0:(s.toList==[97,109,112])=false:=by simpa using h0
 have n1:(s.toList==[65,77,80])=false:=by simpa using h1
 have n2:(s.toList==[108,116])=false:=by simpa using h2
 have n3:(s.toList==[76,84])=false:=by simpa using h3
 have n4:(s.toList==[103,116])=false:=by simpa using h4
 have n5:(s.toList==[71,84])=false:=by simpa using h5
 have n6:(s.toList==[113,117,111,116])=false:=by simpa using h6
 have n7:(s.toList==[81,85,79,84])=false:=by simpa using h7
 have n8:(s.toList==[110,98,115,112])=false:=by simpa using h8
 have n9:(s.toList==[115,104,121])=false:=by simpa using h9
 have n10:(s.toList==[110,111,116])=false:=by simpa using h10
 have n11:(s.toList==[114,101,103])=false:=by simpa using h11
 have n12:(s.toList==[99,111,112,121])=false:=by simpa using h12
 have n13:(s.toList==[112,97,114,97])=false:=by simpa using h13
 have n14:(s.toList==[115,101,99,116])=false:=by simpa using h14
 have n15:(s.toList==[121,101,110])=false:=by simpa using h15
 have n16:(s.toList==[100,101,103])=false:=by simpa using h16
 have n17:(s.toList==[116,105,109,101,115])=false:=by simpa using h17
 have n18:(s.toList==[101,97,99,117,116,101])=false:=by simpa using h18
 have n19:(s.toList==[111,117,109,108])=false:=by simpa using h19
 have n20:(s.toList==[115,122,108,105,103])=false:=by simpa using h20
 clear h0 h1 h2 h3 h4 h5 h6 h7 h8 h9 h10 h11 h12 h13 h14 h15 h16 h17 h18 h19 h20;go_enter Tryz.func235,Tryz.ntmps235;go_wp2_with fail;go_ret2;exact Fm hv (Below.refl _ _)
def Ox:Array Value:= #[.string ⟨#[97,112,111,115]⟩,.int .u8 39,.string ⟨#[99,111,108,111,110]⟩,.int .u8 58,.string ⟨#[115,111,108]⟩,.int .u8 47,.string ⟨#[98,115,111,108]⟩,.int .u8 92,.string ⟨#[113,117,101,115,116]⟩,.int .u8 63,.string ⟨#[110,117,109]⟩,.int .u8 35,.string ⟨#[112,101,114,99,110,116]⟩,.int .u8 37,.string ⟨#[99,111,109,109,97,116]⟩,.int .u8 64,.string ⟨#[101,113,117,97,108,115]⟩,.int .u8 61,.string ⟨#[112,108,117,115]⟩,.int .u8 43,.string ⟨#[99,111,109,109,97]⟩,.int .u8 44,.string ⟨#[112,101,114,105,111,100]⟩,.int .u8 46,.string ⟨#[115,101,109,105]⟩,.int .u8 59,.string ⟨#[101,120,99,108]⟩,.int .u8 33,.string ⟨#[100,111,108,108,97,114]⟩,.int .u8 36,.string ⟨#[97,115,116]⟩,.int .u8 42,.string ⟨#[108,111,119,98,97,114]⟩,.int .u8 95,.string ⟨#[103,114,97,118,101]⟩,.int .u8 96,.string ⟨#[72,97,116]⟩,.int .u8 94,.string ⟨#[108,112,97,114]⟩,.int .u8 40,.string ⟨#[114,112,97,114]⟩,.int .u8 41,.string ⟨#[108,115,113,98]⟩,.int .u8 91,.string ⟨#[114,115,113,98]⟩,.int .u8 93,.string ⟨#[108,99,117,98]⟩,.int .u8 123,.string ⟨#[114,99,117,98]⟩,.int .u8 125,.string ⟨#[118,101,114,98,97,114]⟩,.int .u8 124,.string ⟨#[84,97,98]⟩,.int .u8 9,.string ⟨#[78,101,119,76,105,110,101]⟩,.int .u8 10]
def L1 (k:Nat):List UInt8:=(DL.getD k ([],[])).1
def R0 (k:Nat):UInt8:=((DL.getD k ([],[])).2).headD 0
theorem WQ (w:World):∀ k:Nat,k<28->(Instr.index 243 (.agg Ox) (.int .i64 (k:Int))).run Tryz.prog w= .ok (.agg #[.string ⟨(L1 k).toArray⟩,.int .u8 ((R0 k).toNat:Int)]) w
 | 0,_=>by kernel_rfl
 | 1,_=>by kernel_rfl
 | 2,_=>by kernel_rfl
 | 3,_=>by kernel_rfl
 | 4,_=>by kernel_rfl
 | 5,_=>by kernel_rfl
 | 6,_=>by kernel_rfl
 | 7,_=>by kernel_rfl
 | 8,_=>by kernel_rfl
 | 9,_=>by kernel_rfl
 | 10,_=>by kernel_rfl
 | 11,_=>by kernel_rfl
 | 12,_=>by kernel_rfl
 | 13,_=>by kernel_rfl
 | 14,_=>by kernel_rfl
 | 15,_=>by kernel_rfl
 | 16,_=>by kernel_rfl
 | 17,_=>by kernel_rfl
 | 18,_=>by kernel_rfl
 | 19,_=>by kernel_rfl
 | 20,_=>by kernel_rfl
 | 21,_=>by kernel_rfl
 | 22,_=>by kernel_rfl
 | 23,_=>by kernel_rfl
 | 24,_=>by kernel_rfl
 | 25,_=>by kernel_rfl
 | 26,_=>by kernel_rfl
 | 27,_=>by kernel_rfl
 | n+28,h=>by omega
theorem XY:∀ k:Fin 28,C9 DL (L1 k.val)=some [R0 k.val]/\R0 k.val≠0/\Pp ((R0 k.val).toNat:Int)=[R0 k.val]:=by decide+kernel
theorem ZU {s:List UInt8} (h:∀ k,k<28->L1 k≠s):C9 DL s=none:=by
 refine Th fun p hp=> ?_
 obtain ⟨k,hk,rfl⟩:=List.getElem_of_mem hp;have h28:DL.length=28:=rfl
 have:=h k (by omega)
 unfold L1 at this;rw [List.getD_eq_getElem?_getD,List.getElem?_eq_getElem hk] at this;exact this
def AfT (s:List UInt8) (w:World) (e:Ending) (w':World):Prop:=∃ b:UInt8,e= .returned (.int .u8 (b.toNat:Int))/\Hid ((b=0/\C9 DL s=none)\/(b≠0/\C9 DL s=some [b]/\Pp (b.toNat:Int)=[b]))/\Below w.heap.size w w'
theorem Y3:(Tryz.prog.info? 243).map (·.size)=some 56:=by kernel_rfl
theorem QI (s:ByteArray) (w:World):Calls Tryz.prog 288 #[.string s] w (AfT s.toList w):=by
 go_enter Tryz.func288,Tryz.ntmps288
 go_wp2_with (first
  | (refine Ag rfl 243 _ _ rfl rfl Ox _ _ _ rfl (by simp) rfl Y3 rfl (by kernel_rfl) ?_)
  | (refine wpList_load_row rfl 243 _ rfl w.heap.size rfl _ Ox _ _ (heap_alloc_new w _) Tryz.underlying243 rfl Y3 ?_))
 have hbw:Below w.heap.size w (w.alloc (.cells Ox 243)):=(Below.refl _ _).alloc (Nat.le_refl _) _
 go_loopw [36] (fun v wr=>∃ k:Nat,v= .int .i64 k/\k<=28/\Below w.heap.size w wr/\Hid (∀ j,j<k->L1 j≠s.toList)) (fun v _=>28 - (intOf v).toNat)
 case atStart=>exact ⟨0,rfl,by omega,hbw,H0 (fun j hj=>absurd hj (Nat.not_lt_zero _))⟩
 case round=>
  clear hbw;obtain ⟨k,rfl,hk,hbel,hno⟩:=hrel;have hsz:=hbel.size
  by_cases hlt:k<28
  ·have hltI:(k:Int)<28:=by omega
   have hix:=fun w=>WQ w k hlt
   obtain ⟨t,ht⟩:∃ t:ByteArray,(⟨(L1 k).toArray⟩:ByteArray)=t:=⟨_,rfl⟩
   have htl:Hid (t.toList=L1 k):=H0 (by rw [<-ht];exact toList_mk _)
   rw [ht] at hix;replace ht:=H0 ht;have hlook:=H0 (XY ⟨k,hlt⟩);obtain ⟨b,hb⟩:=N2 (R0 k);dsimp only at hlook;rw [hb] at hlook hix;replace hb:=H0 hb;obtain ⟨q,hq⟩:=N2 ((t.toList==s.toList))
   have hq2:Hid ((L1 k==s.toList)=q):=H0 (by rw [<-htl.out];exact hq)
   cases q
   ·have hne:Hid (∀ j,j<k+1->L1 j≠s.toList):=H0 (fun j hj=>by
     by_cases e:j=k
     ·subst e;have:=hq2.out;simpa using this
     ·exact hno.out j (by omega))
    go_wp2_with fail;go_roundw
    case rel=>exact ⟨k+1,by go_num,by omega,((hbel.alloc hsz _)),hne⟩
    case measure=>simp [intOf];omega
   ·have hfin:Hid (C9 DL s.toList=some [b]):=H0 (by
     have:=hq2.out;rw [beq_iff_eq] at this
     rw [<-this];exact hlook.out.1)
    go_wp2_with fail;go_ret;exact ⟨b,rfl,H0 (.inr ⟨hlook.out.2.1,hfin.out,hlook.out.2.2⟩),hbel.alloc hsz _⟩
  ·have hltI:(28:Int)<=(k:Int):=by omega
   have hfin:Hid (C9 DL s.toList=none):=H0 (ZU (fun j hj=>hno.out j (by omega)))
   go_wp2_with fail;go_ret;exact ⟨0,rfl,H0 (.inl ⟨rfl,hfin.out⟩),hbel⟩
theorem Aab (s:ByteArray) (w:World):Calls Tryz.prog 236 #[.string s] w (Uo (Bv s.toList) w):=by
 have hbb:=H0 (QI s)
 have henc:∀ (b:UInt8) w,(convert 21 9 (.int .i32 (b.toNat:Int))).run Tryz.prog w= .ok (.string (Utf8.encode (b.toNat:Int))) w:=fun b w=>run_convert_int_string w _ _ _ (b.toNat:Int) (by rw [Tryz.underlying21];rfl) Tryz.underlying9
 replace henc:=H0 henc
 by_cases h0:s.toList=[110,111,116,105,110]
 ·have hno:C9 DL s.toList=none:=by rw [h0];decide+kernel
  obtain rfl:=Bx h0
  have hv:Bv (ByteArray.mk #[110,111,116,105,110]).toList=some [226,136,137]:=by unfold Bv;rw [hno,h0];decide+kernel
  clear h0;replace hno:=H0 hno;replace hv:=H0 hv;go_enter Tryz.func236,Tryz.ntmps236;go_wp2_with fail;refine (hbb.out _).mono ?_;rintro e w1 ⟨b,rfl,hw,hb⟩
  rcases hw.out with ⟨rfl,-⟩ | ⟨-,h1,-⟩
  ·go_wp2_with fail;go_ret2;exact AR hv.out hb
  ·rw [hno.out] at h1;cases h1
 by_cases h1:s.toList=[110,118,108,116]
 ·have hno:C9 DL s.toList=none:=by rw [h1];decide+kernel
  obtain rfl:=Bx h1
  have hv:Bv (ByteArray.mk #[110,118,108,116]).toList=some [60,226,131,146]:=by unfold Bv;rw [hno,h1];decide+kernel
  clear h1;replace hno:=H0 hno;replace hv:=H0 hv;go_enter Tryz.func236,Tryz.ntmps236;go_wp2_with fail;refine (hbb.out _).mono ?_;rintro e w1 ⟨b,rfl,hw,hb⟩
  rcases hw.out with ⟨rfl,-⟩ | ⟨-,h1,-⟩
  ·go_wp2_with fail;go_ret2;exact AR hv.out hb
  ·rw [hno.out] at h1;cases h1
 by_cases h2:s.toList=[110,118,103,116]
 ·have hno:C9 DL s.toList=none:=by rw [h2];decide+kernel
  obtain rfl:=Bx h2
  have hv:Bv (ByteArray.mk #[110,118,103,116]).toList=some [62,226,131,146]:=by unfold Bv;rw [hno,h2];decide+kernel
  clear h2;replace hno:=H0 hno;replace hv:=H0 hv;go_enter Tryz.func236,Tryz.ntmps236;go_wp2_with fail;refine (hbb.out _).mono ?_;rintro e w1 ⟨b,rfl,hw,hb⟩
  rcases hw.out with ⟨rfl,-⟩ | ⟨-,h1,-⟩
  ·go_wp2_with fail;go_ret2;exact AR hv.out hb
  ·rw [hno.out] at h1;cases h1
 by_cases h3:s.toList=[122,119,110,106]
 ·have hno:C9 DL s.toList=none:=by rw [h3];decide+kernel
  obtain rfl:=Bx h3
  have hv:Bv (ByteArray.mk #[122,119,110,106]).toList=some [226,128,140]:=by unfold Bv;rw [hno,h3];decide+kernel
  clear h3;replace hno:=H0 hno;replace hv:=H0 hv;go_enter Tryz.func236,Tryz.ntmps236;go_wp2_with fail;refine (hbb.out _).mono ?_;rintro e w1 ⟨b,rfl,hw,hb⟩
  rcases hw.out with ⟨rfl,-⟩ | ⟨-,h1,-⟩
  ·go_wp2_with fail;go_ret2;exact AR hv.out hb
  ·rw [hno.out] at h1;cases h1
 by_cases h4:s.toList=[122,119,106]
 ·have hno:C9 DL s.toList=none:=by rw [h4];decide+kernel
  obtain rfl:=Bx h4
  have hv:Bv (ByteArray.mk #[122,119,106]).toList=some [226,128,141]:=by unfold Bv;rw [hno,h4];decide+kernel
  clear h4;replace hno:=H0 hno;replace hv:=H0 hv;go_enter Tryz.func236,Tryz.ntmps236;go_wp2_with fail;refine (hbb.out _).mono ?_;rintro e w1 ⟨b,rfl,hw,hb⟩
  rcases hw.out with ⟨rfl,-⟩ | ⟨-,h1,-⟩
  ·go_wp2_with fail;go_ret2;exact AR hv.out hb
  ·rw [hno.out] at h1;cases h1
 by_cases h5:s.toList=[90,101,114,111,87,105,100,116,104,83,112,97,99,101]
 ·have hno:C9 DL s.toList=none:=by rw [h5];decide+kernel
  obtain rfl:=Bx h5
  have hv:Bv (ByteArray.mk #[90,101,114,111,87,105,100,116,104,83,112,97,99,101]).toList=some [226,128,139]:=by unfold Bv;rw [hno,h5];decide+kernel
  clear h5;replace hno:=H0 hno;replace hv:=H0 hv;go_enter Tryz.func236,Tryz.ntmps236;go_wp2_with fail;refine (hbb.out _).mono ?_;rintro e w1 ⟨b,rfl,hw,hb⟩
  rcases hw.out with ⟨rfl,-⟩ | ⟨-,h1,-⟩
  ·go_wp2_with fail;go_ret2;exact AR hv.out hb
  ·rw [hno.out] at h1;cases h1
 by_cases h6:s.toList=[78,111,66,114,101,97,107]
 ·have hno:C9 DL s.toList=none:=by rw [h6];decide+kernel
  obtain rfl:=Bx h6
  have hv:Bv (ByteArray.mk #[78,111,66,114,101,97,107]).toList=some [226,129,160]:=by unfold Bv;rw [hno,h6];decide+kernel
  clear h6;replace hno:=H0 hno;replace hv:=H0 hv;go_enter Tryz.func236,Tryz.ntmps236;go_wp2_with fail;refine (hbb.out _).mono ?_;rintro e w1 ⟨b,rfl,hw,hb⟩
  rcases hw.out with ⟨rfl,-⟩ | ⟨-,h1,-⟩
  ·go_wp2_with fail;go_ret2;exact AR hv.out hb
  ·rw [hno.out] at h1;cases h1
 by_cases h7:s.toList=[102,106,108,105,103]
 ·have hno:C9 DL s.toList=none:=by rw [h7];decide+kernel
  obtain rfl:=Bx h7
  have hv:Bv (ByteArray.mk #[102,106,108,105,103]).toList=some [102,106]:=by unfold Bv;rw [hno,h7];decide+kernel
  clear h7;replace hno:=H0 hno;replace hv:=H0 hv;go_enter Tryz.func236,Tryz.ntmps236;go_wp2_with fail;refine (hbb.out _).mono ?_;rintro e w1 ⟨b,rfl,hw,hb⟩
  rcases hw.out with ⟨rfl,-⟩ | ⟨-,h1,-⟩
  ·go_wp2_with fail;go_ret2;exact AR hv.out hb
  ·rw [hno.out] at h1;cases h1
 by_cases h8:s.toList=[99,111,112,121,115,114]
 ·have hno:C9 DL s.toList=none:=by rw [h8];decide+kernel
  obtain rfl:=Bx h8
  have hv:Bv (ByteArray.mk #[99,111,112,121,115,114]).toList=some [226,132,151]:=by unfold Bv;rw [hno,h8];decide+kernel
  clear h8;replace hno:=H0 hno;replace hv:=H0 hv;go_enter Tryz.func236,Tryz.ntmps236;go_wp2_with fail;refine (hbb.out _).mono ?_;rintro e w1 ⟨b,rfl,hw,hb⟩
  rcases hw.out with ⟨rfl,-⟩ | ⟨-,h1,-⟩
  ·go_wp2_with fail;go_ret2;exact AR hv.out hb
  ·rw [hno.out] at h1;cases h1
 by_cases h9:s.toList=[116,105,109,101,115,98,97,114]
 ·have hno:C9 DL s.toList=none:=by rw [h9];decide+kernel
  obtain rfl:=Bx h9
  have hv:Bv (ByteArray.mk #[116,105,109,101,115,98,97,114]).toList=some [226,168,177]:=by unfold Bv;rw [hno,h9];decide+kernel
  clear h9;replace hno:=H0 hno;replace hv:=H0 hv;go_enter Tryz.func236,Tryz.ntmps236;go_wp2_with fail;refine (hbb.out _).mono ?_;rintro e w1 ⟨b,rfl,hw,hb⟩
  rcases hw.out with ⟨rfl,-⟩ | ⟨-,h1,-⟩
  ·go_wp2_with fail;go_ret2;exact AR hv.out hb
  ·rw [hno.out] at h1;cases h1
 have hl:C9 RY s.toList=none:=Th (by
  intro p hp;simp only [RY,List.mem_cons,List.not_mem_nil,or_false] at hp
  rcases hp with rfl | rfl | rfl | rfl | rfl | rfl | rfl | rfl | rfl | rfl
  all_goals (intro e;first | exact h0 e.symm | exact h1 e.symm | exact h2 e.symm | exact h3 e.symm | exact h4 e.symm | exact h5 e.symm | exact h6 e.symm | exact h7 e.symm | exact h8 e.symm | exact h9 e.symm))
 have n0:(s.toList==[110,111,116,105,110])=false:=by simpa using h0
 have n1:(s.toList==[110,118,108,116])=false:=by simpa using h1
 have n2:(s.toList==[110,118,103,116])=false:=by simpa using h2
 have n3:(s.toList==[122,119,110,106])=false:=by simpa using h3
 have n4:(s.toList==[122,119,106])=false:=by simpa using h4
 have n5:(s.toList==[90,101,114,111,87,105,100,116,104,83,112,97,99,101])=false:=by simpa using h5
 have n6:(s.toList==[78,111,66,114,101,97,107])=false:=by simpa using h6
 have n7:(s.toList==[102,106,108,105,103])=false:=by simpa using h7
 have n8:(s.toList==[99,111,112,121,115,114])=false:=by simpa using h8
 have n9:(s.toList==[116,105,109,101,115,98,97,114])=false:=by simpa using h9
 clear h0 h1 h2 h3 h4 h5 h6 h7 h8 h9;replace hl:=H0 hl;go_enter Tryz.func236,Tryz.ntmps236;go_wp2_with fail;refine (hbb.out _).mono ?_;rintro e w1 ⟨b,rfl,hw,hb⟩
 rcases hw.out with ⟨rfl,h1⟩ | ⟨h0,h1,h2⟩
 ·have hv:Hid (Bv s.toList=none):=H0 (by unfold Bv;rw [h1,hl.out])
  clear h1 hw;go_wp2_with fail;go_ret2;exact Fm hv.out hb
 ·have hv:Hid (Bv s.toList=some [b]):=H0 (by unfold Bv;rw [h1])
  have hn0:((b.toNat:Int) != 0)=true:=by
   rw [bne_iff_ne];intro e
   exact h0 (UInt8.toNat_inj.1 (by show b.toNat=0;omega))
  have hn1:((b.toNat:Int)==0)=false:=by
   rw [beq_eq_false_iff_ne];intro e
   exact h0 (UInt8.toNat_inj.1 (by show b.toNat=0;omega))
  have hen:=henc.out b
  have hel:Hid ((Utf8.encode (b.toNat:Int)).toList=[b]):=H0 (by rw [ByteArray.toList_eq];exact h2)
  obtain ⟨t,ht⟩:=N2 (Utf8.encode (b.toNat:Int));rw [ht] at hen hel;replace ht:=H0 ht;have b0:=AC b;have b1:=AK b;replace h0:=H0 h0;clear h1 h2 hw;go_wp2_with fail;go_ret2
  exact ⟨t,by rw [hv.out];rfl,H0 (by rw [hv.out];exact hel.out),hb⟩
def Ma:Array Value:= #[.int .i64 8364,.int .i64 129,.int .i64 8218,.int .i64 402,.int .i64 8222,.int .i64 8230,.int .i64 8224,.int .i64 8225,.int .i64 710,.int .i64 8240,.int .i64 352,.int .i64 8249,.int .i64 338,.int .i64 141,.int .i64 381,.int .i64 143,.int .i64 144,.int .i64 8216,.int .i64 8217,.int .i64 8220,.int .i64 8221,.int .i64 8226,.int .i64 8211,.int .i64 8212,.int .i64 732,.int .i64 8482,.int .i64 353,.int .i64 8250,.int .i64 339,.int .i64 157,.int .i64 382,.int .i64 376]
theorem U5:(Tryz.prog.info? 241).map (·.size)=some 32:=by kernel_rfl
theorem XU:∀ k:Fin 32,Ma[k.val]? =some (.int .i64 ((UP.getD k.val 0:Nat):Int)):=by
 intro k
 match k with
 | ⟨0,_⟩=>rfl
 | ⟨1,_⟩=>rfl
 | ⟨2,_⟩=>rfl
 | ⟨3,_⟩=>rfl
 | ⟨4,_⟩=>rfl
 | ⟨5,_⟩=>rfl
 | ⟨6,_⟩=>rfl
 | ⟨7,_⟩=>rfl
 | ⟨8,_⟩=>rfl
 | ⟨9,_⟩=>rfl
 | ⟨10,_⟩=>rfl
 | ⟨11,_⟩=>rfl
 | ⟨12,_⟩=>rfl
 | ⟨13,_⟩=>rfl
 | ⟨14,_⟩=>rfl
 | ⟨15,_⟩=>rfl
 | ⟨16,_⟩=>rfl
 | ⟨17,_⟩=>rfl
 | ⟨18,_⟩=>rfl
 | ⟨19,_⟩=>rfl
 | ⟨20,_⟩=>rfl
 | ⟨21,_⟩=>rfl
 | ⟨22,_⟩=>rfl
 | ⟨23,_⟩=>rfl
 | ⟨24,_⟩=>rfl
 | ⟨25,_⟩=>rfl
 | ⟨26,_⟩=>rfl
 | ⟨27,_⟩=>rfl
 | ⟨28,_⟩=>rfl
 | ⟨29,_⟩=>rfl
 | ⟨30,_⟩=>rfl
 | ⟨31,_⟩=>rfl
 | ⟨n+32,h⟩=>omega
theorem AaO (n:Nat) (w:World):Calls Tryz.prog 287 #[.int .i64 (n:Int)] w fun e w'=>e= .returned (.int .i64 (FS n:Int))/\Below w.heap.size w w':=by
 have hbw:Below w.heap.size w (w.alloc (.cells Ma 241)):=(Below.refl _ _).alloc (Nat.le_refl _) _
 by_cases h:128<=n/\n<=159
 ·obtain ⟨k,rfl⟩:∃ k,n=128+k:=⟨n - 128,by omega⟩
  have hk:k<32:=by omega
  have hv:Hid (FS (128+k)=UP.getD k 0):=H0 (by unfold FS;rw [if_pos h,Nat.add_sub_cancel_left])
  have hat:=XU ⟨k,hk⟩;dsimp only at hat;obtain ⟨v,hve⟩:=N2 (UP.getD k 0);rw [hve] at hv hat;replace hve:=H0 hve
  have h1:(128:Int)<=((128+k:Nat):Int):=by omega
  have h2:((128+k:Nat):Int)<=159:=by omega
  have h3:((128+k:Nat):Int) - 128=(k:Int):=by omega
  have hc:(w.alloc (.cells Ma 241)).cell? ⟨w.heap.size,k,none⟩=some (.int .i64 (v:Int)):=(World.cell?_alloc_at _ _ _ _ rfl).trans hat
  have hkI:(k:Int)<32:=by omega
  obtain ⟨z,hz⟩:∃ z:Int,((128+k:Nat):Int)=z:=⟨_,rfl⟩;rw [hz] at h1 h2 h3⊢;clear h hat;replace hz:=H0 hz;go_enter Tryz.func287,Tryz.ntmps287
  go_wp2_with (refine Ag rfl 241 _ _ rfl rfl Ma _ _ _ rfl (by simp) rfl U5 rfl (by kernel_rfl) ?_)
  go_ret
  exact ⟨by rw [hv.out];rfl,hbw⟩
 ·have hv:Hid (FS n=n):=H0 (by unfold FS;rw [if_neg h])
  have hway:((n:Int)<128)\/((128:Int)<=(n:Int)/\(159:Int)<(n:Int)):=by omega
  clear h
  rcases hway with q1 | ⟨q1,q2⟩
  all_goals
   go_enter Tryz.func287,Tryz.ntmps287
   go_wp2_with (refine Ag rfl 241 _ _ rfl rfl Ma _ _ _ rfl (by simp) rfl U5 rfl (by kernel_rfl) ?_)
   go_ret
   exact ⟨by rw [hv.out];rfl,hbw⟩
theorem RK {o:Option (List UInt8)} {w w':World} {l:List UInt8} {t:ByteArray} (h:o=some l) (ht:t.toList=l) (hb:Below w.heap.size w w'):Uo o w (.returned (.tuple #[.string t,.bool true])) w':=by
 subst h;exact ⟨_,rfl,H0 ht,hb⟩
theorem AcQ {w:World} {B:Nat} {E:TypeId} {v:Value} {l:List UInt8} (h:CA w B E v l):(∃ a c,v= .slice a l.length c)/\∀ g n k,v= .slice (some ⟨g,0,none⟩) n k->g<w.heap.size:=by
 rcases h.2 with ⟨rfl,hn⟩ | ⟨g,cap,cur,rfl,hg,hh,_⟩
 ·exact ⟨⟨none,0,by rw [hn]⟩,fun g n k e=>by cases e⟩
 ·exact ⟨⟨_,_,rfl⟩,fun g' n k e=>by cases e;exact (Array.getElem?_eq_some_iff.1 hh).1⟩
theorem Uu (pa:Option Addr) (n c:Nat) (l:List Nat) (w:World) (h:Vq w pa n c l) (hn:n<=1000000000):Calls Tryz.prog 354 #[.slice pa n c] w (Uo (Li l) w):=by
 have hln:=h.len;have hread:=H0 h;clear h;obtain ⟨R,hR⟩:=N2 (Li l);rw [hR]
 by_cases h255:255<n
 ·have hI:(255:Int)<(n:Int):=by omega
  have hfin:Hid (R=none):=H0 (by rw [<-hR];unfold Li;rw [if_pos (by omega)])
  replace hR:=H0 hR;replace hln:=H0 hln;go_enter Tryz.func354,Tryz.ntmps354;go_wp2_with fail;go_ret2;exact Fm hfin.out (Below.refl _ _)
 have hI255:(n:Int)<=255:=by omega
 have hR2:Hid (R=if l.all Bd=true then some (Fh l (l.length+1) 128 (EU l)).out else none):=H0 (by rw [<-hR];unfold Li;rw [if_neg (by omega)])
 replace hR:=H0 hR;replace hln:=H0 hln;go_enter Tryz.func354,Tryz.ntmps354;go_wp2_with fail
 go_loopw [4,20] (fun v4 v20 wr=>∃ k:Nat,v20= .int .i64 k/\k<=n/\CA wr w.heap.size 5 v4 (BS (l.take k))/\Below w.heap.size w wr/\Hid ((l.take k).all Bd=true)) (fun _ v20 _=>n - (intOf v20).toNat)
 case atStart=>exact ⟨0,rfl,Nat.zero_le _,CA.nil _ _ _,Below.refl _ _,H0 rfl⟩
 case round=>
  obtain ⟨k,rfl,hk,hown,hbel,hall⟩:=hrel;have hszw:=hbel.size
  by_cases hlt:k<n
  ·have hI:(k:Int)<(n:Int):=by omega
   have hr:=hread.out.below hbel (Nat.le_refl _)
   obtain ⟨g,o,rfl,hc⟩:=hr.cells (by omega)
   have hkl:k<l.length:=by have:=hln.out;omega
   have ck:=hc k hkl;unfold F3 at ck;have hbs:=UT l k hkl;have has:=H0 (TE hkl hall.out);have hno:=H0 (X3 hkl)
   have hbl:(BS (l.take k)).length<=k:=by
    rw [Ev];have:=L2 128 (l.take k);rw [List.length_take] at this;omega
   obtain ⟨x,hx⟩:=N2 (l[k]);rw [hx] at ck hbs has hno
   have hsg:=H0 (fun w=>KV x w)
   replace hc:=H0 hc;replace hx:=H0 hx;clear hr;obtain ⟨sb,hsb⟩:∃ b,Bd x=b:=⟨_,rfl⟩;rw [hsb] at hsg;cases sb
   ·have hfin:Hid (R=none):=H0 (by rw [hR2.out,hno.out hsb];rfl)
    replace hsb:=H0 hsb;replace hbs:=H0 hbs;go_wp2_with fail;refine (hsg.out _).mono ?_;rintro e w1 ⟨rfl,rfl⟩;go_wp2_with fail;go_ret2;exact Fm hfin.out hbel
   ·have hnew:=H0 (has.out hsb);replace hsb:=H0 hsb
    by_cases hx128:x<128
    ·have hxI:(x:Int)<128:=by omega
     have hx0:(0:Int)<=(x:Int):=by omega
     have hxu:(x:Int)=(((UInt8.ofNat x).toNat:Nat):Int):=by
      have:(UInt8.ofNat x).toNat=x:=by simp;omega
      rw [this]
     rw [if_pos hx128] at hbs;replace hbs:=H0 hbs;replace hxu:=H0 hxu
     have hwr:IntKind.u8.wrap (x:Int)=(x:Int):=by rw [IntKind.wrap_u8];omega
     go_wp2_with fail;refine (hsg.out _).mono ?_;rintro e w1 ⟨rfl,rfl⟩
     go_wp2_with (at_builtin;refine A8 ty8 rfl _ _ rfl (UInt8.ofNat x) rfl rfl hown hbel hszw hxu.out (by unfold maxLen;omega) (by omega) ?_;intro v' w' ho' hb' _)
     go_roundw
     case rel=>exact ⟨k+1,by go_num,by omega,by rw [hbs.out];exact ho',hb',hnew⟩
     case measure=>simp [intOf];omega
    ·have hxI:(128:Int)<=(x:Int):=by omega
     rw [if_neg hx128,List.append_nil] at hbs;replace hbs:=H0 hbs;go_wp2_with fail;refine (hsg.out _).mono ?_;rintro e w1 ⟨rfl,rfl⟩;go_wp2_with fail;go_roundw
     case rel=>exact ⟨k+1,by go_num,by omega,by rw [hbs.out];exact hown,hbel,hnew⟩
     case measure=>simp [intOf];omega
  ·have hI:(n:Int)<=(k:Int):=by omega
   have htk:l.take k=l:=List.take_of_length_le (by have:=hln.out;omega)
   rw [htk] at hown hall
   have hR3:Hid (R=some (Fh l (l.length+1) 128 (EU l)).out):=H0 (by rw [hR2.out,if_pos hall.out])
   clear hR2;have hbl:=L2 128 l;rw [<-Ev,hln.out] at hbl;obtain ⟨N0,hN0⟩:∃ N,(BS l).length=N:=⟨_,rfl⟩
   have hN0b:Hid (N0=PT 128 l):=H0 (by rw [<-hN0,Ev])
   obtain ⟨⟨a4,c4,rfl⟩,hlt4⟩:=AcQ hown;rw [hN0] at hown⊢;replace hlt4:=H0 hlt4
   have hst0:Hid ((EU l).out=if N0=0 then [] else BS l++[45]):=H0 (by
    unfold EU;dsimp only
    by_cases h0:N0=0
    ·rw [if_pos h0,if_pos (List.length_eq_zero_iff.1 (by omega))]
    ·rw [if_neg h0,if_neg (fun e=>h0 (by rw [<-hN0,e];rfl))])
   have hst1:Hid ((EU l).done=N0):=H0 hN0;rw [hN0] at hbl
   go_upto_if 38 with (fail)
   go_cut [4] (fun s4 wx=>CA wx w.heap.size 5 s4 (EU l).out/\Below w.heap.size w wx)
   case first=>as_aux_lemma=>
    by_cases h0:N0=0
    ·have hdz:¬ 0<N0:=by omega
     rw [if_pos h0] at hst0
     have hown2:CA wr w.heap.size 5 (.slice a4 N0 c4) []:=by
      rw [List.length_eq_zero_iff.1 (hN0.trans h0)] at hown;exact hown
     replace h0:=H0 h0;replace hN0:=H0 hN0;go_wp2_with fail;go_meet
     exact ⟨by rw [hst0.out];exact hown2,hbel⟩
    ·have hdz:0<N0:=by omega
     rw [if_neg h0] at hst0;replace h0:=H0 h0
     have hl1:(BS l).length+1<=1000:=by omega
     replace hN0:=H0 hN0
     go_wp2_with (at_builtin;refine A8 ty8 rfl _ _ rfl 45 rfl rfl hown hbel hszw rfl (by unfold maxLen;omega) (by omega) ?_;intro v' w' ho' hb' _)
     go_meet
     exact ⟨by rw [hst0.out];exact ho',hb'⟩
   case rest=>
    obtain ⟨hown1,hbel1⟩:=hcut;have hnl:n=l.length:=hln.out.symm;have hNl:N0<=n:=hbl;clear hown hbel hszw hlt4 hst0 hst1 hlt hI htk;replace hN0:=H0 hN0;clear hN0
    have hE0:(EU l).out.length<=256+40 * N0:=by
     have:=Ev l;rw [<-hN0b.out] at this;unfold EU;dsimp only;split
     ·simp
     ·rw [List.length_append,this,List.length_singleton];omega
    have hdone0:(EU l).done=N0:=by rw [hN0b.out,<-Ev];rfl
    go_wp2_with fail
    go_loopw [4,7,8,9,10,11] (fun v4 v7 v8 v9 v10 v11 wr=>∃ (f sg:Nat) (st:CM),CA wr w.heap.size 5 v4 st.out/\v7= .int .i64 (st.done:Int)/\v8= .int .i64 (st.d:Int)/\v9= .int .i64 (sg:Int)/\v10= .int .i64 (st.bias:Int)/\v11= .bool st.first/\Below w.heap.size w wr/\n<st.done+f/\Hid (st.done=PT sg l)/\st.done<=n/\st.d<=257/\st.bias<=756/\st.out.length<=256+40 * st.done/\sg<=1114112/\Hid (R=some (Fh l f sg st).out)) (fun _ v7 _ _ _ _ _=>n - (intOf v7).toNat)
    case atStart=>exact ⟨n+1,128,EU l,hown1,by rw [hdone0],rfl,rfl,rfl,rfl,hbel1,by omega,H0 (by rw [hdone0];exact hN0b.out),by omega,Nat.zero_le _,by show 72<=756;decide,by rw [hdone0];exact hE0,by omega,by rw [hnl];exact hR3⟩
    case round=>
     clear hown1 hbel1 hE0 hdone0 hR3 hN0b hNl hbl;obtain ⟨f,sg,⟨d0,dn0,b0,f0,o0⟩,hown,rfl,rfl,rfl,rfl,rfl,hbel,hfu,hcnt,hdnn,hd257,hb756,hol,hsgl,hres⟩:=hrel;dsimp only at hown hfu hcnt hdnn hd257 hb756 hol hres⊢;have hszw:=hbel.size
     by_cases hlt:dn0<n
     ·have hI:(dn0:Int)<(n:Int):=by omega
      obtain ⟨m,hml,hmi,hsm,hnx⟩:=AbB (sg:=sg) (l:=l) (by rw [<-hcnt.out];omega)
      obtain ⟨f,rfl⟩:∃ g,f=g+1:=⟨f - 1,by omega⟩
      have hm11:m<=1114111:=Qu (List.all_eq_true.1 hall.out m hml)
      have hstep:=W5 (f:=f) (st:=⟨d0,dn0,b0,f0,o0⟩) (show (⟨d0,dn0,b0,f0,o0⟩:CM).done<l.length by show dn0<l.length;omega) hmi
      have hls:=H0 (fun w h=>Zt pa n c l sg w h hn)
      rw [hmi] at hls;obtain ⟨e,he⟩:=N2 (m - sg);obtain ⟨p,hp⟩:=N2 (e * (dn0+1))
      have heI:(m:Int) - (sg:Int)=(e:Int):=by omega
      have hpI:(e:Int) * ((dn0:Int)+1)=(p:Int):=by rw [<-hp];simp
      have hpl:p<=284098305:=by rw [<-hp];exact Nat.le_trans (Nat.mul_le_mul (show e<=1114111 by omega) (show dn0+1<=255 by omega)) (by decide)
      obtain ⟨q,hq⟩:=N2 (d0+p)
      have hqI:(d0:Int)+(p:Int)=(q:Int):=by omega
      have hmid:KY l sg m ⟨d0,dn0,b0,f0,o0⟩=⟨q,dn0,b0,f0,o0⟩:=by
       unfold KY;dsimp only;rw [he,hp,hq]
      rw [hmid] at hstep;have hres2:=hres.out;rw [hstep] at hres2;have hfd:=F5 m l ⟨q,dn0,b0,f0,o0⟩;have hfdd:=(Sf m l ⟨q,dn0,b0,f0,o0⟩).2 hml;have hcm:0<l.count m:=List.count_pos_iff.2 hml;have hbs:=Rg hnx hsm;have hB0:Vh q dn0 0 ⟨q,dn0,b0,f0,o0⟩:=⟨Nat.le_refl _,Nat.le_refl _,Nat.le_refl _,hb756,hol⟩
      have hBk:=H0 (fun k hk=>Se (m:=m) (l:=l) hB0 k hk (by omega))
      clear hstep hmid hB0
      have hsn:=H0 (fun k h=>Lx m l k ⟨q,dn0,b0,f0,o0⟩ h)
      have hfull:Hid (l.take n=l):=H0 (by rw [hnl];exact List.take_length)
      have e0:(0:Int)<=(e:Int):=by omega
      have e1:(e:Int)<=1114111:=by omega
      have p0:(0:Int)<=(p:Int):=by omega
      have p1:(p:Int)<=284098305:=by omega
      have q0:(0:Int)<=(q:Int):=by omega
      have q1:(q:Int)<=284098562:=by omega
      have m0:(0:Int)<=(m:Int):=by omega
      have m1:(m:Int)<=1114111:=by omega
      have s0:(0:Int)<=(sg:Int):=by omega
      have s1:(sg:Int)<=1114112:=by omega
      have d00:(0:Int)<=(d0:Int):=by omega
      have d01:(d0:Int)<=257:=by omega
      replace hres2:=H0 hres2;replace hfd:=H0 hfd;replace hfdd:=H0 hfdd;replace hcm:=H0 hcm;replace hbs:=H0 hbs;replace hmi:=H0 hmi;replace he:=H0 he;replace hp:=H0 hp;replace hq:=H0 hq;replace hnl:=H0 hnl;replace hml:=H0 hml;replace hnx:=H0 hnx;replace hsm:=H0 hsm;go_wp2_with fail;refine (hls.out _ (hread.out.below hbel (Nat.le_refl _))).mono ?_;rintro e' w1 ⟨rfl,rfl⟩;go_wp2_with fail
      go_loopw [4,7,8,10,11,60] (fun v4 v7 v8 v10 v11 v60 wr=>∃ (k:Nat) (st:CM),CA wr w.heap.size 5 v4 st.out/\v7= .int .i64 (st.done:Int)/\v8= .int .i64 (st.d:Int)/\v10= .int .i64 (st.bias:Int)/\v11= .bool st.first/\v60= .int .i64 (k:Int)/\k<=n/\Below w.heap.size w wr/\Hid ((l.take k).foldl (AX m) ⟨q,dn0,b0,f0,o0⟩=st)) (fun _ _ _ _ _ v60 _=>n - (intOf v60).toNat)
      case atStart=>exact ⟨0,⟨q,dn0,b0,f0,o0⟩,hown,rfl,by first | rfl | (congr 1<;>omega),rfl,rfl,rfl,Nat.zero_le _,hbel,H0 rfl⟩
      case round=>
       clear hown hbel hszw;obtain ⟨k,⟨d1,dn1,b1,f1,o1⟩,hown,rfl,rfl,rfl,rfl,rfl,hk,hbel,hst⟩:=hrel;dsimp only at hown hst⊢;have hszw:=hbel.size
       have hBB:=hBk.out k (by rw [<-hnl.out];exact hk)
       rw [hst.out] at hBB;obtain ⟨B1,B2,B3,B4,B5⟩:=hBB;dsimp only at B1 B2 B3 B4 B5
       have D0:(0:Int)<=(d1:Int):=by omega
       have D1:(d1:Int)<=284098820:=by omega
       have N0':(0:Int)<=(dn1:Int):=by omega
       have N1:(dn1:Int)<=1000:=by omega
       by_cases hkn:k<n
       ·have hkI:(k:Int)<(n:Int):=by omega
        have hkl:k<l.length:=by rw [<-hnl.out];exact hkn
        have hr:=hread.out.below hbel (Nat.le_refl _)
        obtain ⟨g,o,rfl,hc⟩:=hr.cells (by omega)
        have ck:=hc k hkl;unfold F3 at ck;have hs1:=hsn.out k hkl;rw [hst.out] at hs1;obtain ⟨x,hx⟩:=N2 (l[k]);rw [hx] at ck hs1;replace hx:=H0 hx;replace hc:=H0 hc;clear hr;have hrd2:=hread;unfold AX at hs1;dsimp only at hs1
        by_cases hxm:x=m
        ·subst hxm;rw [if_pos rfl] at hs1
         have hwp:=H0 (Xc _ w.heap.size d1 b1 o1 _ hown hszw (by omega) (by omega) (by omega))
         have hnb:=H0 (fun w=>Iw d1 (dn1+1) f1 w (by omega) (by omega) (by omega))
         rw [show ((dn1+1:Nat):Int)=(dn1:Int)+1 from by omega] at hnb
         obtain ⟨nb,hnbe⟩:∃ b,EO d1 (dn1+1) f1=b:=⟨_,rfl⟩;rw [hnbe] at hs1 hnb;replace hnbe:=H0 hnbe;replace hs1:=H0 hs1;go_wp2_with fail;refine hwp.out.mono ?_;rintro e' w2 ⟨v2,rfl,ho2,hb2⟩;have hb3:=hbel.trans hb2;go_wp2_with fail;refine (hnb.out _).mono ?_;rintro e' w3 ⟨rfl,rfl⟩;go_wp2_with fail;go_roundw
         case rel=>exact ⟨k+1,⟨0,dn1+1,nb,false,o1++RH d1 b1⟩,ho2,by first | rfl | (congr 1<;>omega),rfl,rfl,rfl,by go_num,by omega,hb3,hs1⟩
         case measure=>simp [intOf];omega
        ·rw [if_neg hxm] at hs1
         have hne:((x:Int)==(m:Int))=false:=by rw [beq_eq_false_iff_ne];omega
         by_cases hxlt:x<m
         ·have hxI:(x:Int)<(m:Int):=by omega
          rw [if_pos hxlt] at hs1;replace hs1:=H0 hs1;replace hxm:=H0 hxm;go_wp2_with fail;go_roundw
          case rel=>exact ⟨k+1,⟨d1+1,dn1,b1,f1,o1⟩,hown,rfl,by first | rfl | (congr 1<;>omega),rfl,rfl,by go_num,by omega,hbel,hs1⟩
          case measure=>simp [intOf];omega
         ·have hxI:(m:Int)<=(x:Int):=by omega
          rw [if_neg hxlt] at hs1;replace hs1:=H0 hs1;replace hxm:=H0 hxm;go_wp2_with fail;go_roundw
          case rel=>exact ⟨k+1,⟨d1,dn1,b1,f1,o1⟩,hown,rfl,rfl,rfl,rfl,by go_num,by omega,hbel,hs1⟩
          case measure=>simp [intOf];omega
       ·have hkI:(n:Int)<=(k:Int):=by omega
        have hkn2:k=n:=by omega
        have hst2:=hst.out;rw [hkn2,hfull.out] at hst2;have hfd2:=hfd.out;have hfdd2:=hfdd.out;have hres3:=hres2.out;rw [hst2] at hfd2 hfdd2 hres3;dsimp only at hfd2 hfdd2 hres3;have hbs2:=hbs.out;rw [<-hcnt.out,<-hfd2] at hbs2;have hcm2:=hcm.out;have hle:=L2 (m+1) l;rw [hbs2] at hle;have hll:=hnl.out
        have hd256:d1<=255:=by omega
        have hdn1:dn1<=n:=by omega
        have hdng:dn0<dn1:=by omega
        replace hbs2:=H0 hbs2.symm;replace hres3:=H0 hres3;replace hfd2:=H0 hfd2;replace hfdd2:=H0 hfdd2;replace hst2:=H0 hst2;replace hcm2:=H0 hcm2;replace hll:=H0 hll;replace hkn2:=H0 hkn2;go_wp2_with fail;go_roundw
        case rel=>exact ⟨f,m+1,⟨d1+1,dn1,b1,f1,o1⟩,hown,rfl,by first | rfl | (congr 1<;>omega),by first | rfl | (congr 1<;>omega),rfl,rfl,hbel,by show n<dn1+f;omega,hbs2,hdn1,by show d1+1<=257;omega,B4,B5,by omega,hres3⟩
        case measure=>simp [intOf];omega
     ·have hI:(n:Int)<=(dn0:Int):=by omega
      have hfin:Hid (R=some o0):=H0 (by
       rw [hres.out,Abj (by show ¬ dn0<l.length;omega)])
      have hcv:=Hu (P:=Tryz.prog) (S:=9) Tryz.underlying25 Tryz.underlying5 Tryz.underlying9 hown;go_wp2_with fail;go_ret2;exact RK hfin.out (toList_mk _) hbel
def Kx (w:World) (B b:Nat) (l:List UInt8):Prop:=Lib.IsBuilder 76 5 B b (Lib.byteCells l) w
theorem Zb:(Tryz.prog.info? 76).map (·.size)=some 2:=by kernel_rfl
theorem Y2:liesAt Tryz.prog Tryz.prog.depth 76 (2 / Tryz.prog.cellsOf 76) 0 76 1=true:=by kernel_rfl
theorem Hg (B b:Nat) (l:List UInt8) (w:World) (h:Kx w B b l):
  Calls Tryz.prog 91 #[.pointer (some ⟨b,0,none⟩)] w fun e w'=>e= .returned (.tuple #[])/\(Lib.BuilderAt 76 5 B b (.pointer (some ⟨b,0,none⟩)) (Lib.byteCells l) w'/\Below B w w'):=by
 obtain ⟨j,hj,hjs⟩:=Option.map_eq_some_iff.1 Zb
 rcases h with h | h
 ·have c0:=h.cell0;have sh:=h.shape;have fz:=h.frozen0
  have k1:=Lib.run_to_unsafe (P:=Tryz.prog) w ⟨b,0,none⟩ Tryz.underlying74 Tryz.underlying158 hj (by rw [hjs];decide) sh (Nat.zero_lt_succ 1)
  have k2:=fun w=>run_callFunc_extern (P:=Tryz.prog) (w:=w) (args:= #[.pointer (some ⟨b,0,none⟩)]) Tryz.func158 (by kernel_rfl) (by kernel_rfl) (by kernel_rfl) (e:=Extern.AbiNoEscape.same) (by kernel_rfl)
  have k3:=Lib.run_from_unsafe (P:=Tryz.prog) w ⟨b,0,none⟩ Tryz.underlying158 Tryz.underlying74 hj sh Y2;have k4:=Lib.run_noEscape (P:=Tryz.prog) w (.pointer (some ⟨b,0,none⟩));go_enter Tryz.func91,Tryz.ntmps91;go_wp2;go_end0;exact ⟨rfl,h.used _,(Below.refl B w).setCell (p:=⟨b,0,none⟩) h.1 _⟩
 ·have c0:=h.cell0;have k1:=Lib.run_neq_ptr_same (P:=Tryz.prog) w ⟨b,0,none⟩ Tryz.underlying74 hj;go_enter Tryz.func91,Tryz.ntmps91;go_wp2;go_end0;exact ⟨rfl,h,Below.refl B _⟩
theorem J4:(Tryz.prog.info? 5).map (fun i=>(i.zero,i.size,i.bytes))=some (some (.int .u8 0),1,1):=by kernel_rfl
theorem EI {w:World} {B:Nat} {e:TypeId} {v:Value} {n:Nat} {xs:List Value} (h:w.ownsRow B e 1 v n xs):∃ a k c,v= .slice a k c:=by
 rcases h.2 with ⟨hv,_⟩ | ⟨g,cap,cur,hv,_⟩
 ·exact ⟨_,_,_,hv⟩
 ·exact ⟨_,_,_,hv⟩
theorem Gi {w:World} {b:Nat} {p v:Value} {T:TypeId} (h:w.heap[b]? =some (.cells #[p,v] T (0,0))):w.cell? ⟨b,1,none⟩=some v/\w.frozen? ⟨b,1,none⟩=false:=
 ⟨by rw [Lib.cell_of_heap h];rfl,Lib.frozen_of_heap h 1⟩
theorem Sd:(76:TypeId)≠5:=by decide
theorem Cu {w:World} {b:Nat} {o:Obj} (h:w.heap[b]? =some o):b<w.heap.size:=(Array.getElem?_eq_some_iff.1 h).1
theorem Cj (l m:List UInt8):Lib.byteCells (l++m)=Lib.byteCells l++Lib.byteCells m:=by simp [Lib.byteCells]
theorem Jp (s:ByteArray):Lib.strCells s=Lib.byteCells s.toList:=by simp [Lib.strCells,Lib.byteCells,ByteArray.toList_eq]
theorem BE (B b:Nat) (l:List UInt8) (c:UInt8) (ci:Int) (hci:ci=(c.toNat:Int)) (w:World) (h:Kx w B b l) (hl:l.length<=1099511627776) (hB:B<=w.heap.size):
  Calls Tryz.prog 41 #[.pointer (some ⟨b,0,none⟩),.int .u8 ci] w fun e w'=>e= .returned .nilIface/\Kx w' B b (l++[c])/\Below B w w':=by
 subst hci;obtain ⟨i0,hi,hz0,hz1,hz2⟩:=info_parts J4;go_enter Tryz.func41,Tryz.ntmps41;go_wp2_with fail;refine (Hg B b l _ h).mono ?_;rintro e w1 ⟨rfl,⟨hBb,v,hblk,hown,hne⟩,hb⟩;have hs:=hb.size;have hlt:=Cu hblk
 have c1:w1.cell? ⟨b,1,none⟩=some v:=by rw [Lib.cell_of_heap hblk];rfl
 rw [Lib.byteCells_length] at hown
 go_wp2_with (at_builtin;refine wpList_append_own _ rfl _ _ 25 rfl B 5 i0 (.int .u8 0) 1 1 Tryz.underlying25 hi hz0 hz1 hz2 rfl (by decide) _ _ _ rfl (hown.alloc _) ⟨w1.heap.size,0,none⟩ 1 1 [.int .u8 (c.toNat:Int)] rfl rfl (Pn w1 _ _) (by intro u hu;simp at hu;subst hu;rfl) (by unfold maxLen;omega) (by omega) (by simp;omega) ?_;intro v' w2 hown' hgrow _;obtain ⟨a2,k2,c2,rfl⟩:=EI hown';have hblk2:=(hgrow.block b (by simp;omega) (fun e=>hne e.symm)).trans ((Lib.alloc_old w1 _ b hlt).trans hblk);obtain ⟨d1,f1⟩:=Gi hblk2)
 go_wp2_with fail;go_ret;refine ⟨rfl,Or.inr ?_,?_⟩
 ·exact Lib.BuilderAt.put hBb hblk2 (by rw [Cj,List.length_append,Lib.byteCells_length];exact hown') Sd
 ·exact ((hb.alloc (by omega) _).grown hgrow (by simp;omega) (fun k hk=>(hown.lt k hk).1)).setCell (p:=⟨b,1,none⟩) hBb _
theorem AL (B b:Nat) (l:List UInt8) (s:ByteArray) (w:World) (h:Kx w B b l) (hl:l.length<=1099511627776) (hsz:s.size<=1099511627776) (hB:B<=w.heap.size):
  Calls Tryz.prog 40 #[.pointer (some ⟨b,0,none⟩),.string s] w fun e w'=>e= .returned (.tuple #[.int .i64 s.size,.nilIface])/\Kx w' B b (l++s.toList)/\Below B w w':=by
 obtain ⟨i0,hi,hz0,hz1,hz2⟩:=info_parts J4;go_enter Tryz.func40,Tryz.ntmps40;go_wp2_with fail;refine (Hg B b l _ h).mono ?_;rintro e w1 ⟨rfl,⟨hBb,v,hblk,hown,hne⟩,hb⟩;have hs:=hb.size;have hlt:=Cu hblk
 have c1:w1.cell? ⟨b,1,none⟩=some v:=by rw [Lib.cell_of_heap hblk];rfl
 rw [Lib.byteCells_length] at hown
 go_wp2_with (at_builtin;refine Lib.wpList_append_own_string _ rfl _ _ 25 9 rfl B 5 i0 Tryz.underlying25 Tryz.underlying9 hi hz0 hz1 hz2 _ _ _ rfl hown s rfl (by unfold maxLen;omega) (by omega) (by omega) ?_;intro v' w2 hown' hgrow _;obtain ⟨a2,k2,c2,rfl⟩:=EI hown';have hblk2:=(hgrow.block b hlt (fun e=>hne e.symm)).trans hblk;obtain ⟨d1,f1⟩:=Gi hblk2)
 go_wp2_with fail;go_ret2;refine ⟨rfl,Or.inr ?_,?_⟩
 ·exact Lib.BuilderAt.put hBb hblk2 (by rw [Cj,List.length_append,Lib.byteCells_length,Lib.byteCells_length,<-Jp,Aa];exact hown') Sd
 ·exact (hb.grown hgrow (by omega) (fun k hk=>(hown.lt k hk).1)).setCell (p:=⟨b,1,none⟩) hBb _
theorem Bf (B b:Nat) (l:List UInt8) (w:World) (h:Kx w B b l) (hB:B<=w.heap.size):
  Calls Tryz.prog 42 #[.pointer (some ⟨b,0,none⟩)] w fun e w'=>∃ t:ByteArray,e= .returned (.string t)/\Hid (t.toList=l)/\Below B w w':=
 (Tryz.Builder_String_any B b l w h hB).mono fun e w' ⟨he,hb⟩=>⟨_,he,toList_mk l,hb⟩
theorem Kx.keep {w w':World} {B b:Nat} {l:List UInt8} (h:Kx w B b l) (hb:Below w.heap.size w w'):Kx w' B b l:=by
 have key:∀ p,Lib.BuilderAt 76 5 B b p (Lib.byteCells l) w->Lib.BuilderAt 76 5 B b p (Lib.byteCells l) w':=by
  rintro p ⟨hB,v,hblk,hown,hne⟩
  exact ⟨hB,v,by rw [hb.block b (Cu hblk)];exact hblk,Bp hown hb (Nat.le_refl _),hne⟩
 rcases h with h | h
 ·exact .inl (key _ h)
 ·exact .inr (key _ h)
theorem Kx.fresh (w:World):Kx (w.alloc (.cells #[.pointer none,.slice none 0 0] 76)) w.heap.size w.heap.size []:=Lib.fresh_isBuilder _ _ w
end Go.Proofs.YtonomfeipkdmhaaGreatDoor
