/- Part 4: lemmas. -/
import Derived.Test.YtonomfeipkdmhaaGreatDoorK03
import Derived.Deep.Cut
import Derived.Deep.CutRange
import Derived.Laws.BitsLemmas
import Derived.Lib.Builder
import Derived.Lib.ItoaNum
import Derived.Lib.LaidTab
set_option linter.unusedVariables false
set_option linter.unusedSimpArgs false
set_option maxRecDepth 100000
set_option maxHeartbeats 16000000
namespace Go.Proofs.YtonomfeipkdmhaaGreatDoor
open Go.RowKit
def Ij (w:World):Prop:=Lib.TabIs Tryz.prog w "internal/strconv.uint64pow10" .u64 Lib.pow10Tab∧w.cell? ⟨5,15,none⟩=some (.int .u8 4)
theorem U3:Tryz.prog.globalNamed "internal/strconv.uint64pow10" =some 3:=by kernel_rfl
theorem Ij.next {w w':World} (h:Ij w) (hb:Below w.heap.size w w'):Ij w':=by
 refine ⟨?_,(hb.cell (World.block_lt_of_cell? w _ h.2)).trans h.2⟩;have h1:=h.1;unfold Lib.TabIs World.var? at h1⊢;rw [U3] at h1⊢;simp only [Option.bind_some] at h1⊢
 have hlt:3<w.heap.size:=by
  rcases Nat.lt_or_ge 3 w.heap.size with h' | h'
  ·exact h'
  ·rw [Array.getElem?_eq_none h'] at h1;cases h1
 rw [hb.block _ hlt];exact h1
theorem Ij.alloc {w:World} (h:Ij w) (o:Obj):Ij (w.alloc o):=h.next ((Below.refl _ _).alloc (Nat.le_refl _) o)
theorem GG {w:World} {B:Nat} {E:TypeId} {v:Value} {l:List UInt8}:CA w B E v l↔w.ownsRow B E 1 v l.length (Lib.byteCells l):=by
 have:l.map DC=Lib.byteCells l:=rfl;unfold CA;rw [this]
def U64 (u:Nat):Prop:=u<18446744073709551616
theorem LA (B u:Nat) (ui:Int) (hui:ui=(u:Int)) (hu:U64 u) (v:Value) (l:List UInt8) (w:World) (h:CA w B 5 v l) (ht:Ij w) (hB:B<=w.heap.size) (hl:l.length<=1099511627776):
  Calls Tryz.prog 222 #[v,.int .u64 ui,.int .i64 10] w fun e w'=>∃ v',e= .returned v'/\CA w' B 5 v' (l++Lib.decDigits u)/\Below B w w':=by
 subst hui
 refine (Tryz.internal_strconv_AppendUint_10 B l.length u hu v (Lib.byteCells l) w (GG.1 h) hB (by omega) ht.1).mono ?_
 rintro e w' ⟨v',rfl,ho,hb,_⟩;refine ⟨v',rfl,GG.2 ?_,hb⟩;rw [List.length_append]
 have:Lib.byteCells (l++Lib.decDigits u)=Lib.byteCells l++Lib.byteCells (Lib.decDigits u):=by simp [Lib.byteCells]
 rw [this];exact ho
theorem DV (B u:Nat) (ui:Int) (hui:ui=(u:Int)) (hu:U64 u) (v:Value) (l:List UInt8) (w:World) (h:CA w B 5 v l) (ht:Ij w) (hB:B<=w.heap.size) (hl:l.length<=1099511627776):
  Calls Tryz.prog 159 #[v,.int .u64 ui,.int .i64 10] w fun e w'=>∃ v',e= .returned v'/\CA w' B 5 v' (l++Lib.decDigits u)/\Below B w w':=by
 subst hui;go_enter Tryz.func159,Tryz.ntmps159;go_wp2_with fail;refine (LA B u _ rfl hu v l _ h ht hB hl).mono ?_;rintro e w1 ⟨v',rfl,ho,hb⟩;go_wp2_with fail;go_ret;exact ⟨_,rfl,ho,hb⟩
theorem O0 (w:World) (h:w.cell? ⟨5,15,none⟩=some (.int .u8 4)):
  Calls Tryz.prog 312 #[.int .u64 16] w fun e w'=>e= .returned (.int .i64 4)/\w=w':=by
 have e:(IntKind.u64.wrap (bits BinOp.and IntKind.u64 16 (IntKind.u64.wrap (-16)) * 285870213051353865) / 288230376151711744).toNat=15:=by decide+kernel
 have h':w.cell? ⟨5,(IntKind.u64.wrap (bits BinOp.and IntKind.u64 16 (IntKind.u64.wrap (-16)) * 285870213051353865) / 288230376151711744).toNat,none⟩=some (.int .u8 4):=by rw [e];exact h
 clear e h;go_enter Tryz.func312,Tryz.ntmps312;go_wp2_with fail;go_ret;exact ⟨rfl,rfl⟩
theorem SV (w:World) (h:w.cell? ⟨5,15,none⟩=some (.int .u8 4)):
  Calls Tryz.prog 283 #[.int .u64 16] w fun e w'=>e= .returned (.int .i64 4)/\w=w':=by
 go_enter Tryz.func283,Tryz.ntmps283;go_wp2_with fail;refine (O0 _ h).mono ?_;rintro e w1 ⟨rfl,rfl⟩;go_wp2_with fail;go_ret;exact ⟨rfl,rfl⟩
theorem UD (w:World):
  Calls Tryz.prog 282 #[.int .i64 16] w fun e w'=>e= .returned (.bool true)/\w=w':=by
 have e:(bits BinOp.and IntKind.i64 16 15==0)=true:=by decide+kernel
 go_enter Tryz.func282,Tryz.ntmps282;go_wp2_with fail;go_ret;exact ⟨rfl,rfl⟩
theorem Wp:(Tryz.prog.info? 5).map (fun i=>(i.zero,i.size,i.bytes))=some (some (.int .u8 0),1,1):=by kernel_rfl
def Bs (d:Nat):UInt8:=UInt8.ofNat (if d<10 then 48+d else 87+d)
def FC:Nat->Nat->List UInt8
 | 0,_=>[]
 | f+1,n=>if n<16 then [Bs n] else FC f (n / 16)++[Bs (n % 16)]
def Fd (n:Nat):List UInt8:=FC 4 n
def HJ (w:World) (g j:Nat) (D:List UInt8):Prop:=∃ arr:Array Value,w.heap[g]? =some (.cells arr 225 (0,0))/\arr.size=65/\arr.toList.drop j=Lib.byteCells D
theorem HJ.cell {w:World} {g j:Nat} {D:List UInt8} (h:HJ w g j D) (i:Nat) (hi:i<65):(∃ x,w.cell? ⟨g,i,none⟩=some x)/\w.frozen? ⟨g,i,none⟩=false:=by
 obtain ⟨arr,hb,hs,_⟩:=h
 exact ⟨⟨arr[i],by rw [Lib.cell_of_heap hb,Array.getElem?_eq_getElem (by omega)]⟩,Lib.frozen_of_heap hb i⟩
theorem HJ.set {w:World} {g j:Nat} {D:List UInt8} (h:HJ w g (j+1) D) (hj:j<65) (c:UInt8):HJ (w.setCell ⟨g,j,none⟩ (.int .u8 (c.toNat:Int))) g j (c :: D):=by
 obtain ⟨arr,hb,hs,hd⟩:=h
 refine ⟨arr.setIfInBounds j (.int .u8 (c.toNat:Int)),by simp [World.setCell,Array.getElem?_modify,hb],by simpa using hs,?_⟩
 rw [Array.toList_setIfInBounds,List.drop_eq_getElem_cons (by simp;omega),List.getElem_set_self,List.drop_set_of_lt (by omega),hd]
 rfl
theorem HJ.news {w:World} {g j:Nat} {D:List UInt8} (h:HJ w g j D) (hj:j<=65):D.length=65 - j/\∀ i u,(Lib.byteCells D)[i]? =some u->w.cell? ((⟨g,j,none⟩:Addr).add i)=some u:=by
 obtain ⟨arr,hb,hs,hd⟩:=h
 refine ⟨?_,fun i u hu=> ?_⟩
 ·have:=congrArg List.length hd;rw [Lib.byteCells_length,List.length_drop,Array.length_toList,hs] at this;omega
 ·have e:(⟨g,j,none⟩:Addr).add i=⟨g,j+i,none⟩:=by unfold Addr.add;split<;>simp_all
  rw [e,Lib.cell_of_heap hb,<-hu,<-hd,List.getElem?_drop,Array.getElem?_toList]
theorem Gf (n:Int) (h₀:0<=n) (h₁:n<2 ^ 64):IntKind.u64.wrap n=n:=by
 simp [IntKind.wrap,IntKind.bits,IntKind.signed];omega
theorem AaJ (x:Nat) (h:x<65536):bits .and .u64 (x:Int) 15=(x:Int) % 16:=bits_mask .u64 64 (by decide) Gf 4 (by decide) (x:Int) (by omega) (by omega)
theorem Ud {f n:Nat} (h:16<=n):FC (f+1) n=FC f (n / 16)++[Bs (n % 16)]:=by rw [FC,if_neg (by omega)]
theorem K1 {f n:Nat} (h:n<16):FC (f+1) n=[Bs n]:=by rw [FC,if_pos h]
def SM:ByteArray:=⟨#[48,49,50,51,52,53,54,55,56,57,97,98,99,100,101,102,103,104,105,106,107,108,109,110,111,112,113,114,115,116,117,118,119,120,121,122]⟩
theorem RC:∀ d:Fin 16,SM[d.val]'(by have:=d.isLt;show d.val<36;omega)=Bs d.val:=by decide+kernel
theorem AfJ (w:World):(zeroValue 225).run Tryz.prog w= .ok (.agg (Array.replicate 65 (.int .u8 0))) w:=by kernel_rfl
theorem Aex (g f:Nat) (hf:f<4) (w:World):(Instr.sliceAt 225 (.pointer (some ⟨g,0,none⟩)) (some (.int .i64 ((f:Int)+1+61 - 1))) none none).run Tryz.prog w= .ok (.slice (some ⟨g,f+61,none⟩) (4 - f) (4 - f)) w:=by
 have ha:Tryz.prog.arrayLen 225=65:=by kernel_rfl
 have hs:(sizeOf (Tryz.prog.elem 225)).run Tryz.prog w= .ok 1 w:=by kernel_rfl
 rw [run_sliceAt_array_l w 225 ⟨g,0,none⟩ (by kernel_rfl) .i64 _ (by omega) (by rw [ha];omega),hs]
 simp only [Result.andThen_ok,slicedAt,ha]
 have e1:((f:Int)+1+61 - 1).toNat=f+61:=by omega
 have e2:65 - (f+61)=4 - f:=by omega
 have e3:¬ 65=f+61:=by omega
 have e4:(⟨g,0,none⟩:Addr).add ((f+61) * 1)=⟨g,f+61,none⟩:=by unfold Addr.add;rw [if_neg (by omega)];simp
 rw [e1,e2,if_neg e3,e4]
theorem Mz (B u:Nat) (hu:u<65536) (v:Value) (l:List UInt8) (w:World) (h:CA w B 5 v l) (ht:w.cell? ⟨5,15,none⟩=some (.int .u8 4)) (hB:B<=w.heap.size) (hl:l.length<=1099511627776):
  Calls Tryz.prog 226 #[v,.int .u64 (u:Int),.int .i64 16,.bool false,.bool true] w fun e w'=>∃ v',e= .returned (.tuple #[v',.string ⟨#[]⟩])/\CA w' B 5 v' (l++Fd u)/\Below B w w':=by
 have z65:=AfJ;have hlt:=World.block_lt_of_cell? w _ ht
 have ht2:(w.alloc (.cells (Array.replicate 65 (.int .u8 0)) 225)).cell? ⟨5,15,none⟩=some (.int .u8 4):=by
  rw [World.cell?_alloc_past _ _ _ hlt];exact ht
 have ht:=H0 ht2;go_enter Tryz.func226,Tryz.ntmps226
 go_wp2_with (first
  | (go_at_call 282;refine (UD _).mono ?_;rintro e w' ⟨rfl,rfl⟩)
  | (go_at_call 283;refine (SV _ ht.out).mono ?_;rintro e w' ⟨rfl,rfl⟩))
 have harr0:HJ (w.alloc (.cells (Array.replicate 65 (.int .u8 0)) 225)) w.heap.size 65 []:=⟨_,heap_alloc_new w _,by simp,by simp [Lib.byteCells]⟩
 have hbel0:Below w.heap.size w (w.alloc (.cells (Array.replicate 65 (.int .u8 0)) 225)):=(Below.refl _ _).alloc (Nat.le_refl _) _
 have hsz0:w.heap.size+1<=(w.alloc (.cells (Array.replicate 65 (.int .u8 0)) 225)).heap.size:=by simp
 clear ht2 ht z65 hlt;generalize w.alloc (.cells (Array.replicate 65 (.int .u8 0)) 225)=wa at harr0 hbel0 hsz0⊢
 go_loopw [1,13] (fun s1 s13 wr=>∃ (uu f:Nat) (D:List UInt8),s1= .int .u64 uu/\s13= .int .i64 ((f+61:Nat):Int)/\1<=f/\f<=4/\uu<65536/\Hid (uu<16 ^ f)/\Hid (Fd u=FC f uu++D)/\HJ wr w.heap.size (f+61) D/\Below w.heap.size w wr/\w.heap.size+1<=wr.heap.size) (fun _ i _=>(intOf i).toNat)
 case atStart=>exact ⟨u,4,[],rfl,rfl,by omega,by omega,hu,H0 (by omega),H0 (by simp [Fd]),harr0,hbel0,hsz0⟩
 case round=>
  obtain ⟨uu,f,D,rfl,rfl,hf1,hf4,huu,hpow,hD,harr,hbel,hsz⟩:=hrel;clear harr0 hbel0 hsz0
  obtain ⟨f,rfl⟩:∃ g,f=g+1:=⟨f - 1,by omega⟩
  by_cases hbig:16<=uu
  ·have hf0:1<=f:=by
    rcases Nat.eq_zero_or_pos f with h0 | h0
    ·have:=hpow.out;rw [h0] at this;omega
    ·exact h0
   have e:=AaJ uu huu
   have e16:(uu:Int) % 16=((uu % 16:Nat):Int):=by omega
   rw [e16] at e
   have hm:uu % 16<16:=Nat.mod_lt _ (by decide)
   have hpow2:Hid (uu / 16<16 ^ f):=H0 (by
    have:=hpow.out;rw [Nat.pow_succ] at this
    exact Nat.div_lt_of_lt_mul (by omega))
   have hD2:Hid (Fd u=FC f (uu / 16)++(Bs (uu % 16) :: D)):=H0 (by rw [hD.out,Ud hbig];simp)
   obtain ⟨⟨x,hc⟩,hfz⟩:=harr.cell (f+61) (by omega)
   have hset:=HJ.set (j:=f+61) harr (by omega) (Bs (uu % 16))
   have hset2:HJ (wr.setCell ⟨w.heap.size,f+61,none⟩ (.int .u8 ((SM[uu % 16]'(by show uu % 16<36;omega)).toNat:Int))) w.heap.size (f+61) (Bs (uu % 16) :: D):=by
    rw [RC ⟨uu % 16,hm⟩];exact hset
   have hbigI:(16:Int)<=(uu:Int):=by omega
   replace e16:=H0 e16;replace hset2:=H0 hset2;clear hset;go_wp2_with fail;go_roundw
   case rel=>exact ⟨uu / 16,f,Bs (uu % 16) :: D,by go_num,by go_num,hf0,by omega,by omega,hpow2,hD2,hset2.out,hbel.setCell (Nat.le_refl _) _,by simp;omega⟩
   case measure=>simp [intOf];omega
  ·have hsm:uu<16:=by omega
   have hD2:Hid (Fd u=Bs uu :: D):=H0 (by rw [hD.out,K1 hsm];rfl)
   obtain ⟨⟨x,hc⟩,hfz⟩:=harr.cell (f+61) (by omega)
   have hset:=HJ.set (j:=f+61) harr (by omega) (Bs uu)
   have hset2:HJ (wr.setCell ⟨w.heap.size,f+61,none⟩ (.int .u8 ((SM[uu]'(by show uu<36;omega)).toNat:Int))) w.heap.size (f+61) (Bs uu :: D):=by
    rw [RC ⟨uu,hsm⟩];exact hset
   have hsmI:(uu:Int)<(16:Int):=by omega
   replace hset2:=H0 hset2;clear hset;have hown:=Bp h hbel (Nat.le_refl _)
   have hsl:=Aex w.heap.size f (by omega)
   obtain ⟨hDl,hnews⟩:=hset2.out.news (by omega)
   have hbel2:=hbel.setCell (p:=⟨w.heap.size,f+61,none⟩) (Nat.le_refl _) (.int .u8 ((SM[uu]'(by show uu<36;omega)).toNat:Int))
   have hown2:=Bp h hbel2 (Nat.le_refl _);replace hnews:=H0 hnews;replace hDl:=H0 hDl;clear hset2 hown;obtain ⟨i0,hi,hz0,hz1,hz2⟩:=info_parts Wp
   go_wp2_with (at_builtin;refine wpList_append_own _ rfl _ _ 25 rfl B 5 i0 (.int .u8 0) 1 1 Tryz.underlying25 hi hz0 hz1 hz2 rfl (by decide) v l.length _ rfl hown2 ⟨w.heap.size,f+61,none⟩ (4 - f) (4 - f) (Lib.byteCells (Bs uu :: D)) rfl (by rw [Lib.byteCells_length,hDl.out];omega) hnews.out (by intro y hy;obtain ⟨t,_,rfl⟩:=List.mem_map.1 hy;rfl) (by unfold maxLen;omega) (by omega) (by simp;omega) ?_;intro v' w2 hown' hgrow _)
   go_ret2
   refine ⟨v',rfl,?_,(hbel2.mono hB).grown hgrow (by simp;omega) (fun k hk=>(hown2.lt k hk).1)⟩
   rw [GG,hD2.out,List.length_append]
   have e1:Lib.byteCells (l++Bs uu :: D)=Lib.byteCells l++Lib.byteCells (Bs uu :: D):=by simp [Lib.byteCells]
   have e2:65 - (f+61)=4 - f:=by omega
   rw [e1,hDl.out,e2];exact hown'
theorem Mi (B u:Nat) (hu:u<65536) (v:Value) (l:List UInt8) (w:World) (h:CA w B 5 v l) (ht:w.cell? ⟨5,15,none⟩=some (.int .u8 4)) (hB:B<=w.heap.size) (hl:l.length<=1099511627776):
  Calls Tryz.prog 222 #[v,.int .u64 (u:Int),.int .i64 16] w fun e w'=>∃ v',e= .returned v'/\CA w' B 5 v' (l++Fd u)/\Below B w w':=by
 go_enter Tryz.func222,Tryz.ntmps222;go_wp2_with fail;refine (Mz B u hu v l _ h ht hB hl).mono ?_;rintro e w1 ⟨v',rfl,ho,hb⟩;go_wp2_with fail;go_ret;exact ⟨_,rfl,ho,hb⟩
theorem HD (B u:Nat) (ui:Int) (hui:ui=(u:Int)) (hu:u<65536) (v:Value) (l:List UInt8) (w:World) (h:CA w B 5 v l) (ht:Ij w) (hB:B<=w.heap.size) (hl:l.length<=1099511627776):
  Calls Tryz.prog 159 #[v,.int .u64 ui,.int .i64 16] w fun e w'=>∃ v',e= .returned v'/\CA w' B 5 v' (l++Fd u)/\Below B w w':=by
 subst hui;go_enter Tryz.func159,Tryz.ntmps159;go_wp2_with fail;refine (Mi B u hu v l _ h ht.2 hB hl).mono ?_;rintro e w1 ⟨v',rfl,ho,hb⟩;go_wp2_with fail;go_ret;exact ⟨_,rfl,ho,hb⟩
theorem RX (n:Int) (h₀:0<=n) (h₁:n<2 ^ 32):IntKind.u32.wrap n=n:=by rw [IntKind.wrap_u32];omega
theorem HV (x:Nat) (h:x<4294967296):bits .and .u32 (x:Int) 255=((x % 256:Nat):Int):=by
 have:=bits_mask .u32 32 (by decide) RX 8 (by decide) (x:Int) (by omega) (by omega)
 rw [show ((2:Int) ^ 8 - 1)=255 by decide] at this
 rw [this];omega
def Cq (n k:Nat):List UInt8:=Lib.decDigits (n / 256 ^ (3 - k) % 256)
def DB (n:Nat):Nat->List UInt8
 | 0=>[]
 | k+1=>DB n k++Cq n k++(if k<3 then [46] else [])
def DD (n:Nat):List UInt8:=DB n 4
theorem CB (u:Nat) (h:u<256):(Lib.decDigits u).length<=3:=by
 rw [Lib.decDigits];split
 ·simp
 ·rw [List.length_append,Lib.decDigits];split
  ·simp
  ·rw [List.length_append,Lib.decDigits,dif_pos (by omega)];simp
theorem ZL (n k:Nat):(Cq n k).length<=3:=CB _ (Nat.mod_lt _ (by decide))
theorem MQ (n:Nat):∀ k,(DB n k).length<=4 * k
 | 0=>by simp [DB]
 | k+1=>by
  have h1:=MQ n k;have h2:=ZL n k;simp only [DB,List.length_append]
  split<;>simp<;>omega
theorem U64.small {u:Nat} (h:u<256):U64 u:=by unfold U64;omega
theorem Afq:E1 Tryz.prog 25 5 (.int .u8 0) 1:= .mk' Tryz.underlying25 (by kernel_rfl) rfl
theorem QP (n:Nat) (hn:n<4294967296) (w:World) (ht:Ij w):
  Calls Tryz.prog 92 #[.int .u32 (n:Int)] w (Cy w (DD n)):=by
 have e0:Hid (IntKind.u64.wrap (bits BinOp.and IntKind.u32 ((n:Int) / 16777216) 255)=((n / 16777216 % 256:Nat):Int)):=H0 (by have h:=HV (n / 16777216) (by omega);rw [show ((n / 16777216:Nat):Int)=(n:Int) / 16777216 by omega] at h;rw [h,Gf _ (by omega) (by omega)])
 have e1:Hid (IntKind.u64.wrap (bits BinOp.and IntKind.u32 ((n:Int) / 65536) 255)=((n / 65536 % 256:Nat):Int)):=H0 (by have h:=HV (n / 65536) (by omega);rw [show ((n / 65536:Nat):Int)=(n:Int) / 65536 by omega] at h;rw [h,Gf _ (by omega) (by omega)])
 have e2:Hid (IntKind.u64.wrap (bits BinOp.and IntKind.u32 ((n:Int) / 256) 255)=((n / 256 % 256:Nat):Int)):=H0 (by have h:=HV (n / 256) (by omega);rw [show ((n / 256:Nat):Int)=(n:Int) / 256 by omega] at h;rw [h,Gf _ (by omega) (by omega)])
 have e3:Hid (IntKind.u64.wrap (bits BinOp.and IntKind.u32 ((n:Int)) 255)=((n % 256:Nat):Int)):=H0 (by have h:=HV (n) (by omega);rw [show ((n:Nat):Int)=(n:Int) by omega] at h;rw [h,Gf _ (by omega) (by omega)])
 have hn':(n:Int)<4294967296:=by omega
 go_enter Tryz.func92,Tryz.ntmps92;go_wp2_with fail
 go_loopw [3,4] (fun v iv wr=>∃ k:Nat,k<=4/\iv= .int .i64 (24 - 8 * (k:Int))/\CA wr w.heap.size 5 v (DB n k)/\Below w.heap.size w wr) (fun _ i _=>(intOf i+8).toNat)
 case atStart=>exact ⟨0,by omega,rfl,CA.nil _ _ _,Below.refl _ _⟩
 case round=>
  obtain ⟨k,hk,rfl,hown,hbel⟩:=hrel;have hsz:=hbel.size;have hlen:=MQ n k
  have htw:=ht.next hbel
  rcases (show k=0\/k=1\/k=2\/k=3\/k=4 by omega) with rfl | rfl | rfl | rfl | rfl
  ·go_wp2_with fail
   refine (DV w.heap.size (n / 16777216 % 256) _ ?hu (U64.small (Nat.mod_lt _ (by decide))) _ _ _ hown htw hsz (by omega)).mono ?_
   case hu=>exact e0.out
   rintro e w1 ⟨v1,rfl,ho1,hb1⟩;have hbel1:=hbel.trans hb1;have hsz1:=hbel1.size
   have hl1:(DB n 0++Lib.decDigits (n / 16777216 % 256)).length<=100:=by
    have:=CB (n / 16777216 % 256) (Nat.mod_lt _ (by decide))
    rw [List.length_append];omega
   go_wp2_with (at_builtin;refine A8 Afq rfl _ _ rfl 46 rfl rfl ho1 hbel1 hsz1 rfl (by unfold maxLen;omega) (by omega) ?_;intro v2 w2 ho2 hb2 _)
   go_roundw
   case rel=>exact ⟨1,by omega,by first | rfl | go_num,by have e:DB n 1=DB n 0++Lib.decDigits (n / 16777216 % 256)++[46]:=(by simp [DB,Cq]);rw [e];exact ho2,hb2⟩
   case measure=>simp [intOf]
  ·go_wp2_with fail
   refine (DV w.heap.size (n / 65536 % 256) _ ?hu (U64.small (Nat.mod_lt _ (by decide))) _ _ _ hown htw hsz (by omega)).mono ?_
   case hu=>exact e1.out
   rintro e w1 ⟨v1,rfl,ho1,hb1⟩;have hbel1:=hbel.trans hb1;have hsz1:=hbel1.size
   have hl1:(DB n 1++Lib.decDigits (n / 65536 % 256)).length<=100:=by
    have:=CB (n / 65536 % 256) (Nat.mod_lt _ (by decide))
    rw [List.length_append];omega
   go_wp2_with (at_builtin;refine A8 Afq rfl _ _ rfl 46 rfl rfl ho1 hbel1 hsz1 rfl (by unfold maxLen;omega) (by omega) ?_;intro v2 w2 ho2 hb2 _)
   go_roundw
   case rel=>exact ⟨2,by omega,by first | rfl | go_num,by have e:DB n 2=DB n 1++Lib.decDigits (n / 65536 % 256)++[46]:=(by simp [DB,Cq]);rw [e];exact ho2,hb2⟩
   case measure=>simp [intOf]
  ·go_wp2_with fail
   refine (DV w.heap.size (n / 256 % 256) _ ?hu (U64.small (Nat.mod_lt _ (by decide))) _ _ _ hown htw hsz (by omega)).mono ?_
   case hu=>exact e2.out
   rintro e w1 ⟨v1,rfl,ho1,hb1⟩;have hbel1:=hbel.trans hb1;have hsz1:=hbel1.size
   have hl1:(DB n 2++Lib.decDigits (n / 256 % 256)).length<=100:=by
    have:=CB (n / 256 % 256) (Nat.mod_lt _ (by decide))
    rw [List.length_append];omega
   go_wp2_with (at_builtin;refine A8 Afq rfl _ _ rfl 46 rfl rfl ho1 hbel1 hsz1 rfl (by unfold maxLen;omega) (by omega) ?_;intro v2 w2 ho2 hb2 _)
   go_roundw
   case rel=>exact ⟨3,by omega,by first | rfl | go_num,by have e:DB n 3=DB n 2++Lib.decDigits (n / 256 % 256)++[46]:=(by simp [DB,Cq]);rw [e];exact ho2,hb2⟩
   case measure=>simp [intOf]
  ·go_wp2_with fail
   refine (DV w.heap.size (n % 256) _ ?hu (U64.small (Nat.mod_lt _ (by decide))) _ _ _ hown htw hsz (by omega)).mono ?_
   case hu=>exact e3.out
   rintro e w1 ⟨v1,rfl,ho1,hb1⟩;have hbel1:=hbel.trans hb1;have hsz1:=hbel1.size
   have hl1:(DB n 3++Lib.decDigits (n % 256)).length<=100:=by
    have:=CB (n % 256) (Nat.mod_lt _ (by decide))
    rw [List.length_append];omega
   go_wp2_with fail;go_roundw
   case rel=>exact ⟨4,by omega,by first | rfl | go_num,by have e:DB n 4=DB n 3++Lib.decDigits (n % 256):=(by simp [DB,Cq]);rw [e];exact ho1,hbel1⟩
   case measure=>simp [intOf]
  ·have hcv:=Hu (P:=Tryz.prog) (S:=9) Tryz.underlying25 Tryz.underlying5 Tryz.underlying9 hown;go_wp2_with fail;go_ret;exact F6 rfl hbel
theorem Qg (c:UInt8) (l:List UInt8):∀ p∈Ay c l,p.length<=l.length:=by
 induction l with
 | nil=>intro p hp;simp [Ay] at hp;subst hp;exact Nat.le_refl _
 | cons d r ih=>
  intro p hp;rw [Da] at hp
  by_cases h:d=c
  ·rw [if_pos h] at hp
   rcases List.mem_cons.1 hp with rfl | hp
   ·simp
   ·have:=ih p hp;simp;omega
  ·rw [if_neg h] at hp;have hne:=Ds c r
   cases hs:Ay c r with
   | nil=>exact absurd hs hne
   | cons x y=>
    rw [hs] at hp ih
    rcases List.mem_cons.1 hp with rfl | hp
    ·have:=ih x (by simp);simp;omega
    ·have:=ih p (by simp at hp⊢;exact .inr hp);simp;omega
theorem Px (s:List UInt8):∀ p∈Ba s,p.length<=s.length:=by
 intro p hp;unfold Ba at hp;split at hp
 ·exact Qg 46 s p (List.dropLast_subset _ hp)
 ·exact Qg 46 s p hp
theorem Ye (s:List UInt8):(Ba s).length<=s.length+1:=by
 have:=O8 46 s;unfold Ba;split
 ·rw [List.length_dropLast];omega
 ·exact this
theorem O7 {l:List ByteArray} {ls:List (List UInt8)} (h:l.map (·.toList)=ls) {N:Nat} (hN:∀ p∈ls,p.length<=N) (i:Nat) (hi:i<l.length):(l[i]).size<=N:=by
 rw [<-Aa];apply hN;rw [<-h];exact List.mem_map_of_mem (List.getElem_mem hi)
theorem NS {l:List ByteArray} (h:0<l.length):(l.map (·.toList)).getLast? =some (l[l.length - 1].toList):=by
 rw [List.getLast?_eq_getElem?,List.length_map,List.getElem?_map,List.getElem?_eq_getElem (by omega)];rfl
theorem KU {w:World} {g:Nat} {l:List ByteArray} {c:Nat} (h:∀ i (h:i<l.length),w.cell? ⟨g,i,none⟩=some (.string l[i])):Fg w (.slice (some ⟨g,0,none⟩) l.length c) l:=
 ⟨_,c,rfl,fun _=>⟨g,0,rfl,fun i hi=>by rw [Nat.zero_add];exact h i hi⟩⟩
theorem Rc (s:ByteArray) (w:World) (hm:ML w) (hs:s.size<4294967281):
  Calls Tryz.prog 342 #[.string s] w (Ahu w (Ba s.toList)):=by
 go_enter Tryz.func342,Tryz.ntmps342;go_wp2_with fail;refine (Z3 s 46 _ hm hs).mono ?_;rintro e w1 ⟨l,rfl,hl,hc,hb⟩
 have hll:Hid (l.length=(Ay 46 s.toList).length):=H0 (by have:=congrArg List.length hl.out;rwa [List.length_map] at this)
 have hn0:0<l.length:=by rw [hll.out];exact List.length_pos_iff.2 (Ds _ _)
 have hn1:l.length<=4294967281:=by rw [hll.out];have:=O8 46 s.toList;rw [Aa] at this;omega
 have hlast:Hid ((Ay 46 s.toList).getLast? =some (l[l.length - 1].toList)):=H0 (by rw [<-hl.out];exact NS hn0)
 have hcl:=hc (l.length - 1) (by omega)
 have e1:IntKind.i64.wrap ((l.length:Int) - 1)=(l.length:Int) - 1:=IntWalk.i64_in _ (by omega)
 replace hc:=H0 hc
 by_cases hn:l.length=1
 ·have hq:(l.length:Int)<=1:=by omega
  have hP:Hid (l.map (·.toList)=Ba s.toList):=H0 (by
   unfold Ba;rw [if_neg (by have:=hll.out;omega)];exact hl.out)
  replace hn:=H0 hn;go_wp2_with fail;go_ret;exact ⟨_,l,rfl,hP,KU hc.out,hb⟩
 have hq:(1:Int)<(l.length:Int):=by omega
 replace hn:=H0 hn;cases hem:(l[l.length - 1].toList.isEmpty)
 ·have hP:Hid (l.map (·.toList)=Ba s.toList):=H0 (by
   unfold Ba;rw [if_neg (by rw [hlast.out];rintro ⟨_,h⟩;rw [Option.some.inj h] at hem;cases hem)];exact hl.out)
  go_wp2_with fail;go_ret;exact ⟨_,l,rfl,hP,KU hc.out,hb⟩
 ·have hP:Hid ((l.dropLast).map (·.toList)=Ba s.toList):=H0 (by
   unfold Ba;rw [if_pos ⟨by have:=hll.out;omega,by rw [hlast.out];congr 1;simpa using hem⟩,<-hl.out,List.map_dropLast])
  have hdl:Hid (l.dropLast.length=l.length - 1):=H0 List.length_dropLast
  have hR:Hid (Fg w1 (.slice (some ⟨w.heap.size,0,none⟩) (l.length - 1) l.length) l.dropLast):=H0 (by
   rw [<-hdl.out]
   exact KU (fun i hi=>by
    have hi2:i<l.length:=by have:=hdl.out;omega
    rw [List.getElem_dropLast];exact hc.out i hi2))
  go_wp2_with fail;go_ret;exact ⟨_,l.dropLast,rfl,hP,hR.out,hb⟩
theorem So {w:World} {v:Value} {l:List ByteArray} (h:Fg w v l) (hn:0<l.length):∃ g o c,v= .slice (some ⟨g,o,none⟩) l.length c/\(∀ i (h:i<l.length),w.cell? ⟨g,o+i,none⟩=some (.string l[i])):=by
 obtain ⟨a,c,rfl,hc⟩:=h;obtain ⟨g,o,rfl,hcc⟩:=hc hn;exact ⟨g,o,c,rfl,hcc⟩
theorem Ad3 {l:List ByteArray} {ls:List (List UInt8)} (h:l.map (·.toList)=ls) (hn:0<l.length):Wn ls=l[l.length - 1].toList:=by
 unfold Wn;rw [<-h,NS hn];rfl
theorem AbU (s:ByteArray) (w:World) (hm:ML w) (hs:s.size<4294967281):
  Calls Tryz.prog 329 #[.string s] w (IY w (LO s.toList)):=by
 go_enter Tryz.func329,Tryz.ntmps329;go_wp2_with fail;refine (Rc s _ hm hs).mono ?_;rintro e w1 ⟨v,l,rfl,hl,hrd,hb⟩
 have hn0:0<l.length:=by
  have:=congrArg List.length hl.out;rw [List.length_map] at this;rw [this];exact List.length_pos_iff.2 (MC _)
 have hn1:l.length<=4294967281:=by
  have:=congrArg List.length hl.out;rw [List.length_map] at this;rw [this];have:=Ye s.toList;rw [Aa] at this;omega
 obtain ⟨g,o,c,rfl,hcc⟩:=So hrd hn0
 have hcl:=hcc (l.length - 1) (by omega)
 have hz:=O7 hl.out (Px s.toList) (l.length - 1) (by omega)
 rw [Aa] at hz;have hlast:=H0 (Ad3 hl.out hn0)
 have e1:IntKind.i64.wrap ((l.length:Int) - 1)=(l.length:Int) - 1:=IntWalk.i64_in _ (by omega)
 have e2:(o:Int)+((l.length:Int) - 1)=((o+(l.length - 1):Nat):Int):=by omega
 clear hrd hcc;replace e2:=H0 e2;generalize hT:l[l.length - 1]=t at hcl hz hlast;replace hT:=H0 hT
 have hd:=H0 (fun w=>OT t 10 w (by omega) (by decide))
 have hn:=H0 (fun w=>PB t w (by omega))
 have hE:Hid (LO s.toList=((Bo 10 t.toList).isSome || (FR t.toList).isSome)):=H0 (by unfold LO;rw [hlast.out])
 clear hz;cases hq:(Bo 10 t.toList).isSome
 all_goals
  replace hq:=H0 hq;go_wp2_with fail;refine (hd.out _).mono ?_;rintro e w2 ⟨rfl,rfl⟩;rw [hq.out];go_wp2_with (go_at_call 344;refine (hn.out _).mono ?_;rintro e w' ⟨rfl,rfl⟩);go_ret
  exact ⟨AF (by rw [hE.out,hq.out];rfl),hb⟩
def Afd (w:World) (o:Option Nat) (e:Ending) (w':World):Prop:=e= .returned (.tuple #[.int .u32 ((o.getD 0:Nat):Int),.bool o.isSome])/\Below w.heap.size w w'
theorem DU {w w':World} {o:Option Nat} (h:o=none) (hb:Below w.heap.size w w'):Afd w o (.returned (.tuple #[.int .u32 0,.bool false])) w':=by subst h;exact ⟨rfl,hb⟩
theorem QF (s:ByteArray) (w:World) (hm:ML w) (hs:s.size<4294967281):
  Calls Tryz.prog 330 #[.string s] w (Afd w (Bq s.toList)):=by
 go_enter Tryz.func330,Tryz.ntmps330;go_wp2_with fail;refine (Rc s _ hm hs).mono ?_;rintro e w1 ⟨v,l,rfl,hl,hrd,hb⟩
 have hll:Hid ((Ba s.toList).length=l.length):=H0 (by have:=congrArg List.length hl.out;rwa [List.length_map,eq_comm] at this)
 have hn0:0<l.length:=by rw [<-hll.out];exact List.length_pos_iff.2 (MC _)
 obtain ⟨g,o,c,rfl,hcc⟩:=So hrd hn0;clear hrd
 by_cases h4:4<l.length
 ·have hq:(4:Int)<(l.length:Int):=by omega
  have hno:Hid (Bq s.toList=none):=H0 (by unfold Bq M5;rw [hll.out,if_pos h4])
  replace hcc:=H0 hcc;go_wp2_with fail;go_ret2;exact DU hno.out hb
 have hq:(l.length:Int)<=4:=by omega
 have hP:Hid (Bq s.toList=Bh 0 (Ba s.toList) 0):=H0 (by unfold Bq M5;rw [hll.out,if_neg h4])
 have hsz:∀ i (h:i<l.length),l[i].size<=4294967281:=fun i hi=>by
  have:=O7 hl.out (Px s.toList) i hi;rw [Aa] at this;omega
 have hdr:∀ i (h:i<l.length),(Ba s.toList).drop i=l[i].toList :: (Ba s.toList).drop (i+1):=fun i hi=>by
  rw [<-hl.out,List.drop_eq_getElem_cons (by simpa using hi)];simp
 replace hcc:=H0 hcc;replace hsz:=H0 hsz;replace hdr:=H0 hdr;go_wp2_with fail
 go_loop [5,17] (fun nv iv=>∃ k sum:Nat,iv= .int .i64 k/\nv= .int .i64 sum/\k<=l.length/\sum<=4294967296/\Hid (sum+2 ^ (8 * (4 - k))<=4294967296\/k=l.length/\sum<4294967296)/\Hid (Bh k ((Ba s.toList).drop k) sum=Bq s.toList)) (fun _ i=>l.length - (intOf i).toNat)
 case atStart=>exact ⟨0,0,rfl,rfl,Nat.zero_le _,by omega,H0 (.inl (by decide)),H0 (by rw [List.drop_zero,hP.out])⟩
 case round=>
  obtain ⟨k,sum,rfl,rfl,hk,hsum,hsb,hg⟩:=hrel
  by_cases hlt:k<l.length
  ·have hltI:(k:Int)<(l.length:Int):=by omega
   have hcell:=hcc.out k hlt;have hz:=hsz.out k hlt
   have hn:=H0 (fun w=>PB l[k] w (by omega))
   have hd1:=H0 (hdr.out k hlt);go_wp2_with fail;refine (hn.out _).mono ?_;rintro e w2 ⟨rfl,rfl⟩
   cases hv:FR l[k].toList with
   | none=>
    have hno:Hid (Bq s.toList=none):=H0 (by
     rw [<-hg.out,hd1.out]
     cases hr:(Ba s.toList).drop (k+1) with
     | nil=>rw [Bh,hv]
     | cons y r=>rw [Bh,hv])
    go_wp2_with fail;go_ret2;exact DU hno.out hb
   | some v=>
    obtain ⟨m,hme⟩:∃ m,m=min v 4294967296:=⟨_,rfl⟩
    have hrm:JA 4294967296 w1 (some v)=fun e w'=>e= .returned (.tuple #[.int .i64 (m:Int),.bool true])/\w1=w':=by unfold JA;rw [hme];rfl
    have hmC:m<=4294967296:=by rw [hme];exact Nat.min_le_right _ _
    rw [show min ((some v).getD 0) 4294967296=m from hme.symm,show (some v).isSome=true from rfl];replace hme:=H0 hme;clear hrm
    by_cases hla:k+1=l.length
    ·have hd2:(Ba s.toList).drop (k+1)=[]:=List.drop_of_length_le (by have:=hll.out;omega)
     have hg2:Hid (Bq s.toList=if v<2 ^ (8 * (4 - k)) then some (sum+v) else none):=H0 (by rw [<-hg.out,hd1.out,hd2,Bh,hv])
     clear hd2;replace hv:=H0 hv
     rcases (show k=0\/k=1\/k=2\/k=3 by omega) with rfl | rfl | rfl | rfl
     ·have hle:(l.length:Int) - 1=0:=by omega
      have hsb2:sum+4294967296<=4294967296:=by have:=hsb.out;omega
      by_cases hvP:v<4294967296
      ·have hmv:m=v:=by have:=hme.out;omega
       subst hmv
       have hvI:decide ((4294967296:Int)<=(m:Int))=false:=decide_eq_false (by omega)
       have hnew:Hid (Bh 1 ((Ba s.toList).drop 1) (sum+m)=Bq s.toList):=H0 (by
        rw [hg2.out,if_pos hvP,List.drop_of_length_le (by have:=hll.out;omega),Bh])
       have hs3:sum+m<4294967296:=by omega
       replace hsb2:=H0 hsb2;replace hs3:=H0 hs3;replace hvP:=H0 hvP;go_wp2_with fail;go_round
       case rel=>exact ⟨1,sum+m,by go_num,by go_num,by omega,by have:=hs3.out;omega,H0 (.inr ⟨by omega,hs3.out⟩),hnew⟩
       case measure=>simp [intOf];omega
      ·have hvI:4294967296<=(m:Int):=by have:=hme.out;omega
       have hno:Hid (Bq s.toList=none):=H0 (by rw [hg2.out,if_neg hvP])
       replace hsb2:=H0 hsb2;go_wp2_with fail;go_ret2;exact DU hno.out hb
     ·have hle:(l.length:Int) - 1=1:=by omega
      have hsb2:sum+16777216<=4294967296:=by have:=hsb.out;omega
      by_cases hvP:v<16777216
      ·have hmv:m=v:=by have:=hme.out;omega
       subst hmv
       have hvI:decide ((16777216:Int)<=(m:Int))=false:=decide_eq_false (by omega)
       have hnew:Hid (Bh 2 ((Ba s.toList).drop 2) (sum+m)=Bq s.toList):=H0 (by
        rw [hg2.out,if_pos hvP,List.drop_of_length_le (by have:=hll.out;omega),Bh])
       have hs3:sum+m<4294967296:=by omega
       replace hsb2:=H0 hsb2;replace hs3:=H0 hs3;replace hvP:=H0 hvP;go_wp2_with fail;go_round
       case rel=>exact ⟨2,sum+m,by go_num,by go_num,by omega,by have:=hs3.out;omega,H0 (.inr ⟨by omega,hs3.out⟩),hnew⟩
       case measure=>simp [intOf];omega
      ·have hvI:16777216<=(m:Int):=by have:=hme.out;omega
       have hno:Hid (Bq s.toList=none):=H0 (by rw [hg2.out,if_neg hvP])
       replace hsb2:=H0 hsb2;go_wp2_with fail;go_ret2;exact DU hno.out hb
     ·have hle:(l.length:Int) - 1=2:=by omega
      have hsb2:sum+65536<=4294967296:=by have:=hsb.out;omega
      by_cases hvP:v<65536
      ·have hmv:m=v:=by have:=hme.out;omega
       subst hmv
       have hvI:decide ((65536:Int)<=(m:Int))=false:=decide_eq_false (by omega)
       have hnew:Hid (Bh 3 ((Ba s.toList).drop 3) (sum+m)=Bq s.toList):=H0 (by
        rw [hg2.out,if_pos hvP,List.drop_of_length_le (by have:=hll.out;omega),Bh])
       have hs3:sum+m<4294967296:=by omega
       replace hsb2:=H0 hsb2;replace hs3:=H0 hs3;replace hvP:=H0 hvP;go_wp2_with fail;go_round
       case rel=>exact ⟨3,sum+m,by go_num,by go_num,by omega,by have:=hs3.out;omega,H0 (.inr ⟨by omega,hs3.out⟩),hnew⟩
       case measure=>simp [intOf];omega
      ·have hvI:65536<=(m:Int):=by have:=hme.out;omega
       have hno:Hid (Bq s.toList=none):=H0 (by rw [hg2.out,if_neg hvP])
       replace hsb2:=H0 hsb2;go_wp2_with fail;go_ret2;exact DU hno.out hb
     ·have hle:(l.length:Int) - 1=3:=by omega
      have hsb2:sum+256<=4294967296:=by have:=hsb.out;omega
      by_cases hvP:v<256
      ·have hmv:m=v:=by have:=hme.out;omega
       subst hmv
       have hvI:decide ((256:Int)<=(m:Int))=false:=decide_eq_false (by omega)
       have hnew:Hid (Bh 4 ((Ba s.toList).drop 4) (sum+m)=Bq s.toList):=H0 (by
        rw [hg2.out,if_pos hvP,List.drop_of_length_le (by have:=hll.out;omega),Bh])
       have hs3:sum+m<4294967296:=by omega
       replace hsb2:=H0 hsb2;replace hs3:=H0 hs3;replace hvP:=H0 hvP;go_wp2_with fail;go_round
       case rel=>exact ⟨4,sum+m,by go_num,by go_num,by omega,by have:=hs3.out;omega,H0 (.inr ⟨by omega,hs3.out⟩),hnew⟩
       case measure=>simp [intOf];omega
      ·have hvI:256<=(m:Int):=by have:=hme.out;omega
       have hno:Hid (Bq s.toList=none):=H0 (by rw [hg2.out,if_neg hvP])
       replace hsb2:=H0 hsb2;go_wp2_with fail;go_ret2;exact DU hno.out hb
    ·have hd2:∃ y r,(Ba s.toList).drop (k+1)=y :: r:=by
      cases hr:(Ba s.toList).drop (k+1) with
      | nil=>have:=congrArg List.length hr;rw [List.length_drop,List.length_nil] at this;have:=hll.out;omega
      | cons y r=>exact ⟨y,r,rfl⟩
     have hg2:Hid (Bq s.toList=if v<=255 then Bh (k+1) ((Ba s.toList).drop (k+1)) (sum+v * 2 ^ (8 * (3 - k))) else none):=H0 (by
      obtain ⟨y,r,h⟩:=hd2
      rw [<-hg.out,hd1.out,h,Bh,hv])
     clear hd2;replace hv:=H0 hv
     rcases (show k=0\/k=1\/k=2 by omega) with rfl | rfl | rfl
     ·have hle:(0:Int)<(l.length:Int) - 1:=by omega
      have hle2:((0:Int)==(l.length:Int) - 1)=false:=beq_eq_false_iff_ne.2 (by omega)
      have hsb2:sum+4294967296<=4294967296:=by have:=hsb.out;omega
      by_cases hvP:v<=255
      ·have hmv:m=v:=by have:=hme.out;omega
       subst hmv
       have hvI:(m:Int)<=255:=by omega
       have hnew:Hid (Bh 1 ((Ba s.toList).drop 1) (sum+m * 16777216)=Bq s.toList):=H0 (by
        rw [hg2.out,if_pos hvP])
       have hs3:sum+m * 16777216+16777216<=4294967296:=by omega
       replace hsb2:=H0 hsb2;replace hs3:=H0 hs3;go_wp2_with fail;go_round
       case rel=>exact ⟨1,sum+m * 16777216,by go_num,by go_num,by omega,by have:=hs3.out;omega,H0 (.inl hs3.out),hnew⟩
       case measure=>simp [intOf];omega
      ·have hvI:255<(m:Int):=by have:=hme.out;omega
       have hno:Hid (Bq s.toList=none):=H0 (by rw [hg2.out,if_neg hvP])
       replace hsb2:=H0 hsb2;go_wp2_with fail;go_ret2;exact DU hno.out hb
     ·have hle:(1:Int)<(l.length:Int) - 1:=by omega
      have hle2:((1:Int)==(l.length:Int) - 1)=false:=beq_eq_false_iff_ne.2 (by omega)
      have hsb2:sum+16777216<=4294967296:=by have:=hsb.out;omega
      by_cases hvP:v<=255
      ·have hmv:m=v:=by have:=hme.out;omega
       subst hmv
       have hvI:(m:Int)<=255:=by omega
       have hnew:Hid (Bh 2 ((Ba s.toList).drop 2) (sum+m * 65536)=Bq s.toList):=H0 (by
        rw [hg2.out,if_pos hvP])
       have hs3:sum+m * 65536+65536<=4294967296:=by omega
       replace hsb2:=H0 hsb2;replace hs3:=H0 hs3;go_wp2_with fail;go_round
       case rel=>exact ⟨2,sum+m * 65536,by go_num,by go_num,by omega,by have:=hs3.out;omega,H0 (.inl hs3.out),hnew⟩
       case measure=>simp [intOf];omega
      ·have hvI:255<(m:Int):=by have:=hme.out;omega
       have hno:Hid (Bq s.toList=none):=H0 (by rw [hg2.out,if_neg hvP])
       replace hsb2:=H0 hsb2;go_wp2_with fail;go_ret2;exact DU hno.out hb
     ·have hle:(2:Int)<(l.length:Int) - 1:=by omega
      have hle2:((2:Int)==(l.length:Int) - 1)=false:=beq_eq_false_iff_ne.2 (by omega)
      have hsb2:sum+65536<=4294967296:=by have:=hsb.out;omega
      by_cases hvP:v<=255
      ·have hmv:m=v:=by have:=hme.out;omega
       subst hmv
       have hvI:(m:Int)<=255:=by omega
       have hnew:Hid (Bh 3 ((Ba s.toList).drop 3) (sum+m * 256)=Bq s.toList):=H0 (by
        rw [hg2.out,if_pos hvP])
       have hs3:sum+m * 256+256<=4294967296:=by omega
       replace hsb2:=H0 hsb2;replace hs3:=H0 hs3;go_wp2_with fail;go_round
       case rel=>exact ⟨3,sum+m * 256,by go_num,by go_num,by omega,by have:=hs3.out;omega,H0 (.inl hs3.out),hnew⟩
       case measure=>simp [intOf];omega
      ·have hvI:255<(m:Int):=by have:=hme.out;omega
       have hno:Hid (Bq s.toList=none):=H0 (by rw [hg2.out,if_neg hvP])
       replace hsb2:=H0 hsb2;go_wp2_with fail;go_ret2;exact DU hno.out hb
  ·have hke:k=l.length:=by omega
   have hfin:Hid (Bq s.toList=some sum):=H0 (by
    rw [<-hg.out,List.drop_of_length_le (by have:=hll.out;omega),Bh])
   have hsl:sum<4294967296:=by
    rcases hsb.out with h | h
    ·have:=Nat.two_pow_pos (8 * (4 - k));omega
    ·exact h.2
   have hgeI:(l.length:Int)<=(k:Int):=by omega
   have e1:IntKind.u32.wrap (sum:Int)=(sum:Int):=RX _ (by omega) (by omega)
   replace hke:=H0 hke;go_wp2_with fail;go_ret2;unfold Afd;rw [hfin.out];exact ⟨rfl,hb⟩
theorem WB {α:Type} (a:List α) {b:List α} (h:b≠[]):(a++b).getLast? =b.getLast? :=by
 rw [List.getLast?_append]
 cases hb:b.getLast? with
 | none=>exact absurd (List.getLast?_eq_none_iff.1 hb) h
 | some x=>rfl
def Lb (b n:Nat):List UInt8:=if h:n<b\/b<2 then [Bs n] else Lb b (n / b)++[Bs (n % b)]
termination_by n
decreasing_by exact Nat.div_lt_self (by omega) (by omega)
theorem GQ {b n:Nat} (h:n<b):Lb b n=[Bs n]:=by rw [Lb,dif_pos (.inl h)]
theorem L9 {b n:Nat} (h:¬ n<b) (hb:2<=b):Lb b n=Lb b (n / b)++[Bs (n % b)]:=by rw [Lb,dif_neg (by omega)]
theorem OS:∀ d:Fin 16,K2 ((Bs d.val).toNat:Int)=(d.val:Int)/\Bs d.val≠46/\Bs d.val≠120/\Bs d.val≠88/\(0<d.val->Bs d.val≠48):=by decide+kernel
theorem V0:∀ d:Fin 10,Bs d.val=UInt8.ofNat (48+d.val):=by decide+kernel
theorem Nj {d b:Nat} (h:d<b) (hb:b<=16):Ah ((Bs d).toNat:Int) (b:Int)=(d:Int):=by
 have:=(OS ⟨d,by omega⟩).1
 unfold Ah
 rw [show K2 ((Bs d).toNat:Int)=(d:Int) from this,if_neg (by omega)]
theorem GA (n:Nat):Lb 10 n=Lib.decDigits n:=by
 induction n using Nat.strongRecOn with
 | _ n ih=>
  by_cases h:n<10
  ·rw [GQ h,Lib.decDigits_one h];exact congrArg (fun x=>[x]) (V0 ⟨n,h⟩)
  ·rw [L9 h (by decide),ih (n / 10) (by omega)]
   conv=>rhs;rw [Lib.decDigits,dif_neg h]
   rw [show Bs (n % 10)=UInt8.ofNat (48+n % 10) from V0 ⟨n % 10,by omega⟩]
theorem Ok (b n:Nat):Lb b n≠[]:=by
 rw [Lb];split<;>simp
theorem OG {b:Nat} (hb:2<=b) (hb2:b<=16) (n:Nat):∀ c∈Lb b n,∃ d,d<b/\c=Bs d:=by
 induction n using Nat.strongRecOn with
 | _ n ih=>
  by_cases h:n<b
  ·rw [GQ h];intro c hc;simp at hc;exact ⟨n,h,hc⟩
  ·rw [L9 h hb];intro c hc
   rcases List.mem_append.1 hc with hc | hc
   ·exact ih (n / b) (Nat.div_lt_self (by omega) (by omega)) c hc
   ·simp at hc;exact ⟨n % b,Nat.mod_lt _ (by omega),hc⟩
theorem ZJ {b:Nat} (hb:2<=b) (hb2:b<=16) (n:Nat) (h0:0<n):∃ c r,Lb b n=c :: r/\c≠48:=by
 induction n using Nat.strongRecOn with
 | _ n ih=>
  by_cases h:n<b
  ·exact ⟨Bs n,[],GQ h,(OS ⟨n,by omega⟩).2.2.2.2 h0⟩
  ·obtain ⟨c,r,h1,h2⟩:=ih (n / b) (Nat.div_lt_self (by omega) (by omega)) (Nat.div_pos (by omega) (by omega))
   exact ⟨c,r++[Bs (n % b)],by rw [L9 h hb,h1];rfl,h2⟩
theorem Hq (b:Nat):∀ (l m:List UInt8) (acc:Nat),AE b acc (l++m)=(AE b acc l).bind fun x=>AE b x m
 | [],m,acc=>rfl
 | c :: r,m,acc=>by
  rw [List.cons_append,AE,AE];split
  ·rfl
  ·exact Hq b r m _
theorem NK {b:Nat} (hb:2<=b) (hb2:b<=16) (n:Nat):AE b 0 (Lb b n)=some n:=by
 have one:∀ acc d,d<b->AE b acc [Bs d]=some (acc * b+d):=by
  intro acc d hd
  rw [AE,Nj hd hb2,if_neg (by omega),AE]
  simp
 induction n using Nat.strongRecOn with
 | _ n ih=>
  by_cases h:n<b
  ·rw [GQ h,one _ _ h];simp
  ·rw [L9 h hb,Hq,ih (n / b) (Nat.div_lt_self (by omega) (by omega))]
   show AE b (n / b) [Bs (n % b)]=some n
   rw [one _ _ (Nat.mod_lt _ (by omega)),Nat.mul_comm,Nat.div_add_mod]
theorem Acz (n:Nat):FR (Lb 10 n)=some n:=by
 have h:=NK (b:=10) (by decide) (by decide) n
 match hL:Lb 10 n with
 | []=>exact absurd hL (Ok _ _)
 | [c]=>rw [hL] at h;exact h
 | c :: d :: r=>
  have h0:0<n:=by
   by_cases h0:n=0
   ·rw [h0,GQ (by decide)] at hL;simp at hL
   ·omega
  obtain ⟨c',r',h1,h2⟩:=ZJ (b:=10) (by decide) (by decide) n h0
  rw [hL] at h1 h;obtain ⟨rfl,_⟩:=List.cons.inj h1;rw [FR,if_neg h2,h]
theorem Aa4 {b:Nat} (hb:2<=b) (hb2:b<=16) (n:Nat):∀ c∈Lb b n,c≠46:=by
 intro c hc;obtain ⟨d,hd,rfl⟩:=OG hb hb2 n c hc
 exact (OS ⟨d,by omega⟩).2.1
theorem RJ {s x:List UInt8} {ps:List (List UInt8)} (h:Ay 46 s=ps++[x]) (hx:x≠[]):Ba s=ps++[x]:=by
 unfold Ba;rw [h,if_neg];rintro ⟨_,h2⟩
 rw [WB _ (by simp)] at h2
 simp at h2;exact hx h2
theorem Ln:∀ (ps:List (List UInt8)) (x:List UInt8),(∀ p∈ps,∀ c∈p,c≠46)->(∀ c∈x,c≠46)->Ay 46 (ps.flatMap (fun p=>p++[46])++x)=ps++[x]
 | [],x,_,hx=>JT x hx
 | p :: ps,x,hp,hx=>by
  have e:(p :: ps).flatMap (fun p=>p++[46])++x=p++46 :: (ps.flatMap (fun p=>p++[46])++x):=by simp
  rw [e,Hj,JT p (hp p (by simp)),Ln ps x (fun q hq=>hp q (by simp [hq])) hx]
  rfl
theorem Um {i acc v:Nat} {x:List UInt8} (h:FR x=some v) (hv:v<2 ^ (8 * (4 - i))):Bh i [x] acc=some (acc+v):=by
 rw [Bh,h];dsimp only;rw [if_pos hv]
theorem In {i acc v:Nat} {x:List UInt8} {L:List (List UInt8)} (hL:L≠[]) (h:FR x=some v) (hv:v<=255):Bh i (x :: L) acc=Bh (i+1) L (acc+v * 2 ^ (8 * (3 - i))):=by
 match L,hL with
 | y :: r,_=>rw [Bh,h];dsimp only;rw [if_pos hv]
theorem Iy (n:Nat):DD n=[Cq n 0,Cq n 1,Cq n 2].flatMap (fun p=>p++[46])++Cq n 3:=by
 simp [DD,DB]
theorem Qj (n k:Nat):∀ c∈Cq n k,c≠46:=by
 unfold Cq;rw [<-GA];exact Aa4 (by decide) (by decide) _
theorem Ht (n k:Nat):FR (Cq n k)=some (n / 256 ^ (3 - k) % 256):=by
 unfold Cq;rw [<-GA];exact Acz _
theorem PS (n k:Nat):Cq n k≠[]:=by unfold Cq;rw [<-GA];exact Ok _ _
theorem M9 (n:Nat):Ay 46 (DD n)=[Cq n 0,Cq n 1,Cq n 2]++[Cq n 3]:=by
 rw [Iy]
 exact Ln _ _ (by intro p hp;simp at hp;rcases hp with rfl | rfl | rfl<;>exact Qj _ _) (Qj _ _)
theorem SL {n:Nat} (h:n<4294967296):M5 [Cq n 0,Cq n 1,Cq n 2,Cq n 3]=some n:=by
 unfold M5
 rw [if_neg (by simp),In (by simp) (Ht n 0) (by omega),In (by simp) (Ht n 1) (by omega),In (by simp) (Ht n 2) (by omega),Um (Ht n 3) (by simp;omega)]
 congr 1;simp;omega
theorem Ww {n:Nat} (h:n<4294967296):Bq (DD n)=some n:=by
 unfold Bq;rw [RJ (M9 n) (PS _ _)];exact SL h
theorem Wh (n:Nat):DD n≠[]:=by
 rw [Iy];intro h;exact PS n 3 (List.append_eq_nil_iff.1 h).2
def Ee (l:List UInt8):Option Nat:=if 4<l.length then none else Bo 16 l
def Cg (l:List UInt8):Option Nat:=
 if 3<l.length\/(1<l.length/\l.head? =some 48) then none
 else match Bo 10 l with | none=>none | some n=>if 255<n then none else some n
def E0:Nat->Nat->List UInt8->Option Nat
 | 0,acc,l=>if (Af 46 l).2.2=true then none else (Cg (Af 46 l).1).map fun v=>acc * 256+v
 | k+1,acc,l=>if (Af 46 l).2.2=true then (match Cg (Af 46 l).1 with | none=>none | some v=>E0 k (acc * 256+v) (Af 46 l).2.1) else none
def GF (l:List UInt8):Option Nat:=E0 3 0 l
def C3 (last nb:Bool) (t:List UInt8):Option (List Nat):=
 if last=true/\nb=true/\t.contains 46=true then (GF t).map fun n=>[n / 65536,n % 65536] else (Ee t).map fun v=>[v]
def HI (nb:Bool):Nat->List UInt8->Option (List Nat)
 | 0,_=>none
 | f+1,l=>
  match C3 (!(Af 58 l).2.2) nb (Af 58 l).1 with
  | none=>none
  | some x=>if (Af 58 l).2.2=true then (HI nb f (Af 58 l).2.1).map (fun y=>x++y) else some x
def ZC (nb:Bool) (l:List UInt8):Option (List Nat):=if l=[] then some [] else HI nb (l.length+1) l
def D4 (nb:Bool) (l:List UInt8):Option (List Nat):=match ZC nb l with | none=>none | some x=>if x.length<=8 then some x else none
def IW (nb:Bool) (f:Nat) (P:List Nat) (t:List UInt8):Option (List Nat):=match HI nb f t with | none=>none | some x=>if (P++x).length<=8 then some (P++x) else none
theorem Ad6 {nb:Bool} {l:List UInt8} (h:l≠[]):D4 nb l=IW nb (l.length+1) [] l:=by
 unfold D4 IW ZC;rw [if_neg h];rfl
theorem ZN {nb:Bool} {f:Nat} {P:List Nat} {t:List UInt8} (h:C3 (!(Af 58 t).2.2) nb (Af 58 t).1=none):IW nb (f+1) P t=none:=by
 unfold IW;rw [HI,h]
theorem Aaj {nb:Bool} {f:Nat} {P x:List Nat} {t:List UInt8} (h:C3 (!(Af 58 t).2.2) nb (Af 58 t).1=some x) (hm:(Af 58 t).2.2=true):
  IW nb (f+1) P t=IW nb f (P++x) (Af 58 t).2.1:=by
 unfold IW;rw [HI,h];dsimp only;rw [if_pos hm]
 cases HI nb f (Af 58 t).2.1 with
 | none=>rfl
 | some y=>simp only [Option.map_some,List.append_assoc]
theorem ZQ {nb:Bool} {f:Nat} {P x:List Nat} {t:List UInt8} (h:C3 (!(Af 58 t).2.2) nb (Af 58 t).1=some x) (hm:(Af 58 t).2.2=false):
  IW nb (f+1) P t=if (P++x).length<=8 then some (P++x) else none:=by
 unfold IW;rw [HI,h];dsimp only
 rw [if_neg (by rw [hm];decide)]
theorem Aat {nb:Bool} {f:Nat} {P:List Nat} {t:List UInt8} (h:8<P.length):IW nb f P t=none:=by
 unfold IW
 cases HI nb f t with
 | none=>rfl
 | some y=>exact if_neg (by rw [List.length_append];omega)
theorem Aas {nb m:Bool} {f:Nat} {P x:List Nat} {t:List UInt8} (hm:(Af 58 t).2.2=m) (h:C3 (!m) nb (Af 58 t).1=some x):
  ((P++x).length<=8->if m=true then IW nb (f+1) P t=IW nb f (P++x) (Af 58 t).2.1 else IW nb (f+1) P t=some (P++x))/\(8<(P++x).length->IW nb (f+1) P t=none):=by
 subst hm;cases hm:(Af 58 t).2.2
 ·rw [ZQ h hm]
  exact ⟨fun h8=>by rw [if_neg (by decide),if_pos h8],fun h8=>if_neg (by omega)⟩
 ·rw [Aaj h hm]
  exact ⟨fun _=>by rw [if_pos rfl],fun h8=>Aat h8⟩
theorem Pl {last nb:Bool} {t:List UInt8} (h:last=false\/nb=false\/t.contains 46=false):C3 last nb t=(Ee t).map fun v=>[v]:=by
 unfold C3;rw [if_neg];rintro ⟨h1,h2,h3⟩
 rcases h with h | h | h
 ·rw [h] at h1;cases h1
 ·rw [h] at h2;cases h2
 ·rw [h] at h3;cases h3
theorem Uj {t:List UInt8} (h:t.contains 46=true):C3 true true t=(GF t).map fun n=>[n / 65536,n % 65536]:=by
 unfold C3;rw [if_pos ⟨rfl,rfl,h⟩]
theorem Oz {c:UInt8} {l:List UInt8} (h:(Af c l).2.2=true):(Af c l).2.1.length<l.length:=by
 have:=congrArg List.length (Jz c l);rw [h] at this;simp at this;omega
def HK (l:List UInt8):List UInt8 × List UInt8 × Bool:=Lib.cut l [58,58]
def FP (l:List UInt8):Option (List Nat):=
 if (HK l).2.2=true then
  match D4 false (HK l).1 with
  | none=>none
  | some x=>match D4 true (HK l).2.1 with
   | none=>none
   | some y=>if x.length+y.length<8 then some (x++(List.replicate (8 - x.length - y.length) 0++y)) else none
 else match D4 true l with | none=>none | some x=>if x.length=8 then some x else none
end Go.Proofs.YtonomfeipkdmhaaGreatDoor
