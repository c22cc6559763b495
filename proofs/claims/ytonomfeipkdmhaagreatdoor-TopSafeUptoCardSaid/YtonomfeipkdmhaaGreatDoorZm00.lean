/- Lemmas. -/
import Derived.BigQuiet
import Derived.Deep.DeepCutAuto
import Derived.Deep.LoopGhost
import Derived.Deep.QuietTactic
import Derived.Deep.RegionHeld3
import Derived.Ground.Names2Prog
import Derived.Ground.PaProg
import Derived.Ground.SlbNamesProg
import Derived.Handy
import Derived.Laws.AppendOwnNone
import Derived.Lib.ConvBytes
import Derived.Lib.Hide
import Derived.OpenShut
import Derived.Shelf.Bytes.IndexByte
import Derived.Shelf.Bytes.SlCountOne
import Derived.Shelf.Bytes.SlCountWhole
import Derived.Shelf.Bytes.SlEqualAll
import Derived.Shelf.Bytes.SlIndexAt
import Derived.Shelf.Bytes.SlIndexSmall
import Derived.Shelf.Bytes.SlIndexWhole
import Derived.Shelf.Bytes.SlSearch0
import Derived.Shelf.Bytes.SlSearch1
import Derived.Shelf.Bytes.SlSearch2
import Derived.Shelf.Bytes.SlSplit
import Derived.Shelf.Bytes.SlSplitNil
import Derived.Shelf.Bytes.Small
import Derived.Shelf.LaysM
import Derived.Shelf.Path.Small
import Derived.Shelf.Slices.Cells
import Derived.Shelf.Slices.Clone
import Derived.Shelf.Slices.Empties2
import Derived.Shelf.Slices.Equal
import Derived.Shelf.Slices.Reverse
import Derived.Shelf.Slices.Turned
import Derived.Shelf.Small.Strs
import Derived.Shelf.Small.Utf8
import Derived.Shelf.Small.Wraps
import Derived.Shelf.Strconv.AppendInt10
import Derived.Shelf.Strconv.AppendUint10
import Derived.Shelf.Strconv.Itoa0
import Derived.Shelf.Strconv.Itoa1
import Derived.Shelf.Strconv.Itoa2
import Derived.Shelf.Strconv.Itoa3
import Derived.Shelf.Strings.AsciiSet
import Derived.Shelf.Strings.Builder1
import Derived.Shelf.Strings.Builder2
import Derived.Shelf.Strings.Builder2Cap
import Derived.Shelf.Strings.BuilderCap
import Derived.Shelf.Strings.BuilderF
import Derived.Shelf.Strings.BuilderK
import Derived.Shelf.Strings.Count
import Derived.Shelf.Strings.Cut
import Derived.Shelf.Strings.Explode
import Derived.Shelf.Strings.IndexAny
import Derived.Shelf.Strings.IndexAnyAll
import Derived.Shelf.Strings.LastIndex
import Derived.Shelf.Strings.OnBuilder
import Derived.Shelf.Strings.Prefix
import Derived.Shelf.Strings.RuneCount
import Derived.Shelf.Strings.Runes
import Derived.Shelf.Strings.Search1
import Derived.Shelf.Strings.Search2
import Derived.Shelf.Strings.Search3
import Derived.Shelf.Strings.Shaped
import Derived.Shelf.Strings.Split
import Derived.Shelf.Strings.SplitShaped
import Derived.Shelf.Strings.Trim
import Derived.Shelf.Unicode.Decode
import Derived.Shelf.Unicode.DecodeAny
import Derived.Shelf.Unicode.DecodeLast
import Derived.Shelf.Unicode.DecodeSlow
import Derived.Shelf.Utf8.RuneCount
import Derived.Test.YtonomfeipkdmhaaGreatDoorProg
import Derived.Test.YtonomfeipkdmhaaGreatDoorRows
import Derived.WalkKit
import Derived.WalkLawsBesides
import Derived.WalkSpells
set_option linter.all false
set_option maxRecDepth 100000
set_option maxHeartbeats 16000000
namespace Go.Proofs
abbrev A5:=List UInt8
abbrev A9:=ByteArray
instance{α:Type _}:CoeOut (Array α) (List α):=⟨Array.toList⟩
instance:CoeOut ByteArray (List UInt8):=⟨ByteArray.toList⟩
instance:CoeOut World Nat:=⟨(·.heap.size)⟩
instance:CoeOut UInt8 Int:=⟨(·.toNat)⟩
@[simp,go_sem]abbrev AzJ(v:Value)(w:World)(e:Ending)(w':World):Prop:=e=.returned v/\w=w'
open Go.Proofs.Tryz
open Go.Proofs.Tryz renaming prog->A8
open Go.RowKit
def AzF{p:Prop}(h:p:=by simp[intOf];omega):p:=h
def AH{R P:Ending->World->Prop}{v:Value}{w:World}(k:P (.returned v) w)(h:∀e w',R e w'->e=.returned v/\w'=w:=by first|exact λ_ _ h=>h|exact λ_ _ h=>⟨h.1,h.2.symm⟩):∀e w',R e w'->P e w':=λe w' r=>by obtain⟨rfl,rfl⟩:=h e w' r;exact k
def AG:type_of%@Nat.le_refl:=Nat.le_refl
def AA:type_of%@if_neg:=if_neg
theorem Aa:type_of%@List.length_append:=List.length_append
def AC:type_of%@if_pos:=if_pos
def AR:type_of%@Nat.zero_le:=Nat.zero_le
def B6:type_of%@beq_eq_false_iff_ne:=beq_eq_false_iff_ne
def AU:type_of%@Below.refl:=Below.refl
def Bc:type_of%@List.take_of_length_le:=List.take_of_length_le
def BQ:type_of%@ByteArray.toList_eq:=ByteArray.toList_eq
theorem BC:type_of%@List.length_cons:=List.length_cons
def BL:type_of%@List.mem_append:=List.mem_append
def Cs:type_of%@List.getElem?_eq_getElem:=List.getElem?_eq_getElem
def BI:type_of%@IntWalk.i64_in:=IntWalk.i64_in
def BO:type_of%@decide_eq_false:=decide_eq_false
def Cj:type_of%@List.drop_of_length_le:=List.drop_of_length_le
def CC:type_of%@List.mem_cons_self:=List.mem_cons_self
def EP:type_of%@List.eq_nil_of_length_eq_zero:=List.eq_nil_of_length_eq_zero
def C0:type_of%@Bool.and_eq_true:=Bool.and_eq_true
def Bq:type_of%@List.append_nil:=List.append_nil
theorem CO:type_of%@List.mem_singleton:=List.mem_singleton
def Fe:type_of%@List.take_succ_eq_append_getElem:=List.take_succ_eq_append_getElem
theorem C7:type_of%@List.length_drop:=List.length_drop
theorem Cr:type_of%@List.mem_cons_of_mem:=List.mem_cons_of_mem
def Bz:type_of%@List.length_map:=List.length_map
def CQ:type_of%@List.append_assoc:=List.append_assoc
def CI:type_of%@List.getElem_mem:=List.getElem_mem
def En:type_of%@Array.getElem?_eq_some_iff:=Array.getElem?_eq_some_iff
def Bx:type_of%@decide_eq_true:=decide_eq_true
theorem Bn:type_of%@List.mem_cons:=List.mem_cons
def EV:type_of%@World.block_lt_of_cell?:=World.block_lt_of_cell?
def CB:type_of%@heap_alloc_new:=heap_alloc_new
def C9:type_of%@List.drop_zero:=List.drop_zero
def CM:type_of%@UInt8.toNat_inj:=UInt8.toNat_inj
theorem Cl:type_of%@List.length_take:=List.length_take
def BV:type_of%@cell_of_row:=cell_of_row
theorem Ge:type_of%@List.drop_append_of_le_length:=List.drop_append_of_le_length
def Cg:type_of%@wpList_load_row:=wpList_load_row
def Fr:type_of%@List.drop_eq_getElem_cons:=List.drop_eq_getElem_cons
def Cm:type_of%@Option.some.inj:=Option.some.inj
def EF:type_of%@List.dropWhile_cons:=List.dropWhile_cons
def F7:type_of%@List.take_append_drop:=List.take_append_drop
def Di:type_of%@List.cons_append:=List.cons_append
def CR:type_of%@Nat.le_trans:=Nat.le_trans
def EB:type_of%@List.filter_cons:=List.filter_cons
def Do:type_of%@List.nil_append:=List.nil_append
def Dx:type_of%@List.map_append:=List.map_append
def GB:type_of%@List.getElem?_toArray:=List.getElem?_toArray
def Hk:type_of%@List.getElem?_eq_some_iff:=List.getElem?_eq_some_iff
def FV:type_of%@List.length_pos_iff:=List.length_pos_iff
def Et:type_of%@List.all_eq_true:=List.all_eq_true
def H1:type_of%@Option.map_eq_some_iff:=Option.map_eq_some_iff
def Ho:type_of%@List.getElem?_cons_zero:=List.getElem?_cons_zero
theorem Ep:type_of%@List.length_nil:=List.length_nil
def CW:type_of%@beq_iff_eq:=beq_iff_eq
def Db:type_of%@Nat.zero_add:=Nat.zero_add
def Fb:type_of%@wpList_store_row:=wpList_store_row
def Hd:type_of%@Lib.byteCells_length:=Lib.byteCells_length
def GF:type_of%@List.getElem?_map:=List.getElem?_map
def GV:type_of%@List.flatMap_cons:=List.flatMap_cons
def Fl:type_of%@Bool.eq_iff_iff:=Bool.eq_iff_iff
def EU:type_of%@List.mem_map:=List.mem_map
def Ix:type_of%@ByteArray.size_append:=ByteArray.size_append
def FR:type_of%@List.map_cons:=List.map_cons
def Gd:type_of%@Bool.or_eq_true:=Bool.or_eq_true
def IS:type_of%@List.takeWhile_cons:=List.takeWhile_cons
def J1:type_of%@Bool.or_eq_false_iff:=Bool.or_eq_false_iff
def KB:type_of%@List.getElem?_cons_succ:=List.getElem?_cons_succ
def K2:type_of%@List.dropWhile_sublist:=List.dropWhile_sublist
def LS:type_of%@List.getD_eq_getElem?_getD:=List.getD_eq_getElem?_getD
def G4:type_of%@frozen_of_row:=frozen_of_row
def Js:type_of%@Array.getElem?_modify:=Array.getElem?_modify
def Ig:type_of%@wpList_append_own:=wpList_append_own
def II:type_of%@decide_eq_true_eq:=decide_eq_true_eq
def Jh:type_of%@List.flatMap_append:=List.flatMap_append
def Ey:type_of%@below_drewN:=below_drewN
def Jx:type_of%@Nat.mul_le_mul_right:=Nat.mul_le_mul_right
def MW:type_of%@Int.tmod_eq_emod_of_nonneg:=Int.tmod_eq_emod_of_nonneg
def LY:type_of%@decide_eq_false_iff_not:=decide_eq_false_iff_not
def JY:type_of%@decide_eq_true_iff:=decide_eq_true_iff
def Lc:type_of%@ByteArray.size_extract:=ByteArray.size_extract
def KH:type_of%@World.ownsRow.cellAt:=World.ownsRow.cellAt
def KP:type_of%@Nat.pow_le_pow_right:=Nat.pow_le_pow_right
def Ky:type_of%@World.cell?_alloc_at:=World.cell?_alloc_at
def Jc:type_of%@Int.toNat_natCast:=Int.toNat_natCast
def Ii:type_of%@List.mem_filter:=List.mem_filter
def L9:type_of%@Array.getElem?_toList:=Array.getElem?_toList
def NK:type_of%@List.length_eq_zero_iff:=List.length_eq_zero_iff
def Hh:type_of%@List.all_cons:=List.all_cons
def HY:type_of%@List.cons.inj:=List.cons.inj
def JV:type_of%@Nat.mod_eq_of_lt:=Nat.mod_eq_of_lt
def KJ:type_of%@Nat.lt_of_lt_of_le:=Nat.lt_of_lt_of_le
def Fw:type_of%@Nat.mod_lt:=Nat.mod_lt
def O0:type_of%@World.cell?_setCells_out:=World.cell?_setCells_out
def J5:type_of%@List.take_zero:=List.take_zero
theorem K3:type_of%@List.not_mem_nil:=List.not_mem_nil
def KQ:type_of%@World.ownsRow_nil:=World.ownsRow_nil
def Qj:type_of%@List.takeWhile_append_dropWhile:=List.takeWhile_append_dropWhile
def LC:type_of%@UInt8.toNat_ofNat':=UInt8.toNat_ofNat'
def IC:type_of%@bodyPost_ret:=bodyPost_ret
def Lg:type_of%@List.filter_append:=List.filter_append
def Jr:type_of%@List.cons.injEq:=List.cons.injEq
def Pl:type_of%@Array.getElem?_eq_getElem:=Array.getElem?_eq_getElem
def K8:type_of%@run_loadVar_row:=run_loadVar_row
def OD:type_of%@List.dropLast_eq_take:=List.dropLast_eq_take
def O6:type_of%@List.length_filter_le:=List.length_filter_le
def LV:type_of%@Option.some.injEq:=Option.some.injEq
def KM:type_of%@List.all_append:=List.all_append
def JM:type_of%@Bool.true_and:=Bool.true_and
def OJ:type_of%@List.length_dropLast:=List.length_dropLast
def LK:type_of%@List.mem_flatMap:=List.mem_flatMap
def Li:type_of%@List.take_length:=List.take_length
def PI:type_of%@List.append_eq_nil_iff:=List.append_eq_nil_iff
def Mp:type_of%@List.any_eq_false:=List.any_eq_false
def Ia:type_of%@setRow_heap:=setRow_heap
theorem O5:type_of%@List.getElem_of_mem:=List.getElem_of_mem
def Mb:type_of%@of_decide_eq_true:=of_decide_eq_true
def Jw:type_of%@Bool.or_false:=Bool.or_false
def Ju:type_of%@Bool.false_or:=Bool.false_or
def Ka:type_of%@List.drop_drop:=List.drop_drop
def Nl:type_of%@List.contains_cons:=List.contains_cons
def TF:type_of%@List.take_append_of_le_length:=List.take_append_of_le_length
def PK:type_of%@List.getLast?_append:=List.getLast?_append
def Ux:type_of%@Lib.wpList_append_own_string:=Lib.wpList_append_own_string
def Kj:type_of%@Bool.and_true:=Bool.and_true
def R3:type_of%@World.cell?_setCells_in:=World.cell?_setCells_in
def Jy:type_of%@Nat.add_zero:=Nat.add_zero
def IQ:type_of%@info_parts:=info_parts
def Nc:type_of%@List.map_dropLast:=List.map_dropLast
def Of:type_of%@Array.length_toList:=Array.length_toList
def OZ:type_of%@List.mem_map_of_mem:=List.mem_map_of_mem
def TV:type_of%@Array.getElem?_append_left:=Array.getElem?_append_left
def UM:type_of%@List.getElem?_append_right:=List.getElem?_append_right
def OG:type_of%@results_cell_tmp:=results_cell_tmp
def Qb:type_of%@run_convert_bytes_arg:=run_convert_bytes_arg
def P4:type_of%@Array.ext_getElem?:=Array.ext_getElem?
def SE:type_of%@List.dropLast_sublist:=List.dropLast_sublist
def Qc:type_of%@Bool.and_eq_false_iff:=Bool.and_eq_false_iff
def L0:type_of%@Nat.pow_succ:=Nat.pow_succ
def Po:type_of%@Below.heap_setCell:=Below.heap_setCell
def QF:type_of%@List.getElem?_eq_none:=List.getElem?_eq_none
def Ma:type_of%@Bool.and_false:=Bool.and_false
def Qn:type_of%@Nat.div_lt_of_lt_mul:=Nat.div_lt_of_lt_mul
def RF:type_of%@List.dropLast_concat:=List.dropLast_concat
def Ok:type_of%@Array.size_append:=Array.size_append
def Nf:type_of%@Obj.cells.injEq:=Obj.cells.injEq
def JO:type_of%@bne_iff_ne:=bne_iff_ne
def SM:type_of%@List.reverse_append:=List.reverse_append
def RH:type_of%@Array.getElem?_ofFn:=Array.getElem?_ofFn
def Om:type_of%@World.ownsRow.lt:=World.ownsRow.lt
def ON:type_of%@Bool.false_and:=Bool.false_and
def O7:type_of%@Nat.mul_le_mul:=Nat.mul_le_mul
def Na:type_of%@heap_alloc_old:=heap_alloc_old
def RO:type_of%@List.getElem?_take:=List.getElem?_take
def RQ:type_of%@Bool.false_eq_true:=Bool.false_eq_true
def Pf:type_of%@Nat.div_le_self:=Nat.div_le_self
def M5:type_of%@Nat.mul_comm:=Nat.mul_comm
def Q3:type_of%@Nat.min_eq_left:=Nat.min_eq_left
def OR:type_of%@run_float_arith:=run_float_arith
def RZ:type_of%@UInt8.ofNat_toNat:=UInt8.ofNat_toNat
def QJ:type_of%@Lib.BuilderAt.put:=Lib.BuilderAt.put
def QS:type_of%@Result.andThen_ok:=Result.andThen_ok
def PU:type_of%@Array.mk.injEq:=Array.mk.injEq
def Ri:type_of%@Nat.min_le_right:=Nat.min_le_right
def Mq:type_of%@Nat.add_mul:=Nat.add_mul
def NY:type_of%@Bool.or_true:=Bool.or_true
def PO:type_of%@Prod.mk.injEq:=Prod.mk.injEq
def OV:type_of%@List.any_cons:=List.any_cons
def KA:type_of%@and_true:=and_true
def Jb:type_of%@Ne.symm:=Ne.symm
variable{p:Prop}
def A4(h:p:=by omega):p:=h
def AE(h:p:=by decide):p:=h
def AO(h:p:=by kernel_rfl):p:=h
def Bk(h:p:=by rw[Lc];omega):p:=h
def AP(h:p:=by go_num):p:=h
def AX(h:p:=by decide+kernel):p:=h
def O3(h:p:=by simp only[Bool.or_self,Ju,Jw,Bool.true_or,NY,Kj,Bool.and_self,Ma,RQ,if_false,if_true]):p:=h
def AS(h:p:=by simp_all):p:=h
def AN(h:p:=by simp):p:=h
def DV(h:p:=by rw[B6];omega):p:=h
def C1(h:p:=by unfold maxLen;omega):p:=h
def B7(h:p:=by simp;omega):p:=h
def KC(h:p:=by simp only[Aa,Ep,BC,AK];omega):p:=h
def OT(h:p:=by rw[hf.out];exact C4.lit (AG _) _ _ hs _ rfl (by decide)):p:=h
def Gq(h:p:=by first|rfl|(congr 1<;>omega)):p:=h
def Dy(h:p:=by rw[AK];omega):p:=h
def Fx(h:p:=by rw[Cl];omega):p:=h
def ME(h:p:=by rw[toList_extract,Bc (by rw[AK];omega)]):p:=h
def FE(h:p:=by have:=eB.out;omega):p:=h
def C5(h:p:=by cases h):p:=h
def Pz(h:p:=by rw[hf.out];exact C4.lit (AG _) _ _ rfl _ rfl (by decide)):p:=h
def Awf(h:p:=by first|exact AU _ _|exact below_drew _|exact Ey (AU _ _) _):p:=h
def Lf(h:p:=by rw[BI _ (by omega)];omega):p:=h
def Gt(h:p:=by rw[hno.out];rfl):p:=h
def Ks(h:p:=by have:=hb.size;have:=h.size;omega):p:=h
def At6(h:p:=by rw[bF.out,AA hvP]):p:=h
def N2(h:p:=by rw[bO.out,←Bool.or_assoc,←hb2.out];rfl):p:=h
def AsJ(h:p:=by rw[hb.block g (by have:=(En.1 hh).1;omega)];exact hh):p:=h
def M2(h:p:=by rw[Cl,AK];omega):p:=h
def BE(h:p:=by rfl):p:=h
def Nk(h:p:=by have:=hll.out;omega):p:=h
def IR(h:p:=by have:=hI.size;omega):p:=h
def IV(h:p:=by have:=cJ.out;omega):p:=h
def IF(h:p:=by have:=bL.out;omega):p:=h
def KY(h:p:=by rw[hf.out];rfl):p:=h
def Tm(h:p:=by have:=hg.out;simp only[if_true,BC]at this;omega):p:=h
def OC(h:p:=by rw[toList_extract,C9]):p:=h
def Ak1(h:p:=by rw[aY.out];unfold maxLen;first|(simp;done)|(simp;omega)):p:=h
def JN(h:p:=by have:=bH.out;omega):p:=h
def Aym(h:p:=by rw[←hq];exact CR (O7 (show wt≤2147483647 by omega) (show 36-b≤35 by omega)) (by decide)):p:=h
def JR(h:p:=by simpa using h):p:=h
def NO(h:p:=by rw[IntKind.wrap_u8];omega):p:=h
def Aks(h:p:=by rw[←hp];exact CR (O7 (show e≤1114111 by omega) (show eE+1≤255 by omega)) (by decide)):p:=h
def Af8(h:p:=by rw[toList_append,ht.out,show(ByteArray.mk #[120,110,45,45]).toList=FP from toList_mk [120,110,45,45]];rfl):p:=h
def JQ(h:p:=by rw[hv.out];rfl):p:=h
def AaG(h:p:=by have:=congrArg List.length hl;rwa[Bz,eq_comm]at this):p:=h
def TR(h:p:=by intro v hv;obtain⟨n,_,rfl⟩:=EU.1 hv;rfl):p:=h
def M9(h:p:=by rw[CW];omega):p:=h
def Ql(h:p:=by rw[C7];omega):p:=h
def Aj6(h:p:=by rw[←AK,toList_extract,C9,Cl,AK];omega):p:=h
def Utf(h:p:=by have:=(En.1 hh).1;omega):p:=h
def AiW(h:p:=by rw[aY.out];first|(simp;done)|(simp;omega)):p:=h
def QB(h:p:=by rw[Lib.cell_of_heap hblk];rfl):p:=h
def Af9(h:p:=by have:=hrun.out;rw[eG.out]at this;simp only[PO]at this;exact⟨this.1,by omega⟩):p:=h
def K6(h:p:=by rw[←hS];rfl):p:=h
def L5(h:p:=by rw[C9]):p:=h
def NF(h:p:=by rw[aD.out];rfl):p:=h
def Ar0(h:p:=by rw[hT.out,AA (by rw[hp];rintro(h|h);exact absurd h.1 (by decide);exact h15 h)]):p:=h
def UB(h:p:=by rw[toList_extract,Fh _ _ (AG _)]):p:=h
def AcM(h:p:=by intro e;rw[e]at hlen;simp at hlen;omega):p:=h
def Al3(h:p:=by rw[←hp];exact CR (O7 (show d≤35 by omega) hwt) (by decide)):p:=h
def XR(h:p:=by have:=EV w _ h1;simpa using this):p:=h
def Zf(h:p:=by rintro e w'⟨rfl,rfl⟩;exact⟨rfl,trivial,Aj.refl _ _⟩):p:=h
def MR(h:p:=by rw[aY.out];rfl):p:=h
def Xh(h:p:=by intro y hy;obtain⟨t,_,rfl⟩:=EU.1 hy;rfl):p:=h
def Vt(h:p:=by rintro(h|h);have:=hlen.out;omega;exact h nR.out):p:=h
def Qi(h:p:=by rw[Aa];omega):p:=h
def Tf(h:p:=by have:=c3.out;unfold Bp at this;omega):p:=h
def V0(h:p:=by have:=kS.out;rw[L0];omega):p:=h
def Wa(h:p:=by rw[←hll.out];exact FV.2 (AaK _)):p:=h
def Ab9(h:p:=by rw[←AK,toList_extract,C7,Fh _ _ (AG _),AK];omega):p:=h
def RC(h:p:=by rw[C9];exact hR):p:=h
def LP(h:p:=by rw[aD.out]):p:=h
def Ab6(h:p:=by first|exact hbel.out|exact hbel.out.drew|exact Ey hbel _):p:=h
def W5(h:p:=by rw[Aa];show l.length+1≤_;omega):p:=h
def Al9(h:p:=by simp only[B6,ne_eq];intro e;exact hgo ⟨h8,by omega⟩):p:=h
def Abz(h:p:=by rw[←AK,toList_mk];exact hl):p:=h
def Xu(h:p:=by simp only[JO,ne_eq];omega):p:=h
def Ai4(h:p:=by unfold Az;rw[AA (by intro e;rw[e]at hlen;simp at hlen;omega)]):p:=h
def OU(h:p:=by first|decide|omega):p:=h
def Aco(h:p:=by rw[hlast.out];rintro⟨_,h⟩;rw[Cm h]at hem;cases hem):p:=h
def TO(h:p:=by rw[hv.out,CP s k (by omega)];rfl):p:=h
def La(h:p:=by simpa using hv):p:=h
def Ab8(h:p:=by rw[←AK,toList_extract,C7,Cl,AK];omega):p:=h
def Z6(h:p:=by rw[Ix];omega):p:=h
def PC(h:p:=by rw[hno.out];exact e0):p:=h
def Adc(h:p:=by rw[aI.out];first|rfl|(congr 4<;>omega)):p:=h
def AyM(h:p:=by rw[aD.out];first|rfl|(congr 4<;>omega)):p:=h
def SC(h:p:=by simp at hx⊢;exact .inr hx):p:=h
def Ay6(h:p:=by rw[aM,toList_extract,Bc (by rw[AK];omega)]):p:=h
def AwI(h:p:=by rw[hT.out,AA (by rintro(h|h);exact hne h.2;exact h15 h)]):p:=h
def Vn(h:p:=by rw[←hm,Cl];omega):p:=h
def MJ(h:p:=by simp[HL,hu,hp]):p:=h
def U64(h:p:=by rw[hp];rintro(h|h);exact absurd h.1 (by decide);exact h15 h):p:=h
def AeH(h:p:=by rw[Lib.indexAny_none (by rw[←Lib.size_eq];exact HN.out)];rfl):p:=h
def TS(h:p:=by rw[Bz];exact hlt):p:=h
def Ak0(h:p:=by rw[L0]at h;exact Qn (by omega)):p:=h
def AcK(h:p:=by have:=congrArg List.length hl;rwa[Bz]at this):p:=h
def Agn(h:p:=by rw[hT.out,AC (.inr h15)]):p:=h
def Ts(h:p:=by have:=aM.out;simpa using this):p:=h
def Abx(h:p:=by rw[run_equalIn_int w 9998 _ _ _ _ _ Tryz.underlying3];simp):p:=h
def MU(h:p:=by cases h;decide):p:=h
def Nd(h:p:=by rw[←pP.out];rfl):p:=h
def Ag0(h:p:=by rw[run_equalIn_string w 9998 _ _ _ Tryz.underlying9];simp):p:=h
def AcA(h:p:=by rw[←hm];exact Fw _ (by omega)):p:=h
def Sj(h:p:=by rw[BQ];rfl):p:=h
def Sb(h:p:=by rw[(EW s).2 (by omega)];rfl):p:=h
def Awy(h:p:=by rw[hn.out,Db];rfl):p:=h
def Q2(h:p:=by have:=h.size;omega):p:=h
def Wn(h:p:=by rw[←hH,Lc];omega):p:=h
def Wt(h:p:=by unfold EE;rw[hrun.out,aF.out,hV];rfl):p:=h
def Nt(h:p:=by rw[AK];exact h):p:=h
def Y1(h:p:=by rw[aY.out];unfold maxLen;simp;omega):p:=h
def WR(h:p:=by simp[results,Tryz.results37,go_sem]):p:=h
def Y7(h:p:=by simp[results,Tryz.results63,go_sem]):p:=h
def L4(h:p:=by rw[h];rfl):p:=h
def Xv(h:p:=by rw[hN.out];omega):p:=h
def VJ(h:p:=by rw[mH.out];omega):p:=h
def PB(h:p:=by rw[hyes.out];rfl):p:=h
def Rf(h:p:=by first|rfl|go_num):p:=h
def Afl(h:p:=by rw[←hq];exact Pf _ _):p:=h
def OB(h:p:=by simpa using h0):p:=h
def Yq(h:p:=by rw[hv.out];exact ht):p:=h
def SO(h:p:=by rw[Nr];exact h.size):p:=h
def Vc(h:p:=by rw[hno.out];exact e0.out):p:=h
def WN(h:p:=by rw[AK];exact h2):p:=h
def AbC(h:p:=by rw[hg.out,CP s k (by omega)];rfl):p:=h
def Zc(h:p:=by show _≤maxLen;exact AR _):p:=h
def YS(h:p:=by simp[Addr.add]):p:=h
def Q9(h:p:=by simpa using hem):p:=h
def Oc(h:p:=by rw[ht.out];rfl):p:=h
def XK(h:p:=by rw[aY.out];unfold maxLen;simp):p:=h
def Adk(h:p:=by unfold GA;rw[AC ⟨rfl,h0⟩]):p:=h
def Td(h:p:=by rw[AA (by omega)]):p:=h
def TG(h:p:=by rw[hV.out,q2.out];rfl):p:=h
def Ako(h:p:=by rw[hQ.out,cN.out];rfl):p:=h
def AuF(h:p:=by rw[hl.out,Fh _ _ (by omega)]):p:=h
def Oi(h:p:=by simpa using hc):p:=h
def Aa8(h:p:=by rw[hv.out];exact toList_mk _):p:=h
def OW(h:p:=by simpa using b1):p:=h
def AhB(h:p:=by rw[PK];rfl):p:=h
def YP(h:p:=by rw[sp,ON];decide):p:=h
def Xi(h:p:=by have:=hf.out;simpa using this):p:=h
def Xl(h:p:=by rw[hB.out,Um q1,Um q2];rfl):p:=h
def NI(h:p:=by rw[e];rfl):p:=h
def V6(h:p:=by rw[←AK,h1.out];omega):p:=h
def RI(h:p:=by simp at hj;omega):p:=h
def US(h:p:=by rw[DB,DB];omega):p:=h
def SB(h:p:=by intro i hi;omega):p:=h
def RK(h:p:=by rw[←hf.out];rfl):p:=h
def Q6(h:p:=by rw[h0];rfl):p:=h
def LW(h:p:=by cases e):p:=h
def WW(h:p:=by show 18+1≤23;decide):p:=h
def Qa(h:p:=by rw[hem];rfl):p:=h
def AaR(h:p:=by
 have rK:=HA 46 t.toList;rw[AK]at rK;have ht4:t.size<=140737488355328:=A4;refine(Anj t 46 _ ht4).mono ?_;rintro e w3⟨ta,tb,nd,rfl,h3,h4,rfl⟩;have za:ta.size=(AL 46 t.toList).1.length:=by rw[<-AK,h3.out]
 have zb:tb.size=(AL 46 t.toList).2.1.length:=by rw[<-AK,h4.out]
 have hT:Hid (Iy t m=if((AL 46 t.toList).2.2=true/\tb.toList=[])\/15<ta.size+tb.size then none else match Az 10 (ta++tb).toList with
   |none=>none
   |some n=>if m-(tb.size:Int)< -22\/22<m-(tb.size:Int)then none else some (n,m-(tb.size:Int))):=H0 (by
  unfold Iy;rw[toList_append,h3.out,h4.out,za,zb]<;>rfl)
 have sz:ta.size+tb.size<=140737488355328:=A4;change Hid _ at za zb rK;clear h3 h4;generalize(AL 46 t.toList).2.2=pt at hT⊢;have hb4:=Ey hb nd;have hcs:(pt=true/\tb.toList.isEmpty=true/\Hid (Iy t m=none))\/(((pt=false)\/(pt=true/\tb.toList.isEmpty=false))/\15<(ta.size:Int)+tb.size/\Hid (Iy t m=none))\/
   (((pt=false)\/(pt=true/\tb.toList.isEmpty=false))/\(ta.size:Int)+tb.size<=15/\Hid (Iy t m=match Az 10 (ta++tb).toList with
    |none=>none
    |some n=>if m-(tb.size:Int)< -22\/22<m-(tb.size:Int)then none else some (n,m-(tb.size:Int)))):=by
  cases hp:pt
  ·by_cases h15:15<ta.size+tb.size
   ·exact .inr (.inl ⟨.inl rfl,A4,H0 Agn⟩)
   exact .inr (.inr ⟨.inl rfl,A4,H0 Ar0⟩)
  ·cases he:tb.toList.isEmpty
   ·have hne:tb.toList≠[]:=by intro h;rw[h]at he;cases he
    by_cases h15:15<ta.size+tb.size
    ·exact .inr (.inl ⟨.inr ⟨rfl,rfl⟩,A4,H0 Agn⟩)
    exact .inr (.inr ⟨.inr ⟨rfl,rfl⟩,A4,H0 AwI⟩)
   exact .inl ⟨rfl,rfl,H0 (by rw[hT.out,AC (.inl ⟨hp,by simpa using he⟩)])⟩
 clear hT;rcases hcs with⟨rfl,c1,cN⟩|⟨eA,c1,cN⟩|⟨eA,c1,cN⟩
 ·have hno:=A6 (DN s.toList=none) Ako;go_wp2_with fail;go_ret2;exact Uu hno hb4
 ·have hno:=A6 (DN s.toList=none) Ako;rcases eA with rfl|⟨rfl,c2⟩;all_goals
   go_wp2_with fail;go_ret2;exact Uu hno hb4
 have hzz:(ta++tb:A9).size<=140737488355328:=Z6;have hw:=H0 (λw=>QU (ta++tb) w hzz);have e5:IntKind.i64.wrap (m-(tb.size:Int))=m-(tb.size:Int):=BI _ A4;have mM:(ta++tb:A9).toList.length<=15:=by rw[AK,Ix];omega
 cases hD:Az 10 (ta++tb).toList with
 |none=>
  have hno:=A6 (DN s.toList=none) (by rw[hQ.out,cN.out,hD];rfl);have hw2:=H0 (λw=>by have:=hw.out w;rw[hD]at this;exact this);replace hD:=H0 hD;clear mM;exact ZN
 |some n=>
  have eO:=XO hD;have qG:n<10^15:=KJ eO (KP AE mM);have hw2:=A6 (∀w,Calls A8 292 #[.string (ta++tb)] w (AzJ (.tuple #[.int .i64 (n:Int),.bool true]) w)) (λw=>by
   have:=hw.out w;rw[hD]at this;refine this.mono λe w' h=> ?_;unfold Fm at h;rw[show(some n).getD 0=n from rfl,show min n Bp=n by unfold Bp;omega]at h;exact h)
  obtain⟨fm,fi,hf⟩:=Aiz (n:=n) (Nat.lt_trans qG AE);have hM:=A6 (DN s.toList=(if m-(tb.size:Int)< -22\/22<m-(tb.size:Int)then none else some (n,m-(tb.size:Int))).map λy=>(neg,y)) (by rw[hQ.out,cN.out,hD]);change Hid _ at hD hf qG;clear eO mM;by_cases k1:m-(tb.size:Int)< -22
  ·have hno:=A6 (DN s.toList=none) (by rw[hM.out,AC (.inl k1)];rfl);exact ZN
  by_cases k2:22<m-(tb.size:Int)
  ·have hno:=A6 (DN s.toList=none) (by rw[hM.out,AC (.inr k2)];rfl);have k3: -22<=m-(tb.size:Int):=A4;exact ZN
  have k3: -22<=m-(tb.size:Int):=A4;have k4:m-(tb.size:Int)<=22:=A4;have hyes:=A6 (DN s.toList=some (neg,n,m-(tb.size:Int))) (by rw[hM.out,AA A4];rfl);have fE:=H0 (λw=>AnC (floatOfInt .f64 (n:Int)) (m-(tb.size:Int)) w hf k3 k4);have cB:(neg=false/\Hid (GA (neg,n,m-(tb.size:Int))=HT (floatOfInt .f64 (n:Int)) (m-(tb.size:Int))))\/(neg=true/\((n:Int)!=0)=false/\Hid (GA (neg,n,m-(tb.size:Int))=HT (floatOfInt .f64 (n:Int)) (m-(tb.size:Int))))\/
    (neg=true/\((n:Int)!=0)=true/\Hid (GA (neg,n,m-(tb.size:Int))=Op.negFloat .f64 (HT (floatOfInt .f64 (n:Int)) (m-(tb.size:Int))))):=by
   cases neg
   ·exact .inl ⟨rfl,H0 rfl⟩
   by_cases h0:n=0
   ·exact .inr (.inl ⟨rfl,Q6,H0 (by unfold GA;rw[AA (λh=>h.2 h0)])⟩)
   exact .inr (.inr ⟨rfl,Xu,H0 Adk⟩)
  have nR:∀v:Nat,Op.unary .neg (.float .f64 v)=(pure (.float .f64 (Op.negFloat .f64 v)):Sem Value):=λv=>rfl;rcases cB with⟨rfl,hW⟩|⟨rfl,s1,hW⟩|⟨rfl,s1,hW⟩<;>rcases eA with rfl|⟨rfl,c2⟩
  all_goals
   go_wp2_with(first|(go_at_call 292;refine(hw2.out _).mono (AH ?_))|(go_at_call 317;refine(fE.out _).mono (AH ?_)));go_ret2;unfold Uw;rw[hyes.out];exact⟨by rw[show∀y,((some y:Option (Bool×Nat×Int)).map GA).getD 0=GA y fromλ_=>rfl,hW.out];rfl,hb4⟩):p:=h
def Ae1(h:p:=by
 obtain⟨r,f,⟨p0,sg,bs,fi,l0⟩,gJ,hD⟩:=hrel;obtain⟨rfl,aH,rfl,rfl,rfl,rfl,hlen,hpl,hsl,hbl,vR,hres,hbel⟩:=hD;dsimp only at aH hlen hpl hsl hbl hres⊢;obtain⟨a4,c4,rfl,kF⟩:=ZB aH;have bD:=hbel.size;obtain⟨f,rfl⟩:∃g,f=g+1:=⟨f-1,A4⟩;by_cases h0:r.size=0
 ·have aX:=(EW r).2 h0;have aD:=A6 (R=some l0) (by rw[hres.out,aX,Ahi]);go_wp2_with fail;go_ret2;exact Aef aD aH hbel
 have hne:r.toList≠[]:=λe=>h0 ((EW r).1 e);have oH:r.toList.isEmpty=false:=by
  cases hr:r.toList with
  |nil=>exact absurd hr hne|cons a b=>rfl
 have hrd:=H0 (λw=>Aw0 r bs w A4 A4);have aF:=hres.out;rw[Adv hne]at aF;dsimp only at aF;cases ho:G0 bs r 0 0 1 with
 |none=>
  rw[ho]at hrd aF;dsimp only at aF;exact Aex
 |some dn=>
  obtain⟨d,n⟩:=dn;rw[ho]at hrd aF;dsimp only at aF;obtain⟨iG,eO,dC⟩:=Zw bs _ 0 0 1 d n ho;rw[AK,Db]at eO;have en:((n:Int)==0)=false:=DV;have hnI:(n:Int)<=r.size:=A4;have hn0I:0<=(n:Int):=A4;have hC:=A6 ((r.extract n r.size).toList=r.toList.drop n) ME;have mH:=A6 ((r.extract n r.size).size=r.size-n) Bk;obtain⟨N,hN⟩:=AI (l0.length);obtain⟨Q,hQ⟩:=AI (p0+d);obtain⟨q,hq⟩:=AI (Q/(N+1));obtain⟨m,hm⟩:=AI (Q%(N+1));obtain⟨S,hS⟩:=AI (sg+q);have aJ:Hz ⟨p0,sg,bs,fi,l0⟩ d=if(decide (N=255)|| !Ce S)=true then none else some ⟨m+1,S,Ha d (N+1) fi,false,Eu l0 m S⟩:=by
   unfold Hz;dsimp only;rw[hN,hQ,hq,hm,hS]
  rw[aJ]at aF;have jW:q<=Q:=Afl;have aY:m<N+1:=AcA;have hQl:Q<=2147483902:=A4;have hSl:S<=2148598013:=A4;have eQ:(p0:Int)+d=(Q:Int):=A4;have eq':(Q:Int)/((N:Int)+1)=(q:Int):=by rw[<-hq];simp
  have em:(Q:Int)%((N:Int)+1)=(m:Int):=by rw[<-hm];simp
  have eS:(sg:Int)+q=(S:Int):=A4;have hneN:¬((N:Int)+1=0):=A4;have q1:(q:Int)<=2147483902:=A4;have m1:(m:Int)<=255:=A4;have N1:(N:Int)<=255:=A4;have kU:=aH;rw[hN]at kU⊢;replace hN:=H0 hN;have cB:=H0 (λw=>Ajh S w);by_cases h255:N=255
  ·rw[AC (by rw[Bx h255];rfl)]at aF;exact Aex
  have e255:((N:Int)==255)=false:=DV;rw[BO h255,Ju]at aF;obtain⟨sb,cJ⟩:=AI (Ce S);rw[cJ]at cB aF;cases sb
  ·rw[Bool.not_false,AC rfl]at aF;replace aF:=H0 aF;go_wp2_with fail;refine(hrd.out _).mono (AH ?_);go_wp2_with fail;refine(cB.out _).mono (AH ?_);go_wp2_with fail;go_ret2;exact NG aF hbel
  rw[AA AE]at aF;dsimp only at aF;have tN:S<=1114111:=by
   unfold Ce at cJ;rw[C0,JY]at cJ;exact cJ.1
  have kL:=H0 (Azs (.slice a4 N c4) w.heap.size l0 m S wr (wr.alloc (.cells #[.int .i64 (S:Int)] 3)) (kU.below ((AU wr wr).alloc (AG _) _) (AG _)) (CB wr _) B7 (λg n' k e=>by have:=kF g n' k (by rw[hN.out];exact e);omega) Xv Xv);have hil:=A6 ((Eu l0 m S).length=N+1) (by rw[Qk _ _ _ Xv,hN.out]);have hnb:=H0 (λw=>Aev d (N+1) fi w dC A4 A4);have qR:=YF d (N+1) fi dC;obtain⟨nb,lB⟩:=AI (Ha d (N+1) fi);rw[lB]at hnb aF qR;have aC:=A6 (R=E5 f (r.extract n r.size).toList ⟨m+1,S,nb,false,Eu l0 m S⟩) (by rw[hC.out];exact aF);replace h255:=H0 h255;have eN:(((N+1:Nat):Int))=(N:Int)+1:=A4;go_wp2_with fail;refine(hrd.out _).mono (AH ?_);go_wp2_with fail;refine(cB.out _).mono (AH ?_);go_wp2_with fail;refine kL.out.mono ?_;rintro e w3⟨v3,rfl,jX,hb3⟩;obtain⟨a5,c5,rfl,-⟩:=ZB jX;have aG:=(hbel.alloc bD _).trans hb3;rw[hil.out]at jX⊢;rw[eN]at hnb;go_wp2_with fail;refine(hnb.out _).mono (AH ?_);go_wp2_with fail;go_roundw;exact⟨r.extract n r.size,f,⟨m+1,S,nb,false,Eu l0 m S⟩,VJ,rfl,jX,Gq,Gq,rfl,rfl,by rw[hil.out];have:=h255.out;omega,by show m+1<=255;have:=h255.out;omega,tN,qR,VJ,aC,aG⟩;simp only[GO];have:=mH.out;omega):p:=h
def U9(h:p:=by
 rintro e w4⟨hres,hb4⟩;rw[<-hf.out]at hres;have fM:=hI.r.lt;have cK:=hI.below.size;have aO:=hI.keep hb4;clear hv;cases R with
 |none=>obtain⟨pv,rfl⟩:=hres;exact⟨rfl,Vo rfl aO.below⟩
 |some u=>
  obtain⟨S,rfl,hu⟩:=hres;go_wp2_with(refine Ax aO.r (AB S) ?_ (h1:=(EO _)));refine Hp rfl rfl rfl (aO.r.set _) (Bj _) ?_;exact RX rfl (hu.row fM cK _) (Au aO.below A4 _)):p:=h
def AcQ(h:p:=by
 obtain⟨R,hR⟩:=AI (D5 sp s);rw[hR];replace hR:=H0 hR;go_in;go_wp2;go_loop[6] (λv7=>∃k:Nat,v7=.int .i64 (k:Int)/\k<=s.size/\Hid (R=(s.toList.take k++(D5 sp (s.toList.drop k)).1,(D5 sp (s.toList.drop k)).2))) (λv7=>s.size-(intOf v7).toNat)
 ·exact⟨0,rfl,AR _,H0 (by rw[C9,J5,Do,hR.out])⟩
 obtain⟨k,rfl,hk,hg⟩:=hrel;by_cases hlt:k<s.size
 ·have aM:=hg.out;rw[Aw s k hlt,D5]at aM;have dA:=DX s k hlt;have aL:=Aw s k hlt;have fW:=V9 sp s[k];generalize hN:B8 sp s[k]=N at aM fW;replace hN:=H0 hN;cases N with
  |false=>
   rw[AA AE]at aM;have aC:=A6 (R=(s.toList.take (k+1)++(D5 sp (s.toList.drop (k+1))).1,(D5 sp (s.toList.drop (k+1))).2)) (by rw[aM,dA,CQ];rfl);change Hid _ at aM dA aL;rcases fW with⟨_,h⟩|⟨q1,rfl,_⟩|⟨_,_,_,h⟩|⟨q1,rfl,q2,_⟩
   ·cases h
   ·go_wp2;exact JT
   ·cases h
   go_wp2;exact JT
  |true=>
   rw[AC rfl,Bq,<-aL]at aM;have jZ:(k:Int)<=s.size:=A4;have hk0:0<=(k:Int):=A4;have h1:=A6 ((s.extract 0 k).toList=R.1) (by rw[aM,toList_extract,C9]);have h2:=A6 ((s.extract k s.size).toList=R.2) Ay6;change Hid _ at aM dA aL;rcases fW with⟨q1,_⟩|⟨_,_,h⟩|⟨q1,rfl,q2,_⟩|⟨_,_,_,h⟩
   ·exact AgY
   ·cases h
   ·exact AgY
   ·cases h
 have hf:=A6 (R=(s.toList,[])) (by
  rw[hg.out,CP s k A4,Bc Dy];show(s.toList++[],[])=_;rw[Bq])
 go_wp2;go_ret2;exact⟨_,_,rfl,H0 (by rw[hf.out]),H0 (by rw[hf.out];exact toList_mk []),AU _ _⟩):p:=h
def Adr(h:p:=by
 have hf:=H0 (aR.trans (AC rfl));clear aR;go_upto_region 6 with(first|((go_at_call 145;refine(hsp.out _).mono (AH ?_)))|((go_at_call 111;refine(cW.out _).mono (AH ?_))));go_wp2_with(refine At hI.b ?_);refine(aF.out _).mono ?_;rintro e w2⟨q,f,rfl,hqv,hfv,hb⟩;have aZ:=Q1 hqv hfv tB uI;obtain⟨S,hS⟩:=AI (Gp p.sch p q f);have h0:S.pathA=none:=K6;have h1:S.pathC=0:=K6;have h2:S.path=[]:=K6;rw[hS]at aZ⊢;change Hid _ at aZ hS h0 h1 h2;have aO:=hI.keep hb;have hF:=aO.fr S;clear hI aO hb aF z6 z0 y0 y1 y2;go_upto_region 7 with(refine Cw (AB (S)) ?_ (h1:=(EO _)));refine As (R:=λwx=>BT w wx (w.heap.size) (AB B) 34 (w.heap.size+1) (Ad p) 72 (w.heap.size+2) w2.heap.size S) hF ?_;clear hF;intro w3 hI;generalize hg:w2.heap.size=g at hI⊢;clear hg;have y1:=(hI.b.at 1).trans (show(Ad p)[1]?=some (.string p.sch)from rfl);have y2:=(hI.b.at 2).trans (show(Ad p)[2]?=some (.string p.rest)from rfl);go_wp2_with(go_at_call 149;refine(nR.out _).mono ?_;rintro e w'⟨⟨r,rfl,bW,hr2⟩,rfl⟩);refine(Xw g S (BZ p.sch.toList p.l) r _ (hI.env cA) hI.g aZ h0 h1 h2 A4).mono ?_;rintro e w4⟨hres,hc⟩;have aR:=hf.out;have mS:=bW.out;rw[hSP.out]at mS;rw[<-mS]at aR;clear mS;clear y1 y2 hv hf;generalize hO:FC (BZ p.sch.toList p.l) r.toList=O at aR hres;replace hO:=H0 hO;cases O with
 |none=>
  exact Xf
 |some u=>
  obtain⟨rfl,S',bV,hu⟩:=hres;have dI:=hI.below.size;have cY:=hI.r.lt;replace hI:=hI.chg hc bV;have hf:=H0 aR;clear hc bV aR;go_wp2_with(first|(refine At hI.g ?_)|(refine Ax hI.r (AB (S')) ?_ (h1:=(EO _))));exact AlS):p:=h
def Pq(h:p:=by have hf:=A6 (R=[c+32]) (hv.trans O3);have hs:=A6 (#[Value.int .i64 ((c:Int)+32)].toList=[c+32].map Cd) (by show[Value.int .i64 _]=[Value.int .i64 _];rw[show(((c+32:Nat)):Int)=(c:Int)+32 from A4]);exact Aaf):p:=h
def Lz(h:p:=by have hno:=A6 (CT s.toList=none) At6;replace aW:=H0 aW;exact X4):p:=h
def Aad(h:p:=by
 by_cases hlt:k<s.size
 ·by_cases h9:(s[k].toNat:Int)=9
  ·have gD:=H0 (Xb (Or.inl h9));have⟨e9,n9⟩:=LQ h9;clear h9;exact Yv
  have⟨e9,n9⟩:=Mz h9;by_cases h10:(s[k].toNat:Int)=10
  ·have gD:=H0 (Xb (Or.inr (Or.inl h10)));have⟨e10,n10⟩:=LQ h10;clear h10;exact Yv
  have⟨e10,n10⟩:=Mz h10;by_cases h13:(s[k].toNat:Int)=13
  ·have gD:=H0 (Xb (Or.inr (Or.inr h13)));have⟨e13,n13⟩:=LQ h13;clear h13;exact Yv
  have gD:=H0 (AoD (show¬((s[k].toNat:Int)=9\/(s[k].toNat:Int)=10\/(s[k].toNat:Int)=13)by omega));have⟨e13,n13⟩:=Mz h13;clear h9 h10 h13;go_wp2_with(at_builtin;refine HZ Gc rfl _ _ rfl s[k] rfl rfl hown hbel aP rfl C1 A4 ?_;intro v' w' ho' bA _);go_roundw;exact⟨k+1,_,A4,AP,Ask hlt hl gD,B7,ho',bA⟩;exact AzF
 exact Ajw):p:=h
def G3(h:p:=by intro w aB;(try dsimp only at aB);go_simp;try with_reducible rfl):p:=h
def Wb(h:p:=by rintro e w6⟨v,l5,rfl,lH,ho,hb⟩;have hg5:=hI.g.lt;have dI:=hI.below.size;have cY:=hI.r.lt;obtain⟨pa,c,rfl,-,-⟩:=Ec ho;have hI:=hI.keep hb;have aO:=hI.set (AY (V) pa c l5);have ho2:=OwnS.row ho hg5 (AB (AY (V) pa c l5));have fX:=lH.out;rw[LL]at fX;replace fX:=H0 fX;clear hb;go_wp2_with(first|(refine BN hI.g 18 (AB (AY (V) pa c l5)) ?_)|(refine At aO.g ?_)|(refine Ax aO.r (AB (AY (V) pa c l5)) ?_));refine Hp rfl rfl rfl (aO.r.set _) (Bj _) ?_;exact aO.fin ⟨⟨Iu hV (fX),ho2⟩,cY,dI⟩ hf):p:=h
def AkV(h:p:=by
 have gT:Dk sch (out.map (·.toList)++[Ai 4 t.toList]) (P.drop (k+1))=R:=by
  rw[<-aM,AA AN]
 change Hid _ at aM gT;go_wp2_with(go_at_call 265;refine(aL.out _).mono (AH ?_));refine(gC.out _).mono ?_;rintro e w5⟨t2,rfl,ht2,hb5⟩;have eH:=aU.trans (hb5.mono cK);have dI:=eH.size;have eZ:OwnS w5 w1 9 (.slice a8 out.length c8) out:=HR dW hb5 (AG _);have kZ:t2.size<=4294967296:=by
  rw[<-AK,ht2.out];have:=I3 4 t.toList;exact KN
 have hf:=A6 (Dk sch ((out++[t2]).map (·.toList)) (P.drop (k+1))=R) (by
  rw[<-gT.out,Dx,<-ht2.out];rfl)
 go_wp2_with(at_builtin;refine psX Es eZ eH dI ?_;intro v' w' ho' bA _);go_roundw;exact⟨k+1,out++[t2],AP,A4,ho',bA,hf,B7,H0 (fJ.out t2 kZ out iK)⟩;simp[intOf];omega):p:=h
def Ad3(h:p:=by
 obtain⟨b1,h1⟩:=AI ((s.toList==[102,116,112]));obtain⟨b3,h3⟩:=AI ((s.toList==[104,116,116,112]));obtain⟨b4,h4⟩:=AI ((s.toList==[104,116,116,112,115]));obtain⟨b5,h5⟩:=AI ((s.toList==[119,115]));obtain⟨b6,h6⟩:=AI ((s.toList==[119,115,115]));have hv:Kh s.toList=if b1=true then some 21 else if(b3||b5)=true then some 80 else if(b4||b6)=true then some 443 else none:=by
  unfold Kh;rw[<-h1,<-h3,<-h4,<-h5,<-h6];simp only[CW,Gd]
 rw[hv];clear hv;have hway:b1=true\/(b1=false/\(b3=true\/(b3=false/\(b5=true\/(b5=false/\(b4=true\/(b4=false/\(b6=true\/b6=false)))))))):=by
  cases b1<;>cases b3<;>cases b4<;>cases b5<;>cases b6<;>simp
 go_in;rcases hway with rfl|⟨rfl,rfl|⟨rfl,rfl|⟨rfl,rfl|⟨rfl,rfl|rfl⟩⟩⟩⟩;all_goals
  go_wp2;go_ret2;exact⟨AN,rfl⟩):p:=h
def AfI(h:p:=by change Hid _ at hc1 hc2 aY hm hfl hcc mX h0;clear hcell aX fB;replace iI:=H0 iI;go_in;go_wp2_with(first|(go_call hno;refine AH ?_)|(refine Lb Es rfl (.const (.slice none 0 0)) (.tmp 29) rfl m (some ⟨g0,o0,none⟩) c rfl MR hc1 hc2 (OwnS.nil _ _ _) (AU w w) (AG _) Ak1 AiW ?_;intro v' w2 ho hb));exact Ob):p:=h
def YD(h:p:=by
 induction l with
 |nil=>rfl
 |cons d r ih=>
  have hg:=Lib.indexByte_ge r c;unfold Lib.indexByte;rw[Nl];by_cases h:d=c
  ·subst h;simp
  have h2:(c==d)=false:=by simpa using Jb h
  have h3:(d==c)=false:=JR;rw[h2,ih,h3];by_cases h1:Lib.indexByte r c=-1
  ·simp[h1]
  have:(Lib.indexByte r c== -1)=false:=by simpa using h1
  simp[this];omega):p:=h
def Aeu(h:p:=by rintro e w6⟨v,l,rfl,hl,ho,hb6⟩;have zJ:=hI.g.lt;have sJ:=hI.r.lt;have vJ:=hI.below.size;have aO:=hI.keep hb6;obtain⟨pa,c,rfl,hlc,-⟩:=Ec ho;have dB:=aO.set (AY (V) pa c l);have hO:=H0 (CS.row (K:=_) ⟨Iu (hi) (L:=_) (hl),ho⟩ zJ (AG _) (AB (AY (V) pa c l)));clear hb6 hI ho;go_wp2_with(first|(refine LF rfl _ _ _ rfl g 18 rfl (.slice pa l.length c) rfl rfl _ (AB (V)) (AB (AY (V) pa c l)) aO.g Xk WW rfl AO ?_)|(refine Cg rfl 34 _ rfl g rfl _ (AB (AY (V) pa c l)) _ _ dB.g underlying34 rfl (Bj _) ?_)|(refine Fb rfl 34 _ _ rfl r (AB (AY (V) pa c l)) rfl rfl 34 _ dB.r (Bj _) rfl (EO _) ?_));exact ZZ):p:=h
def Lv(h:p:=by go_ret;exact⟨rfl,rfl⟩):p:=h
def Adt(h:p:=by
 refine(Xw g S (BZ B.scheme.toList p.l) r _ (hI.env cA) hI.g aZ h0 h1 h2 A4).mono ?_;rintro e w4⟨hres,hc⟩;have aR:=aR.out;rw[<-bW.out]at aR;clear y2 x0 hv;generalize hO:FC (BZ B.scheme.toList p.l) r.toList=O at aR hres;replace hO:=H0 hO;cases O with
 |none=>
  exact Xf
 |some u=>
  exact Ad0):p:=h
def AdZ(h:p:=by
 have h0:0<=(c:Int):=A4;have hway:((c:Int)<55296/\(c:Int)<=1114111/\Ce c=true)\/(55296<=(c:Int)/\(c:Int)<=1114111/\57343<(c:Int)/\Ce c=true)\/(55296<=(c:Int)/\(c:Int)<=1114111/\(c:Int)<=57343/\Ce c=false)\/(1114111<(c:Int)/\Ce c=false):=by
  unfold Ce;by_cases h1:c<55296
  ·grind
  by_cases h2:c<=57343
  ·grind
  by_cases h3:c<=1114111
  ·grind
  grind
 generalize Ce c=v at hway⊢;generalize(c:Int)=z at *;go_in;rcases hway with⟨h1,h2,rfl⟩|⟨h1,h2,h3,rfl⟩|⟨h1,h2,h3,rfl⟩|⟨h1,rfl⟩
 all_goals
  go_wp2;go_ret;simp_all[Value.bool]):p:=h
def Ail(h:p:=by
 rcases hw1 with rfl|rfl
 ·rw[hblk0]at hblk;simp only[LV,Nf,PU,Jr,KA]at hblk;exact⟨hblk.2.symm,Aj.refl _ _,AG _⟩
 rw[Ee hblk0]at hblk;simp only[LV,Nf,KA]at hblk;have:(#[p0,v0]:Array Value).setIfInBounds 0 (.pointer (some ⟨b,0,none⟩))= #[.pointer (some ⟨b,0,none⟩),v0]:=rfl;rw[this]at hblk;simp only[PU,Jr,KA,true_and]at hblk;exact⟨hblk.symm,(Aj.refl _ _).set (.inl rfl) _ _,by simp[World.setCell]⟩):p:=h
def AcU(h:p:=by have nV:=QJ (B:=0) (AR b) bU (Jl iH (AR _)) Re;have⟨_,v3,hblk3,hown3,hne3⟩:=nV;have e3:=(Ee (i:=1) (v:=.slice a2 k2 c2) bU).symm.trans hblk3;simp only[LV,Nf,KA]at e3;have e4:(#[.pointer (some ⟨b,0,none⟩),v]:Array Value).setIfInBounds 1 (.slice a2 k2 c2)= #[.pointer (some ⟨b,0,none⟩),.slice a2 k2 c2]:=rfl;rw[e4]at e3;simp only[PU,Jr,KA,true_and]at e3;subst e3;exact⟨_,_,.inr rfl,hblk3,S5 hown3 iH,hne3⟩):p:=h
def Ajc(h:p:=by
 clear fZ;by_cases hpn:p=n
 ·subst hpn;have hf:=A6 (R=some none) (aI.trans (AC rfl));replace aI:=H0 aI;exact Ahm
 have hf:=A6 (R=some (some n)) (aI.trans (AA (by simpa using hpn)));have rA:((p:Int)==n)=false:=DV;change Hid _ at aI hpn;exact Ahm):p:=h
def Aao(h:p:=by
 rw[AA hdb]at aF;have hwp:wt<=p:=by
  rw[<-hp];exact Nat.le_mul_of_pos_left wt A4
 obtain⟨q,hq⟩:=AI (wt*(36-b));have tR:(wt:Int)*(36-(b:Int))=(q:Int):=by
  rw[<-hq,Int.natCast_mul,Int.natCast_sub A4];rfl
 have jW:q<=75161927680:=Aym;rw[hq]at aF;obtain⟨z,hz⟩:=AI (sum+p);have kC:z<=2147483647:=A4;rw[hz]at aF;go_wp2_with fail;go_call j4;refine AH ?_;go_wp2_with fail;go_call bJ;refine AH ?_;go_wp2;go_round;exact⟨k+1,z,q,Gq,AS,AP,A4,kC,jW,aF⟩;simp[intOf];omega):p:=h
def AbY(h:p:=by rintro e w6⟨v,l5,rfl,lH,ho,hb⟩;have hg5:=hI.g.lt;have dI:=hI.below.size;have cY:=hI.r.lt;obtain⟨pa,c,rfl,-,-⟩:=Ec ho;have hI:=hI.keep hb;have aO:=hI.set (AY (U) pa c l5);have ho2:=OwnS.row ho hg5 (AB (AY (U) pa c l5));have fX:=lH.out;rw[LL]at fX;replace fX:=H0 fX;clear hb;go_wp2_with(first|(refine BN hI.g 18 (AB (AY (U) pa c l5)) ?_)|(refine At aO.g ?_)|(refine Ax aO.r (AB (AY (U) pa c l5)) ?_));refine Hp rfl rfl rfl (aO.r.set _) (Bj _) ?_;exact aO.fin ⟨⟨Iu aZ (fX),ho2⟩,cY,dI⟩ hf):p:=h
def JT(h:p:=by go_round;exact⟨k+1,AP,A4,aC⟩;simp[intOf];omega):p:=h
def Ab5(h:p:=by
 have hway:(lo<=c/\c<=hi/\F1 c lo hi=true)\/(lo<=c/\hi<c/\F1 c lo hi=false)\/(c<lo/\F1 c lo hi=false):=by
  unfold F1;by_cases h1:lo<=c
  ·by_cases h2:c<=hi
   ·exact .inl ⟨h1,h2,by simp[h1,h2]⟩
   exact .inr (.inl ⟨h1,A4,by simp[h2]⟩)
  exact .inr (.inr ⟨A4,by simp[h1]⟩)
 generalize hB:F1 c lo hi=B at hway⊢;go_in;rcases hway with⟨q1,q2,rfl⟩|⟨q1,q2,rfl⟩|⟨q1,rfl⟩;all_goals
  go_wp2;go_ret;first|exact⟨rfl,rfl⟩|exact⟨AS,rfl⟩):p:=h
def Ahp(h:p:=by
 by_cases h0:l.length=0
 ·have cZ:=EP h0;subst cZ;exact Adb
 have⟨g,o,e,hcc⟩:=hcell A4;cases e;refine(Tryz.slices_Clone_string g o l.length c l w (AG _) A4 (λj hj=> ?_)).mono ?_
 ·rw[hcc j hj,LS,Cs hj];rfl
 rintro e w'⟨v,rfl,ho,_,hb⟩;rw[Li]at ho;exact⟨v,rfl,ho,hb⟩):p:=h
def Afx(h:p:=by
 unfold Lib.hasSuffix;rcases List.eq_nil_or_concat l with rfl|⟨L,d,rfl⟩
 ·rfl
 have e:(L++[d]).reverse=d::L.reverse:=by rw[SM];rfl
 have e2:(L++[d]).getLast?=some d:=AhB;try rw[List.concat_eq_append]
 unfold List.isSuffixOf;rw[e,e2];exact Aka):p:=h
def Akl(h:p:=by go_wp2_with(first|(refine Ax (kI.out _ _) #[.int .i64 4,.string ⟨#[]⟩,.int .u32 0,.int .u16 (a0:Int),.int .u16 (a1:Int),.int .u16 (a2:Int),.int .u16 (a3:Int),.int .u16 (a4:Int),.int .u16 (a5:Int),.int .u16 (a6:Int),.int .u16 (a7:Int)] ?_));refine Gs (h:=AW (.six [a0,a1,a2,a3,a4,a5,a6,a7])) rfl rfl rfl rfl (GW (kI.out _ _)) ?_;exact Np hf (Au (aE.alloc dE _) (AG _) _)):p:=h
def AeY(h:p:=by
 rw[show CE (s[0].toNat:Int)=Hx s[0]from rfl]at hl;generalize Hx s[0]=b0 at hl⊢;obtain⟨b1,hb1⟩:=AI ((s[1]==58));obtain⟨b2,hb2⟩:=AI ((s[1]==124));rw[hb1]at q1⊢;rw[hb2]at q2⊢;replace hb1:=H0 hb1;replace hb2:=H0 hb2;replace h2:=H0 h2;go_in;cases b0<;>cases b1<;>cases b2
 all_goals
  go_wp2_with(go_call hl;refine AH ?_);go_ret;exact⟨AN,rfl⟩):p:=h
def Ah7(h:p:=by replace hbr:=H0 hbr;go_in;go_wp2_with fail;go_call cW as e w1⟨rfl,hw⟩;obtain rfl:=hw.symm;clear dS;go_wp2_with fail;refine hbr.out.mono ?_;rintro e w2⟨rfl,hb2⟩;have aE:=aQ.trans (hb2.mono hs0);have cQ:=H0 ((hb2.block _ dV).trans cP);go_wp2_with(refine Ax cQ (AV (AW (R.getD .none))) ?_);refine Gs rfl rfl rfl rfl (GW cQ) ?_;exact⟨rfl,Au aE (AG _) _⟩):p:=h
def AaV(h:p:=by
 induction l with
 |nil=>exact .inl ⟨rfl,rfl⟩
 |cons d r ih=>
  unfold Lib.indexByte AL;by_cases h:d=c
  ·rw[AC JR,AC h];exact .inr ⟨0,rfl,AN,AN⟩
  rw[AA JR,AA h];rcases ih with⟨h1,h2⟩|⟨i,h1,hi,h2⟩
  ·rw[h1,h2];exact .inl ⟨rfl,rfl⟩
  rw[h1,h2];have hn:¬(((i:Int)== -1)=true):=M9;rw[AA hn];exact .inr ⟨i+1,A4,B7,AN⟩):p:=h
def AaS(h:p:=by obtain⟨jL,uF,vD,iX⟩:=fin.out (Kr o) o.isSome;go_wp2_with(first|(refine BN fS 14 (Ao us ps (HS) false (Kr o)) ?_)|(refine BN jL 13 (Ao us ps (HS) o.isSome (Kr o)) ?_)|(refine At uF ?_)|(refine Ax vD (Ao us ps (HS) o.isSome (Kr o)) ?_));refine Mv rfl rfl rfl rfl (vD.out.set _) (ND _ _ _ _ _) ?_;have e:=wN.out;subst e;exact Au3 hf (Au iX (AG _) _)):p:=h
def Sn(h:p:=by
 refine⟨h.1,?_⟩;rcases h.2 with hn|⟨g,cap,cur,rfl,hg,hh,rest⟩
 ·simp_all
 exact .inr ⟨g,cap,cur,rfl,hg,AsJ,rest⟩):p:=h
def Agj(h:p:=by
 refine⟨h.1,?_⟩;rcases h.2 with hn|⟨k,cap,cur,rfl,hk,hh,rest⟩
 ·simp_all
 refine .inr ⟨k,cap,cur,rfl,hk,(hg.block k (En.1 hh).1 ?_).trans hh,rest⟩;rcases hr.2 with⟨rfl,_⟩|⟨g,cap2,cur2,rfl,_,cQ,_⟩
 ·exactλe=>by cases e
 intro e;obtain rfl:k=g:=by simpa[Value.ownBlock]using e
 rw[hh]at cQ;simp at cQ):p:=h
def AdV(h:p:=by go_upto_region 13 with(first|((go_at_call 145;refine(hsp.out _).mono (AH ?_)))|((go_at_call 111;refine(cW.out _).mono (AH ?_))));go_wp2_with(first|(refine At hI.a ?_)|(refine At hI.b ?_));refine(hrel.out _ (cA.out.next hI.below) (gX.out.next hI.below)).mono ?_;exact U9):p:=h
def AjH(h:p:=by
 cases a2
 ·rcases hway with⟨rfl,h⟩|⟨rfl,h,h4⟩|⟨rfl,h,h4⟩;all_goals
   go_wp2_with(first|(go_call Qp;refine AH ?_;first|rw[h1.out]|rw[h2.out]|rw[h3.out]));go_ret;refine⟨?_,rfl⟩;first|rfl|(show Ending.returned (Value.bool _)=_;congr 2;simp<;>omega)
 exact Ahh):p:=h
def AdC(h:p:=by
 have hc1:(some ⟨g0,o0,none⟩:Option Addr)=none->c=0/\m=[]:=λh=>C5;have hc2:0<m.length->∃g o,(some ⟨g0,o0,none⟩:Option Addr)=some ⟨g,o,none⟩/\∀i(h:i<m.length),w.cell? ⟨g,o+i,none⟩=some (.string m[i]):=λh=>by
  refine⟨g0,o0,rfl,λi hi=> ?_⟩;have hil:i<l.length:=by have:=h1.out;omega
  exact Zy
 exact AfI):p:=h
def HG(h:p:=by go_in;go_wp2_with fail;exact Lv):p:=h
def AlV(h:p:=by
 by_cases h2:s.size=2
 ·rw[Awn s h2];have q1:((s[1].toNat:Int)==58)=(s[1]==58):=eqI _ 58;generalize E6 s.toList=b0 at hd⊢;generalize hb1:(s[1]==58)=b1 at q1⊢;go_in;cases b0<;>cases b1
  all_goals
   go_wp2_with(go_call hd;refine AH ?_);go_ret;exact⟨AN,rfl⟩
 rw[Ah8 WN]at hd;rw[Auj WN];go_in;go_wp2_with(go_call hd;refine AH ?_);exact Lv):p:=h
def Ac9(h:p:=by go_call(j8.out b _ eD) as e w5⟨v,l,rfl,hl,ho,hb5⟩;have hg4:=aO.out.g.lt;have cK:=aO.out.chg.size;have hI:=aO.out.keep hb5;obtain⟨pa,c,rfl,hlc,-⟩:=Ec ho;go_wp2_with(refine BN hI.g 18 (AB (AY (G2 S H) pa c l)) ?_);go_end0;exact QG hf (hI.g.set _) (CS.row ⟨Iu hi2 hl,ho⟩ hg4 cK _) (hI.set _).chg):p:=h
def Afa(h:p:=by replace hT:=H0 hT;have hI:=hI.chg eP bV;replace uA:=H0 uA;clear bV eP;obtain⟨e1,e2,e3⟩:=iM;rw[<-e1,<-e2,<-e3]at ho;change Hid _ at e1 e2 e3 ho;go_wp2_with(first|(refine At hI.g ?_)|(refine Ax hI.r (AB (T)) ?_));refine Hp rfl rfl rfl (hI.r.set _) (Bj _) ?_;exact hI.fin ⟨⟨uA,ho⟩,cY,dI⟩ hf):p:=h
def MH(h:p:=by rw[bF.out,AC hvP,Cj Nk,Ch]):p:=h
def ZN(h:p:=by
 rcases eA with rfl|⟨rfl,c2⟩;all_goals
  go_wp2_with(go_at_call 292;refine(hw2.out _).mono (AH ?_));go_ret2;exact Uu hno hb4):p:=h
def AcS(h:p:=by go_upto_region 12 with(first|((go_at_call 145;refine(hsp.out _).mono (AH ?_)))|((go_at_call 111;refine(cW.out _).mono (AH ?_))));go_wp2_with(first|(refine At hI.a ?_)|(refine At hI.b ?_));refine(wI.out _ (gX.out.next hI.below)).mono ?_;exact U9):p:=h
def XC(h:p:=by refine⟨g,o,e,λi hi=> ?_⟩;have:=EV w _ (hc i hi);rw[hb.cell A4];exact hc i hi):p:=h
def Ahv(h:p:=by obtain⟨gY,bQ,nG,hcv⟩:=SS (P:=A8) (S:=9) underlying25 underlying5 underlying9 (UInt8.ofNat (48+n));have e1:IntKind.u8.wrap (48+(n:Int))=48+(n:Int):=UQ _ A4 A4;rw[Ur n h10]at hcv;have bQ:=H0 bQ;go_in;go_wp2_with fail;go_ret;exact Be (by rw[bQ.out.out,Lib.decDigits_one h10]) (Ah _ _)):p:=h
def Vf(h:p:=by
 split at h
 ·split at h
  ·split at h
   ·cases h;omega
   ·cases h
  ·cases h
 ·cases h):p:=h
def Ob(h:p:=by go_ret;rw[Do]at ho;exact⟨_,_,rfl,hv,ho,hb⟩):p:=h
def AgW(h:p:=by
 have hf:=A6 (R=none) (aI.trans (AC hbig));obtain⟨m,hm⟩:=AI (min n Bp);have hmI:65535<(m:Int):=by rw[<-hm];unfold Bp;omega
 rw[hm]at gR;change Hid _ at hm aI hbig;go_wp2_with fail;go_call gR;refine AH ?_;go_wp2;go_ret3;exact Xo hf rfl rfl rfl):p:=h
def Ad0(h:p:=by obtain⟨rfl,S',bV,hu⟩:=hres;have dI:=hI.below.size;have cY:=hI.r.lt;have hI:=hI.chg hc bV;have hf:=H0 aR;clear hc bV aR;go_wp2_with(first|(refine At hI.g ?_)|(refine Ax hI.r (AB (S')) ?_));exact AlS):p:=h
def Abm(h:p:=by have hg4:=hg1.out.lt;have cK:=hc1.out.size;have hg5:=hg1.out.keep hb5;have dN:=hc1.out.next hb5;obtain⟨pa,c,rfl,hlc,-⟩:=Ec ho;go_wp2_with(refine BN hg5 18 (AB (AY S pa c l)) ?_);go_end0;exact QG hf (hg5.set _) (CS.row ⟨Iu nM hl,ho⟩ hg4 cK _) (dN.row rfl _)):p:=h
def TM(h:p:=by
 rw[List.map_map];conv=>rhs;rw[<-List.map_id l]
 apply List.map_congr_left;intro c _;simp):p:=h
def Af6(h:p:=by
 have hf:=A6 (R=some (s.toList.take k,s.toList.drop (k+1))) (by
  rw[hg.out,Aw s k hlt,h];show some (s.toList.take k++[],_)=_;rw[Bq])
 replace h:=H0 h;go_wp2;go_ret;exact⟨_,rfl,H0 (.inr ⟨k,rfl,by rw[AK];exact hlt,hf⟩),rfl⟩):p:=h
def AbS(h:p:=by have he:s.toList.take k=s.toList:=Fh s k A4;rw[he]at cD hlen;have hw:=H0 (Ml w w _ wr cD aP);replace he:=H0 he;go_wp2_with fail;refine hw.out.mono ?_;rintro e w2⟨t,rfl,ht,hb⟩;go_wp2;go_ret;exact Be ht (hbel.trans hb)):p:=h
def Wq(h:p:=by
 refine⟨h.1,?_⟩;rcases h.2 with hn|⟨g,cap,cur,rfl,hg,rest⟩
 ·simp_all
 exact .inr ⟨g,cap,cur,rfl,A4,rest⟩):p:=h
def Ac5(h:p:=by
 rcases h with⟨_,hb,he,hn⟩|⟨h,_⟩
 ·refine .inl ⟨A4,A4,he,?_⟩;rw[DX s k hk,Ge M2];intro c hx;rcases BL.1 hx with hx|hx
  ·exact hn c hx
  simp at hx;rw[hx];exact hc
 omega):p:=h
def Ya(h:p:=by
 by_cases h:c=k
 ·subst h;simp
 rw[B6.2 (show(c:Int)≠(k:Int)by omega),B6.2 h]):p:=h
def ZY(h:p:=by rw[H1]at h;have⟨⟨x,y⟩,hx,e⟩:=h;have:=Akk hx;cases e;simp only[BC];omega):p:=h
def AgZ(h:p:=by have hz:=OQ ht' (XA _);go_wp2;go_ret;refine Be ?_ (hb1.next hb);rw[e.out,toList_append,toList_append,ht'.out,show(ByteArray.mk #[91]).toList=[91]from toList_mk _,show(ByteArray.mk #[93]).toList=[93]from toList_mk _]):p:=h
def AjK(h:p:=by have aE:=aQ.trans (hb2.mono hs0);have cQ:=H0 ((hb2.block _ dV).trans cP);go_wp2_with(refine Ax cQ (AV ⟨5,t,0,z8⟩) ?_);refine Gs rfl rfl rfl rfl (GW cQ) ?_;rw[<-Avt ht.out];exact Np hf (Au aE (AG _) _)):p:=h
def TT(h:p:=by go_wp2;go_ret3;exact Xo hf rfl rfl rfl):p:=h
def Aep(h:p:=by
 obtain rfl:=Cm e;rw[GF,Cs hjl]at hj;have:=hc j hjl;have e2:(⟨g,o,none⟩:Addr).add j=⟨g,o+j,none⟩:=by cases j<;>simp[Addr.add]
 rw[e2,this];exact hj):p:=h
def Vw(h:p:=by have aC:=H0 (hn.out _ h);replace h:=H0 h;go_wp2;go_round;exact⟨k+1,true,rfl,AP,A4,aC⟩;simp[intOf];omega):p:=h
def AdH(h:p:=by go_roundw;exact⟨k+1,k+1,_,AP,A4,A4,AP,aC,B7,ho',bA⟩;simp[intOf];omega):p:=h
def Aja(h:p:=by rename_i n;refine⟨by show(0:Nat)<4294967296;decide,h6,?_⟩;show(ByteArray.mk n.toArray).size<=maxLen;have:(ByteArray.mk n.toArray).size=n.length:=BE;have h7:n.length<=4294967296:=hz;unfold maxLen;omega):p:=h
def Ajk(h:p:=by have:n*2^(52-n.log2)<2^(n.log2+1)*2^(52-n.log2):=Nat.mul_lt_mul_of_pos_right Nat.lt_log2_self (Nat.two_pow_pos _);rw[<-Nat.pow_add,show n.log2+1+(52-n.log2)=53 by omega]at this;exact this):p:=h
def TK(h:p:=by refine Gs rfl rfl rfl rfl (GW cP) ?_;exact Kx hf (Au aQ (AG _) _)):p:=h
def Aii(h:p:=by
 obtain⟨a',c',rfl⟩:=hO.form;rw[Aa]at hO⊢;refine h a' c' w' hO ?_;exact(hbel.alloc hB _).grown aN B7 (λk hk=>(hown.lt k hk).1)):p:=h
def Wo(h:p:=by go_call Tryz.slices_Clone_string_nil;refine AH ?_;exact⟨_,rfl,OwnS.nil _ _ _,AU _ _⟩):p:=h
def Al7(h:p:=by
 have hno:=A6 (CT s.toList=none) (by
  rw[<-hg.out,bZ.out];cases hr:(BU s).drop (k+1)with
  |nil=>rw[Ch,hv]
  |cons y r=>rw[Ch,hv])
 exact X4):p:=h
def XF(h:p:=by go_wp2_with(go_call Qp;refine AH ?_;first|rw[h1.out]|rw[h2.out]|rw[h3.out]);exact Lv):p:=h
def AeF(h:p:=by
 by_cases hc:q<m
 ·rw[AC hc]at aF;exact .inl ⟨Bx hc,H0 aF⟩
 rw[AA hc]at aF;exact .inr ⟨BO hc,H0 (by rw[aF];exact Ri _ _),H0 aF⟩):p:=h
def AeI(h:p:=by go_wp2_with(first|(refine At kQ ?_)|(refine Ax cY (AB T) ?_));refine G8 rfl rfl rfl rfl (cY.set _) (Bj _) ?_;exact⟨T,false,rfl,(by rw[ho.out];exact h6),λe=>LW,Au hb5 (AG _) _⟩):p:=h
def Abt(h:p:=by
 have h1:(ps.map (·.toList))[k]?=some ps[k].toList:=by rw[GF,Cs dL];rfl
 rw[hps.out,Cs yP]at h1;exact(Cm h1).symm):p:=h
def AgC(h:p:=by go_wp2_with(first|(refine At hI.g ?_)|(refine Ax hI.r (AB (AY (De S B) pa c l5)) ?_));refine Hp rfl rfl rfl (hI.r.set _) (Bj _) ?_;exact hI.fin ⟨⟨Iu (Ahl aZ jI) hl2,ho⟩,cY,dI⟩ hf):p:=h
def AlX(h:p:=by go_wp2_with(first|(refine Cw (By z8) ?_)|(refine Ax (kI.out _ _) (AV (AW .none)) ?_));refine Gs rfl rfl rfl rfl (GW (kI.out _ _)) ?_;exact Kx hf (Au (aE.alloc dE _) (AG _) _)):p:=h
def JS(h:p:=by go_in;go_wp2;go_ret3;simp):p:=h
def Aie(h:p:=by
 rcases h with⟨_,hb,he,hn⟩|⟨h,_⟩
 ·refine .inr ⟨A4,?_⟩;have e:s.toList.drop b=(s.toList.take k).drop b:=by rw[Fh s k A4]
  rw[he,e,Nv _ hn];simp[toList_extract]
 omega):p:=h
def Aia(h:p:=by apply wpS_seq;apply wpS_region;simp[wpOpsS,go_sem,recoverD,hu];refine wpS_cond (t:=false) (by simp[Act.eval]) ?_;refine wpS_of_wp (wp_skip ?_);cases c₀;simp_all[bodyPostS,results]):p:=h
def NZ(h:p:=by grind[Bn,K3]):p:=h
def Ab2(h:p:=by have aD:=A6 (R=none) (by rw[iL.out,hno.out cJ];rfl);replace hbs:=H0 hbs;go_wp2_with fail;refine(cB.out _).mono (AH ?_);go_wp2_with fail;go_ret2;exact Lp aD hbel):p:=h
def Acl(h:p:=by
 refine⟨h.1,?_⟩;rcases h.2 with hn|⟨k,cap,cur,rfl,hk,hh,rest⟩
 ·exact .inl hn
 exact .inr ⟨k,cap,cur,rfl,hk,(hc k hk (En.1 hh).1).trans hh,rest⟩):p:=h
def AjB(h:p:=by go_wp2_with(first|(go_at_call 257;refine(hw2.out _).mono (AH ?_))|(go_at_call 260;refine(hw3.out _).mono (AH ?_)));go_ret2;exact QW hno):p:=h
def Wf(h:p:=by refine⟨_,rfl,Abz,H0 (λh=> ?_),rfl⟩;rw[toList_mk];unfold Lib.trimPrefix;rw[AC h];rfl):p:=h
def SR(h:p:=by go_wp2;go_ret;exact⟨v,l,rfl,H0 (by rw[hl.out,hv];rfl),ho,hb⟩):p:=h
def TI(h:p:=by simp[FR,List.sum_cons,BC]at ih⊢;omega):p:=h
def Agv(h:p:=by
 cases hr:(BU s).drop (k+1)with
 |nil=>have:=congrArg List.length hr;rw[C7,Ep]at this;have:=hll.out;omega|cons y r=>exact⟨y,r,rfl⟩):p:=h
def Ag7(h:p:=by rw[hW]at hlb;have hf:=H0 (hno hW);replace hW:=H0 hW;clear hno hyes fO;go_wp2_with fail;go_call hlb as e w4⟨t,rfl,ht,hb4⟩;go_wp2;go_ret2;exact Lp hf (cS.trans (hb4.mono tW))):p:=h
def W4(h:p:=by go_roundw;exact⟨k+1,_,A4,AP,bO,B7,ho',bA⟩;simp[intOf];omega):p:=h
def Z0(h:p:=by
 rw[<-AK];unfold Lib.trimPrefix;split
 ·rw[C7];omega
 exact Mg):p:=h
def AiU(h:p:=by subst hgw;refine Fb cG ty x y ho w cells hx hy t dM (by show(w.heap.push _)[w.heap.size]? =_;simp) hi cL h1 ?_;rw[World.setRow_alloc_new,hd];exact h):p:=h
def AfU(h:p:=by have⟨g,o,e,hc⟩:=h.cells A4;rw[AA A4,e];refine⟨g,o+k,YS,λi hi=> ?_⟩;grind):p:=h
def Af4(h:p:=by go_wp2_with(at_builtin;refine psX Es hown hbel bD ?_;intro v' w' ho' bA _);go_roundw;exact⟨k+1,k+1,l++[s.extract f k],AP,AP,A4,A4,B7,ho',bA,aC⟩;simp[intOf];omega):p:=h
def RU(h:p:=by go_wp2_with fail;go_ret;exact⟨rfl,hI.below⟩):p:=h
def OK(h:p:=by rw[Cl]at this;omega):p:=h
def Aka(h:p:=by show(c==d&&true)=decide (some d=some c);rw[Kj,Fl,CW,JY];exact⟨λh=>by rw[h],λh=>(Cm h).symm⟩):p:=h
def Yv(h:p:=by go_wp2;go_roundw;exact⟨k+1,_,A4,AP,Av6 hlt hl gD,A4,hown,hbel⟩;simp[intOf];omega):p:=h
def Afq(h:p:=by rw[hv]at j6;replace hv:=H0 hv;go_wp2_with fail;go_call j6 as e w3⟨⟨pv,rfl⟩,rfl⟩;refine⟨rfl,?_⟩;unfold Pr;rw[hno.out];exact⟨⟨pv,rfl⟩,cF⟩):p:=h
def VZ(h:p:=by go_call j4;refine AH ?_;go_wp2;go_ret2;exact Aa2 aF):p:=h
def XL(h:p:=by go_wp2_with fail;go_call hw;refine AH ?_;go_wp2;go_ret2;exact⟨rfl,rfl⟩):p:=h
def ZZ(h:p:=by refine G8 rfl rfl rfl rfl (dB.r.set _) (Bj _) ?_;exact Tw hf hO sJ vJ dB.rw dB.below):p:=h
def AaW(h:p:=by go_wp2_with(first|(refine Py rfl _ rfl (l:=Ed) rfl hW.b rfl ?_)|(refine Q0 rfl _ _ rfl (l:=Ed) rfl BE hW.a rfl rfl ?_));exact hW.done rfl rfl rfl rfl Gt Gt):p:=h
def Ad7(h:p:=by
 go_in;rcases hway with rfl|⟨rfl,rfl|⟨rfl,rfl|⟨rfl,rfl|⟨rfl,rfl|⟨rfl,rfl|rfl⟩⟩⟩⟩⟩;all_goals
  go_wp2;go_ret;exact⟨AN,rfl⟩):p:=h
def QO(h:p:=by go_wp2;go_ret2;exact OA hf (toList_mk []) hb1):p:=h
def Acs(h:p:=by
 unfold Dg;dsimp only;by_cases h0:N0=0
 ·rw[AC h0,AC (NK.1 A4)]
 rw[AA h0,AA (λe=>h0 (by rw[<-lN,e];rfl))]):p:=h
def Ahk(h:p:=by have hf:=A6 (R=some (some n)) (aI.trans (AA AN));replace aI:=H0 aI;go_wp2_with fail;go_call gR;refine AH ?_;go_wp2_with fail;go_call fZ;refine AH ?_;exact TT):p:=h
def We(h:p:=by go_ret2;exact⟨t,AyM,H0 (by rw[aD.out];exact ht),hbel.trans (hb.mono aP)⟩):p:=h
def Ace(h:p:=by go_wp2_with fail;exact VA rfl rfl rfl (Wu _ _ _) ⟨td,⟨#[]⟩,false,true,rfl,SQ _ _ _,wU,AR _,H0 (.inr ⟨by rw[aD.out,e00],rfl⟩)⟩):p:=h
def AjI(h:p:=by go_in;go_wp2_with(first|(go_call Tryz.strings_HasPrefix;refine AH ?_)|(go_call hd';refine AH ?_));go_ret2;exact⟨rfl,rfl⟩):p:=h
def AcO(h:p:=by go_wp2_with(first|(refine At hI.a ?_)|(refine At hI.b ?_));refine(vY.out _ (cA.out.next hI.below) (gX.out.next hI.below)).mono ?_;exact U9):p:=h
def Xc(h:p:=by go_round;exact⟨k+1,AP,A4,hn2⟩;simp[intOf];omega):p:=h
def Abd(h:p:=by refine IC ?_ hd hR;rw[OG rfl,h2,h3];simp[asAddr,K8 w g _ 109 _ _ _ hg underlying109 rfl (Kz u wv st)]):p:=h
def AkP(h:p:=by refine⟨by rw[Cl,h.len];omega,A4,λh0=> ?_⟩;have⟨g,o,e,hc⟩:=h.cells A4;rw[e];refine⟨g,o,YS,λi hi=> ?_⟩;grind):p:=h
def KO(h:p:=by go_in;go_wp2;exact Lv):p:=h
def AaE(h:p:=by go_ret;exact⟨Ci (by rw[hw.out]),by rw[hw.out];exact hb,Aj.refl _ _⟩):p:=h
def AeP(h:p:=by go_wp2_with(go_call bT;refine AH ?_);go_round;exact⟨k+1,Bp,acc*10+d,AP,rfl,A4,H0 (AG _),c2,aC⟩;simp[intOf];omega):p:=h
def Wh(h:p:=by
 rcases h.2 with⟨rfl,hn⟩|⟨g,cap,cur,rfl,_⟩
 ·simp_all
 simp_all):p:=h
def AcP(h:p:=by have aD:=A6 (R=none) (by rw[<-hR];unfold GX;rw[AC A4]);replace bH:=H0 bH;go_in;go_wp2_with fail;go_ret2;exact Lp aD (AU _ _)):p:=h
def Ahu(h:p:=by exact⟨0,0,[],rfl,A4,AR _,rfl,H0 (.inl ⟨AR _,AG _,AN,AN⟩),AR _,OwnS.nil _ _ _,AU _ _⟩):p:=h
def Aab(h:p:=by
 refine⟨h.1,?_⟩;rcases h.2 with hn|⟨k,cap,cur,rfl,hk,rest⟩
 ·simp_all
 exact .inr ⟨k,cap,cur,rfl,CR hB hk,rest⟩):p:=h
def AgJ(h:p:=by change Hid _ at h1 h2 h3 h4;go_wp2_with fail;go_meet;exact⟨_,⟨#[]⟩,_,rfl,AG _,h2,H0 ((toList_mk []).trans h3),h4,rfl⟩):p:=h
def ZC(h:p:=by clear hg;go_wp2;go_ret2;unfold Fm;rw[aD.out,o4.out];exact⟨rfl,rfl⟩):p:=h
def Acg(h:p:=by go_meet;exact⟨s,⟨#[]⟩,⟨#[]⟩,rfl,hz,H0 (by rw[hres.out,show(⟨#[]⟩:A9).toList=[]from toList_mk []]),oY,dQ,hb1⟩):p:=h
def AdJ(h:p:=by refine⟨rfl,.inr ⟨w,0,#[],rfl,hB,?_,AG _,AR _,rfl,rfl⟩⟩;show(w.heap.push _)[w.heap.size]? =_;simp):p:=h
def Ak7(h:p:=by rw[Ku];unfold Lib.decodeN;simp only[Di,Do,List.getD_cons_zero,List.getD_cons_succ,BC];grind):p:=h
def XH(h:p:=by go_in;go_wp2_with fail;go_ret;exact Be Yq (hB.alloc (AG _) _)):p:=h
def AeJ(h:p:=by have hno:=A6 (CT s.toList=none) (by unfold CT OM;rw[hll.out,AC h4]);replace hcc:=H0 hcc;exact X4):p:=h
def Aes(h:p:=by
 have:=K5 l;rw[<-j9.out]at this;unfold Dg;dsimp only;split
 ·simp
 rw[Aa,this,List.length_singleton];omega):p:=h
def Rq(h:p:=by rw[World.size_alloc]at this;exact this):p:=h
def Zj(h:p:=by go_ret2;unfold Fm;rw[hno.out];exact⟨rfl,rfl⟩):p:=h
def Agg(h:p:=by replace hv:=H0 hv;go_wp2_with fail;refine aH.out.mono ?_;rintro e w4⟨⟨pv,rfl⟩,hb⟩;exact(hW.next hb).panic rfl hno rfl rfl):p:=h
def Yr(h:p:=by go_in;go_wp2;go_ret;exact⟨_,rfl,hy,AG _,AU _ _⟩):p:=h
def Aaj(h:p:=by have hno:=A6 (I4 p.schemes.l p.hosts.l p.types.l u=false) (by rw[hA.out];rfl);go_wp2;go_ret;exact⟨Ci hno.out.symm,hI.below⟩):p:=h
def Oe(h:p:=by have iF:255<(m:Int):=FE;exact Lz):p:=h
def Aex(h:p:=by replace aF:=H0 aF;go_wp2_with fail;refine(hrd.out _).mono (AH ?_);go_wp2_with fail;go_ret2;exact NG aF hbel):p:=h
def Vz(h:p:=by intro i hi;rw[Ky _ _ _ _ rfl];exact(h.at i hi).2):p:=h
def AbH(h:p:=by change Hid _ at hl sV;go_in;go_wp2_with(go_at_call 261;go_call(jN.out _) as e w'⟨rfl,rfl⟩);go_ret3;exact⟨_,JQ,rfl⟩):p:=h
def AgN(h:p:=by
 rw[hPl];by_cases h:k+1=n2
 ·rw[Bx h,CW];omega
 rw[BO h,B6];omega):p:=h
def Xg(h:p:=by have h1:=hds.symm.trans rD;rw[he]at h1;exact(HY h1).1):p:=h
def Ai8(h:p:=by have:(o.after.all λe=> !Region.binds .any e||(G9 d).getD e.on false)=true:=hr;exactλe he=>Array.all_eq_true'.1 this e he):p:=h
def Zl(h:p:=by
 rcases Bn.1 h with rfl|h
 ·omega
 have:=ih h;omega):p:=h
def Ahh(h:p:=by clear hway;go_wp2_with(first|(go_call Qp;refine AH ?_;first|rw[h1.out]|rw[h2.out]|rw[h3.out]));exact Lv):p:=h
def Ac6(h:p:=by have hf:=A6 (R=some none) (hv.trans (AC hem));have pF:s.toList.isEmpty=true:=Qa;change Hid _ at hv hem;go_in;exact TT):p:=h
def Al5(h:p:=by
 unfold Lib.hasPrefix;cases l with
 |nil=>rfl
 |cons x r=>
  rw[Fl];simp;exact⟨λh=>h.symm,λh=>h.symm⟩):p:=h
def Akf(h:p:=by
 have h0:0<s.size:=by rw[<-AK,h];simp
 refine⟨h0,?_⟩;have:=Aw s 0 h0;rw[h]at this;exact(HY this).1.symm):p:=h
def Acu(h:p:=by go_wp2_with(refine Ax cP (AV (AW .empty)) ?_);refine Gs rfl rfl rfl rfl (GW cP) ?_;exact Np hf (Au aQ (AG _) _)):p:=h
def Ty(h:p:=by go_ret;exact⟨KY,hbel.trans (hb1.mono bD)⟩):p:=h
def Aio(h:p:=by go_wp2_with(refine Ax cQ (AV (AW .none)) ?_);refine Gs rfl rfl rfl rfl (GW cQ) ?_;exact Kx hf (Au aE (AG _) _)):p:=h
def AbN(h:p:=by
 by_cases h:c<55296\/(57344<=c/\c<=1114111)
 ·rw[NS h];repeat' split
  all_goals simp
 unfold An;rw[AC A4];decide):p:=h
def AgP(h:p:=by exact⟨0,d0,rfl,AR _,rfl,(Na _ _ AN).trans (CB _ _),Aty _ _ _,(Ah _ _).alloc AN _⟩):p:=h
def Aaf(h:p:=by go_wp2_with(go_at_call 320;refine(IB _ _ _ _).mono (AH ?_));go_ret;exact⟨_,rfl,OT,Ah _ _⟩):p:=h
def AcF(h:p:=by refine⟨_,rfl,Abz,H0 (λh=> ?_),rfl⟩;rw[toList_mk];unfold Lib.trimSuffix;rw[AC h,OD];rfl):p:=h
def KN(h:p:=by rw[AK]at this;omega):p:=h
def AeA(h:p:=by intro l hl n hn;obtain rfl:l=[]:=EP A4;obtain⟨m,rfl⟩:∃m,n=m+1:=⟨n-1,A4⟩;rfl):p:=h
def Ahc(h:p:=by
 rw[<-ht.out];by_cases h0:j<s.size
 ·rw[Aw s j h0,Rc (by simpa usingλh=>hgo ⟨h0,h⟩)]
 rw[CP s j A4];rfl):p:=h
def UZ(h:p:=by go_ret3;exact⟨_,by rw[hn.out];rfl,rfl⟩):p:=h
def RN(h:p:=by go_in;go_wp2;exact⟨rfl,VS hno⟩):p:=h
def AdR(h:p:=by go_in;go_wp2_with(go_call hno;refine AH ?_);go_ret;exact⟨_,l.dropLast,rfl,fY,zE,H0 (.inr rfl),rfl⟩):p:=h
def AkE(h:p:=by rintro e w'⟨rfl,rfl⟩;go_wp2_with(at_builtin;refine pbX Gc c hown hbel aP ?_;intro v' w' ho' bA _);exact W4):p:=h
def Ua(h:p:=by go_in;go_wp2;go_ret;exact Be e.out.symm hb1):p:=h
def Aar(h:p:=by go_wp2_with(at_builtin;refine LH ArJ rfl _ _ rfl rfl rfl hown hbel aP C1 A4 ?_;intro v' w' ho' bA _);exact AdH):p:=h
def AfJ(h:p:=by go_wp2_with(at_builtin;refine LH Aoi rfl _ _ rfl rfl rfl hown hbel aP C1 A4 ?_;intro v' w' ho' bA _);exact AdH):p:=h
def Ahm(h:p:=by go_wp2_with fail;go_call gR;refine AH ?_;go_wp2_with fail;go_call qW;refine AH ?_;exact TT):p:=h
def Afo(h:p:=by have aE:=hbel.trans hbb;rw[<-aV.out]at hb2;go_wp2;go_roundw;exact⟨k+1,AP,A4,hb2,aE⟩;simp[intOf];omega):p:=h
def Xf(h:p:=by obtain⟨pv,rfl⟩:=hres;exact⟨rfl,Vo aR (hI.out hc)⟩):p:=h
def AjM(h:p:=by have fD:=AK s;rw[hl.out,Zu (l:=s.toList.drop k) Ql,Zu (l:=s.toList.drop (k+1)) Ql,aL,CQ];rfl):p:=h
def AkW(h:p:=by
 by_cases h0:j<s.size
 ·exact .inl ⟨h0,Bo _,Bf _,by simpa usingλh=>hgo ⟨h0,h⟩⟩
 exact .inr A4):p:=h
def Af0(h:p:=by have aC:=H0 (hn.out _ h);replace h:=H0 h;go_wp2;go_round;exact⟨k+1,b,rfl,AP,A4,aC⟩;simp[intOf];omega):p:=h
def AjQ(h:p:=by
 dsimp only;cases Eo nb ((l.map (·.toList)).drop (k+1))with
 |none=>rfl
 |some y=>simp):p:=h
def Adq(h:p:=by exact⟨0,false,rfl,rfl,AR _,H0 (by rw[C9,J5,hR.out];cases R<;>rfl)⟩):p:=h
def Ac8(h:p:=by refine⟨λh=>by subst h;simp,λh=> ?_⟩;rw[B6];exactλh2=>h (CM.1 A4)):p:=h
def Ajl(h:p:=by go_wp2_with fail;go_call jJ as e wx⟨t,rfl,rfl⟩;go_wp2;go_ret;exact⟨_,rfl,aD,AG _,hB⟩):p:=h
def Ajw(h:p:=by have hcv:=Mh (P:=A8) (S:=9) underlying25 underlying5 underlying9 hown;go_wp2;go_ret;exact My AuF hbel):p:=h
def Akz(h:p:=by
 rcases BL.1 ht with ht|ht
 ·exact h t ht
 rw[CO.1 ht];exact hx):p:=h
def AgU(h:p:=by go_call eW as e w2⟨t,rfl,ht,hb⟩;go_wp2;go_ret2;exact⟨t,Adc,H0 (by rw[aI.out];exact ht),hb⟩):p:=h
def AeU(h:p:=by have hf:=A6 (R=none) aI;replace aI:=H0 aI;go_wp2_with fail;go_call t9;refine AH ?_;exact TT):p:=h
def AfE(h:p:=by
 cases h:W.toList with
 |nil=>exact .inl ⟨rfl,rfl,rfl⟩|cons a r=>exact .inr ⟨AN,rfl,rfl⟩):p:=h
def Zy(h:p:=by rw[hcc i hil];congr 2;subst hm;rw[List.getElem_take]):p:=h
def Aem(h:p:=by
 rcases Nat.eq_zero_or_pos s.size with h|h
 ·grind
 exact .inr ⟨A4,h,(AkS s h).trans hP⟩):p:=h
def AdA(h:p:=by refine Mv rfl rfl rfl rfl (hA3.out.set _) (ND _ _ _ _ _) ?_;exact Nh hf (Au aG (AG _) _)):p:=h
def AjF(h:p:=by go_ret2;exact⟨_,by rw[aI.out];rfl,H0 (by rw[aI.out];exact toList_mk [38]),AU _ _⟩):p:=h
def Agt(h:p:=by refine Mv rfl rfl rfl rfl (lP.out.set _) (ND _ _ _ _ _) ?_;exact Nh hf (Au aU (AG _) _)):p:=h
def XW(h:p:=by go_round;exact⟨k+1,AP,A4,hn⟩;simp[intOf];omega):p:=h
def Acm(h:p:=by
 cases hq:(decide (48<=c.toNat)&&decide (c.toNat<=57))
 ·rfl
 rw[hq]at this;cases this):p:=h
def AaI(h:p:=by
 cases hh:(u.scheme==Av)
 ·rfl
 simp_all[Axj]):p:=h
def SU(h:p:=by exact⟨0,rfl,AR _,H0 AS⟩):p:=h
def AdP(h:p:=by
 rw[<-AK];unfold Lib.trimSuffix;split
 ·rw[Cl];omega
 exact Mg):p:=h
def Ac2(h:p:=by go_in;go_wp2;all_goals(go_ret;exact⟨Ci (by rw[Fl];simp[CE];omega),rfl⟩)):p:=h
def AhD(h:p:=by have hf:=A6 (R=none) AbC;go_wp2;go_ret;exact⟨-1,rfl,H0 (Or.inl (And.intro rfl hf)),rfl⟩):p:=h
def Aj7(h:p:=by
 rcases BL.1 hc with hc|hc
 ·grind
 rw[CO.1 hc];decide):p:=h
def AiG(h:p:=by
 rw[aF,mI,l9];by_cases hp0:p<0
 ·rw[AC hp0]
 rw[AA hp0,AC A4]):p:=h
def Tp(h:p:=by go_ret;exact⟨Ci aD.out.symm,dQ⟩):p:=h
def VN(h:p:=by go_wp2;go_ret;exact⟨Mt LP,rfl⟩):p:=h
def Adb(h:p:=by go_call Tryz.slices_Clone_string_zero as e w'⟨v,rfl,ho,_,hb⟩;exact⟨v,rfl,ho,hb⟩):p:=h
def Vy(h:p:=by go_wp2;go_ret;exact⟨by rw[hf2.out];rfl,rfl⟩):p:=h
def Ak6(h:p:=by replace hP:=H0 hP;go_wp2;go_ret;exact Be (by rw[<-he.out,hP.out];exact toList_mk _) hbel):p:=h
def R4(h:p:=by rw[Aa];omega):p:=h
def AlI(h:p:=by exact⟨_,_,_,_,rfl,ht,rfl,rfl,rfl,((Ah _ _).alloc AN _).toExt (by simp<;>omega) _ _⟩):p:=h
def AlB(h:p:=by go_in;go_wp2_with fail;go_call Ay3;refine AH ?_;go_wp2;go_ret;exact⟨rfl,hB⟩):p:=h
def AdE(h:p:=by rw[RG,Aa,Hd,Hd,<-Afe,AK];exact hown'):p:=h
def Aj3(h:p:=by change Hid _ at h2 h3 h4;go_wp2_with fail;go_meet;exact⟨_,_,_,rfl,Aj6,h2,h3,h4,rfl⟩):p:=h
def VE(h:p:=by exact⟨0,rfl,AR _,rfl⟩):p:=h
def Uo(h:p:=by exact⟨s,rfl,AG _,rfl⟩):p:=h
def VM(h:p:=by go_ret;exact⟨_,rfl,j2,hus,rfl⟩):p:=h
def Ajs(h:p:=by rw[AC h9,AA (by intro e;have:=congrArg List.length e;simp at this;omega)];simp):p:=h
def AfH(h:p:=by rw[hs1];rw[Array.toList_map];show Instr.fill _ _ [(0,a.eval x)]=_;rw[hx];kernel_rfl):p:=h
def AcH(h:p:=by rw[this,Rm l (j-1) A4];simp only[List.getElem_drop,List.getElem_map];congr 3;omega):p:=h
def Abi(h:p:=by have hn2:=aC AS;go_wp2_with(go_at_call 111;go_call(jU.out _) as e w'⟨rfl,rfl⟩);exact Xc):p:=h
def Ajb(h:p:=by exact⟨_,_,_,_,rfl,toList_mk [],rfl,rfl,rfl,Ey ((Ah _ _).alloc AN _) _⟩):p:=h
def AdD(h:p:=by go_wp2;go_ret;exact⟨_,rfl,H0 (by rw[hv.out];exact BQ ..),rfl⟩):p:=h
def Akw(h:p:=by go_wp2;go_roundw;exact⟨f,k+1,l,rfl,AP,A4,A4,A4,hown,hbel,aC⟩;simp[intOf];omega):p:=h
def Aeq(h:p:=by go_wp2;go_roundw;exact⟨k+1,b,l,AP,A4,A4,rfl,aC,A4,hown,hbel⟩;simp[intOf];omega):p:=h
def AlP(h:p:=by
 rcases cJ.out with h|h
 ·have:=Nat.two_pow_pos (8*(4-k));omega
 exact h.2):p:=h
def TZ(h:p:=by rw[this];unfold strOfNums;rw[hx]):p:=h
def Aju(h:p:=by
 unfold Dg;split
 ·simp
 rw[Aa,List.length_singleton];omega):p:=h
def WQ(h:p:=by rw[Aa,BC];omega):p:=h
def AcG(h:p:=by simp only[World.iterAt];rw[Array.getElem?_setIfInBounds_ne A4];exact h.block j hj):p:=h
def AjN(h:p:=by exact(((kP.out.row (g:=w.heap.size+2) A4 _).row (g:=w.heap.size+1) A4 _)).low A4):p:=h
def Vi(h:p:=by go_wp2;go_ret;exact⟨Awy,rfl⟩):p:=h
def UE(h:p:=by go_wp2;go_ret;exact⟨KY,hbel⟩):p:=h
def Aen(h:p:=by have fA:=h.cap;refine⟨by rw[C7,h.len],A4,λh0=> ?_⟩;exact AfU):p:=h
def ZT(h:p:=by rw[CO.1 hc];unfold Pd;decide):p:=h
def AiH(h:p:=by exact⟨0,[],AR _,rfl,rfl,AR _,BM.nil _ _ _,AU _ _⟩):p:=h
def Aip(h:p:=by go_wp2;go_roundw;exact⟨k+1,i+5,_,rfl,AP,A4,A4,hf,hd2,aG⟩;simp[intOf];omega):p:=h
def Ahj(h:p:=by
 cases hN:Fo (l[0]' A4).toList
 ·rfl
 exact absurd ⟨rfl,h1,hN⟩ hA):p:=h
def Mg(h:p:=by exact AG _):p:=h
def Agz(h:p:=by go_in;go_wp2;all_goals(go_ret;exact⟨Mt (by simp only[AQ,PP];omega),rfl⟩)):p:=h
def ZV(h:p:=by go_ret;exact⟨by rw[<-hf2.out];rfl,hb2⟩):p:=h
def AjG(h:p:=by rw[UY];have:=List.count_le_length (a:=(F4 l sg).toNat) (l:=l);dsimp only;omega):p:=h
def AgY(h:p:=by
 go_wp2;go_region;all_goals
  go_wp2;go_ret2;exact⟨_,_,rfl,h1,h2,Awf⟩):p:=h
def Tx(h:p:=by go_wp2;go_ret;exact⟨NF,rfl⟩):p:=h
def Ady(h:p:=by go_wp2_with(go_call(GS _ _ _ (Bo _) (Bf _)) as e w'⟨rfl,rfl⟩);exact Zj):p:=h
def AgM(h:p:=by rw[<-aV.out]at ho';go_roundw;exact⟨k+1,AP,A4,ho',bA⟩;simp[intOf];omega):p:=h
def Adu(h:p:=by rw[DB,DB]at hn;exact⟨h.below.alloc US _,AS,h.a.alloc _,h.b.alloc _,hn⟩):p:=h
def AgX(h:p:=by exact⟨0,rfl,AR _,H0 (by rw[C9];exact hR.out.symm)⟩):p:=h
def Aib(h:p:=by
 unfold Lib.hasPrefix
 match l with
 |[]=>rfl|x::r=>simp[List.isPrefixOf]):p:=h
def AaX(h:p:=by go_wp2;refine⟨rfl,?_⟩;unfold Pr;rw[hno.out];exact⟨⟨_,rfl⟩,cF⟩):p:=h
def AeZ(h:p:=by have h1:=iQ.out;have h2:16^(k+1)<=16^4:=KP AE A4;omega):p:=h
def AbR(h:p:=by refine⟨h.len,h.cap,λh0=> ?_⟩;have⟨g,o,e,hc⟩:=h.cells h0;exact XC):p:=h
def Afw(h:p:=by have aC:=aC rfl;go_wp2;go_round;exact⟨i+1,AP,A4,aC⟩;simp[intOf];omega):p:=h
def Acf(h:p:=by have n1:((s.size:Int)==2)=false:=DV;rw[Ah8 WN];replace h2:=H0 h2;exact KO):p:=h
def AlS(h:p:=by refine Hp rfl rfl rfl (hI.r.set _) (Bj _) ?_;exact hI.fin ⟨hu,cY,dI⟩ hf):p:=h
def OH(h:p:=by split<;>simp<;>omega):p:=h
def Oz(h:p:=by rw[bF.out,AC hvP]):p:=h
def AcX(h:p:=by rw[toList_extract,Fh _ _ (AG _),<-Ka,rD.out,he];rfl):p:=h
def UH(h:p:=by exact⟨rfl,AU _ _⟩):p:=h
def Aix(h:p:=by rw[Fe hk,Dx];exact h.snoc hx):p:=h
def AgR(h:p:=by
 cases hs:r.toList with
 |nil=>exact absurd hs hem|cons a r=>rfl):p:=h
def AlT(h:p:=by go_wp2;go_round;exact⟨k+1,AP,A4,by rw[aC.out]⟩;simp[intOf];omega):p:=h
def X4(h:p:=by go_wp2_with fail;go_ret2;exact Arw hno hb):p:=h
def AkM(h:p:=by
 split at hg
 ·split at hg
  ·omega
  grind
 grind):p:=h
def AdM(h:p:=by clear hR hlast;change Hid _ at aV h32 h59;go_wp2;go_ret;exact Be aD hB):p:=h
def Ajn(h:p:=by go_in;go_wp2;all_goals(go_ret;exact⟨Ci (by simp_all[CL]),rfl⟩)):p:=h
def AfC(h:p:=by go_wp2;go_round;exact⟨k+1,false,rfl,AP,A4,aC⟩;simp[intOf];omega):p:=h
def RR(h:p:=by unfold Lib.decodeN;grind):p:=h

end Go.Proofs
namespace Go.Proofs.YtonomfeipkdmhaaGreatDoor
open Go renaming wpList->Aq,Program->Dj,maxLen->BK,Operand->CV,World->A7,Value->AJ,TypeId->Ab,Ending->Ag
open Go.RowKit renaming Below->AF
open Go.RowKit Go.Proofs.Tryz
open Go.Proofs.Tryz renaming prog->A8
def H0{p:Prop}(h:p):Hid p:=Lib.hid h
def A6 (p:Prop) (h:p):Hid p:=Lib.hid h
def Ah (w:World) (o):Below w w (w.alloc o):=(Below.refl _ _).alloc (Nat.le_refl _) _
def AI{α:Sort _}(a:α):∃ x,a=x:=⟨a,rfl⟩
def Hy:(∀ (a:Act) (d:Option Tmp) (v:Value),Act.put a d v=match d with|some d=>{a with tmps:=a.tmps.setIfInBounds d v}|none=>a)∧(∀ (l:List Value) (i:Nat) (v:Value),l.toArray.setIfInBounds i v=(l.set i v).toArray)∧(∀ (x v:Value) (l:List Value),(x::l).set 0 v=v::l)∧(∀ (x v:Value) (l:List Value) (i:Nat),(x::l).set (i+1) v=x::l.set i v):=⟨fun _ _ _=>rfl,fun _ _ _=>List.setIfInBounds_toArray ..,fun _ _ _=>rfl,fun _ _ _ _=>rfl⟩
variable{md:Region.Mode}{ops:Array Oper}{S:World→Prop}{fuel:Nat}{listed:Array Bool}{a:Act}
def JW{P:Program}{Q:Exit→Act→World→Prop}{w:World}(i d:Nat)(v:Value){op ty pos after guard}(hS:S w)(hy:∀ w,S w→(execOp a.eval ⟨some d,op,ty,pos,after,guard⟩).run P w=.ok (.value v) w)(h:wpAnyH P md ops Q S fuel (listed.setIfInBounds i true) (a.put (some d) v) w)(h1:ops[i]? =some ⟨some d,op,ty,pos,after,guard⟩:=by rfl)(h2:Region.noSelect ops=true:=by kernel_rfl)(h3:Region.free md ops listed i=true:=by kernel_rfl)(h4:(Region.ready md ops listed).contains i=true:=by kernel_rfl)(h5:Region.wanted (⟨some d,op,ty,pos,after,guard⟩:Oper) (yielded ops a.tmps)=true:=by rfl)(h6:∀ c a w,Q (.panic c) (a.put (some d) v) w→Q (.panic c) a w:=by exact fun _ _ _ h=>h):wpAnyH P md ops Q S (fuel+1) listed a w:=wpAnyH_take h1 h2 h3 h4 h6 (Or.inl ⟨h5,hy⟩) hS h
variable{o:Oper}
def Vu{P:Program}{Q:Exit→Act→World→Prop}{w:World}(i:Nat)(h:∀ K':Act→World→Prop,Shut (∀ a w,S w→(S w→wpAnyH P md ops Q S fuel (listed.setIfInBounds i true) a w)→K' a w)→if Region.wanted o (yielded ops a.tmps)=true then Oper.wp P o a w K' Q else K' (a.put o.dst undef) w)(ho:ops[i]? =some o:=by exact rfl)(hr:Region.ready md ops listed=[i]:=by kernel_rfl):wpAnyH P md ops Q S (fuel+1) listed a w:=wpAnyH_ready hr (by simp) (AllReadyH.cons ho h AllReadyH.nil)
def Avr:(∀ (a:Act) (d:Option Tmp) (v:Value),Act.put a d v=match d with|some d=>{a with tmps:=a.tmps.setIfInBounds d v}|none=>a)∧(∀ (l:List Value) (i:Nat) (v:Value),l.toArray.setIfInBounds i v=(l.set i v).toArray)∧(∀ (x v:Value) (l:List Value),(x::l).set 0 v=v::l)∧(∀ (x v:Value) (l:List Value) (i:Nat),(x::l).set (i+1) v=x::l.set i v):=⟨fun _ _ _=>rfl,fun _ _ _=>List.setIfInBounds_toArray ..,fun _ _ _=>rfl,fun _ _ _ _=>rfl⟩
def Tok{P:Program}{Q:Exit→Act→World→Prop}{a':Act}{w:World}(i d:Nat){v:Value}{op ty pos after guard}(hS:S w)(h:wpAnyH P md ops Q S fuel (listed.setIfInBounds i true) a' w)(h1:ops[i]? =some ⟨some d,op,ty,pos,after,guard⟩:=by rfl)(h2:Region.noSelect ops=true:=by kernel_rfl)(h3:Region.free md ops listed i=true:=by kernel_rfl)(h4:(Region.ready md ops listed).contains i=true:=by kernel_rfl)(h5:Region.wanted (⟨some d,op,ty,pos,after,guard⟩:Oper) (yielded ops a.tmps)=true:=by rfl)(h6:∀ c a w,Q (.panic c) (a.put (some d) v) w→Q (.panic c) a w:=by exact fun _ _ _ h=>h)(hy:∀ w,S w→(execOp a.eval ⟨some d,op,ty,pos,after,guard⟩).run P w=.ok (.value v) w:=by intro w hSw; (try dsimp only at hSw); go_simp; try with_reducible rfl)(hp:a.put (some d) v=a':=by (try simp only [Avr]); rfl):wpAnyH P md ops Q S (fuel+1) listed a w:=by subst hp; exact wpAnyH_take h1 h2 h3 h4 h6 (Or.inl ⟨h5,hy⟩) hS h
def Ci{a b:Bool}(h:a=b):Ending.returned (.bool a)=.returned (.bool b):=by rw[h]
def Mt{k:IntKind}{a b:Int}(h:a=b):Ending.returned (.int k a)=.returned (.int k b):=by rw[h]
def Mz{a b:Int}(h:¬a=b):(a==b)=false/\(a !=b)=true:=by simp[h]
def LQ{a b:Int}(h:a=b):(a==b)=true/\(a !=b)=false:=by simp[h]
def DS(c:UInt8):AJ:=.int .u8 (c:Int)
def Bi(w:A7)(l:A5)(e:Ag)(w':A7):Prop:=
 ∃t:A9,e=.returned (.string t)/\Hid (t.toList=l)/\AF w w w'
variable{w w':A7}{l:A5}{t:A9}
def Be(h:t.toList=l)(a:AF w w w'):Bi w l (.returned (.string t)) w':=⟨t,rfl,h,a⟩
def My{m:A5}(h:m=l)(a:AF w w w'):Bi w l (.returned (.string ⟨m.toArray⟩)) w':=⟨_,rfl,(ByteArray.toList_mk m).trans h,a⟩
def GG(w:A7)(b:Bool)(e:Ag)(w':A7):Prop:=e=.returned (.bool b)/\AF w w w'
def Ao0(w:A7)(n:Int)(e:Ag)(w':A7):Prop:=e=.returned (.int .i64 n)/\AF w w w'
theorem AK(s:A9):s.toList.length=s.size:=Sj
def toList_extract(s:A9)(a b:Nat):(s.extract a b).toList=(s.toList.take b).drop a:=by
 rw[BQ,BQ,ByteArray.data_extract,Array.toList_extract,List.drop_take]
def toList_append(s t:A9):(s++t).toList=s.toList++t.toList:=by
 rw[BQ,BQ,BQ];simp
theorem JG(s:A9)(i:Nat)(h:i<s.size):s.toList[i]' Nt=s[i]:=by
 simp only[BQ];rfl
def toList_mk(l:A5):(ByteArray.mk l.toArray).toList=l:=ByteArray.toList_mk l
theorem Lo{s:A9}(h:s.toList=t.toList):s=t:=by
 rw[BQ,BQ]at h;cases s;cases t;simp at h;rw[h]
def Aw(s:A9)(k:Nat)(h:k<s.size):s.toList.drop k=s[k]::s.toList.drop (k+1):=by
 rw[Fr Nt,JG]
def CP(s:A9)(k:Nat)(h:s.size<=k):s.toList.drop k=[]:=Cj Nt
def Bf(c:UInt8):(c:Int)<=255:=by have:=c.toNat_lt;omega
def Bo(c:UInt8):0<=(c:Int):=A4
def PF{P:Program}{f:FuncId}{fn:Func}{c:Code}(hf:P.funcs[f]? =some fn)(fR:(fn.name== "runtime.NumGoroutine")=false)(hb:fn.body=some c)(args:Array Value)(w:World):
  (callFunc f args).run P w=.ok (.enter f args) w:=by
 simp[callFunc,hf,(by simpa using fR),hb]
def GO:AJ->Nat| .string s=>s.size|_=>0
def EW(s:A9):s.toList=[]↔s.size=0:=by rw[<-AK,NK]
def DX(s:A9)(k:Nat)(h:k<s.size):s.toList.take (k+1)=s.toList.take k++[s[k]]:=by
 rw[Fe Nt,JG _ _ h]
theorem Fh(s:A9)(k:Nat)(h:s.size<=k):s.toList.take k=s.toList:=Bc Nt
structure Fs(P:Dj)(T E:Ab)(z:AJ)(b:Nat):Prop where
 u:P.underlying T=some (.slice E)
 i:∃i,P.info? E=some i/\i.zero=some z/\i.size=1/\i.bytes=b
 z:z.cells.size=1
variable{P:Dj}{T E:Ab}{b:Nat}
def Fs.mk'{z:AJ}(u:P.underlying T=some (.slice E))(h:(P.info? E).map (λi=>(i.zero,i.size,i.bytes))=some (some z,1,b))(a:z.cells.size=1):Fs P T E z b:=
 ⟨u,IQ h,a⟩
def Uh(w:A7)(u:AJ)(e:Ab):∀j x,[u][j]?=some x->(w.alloc (.cells #[u] e)).cell? ((⟨w,0,none⟩:Addr).add j)=some x:=by
 intro j x a
 match j,a with
 |0,a=>simp at a;subst a;simp[Addr.add]
variable{rest:List Oper}{Q:Exit->Act->A7->Prop}{W0 w0:A7}{B:Nat}{v:AJ}
def Xq{z:AJ}(ty:Fs P T E z b)(p:o.guard=none)(s x:CV)(q:o.op=.call {callee:=.builtin .append,args:= #[s,x],argTypes:= #[T,T]}){u:AJ}{xs:List AJ}(hu:u.oneCell'=true)(m:a.eval s=v)(hx:a.eval x=.slice (some ⟨w0,0,none⟩) 1 1)(c:w0.ownsRow B E 1 v xs.length xs)(f:AF B W0 w0)(j:B<=w0.heap.size)(g:xs.length+1<=BK)(r:(xs.length+1)*b<=140737488355328)(h:∀e w',w'.ownsRow B E 1 e (xs.length+1) (xs++[u])->AF B W0 w'->(e=.slice none 0 0->False)->Aq P ops Q rest (a.put o.dst e) w'):Aq P ops Q (o::rest) a (w0.alloc (.cells #[u] E)):=by
 have⟨i,hi,hz,hs1,hb1⟩:=ty.i;refine Ig (w0.alloc (.cells #[u] E)) p s x T q B E i z 1 b ty.u hi hz hs1 hb1 ty.z AE v xs.length xs m (c.alloc _) ⟨w0,0,none⟩ 1 1 [u] hx rfl
  (Uh w0 u E) AS g r B7 ?_
 intro e w' d n w;refine h e w' d ?_ (λt=>AS);exact(f.alloc j _).grown n B7 (λk l=>(c.lt k l).1)
def BM(w:A7)(B:Nat)(E:Ab)(v:AJ)(l:A5):Prop:=w.ownsRow B E 1 v l.length (l.map DS)
def DZ{p:UInt8->Prop}(h:∀n:Fin 256,p (UInt8.ofNat n.val))(c:UInt8):p c:=by simpa using h ⟨c.toNat,c.toNat_lt⟩
def OwnS(w:A7)(B:Nat)(E:Ab)(v:AJ)(l:List A9):Prop:=w.ownsRow B E 1 v l.length (l.map Value.string)
def BM.nil(w:A7)(B:Nat)(E:Ab):BM w B E (.slice none 0 0) []:=KQ _ _ _ _
def OwnS.nil(w:A7)(B:Nat)(E:Ab):OwnS w B E (.slice none 0 0) []:=KQ _ _ _ _
def HZ{z:AJ}(ty:Fs P T E z b)(m:o.guard=none)(s x:CV)(p:o.op=.call {callee:=.builtin .append,args:= #[s,x],argTypes:= #[T,T]}){n:Int}(c:UInt8)(k:a.eval s=v)(hx:a.eval x=.slice (some ⟨w0,0,none⟩) 1 1)(e:BM w0 B E v l)(f:AF B W0 w0)(g:B<=w0.heap.size)(hc:n=(c:Int))(j:l.length+1<=BK)(r:(l.length+1)*b<=140737488355328)(h:∀d w',BM w' B E d (l++[c])->AF B W0 w'->(d=.slice none 0 0->False)->Aq P ops Q rest (a.put o.dst d) w'):Aq P ops Q (o::rest) a (w0.alloc (.cells #[.int .u8 n] E)):=by
 subst hc;refine Xq ty m s x p (xs:=l.map DS) rfl k hx (by simpa[BM]using e) f g AS AS ?_;intro d w' h1 q i;refine h d w' ?_ q i;simpa[BM,DS]using h1
def LH{z:AJ}(ty:Fs P T E z b)(k:o.guard=none)(s x:CV)(m:o.op=.call {callee:=.builtin .append,args:= #[s,x],argTypes:= #[T,T]}){l:List A9}(j:a.eval s=v)(hx:a.eval x=.slice (some ⟨w0,0,none⟩) 1 1)(d:OwnS w0 B E v l)(e:AF B W0 w0)(f:B<=w0.heap.size)(i:l.length+1<=BK)(p:(l.length+1)*b<=140737488355328)(h:∀c w',OwnS w' B E c (l++[t])->AF B W0 w'->(c=.slice none 0 0->False)->Aq P ops Q rest (a.put o.dst c) w'):Aq P ops Q (o::rest) a (w0.alloc (.cells #[.string t] E)):=by
 refine Xq ty k s x m (xs:=l.map Value.string) rfl j hx (by simpa[OwnS]using d) e f AS AS ?_;intro c w' h1 n g;refine h c w' ?_ n g;simpa[OwnS]using h1
def CA(w:A7)(v:AJ)(l:List A9):Prop:=
 ∃a c,v=.slice a l.length c/\(0<l.length->∃g o,a=some ⟨g,o,none⟩/\∀i(h:i<l.length),w.cell? ⟨g,o+i,none⟩=some (.string l[i]))
def OwnS.read{l:List A9}(h:OwnS w B E v l):CA w v l:=by
 rcases h.2 with⟨rfl,d⟩|⟨g,a,c,rfl,m,j,k,o,b,e⟩
 ·exact⟨none,0,by rw[d],λf=>A4⟩
 refine⟨_,a,rfl,λ_=>⟨g,0,rfl,λi n=> ?_⟩⟩;have:=KH h i A4;rw[Db,this];simp
def OwnS.alloc{l:List A9}(h:OwnS w B E v l)(o:Obj):OwnS (w.alloc o) B E v l:=World.ownsRow.alloc h o
variable{K:Nat}
def OwnS.below{l:List A9}(h:OwnS w B E v l)(hb:AF K w w')(a:w.heap.size<=K):OwnS w' B E v l:=by
 exact Sn
def CA.below{l:List A9}(h:CA w v l)(e:AF K w w')(j:w.heap.size<=K):CA w' v l:=by
 obtain⟨a,c,rfl,hc⟩:=h;refine⟨a,c,rfl,λf=> ?_⟩;obtain⟨g,o,rfl,b⟩:=hc f;refine⟨g,o,rfl,λi d=> ?_⟩;have:=EV w _ (b i d);rw[e.cell A4];exact b i d
def CA.built(w:A7)(E:Ab)(l:List A9)(c:Nat):CA (w.alloc (.cells (l.map Value.string).toArray E)) (.slice (some ⟨w,0,none⟩) l.length c) l:=by
 refine⟨_,c,rfl,λ_=>⟨_,0,rfl,λi a=> ?_⟩⟩;have:(w.alloc (.cells (l.map Value.string).toArray E)).heap[w.heap.size]?=some (.cells (l.map Value.string).toArray E):=CB w _;simp only[World.cell?,this];simp
def Below.step{a:A7}(h:AF B a w)(b:B<=w.heap.size)(k:AF w w w'):AF B a w':=h.trans (k.mono b)
def AaH(w:A7)(E:Ab)(ls:List (A5))(e:Ag)(w':A7):Prop:=
 ∃(v:AJ)(l:List A9),e=.returned v/\Hid (l.map (·.toList)=ls)/\OwnS w' w E v l/\AF w w w'
def IX(w:A7)(g:Nat)(E:Ab)(l:A5):Prop:=
 ∃(cur:Array AJ)(m:Nat),w.heap[g]?=some (.cells cur E (m,m+1))/\l.length<=m/\cur.toList.take l.length=l.map DS
def IX.made(w:A7)(E:Ab)(s:A9):IX (Lib.bytesWorld w E s) w.heap.size E s.toList:=by
 refine⟨_,_,Lib.bytesWorld_at_new w E s,?_,?_⟩
 ·rw[BQ];simp only[Lib.bytesCells,Of,Ok,Array.size_map];omega
 rw[BQ];simp only[Lib.bytesCells,Array.toList_append,Array.toList_map];rw[TF AN,Bc AN];rfl
def Below.bytesWorld{a:A7}(h:AF B a w)(b:B<=w.heap.size)(E:Ab)(s:A9):AF B a (Lib.bytesWorld w E s):=by
 refine h.trans ⟨?_,?_,?_,by rw[Lib.bytesWorld_size];omega,λk c=>Lib.bytesWorld_at_old w E s k A4⟩;all_goals(unfold Lib.bytesWorld World.freeze;split<;>rfl)
variable{g:Nat}
def IX.cell(h:IX w g E l)(j:Nat)(a:j<l.length):w.cell? ⟨g,j,none⟩=some (DS l[j]):=by
 have⟨cur,m,hh,_,ht⟩:=h;have:cur.toList[j]?=some (DS l[j]):=by
  have h1:(cur.toList.take l.length)[j]?=(l.map DS)[j]? :=by rw[ht]
  rw[RO,AC a]at h1;rw[h1];simp[a]
 simpa[World.cell?,hh]using this
def IX.free(h:IX w g E l)(j:Nat)(a:j<l.length):w.frozen? ⟨g,j,none⟩=false:=by
 have⟨cur,m,hh,hm,_⟩:=h;simp[World.frozen?,hh];omega
def IX.set(h:IX w g E l)(j:Nat)(a:j<l.length)(c:UInt8):IX (w.setCell ⟨g,j,none⟩ (DS c)) g E (l.set j c):=by
 have⟨cur,m,hh,hm,ht⟩:=h;refine⟨cur.setIfInBounds j (DS c),m,?_,AS,?_⟩
 ·simp only[World.setCell,Js,hh];rfl
 simp[List.length_set,Array.toList_setIfInBounds,List.map_set];rw[<-ht,List.take_set]
def Ate{S:Ab}(d:P.underlying T=some (.slice E))(e:P.underlying E=some (.int .u8))(f:P.underlying S=some .string)(h:IX w g E l)(n a:Nat)(j:n=l.length):(convert T S (.slice (some ⟨g,0,none⟩) n a)).run P w=.ok (.string ⟨l.toArray⟩) w:=by
 subst j;have hx:((l.map λc=>(c.toNat:Int)).map λn=>UInt8.ofNat n.toNat)=l:=by
  exact TM
 have:=Qb (w:=w) T E d e g 0 l.length a (l.map λc=>(c.toNat:Int)) AN (λi b=>by
  rw[Db,h.cell i b];simp[DS,b]) S f
 exact TZ
def Mh{S:Ab}(f:P.underlying T=some (.slice E))(d:P.underlying E=some (.int .u8))(e:P.underlying S=some .string)(a:BM w B E v l):(convert T S v).run P w=.ok (.string ⟨l.toArray⟩) w:=by
 rcases a.2 with⟨rfl,m⟩|⟨g,b,j,rfl,r,p,q,s,h,o⟩
 ·have:l=[]:=EP m;subst this;exact run_convert_bytes_nil w T E f d 0 0 S e
 have hx:((l.map λc=>(c.toNat:Int)).map λn=>UInt8.ofNat n.toNat)=l:=by
  exact TM
 have:=Qb (w:=w) T E f d g 0 l.length b (l.map λc=>(c.toNat:Int)) AN (λi k=>by
  rw[Db,a.cellAt i A4];simp[DS,k]) S e
 exact TZ
def IM(b:Region.wanted o (yielded ops a.tmps)=true)(h:Aq P ops Q ({o with guard:=none}::rest) a w):Aq P ops Q (o::rest) a w:=by
 unfold Aq at h⊢;rw[AC b];exact h
def OwnS.made{P:Dj}(w:A7)(E:Ab):OwnS (w.alloc (.cells #[] E)) w.heap.size E (.slice (some ⟨w,0,none⟩) 0 0) []:=
 World.ownsRow_made w #[] 0 (AG _) A4 rfl
def HR{a n:Nat}{xs:List AJ}(h:w.ownsRow B E a v n xs)(hb:AF K w w')(b:w.heap.size<=K):w'.ownsRow B E a v n xs:=by
 exact Sn
def _root_.Go.RowKit.Below.next{a:A7}(h:AF a a w)(k:AF w w w'):AF a a w':=h.trans (k.mono h.size)
@[go_sem] theorem AoM (w:A7) (n:Nat) (o:Obj):(w.drewN n).alloc o=(w.alloc o).drewN n:=rfl
@[go_sem] theorem Anf (w:A7) (n:Nat) (a:Addr) (v:AJ):(w.drewN n).setCell a v=(w.setCell a v).drewN n:=rfl
def E9(w:A7)(E:Array Obj)(d:Nat):A7:={w with heap:=w.heap++E,drawn:=d}
def _root_.Go.RowKit.Below.ext(h:AF w w w'):∃E d,w'=E9 w E d:=by
 refine⟨w'.heap.extract w w',w'.drawn,?_⟩;obtain⟨h1,c,b,i,e⟩:=h;have f:w'.heap=w.heap++w'.heap.extract w w'.heap.size:=by
  apply P4;intro k;rw[Array.getElem?_append,Array.getElem?_extract,Nat.min_self];by_cases a:k<w.heap.size
  ·rw[AC a,e k a]
  rw[AA a];by_cases g:k<w'.heap.size
  ·rw[AC A4];congr 1;omega
  rw[AA A4,Array.getElem?_eq_none A4]
 unfold E9;rw[<-f];cases w;cases w';simp only at h1 c b;subst h1 c b;rfl
@[simp,go_sem] theorem Aqc (w:A7) (E:Array Obj) (d:Nat):(E9 w E d).heap.size=w.heap.size+E.size:=by simp[E9]
def UI(w:A7)(E:Array Obj)(d k:Nat)(h:k<w.heap.size):(E9 w E d).heap[k]?=w.heap[k]? :=by
 simp only[E9];rw[Array.getElem?_append,AC h]
def Km(w:A7)(E:Array Obj)(d:Nat):AF w w (E9 w E d):=⟨rfl,rfl,rfl,AN,λk h=>UI w E d k h⟩
def _root_.Go.RowKit.Below.toExt{a:A7}(h:AF B a w)(b:B<=w.heap.size)(E:Array Obj)(d:Nat):AF B a (E9 w E d):=h.trans ((Km w E d).mono b)
@[go_sem] theorem Aqg (w:A7) (E:Array Obj) (d n i:Nat) (h:n<w.heap.size):(E9 w E d).cell? ⟨n,i,none⟩=w.cell? ⟨n,i,none⟩:=(Km w E d).cell (p:=⟨n,i,none⟩) h
@[go_sem] theorem Apm (w:A7) (E:Array Obj) (d n i:Nat) (h:n<w.heap.size):(E9 w E d).frozen? ⟨n,i,none⟩=w.frozen? ⟨n,i,none⟩:=(Km w E d).frozen (p:=⟨n,i,none⟩) h
@[go_sem] theorem Ans (w:A7) (E:Array Obj) (d n i:Nat) (v:AJ) (h:n<w.heap.size):(E9 w E d).setCell ⟨n,i,none⟩ v=E9 (w.setCell ⟨n,i,none⟩ v) E d:=by
 simp only[World.setCell,E9];congr 1;apply P4;intro k;simp only[Js,Array.getElem?_append,Array.size_modify]
 by_cases hk:n=k
 ·subst hk;simp[h]
 ·simp[hk]
@[go_sem] theorem ApT (w:A7) (E:Array Obj) (d n:Nat):(E9 w E d).drewN n=E9 w E (d+n):=rfl
@[go_sem] theorem Aqv (w:A7) (E:Array Obj) (d:Nat):(E9 w E d).drew=E9 w E (d+1):=rfl
@[go_sem] theorem Aog (w:A7) (E:Array Obj) (d n:Nat):E9 (w.drewN n) E d=E9 w E d:=rfl
@[go_sem] theorem AoF (w:A7) (E:Array Obj) (d:Nat):E9 w.drew E d=E9 w E d:=rfl
@[simp,go_sem] theorem Aqp (w:A7) (E:Array Obj) (d:Nat):(E9 w E d).tape=w.tape:=rfl
@[go_sem] theorem Arp (a n:Nat) (h:0<n):a<a+n:=A4
@[go_sem] theorem Aro (a m n:Nat) (h:m<n):a+m<a+n:=A4
@[go_sem] theorem Ara (a n:Nat):a<=a+n:=A4
@[go_sem] theorem Aq0 (a m n:Nat) (h:m<=n):a+m<=a+n:=A4
@[go_sem] theorem Ari (a n:Nat) (b0:Nat) (h:0<n):a<a+n+b0:=A4
@[go_sem] theorem AqR (a m n:Nat) (b0:Nat) (h:m<n):a+m<a+n+b0:=A4
@[go_sem] theorem AqX (a n:Nat) (b0:Nat):a<=a+n+b0:=A4
@[go_sem] theorem Arf (a m n:Nat) (b0:Nat) (h:m<=n):a+m<=a+n+b0:=A4
@[go_sem] theorem AqT (a n:Nat) (b0 b1:Nat) (h:0<n):a<a+n+b0+b1:=A4
@[go_sem] theorem Ars (a m n:Nat) (b0 b1:Nat) (h:m<n):a+m<a+n+b0+b1:=A4
@[go_sem] theorem Arv (a n:Nat) (b0 b1:Nat):a<=a+n+b0+b1:=A4
@[go_sem] theorem Ard (a m n:Nat) (b0 b1:Nat) (h:m<=n):a+m<=a+n+b0+b1:=A4
@[go_sem] theorem Aq8 (a n:Nat) (b0 b1 b2:Nat) (h:0<n):a<a+n+b0+b1+b2:=A4
@[go_sem] theorem AqS (a m n:Nat) (b0 b1 b2:Nat) (h:m<n):a+m<a+n+b0+b1+b2:=A4
@[go_sem] theorem AqU (a n:Nat) (b0 b1 b2:Nat):a<=a+n+b0+b1+b2:=A4
@[go_sem] theorem Arn (a m n:Nat) (b0 b1 b2:Nat) (h:m<=n):a+m<=a+n+b0+b1+b2:=A4
@[go_sem] theorem Arg (a n:Nat) (b0 b1 b2 b3:Nat) (h:0<n):a<a+n+b0+b1+b2+b3:=A4
@[go_sem] theorem Aq1 (a m n:Nat) (b0 b1 b2 b3:Nat) (h:m<n):a+m<a+n+b0+b1+b2+b3:=A4
@[go_sem] theorem AqY (a n:Nat) (b0 b1 b2 b3:Nat):a<=a+n+b0+b1+b2+b3:=A4
@[go_sem] theorem Arb (a m n:Nat) (b0 b1 b2 b3:Nat) (h:m<=n):a+m<=a+n+b0+b1+b2+b3:=A4
@[go_sem] theorem Arq (a n:Nat) (b0 b1 b2 b3 b4:Nat) (h:0<n):a<a+n+b0+b1+b2+b3+b4:=A4
@[go_sem] theorem Ark (a m n:Nat) (b0 b1 b2 b3 b4:Nat) (h:m<n):a+m<a+n+b0+b1+b2+b3+b4:=A4
@[go_sem] theorem AqV (a n:Nat) (b0 b1 b2 b3 b4:Nat):a<=a+n+b0+b1+b2+b3+b4:=A4
@[go_sem] theorem Aq7 (a m n:Nat) (b0 b1 b2 b3 b4:Nat) (h:m<=n):a+m<=a+n+b0+b1+b2+b3+b4:=A4
@[go_sem] theorem Aru (a n:Nat) (b0 b1 b2 b3 b4 b5:Nat) (h:0<n):a<a+n+b0+b1+b2+b3+b4+b5:=A4
@[go_sem] theorem Arr (a m n:Nat) (b0 b1 b2 b3 b4 b5:Nat) (h:m<n):a+m<a+n+b0+b1+b2+b3+b4+b5:=A4
@[go_sem] theorem Aq9 (a n:Nat) (b0 b1 b2 b3 b4 b5:Nat):a<=a+n+b0+b1+b2+b3+b4+b5:=A4
@[go_sem] theorem Aq5 (a m n:Nat) (b0 b1 b2 b3 b4 b5:Nat) (h:m<=n):a+m<=a+n+b0+b1+b2+b3+b4+b5:=A4
@[go_sem] theorem Arm (a n:Nat) (b0 b1 b2 b3 b4 b5 b6:Nat) (h:0<n):a<a+n+b0+b1+b2+b3+b4+b5+b6:=A4
@[go_sem] theorem Arl (a m n:Nat) (b0 b1 b2 b3 b4 b5 b6:Nat) (h:m<n):a+m<a+n+b0+b1+b2+b3+b4+b5+b6:=A4
@[go_sem] theorem Aq6 (a n:Nat) (b0 b1 b2 b3 b4 b5 b6:Nat):a<=a+n+b0+b1+b2+b3+b4+b5+b6:=A4
@[go_sem] theorem AqW (a m n:Nat) (b0 b1 b2 b3 b4 b5 b6:Nat) (h:m<=n):a+m<=a+n+b0+b1+b2+b3+b4+b5+b6:=A4
@[go_sem] theorem AqZ (a n:Nat) (b0 b1 b2 b3 b4 b5 b6 b7:Nat) (h:0<n):a<a+n+b0+b1+b2+b3+b4+b5+b6+b7:=A4
@[go_sem] theorem Aq2 (a m n:Nat) (b0 b1 b2 b3 b4 b5 b6 b7:Nat) (h:m<n):a+m<a+n+b0+b1+b2+b3+b4+b5+b6+b7:=A4
@[go_sem] theorem Arc (a n:Nat) (b0 b1 b2 b3 b4 b5 b6 b7:Nat):a<=a+n+b0+b1+b2+b3+b4+b5+b6+b7:=A4
@[go_sem] theorem Aq4 (a m n:Nat) (b0 b1 b2 b3 b4 b5 b6 b7:Nat) (h:m<=n):a+m<=a+n+b0+b1+b2+b3+b4+b5+b6+b7:=A4
@[go_sem] theorem Are (a n:Nat) (b0 b1 b2 b3 b4 b5 b6 b7 b8:Nat) (h:0<n):a<a+n+b0+b1+b2+b3+b4+b5+b6+b7+b8:=A4
@[go_sem] theorem Arj (a m n:Nat) (b0 b1 b2 b3 b4 b5 b6 b7 b8:Nat) (h:m<n):a+m<a+n+b0+b1+b2+b3+b4+b5+b6+b7+b8:=A4
@[go_sem] theorem Art (a n:Nat) (b0 b1 b2 b3 b4 b5 b6 b7 b8:Nat):a<=a+n+b0+b1+b2+b3+b4+b5+b6+b7+b8:=A4
@[go_sem] theorem Arh (a m n:Nat) (b0 b1 b2 b3 b4 b5 b6 b7 b8:Nat) (h:m<=n):a+m<=a+n+b0+b1+b2+b3+b4+b5+b6+b7+b8:=A4
@[go_sem] theorem AqN (a n:Nat) (b0 b1 b2 b3 b4 b5 b6 b7 b8 b9:Nat) (h:0<n):a<a+n+b0+b1+b2+b3+b4+b5+b6+b7+b8+b9:=A4
@[go_sem] theorem AqD (a m n:Nat) (b0 b1 b2 b3 b4 b5 b6 b7 b8 b9:Nat) (h:m<n):a+m<a+n+b0+b1+b2+b3+b4+b5+b6+b7+b8+b9:=A4
@[go_sem] theorem Ap5 (a n:Nat) (b0 b1 b2 b3 b4 b5 b6 b7 b8 b9:Nat):a<=a+n+b0+b1+b2+b3+b4+b5+b6+b7+b8+b9:=A4
@[go_sem] theorem AqJ (a m n:Nat) (b0 b1 b2 b3 b4 b5 b6 b7 b8 b9:Nat) (h:m<=n):a+m<=a+n+b0+b1+b2+b3+b4+b5+b6+b7+b8+b9:=A4
@[go_sem] theorem Aql (a n:Nat) (b0 b1 b2 b3 b4 b5 b6 b7 b8 b9 fF:Nat) (h:0<n):a<a+n+b0+b1+b2+b3+b4+b5+b6+b7+b8+b9+fF:=A4
@[go_sem] theorem Aqn (a m n:Nat) (b0 b1 b2 b3 b4 b5 b6 b7 b8 b9 fF:Nat) (h:m<n):a+m<a+n+b0+b1+b2+b3+b4+b5+b6+b7+b8+b9+fF:=A4
@[go_sem] theorem Aqs (a n:Nat) (b0 b1 b2 b3 b4 b5 b6 b7 b8 b9 fF:Nat):a<=a+n+b0+b1+b2+b3+b4+b5+b6+b7+b8+b9+fF:=A4
@[go_sem] theorem AqH (a m n:Nat) (b0 b1 b2 b3 b4 b5 b6 b7 b8 b9 fF:Nat) (h:m<=n):a+m<=a+n+b0+b1+b2+b3+b4+b5+b6+b7+b8+b9+fF:=A4
@[go_sem] theorem Aqj (a n:Nat) (b0 b1 b2 b3 b4 b5 b6 b7 b8 b9 fF iY:Nat) (h:0<n):a<a+n+b0+b1+b2+b3+b4+b5+b6+b7+b8+b9+fF+iY:=A4
@[go_sem] theorem Ap2 (a m n:Nat) (b0 b1 b2 b3 b4 b5 b6 b7 b8 b9 fF iY:Nat) (h:m<n):a+m<a+n+b0+b1+b2+b3+b4+b5+b6+b7+b8+b9+fF+iY:=A4
@[go_sem] theorem Aqq (a n:Nat) (b0 b1 b2 b3 b4 b5 b6 b7 b8 b9 fF iY:Nat):a<=a+n+b0+b1+b2+b3+b4+b5+b6+b7+b8+b9+fF+iY:=A4
@[go_sem] theorem Ap1 (a m n:Nat) (b0 b1 b2 b3 b4 b5 b6 b7 b8 b9 fF iY:Nat) (h:m<=n):a+m<=a+n+b0+b1+b2+b3+b4+b5+b6+b7+b8+b9+fF+iY:=A4
@[go_sem] theorem AqF (a n:Nat) (b0 b1 b2 b3 b4 b5 b6 b7 b8 b9 fF iY mF:Nat) (h:0<n):a<a+n+b0+b1+b2+b3+b4+b5+b6+b7+b8+b9+fF+iY+mF:=A4
@[go_sem] theorem AqK (a m n:Nat) (b0 b1 b2 b3 b4 b5 b6 b7 b8 b9 fF iY mF:Nat) (h:m<n):a+m<a+n+b0+b1+b2+b3+b4+b5+b6+b7+b8+b9+fF+iY+mF:=A4
@[go_sem] theorem Aqb (a n:Nat) (b0 b1 b2 b3 b4 b5 b6 b7 b8 b9 fF iY mF:Nat):a<=a+n+b0+b1+b2+b3+b4+b5+b6+b7+b8+b9+fF+iY+mF:=A4
@[go_sem] theorem AqA (a m n:Nat) (b0 b1 b2 b3 b4 b5 b6 b7 b8 b9 fF iY mF:Nat) (h:m<=n):a+m<=a+n+b0+b1+b2+b3+b4+b5+b6+b7+b8+b9+fF+iY+mF:=A4
@[go_sem] theorem ApX (a n:Nat) (b0 b1 b2 b3 b4 b5 b6 b7 b8 b9 fF iY mF xD:Nat) (h:0<n):a<a+n+b0+b1+b2+b3+b4+b5+b6+b7+b8+b9+fF+iY+mF+xD:=A4
@[go_sem] theorem Ap7 (a m n:Nat) (b0 b1 b2 b3 b4 b5 b6 b7 b8 b9 fF iY mF xD:Nat) (h:m<n):a+m<a+n+b0+b1+b2+b3+b4+b5+b6+b7+b8+b9+fF+iY+mF+xD:=A4
@[go_sem] theorem AqG (a n:Nat) (b0 b1 b2 b3 b4 b5 b6 b7 b8 b9 fF iY mF xD:Nat):a<=a+n+b0+b1+b2+b3+b4+b5+b6+b7+b8+b9+fF+iY+mF+xD:=A4
@[go_sem] theorem Aqt (a m n:Nat) (b0 b1 b2 b3 b4 b5 b6 b7 b8 b9 fF iY mF xD:Nat) (h:m<=n):a+m<=a+n+b0+b1+b2+b3+b4+b5+b6+b7+b8+b9+fF+iY+mF+xD:=A4
end Go.Proofs.YtonomfeipkdmhaaGreatDoor
namespace Go.Proofs
open Go renaming World->A7,Calls->AD
open Go.RowKit renaming Below->AF
open Go.Proofs.Tryz
open Go.Proofs.Tryz renaming prog->A8
open Go.Shelf
def EC{p:Prop}(h:p:=by constructor<;>first|kernel_rfl|(intro w;kernel_rfl)|decide|(constructor<;>first|kernel_rfl|(intro w;kernel_rfl))):p:=h
def Tryz.lays169_ren:Go.Shelf.Ren:=⟨fun|169=>42|n=>n,fun|70=>74|9=>9|0=>0|72=>76|37=>25|127=>117|3=>3|5=>5|n=>n,fun|n=>n⟩
def Tryz.lays169:Go.Proofs.Lays.n169 A8 Tryz.lays169_ren:=EC
def Tryz.Builder_Extra_169:Builder.Extra A8 Tryz.lays169_ren:=EC
open Go.RowKit in
def Tryz.Builder_String_any(B b:Nat)(l:A5)(w:A7)(h:Lib.IsBuilder 76 5 B b (Lib.byteCells l) w)(a:B<=w.heap.size):
  AD A8 42 #[.pointer (some ⟨b,0,none⟩)] w λe w'=>e=.returned (.string ⟨l.toArray⟩)/\AF B w w':=Any.Builder_String_any Tryz.lays169 Tryz.Builder_Extra_169 B b l w h a
def Tryz.lays156_ren:Go.Shelf.Ren:=⟨fun|156=>341|165=>355|166=>40|169=>42|240=>91|241=>367|276=>158|277=>374|n=>n,fun|31=>22|9=>9|3=>3|4=>4|0=>0|20=>20|72=>76|76=>80|70=>74|37=>25|75=>79|127=>117|164=>158|5=>5|80=>83|n=>n,fun|n=>n⟩
def Tryz.lays156:Go.Proofs.Lays.n156 A8 Tryz.lays156_ren:=EC
def Tryz.Builder_Extra_156:Builder.Extra A8 Tryz.lays156_ren:=EC
open Go.RowKit in
def Tryz.strings_Join(d o c:Nat)(xs:List A9)(b:A9)(w:A7)(i:∀(j:Nat)x,xs[j]?=some x->w.cell? ⟨d,o+j,none⟩=some (.string x))(f:d<w.heap.size)(g:xs.length<=140737488355328)(h:xs.length<=c)(a:(Lib.join (xs.map (·.data.toList)) b.data.toList).length<=140737488355328):
  AD A8 341 #[.slice (some ⟨d,o,none⟩) xs.length c,.string b] w λe w'=>e=.returned (.string ⟨(Lib.join (xs.map (·.data.toList)) b.data.toList).toArray⟩)/\AF w w w':=Any.strings_Join Tryz.lays156 Tryz.Builder_Extra_156 d o c xs b w i f g h a
def Tryz.lays161_ren:Go.Shelf.Ren:=⟨fun|161=>177|231=>243|227=>238|233=>244|235=>245|228=>289|197=>294|151=>291|260=>318|152=>314|137=>47|119=>331|224=>232|225=>277|217=>95|266=>162|n=>n,fun|9=>9|4=>4|3=>3|5=>5|117=>207|116=>206|0=>0|124=>210|105=>121|21=>21|119=>201|46=>200|139=>204|138=>203|n=>n,fun|3=>1|4=>2|n=>n⟩
def Tryz.lays161:Go.Proofs.Lays.n161 A8 Tryz.lays161_ren:=EC
open Go.RowKit in
def Tryz.strings_TrimLeft_one(s:A9)(c:UInt8)(hc:c.toNat<128)(w:A7):
  AD A8 177 #[.string s,.string ⟨#[c]⟩] w λe w'=>e=.returned (.string ⟨(Lib.trimLeftB s.data.toList c).toArray⟩)/\w'=w:=Any.strings_TrimLeft_one Tryz.lays161 s c hc w
def Tryz.lays162_ren:Go.Shelf.Ren:=⟨fun|162=>173|232=>237|227=>238|234=>239|236=>240|228=>289|271=>290|151=>291|120=>313|197=>294|152=>314|260=>318|137=>47|119=>331|224=>232|225=>277|217=>95|266=>162|n=>n,fun|9=>9|4=>4|3=>3|5=>5|117=>207|116=>206|0=>0|124=>210|21=>21|105=>121|46=>200|119=>201|139=>204|138=>203|n=>n,fun|3=>1|4=>2|n=>n⟩
def Tryz.lays162:Go.Proofs.Lays.n162 A8 Tryz.lays162_ren:=EC
open Go.RowKit in
def Tryz.strings_TrimRight_one(s:A9)(c:UInt8)(hc:c.toNat<128)(w:A7)(a:s.size<=9223372036854775807):
  AD A8 173 #[.string s,.string ⟨#[c]⟩] w λe w'=>e=.returned (.string ⟨(Lib.trimRightB s.data.toList c).toArray⟩)/\w'=w:=Any.strings_TrimRight_one Tryz.lays162 s c hc w a
def Tryz.lays160_ren:Go.Shelf.Ren:=⟨fun|160=>248|232=>237|231=>243|227=>238|234=>239|233=>244|236=>240|235=>245|228=>289|271=>290|151=>291|197=>294|120=>313|152=>314|260=>318|137=>47|119=>331|224=>232|225=>277|217=>95|266=>162|n=>n,fun|9=>9|4=>4|3=>3|5=>5|117=>207|116=>206|0=>0|124=>210|21=>21|105=>121|46=>200|119=>201|139=>204|138=>203|n=>n,fun|3=>1|4=>2|n=>n⟩
def Tryz.lays160:Go.Proofs.Lays.n160 A8 Tryz.lays160_ren:=EC
def Tryz.lays119_ren:Go.Shelf.Ren:=⟨fun|119=>331|n=>n,fun|21=>21|4=>4|n=>n,fun|n=>n⟩
def Tryz.lays119:Go.Proofs.Lays.n119 A8 Tryz.lays119_ren:=EC
def Tryz.utf8_ValidRune(r:Int)(w:A7):AD A8 331 #[.int .i32 r] w λe w'=>e=.returned (.bool (Lib.validRune r))/\w'=w:=Any.utf8_ValidRune Tryz.lays119 r w
def Tryz.lays137_ren:Go.Shelf.Ren:=⟨fun|137=>47|217=>95|266=>162|n=>n,fun|9=>9|5=>5|3=>3|n=>n,fun|n=>n⟩
def Tryz.lays137:Go.Proofs.Lays.n137 A8 Tryz.lays137_ren:=EC
open Go.RowKit in
def Tryz.strings_IndexByte(s:A9)(c:Int)(w:A7):
  AD A8 47 #[.string s,.int .u8 c] w λe w'=>e=.returned (.int .i64 (Lib.indexByte s.data.toList c.toNat.toUInt8))/\w'=w:=Any.strings_IndexByte Tryz.lays137 s c w
def Tryz.lays103_ren:Go.Shelf.Ren:=⟨fun|103=>218|210=>275|206=>185|n=>n,fun|9=>9|4=>4|24=>68|3=>3|n=>n,fun|n=>n⟩
def Tryz.lays103:Go.Proofs.Lays.n103 A8 Tryz.lays103_ren:=EC
open Go.RowKit in
def Tryz.strings_CutPrefix(s p:A9)(w:A7):
  AD A8 218 #[.string s,.string p] w λe w'=>e=.returned (.tuple #[.string ⟨(Lib.trimPrefix s.data.toList p.data.toList).toArray⟩,.bool (Lib.hasPrefix s.data.toList p.data.toList)])/\w'=w:=Any.strings_CutPrefix Tryz.lays103 s p w
def Tryz.lays104_ren:Go.Shelf.Ren:=⟨fun|104=>219|211=>276|207=>186|n=>n,fun|9=>9|4=>4|24=>68|3=>3|n=>n,fun|n=>n⟩
def Tryz.lays104:Go.Proofs.Lays.n104 A8 Tryz.lays104_ren:=EC
open Go.RowKit in
def Tryz.strings_CutSuffix(s p:A9)(w:A7)(a:s.size<=9223372036854775807):
  AD A8 219 #[.string s,.string p] w λe w'=>e=.returned (.tuple #[.string ⟨(Lib.trimSuffix s.data.toList p.data.toList).toArray⟩,.bool (Lib.hasSuffix s.data.toList p.data.toList)])/\w'=w:=Any.strings_CutSuffix Tryz.lays104 s p w a
def Tryz.laysM171_ren:Go.Shelf.Ren:=⟨fun|171=>45|243=>94|246=>161|283=>223|284=>224|285=>225|286=>226|129=>280|317=>279|318=>281|319=>282|320=>283|337=>311|338=>312|n=>n,fun|3=>3|9=>9|2=>2|4=>4|171=>192|0=>0|53=>161|37=>25|5=>5|173=>195|212=>224|51=>28|20=>20|213=>225|46=>200|232=>251|233=>252|n=>n,fun|17=>3|18=>4|19=>5|n=>n⟩
def Tryz.laysM171:Go.Proofs.LaysM.n171 A8 Tryz.laysM171_ren:=EC
open Go.RowKit Go.Sort Go.Lib in
def Tryz.strconv_Itoa(n:Int)(h0: -9223372036854775808≤n)(h1:n≤9223372036854775807)(w:World)(xU:Lib.TabIs A8 w "internal/strconv.uint64pow10" .u64 Lib.pow10Tab):
  AD A8 45 #[.int .i64 n] w λe w'=>e=.returned (.string ⟨(Lib.itoa n).toArray⟩)/\∃k os,w'=grow (w.drewN k) os:=Any.strconv_Itoa Tryz.laysM171 n h0 h1 w xU
def Tryz.lays219_ren:Go.Shelf.Ren:=⟨fun|219=>221|217=>95|225=>277|224=>232|267=>278|266=>162|314=>310|n=>n,fun|9=>9|3=>3|4=>4|5=>5|46=>200|146=>228|51=>28|n=>n,fun|1=>0|n=>n⟩
def Tryz.lays219:Go.Proofs.Lays.n219 A8 Tryz.lays219_ren:=EC
open Go.RowKit Go.Lib in
def Tryz.stringslite_Index_one(s:A9)(c:UInt8)(w:A7):
  AD A8 221 #[.string s,.string ⟨#[c]⟩] w λe w'=>e=.returned (.int .i64 (Lib.indexByte s.data.toList c))/\w'=w:=Any.stringslite_Index_one Tryz.lays219 s c w
def Tryz.lays145_ren:Go.Shelf.Ren:=⟨fun|145=>87|220=>153|219=>221|217=>95|225=>277|224=>232|267=>278|266=>162|314=>310|n=>n,fun|9=>9|4=>4|59=>115|3=>3|5=>5|46=>200|146=>228|51=>28|n=>n,fun|1=>0|n=>n⟩
def Tryz.lays145:Go.Proofs.Lays.n145 A8 Tryz.lays145_ren:=EC
open Go.RowKit Go.Lib in
def Tryz.strings_Cut(s a:A9)(m:Int)(w:A7)(b:s.size<4294967281)(c:w.cell? ⟨0,0,none⟩=some (.int .i64 m)):
  AD A8 87 #[.string s,.string a] w λe w'=>e=.returned (.tuple #[.string ⟨(Lib.cut s.data.toList a.data.toList).1.toArray⟩,.string ⟨(Lib.cut s.data.toList a.data.toList).2.1.toArray⟩,.bool (Lib.cut s.data.toList a.data.toList).2.2])/\∃n,w'=w.drewN n:=Any.strings_Cut Tryz.lays145 s a m w b c
def Tryz.lays149_ren:Go.Shelf.Ren:=⟨fun|149=>272|222=>308|n=>n,fun|9=>9|5=>5|3=>3|4=>4|n=>n,fun|n=>n⟩
def Tryz.lays149:Go.Proofs.Lays.n149 A8 Tryz.lays149_ren:=EC
open Go.RowKit Go.Lib in
def Tryz.strings_LastIndexByte(s:A9)(c:Int)(a:s.size<4611686018427387904)(w:A7):
  AD A8 272 #[.string s,.int .u8 c] w λe w'=>e=.returned (.int .i64 (Lib.lastIndexByte s c))/\w'=w:=Any.strings_LastIndexByte Tryz.lays149 s c a w
def Tryz.laysM288_ren:Go.Shelf.Ren:=⟨fun|288=>222|283=>223|284=>224|285=>225|286=>226|129=>280|317=>279|318=>281|319=>282|320=>283|337=>311|338=>312|n=>n,fun|37=>25|53=>161|3=>3|4=>4|9=>9|171=>192|0=>0|173=>195|212=>224|51=>28|5=>5|20=>20|213=>225|46=>200|232=>251|233=>252|n=>n,fun|17=>3|18=>4|19=>5|n=>n⟩
def Tryz.laysM288:Go.Proofs.LaysM.n288 A8 Tryz.laysM288_ren:=EC
open Go.RowKit Go.Sort Go.Lib in
def Tryz.internal_strconv_AppendUint_10(B n u:Nat)(hu64:u<18446744073709551616)(sv:Value)(xs:List Value)(w:World)(hown:w.ownsRow B 5 1 sv n xs)(wL:B≤w.heap.size)(hlim:n+20≤140737488355328)(xU:Lib.TabIs A8 w "internal/strconv.uint64pow10" .u64 Lib.pow10Tab):
  AD A8 222 #[sv,.int .u64 u,.int .i64 10] w λe w'=>∃v',e=.returned v'/\w'.ownsRow B 5 1 v' (n+(Lib.decDigits u).length) (xs++Lib.byteCells (Lib.decDigits u))/\AF B w w'/\Lib.OthersKept 5 none w w':=Any.internal_strconv_AppendUint_10 Tryz.laysM288 B n u hu64 sv xs w hown wL hlim xU
def Tryz.lays99_ren:Go.Shelf.Ren:=⟨fun|99=>111|206=>185|n=>n,fun|9=>9|4=>4|3=>3|n=>n,fun|n=>n⟩
def Tryz.lays99:Go.Proofs.Lays.n99 A8 Tryz.lays99_ren:=EC
open Go.RowKit Go.Lib in
def Tryz.strings_HasPrefix(s p:A9)(w:A7):
  AD A8 111 #[.string s,.string p] w λe w'=>e=.returned (.bool (Lib.hasPrefix s.data.toList p.data.toList))/\w'=w:=Any.strings_HasPrefix Tryz.lays99 s p w
def Tryz.lays100_ren:Go.Shelf.Ren:=⟨fun|100=>112|207=>186|n=>n,fun|9=>9|4=>4|3=>3|n=>n,fun|n=>n⟩
def Tryz.lays100:Go.Proofs.Lays.n100 A8 Tryz.lays100_ren:=EC
open Go.RowKit Go.Lib in
def Tryz.strings_HasSuffix(s p:A9)(w:A7)(a:s.size<=9223372036854775807):
  AD A8 112 #[.string s,.string p] w λe w'=>e=.returned (.bool (Lib.hasSuffix s.data.toList p.data.toList))/\w'=w:=Any.strings_HasSuffix Tryz.lays100 s p w a
def Tryz.lays101_ren:Go.Shelf.Ren:=⟨fun|101=>183|208=>247|206=>185|n=>n,fun|9=>9|4=>4|3=>3|n=>n,fun|n=>n⟩
def Tryz.lays101:Go.Proofs.Lays.n101 A8 Tryz.lays101_ren:=EC
open Go.RowKit Go.Lib in
def Tryz.strings_TrimPrefix(s p:A9)(w:A7):
  AD A8 183 #[.string s,.string p] w λe w'=>e=.returned (.string ⟨(Lib.trimPrefix s.data.toList p.data.toList).toArray⟩)/\w'=w:=Any.strings_TrimPrefix Tryz.lays101 s p w
def Tryz.lays146_ren:Go.Shelf.Ren:=⟨fun|146=>339|221=>350|268=>358|138=>359|143=>360|195=>284|197=>294|218=>368|219=>221|260=>318|217=>95|225=>277|224=>232|267=>278|266=>162|314=>310|n=>n,fun|9=>9|31=>22|3=>3|4=>4|0=>0|105=>121|21=>21|5=>5|46=>200|119=>201|139=>204|138=>203|146=>228|51=>28|n=>n,fun|1=>0|3=>1|4=>2|n=>n⟩
def Tryz.lays146:Go.Proofs.Lays.n146 A8 Tryz.lays146_ren:=EC
open Go.RowKit Go.Lib in
def Tryz.strings_Split(s a:A9)(m:Int)(w:A7)(b:s.size<4294967281)(c:w.cell? ⟨0,0,none⟩=some (.int .i64 m))(h1:1<=a.size):
  AD A8 339 #[.string s,.string a] w λe w'=>
   e=.returned (.slice (some ⟨w,0,none⟩) (Lib.countB s a+1) (Lib.countB s a+1))/\w'=w.alloc (.cells ((Lib.splitB a 0 (Lib.countB s a) s).map Value.string).toArray 9):=Any.strings_Split Tryz.lays146 AO s a m w b c h1
def Tryz.lays152_ren:Go.Shelf.Ren:=⟨fun|152=>314|137=>47|119=>331|224=>232|225=>277|217=>95|266=>162|n=>n,fun|9=>9|21=>21|3=>3|4=>4|5=>5|0=>0|46=>200|n=>n,fun|n=>n⟩
def Tryz.lays152:Go.Proofs.Lays.n152 A8 Tryz.lays152_ren:=EC
open Go.RowKit Go.Lib in
def Tryz.strings_IndexRune_ascii(s:A9)(r:Int)(w:A7)(a:0<=r)(h1:r<128):
  AD A8 314 #[.string s,.int .i32 r] w λe w'=>e=.returned (.int .i64 (Lib.indexByte s.data.toList r.toNat.toUInt8))/\w'=w:=Any.strings_IndexRune_ascii Tryz.lays152 s r w a h1
def Tryz.lays226_ren:Go.Shelf.Ren:=⟨fun|226=>332|n=>n,fun|3=>3|4=>4|n=>n,fun|n=>n⟩
def Tryz.lays226:Go.Proofs.Lays.n226 A8 Tryz.lays226_ren:=EC
open Go.RowKit Go.Lib in
def Tryz.strings_shouldUseASCIISet(n:Int)(w:A7):
  AD A8 332 #[.int .i64 n] w λe w'=>e=.returned (.bool (decide (8<n)))/\w'=w:=Any.strings_shouldUseASCIISet Tryz.lays226 n w
def Tryz.lays227_ren:Go.Shelf.Ren:=⟨fun|227=>238|n=>n,fun|9=>9|116=>206|4=>4|0=>0|3=>3|5=>5|n=>n,fun|n=>n⟩
def Tryz.lays227:Go.Proofs.Lays.n227 A8 Tryz.lays227_ren:=EC
open Go.RowKit Go.Lib in
def Tryz.strings_makeASCIISet(a:∀w,(zeroValue 206).run A8 w=.ok (.agg (Array.replicate 256 (.bool false))) w)(c:A9)(w:A7)(d:c.size<4294967281)(f:∀(j:Nat)b,c.data.toList[j]?=some b->b.toNat<128):
  AD A8 238 #[.string c] w λe w'=>e=.returned (.tuple #[.agg (Lib.setCells c.data.toList),.bool true])/\w'=w.alloc (.cells (Lib.setCells c.data.toList) 206):=Any.strings_makeASCIISet Tryz.lays227 a AO c w d f
def Tryz.lays228_ren:Go.Shelf.Ren:=⟨fun|228=>289|n=>n,fun|124=>210|5=>5|4=>4|0=>0|116=>206|n=>n,fun|n=>n⟩
def Tryz.lays228:Go.Proofs.Lays.n228 A8 Tryz.lays228_ren:=EC
open Go.RowKit Go.Lib in
def Tryz.asciiSet_contains(b:Nat)(x:UInt8)(v:Bool)(w:A7)(hc:w.cell? ⟨b,x.toNat,none⟩=some (.bool v)):
  AD A8 289 #[.pointer (some ⟨b,0,none⟩),.int .u8 x.toNat] w λe w'=>e=.returned (.bool v)/\w'=w:=Any.asciiSet_contains Tryz.lays228 b x v w hc
def Tryz.lays110_ren:Go.Shelf.Ren:=⟨fun|110=>180|109=>246|n=>n,fun|31=>22|9=>9|4=>4|3=>3|0=>0|n=>n,fun|n=>n⟩
def Tryz.lays110:Go.Proofs.Lays.n110 A8 Tryz.lays110_ren:=EC
open Go.Lib in
def Tryz.slices_Contains_string(b off n c:Nat)(a:List A9)(x:A9)(w:A7)(f:n<=a.length)(d:n<=9223372036854775807)(hc:∀j,j<a.length->w.cell? ⟨b,off+j,none⟩=some (.string (a.getD j ByteArray.empty))):
  AD A8 180 #[.slice (some ⟨b,off,none⟩) n c,.string x] w λe w'=>e=.returned (.bool (Lib.containsS (a.take n) x))/\w'=w:=Any.slices_Contains_string Tryz.lays110 b off n c a x w f d hc
open Go.Lib in
def Tryz.slices_Contains_string_empty(a:Option Addr)(c:Nat)(x:A9)(w:A7):
  AD A8 180 #[.slice a 0 c,.string x] w λe w'=>e=.returned (.bool false)/\w'=w:=Any.slices_Contains_string_empty Tryz.lays110 a c x w
def Tryz.lays193_ren:Go.Shelf.Ren:=⟨fun|193=>101|n=>n,fun|31=>22|9=>9|4=>4|3=>3|0=>0|n=>n,fun|n=>n⟩
def Tryz.lays193:Go.Proofs.Lays.n193 A8 Tryz.lays193_ren:=EC
open Go.RowKit Go.Lib in
def Tryz.slices_Equal_string(b1 f n c b2 i m d:Nat)(xs a:List A9)(w:A7)(hx:n<=xs.length)(k:m<=a.length)(b:n<=9223372036854775807)(l:m<=9223372036854775807)(h:∀j,j<xs.length->w.cell? ⟨b1,f+j,none⟩=some (.string (xs.getD j ByteArray.empty)))(g:∀j,j<a.length->w.cell? ⟨b2,i+j,none⟩=some (.string (a.getD j ByteArray.empty))):
  AD A8 101 #[.slice (some ⟨b1,f,none⟩) n c,.slice (some ⟨b2,i,none⟩) m d] w λe w'=>e=.returned (.bool (decide (xs.take n=a.take m)))/\∃q,w'=w.drewN q:=Any.slices_Equal_string Tryz.lays193 b1 f n c b2 i m d xs a w hx k b l h g
open Go.RowKit Go.Lib in
def Tryz.slices_Equal_string_empty(a b:Option Addr)(c m d:Nat)(w:A7)(f:m<=9223372036854775807):
  AD A8 101 #[.slice a 0 c,.slice b m d] w λe w'=>e=.returned (.bool (decide (m=0)))/\w'=w:=Any.slices_Equal_string_empty Tryz.lays193 a b c m d w f
def Tryz.laysNm216_ren:Go.Shelf.Ren:=⟨fun|16=>104|n=>n,fun|24=>22|9=>9|4=>4|n=>n,fun|n=>n⟩
def Tryz.laysNm216:Go.Proofs.Lays2.n16 A8 Tryz.laysNm216_ren:=EC
open Go.RowKit Go.Lib in
def Tryz.slices_Clone_string(b off n c:Nat)(a:List A9)(w:A7)(g:n<=a.length)(d:n*16<=140737488355328)(hc:∀j,j<a.length->w.cell? ⟨b,off+j,none⟩=some (.string (a.getD j ByteArray.empty))):
  AD A8 104 #[.slice (some ⟨b,off,none⟩) n c] w λe w'=>∃f,e=.returned f/\w'.ownsRow w 9 1 f n ((a.take n).map (Value.string))/\f≠ .slice none 0 0/\AF w w w':=Any.slices_Clone_string Tryz.laysNm216 b off n c a w g d hc
open Go.RowKit Go.Lib in
def Tryz.slices_Clone_string_nil(n c:Nat)(w:A7):
  AD A8 104 #[.slice none n c] w λe w'=>e=.returned (.slice none 0 0)/\w'=w:=Any.slices_Clone_string_nil Tryz.laysNm216 n c w
open Go.RowKit Go.Lib in
def Tryz.slices_Clone_string_zero(a:Addr)(c:Nat)(w:A7):
  AD A8 104 #[.slice (some a) 0 c] w λe w'=>∃b,e=.returned b/\w'.ownsRow w 9 1 b 0 []/\b≠ .slice none 0 0/\AF w w w':=Any.slices_Clone_string_zero Tryz.laysNm216 a c w
def Tryz.lays185_ren:Go.Shelf.Ren:=⟨fun|185=>164|187=>229|115=>230|253=>231|224=>232|254=>233|255=>285|291=>286|n=>n,fun|37=>25|3=>3|4=>4|0=>0|5=>5|46=>200|9=>9|146=>228|51=>28|n=>n,fun|1=>0|n=>n⟩
def Tryz.lays185:Go.Proofs.Lays.n185 A8 Tryz.lays185_ren:=EC
open Go.RowKit Go.Lib in
def Tryz.bytes_Index_one_nil(b2 a d:Nat)(c:Int)(w:A7)(b:w.cell? ⟨b2,a,none⟩=some (.int .u8 c)):
  AD A8 164 #[.slice none 0 0,.slice (some ⟨b2,a,none⟩) 1 d] w λe w'=>e=.returned (.int .i64 (-1))/\w'=w:=Any.bytes_Index_one_nil Tryz.lays185 b2 a d c w b
def Tryz.laysSlB13_ren:Go.Shelf.Ren:=⟨fun|13=>163|24=>227|25=>228|12=>164|31=>284|19=>229|20=>230|21=>231|22=>232|23=>233|29=>285|30=>286|n=>n,fun|22=>25|3=>3|4=>4|0=>0|5=>5|9=>9|33=>200|40=>228|39=>28|n=>n,fun|0=>0|n=>n⟩
def Tryz.laysSlB13:Go.Proofs.SlLaysB.n13 A8 Tryz.laysSlB13_ren:=EC
open Go.RowKit Go.Lib in
def Tryz.bytes_Count_one_at(a:Addr)(n c b2 f d:Nat)(xs:List Int)(b:Int)(w:A7)(hx:xs.length=n)(hc:∀i,i<n->w.cell? (a.add i)=some (.int .u8 (xs.getD i 0)))(g:w.cell? ⟨b2,f,none⟩=some (.int .u8 b)):
  AD A8 163 #[.slice (some a) n c,.slice (some ⟨b2,f,none⟩) 1 d] w λe w'=>e=.returned (.int .i64 (Lib.countByte (Lib.bytesOf xs) b.toNat.toUInt8))/\w'=w:=Any.bytes_Count_one_at Tryz.laysSlB13 a n c b2 f d xs b w hx hc g
open Go.RowKit Go.Lib in
def Tryz.bytes_Count_one_nil(b2 a d:Nat)(c:Int)(w:A7)(b:w.cell? ⟨b2,a,none⟩=some (.int .u8 c)):
  AD A8 163 #[.slice none 0 0,.slice (some ⟨b2,a,none⟩) 1 d] w λe w'=>e=.returned (.int .i64 0)/\w'=w:=Any.bytes_Count_one_nil Tryz.laysSlB13 b2 a d c w b
open Go.RowKit Go.Lib in
def Tryz.bytes_Index_one_at(a:Addr)(n c b2 f d:Nat)(xs:List Int)(b:Int)(w:A7)(hx:xs.length=n)(hc:∀i,i<n->w.cell? (a.add i)=some (.int .u8 (xs.getD i 0)))(g:w.cell? ⟨b2,f,none⟩=some (.int .u8 b)):
  AD A8 164 #[.slice (some a) n c,.slice (some ⟨b2,f,none⟩) 1 d] w λe w'=>e=.returned (.int .i64 (Lib.indexByte (Lib.bytesOf xs) b.toNat.toUInt8))/\w'=w:=Any.bytes_Index_one_at Tryz.lays185 a n c b2 f d xs b w hx hc g
end Go.Proofs
