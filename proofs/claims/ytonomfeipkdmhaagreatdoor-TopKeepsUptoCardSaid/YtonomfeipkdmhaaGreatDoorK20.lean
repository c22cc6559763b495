/- Part 20: lemmas. -/
import Derived.Test.YtonomfeipkdmhaaGreatDoorK19
import Derived.Shelf.Strings.SlTrimAscii
set_option linter.unusedVariables false
set_option linter.unusedSimpArgs false
set_option maxRecDepth 100000
set_option maxHeartbeats 16000000
namespace Go.Proofs.YtonomfeipkdmhaaGreatDoor
open Go.RowKit
def KC (c:Int):Bool:=decide (c=9\/c=10\/c=13\/c=32)
def HH (c:Int):Bool:=decide (c=32)
def Dj:List UInt8:=[33,35,36,37,38,39,42,43,45,46,94,95,96,124,126]
def Kq (c:UInt8):Bool:=AU (c.toNat:Int) || decide (0<=Ah (c.toNat:Int) 10) || Dj.contains c
def F9 (l:List UInt8):Bool:= !l.isEmpty && l.all Kq
def Yi (t:List UInt8):Option (List UInt8):=
 if (Af 47 t).2.2=false then none
 else if F9 (Af 47 t).1=true/\F9 (AG KC (Af 59 (Af 47 t).2.1).1)=true then some (AD (Af 47 t).1++47 :: AD (AG KC (Af 59 (Af 47 t).2.1).1)) else none
def GS (l:List UInt8):Option (List UInt8):=Yi (BW KC (AG KC l))
def Fx:List UInt8:=[98,97,115,101,54,52]
def DE (s:List UInt8):List UInt8:=
 if 6<=s.length/\AD (s.drop (s.length - 6))=Fx then
  (if (AG HH (s.take (s.length - 6))).getLast? =some 59 then (AG HH (s.take (s.length - 6))).dropLast else s)
 else s
def FU:List UInt8:=[116,101,120,116,47,112,108,97,105,110]
def JC (h:List UInt8):List UInt8:=(GS (if (DE (JJ h)).head? =some 59 then FU++DE (JJ h) else DE (JJ h))).getD FU
def UA (t:List UInt8):Option (List UInt8):=if (Af 44 (t.drop 5)).2.2=true then some (JC (Af 44 (t.drop 5)).1) else none
theorem NY (l:List UInt8) (c:UInt8):l.contains c=decide (0<=Lib.indexByte l c):=by
 induction l with
 | nil=>rfl
 | cons d r ih=>
  have hg:=Lib.indexByte_ge r c;unfold Lib.indexByte;rw [List.contains_cons]
  by_cases h:d=c
  ·subst h;simp
  ·have h2:(c==d)=false:=by simpa using Ne.symm h
   have h3:(d==c)=false:=by simpa using h
   rw [h2,Bool.false_or,ih,h3]
   by_cases h1:Lib.indexByte r c= -1
   ·simp [h1]
   ·have h0:0<=Lib.indexByte r c:=by omega
    have:(Lib.indexByte r c== -1)=false:=by simpa using h1
    simp [this,h0];omega
theorem ND (c:UInt8):([9,10,13,32]:List UInt8).contains c=KC (c.toNat:Int):=by
 have h:∀ n:Fin 256,([9,10,13,32]:List UInt8).contains (UInt8.ofNat n.val)=KC ((UInt8.ofNat n.val).toNat:Int):=by decide+kernel
 have:=h ⟨c.toNat,c.toNat_lt⟩;simpa using this
theorem AbC (l:List UInt8):Lib.trimS l [9,10,13,32]=BW KC (AG KC l):=by
 unfold Lib.trimS Lib.trimLeftS Lib.trimRightS BW AG BW;simp only [ND]
theorem Q7 (l:List UInt8):Lib.trimRightS l [9,10,13,32]=AG KC l:=by
 unfold Lib.trimRightS AG BW;simp only [ND]
theorem RV (s:ByteArray) (w:World) (hs:s.size<=1099511627776):
  Calls Tryz.prog 249 #[.string s] w fun e w'=>e= .returned (.bool (F9 s.toList))/\w=w':=by
 have hlen:=Aa s;go_enter Tryz.func249,Tryz.ntmps249;go_wp2_with fail
 go_loop [3] (fun iv=>∃ k:Nat,iv= .int .i64 k/\k<=s.size/\Hid ((s.toList.take k).all Kq=true)) (fun iv=>s.size - (intOf iv).toNat)
 case atStart=>exact ⟨0,rfl,Nat.zero_le _,H0 rfl⟩
 case round=>
  obtain ⟨k,rfl,hk,hg⟩:=hrel
  by_cases hlt:k<s.size
  ·have hltI:(k:Int)<(s.size:Int):=by omega
   have htk:=A5 s k hlt;have hdr:=Ao s k hlt;obtain ⟨c,hc⟩:=N2 (s[k]);rw [hc] at htk hdr
   have hbad:Kq c=false->Hid (F9 s.toList=false):=fun h=>H0 (by
    unfold F9
    have e:s.toList=s.toList.take k++c :: s.toList.drop (k+1):=by rw [<-hdr,List.take_append_drop]
    rw [e,List.all_append,List.all_cons,h];simp)
   have hgood:Kq c=true->Hid ((s.toList.take (k+1)).all Kq=true):=fun h=>H0 (by
    rw [htk,List.all_append,hg.out];simp [h])
   have hix:=fun w=>Tryz.strings_IndexByte ⟨#[33,35,36,37,38,39,42,43,45,46,94,95,96,124,126]⟩ (c.toNat:Int) w
   have ec:((c.toNat:Int)).toNat.toUInt8=c:=by simp
   simp only [ec] at hix;have hsg:=NY Dj c
   have hway:(AU (c.toNat:Int)=true/\Kq c=true)\/(AU (c.toNat:Int)=false/\(¬ Ah (c.toNat:Int) 10<0)/\Kq c=true)\/
     (AU (c.toNat:Int)=false/\Ah (c.toNat:Int) 10<0/\(∃ z:Int,Lib.indexByte Dj c=z/\0<=z)/\Kq c=true)\/(AU (c.toNat:Int)=false/\Ah (c.toNat:Int) 10<0/\(∃ z:Int,Lib.indexByte Dj c=z/\z<0)/\Kq c=false):=by
    unfold Kq;cases hl:AU (c.toNat:Int)
    ·by_cases hd:Ah (c.toNat:Int) 10<0
     ·by_cases hz:0<=Lib.indexByte Dj c
      ·refine .inr (.inr (.inl ⟨rfl,hd,⟨_,rfl,hz⟩,?_⟩));rw [hsg,decide_eq_true hz];simp
      ·refine .inr (.inr (.inr ⟨rfl,hd,⟨_,rfl,by omega⟩,?_⟩))
       rw [hsg,decide_eq_false hz,decide_eq_false (by omega)];rfl
     ·refine .inr (.inl ⟨rfl,hd,?_⟩)
      rw [decide_eq_true (by omega)];simp
    ·exact .inl ⟨rfl,rfl⟩
   clear hsg htk hdr hg;replace hlen:=H0 hlen;rw [<-hc] at hix hway hbad hgood;replace hix:=H0 hix;replace hbad:=H0 hbad;replace hgood:=H0 hgood;replace hc:=H0 hc
   have hixz:∀ z:Int,Lib.indexByte Dj s[k]=z->Hid (∀ w,Calls Tryz.prog 47 #[.string ⟨#[33,35,36,37,38,39,42,43,45,46,94,95,96,124,126]⟩,.int .u8 (s[k].toNat:Int)] w fun e w'=>e= .returned (.int .i64 z)/\w'=w):=fun z hz=>H0 (fun w=>by
    have h:=hix.out w;rw [show Lib.indexByte [33,35,36,37,38,39,42,43,45,46,94,95,96,124,126] s[k]=z from hz] at h
    exact h)
   replace hixz:=H0 hixz
   rcases hway with ⟨q1,q2⟩ | ⟨q1,q2,q3⟩ | ⟨q1,q2,⟨z,hz,hz0⟩,q3⟩ | ⟨q1,q2,⟨z,hz,hz0⟩,q3⟩
   ·have hn:=hgood.out q2;clear q2;go_wp2_with (go_at_call 154;refine (De _ _).mono ?_;rintro e w' ⟨rfl,rfl⟩);go_round
    case rel=>exact ⟨k+1,by go_num,by omega,hn⟩
    case measure=>simp [intOf];omega
   ·have hn:=hgood.out q3
    have q4:0<=Ah (s[k].toNat:Int) 10:=by omega
    clear q2 q3
    go_wp2_with (first
     | (go_at_call 154;refine (De _ _).mono ?_;rintro e w' ⟨rfl,rfl⟩)
     | (go_at_call 155;refine (Bu _ _ _ (AC _) (AK _)).mono ?_;rintro e w' ⟨rfl,rfl⟩))
    go_round
    case rel=>exact ⟨k+1,by go_num,by omega,hn⟩
    case measure=>simp [intOf];omega
   ·have hn:=hgood.out q3;have hi:=hixz.out z hz;replace hz:=H0 hz;clear q3
    go_wp2_with (first
     | (go_at_call 154;refine (De _ _).mono ?_;rintro e w' ⟨rfl,rfl⟩)
     | (go_at_call 155;refine (Bu _ _ _ (AC _) (AK _)).mono ?_;rintro e w' ⟨rfl,rfl⟩)
     | (go_at_call 47;refine (hi.out _).mono ?_;rintro e w' ⟨rfl,rfl⟩))
    go_round
    case rel=>exact ⟨k+1,by go_num,by omega,hn⟩
    case measure=>simp [intOf];omega
   ·have hn:=hbad.out q3;have hi:=hixz.out z hz;replace hz:=H0 hz;clear q3
    go_wp2_with (first
     | (go_at_call 154;refine (De _ _).mono ?_;rintro e w' ⟨rfl,rfl⟩)
     | (go_at_call 155;refine (Bu _ _ _ (AC _) (AK _)).mono ?_;rintro e w' ⟨rfl,rfl⟩)
     | (go_at_call 47;refine (hi.out _).mono ?_;rintro e w' ⟨rfl,rfl⟩))
    go_ret;exact ⟨AF hn.out.symm,rfl⟩
  ·have hgeI:(s.size:Int)<=(k:Int):=by omega
   have hall:Hid (s.toList.all Kq=true):=H0 (by have:=hg.out;rw [Cl s k (by omega)] at this;exact this)
   cases hem:s.toList.isEmpty
   ·have hfin:Hid (F9 s.toList=true):=H0 (by unfold F9;rw [hem,hall.out];rfl)
    replace hlen:=H0 hlen;go_wp2_with fail;go_ret;exact ⟨AF hfin.out.symm,rfl⟩
   ·have hfin:Hid (F9 s.toList=false):=H0 (by unfold F9;rw [hem];rfl)
    replace hlen:=H0 hlen;go_wp2_with fail;go_ret;exact ⟨AF hfin.out.symm,rfl⟩
def AeI (w:World) (o:Option (List UInt8)) (e:Ending) (w':World):Prop:=
 ∃ t:ByteArray,e= .returned (.tuple #[.string t,.bool o.isSome])/\Hid (t.toList=o.getD [])/\Below w.heap.size w w'
theorem XJ (s:ByteArray) (w:World) (hs:s.size<=1099511627776):
  Calls Tryz.prog 248 #[.string s,.string ⟨#[9,10,13,32]⟩] w (Cy w (BW KC (AG KC s.toList))):=
 (Any.strings_Trim_laid Tryz.lays160 (by kernel_rfl) s ⟨#[9,10,13,32]⟩ w (by omega) (by decide) (ascii_of_all (by decide))).mono (by
  rintro e w' ⟨rfl,hb⟩
  exact F6 (by rw [<-ByteArray.toList_eq];exact AbC _) hb)
theorem Oe (s:ByteArray) (w:World) (hs:s.size<=1099511627776):
  Calls Tryz.prog 173 #[.string s,.string ⟨#[9,10,13,32]⟩] w (Cy w (AG KC s.toList)):=
 (Any.strings_TrimRight_laid Tryz.lays162 (by kernel_rfl) s ⟨#[9,10,13,32]⟩ w (by omega) (by decide) (ascii_of_all (by decide))).mono (by
  rintro e w' ⟨rfl,hb⟩
  exact F6 (by rw [<-ByteArray.toList_eq];exact Q7 _) hb)
theorem Gp (p:Int->Bool) (l:List UInt8):(AG p l).length<=l.length:=by
 unfold AG BW;rw [List.length_reverse]
 exact Nat.le_trans (List.dropWhile_sublist _).length_le (by rw [List.length_reverse];exact Nat.le_refl _)
theorem Rb (p:Int->Bool) (l:List UInt8):(BW p l).length<=l.length:=(List.dropWhile_sublist _).length_le
theorem U0 (s:ByteArray) (w:World) (hm:ML w) (hs:s.size<=1000000000):
  Calls Tryz.prog 184 #[.string s] w (AeI w (GS s.toList)):=by
 have hB:Below w.heap.size w w:=Below.refl _ _;have e0:(ByteArray.mk #[]).toList=[]:=toList_mk [];go_enter Tryz.func184,Tryz.ntmps184;go_wp2_with fail
 refine (XJ s _ (by omega)).mono ?_
 rintro e w1 ⟨t,rfl,ht,hb⟩
 replace hB:=hB.next hb
 clear hb
 have htz:t.size<=1000000000:=by
  rw [<-Aa,ht.out];have h1:=Rb KC (AG KC s.toList);have h2:=Gp KC s.toList;rw [Aa] at h2;omega
 have hE:Hid (GS s.toList=Yi t.toList):=H0 (by rw [ht.out];rfl)
 clear ht
 have hct:=H0 (fun w hm=>Gd t 47 w hm (by omega))
 have hl:=Cc 47 t.toList;rw [Aa] at hl;go_wp2_with fail
 refine (hct.out _ (hm.next hB)).mono ?_
 rintro e w2 ⟨ta,tb,nd,rfl,h1,h2,hw⟩
 have hB2:Below w.heap.size w w2:=by rw [hw];exact below_drewN hB nd
 have haz:ta.size<=1000000000:=by rw [<-Aa,h1.out];omega
 have hbz:tb.size<=1000000000:=by rw [<-Aa,h2.out];omega
 obtain ⟨mo,hmo⟩:∃ mo,(Af 47 t.toList).2.2=mo:=⟨_,rfl⟩;rw [hmo];clear hw hB hl hct;cases mo
 ·have hno:Hid (GS s.toList=none):=H0 (by rw [hE.out];unfold Yi;rw [if_pos hmo])
  replace hmo:=H0 hmo;go_wp2_with fail;go_ret2
  exact ⟨⟨#[]⟩,by rw [hno.out];rfl,H0 (by rw [hno.out];exact e0),hB2⟩
 ·have hT:Hid (GS s.toList=if F9 ta.toList=true/\F9 (AG KC (Af 59 tb.toList).1)=true then some (AD ta.toList++47 :: AD (AG KC (Af 59 tb.toList).1)) else none):=H0 (by
   rw [hE.out];unfold Yi;rw [if_neg (by rw [hmo];decide),h1.out,h2.out])
  replace hmo:=H0 hmo;clear hE
  have hct:=H0 (fun w hm=>Gd tb 59 w hm (by omega))
  have hl:=Cc 59 tb.toList;rw [Aa] at hl;go_wp2_with fail
  refine (hct.out _ (hm.next hB2)).mono ?_
  rintro e w3 ⟨tc,td,nd2,rfl,h3,h4,hw⟩
  have hB3:Below w.heap.size w w3:=by rw [hw];exact below_drewN hB2 nd2
  have hcz:tc.size<=1000000000:=by rw [<-Aa,h3.out];omega
  rw [<-h3.out] at hT;clear hw hB2 hl hct;go_wp2_with fail
  refine (Oe tc _ (by omega)).mono ?_
  rintro e w4 ⟨te,rfl,hte,hb⟩
  have hB4:=hB3.next hb
  have hez:te.size<=1000000000:=by
   rw [<-Aa,hte.out];have:=Gp KC tc.toList;rw [Aa] at this;omega
  rw [<-hte.out] at hT;clear hb hB3 h1 h2 h3 h4 hte
  have htkA:=H0 (fun w=>RV ta w (by omega))
  have htkB:=H0 (fun w=>RV te w (by omega))
  cases qa:F9 ta.toList
  ·have hno:Hid (GS s.toList=none):=H0 (by rw [hT.out,qa];simp)
   rw [qa] at htkA;replace qa:=H0 qa
   go_wp2_with (first | (go_at_call 249;refine (htkA.out _).mono ?_;rintro e w' ⟨rfl,rfl⟩))
   go_ret2
   exact ⟨⟨#[]⟩,by rw [hno.out];rfl,H0 (by rw [hno.out];exact e0),hB4⟩
  cases qb:F9 te.toList
  ·have hno:Hid (GS s.toList=none):=H0 (by rw [hT.out,qb];simp)
   rw [qa] at htkA;rw [qb] at htkB;replace qa:=H0 qa;replace qb:=H0 qb;go_wp2_with fail;refine (htkA.out _).mono ?_;rintro e w' ⟨rfl,rfl⟩;go_wp2_with fail;refine (htkB.out _).mono ?_;rintro e w' ⟨rfl,rfl⟩;go_wp2_with fail;go_ret2
   exact ⟨⟨#[]⟩,by rw [hno.out];rfl,H0 (by rw [hno.out];exact e0),hB4⟩
  ·have hyes:Hid (GS s.toList=some (AD ta.toList++47 :: AD te.toList)):=H0 (by rw [hT.out,qa,qb];simp)
   rw [qa] at htkA;rw [qb] at htkB;replace qa:=H0 qa;replace qb:=H0 qb;go_wp2_with fail;refine (htkA.out _).mono ?_;rintro e w' ⟨rfl,rfl⟩;go_wp2_with fail;refine (htkB.out _).mono ?_;rintro e w' ⟨rfl,rfl⟩;go_wp2_with fail
   refine (Fl ta _ (by omega)).mono ?_
   rintro e w5 ⟨la,rfl,hla,hb⟩
   have hB5:=hB4.next hb
   have hlaz:la.size<=1000000000:=by rw [<-Aa,hla.out];unfold AD;rw [List.length_map,Aa];omega
   clear hb hB4;go_wp2_with fail
   refine (Fl te _ (by omega)).mono ?_
   rintro e w6 ⟨lb,rfl,hlb,hb⟩
   have hB6:=hB5.next hb
   have hlbz:lb.size<=1000000000:=by rw [<-Aa,hlb.out];unfold AD;rw [List.length_map,Aa];omega
   clear hb hB5;go_wp2_with fail;go_ret2
   exact ⟨la++⟨#[47]⟩++lb,by rw [hyes.out];rfl,H0 (by rw [hyes.out,toList_append,toList_append,hla.out,hlb.out,show (ByteArray.mk #[47]).toList=[47] from toList_mk _];simp),hB6⟩
theorem QL (c:UInt8):([32]:List UInt8).contains c=HH (c.toNat:Int):=by
 have h:∀ n:Fin 256,([32]:List UInt8).contains (UInt8.ofNat n.val)=HH ((UInt8.ofNat n.val).toNat:Int):=by decide+kernel
 have:=h ⟨c.toNat,c.toNat_lt⟩;simpa using this
theorem QH (l:List UInt8):Lib.trimRightB l 32=AG HH l:=by
 rw [<-Lib.trimRightS_one];unfold Lib.trimRightS AG BW;simp only [QL]
theorem KF (l:List UInt8) (c:UInt8):Lib.hasSuffix l [c]=decide (l.getLast? =some c):=by
 unfold Lib.hasSuffix
 rcases List.eq_nil_or_concat l with rfl | ⟨L,d,rfl⟩
 ·rfl
 ·have e:(L++[d]).reverse=d :: L.reverse:=by rw [List.reverse_append];rfl
  have e2:(L++[d]).getLast? =some d:=by rw [List.getLast?_append];rfl
  have e3:L.concat d=L++[d]:=List.concat_eq_append
  try rw [e3]
  unfold List.isSuffixOf;rw [e,e2];show (c==d && true)=decide (some d=some c);rw [Bool.and_true,Bool.eq_iff_iff,beq_iff_eq,decide_eq_true_iff]
  exact ⟨fun h=>by rw [h],fun h=>(Option.some.inj h).symm⟩
theorem Ph (l:List UInt8) (c:UInt8):Lib.trimSuffix l [c]=if l.getLast? =some c then l.dropLast else l:=by
 unfold Lib.trimSuffix;rw [KF]
 by_cases h:l.getLast? =some c
 ·rw [decide_eq_true h,if_pos h,if_pos rfl,List.dropLast_eq_take];rfl
 ·rw [decide_eq_false h,if_neg h];rfl
theorem R9 (l:List UInt8):(DE l).length<=l.length:=by
 unfold DE;split
 ·split
  ·rw [List.length_dropLast];have:=Gp HH (l.take (l.length - 6));rw [List.length_take] at this;omega
  ·exact Nat.le_refl _
 ·exact Nat.le_refl _
theorem Adz (s:ByteArray) (w:World) (hs:s.size<=1000000000):
  Calls Tryz.prog 181 #[.string s] w (Cy w (DE s.toList)):=by
 have hB:Below w.heap.size w w:=Below.refl _ _;have hlen:=Aa s
 by_cases h6:s.size<6
 ·have hV:Hid (s.toList=DE s.toList):=H0 (by unfold DE;rw [if_neg (fun h=>by omega)])
  have hI:(s.size:Int)<6:=by omega
  replace hlen:=H0 hlen;go_enter Tryz.func181,Tryz.ntmps181;go_wp2_with fail;go_ret;exact BL hV.out hB
 obtain ⟨k,hk⟩:∃ k,s.size=k+6:=⟨s.size - 6,by omega⟩
 have hI:(6:Int)<=(s.size:Int):=by omega
 have hkI:(s.size:Int) - 6=(k:Int):=by omega
 have hkJ:(k:Int)<=(s.size:Int):=by omega
 have hkN:k<=s.size:=by omega
 have eu:(s.extract k s.size).toList=s.toList.drop (s.toList.length - 6):=by rw [toList_extract,List.take_of_length_le (by rw [hlen];exact Nat.le_refl _),hlen,show s.size - 6=k by omega]
 have eh:(s.extract 0 k).toList=s.toList.take (s.toList.length - 6):=by rw [toList_extract,List.drop_zero,hlen,show s.size - 6=k by omega]
 have zu:(s.extract k s.size).size<=1000000000:=by rw [<-Aa,eu,List.length_drop,hlen];omega
 have zh:(s.extract 0 k).size<=1000000000:=by rw [<-Aa,eh,List.length_take,hlen];omega
 obtain ⟨u,hu⟩:∃ q,s.extract k s.size=q:=⟨_,rfl⟩;obtain ⟨h,hh⟩:∃ q,s.extract 0 k=q:=⟨_,rfl⟩;rw [hu] at eu zu;rw [hh] at eh zh
 have h6N:6<=s.toList.length:=by omega
 replace hk:=H0 hk;replace hlen:=H0 hlen;replace eu:=H0 eu;replace eh:=H0 eh;clear h6;go_enter Tryz.func181,Tryz.ntmps181;go_wp2_with fail
 refine (Fl u _ (by omega)).mono ?_
 rintro e w1 ⟨t,rfl,ht,hb⟩
 replace hB:=hB.next hb
 clear hb
 by_cases hq:t.toList=Fx
 ·have hqb:(t.toList==[98,97,115,101,54,52])=true:=by rw [hq];rfl
  have hV:Hid (DE s.toList=if (AG HH h.toList).getLast? =some 59 then (AG HH h.toList).dropLast else s.toList):=H0 (by
   unfold DE
   rw [if_pos ⟨h6N,by rw [<-eu.out,<-ht.out];exact hq⟩,<-eh.out])
  replace hq:=H0 hq
  have htr:=H0 (fun w=>Tryz.strings_TrimRight_one h 32 (by decide) w (by omega))
  go_wp2_with fail;refine (htr.out _).mono ?_;rintro e w2 ⟨rfl,rfl⟩;obtain ⟨r,hr⟩:∃ q:ByteArray,(⟨(Lib.trimRightB h.data.toList 32).toArray⟩:ByteArray)=q:=⟨_,rfl⟩;rw [hr]
  have hrl:r.toList=AG HH h.toList:=by rw [<-hr,toList_mk,<-ByteArray.toList_eq];exact QH _
  have hrz:r.size<=1000000000:=by
   rw [<-Aa,hrl];have:=Gp HH h.toList;rw [Aa] at this;omega
  rw [<-hrl] at hV
  have hcs:=fun w=>Tryz.strings_CutSuffix r ⟨#[59]⟩ w (by omega)
  replace hr:=H0 hr;replace hrl:=H0 hrl
  have e1:Lib.trimSuffix r.data.toList (ByteArray.mk #[59]).data.toList=if r.toList.getLast? =some 59 then r.toList.dropLast else r.toList:=by
   rw [<-ByteArray.toList_eq];exact Ph _ _
  have e2:Lib.hasSuffix r.data.toList (ByteArray.mk #[59]).data.toList=decide (r.toList.getLast? =some 59):=by
   rw [<-ByteArray.toList_eq];exact KF _ _
  by_cases hl:r.toList.getLast? =some 59
  ·have hyes:Hid (DE s.toList=r.toList.dropLast):=H0 (by rw [hV.out,if_pos hl])
   rw [if_pos hl] at e1;rw [decide_eq_true hl] at e2;simp only [e1,e2] at hcs;replace hcs:=H0 hcs;replace hl:=H0 hl;clear e1 e2;go_wp2_with fail;refine (hcs.out _).mono ?_;rintro e w3 ⟨rfl,rfl⟩;go_wp2_with fail;go_ret;exact F6 hyes.out.symm hB
  ·have hno:Hid (DE s.toList=s.toList):=H0 (by rw [hV.out,if_neg hl])
   rw [decide_eq_false hl] at e2;simp only [e2] at hcs;replace hcs:=H0 hcs;replace hl:=H0 hl;clear e1 e2;go_wp2_with fail;refine (hcs.out _).mono ?_;rintro e w3 ⟨rfl,rfl⟩;go_wp2_with fail;go_ret;exact BL hno.out.symm hB
 ·have hqb:(t.toList==[98,97,115,101,54,52])=false:=by simpa [Fx] using hq
  have hno:Hid (DE s.toList=s.toList):=H0 (by
   unfold DE
   rw [if_neg (fun x=>hq (by rw [ht.out,eu.out];exact x.2))])
  replace hq:=H0 hq;go_wp2_with fail;go_ret;exact BL hno.out.symm hB
def GH:List UInt8:=[100,97,116,97]
def DG (u:Al):Option (List UInt8):=if u.scheme.toList=GH then UA (Eg u false) else none
theorem Ni {u:Al} (h:u.scheme.toList=GH):∃ r,Eg u false=[100,97,116,97,58]++r:=by
 unfold Eg;rw [h]
 exact ⟨CQ u++E3 u++Ex u.hasQuery ([63]++u.query.toList)++Ex (u.hasFrag && false) ([35]++u.frag.toList),by simp [GH]⟩
theorem AcL (r:List UInt8):Af 44 ([100,97,116,97,58]++r)=([100,97,116,97,58]++(Af 44 r).1,(Af 44 r).2.1,(Af 44 r).2.2):=by
 show Af 44 (100 :: 97 :: 116 :: 97 :: 58 :: r)=_
 rw [Af,if_neg (by decide),Af,if_neg (by decide),Af,if_neg (by decide),Af,if_neg (by decide),Af,if_neg (by decide)]
 rfl
theorem NX (r:List UInt8):Lib.trimPrefix ([100,97,116,97,58]++r) [100,97,116,97,58]=r:=by
 unfold Lib.trimPrefix Lib.hasPrefix
 rw [if_pos (by simp [List.isPrefixOf])]
 rfl
theorem QO (l:List UInt8) (c:UInt8):Lib.hasPrefix l [c]=decide (l.head? =some c):=by
 unfold Lib.hasPrefix
 cases l with
 | nil=>rfl
 | cons d r=>
  show (c==d && true)=decide (some d=some c);rw [Bool.and_true,Bool.eq_iff_iff,beq_iff_eq,decide_eq_true_iff]
  exact ⟨fun h=>by rw [h],fun h=>(Option.some.inj h).symm⟩
theorem Rs (l:List UInt8):(JJ l).length<=l.length:=Nat.le_trans (Gp _ _) (Rb _ _)
theorem AbR (u:Al) (w:World) (hp:Fs w u) (fit:Gs u) (hz:(Eg u false).length<=900000000) (ht:Ij w) (hm:ML w):
  Calls Tryz.prog 108 #[.agg (Ab u)] w (AeI w (DG u)):=by
 have hB:Below w.heap.size w (w.alloc (.cells (Ab u) 34)):=(Below.refl _ _).alloc (Nat.le_refl _) _;have hblk:=H0 (heap_alloc_new w (.cells (Ab u) 34));have x0:(w.alloc (.cells (Ab u) 34)).cell? ⟨w.heap.size,0,none⟩=some (.string u.scheme):=(World.cell?_alloc_at _ _ _ _ rfl).trans rfl;have e0:(ByteArray.mk #[]).toList=[]:=toList_mk [];have hp1:=hp.below hB (Nat.le_refl _)
 by_cases hd:u.scheme.toList=GH
 ·have hdI:(u.scheme.toList==[100,97,116,97])=true:=by rw [hd];rfl
  have hV:Hid (DG u=UA (Eg u false)):=H0 (by unfold DG;rw [if_pos hd])
  obtain ⟨r,hr⟩:=Ni hd;replace hd:=H0 hd
  have hwr:=H0 (Gj u false _ hp1 fit (ht.next hB))
  go_enter Tryz.func108,Tryz.ntmps108;go_wp2_with (refine wpList_load_row rfl 34 _ rfl w.heap.size rfl _ (Ab u) _ _ hblk.out Tryz.underlying34 rfl Fv ?_);refine hwr.out.mono ?_;rintro e w2 ⟨t,rfl,htx,hb⟩
  replace hB:=hB.next hb
  clear hb x0 hblk hwr
  have htz:t.size<=900000000:=by rw [<-Aa,htx.out];exact hz
  have hct:=H0 (fun w hm=>Gd t 44 w hm (by omega))
  go_wp2_with fail
  refine (hct.out _ (hm.next hB)).mono ?_
  rintro e w3 ⟨ta,tb,nd,rfl,h1,h2,hw⟩
  have hB2:Below w.heap.size w w3:=by rw [hw];exact below_drewN hB nd
  have hcut:Af 44 t.toList=([100,97,116,97,58]++(Af 44 r).1,(Af 44 r).2.1,(Af 44 r).2.2):=by rw [htx.out,hr];exact AcL r
  rw [hcut] at h1⊢
  have hD:Hid (DG u=if (Af 44 r).2.2=true then some (JC (Af 44 r).1) else none):=H0 (by rw [hV.out,hr];rfl)
  have hcz:(Af 44 r).1.length<=900000000:=by
   have:=Cc 44 r;have h3:=congrArg List.length hr;simp only [List.length_append,List.length_cons] at h3;omega
  obtain ⟨mo,hmo⟩:∃ mo,(Af 44 r).2.2=mo:=⟨_,rfl⟩;dsimp only at h1⊢;rw [hmo] at hD⊢;clear hw hB hct hcut hV htx;replace hmo:=H0 hmo;replace hr:=H0 hr;cases mo
  ·have hno:Hid (DG u=none):=H0 (by rw [hD.out];simp)
   go_wp2_with fail;go_ret2
   exact ⟨⟨#[]⟩,by rw [hno.out];rfl,H0 (by rw [hno.out];exact e0),hB2⟩
  ·have hyes:Hid (DG u=some (JC (Af 44 r).1)):=H0 (by rw [hD.out];simp)
   have htp:=fun w=>Tryz.strings_TrimPrefix ta ⟨#[100,97,116,97,58]⟩ w
   have etp:Lib.trimPrefix ta.data.toList (ByteArray.mk #[100,97,116,97,58]).data.toList=(Af 44 r).1:=by
    rw [<-ByteArray.toList_eq,h1.out];exact NX _
   simp only [etp] at htp;replace htp:=H0 htp;clear etp hD;obtain ⟨H,hH⟩:∃ H,(Af 44 r).1=H:=⟨_,rfl⟩;rw [hH] at htp hyes hcz;clear hH h1;obtain ⟨th,hth⟩:∃ q:ByteArray,(⟨H.toArray⟩:ByteArray)=q:=⟨_,rfl⟩;rw [hth] at htp
   have hthl:th.toList=H:=by rw [<-hth];exact toList_mk _
   have hthz:th.size<=900000000:=by rw [<-Aa,hthl];exact hcz
   rw [<-hthl] at hyes;clear hth hthl hcz;go_wp2_with fail;refine (htp.out _).mono ?_;rintro e w4 ⟨rfl,rfl⟩;go_wp2_with fail
   refine (AaR th _ (by omega)).mono ?_
   rintro e w5 ⟨ts,rfl,hts,hb⟩
   have hB3:=hB2.next hb
   have htsz:ts.size<=900000000:=by
    rw [<-Aa,hts.out];have:=Rs th.toList;rw [Aa] at this;omega
   clear hb hB2 htp;go_wp2_with fail
   refine (Adz ts _ (by omega)).mono ?_
   rintro e w6 ⟨tq,rfl,htq,hb⟩
   have hB4:=hB3.next hb
   have htqz:tq.size<=900000000:=by
    rw [<-Aa,htq.out];have:=R9 ts.toList;rw [Aa] at this;omega
   have hty:Hid (JC th.toList=(GS (if tq.toList.head? =some 59 then FU++tq.toList else tq.toList)).getD FU):=H0 (by
    unfold JC;rw [htq.out,hts.out])
   clear hb hB3 hts htq
   have hpf:=fun w=>Tryz.strings_HasPrefix tq ⟨#[59]⟩ w
   have epf:Lib.hasPrefix tq.data.toList (ByteArray.mk #[59]).data.toList=decide (tq.toList.head? =some 59):=by rw [<-ByteArray.toList_eq];exact QO _ _
   simp only [epf] at hpf;have hplain:(ByteArray.mk #[116,101,120,116,47,112,108,97,105,110]).toList=FU:=toList_mk _
   obtain ⟨tx,htx,htxz,hway⟩:∃ tx:ByteArray,Hid (JC th.toList=(GS tx.toList).getD FU)/\tx.size<=900000010/\((decide (tq.toList.head? =some 59)=true/\tx=⟨#[116,101,120,116,47,112,108,97,105,110]⟩++tq)\/(decide (tq.toList.head? =some 59)=false/\tx=tq)):=by
    by_cases h:tq.toList.head? =some 59
    ·refine ⟨⟨#[116,101,120,116,47,112,108,97,105,110]⟩++tq,H0 ?_,?_,.inl ⟨decide_eq_true h,rfl⟩⟩
     ·rw [hty.out,if_pos h,toList_append,hplain]
     ·rw [ByteArray.size_append];show 10+tq.size<=_;omega
    ·exact ⟨tq,H0 (by rw [hty.out,if_neg h]),by omega,.inr ⟨decide_eq_false h,rfl⟩⟩
   replace hplain:=H0 hplain;clear epf hty;obtain ⟨o,ho⟩:=N2 (GS tx.toList)
   have hes:=H0 (fun w hm=>ho ▸ U0 tx w hm (by omega))
   have hfin:Hid (DG u=some (o.getD FU)):=H0 (by rw [hyes.out,htx.out,ho])
   replace ho:=H0 ho;have hplain2:=hplain
   rcases hway with ⟨q1,rfl⟩ | ⟨q1,rfl⟩
   all_goals
    rw [q1] at hpf;replace hpf:=H0 hpf;replace q1:=H0 q1;go_wp2_with fail;refine (hpf.out _).mono ?_;rintro e w7 ⟨rfl,rfl⟩;go_wp2_with fail
    refine (hes.out _ (hm.next hB4)).mono ?_
    rintro e w8 ⟨tr,rfl,htr,hb⟩
    have hB5:=hB4.next hb
    clear hb hes
    cases o with
    | none=>
     go_wp2_with fail;go_ret2
     exact ⟨⟨#[116,101,120,116,47,112,108,97,105,110]⟩,by rw [hfin.out];rfl,H0 (by rw [hfin.out];exact hplain.out),hB5⟩
    | some l=>
     go_wp2_with fail;go_ret2
     exact ⟨tr,by rw [hfin.out];rfl,H0 (by rw [hfin.out];exact htr.out),hB5⟩
 ·have hdI:(u.scheme.toList==[100,97,116,97])=false:=by simpa [GH] using hd
  have hno:Hid (DG u=none):=H0 (by unfold DG;rw [if_neg hd])
  replace hd:=H0 hd;go_enter Tryz.func108,Tryz.ntmps108;go_wp2_with fail;go_ret2
  exact ⟨⟨#[]⟩,by rw [hno.out];rfl,H0 (by rw [hno.out];exact e0),hB⟩
def FI (l:List ByteArray) (s:List UInt8):Bool:=l.any fun e=>e.toList==s
def G8 (h:CL) (e:ByteArray):Bool:=(e.toList==Fa h) || (e.toList==[42]) || (Lib.hasPrefix e.toList [46] && decide (h.kind=2) && decide (e.size<h.name.size) && Lib.hasSuffix h.name.toList e.toList)
def Iu (h:CL):Bool:=decide (h.kind=0) || decide (h.kind=1)
def hostA (l:List ByteArray) (h:CL):Bool:=Iu h || l.any (G8 h)
def NO (T:List ByteArray) (u:Al):Bool:=if u.scheme.toList=GH then (match DG u with | none=>false | some e=>FI T e) else true
def CI (S H T:List ByteArray) (u:Al):Bool:=FI S u.scheme.toList && hostA H u.host && NO T u
theorem AaN:∀ h:Bz,Fa (Am h)=h.text
 | .none=>rfl
 | .empty=>rfl
 | .name n=>toList_mk n
 | .four n=>rfl
 | .six l=>rfl
 | .opaqueN n=>toList_mk n
theorem Rp:∀ h:Bz,(Am h).kind=0↔h= .none
 | .none=>⟨fun _=>rfl,fun _=>rfl⟩
 | .empty=>⟨fun h=>absurd h (by decide),fun h=>by cases h⟩
 | .name n=>⟨fun h=>absurd h (by show ¬ (2:Int)=0;decide),fun h=>by cases h⟩
 | .four n=>⟨fun h=>absurd h (by show ¬ (3:Int)=0;decide),fun h=>by cases h⟩
 | .six l=>⟨fun h=>absurd h (by show ¬ (4:Int)=0;decide),fun h=>by cases h⟩
 | .opaqueN n=>⟨fun h=>absurd h (by show ¬ (5:Int)=0;decide),fun h=>by cases h⟩
theorem Pw (l:List ByteArray):DK l=Az (l.map (·.toList)):=by unfold DK Az;rw [List.flatMap_map]
theorem Zq:∀ l:List ByteArray,Yq l=YN (l.map (·.toList))
 | []=>rfl
 | _ :: _=>rfl
theorem AfG {S:Al} {u:Aq} (h:Gt S u):F4 S=IE u.user u.pass:=by unfold F4 IE;rw [h.user,h.pass]
theorem Acl {S:Al} {u:Aq} (h:Gt S u):Jj S=DM u.port:=by
 unfold Jj;rw [h.hasPort,h.port]
 cases u.port<;>rfl
theorem Aak {S:Al} {u:Aq} (h:Gt S u):CQ S=FT u:=by
 unfold CQ FT;rw [h.host,AaN,AfG h,Acl h]
 have hd:K9 S=(!u.opq && (decide (2<=u.path.length) && YN u.path)):=by
  unfold K9;rw [h.opq,Zq,h.path,<-h.path,List.length_map]
 rw [hd]
 by_cases hn:u.host= .none
 ·rw [if_pos ((Rp _).2 hn),if_pos hn];rfl
 ·rw [if_neg (fun e=>hn ((Rp _).1 e)),if_neg hn]
theorem AcH {S:Al} {u:Aq} (h:Gt S u):E3 S=Hd u:=by
 unfold E3 Hd;rw [h.opq,h.flat,Pw,h.path]
theorem AcF (d:UInt8) (o:Option (List UInt8)):Ex o.isSome ([d]++o.getD [])=FQ d o:=by cases o<;>rfl
theorem EG {S:Al} {u:Aq} (h:Gt S u) (f:Bool):Eg S f=AS u f:=by
 unfold Eg AS;rw [h.scheme,Aak h,AcH h,h.hasQuery,h.query,h.hasFrag,h.frag,AcF];congr 1;cases f
 ·rw [Bool.and_false];rfl
 ·rw [Bool.and_true,AcF];rfl
theorem Abd {sp:Bool} {h:Bz} (g:Be sp h) (hz:h.text.length<=4294967296):ME (Am h):=by
 have h6:Tu [0,0,0,0,0,0,0,0]:=⟨rfl,by decide⟩
 cases g with
 | name h1 h2 h3 h4=>
  rename_i n
  refine ⟨by show (0:Nat)<4294967296;decide,h6,?_⟩
  show (ByteArray.mk n.toArray).size<=maxLen
  have:(ByteArray.mk n.toArray).size=n.length:=by simp [ByteArray.size]
  rw [this];have h7:n.length<=4294967296:=hz;unfold maxLen;omega
 | four h=>exact ⟨h,h6,by show (0:Nat)<=maxLen;exact Nat.zero_le _⟩
 | six h=>exact ⟨by show (0:Nat)<4294967296;decide,h,by show (0:Nat)<=maxLen;exact Nat.zero_le _⟩
 | empty=>exact ⟨by show (0:Nat)<4294967296;decide,h6,by show (0:Nat)<=maxLen;exact Nat.zero_le _⟩
 | other h1 h2 h3=>
  rename_i n
  refine ⟨by show (0:Nat)<4294967296;decide,h6,?_⟩
  show (ByteArray.mk n.toArray).size<=maxLen
  have:(ByteArray.mk n.toArray).size=n.length:=by simp [ByteArray.size]
  rw [this];have h7:n.length<=4294967296:=hz;unfold maxLen;omega
theorem NM:ME (Am .none):=⟨by show (0:Nat)<4294967296;decide,⟨rfl,by decide⟩,by show (0:Nat)<=maxLen;exact Nat.zero_le _⟩
theorem El {t:ByteArray} {l:List UInt8} (h:t.toList=l) {K:Nat} (hl:l.length<=K):t.size<=K:=by rw [<-Aa,h];exact hl
theorem VR (d:UInt8) (o:Option (List UInt8)):(o.getD []).length<=(FQ d o).length:=by
 cases o with
 | none=>exact Nat.zero_le _
 | some q=>show q.length<=(d :: q).length;rw [List.length_cons];omega
theorem I1 (l:List (List UInt8)):l.length<=(Az l).length:=by
 induction l with
 | nil=>exact Nat.le_refl _
 | cons p r ih=>
  have:Az (p :: r)=(47 :: p)++Az r:=by unfold Az;rw [List.flatMap_cons]
  rw [this,List.length_append,List.length_cons,List.length_cons];omega
theorem AaY {l:List (List UInt8)} {p:List UInt8} (h:p∈l):p.length<=(Az l).length:=by
 induction l with
 | nil=>cases h
 | cons q r ih=>
  have:Az (q :: r)=(47 :: q)++Az r:=by unfold Az;rw [List.flatMap_cons]
  rw [this,List.length_append,List.length_cons]
  rcases List.mem_cons.1 h with rfl | h
  ·omega
  ·have:=ih h;omega
theorem Q9:∀ h:Bz,(Am h).name.size<=h.text.length
 | .none=>Nat.le_refl _
 | .empty=>Nat.le_refl _
 | .name n=>by show (ByteArray.mk n.toArray).size<=n.length;simp [ByteArray.size]
 | .four n=>Nat.zero_le _
 | .six l=>Nat.zero_le _
 | .opaqueN n=>by show (ByteArray.mk n.toArray).size<=n.length;simp [ByteArray.size]
theorem EF {S:Al} {u:Aq} (h:Gt S u) (g:AY u) (hz:Bt u<=4000000000):Gs S:=by
 unfold Bt at hz;have q1:=VR 63 u.query;have q2:=VR 35 u.frag;have q3:=Q9 u.host;have q4:=I1 u.path;refine ⟨?_,?_,?_,?_,?_,?_,?_,?_,?_,?_,?_⟩
 ·exact El h.scheme (by omega)
 ·exact El h.user (by omega)
 ·exact El h.pass (by omega)
 ·rw [h.host];omega
 ·exact El h.flat (by omega)
 ·exact El h.query (by omega)
 ·exact El h.frag (by omega)
 ·rw [Pw,h.path];omega
 ·have:S.path.length=u.path.length:=by rw [<-h.path,List.length_map]
  rw [this];unfold maxLen;omega
 ·rw [h.port]
  cases hq:u.port with
  | none=>exact ⟨by decide,by decide⟩
  | some n=>
   have:=RI g n hq
   show -9223372036854775808<=(n:Int)/\(n:Int)<=9223372036854775807
   omega
 ·rw [h.host]
  rcases Nb g with e | ⟨sp,gh⟩
  ·rw [e];exact NM
  ·exact Abd gh (by omega)
def GL (S H T:List ByteArray) (u:Aq):Bool:=(FI S u.scheme && hostA H (Am u.host)) && (if u.scheme=GH then (match UA (AS u false) with | none=>false | some e=>FI T e) else true)
theorem PN {S H T:List ByteArray} {X:Al} {u:Aq} (h:Gt X u):CI S H T X=GL S H T u:=by
 unfold CI GL NO DG;rw [h.scheme,h.host,EG h];congr 1
 by_cases hd:u.scheme=GH
 ·rw [if_pos hd,if_pos hd,if_pos hd]
  try (cases UA (AS u false)<;>rfl)
 ·rw [if_neg hd,if_neg hd]
def GT (l:List UInt8):List UInt8:=l.flatMap fun c=>if c=0 then IX else [c]
theorem ZX (c:UInt8) (r:List UInt8):GT (c :: r)=(if c=0 then IX else [c])++GT r:=by unfold GT;rw [List.flatMap_cons]
theorem On:∀ {l:List UInt8},(∀ c∈l,c≠0)->GT l=l
 | [],_=>rfl
 | c :: r,h=>by
  rw [ZX,if_neg (h c (List.mem_cons_self ..)),On (fun x hx=>h x (List.mem_cons_of_mem _ hx))];rfl
theorem Aam {l:List UInt8} (h:l.count 0=0):GT l=l:=On fun c hc e=>by
 subst e;exact List.count_eq_zero.1 h hc
def Eh (c:UInt8):Bool:=Cz (c.toNat:Int)
def Gn (c:UInt8):Bool:=((c.toNat:Int)==44) || Eh c
def BV (ins:Bool) (c:UInt8):Bool × Bool:=if ins=true then (true,(c.toNat:Int) != 41) else if ((c.toNat:Int)==40)=true then (true,true) else if Gn c=true then (false,false) else (true,false)
def Vs (p:UInt8->Bool):Unit->UInt8->Bool × Unit:=fun _ c=>(p c,())
theorem Ih (p:UInt8->Bool):∀ l,Bl (Vs p) () l=(l.takeWhile p,l.dropWhile p,())
 | []=>rfl
 | c :: r=>by
  cases h:p c
  ·rw [Pk (by exact h),List.takeWhile_cons,List.dropWhile_cons,if_neg (by rw [h];decide),if_neg (by rw [h];decide)]
  ·rw [Mx (by exact h),List.takeWhile_cons,List.dropWhile_cons,if_pos h,if_pos h]
   have e:(Vs p () c).2=():=rfl;rw [e,Ih p r]
theorem MS {σ:Type} (step:σ->UInt8->Bool × σ):∀ (st:σ) (l:List UInt8),(Bl step st l).1++(Bl step st l).2.1=l
 | st,[]=>rfl
 | st,c :: r=>by
  cases h:(step st c).1
  ·rw [Pk h];rfl
  ·rw [Mx h,List.cons_append]
   exact congrArg (c :: ·) (MS step _ r)
theorem Mg (b:Bool):b=false\/b=true:=by cases b<;>simp
theorem AdB (c:Int) (w:World):
  Calls Tryz.prog 171 #[.int .u8 c] w fun e w'=>e= .returned (.bool ((c==44) || Cz c))/\w=w':=by
 go_enter Tryz.func171,Tryz.ntmps171
 rcases Mg (c==44) with h | h
 all_goals
  rw [h];go_wp2_with (go_at_call 110;refine (Fj _ _).mono ?_;rintro e w' ⟨rfl,rfl⟩);go_ret;exact ⟨rfl,rfl⟩
theorem AcI (c:Int) (w:World):
  Calls Tryz.prog 172 #[.int .u8 c] w fun e w'=>e= .returned (.bool (!Cz c))/\w=w':=by
 go_enter Tryz.func172,Tryz.ntmps172;go_wp2_with (go_at_call 110;refine (Fj _ _).mono ?_;rintro e w' ⟨rfl,rfl⟩);go_ret;exact ⟨rfl,rfl⟩
def VP (g:Nat) (b:Bool) (w:World):Prop:=w.heap[g]? =some (.cells #[.bool b] 4 (0,0))
theorem VP.put {w:World} {g:Nat} {b:Bool} (h:VP g b w) (b':Bool):VP g b' (w.setCell ⟨g,0,none⟩ (.bool b')):=by
 unfold VP;rw [A6 h];rfl
theorem Adp (g:Nat) (b:Bool) (c:UInt8) (w:World) (hb:VP g b w):
  Calls Tryz.prog 241 #[.int .u8 (c.toNat:Int),.pointer (some ⟨g,0,none⟩)] w fun e w'=>e= .returned (.bool (BV b c).1)/\VP g (BV b c).2 w'/\BI (· =g) w w':=by
 have xb:=cell_of_row _ _ 0 _ _ _ hb;have fb:=frozen_of_row _ _ 0 _ _ hb;simp only [List.getElem?_toArray,List.getElem?_cons_zero] at xb;have hput:=hb.put;replace hb:=H0 hb;replace hput:=H0 hput;cases b
 ·rcases Mg ((c.toNat:Int)==40) with h4 | h4
  ·rcases Mg ((c.toNat:Int)==44) with h5 | h5
   ·rcases Mg (Cz (c.toNat:Int)) with h6 | h6
    ·have hw:Hid (BV false c=(true,false)):=H0 (by unfold BV Gn Eh;rw [h4,h5,h6];rfl)
     go_enter Tryz.func241,Tryz.ntmps241;go_wp2_with (go_at_call 110;refine (Fj _ _).mono ?_;rintro e w' ⟨rfl,rfl⟩);go_ret
     exact ⟨AF (by rw [hw.out]),by rw [hw.out];exact hb.out,BI.refl _ _⟩
    ·have hw:Hid (BV false c=(false,false)):=H0 (by unfold BV Gn Eh;rw [h4,h5,h6];rfl)
     go_enter Tryz.func241,Tryz.ntmps241;go_wp2_with (go_at_call 110;refine (Fj _ _).mono ?_;rintro e w' ⟨rfl,rfl⟩);go_ret
     exact ⟨AF (by rw [hw.out]),by rw [hw.out];exact hb.out,BI.refl _ _⟩
   ·have hw:Hid (BV false c=(false,false)):=H0 (by unfold BV Gn;rw [h4,h5];rfl)
    go_enter Tryz.func241,Tryz.ntmps241;go_wp2_with fail;go_ret
    exact ⟨AF (by rw [hw.out]),by rw [hw.out];exact hb.out,BI.refl _ _⟩
  ·have hw:Hid (BV false c=(true,true)):=H0 (by unfold BV;rw [h4];rfl)
   go_enter Tryz.func241,Tryz.ntmps241;go_wp2_with fail;go_ret
   exact ⟨AF (by rw [hw.out]),by rw [hw.out];exact hput.out true,(BI.refl (· =g) w).set (g:=g) rfl 0 _⟩
 ·have hw:Hid (BV true c=(true,(c.toNat:Int) != 41)):=H0 (by unfold BV;rw [if_pos rfl])
  go_enter Tryz.func241,Tryz.ntmps241;go_wp2_with fail;go_ret
  exact ⟨AF (by rw [hw.out]),by rw [hw.out];exact hput.out _,(BI.refl (· =g) w).set (g:=g) rfl 0 _⟩
def dwF:Nat->List UInt8->List (List UInt8) × List UInt8
 | 0,l=>([],l)
 | n+1,l=>if (Bl BV false (l.dropWhile Eh)).1=[] then ([],l.dropWhile Eh)
  else ((Bl BV false (l.dropWhile Eh)).1 :: (dwF n (Bl BV false (l.dropWhile Eh)).2.1).1,(dwF n (Bl BV false (l.dropWhile Eh)).2.1).2)
def Ou (l:List UInt8):List (List UInt8) × List UInt8:=dwF (l.length+1) l
theorem J9 {σ:Type} (step:σ->UInt8->Bool × σ) (st:σ) (l:List UInt8):(Bl step st l).1.length+(Bl step st l).2.1.length=l.length:=by
 have:=congrArg List.length (MS step st l)
 rwa [List.length_append] at this
theorem WF:∀ (N:Nat) (l:List UInt8),l.length<=N->∀ n,l.length<n->dwF n l=dwF (l.length+1) l:=by
 intro N
 induction N with
 | zero=>
  intro l hl n hn
  obtain rfl:l=[]:=List.eq_nil_of_length_eq_zero (by omega)
  obtain ⟨m,rfl⟩:∃ m,n=m+1:=⟨n - 1,by omega⟩
  rfl
 | succ N ih=>
  intro l hl n hn
  obtain ⟨m,rfl⟩:∃ m,n=m+1:=⟨n - 1,by have:0<=l.length:=Nat.zero_le _;omega⟩
  unfold dwF
  by_cases h:(Bl BV false (l.dropWhile Eh)).1=[]
  ·rw [if_pos h,if_pos h]
  ·have h1:=J9 BV false (l.dropWhile Eh);have h2:0<(Bl BV false (l.dropWhile Eh)).1.length:=List.length_pos_iff.2 h;have h3:(l.dropWhile Eh).length<=l.length:=(List.dropWhile_sublist _).length_le
   rw [if_neg h,if_neg h,ih _ (by omega) m (by omega),ih _ (by omega) l.length (by omega)]
theorem O3 (l:List UInt8):Ou l=if (Bl BV false (l.dropWhile Eh)).1=[] then ([],l.dropWhile Eh)
  else ((Bl BV false (l.dropWhile Eh)).1 :: (Ou (Bl BV false (l.dropWhile Eh)).2.1).1,(Ou (Bl BV false (l.dropWhile Eh)).2.1).2):=by
 unfold Ou
 conv=>lhs;unfold dwF
 by_cases h:(Bl BV false (l.dropWhile Eh)).1=[]
 ·rw [if_pos h,if_pos h]
 ·have h1:=J9 BV false (l.dropWhile Eh);have h2:0<(Bl BV false (l.dropWhile Eh)).1.length:=List.length_pos_iff.2 h;have h3:(l.dropWhile Eh).length<=l.length:=(List.dropWhile_sublist _).length_le
  rw [if_neg h,if_neg h,WF _ _ (Nat.le_refl _) l.length (by omega)]
theorem LX {σ:Type} {step:σ->UInt8->Bool × σ} {st:σ} {s t:ByteArray} {j:Nat} (h:t.toList=(Bl step st (s.toList.drop j)).1):s.toList.drop (j+t.size)=(Bl step st (s.toList.drop j)).2.1:=by
 have h1:=MS step st (s.toList.drop j);obtain ⟨r,hr⟩:=N2 (Bl step st (s.toList.drop j));rw [hr] at h h1⊢
 rw [<-List.drop_drop,<-h1,<-h,List.drop_append_of_le_length (by rw [Aa];exact Nat.le_refl _),List.drop_of_length_le (by rw [Aa];exact Nat.le_refl _),List.nil_append]
theorem AI.chg {w w':World} {B:Nat} {E:TypeId} {v:Value} {l:List ByteArray} (h:AI w B E v l) (hc:∀ k,B<=k->k<w.heap.size->w'.heap[k]? =w.heap[k]?):AI w' B E v l:=by
 refine ⟨h.1,?_⟩
 rcases h.2 with hn | ⟨k,cap,cur,rfl,hk,hh,rest⟩
 ·exact .inl hn
 ·exact .inr ⟨k,cap,cur,rfl,hk,(hc k hk (Array.getElem?_eq_some_iff.1 hh).1).trans hh,rest⟩
theorem BI.step {w wx w':World} {ga gi:Nat} (h1:BI (· =ga) w wx) (h2:BI (fun i=>i=ga\/i=gi) wx w') (hgi:w.heap.size<=gi):BI (· =ga) w w':=
 ⟨h2.os.trans h1.os,h2.tape.trans h1.tape,h2.output.trans h1.output,Nat.le_trans h1.size h2.size,fun k hk hn=>(h2.block k (Nat.lt_of_lt_of_le hk h1.size) (fun x=>by rcases x with x | x;exact hn x;omega)).trans (h1.block k hk hn)⟩
def Ad7 (s:ByteArray) (ga gs k:Nat) (w:World) (e:Ending) (w':World):Prop:=
 ∃ (v:Value) (l:List ByteArray) (n:Nat),e= .returned v/\Hid (l.map (·.toList)=(Ou (s.toList.drop k)).1)/\Hid (s.toList.drop n=(Ou (s.toList.drop k)).2)/\k<=n/\n<=s.size/\l.length<=n/\
  AI w' w.heap.size 9 v l/\FN w' ga n/\GX w' gs s/\BI (· =ga) w w'
theorem AdM:∀ args w,(callFunc 110 args).run Tryz.prog w= .ok (.enter 110 args) w:=C4 Tryz.func110 (by kernel_rfl) rfl
theorem Aeh:∀ args w,(callFunc 241 args).run Tryz.prog w= .ok (.enter 241 args) w:=C4 Tryz.func241 (by kernel_rfl) rfl
theorem Agg:E1 Tryz.prog 22 9 (.string ByteArray.empty) 16:= .mk' Tryz.underlying22 (by kernel_rfl) rfl
theorem PA (ga gs:Nat) (s:ByteArray) (k:Nat) (w:World) (ha:FN w ga k) (hs:GX w gs s) (hk:k<=s.size) (hne:ga≠gs) (hsz:s.size<=1000000000):
  Calls Tryz.prog 174 #[.func (.func 170) #[] #[.pointer (some ⟨ga,0,none⟩),.pointer (some ⟨gs,0,none⟩)]] w (Ad7 s ga gs k w):=by
 have lga:ga<w.heap.size:=(Array.getElem?_eq_some_iff.1 ha).1;have lgs:gs<w.heap.size:=(Array.getElem?_eq_some_iff.1 hs).1;go_enter Tryz.func174,Tryz.ntmps174;go_wp2_with fail
 go_loopg [3] (s.size - k) (fun g v wr=>∃ (j:Nat) (l:List ByteArray),g=s.size - j/\k<=j/\j<=s.size/\l.length<=j/\Hid (Ou (s.toList.drop k)=(l.map (·.toList)++(Ou (s.toList.drop j)).1,(Ou (s.toList.drop j)).2))/\AI wr w.heap.size 9 v l/\FN wr ga j/\GX wr gs s/\BI (· =ga) w wr)
 case atStart=>exact ⟨k,[],rfl,Nat.le_refl _,hk,Nat.zero_le _,H0 (by simp),AI.nil _ _ _,ha,hs,BI.refl _ _⟩
 case round=>
  clear ha hs;obtain ⟨j,l,hgk,hkj,hj,hlj,hrun,hown,hba,hbs,hC⟩:=hrel;replace hgk:=H0 hgk;go_wp2_with fail
  refine (LH 110 #[] (Vs Eh) (fun _ _=>True) (fun _=>False) ga gs s (fun st c w _=>(Fj _ _).mono (by rintro e w' ⟨rfl,rfl⟩;exact ⟨rfl,trivial,BI.refl _ _⟩)) AdM (fun _ _ _ _=>trivial) (fun x=>x) (fun x=>x) hne (by omega) () j wr trivial hba hbs hj).mono ?_
  rintro e w1 ⟨t1,rfl,ht1,hz1,hba1,hbs1,-,hC1⟩;have hd1:=LX ht1.out;rw [Ih] at hd1
  have hC1':BI (· =ga) wr w1:=hC1.mono (fun i h=>h.elim id False.elim)
  have lsz:wr.heap.size<=w1.heap.size:=hC1.size;have lw:w.heap.size<=wr.heap.size:=hC.size;replace hba:=H0 hba;replace hbs:=H0 hbs;replace hba1:=H0 hba1;replace hbs1:=H0 hbs1;replace hd1:=H0 hd1;clear ht1;go_wp2_with fail
  have hgi:ga≠w1.heap.size:=by omega
  have hba2:FN (w1.alloc (.cells #[.bool false] 4)) ga (j+t1.size):=(Below.heap_alloc _ _ _ (by omega)).trans hba1.out
  have hbs2:GX (w1.alloc (.cells #[.bool false] 4)) gs s:=(Below.heap_alloc _ _ _ (by omega)).trans hbs1.out
  have hbb:VP w1.heap.size false (w1.alloc (.cells #[.bool false] 4)):=heap_alloc_new _ _
  refine (LH 241 #[.pointer (some ⟨w1.heap.size,0,none⟩)] BV (fun b w=>VP w1.heap.size b w) (· =w1.heap.size) ga gs s (fun st c w h=>Adp _ st c w h) Aeh (fun st w v h=>(Below.heap_setCell _ _ _ _ (fun e=>hgi e.symm)).trans h) hgi (by omega) hne (by omega) false (j+t1.size) _ hbb hba2 hbs2 hz1).mono ?_
  rintro e w3 ⟨t2,rfl,ht2,hz2,hba3,hbs3,-,hC3⟩;have hd3:=LX ht2.out
  have hC4:BI (· =ga) w w3:=BI.step ((hC.trans hC1').trans (BI.of ((Below.refl _ _).alloc (Nat.le_refl _) _))) hC3 (by omega)
  have hown3:AI w3 w.heap.size 9 _ l:=hown.chg (fun i h1 h2=>(hC3.block i (by simp;omega) (by omega)).trans ((Below.heap_alloc _ _ _ (by omega)).trans (hC1.block i h2 (fun x=>by rcases x with x | x;omega;exact x))))
  have hst:=O3 (s.toList.drop j);rw [<-hd1.out,<-ht2.out,<-hd3] at hst;clear hC hC1 hC1' hC3 hown hbb hba2 hbs2 ht2 hd3;replace hd1:=H0 hd1
  by_cases hem:t2.toList=[]
  ·have hemB:t2.toList.isEmpty=true:=by rw [hem];rfl
   have hemL:(t2.toList==[])=true:=by rw [hem];rfl
   rw [if_pos hem] at hst
   have hfin:Hid (l.map (·.toList)=(Ou (s.toList.drop k)).1):=H0 (by rw [hrun.out,hst];simp)
   have hfin2:Hid (s.toList.drop (j+t1.size)=(Ou (s.toList.drop k)).2):=H0 (by rw [hrun.out,hst])
   have h0:t2.size=0:=(At t2).1 hem;rw [h0,Nat.add_zero] at hba3;replace hst:=H0 hst;replace hem:=H0 hem;replace hba3:=H0 hba3;replace hbs3:=H0 hbs3;replace h0:=H0 h0;go_wp2_with fail;go_ret
   exact ⟨_,l,_,rfl,hfin,hfin2,by omega,hz1,by omega,hown3,hba3.out,hbs3.out,hC4⟩
  ·have hemB:t2.toList.isEmpty=false:=by cases h:t2.toList with | nil=>exact absurd h hem | cons a b=>rfl
   have hemL:(t2.toList==[])=false:=by simpa using hem
   rw [if_neg hem] at hst
   have h0:0<t2.size:=Nat.pos_of_ne_zero (fun h=>hem ((At t2).2 h))
   have hnew:Hid (Ou (s.toList.drop k)=((l++[t2]).map (·.toList)++(Ou (s.toList.drop (j+t1.size+t2.size))).1,(Ou (s.toList.drop (j+t1.size+t2.size))).2)):=H0 (by
    rw [hrun.out,hst];simp)
   replace hst:=H0 hst;replace hem:=H0 hem;replace hba3:=H0 hba3;replace hbs3:=H0 hbs3;have hw3:w.heap.size<=w3.heap.size:=hC4.size
   go_wp2_with (at_builtin;refine BO Agg rfl _ _ rfl rfl rfl hown3 (Below.refl w.heap.size w3) hw3 (by unfold maxLen;omega) (by omega) ?_;intro v' w4 ho4 hb4 _)
   have hba4:FN w4 ga (j+t1.size+t2.size):=(hb4.block _ lga).trans hba3.out;have hbs4:GX w4 gs s:=(hb4.block _ lgs).trans hbs3.out
   have hC5:BI (· =ga) w w4:=⟨hb4.os.trans hC4.os,hb4.tape.trans hC4.tape,hb4.output.trans hC4.output,Nat.le_trans hC4.size hb4.size,fun i hi hn=>(hb4.block i hi).trans (hC4.block i hi hn)⟩
   replace hba4:=H0 hba4;replace hbs4:=H0 hbs4;go_wp2_with fail;go_roundg (s.size - (j+t1.size+t2.size))
   case measure=>have:=hgk.out;omega
   case rel=>exact ⟨j+t1.size+t2.size,l++[t2],rfl,by omega,hz2,by rw [List.length_append];show l.length+1<=_;omega,hnew,ho4,hba4.out,hbs4.out,hC5⟩
end Go.Proofs.YtonomfeipkdmhaaGreatDoor
