/- Part 17: lemmas. -/
import Derived.Test.YtonomfeipkdmhaaGreatDoorL16
set_option linter.unusedVariables false
set_option linter.unusedSimpArgs false
set_option maxRecDepth 100000
set_option maxHeartbeats 16000000
namespace Go.Proofs.YtonomfeipkdmhaaGreatDoor
open Go.RowKit
theorem SC (c:UInt8):([32]:List UInt8).contains c=Ss (c.toNat:Int):=by
 have h:∀ n:Fin 256,([32]:List UInt8).contains (UInt8.ofNat n.val)=Ss ((UInt8.ofNat n.val).toNat:Int):=Qe;have:=h ⟨c.toNat,c.toNat_lt⟩;simpa using this
theorem SK (l:List UInt8):Lib.trimRightB l 32=Bt Ss l:=by
 rw [<-Lib.trimRightS_one];unfold Lib.trimRightS Bt DU;simp only [SC]
theorem KZ (l:List UInt8) (c:UInt8):Lib.hasSuffix l [c]=decide (l.getLast? =some c):=by
 unfold Lib.hasSuffix
 rcases List.eq_nil_or_concat l with rfl | ⟨L,d,rfl⟩
 ·rfl
 ·have e:(L++[d]).reverse=d :: L.reverse:=by rw [List.reverse_append];rfl
  have e2:(L++[d]).getLast? =some d:=Akj;have e3:L.concat d=L++[d]:=List.concat_eq_append
  try rw [e3]
  unfold List.isSuffixOf;rw [e,e2];show (c==d && true)=decide (some d=some c);rw [Bool.and_true,Bool.eq_iff_iff,beq_iff_eq,decide_eq_true_iff]
  exact ⟨fun h=>by rw [h],fun h=>(Option.some.inj h).symm⟩
theorem Rn (l:List UInt8) (c:UInt8):Lib.trimSuffix l [c]=if l.getLast? =some c then l.dropLast else l:=by
 unfold Lib.trimSuffix;rw [KZ]
 by_cases h:l.getLast? =some c
 ·rw [decide_eq_true h,if_pos h,if_pos rfl,List.dropLast_eq_take];rfl
 ·rw [decide_eq_false h,if_neg h];rfl
theorem Acb (l:List UInt8):(G8 l).length<=l.length:=by
 unfold G8;split
 ·split
  ·rw [List.length_dropLast];have:=GY Ss (l.take (l.length - 6));rw [List.length_take] at this;omega
  ·exact Nat.le_refl _
 ·exact Nat.le_refl _
theorem AeD (s:ByteArray) (w:World) (hs:s.size<=1000000000):
  Calls Tryz.prog 181 #[.string s] w (EI w (G8 s.toList)):=by
 have hB:Below w.heap.size w w:=Below.refl _ _;have hlen:=Aa s
 by_cases h6:s.size<6
 ·have hV:Hid (s.toList=G8 s.toList):=H0 (by unfold G8;rw [if_neg (fun h=>Qa)])
  have hI:(s.size:Int)<6:=Qa;replace hlen:=H0 hlen;go_enter Tryz.func181,Tryz.ntmps181;go_wp2_with fail;go_ret;exact GC hV.out hB
 obtain ⟨k,hk⟩:∃ k,s.size=k+6:=⟨s.size - 6,Qa⟩;have hI:(6:Int)<=(s.size:Int):=Qa;have hkI:(s.size:Int) - 6=(k:Int):=Qa;have hkJ:(k:Int)<=(s.size:Int):=Qa;have hkN:k<=s.size:=Qa
 have eu:(s.extract k s.size).toList=s.toList.drop (s.toList.length - 6):=by rw [toList_extract,List.take_of_length_le (by rw [hlen];exact Nat.le_refl _),hlen,show s.size - 6=k by omega]
 have eh:(s.extract 0 k).toList=s.toList.take (s.toList.length - 6):=by rw [toList_extract,List.drop_zero,hlen,show s.size - 6=k by omega]
 have zu:(s.extract k s.size).size<=1000000000:=by rw [<-Aa,eu,List.length_drop,hlen];omega
 have zh:(s.extract 0 k).size<=1000000000:=by rw [<-Aa,eh,List.length_take,hlen];omega
 obtain ⟨u,hu⟩:∃ q,s.extract k s.size=q:=⟨_,rfl⟩;obtain ⟨h,hh⟩:∃ q,s.extract 0 k=q:=⟨_,rfl⟩;rw [hu] at eu zu;rw [hh] at eh zh;have h6N:6<=s.toList.length:=Qa;replace hk:=H0 hk;replace hlen:=H0 hlen;replace eu:=H0 eu;replace eh:=H0 eh;clear h6;go_enter Tryz.func181,Tryz.ntmps181;go_wp2_with fail;refine (EM u _ Qa).mono ?_;rintro e w1 ⟨t,rfl,ht,hb⟩
 replace hB:=hB.next hb
 clear hb
 by_cases hq:t.toList=V2
 ·have hqb:(t.toList==[98,97,115,101,54,52])=true:=by rw [hq];rfl
  have hV:Hid (G8 s.toList=if (Bt Ss h.toList).getLast? =some 59 then (Bt Ss h.toList).dropLast else s.toList):=H0 (by
   unfold G8
   rw [if_pos ⟨h6N,by rw [<-eu.out,<-ht.out];exact hq⟩,<-eh.out])
  replace hq:=H0 hq
  have htr:=H0 (fun w=>Tryz.strings_TrimRight_one h 32 Qc w Qa)
  go_wp2_with fail;refine (htr.out _).mono ?_;rintro e w2 ⟨rfl,rfl⟩;obtain ⟨r,hr⟩:∃ q:ByteArray,(⟨(Lib.trimRightB h.data.toList 32).toArray⟩:ByteArray)=q:=⟨_,rfl⟩;rw [hr]
  have hrl:r.toList=Bt Ss h.toList:=by rw [<-hr,toList_mk,<-ByteArray.toList_eq];exact SK _
  have hrz:r.size<=1000000000:=by
   rw [<-Aa,hrl];have:=GY Ss h.toList;rw [Aa] at this;omega
  rw [<-hrl] at hV
  have hcs:=fun w=>Tryz.strings_CutSuffix r ⟨#[59]⟩ w Qa
  replace hr:=H0 hr;replace hrl:=H0 hrl
  have e1:Lib.trimSuffix r.data.toList (ByteArray.mk #[59]).data.toList=if r.toList.getLast? =some 59 then r.toList.dropLast else r.toList:=by
   rw [<-ByteArray.toList_eq];exact Rn _ _
  have e2:Lib.hasSuffix r.data.toList (ByteArray.mk #[59]).data.toList=decide (r.toList.getLast? =some 59):=by
   rw [<-ByteArray.toList_eq];exact KZ _ _
  by_cases hl:r.toList.getLast? =some 59
  ·have hyes:Hid (G8 s.toList=r.toList.dropLast):=H0 (by rw [hV.out,if_pos hl])
   rw [if_pos hl] at e1;rw [decide_eq_true hl] at e2;simp only [e1,e2] at hcs;replace hcs:=H0 hcs;replace hl:=H0 hl;clear e1 e2;go_wp2_with fail;refine (hcs.out _).mono ?_;rintro e w3 ⟨rfl,rfl⟩;go_wp2_with fail;go_ret;exact Hk hyes.out.symm hB
  ·have hno:Hid (G8 s.toList=s.toList):=H0 (by rw [hV.out,if_neg hl])
   rw [decide_eq_false hl] at e2;simp only [e2] at hcs;replace hcs:=H0 hcs;replace hl:=H0 hl;clear e1 e2;go_wp2_with fail;refine (hcs.out _).mono ?_;rintro e w3 ⟨rfl,rfl⟩;go_wp2_with fail;go_ret;exact GC hno.out.symm hB
 ·have hqb:(t.toList==[98,97,115,101,54,52])=false:=by simpa [V2] using hq
  have hno:Hid (G8 s.toList=s.toList):=H0 (by
   unfold G8
   rw [if_neg (fun x=>hq (by rw [ht.out,eu.out];exact x.2))])
  replace hq:=H0 hq;go_wp2_with fail;go_ret;exact GC hno.out.symm hB
def JG:List UInt8:=[100,97,116,97]
def Ig (u:Am):Option (List UInt8):=if u.scheme.toList=JG then Aa4 (GL u false) else none
theorem XH {u:Am} (h:u.scheme.toList=JG):∃ r,GL u false=[100,97,116,97,58]++r:=by
 unfold GL;rw [h]
 exact ⟨Fl u++IY u++FZ u.hasQuery ([63]++u.query.toList)++FZ (u.hasFrag && false) ([35]++u.frag.toList),by simp [JG]⟩
theorem AeQ (r:List UInt8):Ak 44 ([100,97,116,97,58]++r)=([100,97,116,97,58]++(Ak 44 r).1,(Ak 44 r).2.1,(Ak 44 r).2.2):=by
 show Ak 44 (100 :: 97 :: 116 :: 97 :: 58 :: r)=_;rw [Ak,if_neg Qc,Ak,if_neg Qc,Ak,if_neg Qc,Ak,if_neg Qc,Ak,if_neg Qc];rfl
theorem OG (r:List UInt8):Lib.trimPrefix ([100,97,116,97,58]++r) [100,97,116,97,58]=r:=by
 unfold Lib.trimPrefix Lib.hasPrefix
 rw [if_pos (by simp [List.isPrefixOf])]
 rfl
theorem Sr (l:List UInt8) (c:UInt8):Lib.hasPrefix l [c]=decide (l.head? =some c):=by
 unfold Lib.hasPrefix
 cases l with
 | nil=>rfl
 | cons d r=>
  show (c==d && true)=decide (some d=some c);rw [Bool.and_true,Bool.eq_iff_iff,beq_iff_eq,decide_eq_true_iff]
  exact ⟨fun h=>by rw [h],fun h=>(Option.some.inj h).symm⟩
theorem Acz (l:List UInt8):(Sc l).length<=l.length:=Nat.le_trans (GY _ _) (Tk _ _)
theorem Aea (u:Am) (w:World) (hp:Jf w u) (fit:R7 u) (hz:(GL u false).length<=900000000) (ht:IG w) (hm:ML w):
  Calls Tryz.prog 108 #[.agg (Ab u)] w (AiH w (Ig u)):=by
 have hB:Below w.heap.size w (w.alloc (.cells (Ab u) 34)):=(Below.refl _ _).alloc (Nat.le_refl _) _;have hblk:=H0 (heap_alloc_new w (.cells (Ab u) 34));have x0:(w.alloc (.cells (Ab u) 34)).cell? ⟨w.heap.size,0,none⟩=some (.string u.scheme):=(World.cell?_alloc_at _ _ _ _ rfl).trans rfl;have e0:(ByteArray.mk #[]).toList=[]:=toList_mk [];have hp1:=hp.below hB (Nat.le_refl _)
 by_cases hd:u.scheme.toList=JG
 ·have hdI:(u.scheme.toList==[100,97,116,97])=true:=by rw [hd];rfl
  have hV:Hid (Ig u=Aa4 (GL u false)):=H0 (by unfold Ig;rw [if_pos hd])
  obtain ⟨r,hr⟩:=XH hd;replace hd:=H0 hd
  have hwr:=H0 (Gr u false _ hp1 fit (ht.next hB))
  go_enter Tryz.func108,Tryz.ntmps108;go_wp2_with (refine wpList_load_row rfl 34 _ rfl w.heap.size rfl _ (Ab u) _ _ hblk.out Tryz.underlying34 rfl IA ?_);refine hwr.out.mono ?_;rintro e w2 ⟨t,rfl,htx,hb⟩
  replace hB:=hB.next hb
  clear hb x0 hblk hwr
  have htz:t.size<=900000000:=by rw [<-Aa,htx.out];exact hz
  have hct:=H0 (fun w hm=>FF t 44 w hm Qa)
  go_wp2_with fail
  refine (hct.out _ (hm.next hB)).mono ?_
  rintro e w3 ⟨ta,tb,nd,rfl,h1,h2,hw⟩
  have hB2:Below w.heap.size w w3:=by rw [hw];exact below_drewN hB nd
  have hcut:Ak 44 t.toList=([100,97,116,97,58]++(Ak 44 r).1,(Ak 44 r).2.1,(Ak 44 r).2.2):=by rw [htx.out,hr];exact AeQ r
  rw [hcut] at h1⊢
  have hD:Hid (Ig u=if (Ak 44 r).2.2=true then some (Uj (Ak 44 r).1) else none):=H0 (by rw [hV.out,hr];rfl)
  have hcz:(Ak 44 r).1.length<=900000000:=by
   have:=Cr 44 r;have h3:=congrArg List.length hr;simp only [List.length_append,List.length_cons] at h3;omega
  obtain ⟨mo,hmo⟩:∃ mo,(Ak 44 r).2.2=mo:=⟨_,rfl⟩;dsimp only at h1⊢;rw [hmo] at hD⊢;clear hw hB hct hcut hV htx;replace hmo:=H0 hmo;replace hr:=H0 hr;cases mo
  ·have hno:Hid (Ig u=none):=H0 (by rw [hD.out];simp)
   go_wp2_with fail;go_ret2;exact ⟨⟨#[]⟩,Aku,H0 Aj4,hB2⟩
  ·have hyes:Hid (Ig u=some (Uj (Ak 44 r).1)):=H0 (by rw [hD.out];simp)
   have htp:=fun w=>Tryz.strings_TrimPrefix ta ⟨#[100,97,116,97,58]⟩ w
   have etp:Lib.trimPrefix ta.data.toList (ByteArray.mk #[100,97,116,97,58]).data.toList=(Ak 44 r).1:=by
    rw [<-ByteArray.toList_eq,h1.out];exact OG _
   simp only [etp] at htp;replace htp:=H0 htp;clear etp hD;obtain ⟨H,hH⟩:∃ H,(Ak 44 r).1=H:=⟨_,rfl⟩;rw [hH] at htp hyes hcz;clear hH h1;obtain ⟨th,hth⟩:∃ q:ByteArray,(⟨H.toArray⟩:ByteArray)=q:=⟨_,rfl⟩;rw [hth] at htp
   have hthl:th.toList=H:=by rw [<-hth];exact toList_mk _
   have hthz:th.size<=900000000:=by rw [<-Aa,hthl];exact hcz
   rw [<-hthl] at hyes;clear hth hthl hcz;go_wp2_with fail;refine (htp.out _).mono ?_;rintro e w4 ⟨rfl,rfl⟩;go_wp2_with fail;refine (AbF th _ Qa).mono ?_;rintro e w5 ⟨ts,rfl,hts,hb⟩
   have hB3:=hB2.next hb
   have htsz:ts.size<=900000000:=by
    rw [<-Aa,hts.out];have:=Acz th.toList;rw [Aa] at this;omega
   clear hb hB2 htp;go_wp2_with fail;refine (AeD ts _ Qa).mono ?_;rintro e w6 ⟨tq,rfl,htq,hb⟩
   have hB4:=hB3.next hb
   have htqz:tq.size<=900000000:=by
    rw [<-Aa,htq.out];have:=Acb ts.toList;rw [Aa] at this;omega
   have hty:Hid (Uj th.toList=(Re (if tq.toList.head? =some 59 then K2++tq.toList else tq.toList)).getD K2):=H0 (by
    unfold Uj;rw [htq.out,hts.out])
   clear hb hB3 hts htq
   have hpf:=fun w=>Tryz.strings_HasPrefix tq ⟨#[59]⟩ w
   have epf:Lib.hasPrefix tq.data.toList (ByteArray.mk #[59]).data.toList=decide (tq.toList.head? =some 59):=by rw [<-ByteArray.toList_eq];exact Sr _ _
   simp only [epf] at hpf;have hplain:(ByteArray.mk #[116,101,120,116,47,112,108,97,105,110]).toList=K2:=toList_mk _
   obtain ⟨tx,htx,htxz,hway⟩:∃ tx:ByteArray,Hid (Uj th.toList=(Re tx.toList).getD K2)/\tx.size<=900000010/\((decide (tq.toList.head? =some 59)=true/\tx=⟨#[116,101,120,116,47,112,108,97,105,110]⟩++tq)\/(decide (tq.toList.head? =some 59)=false/\tx=tq)):=by
    by_cases h:tq.toList.head? =some 59
    ·refine ⟨⟨#[116,101,120,116,47,112,108,97,105,110]⟩++tq,H0 ?_,?_,.inl ⟨decide_eq_true h,rfl⟩⟩
     ·rw [hty.out,if_pos h,toList_append,hplain]
     ·rw [ByteArray.size_append];show 10+tq.size<=_;omega
    ·exact ⟨tq,H0 (by rw [hty.out,if_neg h]),Qa,.inr ⟨decide_eq_false h,rfl⟩⟩
   replace hplain:=H0 hplain;clear epf hty;obtain ⟨o,ho⟩:=N2 (Re tx.toList)
   have hes:=H0 (fun w hm=>ho ▸ XL tx w hm Qa)
   have hfin:Hid (Ig u=some (o.getD K2)):=H0 (by rw [hyes.out,htx.out,ho])
   replace ho:=H0 ho;have hplain2:=hplain
   rcases hway with ⟨q1,rfl⟩ | ⟨q1,rfl⟩
   all_goals
    rw [q1] at hpf;replace hpf:=H0 hpf;replace q1:=H0 q1;go_wp2_with fail;refine (hpf.out _).mono ?_;rintro e w7 ⟨rfl,rfl⟩;go_wp2_with fail
    refine (hes.out _ (hm.next hB4)).mono ?_
    rintro e w8 ⟨tr,rfl,htr,hb⟩
    have hB5:=hB4.next hb
    clear hb hes
    cases o with
    | none=>
     go_wp2_with fail;go_ret2
     exact ⟨⟨#[116,101,120,116,47,112,108,97,105,110]⟩,Akm,H0 (by rw [hfin.out];exact hplain.out),hB5⟩
    | some l=>
     go_wp2_with fail;go_ret2
     exact ⟨tr,Akm,H0 (by rw [hfin.out];exact htr.out),hB5⟩
 ·have hdI:(u.scheme.toList==[100,97,116,97])=false:=by simpa [JG] using hd
  have hno:Hid (Ig u=none):=H0 (by unfold Ig;rw [if_neg hd])
  replace hd:=H0 hd;go_enter Tryz.func108,Tryz.ntmps108;go_wp2_with fail;go_ret2;exact ⟨⟨#[]⟩,Aku,H0 Aj4,hB⟩
def HP (l:List ByteArray) (s:List UInt8):Bool:=l.any fun e=>e.toList==s
def LP (h:Dd) (e:ByteArray):Bool:=(e.toList==GP h) || (e.toList==[42]) || (Lib.hasPrefix e.toList [46] && decide (h.kind=2) && decide (e.size<h.name.size) && Lib.hasSuffix h.name.toList e.toList)
def Pb (h:Dd):Bool:=decide (h.kind=0) || decide (h.kind=1)
def hostA (l:List ByteArray) (h:Dd):Bool:=Pb h || l.any (LP h)
def WM (T:List ByteArray) (u:Am):Bool:=if u.scheme.toList=JG then (match Ig u with | none=>false | some e=>HP T e) else true
def FH (S H T:List ByteArray) (u:Am):Bool:=HP S u.scheme.toList && hostA H u.host && WM T u
theorem AdO:∀ h:BO,GP (An h)=h.text
 | .none=>rfl
 | .empty=>rfl
 | .name n=>toList_mk n
 | .four n=>rfl
 | .six l=>rfl
 | .opaqueN n=>toList_mk n
theorem Uk:∀ h:BO,(An h).kind=0↔h= .none
 | .none=>⟨fun _=>rfl,fun _=>rfl⟩
 | .empty=>⟨fun h=>absurd h Qc,fun h=>Qr⟩
 | .name n=>⟨fun h=>absurd h (by show ¬ (2:Int)=0;decide),fun h=>Qr⟩
 | .four n=>⟨fun h=>absurd h (by show ¬ (3:Int)=0;decide),fun h=>Qr⟩
 | .six l=>⟨fun h=>absurd h (by show ¬ (4:Int)=0;decide),fun h=>Qr⟩
 | .opaqueN n=>⟨fun h=>absurd h (by show ¬ (5:Int)=0;decide),fun h=>Qr⟩
theorem WB (l:List ByteArray):Ft l=Az (l.map (·.toList)):=by unfold Ft Az;rw [List.flatMap_map]
theorem AcA:∀ l:List ByteArray,AaW l=Abh (l.map (·.toList))
 | []=>rfl
 | _ :: _=>rfl
theorem AhJ {S:Am} {u:Ao} (h:G0 S u):LO S=Ir u.user u.pass:=by unfold LO Ir;rw [h.user,h.pass]
theorem Ae4 {S:Am} {u:Ao} (h:G0 S u):Od S=D8 u.port:=by
 unfold Od;rw [h.hasPort,h.port]
 cases u.port<;>rfl
theorem Acw {S:Am} {u:Ao} (h:G0 S u):Fl S=F6 u:=by
 unfold Fl F6;rw [h.host,AdO,AhJ h,Ae4 h]
 have hd:UW S=(!u.opq && (decide (2<=u.path.length) && Abh u.path)):=by
  unfold UW;rw [h.opq,AcA,h.path,<-h.path,List.length_map]
 rw [hd]
 by_cases hn:u.host= .none
 ·rw [if_pos ((Uk _).2 hn),if_pos hn];rfl
 ·rw [if_neg (fun e=>hn ((Uk _).1 e)),if_neg hn]
theorem Ae5 {S:Am} {u:Ao} (h:G0 S u):IY S=Ha u:=by
 unfold IY Ha;rw [h.opq,h.flat,WB,h.path]
theorem Aei (d:UInt8) (o:Option (List UInt8)):FZ o.isSome ([d]++o.getD [])=F1 d o:=by cases o<;>rfl
theorem FD {S:Am} {u:Ao} (h:G0 S u) (f:Bool):GL S f=AW u f:=by
 unfold GL AW;rw [h.scheme,Acw h,Ae5 h,h.hasQuery,h.query,h.hasFrag,h.frag,Aei];congr 1;cases f
 ·rw [Bool.and_false];rfl
 ·rw [Bool.and_true,Aei];rfl
theorem AdE {sp:Bool} {h:BO} (g:Bo sp h) (hz:h.text.length<=4294967296):Ry (An h):=by
 have h6:YP [0,0,0,0,0,0,0,0]:=⟨rfl,Qc⟩
 cases g with
 | name h1 h2 h3 h4=>
  rename_i n
  refine ⟨by show (0:Nat)<4294967296;decide,h6,?_⟩
  show (ByteArray.mk n.toArray).size<=maxLen
  have:(ByteArray.mk n.toArray).size=n.length:=by simp [ByteArray.size]
  rw [this];have h7:n.length<=4294967296:=hz;unfold maxLen;omega
 | four h=>exact ⟨h,h6,by show (0:Nat)<=maxLen;exact Nat.zero_le _⟩
 | six h=>exact ⟨by show (0:Nat)<4294967296;decide,h,by show (0:Nat)<=maxLen;exact Nat.zero_le _⟩
 | empty=>exact ⟨by show (0:Nat)<4294967296;decide,h6,by show (0:Nat)<=maxLen;exact Nat.zero_le _⟩
 | other h1 h2 h3=>
  rename_i n
  refine ⟨by show (0:Nat)<4294967296;decide,h6,?_⟩
  show (ByteArray.mk n.toArray).size<=maxLen
  have:(ByteArray.mk n.toArray).size=n.length:=by simp [ByteArray.size]
  rw [this];have h7:n.length<=4294967296:=hz;unfold maxLen;omega
theorem XT:Ry (An .none):=⟨by show (0:Nat)<4294967296;decide,⟨rfl,Qc⟩,by show (0:Nat)<=maxLen;exact Nat.zero_le _⟩
theorem Kf {t:ByteArray} {l:List UInt8} (h:t.toList=l) {K:Nat} (hl:l.length<=K):t.size<=K:=by rw [<-Aa,h];exact hl
theorem X8 (d:UInt8) (o:Option (List UInt8)):(o.getD []).length<=(F1 d o).length:=by
 cases o with
 | none=>exact Nat.zero_le _
 | some q=>show q.length<=(d :: q).length;rw [List.length_cons];omega
theorem JK (l:List (List UInt8)):l.length<=(Az l).length:=by
 induction l with
 | nil=>exact Nat.le_refl _
 | cons p r ih=>
  have:Az (p :: r)=(47 :: p)++Az r:=by unfold Az;rw [List.flatMap_cons]
  rw [this,List.length_append,List.length_cons,List.length_cons];omega
theorem AdR {l:List (List UInt8)} {p:List UInt8} (h:p∈l):p.length<=(Az l).length:=by
 induction l with
 | nil=>cases h
 | cons q r ih=>
  have:Az (q :: r)=(47 :: q)++Az r:=by unfold Az;rw [List.flatMap_cons]
  rw [this,List.length_append,List.length_cons]
  rcases List.mem_cons.1 h with rfl | h
  ·omega
  ·have:=ih h;omega
theorem Sq:∀ h:BO,(An h).name.size<=h.text.length
 | .none=>Nat.le_refl _
 | .empty=>Nat.le_refl _
 | .name n=>by show (ByteArray.mk n.toArray).size<=n.length;simp [ByteArray.size]
 | .four n=>Nat.zero_le _
 | .six l=>Nat.zero_le _
 | .opaqueN n=>by show (ByteArray.mk n.toArray).size<=n.length;simp [ByteArray.size]
theorem EO {S:Am} {u:Ao} (h:G0 S u) (g:AI u) (hz:A6 u<=4000000000):R7 S:=by
 unfold A6 at hz;have q1:=X8 63 u.query;have q2:=X8 35 u.frag;have q3:=Sq u.host;have q4:=JK u.path;refine ⟨?_,?_,?_,?_,?_,?_,?_,?_,?_,?_,?_⟩
 ·exact Kf h.scheme Qa
 ·exact Kf h.user Qa
 ·exact Kf h.pass Qa
 ·rw [h.host];omega
 ·exact Kf h.flat Qa
 ·exact Kf h.query Qa
 ·exact Kf h.frag Qa
 ·rw [WB,h.path];omega
 ·have:S.path.length=u.path.length:=by rw [<-h.path,List.length_map]
  rw [this];unfold maxLen;omega
 ·rw [h.port]
  cases hq:u.port with
  | none=>exact ⟨Qc,Qc⟩
  | some n=>
   have:=To g n hq
   show -9223372036854775808<=(n:Int)/\(n:Int)<=9223372036854775807
   omega
 ·rw [h.host]
  rcases Ox g with e | ⟨sp,gh⟩
  ·rw [e];exact XT
  ·exact AdE gh Qa
def Eu (S H T:List ByteArray) (u:Ao):Bool:=(HP S u.scheme && hostA H (An u.host)) && (if u.scheme=JG then (match Aa4 (AW u false) with | none=>false | some e=>HP T e) else true)
theorem ZB {S H T:List ByteArray} {X:Am} {u:Ao} (h:G0 X u):FH S H T X=Eu S H T u:=by
 unfold FH Eu WM Ig;rw [h.scheme,h.host,FD h];congr 1
 by_cases hd:u.scheme=JG
 ·rw [if_pos hd,if_pos hd,if_pos hd]
  try (cases Aa4 (AW u false)<;>rfl)
 ·rw [if_neg hd,if_neg hd]
theorem AgL (w:World) (A B:Obj):((w.alloc A).alloc B).heap[w.heap.size+1]? =some B:=by
 have:=heap_alloc_new (w.alloc A) B;simpa using this
theorem Mc {w:World} {g i k:Nat} {v:Value} (h:k≠g):(w.setCell ⟨g,i,none⟩ v).heap[k]? =w.heap[k]? :=Below.heap_setCell _ _ _ _ h
theorem TN {B g i:Nat} {a w:World} {v:Value} (h:Below B a w) (hg:B<=g):Below B a (w.setCell ⟨g,i,none⟩ v):=h.setCell hg v
def e0:ByteArray:=ByteArray.empty
def Fw:Value:= .slice none 0 0
def AeS (l:List ByteArray) (w:World) (e:Ending) (w':World):Prop:=
 (Hid (FI (l.map (·.toList))=none)/\e= .returned (.tuple #[.agg (Ar e0 Fw d0),.bool false])/\Below w.heap.size w w')\/
 (∃ st wv,Hid (FI (l.map (·.toList))=some st)/\e= .returned (.tuple #[.agg (Ar e0 wv st),.bool true])/\AH w' w.heap.size 9 wv l/\Below w.heap.size w w')
theorem CD (u:ByteArray) (wv:Value) (st:Mp):(Tryz.prog.info? 109).map (·.size)=some (Ar u wv st).size:=Qb
theorem DF (u:ByteArray) (pa:Option Addr) (n c:Nat) (st:Mp):(Ar u (.slice pa n c) st).all (·.oneCell')=true:=Qb
theorem M3 {R:Ending->World->Prop} {a:Act} {w:World} {g:Nat} {u:ByteArray} {wv:Value} {st:Mp} {b:Bool} (h2:a.tmps.getD 2 undef= .pointer (some ⟨g,0,none⟩)) (h3:a.tmps.getD 3 undef= .bool b) (hd:a.defers=[])
  (hg:w.heap[g]? =some (.cells (Ar u wv st) 109 (0,0))) (hR:R (.returned (.tuple #[.agg (Ar u wv st),.bool b])) w):
  bodyPost Tryz.prog Tryz.f175 R .ret a w:=by
 refine bodyPost_ret (v:= .tuple #[.agg (Ar u wv st),.bool b]) ?_ hd hR;rw [results_cell_tmp rfl,h2,h3];simp [asAddr,Result.andThen,run_loadVar_row (P:=Tryz.prog) w g _ 109 _ _ _ hg Tryz.underlying109 rfl (CD u wv st)]
theorem Adv (pa:Option Addr) (c:Nat) (l:List ByteArray) (w:World) (hr:Fv w (.slice pa l.length c) l) (hl:l.length<=1000000000):
  Calls Tryz.prog 104 #[.slice pa l.length c] w fun e w'=>∃ v,e= .returned v/\AH w' w.heap.size 9 v l/\Below w.heap.size w w':=by
 obtain ⟨pa',c',he,hc⟩:=hr;cases he
 cases pa with
 | none=>
  have h0:l=[]:=by
   cases l with
   | nil=>rfl
   | cons a r=>obtain ⟨g,o,e,_⟩:=hc Qf;cases e
  subst h0;refine (Tryz.slices_Clone_string_nil _ _ w).mono ?_;rintro e w' ⟨rfl,rfl⟩;exact ⟨_,rfl,AH.nil _ _ _,Below.refl _ _⟩
 | some ad=>
  by_cases h0:0<l.length
  ·obtain ⟨g,o,e,hcell⟩:=hc h0;cases e
   refine (Tryz.slices_Clone_string g o l.length c l w (Nat.le_refl _) Qa (fun j hj=>by rw [hcell j hj];simp [List.getD,hj])).mono ?_
   rintro e w' ⟨v,rfl,ho,_,hb⟩
   exact ⟨v,rfl,by rw [List.take_of_length_le (Nat.le_refl _)] at ho;exact ho,hb⟩
  ·obtain rfl:l=[]:=List.eq_nil_of_length_eq_zero Qa;refine (Tryz.slices_Clone_string_zero ad c w).mono ?_;rintro e w' ⟨v,rfl,ho,_,hb⟩;exact ⟨v,rfl,ho,hb⟩
theorem AH.low {w:World} {B B':Nat} {E:TypeId} {v:Value} {l:List ByteArray} (h:AH w B' E v l) (hB:B<=B'):AH w B E v l:=by
 refine ⟨h.1,?_⟩
 rcases h.2 with hn | ⟨k,cap,cur,rfl,hk,rest⟩
 ·exact .inl hn
 ·exact .inr ⟨k,cap,cur,rfl,Nat.le_trans hB hk,rest⟩
theorem VI (st:Mp) (l:List ByteArray) (k:Nat) (h:k<l.length):Ed st ((l.drop k).map (·.toList))=(Gc st l[k].toList).bind fun st'=>Ed st' ((l.drop (k+1)).map (·.toList)):=by
 rw [List.drop_eq_getElem_cons h,List.map_cons,Ed]
theorem Iu (v:Value) (l:List ByteArray) (w:World) (hr:Fv w v l) (hz:∀ x∈l,x.size<=1000000000) (hl:l.length<=1000000000):
  Calls Tryz.prog 175 #[v] w (AeS l w):=by
 have hrd:=hr;obtain ⟨pa,c,rfl,hc⟩:=hr;go_enter Tryz.func175,Tryz.ntmps175;go_wp2_with fail
 go_loopw [9] (fun i wr=>∃ (k:Nat) (st:Mp),i= .int .i64 k/\k<=l.length/\Hid (Ed d0 (l.map (·.toList))=Ed st ((l.drop k).map (·.toList)))/\
  wr.heap[w.heap.size]? =some (.cells (Ar e0 Fw d0) 109 (0,0))/\wr.heap[w.heap.size+1]? =some (.cells (Ar e0 Fw st) 109 (0,0))/\Below w.heap.size w wr) (fun i _=>l.length - (intOf i).toNat)
 case atStart=>exact ⟨0,d0,rfl,Nat.zero_le _,rfl,(heap_alloc_old _ _ Qf).trans (heap_alloc_new _ _),AgL _ _ _,((Below.refl _ _).alloc (Nat.le_refl _) _).alloc Qf _⟩
 case round=>
  obtain ⟨k,st,rfl,hk,hrun,hrb,hcb,hbel⟩:=hrel;have lc:w.heap.size+1<wr.heap.size:=(Array.getElem?_eq_some_iff.1 hcb).1
  by_cases hlt:k<l.length
  ·have z1:(k:Int)<(l.length:Int):=Qa;obtain ⟨g1,o1,rfl,hcell1⟩:=hc Qa;have x1:=hcell1 k hlt;have b1:=World.block_lt_of_cell? w _ x1
   have y1:wr.cell? ⟨g1,o1+k,none⟩=some (.string l[k]):=(hbel.cell (by simpa using b1)).trans x1
   have hzk:l[k].size<=1000000000:=hz _ (List.getElem_mem ..);have hst:=H0 (VI st l k hlt);have htk:=H0 (Ae0 (w.heap.size+1) e0 Fw st l[k] wr hcb hzk);clear hcell1 x1 b1 hc;replace hrb:=H0 hrb;replace hcb:=H0 hcb;obtain ⟨o,ho⟩:∃ o,Gc st l[k].toList=o:=⟨_,rfl⟩;rw [ho] at htk
   cases o with
   | none=>
    have hno:Hid (FI (l.map (·.toList))=none):=H0 (by unfold FI;rw [hrun.out,hst.out,ho];rfl)
    replace ho:=H0 ho;go_wp2_with fail;refine htk.out.mono ?_;rintro e w2 ⟨rfl,hC,-⟩;have hrb2:w2.heap[w.heap.size]? =some (.cells (Ar e0 Fw d0) 109 (0,0)):=(hC.block _ Qa Qa).trans hrb.out;have hb2:Below w.heap.size w w2:=hbel.trans (hC.below Qa Akv);replace hrb2:=H0 hrb2;clear hC;go_wp2_with (refine wpList_store_rowTo rfl 109 _ _ rfl rfl w.heap.size (Ar e0 Fw d0) rfl rfl 109 (Ar e0 Fw d0) hrb2.out (CD _ _ _) rfl (DF _ _ _ _ _) ?_);refine M3 rfl rfl rfl (setRow_heap _ _ _ _ _ _ hrb2.out) (.inl ⟨hno,rfl,Ae hb2 (Nat.le_refl _) _⟩)
   | some st2=>
    have hnew:Hid (Ed d0 (l.map (·.toList))=Ed st2 ((l.drop (k+1)).map (·.toList))):=H0 (by rw [hrun.out,hst.out,ho];rfl)
    replace ho:=H0 ho;go_wp2_with fail;refine htk.out.mono ?_;rintro e w2 ⟨rfl,hC,hcb2⟩;have hrb2:w2.heap[w.heap.size]? =some (.cells (Ar e0 Fw d0) 109 (0,0)):=(hC.block _ Qa Qa).trans hrb.out;have hb2:Below w.heap.size w w2:=hbel.trans (hC.below Qa Akv);have hcb3:=H0 (hcb2 st2 rfl);replace hrb2:=H0 hrb2;clear hC hcb2;go_wp2_with fail;go_roundw
    case rel=>exact ⟨k+1,st2,Ql,Qa,hnew,hrb2.out,hcb3.out,hb2⟩
    case measure=>simp [intOf];omega
  ·have hge:(l.length:Int)<=(k:Int):=Qa
   have hall:Ed d0 (l.map (·.toList))=some st:=by rw [hrun.out,List.drop_of_length_le Qa];rfl
   have hD:Hid (FI (l.map (·.toList))=if (st.hh && !st.hw)=true then none else some st):=H0 (by unfold FI;rw [hall];rfl)
   have hread:Fv wr (.slice pa l.length c) l:=hrd.below hbel (Nat.le_refl _);have hcl:=H0 (Adv pa c l wr hread hl);clear hrun hread hall;have x2:=cell_of_row _ _ 2 _ _ _ hcb;have x4:=cell_of_row _ _ 4 _ _ _ hcb;simp only [Ar,List.getElem?_toArray,List.getElem?_cons_zero,List.getElem?_cons_succ] at x2 x4;obtain ⟨bw,hbw⟩:∃ b,st.hw=b:=⟨_,rfl⟩;obtain ⟨bh,hbh⟩:∃ b,st.hh=b:=⟨_,rfl⟩;rw [hbw] at x2;rw [hbh] at x4;rw [hbw,hbh] at hD;replace hbw:=H0 hbw;replace hbh:=H0 hbh;replace hrb:=H0 hrb;replace hcb:=H0 hcb
   have hway:(bh=true/\bw=false)\/(bh=false\/(bh=true/\bw=true)):=by cases bh<;>cases bw<;>simp
   rcases hway with ⟨rfl,rfl⟩ | hway
   ·have hno:Hid (FI (l.map (·.toList))=none):=hD
    go_wp2_with (refine wpList_store_rowTo rfl 109 _ _ rfl rfl w.heap.size (Ar e0 Fw d0) rfl rfl 109 (Ar e0 Fw d0) hrb.out (CD _ _ _) rfl (DF _ _ _ _ _) ?_);refine M3 rfl rfl rfl (setRow_heap _ _ _ _ _ _ hrb.out) (.inl ⟨hno,rfl,Ae hbel (Nat.le_refl _) _⟩)
   ·have hyes:Hid (FI (l.map (·.toList))=some st):=H0 (by rw [hD.out];rcases hway with rfl | ⟨rfl,rfl⟩<;>simp)
    clear hD
    rcases hway with rfl | ⟨rfl,rfl⟩
    all_goals
     go_wp2_with fail;refine hcl.out.mono ?_;rintro e w2 ⟨wv,rfl,ho,hb2⟩;obtain ⟨pb,cb,rfl,-⟩:=ho.read;have hrb2:w2.heap[w.heap.size]? =some (.cells (Ar e0 Fw d0) 109 (0,0)):=(hb2.block _ Qa).trans hrb.out;have hcb2:w2.heap[w.heap.size+1]? =some (.cells (Ar e0 Fw st) 109 (0,0)):=(hb2.block _ Qa).trans hcb.out;have hcb3:(w2.setCell ⟨w.heap.size+1,1,none⟩ (.slice pb l.length cb)).heap[w.heap.size+1]? =some (.cells (Ar e0 (.slice pb l.length cb) st) 109 (0,0)):=Ba hcb2;have hrb3:(w2.setCell ⟨w.heap.size+1,1,none⟩ (.slice pb l.length cb)).heap[w.heap.size]? =some (.cells (Ar e0 Fw d0) 109 (0,0)):=(Mc Qa).trans hrb2;have y1:=cell_of_row _ _ 1 _ _ _ hcb2;have f1:=frozen_of_row _ _ 1 _ _ hcb2;simp only [Ar,List.getElem?_toArray,List.getElem?_cons_zero,List.getElem?_cons_succ] at y1;replace hrb2:=H0 hrb2;replace hcb2:=H0 hcb2;replace hrb3:=H0 hrb3;replace hcb3:=H0 hcb3;have hbel3:Below w.heap.size w (w2.setCell ⟨w.heap.size+1,1,none⟩ (.slice pb l.length cb)):=TN (hbel.trans (hb2.mono Qa)) Qa
     have hown3:∀ cs,AH ((w2.setCell ⟨w.heap.size+1,1,none⟩ (.slice pb l.length cb)).setRow w.heap.size cs) w.heap.size 9 (.slice pb l.length cb) l:=fun cs=>(ho.chg (fun i h1 h2=>(setRow_other _ _ _ _ Qa).trans (Mc Qa))).low Qa
     replace hown3:=H0 hown3;clear ho
     go_wp2_with (first | (refine wpList_load_row rfl 109 _ rfl (w.heap.size+1) rfl _ _ _ _ hcb3.out Tryz.underlying109 rfl (CD _ _ _) ?_) | (refine wpList_store_rowTo rfl 109 _ _ rfl rfl w.heap.size (Ar e0 (.slice pb l.length cb) st) rfl rfl 109 (Ar e0 Fw d0) hrb3.out (CD _ _ _) rfl (DF _ _ _ _ _) ?_))
     refine M3 rfl rfl rfl (setRow_heap _ _ _ _ _ _ hrb3.out) (.inr ⟨_,_,hyes,rfl,hown3.out _,Ae hbel3 (Nat.le_refl _) _⟩)
structure EK where
 url:ByteArray
 wv:Value
 ws:List ByteArray
 st:Mp
def G6 (c:EK):List Value:=(Ar c.url c.wv c.st).toList
def GK (c:EK):EW:=⟨c.url.toList,c.ws.map (·.toList),c.st⟩
def FV (w:World) (B:Nat) (v:Value) (l:List EK):Prop:=w.ownsRow B 109 8 v l.length (l.flatMap G6)/\∀ c∈l,AH w B 9 c.wv c.ws
theorem FV.nil (w:World) (B:Nat):FV w B (.slice none 0 0) []:=⟨World.ownsRow_nil _ _ _ _,fun c hc=>by cases hc⟩
theorem NQ {w w':World} {B:Nat} {E:TypeId} {s n:Nat} {v:Value} {xs:List Value} (h:w.ownsRow B E s v n xs) (hc:∀ k,B<=k->k<w.heap.size->w'.heap[k]? =w.heap[k]?):w'.ownsRow B E s v n xs:=by
 refine ⟨h.1,?_⟩
 rcases h.2 with hn | ⟨k,cap,cur,rfl,hk,hh,rest⟩
 ·exact .inl hn
 ·exact .inr ⟨k,cap,cur,rfl,hk,(hc k hk (Array.getElem?_eq_some_iff.1 hh).1).trans hh,rest⟩
theorem NJ {w:World} {B B':Nat} {E:TypeId} {s n:Nat} {v:Value} {xs:List Value} (h:w.ownsRow B' E s v n xs) (hB:B<=B'):w.ownsRow B E s v n xs:=by
 refine ⟨h.1,?_⟩
 rcases h.2 with hn | ⟨k,cap,cur,rfl,hk,rest⟩
 ·exact .inl hn
 ·exact .inr ⟨k,cap,cur,rfl,Nat.le_trans hB hk,rest⟩
theorem FV.chg {w w':World} {B:Nat} {v:Value} {l:List EK} (h:FV w B v l) (hc:∀ k,B<=k->k<w.heap.size->w'.heap[k]? =w.heap[k]?):FV w' B v l:=
 ⟨NQ h.1 hc,fun c hm=>(h.2 c hm).chg hc⟩
theorem FV.low {w:World} {B B':Nat} {v:Value} {l:List EK} (h:FV w B' v l) (hB:B<=B'):FV w B v l:=⟨NJ h.1 hB,fun c hm=>(h.2 c hm).low hB⟩
theorem FV.below {w w':World} {B:Nat} {v:Value} {l:List EK} (h:FV w B v l) (hb:Below w.heap.size w w'):FV w' B v l:=h.chg fun k _ hk=>hb.block k hk
theorem Afl:∃ i,Tryz.prog.info? 109=some i/\i.zero=some (.agg (Ar e0 Fw d0))/\i.size=8/\i.bytes=88:=info_parts Qb
theorem AH.off {w w':World} {B B':Nat} {v u:Value} {l:List ByteArray} {n:Nat} {xs:List Value} (h:AH w B 9 v l) (hr:w.ownsRow B' 109 8 u n xs) (hg:w.grownBy w' u.ownBlock):AH w' B 9 v l:=by
 refine ⟨h.1,?_⟩
 rcases h.2 with hn | ⟨k,cap,cur,rfl,hk,hh,rest⟩
 ·exact .inl hn
 ·refine .inr ⟨k,cap,cur,rfl,hk,(hg.block k (Array.getElem?_eq_some_iff.1 hh).1 ?_).trans hh,rest⟩
  rcases hr.2 with ⟨rfl,_⟩ | ⟨g,cap2,cur2,rfl,_,hh2,_⟩
  ·exact fun e=>by cases e
  ·intro e
   obtain rfl:k=g:=by simpa [Value.ownBlock] using e
   rw [hh] at hh2;simp at hh2
theorem AH.one {w:World} {B:Nat} {E:TypeId} {v:Value} {l:List ByteArray} (h:AH w B E v l):v.oneCell'=true:=by
 rcases h.2 with ⟨rfl,_⟩ | ⟨k,cap,cur,rfl,_⟩<;>rfl
theorem Im {ops:Array Oper} {rest:List Oper} {o:Oper} {a:Act} {Q:Exit->Act->World->Prop}
  (hgd:o.guard=none) (s x:Operand) (ho:o.op= .call { callee:= .builtin .append,args:= #[s,x],argTypes:= #[105,105] })
  {W0 w0:World} {B:Nat} {v:Value} {l:List EK} (c:EK) (hs:a.eval s=v) (hx:a.eval x= .slice (some ⟨w0.heap.size,0,none⟩) 1 1)
  (hown:FV w0 B v l) (hnew:AH w0 B 9 c.wv c.ws) (hbel:Below B W0 w0) (hB:B<=w0.heap.size) (hl:l.length<=1000000000)
  (h:∀ v' w',FV w' B v' (l++[c])->Below B W0 w'->wpList Tryz.prog ops Q rest (a.put o.dst v') w'):
  wpList Tryz.prog ops Q (o :: rest) a (w0.alloc (.cells (Ar c.url c.wv c.st) 109)):=by
 obtain ⟨i,hi,hz,hs1,hb1⟩:=Afl;have hgr:w0.grownBy (w0.alloc (.cells (Ar c.url c.wv c.st) 109)) none:=World.grownBy_alloc _ _ _;have hr:=hown.1.alloc (.cells (Ar c.url c.wv c.st) 109)
 have hws:∀ d∈l++[c],AH (w0.alloc (.cells (Ar c.url c.wv c.st) 109)) B 9 d.wv d.ws:=by
  intro d hd
  rcases List.mem_append.1 hd with hd | hd
  ·exact (hown.2 d hd).alloc _
  ·rw [List.mem_singleton.1 hd];exact hnew.alloc _
 refine wpList_append_own _ hgd s x 105 ho B 109 i _ 8 88 Tryz.underlying105 hi hz hs1 hb1 rfl Qc v l.length _ hs hr ⟨w0.heap.size,0,none⟩ 1 1 (G6 c) hx rfl ?_ ?_ Qm Qa Qi ?_
 ·intro j u hj;have hc:=cell_of_row (w0.alloc (.cells (Ar c.url c.wv c.st) 109)) w0.heap.size j _ _ _ (heap_alloc_new w0 _)
  have e:(⟨w0.heap.size,0,none⟩:Addr).add j=⟨w0.heap.size,j,none⟩:=by cases j<;>simp [Addr.add]
  rw [e,hc];unfold G6 at hj;simpa using hj
 ·intro u hu;simp only [G6,Ar,List.mem_cons,List.not_mem_nil,or_false] at hu
  rcases hu with rfl | rfl | rfl | rfl | rfl | rfl | rfl | rfl
  ·rfl
  ·exact hnew.one
  all_goals rfl
 ·intro v' w' hown' hgrow hnil
  refine h v' w' ⟨?_,?_⟩ ((hbel.alloc hB _).grown hgrow Qi (fun k hk=>(World.ownsRow.lt hr k hk).1))
  ·rw [List.length_append,List.flatMap_append];simpa using hown'
  ·exact fun d hd=>(hws d hd).off hr hgrow
theorem Jq {ops:Array Oper} {rest:List Oper} {o:Oper} {a:Act} {w:World} {Q:Exit->Act->World->Prop} (hg:o.guard=none) (x:Operand) (ho:o.op= .buildSlice 105 1 #[(0,x)])
  (u:ByteArray) (wv:Value) (st:Mp) (hx:a.eval x= .agg (Ar u wv st))
  (h:wpList Tryz.prog ops Q rest (a.put o.dst (.slice (some ⟨w.heap.size,0,none⟩) 1 1)) (w.alloc (.cells (Ar u wv st) 109))):wpList Tryz.prog ops Q (o :: rest) a w:=by
 obtain ⟨i,hi,hz,hs1,hb1⟩:=Afl
 refine wpList_buildSlice hg 105 109 1 _ ho (Ar u wv st) i _ Tryz.underlying105 hi hz (by rw [hs1];omega) (by rw [hs1];omega) ?_ h
 rw [hs1];rw [Array.toList_map];show Instr.fill _ _ [(0,a.eval x)]=_;rw [hx]
 kernel_rfl
theorem Ci {P:Program} {ops:Array Oper} {rest:List Oper} {o:Oper} {a:Act} {w:World} {Q:Exit->Act->World->Prop} (hgd:o.guard=none) (ty:TypeId) (x y:Operand) (ho:o.op= .store ty x y) (hd:o.dst=none)
  (cells:Array Value) (t:TypeId) (old:Array Value) (g:Nat) (hx:a.eval x= .pointer (some ⟨g,0,none⟩)) (hgw:g=w.heap.size) (hy:a.eval y= .agg cells) (hi:(P.info? ty).map (·.size)=some cells.size)
  (hold:old.size=cells.size) (h1:cells.all (·.oneCell')=true)
  (h:wpList P ops Q rest a (w.alloc (.cells cells t))):wpList P ops Q (o :: rest) a (w.alloc (.cells old t)):=by
 subst hgw
 refine wpList_store_row hgd ty x y ho w.heap.size cells hx hy t old (by show (w.heap.push _)[w.heap.size]? =_;simp) hi hold h1 ?_
 rw [World.setRow_alloc_new,hd];exact h
theorem PP (l:List UInt8) (c:UInt8):Lib.hasSuffix l [c]=decide (l.getLast? =some c):=by
 unfold Lib.hasSuffix
 rcases List.eq_nil_or_concat l with rfl | ⟨L,d,rfl⟩
 ·rfl
 ·have e:(L++[d]).reverse=d :: L.reverse:=by rw [List.reverse_append];rfl
  have e2:(L++[d]).getLast? =some d:=Akj;have e3:L.concat d=L++[d]:=List.concat_eq_append
  try rw [e3]
  unfold List.isSuffixOf;rw [e,e2];show (c==d && true)=decide (some d=some c);rw [Bool.and_true,Bool.eq_iff_iff,beq_iff_eq,decide_eq_true_iff]
  exact ⟨fun h=>by rw [h],fun h=>(Option.some.inj h).symm⟩
def Aew (s:ByteArray) (w:World) (e:Ending) (w':World):Prop:=
 ∃ (v:Value) (l:List EK),e= .returned v/\Hid (l.map GK=Cf s.toList)/\l.length<=s.size/\(∀ c∈l,c.url.size<=s.size/\(∀ x∈c.ws,x.size<=1000000000)/\c.ws.length<=1000000000)/\FV w' w.heap.size v l/\Below w.heap.size w w'
theorem AhW:∀ args w,(callFunc 171 args).run Tryz.prog w= .ok (.enter 171 args) w:=Dj Tryz.func171 Qb rfl
theorem Ah4:∀ args w,(callFunc 172 args).run Tryz.prog w= .ok (.enter 172 args) w:=Dj Tryz.func172 Qb rfl
theorem Ahj:∀ (n:Nat) (l:List UInt8),l.length<=n->∀ t∈(MK l).1,t.length<=l.length:=by
 intro n
 induction n with
 | zero=>
  intro l hl t ht;obtain rfl:l=[]:=List.eq_nil_of_length_eq_zero Qa;have e:MK []=([],[]):=rfl;rw [e] at ht;cases ht
 | succ n ih=>
  intro l hl t ht;have h3:=B6 CO l;rw [HE] at ht
  by_cases h:(Bf Bx false (l.dropWhile CO)).1=[]
  ·rw [if_pos h] at ht;cases ht
  ·have h1:=HF Bx false (l.dropWhile CO);have h2:=List.length_pos_iff.2 h;rw [if_neg h] at ht
   rcases List.mem_cons.1 ht with rfl | ht
   ·omega
   ·have:=ih (Bf Bx false (l.dropWhile CO)).2.1 Qa t ht;omega
theorem Ht {s:List UInt8} {j:Nat} (h:(s.drop j).dropWhile BX=[]):Cf (s.drop j)=[]:=by rw [Fz,h,if_pos rfl]
theorem YW (s:ByteArray) (w:World) (hz:s.size<=900000000):
  Calls Tryz.prog 103 #[.string s] w (Aew s w):=by
 have hsl:=Aa s;go_enter Tryz.func103,Tryz.ntmps103;go_wp2_with fail
 go_loopg [3] (s.size) (fun g v wr=>∃ (j:Nat) (l:List EK),g=s.size - j/\j<=s.size/\l.length<=j/\Hid (Cf s.toList=l.map GK++Cf (s.toList.drop j))/\(∀ c∈l,c.url.size<=s.size/\(∀ x∈c.ws,x.size<=1000000000)/\c.ws.length<=1000000000)/\FV wr (w.heap.size+2) v l/\F8 wr (w.heap.size+1) j/\G2 wr w.heap.size s/\Below w.heap.size w wr)
 case atStart=>
  refine ⟨0,[],rfl,Nat.zero_le _,Nat.le_refl _,H0 Qf,(fun c hc=>by cases hc),FV.nil _ _,?_,?_,((Below.refl _ _).alloc (Nat.le_refl _) _).alloc Qf _⟩
  ·have:=heap_alloc_new (w.alloc (.cells #[.string s] 9)) (.cells #[.int .i64 0] 3);unfold F8;simpa using this
  ·exact (heap_alloc_old _ _ Qf).trans (heap_alloc_new _ _)
 case round=>
  obtain ⟨j,l,hgk,hj,hlj,hrun,hsz,hown,hba,hbs,hB⟩:=hrel;replace hgk:=H0 hgk;have hwz0:w.heap.size+1<wr.heap.size:=(Array.getElem?_eq_some_iff.1 hba).1;go_wp2_with fail
  refine (MB 171 #[] (Yd BX) (fun _ _=>True) (fun _=>False) (w.heap.size+1) w.heap.size s (fun st c w _=>(Ae3 (c.toNat:Int) w).mono QV) AhW (fun _ _ _ _=>trivial) (fun x=>x) (fun x=>x) Qa Qa () j wr trivial hba hbs hj).mono ?_
  rintro e w1 ⟨t1,rfl,ht1,hz1,hba1,hbs1,-,hC1⟩;have hd1:=Md ht1.out;rw [IK] at hd1;dsimp only at hd1
  have hC1':BY (· =w.heap.size+1) wr w1:=hC1.mono (fun i h=>h.elim id False.elim)
  have lsz:wr.heap.size<=w1.heap.size:=hC1.size
  have hown1:FV w1 (w.heap.size+2) _ l:=hown.chg (fun k h1 h2=>hC1'.block k h2 Qa)
  have hB1:Below w.heap.size w w1:=hB.trans (hC1'.below Qa Akv);clear ht1 hC1 hC1' hown hB hba hbs;obtain ⟨j1,hj1⟩:=N2 (j+t1.size);rw [hj1] at hd1 hz1 hba1;have hjj:j<=j1:=Qa;have xa:=cell_of_row _ _ 0 _ _ _ hba1;have xs:=cell_of_row _ _ 0 _ _ _ hbs1;simp only [List.getElem?_toArray,List.getElem?_cons_zero] at xa xs;replace hj1:=H0 hj1
  by_cases hend:j1=s.size
  ·obtain ⟨e1,n1⟩:=MP (show (j1:Int)=(s.size:Int) by omega)
   have hfin:Hid (l.map GK=Cf s.toList):=H0 (by
    rw [hrun.out,Ht (by rw [<-hd1];exact AL s _ Qa),List.append_nil])
   replace hd1:=H0 hd1;replace hba1:=H0 hba1;replace hbs1:=H0 hbs1;replace hend:=H0 hend;go_wp2_with fail;go_ret;exact ⟨_,l,rfl,hfin,Qa,hsz,hown1.low Qa,hB1⟩
  obtain ⟨e1,n1⟩:=O6 (show ¬ (j1:Int)=(s.size:Int) by omega)
  have hlt1:j1<s.size:=Qa;have hcr:=As s j1 hlt1
  have hc0:BX s[j1]=false:=DY BX (s.toList.drop j) (by rw [<-hd1,hcr])
  have hstep:Hid (Cf (s.toList.drop j)=CJ (C4 (s.toList.drop j1)).1++Cf (C4 (s.toList.drop j1)).2):=H0 (by
   rw [Fz,<-hd1,if_neg (by rw [hcr];simp)])
  replace hba1:=H0 hba1;replace hbs1:=H0 hbs1;clear hd1;go_wp2_with fail
  refine (MB 172 #[] (Yd A0) (fun _ _=>True) (fun _=>False) (w.heap.size+1) w.heap.size s (fun st c w _=>(Aer (c.toNat:Int) w).mono QV) Ah4 (fun _ _ _ _=>trivial) (fun x=>x) (fun x=>x) Qa Qa () j1 w1 trivial hba1.out hbs1.out hz1).mono ?_
  rintro e w2 ⟨U,rfl,hU,hz2,hba2,hbs2,-,hC2⟩;have hd2:=Md hU.out;rw [IK] at hd2 hU;dsimp only at hd2 hU
  have hC2':BY (· =w.heap.size+1) w1 w2:=hC2.mono (fun i h=>h.elim id False.elim)
  have lsz2:w1.heap.size<=w2.heap.size:=hC2.size
  have hown2:FV w2 (w.heap.size+2) _ l:=hown1.chg (fun k h1 h2=>hC2'.block k h2 Qa)
  have hB2:Below w.heap.size w w2:=hB1.trans (hC2'.below Qa Akv)
  have hUp:0<U.size:=by
   rw [<-Aa,hU.out,hcr,List.takeWhile_cons,if_pos (Jk hc0)];simp
  have hUz0:U.size<=s.size:=Qa;clear hC2 hC2' hown1 hB1 hba1 hbs1 xa xs;obtain ⟨k2,hk2⟩:=N2 (j1+U.size);rw [hk2] at hd2 hz2 hba2;have hk2j:j1<k2:=Qa
  have hsuf:=H0 (fun w=>Tryz.strings_HasSuffix U ⟨#[44]⟩ w Qa)
  have e2:Lib.hasSuffix U.data.toList (ByteArray.mk #[44]).data.toList=decide (U.toList.getLast? =some 44):=by
   rw [<-ByteArray.toList_eq];exact PP _ _
  rw [e2] at hsuf;replace hba2:=H0 hba2;replace hbs2:=H0 hbs2;replace hk2:=H0 hk2;replace hcr:=H0 hcr;clear hc0 e2
  by_cases hlast:U.toList.getLast? =some 44
  ·rw [decide_eq_true hlast] at hsuf
   have htr:=H0 (fun w=>Tryz.strings_TrimRight_one U 44 Qc w Qa)
   obtain ⟨U2,hU2⟩:∃ q:ByteArray,(⟨(Lib.trimRightB U.data.toList 44).toArray⟩:ByteArray)=q:=⟨_,rfl⟩;rw [hU2] at htr
   have hU2l:U2.toList=JP U.toList:=by rw [<-hU2,toList_mk,<-ByteArray.toList_eq];rfl
   have hUz:U2.size<=s.size:=by
    obtain ⟨t,ht,_⟩:=UC U.toList;have:=congrArg List.length ht;rw [List.length_append,<-hU2l,Aa,Aa] at this;omega
   have hone:Hid (C4 (s.toList.drop j1)=((U2.toList,([]:List ByteArray).map (·.toList)),s.toList.drop k2)):=H0 (by
    unfold C4
    rw [<-hU.out,if_pos hlast,hU2l,hd2];rfl)
   replace hU2:=H0 hU2;replace hU2l:=H0 hU2l;replace hlast:=H0 hlast;replace hd2:=H0 hd2
   go_wp2_with (first | (go_at_call 112;refine (hsuf.out _).mono ?_;rintro e w' ⟨rfl,hw'⟩;obtain rfl:=hw'.symm) | (go_at_call 173;refine (htr.out _).mono ?_;rintro e w' ⟨rfl,hw'⟩;obtain rfl:=hw'.symm))
   have hn:k2<=s.size:=hz2
   have hwz:∀ x∈([]:List ByteArray),x.size<=1000000000:=fun x hx=>by cases hx
   have hwl:([]:List ByteArray).length<=1000000000:=Qc
   have hrdv:Fv w2 (.slice none 0 0) ([]:List ByteArray):=⟨none,0,rfl,fun h=>Qr⟩
   refine (Iu (.slice none 0 0) ([]:List ByteArray) w2 hrdv hwz hwl).mono ?_;have lat:w.heap.size+1<w2.heap.size:=(Array.getElem?_eq_some_iff.1 hba2.out).1;have lst:w.heap.size<w2.heap.size:=Qa;rintro e w6 (⟨hds,rfl,hb6⟩ | ⟨st,wv,hds,rfl,ho6,hb6⟩)
   ·have hnew:Hid (Cf s.toList=l.map GK++Cf (s.toList.drop k2)):=H0 (by
     rw [hrun.out,hstep.out,hone.out];unfold CJ;dsimp only
     rw [hds.out];rfl)
    have hb7:Below w2.heap.size w2 (w6.alloc (.cells (Ar e0 Fw d0) 109)):=hb6.alloc hb6.size _;have hbe:F8 (w6.alloc (.cells (Ar e0 Fw d0) 109)) (w.heap.size+1) k2:=(hb7.block _ lat).trans hba2.out;have hse:G2 (w6.alloc (.cells (Ar e0 Fw d0) 109)) w.heap.size s:=(hb7.block _ lst).trans hbs2.out;have hoe:=hown2.below hb7;have hBe:=hB2.trans (hb7.mono Qa);replace hbe:=H0 hbe;replace hse:=H0 hse;clear hb6 hb7;go_wp2_with (refine Ci rfl 109 _ _ rfl rfl (Ar e0 Fw d0) 109 _ _ rfl rfl rfl (CD _ _ _) rfl (DF _ _ _ _ _) ?_);go_roundg (s.size - k2)
    case measure=>have:=hgk.out;omega
    case rel=>exact ⟨k2,l,rfl,hn,Qa,hnew,hsz,hoe,hbe.out,hse.out,hBe⟩
   ·have hnew:Hid (Cf s.toList=(l++[EK.mk U2 wv ([]:List ByteArray) st]).map GK++Cf (s.toList.drop k2)):=H0 (by
     rw [hrun.out,hstep.out,hone.out];unfold CJ;dsimp only
     rw [hds.out,List.map_append,List.append_assoc];rfl)
    obtain ⟨pb,cb,rfl,-⟩:=ho6.read;have hb7:Below w2.heap.size w2 (w6.alloc (.cells (Ar e0 (.slice pb ([]:List ByteArray).length cb) st) 109)):=hb6.alloc hb6.size _;have hnb:(w6.alloc (.cells (Ar e0 (.slice pb ([]:List ByteArray).length cb) st) 109)).heap[w6.heap.size]? =some (.cells (Ar e0 (.slice pb ([]:List ByteArray).length cb) st) 109 (0,0)):=heap_alloc_new _ _;have y0:=cell_of_row _ _ 0 _ _ _ hnb;have f0:=frozen_of_row _ _ 0 _ _ hnb;simp only [Ar,List.getElem?_toArray,List.getElem?_cons_zero,List.getElem?_cons_succ] at y0
    change World.cell? (w6.alloc (.cells (Ar e0 (.slice pb ([]:List ByteArray).length cb) st) 109)) _=_ at y0
    have hnb2:(w6.alloc (.cells (Ar U2 (.slice pb ([]:List ByteArray).length cb) st) 109)).heap[w6.heap.size]? =some (.cells (Ar U2 (.slice pb ([]:List ByteArray).length cb) st) 109 (0,0)):=heap_alloc_new _ _
    have hkp:∀ k,k<w6.heap.size->(w6.alloc (.cells (Ar U2 (.slice pb ([]:List ByteArray).length cb) st) 109)).heap[k]? =w6.heap[k]? :=fun k hk=>heap_alloc_old _ _ hk
    have lsz:=hb6.size;have hbe:F8 (w6.alloc (.cells (Ar U2 (.slice pb ([]:List ByteArray).length cb) st) 109)) (w.heap.size+1) k2:=(hkp _ Qa).trans ((hb6.block _ lat).trans hba2.out);have hse:G2 (w6.alloc (.cells (Ar U2 (.slice pb ([]:List ByteArray).length cb) st) 109)) w.heap.size s:=(hkp _ Qa).trans ((hb6.block _ lst).trans hbs2.out)
    have hoe:FV (w6.alloc (.cells (Ar U2 (.slice pb ([]:List ByteArray).length cb) st) 109)) (w.heap.size+2) _ l:=hown2.chg (fun k _ hk=>(hkp k Qa).trans (hb6.block k hk))
    have hwe:AH (w6.alloc (.cells (Ar U2 (.slice pb ([]:List ByteArray).length cb) st) 109)) (w.heap.size+2) 9 (.slice pb ([]:List ByteArray).length cb) ([]:List ByteArray):=(ho6.chg (fun k _ hk=>hkp k hk)).low Qa
    have hBe:Below w.heap.size w (w6.alloc (.cells (Ar U2 (.slice pb ([]:List ByteArray).length cb) st) 109)):=(hB2.trans (hb6.mono Qa)).alloc Qa _;have lse:(w6.alloc (.cells (Ar U2 (.slice pb ([]:List ByteArray).length cb) st) 109)).heap.size=w6.heap.size+1:=Qf;replace hbe:=H0 hbe;replace hse:=H0 hse;replace hnb2:=H0 hnb2;replace hkp:=H0 hkp;replace lse:=H0 lse;clear hb6 hb7 ho6 hnb
    go_wp2_with (first
     | (refine Ci rfl 109 _ _ rfl rfl (Ar e0 (.slice pb ([]:List ByteArray).length cb) st) 109 _ _ rfl rfl rfl (CD _ _ _) rfl (DF _ _ _ _ _) ?_)
     | (refine wpList_load_row (w:=(w6.alloc (.cells (Ar U2 (.slice pb ([]:List ByteArray).length cb) st) 109))) rfl 109 _ rfl w6.heap.size rfl _ (Ar U2 (.slice pb ([]:List ByteArray).length cb) st) _ _ hnb2.out Tryz.underlying109 rfl (CD _ _ _) ?_)
     | (refine Jq rfl _ rfl U2 (.slice pb ([]:List ByteArray).length cb) st rfl ?_)
     | (refine Im rfl _ _ rfl (EK.mk U2 (.slice pb ([]:List ByteArray).length cb) ([]:List ByteArray) st) rfl Qt hoe hwe (Below.refl (w.heap.size+2) _) (by rw [lse.out];omega) Qa ?_;intro v' w8 hoz hbz))
    have hbz1:F8 w8 (w.heap.size+1) k2:=(hbz.block _ Qa).trans hbe.out;have hbz2:G2 w8 w.heap.size s:=(hbz.block _ Qa).trans hse.out;have hBz:=hBe.trans (hbz.mono Qa);go_wp2_with fail;go_roundg (s.size - k2)
    case measure=>have:=hgk.out;omega
    case rel=>
     refine ⟨k2,_,rfl,hn,?_,hnew,?_,hoz,hbz1,hbz2,hBz⟩
     ·rw [List.length_append];show l.length+1<=_;omega
     ·intro c hc
      rcases List.mem_append.1 hc with hc | hc
      ·exact hsz c hc
      ·rw [List.mem_singleton.1 hc];exact ⟨hUz,hwz,hwl⟩
  ·rw [decide_eq_false hlast] at hsuf
   have hU1:Hid (C4 (s.toList.drop j1)=((U.toList,(MK (s.toList.drop k2)).1),(MK (s.toList.drop k2)).2.drop 1)):=H0 (by
    unfold C4
    rw [<-hU.out,if_neg hlast,hd2])
   replace hlast:=H0 hlast;replace hd2:=H0 hd2
   go_wp2_with (first | (go_at_call 112;refine (hsuf.out _).mono ?_;rintro e w' ⟨rfl,hw'⟩;obtain rfl:=hw'.symm))
   refine (Rk (w.heap.size+1) w.heap.size s k2 w2 hba2.out hbs2.out hz2 Qa Qa).mono ?_;rintro e w3 ⟨V,wl,n0,rfl,hwl1,hwl2,hkn,hn0,hwln,hoV,hba3,hbs3,hC3⟩;have lsz3:w2.heap.size<=w3.heap.size:=hC3.size
   have hown3:FV w3 (w.heap.size+2) _ l:=hown2.chg (fun k h1 h2=>hC3.block k h2 Qa)
   have hB3:Below w.heap.size w w3:=hB2.trans (hC3.below Qa Akv)
   have hwz:∀ x∈wl,x.size<=1000000000:=by
    intro x hx
    have h1:x.toList∈(MK (s.toList.drop k2)).1:=by rw [<-hwl1.out];exact List.mem_map_of_mem hx
    have h2:=Ahj _ _ (Nat.le_refl _) _ h1;rw [Aa,List.length_drop,hsl] at h2;omega
   have hwl:wl.length<=1000000000:=Qa;obtain ⟨pv,cv,rfl,-⟩:=hoV.read;have xa:=cell_of_row _ _ 0 _ _ _ hba3;have xs:=cell_of_row _ _ 0 _ _ _ hbs3;have fa:=frozen_of_row _ _ 0 _ _ hba3;simp only [List.getElem?_toArray,List.getElem?_cons_zero] at xa xs;clear hC3 hown2 hB2 hba2 hbs2
   by_cases hn0e:n0<s.size
   ·have hn0I:(n0:Int)<(s.size:Int):=Qa
    have hbn:F8 (w3.setCell ⟨w.heap.size+1,0,none⟩ (.int .i64 ((n0+1:Nat):Int))) (w.heap.size+1) (n0+1):=by
     unfold F8;rw [Ba hba3];rfl
    have hsn:G2 (w3.setCell ⟨w.heap.size+1,0,none⟩ (.int .i64 ((n0+1:Nat):Int))) w.heap.size s:=(Mc Qa).trans hbs3
    have hownn:FV (w3.setCell ⟨w.heap.size+1,0,none⟩ (.int .i64 ((n0+1:Nat):Int))) (w.heap.size+2) _ l:=hown3.chg (fun k h1 h2=>Mc Qa)
    have hBn:Below w.heap.size w (w3.setCell ⟨w.heap.size+1,0,none⟩ (.int .i64 ((n0+1:Nat):Int))):=TN hB3 Qa
    have hrn:AH (w3.setCell ⟨w.heap.size+1,0,none⟩ (.int .i64 ((n0+1:Nat):Int))) w2.heap.size 9 (.slice pv wl.length cv) wl:=hoV.chg (fun k h1 h2=>Mc Qa)
    have hrdv:=hrn.read;have ej:((n0+1:Nat):Int)=(n0:Int)+1:=Qa;rw [ej] at hbn hsn hownn hBn hrdv;have hn1:n0+1<=s.size:=Qa
    have hone:Hid (C4 (s.toList.drop j1)=((U.toList,wl.map (·.toList)),s.toList.drop (n0+1))):=H0 (by
     rw [hU1.out,<-hwl1.out,<-hwl2.out,List.drop_drop])
    have hUz:=hUz0;replace ej:=H0 ej;replace hba3:=H0 hba3;replace hbs3:=H0 hbs3;replace hbn:=H0 hbn;replace hsn:=H0 hsn;replace hrn:=H0 hrn;clear hown3 hB3 hoV;go_wp2_with fail;have hn:n0+1<=s.size:=hn1;refine (Iu (.slice pv wl.length cv) wl (w3.setCell ⟨w.heap.size+1,0,none⟩ (.int .i64 ((n0:Int)+1))) hrdv hwz hwl).mono ?_;have lat:w.heap.size+1<(w3.setCell ⟨w.heap.size+1,0,none⟩ (.int .i64 ((n0:Int)+1))).heap.size:=(Array.getElem?_eq_some_iff.1 hbn.out).1;have lst:w.heap.size<(w3.setCell ⟨w.heap.size+1,0,none⟩ (.int .i64 ((n0:Int)+1))).heap.size:=Qa;rintro e w6 (⟨hds,rfl,hb6⟩ | ⟨st,wv,hds,rfl,ho6,hb6⟩)
    ·have hnew:Hid (Cf s.toList=l.map GK++Cf (s.toList.drop (n0+1))):=H0 (by
      rw [hrun.out,hstep.out,hone.out];unfold CJ;dsimp only
      rw [hds.out];rfl)
     have hb7:Below (w3.setCell ⟨w.heap.size+1,0,none⟩ (.int .i64 ((n0:Int)+1))).heap.size (w3.setCell ⟨w.heap.size+1,0,none⟩ (.int .i64 ((n0:Int)+1))) (w6.alloc (.cells (Ar e0 Fw d0) 109)):=hb6.alloc hb6.size _;have hbe:F8 (w6.alloc (.cells (Ar e0 Fw d0) 109)) (w.heap.size+1) (n0+1):=(hb7.block _ lat).trans hbn.out;have hse:G2 (w6.alloc (.cells (Ar e0 Fw d0) 109)) w.heap.size s:=(hb7.block _ lst).trans hsn.out;have hoe:=hownn.below hb7;have hBe:=hBn.trans (hb7.mono Qa);replace hbe:=H0 hbe;replace hse:=H0 hse;clear hb6 hb7;go_wp2_with (refine Ci rfl 109 _ _ rfl rfl (Ar e0 Fw d0) 109 _ _ rfl rfl rfl (CD _ _ _) rfl (DF _ _ _ _ _) ?_);go_roundg (s.size - (n0+1))
     case measure=>have:=hgk.out;omega
     case rel=>exact ⟨(n0+1),l,rfl,hn,Qa,hnew,hsz,hoe,hbe.out,hse.out,hBe⟩
    ·have hnew:Hid (Cf s.toList=(l++[EK.mk U wv wl st]).map GK++Cf (s.toList.drop (n0+1))):=H0 (by
      rw [hrun.out,hstep.out,hone.out];unfold CJ;dsimp only
      rw [hds.out,List.map_append,List.append_assoc];rfl)
     obtain ⟨pb,cb,rfl,-⟩:=ho6.read;have hb7:Below (w3.setCell ⟨w.heap.size+1,0,none⟩ (.int .i64 ((n0:Int)+1))).heap.size (w3.setCell ⟨w.heap.size+1,0,none⟩ (.int .i64 ((n0:Int)+1))) (w6.alloc (.cells (Ar e0 (.slice pb wl.length cb) st) 109)):=hb6.alloc hb6.size _;have hnb:(w6.alloc (.cells (Ar e0 (.slice pb wl.length cb) st) 109)).heap[w6.heap.size]? =some (.cells (Ar e0 (.slice pb wl.length cb) st) 109 (0,0)):=heap_alloc_new _ _;have y0:=cell_of_row _ _ 0 _ _ _ hnb;have f0:=frozen_of_row _ _ 0 _ _ hnb;simp only [Ar,List.getElem?_toArray,List.getElem?_cons_zero,List.getElem?_cons_succ] at y0
     change World.cell? (w6.alloc (.cells (Ar e0 (.slice pb wl.length cb) st) 109)) _=_ at y0
     have hnb2:(w6.alloc (.cells (Ar U (.slice pb wl.length cb) st) 109)).heap[w6.heap.size]? =some (.cells (Ar U (.slice pb wl.length cb) st) 109 (0,0)):=heap_alloc_new _ _
     have hkp:∀ k,k<w6.heap.size->(w6.alloc (.cells (Ar U (.slice pb wl.length cb) st) 109)).heap[k]? =w6.heap[k]? :=fun k hk=>heap_alloc_old _ _ hk
     have lsz:=hb6.size;have hbe:F8 (w6.alloc (.cells (Ar U (.slice pb wl.length cb) st) 109)) (w.heap.size+1) (n0+1):=(hkp _ Qa).trans ((hb6.block _ lat).trans hbn.out);have hse:G2 (w6.alloc (.cells (Ar U (.slice pb wl.length cb) st) 109)) w.heap.size s:=(hkp _ Qa).trans ((hb6.block _ lst).trans hsn.out)
     have hoe:FV (w6.alloc (.cells (Ar U (.slice pb wl.length cb) st) 109)) (w.heap.size+2) _ l:=hownn.chg (fun k _ hk=>(hkp k Qa).trans (hb6.block k hk))
     have hwe:AH (w6.alloc (.cells (Ar U (.slice pb wl.length cb) st) 109)) (w.heap.size+2) 9 (.slice pb wl.length cb) wl:=(ho6.chg (fun k _ hk=>hkp k hk)).low Qa
     have hBe:Below w.heap.size w (w6.alloc (.cells (Ar U (.slice pb wl.length cb) st) 109)):=(hBn.trans (hb6.mono Qa)).alloc Qa _;have lse:(w6.alloc (.cells (Ar U (.slice pb wl.length cb) st) 109)).heap.size=w6.heap.size+1:=Qf;replace hbe:=H0 hbe;replace hse:=H0 hse;replace hnb2:=H0 hnb2;replace hkp:=H0 hkp;replace lse:=H0 lse;clear hb6 hb7 ho6 hnb
     go_wp2_with (first
      | (refine Ci rfl 109 _ _ rfl rfl (Ar e0 (.slice pb wl.length cb) st) 109 _ _ rfl rfl rfl (CD _ _ _) rfl (DF _ _ _ _ _) ?_)
      | (refine wpList_load_row (w:=(w6.alloc (.cells (Ar U (.slice pb wl.length cb) st) 109))) rfl 109 _ rfl w6.heap.size rfl _ (Ar U (.slice pb wl.length cb) st) _ _ hnb2.out Tryz.underlying109 rfl (CD _ _ _) ?_)
      | (refine Jq rfl _ rfl U (.slice pb wl.length cb) st rfl ?_)
      | (refine Im rfl _ _ rfl (EK.mk U (.slice pb wl.length cb) wl st) rfl Qt hoe hwe (Below.refl (w.heap.size+2) _) (by rw [lse.out];omega) Qa ?_;intro v' w8 hoz hbz))
     have hbz1:F8 w8 (w.heap.size+1) (n0+1):=(hbz.block _ Qa).trans hbe.out;have hbz2:G2 w8 w.heap.size s:=(hbz.block _ Qa).trans hse.out;have hBz:=hBe.trans (hbz.mono Qa);go_wp2_with fail;go_roundg (s.size - (n0+1))
     case measure=>have:=hgk.out;omega
     case rel=>
      refine ⟨(n0+1),_,rfl,hn,?_,hnew,?_,hoz,hbz1,hbz2,hBz⟩
      ·rw [List.length_append];show l.length+1<=_;omega
      ·intro c hc
       rcases List.mem_append.1 hc with hc | hc
       ·exact hsz c hc
       ·rw [List.mem_singleton.1 hc];exact ⟨hUz,hwz,hwl⟩
   ·have hn0I:(s.size:Int)<=(n0:Int):=Qa
    have hone:Hid (C4 (s.toList.drop j1)=((U.toList,wl.map (·.toList)),s.toList.drop n0)):=H0 (by
     rw [hU1.out,<-hwl1.out,<-hwl2.out,List.drop_drop,AL s n0 Qa,AL s (n0+1) Qa])
    have hUz:=hUz0;have hrdv:=hoV.read;replace hba3:=H0 hba3;replace hbs3:=H0 hbs3;clear hoV;go_wp2_with fail;have hn:n0<=s.size:=hn0;refine (Iu (.slice pv wl.length cv) wl w3 hrdv hwz hwl).mono ?_;have lat:w.heap.size+1<w3.heap.size:=(Array.getElem?_eq_some_iff.1 hba3.out).1;have lst:w.heap.size<w3.heap.size:=Qa;rintro e w6 (⟨hds,rfl,hb6⟩ | ⟨st,wv,hds,rfl,ho6,hb6⟩)
    ·have hnew:Hid (Cf s.toList=l.map GK++Cf (s.toList.drop n0)):=H0 (by
      rw [hrun.out,hstep.out,hone.out];unfold CJ;dsimp only
      rw [hds.out];rfl)
     have hb7:Below w3.heap.size w3 (w6.alloc (.cells (Ar e0 Fw d0) 109)):=hb6.alloc hb6.size _;have hbe:F8 (w6.alloc (.cells (Ar e0 Fw d0) 109)) (w.heap.size+1) n0:=(hb7.block _ lat).trans hba3.out;have hse:G2 (w6.alloc (.cells (Ar e0 Fw d0) 109)) w.heap.size s:=(hb7.block _ lst).trans hbs3.out;have hoe:=hown3.below hb7;have hBe:=hB3.trans (hb7.mono Qa);replace hbe:=H0 hbe;replace hse:=H0 hse;clear hb6 hb7;go_wp2_with (refine Ci rfl 109 _ _ rfl rfl (Ar e0 Fw d0) 109 _ _ rfl rfl rfl (CD _ _ _) rfl (DF _ _ _ _ _) ?_);go_roundg (s.size - n0)
     case measure=>have:=hgk.out;omega
     case rel=>exact ⟨n0,l,rfl,hn,Qa,hnew,hsz,hoe,hbe.out,hse.out,hBe⟩
    ·have hnew:Hid (Cf s.toList=(l++[EK.mk U wv wl st]).map GK++Cf (s.toList.drop n0)):=H0 (by
      rw [hrun.out,hstep.out,hone.out];unfold CJ;dsimp only
      rw [hds.out,List.map_append,List.append_assoc];rfl)
     obtain ⟨pb,cb,rfl,-⟩:=ho6.read;have hb7:Below w3.heap.size w3 (w6.alloc (.cells (Ar e0 (.slice pb wl.length cb) st) 109)):=hb6.alloc hb6.size _;have hnb:(w6.alloc (.cells (Ar e0 (.slice pb wl.length cb) st) 109)).heap[w6.heap.size]? =some (.cells (Ar e0 (.slice pb wl.length cb) st) 109 (0,0)):=heap_alloc_new _ _;have y0:=cell_of_row _ _ 0 _ _ _ hnb;have f0:=frozen_of_row _ _ 0 _ _ hnb;simp only [Ar,List.getElem?_toArray,List.getElem?_cons_zero,List.getElem?_cons_succ] at y0
     change World.cell? (w6.alloc (.cells (Ar e0 (.slice pb wl.length cb) st) 109)) _=_ at y0
     have hnb2:(w6.alloc (.cells (Ar U (.slice pb wl.length cb) st) 109)).heap[w6.heap.size]? =some (.cells (Ar U (.slice pb wl.length cb) st) 109 (0,0)):=heap_alloc_new _ _
     have hkp:∀ k,k<w6.heap.size->(w6.alloc (.cells (Ar U (.slice pb wl.length cb) st) 109)).heap[k]? =w6.heap[k]? :=fun k hk=>heap_alloc_old _ _ hk
     have lsz:=hb6.size;have hbe:F8 (w6.alloc (.cells (Ar U (.slice pb wl.length cb) st) 109)) (w.heap.size+1) n0:=(hkp _ Qa).trans ((hb6.block _ lat).trans hba3.out);have hse:G2 (w6.alloc (.cells (Ar U (.slice pb wl.length cb) st) 109)) w.heap.size s:=(hkp _ Qa).trans ((hb6.block _ lst).trans hbs3.out)
     have hoe:FV (w6.alloc (.cells (Ar U (.slice pb wl.length cb) st) 109)) (w.heap.size+2) _ l:=hown3.chg (fun k _ hk=>(hkp k Qa).trans (hb6.block k hk))
     have hwe:AH (w6.alloc (.cells (Ar U (.slice pb wl.length cb) st) 109)) (w.heap.size+2) 9 (.slice pb wl.length cb) wl:=(ho6.chg (fun k _ hk=>hkp k hk)).low Qa
     have hBe:Below w.heap.size w (w6.alloc (.cells (Ar U (.slice pb wl.length cb) st) 109)):=(hB3.trans (hb6.mono Qa)).alloc Qa _;have lse:(w6.alloc (.cells (Ar U (.slice pb wl.length cb) st) 109)).heap.size=w6.heap.size+1:=Qf;replace hbe:=H0 hbe;replace hse:=H0 hse;replace hnb2:=H0 hnb2;replace hkp:=H0 hkp;replace lse:=H0 lse;clear hb6 hb7 ho6 hnb
     go_wp2_with (first
      | (refine Ci rfl 109 _ _ rfl rfl (Ar e0 (.slice pb wl.length cb) st) 109 _ _ rfl rfl rfl (CD _ _ _) rfl (DF _ _ _ _ _) ?_)
      | (refine wpList_load_row (w:=(w6.alloc (.cells (Ar U (.slice pb wl.length cb) st) 109))) rfl 109 _ rfl w6.heap.size rfl _ (Ar U (.slice pb wl.length cb) st) _ _ hnb2.out Tryz.underlying109 rfl (CD _ _ _) ?_)
      | (refine Jq rfl _ rfl U (.slice pb wl.length cb) st rfl ?_)
      | (refine Im rfl _ _ rfl (EK.mk U (.slice pb wl.length cb) wl st) rfl Qt hoe hwe (Below.refl (w.heap.size+2) _) (by rw [lse.out];omega) Qa ?_;intro v' w8 hoz hbz))
     have hbz1:F8 w8 (w.heap.size+1) n0:=(hbz.block _ Qa).trans hbe.out;have hbz2:G2 w8 w.heap.size s:=(hbz.block _ Qa).trans hse.out;have hBz:=hBe.trans (hbz.mono Qa);go_wp2_with fail;go_roundg (s.size - n0)
     case measure=>have:=hgk.out;omega
     case rel=>
      refine ⟨n0,_,rfl,hn,?_,hnew,?_,hoz,hbz1,hbz2,hBz⟩
      ·rw [List.length_append];show l.length+1<=_;omega
      ·intro c hc
       rcases List.mem_append.1 hc with hc | hc
       ·exact hsz c hc
       ·rw [List.mem_singleton.1 hc];exact ⟨hUz,hwz,hwl⟩
def Ajd (w:World) (v:Value) (l:List EK):Prop:=
 ∃ pa c,v= .slice pa l.length c/\(0<l.length->∃ g o,pa=some ⟨g,o,none⟩/\∀ i (h:i<l.length),w.rangeAt g (o+i * 8) (G6 l[i]))/\∀ c∈l,Fv w c.wv c.ws
theorem FG {w w':World} {g o K:Nat} {cs:List Value} (h:w.rangeAt g o cs) (hb:Below K w w') (hK:w.heap.size<=K):w'.rangeAt g o cs:=fun j v hv=>by
 have:=h j v hv;have hl:=World.block_lt_of_cell? w _ this
 exact (hb.cell (by simp at hl⊢;omega)).trans this
theorem Ik (c:EK):(G6 c).length=8:=rfl
theorem Ahs:∀ (l:List EK) (i:Nat) (h:i<l.length) (j:Nat),j<8->(l.flatMap G6)[i * 8+j]? =(G6 l[i])[j]?
 | [],i,h,j,hj=>by simp at h
 | a :: r,0,h,j,hj=>by
  rw [List.flatMap_cons,Nat.zero_mul,Nat.zero_add,List.getElem?_append_left (by rw [Ik];exact hj)];rfl
 | a :: r,i+1,h,j,hj=>by
  rw [List.flatMap_cons,List.getElem?_append_right (by rw [Ik];omega),Ik,show (i+1) * 8+j - 8=i * 8+j by omega]
  exact Ahs r i Qy j hj
theorem FV.read {w:World} {B:Nat} {v:Value} {l:List EK} (h:FV w B v l):Ajd w v l:=by
 obtain ⟨hr,hw⟩:=h;have hr2:=hr
 rcases hr.2 with ⟨rfl,hn⟩ | ⟨g,cap,cur,rfl,hg,hh,hcap,hml,hcs,hcur⟩
 ·exact ⟨none,0,by rw [hn],fun h0=>Qa,fun c hc=>(hw c hc).read⟩
 ·refine ⟨_,cap,rfl,fun _=>⟨g,0,rfl,fun i hi j v hv=> ?_⟩,fun c hc=>(hw c hc).read⟩
  have hj:j<8:=by
   have:=(List.getElem?_eq_some_iff.1 hv).1
   rwa [Ik] at this
  have hlt:i * 8+j<l.length * 8:=Qa;rw [Nat.zero_add];have:=World.ownsRow.cellAt hr2 (i * 8+j) hlt;rw [this,<-hv,<-Ahs l i hi j hj]
end Go.Proofs.YtonomfeipkdmhaaGreatDoor
