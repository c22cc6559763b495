/- Part 14: lemmas. -/
import Derived.Test.YtonomfeipkdmhaaGreatDoorK13
import Derived.Defers
import Derived.Laws.CopyOwn
import Derived.Laws.Pointers
import Derived.Laws.Rows
import Derived.Laws.Tables
import Derived.Recover
import Derived.Tactics2
set_option linter.unusedVariables false
set_option linter.unusedSimpArgs false
set_option maxRecDepth 100000
set_option maxHeartbeats 16000000
namespace Go.Proofs.YtonomfeipkdmhaaGreatDoor
open Go.RowKit
theorem XS (r:Int):(Utf8.encode r).data.toList.length<=4:=by
 unfold Utf8.encode
 generalize (if Utf8.valid r=true then r.toNat else Utf8.runeError)=c
 dsimp only
 repeat' split
 all_goals simp
theorem Sc (c:Nat):(Bj c).length<=4:=by
 unfold Bj
 by_cases h:0x10ffff<c\/(0xd800<=c/\c<=0xdfff)
 ·rw [if_pos h];unfold IX;simp
 ·rw [if_neg h];unfold Pp;exact XS _
theorem Xr (c:Nat):(E2 c).length<=4:=by
 unfold E2
 repeat' split
 all_goals first | exact Sc _ | (simp;done)
theorem Wz (c:Nat):(Fc c).1.length<=4:=by
 unfold Fc;split
 ·exact Xr c
 ·split
  ·simp
  ·split
   ·exact Sc c
   ·simp
theorem Iv:∀ {l:List Nat} {q:List UInt8},Ck l=some q->q.length<=4 * l.length
 | [],q,h=>by cases h;exact Nat.le_refl _
 | x :: r,q,h=>by
  unfold Ck at h;split at h
  ·cases h
  ·rw [Option.map_eq_some_iff] at h;obtain ⟨q',hq,rfl⟩:=h;have:=Iv hq;have:=Wz x;rw [List.length_append,List.length_cons];omega
theorem Ei.readC {w:World} {B b:Nat} {v:Value} {l:List Nat} (h:Ei w B v l) (hb:b<B):∃ pa c,v= .slice pa l.length c/\∀ w',BI (I6 b w.heap.size) w w'->Vq w' pa l.length c l:=by
 have key:∀ w',BI (I6 b w.heap.size) w w'->Ei w' B v l:=by
  intro w' hc;refine ⟨h.1,?_⟩
  rcases h.2 with hn | ⟨g,cap,cur,rfl,hg,hh,rest⟩
  ·exact .inl hn
  ·have hlt:g<w.heap.size:=(Array.getElem?_eq_some_iff.1 hh).1
   exact .inr ⟨g,cap,cur,rfl,hg,by rw [hc.block g hlt (by unfold I6;omega)];exact hh,rest⟩
 obtain ⟨pa,c,rfl,_⟩:=h.read
 refine ⟨pa,c,rfl,fun w' hc=> ?_⟩
 obtain ⟨pa',c',e,hr⟩:=(key w' hc).read;cases e;exact hr
theorem S4 (s:ByteArray) (w:World) (h:ML w) (hs:s.size<4294967281):
  Calls Tryz.prog 339 #[.string s,.string ⟨#[46]⟩] w fun e w'=>∃ l:List ByteArray,e= .returned (.slice (some ⟨w.heap.size,0,none⟩) l.length l.length)/\Hid (l.map (·.toList)=Ay 46 s.toList)/\w'=w.alloc (.cells (l.map Value.string).toArray 9):=by
 obtain ⟨m,hm⟩:=h;refine (Tryz.strings_Split s ⟨#[46]⟩ m w hs hm (Nat.le_refl _)).mono ?_;rintro e w' ⟨rfl,rfl⟩;have hl:(Lib.splitB ⟨#[46]⟩ 0 (Lib.countB s ⟨#[46]⟩) s).length=Lib.countB s ⟨#[46]⟩+1:=Lib.splitB_all _ (Nat.le_refl _) 0 _ _ rfl
 refine ⟨Lib.splitB ⟨#[46]⟩ 0 (Lib.countB s ⟨#[46]⟩) s,by rw [hl],H0 ?_,rfl⟩
 have h1:=Lib.splitB_data ⟨#[46]⟩ 0 (Lib.countB s ⟨#[46]⟩) s
 have e1:(fun t:ByteArray=>t.toList)=(fun t=>t.data.toList):=funext fun t=>ByteArray.toList_eq ..
 rw [e1,h1,ByteArray.toList_eq,<-Vr];rfl
theorem Aer (q r:List (List UInt8)) (x y:List UInt8):(q++x :: r).set q.length y=(q++[y])++r:=by
 rw [List.set_append_right _ _ (Nat.le_refl _),Nat.sub_self,List.set_cons_zero,List.append_assoc];rfl
theorem MY (l:List ByteArray) (i:Nat) (h:i<l.length):(l.map Value.string).toArray[i]? =some (.string l[i]):=by simp [h]
theorem X9 (l:List ByteArray) (i:Nat) (t:ByteArray):(l.map Value.string).toArray.setIfInBounds i (.string t)=((l.set i t).map Value.string).toArray:=by
 rw [List.setIfInBounds_toArray,List.map_set]
theorem Ad4 {ls:List (List UInt8)} {x:List UInt8} (h:x∈ls):x.length<=Ky ls:=by
 induction ls with
 | nil=>cases h
 | cons a r ih=>
  unfold Ky at ih⊢;rw [List.map_cons,List.sum_cons]
  rcases List.mem_cons.1 h with rfl | h
  ·omega
  ·have:=ih h;omega
theorem WS (s:ByteArray) (w:World) (hz:s.size<=8000000) (hE:GZ w):Calls Tryz.prog 327 #[.string s] w (Uo (Cv s.toList) w):=by
 obtain ⟨R,hR⟩:=N2 (Cv s.toList);rw [hR];have hv:=hR.symm;unfold Cv at hv;replace hR:=H0 hR
 have hsg:=H0 (fun w hu=>RN s w (by omega) hu)
 have hsle:=H0 (YI s.toList);have hlen:=Lw s.toList;rw [Aa] at hlen;obtain ⟨m,hm⟩:=N2 (Kw s.toList);rw [hm] at hv hsg hsle hlen;replace hm:=H0 hm;replace hv:=H0 hv;have hE':=H0 hE;clear hE;go_enter Tryz.func327,Tryz.ntmps327;go_wp2_with fail;have hb0:Below w.heap.size w (w.alloc (.cells #[.pointer none,.slice none 0 0] 76)):=(Below.refl _ _).alloc (Nat.le_refl _) _
 refine (hsg.out _ (hE'.out.next hb0).utf).mono ?_
 rintro e w1 ⟨v,rfl,ho,hb1⟩;have hbd0:GR w1 w1.heap.size w.heap.size []:=(GR.fresh w w1.heap.size).keep hb1
 obtain ⟨pa,c,rfl,hrow⟩:=ho.readC (b:=w.heap.size) (by simp)
 have hbw1:Below w.heap.size w w1:=hb0.trans (hb1.mono (by simp))
 obtain ⟨n,hn⟩:=N2 (m.length);rw [hn] at hrow hlen⊢;replace hrow:=H0 hrow;replace hn:=H0 hn;clear ho hb1 hb0;have hs1:=hbw1.size;obtain ⟨C,hC⟩:=N2 (w1.heap.size);rw [hC] at hrow hbd0 hs1;replace hC:=H0 hC;go_wp2_with fail
 go_loopw [17] (fun v17 wr=>∃ (k:Nat) (q:List UInt8),v17= .int .i64 (k:Int)/\k<=n/\Hid (Ck (m.take k)=some q)/\GR wr C w.heap.size q/\BI (I6 w.heap.size C) w1 wr) (fun v17 _=>n - (intOf v17).toNat)
 case atStart=>exact ⟨0,[],rfl,Nat.zero_le _,H0 rfl,hbd0,BI.refl _ _⟩
 case round=>
  clear hbd0;obtain ⟨k,q,rfl,hk,hq,hbld,hch⟩:=hrel;have hszc:=hch.size;have hql:=Iv hq.out;rw [List.length_take] at hql
  have hbel:Below w.heap.size w wr:=hbw1.trans (hch.below (by rw [hC.out];exact hs1) (fun k hk=>by unfold I6 at hk;omega))
  by_cases hlt:k<n
  ·have hI:(k:Int)<(n:Int):=by omega
   obtain ⟨g,o,rfl,hc⟩:=(hrow.out wr hch).cells (by omega)
   have hkl:k<m.length:=by rw [hn.out];exact hlt
   have ck:=hc k hkl;unfold F3 at ck;have hsn:=Nh (m.take k) m[k];rw [<-List.take_succ_eq_append_getElem hkl,hq.out] at hsn;dsimp only at hsn;have hx11:=hsle.out _ (List.getElem_mem hkl)
   have hnone:Hid (Ck (m.take (k+1))=none->Ck m=none):=H0 (fun e=>by
    have:=Uq (b:=m.drop (k+1)) e
    rwa [List.take_append_drop] at this)
   obtain ⟨x,hx⟩:=N2 (m[k]);rw [hx] at ck hsn hx11;replace hx:=H0 hx;replace hc:=H0 hc
   have hmp:=H0 (fun w=>YC x w hx11)
   have hm4:=Wz x;obtain ⟨mm,hmm⟩:=N2 (Fc x);rw [hmm] at hmp hsn hm4;replace hmm:=H0 hmm;obtain ⟨ml,mn⟩:=mm;dsimp only at hsn hm4
   by_cases h0:mn=0
   ·rw [if_pos h0] at hsn
    have hf:Hid (R=none):=H0 (by rw [hv.out,hnone.out hsn])
    subst h0;replace hsn:=H0 hsn;go_wp2_with fail;refine (hmp.out _).mono ?_;rintro e w2 ⟨t,rfl,ht,hb2⟩;go_wp2_with fail;go_ret2;exact Fm hf.out (hbel.trans (hb2.mono hbel.size))
   ·have hmn:((mn:Int)==0)=false:=by rw [beq_eq_false_iff_ne];omega
    rw [if_neg h0] at hsn;replace hsn:=H0 hsn;replace h0:=H0 h0;go_wp2_with fail;refine (hmp.out _).mono ?_;rintro e w2 ⟨t,rfl,ht,hb2⟩
    have htz:t.size<=4:=by rw [<-Aa,ht.out];exact hm4
    have hbl2:=hbld.keep hb2;have hs2:=hb2.size
    have hC2:C<=w2.heap.size:=by have:=hC.out;omega
    have hw:=H0 (S9 C w.heap.size q t w2 hbl2 (by omega) (by omega) hC2)
    go_wp2_with fail;refine hw.out.mono ?_;rintro e w3 ⟨rfl,hbl3,hch3⟩;have hch4:=(hch.trans (BI.of hb2)).trans hch3
    have hsn2:Hid (Ck (m.take (k+1))=some (q++t.toList)):=H0 (by rw [hsn.out,ht.out])
    go_wp2_with fail;go_roundw
    case rel=>exact ⟨k+1,q++t.toList,by go_num,by omega,hsn2,hbl3,hch4⟩
    case measure=>simp [intOf];omega
  ·have hI:(n:Int)<=(k:Int):=by omega
   have htk:m.take k=m:=List.take_of_length_le (by rw [hn.out];omega)
   rw [htk] at hq
   have hv2:Hid (R=(A0 (Ay 46 q)).map EZ):=H0 (by rw [hv.out,hq.out])
   have hbs:=H0 (Bf w.heap.size w.heap.size q wr (hbld.to (Nat.le_refl _) hs1) hbel.size);clear hrow hbld hch hszc;have hspl:=Ji q;obtain ⟨ls,hls⟩:=N2 (Ay 46 q);rw [hls] at hv2 hspl;replace hls:=H0 hls
   have hq96:q.length<=96000000:=by omega
   replace hql:=H0 hql;go_wp2_with fail;refine hbs.out.mono ?_;rintro e w2 ⟨told,rfl,htl,hb2⟩;have hbel2:=hbel.trans hb2
   have htz:told.size<=96000000:=by rw [<-Aa,htl.out];exact hq96
   have hsr:=H0 (S4 told w2 (hE'.out.next hbel2).ml (by omega))
   go_wp2_with fail;refine hsr.out.mono ?_;rintro e w3 ⟨l,rfl,hl,rfl⟩
   have hl2:l.map (·.toList)=ls:=by rw [hl.out,htl.out];exact hls.out
   have hn2:ls.length=l.length:=by rw [<-hl2,List.length_map]
   obtain ⟨n2,hn2e⟩:=N2 (l.length);rw [hn2e] at hn2;rw [hn2e]
   have hn2z:n2<=96000001:=by omega
   have hG0:=hbel2.size;have hhp:Hid ((w2.alloc (.cells (l.map Value.string).toArray 9)).heap[w2.heap.size]? =some (.cells (l.map Value.string).toArray 9 (0,0))):=H0 (heap_alloc_new w2 _);have hbel3:Below w.heap.size w (w2.alloc (.cells (l.map Value.string).toArray 9)):=hbel2.alloc hG0 _;obtain ⟨G,hG⟩:=N2 (w2.heap.size);rw [hG] at hhp hG0⊢;replace hG:=H0 hG;generalize (w2.alloc (.cells (l.map Value.string).toArray 9))=w3 at hhp hbel3⊢;replace hl2:=H0 hl2;replace hn2:=H0 hn2;replace hspl:=H0 hspl;clear hbs hsr hb2 hl;go_wp2_with fail
   go_loopw [35] (fun v35 wr=>∃ (k:Nat) (cur:List ByteArray) (q2:List (List UInt8)),v35= .int .i64 (k:Int)/\k<=n2/\cur.length=n2/\Hid (A0 (ls.take k)=some q2)/\Hid (cur.map (·.toList)=q2++ls.drop k)/\Hid (wr.heap[G]? =some (.cells (cur.map Value.string).toArray 9 (0,0)))/\Below w.heap.size w wr) (fun v35 _=>n2 - (intOf v35).toNat)
   case atStart=>exact ⟨0,l,[],rfl,Nat.zero_le _,hn2e,H0 rfl,H0 (by rw [hl2.out];rfl),hhp,hbel3⟩
   case round=>
    clear hhp hbel3 hn2e;obtain ⟨k,cur,q2,rfl,hk,hcl,hq2,hcur,hhp,hbel3⟩:=hrel;have hszr:=hbel3.size
    by_cases hlt2:k<n2
    ·have hI2:(k:Int)<(n2:Int):=by omega
     have hkl2:k<cur.length:=by omega
     have hkls:k<ls.length:=by rw [hn2.out];exact hlt2
     have hq2l:q2.length=k:=by
      have:=(HP hq2.out).1;rw [List.length_take] at this;omega
     have hdr:ls.drop k=ls[k] :: ls.drop (k+1):=List.drop_eq_getElem_cons hkls
     have hck:cur[k].toList=ls[k]:=by
      have h1:(cur.map (·.toList))[k]? =some cur[k].toList:=by rw [List.getElem?_map,List.getElem?_eq_getElem hkl2];rfl
      rw [hcur.out,List.getElem?_append_right (by omega),hq2l,Nat.sub_self,hdr] at h1
      rw [List.getElem?_cons_zero] at h1;exact (Option.some.inj h1).symm
     have cc:wr.cell? ⟨G,k,none⟩=some (.string cur[k]):=by rw [cell_of_row _ _ k _ _ _ hhp.out];exact MY cur k hkl2
     have hsz1:cur[k].size<=96000000:=by
      rw [<-Aa,hck];have:=Ad4 (List.getElem_mem hkls);have:=hspl.out.1;omega
     have hws:=KB (ls.take k) ls[k];rw [<-List.take_succ_eq_append_getElem hkls,hq2.out] at hws;dsimp only at hws
     have hnone:Hid (A0 (ls.take (k+1))=none->A0 ls=none):=H0 (fun e=>by
      have:=QX (b:=ls.drop (k+1)) e
      rwa [List.take_append_drop] at this)
     obtain ⟨t,ht⟩:=N2 (cur[k]);rw [ht] at hck cc hsz1;replace ht:=H0 ht;rw [<-hck] at hws;rw [<-hck] at hdr;replace hck:=H0 hck
     have hwr:=H0 (V2 t wr (by omega) (hE'.out.next hbel3).utf)
     have hGlt:G<wr.heap.size:=Cu hhp.out
     cases hwo:AW t.toList with
     | none=>
      rw [hwo] at hwr hws
      have hf:Hid (R=none):=H0 (by rw [hv2.out,hnone.out hws];rfl)
      replace hws:=H0 hws;replace hwo:=H0 hwo;replace hdr:=H0 hdr;replace hq2l:=H0 hq2l;go_wp2_with fail;refine hwr.out.mono ?_;rintro e w5 ⟨t2,rfl,ht2,hb5⟩;go_wp2_with fail;go_ret2;exact Fm hf.out (hbel3.trans (hb5.mono hszr))
     | some x=>
      rw [hwo] at hwr hws;replace hwo:=H0 hwo;replace hws:Hid (A0 (ls.take (k+1))=some (q2++[x])):=H0 hws;go_wp2_with fail;refine hwr.out.mono ?_;rintro e w5 ⟨t2,rfl,ht2,hb5⟩
      have hhp5:Hid (w5.heap[G]? =some (.cells (cur.map Value.string).toArray 9 (0,0))):=H0 (by rw [hb5.block G hGlt];exact hhp.out)
      have cc5:w5.cell? ⟨G,k,none⟩=some (.string t):=by rw [cell_of_row _ _ k _ _ _ hhp5.out];rw [<-ht.out];exact MY cur k hkl2
      have fr5:w5.frozen? ⟨G,k,none⟩=false:=Lib.frozen_of_heap hhp5.out k
      have hnew:Hid ((cur.set k t2).map (·.toList)=(q2++[x])++ls.drop (k+1)):=H0 (by
       rw [List.map_set,hcur.out,hdr,<-hq2l,Aer,ht2.out x rfl])
      have hhp6:Hid ((w5.setCell ⟨G,k,none⟩ (.string t2)).heap[G]? =some (.cells ((cur.set k t2).map Value.string).toArray 9 (0,0))):=H0 (by rw [A6 hhp5.out,X9])
      have hbel6:Below w.heap.size w (w5.setCell ⟨G,k,none⟩ (.string t2)):=(hbel3.trans (hb5.mono hszr)).setCell (p:=⟨G,k,none⟩) hG0 _;replace hdr:=H0 hdr;replace hq2l:=H0 hq2l;go_wp2_with fail;go_roundw
      case rel=>exact ⟨k+1,cur.set k t2,q2++[x],by go_num,by omega,by rw [List.length_set];exact hcl,hws,hnew,hhp6,hbel6⟩
      case measure=>simp [intOf];omega
    ·have hI2:(n2:Int)<=(k:Int):=by omega
     have hkn:k=n2:=by omega
     have htk2:ls.take k=ls:=List.take_of_length_le (by rw [hn2.out];omega)
     have hdk:ls.drop k=[]:=List.drop_of_length_le (by rw [hn2.out];omega)
     have hq3:=hq2.out;rw [htk2] at hq3;have hc3:=hcur.out;rw [hdk,List.append_nil] at hc3
     have hf:Hid (R=some (EZ q2)):=H0 (by rw [hv2.out,hq3];rfl)
     have hlen2:=HP hq3;have hjl:=Kc q2;have hsp:=hspl.out;rw [hn2.out] at hlen2
     have hjb:(EZ q2).length<=140737488355328:=by omega
     have hdat:cur.map (·.data.toList)=q2:=by
      rw [<-hc3]
      exact List.map_congr_left fun t _=>(ByteArray.toList_eq ..).symm
     have hjn:=Tryz.strings_Join G 0 n2 cur ⟨#[46]⟩ wr (fun j x hx=>by
      rw [Nat.zero_add,cell_of_row _ _ j _ _ _ hhp.out];rw [List.getElem?_eq_some_iff] at hx;obtain ⟨h1,rfl⟩:=hx
      exact MY cur j h1) (Cu hhp.out) (by omega) (by omega) (by rw [hdat,show (ByteArray.mk #[46]).data.toList=[46] from rfl,XA];exact hjb)
     rw [hdat,show (ByteArray.mk #[46]).data.toList=[46] from rfl,XA,hcl] at hjn;replace hjn:=H0 hjn;replace hjl:=H0 hjl;replace hlen2:=H0 hlen2;replace hdat:=H0 hdat;replace hc3:=H0 hc3;replace hq3:=H0 hq3;replace hsp:=H0 hsp;replace hkn:=H0 hkn;replace htk2:=H0 htk2;replace hdk:=H0 hdk;go_wp2_with fail;refine hjn.out.mono ?_;rintro e w6 ⟨rfl,hb6⟩;go_wp2_with fail;go_ret2;exact RK hf.out (toList_mk _) (hbel3.trans (hb6.mono hszr))
def Xd (e:Ending):Prop:=∃ pv,e= .panicked [{ v:= .iface 263 pv,recovered:=false }]
def Aag (k:IntKind) (w:World) (o:Option Nat) (e:Ending) (w':World):Prop:=(match o with | some v=>e= .returned (.int k (v:Int)) | none=>Xd e)/\w=w'
theorem EM {k:IntKind} {w:World} {o:Option Nat} {pv:Value} (h:o=none):Aag k w o (.panicked [{ v:= .iface 263 pv,recovered:=false }]) w:=by subst h;exact ⟨⟨pv,rfl⟩,rfl⟩
theorem Rw {k:IntKind} {w:World} {o:Option Nat} {v:Nat} {n:Int} (h:o=some v) (hn:n=(v:Int)):Aag k w o (.returned (.int k n)) w:=by subst h;subst hn;exact ⟨rfl,rfl⟩
theorem ZP (s:ByteArray) (w:World) (hs:s.size<=1099511627776):
  Calls Tryz.prog 346 #[.string s] w (Aag .u16 w (Ee s.toList)):=by
 have hlen:=Aa s;cases hem:s.toList.isEmpty
 ·have hd1:=H0 (Gz (base:=16) hem)
  by_cases h4:4<s.size
  ·have hno:Hid (Ee s.toList=none):=H0 (if_pos (by omega))
   have h4I:(4:Int)<(s.size:Int):=by omega
   replace hlen:=H0 hlen;go_enter Tryz.func346,Tryz.ntmps346;go_wp2_with fail;exact ⟨rfl,EM hno.out⟩
  ·have h4I:(s.size:Int)<=4:=by omega
   have hV:Hid (Ee s.toList=AE 16 0 s.toList):=H0 (by unfold Ee;rw [if_neg (by omega),hd1.out])
   replace hlen:=H0 hlen;go_enter Tryz.func346,Tryz.ntmps346;go_wp2_with fail
   go_loop [3,17] (fun nv iv=>∃ k acc:Nat,iv= .int .i64 k/\nv= .int .i64 acc/\k<=s.size/\acc<=65535/\Hid (acc<16 ^ k)/\Hid (AE 16 acc (s.toList.drop k)=AE 16 0 s.toList)) (fun _ i=>s.size - (intOf i).toNat)
   case atStart=>exact ⟨0,0,rfl,rfl,Nat.zero_le _,Nat.zero_le _,H0 (by decide),H0 (by rw [List.drop_zero])⟩
   case round=>
    obtain ⟨k,acc,rfl,rfl,hk,hacc,hpw,hg⟩:=hrel
    by_cases hlt:k<s.size
    ·have hdr:=Ao s k hlt
     have hltI:(k:Int)<(s.size:Int):=by omega
     rw [hdr] at hg;clear hdr
     by_cases hd:Ah (s[k].toNat:Int) 16<0
     ·have hno:Hid (Ee s.toList=none):=H0 (by rw [hV.out,<-hg.out,AE,if_pos (show Ah (s[k].toNat:Int) ((16:Nat):Int)<0 from hd)])
      go_wp2_with (go_at_call 155;refine (Bu _ _ _ (AC _) (AK _)).mono ?_;rintro e w' ⟨rfl,rfl⟩);exact ⟨rfl,EM hno.out⟩
     ·have hnew:Hid (AE 16 (acc * 16+(Ah (s[k].toNat:Int) ((16:Nat):Int)).toNat) (s.toList.drop (k+1))=AE 16 0 s.toList):=H0 (by rw [<-hg.out,AE,if_neg (show ¬ Ah (s[k].toNat:Int) ((16:Nat):Int)<0 from hd)])
      obtain ⟨d,hdd⟩:∃ d:Nat,Ah (s[k].toNat:Int) 16=(d:Int):=⟨(Ah (s[k].toNat:Int) 16).toNat,by omega⟩
      have hd15:d<=15:=by
       have:Ah (s[k].toNat:Int) 16<=15:=by unfold Ah;omega
       omega
      have hdig:=fun w=>Bu (s[k].toNat:Int) 16 w (AC _) (AK _)
      rw [hdd] at hdig hd;rw [show Ah (s[k].toNat:Int) ((16:Nat):Int)=(d:Int) from hdd,Int.toNat_natCast] at hnew;replace hdig:=H0 hdig;replace hdd:=H0 hdd
      have hpw2:Hid (acc * 16+d<16 ^ (k+1)):=H0 (by have:=hpw.out;rw [Nat.pow_succ];omega)
      have hle:acc * 16+d<=65535:=by
       have h1:=hpw2.out
       have h2:16 ^ (k+1)<=16 ^ 4:=Nat.pow_le_pow_right (by decide) (by omega)
       omega
      have e6:IntKind.i64.wrap ((acc:Int) * 16)=(acc:Int) * 16:=IntWalk.i64_in _ (by omega)
      have e7:IntKind.i64.wrap ((acc:Int) * 16+(d:Int))=(acc:Int) * 16+(d:Int):=IntWalk.i64_in _ (by omega)
      go_wp2_with (go_at_call 155;refine (hdig.out _).mono ?_;rintro e w' ⟨rfl,rfl⟩);go_round
      case rel=>exact ⟨k+1,acc * 16+d,by go_num,by go_num,by omega,hle,hpw2,hnew⟩
      case measure=>simp [intOf];omega
    ·have hfin:Hid (Ee s.toList=some acc):=H0 (by rw [hV.out,<-hg.out,AM s k (by omega)];rfl)
     have hgeI:(s.size:Int)<=(k:Int):=by omega
     have hu:IntKind.u16.wrap (acc:Int)=(acc:Int):=by simp [IntKind.wrap,IntKind.bits,IntKind.signed];omega
     clear hg;go_wp2_with fail;go_ret;exact Rw hfin.out rfl
 ·have hno:Hid (Ee s.toList=none):=H0 (by
   have:s.toList=[]:=by simpa using hem
   rw [this];rfl)
  replace hlen:=H0 hlen;go_enter Tryz.func346,Tryz.ntmps346;go_wp2_with fail;exact ⟨rfl,EM hno.out⟩
theorem UG (s:ByteArray) (w:World) (hs:s.size<=1099511627776):
  Calls Tryz.prog 356 #[.string s] w (Aag .i64 w (Cg s.toList)):=by
 have hlen:=Aa s
 match hL:s.toList with
 | []=>
  have hem:s.toList.isEmpty=true:=by rw [hL];rfl
  have hno:Hid (Cg []=none):=H0 rfl;replace hlen:=H0 hlen;replace hL:=H0 hL;go_enter Tryz.func356,Tryz.ntmps356;go_wp2_with fail;exact ⟨rfl,EM hno.out⟩
 | c :: r=>
  have hem:s.toList.isEmpty=false:=by rw [hL];rfl
  have hp:0<s.size:=by rw [<-hlen,hL];simp
  have hpI:(0:Int)<(s.size:Int):=by omega
  have hc:s[0]=c:=by
   have:=Ao s 0 hp;rw [List.drop_zero,hL] at this;exact (List.cons.inj this).1.symm
  rw [<-hL]
  by_cases h3:3<s.size
  ·have hno:Hid (Cg s.toList=none):=H0 (if_pos (.inl (by omega)))
   have h3I:(3:Int)<(s.size:Int):=by omega
   replace hlen:=H0 hlen;replace hL:=H0 hL;go_enter Tryz.func356,Tryz.ntmps356;go_wp2_with fail;exact ⟨rfl,EM hno.out⟩
  have h3I:(s.size:Int)<=3:=by omega
  by_cases h0:1<s.size/\c=48
  ·have hno:Hid (Cg s.toList=none):=H0 (if_pos (.inr ⟨by omega,by rw [hL,h0.2];rfl⟩))
   have h1I:(1:Int)<(s.size:Int):=by omega
   have hcI:((c.toNat:Int)==48)=true:=by rw [h0.2];rfl
   replace hlen:=H0 hlen;replace hL:=H0 hL;clear h0;go_enter Tryz.func356,Tryz.ntmps356;go_wp2_with fail;exact ⟨rfl,EM hno.out⟩
  have hd1:=Gz (base:=10) hem
  have hV:Hid (Cg s.toList=match AE 10 0 s.toList with | none=>none | some n=>if 255<n then none else some n):=H0 (by
   unfold Cg
   rw [if_neg (by
    rintro (h | ⟨h1,h2⟩)
    ·omega
    ·rw [hL] at h2;exact h0 ⟨by omega,Option.some.inj h2⟩),hd1]
   rfl)
  have hway:(s.size:Int)<=1\/((1:Int)<(s.size:Int)/\((c.toNat:Int)==48)=false):=by
   by_cases h1:1<s.size
   ·refine .inr ⟨by omega,?_⟩
    simp only [beq_eq_false_iff_ne,ne_eq]
    intro h;exact h0 ⟨h1,UInt8.toNat_inj.1 (by show c.toNat=48;omega)⟩
   ·exact .inl (by omega)
  replace hlen:=H0 hlen;replace hL:=H0 hL;replace hd1:=H0 hd1;clear h0
  rcases hway with g1 | ⟨g1,g2⟩
  all_goals
   go_enter Tryz.func356,Tryz.ntmps356;go_wp2_with fail
   go_loop [3,27] (fun nv iv=>∃ k acc:Nat,iv= .int .i64 k/\nv= .int .i64 acc/\k<=s.size/\acc<=999/\Hid (acc<10 ^ k)/\Hid (AE 10 acc (s.toList.drop k)=AE 10 0 s.toList)) (fun _ i=>s.size - (intOf i).toNat)
   case atStart=>exact ⟨0,0,rfl,rfl,Nat.zero_le _,Nat.zero_le _,H0 (by decide),H0 (by rw [List.drop_zero])⟩
   case round=>
    obtain ⟨k,acc,rfl,rfl,hk,hacc,hpw,hg⟩:=hrel
    by_cases hlt:k<s.size
    ·have hdr:=Ao s k hlt
     have hltI:(k:Int)<(s.size:Int):=by omega
     rw [hdr] at hg;clear hdr
     by_cases hd:Ah (s[k].toNat:Int) 10<0
     ·have hno:Hid (Cg s.toList=none):=H0 (by rw [hV.out,<-hg.out,AE,if_pos (show Ah (s[k].toNat:Int) ((10:Nat):Int)<0 from hd)])
      go_wp2_with (go_at_call 155;refine (Bu _ _ _ (AC _) (AK _)).mono ?_;rintro e w' ⟨rfl,rfl⟩);exact ⟨rfl,EM hno.out⟩
     ·have hnew:Hid (AE 10 (acc * 10+(Ah (s[k].toNat:Int) ((10:Nat):Int)).toNat) (s.toList.drop (k+1))=AE 10 0 s.toList):=H0 (by rw [<-hg.out,AE,if_neg (show ¬ Ah (s[k].toNat:Int) ((10:Nat):Int)<0 from hd)])
      obtain ⟨d,hdd⟩:∃ d:Nat,Ah (s[k].toNat:Int) 10=(d:Int):=⟨(Ah (s[k].toNat:Int) 10).toNat,by omega⟩
      have hd15:d<=9:=by
       have:Ah (s[k].toNat:Int) 10<=9:=by unfold Ah;omega
       omega
      have hdig:=fun w=>Bu (s[k].toNat:Int) 10 w (AC _) (AK _)
      rw [hdd] at hdig hd;rw [show Ah (s[k].toNat:Int) ((10:Nat):Int)=(d:Int) from hdd,Int.toNat_natCast] at hnew;replace hdig:=H0 hdig;replace hdd:=H0 hdd
      have hpw2:Hid (acc * 10+d<10 ^ (k+1)):=H0 (by have:=hpw.out;rw [Nat.pow_succ];omega)
      have hle:acc * 10+d<=999:=by
       have h1:=hpw2.out
       have h2:10 ^ (k+1)<=10 ^ 3:=Nat.pow_le_pow_right (by decide) (by omega)
       omega
      have e6:IntKind.i64.wrap ((acc:Int) * 10)=(acc:Int) * 10:=IntWalk.i64_in _ (by omega)
      have e7:IntKind.i64.wrap ((acc:Int) * 10+(d:Int))=(acc:Int) * 10+(d:Int):=IntWalk.i64_in _ (by omega)
      go_wp2_with (go_at_call 155;refine (hdig.out _).mono ?_;rintro e w' ⟨rfl,rfl⟩);go_round
      case rel=>exact ⟨k+1,acc * 10+d,by go_num,by go_num,by omega,hle,hpw2,hnew⟩
      case measure=>simp [intOf];omega
    ·have hgeI:(s.size:Int)<=(k:Int):=by omega
     have hfin:Hid (Cg s.toList=if 255<acc then none else some acc):=H0 (by rw [hV.out,<-hg.out,AM s k (by omega)];rfl)
     clear hg
     by_cases h255:255<acc
     ·have hno:Hid (Cg s.toList=none):=H0 (by rw [hfin.out,if_pos h255])
      have h255I:(255:Int)<(acc:Int):=by omega
      go_wp2_with fail;exact ⟨rfl,EM hno.out⟩
     ·have hyes:Hid (Cg s.toList=some acc):=H0 (by rw [hfin.out,if_neg h255])
      have h255I:(acc:Int)<=255:=by omega
      go_wp2_with fail;go_ret;exact Rw hyes.out rfl
theorem Po {l:List UInt8} {n:Nat} (h:Cg l=some n):n<=255:=by
 unfold Cg at h;split at h
 ·cases h
 ·split at h
  ·cases h
  ·split at h
   ·cases h
   ·have:=Option.some.inj h;omega
theorem SR (x:Nat) (h:x<4294967296):bits .and .i64 (x:Int) 65535=((x % 65536:Nat):Int):=by
 have:=bits_mask .i64 32 (by decide) (fun n h0 h1=>IntWalk.i64_in _ (by omega)) 16 (by decide) (x:Int) (by omega) (by omega)
 rw [show ((2:Int) ^ 16 - 1)=65535 by decide] at this
 rw [this];omega
def Nv (w:World) (o:Option Nat) (e:Ending) (w':World):Prop:=
 (match o with | some v=>e= .returned (.tuple #[.int .u16 ((v / 65536:Nat):Int),.int .u16 ((v % 65536:Nat):Int)]) | none=>Xd e)/\Below w.heap.size w w'
theorem AcU (s:ByteArray) (w:World) (hm:ML w) (hs:s.size<=1100000):
  Calls Tryz.prog 345 #[.string s] w (Nv w (GF s.toList)):=by
 go_enter Tryz.func345,Tryz.ntmps345;go_wp2_with fail
 go_loopw [0,4,9] (fun sv nv iv wr=>∃ (i acc:Nat) (t:ByteArray),iv= .int .i64 i/\nv= .int .i64 acc/\sv= .string t/\i<=4/\t.size<=s.size/\acc<=4294967295/\Hid (acc<256 ^ i)/\
  Hid (if i=4 then GF s.toList=some acc else GF s.toList=E0 (3 - i) acc t.toList)/\Below w.heap.size w wr) (fun _ _ iv _=>4 - (intOf iv).toNat)
 case atStart=>exact ⟨0,0,s,rfl,rfl,rfl,by decide,Nat.le_refl _,by decide,H0 (by decide),H0 rfl,Below.refl _ _⟩
 case round=>
  obtain ⟨i,acc,t,rfl,rfl,rfl,hi,htz,hacc,hpw,hg,hB⟩:=hrel
  by_cases h4:i<4
  ·have h4I:(i:Int)<4:=by omega
   have hg2:Hid (GF s.toList=E0 (3 - i) acc t.toList):=H0 (by have:=hg.out;rw [if_neg (by omega)] at this;exact this)
   clear hg
   have hct:=H0 (fun w hm=>Gd t 46 w hm (by omega))
   have hl:=Cc 46 t.toList;rw [Aa] at hl;go_wp2_with fail
   refine (hct.out _ (hm.next hB)).mono ?_
   rintro e w2 ⟨ta,tb,nd,rfl,h1,h2,rfl⟩;have hB2:=below_drewN hB nd
   have haz:ta.size<=s.size:=by rw [<-Aa,h1.out];omega
   have hbz:tb.size<=s.size:=by rw [<-Aa,h2.out];omega
   have hcase:((i<3/\3 - i=(2 - i)+1)/\(Af 46 t.toList).2.2=true)\/(i=3/\(Af 46 t.toList).2.2=false)\/(i<3/\(Af 46 t.toList).2.2=false)\/(i=3/\(Af 46 t.toList).2.2=true):=by
    cases (Af 46 t.toList).2.2<;>simp<;>omega
   have hdec:=H0 (fun w=>UG ta w (by omega))
   rw [h1.out] at hdec;generalize hmo:(Af 46 t.toList).2.2=mo at hcase⊢;replace hmo:=H0 hmo
   rcases hcase with ⟨⟨g1,g2⟩,rfl⟩ | ⟨rfl,rfl⟩ | ⟨g1,rfl⟩ | ⟨rfl,rfl⟩
   ·have g1I:(i:Int)<3:=by omega
    rw [g2] at hg2
    cases hv:Cg (Af 46 t.toList).1 with
    | none=>
     have hno:Hid (GF s.toList=none):=H0 (by rw [hg2.out,E0,if_pos hmo.out,hv])
     rw [hv] at hdec;replace hv:=H0 hv;go_wp2_with fail;refine (hdec.out _).mono ?_;rintro e w3 ⟨⟨pv,rfl⟩,rfl⟩;refine ⟨rfl,?_⟩;unfold Nv;rw [hno.out];exact ⟨⟨pv,rfl⟩,hB2⟩
    | some v=>
     have hv255:=Po hv
     have hacc2:acc * 256+v<256 ^ (i+1):=by have:=hpw.out;rw [Nat.pow_succ];omega
     have hpw4:256 ^ (i+1)<=256 ^ 4:=Nat.pow_le_pow_right (by decide) (by omega)
     have hle:acc * 256+v<=4294967295:=by omega
     have hnew:Hid (GF s.toList=E0 (3 - (i+1)) (acc * 256+v) tb.toList):=H0 (by
      rw [hg2.out,E0,if_pos hmo.out,hv,h2.out,show 3 - (i+1)=2 - i by omega])
     rw [hv] at hdec;replace hv:=H0 hv;replace hacc2:=H0 hacc2;clear hpw4;go_wp2_with fail;refine (hdec.out _).mono ?_;rintro e w3 ⟨rfl,rfl⟩;go_wp2_with fail;go_roundw
     case rel=>exact ⟨i+1,acc * 256+v,tb,by go_num,by go_num,rfl,by omega,hbz,hle,hacc2,H0 (by rw [if_neg (by omega)];exact hnew.out),hB2⟩
     case measure=>simp [intOf];omega
   ·rw [show 3 - 3=0 from rfl] at hg2
    cases hv:Cg (Af 46 t.toList).1 with
    | none=>
     have hno:Hid (GF s.toList=none):=H0 (by rw [hg2.out,E0,if_neg (by rw [hmo.out];decide),hv];rfl)
     rw [hv] at hdec;replace hv:=H0 hv;go_wp2_with fail;refine (hdec.out _).mono ?_;rintro e w3 ⟨⟨pv,rfl⟩,rfl⟩;refine ⟨rfl,?_⟩;unfold Nv;rw [hno.out];exact ⟨⟨pv,rfl⟩,hB2⟩
    | some v=>
     have hv255:=Po hv
     have hacc2:acc * 256+v<256 ^ (3+1):=by have:=hpw.out;rw [Nat.pow_succ];omega
     have hle:acc * 256+v<=4294967295:=by omega
     have hnew:Hid (GF s.toList=some (acc * 256+v)):=H0 (by
      rw [hg2.out,E0,if_neg (by rw [hmo.out];decide),hv];rfl)
     rw [hv] at hdec;replace hv:=H0 hv;replace hacc2:=H0 hacc2;go_wp2_with fail;refine (hdec.out _).mono ?_;rintro e w3 ⟨rfl,rfl⟩;go_wp2_with fail;go_roundw
     case rel=>exact ⟨4,acc * 256+v,tb,by go_num,by go_num,rfl,by omega,hbz,hle,hacc2,H0 (by rw [if_pos rfl];exact hnew.out),hB2⟩
     case measure=>simp [intOf]
   ·have g1I:(i:Int)<3:=by omega
    have hno:Hid (GF s.toList=none):=H0 (by rw [hg2.out,show 3 - i=(2 - i)+1 by omega,E0,if_neg (by rw [hmo.out];decide)])
    go_wp2_with fail;refine ⟨rfl,?_⟩;unfold Nv;rw [hno.out];exact ⟨⟨_,rfl⟩,hB2⟩
   ·have hno:Hid (GF s.toList=none):=H0 (by rw [hg2.out,show 3 - 3=0 from rfl,E0,if_pos hmo.out])
    go_wp2_with fail;refine ⟨rfl,?_⟩;unfold Nv;rw [hno.out];exact ⟨⟨_,rfl⟩,hB2⟩
  ·obtain rfl:i=4:=by omega
   have hfin:Hid (GF s.toList=some acc):=H0 (by have:=hg.out;rw [if_pos rfl] at this;exact this)
   have b1:=SR acc (by omega)
   have b2:IntKind.u16.wrap (((acc % 65536:Nat):Int))=((acc % 65536:Nat):Int):=by
    have:acc % 65536<65536:=Nat.mod_lt _ (by decide)
    simp [IntKind.wrap,IntKind.bits,IntKind.signed]
   have b3:Hid ((acc:Int) / 65536=((acc / 65536:Nat):Int)):=H0 (by omega)
   generalize hmd:acc % 65536=md at b1 b2;replace hmd:=H0 hmd;clear hg hpw;go_wp2_with fail;go_ret2;unfold Nv;rw [hfin.out];refine ⟨?_,hB⟩;show _=Ending.returned (.tuple #[.int .u16 ((acc / 65536:Nat):Int),.int .u16 ((acc % 65536:Nat):Int)]);rw [hmd.out,<-b3.out];rfl
theorem Xb (p q:Addr) (w:World):
  CallsD Tryz.prog 335 #[.pointer (some p),.pointer (some q)] .returning w fun e u' w'=>e= .returned (.tuple #[])/\u'= .returning/\w'=w:=by
 refine callsD_of_wpS Tryz.func335 rfl fun c₀ cs hu=> ?_
 apply wpS_seq;apply wpS_region;simp [wpOpsS,go_sem,recoverD,hu,Tryz.ntmps335,Exit.thenS]
 refine wpS_cond (t:=false) (by simp [Act.eval,Array.replicate]) ?_
 simp only [Bool.false_eq_true,if_false];refine wpS_of_wp (wp_skip ?_);cases c₀
 simp_all [bodyPostS,results,Tryz.results335]
theorem M8 {P:Program} {fn:Func} {c₀:Frame} {cs cs':List Frame} {R:Ending->FrameMode->World->Prop} {a:Act} {w:World} (u':FrameMode) (v:Value) (hd:a.defers=[]) (hcs:cs'={ c₀ with mode:=u' } :: cs)
  (hr:(results fn a.tmps).run P w= .ok v w) (hR:R (.returned v) u' w):bodyPostS P fn c₀ cs R .normal a cs' w:=⟨hd,u',hcs,v,hr,hR⟩
def C8:Array Value:= #[.int .u16 0,.int .u16 0,.int .u16 0,.int .u16 0,.int .u16 0,.int .u16 0,.int .u16 0,.int .u16 0]
theorem SZ {w:World} {g:Nat} {cs:Array Value} {t:TypeId} (hg:w.heap[g]? =some (.cells cs t)) (i:Nat) (v:Value):(w.setCell ⟨g,i,none⟩ v).heap[g]? =some (.cells (cs.setIfInBounds i v) t):=by
 simp only [World.setCell,Array.getElem?_modify,if_true,hg];rfl
theorem HF {w:World} {g k:Nat} (h:k≠g) (i:Nat) (v:Value):(w.setCell ⟨g,i,none⟩ v).heap[k]? =w.heap[k]? :=Below.heap_setCell w ⟨g,i,none⟩ v k h
theorem Oa (g g2 B:Nat) (pv:Value) (older:List PanicEntry) (w:World) (c:Array Value) (hc:c.size=8) (b:Value) (hg:w.heap[g]? =some (.cells c 30)) (hg2:w.heap[g2]? =some (.cells #[b] 4)) (hne:g≠g2) (hB1:B<=g) (hB2:B<=g2):
  CallsD Tryz.prog 335 #[.pointer (some ⟨g,0,none⟩),.pointer (some ⟨g2,0,none⟩)] (.panicking ({ v:= .iface 263 pv,recovered:=false } :: older)) w fun e u' w'=>
   e= .returned (.tuple #[])/\u'= .panicking ({ v:= .iface 263 pv,recovered:=true } :: older)/\
    w'.heap[g]? =some (.cells C8 30)/\w'.heap[g2]? =some (.cells #[.bool false] 4)/\Below B w w':=by
 have k2:(w.setRow g C8).heap[g2]? =some (.cells #[b] 4):=(setRow_other w g g2 C8 (Ne.symm hne)).trans hg2;have k1:(w.setRow g C8).heap[g]? =some (.cells C8 30):=setRow_heap w g c C8 _ (0,0) hg
 have y0:(w.setRow g C8).cell? ⟨g2,0,none⟩=some b:=by simp [World.cell?,k2]
 have f2:(w.setRow g C8).frozen? ⟨g2,0,none⟩=false:=by simp [World.frozen?,k2]
 have hbel:Below B w (w.setRow g C8):=Ae (Below.refl _ _) hB1 _
 refine callsD_of_wpS Tryz.func335 rfl fun c₀ cs hu=> ?_
 apply wpS_seq;apply wpS_region;simp [wpOpsS,go_sem,recoverD,hu,Tryz.ntmps335,Exit.thenS]
 refine wpS_cond (t:=true) (by simp [Act.eval,Array.replicate]) ?_
 simp only [if_true];refine wpS_of_wp ?_;replace hg:=H0 hg;replace hg2:=H0 hg2;replace k1:=H0 k1;replace k2:=H0 k2;replace hu:=H0 hu;simp only [Array.replicate,List.setIfInBounds_toArray]
 go_wp2_with (refine wpList_store_row rfl 30 _ _ rfl g C8 rfl rfl 30 c hg.out (by kernel_rfl) hc (by kernel_rfl) ?_)
 refine M8 _ (.tuple #[]) rfl rfl (by simp [results,Tryz.results335]) ⟨rfl,rfl,?_,?_,?_⟩
 ·rw [HF hne];exact k1.out
 ·exact SZ (cs:= #[b]) k2.out 0 (.bool false)
 ·exact hbel.setCell (p:=⟨g2,0,none⟩) hB2 _
end Go.Proofs.YtonomfeipkdmhaaGreatDoor
