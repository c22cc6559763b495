/- Part 18: lemmas. -/
import Derived.Test.YtonomfeipkdmhaaGreatDoorL16
set_option linter.unusedVariables false
set_option linter.unusedSimpArgs false
set_option maxRecDepth 100000
set_option maxHeartbeats 16000000
namespace Go.Proofs.YtonomfeipkdmhaaGreatDoor
open Go.RowKit
theorem W8 (p:UInt8->Bool):∀ l,(∀ q∈Cw p l,q.length<=l.length)/\(Cw p l).length<=l.length+1
 | []=>⟨fun q hq=>by rw [Cw,List.mem_singleton] at hq;subst hq;exact Nat.le_refl _,Nat.le_refl _⟩
 | c :: r=>by
  have ih:=W8 p r;rw [Cw];split
  ·refine ⟨fun q hq=> ?_,by simp only [List.length_cons];omega⟩
   rcases List.mem_cons.1 hq with rfl | hq
   ·simp
   ·have:=ih.1 q hq;simp only [List.length_cons];omega
  ·cases hs:Cw p r with
   | nil=>exact absurd hs (In p r)
   | cons a qs=>
    rw [hs] at ih
    refine ⟨fun q hq=> ?_,by have:=ih.2;simp only [List.length_cons] at this⊢;omega⟩
    rcases List.mem_cons.1 hq with rfl | hq
    ·have:=ih.1 a (List.mem_cons_self ..);simp only [List.length_cons];omega
    ·have:=ih.1 q (List.mem_cons_of_mem _ hq);simp only [List.length_cons];omega
theorem XQ:([⟨#[]⟩]:List ByteArray).map (·.toList)=[[]]:=by
 rw [List.map_cons,List.map_nil]
 exact congrArg (· :: []) (toList_mk [])
theorem Z2 {l:List UInt8} (h:Ce l=true):l.length=2:=by
 unfold Ce at h;split at h
 ·rfl
 ·cases h
theorem BB (sch:ByteArray) (pa:Option Addr) (n c:Nat) (l:List ByteArray) (s:ByteArray) (w:World) (hp:DO w pa n c l) (hn:n<=1000000) (hz:s.size<=1100000) (hl:∀ t∈l,t.size<=4294967296):
  Calls Tryz.prog 211 #[.string sch,.slice pa n c,.string s] w (OX (Dx sch.toList (l.map (·.toList)) s.toList) w):=by
 obtain ⟨R,hR⟩:∃ R,Dx sch.toList (l.map (·.toList)) s.toList=R:=⟨_,rfl⟩
 rw [hR];unfold Dx at hR;have hln:=hp.len;have hp':=H0 hp;clear hp;have hspc:=H0 (DW sch);obtain ⟨SP,hSP⟩:=N2 (Aj sch.toList);rw [hSP] at hspc hR;replace hSP:=H0 hSP
 have hspl:=H0 (fun w=>Vo s SP w Qa)
 have hpl:=W8 (AB SP) s.toList;obtain ⟨P,hP⟩:=N2 (Cw (AB SP) s.toList);rw [hP] at hspl hpl hR;replace hP:=H0 hP;replace hR:=H0 hR;rw [Aa] at hpl;obtain ⟨hpl1,hpl2⟩:=hpl;replace hpl1:=H0 hpl1;replace hl:=H0 hl;go_enter Tryz.func211,Tryz.ntmps211;go_wp2_with fail;refine (hspc.out _).mono ?_;rintro e w0 ⟨rfl,rfl⟩;go_wp2_with fail;refine (hspl.out _).mono ?_;rintro e w1 ⟨v1,ps,rfl,hps,hown1,hb1⟩;obtain ⟨a1,c1,rfl,hrd⟩:=hown1.read;have hrd1:Fv w1 (.slice a1 ps.length c1) ps:=⟨a1,c1,rfl,hrd⟩;have hs1:=hb1.size;have hcl:=H0 (Fy pa n c l w1 (hp'.out.below hb1 (Nat.le_refl _)) Qa);go_wp2_with fail;refine hcl.out.mono ?_;rintro e w2 ⟨v2,rfl,hown2,hb2⟩;obtain ⟨n2,hn2⟩:=N2 (ps.length)
 have hPl:P.length=n2:=by rw [<-hps.out,List.length_map,hn2]
 have hn2b:n2<=1100001:=Qa;rw [hn2] at hrd1⊢;replace hrd1:=H0 hrd1;clear hrd hown1 hcl;go_wp2_with fail
 go_loopw [8,20] (fun v8 v20 wr=>∃ (k:Nat) (out:List ByteArray),v20= .int .i64 (k:Int)/\k<=n2/\AH wr w1.heap.size 9 v8 out/\Below w1.heap.size w1 wr/\Hid (Dz sch.toList (out.map (·.toList)) (P.drop k)=R)/\out.length<=n+k/\Hid (∀ t∈out,t.size<=4294967296)) (fun _ v20 _=>n2 - (intOf v20).toNat)
 case atStart=>exact ⟨0,l,rfl,Nat.zero_le _,hown2,hb2,H0 (by rw [List.drop_zero];exact hR.out),Qa,hl⟩
 case round=>
  clear hown2 hb2;obtain ⟨k,out,rfl,hk,hown,hbel,hg,hol,hoz⟩:=hrel;have hszw:=hbel.size
  by_cases hlt:k<n2
  ·have hI:(k:Int)<(n2:Int):=Qa;have hkP:k<P.length:=Qa;have hkp:k<ps.length:=Qa;have hrd2:=hrd1.out.below hbel (Nat.le_refl _);obtain ⟨a2,c2,hve,hcell⟩:=hrd2;obtain ⟨g',o',e1,hcc⟩:=hcell Qa
   have e2:a1=a2:=by simpa using congrArg (fun v=>match v with | Value.slice a _ _=>a | _=>none) hve
   subst e2;subst e1;clear hve hcell;have ck:=hcc k hkp
   have hpk:ps[k].toList=P[k]:=by
    have h1:(ps.map (·.toList))[k]? =some ps[k].toList:=by rw [List.getElem?_map,List.getElem?_eq_getElem hkp];rfl
    rw [hps.out,List.getElem?_eq_getElem hkP] at h1;exact (Option.some.inj h1).symm
   have hgs:=hg.out;rw [AeT hkP,<-hpk] at hgs
   have htz:ps[k].size<=1100000:=by
    rw [<-Aa,hpk];have:=hpl1.out P[k] (List.getElem_mem hkP);omega
   obtain ⟨t,ht⟩:=N2 (ps[k]);rw [ht] at ck hgs htz;replace ht:=H0 ht;replace hpk:=H0 hpk;replace hcc:=H0 hcc
   have hLB:((k:Int)==(n2:Int) - 1)=decide (k+1=P.length):=by
    rw [hPl]
    by_cases h:k+1=n2
    ·rw [decide_eq_true h,beq_iff_eq];omega
    ·rw [decide_eq_false h,beq_eq_false_iff_ne];omega
   obtain ⟨LB,hLBe⟩:∃ b,decide (k+1=P.length)=b:=⟨_,rfl⟩;rw [hLBe] at hLB hgs;replace hLBe:=H0 hLBe
   have hdd:=H0 (fun w=>Af4 t w Qa)
   have hdo:=H0 (fun w=>Abd t w Qa)
   have hdr:=H0 (fun w=>Ky t w Qa)
   have hup:=H0 (fun v w own=>Aid sch v w1.heap.size out w own Qa hoz.out)
   have hen:=H0 (fun w=>D3 t 4 Qc w Qa)
   obtain ⟨a8,c8,rfl,_⟩:=hown.read;unfold CV at hgs
   have hdr2:=H0 (fun h=>Z2 (l:=t.toList) h)
   obtain ⟨D1,hD1⟩:∃ b,IZ t.toList=b:=⟨_,rfl⟩;obtain ⟨D2,hD2⟩:∃ b,Lp t.toList=b:=⟨_,rfl⟩;obtain ⟨V,hV⟩:∃ b,Ce t.toList=b:=⟨_,rfl⟩;rw [hD1] at hdd hgs;rw [hD2] at hdo hgs;rw [hV] at hdr hgs hdr2;replace hD1:=H0 hD1;replace hD2:=H0 hD2;replace hV:=H0 hV
   have hszp:∀ (x:ByteArray),x.size<=4294967296->∀ out':List ByteArray,(∀ t∈out',t.size<=4294967296)->∀ t∈out'++[x],t.size<=4294967296:=fun x hx out' h t ht=>by
    rcases List.mem_append.1 ht with ht | ht
    ·exact h t ht
    ·rw [List.mem_singleton.1 ht];exact hx
   replace hszp:=H0 hszp
   cases D1 with
   | true=>
    rw [if_pos rfl] at hgs;go_wp2_with fail;refine (hdd.out _).mono ?_;rintro e w3 ⟨rfl,hb3⟩;have hown3:AH w3 w1.heap.size 9 (.slice a8 out.length c8) out:=BC hown hb3 (Nat.le_refl _);have hbel3:=hbel.trans (hb3.mono hszw);have hs3:=hbel3.size;have hup3:=H0 (hup.out _ w3 hown3);go_wp2_with fail;refine hup3.out.mono ?_;rintro e w4 ⟨v',l',rfl,hul,hown4,hpre,rfl⟩
    have hll:l'.length<=out.length:=by
     rcases hpre.out with e | e
     ·rw [e];exact Nat.le_refl _
     ·rw [e,List.length_dropLast];omega
    have hlz:Hid (∀ t∈l',t.size<=4294967296):=H0 (fun t ht=>hoz.out t (by
     rcases hpre.out with e | e
     ·rw [e] at ht;exact ht
     ·rw [e] at ht;exact (List.dropLast_sublist out).subset ht))
    cases LB with
    | true=>
     have hf:Hid (Dz sch.toList ((l'++[⟨#[]⟩]:List ByteArray).map (·.toList)) (P.drop (k+1))=R):=H0 (by
      rw [<-hgs,if_pos rfl,List.map_append,hul.out,XQ])
     replace hgs:=H0 hgs;go_wp2_with (at_builtin;refine Ca Hc rfl _ _ rfl rfl rfl hown4 hbel3 hs3 Qm Qa ?_;intro v' w' ho' hb' _);go_roundw
     case rel=>exact ⟨k+1,l'++[⟨#[]⟩],Ql,Qa,ho',hb',hf,Qi,H0 (hszp.out ⟨#[]⟩ Qc l' hlz.out)⟩
     case measure=>simp [intOf];omega
    | false=>
     have hf:Hid (Dz sch.toList (l'.map (·.toList)) (P.drop (k+1))=R):=H0 (by
      rw [<-hgs,if_neg Qc,hul.out])
     replace hgs:=H0 hgs;go_wp2_with fail;go_roundw
     case rel=>exact ⟨k+1,l',Ql,Qa,hown4,hbel3,hf,Qa,hlz⟩
     case measure=>simp [intOf];omega
   | false=>
    rw [if_neg Qc] at hgs
    cases D2 with
    | true=>
     rw [if_pos rfl] at hgs;go_wp2_with fail;refine (hdd.out _).mono ?_;rintro e w3 ⟨rfl,hb3⟩;have hbel3:=hbel.trans (hb3.mono hszw);have hs3:=hbel3.size;have hown3:AH w3 w1.heap.size 9 (.slice a8 out.length c8) out:=BC hown hb3 (Nat.le_refl _);go_wp2_with fail;refine (hdo.out _).mono ?_;rintro e w4 ⟨rfl,hb4⟩;have hbel4:=hbel3.trans (hb4.mono hs3);have hs4:=hbel4.size;have hown4:AH w4 w1.heap.size 9 (.slice a8 out.length c8) out:=BC hown3 hb4 (Nat.le_refl _)
     cases LB with
     | true=>
      have hf:Hid (Dz sch.toList ((out++[⟨#[]⟩]:List ByteArray).map (·.toList)) (P.drop (k+1))=R):=H0 (by
       rw [<-hgs,if_pos rfl,List.map_append,XQ])
      replace hgs:=H0 hgs;go_wp2_with (at_builtin;refine Ca Hc rfl _ _ rfl rfl rfl hown4 hbel4 hs4 Qm Qa ?_;intro v' w' ho' hb' _);go_roundw
      case rel=>exact ⟨k+1,out++[⟨#[]⟩],Ql,Qa,ho',hb',hf,Qi,H0 (hszp.out ⟨#[]⟩ Qc out hoz.out)⟩
      case measure=>simp [intOf];omega
     | false=>
      have hf:Hid (Dz sch.toList (out.map (·.toList)) (P.drop (k+1))=R):=H0 (by
       rw [<-hgs,if_neg Qc])
      replace hgs:=H0 hgs;go_wp2_with fail;go_roundw
      case rel=>exact ⟨k+1,out,Ql,Qa,hown4,hbel4,hf,Qa,hoz⟩
      case measure=>simp [intOf];omega
    | false=>
     rw [if_neg Qc] at hgs;go_wp2_with fail;refine (hdd.out _).mono ?_;rintro e w3 ⟨rfl,hb3⟩;have hbel3:=hbel.trans (hb3.mono hszw);have hs3:=hbel3.size;have hown3:AH w3 w1.heap.size 9 (.slice a8 out.length c8) out:=BC hown hb3 (Nat.le_refl _);go_wp2_with fail;refine (hdo.out _).mono ?_;rintro e w4 ⟨rfl,hb4⟩;have hbel4:=hbel3.trans (hb4.mono hs3);have hs4:=hbel4.size;have hown4:AH w4 w1.heap.size 9 (.slice a8 out.length c8) out:=BC hown3 hb4 (Nat.le_refl _);obtain ⟨F,hF⟩:∃ b,(sch.toList==[102,105,108,101])=b:=⟨_,rfl⟩;have hF2:(sch.toList==Aw)=F:=hF;rw [hF2] at hgs;replace hF2:=H0 hF2
     cases F with
     | false=>
      have hf0:Dz sch.toList (out.map (·.toList)++[AZ 4 t.toList]) (P.drop (k+1))=R:=by
       rw [<-hgs,if_neg Qf]
      replace hgs:=H0 hgs;replace hf0:=H0 hf0;go_wp2_with (go_at_call 265;refine (hdr.out _).mono ?_;rintro e w' ⟨rfl,rfl⟩);refine (hen.out _).mono ?_;rintro e w5 ⟨t2,rfl,ht2,hb5⟩;have hbel5:=hbel4.trans (hb5.mono hs4);have hs5:=hbel5.size;have hown5:AH w5 w1.heap.size 9 (.slice a8 out.length c8) out:=BC hown4 hb5 (Nat.le_refl _)
      have htz2:t2.size<=4294967296:=by
       rw [<-Aa,ht2.out];have:=C8 4 t.toList;rw [Aa] at this;omega
      have hf:Hid (Dz sch.toList ((out++[t2]).map (·.toList)) (P.drop (k+1))=R):=H0 (by
       rw [<-hf0.out,List.map_append,<-ht2.out];rfl)
      go_wp2_with (at_builtin;refine Ca Hc rfl _ _ rfl rfl rfl hown5 hbel5 hs5 Qm Qa ?_;intro v' w' ho' hb' _);go_roundw
      case rel=>exact ⟨k+1,out++[t2],Ql,Qa,ho',hb',hf,Qi,H0 (hszp.out t2 htz2 out hoz.out)⟩
      case measure=>simp [intOf];omega
     | true=>
      by_cases hol0:out.length=0
      ·have hoe:out=[]:=List.eq_nil_of_length_eq_zero hol0;subst hoe;replace hol0:=H0 hol0
       cases V with
       | false=>
        have hf0:Dz sch.toList (([]:List ByteArray).map (·.toList)++[AZ 4 t.toList]) (P.drop (k+1))=R:=by
         rw [<-hgs,if_neg Qf]
        replace hgs:=H0 hgs;replace hf0:=H0 hf0;go_wp2_with (go_at_call 265;refine (hdr.out _).mono ?_;rintro e w' ⟨rfl,rfl⟩);refine (hen.out _).mono ?_;rintro e w5 ⟨t2,rfl,ht2,hb5⟩;have hbel5:=hbel4.trans (hb5.mono hs4);have hs5:=hbel5.size;have hown5:AH w5 w1.heap.size 9 (.slice a8 0 c8) []:=BC hown4 hb5 (Nat.le_refl _)
        have htz2:t2.size<=4294967296:=by
         rw [<-Aa,ht2.out];have:=C8 4 t.toList;rw [Aa] at this;omega
        have hf:Hid (Dz sch.toList ((([]:List ByteArray)++[t2]).map (·.toList)) (P.drop (k+1))=R):=H0 (by
         rw [<-hf0.out,List.map_append,<-ht2.out];rfl)
        go_wp2_with (at_builtin;refine Ca Hc rfl _ _ rfl rfl rfl hown5 hbel5 hs5 Qm Qa ?_;intro v' w' ho' hb' _);go_roundw
        case rel=>exact ⟨k+1,([]:List ByteArray)++[t2],Ql,Qa,ho',hb',hf,Qi,H0 (hszp.out t2 htz2 [] hoz.out)⟩
        case measure=>simp [intOf];omega
       | true=>
        have ht2z:t.size=2:=by rw [<-Aa];exact hdr2.out rfl
        have htI:(1:Int)<=(t.size:Int):=Qa;have hxz:(t.extract 0 1).size=1:=Qh
        have hf:Hid (Dz sch.toList (([]++[t.extract 0 1++⟨#[58]⟩]:List ByteArray).map (·.toList)) (P.drop (k+1))=R):=H0 (by
         rw [<-hgs,if_pos Qf];show Dz _ [(t.extract 0 1++⟨#[58]⟩).toList] _=_
         rw [toList_append,toList_extract,List.drop_zero,show (ByteArray.mk #[58]).toList=[58] from toList_mk [58]];rfl)
        replace hgs:=H0 hgs
        have hcz:(t.extract 0 1++⟨#[58]⟩:ByteArray).size<=4294967296:=by
         rw [ByteArray.size_append,hxz];decide
        go_wp2_with (first | (go_at_call 265;refine (hdr.out _).mono ?_;rintro e w' ⟨rfl,rfl⟩) | (at_builtin;refine Ca Hc rfl _ _ rfl rfl rfl hown4 hbel4 hs4 Qm Qa ?_;intro v' w' ho' hb' _))
        go_roundw
        case rel=>exact ⟨k+1,[]++[t.extract 0 1++⟨#[58]⟩],Ql,Qa,ho',hb',hf,Qi,H0 (hszp.out _ hcz [] (fun t h=>Qr))⟩
        case measure=>simp [intOf];omega
      ·have hoI:((out.length:Int)==0)=false:=Qg;have hoI2:¬ (out.length=0):=hol0
       have hie:(out.map (·.toList)).isEmpty=false:=by
        cases out with
        | nil=>exact absurd rfl hol0
        | cons a r=>rfl
       rw [hie] at hgs;replace hie:=H0 hie;replace hol0:=H0 hol0
       have hf0:Dz sch.toList (out.map (·.toList)++[AZ 4 t.toList]) (P.drop (k+1))=R:=by
        rw [<-hgs,if_neg Qf]
       replace hgs:=H0 hgs;replace hf0:=H0 hf0;go_wp2_with (go_at_call 265;refine (hdr.out _).mono ?_;rintro e w' ⟨rfl,rfl⟩);refine (hen.out _).mono ?_;rintro e w5 ⟨t2,rfl,ht2,hb5⟩;have hbel5:=hbel4.trans (hb5.mono hs4);have hs5:=hbel5.size;have hown5:AH w5 w1.heap.size 9 (.slice a8 out.length c8) out:=BC hown4 hb5 (Nat.le_refl _)
       have htz2:t2.size<=4294967296:=by
        rw [<-Aa,ht2.out];have:=C8 4 t.toList;rw [Aa] at this;omega
       have hf:Hid (Dz sch.toList ((out++[t2]).map (·.toList)) (P.drop (k+1))=R):=H0 (by
        rw [<-hf0.out,List.map_append,<-ht2.out];rfl)
       go_wp2_with (at_builtin;refine Ca Hc rfl _ _ rfl rfl rfl hown5 hbel5 hs5 Qm Qa ?_;intro v' w' ho' hb' _);go_roundw
       case rel=>exact ⟨k+1,out++[t2],Ql,Qa,ho',hb',hf,Qi,H0 (hszp.out t2 htz2 out hoz.out)⟩
       case measure=>simp [intOf];omega
  ·have hI:(n2:Int)<=(k:Int):=Qa
   have hf:Hid (out.map (·.toList)=R):=H0 (by rw [<-hg.out,List.drop_of_length_le Qa];rfl)
   go_wp2_with fail;go_ret;exact ⟨_,out,rfl,hf,DG hown hs1,hb1.trans (hbel.mono hs1)⟩
def AiS (R:Option (List UInt8 × List UInt8)) (s:List UInt8) (i:Int):Prop:=(i= -1/\R=none)\/∃ k:Nat,i=(k:Int)/\k<s.length/\R=some (s.take k,s.drop (k+1))
def AeX (s:List UInt8) (w:World) (e:Ending) (w':World):Prop:=∃ i:Int,e= .returned (.int .i64 i)/\Hid (AiS (BE false s) s i)/\w=w'
theorem Zp (b:Bool) (c:UInt8) (r:List UInt8):(((c.toNat:Int)==91)=true/\BE b (c :: r)=(BE true r).map (fun p=>(c :: p.1,p.2)))\/
  (((c.toNat:Int)==91)=false/\((c.toNat:Int)==93)=true/\BE b (c :: r)=(BE false r).map (fun p=>(c :: p.1,p.2)))\/
  (((c.toNat:Int)==91)=false/\((c.toNat:Int)==93)=false/\((c.toNat:Int)==58)=true/\b=false/\BE b (c :: r)=some ([],r))\/
  (((c.toNat:Int)==91)=false/\((c.toNat:Int)==93)=false/\((c.toNat:Int)==58)=true/\b=true/\BE b (c :: r)=(BE b r).map (fun p=>(c :: p.1,p.2)))\/
  (((c.toNat:Int)==91)=false/\((c.toNat:Int)==93)=false/\((c.toNat:Int)==58)=false/\BE b (c :: r)=(BE b r).map (fun p=>(c :: p.1,p.2))):=by
 have yes:∀ k:UInt8,c=k->((c.toNat:Int)==(k.toNat:Int))=true:=fun k h=>by subst h;simp
 have no:∀ k:UInt8,c≠k->((c.toNat:Int)==(k.toNat:Int))=false:=fun k h=>by rw [beq_eq_false_iff_ne];intro e;exact h (UInt8.toNat_inj.1 Qa)
 by_cases h1:c=91
 ·exact .inl ⟨yes 91 h1,by rw [BE,if_pos h1]⟩
 by_cases h2:c=93
 ·exact .inr (.inl ⟨no 91 h1,yes 93 h2,by rw [BE,if_neg h1,if_pos h2]⟩)
 by_cases h3:c=58
 ·cases b with
  | false=>exact .inr (.inr (.inl ⟨no 91 h1,no 93 h2,yes 58 h3,rfl,by rw [BE,if_neg h1,if_neg h2,if_pos ⟨h3,rfl⟩]⟩))
  | true=>exact .inr (.inr (.inr (.inl ⟨no 91 h1,no 93 h2,yes 58 h3,rfl,by rw [BE,if_neg h1,if_neg h2,if_neg Qf]⟩)))
 ·exact .inr (.inr (.inr (.inr ⟨no 91 h1,no 93 h2,no 58 h3,by rw [BE,if_neg h1,if_neg h2,if_neg (by simp [h3])]⟩)))
theorem Aev {R:Option (List UInt8 × List UInt8)} {s:ByteArray} {k:Nat} {b b':Bool} (hk:k<s.size) (h:R=(BE b (s.toList.drop k)).map (fun p=>(s.toList.take k++p.1,p.2)))
  (h2:BE b (s[k] :: s.toList.drop (k+1))=(BE b' (s.toList.drop (k+1))).map (fun p=>(s[k] :: p.1,p.2))):R=(BE b' (s.toList.drop (k+1))).map (fun p=>(s.toList.take (k+1)++p.1,p.2)):=by
 rw [h,As s k hk,h2,Option.map_map,Cx s k hk];congr 1
 funext p
 simp
theorem Ab7 (s:ByteArray) (w:World) (hz:s.size<=1000000000):Calls Tryz.prog 273 #[.string s] w (AeX s.toList w):=by
 unfold AeX;obtain ⟨R,hR⟩:=N2 (BE false s.toList);rw [hR];replace hR:=H0 hR;go_enter Tryz.func273,Tryz.ntmps273;go_wp2_with fail
 go_loop [3,4] (fun v3 v4=>∃ (k:Nat) (b:Bool),v3= .bool b/\v4= .int .i64 (k:Int)/\k<=s.size/\Hid (R=(BE b (s.toList.drop k)).map (fun p=>(s.toList.take k++p.1,p.2)))) (fun _ v4=>s.size - (intOf v4).toNat)
 case atStart=>exact ⟨0,false,rfl,rfl,Nat.zero_le _,H0 (by rw [List.drop_zero,List.take_zero,hR.out];cases R<;>rfl)⟩
 case round=>
  obtain ⟨k,b,rfl,rfl,hk,hg⟩:=hrel
  by_cases hlt:k<s.size
  ·have hI:(k:Int)<(s.size:Int):=Qa
   have hn:=H0 (fun b' h2=>Aev (b':=b') hlt hg.out h2)
   have hwy:=Zp b s[k] (s.toList.drop (k+1));have hc0:=AN s[k]
   rcases hwy with ⟨q1,h⟩ | ⟨q1,q2,h⟩ | ⟨q1,q2,q3,rfl,h⟩ | ⟨q1,q2,q3,rfl,h⟩ | ⟨q1,q2,q3,h⟩
   ·have hnew:=H0 (hn.out _ h);replace h:=H0 h;go_wp2_with fail;go_round
    case rel=>exact ⟨k+1,true,rfl,Ql,Qa,hnew⟩
    case measure=>simp [intOf];omega
   ·have hnew:=H0 (hn.out _ h);replace h:=H0 h;go_wp2_with fail;go_round
    case rel=>exact ⟨k+1,false,rfl,Ql,Qa,hnew⟩
    case measure=>simp [intOf];omega
   ·have hf:Hid (R=some (s.toList.take k,s.toList.drop (k+1))):=H0 (by
     rw [hg.out,As s k hlt,h];show some (s.toList.take k++[],_)=_
     rw [List.append_nil])
    replace h:=H0 h;go_wp2_with fail;go_ret
    exact ⟨_,rfl,H0 (.inr ⟨k,rfl,by rw [Aa];exact hlt,hf.out⟩),rfl⟩
   ·have hnew:=H0 (hn.out _ h);replace h:=H0 h;go_wp2_with fail;go_round
    case rel=>exact ⟨k+1,true,rfl,Ql,Qa,hnew⟩
    case measure=>simp [intOf];omega
   ·have hnew:=H0 (hn.out _ h);replace h:=H0 h;go_wp2_with fail;go_round
    case rel=>exact ⟨k+1,b,rfl,Ql,Qa,hnew⟩
    case measure=>simp [intOf];omega
  ·have hI:(s.size:Int)<=(k:Int):=Qa
   have hf:Hid (R=none):=H0 (by rw [hg.out,AL s k Qa];rfl)
   go_wp2_with fail;go_ret;exact ⟨-1,rfl,H0 (Or.inl (And.intro rfl hf.out)),rfl⟩
def Aa2 (o:Option (Option Nat)) (w:World) (e:Ending) (w':World):Prop:=e= .returned (.tuple #[.int .i64 (((o.getD none).getD 0:Nat):Int),.bool (o.getD none).isSome,.bool o.isSome])/\w=w'
theorem EG {o q:Option (Option Nat)} {w:World} {z:Int} {a b:Bool} (h:o=q) (h1:z=(((q.getD none).getD 0:Nat):Int)) (h2:a=(q.getD none).isSome) (h3:b=q.isSome):Aa2 o w (.returned (.tuple #[.int .i64 z,.bool a,.bool b])) w:=by subst h h1 h2 h3;exact ⟨rfl,rfl⟩
theorem Ae8 (scheme s:ByteArray) (w:World) (hz:s.size<=1000000000):Calls Tryz.prog 274 #[.string scheme,.string s] w (Aa2 (IX scheme.toList s.toList) w):=by
 obtain ⟨R,hR⟩:=N2 (IX scheme.toList s.toList);rw [hR];have hv:=hR.symm;unfold IX at hv;replace hR:=H0 hR
 by_cases hem:s.toList=[]
 ·have hf:Hid (R=some none):=H0 (hv.trans (if_pos hem))
  have hie:s.toList.isEmpty=true:=by rw [hem];rfl
  replace hv:=H0 hv;replace hem:=H0 hem;go_enter Tryz.func274,Tryz.ntmps274;go_wp2_with fail;go_ret3;exact EG hf.out rfl rfl rfl
 rw [if_neg hem] at hv
 have hie:s.toList.isEmpty=false:=by
  cases hs:s.toList with
  | nil=>exact absurd hs hem
  | cons a r=>rfl
 have hd1:=H0 (GT (base:=10) hie);replace hem:=H0 hem
 have hwh:=H0 (fun w=>Gx s w Qa)
 have hop:=H0 (fun w=>Ye scheme w)
 replace hv:=H0 hv;go_enter Tryz.func274,Tryz.ntmps274;go_wp2_with fail
 go_loop [7] (fun v7=>∃ k acc:Nat,v7= .int .i64 (k:Int)/\k<=s.size/\Hid (AC 10 acc (s.toList.drop k)=AC 10 0 s.toList)) (fun v7=>s.size - (intOf v7).toNat)
 case atStart=>exact ⟨0,0,rfl,Nat.zero_le _,H0 QP⟩
 case round=>
  obtain ⟨k,acc,rfl,hk,hg⟩:=hrel
  by_cases hlt:k<s.size
  ·have hI:(k:Int)<(s.size:Int):=Qa;have hgs:=hg.out;rw [As s k hlt,AC] at hgs
   have hdg:=H0 (fun w=>A8 (s[k].toNat:Int) 10 w (AN _) (AX _))
   have hdd:Ag (s[k].toNat:Int) ((10:Nat):Int)=Ag (s[k].toNat:Int) 10:=rfl;rw [hdd] at hgs;replace hdd:=H0 hdd;obtain ⟨z,hz⟩:∃ z,Ag (s[k].toNat:Int) 10=z:=⟨_,rfl⟩;rw [hz] at hgs hdg;replace hz:=H0 hz
   by_cases hneg:z<0
   ·rw [if_pos hneg] at hgs
    have hf:Hid (R=none):=H0 (by rw [hv.out,hd1.out,<-hgs])
    replace hgs:=H0 hgs;go_wp2_with (go_at_call 155;refine (hdg.out _).mono ?_;rintro e w' ⟨rfl,rfl⟩);go_ret3;exact EG hf.out rfl rfl rfl
   ·rw [if_neg hneg] at hgs;have hnew:=H0 hgs;have hz0:(0:Int)<=z:=Qa;clear hgs hneg;go_wp2_with (go_at_call 155;refine (hdg.out _).mono ?_;rintro e w' ⟨rfl,rfl⟩);go_round
    case rel=>exact ⟨k+1,_,Ql,Qa,hnew⟩
    case measure=>simp [intOf];omega
  ·have hI:(s.size:Int)<=(k:Int):=Qa;obtain ⟨O,hO⟩:=N2 (Bm 10 s.toList);have hv2:=hv.out;rw [hO] at hwh hv2;replace hO:=H0 hO;clear hd1
   cases O with
   | none=>
    have hf:Hid (R=none):=H0 hv2;replace hv2:=H0 hv2;go_wp2_with fail;refine (hwh.out _).mono ?_;rintro e w1 ⟨rfl,rfl⟩;go_wp2_with fail;go_ret3;exact EG hf.out rfl rfl rfl
   | some n=>
    dsimp only at hv2
    have hwh2:Hid (∀ w,Calls Tryz.prog 292 #[.string s] w (fun e w'=>e= .returned (.tuple #[.int .i64 ((min n Et:Nat):Int),.bool true])/\w=w')):=H0 hwh.out
    clear hwh
    by_cases hbig:65535<n
    ·have hf:Hid (R=none):=H0 (hv2.trans (if_pos hbig));obtain ⟨m,hm⟩:=N2 (min n Et)
     have hmI:(65535:Int)<(m:Int):=by rw [<-hm];unfold Et;omega
     rw [hm] at hwh2;replace hm:=H0 hm;replace hv2:=H0 hv2;replace hbig:=H0 hbig;go_wp2_with fail;refine (hwh2.out _).mono ?_;rintro e w1 ⟨rfl,rfl⟩;go_wp2_with fail;go_ret3;exact EG hf.out rfl rfl rfl
    ·have hmn:min n Et=n:=by unfold Et;omega
     have hnI:(n:Int)<=65535:=Qa;rw [hmn] at hwh2;replace hmn:=H0 hmn;rw [if_neg hbig] at hv2;replace hbig:=H0 hbig;obtain ⟨P,hP⟩:=N2 (Ii scheme.toList);rw [hP] at hv2 hop;replace hP:=H0 hP
     cases P with
     | none=>
      have hf:Hid (R=some (some n)):=H0 (hv2.trans (if_neg Qf));replace hv2:=H0 hv2;go_wp2_with fail;refine (hwh2.out _).mono ?_;rintro e w1 ⟨rfl,rfl⟩;go_wp2_with fail;refine (hop.out _).mono ?_;rintro e w1 ⟨rfl,rfl⟩;go_wp2_with fail;go_ret3;exact EG hf.out rfl rfl rfl
     | some p=>
      have hop2:Hid (∀ w,Calls Tryz.prog 309 #[.string scheme] w (fun e w'=>e= .returned (.tuple #[.int .i64 (p:Int),.bool true])/\w=w')):=H0 hop.out
      clear hop
      by_cases hpn:p=n
      ·subst hpn;have hf:Hid (R=some none):=H0 (hv2.trans (if_pos rfl));replace hv2:=H0 hv2;go_wp2_with fail;refine (hwh2.out _).mono ?_;rintro e w1 ⟨rfl,rfl⟩;go_wp2_with fail;refine (hop2.out _).mono ?_;rintro e w1 ⟨rfl,rfl⟩;go_wp2_with fail;go_ret3;exact EG hf.out rfl rfl rfl
      ·have hf:Hid (R=some (some n)):=H0 (hv2.trans (if_neg (by simpa using hpn)))
       have hpI:((p:Int)==(n:Int))=false:=Qg;replace hv2:=H0 hv2;replace hpn:=H0 hpn;go_wp2_with fail;refine (hwh2.out _).mono ?_;rintro e w1 ⟨rfl,rfl⟩;go_wp2_with fail;refine (hop2.out _).mono ?_;rintro e w1 ⟨rfl,rfl⟩;go_wp2_with fail;go_ret3;exact EG hf.out rfl rfl rfl
theorem U9 {n:List UInt8} {t:ByteArray} (h:t.toList=n):An (.opaqueN n)=⟨5,t,0,z8⟩:=by rw [Mx h];rfl
theorem KT (s:ByteArray) (sp:Bool) (w:World) (hE:Gu w) (hz:s.size<=1100000):Calls Tryz.prog 266 #[.string s,.bool sp] w (Kq (D6 s.toList sp) w):=by
 obtain ⟨R,hR⟩:=N2 (D6 s.toList sp);rw [hR];have hv:=hR.symm;unfold D6 at hv;replace hR:=H0 hR
 have hhp:=H0 (fun w=>Tryz.strings_HasPrefix s ⟨#[91]⟩ w)
 rw [show s.data.toList=s.toList from (ByteArray.toList_eq ..).symm,show (ByteArray.mk #[91]).data.toList=[91] from rfl] at hhp;have hE':=H0 hE;clear hE;have hb0:Below w.heap.size w (w.alloc (.cells (Aq (An .none)) 32)):=(Below.refl _ _).alloc (Nat.le_refl _) _;have hh0:(w.alloc (.cells (Aq (An .none)) 32)).heap[w.heap.size]? =some (.cells (Aq (An .none)) 32 (0,0)):=heap_alloc_new w _;obtain ⟨w0,hw0⟩:∃ w0,w.alloc (.cells (Aq (An .none)) 32)=w0:=⟨_,rfl⟩;rw [hw0] at hb0 hh0;have hw0':w.alloc (.cells #[.int .i64 0,.string ⟨#[]⟩,.int .u32 0,.int .u16 0,.int .u16 0,.int .u16 0,.int .u16 0,.int .u16 0,.int .u16 0,.int .u16 0,.int .u16 0] 32)=w0:=hw0;replace hw0:=H0 hw0;have hs0:=hb0.size;have hlt0:=CH hh0;replace hh0:=H0 hh0;obtain ⟨P,hP⟩:=N2 (Lib.hasPrefix s.toList [91]);rw [hP] at hv hhp
 cases P with
 | true=>
  replace hv:Hid (R=UM (s.toList.drop 1)):=H0 (hv.trans (if_pos rfl))
  have h1:1<=s.size:=by
   rw [Dk,beq_iff_eq] at hP;have:=Aa s
   cases hs:s.toList with
   | nil=>rw [hs] at hP;cases hP
   | cons a r=>rw [hs] at this;simp at this;omega
  have h1I:(1:Int)<=(s.size:Int):=Qa;replace hP:=H0 hP;have hC:Hid ((s.extract 1 s.size).toList=s.toList.drop 1):=H0 Qq;have hCz:(s.extract 1 s.size).size<=1100000:=Qh
  have hbr:=Sx (s.extract 1 s.size) w0 (hE'.out.next hb0).ml hCz
  rw [hC.out,<-hv.out] at hbr;replace hbr:=H0 hbr;go_enter Tryz.func266,Tryz.ntmps266;go_wp2_with fail;refine (hhp.out _).mono ?_;rintro e w1 ⟨rfl,hw⟩;obtain rfl:=hw.symm;clear hw0';go_wp2_with fail;refine hbr.out.mono ?_;rintro e w2 ⟨rfl,hb2⟩;have hbel2:=hb0.trans (hb2.mono hs0);have hh2:Hid (w2.heap[w.heap.size]? =some (.cells (Aq (An .none)) 32 (0,0))):=H0 ((hb2.block _ hlt0).trans hh0.out);go_wp2_with (refine wpList_store_row rfl 32 _ _ rfl w.heap.size (Aq (An (R.getD .none))) rfl rfl 32 _ hh2.out AP rfl (A1 _) ?_);refine Cl rfl rfl rfl rfl (B7 hh2.out) ?_;exact ⟨rfl,Ae hbel2 (Nat.le_refl _) _⟩
 | false=>
  rw [if_neg Qc] at hv;replace hP:=H0 hP
  cases sp with
  | true=>
   replace hv:Hid (R=KK s.toList):=H0 (hv.trans (if_pos rfl))
   have hbr:=Sw s w0 (hE'.out.next hb0) hz
   rw [<-hv.out] at hbr;replace hbr:=H0 hbr;go_enter Tryz.func266,Tryz.ntmps266;go_wp2_with fail;refine (hhp.out _).mono ?_;rintro e w1 ⟨rfl,hw⟩;obtain rfl:=hw.symm;clear hw0';go_wp2_with fail;refine hbr.out.mono ?_;rintro e w2 ⟨rfl,hb2⟩;have hbel2:=hb0.trans (hb2.mono hs0);have hh2:Hid (w2.heap[w.heap.size]? =some (.cells (Aq (An .none)) 32 (0,0))):=H0 ((hb2.block _ hlt0).trans hh0.out);go_wp2_with (refine wpList_store_row rfl 32 _ _ rfl w.heap.size (Aq (An (R.getD .none))) rfl rfl 32 _ hh2.out AP rfl (A1 _) ?_);refine Cl rfl rfl rfl rfl (B7 hh2.out) ?_;exact ⟨rfl,Ae hbel2 (Nat.le_refl _) _⟩
  | false=>
   have hv2:R=if s.toList.isEmpty=true then some .empty else if s.toList.any EV=true then none else some (.opaqueN (AZ 0 s.toList)):=hv.trans (if_neg Qc)
   clear hv;obtain ⟨em,hem⟩:∃ b,s.toList.isEmpty=b:=⟨_,rfl⟩;rw [hem] at hv2
   cases em with
   | true=>
    have hf:Hid (R=some .empty):=H0 (hv2.trans (if_pos rfl));replace hv2:=H0 hv2;go_enter Tryz.func266,Tryz.ntmps266;go_wp2_with fail;refine (hhp.out _).mono ?_;rintro e w1 ⟨rfl,hw⟩;obtain rfl:=hw.symm;clear hw0';go_wp2_with (refine wpList_store_row rfl 32 _ _ rfl w.heap.size (Aq (An .empty)) rfl rfl 32 _ hh0.out AP rfl (A1 _) ?_);refine Cl rfl rfl rfl rfl (B7 hh0.out) ?_;exact Fi hf.out (Ae hb0 (Nat.le_refl _) _)
   | false=>
    rw [if_neg Qc] at hv2;replace hv2:=H0 hv2;go_enter Tryz.func266,Tryz.ntmps266;go_wp2_with fail;refine (hhp.out _).mono ?_;rintro e w1 ⟨rfl,hw⟩;obtain rfl:=hw.symm;clear hw0';go_wp2_with fail
    go_loop [6,24] (fun _ v24=>∃ k:Nat,v24= .int .i64 (k:Int)/\k<=s.size/\Hid (s.toList.any EV=(s.toList.drop k).any EV)) (fun _ v24=>s.size - (intOf v24).toNat)
    case atStart=>exact ⟨0,rfl,Nat.zero_le _,H0 QP⟩
    case round=>
     obtain ⟨k,rfl,hk,hg⟩:=hrel
     by_cases hlt:k<s.size
     ·have hI:(k:Int)<(s.size:Int):=Qa;have hgs:=hg.out;rw [As s k hlt,List.any_cons] at hgs;have hbd:=H0 (Abs s[k]);obtain ⟨B,hB⟩:=N2 (EV s[k]);rw [hB] at hbd hgs;replace hB:=H0 hB;replace hgs:=H0 hgs
      cases B with
      | false=>
       have hnew:Hid (s.toList.any EV=(s.toList.drop (k+1)).any EV):=H0 (by rw [hgs.out,Bool.false_or])
       go_wp2_with (go_at_call 305;refine (hbd.out _).mono ?_;rintro e w' ⟨rfl,rfl⟩);go_round
       case rel=>exact ⟨k+1,Ql,Qa,hnew⟩
       case measure=>simp [intOf];omega
      | true=>
       have hf:Hid (R=none):=H0 (by rw [hv2.out,hgs.out];rfl)
       go_wp2_with (first
        | (go_at_call 305;refine (hbd.out _).mono ?_;rintro e w' ⟨rfl,rfl⟩)
        | (refine wpList_store_row rfl 32 _ _ rfl w.heap.size (Aq (An .none)) rfl rfl 32 _ hh0.out AP rfl (A1 _) ?_))
       refine Cl rfl rfl rfl rfl (B7 hh0.out) ?_;exact Dw hf.out (Ae hb0 (Nat.le_refl _) _)
     ·have hI:(s.size:Int)<=(k:Int):=Qa
      have hf:Hid (R=some (.opaqueN (AZ 0 s.toList))):=H0 (by
       rw [hv2.out,hg.out,AL s k Qa]
       show (if false=true then _ else _)=_
       rw [if_neg Qc])
      have hen:=H0 (D3 s 0 Qc w0 Qa);go_wp2_with fail;refine hen.out.mono ?_;rintro e w2 ⟨t,rfl,ht,hb2⟩;have hbel2:=hb0.trans (hb2.mono hs0);have hh2:Hid (w2.heap[w.heap.size]? =some (.cells (Aq (An .none)) 32 (0,0))):=H0 ((hb2.block _ hlt0).trans hh0.out);go_wp2_with (refine wpList_store_row rfl 32 _ _ rfl w.heap.size (Aq ⟨5,t,0,z8⟩) rfl rfl 32 _ hh2.out AP rfl (A1 _) ?_);refine Cl rfl rfl rfl rfl (B7 hh2.out) ?_;rw [<-U9 ht.out];exact Fi hf.out (Ae hbel2 (Nat.le_refl _) _)
theorem AcR {o:Option BO} {w w':World} {e:Ending} (h:Kq o w e w'):∃ H:Dd,Hid (H=An (o.getD .none))/\e= .returned (.tuple #[.agg (Aq H),.bool o.isSome])/\Below w.heap.size w w':=⟨_,H0 rfl,h.1,h.2⟩
def Bp (us ps:ByteArray) (h:Dd) (hp:Bool) (p:Int):Array Value:= #[.string us,.string ps,.int .i64 h.kind,.string h.name,.int .u32 (h.four:Int),.int .u16 ((pc h.six 0:Nat):Int),.int .u16 ((pc h.six 1:Nat):Int),.int .u16 ((pc h.six 2:Nat):Int),.int .u16 ((pc h.six 3:Nat):Int),.int .u16 ((pc h.six 4:Nat):Int),.int .u16 ((pc h.six 5:Nat):Int),.int .u16 ((pc h.six 6:Nat):Int),.int .u16 ((pc h.six 7:Nat):Int),.bool hp,.int .i64 p]
def Abc:FW:=⟨[],[],.none,none⟩
def I0 (o:Option Nat):Int:=((o.getD 0:Nat):Int)
def Oc (us ps:ByteArray) (a:FW):Array Value:=Bp us ps (An a.host) a.port.isSome (I0 a.port)
def US (o:Option FW) (w:World) (e:Ending) (w':World):Prop:=∃ us ps:ByteArray,e= .returned (.tuple #[.agg (Oc us ps (o.getD Abc)),.bool o.isSome])/\Hid (us.toList=(o.getD Abc).user)/\Hid (ps.toList=(o.getD Abc).pass)/\Below w.heap.size w w'
def CQ:Array Value:=Bp ⟨#[]⟩ ⟨#[]⟩ (An .none) false 0
theorem R5:(Tryz.prog.info? 9).map (·.size)=some 1:=Qb
theorem Tr:(Tryz.prog.info? 4).map (·.size)=some 1:=Qb
theorem Xy:(Tryz.prog.info? 3).map (·.size)=some 1:=Qb
theorem De (us ps:ByteArray) (h:Dd) (hp:Bool) (p:Int):(Tryz.prog.info? 141).map (·.size)=some (Bp us ps h hp p).size:=by show _=some 15;kernel_rfl
theorem FB (us ps:ByteArray) (h:Dd) (hp:Bool) (p:Int):(Bp us ps h hp p).all (·.oneCell')=true:=Qb
theorem JW {f:Func} {R:Ending->World->Prop} {a:Act} {w:World} {g:Nat} {c:Array Value} {b:Bool} {p u:Nat} (hf:f.results= #[.cell p 141,.tmp u]) (h2:a.tmps.getD p undef= .pointer (some ⟨g,0,none⟩)) (h3:a.tmps.getD u undef= .bool b) (hd:a.defers=[])
  (hg:AG w g c 141) (hi:(Tryz.prog.info? 141).map (·.size)=some c.size) (hR:R (.returned (.tuple #[.agg c,.bool b])) w):
  bodyPost Tryz.prog f R .ret a w:=by
 refine bodyPost_ret (v:= .tuple #[.agg c,.bool b]) ?_ hd hR;rw [results_cell_tmp hf,h2,h3];simp [asAddr,Result.andThen,run_loadVar_row (P:=Tryz.prog) w g _ 141 _ _ _ hg Tryz.underlying141 rfl hi]
theorem Gp {o:Option FW} {w w':World} (h:o=none) (hb:Below w.heap.size w w'):US o w (.returned (.tuple #[.agg CQ,.bool false])) w':=by subst h;exact ⟨_,_,rfl,H0 (toList_mk []),H0 (toList_mk []),hb⟩
theorem VD {o:Option FW} {us ps:ByteArray} {h:BO} {q:Option Nat} {w w':World} (e:o=some ⟨us.toList,ps.toList,h,q⟩) (hb:Below w.heap.size w w'):US o w (.returned (.tuple #[.agg (Bp us ps (An h) q.isSome (I0 q)),.bool true])) w':=by subst e;exact ⟨us,ps,rfl,H0 rfl,H0 rfl,hb⟩
def NL (sch us ps n p:List UInt8):Option FW:=match D6 n (Aj sch) with
 | none=>none
 | some h=>match IX sch p with
  | none=>none
  | some q=>some ⟨us,ps,h,q⟩
theorem Z8 {sch us ps s:List UInt8} (h:BE false s=none):Fa sch us ps s=NL sch us ps s []:=by
 unfold Fa FJ;rw [h];rfl
theorem ZX {sch us ps s n p:List UInt8} (h:BE false s=some (n,p)):Fa sch us ps s=if n=[] then none else NL sch us ps n p:=by
 unfold Fa FJ;rw [h];dsimp only
 by_cases hn:n=[]
 ·rw [if_pos hn,if_pos hn]
 ·rw [if_neg hn,if_neg hn];rfl
theorem Zj {sch s:List UInt8} (h:CP 64 s=none):GG sch s=Fa sch [] [] s:=by unfold GG;rw [h]
theorem AaD {sch s a b:List UInt8} (h:CP 64 s=some (a,b)):GG sch s=if b=[] then none else Fa sch (AZ 5 (Ak 58 a).1) (AZ 5 (Ak 58 a).2.1) b:=by unfold GG;rw [h]
theorem SL (sch s:ByteArray) (w:World) (hE:Gu w) (hz:s.size<=1100000):Calls Tryz.prog 216 #[.string sch,.string s] w (US (GG sch.toList s.toList) w):=by
 obtain ⟨R,hR⟩:=N2 (GG sch.toList s.toList);rw [hR]
 have hli:=fun w=>Tryz.strings_LastIndexByte s 64 Qa w
 have hcut:=KQ s 64;rw [show (((64:UInt8).toNat:Nat):Int)=64 from rfl] at hcut;obtain ⟨z,hzv⟩:=N2 (Lib.lastIndexByte s 64);rw [hzv] at hli hcut
 have hway:(z= -1/\Hid (R=Fa sch.toList [] [] s.toList))\/∃ i:Nat,z=(i:Int)/\i<s.size/\Hid (R=if s.toList.drop (i+1)=[] then none else Fa sch.toList (AZ 5 (Ak 58 (s.toList.take i)).1) (AZ 5 (Ak 58 (s.toList.take i)).2.1) (s.toList.drop (i+1))):=by
  rcases hcut with ⟨h1,h2⟩ | ⟨i,hi,h1,h2⟩
  ·exact .inl ⟨h1,H0 (by rw [<-hR,Zj h2])⟩
  ·exact .inr ⟨i,h1,hi,H0 (by rw [<-hR,AaD h2])⟩
 clear hcut;replace hR:=H0 hR;replace hzv:=H0 hzv;replace hli:=H0 hli;have hE':=H0 hE;clear hE
 have hsp:=H0 (fun w=>DW sch w)
 have hA0:AG (w.alloc (.cells CQ 141)) w.heap.size CQ 141:=AG.new _ _ _;have hb0:Below w.heap.size w (w.alloc (.cells CQ 141)):=(Below.refl _ _).alloc (Nat.le_refl _) _;have hs0:(w.alloc (.cells CQ 141)).heap.size=w.heap.size+1:=Ai _ _;obtain ⟨w0,hw0⟩:∃ w0,w.alloc (.cells CQ 141)=w0:=⟨_,rfl⟩;rw [hw0] at hA0 hb0 hs0;have hw0':w.alloc (.cells #[.string ⟨#[]⟩,.string ⟨#[]⟩,.int .i64 0,.string ⟨#[]⟩,.int .u32 0,.int .u16 0,.int .u16 0,.int .u16 0,.int .u16 0,.int .u16 0,.int .u16 0,.int .u16 0,.int .u16 0,.bool false,.int .i64 0] 141)=w0:=hw0;replace hw0:=H0 hw0;have hA1:AG (w0.alloc (.cells CQ 141)) w.heap.size CQ 141:=hA0.alloc _;have hB1:AG (w0.alloc (.cells CQ 141)) w0.heap.size CQ 141:=AG.new _ _ _;have hb1:Below w.heap.size w (w0.alloc (.cells CQ 141)):=hb0.alloc Qa _;obtain ⟨w1,hw1⟩:∃ w1,w0.alloc (.cells CQ 141)=w1:=⟨_,rfl⟩;rw [hw1] at hA1 hB1 hb1;have hw1':w0.alloc (.cells #[.string ⟨#[]⟩,.string ⟨#[]⟩,.int .i64 0,.string ⟨#[]⟩,.int .u32 0,.int .u16 0,.int .u16 0,.int .u16 0,.int .u16 0,.int .u16 0,.int .u16 0,.int .u16 0,.int .u16 0,.bool false,.int .i64 0] 141)=w1:=hw1;replace hw1:=H0 hw1;obtain ⟨g,hg⟩:=N2 (w0.heap.size);rw [hg] at hB1 hs0;have hgw:w.heap.size<=g:=Qa;have hne:w.heap.size≠g:=Qa;replace hne:=H0 hne;replace hgw:=H0 hgw;replace hA1:=H0 hA1;replace hB1:=H0 hB1;replace hb1:=H0 hb1;clear hA0 hb0 hs0;go_enter Tryz.func216,Tryz.ntmps216;go_wp2_with fail;refine (hli.out _).mono ?_;rintro e w' ⟨rfl,hw⟩;obtain rfl:=hw.symm;clear hw0' hw1' hg
 go_upto_if 19 with (fail)
 go_cut [1] (fun s1 wx=>∃ r us ps:ByteArray,s1= .string r/\r.size<=1100000/\Hid (R=Fa sch.toList us.toList ps.toList r.toList)/\Hid (AG wx w.heap.size CQ 141)/\Hid (AG wx g (Bp us ps (An .none) false 0) 141)/\Hid (Below w.heap.size w wx))
 case first=>
  rcases hway with ⟨rfl,hres⟩ | ⟨i,rfl,hi,hres⟩
  ·go_wp2_with fail;go_meet
   exact ⟨s,⟨#[]⟩,⟨#[]⟩,rfl,hz,H0 (by rw [hres.out,show (⟨#[]⟩:ByteArray).toList=[] from toList_mk []]),hA1,hB1,hb1⟩
  ·have hiI:(i:Int)<=(s.size:Int):=Qa;have hi1:(i:Int)+1<=(s.size:Int):=Qa;have hx1:(s.extract 0 i).size<=1100000:=Qh
   have hxl:Hid ((s.extract 0 i).toList=s.toList.take i):=H0 (by rw [toList_extract,List.drop_zero])
   have hyl:Hid ((s.extract (i+1) s.size).toList=s.toList.drop (i+1)):=H0 Qq;have hy1:(s.extract (i+1) s.size).size<=1100000:=Qh;have hwr:IntKind.i64.wrap ((i:Int)+1)=(i:Int)+1:=IntWalk.i64_in ((i:Int)+1) Qa;go_wp2_with fail
   refine (FF _ 58 _ (hE'.out.next hb1.out).ml Qa).mono ?_
   rintro e w2 ⟨u1,p1,n1,rfl,hu1,hp1,rfl⟩;have hz1:=J0 hu1.out hp1.out;have hbd:Below w.heap.size w (w1.drewN n1):=below_drewN hb1.out _;go_wp2_with fail;refine (D3 u1 5 Qc _ Qa).mono ?_;rintro e w2 ⟨us,rfl,hus,hb2⟩;have hA2:Hid (AG w2 w.heap.size CQ 141):=H0 (AG.keep (w:=w1.drewN n1) hA1.out hb2);have hB2:Hid (AG w2 g CQ 141):=H0 (AG.keep (w:=w1.drewN n1) hB1.out hb2)
   have hbel2:Hid (Below w.heap.size w w2):=H0 (hbd.next hb2)
   clear hb2
   go_wp2_with (refine Ad rfl _ _ _ rfl g 0 rfl (.string us) rfl rfl _ CQ (Bp us ⟨#[]⟩ (An .none) false 0) hB2.out R5 (by show 0+1<=15;decide) rfl Qb ?_)
   refine (D3 p1 5 Qc _ Qa).mono ?_;rintro e w3 ⟨ps,rfl,hps,hb3⟩;have hA3:Hid (AG w3 w.heap.size CQ 141):=H0 ((hA2.out.other hne.out _).keep hb3);have hB3:Hid (AG w3 g (Bp us ⟨#[]⟩ (An .none) false 0) 141):=H0 ((hB2.out.set _).keep hb3)
   have hbel3:Hid (Below w.heap.size w w3):=H0 ((Ae hbel2.out hgw.out _).next hb3)
   clear hb3
   have hres2:Hid (R=if (s.extract (i+1) s.size).toList=[] then none else Fa sch.toList us.toList ps.toList (s.extract (i+1) s.size).toList):=H0 (by
    rw [hres.out,hyl.out,hus.out,hps.out,hu1.out,hp1.out,hxl.out])
   obtain ⟨r,hr⟩:=N2 (s.extract (i+1) s.size);rw [hr] at hres2 hy1
   by_cases hem:r.toList=[]
   ·have hf:Hid (R=none):=H0 (hres2.out.trans (if_pos hem))
    have hem2:r.toList.isEmpty=true:=by rw [hem];rfl
    have hA4:Hid (AG (w3.setRow g (Bp us ps (An .none) false 0)) w.heap.size CQ 141):=H0 (hA3.out.other hne.out _);replace hem:=H0 hem
    go_wp2_with (first
     | (refine Ad rfl _ _ _ rfl g 1 rfl (.string ps) rfl rfl _ (Bp us ⟨#[]⟩ (An .none) false 0) (Bp us ps (An .none) false 0) hB3.out R5 (by show 1+1<=15;decide) rfl Qb ?_)
     | (refine wpList_store_row rfl 141 _ _ rfl w.heap.size CQ rfl rfl 141 _ hA4.out (De _ _ _ _ _) rfl (FB _ _ _ _ _) ?_))
    refine JW rfl rfl rfl rfl (hA4.out.set _) (De _ _ _ _ _) ?_;exact Gp hf.out (Ae (Ae hbel3.out hgw.out _) (Nat.le_refl _) _)
   ·have hf:Hid (R=Fa sch.toList us.toList ps.toList r.toList):=H0 (hres2.out.trans (if_neg hem))
    have hem2:r.toList.isEmpty=false:=by
     cases hs:r.toList with
     | nil=>exact absurd hs hem
     | cons a r=>rfl
    replace hem:=H0 hem
    go_wp2_with (refine Ad rfl _ _ _ rfl g 1 rfl (.string ps) rfl rfl _ (Bp us ⟨#[]⟩ (An .none) false 0) (Bp us ps (An .none) false 0) hB3.out R5 (by show 1+1<=15;decide) rfl Qb ?_)
    go_meet;exact ⟨r,us,ps,rfl,hy1,hf,H0 (hA3.out.other hne.out _),H0 (hB3.out.set _),H0 (Ae hbel3.out hgw.out _)⟩
 case rest=>
  clear hway hli hA1 hB1 hb1;obtain ⟨r,us,ps,rfl,hrz,hres,hA,hB,hbel⟩:=hcut
  have hcol:=H0 (fun w=>Ab7 r w Qa)
  go_wp2_with fail;refine (hcol.out _).mono ?_;rintro e w' ⟨i,rfl,hci,hw⟩;obtain rfl:=hw.symm;clear hcol
  go_upto_if 45 with (fail)
  go_cut [11,12] (fun s11 s12 wx=>∃ n p:ByteArray,s11= .string n/\s12= .string p/\n.size<=1100000/\p.size<=1100000/\Hid (R=NL sch.toList us.toList ps.toList n.toList p.toList)/\Hid (AG wx w.heap.size CQ 141)/\Hid (AG wx g (Bp us ps (An .none) false 0) 141)/\Hid (Below w.heap.size w wx))
  case first=>
   rcases hci.out with ⟨rfl,h⟩ | ⟨k,rfl,hk,h⟩
   ·have hf:Hid (R=NL sch.toList us.toList ps.toList r.toList []):=H0 (by rw [hres.out,Z8 h])
    have hf2:Hid (R=NL sch.toList us.toList ps.toList r.toList (⟨#[]⟩:ByteArray).toList):=H0 (by rw [show (⟨#[]⟩:ByteArray).toList=[] from toList_mk []];exact hf.out)
    clear hf;replace h:=H0 h;go_wp2_with fail;go_meet;exact ⟨r,⟨#[]⟩,rfl,rfl,hrz,Qc,hf2,hA,hB,hbel⟩
   ·rw [Aa] at hk;have hkI:(k:Int)<=(r.size:Int):=Qa;have hk0:(0:Int)<=(k:Int):=Qa;have hk1:(k:Int)+1<=(r.size:Int):=Qa;have hwr:IntKind.i64.wrap ((k:Int)+1)=(k:Int)+1:=IntWalk.i64_in ((k:Int)+1) Qa;have hx1:(r.extract 0 k).size<=1100000:=Qh;have hy1:(r.extract (k+1) r.size).size<=1100000:=Qh
    have hres2:Hid (R=if (r.extract 0 k).toList=[] then none else NL sch.toList us.toList ps.toList (r.extract 0 k).toList (r.extract (k+1) r.size).toList):=H0 (by
     rw [hres.out,ZX h,toList_extract,toList_extract,List.drop_zero,List.take_of_length_le (l:=r.toList) (i:=r.size) Qw])
    replace h:=H0 h;obtain ⟨n,hn⟩:=N2 (r.extract 0 k);obtain ⟨q,hq⟩:=N2 (r.extract (k+1) r.size);rw [hn] at hres2 hx1;rw [hq] at hres2 hy1
    by_cases hem:n.toList=[]
    ·have hf:Hid (R=none):=H0 (hres2.out.trans (if_pos hem))
     have hem2:n.toList.isEmpty=true:=by rw [hem];rfl
     replace hem:=H0 hem;go_wp2_with fail;go_region
     all_goals
      go_wp2_with (refine wpList_store_row rfl 141 _ _ rfl w.heap.size CQ rfl rfl 141 _ hA.out (De _ _ _ _ _) rfl (FB _ _ _ _ _) ?_)
      refine JW rfl rfl rfl rfl (AG.set (by exact hA.out) _) (De _ _ _ _ _) ?_
      exact Gp hf.out (Ae QZ (Nat.le_refl _) _)
    ·have hf:Hid (R=NL sch.toList us.toList ps.toList n.toList q.toList):=H0 (hres2.out.trans (if_neg hem))
     have hem2:n.toList.isEmpty=false:=by
      cases hs:n.toList with
      | nil=>exact absurd hs hem
      | cons a r=>rfl
     replace hem:=H0 hem;go_wp2_with fail;go_region
     all_goals
      go_wp2_with fail;go_meet;exact ⟨n,q,rfl,rfl,hx1,hy1,hf,hA,hB,H0 QZ⟩
  case rest=>
   clear hres hA hB hbel hci hrz;obtain ⟨n,q,rfl,rfl,hnz,hqz,hres,hA,hB,hbel⟩:=hcut
   have hho:=H0 (fun w hE=>KT n (Aj sch.toList) w hE hnz)
   have hpo:=H0 (fun w=>Ae8 sch q w Qa)
   have hv:=hres.out;unfold NL at hv;obtain ⟨H,hH⟩:=N2 (D6 n.toList (Aj sch.toList));obtain ⟨O,hO⟩:=N2 (IX sch.toList q.toList);rw [hH] at hho hv;rw [hO] at hpo hv;replace hv:=H0 hv;replace hH:=H0 hH;replace hO:=H0 hO;clear hres;go_wp2_with (go_at_call 145;refine (hsp.out _).mono ?_;rintro e w' ⟨rfl,rfl⟩)
   refine (hho.out _ (hE'.out.next hbel.out)).mono ?_
   intro e w2 hx;obtain ⟨HS,hHS,rfl,hb2⟩:=AcR hx;clear hx;have hA2:Hid (AG w2 w.heap.size CQ 141):=H0 (hA.out.keep hb2);have hB2:Hid (AG w2 g (Bp us ps (An .none) false 0) 141):=H0 (hB.out.keep hb2)
   have hbel2:Hid (Below w.heap.size w w2):=H0 (hbel.out.next hb2)
   have hs2:Hid (w.heap.size<=w2.heap.size):=H0 hbel2.out.size;clear hb2 hho hA hB hbel
   cases H with
   | none=>
    have hf:Hid (R=none):=H0 hv.out;obtain rfl:HS=An .none:=hHS.out;have hA3:Hid (AG (w2.alloc (.cells (Aq (An .none)) 32)) w.heap.size CQ 141):=H0 (hA2.out.alloc _);have hbel3:Hid (Below w.heap.size w (w2.alloc (.cells (Aq (An .none)) 32))):=H0 (hbel2.out.alloc hs2.out _)
    go_wp2_with (first
     | (refine Af rfl 32 _ _ rfl rfl (Aq (An .none)) _ _ _ rfl Qf rfl AP rfl (A1 _) ?_)
     | (refine wpList_store_row rfl 141 _ _ rfl w.heap.size CQ rfl rfl 141 _ hA3.out (De _ _ _ _ _) rfl (FB _ _ _ _ _) ?_))
    refine JW rfl rfl rfl rfl (hA3.out.set _) (De _ _ _ _ _) ?_;exact Gp hf.out (Ae hbel3.out (Nat.le_refl _) _)
   | some h=>
    replace hHS:Hid (HS=An h):=hHS;have hA3:Hid (AG (w2.alloc (.cells (Aq (HS)) 32)) w.heap.size CQ 141):=H0 (hA2.out.alloc _);have hB3:Hid (AG (w2.alloc (.cells (Aq (HS)) 32)) g (Bp us ps (An .none) false 0) 141):=H0 (hB2.out.alloc _);have hC3:Hid (AG (w2.alloc (.cells (Aq (HS)) 32)) w2.heap.size (Aq (HS)) 32):=H0 (AG.new _ _ _);have hbel3:Hid (Below w.heap.size w (w2.alloc (.cells (Aq (HS)) 32))):=H0 (hbel2.out.alloc hs2.out _);clear hA2 hB2 hbel2
    go_upto_region 19 with (refine Af rfl 32 _ _ rfl rfl (Aq (HS)) _ _ _ rfl Qf rfl AP rfl (A1 _) ?_)
    refine Ap (R:=fun wx=>Hid (AG wx w.heap.size CQ 141)/\Hid (AG wx g (Bp us ps (An .none) false 0) 141)/\Hid (AG wx w2.heap.size (Aq HS) 32)/\Hid (Below w.heap.size w wx)) ⟨hA3,hB3,hC3,hbel3⟩ ?_
    clear hA3 hB3 hC3 hbel3;rintro w3 ⟨hA3,hB3,hC3,hbel3⟩;obtain ⟨q2,hq2⟩:∃ q,w2.heap.size=q:=⟨_,rfl⟩;rw [hq2] at hC3⊢;clear hq2 hs2;have hB4:Hid (AG (w3.setRow g (Bp us ps (HS) false 0)) g (Bp us ps (HS) false 0) 141):=H0 (hB3.out.set _);have hA4:Hid (AG (w3.setRow g (Bp us ps (HS) false 0)) w.heap.size CQ 141):=H0 (hA3.out.other hne.out _);have hbel4:Hid (Below w.heap.size w (w3.setRow g (Bp us ps (HS) false 0))):=H0 (Ae hbel3.out hgw.out _)
    go_wp2_with (first
     | (refine wpList_load_row rfl 32 _ rfl q2 rfl _ (Aq (HS)) _ _ hC3.out Tryz.underlying32 rfl AP ?_)
     | (refine BT rfl _ _ _ rfl g 2 rfl (.agg (Aq (HS))) rfl (Aq (HS)) rfl _ (Bp us ps (An .none) false 0) (Bp us ps (HS) false 0) hB3.out AP (by show 2+11<=15;decide) (A1 _) Qb ?_))
    refine (hpo.out _).mono ?_;rintro e w' ⟨rfl,hw⟩;obtain rfl:=hw.symm;obtain ⟨w4,hw4⟩:=N2 (w3.setRow g (Bp us ps (HS) false 0));rw [hw4] at hA4 hB4 hbel4⊢;clear hA3 hB3 hC3 hbel3 hw4 hw hpo;have hv2:=hv.out
    try dsimp only at hv2
    replace hv2:=H0 hv2;clear hv
    have fin:∀ (z:Int) (b:Bool),Hid (AG (w4.setRow g (Bp us ps (HS) false z)) g (Bp us ps (HS) false z) 141)/\Hid (AG ((w4.setRow g (Bp us ps (HS) false z)).setRow g (Bp us ps (HS) b z)) g (Bp us ps (HS) b z) 141)/\Hid (AG ((w4.setRow g (Bp us ps (HS) false z)).setRow g (Bp us ps (HS) b z)) w.heap.size CQ 141)/\Hid (Below w.heap.size w ((w4.setRow g (Bp us ps (HS) false z)).setRow g (Bp us ps (HS) b z))):=fun z b=>
     ⟨H0 (hB4.out.set _),H0 ((hB4.out.set _).set _),H0 ((hA4.out.other hne.out _).other hne.out _),H0 (Ae (Ae hbel4.out hgw.out _) hgw.out _)⟩
    replace fin:=H0 fin
    cases O with
    | none=>
     have hf:Hid (R=none):=H0 hv2.out;obtain ⟨hB5,hB6,hA6,hbel6⟩:=fin.out 0 false
     go_wp2_with (first
      | (refine Ad rfl _ _ _ rfl g 14 rfl (.int .i64 0) rfl rfl _ (Bp us ps (HS) false 0) (Bp us ps (HS) false 0) hB4.out Xy (by show 14+1<=15;decide) rfl Qb ?_)
      | (refine Ad rfl _ _ _ rfl g 13 rfl (.bool false) rfl rfl _ (Bp us ps (HS) false 0) (Bp us ps (HS) false 0) hB5.out Tr (by show 13+1<=15;decide) rfl Qb ?_)
      | (refine wpList_store_row rfl 141 _ _ rfl w.heap.size CQ rfl rfl 141 _ hA6.out (De _ _ _ _ _) rfl (FB _ _ _ _ _) ?_))
     refine JW rfl rfl rfl rfl (hA6.out.set _) (De _ _ _ _ _) ?_;exact Gp hf.out (Ae hbel6.out (Nat.le_refl _) _)
    | some o=>
     have hf:Hid (R=some ⟨us.toList,ps.toList,h,o⟩):=H0 hv2.out;obtain ⟨hB5,hB6,hA6,hbel6⟩:=fin.out (I0 o) o.isSome
     go_wp2_with (first
      | (refine Ad rfl _ _ _ rfl g 14 rfl (.int .i64 (I0 o)) rfl rfl _ (Bp us ps (HS) false 0) (Bp us ps (HS) false (I0 o)) hB4.out Xy (by show 14+1<=15;decide) rfl Qb ?_)
      | (refine Ad rfl _ _ _ rfl g 13 rfl (.bool o.isSome) rfl rfl _ (Bp us ps (HS) false (I0 o)) (Bp us ps (HS) o.isSome (I0 o)) hB5.out Tr (by show 13+1<=15;decide) rfl Qb ?_)
      | (refine wpList_load_row rfl 141 _ rfl g rfl _ (Bp us ps (HS) o.isSome (I0 o)) _ _ hB6.out Tryz.underlying141 rfl (De _ _ _ _ _) ?_)
      | (refine wpList_store_row rfl 141 _ _ rfl w.heap.size (Bp us ps (HS) o.isSome (I0 o)) rfl rfl 141 _ hA6.out (De _ _ _ _ _) rfl (FB _ _ _ _ _) ?_))
     refine JW rfl rfl rfl rfl (hA6.out.set _) (De _ _ _ _ _) ?_;have e:=hHS.out;subst e;exact VD hf.out (Ae hbel6.out (Nat.le_refl _) _)
theorem AQ {P:Program} {ops:Array Oper} {o:Oper} {a:Act} {w:World} {K:Act->World->Prop} {Q:Exit->Act->World->Prop}
  (hw:Region.wanted o (yielded ops a.tmps)=true) (h:∀ Q':Exit->Act->World->Prop,(∀ a w,K a w->Q' .normal a w)->wpList P ops Q' [o] a w):
  if Region.wanted o (yielded ops a.tmps)=true then Oper.wp P o a w K Q else K (a.put o.dst undef) w:=by
 rw [if_pos hw]
 have hl:=h (fun e a w=>match e with | .normal=>K a w | .outgrown=>False | e=>Q e a w) (fun _ _ k=>k)
 unfold wpList at hl;rw [if_pos hw] at hl
 rcases hl with hA | ⟨_,a',w',hf⟩
 ·unfold Oper.wp at hA⊢;generalize (execOp a.eval o).run P w=r at hA⊢
  cases r with
  | ok v w'=>
   cases v with
   | value v=>exact hA
   | skip=>exact hA
   | defer d=>exact hA
   | enter f args=>
    refine Calls.mono (show Calls P f args w' _ from hA) ?_;intro e w'' he
    cases e with
    | returned v=>exact he
    | panicked c=>exact he
    | outgrown=>obtain ⟨_,_,hx⟩:=he;exact hx.elim
   | row row args=>exact Rows.mono (show Rows P row args w' _ from hA) (fun _ _ h=>h)
   | _=>exact hA
  | halt hh w'=>cases hh<;>exact hA
 ·exact hf.elim
theorem FO (sp:Bool):∀ l,A4 sp l<=l.length
 | []=>Nat.le_refl _
 | c :: r=>by
  rw [A4];split
  ·have:=FO sp r;rw [List.length_cons];omega
  ·exact Nat.zero_le _
theorem Hn (sch s:ByteArray) (w:World) (hz:s.size<=1000000000):Calls Tryz.prog 207 #[.string sch,.string s] w fun e w'=>e= .returned (.int .i64 ((A4 (Aj sch.toList) s.toList:Nat):Int))/\w=w':=by
 have hsp:=H0 (fun w=>DW sch w)
 obtain ⟨R,hR⟩:=N2 (A4 (Aj sch.toList) s.toList);rw [hR];obtain ⟨sp,hspv⟩:=N2 (Aj sch.toList);rw [hspv] at hR hsp;replace hspv:=H0 hspv;replace hR:=H0 hR;go_enter Tryz.func207,Tryz.ntmps207;go_wp2_with (go_at_call 145;refine (hsp.out _).mono ?_;rintro e w' ⟨rfl,rfl⟩)
 go_loop [6] (fun v6=>∃ k:Nat,v6= .int .i64 (k:Int)/\k<=s.size/\Hid (R=k+A4 sp (s.toList.drop k))) (fun v6=>s.size - (intOf v6).toNat)
 case atStart=>exact ⟨0,rfl,Nat.zero_le _,H0 (by rw [List.drop_zero,Nat.zero_add,hR.out])⟩
 case round=>
  obtain ⟨k,rfl,hk,hg⟩:=hrel
  by_cases hlt:k<s.size
  ·have hI:(k:Int)<(s.size:Int):=Qa;have hgs:=hg.out;rw [As s k hlt,A4] at hgs;have hwy:=K5 sp s[k];have hc0:=AN s[k];obtain ⟨N,hN⟩:=N2 (AB sp s[k]);rw [hN] at hgs hwy;replace hN:=H0 hN;have hwr:IntKind.i64.wrap ((k:Int)+1)=(k:Int)+1:=IntWalk.i64_in _ Qa
   cases N with
   | true=>
    rw [if_pos rfl] at hgs;have hnew:Hid (R=k+1+A4 sp (s.toList.drop (k+1))):=H0 Qa;replace hgs:=H0 hgs
    rcases hwy with ⟨q1,_⟩ | ⟨_,_,h⟩ | ⟨q1,rfl,q2,_⟩ | ⟨_,_,_,h⟩
    ·go_wp2_with fail;go_round
     case rel=>exact ⟨k+1,Ql,Qa,hnew⟩
     case measure=>simp [intOf];omega
    ·cases h
    ·go_wp2_with fail;go_round
     case rel=>exact ⟨k+1,Ql,Qa,hnew⟩
     case measure=>simp [intOf];omega
    ·cases h
   | false=>
    rw [if_neg Qc] at hgs;have hf:(R:Int)=(k:Int):=Qa;have hf2:Hid (R=k):=H0 Qa;replace hgs:=H0 hgs;replace hf:=H0 hf
    rcases hwy with ⟨_,h⟩ | ⟨q1,rfl,_⟩ | ⟨_,_,_,h⟩ | ⟨q1,rfl,q2,_⟩
    ·cases h
    ·go_wp2_with fail;go_ret
     exact ⟨by rw [hf2.out];rfl,rfl⟩
    ·cases h
    ·go_wp2_with fail;go_ret
     exact ⟨by rw [hf2.out];rfl,rfl⟩
  ·have hI:(s.size:Int)<=(k:Int):=Qa
   have hf2:Hid (R=k):=H0 (by rw [hg.out,AL s k Qa];rfl)
   go_wp2_with fail;go_ret
   exact ⟨by rw [hf2.out];rfl,rfl⟩
theorem Xa (sp:Bool) (s:ByteArray):(s.extract (A4 sp s.toList) s.size).toList=FN sp s.toList:=by
 rw [toList_extract,List.take_of_length_le Qw];rfl
theorem KJ (sch s:ByteArray) (w:World) (hz:s.size<=1000000000):Calls Tryz.prog 149 #[.string sch,.string s] w fun e w'=>(∃ t:ByteArray,e= .returned (.string t)/\Hid (t.toList=FN (Aj sch.toList) s.toList)/\t.size<=s.size)/\w=w':=by
 have hsl:=H0 (fun w=>Hn sch s w hz)
 have hx:=Xa (Aj sch.toList) s;have hle:=FO (Aj sch.toList) s.toList;rw [Aa] at hle;obtain ⟨n,hn⟩:=N2 (A4 (Aj sch.toList) s.toList);rw [hn] at hx hle hsl;have hnI:(n:Int)<=(s.size:Int):=Qa;replace hx:=H0 hx;replace hn:=H0 hn;go_enter Tryz.func149,Tryz.ntmps149;go_wp2_with (go_at_call 207;refine (hsl.out _).mono ?_;rintro e w' ⟨rfl,rfl⟩);go_ret;exact ⟨⟨_,rfl,hx,Qh⟩,rfl⟩
theorem RU (sch s:ByteArray) (w:World) (hz:s.size<=1100000):Calls Tryz.prog 217 #[.string sch,.string s] w (OX (Cj sch.toList s.toList) w):=by
 have hsl:=H0 (fun w=>Hn sch s w Qa)
 have hle:=FO (Aj sch.toList) s.toList;rw [Aa] at hle;obtain ⟨R,hR⟩:=N2 (Cj sch.toList s.toList);rw [hR];have hv:=hR.symm;unfold Cj at hv;replace hR:=H0 hR;obtain ⟨n,hn⟩:=N2 (A4 (Aj sch.toList) s.toList);rw [hn] at hle hsl hv;replace hn:=H0 hn
 by_cases h0:0<n
 ·rw [if_pos h0] at hv;have h1:1<=s.size:=Qa;have h1I:(1:Int)<=(s.size:Int):=Qa;have hnI:(0:Int)<(n:Int):=Qa
  have hxl:(s.extract 1 s.size).toList=s.toList.drop 1:=by rw [toList_extract,List.take_of_length_le Qw]
  rw [<-hxl] at hv;replace hv:=H0 hv
  have hp:=H0 (fun w=>BB sch none 0 0 [] (s.extract 1 s.size) w (Da w) Qc Qh (fun t h=>Qr))
  replace hxl:=H0 hxl;go_enter Tryz.func217,Tryz.ntmps217;go_wp2_with (go_at_call 207;refine (hsl.out _).mono ?_;rintro e w' ⟨rfl,rfl⟩);refine (hp.out _).mono ?_;rintro e w1 ⟨v,l,rfl,hl,ho,hb⟩;go_wp2_with fail;go_ret
  exact ⟨v,l,rfl,H0 (by rw [hl.out,hv.out];rfl),ho,hb⟩
 ·rw [if_neg h0] at hv;have hnI:(n:Int)<=0:=Qa;obtain rfl:n=0:=Qa;replace hv:=H0 hv
  have hp:=H0 (fun w=>BB sch none 0 0 [] s w (Da w) Qc hz (fun t h=>Qr))
  go_enter Tryz.func217,Tryz.ntmps217;go_wp2_with (go_at_call 207;refine (hsl.out _).mono ?_;rintro e w' ⟨rfl,rfl⟩);refine (hp.out _).mono ?_;rintro e w1 ⟨v,l,rfl,hl,ho,hb⟩;go_wp2_with fail;go_ret
  exact ⟨v,l,rfl,H0 (by rw [hl.out,hv.out];rfl),ho,hb⟩
end Go.Proofs.YtonomfeipkdmhaaGreatDoor
