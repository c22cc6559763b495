/- Part 36: lemmas. -/
import Derived.Test.YtonomfeipkdmhaaGreatDoorK34
import Derived.Test.YtonomfeipkdmhaaGreatDoorK35
set_option linter.unusedVariables false
set_option linter.unusedSimpArgs false
set_option maxRecDepth 100000
set_option maxHeartbeats 16000000
namespace Go.Proofs.YtonomfeipkdmhaaGreatDoor
open Go.RowKit Go.Proofs.Tryz
theorem Ms (c:UInt8):∀ l,l.take (Af c l).1.length=(Af c l).1:=fun l=>by
 conv=>lhs;rw [Jz c l]
 have:(Af c ((Af c l).1++(if (Af c l).2.2 then c :: (Af c l).2.1 else []))).1.length=(Af c l).1.length:=by rw [<-Jz]
 rw [this,List.take_append_of_le_length (Nat.le_refl _),List.take_length]
theorem Aan {c:UInt8} {l:List UInt8} (h:(Af c l).2.2=true):l.drop ((Af c l).1.length+1)=(Af c l).2.1:=by
 have e:=R6 h;have:l.drop ((Af c l).1.length+1)=(((Af c l).1++c :: (Af c l).2.1)).drop ((Af c l).1.length+1):=by rw [<-e]
 rw [this,List.drop_append];simp
theorem Qq {c:UInt8} {l:List UInt8} (h:(Af c l).2.2=true):(Af c l).1.length<l.length:=by
 have e:=congrArg List.length (R6 h);rw [List.length_append,List.length_cons] at e;omega
theorem OI {c:UInt8} {l:List UInt8} (h:(Af c l).2.2=false):(Af c l).1.length=l.length:=by rw [(MN c l h).1]
theorem Tc (c:UInt8) (l:List UInt8):(Af c l).1.length<=l.length:=by have:=Cc c l;omega
theorem GY (s:ByteArray) (k:Nat):(s.extract 0 k).toList=s.toList.take k:=by rw [toList_extract,List.drop_zero]
theorem Ii (s:ByteArray) (k:Nat):(s.extract k s.size).toList=s.toList.drop k:=by rw [toList_extract,Cl _ _ (Nat.le_refl _)]
theorem SN (s:ByteArray) (w:World) (hs:s.size<=1000000000):
  Calls prog 84 #[.string s] w (AeI w (GS s.toList)):=by
 have hB:Below w.heap.size w w:=Below.refl _ _;have e0:(ByteArray.mk #[]).toList=[]:=toList_mk [];go_enter func84,ntmps84;go_wp2_with fail;refine (Nk s _ (by omega)).mono ?_
 rintro e w1 ⟨t,rfl,ht,htz,rfl⟩;replace e0:=H0 e0;go_wp2_with fail;go_loop [0] (fun v=>∃ u:ByteArray,v= .string u/\u.size<=s.size/\Hid (BW KC u.toList=BW KC t.toList)) (fun v=>LK v)
 case atStart=>exact ⟨t,rfl,htz,rfl⟩
 case round=>
  obtain ⟨u,rfl,hus,hu⟩:=hrel
  by_cases hgo:∃ h:0<u.size,KC (u[0].toNat:Int)=true
  ·obtain ⟨h0,hp⟩:=hgo
   have hne:(!u.toList.isEmpty)=true:=by
    rw [Ca u h0];rfl
   have hx:=H0 (Ca u h0);go_wp2_with ((with_reducible refine (Gr _ _).mono ?_);rintro e w' ⟨rfl,rfl⟩);go_round
   case rel=>exact ⟨_,rfl,by rw [<-Aa,toList_extract,List.length_drop,Cl _ _ (Nat.le_refl _),Aa];omega,H0 (by rw [<-hu.out,hx.out,HA hp])⟩
   case measure=>simp [LK];omega
  ·have hd:Hid (GS s.toList=Yi u.toList):=H0 (by
    unfold GS;rw [<-ht.out,<-hu.out]
    by_cases h0:0<u.size
    ·rw [Ca u h0,Jx (by simpa using fun h=>hgo ⟨h0,h⟩)]
    ·rw [(At u).2 (by omega)];rfl)
   have hor:(∃ h0:0<u.size,(!u.toList.isEmpty)=true/\KC (u[0].toNat:Int)=false)\/u.toList.isEmpty=true:=by
    by_cases h0:0<u.size
    ·exact .inl ⟨h0,by rw [Ca u h0];rfl,by simpa using fun h=>hgo ⟨h0,h⟩⟩
    ·exact .inr (by rw [(At u).2 (by omega)];rfl)
   clear hgo ht hu;have hfd:=H0 (fun w=>Mw u 47 w (by omega))
   have hlen:=Aa u;have hle:=Tc 47 u.toList;have hupto:Hid ((u.extract 0 (Af 47 u.toList).1.length).toList=(Af 47 u.toList).1):=H0 (by rw [GY,Ms])
   have hfrom:(Af 47 u.toList).2.2=true->Hid ((u.extract ((Af 47 u.toList).1.length+1) u.size).toList=(Af 47 u.toList).2.1):=fun h=>H0 (by rw [Ii,Aan h])
   have hl1:(Af 47 u.toList).2.2=true->(Af 47 u.toList).1.length<u.size:=fun h=>by rw [<-hlen];exact Qq h
   have hl0:(Af 47 u.toList).2.2=false->(Af 47 u.toList).1.length=u.size:=fun h=>by rw [<-hlen];exact OI h
   have hE0:(Af 47 u.toList).2.2=false->Hid (GS s.toList=none):=fun h=>H0 (by rw [hd.out];unfold Yi;rw [if_pos h])
   have hE1:(Af 47 u.toList).2.2=true->Hid (GS s.toList=if F9 (Af 47 u.toList).1=true/\F9 (AG KC (Af 59 (Af 47 u.toList).2.1).1)=true then some (AD (Af 47 u.toList).1++47 :: AD (AG KC (Af 59 (Af 47 u.toList).2.1).1)) else none):=fun h=>H0 (by
    rw [hd.out];unfold Yi;rw [if_neg (by rw [h];decide)])
   obtain ⟨n,hn⟩:∃ n,(Af 47 u.toList).1.length=n:=⟨_,rfl⟩;rw [hn] at hle hfd hupto hfrom hl1 hl0;rw [hlen] at hle;replace hlen:=H0 hlen;replace hn:=H0 hn;clear hd;cases hm:(Af 47 u.toList).2.2
   ·have hno:=hE0 hm;obtain rfl:=hl0 hm;clear hl1 hl0 hE1 hE0 hfrom;replace hm:=H0 hm;rcases hor with ⟨h0,hne,hp⟩ | hne
    all_goals
     go_wp2_with ((with_reducible refine (Gr _ _).mono ?_);rintro e w' ⟨rfl,rfl⟩);refine (hfd.out _).mono ?_;rintro e w' ⟨rfl,rfl⟩;go_wp2_with fail;go_ret2;exact ⟨⟨#[]⟩,by rw [hno.out];rfl,H0 (by rw [hno.out];exact e0.out),hB⟩
   ·have hE:=hE1 hm;have hlt:=hl1 hm;have hF:=hfrom hm;clear hl1 hl0 hE1 hE0 hfrom;replace hm:=H0 hm;have hneq:((n:Int)==(u.size:Int))=false:=by rw [beq_eq_false_iff_ne];omega
    have hn1:(n:Int)<=(u.size:Int):=by omega
    have hn2:(n:Int)+1<=(u.size:Int):=by omega
    rw [<-hupto.out,<-hF.out] at hE;clear hupto hF;have hz1:(u.extract 0 n).size<=1000000000:=by rw [ByteArray.size_extract];omega
    have hz2:(u.extract (n+1) u.size).size<=1000000000:=by rw [ByteArray.size_extract];omega
    obtain ⟨A,hA⟩:=N2 (u.extract 0 n);obtain ⟨Bb,hBb⟩:∃ B,u.extract (n+1) u.size=B:=⟨_,rfl⟩;rw [hA] at hE hz1;rw [hBb] at hE hz2;have hfd2:=H0 (fun w=>Mw Bb 59 w (by omega))
    have hle2:=Tc 59 Bb.toList;rw [Aa] at hle2;have hupto2:Hid ((Bb.extract 0 (Af 59 Bb.toList).1.length).toList=(Af 59 Bb.toList).1):=H0 (by rw [GY,Ms])
    rw [<-hupto2.out] at hE;obtain ⟨m,hm2⟩:∃ m,(Af 59 Bb.toList).1.length=m:=⟨_,rfl⟩;rw [hm2] at hfd2 hle2 hE;clear hupto2;replace hm2:=H0 hm2;have hm1:(m:Int)<=(Bb.size:Int):=by omega
    obtain ⟨C,hC⟩:=N2 (Bb.extract 0 m);have hz3:C.size<=1000000000:=by rw [<-hC,ByteArray.size_extract];omega
    rw [hC] at hE;rcases hor with ⟨h0,hne,hp⟩ | hne
    all_goals
     go_wp2_with ((with_reducible refine (Gr _ _).mono ?_);rintro e w' ⟨rfl,rfl⟩);refine (hfd.out _).mono ?_;rintro e w' ⟨rfl,rfl⟩;go_wp2_with fail;refine (hfd2.out _).mono ?_;rintro e w' ⟨rfl,rfl⟩;go_wp2_with fail;refine (Nk C _ (by omega)).mono ?_
     rintro e w' ⟨D,rfl,hD,hDz,rfl⟩;rw [<-hD.out] at hE;clear hD;have hA':=H0 hA;have hB':=H0 hBb;have hC':=H0 hC;clear hA hBb hC;have htA:=H0 (fun w=>O9 A w (by omega))
     have htD:=H0 (fun w=>O9 D w (by omega))
     have hlA:=H0 (fun w=>Lg A w (by omega))
     have hlD:=H0 (fun w=>Lg D w (by omega))
     obtain ⟨qa,hqa⟩:∃ q,F9 A.toList=q:=⟨_,rfl⟩;obtain ⟨qd,hqd⟩:∃ q,F9 D.toList=q:=⟨_,rfl⟩;rw [hqa] at htA hE;rw [hqd] at htD hE;replace hqa:=H0 hqa;replace hqd:=H0 hqd;cases qa
     ·have hno:Hid (GS s.toList=none):=H0 (by rw [hE.out];simp)
      go_wp2_with fail;refine (htA.out _).mono ?_;rintro e w2 ⟨rfl,hb⟩;have hB2:=hB.next hb
      clear hb;go_wp2_with fail;go_ret2;exact ⟨⟨#[]⟩,by rw [hno.out];rfl,H0 (by rw [hno.out];exact e0.out),hB2⟩
     cases qd
     ·have hno:Hid (GS s.toList=none):=H0 (by rw [hE.out];simp)
      go_wp2_with fail;refine (htA.out _).mono ?_;rintro e w2 ⟨rfl,hb⟩;have hB2:=hB.next hb
      clear hb;go_wp2_with fail;refine (htD.out _).mono ?_;rintro e w3 ⟨rfl,hb⟩;have hB3:=hB2.next hb
      clear hb;go_wp2_with fail;go_ret2;exact ⟨⟨#[]⟩,by rw [hno.out];rfl,H0 (by rw [hno.out];exact e0.out),hB3⟩
     ·have hyes:Hid (GS s.toList=some (AD A.toList++47 :: AD D.toList)):=H0 (by rw [hE.out];simp)
      go_wp2_with fail;refine (htA.out _).mono ?_;rintro e w2 ⟨rfl,hb⟩;have hB2:=hB.next hb
      clear hb;go_wp2_with fail;refine (htD.out _).mono ?_;rintro e w3 ⟨rfl,hb⟩;have hB3:=hB2.next hb
      clear hb;go_wp2_with fail;refine (hlA.out _).mono ?_;rintro e w4 ⟨x1,rfl,hx1,hb⟩;have hx1z:x1.size<=1000000000:=by rw [<-Aa,hx1.out,Il,Aa];exact hz1
      have hB4:=hB3.next hb
      clear hb;go_wp2_with fail;refine (hlD.out _).mono ?_;rintro e w5 ⟨x2,rfl,hx2,hb⟩;have hB5:=hB4.next hb
      clear hb;have hx2z:x2.size<=1000000000:=by rw [<-Aa,hx2.out,Il,Aa];omega
      have b1:Hid ((ByteArray.mk #[47]).toList=[47]):=H0 (toList_mk _);go_wp2_with fail;go_ret2;exact ⟨x1++⟨#[47]⟩++x2,by rw [hyes.out];rfl,H0 (by rw [hyes.out,toList_append,toList_append,hx1.out,hx2.out,b1.out];simp),hB5⟩
theorem ZR (s:ByteArray) (w:World) (hs:s.size<=1000000000):
  Calls prog 82 #[.string s] w (Cy w (DE s.toList)):=by
 have hB:Below w.heap.size w w:=Below.refl _ _;have hlen:=Aa s
 by_cases h7:s.size<7
 ·have hV:Hid (s.toList=DE s.toList):=H0 (by
   unfold DE;split
   ·rename_i h;have:s.toList.length - 6=0:=by omega
    rw [this,List.take_zero,if_neg (by unfold AG BW;simp)]
   ·rfl)
  have hI:(s.size:Int)<7:=by omega
  replace hlen:=H0 hlen;go_enter func82,ntmps82;go_wp2_with fail;go_ret;exact BL hV.out hB
 obtain ⟨k,hk⟩:∃ k,s.size=k+6:=⟨s.size - 6,by omega⟩
 have hI:(7:Int)<=(s.size:Int):=by omega
 have hkI:(s.size:Int) - 6=(k:Int):=by omega
 have hk1:(k:Int)<=(s.size:Int):=by omega
 have hV:Hid (DE s.toList=if AD (s.toList.drop k)=Fx then (if (AG HH (s.toList.take k)).getLast? =some 59 then (AG HH (s.toList.take k)).dropLast else s.toList) else s.toList):=H0 (by
  unfold DE;have e:s.toList.length - 6=k:=by omega
  rw [e]
  by_cases h:AD (s.toList.drop k)=Fx
  ·rw [if_pos ⟨by omega,h⟩,if_pos h]
  ·rw [if_neg (fun x=>h x.2),if_neg h])
 obtain ⟨T,hT⟩:=N2 (s.extract k s.size);have hTl:Hid (T.toList=s.toList.drop k):=H0 (by rw [<-hT,Ii])
 have hTz:T.size<=6:=by rw [<-hT,ByteArray.size_extract];omega
 replace hlen:=H0 hlen;replace hk:=H0 hk;go_enter func82,ntmps82;go_wp2_with fail;replace hT:=H0 hT;refine (Lg T _ (by omega)).mono ?_
 rintro e w1 ⟨x,rfl,hx,hb⟩;replace hB:=hB.next hb
 clear hb
 by_cases hq:x.toList=Fx
 ·have hqb:(x.toList==[98,97,115,101,54,52])=true:=by simpa [Fx] using hq
  have hqn:(x.toList != [98,97,115,101,54,52])=false:=by simpa [Fx] using hq
  have hW:Hid (DE s.toList=if (AG HH (s.toList.take k)).getLast? =some 59 then (AG HH (s.toList.take k)).dropLast else s.toList):=H0 (by
   rw [hV.out,if_pos (by rw [<-hTl.out,<-hx.out];exact hq)])
  replace hq:=H0 hq;go_wp2_with fail;go_loop [4] (fun iv=>∃ j:Nat,iv= .int .i64 j/\j<=k/\Hid (AG HH (s.toList.take j)=AG HH (s.toList.take k))) (fun iv=>(intOf iv).toNat)
  case atStart=>exact ⟨k,rfl,Nat.le_refl _,H0 rfl⟩
  case round=>
   obtain ⟨j,rfl,hj,hr⟩:=hrel
   by_cases h0:j=0
   ·subst h0
    have hfin:Hid (s.toList=DE s.toList):=H0 (by
     rw [hW.out,<-hr.out,List.take_zero,if_neg (by unfold AG BW;simp)])
    clear hr;go_wp2_with fail;go_ret;exact BL hfin.out hB
   ·obtain ⟨i,rfl⟩:∃ i,j=i+1:=⟨j - 1,by omega⟩
    have hiz:i<s.size:=by have:=hk.out;omega
    have hsn:=A5 s i hiz;have hi0:(0:Int)<=(i:Int):=by omega
    have hi1:(i:Int)<(s.size:Int):=by omega
    have hi2:(0:Int)<(i:Int)+1:=by omega
    by_cases h32:s[i]=32
    ·have q:((s[i].toNat:Int)==32)=true:=by rw [h32];rfl
     have hnew:Hid (AG HH (s.toList.take i)=AG HH (s.toList.take k)):=H0 (by
      rw [<-hr.out,hsn,Gm (by rw [h32];rfl)])
     replace hsn:=H0 hsn;replace h32:=H0 h32;go_wp2_with fail;go_round
     case rel=>exact ⟨i,rfl,by omega,hnew⟩
     case measure=>simp [intOf]
    ·have q:((s[i].toNat:Int)==32)=false:=(u8q (d:=32)).2 h32
     have hR:AG HH (s.toList.take k)=s.toList.take i++[s[i]]:=by
      rw [<-hr.out,hsn,HE (by unfold HH;rw [decide_eq_false_iff_not];intro x;rw [x] at q;exact absurd q (by decide))]
     have hlast:(s.toList.take i++[s[i]]).getLast? =some s[i]:=by rw [List.getLast?_append];rfl
     clear hr
     by_cases h59:s[i]=59
     ·have q2:((s[i].toNat:Int)==59)=true:=by rw [h59];rfl
      have hfin:Hid ((s.extract 0 i).toList=DE s.toList):=H0 (by
       rw [hW.out,hR,hlast,h59,if_pos rfl,List.dropLast_concat,GY])
      clear hR hlast;replace hsn:=H0 hsn;replace h32:=H0 h32;replace h59:=H0 h59;go_wp2_with fail;go_ret;exact BL hfin.out hB
     ·have q2:((s[i].toNat:Int)==59)=false:=(u8q (d:=59)).2 h59
      have hfin:Hid (s.toList=DE s.toList):=H0 (by
       rw [hW.out,hR,hlast,if_neg (fun x=>h59 (Option.some.inj x))])
      clear hR hlast;replace hsn:=H0 hsn;replace h32:=H0 h32;replace h59:=H0 h59;go_wp2_with fail;go_ret;exact BL hfin.out hB
 ·have hqb:(x.toList==[98,97,115,101,54,52])=false:=by simpa [Fx] using hq
  have hqn:(x.toList != [98,97,115,101,54,52])=true:=by simpa [Fx] using hq
  have hno:Hid (s.toList=DE s.toList):=H0 (by
   rw [hV.out,if_neg (by rw [<-hTl.out,<-hx.out];exact hq)])
  replace hq:=H0 hq;go_wp2_with fail;go_ret;exact BL hno.out hB
theorem Abn (u:Al) (w:World) (hp:Fs w u) (fit:Gs u) (hz:(Eg u false).length<=900000000):
  Calls prog 35 #[.agg (Ab u)] w (AeI w (DG u)):=by
 have hB:Below w.heap.size w (w.alloc (.cells (Ab u) 34)):=(Below.refl _ _).alloc (Nat.le_refl _) _;have hblk:=H0 (heap_alloc_new w (.cells (Ab u) 34));have x0:(w.alloc (.cells (Ab u) 34)).cell? ⟨w.heap.size,0,none⟩=some (.string u.scheme):=(World.cell?_alloc_at _ _ _ _ rfl).trans rfl;have e0:(ByteArray.mk #[]).toList=[]:=toList_mk [];have hp1:=hp.below hB (Nat.le_refl _)
 by_cases hd:u.scheme.toList=GH
 ·have hdI:(u.scheme.toList==[100,97,116,97])=true:=by rw [hd];rfl
  have hdN:(u.scheme.toList != [100,97,116,97])=false:=by rw [hd];rfl
  have hV:Hid (DG u=UA (Eg u false)):=H0 (by unfold DG;rw [if_pos hd])
  obtain ⟨r,hr⟩:=Ni hd;replace hd:=H0 hd;replace e0:=H0 e0;have hwr:=H0 (Xq u false _ hp1 fit);go_enter func35,ntmps35;go_wp2_with (refine wpList_load_row rfl 34 _ rfl w.heap.size rfl _ (Ab u) _ _ hblk.out underlying34 rfl Fv ?_);refine hwr.out.mono ?_;rintro e w2 ⟨t,rfl,htx,hb⟩;replace hB:=hB.next hb
  clear hb x0 hblk hwr;have htz:t.size<=900000000:=by rw [<-Aa,htx.out];exact hz
  have hrl:r.length+5=t.size:=by rw [<-Aa,htx.out,hr,List.length_append];simp;omega
  have h5:(5:Int)<=(t.size:Int):=by omega
  obtain ⟨T,hT⟩:=N2 (t.extract 5 t.size);have hTl:T.toList=r:=by rw [<-hT,Ii,htx.out,hr];rfl
  have hTz:T.size<=900000000:=by rw [<-hT,ByteArray.size_extract];omega
  have hD:Hid (DG u=if (Af 44 T.toList).2.2=true then some (JC (Af 44 T.toList).1) else none):=H0 (by rw [hV.out,hr,hTl];rfl)
  replace hr:=H0 hr;replace hrl:=H0 hrl;replace hTl:=H0 hTl;clear hV htx;have hlen:=Aa T;have hfd:=H0 (fun w=>Mw T 44 w (by omega))
  have hle:=Tc 44 T.toList;have hupto:Hid ((T.extract 0 (Af 44 T.toList).1.length).toList=(Af 44 T.toList).1):=H0 (by rw [GY,Ms])
  have hl1:(Af 44 T.toList).2.2=true->(Af 44 T.toList).1.length<T.size:=fun h=>by rw [<-hlen];exact Qq h
  have hl0:(Af 44 T.toList).2.2=false->(Af 44 T.toList).1.length=T.size:=fun h=>by rw [<-hlen];exact OI h
  obtain ⟨n,hn⟩:∃ n,(Af 44 T.toList).1.length=n:=⟨_,rfl⟩;rw [hn] at hle hfd hupto hl1 hl0;rw [hlen] at hle;replace hlen:=H0 hlen;replace hn:=H0 hn;cases hm:(Af 44 T.toList).2.2
  ·have hno:Hid (DG u=none):=H0 (by rw [hD.out,if_neg (by rw [hm];decide)])
   have hq:((n:Int)==(T.size:Int))=true:=by rw [hl0 hm];simp
   clear hl1 hl0 hupto;replace hm:=H0 hm;go_wp2_with fail;refine (hfd.out _).mono ?_;rintro e w' ⟨rfl,rfl⟩;go_wp2_with fail;go_ret2;exact ⟨⟨#[]⟩,by rw [hno.out];rfl,H0 (by rw [hno.out];exact e0.out),hB⟩
  ·obtain ⟨H,hH⟩:=N2 (T.extract 0 n);have hHz:H.size<=900000000:=by rw [<-hH,ByteArray.size_extract];omega
   rw [hH] at hupto;have hyes:Hid (DG u=some (JC H.toList)):=H0 (by rw [hD.out,if_pos hm,hupto.out])
   have hq:((n:Int)==(T.size:Int))=false:=by have:=hl1 hm;rw [beq_eq_false_iff_ne];omega
   have hn1:(n:Int)<=(T.size:Int):=by omega
   clear hl1 hl0 hD hupto;replace hm:=H0 hm;go_wp2_with fail;refine (hfd.out _).mono ?_;rintro e w' ⟨rfl,rfl⟩;go_wp2_with fail;refine (Xj H _ (by omega)).mono ?_
   rintro e w5 ⟨ts,rfl,hts,hb⟩;have hB3:=hB.next hb
   have htsz:ts.size<=900000000:=by
    rw [<-Aa,hts.out];have:=Rs H.toList;rw [Aa] at this;omega
   clear hb hB;go_wp2_with fail;refine (ZR ts _ (by omega)).mono ?_
   rintro e w6 ⟨tq,rfl,htq,hb⟩;have hB4:=hB3.next hb
   have htqz:tq.size<=900000000:=by
    rw [<-Aa,htq.out];have:=R9 ts.toList;rw [Aa] at this;omega
   have hty:Hid (JC H.toList=(GS (if tq.toList.head? =some 59 then FU++tq.toList else tq.toList)).getD FU):=H0 (by
    unfold JC;rw [htq.out,hts.out])
   clear hb hB3 hts htq;have hplain:(ByteArray.mk #[116,101,120,116,47,112,108,97,105,110]).toList=FU:=toList_mk _
   obtain ⟨tx,htx,htxz,hway⟩:∃ tx:ByteArray,Hid (JC H.toList=(GS tx.toList).getD FU)/\tx.size<=900000010/\
     ((tq.toList.isEmpty=true/\tx=tq)\/(∃ h:0<tq.size,(!tq.toList.isEmpty)=true/\((tq[0].toNat:Int)==59)=true/\tx=⟨#[116,101,120,116,47,112,108,97,105,110]⟩++tq)\/(∃ h:0<tq.size,(!tq.toList.isEmpty)=true/\((tq[0].toNat:Int)==59)=false/\tx=tq)):=by
    by_cases h0:0<tq.size
    ·have he:=Ca tq h0
     by_cases h:tq[0]=59
     ·refine ⟨⟨#[116,101,120,116,47,112,108,97,105,110]⟩++tq,H0 ?_,?_,.inr (.inl ⟨h0,by rw [he];rfl,by rw [h];rfl,rfl⟩)⟩
      ·rw [hty.out,if_pos (by rw [he,h];rfl),toList_append,hplain]
      ·rw [ByteArray.size_append];show 10+tq.size<=_;omega
     ·refine ⟨tq,H0 ?_,by omega,.inr (.inr ⟨h0,by rw [he];rfl,(u8q (d:=59)).2 h,rfl⟩)⟩
      rw [hty.out,if_neg (by rw [he];exact fun x=>h (Option.some.inj x))]
    ·have he:=(At tq).2 (by omega)
     exact ⟨tq,H0 (by rw [hty.out,he];rfl),by omega,.inl ⟨by rw [he];rfl,rfl⟩⟩
   replace hplain:=H0 hplain;clear hty;obtain ⟨o,ho⟩:=N2 (GS tx.toList);have hes:=H0 (fun w=>ho ▸ SN tx w (by omega))
   have hfin:Hid (DG u=some (o.getD FU)):=H0 (by rw [hyes.out,htx.out,ho])
   replace ho:=H0 ho;rcases hway with ⟨q1,rfl⟩ | ⟨h0,q1,q2,rfl⟩ | ⟨h0,q1,q2,rfl⟩
   all_goals
    go_wp2_with fail;refine (hes.out _).mono ?_;rintro e w8 ⟨tr,rfl,htr,hb⟩;have hB5:=hB4.next hb
    clear hb hes
    cases o with
    | none=>
     go_wp2_with fail;go_ret2;exact ⟨⟨#[116,101,120,116,47,112,108,97,105,110]⟩,by rw [hfin.out];rfl,H0 (by rw [hfin.out];exact hplain.out),hB5⟩
    | some l=>
     go_wp2_with fail;go_ret2;exact ⟨tr,by rw [hfin.out];rfl,H0 (by rw [hfin.out];exact htr.out),hB5⟩
 ·have hdI:(u.scheme.toList==[100,97,116,97])=false:=by simpa [GH] using hd
  have hdN:(u.scheme.toList != [100,97,116,97])=true:=by simpa [GH] using hd
  have hno:Hid (DG u=none):=H0 (by unfold DG;rw [if_neg hd])
  replace hd:=H0 hd;go_enter func35,ntmps35;go_wp2_with fail;go_ret2;exact ⟨⟨#[]⟩,by rw [hno.out];rfl,H0 (by rw [hno.out];exact e0),hB⟩
theorem Aca (s p:List UInt8):Lib.hasSuffix s p=(s.drop (s.length - p.length)==p):=by
 unfold Lib.hasSuffix;rw [Bool.eq_iff_iff,List.isSuffixOf_iff_suffix,List.suffix_iff_eq_drop,beq_iff_eq];exact eq_comm
theorem AeK (s:List UInt8):Lib.hasPrefix s [46]=(s.head? ==some 46):=by
 cases s with
 | nil=>rfl
 | cons c r=>
  unfold Lib.hasPrefix;show ((46:UInt8)==c && List.isPrefixOf [] r)=(some c==some 46)
  have:List.isPrefixOf ([]:List UInt8) r=true:=by cases r<;>rfl
  rw [this,Bool.and_true,Bool.eq_iff_iff,beq_iff_eq,beq_iff_eq,Option.some.injEq];exact eq_comm
inductive Vf (k:Int) (t e:ByteArray):Bool->Prop where
 | star (h:(e.toList==[42])=true):Vf k t e true
 | same (h0:(e.toList==[42])=false) (h:(e.toList==t.toList)=true):Vf k t e true
 | kind (h0:(e.toList==[42])=false) (h1:(e.toList==t.toList)=false) (h:(k==2)=false):Vf k t e false
 | long (h0:(e.toList==[42])=false) (h1:(e.toList==t.toList)=false) (h2:(k==2)=true) (h:(t.size:Int) - (e.size:Int)<=0):Vf k t e false
 | none (h0:(e.toList==[42])=false) (h1:(e.toList==t.toList)=false) (h2:(k==2)=true) (h3:(0:Int)<(t.size:Int) - (e.size:Int)) (h:e.toList.isEmpty=true):Vf k t e false
 | dot (c:UInt8) (h0:(e.toList==[42])=false) (h1:(e.toList==t.toList)=false) (h2:(k==2)=true) (h3:(0:Int)<(t.size:Int) - (e.size:Int)) (h4:e.toList.isEmpty=false) (hz:0<e.size) (hc:e.toList=c :: e.toList.tail) (h:(c==46)=false):Vf k t e false
 | tail (b:Bool) (c:UInt8) (h0:(e.toList==[42])=false) (h1:(e.toList==t.toList)=false) (h2:(k==2)=true) (h3:(0:Int)<(t.size:Int) - (e.size:Int)) (h4:e.toList.isEmpty=false) (hz:0<e.size) (hc:e.toList=c :: e.toList.tail) (h5:(c==46)=true) (h:(t.toList.drop (t.size - e.size)==e.toList)=b):Vf k t e b
theorem AdZ (h:CL) (t e:ByteArray) (ht:t.toList=Fa h):Vf h.kind t e (G8 h e):=by
 unfold G8;rw [<-ht];cases h0:e.toList==[42];rotate_left
 ·rw [Bool.or_true,Bool.true_or];exact .star h0
 cases h1:e.toList==t.toList;rotate_left
 ·rw [Bool.true_or,Bool.true_or];exact .same h0 h1
 rw [Bool.false_or,Bool.false_or]
 by_cases hk:h.kind=2
 rotate_left
 ·have h2:(h.kind==2)=false:=by simpa using hk
  rw [decide_eq_false hk,Bool.and_false,Bool.false_and,Bool.false_and];exact .kind h0 h1 h2
 have h2:(h.kind==2)=true:=by simpa using hk
 have hn:h.name.toList=t.toList:=by rw [ht];unfold Fa;rw [if_pos (.inl hk)]
 have hns:h.name.size=t.size:=by rw [<-Aa,<-Aa,hn]
 rw [decide_eq_true hk,Bool.and_true,hns,hn]
 by_cases hl:e.size<t.size
 rotate_left
 ·rw [decide_eq_false hl,Bool.and_false,Bool.false_and];exact .long h0 h1 h2 (by omega)
 have h3:(0:Int)<(t.size:Int) - (e.size:Int):=by omega
 rw [decide_eq_true hl,Bool.and_true]
 cases hE:e.toList with
 | nil=>
  have:Lib.hasPrefix ([]:List UInt8) [46]=false:=rfl;rw [this,Bool.false_and];exact .none h0 h1 h2 h3 (by rw [hE];rfl)
 | cons c r=>
  have h4:e.toList.isEmpty=false:=by rw [hE];rfl
  have hz:0<e.size:=by rw [<-Aa,hE];exact Nat.zero_lt_succ _
  have hc:e.toList=c :: e.toList.tail:=by rw [hE];rfl
  rw [<-hE];have hp:Lib.hasPrefix e.toList [46]=(c==46):=by rw [AeK,hE];rfl
  rw [hp];cases h5:c==46
  ·rw [Bool.false_and];exact .dot c h0 h1 h2 h3 h4 hz hc h5
  ·rw [Bool.true_and,Aca,Aa,Aa];exact .tail _ c h0 h1 h2 h3 h4 hz hc h5 rfl
theorem Qv {l:List ByteArray} {k:Nat} (h:k<l.length) (f:ByteArray->Bool):(l.take (k+1)).any f=((l.take k).any f || f l[k]):=by
 rw [List.take_succ_eq_append_getElem h,List.any_append];simp
theorem Ab6 {c:UInt8} (h:(c==46)=false):((c.toNat:Int)==46)=false:=by
 rw [beq_eq_false_iff_ne] at h⊢;intro e;exact h (UInt8.toNat_inj.1 (by show c.toNat=46;omega))
theorem Zv {c:UInt8} (h:(c==46)=true):((c.toNat:Int)==46)=true:=by
 rw [beq_iff_eq] at h;rw [h];rfl
theorem TD {l:List ByteArray} {k:Nat} (h:l.length<=k) (f:ByteArray->Bool):(l.take k).any f=l.any f:=by
 rw [List.take_of_length_le h]
theorem LF.drewN {w wx:World} {A:Array Value} {TA:TypeId} {B:Array Value} {TB:TypeId} (h:LF w wx A TA B TB) (n:Nat):LF w (wx.drewN n) A TA B TB:=⟨below_drewN h.below n,h.a,h.b,h.size⟩
theorem Up (p:C6) (u:Al) (w:World) (hp:Eb w p) (hpu:Fs w u) (fit:Gs u) (hz:(Eg u false).length<=900000000):
  Calls prog 14 #[.agg (By p),.agg (Ab u)] w (IY w (CI p.schemes.l p.hosts.l p.types.l u)):=by
 obtain ⟨⟨sa,sc,sl⟩,⟨ha,hc,hl⟩,⟨ta,tc,tl⟩,pm⟩:=p;have hI:=LF.start w (By ⟨⟨sa,sc,sl⟩,⟨ha,hc,hl⟩,⟨ta,tc,tl⟩,pm⟩) 24 (Ab u) 34;have hA:Hid (CI sl hl tl u=(FI sl u.scheme.toList && hostA hl u.host && NO tl u)):=rfl;obtain ⟨P,hPd⟩:∃ P:Array Value,By ⟨⟨sa,sc,sl⟩,⟨ha,hc,hl⟩,⟨ta,tc,tl⟩,pm⟩=P:=⟨_,rfl⟩;have hP0:P[0]? =some (.slice sa sl.length sc):=by rw [<-hPd];rfl
 have hP1:P[1]? =some (.slice ha hl.length hc):=by rw [<-hPd];rfl
 have hP2:P[2]? =some (.slice ta tl.length tc):=by rw [<-hPd];rfl
 have hs1:EY w ⟨sa,sc,sl⟩:=hp.schemes;have hs2:EY w ⟨ha,hc,hl⟩:=hp.hosts;have hs3:EY w ⟨ta,tc,tl⟩:=hp.types;show Calls _ _ _ w (IY w (CI sl hl tl u));rw [hPd] at hI⊢;replace hPd:=H0 hPd;replace hs1:=H0 hs1;replace hs2:=H0 hs2;replace hs3:=H0 hs3;replace hP0:=H0 hP0;replace hP1:=H0 hP1;replace hP2:=H0 hP2;clear hp;go_enter func14,ntmps14;go_upto_region 2 with (fail)
 refine Ar (R:=fun wx=>LF w wx P 24 (Ab u) 34) hI ?_
 clear hI;rintro w0 hI;go_wp2_with fail;have hn1:=hs1.out.n;unfold maxLen at hn1;go_loopw [5,6] (fun s5 iv wr=>∃ (k:Nat) (b:Bool),s5= .bool b/\iv= .int .i64 (k:Int)/\k<=sl.length/\Hid (b=(sl.take k).any (fun x=>x.toList==u.scheme.toList))/\LF w wr P 24 (Ab u) 34) (fun _ iv _=>sl.length - (intOf iv).toNat)
 case atStart=>exact ⟨0,false,rfl,rfl,Nat.zero_le _,H0 rfl,hI⟩
 case round=>
  obtain ⟨k,b,rfl,rfl,hk,hb,hJ⟩:=hrel;clear hI;have x0:=(cell_of_row _ _ 0 _ _ _ hJ.a).trans hP0.out;have y0:=(cell_of_row _ _ 0 _ _ _ hJ.b).trans (show (Ab u)[0]? =some (.string u.scheme) from rfl)
  by_cases hlt:k<sl.length
  ·have z1:(k:Int)<(sl.length:Int):=by omega
   have hnx:=H0 (Qv hlt (fun x=>x.toList==u.scheme.toList))
   obtain ⟨g1,o1,hsa,hcell⟩:=hs1.out.cells (by show 0<sl.length;omega)
   replace hsa:sa=some ⟨g1,o1,none⟩:=hsa;subst hsa;have x1:=hcell k hlt;have b1:=World.block_lt_of_cell? w _ x1;have y1:wr.cell? ⟨g1,o1+k,none⟩=some (.string sl[k]):=(hJ.below.cell (by simpa using b1)).trans x1
   clear hcell x1 b1
   cases b with
   | true=>
    go_wp2_with fail;go_quiet (fail);go_wp2_with fail;go_roundw
    case rel=>exact ⟨k+1,true,rfl,by go_num,by omega,H0 (by rw [hnx.out,<-hb.out];rfl),hJ.drewN _⟩
    case measure=>simp [intOf];omega
   | false=>
    cases hq:sl[k].toList==u.scheme.toList
    ·go_wp2_with fail;go_quiet (fail);go_wp2_with fail;go_roundw
     case rel=>exact ⟨k+1,false,rfl,by go_num,by omega,H0 (by rw [hnx.out,<-hb.out,hq];rfl),hJ.drewN _⟩
     case measure=>simp [intOf];omega
    ·go_wp2_with fail;go_quiet (fail);go_wp2_with fail;go_roundw
     case rel=>exact ⟨k+1,true,rfl,by go_num,by omega,H0 (by rw [hnx.out,<-hb.out,hq];rfl),hJ.drewN _⟩
     case measure=>simp [intOf];omega
  ·have z1:(sl.length:Int)<=(k:Int):=by omega
   have hB1:Hid (b=FI sl u.scheme.toList):=H0 (by rw [hb.out,TD (by omega)];rfl)
   have hk0:Hid (k=sl.length):=H0 (by omega)
   have y3:=(cell_of_row _ _ 3 _ _ _ hJ.b).trans (show (Ab u)[3]? =some (.int .i64 u.host.kind) from rfl)
   have hways:∃ B,Hid (B=Iu u.host)/\((B=true/\((u.host.kind==0)=true\/((u.host.kind==0)=false/\(u.host.kind==1)=true)))\/(B=false/\(u.host.kind==0)=false/\(u.host.kind==1)=false)):=by
    refine ⟨Iu u.host,rfl,?_⟩;unfold Iu
    by_cases h0:u.host.kind=0
    ·exact .inl ⟨by rw [decide_eq_true h0];rfl,.inl (by simpa using h0)⟩
    ·by_cases h1:u.host.kind=1
     ·exact .inl ⟨by rw [decide_eq_true h1,Bool.or_true],.inr ⟨by simpa using h0,by simpa using h1⟩⟩
     ·exact .inr ⟨by rw [decide_eq_false h0,decide_eq_false h1];rfl,by simpa using h0,by simpa using h1⟩
   obtain ⟨B,hBn,hw⟩:=hways;have hcall:=H0 (Sg u.host fit.host);rcases hw with ⟨rfl,hw | ⟨hw,hw2⟩⟩ | ⟨rfl,hw,hw2⟩
   all_goals
    go_wp2_with (first
     | (refine wpList_load_mid rfl 32 _ rfl (w.heap.size+1) 3 rfl (An u.host).toList _ (HX hJ.b) underlying32 rfl (Kd _) ?_)
     | (refine AH (by rfl) ?_;refine wpList_load_mid rfl 32 _ rfl (w.heap.size+1) 3 rfl (An u.host).toList _ (HX hJ.b) underlying32 rfl (Kd _) ?_))
    refine (hcall.out _).mono ?_;rintro e w2 ⟨t,rfl,ht,hb2⟩;have hJ2:=hJ.keep hb2;clear hb2 hJ x0 y0 y3 z1;go_wp2_with fail;have hn2:=hs2.out.n;unfold maxLen at hn2;replace hn2:hl.length<=2 ^ 63 - 1:=hn2
    have htz:t.size<=34359738368:=by
     have h1:=JS u.host fit.name;rw [<-ht.out,Aa] at h1;exact h1
    have hent:=H0 (fun e:ByteArray=>AdZ u.host t e ht.out)
    go_loopw [7,9,10,11] (fun s7 iv s10 s11 wr=>∃ (j:Nat) (b:Bool),s7= .bool b/\iv= .int .i64 (j:Int)/\j<=hl.length/\Hid (b=(Iu u.host || (hl.take j).any (G8 u.host)))/\LF w wr P 24 (Ab u) 34) (fun _ iv _ _ _=>hl.length - (intOf iv).toNat)
    case atStart=>exact ⟨0,_,rfl,rfl,Nat.zero_le _,H0 (by rw [<-hBn.out];rfl),hJ2⟩
    case round=>
     obtain ⟨j,b2,rfl,rfl,hj,hb2,hK⟩:=hrel;clear hJ2 hcall;have x1:=(cell_of_row _ _ 1 _ _ _ hK.a).trans hP1.out;have y3:=(cell_of_row _ _ 3 _ _ _ hK.b).trans (show (Ab u)[3]? =some (.int .i64 u.host.kind) from rfl)
     by_cases hlt2:j<hl.length
     ·have z2:(j:Int)<(hl.length:Int):=by omega
      have hnx:=H0 (Qv hlt2 (G8 u.host));obtain ⟨g2,o2,hsa2,hcell⟩:=hs2.out.cells (by show 0<hl.length;omega)
      replace hsa2:ha=some ⟨g2,o2,none⟩:=hsa2;subst hsa2;have x2:=hcell j hlt2;have b1:=World.block_lt_of_cell? w _ x2;have y1:wr.cell? ⟨g2,o2+j,none⟩=some (.string hl[j]):=(hK.below.cell (by simpa using b1)).trans x2
      have hez:=hs2.out.each hl[j] (List.getElem_mem _);have hE:=hent.out hl[j];unfold maxLen at hez;obtain ⟨E,hEe⟩:=N2 (hl[j]);rw [hEe] at y1 hez hE hnx;replace hEe:=H0 hEe;clear hcell x2 b1;obtain ⟨eb,heb⟩:=N2 (G8 u.host E);rw [heb] at hE hnx;replace heb:=H0 heb;go_upto_region 13 with (fail)
      obtain ⟨N,hN⟩:∃ N:Int,(t.size:Int) - (E.size:Int)=N:=⟨_,rfl⟩;rw [hN];have hNh:=H0 hN;clear hN
      cases b2 with
      | true=>
       go_wp2_with fail;go_roundw
       case rel=>exact ⟨j+1,true,rfl,by go_num,by omega,H0 (by rw [hnx.out,<-Bool.or_assoc,<-hb2.out];rfl),hK⟩
       case measure=>simp [intOf];omega
      | false=>
       cases hE with
       | star h=>
        go_wp2_with fail;go_roundw
        case rel=>exact ⟨j+1,true,rfl,by go_num,by omega,H0 (by rw [hnx.out,<-Bool.or_assoc,<-hb2.out];rfl),hK⟩
        case measure=>simp [intOf];omega
       | same h0 h=>
        go_wp2_with fail;go_roundw
        case rel=>exact ⟨j+1,true,rfl,by go_num,by omega,H0 (by rw [hnx.out,<-Bool.or_assoc,<-hb2.out];rfl),hK⟩
        case measure=>simp [intOf];omega
       | kind h0 h1 h=>
        go_wp2_with fail;go_roundw
        case rel=>exact ⟨j+1,false,rfl,by go_num,by omega,H0 (by rw [hnx.out,<-Bool.or_assoc,<-hb2.out];rfl),hK⟩
        case measure=>simp [intOf];omega
       | long h0 h1 h2 h=>
        rw [hNh.out] at h;go_wp2_with fail;go_roundw
        case rel=>exact ⟨j+1,false,rfl,by go_num,by omega,H0 (by rw [hnx.out,<-Bool.or_assoc,<-hb2.out];rfl),hK⟩
        case measure=>simp [intOf];omega
       | none h0 h1 h2 h3 h=>
        rw [hNh.out] at h3;go_wp2_with fail;go_roundw
        case rel=>exact ⟨j+1,false,rfl,by go_num,by omega,H0 (by rw [hnx.out,<-Bool.or_assoc,<-hb2.out];rfl),hK⟩
        case measure=>simp [intOf];omega
       | dot c h0 h1 h2 h3 h4 hz h5 h=>
        rw [hNh.out] at h3
        have hq:E[0]=c:=by
         rw [<-CS E 0 hz];exact (List.getElem_of_eq h5 _).trans rfl
        have e46:((c.toNat:Int)==46)=false:=Ab6 h;have hn0:(0:Int)<(E.size:Int):=by omega
        replace h5:=H0 h5;have b0:=AC c;have b1:=AK c;replace h:=H0 h;go_wp2_with fail;go_roundw
        case rel=>exact ⟨j+1,false,rfl,by go_num,by omega,H0 (by rw [hnx.out,<-Bool.or_assoc,<-hb2.out];rfl),hK⟩
        case measure=>simp [intOf];omega
       | tail b3 c h0 h1 h2 h3 h4 hz h5 h6 h=>
        have hq:E[0]=c:=by
         rw [<-CS E 0 hz];exact (List.getElem_of_eq h5 _).trans rfl
        have e46:((c.toNat:Int)==46)=true:=Zv h6;have hn0:(0:Int)<(E.size:Int):=by omega
        replace h5:=H0 h5;have b0:=AC c;have b1:=AK c;replace h6:=H0 h6;obtain ⟨m,rfl⟩:∃ m:Nat,N=(m:Int):=⟨t.size - E.size,by have:=hNh.out;omega⟩
        have hmN:t.size - E.size=m:=by have:=hNh.out;omega
        rw [hmN] at h;have hmz:m<=t.size:=by omega
        have hmI:(m:Int)<=(t.size:Int):=by omega
        have hx:((t.extract m t.size).toList==E.toList)=eb:=by
         rw [toList_extract,List.take_of_length_le (by rw [Aa];omega)];exact h
        replace h:=H0 h;rw [hNh.out] at h3;go_wp2_with fail;go_roundw
        case rel=>exact ⟨j+1,eb,rfl,by go_num,by omega,H0 (by rw [hnx.out,<-Bool.or_assoc,<-hb2.out];rfl),hK⟩
        case measure=>simp [intOf];omega
     ·have z2:(hl.length:Int)<=(j:Int):=by omega
      have hB2:Hid (b2=hostA hl u.host):=H0 (by rw [hb2.out,TD (by omega)];rfl)
      have y0:=(cell_of_row _ _ 0 _ _ _ hK.b).trans (show (Ab u)[0]? =some (.string u.scheme) from rfl);clear hb2 hent
      by_cases hd:u.scheme.toList=GH
      ·have hdI:(u.scheme.toList==[100,97,116,97])=true:=by rw [hd];rfl
       have hdN:(u.scheme.toList != [100,97,116,97])=false:=by rw [hd];rfl
       have hT:Hid (CI sl hl tl u=(b && b2 && (match DG u with | none=>false | some e=>FI tl e))):=H0 (by
        rw [hA.out,<-hB1.out,<-hB2.out];unfold NO;rw [if_pos hd];rfl)
       replace hd:=H0 hd;go_wp2_with (refine wpList_load_row rfl 34 _ rfl (w.heap.size+1) rfl _ (Ab u) _ _ hK.b underlying34 rfl Fv ?_);refine (Abn u _ (hpu.below hK.below (Nat.le_refl _)) fit hz).mono ?_;rintro e w3 ⟨t2,rfl,htx,hbb⟩;have hL:=hK.keep hbb;clear hbb hK x1 y3 y0;obtain ⟨o,ho⟩:=N2 (DG u);rw [ho] at hT htx⊢;replace ho:=H0 ho
       have hT1:Hid (CI sl hl tl u=(b && b2 && (o.isSome && FI tl t2.toList))):=H0 (by
        rw [hT.out]
        cases o with
        | none=>rfl
        | some l=>rw [htx.out];rfl)
       clear hT htx;obtain ⟨ok,hok⟩:=N2 (o.isSome);rw [hok] at hT1⊢;replace hok:=H0 hok;go_wp2_with fail;have hn3:=hs3.out.n;unfold maxLen at hn3;replace hn3:tl.length<=2 ^ 63 - 1:=hn3;go_loopw [14,15] (fun s14 iv wr=>∃ (q:Nat) (b3:Bool),s14= .bool b3/\iv= .int .i64 (q:Int)/\q<=tl.length/\Hid (b3=(tl.take q).any (fun x=>x.toList==t2.toList))/\LF w wr P 24 (Ab u) 34) (fun _ iv _=>tl.length - (intOf iv).toNat)
       case atStart=>exact ⟨0,false,rfl,rfl,Nat.zero_le _,H0 rfl,hL⟩
       case round=>
        obtain ⟨q,b3,rfl,rfl,hq0,hb3,hM⟩:=hrel;clear hL;have x2:=(cell_of_row _ _ 2 _ _ _ hM.a).trans hP2.out
        by_cases hlt3:q<tl.length
        ·have z3:(q:Int)<(tl.length:Int):=by omega
         have hnx:=H0 (Qv hlt3 (fun x=>x.toList==t2.toList))
         obtain ⟨g3,o3,hsa3,hcell⟩:=hs3.out.cells (by show 0<tl.length;omega)
         replace hsa3:ta=some ⟨g3,o3,none⟩:=hsa3;subst hsa3;have x3:=hcell q hlt3;have b1:=World.block_lt_of_cell? w _ x3;have y1:wr.cell? ⟨g3,o3+q,none⟩=some (.string tl[q]):=(hM.below.cell (by simpa using b1)).trans x3
         clear hcell x3 b1
         cases b3 with
         | true=>
           go_wp2_with fail;go_roundw
           case rel=>exact ⟨q+1,true,rfl,by go_num,by omega,H0 (by rw [hnx.out,<-hb3.out];rfl),hM⟩
           case measure=>simp [intOf];omega
         | false=>
          cases hq:tl[q].toList==t2.toList
          ·go_wp2_with fail;go_roundw
           case rel=>exact ⟨q+1,false,rfl,by go_num,by omega,H0 (by rw [hnx.out,<-hb3.out,hq];rfl),hM⟩
           case measure=>simp [intOf];omega
          ·go_wp2_with fail;go_roundw
           case rel=>exact ⟨q+1,true,rfl,by go_num,by omega,H0 (by rw [hnx.out,<-hb3.out,hq];rfl),hM⟩
           case measure=>simp [intOf];omega
        ·have z3:(tl.length:Int)<=(q:Int):=by omega
         have hT2:Hid (CI sl hl tl u=(b && b2 && (ok && b3))):=H0 (by
          rw [hT1.out,hb3.out,TD (by omega)];rfl)
         clear hT1 hb3
         cases b with
         | false=>
          go_wp2_with fail;go_ret;exact ⟨AF hT2.out.symm,hM.below⟩
         | true=>
          cases b2 with
          | false=>
           go_wp2_with fail;go_ret;exact ⟨AF hT2.out.symm,hM.below⟩
          | true=>
           cases ok with
           | false=>
            go_wp2_with fail;go_ret;exact ⟨AF hT2.out.symm,hM.below⟩
           | true=>
            go_wp2_with fail;go_ret;exact ⟨AF hT2.out.symm,hM.below⟩
      ·have hdI:(u.scheme.toList==[100,97,116,97])=false:=beq_eq_false_iff_ne.2 hd;have hdN:(u.scheme.toList != [100,97,116,97])=true:=bne_iff_ne.2 hd
       have hT:Hid (CI sl hl tl u=(b && b2)):=H0 (by
        rw [hA.out,<-hB1.out,<-hB2.out];unfold NO;rw [if_neg hd,Bool.and_true])
       replace hd:=H0 hd
       cases b with
       | false=>
        go_wp2_with fail;go_ret;exact ⟨AF hT.out.symm,hK.below⟩
       | true=>
        go_wp2_with fail;go_ret;exact ⟨AF hT.out.symm,hK.below⟩
def QS (p:C6):Nat->Abt | 0=>p.schemes | 1=>p.hosts | _=>p.types
structure Afw (p:C6):Prop where
 s:p.schemes.l.length<=20
 h:p.hosts.l.length<=20
 t:p.types.l.length<=20
def MR (w:World) (p:C6) (e:Ending) (w':World):Prop:=∃ b:Bool,e= .returned (.bool b)/\(b=true->Afw p)/\Below w.heap.size w w'
theorem Md {w w':World} {p:C6} (hb:Below w.heap.size w w'):MR w p (.returned (.bool false)) w':=⟨false,rfl,fun e=>(by cases e),hb⟩
theorem QZ {w w':World} {p:C6} (h:∀ j,j<3->(QS p j).l.length<=20) (hb:Below w.heap.size w w'):MR w p (.returned (.bool true)) w':=
 ⟨true,rfl,fun _=>⟨h 0 (by decide),h 1 (by decide),h 2 (by decide)⟩,hb⟩
theorem Yw (p:C6) (w:World) (hp:Eb w p):Calls prog 7 #[.agg (By p)] w (MR w p):=by
 have hB1:Below w.heap.size w (w.alloc (.cells (By p) 24)):=(Below.refl _ _).alloc (Nat.le_refl _) _;have x0:(w.alloc (.cells (By p) 24)).cell? ⟨w.heap.size,0,none⟩=some (.slice p.schemes.a p.schemes.l.length p.schemes.c):=(World.cell?_alloc_at _ _ _ _ rfl).trans rfl;have x1:(w.alloc (.cells (By p) 24)).cell? ⟨w.heap.size,1,none⟩=some (.slice p.hosts.a p.hosts.l.length p.hosts.c):=(World.cell?_alloc_at _ _ _ _ rfl).trans rfl;have x2:(w.alloc (.cells (By p) 24)).cell? ⟨w.heap.size,2,none⟩=some (.slice p.types.a p.types.l.length p.types.c):=(World.cell?_alloc_at _ _ _ _ rfl).trans rfl;go_enter func7,ntmps7;go_wp2_with fail;refine Ar (R:=fun wx=>Below w.heap.size w wx/\Hid (∀ k,k<3->wx.cell? ⟨w.heap.size+1,k,none⟩=some (.slice (QS p k).a (QS p k).l.length (QS p k).c))) ⟨hB1.alloc hB1.size _,H0 ?_⟩ ?_
 ·intro k hk;have e:=cell_of_row ((w.alloc (.cells (By p) 24)).alloc (.cells #[.slice p.schemes.a p.schemes.l.length p.schemes.c,.slice p.hosts.a p.hosts.l.length p.hosts.c,.slice p.types.a p.types.l.length p.types.c] 22)) (w.heap.size+1) k _ _ _ (Mm (by simp))
  rw [e]
  match k,hk with
  | 0,_=>rfl
  | 1,_=>rfl
  | 2,_=>rfl
 rintro wx ⟨hB,hX⟩
 have hok:Hid (∀ k,k<3->EY w (QS p k)):=H0 (fun k hk=>by
  match k,hk with
  | 0,_=>exact hp.schemes
  | 1,_=>exact hp.hosts
  | 2,_=>exact hp.types)
 clear x0 x1 x2 hB1;generalize w.heap.size+1=g0 at hX⊢;go_loop [4,5] (fun kv _=>∃ k:Nat,kv= .int .i64 k/\k<=3/\Hid (∀ j,j<k->(QS p j).l.length<=20)) (fun kv _=>3 - (intOf kv).toNat)
 case atStart=>exact ⟨0,rfl,by omega,H0 (fun j hj=>by omega)⟩
 case round=>
  obtain ⟨k,rfl,hk,hg⟩:=hrel
  by_cases hk3:k<3
  ·have hkI:(k:Int)<3:=by omega
   have cX:=hX.out k hk3;obtain ⟨hcells,hn,heach,-⟩:=hok.out k hk3
   have hnext:(QS p k).l.length<=20->Hid (∀ j,j<k+1->(QS p j).l.length<=20):=fun h=>H0 (fun j hj=>by
    by_cases e:j=k
    ·subst e;exact h
    ·exact hg.out j (by omega))
   replace hnext:=H0 hnext;unfold maxLen at hn heach;unfold Mt at hcells;generalize QS p k=x at cX hcells hn heach hnext;obtain ⟨pa,pc,l⟩:=x;dsimp only at cX hcells hn heach;replace hcells:=H0 hcells;replace heach:=H0 heach;go_wp2_with fail;go_loop [5] (fun iv=>∃ i:Nat,iv= .int .i64 i/\i<=30) (fun iv=>30 - (intOf iv).toNat)
   case atStart=>exact ⟨0,rfl,by omega⟩
   case round=>
    obtain ⟨i,rfl,hi⟩:=hrel
    by_cases hin:i<l.length/\i<30
    ·obtain ⟨h1,h2⟩:=hin;obtain ⟨g,o,rfl,hc⟩:=hcells.out (by omega)
     have c1:=(hB.cell (p:=⟨g,o+i,none⟩) (by have:=World.block_lt_of_cell? w _ (hc i h1);simpa using this)).trans (hc i h1)
     clear hc;have hez:=heach.out l[i] (List.getElem_mem _);obtain ⟨e,he⟩:=N2 (l[i]);rw [he] at c1 hez;replace he:=H0 he;have h1I:(i:Int)<(l.length:Int):=by omega
     have h2I:(i:Int)<30:=by omega
     by_cases h200:200<e.size
     ·have q:(200:Int)<(e.size:Int):=by omega
      go_wp2_with fail;go_ret;exact Md hB
     ·have q:(e.size:Int)<=200:=by omega
      go_wp2_with fail;go_round
      case rel=>exact ⟨i+1,by go_num,by omega⟩
      case measure=>simp [intOf];omega
    ·have hor:(l.length:Int)<=(i:Int)\/((i:Int)<(l.length:Int)/\(30:Int)<=(i:Int)):=by omega
     clear hin
     by_cases h20:20<l.length
     ·have q:(20:Int)<(l.length:Int):=by omega
      rcases hor with r | ⟨r,r2⟩
      all_goals
       go_wp2_with fail;go_ret;exact Md hB
     ·have q:(l.length:Int)<=20:=by omega
      have hnew:=hnext.out (by show l.length<=20;omega)
      have r:(l.length:Int)<=(i:Int):=by omega
      clear hor;go_wp2_with fail;go_round
      case rel=>exact ⟨k+1,by go_num,by omega,hnew⟩
      case measure=>simp [intOf];omega
  ·have hge:(3:Int)<=(k:Int):=by omega
   have hall:Hid (∀ j,j<3->(QS p j).l.length<=20):=H0 (fun j hj=>hg.out j (by omega))
   go_wp2_with fail;go_ret;exact QZ hall.out hB
end Go.Proofs.YtonomfeipkdmhaaGreatDoor
