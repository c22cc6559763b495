/- Part 17: lemmas. -/
import Derived.Test.YtonomfeipkdmhaaGreatDoorK16
set_option linter.unusedVariables false
set_option linter.unusedSimpArgs false
set_option maxRecDepth 100000
set_option maxHeartbeats 16000000
namespace Go.Proofs.YtonomfeipkdmhaaGreatDoor
open Go.RowKit
def WN (o:List UInt8 × Nat) (w:World) (e:Ending) (w':World):Prop:=∃ t:ByteArray,e= .returned (.tuple #[.string t,.int .i64 (o.2:Int)])/\Hid (t.toList=o.1)/\Below w.heap.size w w'
theorem JU {base n:Nat} {c:UInt8} {r:List UInt8} (h:Ah (c.toNat:Int) (base:Int)<0):AQ base n (c :: r)=(n,0):=by rw [AQ,if_pos h]
theorem Iz {base n:Nat} {c:UInt8} {r:List UInt8} (h:0<=Ah (c.toNat:Int) (base:Int)):
  AQ base n (c :: r)=((AQ base (min (n * base+(Ah (c.toNat:Int) (base:Int)).toNat) 0x110000) r).1,(AQ base (min (n * base+(Ah (c.toNat:Int) (base:Int)).toNat) 0x110000) r).2+1):=by rw [AQ,if_neg (by omega)]
theorem MT (base:Nat):∀ (l:List UInt8) (n:Nat),n<=1114112->(AQ base n l).1<=1114112/\(AQ base n l).2<=l.length
 | [],n,h=>⟨h,Nat.le_refl _⟩
 | c :: r,n,h=>by
  by_cases hd:Ah (c.toNat:Int) (base:Int)<0
  ·rw [JU hd];exact ⟨h,Nat.zero_le _⟩
  ·rw [Iz (by omega)]
   have:=MT base r (min (n * base+(Ah (c.toNat:Int) (base:Int)).toNat) 0x110000) (by omega)
   exact ⟨this.1,by simp;omega⟩
theorem La (c:Int) (b:Int) (hb:b<=36):Ah c b<=35:=by
 unfold Ah;split
 ·omega
 ·omega
theorem MM {l:List UInt8} (h:l.length<=2):isX l=false:=by
 match l,h with
 | [],_=>rfl
 | [a],_=>rfl
 | [a,b],_=>rfl
theorem Aft {l:List UInt8} (h:2<l.length):isX l=(l[2]==120 || l[2]==88):=by
 match l,h with
 | a :: b :: c :: r,_=>rfl
theorem Ra (s:ByteArray) (w:World) (hz:s.size<=1099511627776) (h2:2<=s.size):Calls Tryz.prog 165 #[.string s] w (WN (AZ s.toList) w):=by
 have hsl:=Aa s
 have hF:Hid (A4 s.toList=if isX s.toList=true then 3 else 2):=rfl
 have hB:Hid (DY s.toList=if isX s.toList=true then 16 else 10):=rfl
 have hv:Hid (AZ s.toList=if (AQ (DY s.toList) 0 (s.toList.drop (A4 s.toList))).2=0 then ([38],1) else (CO (AQ (DY s.toList) 0 (s.toList.drop (A4 s.toList))).1,if (s.toList.drop (A4 s.toList+(AQ (DY s.toList) 0 (s.toList.drop (A4 s.toList))).2)).head? =some 59 then A4 s.toList+(AQ (DY s.toList) 0 (s.toList.drop (A4 s.toList))).2+1 else A4 s.toList+(AQ (DY s.toList) 0 (s.toList.drop (A4 s.toList))).2)):=rfl
 have hfl:A4 s.toList<=s.size:=by
  unfold A4;split
  ·rename_i hx
   by_cases h:s.size<=2
   ·rw [MM (by omega)] at hx;cases hx
   ·omega
  ·exact h2
 have hfb:2<=A4 s.toList/\A4 s.toList<=3/\DY s.toList<=16/\10<=DY s.toList:=by
  unfold A4 DY
  split<;>decide
 obtain ⟨F,hFe⟩:=N2 (A4 s.toList);obtain ⟨B,hBe⟩:=N2 (DY s.toList);rw [hFe] at hF hv hfl hfb;rw [hBe] at hB hv hfb;replace hFe:=H0 hFe;replace hBe:=H0 hBe;obtain ⟨R,hR⟩:=N2 (AQ B 0 (s.toList.drop F));rw [hR] at hv
 have hdl:=MT B (s.toList.drop F) 0 (by decide)
 rw [hR,List.length_drop,hsl] at hdl;obtain ⟨N,K⟩:=R;dsimp only at hv hdl
 have hway:(s.size<=2/\F=2/\B=10)\/(∃ h:2<s.size,(s[2]=120\/(s[2]≠120/\s[2]=88))/\F=3/\B=16)\/(∃ h:2<s.size,(s[2]≠120/\s[2]≠88)/\F=2/\B=10):=by
  by_cases h:s.size<=2
  ·left
   have e:=MM (l:=s.toList) (by omega)
   rw [e] at hF hB;exact ⟨h,hF.out,hB.out⟩
  ·have h3:2<s.size:=by omega
   have e:=Aft (l:=s.toList) (by omega)
   rw [CS s 2 h3] at e;rw [e] at hF hB;right
   by_cases e1:s[2]=120
   ·left;rw [e1] at hF hB;exact ⟨h3,.inl e1,hF.out,hB.out⟩
   ·by_cases e2:s[2]=88
    ·left;rw [e2] at hF hB;exact ⟨h3,.inr ⟨e1,e2⟩,hF.out,hB.out⟩
    ·right
     have f1:(s[2]==120)=false:=by simpa using e1
     have f2:(s[2]==88)=false:=by simpa using e2
     rw [f1,f2] at hF hB;exact ⟨h3,⟨e1,e2⟩,hF.out,hB.out⟩
 clear hF hB;replace hR:=H0 hR
 rcases hway with ⟨q1,rfl,rfl⟩ | ⟨h3,⟨q1 | ⟨q1,q2⟩,rfl,rfl⟩⟩ | ⟨h3,⟨⟨q1,q2⟩,rfl,rfl⟩⟩
 ·have q2:(s.size:Int)<=2:=by omega
  go_enter Tryz.func165,Tryz.ntmps165;go_wp2_with fail
  go_loop [6,7] (fun v6 v7=>∃ n k:Nat,v6= .int .i64 n/\v7= .int .i64 ((2:Int)+(k:Int))/\n<=1114112/\2+k<=s.size/\Hid ((N,K)=((AQ 10 n (s.toList.drop (2+k))).1,(AQ 10 n (s.toList.drop (2+k))).2+k))) (fun _ v7=>s.size - (intOf v7).toNat)
  case atStart=>exact ⟨0,0,rfl,rfl,by decide,hfl,H0 (by rw [<-hR.out];rfl)⟩
  case round=>
   obtain ⟨n,k,rfl,rfl,hn,hkz,hrun⟩:=hrel
   have hi0:(0:Int)<=(2:Int)+(k:Int):=by omega
   have hiz:(2:Int)+(k:Int)<=(s.size:Int):=by omega
   have hit:((2:Int)+(k:Int)).toNat=2+k:=by omega
   by_cases hlt:2+k<s.size
   ·exact absurd hlt (by omega)
   ·have hge:(s.size:Int)<=(2:Int)+(k:Int):=by omega
    have hnil:Hid ((s.toList.drop (2+k)).head? =none):=H0 (by rw [AM s (2+k) (by omega)];rfl)
    have hrest:Hid (AQ 10 n (s.toList.drop (2+k))=(n,0)):=H0 (by rw [AM s (2+k) (by omega)];rfl)
    have hfin:Hid (N=n/\K=k):=H0 (by have:=hrun.out;rw [hrest.out] at this;simp only [Prod.mk.injEq] at this;exact ⟨this.1,by omega⟩)
    obtain ⟨hN,hK⟩:=hfin.out;clear hfin;rw [hN,hK] at hv;replace hN:=H0 hN;replace hK:=H0 hK;replace hrest:=H0 hrest;replace hrun:=H0 hrun
    by_cases hk0:k=0
    ·subst hk0
     have hv2:Hid (AZ s.toList=([38],1)):=H0 (by rw [hv.out,if_pos rfl])
     clear hv;go_wp2_with fail;go_ret2
     exact ⟨_,by rw [hv2.out];rfl,H0 (by rw [hv2.out];exact toList_mk [38]),Below.refl _ _⟩
    ·exact absurd hk0 (by omega)
 ·have q2:((s[2].toNat:Int)==120)=true:=by rw [q1];rfl
  have h3I:(2:Int)<(s.size:Int):=by omega
  replace q1:=H0 q1;go_enter Tryz.func165,Tryz.ntmps165;go_wp2_with fail;clear q1 q2
  go_loop [6,7] (fun v6 v7=>∃ n k:Nat,v6= .int .i64 n/\v7= .int .i64 ((3:Int)+(k:Int))/\n<=1114112/\3+k<=s.size/\Hid ((N,K)=((AQ 16 n (s.toList.drop (3+k))).1,(AQ 16 n (s.toList.drop (3+k))).2+k))) (fun _ v7=>s.size - (intOf v7).toNat)
  case atStart=>exact ⟨0,0,rfl,rfl,by decide,hfl,H0 (by rw [<-hR.out];rfl)⟩
  case round=>
   obtain ⟨n,k,rfl,rfl,hn,hkz,hrun⟩:=hrel
   have hi0:(0:Int)<=(3:Int)+(k:Int):=by omega
   have hiz:(3:Int)+(k:Int)<=(s.size:Int):=by omega
   have hit:((3:Int)+(k:Int)).toNat=3+k:=by omega
   by_cases hlt:3+k<s.size
   ·have hltI:(3:Int)+(k:Int)<(s.size:Int):=by omega
    have hdr:=Ao s (3+k) hlt;obtain ⟨c,hc⟩:=N2 (s[3+k]);rw [hc] at hdr;have b0:=AC c;have b1:=AK c
    have hdg:=H0 (fun w=>Bu (c.toNat:Int) 16 w b0 b1)
    have hcons:Hid ((s.toList.drop (3+k)).head? =some c):=H0 (by rw [hdr];rfl)
    by_cases hd:Ah (c.toNat:Int) (16:Int)<0
    ·have hrest:Hid (AQ 16 n (s.toList.drop (3+k))=(n,0)):=H0 (by rw [hdr];exact JU hd)
     have hdz:=hd;replace hdr:=H0 hdr;generalize Ah (c.toNat:Int) (16:Int)=d at hdg hd hdz
     have hfin:Hid (N=n/\K=k):=H0 (by have:=hrun.out;rw [hrest.out] at this;simp only [Prod.mk.injEq] at this;exact ⟨this.1,by omega⟩)
     obtain ⟨hN,hK⟩:=hfin.out;clear hfin;rw [hN,hK] at hv;replace hN:=H0 hN;replace hK:=H0 hK;replace hrest:=H0 hrest;replace hrun:=H0 hrun
     by_cases hk0:k=0
     ·subst hk0
      have hv2:Hid (AZ s.toList=([38],1)):=H0 (by rw [hv.out,if_pos rfl])
      clear hv;go_wp2_with (go_at_call 155;refine (hdg.out _).mono ?_;rintro e w' ⟨rfl,rfl⟩);go_ret2
      exact ⟨_,by rw [hv2.out];rfl,H0 (by rw [hv2.out];exact toList_mk [38]),Below.refl _ _⟩
     ·have k0:(((3:Int)+(k:Int))==(3:Int))=false:=by rw [beq_eq_false_iff_ne];omega
      have hnum:=H0 (fun w=>EC n w hn)
      by_cases h59:c=59
      ·have e59:((c.toNat:Int)==59)=true:=by rw [h59];rfl
       have hv2:Hid (AZ s.toList=(CO n,3+k+1)):=H0 (by rw [hv.out,if_neg hk0,hcons.out,h59];rfl)
       clear hv;replace h59:=H0 h59;go_wp2_with (go_at_call 155;refine (hdg.out _).mono ?_;rintro e w' ⟨rfl,rfl⟩);refine (hnum.out _).mono ?_;rintro e w2 ⟨t,rfl,ht,hb⟩;go_wp2_with fail;go_ret2
       exact ⟨t,by rw [hv2.out];first | rfl | (congr 4<;>omega),H0 (by rw [hv2.out];exact ht.out),hb⟩
      ·have e59:((c.toNat:Int)==59)=false:=by rw [beq_eq_false_iff_ne];intro e;exact h59 (UInt8.toNat_inj.1 (by show c.toNat=59;omega))
       have hv2:Hid (AZ s.toList=(CO n,3+k)):=H0 (by rw [hv.out,if_neg hk0,hcons.out,if_neg (by intro e;exact h59 (Option.some.inj e))])
       clear hv;replace h59:=H0 h59;go_wp2_with (go_at_call 155;refine (hdg.out _).mono ?_;rintro e w' ⟨rfl,rfl⟩);refine (hnum.out _).mono ?_;rintro e w2 ⟨t,rfl,ht,hb⟩;go_wp2_with fail;go_ret2
       exact ⟨t,by rw [hv2.out];first | rfl | (congr 4<;>omega),H0 (by rw [hv2.out];exact ht.out),hb⟩
    ·have hd0:0<=Ah (c.toNat:Int) (16:Int):=by omega
     have hd1:=La (c.toNat:Int) (16:Int) (by decide)
     have hrest:Hid (AQ 16 n (s.toList.drop (3+k))=((AQ 16 (min (n * 16+(Ah (c.toNat:Int) (16:Int)).toNat) 0x110000) (s.toList.drop (3+(k+1)))).1,(AQ 16 (min (n * 16+(Ah (c.toNat:Int) (16:Int)).toNat) 0x110000) (s.toList.drop (3+(k+1)))).2+1)):=H0 (by rw [hdr];exact Iz hd0)
     obtain ⟨m,hm⟩:∃ m:Nat,Ah (c.toNat:Int) (16:Int)=m:=⟨(Ah (c.toNat:Int) (16:Int)).toNat,by omega⟩
     rw [hm] at hdg hrest hd1;rw [Int.toNat_natCast] at hrest
     have hnx:Hid ((N,K)=((AQ 16 (min (n * 16+m) 0x110000) (s.toList.drop (3+(k+1)))).1,(AQ 16 (min (n * 16+m) 0x110000) (s.toList.drop (3+(k+1)))).2+(k+1))):=H0 (by rw [hrun.out,hrest.out];simp only [Prod.mk.injEq,true_and];omega)
     replace hdr:=H0 hdr;replace hd:=H0 hd;replace hm:=H0 hm;clear hd0;go_wp2_with (go_at_call 155;refine (hdg.out _).mono ?_;rintro e w' ⟨rfl,rfl⟩);go_round
     case rel=>exact ⟨min (n * 16+m) 0x110000,k+1,by first | rfl | (congr 1<;>omega) | (simp;omega),by first | rfl | (congr 1<;>omega),by omega,by omega,hnx⟩
     case measure=>simp [intOf];omega
   ·have hge:(s.size:Int)<=(3:Int)+(k:Int):=by omega
    have hnil:Hid ((s.toList.drop (3+k)).head? =none):=H0 (by rw [AM s (3+k) (by omega)];rfl)
    have hrest:Hid (AQ 16 n (s.toList.drop (3+k))=(n,0)):=H0 (by rw [AM s (3+k) (by omega)];rfl)
    have hfin:Hid (N=n/\K=k):=H0 (by have:=hrun.out;rw [hrest.out] at this;simp only [Prod.mk.injEq] at this;exact ⟨this.1,by omega⟩)
    obtain ⟨hN,hK⟩:=hfin.out;clear hfin;rw [hN,hK] at hv;replace hN:=H0 hN;replace hK:=H0 hK;replace hrest:=H0 hrest;replace hrun:=H0 hrun
    by_cases hk0:k=0
    ·subst hk0
     have hv2:Hid (AZ s.toList=([38],1)):=H0 (by rw [hv.out,if_pos rfl])
     clear hv;go_wp2_with fail;go_ret2
     exact ⟨_,by rw [hv2.out];rfl,H0 (by rw [hv2.out];exact toList_mk [38]),Below.refl _ _⟩
    ·have k0:(((3:Int)+(k:Int))==(3:Int))=false:=by rw [beq_eq_false_iff_ne];omega
     have hnum:=H0 (fun w=>EC n w hn)
     have hv2:Hid (AZ s.toList=(CO n,3+k)):=H0 (by rw [hv.out,if_neg hk0,hnil.out];rfl)
     clear hv;go_wp2_with fail;refine (hnum.out _).mono ?_;rintro e w2 ⟨t,rfl,ht,hb⟩;go_wp2_with fail;go_ret2
     exact ⟨t,by rw [hv2.out];first | rfl | (congr 4<;>omega),H0 (by rw [hv2.out];exact ht.out),hb⟩
 ·have q3:((s[2].toNat:Int)==120)=false:=by rw [q2];rfl
  have q4:((s[2].toNat:Int)==88)=true:=by rw [q2];rfl
  have h3I:(2:Int)<(s.size:Int):=by omega
  replace q1:=H0 q1;replace q2:=H0 q2;go_enter Tryz.func165,Tryz.ntmps165;go_wp2_with fail;clear q1 q2
  go_loop [6,7] (fun v6 v7=>∃ n k:Nat,v6= .int .i64 n/\v7= .int .i64 ((3:Int)+(k:Int))/\n<=1114112/\3+k<=s.size/\Hid ((N,K)=((AQ 16 n (s.toList.drop (3+k))).1,(AQ 16 n (s.toList.drop (3+k))).2+k))) (fun _ v7=>s.size - (intOf v7).toNat)
  case atStart=>exact ⟨0,0,rfl,rfl,by decide,hfl,H0 (by rw [<-hR.out];rfl)⟩
  case round=>
   obtain ⟨n,k,rfl,rfl,hn,hkz,hrun⟩:=hrel
   have hi0:(0:Int)<=(3:Int)+(k:Int):=by omega
   have hiz:(3:Int)+(k:Int)<=(s.size:Int):=by omega
   have hit:((3:Int)+(k:Int)).toNat=3+k:=by omega
   by_cases hlt:3+k<s.size
   ·have hltI:(3:Int)+(k:Int)<(s.size:Int):=by omega
    have hdr:=Ao s (3+k) hlt;obtain ⟨c,hc⟩:=N2 (s[3+k]);rw [hc] at hdr;have b0:=AC c;have b1:=AK c
    have hdg:=H0 (fun w=>Bu (c.toNat:Int) 16 w b0 b1)
    have hcons:Hid ((s.toList.drop (3+k)).head? =some c):=H0 (by rw [hdr];rfl)
    by_cases hd:Ah (c.toNat:Int) (16:Int)<0
    ·have hrest:Hid (AQ 16 n (s.toList.drop (3+k))=(n,0)):=H0 (by rw [hdr];exact JU hd)
     have hdz:=hd;replace hdr:=H0 hdr;generalize Ah (c.toNat:Int) (16:Int)=d at hdg hd hdz
     have hfin:Hid (N=n/\K=k):=H0 (by have:=hrun.out;rw [hrest.out] at this;simp only [Prod.mk.injEq] at this;exact ⟨this.1,by omega⟩)
     obtain ⟨hN,hK⟩:=hfin.out;clear hfin;rw [hN,hK] at hv;replace hN:=H0 hN;replace hK:=H0 hK;replace hrest:=H0 hrest;replace hrun:=H0 hrun
     by_cases hk0:k=0
     ·subst hk0
      have hv2:Hid (AZ s.toList=([38],1)):=H0 (by rw [hv.out,if_pos rfl])
      clear hv;go_wp2_with (go_at_call 155;refine (hdg.out _).mono ?_;rintro e w' ⟨rfl,rfl⟩);go_ret2
      exact ⟨_,by rw [hv2.out];rfl,H0 (by rw [hv2.out];exact toList_mk [38]),Below.refl _ _⟩
     ·have k0:(((3:Int)+(k:Int))==(3:Int))=false:=by rw [beq_eq_false_iff_ne];omega
      have hnum:=H0 (fun w=>EC n w hn)
      by_cases h59:c=59
      ·have e59:((c.toNat:Int)==59)=true:=by rw [h59];rfl
       have hv2:Hid (AZ s.toList=(CO n,3+k+1)):=H0 (by rw [hv.out,if_neg hk0,hcons.out,h59];rfl)
       clear hv;replace h59:=H0 h59;go_wp2_with (go_at_call 155;refine (hdg.out _).mono ?_;rintro e w' ⟨rfl,rfl⟩);refine (hnum.out _).mono ?_;rintro e w2 ⟨t,rfl,ht,hb⟩;go_wp2_with fail;go_ret2
       exact ⟨t,by rw [hv2.out];first | rfl | (congr 4<;>omega),H0 (by rw [hv2.out];exact ht.out),hb⟩
      ·have e59:((c.toNat:Int)==59)=false:=by rw [beq_eq_false_iff_ne];intro e;exact h59 (UInt8.toNat_inj.1 (by show c.toNat=59;omega))
       have hv2:Hid (AZ s.toList=(CO n,3+k)):=H0 (by rw [hv.out,if_neg hk0,hcons.out,if_neg (by intro e;exact h59 (Option.some.inj e))])
       clear hv;replace h59:=H0 h59;go_wp2_with (go_at_call 155;refine (hdg.out _).mono ?_;rintro e w' ⟨rfl,rfl⟩);refine (hnum.out _).mono ?_;rintro e w2 ⟨t,rfl,ht,hb⟩;go_wp2_with fail;go_ret2
       exact ⟨t,by rw [hv2.out];first | rfl | (congr 4<;>omega),H0 (by rw [hv2.out];exact ht.out),hb⟩
    ·have hd0:0<=Ah (c.toNat:Int) (16:Int):=by omega
     have hd1:=La (c.toNat:Int) (16:Int) (by decide)
     have hrest:Hid (AQ 16 n (s.toList.drop (3+k))=((AQ 16 (min (n * 16+(Ah (c.toNat:Int) (16:Int)).toNat) 0x110000) (s.toList.drop (3+(k+1)))).1,(AQ 16 (min (n * 16+(Ah (c.toNat:Int) (16:Int)).toNat) 0x110000) (s.toList.drop (3+(k+1)))).2+1)):=H0 (by rw [hdr];exact Iz hd0)
     obtain ⟨m,hm⟩:∃ m:Nat,Ah (c.toNat:Int) (16:Int)=m:=⟨(Ah (c.toNat:Int) (16:Int)).toNat,by omega⟩
     rw [hm] at hdg hrest hd1;rw [Int.toNat_natCast] at hrest
     have hnx:Hid ((N,K)=((AQ 16 (min (n * 16+m) 0x110000) (s.toList.drop (3+(k+1)))).1,(AQ 16 (min (n * 16+m) 0x110000) (s.toList.drop (3+(k+1)))).2+(k+1))):=H0 (by rw [hrun.out,hrest.out];simp only [Prod.mk.injEq,true_and];omega)
     replace hdr:=H0 hdr;replace hd:=H0 hd;replace hm:=H0 hm;clear hd0;go_wp2_with (go_at_call 155;refine (hdg.out _).mono ?_;rintro e w' ⟨rfl,rfl⟩);go_round
     case rel=>exact ⟨min (n * 16+m) 0x110000,k+1,by first | rfl | (congr 1<;>omega) | (simp;omega),by first | rfl | (congr 1<;>omega),by omega,by omega,hnx⟩
     case measure=>simp [intOf];omega
   ·have hge:(s.size:Int)<=(3:Int)+(k:Int):=by omega
    have hnil:Hid ((s.toList.drop (3+k)).head? =none):=H0 (by rw [AM s (3+k) (by omega)];rfl)
    have hrest:Hid (AQ 16 n (s.toList.drop (3+k))=(n,0)):=H0 (by rw [AM s (3+k) (by omega)];rfl)
    have hfin:Hid (N=n/\K=k):=H0 (by have:=hrun.out;rw [hrest.out] at this;simp only [Prod.mk.injEq] at this;exact ⟨this.1,by omega⟩)
    obtain ⟨hN,hK⟩:=hfin.out;clear hfin;rw [hN,hK] at hv;replace hN:=H0 hN;replace hK:=H0 hK;replace hrest:=H0 hrest;replace hrun:=H0 hrun
    by_cases hk0:k=0
    ·subst hk0
     have hv2:Hid (AZ s.toList=([38],1)):=H0 (by rw [hv.out,if_pos rfl])
     clear hv;go_wp2_with fail;go_ret2
     exact ⟨_,by rw [hv2.out];rfl,H0 (by rw [hv2.out];exact toList_mk [38]),Below.refl _ _⟩
    ·have k0:(((3:Int)+(k:Int))==(3:Int))=false:=by rw [beq_eq_false_iff_ne];omega
     have hnum:=H0 (fun w=>EC n w hn)
     have hv2:Hid (AZ s.toList=(CO n,3+k)):=H0 (by rw [hv.out,if_neg hk0,hnil.out];rfl)
     clear hv;go_wp2_with fail;refine (hnum.out _).mono ?_;rintro e w2 ⟨t,rfl,ht,hb⟩;go_wp2_with fail;go_ret2
     exact ⟨t,by rw [hv2.out];first | rfl | (congr 4<;>omega),H0 (by rw [hv2.out];exact ht.out),hb⟩
 ·have q3:((s[2].toNat:Int)==120)=false:=by rw [beq_eq_false_iff_ne];intro e;exact q1 (UInt8.toNat_inj.1 (by show s[2].toNat=120;omega))
  have q4:((s[2].toNat:Int)==88)=false:=by rw [beq_eq_false_iff_ne];intro e;exact q2 (UInt8.toNat_inj.1 (by show s[2].toNat=88;omega))
  have h3I:(2:Int)<(s.size:Int):=by omega
  replace q1:=H0 q1;replace q2:=H0 q2;go_enter Tryz.func165,Tryz.ntmps165;go_wp2_with fail;clear q1 q2
  go_loop [6,7] (fun v6 v7=>∃ n k:Nat,v6= .int .i64 n/\v7= .int .i64 ((2:Int)+(k:Int))/\n<=1114112/\2+k<=s.size/\Hid ((N,K)=((AQ 10 n (s.toList.drop (2+k))).1,(AQ 10 n (s.toList.drop (2+k))).2+k))) (fun _ v7=>s.size - (intOf v7).toNat)
  case atStart=>exact ⟨0,0,rfl,rfl,by decide,hfl,H0 (by rw [<-hR.out];rfl)⟩
  case round=>
   obtain ⟨n,k,rfl,rfl,hn,hkz,hrun⟩:=hrel
   have hi0:(0:Int)<=(2:Int)+(k:Int):=by omega
   have hiz:(2:Int)+(k:Int)<=(s.size:Int):=by omega
   have hit:((2:Int)+(k:Int)).toNat=2+k:=by omega
   by_cases hlt:2+k<s.size
   ·have hltI:(2:Int)+(k:Int)<(s.size:Int):=by omega
    have hdr:=Ao s (2+k) hlt;obtain ⟨c,hc⟩:=N2 (s[2+k]);rw [hc] at hdr;have b0:=AC c;have b1:=AK c
    have hdg:=H0 (fun w=>Bu (c.toNat:Int) 10 w b0 b1)
    have hcons:Hid ((s.toList.drop (2+k)).head? =some c):=H0 (by rw [hdr];rfl)
    by_cases hd:Ah (c.toNat:Int) (10:Int)<0
    ·have hrest:Hid (AQ 10 n (s.toList.drop (2+k))=(n,0)):=H0 (by rw [hdr];exact JU hd)
     have hdz:=hd;replace hdr:=H0 hdr;generalize Ah (c.toNat:Int) (10:Int)=d at hdg hd hdz
     have hfin:Hid (N=n/\K=k):=H0 (by have:=hrun.out;rw [hrest.out] at this;simp only [Prod.mk.injEq] at this;exact ⟨this.1,by omega⟩)
     obtain ⟨hN,hK⟩:=hfin.out;clear hfin;rw [hN,hK] at hv;replace hN:=H0 hN;replace hK:=H0 hK;replace hrest:=H0 hrest;replace hrun:=H0 hrun
     by_cases hk0:k=0
     ·subst hk0
      have hv2:Hid (AZ s.toList=([38],1)):=H0 (by rw [hv.out,if_pos rfl])
      clear hv;go_wp2_with (go_at_call 155;refine (hdg.out _).mono ?_;rintro e w' ⟨rfl,rfl⟩);go_ret2
      exact ⟨_,by rw [hv2.out];rfl,H0 (by rw [hv2.out];exact toList_mk [38]),Below.refl _ _⟩
     ·have k0:(((2:Int)+(k:Int))==(2:Int))=false:=by rw [beq_eq_false_iff_ne];omega
      have hnum:=H0 (fun w=>EC n w hn)
      by_cases h59:c=59
      ·have e59:((c.toNat:Int)==59)=true:=by rw [h59];rfl
       have hv2:Hid (AZ s.toList=(CO n,2+k+1)):=H0 (by rw [hv.out,if_neg hk0,hcons.out,h59];rfl)
       clear hv;replace h59:=H0 h59;go_wp2_with (go_at_call 155;refine (hdg.out _).mono ?_;rintro e w' ⟨rfl,rfl⟩);refine (hnum.out _).mono ?_;rintro e w2 ⟨t,rfl,ht,hb⟩;go_wp2_with fail;go_ret2
       exact ⟨t,by rw [hv2.out];first | rfl | (congr 4<;>omega),H0 (by rw [hv2.out];exact ht.out),hb⟩
      ·have e59:((c.toNat:Int)==59)=false:=by rw [beq_eq_false_iff_ne];intro e;exact h59 (UInt8.toNat_inj.1 (by show c.toNat=59;omega))
       have hv2:Hid (AZ s.toList=(CO n,2+k)):=H0 (by rw [hv.out,if_neg hk0,hcons.out,if_neg (by intro e;exact h59 (Option.some.inj e))])
       clear hv;replace h59:=H0 h59;go_wp2_with (go_at_call 155;refine (hdg.out _).mono ?_;rintro e w' ⟨rfl,rfl⟩);refine (hnum.out _).mono ?_;rintro e w2 ⟨t,rfl,ht,hb⟩;go_wp2_with fail;go_ret2
       exact ⟨t,by rw [hv2.out];first | rfl | (congr 4<;>omega),H0 (by rw [hv2.out];exact ht.out),hb⟩
    ·have hd0:0<=Ah (c.toNat:Int) (10:Int):=by omega
     have hd1:=La (c.toNat:Int) (10:Int) (by decide)
     have hrest:Hid (AQ 10 n (s.toList.drop (2+k))=((AQ 10 (min (n * 10+(Ah (c.toNat:Int) (10:Int)).toNat) 0x110000) (s.toList.drop (2+(k+1)))).1,(AQ 10 (min (n * 10+(Ah (c.toNat:Int) (10:Int)).toNat) 0x110000) (s.toList.drop (2+(k+1)))).2+1)):=H0 (by rw [hdr];exact Iz hd0)
     obtain ⟨m,hm⟩:∃ m:Nat,Ah (c.toNat:Int) (10:Int)=m:=⟨(Ah (c.toNat:Int) (10:Int)).toNat,by omega⟩
     rw [hm] at hdg hrest hd1;rw [Int.toNat_natCast] at hrest
     have hnx:Hid ((N,K)=((AQ 10 (min (n * 10+m) 0x110000) (s.toList.drop (2+(k+1)))).1,(AQ 10 (min (n * 10+m) 0x110000) (s.toList.drop (2+(k+1)))).2+(k+1))):=H0 (by rw [hrun.out,hrest.out];simp only [Prod.mk.injEq,true_and];omega)
     replace hdr:=H0 hdr;replace hd:=H0 hd;replace hm:=H0 hm;clear hd0;go_wp2_with (go_at_call 155;refine (hdg.out _).mono ?_;rintro e w' ⟨rfl,rfl⟩);go_round
     case rel=>exact ⟨min (n * 10+m) 0x110000,k+1,by first | rfl | (congr 1<;>omega) | (simp;omega),by first | rfl | (congr 1<;>omega),by omega,by omega,hnx⟩
     case measure=>simp [intOf];omega
   ·have hge:(s.size:Int)<=(2:Int)+(k:Int):=by omega
    have hnil:Hid ((s.toList.drop (2+k)).head? =none):=H0 (by rw [AM s (2+k) (by omega)];rfl)
    have hrest:Hid (AQ 10 n (s.toList.drop (2+k))=(n,0)):=H0 (by rw [AM s (2+k) (by omega)];rfl)
    have hfin:Hid (N=n/\K=k):=H0 (by have:=hrun.out;rw [hrest.out] at this;simp only [Prod.mk.injEq] at this;exact ⟨this.1,by omega⟩)
    obtain ⟨hN,hK⟩:=hfin.out;clear hfin;rw [hN,hK] at hv;replace hN:=H0 hN;replace hK:=H0 hK;replace hrest:=H0 hrest;replace hrun:=H0 hrun
    by_cases hk0:k=0
    ·exfalso;omega
    ·have k0:(((2:Int)+(k:Int))==(2:Int))=false:=by rw [beq_eq_false_iff_ne];omega
     have hnum:=H0 (fun w=>EC n w hn)
     have hv2:Hid (AZ s.toList=(CO n,2+k)):=H0 (by rw [hv.out,if_neg hk0,hnil.out];rfl)
     clear hv;go_wp2_with fail;refine (hnum.out _).mono ?_;rintro e w2 ⟨t,rfl,ht,hb⟩;go_wp2_with fail;go_ret2
     exact ⟨t,by rw [hv2.out];first | rfl | (congr 4<;>omega),H0 (by rw [hv2.out];exact ht.out),hb⟩
theorem OY (c:UInt8) (l:List UInt8):(Lib.indexByte l c= -1/\Af c l=(l,[],false))\/∃ i:Nat,Lib.indexByte l c=(i:Int)/\i<l.length/\Af c l=(l.take i,l.drop (i+1),true):=by
 induction l with
 | nil=>exact .inl ⟨rfl,rfl⟩
 | cons d r ih=>
  unfold Lib.indexByte Af
  by_cases h:d=c
  ·rw [if_pos (by simpa using h),if_pos h]
   exact .inr ⟨0,rfl,by simp,by simp⟩
  ·rw [if_neg (by simpa using h),if_neg h]
   rcases ih with ⟨h1,h2⟩ | ⟨i,h1,hi,h2⟩
   ·rw [h1,h2];exact .inl ⟨rfl,rfl⟩
   ·rw [h1,h2]
    have hn:¬ (((i:Int)== -1)=true):=by rw [beq_iff_eq];omega
    rw [if_neg hn]
    exact .inr ⟨i+1,by omega,by simp;omega,by simp⟩
theorem OC {c:UInt8}:∀ {l},(Af c l).2.2=true->l=(Af c l).1++c :: (Af c l).2.1
 | [],h=>(nomatch h)
 | d :: r,h=>by
  rw [Af] at h⊢;split at h
  ·rename_i hd;rw [if_pos hd,hd];rfl
  ·rename_i hd;rw [if_neg hd];show d :: r=d :: ((Af c r).1++c :: (Af c r).2.1);rw [<-OC (l:=r) h]
theorem JB (s:List UInt8) (n:Nat):E8 s (n+1)=match Fk ((s.drop 1).take (n+1)) with
  | none=>E8 s n
  | some t=>if (s.getD (n+1) 0 != 59 && decide (n+2<s.length) && Kg (s.getD (n+2) 0))=true then ([38],1) else (t,n+2):=rfl
theorem Y1 (s:ByteArray) (k:Nat) (h:k<s.size):s.toList.getD k 0=s[k]:=by
 rw [List.getD_eq_getElem?_getD,List.getElem?_eq_getElem (by rw [Aa];exact h),Option.getD_some,CS]
theorem OO {o:List UInt8 × Nat} {w w':World} (h:o=([38],1)) (hb:Below w.heap.size w w'):WN o w (.returned (.tuple #[.string ⟨#[38]⟩,.int .i64 1])) w':=by
 subst h;exact ⟨_,rfl,H0 (toList_mk [38]),hb⟩
theorem QU (s:ByteArray) (w:World) (hz:s.size<=1099511627776) (h1:1<=s.size):Calls Tryz.prog 97 #[.string s] w (WN (GW s.toList) w):=by
 have hp:=fun w=>Tryz.strings_HasPrefix s ⟨#[38,35]⟩ w
 have e0:(ByteArray.mk #[38,35]).data.toList=[38,35]:=rfl;simp only [e0,<-ByteArray.toList_eq] at hp;cases hb:Lib.hasPrefix s.toList [38,35]
 ·have hv:GW s.toList=E8 s.toList (min 15 (s.size - 1)):=by unfold GW;rw [if_neg (by rw [hb];decide),Aa]
  simp only [hb] at hp;rw [hv];obtain ⟨R,hR⟩:=N2 (E8 s.toList (min 15 (s.size - 1)));rw [hR];replace hb:=H0 hb;replace hv:=H0 hv;replace hp:=H0 hp;replace hR:=H0 hR;obtain ⟨m0,hm0⟩:=N2 (min 15 (s.size - 1))
  have hm1:min (15:Int) ((s.size:Int) - 1)=(m0:Int):=by omega
  have hm2:m0+1<=s.size:=by omega
  rw [hm0] at hR;replace hm0:=H0 hm0;go_enter Tryz.func97,Tryz.ntmps97;go_wp2_with fail;refine (hp.out _).mono ?_;rintro e w1 ⟨rfl,hw⟩;obtain rfl:=hw.symm;go_wp2_with fail
  go_loopw [4] (fun v wr=>∃ k:Nat,v= .int .i64 k/\k+1<=s.size/\Hid (R=E8 s.toList k)/\Below w.heap.size w wr) (fun v _=>(intOf v).toNat)
  case atStart=>exact ⟨m0,rfl,hm2,H0 hR.out.symm,Below.refl _ _⟩
  case round=>
   clear hm1;obtain ⟨k,rfl,hk,hrun,hbel⟩:=hrel;have hsz:=hbel.size
   cases k with
   | zero=>
    have hfin:Hid (R=([38],1)):=H0 (by rw [hrun.out];rfl)
    go_wp2_with fail;go_ret2;exact OO hfin.out hbel
   | succ m=>
    have ek:((m+1:Nat):Int)=(m:Int)+1:=by omega
    have hmI:(m:Int)+1<(s.size:Int):=by omega
    have hm1:m+1<s.size:=by omega
    rw [ek]
    have het:(s.extract 1 (m+2)).toList=(s.toList.drop 1).take (m+1):=by
     rw [toList_extract,List.drop_take,show m+2 - 1=m+1 from rfl]
    have hnm:=H0 (XR (s.extract 1 (m+2)) wr (by rw [ByteArray.size_extract];omega))
    rw [het] at hnm;have hst:=JB s.toList m;obtain ⟨o,ho⟩:∃ o,Fk ((s.toList.drop 1).take (m+1))=o:=⟨_,rfl⟩;rw [ho] at hnm hst;replace ho:=H0 ho;replace het:=H0 het;replace ek:=H0 ek
    have hto:((m:Int)+1+1).toNat=m+2:=by omega
    cases o with
    | none=>
     have hnx:Hid (R=E8 s.toList m):=H0 (by rw [hrun.out,hst])
     replace hst:=H0 hst;go_wp2_with fail;refine hnm.out.mono ?_;rintro e w2 ⟨t,rfl,ht,hb⟩;go_wp2_with fail;go_roundw
     case rel=>exact ⟨m,rfl,by omega,hnx,hbel.trans (hb.mono hsz)⟩
     case measure=>simp [intOf]
    | some x=>
     dsimp only at hst;rw [Y1 s (m+1) hm1] at hst;obtain ⟨c,hc⟩:=N2 (s[m+1]);rw [hc] at hst
     have hct:(((m:Int)+1).toNat)=m+1:=by omega
     by_cases h59:c=59
     ·have e59:((c.toNat:Int) != 59)=false:=by rw [h59];rfl
      have hfin:Hid (R=(x,m+2)):=H0 (by rw [hrun.out,hst,h59];rfl)
      replace hst:=H0 hst;replace h59:=H0 h59;go_wp2_with fail;refine hnm.out.mono ?_;rintro e w2 ⟨t,rfl,ht,hb⟩;go_wp2_with fail;go_ret2
      exact ⟨t,by rw [hfin.out];first | rfl | (congr 4<;>omega),H0 (by rw [hfin.out];exact ht.out),hbel.trans (hb.mono hsz)⟩
     ·have e59:((c.toNat:Int) != 59)=true:=by rw [bne_iff_ne];intro e;exact h59 (UInt8.toNat_inj.1 (by show c.toNat=59;omega))
      have f59:(c != 59)=true:=by simpa using h59
      rw [f59,Bool.true_and,Aa] at hst;replace f59:=H0 f59
      by_cases h2:m+2<s.size
      ·have h2I:(m:Int)+1+1<(s.size:Int):=by omega
       rw [Y1 s (m+2) h2,decide_eq_true h2,Bool.true_and] at hst;obtain ⟨d,hd⟩:=N2 (s[m+2]);rw [hd] at hst;have hgo:=H0 (W8 d);obtain ⟨g,hg⟩:=N2 (Kg d);rw [hg] at hgo hst;replace hg:=H0 hg;replace h59:=H0 h59;cases g
       ·have hfin:Hid (R=(x,m+2)):=H0 (by rw [hrun.out,hst];rfl)
        replace hst:=H0 hst;go_wp2_with fail;refine hnm.out.mono ?_;rintro e w2 ⟨t,rfl,ht,hb⟩;go_wp2_with fail;refine (hgo.out _).mono ?_;rintro e w3 ⟨rfl,rfl⟩;go_wp2_with fail;go_ret2
        exact ⟨t,by rw [hfin.out];first | rfl | (congr 4<;>omega),H0 (by rw [hfin.out];exact ht.out),hbel.trans (hb.mono hsz)⟩
       ·have hfin:Hid (R=([38],1)):=H0 (by rw [hrun.out,hst];rfl)
        replace hst:=H0 hst;go_wp2_with fail;refine hnm.out.mono ?_;rintro e w2 ⟨t,rfl,ht,hb⟩;go_wp2_with fail;refine (hgo.out _).mono ?_;rintro e w3 ⟨rfl,rfl⟩;go_wp2_with fail;go_ret2;exact OO hfin.out (hbel.trans (hb.mono hsz))
      ·have h2I:(s.size:Int)<=(m:Int)+1+1:=by omega
       have hfin:Hid (R=(x,m+2)):=H0 (by rw [hrun.out,hst,decide_eq_false h2];rfl)
       replace hst:=H0 hst;replace h59:=H0 h59;go_wp2_with fail;refine hnm.out.mono ?_;rintro e w2 ⟨t,rfl,ht,hb⟩;go_wp2_with fail;go_ret2
       exact ⟨t,by rw [hfin.out];first | rfl | (congr 4<;>omega),H0 (by rw [hfin.out];exact ht.out),hbel.trans (hb.mono hsz)⟩
 ·have h2:2<=s.size:=by
   by_cases h:2<=s.size
   ·exact h
   ·exfalso;have hl:=Aa s
    match hs:s.toList with
    | []=>rw [hs] at hl;simp at hl;omega
    | [a]=>rw [hs] at hb;unfold Lib.hasPrefix at hb;simp [List.isPrefixOf] at hb
    | a :: b :: r=>rw [hs] at hl;simp at hl;omega
  have hv:GW s.toList=AZ s.toList:=by unfold GW;rw [if_pos hb]
  simp only [hb] at hp;rw [hv]
  have hn:=H0 (fun w=>Ra s w hz h2)
  obtain ⟨R,hR⟩:=N2 (AZ s.toList);rw [hR] at hn⊢;replace hb:=H0 hb;replace hv:=H0 hv;replace hp:=H0 hp;replace hR:=H0 hR;go_enter Tryz.func97,Tryz.ntmps97;go_wp2_with fail;refine (hp.out _).mono ?_;rintro e w1 ⟨rfl,hw⟩;obtain rfl:=hw.symm;go_wp2_with fail;refine (hn.out _).mono ?_;rintro e w2 ⟨t,rfl,ht,hb⟩;go_wp2_with fail;go_ret2;exact ⟨t,rfl,ht,hb⟩
theorem XN (s:List UInt8):1<=(AZ s).2:=by
 unfold AZ;dsimp only
 have:2<=A4 s:=by unfold A4;split<;>decide
 split
 ·exact Nat.le_refl _
 ·dsimp only;split<;>omega
theorem OJ (s:List UInt8):∀ n,1<=(E8 s n).2/\(E8 s n).2<=n+1
 | 0=>⟨Nat.le_refl _,Nat.le_refl _⟩
 | n+1=>by
  rw [JB];have:=OJ s n;split
  ·omega
  ·split<;>(dsimp only;omega)
theorem AcZ {s:List UInt8} (h:1<=s.length):1<=(GW s).2/\(GW s).2<=s.length:=by
 unfold GW;split
 ·rename_i hp;refine ⟨XN s,?_⟩
  have h2:2<=s.length:=by
   match s,hp with
   | [],hp=>cases hp
   | [a],hp=>unfold Lib.hasPrefix at hp;simp [List.isPrefixOf] at hp
   | a :: b :: r,_=>simp
  unfold AZ;dsimp only
  have hf:A4 s<=s.length:=by
   unfold A4;split
   ·rename_i hx
    by_cases h:s.length<=2
    ·rw [MM h] at hx;cases hx
    ·omega
   ·exact h2
  have hd:=MT (DY s) (s.drop (A4 s)) 0 (by decide)
  rw [List.length_drop] at hd;split
  ·exact h
  ·dsimp only;split
   ·rename_i hh
    by_cases hl:A4 s+(AQ (DY s) 0 (s.drop (A4 s))).2<s.length
    ·omega
    ·rw [List.drop_of_length_le (by omega)] at hh;cases hh
   ·omega
 ·have:=OJ s (min 15 (s.length - 1));omega
theorem XL (r:Int):(Utf8.encode r).data.toList.length<=4:=by
 unfold Utf8.encode
 generalize (if Utf8.valid r=true then r.toNat else Utf8.runeError)=c
 dsimp only
 repeat' split
 all_goals simp
theorem Ri (c:Nat):(Bj c).length<=4:=by
 unfold Bj
 by_cases h:0x10ffff<c\/(0xd800<=c/\c<=0xdfff)
 ·rw [if_pos h];unfold IX;simp
 ·rw [if_neg h];unfold Pp;exact XL _
theorem WC (n:Nat):(CO n).length<=4:=by
 unfold CO
 by_cases h:n=0
 ·rw [if_pos h];exact Ri _
 ·rw [if_neg h];exact Ri _
theorem Zj:∀ t∈[Ub,DL,RY],∀ p∈t,p.2.length<=4:=by decide+kernel
theorem Lp {t:List (List UInt8 × List UInt8)} (ht:t∈[Ub,DL,RY]) {s x:List UInt8} (h:C9 t s=some x):x.length<=4:=by
 unfold C9 at h
 cases hf:t.find? fun p=>p.1==s with
 | none=>rw [hf] at h;cases h
 | some p=>
  rw [hf] at h;cases h;exact Zj t ht p (List.mem_of_find?_eq_some hf)
theorem X0 {s x:List UInt8} (h:Fk s=some x):x.length<=4:=by
 have hb:∀ s,Bv s=some x->x.length<=4:=by
  intro s h;unfold Bv at h;split at h
  ·rename_i b hb;cases h
   exact Lp (by simp) hb
  ·exact Lp (by simp) h
 unfold Fk at h;split at h
 ·split at h
  ·rename_i t ht;cases h
   exact Lp (by simp) ht
  ·exact hb _ h
 ·exact Lp (by simp) h
theorem Ac1 (s:List UInt8):(GW s).1.length<=4:=by
 unfold GW;split
 ·unfold AZ;dsimp only;split
  ·decide
  ·exact WC _
 ·have:∀ n,(E8 s n).1.length<=4:=by
   intro n
   induction n with
   | zero=>exact Nat.le_of_ble_eq_true rfl
   | succ n ih=>
    rw [JB];split
    ·exact ih
    ·rename_i t ht;split
     ·decide
     ·exact X0 ht
  exact this _
theorem Q8 (s:ByteArray) (w:World) (hz:s.size<=1000000000):Calls Tryz.prog 50 #[.string s] w (Cy w (TH s.toList)):=by
 go_enter Tryz.func50,Tryz.ntmps50;go_wp2_with fail
 go_loopw [0] (fun v0 wr=>∃ (r:ByteArray) (f:Nat) (out:List UInt8),v0= .string r/\r.size<f/\r.size<=s.size/\Kx wr w.heap.size w.heap.size out/\Below w.heap.size w wr/\Hid (TH s.toList=out++I7 f r.toList)/\out.length+4 * r.size<=4 * s.size) (fun v0 _=>LK v0)
 case atStart=>exact ⟨s,s.size+1,[],rfl,by omega,Nat.le_refl _,Kx.fresh w,(Below.refl _ _).alloc (Nat.le_refl _) _,H0 (by rw [<-Aa];rfl),by simp⟩
 case round=>
  obtain ⟨r,f,out,rfl,hf,hle,hbld,hbel,hv,hol⟩:=hrel;have hsz:=hbel.size
  by_cases h0:r.size=0
  ·have hnil:r.toList=[]:=(At r).2 h0
   have hemp:r.toList.isEmpty=true:=by rw [hnil];rfl
   have hfin:Hid (TH s.toList=out):=H0 (by
    rw [hv.out,hnil]
    cases f with
    | zero=>rw [I7,List.append_nil]
    | succ f=>rw [I7,show Af 38 []=([],[],false) from rfl,if_neg (by decide),List.append_nil])
   replace h0:=H0 h0;replace hnil:=H0 hnil;have hst:=H0 (Bf w.heap.size w.heap.size out wr hbld hsz);go_wp2_with fail;refine hst.out.mono ?_;rintro e w2 ⟨t,rfl,ht,hb⟩;go_wp2_with fail;go_ret;exact BL (ht.out.trans hfin.out.symm) (hbel.trans hb)
  ·have hemp:r.toList.isEmpty=false:=by
    cases hr:r.toList with
    | nil=>exact absurd ((At r).1 hr) h0
    | cons a b=>rfl
   have hix:=fun w=>Tryz.strings_IndexByte r 38 w
   have ec:(38:Int).toNat.toUInt8=38:=rfl;simp only [ec,<-ByteArray.toList_eq] at hix
   obtain ⟨f1,rfl⟩:∃ f1,f=f1+1:=⟨f - 1,by omega⟩
   have hcz:=Aa r
   rcases OY 38 r.toList with ⟨h1,h2⟩ | ⟨i,h1,hi,h2⟩
   ·rw [h1] at hix;replace hix:=H0 hix
    have hfin:Hid (TH s.toList=out++r.toList):=H0 (by rw [hv.out,I7,h2];rfl)
    replace h1:=H0 h1;replace h2:=H0 h2;replace h0:=H0 h0;replace hcz:=H0 hcz;go_wp2_with fail;refine (hix.out _).mono ?_;rintro e w1 ⟨rfl,hw⟩;obtain rfl:=hw.symm;go_wp2_with fail
    refine (AL w.heap.size w.heap.size out r wr hbld (by omega) (by omega) hsz).mono ?_
    rintro e w2 ⟨rfl,hbld2,hb2⟩;have hbel2:=hbel.trans hb2;have hst:=H0 (Bf w.heap.size w.heap.size _ w2 hbld2 hbel2.size);go_wp2_with fail;refine hst.out.mono ?_;rintro e w3 ⟨t,rfl,ht,hb⟩;go_wp2_with fail;go_ret;exact BL (ht.out.trans hfin.out.symm) (hbel2.trans hb)
   ·rw [h1] at hix;replace hix:=H0 hix;rw [hcz] at hi
    have hA:(r.extract 0 i).toList=r.toList.take i:=by rw [toList_extract];rfl
    have hB:(r.extract i r.size).toList=38 :: r.toList.drop (i+1):=by
     rw [toList_extract,List.take_of_length_le (by omega)]
     have h3:=OC (c:=38) (l:=r.toList) (by rw [h2])
     rw [h2] at h3;dsimp only at h3
     conv=>lhs;rw [h3]
     rw [List.drop_append_of_le_length (by rw [List.length_take];omega),List.drop_of_length_le (by rw [List.length_take];omega)];rfl
    have hAz:(r.extract 0 i).size=i:=by rw [ByteArray.size_extract];omega
    have hBz:(r.extract i r.size).size=r.size - i:=by rw [ByteArray.size_extract];omega
    have hcall:=H0 (fun w=>QU (r.extract i r.size) w (by rw [hBz];omega) (by rw [hBz];omega))
    rw [hB] at hcall
    have hrs:=AcZ (s:=38 :: r.toList.drop (i+1)) (by simp)
    have hrl:=Ac1 (38 :: r.toList.drop (i+1))
    have hBl:(38 :: r.toList.drop (i+1)).length=r.size - i:=by rw [List.length_cons,List.length_drop];omega
    rw [hBl] at hrs
    have hnx0:TH s.toList=(out++r.toList.take i++(GW (38 :: r.toList.drop (i+1))).1)++I7 f1 ((38 :: r.toList.drop (i+1)).drop (GW (38 :: r.toList.drop (i+1))).2):=by
     rw [hv.out,I7,h2];dsimp only;rw [if_pos rfl,List.append_assoc,List.append_assoc]
    obtain ⟨⟨T,n⟩,hre⟩:∃ p:List UInt8 × Nat,p=GW (38 :: r.toList.drop (i+1)):=⟨_,rfl⟩;rw [<-hre] at hcall hrs hrl hnx0;dsimp only at hrs hrl hnx0
    have hC:(r.extract (i+n) r.size).toList=(38 :: r.toList.drop (i+1)).drop n:=by
     rw [<-hB,toList_extract,toList_extract,List.take_of_length_le (by omega),List.drop_drop]
    have hCz:(r.extract (i+n) r.size).size=r.size - (i+n):=by rw [ByteArray.size_extract];omega
    have hnx:Hid (TH s.toList=(out++r.toList.take i++T)++I7 f1 (r.extract (i+n) r.size).toList):=H0 (by rw [hC];exact hnx0)
    have hiI:(i:Int)<=(r.size:Int):=by omega
    have hiI2:(i:Int)+(n:Int)<=(r.size:Int):=by omega
    have hi0:(0:Int)<=(i:Int):=by omega
    have hin0:(0:Int)<=(i:Int)+(n:Int):=by omega
    have hint:((i:Int)+(n:Int)).toNat=i+n:=by omega
    clear hnx0;replace h1:=H0 h1;replace h2:=H0 h2;replace h0:=H0 h0;replace hcz:=H0 hcz;replace hre:=H0 hre;replace hB:=H0 hB;replace hC:=H0 hC;replace hAz:=H0 hAz;replace hBz:=H0 hBz;replace hBl:=H0 hBl;replace hCz:=H0 hCz;replace hA:=H0 hA
    have hns:¬ ((i:Int)<0):=by omega
    go_wp2_with fail;refine (hix.out _).mono ?_;rintro e w1 ⟨rfl,hw⟩;obtain rfl:=hw.symm;go_wp2_with fail
    refine (AL w.heap.size w.heap.size out (r.extract 0 i) wr hbld (by omega) (by rw [hAz.out];omega) hsz).mono ?_
    rintro e w2 ⟨rfl,hbld2,hb2⟩;rw [hA.out] at hbld2;have hbel2:=hbel.trans hb2;have hsz2:=hbel2.size;go_wp2_with fail;refine (hcall.out _).mono ?_;rintro e w3 ⟨t,rfl,ht,hb3⟩;have hbel3:=hbel2.trans (hb3.mono hsz2);have hbld3:=Kx.keep hbld2 hb3
    have htz:t.size<=4:=by rw [<-Aa,ht.out];exact hrl
    have hsz3:=hbel3.size;go_wp2_with fail
    refine (AL w.heap.size w.heap.size _ t w3 hbld3 (by rw [List.length_append,List.length_take];omega) (by omega) hsz3).mono ?_
    rintro e w4 ⟨rfl,hbld4,hb4⟩;have htl:=ht.out;rw [htl] at hbld4;replace htl:=H0 htl;have hbel4:=hbel3.trans hb4;go_wp2_with fail;go_roundw
    case rel=>exact ⟨r.extract (i+n) r.size,f1,_,rfl,by rw [hCz.out];omega,by rw [hCz.out];omega,hbld4,hbel4,hnx,by have:=hCz.out;simp only [List.length_append,List.length_take];omega⟩
    case measure=>simp only [LK];have:=hCz.out;omega
theorem K5 (l:List UInt8):(E5 l).length<=l.length:=List.length_filter_le _ _
theorem Il (l:List UInt8):(AD l).length=l.length:=by simp [AD]
structure Al where
 scheme:ByteArray
 user:ByteArray
 pass:ByteArray
 host:CL
 hasPort:Bool
 port:Int
 flatP:Bool
 flat:ByteArray
 pathA:Option Addr
 pathC:Nat
 path:List ByteArray
 hasQuery:Bool
 query:ByteArray
 hasFrag:Bool
 frag:ByteArray
def Ab (u:Al):Array Value:= #[.string u.scheme,.string u.user,.string u.pass,.int .i64 u.host.kind,.string u.host.name,.int .u32 (u.host.four:Int),.int .u16 ((pc u.host.six 0:Nat):Int),.int .u16 ((pc u.host.six 1:Nat):Int),.int .u16 ((pc u.host.six 2:Nat):Int),.int .u16 ((pc u.host.six 3:Nat):Int),.int .u16 ((pc u.host.six 4:Nat):Int),.int .u16 ((pc u.host.six 5:Nat):Int),.int .u16 ((pc u.host.six 6:Nat):Int),.int .u16 ((pc u.host.six 7:Nat):Int),
 .bool u.hasPort,.int .i64 u.port,.bool u.flatP,.string u.flat,.slice u.pathA u.path.length u.pathC,.bool u.hasQuery,.string u.query,.bool u.hasFrag,.string u.frag]
def DK (l:List ByteArray):List UInt8:=l.flatMap fun t=>47 :: t.toList
def E3 (u:Al):List UInt8:=if u.flatP then u.flat.toList else DK u.path
def Fs (w:World) (u:Al):Prop:=0<u.path.length->∃ g o,u.pathA=some ⟨g,o,none⟩/\∀ i (h:i<u.path.length),w.cell? ⟨g,o+i,none⟩=some (.string u.path[i])
theorem Fs.below {w w':World} {K:Nat} {u:Al} (h:Fs w u) (hb:Below K w w') (hK:w.heap.size<=K):Fs w' u:=by
 intro h0;obtain ⟨g,o,e,hc⟩:=h h0
 refine ⟨g,o,e,fun i hi=> ?_⟩
 have:=World.block_lt_of_cell? w _ (hc i hi)
 rw [hb.cell (by simp at this⊢;omega)]
 exact hc i hi
theorem PM {l:List ByteArray} {k:Nat} (h:k<l.length):DK (l.take (k+1))=DK (l.take k)++47 :: l[k].toList:=by
 unfold DK;rw [List.take_succ_eq_append_getElem h,List.flatMap_append];simp
theorem LR (l:List ByteArray) (k:Nat):(DK (l.take k)).length<=(DK l).length:=by
 have:DK l=DK (l.take k)++DK (l.drop k):=by unfold DK;rw [<-List.flatMap_append,List.take_append_drop]
 rw [this,List.length_append];omega
theorem AbG (u:Al) (w:World) (hp:Fs w u) (hl:(DK u.path).length<=549755813888) (hn:u.path.length<=maxLen):
  Calls Tryz.prog 46 #[.agg (Ab u)] w (Cy w (E3 u)):=by
 have hb1:Below w.heap.size w (w.alloc (.cells (Ab u) 34)):=(Below.refl _ _).alloc (Nat.le_refl _) _
 have hb2:Below (w.heap.size+1) (w.alloc (.cells (Ab u) 34)) ((w.alloc (.cells (Ab u) 34)).alloc (.cells #[.pointer none,.slice none 0 0] 76)):=(Below.refl _ _).alloc (by simp) _
 have hbl:Kx ((w.alloc (.cells (Ab u) 34)).alloc (.cells #[.pointer none,.slice none 0 0] 76)) (w.heap.size+1) (w.heap.size+1) []:=by
  have:=Kx.fresh (w.alloc (.cells (Ab u) 34));simpa using this
 have hX:Hid (E3 u=if u.flatP then u.flat.toList else DK u.path):=rfl
 unfold maxLen at hn;replace hp:=H0 hp;unfold Ab at hb1 hb2 hbl⊢;cases hop:u.flatP
 ·rw [hop] at hX hb1 hb2 hbl;replace hop:=H0 hop;go_enter Tryz.func46,Tryz.ntmps46;go_wp2_with fail
  have hbw:=hb1.trans (hb2.mono (by omega))
  go_loopw [13] (fun iv wr=>∃ k:Nat,iv= .int .i64 k/\k<=u.path.length/\Kx wr (w.heap.size+1) (w.heap.size+1) (DK (u.path.take k))/\Below w.heap.size w wr/\w.heap.size+1<=wr.heap.size) (fun i _=>u.path.length - (intOf i).toNat)
  case atStart=>exact ⟨0,rfl,Nat.zero_le _,hbl,hbw,by simp⟩
  case round=>
   obtain ⟨k,rfl,hk,hbld,hbel,hsz⟩:=hrel;clear hb1 hb2 hbl hbw;have hle:=LR u.path k
   by_cases hlt:k<u.path.length
   ·obtain ⟨g,o,hpa,hcc⟩:=hp.out (by omega)
    have x1:=hcc k hlt;have b1:=World.block_lt_of_cell? w _ x1
    have y1:wr.cell? ⟨g,o+k,none⟩=some (.string u.path[k]):=(hbel.cell (by simpa using b1)).trans x1
    have hle2:=LR u.path (k+1);have hsn:=PM hlt
    have hz:(DK (u.path.take k)).length+(1+u.path[k].size)<=549755813888:=by
     rw [hsn,List.length_append] at hle2;simp [Aa] at hle2;omega
    have hltI:(k:Int)<(u.path.length:Int):=by omega
    replace hsn:=H0 hsn;clear hcc x1 b1 hle hle2;rw [hpa];go_wp2_with fail
    refine (BE _ _ _ 47 _ rfl _ hbld (by omega) hsz).mono ?_
    rintro e w3 ⟨rfl,hbld3,hb3⟩;have hs3:=hb3.size;go_wp2_with fail
    refine (AL _ _ _ u.path[k] _ hbld3 (by simp;omega) (by omega) (by omega)).mono ?_
    rintro e w4 ⟨rfl,hbld4,hb4⟩;have hs4:=hb4.size;go_wp2_with fail;go_roundw
    case rel=>exact ⟨k+1,by go_num,by omega,by rw [hsn.out];simpa using hbld4,(hbel.trans (hb3.mono (by omega))).trans (hb4.mono (by omega)),by omega⟩
    case measure=>simp [intOf];omega
   ·have hfin:Hid (E3 u=DK (u.path.take k)):=H0 (by rw [hX.out,List.take_of_length_le (by omega)];rfl)
    have hgeI:(u.path.length:Int)<=(k:Int):=by omega
    go_wp2_with fail;refine (Bf _ _ _ _ hbld hsz).mono ?_;rintro e w3 ⟨t,rfl,ht,hb3⟩;go_wp2_with fail;go_ret
    exact BL (ht.out.trans hfin.out.symm) (hbel.trans (hb3.mono (by omega)))
 ·rw [hop] at hX hb1;replace hop:=H0 hop;clear hb2 hbl;go_enter Tryz.func46,Tryz.ntmps46;go_wp2_with fail;go_ret
  exact BL (by rw [hX.out];rfl) hb1
end Go.Proofs.YtonomfeipkdmhaaGreatDoor
