/- Part 12: lemmas. -/
import Derived.Test.YtonomfeipkdmhaaGreatDoorL11
import Derived.Lib.LastIndexByte
import Derived.Shelf.SlicesQ.IndexFunc
import Derived.Shelf.Spec.DecodeRune
import Derived.Shelf.Spec.SlicesInsert
import Derived.Shelf.Spec.SlicesInsertGrow
set_option linter.unusedVariables false
set_option linter.unusedSimpArgs false
set_option maxRecDepth 100000
set_option maxHeartbeats 16000000
namespace Go.Proofs.YtonomfeipkdmhaaGreatDoor
open Go.RowKit
theorem Xp (l:List Nat) (c low:Nat):Cz (l++[c]) low=BV low (Cz l low) c:=by unfold Cz;rw [List.foldl_append];rfl
theorem AbS (l:List Nat) (low:Nat):Cz l low= -1\/(0<=Cz l low/\∃ c∈l,Cz l low=(c:Int)):=by
 obtain ⟨h1,-,-⟩:=E8 low l (-1) (.inl rfl)
 rcases h1 with h1 | ⟨c,hc,h1,h2⟩
 ·exact .inl h1
 ·exact .inr ⟨by unfold Cz;omega,c,hc,h1⟩
theorem Zl (l:List Nat) (k:Nat) (h:k<l.length):l.take (k+1)=l.take k++[l[k]]:=List.take_succ_eq_append_getElem h
theorem Adf (pa:Option Addr) (n c:Nat) (l:List Nat) (low:Nat) (w:World) (h:Wg w pa n c l) (hn:n<=1000000000):Calls Tryz.prog 365 #[.slice pa n c,.int .i64 (low:Int)] w (Xl (Cz l low) w):=by
 have hln:=h.len;have hcell:=H0 h.cells;clear h;go_enter Tryz.func365,Tryz.ntmps365;go_wp2_with fail
 go_loop [5,10] (fun v5 v10=>∃ k:Nat,v10= .int .i64 k/\k<=n/\v5= .int .i64 (Cz (l.take k) low)) (fun _ v10=>n - (intOf v10).toNat)
 case atStart=>exact ⟨0,rfl,Nat.zero_le _,rfl⟩
 case round=>
  obtain ⟨k,rfl,hk,rfl⟩:=hrel;have hlo:=AbS (l.take k) low
  by_cases hlt:k<n
  ·have hI:(k:Int)<(n:Int):=Qa;obtain ⟨g,o,hpa,hc⟩:=hcell.out Qa;have hkl:k<l.length:=Qa;have ck:=hc k hkl;unfold Gg at ck
   have hsn:Hid (Cz (l.take (k+1)) low=BV low (Cz (l.take k) low) l[k]):=H0 (by rw [Zl l k hkl,Xp])
   obtain ⟨x,hx⟩:=N2 (l[k]);rw [hx] at ck hsn;replace hx:=H0 hx;replace hc:=H0 hc;replace hlo:=H0 hlo;obtain ⟨f,hf⟩:=N2 (Cz (l.take k) low);rw [hf] at hsn hlo⊢;replace hf:=H0 hf;replace hln:=H0 hln;subst hpa
   have hway:((x:Int)<(low:Int)/\BV low f x=f)\/((low:Int)<=(x:Int)/\f<0/\BV low f x=x)\/((low:Int)<=(x:Int)/\0<=f/\(x:Int)<f/\BV low f x=x)\/((low:Int)<=(x:Int)/\0<=f/\f<=(x:Int)/\BV low f x=f):=by
    unfold BV
    by_cases h1:x<low
    ·exact .inl ⟨Qa,Akf⟩
    by_cases h2:f<0
    ·exact .inr (.inl ⟨Qa,h2,by rw [if_pos Qa]⟩)
    by_cases h3:(x:Int)<f
    ·exact .inr (.inr (.inl ⟨Qa,Qa,h3,by rw [if_pos Qa]⟩))
    ·exact .inr (.inr (.inr ⟨Qa,Qa,Qa,Akf⟩))
   rcases hway with ⟨q1,hv⟩ | ⟨q1,q2,hv⟩ | ⟨q1,q2,q3,hv⟩ | ⟨q1,q2,q3,hv⟩
   all_goals
    have hnew:=H0 (hsn.out.trans hv);clear hv;go_wp2_with fail;go_round
    case rel=>exact ⟨k+1,Ql,Qa,by rw [hnew.out]⟩
    case measure=>simp [intOf];omega
  ·have hI:(n:Int)<=(k:Int):=Qa
   have hfin:Hid (Cz (l.take k) low=Cz l low):=H0 (by rw [List.take_of_length_le Qa])
   go_wp2_with fail;go_ret;exact ⟨OZ hfin.out,rfl⟩
def Ahn (o:Option (Nat × Nat)) (w:World) (e:Ending) (w':World):Prop:=e= .returned (.tuple #[.int .i64 ((o.getD (0,0)).1:Int),.int .i64 ((o.getD (0,0)).2:Int)])/\w=w'
theorem K9 {o:Option (Nat × Nat)} {w:World} (h:o=none):Ahn o w (.returned (.tuple #[.int .i64 0,.int .i64 0])) w:=by subst h;exact ⟨rfl,rfl⟩
theorem Wf (c:UInt8):(Dr c= -1/\JE c=none)\/∃ d:Nat,d<36/\Dr c=(d:Int)/\JE c=some d:=by
 unfold Dr
 cases h:JE c with
 | none=>exact .inl ⟨rfl,rfl⟩
 | some d=>exact .inr ⟨d,Afi h,rfl,rfl⟩
theorem XF (s:ByteArray) (bias:Nat) (w:World) (hs:s.size<=100000000) (hb:bias<=100000000):Calls Tryz.prog 361 #[.string s,.int .i64 (bias:Int)] w (Ahn (KH bias s.toList 0 0 1) w):=by
 obtain ⟨R,hR⟩:=N2 (KH bias s.toList 0 0 1);rw [hR];replace hR:=H0 hR;go_enter Tryz.func361,Tryz.ntmps361;go_wp2_with fail
 go_loop [6,7,13] (fun v6 v7 v13=>∃ k sum wt:Nat,v6= .int .i64 sum/\v7= .int .i64 wt/\v13= .int .i64 k/\k<=s.size/\sum<=2147483647/\wt<=75161927680/\Hid (R=KH bias (s.toList.drop k) k sum wt)) (fun _ _ v13=>s.size - (intOf v13).toNat)
 case atStart=>exact ⟨0,0,1,rfl,rfl,rfl,Nat.zero_le _,Qa,Qa,H0 hR.out.symm⟩
 case round=>
  obtain ⟨k,sum,wt,rfl,rfl,rfl,hk,hsum,hwt,hv⟩:=hrel
  by_cases hlt:k<s.size
  ·have hI:(k:Int)<(s.size:Int):=Qa;have hdr:=As s k hlt;obtain ⟨c,hc⟩:=N2 (s[k]);rw [hc] at hdr;have hwo:=H0 (AcP c)
   have hbd:=H0 (fun w=>PK k bias w Qa Qa)
   have hb1:=HL k bias;have hst:=hv.out;rw [hdr,KH] at hst;replace hdr:=H0 hdr;obtain ⟨b,hbe⟩:=N2 (BP k bias);rw [hbe] at hbd hst hb1;replace hbe:=H0 hbe
   rcases Wf c with ⟨h1,h2⟩ | ⟨d,hd,h1,h2⟩
   ·rw [h1] at hwo;rw [h2] at hst;dsimp only at hst;replace hst:=H0 hst;replace h1:=H0 h1;replace h2:=H0 h2;go_wp2_with fail;refine (hwo.out _).mono ?_;rintro e w1 ⟨rfl,rfl⟩;go_wp2_with fail;go_ret2;exact K9 hst.out
   ·rw [h1] at hwo;rw [h2] at hst;dsimp only at hst;replace h1:=H0 h1;replace h2:=H0 h2;obtain ⟨p,hp⟩:=N2 (d * wt)
    have hpI:(d:Int) * (wt:Int)=(p:Int):=by rw [<-hp];simp
    have hpl:p<=2630667468800:=by rw [<-hp];exact Nat.le_trans (Nat.mul_le_mul (show d<=35 by omega) hwt) Qc
    rw [hp] at hst;have p0:(0:Int)<=(p:Int):=Qa;have p1:(p:Int)<=2630667468800:=Qa;have s0:(0:Int)<=(sum:Int):=Qa;have s1:(sum:Int)<=2147483647:=Qa
    by_cases hg:2147483647<sum+p
    ·have hgI:(2147483647:Int)<(sum:Int)+(p:Int):=Qa;rw [if_pos hg] at hst;replace hst:=H0 hst;replace hg:=H0 hg;replace hp:=H0 hp;go_wp2_with fail;refine (hwo.out _).mono ?_;rintro e w1 ⟨rfl,rfl⟩;go_wp2_with fail;go_ret2;exact K9 hst.out
    ·have hgI:(sum:Int)+(p:Int)<=2147483647:=Qa;rw [if_neg hg] at hst
     by_cases hdb:d<b
     ·have hdI:(d:Int)<(b:Int):=Qa;rw [if_pos hdb] at hst;replace hst:=H0 hst;replace hg:=H0 hg;replace hp:=H0 hp;go_wp2_with fail;refine (hwo.out _).mono ?_;rintro e w1 ⟨rfl,rfl⟩;go_wp2_with fail;refine (hbd.out _).mono ?_;rintro e w2 ⟨rfl,rfl⟩;go_wp2_with fail;go_ret2
      exact ⟨by rw [hst.out];first | rfl | (congr 4<;>simp),rfl⟩
     ·have hdI:(b:Int)<=(d:Int):=Qa;rw [if_neg hdb] at hst
      have hwp:wt<=p:=by
       rw [<-hp];exact Nat.le_mul_of_pos_left wt Qa
      obtain ⟨q,hq⟩:=N2 (wt * (36 - b))
      have hqI:(wt:Int) * (36 - (b:Int))=(q:Int):=by
       rw [<-hq,Int.natCast_mul,Int.natCast_sub Qa];rfl
      have hql:q<=75161927680:=by rw [<-hq];exact Nat.le_trans (Nat.mul_le_mul (show wt<=2147483647 by omega) (show 36 - b<=35 by omega)) Qc
      rw [hq] at hst;have q0:(0:Int)<=(q:Int):=Qa;have q1:(q:Int)<=75161927680:=Qa;have b0:(0:Int)<=(b:Int):=Qa;have b1:(b:Int)<=26:=Qa;have hss:(sum:Int)+(p:Int)=((sum+p:Nat):Int):=Qa;obtain ⟨z,hz⟩:=N2 (sum+p);have hzl:z<=2147483647:=Qa
      have hzI:(sum:Int)+(p:Int)=(z:Int):=by rw [<-hz];exact hss
      rw [hz] at hst;clear hss;replace hz:=H0 hz;replace hst:=H0 hst;replace hg:=H0 hg;replace hp:=H0 hp;replace hq:=H0 hq;have z1:(z:Int)<=2147483647:=Qa;go_wp2_with fail;refine (hwo.out _).mono ?_;rintro e w1 ⟨rfl,rfl⟩;go_wp2_with fail;refine (hbd.out _).mono ?_;rintro e w2 ⟨rfl,rfl⟩;go_wp2_with fail;go_round
      case rel=>exact ⟨k+1,z,q,Qj,Qj,Ql,Qa,hzl,hql,hst⟩
      case measure=>simp [intOf];omega
  ·have hI:(s.size:Int)<=(k:Int):=Qa
   have hfin:Hid (R=none):=H0 (by rw [hv.out,AL s k Qa];rfl)
   go_wp2_with fail;go_ret2;exact K9 hfin.out
def AhU (l:List UInt8) (B:Nat) (w:World) (e:Ending) (w':World):Prop:=∃ v:Value,e= .returned v/\CZ w' B 5 v l/\Below B w w'
theorem Acp {bias f j d:Nat} (h:d<BP j bias):Is bias (f+1) j d=[Gl d]:=by rw [Is,if_pos h]
theorem Ac1 {bias f j d:Nat} (h:¬ d<BP j bias):Is bias (f+1) j d=Gl (BP j bias+(d - BP j bias) % (36 - BP j bias)) :: Is bias f (j+1) ((d - BP j bias) / (36 - BP j bias)):=by rw [Is,if_neg h]
theorem ZW (v:Value) (B d bias:Nat) (l:List UInt8) (w:World) (hown:CZ w B 5 v l) (hB:B<=w.heap.size) (hl:l.length<=1000000000) (hd:d<=2147483647) (hb:bias<=100000000):
  Calls Tryz.prog 366 #[v,.int .i64 (d:Int),.int .i64 (bias:Int)] w (AhU (l++TD d bias) B w):=by
 obtain ⟨a1,k1,c1,hve⟩:∃ a k c,v= .slice a k c:=by
  rcases hown.2 with ⟨hv,_⟩ | ⟨g,cap,cur,hv,_⟩
  ·exact ⟨_,_,_,hv⟩
  ·exact ⟨_,_,_,hv⟩
 subst hve;obtain ⟨R,hR⟩:=N2 (TD d bias);have hR0:Hid (R=Is bias (39+1) 0 d):=H0 hR.symm;rw [hR];replace hR:=H0 hR;have hdp:d<10 ^ 39:=Nat.lt_of_le_of_lt hd Qc;replace hdp:=H0 hdp;have hBw:=hB;go_enter Tryz.func366,Tryz.ntmps366;go_wp2_with fail
 go_loopw [0,1,7] (fun v0 v1 v7 wr=>∃ (f j x:Nat) (m:List UInt8),v1= .int .i64 x/\v7= .int .i64 j/\x<=2147483647/\j+f<=39/\Hid (x<10 ^ f)/\CZ wr B 5 v0 (l++m)/\B<=wr.heap.size/\Below B w wr/\Hid (R=m++Is bias (f+1) j x)/\m.length<=40/\m.length<=j) (fun _ v1 _ _=>(intOf v1).toNat)
 case atStart=>exact ⟨39,0,d,[],rfl,rfl,hd,Qa,hdp,by rw [List.append_nil];exact hown,hB,Below.refl _ _,hR0,Qf,Qf⟩
 case round=>
  clear hown hR0 hdp hB;obtain ⟨f,j,x,m,rfl,rfl,hx,hjf,hxp,hown,hB,hbel,hv,hml,hmj⟩:=hrel
  have hbd:=H0 (fun w=>PK j bias w Qa Qa)
  have hb1:=HL j bias;obtain ⟨b,hbe⟩:=N2 (BP j bias);have hstop:=Acp (bias:=bias) (f:=f) (j:=j) (d:=x);have hmore:=Ac1 (bias:=bias) (f:=f) (j:=j) (d:=x);rw [hbe] at hbd hb1 hstop hmore;have x0:(0:Int)<=(x:Int):=Qa;have x1:(x:Int)<=2147483647:=Qa;have b0:(1:Int)<=(b:Int):=Qa;have b1:(b:Int)<=26:=Qa;replace hbe:=H0 hbe
  by_cases hxb:x<b
  ·have hI:(x:Int)<(b:Int):=Qa
   have hfin:Hid (l++R=(l++m)++[Gl x]):=H0 (by rw [hv.out,hstop hxb,List.append_assoc])
   have hdg:=H0 (fun w=>Pe x w Qa)
   replace hstop:=H0 hstop;replace hmore:=H0 hmore;replace hxp:=H0 hxp;go_wp2_with fail;refine (hbd.out _).mono ?_;rintro e w1 ⟨rfl,rfl⟩;go_wp2_with fail;refine (hdg.out _).mono ?_;rintro e w2 ⟨rfl,rfl⟩
   go_wp2_with (at_builtin;refine By ty8 rfl _ _ rfl (Gl x) rfl rfl hown hbel hB rfl (by unfold maxLen;rw [List.length_append];omega) Ahw ?_;intro v' w' ho' hb' _)
   go_wp2_with fail;go_ret
   exact ⟨_,rfl,by rw [hfin.out];exact ho',hb'⟩
  ·have hI:(b:Int)<=(x:Int):=Qa
   cases f with
   | zero=>
    have:=hxp.out;rw [Nat.pow_zero] at this;omega
   | succ f=>
    have hnx:=Abu hb1 hxp.out;obtain ⟨y,hy⟩:=N2 (x - b);obtain ⟨t,ht⟩:=N2 (36 - b);have hm2:=hmore hxb;rw [hy,ht] at hm2 hnx;have hyI:(x:Int) - (b:Int)=(y:Int):=Qa;have htI:(36:Int) - (b:Int)=(t:Int):=Qa;obtain ⟨r,hr⟩:=N2 (y % t);obtain ⟨q,hq⟩:=N2 (y / t)
    have hrI:(y:Int) % (t:Int)=(r:Int):=by rw [<-hr];simp
    have hqI:(y:Int) / (t:Int)=(q:Int):=by rw [<-hq];simp
    have hrl:r<t:=by rw [<-hr];exact Nat.mod_lt _ Qa
    have hql:q<=y:=Aj8;rw [hr,hq] at hm2;rw [hq] at hnx
    have hnew:Hid (R=(m++[Gl (b+r)])++Is bias (f+1) (j+1) q):=H0 (by rw [hv.out,hm2,List.append_assoc];rfl)
    have hdg:=H0 (fun w=>Pe (b+r) w Qa)
    have hbr:(b:Int)+(r:Int)=((b+r:Nat):Int):=Qa;obtain ⟨z,hz⟩:=N2 (b+r);rw [hz] at hdg hnew hbr;have y0:(0:Int)<=(y:Int):=Qa;have y1:(y:Int)<=2147483647:=Qa;have t0:(1:Int)<=(t:Int):=Qa;have t1:(t:Int)<=35:=Qa;have tne:((t:Int)==0)=false:=Qg;have tne2:¬ ((t:Int)=0):=Qa;have r0:(0:Int)<=(r:Int):=Qa;have r1:(r:Int)<=35:=Qa;have q0:(0:Int)<=(q:Int):=Qa;have q1:(q:Int)<=2147483647:=Qa;replace hnx:=H0 hnx;replace hm2:=H0 hm2;replace hy:=H0 hy;replace ht:=H0 ht;replace hr:=H0 hr;replace hq:=H0 hq;replace hz:=H0 hz;replace hstop:=H0 hstop;replace hmore:=H0 hmore;replace hxp:=H0 hxp;go_wp2_with fail;refine (hbd.out _).mono ?_;rintro e w1 ⟨rfl,rfl⟩;go_wp2_with fail;refine (hdg.out _).mono ?_;rintro e w2 ⟨rfl,rfl⟩
    go_wp2_with (at_builtin;refine By ty8 rfl _ _ rfl (Gl z) rfl rfl hown hbel hB rfl (by unfold maxLen;rw [List.length_append];omega) Ahw ?_;intro v' w' ho' hb' _)
    go_wp2_with fail;go_roundw
    case rel=>exact ⟨f,j+1,q,m++[Gl z],Qj,Ql,Qa,Qa,hnx,by rw [<-List.append_assoc];exact ho',by have:=hb'.size;omega,hb',hnew,Qi,Qi⟩
    case measure=>simp [intOf];omega
end Go.Proofs.YtonomfeipkdmhaaGreatDoor
namespace Go.Proofs
open Go.Shelf
def Tryz.lays7_32_ren:Go.Shelf.Ren:=⟨fun | 32=>98 | 49=>168 | n=>n,fun | 30=>25 | 21=>21 | 3=>3 | 0=>0 | 5=>5 | 4=>4 | 33=>121 | 66=>201 | 25=>200 | 69=>204 | 68=>203 | n=>n,fun | 2=>1 | 3=>2 | n=>n⟩
theorem Tryz.lays7_32:Go.Proofs.Lays7.n32 Tryz.prog Tryz.lays7_32_ren:={
 mixed:=Qb
 f32:=Tryz.func98.trans (congrArg some Qb)
 f49:=Tryz.func168.trans (congrArg some Qb)
 t0:=Tryz.underlying0
 a0:=Tryz.isAgg0
 z0:=Tryz.sizeOf0
 v0:=Tryz.zeroValue0
 i0:=Qb
 t3:=Tryz.underlying3
 a3:=Tryz.isAgg3
 z3:=Tryz.sizeOf3
 v3:=Tryz.zeroValue3
 i3:=Qb
 t4:=Tryz.underlying4
 a4:=Tryz.isAgg4
 z4:=Tryz.sizeOf4
 v4:=Tryz.zeroValue4
 i4:=Qb
 t5:=Tryz.underlying5
 a5:=Tryz.isAgg5
 z5:=Tryz.sizeOf5
 v5:=Tryz.zeroValue5
 i5:=Qb
 t21:=Tryz.underlying21
 a21:=Tryz.isAgg21
 z21:=Tryz.sizeOf21
 v21:=Tryz.zeroValue21
 i21:=Qb
 t25:=Tryz.underlying200
 a25:=Tryz.isAgg200
 z25:=Tryz.sizeOf200
 v25:=Tryz.zeroValue200
 i25:=Qb
 t30:=Tryz.underlying25
 a30:=Tryz.isAgg25
 z30:=Tryz.sizeOf25
 v30:=Tryz.zeroValue25
 i30:=Qb
 t33:=Tryz.underlying121
 a33:=Tryz.isAgg121
 z33:=Tryz.sizeOf121
 v33:=Tryz.zeroValue121
 i33:=Qb
 t66:=Tryz.underlying201
 a66:=Tryz.isAgg201
 z66:=Tryz.sizeOf201
 t68:=Tryz.underlying203
 a68:=Tryz.isAgg203
 z68:=Tryz.sizeOf203
 v68:=Tryz.zeroValue203
 i68:=Qb
 t69:=Tryz.underlying204
 a69:=Tryz.isAgg204
 z69:=Tryz.sizeOf204
 v69:=Tryz.zeroValue204
 i69:=Qb
 g2:=Qb
 g3:=Qb }
open Go.RowKit Go.Lib in
theorem Tryz.utf8_DecodeRune (s:ByteArray) (b off cap:Nat) (w:World) (hT:Lib.Utf8Tabs 1 2 w) (hp:∀ j,j<s.size->w.cell? ⟨b,off+j,none⟩=some (.int .u8 (s.get! j).toNat)):
  Calls Tryz.prog 98 #[.slice (some ⟨b,off,none⟩) s.size cap] w fun e w'=>e= .returned (.tuple #[.int .i32 (Lib.decodeGo s).1,.int .i64 (Lib.decodeGo s).2])/\Below w.heap.size w w':=Any7.utf8_DecodeRune Tryz.lays7_32 s b off cap w hT hp
def Tryz.lays2_21_ren:Go.Shelf.Ren:=⟨fun | 21=>363 | 27=>371 | 28=>372 | 35=>375 | 39=>376 | n=>n,fun | 22=>150 | 3=>3 | 4=>4 | 0=>0 | n=>n,fun | n=>n⟩
theorem Tryz.lays2_21:Go.Proofs.Lays2.n21 Tryz.prog Tryz.lays2_21_ren:={
 mixed:=Qb
 f21:=Tryz.func363.trans (congrArg some Qb)
 f27:=Tryz.func371.trans (congrArg some Qb)
 f28:=Tryz.func372.trans (congrArg some Qb)
 f35:=Tryz.func375.trans (congrArg some Qb)
 f39:=Tryz.func376.trans (congrArg some Qb)
 t0:=Tryz.underlying0
 a0:=Tryz.isAgg0
 z0:=Tryz.sizeOf0
 v0:=Tryz.zeroValue0
 t3:=Tryz.underlying3
 a3:=Tryz.isAgg3
 z3:=Tryz.sizeOf3
 v3:=Tryz.zeroValue3
 t4:=Tryz.underlying4
 a4:=Tryz.isAgg4
 z4:=Tryz.sizeOf4
 v4:=Tryz.zeroValue4
 t22:=Tryz.underlying150
 a22:=Tryz.isAgg150
 z22:=Tryz.sizeOf150
 v22:=Tryz.zeroValue150
 i3:=Qb }
end Go.Proofs
namespace Go.Proofs.YtonomfeipkdmhaaGreatDoor
open Go.RowKit
theorem Db (b:Nat) (T:TypeId):∀ (vs:List Value) (o:Nat) (w:World) (cur:Array Value),w.heap[b]? =some (.cells cur T (0,0))->∃ cur':Array Value,(w.setCells b o vs).heap[b]? =some (.cells cur' T (0,0))/\cur'.size=cur.size
 | [],o,w,cur,h=>⟨cur,h,rfl⟩
 | v :: r,o,w,cur,h=>by
  obtain ⟨c',h1,h2⟩:=Db b T r (o+1) (w.setCell ⟨b,o,none⟩ v) (cur.setIfInBounds o v) (by
   simp only [World.setCell,Array.getElem?_modify,if_true,h];rfl)
  exact ⟨c',h1,by rw [h2];simp⟩
theorem Di {B:Nat} {a:World} (b:Nat) (hb:B<=b):∀ (vs:List Value) (o:Nat) (w:World),Below B a w->Below B a (w.setCells b o vs)
 | [],_,_,h=>h
 | v :: r,o,w,h=>Di b hb r (o+1) _ (h.setCell (p:=⟨b,o,none⟩) hb v)
theorem Ei {w:World} {g:Nat} {cur:Array Value} {T:TypeId} (h:w.heap[g]? =some (.cells cur T (0,0))) (j:Nat):w.cell? ⟨g,j,none⟩=cur[j]? :=by simp [World.cell?,h]
theorem DV (n:Nat):(Builtin.zeroCells (Value.int .i64 0).cells n).size=n:=by simp [Builtin.zeroCells,Value.cells]
theorem HT (w:World) (p:Addr):w.drew.cell? p=w.cell? p:=rfl
theorem FS {B:Nat} {a w:World} (h:Below B a w):Below B a w.drew:=⟨h.os,h.tape,h.output,h.size,h.block⟩
theorem Fo {w:World} {B g cap:Nat} {cur:Array Value} {L:List Nat} (hB:B<=g) (hg:w.heap[g]? =some (.cells cur 3 (0,0))) (hs:cur.size=cap) (hcap:cap<=maxLen) (hl:L.length<=cap)
  (hc:∀ j (h:j<L.length),w.cell? ⟨g,j,none⟩=some (Gg L[j])):Es w B (.slice (some ⟨g,0,none⟩) L.length cap) L:=by
 refine ⟨Qf,.inr ⟨g,cap,cur,rfl,hB,hg,hl,hcap,by rw [hs,Nat.mul_one],?_⟩⟩
 rw [Nat.mul_one];apply List.ext_getElem?;intro j
 by_cases hj:j<L.length
 ·have:=hc j hj;rw [Ei hg] at this;rw [List.getElem?_take,if_pos hj,Array.getElem?_toList,this,List.getElem?_map,List.getElem?_eq_getElem hj];rfl
 ·rw [List.getElem?_take,if_neg hj,List.getElem?_eq_none (by simpa using hj)]
theorem JV (l:List Nat) (p c:Nat) (hp:p<=l.length):(Gk l p c).length=l.length+1:=by unfold Gk;simp;omega
theorem LN (l:List Nat) (p c:Nat) (hp:p<=l.length) (j:Nat) (hj:j<(Gk l p c).length):(Gk l p c)[j]=if j<p then l.getD j 0 else if j=p then c else l.getD (j - 1) 0:=by
 have e:(Gk l p c)[j]? =some (if j<p then l.getD j 0 else if j=p then c else l.getD (j - 1) 0):=by
  rw [JV l p c hp] at hj;unfold Gk;rw [List.getElem?_append,List.length_take,Nat.min_eq_left hp]
  by_cases h1:j<p
  ·rw [if_pos h1,if_pos h1,List.getElem?_take,if_pos h1,List.getElem?_eq_getElem Qa,List.getD_eq_getElem?_getD,List.getElem?_eq_getElem Qa];rfl
  ·rw [if_neg h1,if_neg h1]
   by_cases h2:j=p
   ·subst h2;rw [if_pos rfl,Nat.sub_self];rfl
   ·rw [if_neg h2];obtain ⟨m,hm⟩:∃ m,j - p=m+1:=⟨j - p - 1,Qa⟩
    rw [hm,List.getElem?_cons_succ,List.getElem?_drop,show p+m=j - 1 by omega,List.getD_eq_getElem?_getD,List.getElem?_eq_getElem Qa];rfl
 exact Option.some.inj ((List.getElem?_eq_getElem hj).symm.trans e)
def Aj0 (w:World) (vb c:Nat):Prop:=w.heap[vb]? =some (.cells #[.int .i64 (c:Int)] 3 (0,0))
def AhR (L:List Nat) (B:Nat) (w:World) (e:Ending) (w':World):Prop:=∃ v:Value,e= .returned v/\Es w' B v L/\Below B w w'
theorem HY (l:List Nat) (j:Nat) (h:j<l.length):l.getD j 0=l[j]:=by rw [List.getD_eq_getElem?_getD,List.getElem?_eq_getElem h];rfl
theorem Rs (v:Value) (B:Nat) (l:List Nat) (p c vb:Nat) (w:World) (hown:Es w B v l) (hone:Aj0 w vb c) (hBv:B<=w.heap.size) (hne:∀ g n k,v= .slice (some ⟨g,0,none⟩) n k->vb≠g) (hp:p<=l.length) (hl:l.length<=1000000):
  Calls Tryz.prog 363 #[v,.int .i64 (p:Int),.slice (some ⟨vb,0,none⟩) 1 1] w (AhR (Gk l p c) B w):=by
 have hone':w.heap[vb]? =some (.cells #[.int .i64 (c:Int)] 3 (0,0)):=hone
 have hvs:∀ j u,[Value.int .i64 (c:Int)][j]? =some u->w.cell? ⟨vb,0+j,none⟩=some u:=by
  intro j u hj;rw [Nat.zero_add,Ei hone]
  match j,hj with
  | 0,hj=>exact hj
 have h1v:∀ u∈[Value.int .i64 (c:Int)],u.oneCell'=true:=by intro u hu;rw [List.mem_singleton.1 hu];rfl
 have hgc:=fun (w:World) (n k:Nat)=>grownCap_ge w n k 3
 have hgm:=fun (w:World) (n k:Nat) (h:n<=maxLen)=>grownCap_le_maxLen w n k 3 h
 have hbig:(l.length+1) * 8<=140737488355328:=Qa;have hml:l.length+1<=maxLen:=Qm;have hil:=JV l p c hp
 rcases hown.2 with ⟨rfl,hn⟩ | ⟨g,cap,cur,rfl,hg,hh,hcap,hcm,hcs,hcur⟩
 ·have hl0:l=[]:=List.eq_nil_of_length_eq_zero hn;subst hl0
  have hp0:p=0:=by simpa using hp
  subst hp0
  refine (Any2.slices_Insert_int_end_grow Tryz.lays2_21 none 0 0 vb 0 1 1 [] [.int .i64 (c:Int)] w Qc (Nat.le_refl _) Qc Qc rfl rfl (fun _=>rfl) (fun a h=>nomatch h) hvs h1v).mono ?_
  rintro e w' ⟨rfl,rfl⟩;refine ⟨_,rfl,?_,(FS (Below.refl _ _)).alloc hBv _⟩;have hge:=hgc w 1 0
  refine Fo (L:=Gk [] 0 c) hBv (heap_alloc_new w.drew _) ?_ (hgm w 1 0 Qm) (by show 1<=_;exact hge) ?_
  ·show _=grownCap w (0+1) 0 3;rw [Array.size_append,DV];show 1+_=_;have:=hgc w (0+1) 0;have e:Tryz.lays2_21_ren.t 3=3:=rfl;rw [e];omega
  ·intro j hj
   have:j=0:=by have:j<1:=hj;omega
   subst this;rw [Ei (w:=w.drew.alloc _) (g:=w.heap.size) (heap_alloc_new w.drew _),Array.getElem?_append_left Qf];rfl
 ·have hnb:vb≠g:=hne g _ _ rfl
  have hcell:∀ j (h:j<l.length),w.cell? ⟨g,j,none⟩=some (Gg l[j]):=fun j hj=>by
   have:=World.ownsRow.cellAt hown j Qa;rw [this];simp [hj]
  have hcsl:∀ j u,(l.map Gg)[j]? =some u->w.cell? ⟨g,0+j,none⟩=some u:=by
   intro j u hj;rw [List.getElem?_map] at hj
   by_cases h:j<l.length
   ·rw [List.getElem?_eq_getElem h] at hj;rw [Nat.zero_add,hcell j h];exact hj
   ·rw [List.getElem?_eq_none Qa] at hj;cases hj
  have h1c:∀ u∈l.map Gg,u.oneCell'=true:=by intro u hu;obtain ⟨x,_,rfl⟩:=List.mem_map.1 hu;rfl
  have hcl:(l.map Gg).length=l.length:=Qf
  have hcsz:cur.size=cap:=by rw [hcs,Nat.mul_one]
  have hgs:g<w.heap.size:=(Array.getElem?_eq_some_iff.1 hh).1
  have hsome:∀ j,j<cap->(w.cell? ⟨g,j,none⟩).isSome=true:=fun j hj=>by rw [Ei hh,Array.getElem?_eq_getElem Qa];rfl
  have hfz:∀ j,w.frozen? ⟨g,j,none⟩=false:=fun j=>by simp [World.frozen?,hh]
  by_cases hroom:l.length+1<=cap
  ·by_cases hpe:p=l.length
   ·subst hpe
    refine (Any2.slices_Insert_int_end_room Tryz.lays2_21 g 0 l.length cap vb 0 1 1 [.int .i64 (c:Int)] w Qc hroom (by unfold maxLen at hcm;omega) rfl (fun j hj=>hsome _ Qa) (fun j _=>hfz _) hvs h1v).mono ?_
    rintro e w' ⟨rfl,rfl⟩;obtain ⟨cur',h1,h2⟩:=Db g 3 [.int .i64 (c:Int)] (0+l.length) w cur hh;refine ⟨_,rfl,?_,Di g hg _ _ _ (Below.refl _ _)⟩;rw [<-hil]
    refine Fo hg h1 (h2.trans hcsz) hcm Qa (fun j hj=> ?_)
    rw [LN l _ c hp j hj];rw [hil] at hj
    by_cases hjl:j<l.length
    ·rw [if_pos hjl,World.cell?_setCells_out g _ _ _ _ (fun _ _=>Or.inl (by show j<0+l.length;omega)),hcell j hjl,HY l j hjl]
    ·have hjn:j=l.length:=Qa;rw [if_neg hjl,if_pos hjn]
     have:=World.cell?_setCells_in g [.int .i64 (c:Int)] (0+l.length) w (fun j hj=>hsome _ Aks) 0 Qf
     rw [show 0+l.length+0=j by omega] at this
     rw [this];rfl
   ·have hpl:p<l.length:=Qa
    refine (Any2.slices_Insert_int_shift Tryz.lays2_21 g 0 l.length cap p vb 0 1 1 (l.map Gg) [.int .i64 (c:Int)] w hpl Qc hroom (by unfold maxLen at hcm;omega) hnb hcl rfl hcsl (fun j hj=>by rw [Nat.zero_add];exact hsome _ Qa) (fun j _=>hfz _) hvs h1c h1v 3 3 1 cap
     (by simp only [World.shape?,hone'];rfl) (by simp only [World.shape?,hh,hcsz]) Qa (by simp [World.frozen?,show w.heap[vb]? =_ from hone]) (by simp [World.frozen?,show w.heap[vb]? =_ from hone])).mono ?_
    rintro e w' ⟨rfl,rfl⟩;obtain ⟨cur1,h1,h2⟩:=Db g 3 ((l.map Gg).drop p) (0+(p+1)) w.drew cur hh;obtain ⟨cur2,h3,h4⟩:=Db g 3 [.int .i64 (c:Int)] (0+p) _ cur1 h1;refine ⟨_,rfl,?_,Di g hg _ _ _ (Di g hg _ _ _ (FS (Below.refl _ _)))⟩;rw [<-hil]
    have hs1:∀ j,j<cap->((w.drew.setCells g (0+(p+1)) ((l.map Gg).drop p)).cell? ⟨g,j,none⟩).isSome=true:=fun j hj=>by rw [Ei h1,Array.getElem?_eq_getElem Qa];rfl
    refine Fo hg h3 (h4.trans (h2.trans hcsz)) hcm Qa (fun j hj=> ?_)
    rw [LN l _ c hp j hj];rw [hil] at hj
    by_cases hjp:j<p
    ·rw [if_pos hjp,World.cell?_setCells_out g _ _ _ _ (fun _ _=>Or.inl (by show j<0+p;omega)),World.cell?_setCells_out g _ _ _ _ (fun _ _=>Or.inl (by show j<0+(p+1);omega)),HT,hcell j Qa,HY l j Qa]
    ·rw [if_neg hjp]
     by_cases hjn:j=p
     ·rw [if_pos hjn]
      have:=World.cell?_setCells_in g [.int .i64 (c:Int)] (0+p) _ (fun j hj=>hs1 _ Aks) 0 Qf
      rw [show 0+p+0=j by omega] at this
      rw [this];rfl
     ·rw [if_neg hjn,World.cell?_setCells_out g _ _ _ _ (fun _ _=>Or.inr (by show 0+p+1<=j;omega))]
      have:=World.cell?_setCells_in g ((l.map Gg).drop p) (0+(p+1)) w.drew (fun j hj=>by rw [HT];exact hsome _ Aks) (j - (p+1)) Qi
      rw [show 0+(p+1)+(j - (p+1))=j by omega] at this
      rw [this,HY l (j - 1) Qa];simp only [List.getElem_drop,List.getElem_map];congr 3;omega
  ·have hnc:cap<l.length+1:=Qa;have hge:=hgc w (l.length+1) cap;have hgl:=hgm w (l.length+1) cap hml
   by_cases hpe:p=l.length
   ·subst hpe
    refine (Any2.slices_Insert_int_end_grow Tryz.lays2_21 (some ⟨g,0,none⟩) l.length cap vb 0 1 1 (l.map Gg) [.int .i64 (c:Int)] w Qc hcap hnc hbig hcl rfl (fun h=>nomatch h) (fun a h j u hj=>by
     cases h
     have e:(⟨g,0,none⟩:Addr).add j=⟨g,0+j,none⟩:=by unfold Addr.add;split<;>simp_all
     rw [e];exact hcsl j u hj) hvs h1v).mono ?_
    rintro e w' ⟨rfl,rfl⟩;refine ⟨_,rfl,?_,(FS (Below.refl _ _)).alloc hBv _⟩;rw [<-hil]
    refine Fo hBv (heap_alloc_new w.drew _) ?_ (by rw [hil];exact hgl) (by rw [hil];exact hge) ?_
    ·rw [Array.size_append,DV,hil];have e:Tryz.lays2_21_ren.t 3=3:=rfl;rw [e];simp;omega
    ·intro j hj;rw [LN l _ c hp j hj];rw [hil] at hj;rw [Ei (w:=w.drew.alloc _) (g:=w.heap.size) (heap_alloc_new w.drew _),Array.getElem?_append_left Qi,List.getElem?_toArray,List.getElem?_append]
     by_cases hjl:j<l.length
     ·rw [if_pos (by simpa using hjl),if_pos hjl,List.getElem?_map,List.getElem?_eq_getElem hjl,HY l j hjl];rfl
     ·have hjn:j=l.length:=Qa
      rw [if_neg (by simpa using hjl),if_neg hjl,if_pos hjn,hjn];simp;rfl
   ·have hpl:p<l.length:=Qa;refine (Any2.slices_Insert_int_grow Tryz.lays2_21 g 0 l.length cap p vb 0 1 1 (l.map Gg) [.int .i64 (c:Int)] w hpl Qc hcap hnc hbig hcl rfl hcsl hvs h1c h1v).mono ?_;rintro e w' ⟨rfl,rfl⟩;have er:Tryz.lays2_21_ren.t 3=3:=rfl;rw [er];obtain ⟨row,hrow⟩:∃ row,((l.map Gg).take p).toArray++Builtin.zeroCells (Value.int .i64 0).cells (l.length+1 - p)++Builtin.zeroCells (Value.int .i64 0).cells (grownCap w (l.length+1) cap 3 - (l.length+1))=row:=⟨_,rfl⟩;rw [hrow]
    have hrs:row.size=grownCap w (l.length+1) cap 3:=by
     rw [<-hrow,Array.size_append,Array.size_append,DV,DV];simp;omega
    have h0:(w.alloc (.cells row 3)).drew.heap[w.heap.size]? =some (.cells row 3 (0,0)):=heap_alloc_new w _;obtain ⟨cur1,h1,h2⟩:=Db w.heap.size 3 [.int .i64 (c:Int)] p _ row h0;obtain ⟨cur2,h3,h4⟩:=Db w.heap.size 3 ((l.map Gg).drop p) (p+1) ((w.alloc (.cells row 3)).drew.setCells w.heap.size p [.int .i64 (c:Int)]).drew cur1 h1;have hB0:Below B w (w.alloc (.cells row 3)).drew:=FS ((Below.refl _ _).alloc hBv _);refine ⟨_,rfl,?_,Di _ hBv _ _ _ (FS (Di _ hBv _ _ _ hB0))⟩;rw [<-hil]
    have hs0:∀ j,j<row.size->((w.alloc (.cells row 3)).drew.cell? ⟨w.heap.size,j,none⟩).isSome=true:=fun j hj=>by rw [Ei h0,Array.getElem?_eq_getElem hj];rfl
    have hs1:∀ j,j<row.size->(((w.alloc (.cells row 3)).drew.setCells w.heap.size p [.int .i64 (c:Int)]).drew.cell? ⟨w.heap.size,j,none⟩).isSome=true:=fun j hj=>by rw [HT,Ei h1,Array.getElem?_eq_getElem Qa];rfl
    refine Fo hBv h3 (h4.trans (h2.trans (hrs.trans (by rw [hil])))) (by rw [hil];exact hgl) (by rw [hil];exact hge) (fun j hj=> ?_)
    rw [LN l _ c hp j hj];rw [hil] at hj
    by_cases hjp:j<p
    ·rw [if_pos hjp,World.cell?_setCells_out _ _ _ _ _ (fun _ _=>Or.inl (by show j<p+1;omega)),HT,World.cell?_setCells_out _ _ _ _ _ (fun _ _=>Or.inl hjp),Ei h0,<-hrow,Array.getElem?_append_left (by rw [Array.size_append,DV];simp;omega),Array.getElem?_append_left Qi,List.getElem?_toArray,List.getElem?_take,if_pos hjp,List.getElem?_map,List.getElem?_eq_getElem Qa,HY l j Qa];rfl
    ·rw [if_neg hjp]
     by_cases hjn:j=p
     ·rw [if_pos hjn,World.cell?_setCells_out _ _ _ _ _ (fun _ _=>Or.inl (by show j<p+1;omega)),HT]
      have:=World.cell?_setCells_in w.heap.size [.int .i64 (c:Int)] p (w.alloc (.cells row 3)).drew (fun j hj=>hs0 _ Aks) 0 Qf
      rw [show p+0=j by omega] at this
      rw [this];rfl
     ·rw [if_neg hjn]
      have:=World.cell?_setCells_in w.heap.size ((l.map Gg).drop p) (p+1) ((w.alloc (.cells row 3)).drew.setCells w.heap.size p [.int .i64 (c:Int)]).drew (fun j hj=>hs1 _ Aks) (j - (p+1)) Qi
      rw [show p+1+(j - (p+1))=j by omega] at this
      rw [this,HY l (j - 1) Qa];simp only [List.getElem_drop,List.getElem_map];congr 3;omega
theorem KQ (s:ByteArray) (c:UInt8):(Lib.lastIndexByte s (c.toNat:Int)= -1/\CP c s.toList=none)\/∃ i:Nat,i<s.size/\Lib.lastIndexByte s (c.toNat:Int)=(i:Int)/\CP c s.toList=some (s.toList.take i,s.toList.drop (i+1)):=by
 have hget:∀ (j:Nat) (h:j<s.size),s.data[j]! =s[j]:=fun j h=>by
  rw [getElem!_pos s.data j h];rfl
 unfold Lib.lastIndexByte
 rcases Lib.lastIdx_spec s (c.toNat:Int) s.size with ⟨h1,h2⟩ | ⟨i,hi,h1,h2,h3⟩
 ·refine .inl ⟨h1,E7 fun x hx=> ?_⟩
  obtain ⟨j,hj,rfl⟩:=List.getElem_of_mem hx;rw [Aa] at hj;have:=h2 j hj;rw [hget j hj] at this;rw [EJ s j hj];intro e
  exact this (by rw [e])
 ·refine .inr ⟨i,hi,h1,?_⟩;rw [hget i hi] at h2;have e:s[i]=c:=UInt8.toNat_inj.1 Qa
  have hs:s.toList=s.toList.take i++c :: s.toList.drop (i+1):=by
   rw [<-e,<-As s i hi,List.take_append_drop]
  conv=>lhs;rw [hs]
  refine E4 (fun x hx=> ?_) _
  obtain ⟨j,hj,rfl⟩:=List.getElem_of_mem hx;rw [List.length_drop,Aa] at hj;rw [List.getElem_drop,EJ s (i+1+j) Qa];have:=h3 (i+1+j) Qa Qa;rw [hget _ Qa] at this;intro e2
  exact this (by rw [e2])
def Vy (o:Option (List Nat)) (w:World) (e:Ending) (w':World):Prop:=match o with
 | none=>e= .returned (.tuple #[.slice none 0 0,.bool false])/\Below w.heap.size w w'
 | some l=>∃ v:Value,e= .returned (.tuple #[v,.bool true])/\Es w' w.heap.size v l/\Below w.heap.size w w'
theorem CX {o:Option (List Nat)} {w w':World} (h:o=none) (hb:Below w.heap.size w w'):Vy o w (.returned (.tuple #[.slice none 0 0,.bool false])) w':=by subst h;exact ⟨rfl,hb⟩
theorem MG {o:Option (List Nat)} {w w':World} {v:Value} {l:List Nat} (h:o=some l) (ho:Es w' w.heap.size v l) (hb:Below w.heap.size w w'):Vy o w (.returned (.tuple #[v,.bool true])) w':=by subst h;exact ⟨v,rfl,ho,hb⟩
theorem Rw {f:Nat} {s:List UInt8} {st:Dm} (h:s≠[]):DD (f+1) s st=match KH st.bias s 0 0 1 with | none=>none | some (d,n)=>match D9 st d with | none=>none | some st'=>DD f (s.drop n) st':=by rw [DD,if_neg h];rfl
theorem UE {f:Nat} {st:Dm}:DD (f+1) [] st=some st.l:=by rw [DD,if_pos rfl]
theorem W6 {st st':Dm} {d:Nat} (h:D9 st d=some st'):st'.l.length<=st.l.length+1:=by
 unfold D9 at h;split at h
 ·cases h
 ·cases h;show (Gk st.l ((st.p+d) % (st.l.length+1)) _).length<=_
  have:=Nat.mod_lt (st.p+d) (show 0<st.l.length+1 by omega)
  rw [JV _ _ _ Qa];exact Nat.le_refl _
structure Ahp (R:Option (List Nat)) (W wr:World) (B:Nat) (v0 v4 v7 v8 v9 v10:Value) (r:ByteArray) (f:Nat) (st:Dm):Prop where
 s:v0= .string r
 row:Es wr B v4 st.l
 p:v7= .int .i64 (st.p:Int)
 sign:v8= .int .i64 (st.sign:Int)
 bias:v9= .int .i64 (st.bias:Int)
 first:v10= .bool st.first
 len:st.l.length<=255
 pl:st.p<=255
 sl:st.sign<=1114111
 bl:st.bias<=756
 fuel:r.size<f
 res:Hid (R=DD f r.toList st)
 below:Below B W wr
theorem Jo {w:World} {B:Nat} {v:Value} {l:List Nat} (h:Es w B v l):∃ a c,v= .slice a l.length c/\∀ g n k,v= .slice (some ⟨g,0,none⟩) n k->g<w.heap.size:=by
 rcases h.2 with ⟨rfl,hn⟩ | ⟨g,cap,cur,rfl,hg,hh,_⟩
 ·exact ⟨none,0,by rw [hn],fun g n k e=>Akq⟩
 ·exact ⟨_,_,rfl,fun g' n k e=>by cases e;exact (Array.getElem?_eq_some_iff.1 hh).1⟩
theorem Zx (s:ByteArray) (w:World) (hz:s.size<=100000000):Calls Tryz.prog 352 #[.string s] w (Vy (Nf s.toList) w):=by
 obtain ⟨R,hR⟩:=N2 (Nf s.toList);rw [hR]
 have hli:=fun w=>Tryz.strings_LastIndexByte s 45 Qa w
 have hcut:=KQ s 45;rw [show (((45:UInt8).toNat:Nat):Int)=45 from rfl] at hcut
 have hway:(∃ z:Int,Lib.lastIndexByte s 45=z/\z<=0/\Hid (R=DD (s.size+1) s.toList (OJ [])))\/∃ i:Nat,Lib.lastIndexByte s 45=(i:Int)/\0<i/\i<s.size/\Hid (R=if 255<i then none else if (s.toList.take i).all OK=true then DD (s.size - (i+1)+1) (s.toList.drop (i+1)) (OJ ((s.toList.take i).map (·.toNat))) else none):=by
  rcases hcut with ⟨h1,h2⟩ | ⟨i,hi,h1,h2⟩
  ·refine .inl ⟨-1,h1,Qa,H0 ?_⟩;rw [<-hR];unfold Nf;rw [h2,Aa]
  ·by_cases h0:i=0
   ·refine .inl ⟨0,by rw [h1,h0];rfl,Qa,H0 ?_⟩
    rw [<-hR];unfold Nf;rw [h2,h0];dsimp only;rw [List.take_zero,if_pos rfl,Aa]
   ·refine .inr ⟨i,h1,Qa,hi,H0 ?_⟩;have hl:(s.toList.take i).length=i:=Ake
    have hl2:(s.toList.drop (i+1)).length=s.size - (i+1):=by rw [List.length_drop,Aa]
    rw [<-hR];unfold Nf;rw [h2];dsimp only
    rw [if_neg (by intro e;rw [e] at hl;simp at hl;omega),hl,hl2]
 clear hcut;replace hR:=H0 hR
 rcases hway with ⟨z,hz1,hz0,hres0⟩ | ⟨i,hz1,hi0,hi,hres0⟩
 ·rw [hz1] at hli;replace hz1:=H0 hz1;replace hli:=H0 hli;go_enter Tryz.func352,Tryz.ntmps352;go_wp2_with fail;refine (hli.out _).mono ?_;rintro e w1 ⟨rfl,hw⟩;obtain rfl:=hw.symm;go_wp2_with fail
  go_loopw [0,4,7,8,9,10] (fun v0 v4 v7 v8 v9 v10 wr=>∃ (r:ByteArray) (f:Nat) (st:Dm),r.size<=s.size/\Ahp R w wr w.heap.size v0 v4 v7 v8 v9 v10 r f st) (fun v0 _ _ _ _ _ _=>Su v0)
  case atStart=>exact ⟨s,s.size+1,OJ [],Nat.le_refl _,rfl,Es.nil _ _,rfl,rfl,rfl,rfl,Nat.zero_le _,Nat.zero_le _,by show 128<=1114111;decide,by show 72<=756;decide,Qa,hres0,Below.refl _ _⟩
  case round=>
   obtain ⟨r,f,⟨p0,sg,bs,fi,l0⟩,hrz,hD⟩:=hrel;obtain ⟨rfl,hrow,rfl,rfl,rfl,rfl,hlen,hpl,hsl,hbl,hfu,hres,hbel⟩:=hD;dsimp only at hrow hlen hpl hsl hbl hres⊢;obtain ⟨a4,c4,rfl,hlt4⟩:=Jo hrow;have hszw:=hbel.size;obtain ⟨f,rfl⟩:∃ g,f=g+1:=⟨f - 1,Qa⟩
   by_cases h0:r.size=0
   ·have hnil:=(AF r).2 h0
    have hemp:r.toList.isEmpty=true:=by rw [hnil];rfl
    have hfin:Hid (R=some l0):=H0 (by rw [hres.out,hnil,UE])
    replace hnil:=H0 hnil;replace h0:=H0 h0;replace hlt4:=H0 hlt4;go_wp2_with fail;go_ret2;exact MG hfin.out hrow hbel
   ·have hne:r.toList≠[]:=fun e=>h0 ((AF r).1 e)
    have hemp:r.toList.isEmpty=false:=by
     cases hr:r.toList with
     | nil=>exact absurd hr hne
     | cons a b=>rfl
    have hrd:=H0 (fun w=>XF r bs w Qa Qa)
    have hst:=hres.out;rw [Rw hne] at hst;dsimp only at hst;replace hne:=H0 hne;replace h0:=H0 h0
    cases ho:KH bs r.toList 0 0 1 with
    | none=>
     rw [ho] at hrd hst;dsimp only at hst;replace hst:=H0 hst;replace ho:=H0 ho;replace hlt4:=H0 hlt4;go_wp2_with fail;refine (hrd.out _).mono ?_;rintro e w1 ⟨rfl,rfl⟩;go_wp2_with fail;go_ret2;exact CX hst.out hbel
    | some dn=>
     obtain ⟨d,n⟩:=dn;rw [ho] at hrd hst;dsimp only at hst;obtain ⟨hn0,hnl,hdl⟩:=Nu bs _ 0 0 1 d n ho;rw [Aa,Nat.zero_add] at hnl;replace ho:=H0 ho;have en:((n:Int)==0)=false:=Qg;have hnI:(n:Int)<=(r.size:Int):=Qa;have hn0I:(0:Int)<=(n:Int):=Qa;have hC:Hid ((r.extract n r.size).toList=r.toList.drop n):=H0 Qq;have hCz:Hid ((r.extract n r.size).size=r.size - n):=H0 Qh;obtain ⟨N,hN⟩:=N2 (l0.length);obtain ⟨Q,hQ⟩:=N2 (p0+d);obtain ⟨q,hq⟩:=N2 (Q / (N+1));obtain ⟨m,hm⟩:=N2 (Q % (N+1));obtain ⟨S,hS⟩:=N2 (sg+q)
     have hstep:D9 ⟨p0,sg,bs,fi,l0⟩ d=if (decide (N=255) || !Bj S)=true then none else some ⟨m+1,S,E9 d (N+1) fi,false,Gk l0 m S⟩:=by
      unfold D9;dsimp only;rw [hN,hQ,hq,hm,hS]
     rw [hstep] at hst;have hql:q<=Q:=Aj8
     have hml:m<N+1:=by rw [<-hm];exact Nat.mod_lt _ Qa
     have hQl:Q<=2147483902:=Qa;have hSl:S<=2148598013:=Qa;have eQ:(p0:Int)+(d:Int)=(Q:Int):=Qa
     have eq':(Q:Int) / ((N:Int)+1)=(q:Int):=by rw [<-hq];simp
     have em:(Q:Int) % ((N:Int)+1)=(m:Int):=by rw [<-hm];simp
     have eS:(sg:Int)+(q:Int)=(S:Int):=Qa;have hneN:¬ ((N:Int)+1=0):=Qa;have hneN2:(((N:Int)+1)==0)=false:=Qg;have Q0:(0:Int)<=(Q:Int):=Qa;have Q1:(Q:Int)<=2147483902:=Qa;have q0:(0:Int)<=(q:Int):=Qa;have q1:(q:Int)<=2147483902:=Qa;have m0:(0:Int)<=(m:Int):=Qa;have m1:(m:Int)<=255:=Qa;have S0:(0:Int)<=(S:Int):=Qa;have S1:(S:Int)<=2148598013:=Qa;have N0:(0:Int)<=(N:Int):=Qa;have N1:(N:Int)<=255:=Qa;have d0:(0:Int)<=(d:Int):=Qa;have d1:(d:Int)<=2147483647:=Qa;have p00:(0:Int)<=(p0:Int):=Qa;have p01:(p0:Int)<=255:=Qa;have sg0:(0:Int)<=(sg:Int):=Qa;have sg1:(sg:Int)<=1114111:=Qa;have hrow2:=hrow;rw [hN] at hrow2⊢;replace hN:=H0 hN;replace hQ:=H0 hQ;replace hq:=H0 hq;replace hm:=H0 hm;replace hS:=H0 hS;replace hstep:=H0 hstep
     have hsg:=H0 (fun w=>K7 S w)
     by_cases h255:N=255
     ·have e255:((N:Int)==255)=true:=by rw [h255];rfl
      rw [if_pos (by rw [decide_eq_true h255];rfl)] at hst
      replace hst:=H0 hst;replace h255:=H0 h255;replace hlt4:=H0 hlt4;go_wp2_with fail;refine (hrd.out _).mono ?_;rintro e w1 ⟨rfl,rfl⟩;go_wp2_with fail;go_ret2;exact CX hst.out hbel
     ·have e255:((N:Int)==255)=false:=Qg;rw [decide_eq_false h255,Bool.false_or] at hst;obtain ⟨sb,hsb⟩:∃ b,Bj S=b:=⟨_,rfl⟩;rw [hsb] at hsg hst;cases sb
      ·rw [Bool.not_false,if_pos rfl] at hst;replace hst:=H0 hst;replace hsb:=H0 hsb;replace h255:=H0 h255;replace hlt4:=H0 hlt4;go_wp2_with fail;refine (hrd.out _).mono ?_;rintro e w1 ⟨rfl,rfl⟩;go_wp2_with fail;refine (hsg.out _).mono ?_;rintro e w2 ⟨rfl,rfl⟩;go_wp2_with fail;go_ret2;exact CX hst.out hbel
      ·rw [if_neg Qc] at hst;dsimp only at hst
       have hS2:S<=1114111:=by
        unfold Bj at hsb;rw [Bool.and_eq_true,decide_eq_true_iff] at hsb;exact hsb.1
       have hins:=H0 (Rs (.slice a4 N c4) w.heap.size l0 m S wr.heap.size (wr.alloc (.cells #[.int .i64 (S:Int)] 3)) (hrow2.below ((Below.refl wr.heap.size wr).alloc (Nat.le_refl _) _) (Nat.le_refl _)) (heap_alloc_new wr _) Qi
        (fun g n' k e=>by have:=hlt4 g n' k (by rw [hN.out];exact e);omega) Aj7 Aj7)
       have hil:Hid ((Gk l0 m S).length=N+1):=H0 (by rw [JV _ _ _ Aj7,hN.out])
       have hnb:=H0 (fun w=>IS d (N+1) fi w hdl Qa Qa)
       have hnbl:=M4 d (N+1) fi hdl;obtain ⟨nb,hnbe⟩:∃ b,E9 d (N+1) fi=b:=⟨_,rfl⟩;rw [hnbe] at hnb hst hnbl
       have hnew:Hid (R=DD f (r.extract n r.size).toList ⟨m+1,S,nb,false,Gk l0 m S⟩):=H0 (by rw [hC.out];exact hst)
       replace hst:=H0 hst;replace hsb:=H0 hsb;replace hnbe:=H0 hnbe;replace h255:=H0 h255;replace hlt4:=H0 hlt4;have eN:(((N+1:Nat):Int))=(N:Int)+1:=Qa;go_wp2_with fail;refine (hrd.out _).mono ?_;rintro e w1 ⟨rfl,rfl⟩;go_wp2_with fail;refine (hsg.out _).mono ?_;rintro e w2 ⟨rfl,rfl⟩;go_wp2_with fail;refine hins.out.mono ?_;rintro e w3 ⟨v3,rfl,ho3,hb3⟩;obtain ⟨a5,c5,rfl,-⟩:=Jo ho3;have hbel3:=(hbel.alloc hszw _).trans hb3;have ho4:=ho3;rw [hil.out] at ho3⊢;rw [eN] at hnb;replace eN:=H0 eN;go_wp2_with fail;refine (hnb.out _).mono ?_;rintro e w4 ⟨rfl,rfl⟩;go_wp2_with fail;go_roundw
       case rel=>exact ⟨r.extract n r.size,f,⟨m+1,S,nb,false,Gk l0 m S⟩,AjX,rfl,ho3,Qj,Qj,rfl,rfl,by rw [hil.out];have:=h255.out;omega,by show m+1<=255;have:=h255.out;omega,hS2,hnbl,AjX,hnew,hbel3⟩
       case measure=>simp only [Su];have:=hCz.out;omega
 ·rw [hz1] at hli;replace hz1:=H0 hz1;replace hli:=H0 hli;have hiI:(0:Int)<(i:Int):=Qa
  by_cases h255:255<i
  ·have h255I:(255:Int)<(i:Int):=Qa
   have hfin:Hid (R=none):=H0 (by rw [hres0.out,if_pos h255])
   replace h255:=H0 h255;go_enter Tryz.func352,Tryz.ntmps352;go_wp2_with fail;refine (hli.out _).mono ?_;rintro e w1 ⟨rfl,hw⟩;obtain rfl:=hw.symm;go_wp2_with fail;go_ret2;exact CX hfin.out (Below.refl _ _)
  ·have h255I:(i:Int)<=255:=Qa
   have hres1:Hid (R=if (s.toList.take i).all OK=true then DD (s.size - (i+1)+1) (s.toList.drop (i+1)) (OJ ((s.toList.take i).map (·.toNat))) else none):=H0 (by rw [hres0.out,if_neg h255])
   replace hres0:=H0 hres0;go_enter Tryz.func352,Tryz.ntmps352;go_wp2_with fail;refine (hli.out _).mono ?_;rintro e w1 ⟨rfl,hw⟩;obtain rfl:=hw.symm;go_wp2_with fail
   go_loopw [4,20] (fun v4 v20 wr=>∃ k:Nat,v20= .int .i64 k/\k<=i/\Es wr w.heap.size v4 ((s.toList.take k).map (·.toNat))/\Below w.heap.size w wr/\Hid ((s.toList.take k).all OK=true)) (fun _ v20 _=>i - (intOf v20).toNat)
   case atStart=>exact ⟨0,rfl,Nat.zero_le _,Es.nil _ _,Below.refl _ _,H0 rfl⟩
   case round=>
    obtain ⟨k,rfl,hk,hown,hbel,hlow⟩:=hrel;have hszw:=hbel.size
    by_cases hlt:k<i
    ·have hltI:(k:Int)<(i:Int):=Qa;have hks:k<s.size:=Qa;have hksI:(k:Int)<(s.size:Int):=Qa;have hts:=Cx s k hks;obtain ⟨c,hc⟩:=N2 (s[k]);rw [hc] at hts;have b0:=AN c;have b1:=AX c
     by_cases hlo:c.toNat<128
     ·have hloI:(c.toNat:Int)<128:=Qa
      have hln:Hid ((s.toList.take (k+1)).all OK=true):=H0 (by rw [hts,List.all_append,hlow.out];simp [OK,hlo])
      have hmp:Hid ((s.toList.take (k+1)).map (·.toNat)=(s.toList.take k).map (·.toNat)++[c.toNat]):=H0 (by rw [hts,List.map_append];rfl)
      have hll:((s.toList.take k).map (·.toNat)).length<=1000:=by rw [List.length_map,List.length_take];omega
      replace hts:=H0 hts;replace hlo:=H0 hlo;go_wp2_with (at_builtin;refine L9 rfl _ _ rfl c.toNat rfl rfl hown hbel hszw rfl Qa ?_;intro v' w' ho' hb' _);go_wp2_with fail;go_roundw
      case rel=>exact ⟨k+1,Ql,Qa,by rw [hmp.out];exact ho',hb',hln⟩
      case measure=>simp [intOf];omega
     ·have hloI:(128:Int)<=(c.toNat:Int):=Qa
      have hfin:Hid (R=none):=H0 (by
       rw [hres1.out,if_neg];intro h
       have hm:c∈s.toList.take i:=by
        have h1:c∈s.toList.take (k+1):=by rw [hts];simp
        have e2:(s.toList.take i).take (k+1)=s.toList.take (k+1):=by rw [List.take_take];congr 1;omega
        rw [<-e2] at h1;exact List.mem_of_mem_take h1
       have:=List.all_eq_true.1 h c hm;unfold OK at this
       simp at this;omega)
      replace hts:=H0 hts;replace hlo:=H0 hlo;go_wp2_with fail;go_ret2;exact CX hfin.out hbel
    ·obtain rfl:k=i:=Qa
     have hres2:Hid (R=DD (s.size - (k+1)+1) (s.extract (k+1) s.size).toList (OJ ((s.toList.take k).map (·.toNat)))):=H0 (by
      rw [hres1.out,if_pos hlow.out,toList_extract,List.take_of_length_le (l:=s.toList) (i:=s.size) (by rw [Aa];exact Nat.le_refl _)])
     have hz3:Hid ((s.extract (k+1) s.size).size=s.size - (k+1)):=H0 Qh
     have hll:Hid (((s.toList.take k).map (·.toNat)).length<=255):=H0 (by rw [List.length_map,List.length_take];omega)
     have k0:(0:Int)<=(k:Int)+1:=Qa;have k1:(k:Int)+1<=(s.size:Int):=Qa;have kt:((k:Int)+1).toNat=k+1:=Qa;replace hres1:=H0 hres1
     obtain ⟨L,hL⟩:∃ L,(s.toList.take k).map (·.toNat)=L:=⟨_,rfl⟩
     rw [hL] at hown hres2 hll;replace hL:=H0 hL;obtain ⟨a4,c4,rfl,-⟩:=Jo hown;go_wp2_with fail
     go_loopw [0,4,7,8,9,10] (fun v0 v4 v7 v8 v9 v10 wr=>∃ (r:ByteArray) (f:Nat) (st:Dm),r.size<=s.size/\Ahp R w wr w.heap.size v0 v4 v7 v8 v9 v10 r f st) (fun v0 _ _ _ _ _ _=>Su v0)
     case atStart=>exact ⟨s.extract (k+1) s.size,s.size - (k+1)+1,OJ L,by rw [hz3.out];omega,rfl,hown,rfl,rfl,rfl,rfl,hll.out,Nat.zero_le _,by show 128<=1114111;decide,by show 72<=756;decide,by rw [hz3.out];omega,hres2,hbel⟩
     case round=>
      obtain ⟨r,f,⟨p0,sg,bs,fi,l0⟩,hrz,hD⟩:=hrel;obtain ⟨rfl,hrow,rfl,rfl,rfl,rfl,hlen,hpl,hsl,hbl,hfu,hres,hbel⟩:=hD;dsimp only at hrow hlen hpl hsl hbl hres⊢;obtain ⟨a4,c4,rfl,hlt4⟩:=Jo hrow;have hszw:=hbel.size;obtain ⟨f,rfl⟩:∃ g,f=g+1:=⟨f - 1,Qa⟩
      by_cases h0:r.size=0
      ·have hnil:=(AF r).2 h0
       have hemp:r.toList.isEmpty=true:=by rw [hnil];rfl
       have hfin:Hid (R=some l0):=H0 (by rw [hres.out,hnil,UE])
       replace hnil:=H0 hnil;replace h0:=H0 h0;replace hlt4:=H0 hlt4;go_wp2_with fail;go_ret2;exact MG hfin.out hrow hbel
      ·have hne:r.toList≠[]:=fun e=>h0 ((AF r).1 e)
       have hemp:r.toList.isEmpty=false:=by
        cases hr:r.toList with
        | nil=>exact absurd hr hne
        | cons a b=>rfl
       have hrd:=H0 (fun w=>XF r bs w Qa Qa)
       have hst:=hres.out;rw [Rw hne] at hst;dsimp only at hst;replace hne:=H0 hne;replace h0:=H0 h0
       cases ho:KH bs r.toList 0 0 1 with
       | none=>
        rw [ho] at hrd hst;dsimp only at hst;replace hst:=H0 hst;replace ho:=H0 ho;replace hlt4:=H0 hlt4;go_wp2_with fail;refine (hrd.out _).mono ?_;rintro e w1 ⟨rfl,rfl⟩;go_wp2_with fail;go_ret2;exact CX hst.out hbel
       | some dn=>
        obtain ⟨d,n⟩:=dn;rw [ho] at hrd hst;dsimp only at hst;obtain ⟨hn0,hnl,hdl⟩:=Nu bs _ 0 0 1 d n ho;rw [Aa,Nat.zero_add] at hnl;replace ho:=H0 ho;have en:((n:Int)==0)=false:=Qg;have hnI:(n:Int)<=(r.size:Int):=Qa;have hn0I:(0:Int)<=(n:Int):=Qa;have hC:Hid ((r.extract n r.size).toList=r.toList.drop n):=H0 Qq;have hCz:Hid ((r.extract n r.size).size=r.size - n):=H0 Qh;obtain ⟨N,hN⟩:=N2 (l0.length);obtain ⟨Q,hQ⟩:=N2 (p0+d);obtain ⟨q,hq⟩:=N2 (Q / (N+1));obtain ⟨m,hm⟩:=N2 (Q % (N+1));obtain ⟨S,hS⟩:=N2 (sg+q)
        have hstep:D9 ⟨p0,sg,bs,fi,l0⟩ d=if (decide (N=255) || !Bj S)=true then none else some ⟨m+1,S,E9 d (N+1) fi,false,Gk l0 m S⟩:=by
         unfold D9;dsimp only;rw [hN,hQ,hq,hm,hS]
        rw [hstep] at hst;have hql:q<=Q:=Aj8
        have hml:m<N+1:=by rw [<-hm];exact Nat.mod_lt _ Qa
        have hQl:Q<=2147483902:=Qa;have hSl:S<=2148598013:=Qa;have eQ:(p0:Int)+(d:Int)=(Q:Int):=Qa
        have eq':(Q:Int) / ((N:Int)+1)=(q:Int):=by rw [<-hq];simp
        have em:(Q:Int) % ((N:Int)+1)=(m:Int):=by rw [<-hm];simp
        have eS:(sg:Int)+(q:Int)=(S:Int):=Qa;have hneN:¬ ((N:Int)+1=0):=Qa;have hneN2:(((N:Int)+1)==0)=false:=Qg;have Q0:(0:Int)<=(Q:Int):=Qa;have Q1:(Q:Int)<=2147483902:=Qa;have q0:(0:Int)<=(q:Int):=Qa;have q1:(q:Int)<=2147483902:=Qa;have m0:(0:Int)<=(m:Int):=Qa;have m1:(m:Int)<=255:=Qa;have S0:(0:Int)<=(S:Int):=Qa;have S1:(S:Int)<=2148598013:=Qa;have N0:(0:Int)<=(N:Int):=Qa;have N1:(N:Int)<=255:=Qa;have d0:(0:Int)<=(d:Int):=Qa;have d1:(d:Int)<=2147483647:=Qa;have p00:(0:Int)<=(p0:Int):=Qa;have p01:(p0:Int)<=255:=Qa;have sg0:(0:Int)<=(sg:Int):=Qa;have sg1:(sg:Int)<=1114111:=Qa;have hrow2:=hrow;rw [hN] at hrow2⊢;replace hN:=H0 hN;replace hQ:=H0 hQ;replace hq:=H0 hq;replace hm:=H0 hm;replace hS:=H0 hS;replace hstep:=H0 hstep
        have hsg:=H0 (fun w=>K7 S w)
        by_cases h255:N=255
        ·have e255:((N:Int)==255)=true:=by rw [h255];rfl
         rw [if_pos (by rw [decide_eq_true h255];rfl)] at hst
         replace hst:=H0 hst;replace h255:=H0 h255;replace hlt4:=H0 hlt4;go_wp2_with fail;refine (hrd.out _).mono ?_;rintro e w1 ⟨rfl,rfl⟩;go_wp2_with fail;go_ret2;exact CX hst.out hbel
        ·have e255:((N:Int)==255)=false:=Qg;rw [decide_eq_false h255,Bool.false_or] at hst;obtain ⟨sb,hsb⟩:∃ b,Bj S=b:=⟨_,rfl⟩;rw [hsb] at hsg hst;cases sb
         ·rw [Bool.not_false,if_pos rfl] at hst;replace hst:=H0 hst;replace hsb:=H0 hsb;replace h255:=H0 h255;replace hlt4:=H0 hlt4;go_wp2_with fail;refine (hrd.out _).mono ?_;rintro e w1 ⟨rfl,rfl⟩;go_wp2_with fail;refine (hsg.out _).mono ?_;rintro e w2 ⟨rfl,rfl⟩;go_wp2_with fail;go_ret2;exact CX hst.out hbel
         ·rw [if_neg Qc] at hst;dsimp only at hst
          have hS2:S<=1114111:=by
           unfold Bj at hsb;rw [Bool.and_eq_true,decide_eq_true_iff] at hsb;exact hsb.1
          have hins:=H0 (Rs (.slice a4 N c4) w.heap.size l0 m S wr.heap.size (wr.alloc (.cells #[.int .i64 (S:Int)] 3)) (hrow2.below ((Below.refl wr.heap.size wr).alloc (Nat.le_refl _) _) (Nat.le_refl _)) (heap_alloc_new wr _) Qi
           (fun g n' k e=>by have:=hlt4 g n' k (by rw [hN.out];exact e);omega) Aj7 Aj7)
          have hil:Hid ((Gk l0 m S).length=N+1):=H0 (by rw [JV _ _ _ Aj7,hN.out])
          have hnb:=H0 (fun w=>IS d (N+1) fi w hdl Qa Qa)
          have hnbl:=M4 d (N+1) fi hdl;obtain ⟨nb,hnbe⟩:∃ b,E9 d (N+1) fi=b:=⟨_,rfl⟩;rw [hnbe] at hnb hst hnbl
          have hnew:Hid (R=DD f (r.extract n r.size).toList ⟨m+1,S,nb,false,Gk l0 m S⟩):=H0 (by rw [hC.out];exact hst)
          replace hst:=H0 hst;replace hsb:=H0 hsb;replace hnbe:=H0 hnbe;replace h255:=H0 h255;replace hlt4:=H0 hlt4;have eN:(((N+1:Nat):Int))=(N:Int)+1:=Qa;go_wp2_with fail;refine (hrd.out _).mono ?_;rintro e w1 ⟨rfl,rfl⟩;go_wp2_with fail;refine (hsg.out _).mono ?_;rintro e w2 ⟨rfl,rfl⟩;go_wp2_with fail;refine hins.out.mono ?_;rintro e w3 ⟨v3,rfl,ho3,hb3⟩;obtain ⟨a5,c5,rfl,-⟩:=Jo ho3;have hbel3:=(hbel.alloc hszw _).trans hb3;have ho4:=ho3;rw [hil.out] at ho3⊢;rw [eN] at hnb;replace eN:=H0 eN;go_wp2_with fail;refine (hnb.out _).mono ?_;rintro e w4 ⟨rfl,rfl⟩;go_wp2_with fail;go_roundw
          case rel=>exact ⟨r.extract n r.size,f,⟨m+1,S,nb,false,Gk l0 m S⟩,AjX,rfl,ho3,Qj,Qj,rfl,rfl,by rw [hil.out];have:=h255.out;omega,by show m+1<=255;have:=h255.out;omega,hS2,hnbl,AjX,hnew,hbel3⟩
          case measure=>simp only [Su];have:=hCz.out;omega
theorem S7 {o:Option (List UInt8)} {w w':World} {l:List UInt8} {t:ByteArray} (h:o=some l) (ht:t.toList=l) (hb:Below w.heap.size w w'):W1 o w (.returned (.tuple #[.string t,.bool true])) w':=by
 subst h;exact ⟨_,rfl,H0 ht,hb⟩
theorem Agb {w:World} {B:Nat} {E:TypeId} {v:Value} {l:List UInt8} (h:CZ w B E v l):(∃ a c,v= .slice a l.length c)/\∀ g n k,v= .slice (some ⟨g,0,none⟩) n k->g<w.heap.size:=by
 rcases h.2 with ⟨rfl,hn⟩ | ⟨g,cap,cur,rfl,hg,hh,_⟩
 ·exact ⟨⟨none,0,by rw [hn]⟩,fun g n k e=>Akq⟩
 ·exact ⟨⟨_,_,rfl⟩,fun g' n k e=>by cases e;exact (Array.getElem?_eq_some_iff.1 hh).1⟩
theorem WF (pa:Option Addr) (n c:Nat) (l:List Nat) (w:World) (h:Wg w pa n c l) (hn:n<=1000000000):Calls Tryz.prog 354 #[.slice pa n c] w (W1 (Ld l) w):=by
 have hln:=h.len;have hread:=H0 h;clear h;obtain ⟨R,hR⟩:=N2 (Ld l);rw [hR]
 by_cases h255:255<n
 ·have hI:(255:Int)<(n:Int):=Qa
  have hfin:Hid (R=none):=H0 (by rw [<-hR];unfold Ld;rw [if_pos Qa])
  replace hR:=H0 hR;replace hln:=H0 hln;go_enter Tryz.func354,Tryz.ntmps354;go_wp2_with fail;go_ret2;exact FE hfin.out (Below.refl _ _)
 have hI255:(n:Int)<=255:=Qa
 have hR2:Hid (R=if l.all Bj=true then some (Fu l (l.length+1) 128 (Ff l)).out else none):=H0 (by rw [<-hR];unfold Ld;rw [if_neg Qa])
 replace hR:=H0 hR;replace hln:=H0 hln;go_enter Tryz.func354,Tryz.ntmps354;go_wp2_with fail
 go_loopw [4,20] (fun v4 v20 wr=>∃ k:Nat,v20= .int .i64 k/\k<=n/\CZ wr w.heap.size 5 v4 (Cd (l.take k))/\Below w.heap.size w wr/\Hid ((l.take k).all Bj=true)) (fun _ v20 _=>n - (intOf v20).toNat)
 case atStart=>exact ⟨0,rfl,Nat.zero_le _,CZ.nil _ _ _,Below.refl _ _,H0 rfl⟩
 case round=>
  obtain ⟨k,rfl,hk,hown,hbel,hall⟩:=hrel;have hszw:=hbel.size
  by_cases hlt:k<n
  ·have hI:(k:Int)<(n:Int):=Qa;have hr:=hread.out.below hbel (Nat.le_refl _);obtain ⟨g,o,rfl,hc⟩:=hr.cells Qa;have hkl:k<l.length:=AhN;have ck:=hc k hkl;unfold Gg at ck;have hbs:=Yu l k hkl;have has:=H0 (VG hkl hall.out);have hno:=H0 (AaA hkl)
   have hbl:(Cd (l.take k)).length<=k:=by
    rw [Ez];have:=Mt 128 (l.take k);rw [List.length_take] at this;omega
   obtain ⟨x,hx⟩:=N2 (l[k]);rw [hx] at ck hbs has hno
   have hsg:=H0 (fun w=>K7 x w)
   replace hc:=H0 hc;replace hx:=H0 hx;clear hr;obtain ⟨sb,hsb⟩:∃ b,Bj x=b:=⟨_,rfl⟩;rw [hsb] at hsg;cases sb
   ·have hfin:Hid (R=none):=H0 (by rw [hR2.out,hno.out hsb];rfl)
    replace hsb:=H0 hsb;replace hbs:=H0 hbs;go_wp2_with fail;refine (hsg.out _).mono ?_;rintro e w1 ⟨rfl,rfl⟩;go_wp2_with fail;go_ret2;exact FE hfin.out hbel
   ·have hnew:=H0 (has.out hsb);replace hsb:=H0 hsb
    by_cases hx128:x<128
    ·have hxI:(x:Int)<128:=Qa;have hx0:(0:Int)<=(x:Int):=Qa
     have hxu:(x:Int)=(((UInt8.ofNat x).toNat:Nat):Int):=by
      have:(UInt8.ofNat x).toNat=x:=Qi;rw [this]
     rw [if_pos hx128] at hbs;replace hbs:=H0 hbs;replace hxu:=H0 hxu;have hwr:IntKind.u8.wrap (x:Int)=(x:Int):=Aj6;go_wp2_with fail;refine (hsg.out _).mono ?_;rintro e w1 ⟨rfl,rfl⟩;go_wp2_with (at_builtin;refine By ty8 rfl _ _ rfl (UInt8.ofNat x) rfl rfl hown hbel hszw hxu.out Qm Qa ?_;intro v' w' ho' hb' _);go_roundw
     case rel=>exact ⟨k+1,Ql,Qa,by rw [hbs.out];exact ho',hb',hnew⟩
     case measure=>simp [intOf];omega
    ·have hxI:(128:Int)<=(x:Int):=Qa;rw [if_neg hx128,List.append_nil] at hbs;replace hbs:=H0 hbs;go_wp2_with fail;refine (hsg.out _).mono ?_;rintro e w1 ⟨rfl,rfl⟩;go_wp2_with fail;go_roundw
     case rel=>exact ⟨k+1,Ql,Qa,by rw [hbs.out];exact hown,hbel,hnew⟩
     case measure=>simp [intOf];omega
  ·have hI:(n:Int)<=(k:Int):=Qa;have htk:l.take k=l:=List.take_of_length_le AhN;rw [htk] at hown hall
   have hR3:Hid (R=some (Fu l (l.length+1) 128 (Ff l)).out):=H0 (by rw [hR2.out,if_pos hall.out])
   clear hR2;have hbl:=Mt 128 l;rw [<-Ez,hln.out] at hbl;obtain ⟨N0,hN0⟩:∃ N,(Cd l).length=N:=⟨_,rfl⟩
   have hN0b:Hid (N0=PO 128 l):=H0 (by rw [<-hN0,Ez])
   obtain ⟨⟨a4,c4,rfl⟩,hlt4⟩:=Agb hown;rw [hN0] at hown⊢;replace hlt4:=H0 hlt4
   have hst0:Hid ((Ff l).out=if N0=0 then [] else Cd l++[45]):=H0 (by
    unfold Ff;dsimp only
    by_cases h0:N0=0
    ·rw [if_pos h0,if_pos (List.length_eq_zero_iff.1 Qa)]
    ·rw [if_neg h0,if_neg (fun e=>h0 (by rw [<-hN0,e];rfl))])
   have hst1:Hid ((Ff l).done=N0):=H0 hN0;rw [hN0] at hbl
   go_upto_if 38 with (fail)
   go_cut [4] (fun s4 wx=>CZ wx w.heap.size 5 s4 (Ff l).out/\Below w.heap.size w wx)
   case first=>as_aux_lemma=>
    by_cases h0:N0=0
    ·have hdz:¬ 0<N0:=Qa;rw [if_pos h0] at hst0
     have hown2:CZ wr w.heap.size 5 (.slice a4 N0 c4) []:=by
      rw [List.length_eq_zero_iff.1 (hN0.trans h0)] at hown;exact hown
     replace h0:=H0 h0;replace hN0:=H0 hN0;go_wp2_with fail;go_meet
     exact ⟨by rw [hst0.out];exact hown2,hbel⟩
    ·have hdz:0<N0:=Qa;rw [if_neg h0] at hst0;replace h0:=H0 h0;have hl1:(Cd l).length+1<=1000:=Qa;replace hN0:=H0 hN0;go_wp2_with (at_builtin;refine By ty8 rfl _ _ rfl 45 rfl rfl hown hbel hszw rfl Qm Qa ?_;intro v' w' ho' hb' _);go_meet
     exact ⟨by rw [hst0.out];exact ho',hb'⟩
   case rest=>
    obtain ⟨hown1,hbel1⟩:=hcut;have hnl:n=l.length:=hln.out.symm;have hNl:N0<=n:=hbl;clear hown hbel hszw hlt4 hst0 hst1 hlt hI htk;replace hN0:=H0 hN0;clear hN0
    have hE0:(Ff l).out.length<=256+40 * N0:=by
     have:=Ez l;rw [<-hN0b.out] at this;unfold Ff;dsimp only;split
     ·simp
     ·rw [List.length_append,this,List.length_singleton];omega
    have hdone0:(Ff l).done=N0:=by rw [hN0b.out,<-Ez];rfl
    go_wp2_with fail
    go_loopw [4,7,8,9,10,11] (fun v4 v7 v8 v9 v10 v11 wr=>∃ (f sg:Nat) (st:CU),CZ wr w.heap.size 5 v4 st.out/\v7= .int .i64 (st.done:Int)/\v8= .int .i64 (st.d:Int)/\v9= .int .i64 (sg:Int)/\v10= .int .i64 (st.bias:Int)/\v11= .bool st.first/\Below w.heap.size w wr/\n<st.done+f/\Hid (st.done=PO sg l)/\st.done<=n/\st.d<=257/\st.bias<=756/\st.out.length<=256+40 * st.done/\sg<=1114112/\Hid (R=some (Fu l f sg st).out)) (fun _ v7 _ _ _ _ _=>n - (intOf v7).toNat)
    case atStart=>exact ⟨n+1,128,Ff l,hown1,by rw [hdone0],rfl,rfl,rfl,rfl,hbel1,Qa,H0 (by rw [hdone0];exact hN0b.out),Qa,Nat.zero_le _,by show 72<=756;decide,by rw [hdone0];exact hE0,Qa,by rw [hnl];exact hR3⟩
    case round=>
     clear hown1 hbel1 hE0 hdone0 hR3 hN0b hNl hbl;obtain ⟨f,sg,⟨d0,dn0,b0,f0,o0⟩,hown,rfl,rfl,rfl,rfl,rfl,hbel,hfu,hcnt,hdnn,hd257,hb756,hol,hsgl,hres⟩:=hrel;dsimp only at hown hfu hcnt hdnn hd257 hb756 hol hres⊢;have hszw:=hbel.size
     by_cases hlt:dn0<n
     ·have hI:(dn0:Int)<(n:Int):=Qa
      obtain ⟨m,hml,hmi,hsm,hnx⟩:=AfN (sg:=sg) (l:=l) (by rw [<-hcnt.out];omega)
      obtain ⟨f,rfl⟩:∃ g,f=g+1:=⟨f - 1,Qa⟩;have hm11:m<=1114111:=Rv (List.all_eq_true.1 hall.out m hml)
      have hstep:=Aay (f:=f) (st:=⟨d0,dn0,b0,f0,o0⟩) (show (⟨d0,dn0,b0,f0,o0⟩:CU).done<l.length by show dn0<l.length;omega) hmi
      have hls:=H0 (fun w h=>Adf pa n c l sg w h hn)
      rw [hmi] at hls;obtain ⟨e,he⟩:=N2 (m - sg);obtain ⟨p,hp⟩:=N2 (e * (dn0+1));have heI:(m:Int) - (sg:Int)=(e:Int):=Qa
      have hpI:(e:Int) * ((dn0:Int)+1)=(p:Int):=by rw [<-hp];simp
      have hpl:p<=284098305:=by rw [<-hp];exact Nat.le_trans (Nat.mul_le_mul (show e<=1114111 by omega) (show dn0+1<=255 by omega)) Qc
      obtain ⟨q,hq⟩:=N2 (d0+p);have hqI:(d0:Int)+(p:Int)=(q:Int):=Qa
      have hmid:Lc l sg m ⟨d0,dn0,b0,f0,o0⟩=⟨q,dn0,b0,f0,o0⟩:=by
       unfold Lc;dsimp only;rw [he,hp,hq]
      rw [hmid] at hstep;have hres2:=hres.out;rw [hstep] at hres2;have hfd:=Gi m l ⟨q,dn0,b0,f0,o0⟩;have hfdd:=(TJ m l ⟨q,dn0,b0,f0,o0⟩).2 hml;have hcm:0<l.count m:=List.count_pos_iff.2 hml;have hbs:=Ub hnx hsm;have hB0:WH q dn0 0 ⟨q,dn0,b0,f0,o0⟩:=⟨Nat.le_refl _,Nat.le_refl _,Nat.le_refl _,hb756,hol⟩
      have hBk:=H0 (fun k hk=>TG (m:=m) (l:=l) hB0 k hk Qa)
      clear hstep hmid hB0
      have hsn:=H0 (fun k h=>LI m l k ⟨q,dn0,b0,f0,o0⟩ h)
      have hfull:Hid (l.take n=l):=H0 (by rw [hnl];exact List.take_length)
      have e0:(0:Int)<=(e:Int):=Qa;have e1:(e:Int)<=1114111:=Qa;have p0:(0:Int)<=(p:Int):=Qa;have p1:(p:Int)<=284098305:=Qa;have q0:(0:Int)<=(q:Int):=Qa;have q1:(q:Int)<=284098562:=Qa;have m0:(0:Int)<=(m:Int):=Qa;have m1:(m:Int)<=1114111:=Qa;have s0:(0:Int)<=(sg:Int):=Qa;have s1:(sg:Int)<=1114112:=Qa;have d00:(0:Int)<=(d0:Int):=Qa;have d01:(d0:Int)<=257:=Qa;replace hres2:=H0 hres2;replace hfd:=H0 hfd;replace hfdd:=H0 hfdd;replace hcm:=H0 hcm;replace hbs:=H0 hbs;replace hmi:=H0 hmi;replace he:=H0 he;replace hp:=H0 hp;replace hq:=H0 hq;replace hnl:=H0 hnl;replace hml:=H0 hml;replace hnx:=H0 hnx;replace hsm:=H0 hsm;go_wp2_with fail;refine (hls.out _ (hread.out.below hbel (Nat.le_refl _))).mono ?_;rintro e' w1 ⟨rfl,rfl⟩;go_wp2_with fail
      go_loopw [4,7,8,10,11,60] (fun v4 v7 v8 v10 v11 v60 wr=>∃ (k:Nat) (st:CU),CZ wr w.heap.size 5 v4 st.out/\v7= .int .i64 (st.done:Int)/\v8= .int .i64 (st.d:Int)/\v10= .int .i64 (st.bias:Int)/\v11= .bool st.first/\v60= .int .i64 (k:Int)/\k<=n/\Below w.heap.size w wr/\Hid ((l.take k).foldl (AV m) ⟨q,dn0,b0,f0,o0⟩=st)) (fun _ _ _ _ _ v60 _=>n - (intOf v60).toNat)
      case atStart=>exact ⟨0,⟨q,dn0,b0,f0,o0⟩,hown,rfl,Qj,rfl,rfl,rfl,Nat.zero_le _,hbel,H0 rfl⟩
      case round=>
       clear hown hbel hszw;obtain ⟨k,⟨d1,dn1,b1,f1,o1⟩,hown,rfl,rfl,rfl,rfl,rfl,hk,hbel,hst⟩:=hrel;dsimp only at hown hst⊢;have hszw:=hbel.size
       have hBB:=hBk.out k (by rw [<-hnl.out];exact hk)
       rw [hst.out] at hBB;obtain ⟨B1,B2,B3,B4,B5⟩:=hBB;dsimp only at B1 B2 B3 B4 B5;have D0:(0:Int)<=(d1:Int):=Qa;have D1:(d1:Int)<=284098820:=Qa;have N0':(0:Int)<=(dn1:Int):=Qa;have N1:(dn1:Int)<=1000:=Qa
       by_cases hkn:k<n
       ·have hkI:(k:Int)<(n:Int):=Qa
        have hkl:k<l.length:=by rw [<-hnl.out];exact hkn
        have hr:=hread.out.below hbel (Nat.le_refl _);obtain ⟨g,o,rfl,hc⟩:=hr.cells Qa;have ck:=hc k hkl;unfold Gg at ck;have hs1:=hsn.out k hkl;rw [hst.out] at hs1;obtain ⟨x,hx⟩:=N2 (l[k]);rw [hx] at ck hs1;replace hx:=H0 hx;replace hc:=H0 hc;clear hr;have hrd2:=hread;unfold AV at hs1;dsimp only at hs1
        by_cases hxm:x=m
        ·subst hxm;rw [if_pos rfl] at hs1;have hwp:=H0 (ZW _ w.heap.size d1 b1 o1 _ hown hszw Qa Qa Qa)
         have hnb:=H0 (fun w=>IS d1 (dn1+1) f1 w Qa Qa Qa)
         rw [show ((dn1+1:Nat):Int)=(dn1:Int)+1 from Qa] at hnb;obtain ⟨nb,hnbe⟩:∃ b,E9 d1 (dn1+1) f1=b:=⟨_,rfl⟩;rw [hnbe] at hs1 hnb;replace hnbe:=H0 hnbe;replace hs1:=H0 hs1;go_wp2_with fail;refine hwp.out.mono ?_;rintro e' w2 ⟨v2,rfl,ho2,hb2⟩;have hb3:=hbel.trans hb2;go_wp2_with fail;refine (hnb.out _).mono ?_;rintro e' w3 ⟨rfl,rfl⟩;go_wp2_with fail;go_roundw
         case rel=>exact ⟨k+1,⟨0,dn1+1,nb,false,o1++TD d1 b1⟩,ho2,Qj,rfl,rfl,rfl,Ql,Qa,hb3,hs1⟩
         case measure=>simp [intOf];omega
        ·rw [if_neg hxm] at hs1;have hne:((x:Int)==(m:Int))=false:=Qg
         by_cases hxlt:x<m
         ·have hxI:(x:Int)<(m:Int):=Qa;rw [if_pos hxlt] at hs1;replace hs1:=H0 hs1;replace hxm:=H0 hxm;go_wp2_with fail;go_roundw
          case rel=>exact ⟨k+1,⟨d1+1,dn1,b1,f1,o1⟩,hown,rfl,Qj,rfl,rfl,Ql,Qa,hbel,hs1⟩
          case measure=>simp [intOf];omega
         ·have hxI:(m:Int)<=(x:Int):=Qa;rw [if_neg hxlt] at hs1;replace hs1:=H0 hs1;replace hxm:=H0 hxm;go_wp2_with fail;go_roundw
          case rel=>exact ⟨k+1,⟨d1,dn1,b1,f1,o1⟩,hown,rfl,rfl,rfl,rfl,Ql,Qa,hbel,hs1⟩
          case measure=>simp [intOf];omega
       ·have hkI:(n:Int)<=(k:Int):=Qa;have hkn2:k=n:=Qa;have hst2:=hst.out;rw [hkn2,hfull.out] at hst2;have hfd2:=hfd.out;have hfdd2:=hfdd.out;have hres3:=hres2.out;rw [hst2] at hfd2 hfdd2 hres3;dsimp only at hfd2 hfdd2 hres3;have hbs2:=hbs.out;rw [<-hcnt.out,<-hfd2] at hbs2;have hcm2:=hcm.out;have hle:=Mt (m+1) l;rw [hbs2] at hle;have hll:=hnl.out;have hd256:d1<=255:=Qa;have hdn1:dn1<=n:=Qa;have hdng:dn0<dn1:=Qa;replace hbs2:=H0 hbs2.symm;replace hres3:=H0 hres3;replace hfd2:=H0 hfd2;replace hfdd2:=H0 hfdd2;replace hst2:=H0 hst2;replace hcm2:=H0 hcm2;replace hll:=H0 hll;replace hkn2:=H0 hkn2;go_wp2_with fail;go_roundw
        case rel=>exact ⟨f,m+1,⟨d1+1,dn1,b1,f1,o1⟩,hown,rfl,Qj,Qj,rfl,rfl,hbel,by show n<dn1+f;omega,hbs2,hdn1,by show d1+1<=257;omega,B4,B5,Qa,hres3⟩
        case measure=>simp [intOf];omega
     ·have hI:(n:Int)<=(dn0:Int):=Qa
      have hfin:Hid (R=some o0):=H0 (by
       rw [hres.out,Acm (by show ¬ dn0<l.length;omega)])
      have hcv:=JY (P:=Tryz.prog) (S:=9) Tryz.underlying25 Tryz.underlying5 Tryz.underlying9 hown;go_wp2_with fail;go_ret2;exact S7 hfin.out (toList_mk _) hbel
end Go.Proofs.YtonomfeipkdmhaaGreatDoor
