/- Part 23: lemmas. -/
import Derived.Test.YtonomfeipkdmhaaGreatDoorK22
import Derived.Deep.CutBlock
import Derived.Deep.RegionWith
set_option linter.unusedVariables false
set_option linter.unusedSimpArgs false
set_option maxRecDepth 100000
set_option maxHeartbeats 16000000
namespace Go.Proofs.YtonomfeipkdmhaaGreatDoor
open Go.RowKit
theorem Hk {u:Nat} (h:¬ u<10):Lib.decDigits u=Lib.decDigits (u / 10)++[UInt8.ofNat (48+u % 10)]:=by
 rw [Lib.decDigits,dif_neg h]
theorem EV:∀ (k u:Nat),u<10 ^ (k+1)->(Lib.decDigits u).length<=k+1
 | 0,u,h=>by rw [Lib.decDigits,dif_pos (by omega)];simp
 | k+1,u,h=>by
  rw [Lib.decDigits];split
  ·simp
  ·have:=EV k (u / 10) (by rw [Nat.pow_succ] at h;exact Nat.div_lt_of_lt_mul (by omega))
   rw [List.length_append];simp;omega
theorem GN (d:Nat) (h:d<10):((UInt8.ofNat (48+d)).toNat:Int)=48+(d:Int):=by
 rw [UInt8.toNat_ofNat_of_lt' (by show 48+d<256;omega)];omega
theorem JD (n:Int) (h₀:0<=n) (h₁:n<256):IntKind.u8.wrap n=n:=by simp [IntKind.wrap,IntKind.bits,IntKind.signed];omega
theorem Ls {P:Program} {T E S:TypeId} (hT:P.underlying T=some (.slice E)) (hE:P.underlying E=some (.int .u8)) (hS:P.underlying S=some .string) (c:UInt8):
  ∃ s:ByteArray,Hid (s.toList=[c])/\s.size<=1/\∀ (w:World) (g:Nat),w.cell? ⟨g,0,none⟩=some (.int .u8 (c.toNat:Int))->(convert T S (.slice (some ⟨g,0,none⟩) 1 1)).run P w= .ok (.string s) w:=by
 refine ⟨⟨[c].toArray⟩,H0 (toList_mk _),Nat.le_refl _,fun w g hc=> ?_⟩
 have:=run_convert_bytes_arg (P:=P) (w:=w) T E hT hE g 0 1 1 [(c.toNat:Int)] rfl (fun i hi=>by
  obtain rfl:i=0:=by omega
  exact hc) S hS
 rw [this];unfold strOfNums;simp
theorem Yt (k:Nat):∀ (n:Nat) (w:World),n<k->n<4294967296->
  Calls Tryz.prog 138 #[.int .i64 (n:Int)] w (Cy w (Lib.decDigits n)):=by
 induction k with
 | zero=>intro n w hk _;omega
 | succ k ih=>
  intro n w hk hn
  by_cases h10:n<10
  ·have h10I:(n:Int)<10:=by omega
   obtain ⟨sep,hsep,hsep1,hcv⟩:=Ls (P:=Tryz.prog) (S:=9) Tryz.underlying25 Tryz.underlying5 Tryz.underlying9 (UInt8.ofNat (48+n))
   have e1:IntKind.u8.wrap (48+(n:Int))=48+(n:Int):=JD _ (by omega) (by omega)
   rw [GN n h10] at hcv;have hsep:=H0 hsep;go_enter Tryz.func138,Tryz.ntmps138;go_wp2_with fail;go_ret
   exact BL (by rw [hsep.out.out,Lib.decDigits_one h10]) ((Below.refl _ _).alloc (Nat.le_refl _) _)
  ·have h10I:(10:Int)<=(n:Int):=by omega
   obtain ⟨sep,hsep,hsep1,hcv⟩:=Ls (P:=Tryz.prog) (S:=9) Tryz.underlying25 Tryz.underlying5 Tryz.underlying9 (UInt8.ofNat (48+n % 10))
   have e1:IntKind.u8.wrap (48+(n:Int) % 10)=48+(n:Int) % 10:=JD _ (by omega) (by omega)
   have e3:IntKind.i64.wrap (48+(n:Int) % 10)=48+(n:Int) % 10:=IntWalk.i64_in _ (by omega)
   have e4:(n:Int).tmod 10=(n:Int) % 10:=Int.tmod_eq_emod_of_nonneg (by omega)
   have e5:IntKind.i64.wrap ((n:Int) / 10)=((n / 10:Nat):Int):=by rw [IntWalk.i64_in _ (by omega)];omega
   rw [GN (n % 10) (by omega),show ((n % 10:Nat):Int)=(n:Int) % 10 by omega] at hcv
   have hsep:=H0 hsep;go_enter Tryz.func138,Tryz.ntmps138;go_wp2_with fail
   go_region_with
    ((go_at_call 138;refine (ih (n / 10) _ (by omega) (by omega)).mono ?_;rintro e w1 ⟨t,rfl,ht,hb⟩;obtain ⟨E,d,rfl⟩:=hb.ext;clear hb;have hz:t.size<=10:=by { rw [<-Aa,ht.out];exact Nat.le_trans (EV 9 _ (by omega)) (by decide) };have hz2:¬ (9223372036854775807<t.size+sep.size):=(by omega)))
   all_goals
    go_wp2_with fail;go_ret
    refine BL (by rw [toList_append,ht.out,hsep.out.out,Hk h10]) ?_
    first
     | exact (DZ _ _ _).alloc (by simp) _
     | exact ((Below.refl _ _).alloc (Nat.le_refl _) _).toExt (by simp) _ _
theorem Qr (k:Nat):∀ (n:Nat) (w:World),n<k->n<9223372036854775808->
  Calls Tryz.prog 206 #[.int .i64 (n:Int)] w (Cy w (Lib.decDigits n)):=by
 induction k with
 | zero=>intro n w hk _;omega
 | succ k ih=>
  intro n w hk hn
  by_cases h10:n<10
  ·have h10I:(n:Int)<10:=by omega
   obtain ⟨sep,hsep,hsep1,hcv⟩:=Ls (P:=Tryz.prog) (S:=9) Tryz.underlying25 Tryz.underlying5 Tryz.underlying9 (UInt8.ofNat (48+n))
   have e1:IntKind.u8.wrap (48+(n:Int))=48+(n:Int):=JD _ (by omega) (by omega)
   rw [GN n h10] at hcv;have hsep:=H0 hsep;go_enter Tryz.func206,Tryz.ntmps206;go_wp2_with fail;go_ret
   exact BL (by rw [hsep.out.out,Lib.decDigits_one h10]) ((Below.refl _ _).alloc (Nat.le_refl _) _)
  ·have h10I:(10:Int)<=(n:Int):=by omega
   obtain ⟨sep,hsep,hsep1,hcv⟩:=Ls (P:=Tryz.prog) (S:=9) Tryz.underlying25 Tryz.underlying5 Tryz.underlying9 (UInt8.ofNat (48+n % 10))
   have e1:IntKind.u8.wrap (48+(n:Int) % 10)=48+(n:Int) % 10:=JD _ (by omega) (by omega)
   have e3:IntKind.i64.wrap (48+(n:Int) % 10)=48+(n:Int) % 10:=IntWalk.i64_in _ (by omega)
   have e4:(n:Int).tmod 10=(n:Int) % 10:=Int.tmod_eq_emod_of_nonneg (by omega)
   have e5:IntKind.i64.wrap ((n:Int) / 10)=((n / 10:Nat):Int):=by rw [IntWalk.i64_in _ (by omega)];omega
   rw [GN (n % 10) (by omega),show ((n % 10:Nat):Int)=(n:Int) % 10 by omega] at hcv
   have hsep:=H0 hsep;go_enter Tryz.func206,Tryz.ntmps206;go_wp2_with fail
   go_region_with
    ((go_at_call 206;refine (ih (n / 10) _ (by omega) (by omega)).mono ?_;rintro e w1 ⟨t,rfl,ht,hb⟩;obtain ⟨E,d,rfl⟩:=hb.ext;clear hb;have hz:t.size<=20:=by { rw [<-Aa,ht.out];exact Nat.le_trans (EV 19 _ (by omega)) (by decide) };have hz2:¬ (9223372036854775807<t.size+sep.size):=(by omega)))
   all_goals
    go_wp2_with fail;go_ret
    refine BL (by rw [toList_append,ht.out,hsep.out.out,Hk h10]) ?_
    first
     | exact (DZ _ _ _).alloc (by simp) _
     | exact ((Below.refl _ _).alloc (Nat.le_refl _) _).toExt (by simp) _ _
theorem Vc (m:Nat) (h:0<m):Lib.itoa (-(m:Int))=45 :: Lib.decDigits m:=by
 unfold Lib.itoa;rw [if_pos (by omega)];congr 2;omega
theorem Acn (m:Nat):Lib.itoa (m:Int)=Lib.decDigits m:=by
 unfold Lib.itoa;rw [if_neg (by omega)];congr 1
theorem Xv (k:Nat):∀ (m:Nat) (w:World),m<k->0<m->m<=9223372036854775808->
  Calls Tryz.prog 206 #[.int .i64 (-(m:Int))] w (Cy w (Lib.itoa (-(m:Int)))):=by
 induction k with
 | zero=>intro m w hk _ _;omega
 | succ k ih=>
  intro m w hk h0 hm;have hN:=H0 (Vc m h0)
  have hlo: -(m:Int)<0:=by omega
  by_cases h10:m<10
  ·have h10I: -10< -(m:Int):=by omega
   have e0:IntKind.i64.wrap (- -(m:Int))=(m:Int):=by rw [IntWalk.i64_in _ (by omega)];omega
   generalize -(m:Int)=z at h10I hlo hN e0⊢;go_enter Tryz.func206,Tryz.ntmps206;go_wp2_with fail
   refine (Qr 10 m _ h10 (by omega)).mono ?_
   rintro e w1 ⟨t,rfl,ht,hb⟩
   have hz:t.size<=20:=by rw [<-Aa,ht.out];exact Nat.le_trans (EV 19 _ (by omega)) (by decide)
   go_wp2_with fail;go_ret
   exact BL (by rw [toList_append,ht.out,hN.out,show (ByteArray.mk #[45]).toList=[45] from toList_mk _];rfl) hb
  ·have h10I: -(m:Int)<= -10:=by omega
   obtain ⟨sep,hsep,hsep1,hcv⟩:=Ls (P:=Tryz.prog) (S:=9) Tryz.underlying25 Tryz.underlying5 Tryz.underlying9 (UInt8.ofNat (48+m % 10))
   have hN2:=H0 (Vc (m / 10) (by omega))
   have e4:(-(m:Int)).tmod 10= -((m:Int) % 10):=by rw [Int.neg_tmod,Int.tmod_eq_emod_of_nonneg (by omega)]
   have e3:IntKind.i64.wrap (48+(m:Int) % 10)=48+(m:Int) % 10:=IntWalk.i64_in _ (by omega)
   have e1:IntKind.u8.wrap (48+(m:Int) % 10)=48+(m:Int) % 10:=JD _ (by omega) (by omega)
   have e5:IntKind.i64.wrap ((-(m:Int)).tdiv 10)= -((m / 10:Nat):Int):=by rw [Int.neg_tdiv,Int.tdiv_eq_ediv_of_nonneg (by omega),IntWalk.i64_in _ (by omega)];omega
   rw [GN (m % 10) (by omega),show ((m % 10:Nat):Int)=(m:Int) % 10 by omega] at hcv
   have hsep:=H0 hsep;generalize hz: -(m:Int)=z at h10I hlo hN e4 e5⊢;replace hz:=H0 hz;go_enter Tryz.func206,Tryz.ntmps206;go_wp2_with fail
   go_region_with
    ((go_at_call 206;refine (ih (m / 10) _ (by omega) (by omega) (by omega)).mono ?_;rintro e w1 ⟨t,rfl,ht,hb⟩;obtain ⟨E,d,rfl⟩:=hb.ext;clear hb;have hz:t.size<=30:=by { rw [<-Aa,ht.out,hN2.out];have:=EV 19 (m / 10) (by omega);simp;omega };have hz2:¬ (9223372036854775807<t.size+sep.size):=(by omega)))
   all_goals
    go_wp2_with fail;go_ret
    refine BL (by rw [toList_append,ht.out,hsep.out.out,hN.out,hN2.out,Hk h10];rfl) ?_
    first
     | exact (DZ _ _ _).alloc (by simp) _
     | exact ((Below.refl _ _).alloc (Nat.le_refl _) _).toExt (by simp) _ _
theorem Xg (n:Int) (w:World) (h0: -9223372036854775808<=n) (h1:n<=9223372036854775807):
  Calls Tryz.prog 206 #[.int .i64 n] w (Cy w (Lib.itoa n)):=by
 by_cases hn:n<0
 ·obtain ⟨m,rfl⟩:∃ m:Nat,n= -(m:Int):=⟨n.natAbs,by omega⟩
  exact Xv (m+1) m w (by omega) (by omega) (by omega)
 ·obtain ⟨m,rfl⟩:∃ m:Nat,n=(m:Int):=⟨n.natAbs,by omega⟩
  rw [Acn]
  exact Qr (m+1) m w (by omega) (by omega)
def Acq:ByteArray:=⟨#[48,49,50,51,52,53,54,55,56,57,97,98,99,100,101,102]⟩
theorem Re:∀ f n,(FC f n).length<=f
 | 0,_=>Nat.le_refl _
 | f+1,n=>by
  have:=Re f (n / 16)
  unfold FC;split<;>simp<;>omega
theorem MA:∀ d:Fin 16,((Acq.toList.take (d.val+1)).drop d.val)=[Bs d.val]:=by
 rw [show Acq.toList=[48,49,50,51,52,53,54,55,56,57,97,98,99,100,101,102] from toList_mk _];decide+kernel
theorem Aad (k:Nat):∀ (n:Nat) (w:World),k<=3->n<16 ^ (k+1)->
  Calls Tryz.prog 139 #[.int .i64 (n:Int)] w (Cy w (FC (k+1) n)):=by
 induction k with
 | zero=>
  intro n w _ hn
  have hI:(n:Int)<16:=by omega
  have hd:=H0 (MA ⟨n,hn⟩)
  have e3:IntKind.i64.wrap ((n:Int)+1)=(n:Int)+1:=IntWalk.i64_in _ (by omega)
  go_enter Tryz.func139,Tryz.ntmps139;go_wp2_with fail;go_ret
  exact BL (by rw [toList_extract];exact hd.out.trans (K1 hn).symm) (Below.refl _ _)
 | succ k ih=>
  intro n w hk hn
  by_cases h16:n<16
  ·have hI:(n:Int)<16:=by omega
   have hd:=H0 (MA ⟨n,h16⟩)
   have e3:IntKind.i64.wrap ((n:Int)+1)=(n:Int)+1:=IntWalk.i64_in _ (by omega)
   go_enter Tryz.func139,Tryz.ntmps139;go_wp2_with fail;go_ret
   exact BL (by rw [toList_extract];exact hd.out.trans (K1 h16).symm) (Below.refl _ _)
  ·have hI:(16:Int)<=(n:Int):=by omega
   have hp:16 ^ (k+2)<=65536:=Nat.le_trans (Nat.pow_le_pow_right (by decide) (by omega)) (by decide:16 ^ 4<=65536)
   have hn2:n<65536:=Nat.lt_of_lt_of_le hn hp
   have hd:=H0 (MA ⟨n % 16,by omega⟩)
   have e2:(n:Int).tmod 16=(n:Int) % 16:=Int.tmod_eq_emod_of_nonneg (by omega)
   have e3:IntKind.i64.wrap ((n:Int) % 16+1)=(n:Int) % 16+1:=IntWalk.i64_in _ (by omega)
   have e5:IntKind.i64.wrap ((n:Int) / 16)=((n / 16:Nat):Int):=by rw [IntWalk.i64_in _ (by omega)];omega
   have b1:(0:Int)<=(n:Int) % 16:=by omega
   have b2:(n:Int) % 16<16:=by omega
   have b3:(n:Int) % 16+1<=16:=by omega
   have b4:(n:Int) % 16<=(n:Int) % 16+1:=by omega
   have b5:(0:Int)<=(n:Int) % 16+1:=by omega
   have b6:((n:Int) % 16).toNat=n % 16:=by omega
   have b7:((n:Int) % 16+1).toNat=n % 16+1:=by omega
   have hx:((ByteArray.mk #[48,49,50,51,52,53,54,55,56,57,97,98,99,100,101,102]).extract (n % 16) (n % 16+1)).size=1:=by rw [<-Aa,toList_extract];exact congrArg List.length hd.out
   have hp:=H0 hp;have hn:=H0 hn;go_enter Tryz.func139,Tryz.ntmps139;go_wp2_with fail
   go_region_with
    ((go_at_call 139;refine (ih (n / 16) _ (by omega) (by have:=hn.out;rw [Nat.pow_succ] at this;exact Nat.div_lt_of_lt_mul (by omega))).mono ?_;rintro e w1 ⟨t,rfl,ht,hb⟩;obtain ⟨E,d,rfl⟩:=hb.ext;clear hb;have hz:t.size<=4:=by { rw [<-Aa,ht.out];exact Nat.le_trans (Re _ _) (by omega) };have z1:¬ (9223372036854775807<t.size+((ByteArray.mk #[48,49,50,51,52,53,54,55,56,57,97,98,99,100,101,102]).extract (n % 16) (n % 16+1)).size):=(by rw [hx];omega);have z2:¬ (9223372036854775807<t.size+1):=(by omega)))
   trace_state
   all_goals
    go_wp2_with fail;go_ret;refine BL ?_ ((Below.refl _ _).toExt (Nat.le_refl _) _ _)
    rw [toList_append,ht.out,toList_extract,Ud (f:=k+1) (by omega:16<=n)]
    exact congrArg (_++ ·) hd.out
theorem XH (n:Nat) (w:World) (h:n<65536):Calls Tryz.prog 139 #[.int .i64 (n:Int)] w (Cy w (Fd n)):=Aad 3 n w (Nat.le_refl _) h
structure BR where
 right:Bool
 url:Aq
 ws:List (List UInt8)
def A7 (raw:List UInt8):List UInt8:=TH (FY (GT raw))
def Do (base:Aq) (s:List UInt8) (ws:List (List UInt8)):BR:=⟨(G0 base s).isSome,(G0 base s).getD Ea,ws⟩
def Afc (base:Aq):Option (List UInt8 × Bool × List UInt8)->List BR × List UInt8
 | none=>([],[])
 | some (d,h,x)=>if h=true then ([Do base x []],d) else ([⟨true,base,[]⟩],d)
def Bi (kind:Nat) (base:Aq) (s:List UInt8):List BR × List UInt8:=
 if kind=1 then ([Do base s []],[])
 else if kind=2 then ((Fe s).map fun c=>Do base c.url c.ws,[])
 else if kind=3 then Afc base (Aes s)
 else ([],[])
def V4 (s:List UInt8):Bool:=s.all Ff && (!s.isEmpty && (!(s.head? ==some 44) && !(s.getLast? ==some 44)))
def Dm (alw:Aq->Bool) (kind:Nat) (it:BR):Bool:=it.right && (alw it.url && (kind != 2 || V4 (AS it.url true)))
def Fp (it:BR):LC:=⟨AS it.url true,it.ws,(KP it.ws).getD d0⟩
def NV (kind:Nat) (l:List BR) (d:List UInt8):List UInt8:=match l with
 | []=>[]
 | it :: r=>if kind=1 then AS it.url true else if kind=2 then BC ((it :: r).map Fp) else if kind=3 then AdO (d,true,AS it.url true) else []
structure AdL where
 kind:Nat
 why:Nat
 out:List UInt8
def Vu (n:Nat):AdL:=⟨2,n,[]⟩
def Ch (alw:Aq->Bool) (most:Int) (kind:Nat) (base:Aq) (raw:List UInt8):AdL:=
 if kind=0 then ⟨1,0,[]⟩
 else if most<(raw.length:Int) then Vu 1
 else if (Bi kind base (A7 raw)).1.any (·.right)=false then Vu 3
 else if (Bi kind base (A7 raw)).1.filter (Dm alw kind)=[] then Vu 4
 else if most<((Ce (NV kind ((Bi kind base (A7 raw)).1.filter (Dm alw kind)) (Bi kind base (A7 raw)).2)).length:Int) then Vu 1
 else ⟨3,0,Ce (NV kind ((Bi kind base (A7 raw)).1.filter (Dm alw kind)) (Bi kind base (A7 raw)).2)⟩
def YD (c:UInt8):Bool:= !BP c && (!(c==34) && (!(c==39) && (!(c==60) && (!(c==62) && !(c==96)))))
theorem ZD:∀ n:Fin 256,BP (UInt8.ofNat n.val)=false->(HT (UInt8.ofNat n.val)).all YD=true:=by decide+kernel
theorem Ve {W:List UInt8} (h:∀ c∈W,BP c=false):∀ c∈Ce W,YD c=true:=by
 intro c hc;obtain ⟨x,hx,hm⟩:=List.mem_flatMap.1 hc;have:=ZD ⟨x.toNat,x.toNat_lt⟩;simp only [UInt8.ofNat_toNat] at this;exact List.all_eq_true.1 (this (h x hx)) c hm
theorem Ym:∀ n:Fin 256,YD (UInt8.ofNat n.val)=true->UInt8.ofNat n.val≠0/\decide ((UInt8.ofNat n.val).toNat<128)=true:=by decide+kernel
theorem L7 {c:UInt8} (h:YD c=true):c≠0/\decide (c.toNat<128)=true:=by
 have:=Ym ⟨c.toNat,c.toNat_lt⟩;simp only [UInt8.ofNat_toNat] at this;exact this h
theorem Ru {W:List UInt8} (h:∀ c∈W,BP c=false):A7 (Ce W)=W:=by
 have hs:=Ve h;unfold A7
 rw [On (fun c hc=>(L7 (hs c hc)).1),Mo (List.all_eq_true.2 fun c hc=>(L7 (hs c hc)).2),Aeu]
theorem NH {base:Aq} {s:List UInt8} {ws:List (List UInt8)} (hb:AY base) (h:(Do base s ws).right=true):∃ u,G0 base s=some u/\Do base s ws=⟨true,u,ws⟩/\AY u:=by
 unfold Do at h⊢
 cases hj:G0 base s with
 | none=>rw [hj] at h;cases h
 | some u=>exact ⟨u,rfl,rfl,OL hb hj⟩
theorem NC {base u:Aq} {ws:List (List UInt8)} (g:AY u):Do base (AS u true) ws=⟨true,u,ws⟩:=by unfold Do;rw [OP g];rfl
theorem Wl {alw:Aq->Bool} {most:Int} {base u:Aq} (g:AY u) (ha:alw u=true) (hm:¬ most<((Ce (AS u true)).length:Int)):Ch alw most 1 base (Ce (AS u true))=⟨3,0,Ce (AS u true)⟩:=by
 have hi:Bi 1 base (AS u true)=([⟨true,u,[]⟩],[]):=by
  show ([Do base (AS u true) []],[])=_;rw [NC g]
 have hk:Dm alw 1 ⟨true,u,[]⟩=true:=by unfold Dm;rw [ha];rfl
 have hf:[(⟨true,u,[]⟩:BR)].filter (Dm alw 1)=[⟨true,u,[]⟩]:=by rw [List.filter_cons,if_pos hk,List.filter_nil]
 unfold Ch
 rw [if_neg (by decide),if_neg hm,Ru (Jr g),hi]
 dsimp only
 rw [hf,if_neg (by simp),if_neg (by simp)]
 show (if most<((Ce (AS u true)).length:Int) then _ else _)=_
 rw [if_neg hm];rfl
theorem AdV (w:World) (A B:Obj):((w.alloc A).alloc B).heap[w.heap.size+1]? =some B:=by
 have:=heap_alloc_new (w.alloc A) B;simpa using this
theorem LM {w:World} {g i k:Nat} {v:Value} (h:k≠g):(w.setCell ⟨g,i,none⟩ v).heap[k]? =w.heap[k]? :=Below.heap_setCell _ _ _ _ h
theorem Su {B g i:Nat} {a w:World} {v:Value} (h:Below B a w) (hg:B<=g):Below B a (w.setCell ⟨g,i,none⟩ v):=h.setCell hg v
def e0:ByteArray:=ByteArray.empty
def Fq:Value:= .slice none 0 0
def AbS (l:List ByteArray) (w:World) (e:Ending) (w':World):Prop:=
 (Hid (KP (l.map (·.toList))=none)/\e= .returned (.tuple #[.agg (Ap e0 Fq d0),.bool false])/\Below w.heap.size w w')\/
 (∃ st wv,Hid (KP (l.map (·.toList))=some st)/\e= .returned (.tuple #[.agg (Ap e0 wv st),.bool true])/\AI w' w.heap.size 9 wv l/\Below w.heap.size w w')
theorem Cp (u:ByteArray) (wv:Value) (st:Oi):(Tryz.prog.info? 109).map (·.size)=some (Ap u wv st).size:=by kernel_rfl
theorem Du (u:ByteArray) (pa:Option Addr) (n c:Nat) (st:Oi):(Ap u (.slice pa n c) st).all (·.oneCell')=true:=by kernel_rfl
theorem Mp {R:Ending->World->Prop} {a:Act} {w:World} {g:Nat} {u:ByteArray} {wv:Value} {st:Oi} {b:Bool} (h2:a.tmps.getD 2 undef= .pointer (some ⟨g,0,none⟩)) (h3:a.tmps.getD 3 undef= .bool b) (hd:a.defers=[])
  (hg:w.heap[g]? =some (.cells (Ap u wv st) 109 (0,0))) (hR:R (.returned (.tuple #[.agg (Ap u wv st),.bool b])) w):
  bodyPost Tryz.prog Tryz.f175 R .ret a w:=by
 refine bodyPost_ret (v:= .tuple #[.agg (Ap u wv st),.bool b]) ?_ hd hR;rw [results_cell_tmp rfl,h2,h3];simp [asAddr,Result.andThen,run_loadVar_row (P:=Tryz.prog) w g _ 109 _ _ _ hg Tryz.underlying109 rfl (Cp u wv st)]
theorem Zl (pa:Option Addr) (c:Nat) (l:List ByteArray) (w:World) (hr:Fg w (.slice pa l.length c) l) (hl:l.length<=1000000000):
  Calls Tryz.prog 104 #[.slice pa l.length c] w fun e w'=>∃ v,e= .returned v/\AI w' w.heap.size 9 v l/\Below w.heap.size w w':=by
 obtain ⟨pa',c',he,hc⟩:=hr;cases he
 cases pa with
 | none=>
  have h0:l=[]:=by
   cases l with
   | nil=>rfl
   | cons a r=>obtain ⟨g,o,e,_⟩:=hc (by simp);cases e
  subst h0;refine (Tryz.slices_Clone_string_nil _ _ w).mono ?_;rintro e w' ⟨rfl,rfl⟩;exact ⟨_,rfl,AI.nil _ _ _,Below.refl _ _⟩
 | some ad=>
  by_cases h0:0<l.length
  ·obtain ⟨g,o,e,hcell⟩:=hc h0;cases e
   refine (Tryz.slices_Clone_string g o l.length c l w (Nat.le_refl _) (by omega) (fun j hj=>by rw [hcell j hj];simp [List.getD,hj])).mono ?_
   rintro e w' ⟨v,rfl,ho,_,hb⟩
   exact ⟨v,rfl,by rw [List.take_of_length_le (Nat.le_refl _)] at ho;exact ho,hb⟩
  ·obtain rfl:l=[]:=List.eq_nil_of_length_eq_zero (by omega)
   refine (Tryz.slices_Clone_string_zero ad c w).mono ?_;rintro e w' ⟨v,rfl,ho,_,hb⟩;exact ⟨v,rfl,ho,hb⟩
theorem AI.low {w:World} {B B':Nat} {E:TypeId} {v:Value} {l:List ByteArray} (h:AI w B' E v l) (hB:B<=B'):AI w B E v l:=by
 refine ⟨h.1,?_⟩
 rcases h.2 with hn | ⟨k,cap,cur,rfl,hk,rest⟩
 ·exact .inl hn
 ·exact .inr ⟨k,cap,cur,rfl,Nat.le_trans hB hk,rest⟩
theorem Tp (st:Oi) (l:List ByteArray) (k:Nat) (h:k<l.length):Fw st ((l.drop k).map (·.toList))=(HL st l[k].toList).bind fun st'=>Fw st' ((l.drop (k+1)).map (·.toList)):=by
 rw [List.drop_eq_getElem_cons h,List.map_cons,Fw]
theorem IC (v:Value) (l:List ByteArray) (w:World) (hr:Fg w v l) (hz:∀ x∈l,x.size<=1000000000) (hl:l.length<=1000000000):
  Calls Tryz.prog 175 #[v] w (AbS l w):=by
 have hrd:=hr;obtain ⟨pa,c,rfl,hc⟩:=hr;go_enter Tryz.func175,Tryz.ntmps175;go_wp2_with fail
 go_loopw [9] (fun i wr=>∃ (k:Nat) (st:Oi),i= .int .i64 k/\k<=l.length/\Hid (Fw d0 (l.map (·.toList))=Fw st ((l.drop k).map (·.toList)))/\
  wr.heap[w.heap.size]? =some (.cells (Ap e0 Fq d0) 109 (0,0))/\wr.heap[w.heap.size+1]? =some (.cells (Ap e0 Fq st) 109 (0,0))/\Below w.heap.size w wr) (fun i _=>l.length - (intOf i).toNat)
 case atStart=>exact ⟨0,d0,rfl,Nat.zero_le _,rfl,(heap_alloc_old _ _ (by simp)).trans (heap_alloc_new _ _),AdV _ _ _,((Below.refl _ _).alloc (Nat.le_refl _) _).alloc (by simp) _⟩
 case round=>
  obtain ⟨k,st,rfl,hk,hrun,hrb,hcb,hbel⟩:=hrel;have lc:w.heap.size+1<wr.heap.size:=(Array.getElem?_eq_some_iff.1 hcb).1
  by_cases hlt:k<l.length
  ·have z1:(k:Int)<(l.length:Int):=by omega
   obtain ⟨g1,o1,rfl,hcell1⟩:=hc (by omega)
   have x1:=hcell1 k hlt;have b1:=World.block_lt_of_cell? w _ x1
   have y1:wr.cell? ⟨g1,o1+k,none⟩=some (.string l[k]):=(hbel.cell (by simpa using b1)).trans x1
   have hzk:l[k].size<=1000000000:=hz _ (List.getElem_mem ..);have hst:=H0 (Tp st l k hlt);have htk:=H0 (AbX (w.heap.size+1) e0 Fq st l[k] wr hcb hzk);clear hcell1 x1 b1 hc;replace hrb:=H0 hrb;replace hcb:=H0 hcb;obtain ⟨o,ho⟩:∃ o,HL st l[k].toList=o:=⟨_,rfl⟩;rw [ho] at htk
   cases o with
   | none=>
    have hno:Hid (KP (l.map (·.toList))=none):=H0 (by unfold KP;rw [hrun.out,hst.out,ho];rfl)
    replace ho:=H0 ho;go_wp2_with fail;refine htk.out.mono ?_;rintro e w2 ⟨rfl,hC,-⟩
    have hrb2:w2.heap[w.heap.size]? =some (.cells (Ap e0 Fq d0) 109 (0,0)):=(hC.block _ (by omega) (by omega)).trans hrb.out
    have hb2:Below w.heap.size w w2:=hbel.trans (hC.below (by omega) (by intro i hi;omega))
    replace hrb2:=H0 hrb2;clear hC;go_wp2_with (refine wpList_store_rowTo rfl 109 _ _ rfl rfl w.heap.size (Ap e0 Fq d0) rfl rfl 109 (Ap e0 Fq d0) hrb2.out (Cp _ _ _) rfl (Du _ _ _ _ _) ?_);refine Mp rfl rfl rfl (setRow_heap _ _ _ _ _ _ hrb2.out) (.inl ⟨hno,rfl,Ae hb2 (Nat.le_refl _) _⟩)
   | some st2=>
    have hnew:Hid (Fw d0 (l.map (·.toList))=Fw st2 ((l.drop (k+1)).map (·.toList))):=H0 (by rw [hrun.out,hst.out,ho];rfl)
    replace ho:=H0 ho;go_wp2_with fail;refine htk.out.mono ?_;rintro e w2 ⟨rfl,hC,hcb2⟩
    have hrb2:w2.heap[w.heap.size]? =some (.cells (Ap e0 Fq d0) 109 (0,0)):=(hC.block _ (by omega) (by omega)).trans hrb.out
    have hb2:Below w.heap.size w w2:=hbel.trans (hC.below (by omega) (by intro i hi;omega))
    have hcb3:=H0 (hcb2 st2 rfl);replace hrb2:=H0 hrb2;clear hC hcb2;go_wp2_with fail;go_roundw
    case rel=>exact ⟨k+1,st2,by go_num,by omega,hnew,hrb2.out,hcb3.out,hb2⟩
    case measure=>simp [intOf];omega
  ·have hge:(l.length:Int)<=(k:Int):=by omega
   have hall:Fw d0 (l.map (·.toList))=some st:=by rw [hrun.out,List.drop_of_length_le (by omega)];rfl
   have hD:Hid (KP (l.map (·.toList))=if (st.hh && !st.hw)=true then none else some st):=H0 (by unfold KP;rw [hall];rfl)
   have hread:Fg wr (.slice pa l.length c) l:=hrd.below hbel (Nat.le_refl _);have hcl:=H0 (Zl pa c l wr hread hl);clear hrun hread hall;have x2:=cell_of_row _ _ 2 _ _ _ hcb;have x4:=cell_of_row _ _ 4 _ _ _ hcb;simp only [Ap,List.getElem?_toArray,List.getElem?_cons_zero,List.getElem?_cons_succ] at x2 x4;obtain ⟨bw,hbw⟩:∃ b,st.hw=b:=⟨_,rfl⟩;obtain ⟨bh,hbh⟩:∃ b,st.hh=b:=⟨_,rfl⟩;rw [hbw] at x2;rw [hbh] at x4;rw [hbw,hbh] at hD;replace hbw:=H0 hbw;replace hbh:=H0 hbh;replace hrb:=H0 hrb;replace hcb:=H0 hcb
   have hway:(bh=true/\bw=false)\/(bh=false\/(bh=true/\bw=true)):=by cases bh<;>cases bw<;>simp
   rcases hway with ⟨rfl,rfl⟩ | hway
   ·have hno:Hid (KP (l.map (·.toList))=none):=hD
    go_wp2_with (refine wpList_store_rowTo rfl 109 _ _ rfl rfl w.heap.size (Ap e0 Fq d0) rfl rfl 109 (Ap e0 Fq d0) hrb.out (Cp _ _ _) rfl (Du _ _ _ _ _) ?_);refine Mp rfl rfl rfl (setRow_heap _ _ _ _ _ _ hrb.out) (.inl ⟨hno,rfl,Ae hbel (Nat.le_refl _) _⟩)
   ·have hyes:Hid (KP (l.map (·.toList))=some st):=H0 (by rw [hD.out];rcases hway with rfl | ⟨rfl,rfl⟩<;>simp)
    clear hD
    rcases hway with rfl | ⟨rfl,rfl⟩
    all_goals
     go_wp2_with fail;refine hcl.out.mono ?_;rintro e w2 ⟨wv,rfl,ho,hb2⟩;obtain ⟨pb,cb,rfl,-⟩:=ho.read
     have hrb2:w2.heap[w.heap.size]? =some (.cells (Ap e0 Fq d0) 109 (0,0)):=(hb2.block _ (by omega)).trans hrb.out
     have hcb2:w2.heap[w.heap.size+1]? =some (.cells (Ap e0 Fq st) 109 (0,0)):=(hb2.block _ (by omega)).trans hcb.out
     have hcb3:(w2.setCell ⟨w.heap.size+1,1,none⟩ (.slice pb l.length cb)).heap[w.heap.size+1]? =some (.cells (Ap e0 (.slice pb l.length cb) st) 109 (0,0)):=A6 hcb2
     have hrb3:(w2.setCell ⟨w.heap.size+1,1,none⟩ (.slice pb l.length cb)).heap[w.heap.size]? =some (.cells (Ap e0 Fq d0) 109 (0,0)):=(LM (by omega)).trans hrb2
     have y1:=cell_of_row _ _ 1 _ _ _ hcb2;have f1:=frozen_of_row _ _ 1 _ _ hcb2;simp only [Ap,List.getElem?_toArray,List.getElem?_cons_zero,List.getElem?_cons_succ] at y1;replace hrb2:=H0 hrb2;replace hcb2:=H0 hcb2;replace hrb3:=H0 hrb3;replace hcb3:=H0 hcb3
     have hbel3:Below w.heap.size w (w2.setCell ⟨w.heap.size+1,1,none⟩ (.slice pb l.length cb)):=Su (hbel.trans (hb2.mono (by omega))) (by omega)
     have hown3:∀ cs,AI ((w2.setCell ⟨w.heap.size+1,1,none⟩ (.slice pb l.length cb)).setRow w.heap.size cs) w.heap.size 9 (.slice pb l.length cb) l:=fun cs=>(ho.chg (fun i h1 h2=>(setRow_other _ _ _ _ (by omega)).trans (LM (by omega)))).low (by omega)
     replace hown3:=H0 hown3;clear ho
     go_wp2_with (first | (refine wpList_load_row rfl 109 _ rfl (w.heap.size+1) rfl _ _ _ _ hcb3.out Tryz.underlying109 rfl (Cp _ _ _) ?_) | (refine wpList_store_rowTo rfl 109 _ _ rfl rfl w.heap.size (Ap e0 (.slice pb l.length cb) st) rfl rfl 109 (Ap e0 Fq d0) hrb3.out (Cp _ _ _) rfl (Du _ _ _ _ _) ?_))
     refine Mp rfl rfl rfl (setRow_heap _ _ _ _ _ _ hrb3.out) (.inr ⟨_,_,hyes,rfl,hown3.out _,Ae hbel3 (Nat.le_refl _) _⟩)
structure EE where
 url:ByteArray
 wv:Value
 ws:List ByteArray
 st:Oi
def Ha (c:EE):List Value:=(Ap c.url c.wv c.st).toList
def GP (c:EE):LC:=⟨c.url.toList,c.ws.map (·.toList),c.st⟩
def FD (w:World) (B:Nat) (v:Value) (l:List EE):Prop:=w.ownsRow B 109 8 v l.length (l.flatMap Ha)/\∀ c∈l,AI w B 9 c.wv c.ws
theorem FD.nil (w:World) (B:Nat):FD w B (.slice none 0 0) []:=⟨World.ownsRow_nil _ _ _ _,fun c hc=>by cases hc⟩
theorem NR {w w':World} {B:Nat} {E:TypeId} {s n:Nat} {v:Value} {xs:List Value} (h:w.ownsRow B E s v n xs) (hc:∀ k,B<=k->k<w.heap.size->w'.heap[k]? =w.heap[k]?):w'.ownsRow B E s v n xs:=by
 refine ⟨h.1,?_⟩
 rcases h.2 with hn | ⟨k,cap,cur,rfl,hk,hh,rest⟩
 ·exact .inl hn
 ·exact .inr ⟨k,cap,cur,rfl,hk,(hc k hk (Array.getElem?_eq_some_iff.1 hh).1).trans hh,rest⟩
theorem Nt {w:World} {B B':Nat} {E:TypeId} {s n:Nat} {v:Value} {xs:List Value} (h:w.ownsRow B' E s v n xs) (hB:B<=B'):w.ownsRow B E s v n xs:=by
 refine ⟨h.1,?_⟩
 rcases h.2 with hn | ⟨k,cap,cur,rfl,hk,rest⟩
 ·exact .inl hn
 ·exact .inr ⟨k,cap,cur,rfl,Nat.le_trans hB hk,rest⟩
theorem FD.chg {w w':World} {B:Nat} {v:Value} {l:List EE} (h:FD w B v l) (hc:∀ k,B<=k->k<w.heap.size->w'.heap[k]? =w.heap[k]?):FD w' B v l:=
 ⟨NR h.1 hc,fun c hm=>(h.2 c hm).chg hc⟩
theorem FD.low {w:World} {B B':Nat} {v:Value} {l:List EE} (h:FD w B' v l) (hB:B<=B'):FD w B v l:=⟨Nt h.1 hB,fun c hm=>(h.2 c hm).low hB⟩
theorem FD.below {w w':World} {B:Nat} {v:Value} {l:List EE} (h:FD w B v l) (hb:Below w.heap.size w w'):FD w' B v l:=h.chg fun k _ hk=>hb.block k hk
theorem AbO:∃ i,Tryz.prog.info? 109=some i/\i.zero=some (.agg (Ap e0 Fq d0))/\i.size=8/\i.bytes=88:=info_parts (by kernel_rfl)
theorem AI.off {w w':World} {B B':Nat} {v u:Value} {l:List ByteArray} {n:Nat} {xs:List Value} (h:AI w B 9 v l) (hr:w.ownsRow B' 109 8 u n xs) (hg:w.grownBy w' u.ownBlock):AI w' B 9 v l:=by
 refine ⟨h.1,?_⟩
 rcases h.2 with hn | ⟨k,cap,cur,rfl,hk,hh,rest⟩
 ·exact .inl hn
 ·refine .inr ⟨k,cap,cur,rfl,hk,(hg.block k (Array.getElem?_eq_some_iff.1 hh).1 ?_).trans hh,rest⟩
  rcases hr.2 with ⟨rfl,_⟩ | ⟨g,cap2,cur2,rfl,_,hh2,_⟩
  ·exact fun e=>by cases e
  ·intro e
   obtain rfl:k=g:=by simpa [Value.ownBlock] using e
   rw [hh] at hh2;simp at hh2
theorem AI.one {w:World} {B:Nat} {E:TypeId} {v:Value} {l:List ByteArray} (h:AI w B E v l):v.oneCell'=true:=by
 rcases h.2 with ⟨rfl,_⟩ | ⟨k,cap,cur,rfl,_⟩<;>rfl
theorem Im {ops:Array Oper} {rest:List Oper} {o:Oper} {a:Act} {Q:Exit->Act->World->Prop}
  (hgd:o.guard=none) (s x:Operand) (ho:o.op= .call { callee:= .builtin .append,args:= #[s,x],argTypes:= #[105,105] })
  {W0 w0:World} {B:Nat} {v:Value} {l:List EE} (c:EE) (hs:a.eval s=v) (hx:a.eval x= .slice (some ⟨w0.heap.size,0,none⟩) 1 1)
  (hown:FD w0 B v l) (hnew:AI w0 B 9 c.wv c.ws) (hbel:Below B W0 w0) (hB:B<=w0.heap.size) (hl:l.length<=1000000000)
  (h:∀ v' w',FD w' B v' (l++[c])->Below B W0 w'->wpList Tryz.prog ops Q rest (a.put o.dst v') w'):
  wpList Tryz.prog ops Q (o :: rest) a (w0.alloc (.cells (Ap c.url c.wv c.st) 109)):=by
 obtain ⟨i,hi,hz,hs1,hb1⟩:=AbO;have hgr:w0.grownBy (w0.alloc (.cells (Ap c.url c.wv c.st) 109)) none:=World.grownBy_alloc _ _ _;have hr:=hown.1.alloc (.cells (Ap c.url c.wv c.st) 109)
 have hws:∀ d∈l++[c],AI (w0.alloc (.cells (Ap c.url c.wv c.st) 109)) B 9 d.wv d.ws:=by
  intro d hd
  rcases List.mem_append.1 hd with hd | hd
  ·exact (hown.2 d hd).alloc _
  ·rw [List.mem_singleton.1 hd];exact hnew.alloc _
 refine wpList_append_own _ hgd s x 105 ho B 109 i _ 8 88 Tryz.underlying105 hi hz hs1 hb1 rfl (by decide) v l.length _ hs hr ⟨w0.heap.size,0,none⟩ 1 1 (Ha c) hx rfl ?_ ?_ (by unfold maxLen;omega) (by omega) (by simp;omega) ?_
 ·intro j u hj;have hc:=cell_of_row (w0.alloc (.cells (Ap c.url c.wv c.st) 109)) w0.heap.size j _ _ _ (heap_alloc_new w0 _)
  have e:(⟨w0.heap.size,0,none⟩:Addr).add j=⟨w0.heap.size,j,none⟩:=by cases j<;>simp [Addr.add]
  rw [e,hc];unfold Ha at hj;simpa using hj
 ·intro u hu;simp only [Ha,Ap,List.mem_cons,List.not_mem_nil,or_false] at hu
  rcases hu with rfl | rfl | rfl | rfl | rfl | rfl | rfl | rfl
  ·rfl
  ·exact hnew.one
  all_goals rfl
 ·intro v' w' hown' hgrow hnil
  refine h v' w' ⟨?_,?_⟩ ((hbel.alloc hB _).grown hgrow (by simp;omega) (fun k hk=>(World.ownsRow.lt hr k hk).1))
  ·rw [List.length_append,List.flatMap_append];simpa using hown'
  ·exact fun d hd=>(hws d hd).off hr hgrow
theorem Jw {ops:Array Oper} {rest:List Oper} {o:Oper} {a:Act} {w:World} {Q:Exit->Act->World->Prop} (hg:o.guard=none) (x:Operand) (ho:o.op= .buildSlice 105 1 #[(0,x)])
  (u:ByteArray) (wv:Value) (st:Oi) (hx:a.eval x= .agg (Ap u wv st))
  (h:wpList Tryz.prog ops Q rest (a.put o.dst (.slice (some ⟨w.heap.size,0,none⟩) 1 1)) (w.alloc (.cells (Ap u wv st) 109))):wpList Tryz.prog ops Q (o :: rest) a w:=by
 obtain ⟨i,hi,hz,hs1,hb1⟩:=AbO
 refine wpList_buildSlice hg 105 109 1 _ ho (Ap u wv st) i _ Tryz.underlying105 hi hz (by rw [hs1];omega) (by rw [hs1];omega) ?_ h
 rw [hs1];rw [Array.toList_map];show Instr.fill _ _ [(0,a.eval x)]=_;rw [hx]
 kernel_rfl
end Go.Proofs.YtonomfeipkdmhaaGreatDoor
