/- Part 3: lemmas. -/
import Derived.Test.YtonomfeipkdmhaaGreatDoorK02
import Derived.IntWalk
set_option linter.unusedVariables false
set_option linter.unusedSimpArgs false
set_option maxRecDepth 100000
set_option maxHeartbeats 16000000
namespace Go.Proofs.YtonomfeipkdmhaaGreatDoor
open Go.RowKit
def D9 (c lo hi:Nat):Bool:=decide (lo<=c) && decide (c<=hi)
def E2 (c:Nat):List UInt8:=
 if (D9 c 0x41 0x5a || D9 c 0xc0 0xd6 || D9 c 0xd8 0xde || D9 c 0x391 0x3a1 || D9 c 0x3a3 0x3a9 || D9 c 0x410 0x42f)=true then Bj (c+0x20)
 else if (D9 c 0x100 0x12e && c % 2==0)=true then Bj (c+1)
 else if c=0x130 then [105,204,135]
 else if D9 c 0x400 0x40f=true then Bj (c+0x50)
 else if c=0x2024\/c=0x3002\/c=0xff61 then [46]
 else if c=0x2100 then [97,47,99]
 else if c=0x2105 then [99,47,111]
 else if D9 c 0x2460 0x2468=true then Bj (c - 0x2460+49)
 else if D9 c 0xff01 0xff5e=true then Bj (if D9 (c - 0xfee0) 65 90=true then c - 0xfee0+0x20 else c - 0xfee0)
 else if D9 c 0x1d7ce 0x1d7ff=true then Bj (48+(c - 0x1d7ce) % 10)
 else []
def Wk (c:Nat):Bool:=c==0xad || c==0x200b || c==0x2060 || c==0xfeff
def HR:List (Nat × Nat):=[(0,0x7f),(0xdf,0xf6),(0xf8,0xff),(0x101,0x12f),(0x300,0x36f),(0x3b1,0x3c9),(0x430,0x45f),(0x3041,0x3096),(0x30a1,0x30fa),(0x4e00,0x9fff),(0xac00,0xd7a3),(0x1f300,0x1f5ff)]
def Ic (c:Nat):Bool:=HR.any fun r=>D9 c r.1 r.2
def Fc (c:Nat):List UInt8 × Nat:=
 if E2 c≠[] then (E2 c,2) else if Wk c=true then ([],3) else if Ic c=true then (Bj c,1) else ([],0)
def GD (c:Nat):Bool:=decide ((Fc c).2=1) && decide (c≠46)
def Hl:List Nat->Bool
 | []=>false
 | c :: r=> !D9 c 0x300 0x36f && (c :: r).all GD && (c :: r).any fun c=>decide (0x7f<c)
def TW:List UInt8:=[120,110,45,45]
def AW (l:List UInt8):Option (List UInt8):=
 if Lib.hasPrefix l TW=true then (if IZ l=true then (match MD (l.drop 4) with | some m=>if Hl m=true then some l else none | none=>none) else none)
 else if IZ l=true then some l
 else if Hl (Kw l)=true then (match Li (Kw l) with | some t=>some (TW++t) | none=>none) else none
def Ck:List Nat->Option (List UInt8)
 | []=>some []
 | c :: r=>if (Fc c).2=0 then none else (Ck r).map ((Fc c).1++ ·)
def A0:List (List UInt8)->Option (List (List UInt8))
 | []=>some []
 | l :: r=>match AW l with | none=>none | some t=>(A0 r).map (t :: ·)
def EZ:List (List UInt8)->List UInt8
 | []=>[]
 | [t]=>t
 | t :: u :: r=>t++46 :: EZ (u :: r)
def Cv (s:List UInt8):Option (List UInt8):=match Ck (Kw s) with | none=>none | some t=>(A0 (Ay 46 t)).map EZ
def Fi (c:UInt8):Bool:=decide (c.toNat<128) && !(decide (65<=c.toNat) && decide (c.toNat<=90))
theorem AbY:∀ n:Fin 256,Fi (UInt8.ofNat n.val)=true->Fc n.val=([UInt8.ofNat n.val],1):=by decide+kernel
theorem Aaa {c:UInt8} (h:Fi c=true):Fc c.toNat=([c],1):=by
 have:=AbY ⟨c.toNat,c.toNat_lt⟩;simp only [UInt8.ofNat_toNat] at this;exact this h
theorem Ju:∀ {l:List UInt8},(∀ c∈l,Fi c=true)->Ck (l.map (·.toNat))=some l
 | [],_=>rfl
 | c :: r,h=>by
  rw [List.map_cons,Ck,Aaa (h c (List.mem_cons_self ..)),if_neg (show ¬ (1:Nat)=0 by decide),Ju (l:=r) (fun x hx=>h x (List.mem_cons_of_mem _ hx))]
  rfl
theorem JR {l:List UInt8} (h:∀ c∈l,Fi c=true):IZ l=true:=by
 unfold IZ;rw [List.all_eq_true];intro c hc;have:=h c hc;unfold Fi at this;rw [Bool.and_eq_true] at this;exact this.1
theorem Vj (l:List UInt8):EZ (Ay 46 l)=l:=by
 induction l with
 | nil=>rfl
 | cons d r ih=>
  rw [Da];have hne:=Ds 46 r
  cases hs:Ay 46 r with
  | nil=>exact absurd hs hne
  | cons a q=>
   rw [hs] at ih
   by_cases h:d=46
   ·rw [if_pos h,EZ,ih,h];rfl
   ·rw [if_neg h]
    cases q with
    | nil=>show d :: a=d :: r;rw [show a=r from ih]
    | cons b q=>show d :: a++46 :: EZ (b :: q)=d :: r;rw [<-ih];rfl
theorem K7:∀ {t:List UInt8},(46:UInt8) ∉ t->Ay 46 t=[t]
 | [],_=>rfl
 | c :: r,h=>by
  rw [Da,if_neg (fun e=>h (by rw [e];exact List.mem_cons_self ..)),K7 (t:=r) (fun hh=>h (List.mem_cons_of_mem _ hh))]
  rfl
theorem NQ:∀ {ls:List (List UInt8)},ls≠[]->(∀ l∈ls,(46:UInt8) ∉ l)->Ay 46 (EZ ls)=ls
 | [],h,_=>absurd rfl h
 | [t],_,h=>K7 (h t (List.mem_cons_self ..))
 | t :: u :: r,_,h=>by
  have h1:=K7 (h t (List.mem_cons_self ..))
  have h2:=NQ (ls:=u :: r) (by simp) (fun l hl=>h l (List.mem_cons_of_mem _ hl))
  show Ay 46 (t++46 :: EZ (u :: r))=_;rw [Hj,h2,h1];rfl
theorem RG:∀ {ls:List (List UInt8)} {c:UInt8},c∈EZ ls->c=46\/∃ l∈ls,c∈l
 | [],c,h=>(nomatch h)
 | [t],c,h=> .inr ⟨t,List.mem_cons_self ..,h⟩
 | t :: u :: r,c,h=>by
  rcases List.mem_append.1 (show c∈t++46 :: EZ (u :: r) from h) with h | h
  ·exact .inr ⟨t,List.mem_cons_self ..,h⟩
  ·rcases List.mem_cons.1 h with h | h
   ·exact .inl h
   ·rcases RG h with h | ⟨l,hl,h⟩
    ·exact .inl h
    ·exact .inr ⟨l,List.mem_cons_of_mem _ hl,h⟩
theorem EA:∀ (l:List UInt8),∀ t∈Ay 46 l,∀ c∈t,c∈l/\c≠46
 | [],t,ht,c,hc=>by
  rw [show Ay 46 []=[[]] from rfl,List.mem_singleton] at ht;subst ht;cases hc
 | d :: r,t,ht,c,hc=>by
  have ih:=EA r;have hne:=Ds 46 r;rw [Da] at ht
  cases hs:Ay 46 r with
  | nil=>exact absurd hs hne
  | cons a q=>
   rw [hs] at ht ih
   by_cases h:d=46
   ·rw [if_pos h] at ht
    rcases List.mem_cons.1 ht with rfl | ht
    ·cases hc
    ·exact ⟨List.mem_cons_of_mem _ (ih t ht c hc).1,(ih t ht c hc).2⟩
   ·rw [if_neg h] at ht
    rcases List.mem_cons.1 ht with rfl | ht
    ·rcases List.mem_cons.1 hc with rfl | hc
     ·exact ⟨List.mem_cons_self ..,h⟩
     ·exact ⟨List.mem_cons_of_mem _ (ih a (List.mem_cons_self ..) c hc).1,(ih a (List.mem_cons_self ..) c hc).2⟩
    ·exact ⟨List.mem_cons_of_mem _ (ih t (List.mem_cons_of_mem _ ht) c hc).1,(ih t (List.mem_cons_of_mem _ ht) c hc).2⟩
theorem Es (c:Nat) (h:D9 c 65 90=false):∀ x∈Bj c,D9 x.toNat 65 90=false:=by
 intro x hx;unfold Bj at hx;split at hx
 ·unfold IX at hx;simp only [List.mem_cons,List.not_mem_nil,or_false] at hx
  rcases hx with rfl | rfl | rfl<;>rfl
 ·rename_i hv
  by_cases h80:c<128
  ·have e:Pp (c:Int)=[UInt8.ofNat c]:=by
    have key:∀ n:Fin 128,Pp (n.val:Int)=[UInt8.ofNat n.val]:=by decide+kernel
    exact key ⟨c,h80⟩
   rw [e,List.mem_singleton] at hx
   rw [hx,UInt8.toNat_ofNat',Nat.mod_eq_of_lt (by omega)]
   exact h
  ·have hb:∀ x∈Pp (c:Int),128<=x.toNat:=by
    intro x hx;unfold Pp Utf8.encode at hx
    have hval:Utf8.valid (c:Int)=true\/Utf8.valid (c:Int)=false:=by cases Utf8.valid (c:Int)<;>simp
    simp only [Int.toNat_natCast] at hx
    have key:∀ (n:Nat),128<=n->n<=1114111->∀ x∈(if n<128 then (⟨#[UInt8.ofNat n]⟩:ByteArray) else if n<2048 then ⟨#[UInt8.ofNat (192+n / 64),UInt8.ofNat (128+n % 64)]⟩ else if n<65536 then ⟨#[UInt8.ofNat (224+n / 4096),UInt8.ofNat (128+n / 64 % 64),UInt8.ofNat (128+n % 64)]⟩ else ⟨#[UInt8.ofNat (240+n / 262144),UInt8.ofNat (128+n / 4096 % 64),UInt8.ofNat (128+n / 64 % 64),UInt8.ofNat (128+n % 64)]⟩).data.toList,128<=x.toNat:=by
     intro n h1 h2 x hx
     have of:∀ m,128<=m->m<256->128<=(UInt8.ofNat m).toNat:=fun m a b=>by rw [UInt8.toNat_ofNat',Nat.mod_eq_of_lt (by omega)];exact a
     rw [if_neg (by omega)] at hx
     split at hx
     ·simp only [List.mem_cons,List.not_mem_nil,or_false] at hx
      rcases hx with rfl | rfl<;>exact of _ (by omega) (by omega)
     ·split at hx
      ·simp only [List.mem_cons,List.not_mem_nil,or_false] at hx
       rcases hx with rfl | rfl | rfl<;>exact of _ (by omega) (by omega)
      ·simp only [List.mem_cons,List.not_mem_nil,or_false] at hx
       rcases hx with rfl | rfl | rfl | rfl<;>exact of _ (by omega) (by omega)
    rcases hval with hv2 | hv2
    ·rw [hv2] at hx
     exact key c (by omega) (by omega) x hx
    ·rw [hv2] at hx
     exact key 65533 (by decide) (by decide) x hx
   have:=hb x hx;unfold D9;simp;omega
theorem UR (c:Nat):∀ x∈E2 c,D9 x.toNat 65 90=false:=by
 intro x hx
 have fin:∀ l:List UInt8,(l.all fun x=> !D9 x.toNat 65 90)=true->x∈l->D9 x.toNat 65 90=false:=fun l hl hm=>by simpa using List.all_eq_true.1 hl x hm
 have out:∀ m,m<65\/90<m->D9 m 65 90=false:=fun m h=>by unfold D9;simp;omega
 have ins:∀ a lo hi,D9 a lo hi=true->lo<=a/\a<=hi:=fun a lo hi h=>by unfold D9 at h;simpa using h
 unfold E2 at hx;split at hx
 ·rename_i h;simp only [Bool.or_eq_true] at h;refine Es _ (out _ ?_) x hx
  rcases h with ((((h | h) | h) | h) | h) | h<;>have:=ins _ _ _ h<;>omega
 split at hx
 ·rename_i h;rw [Bool.and_eq_true] at h;have:=ins _ _ _ h.1
  exact Es _ (out _ (by omega)) x hx
 split at hx
 ·exact fin _ (by decide) hx
 split at hx
 ·rename_i h;have:=ins _ _ _ h
  exact Es _ (out _ (by omega)) x hx
 split at hx
 ·exact fin _ (by decide) hx
 split at hx
 ·exact fin _ (by decide) hx
 split at hx
 ·exact fin _ (by decide) hx
 split at hx
 ·rename_i h;have:=ins _ _ _ h
  exact Es _ (out _ (by omega)) x hx
 split at hx
 ·rename_i h;have:=ins _ _ _ h;refine Es _ (out _ ?_) x hx;split
  ·rename_i h2;have:=ins _ _ _ h2;omega
  ·rename_i h2;unfold D9 at h2;simp only [Bool.and_eq_true,decide_eq_true_eq,not_and] at h2;omega
 split at hx
 ·rename_i h;have:=ins _ _ _ h
  exact Es _ (out _ (by omega)) x hx
 ·cases hx
theorem Yz (c:Nat):∀ x∈(Fc c).1,D9 x.toNat 65 90=false:=by
 intro x hx;unfold Fc at hx;split at hx
 ·exact UR c x hx
 ·rename_i ho;split at hx
  ·cases hx
  ·split at hx
   ·refine Es c ?_ x hx;cases h:D9 c 65 90
    ·rfl
    ·exfalso
     have hc:65<=c/\c<=90:=by unfold D9 at h;simpa using h
     have key:∀ n:Fin 26,E2 (65+n.val)≠[]:=by decide+kernel
     have:=key ⟨c - 65,by omega⟩
     rw [show 65+(c - 65)=c by omega] at this
     exact ho this
   ·cases hx
theorem Lm:∀ {l:List Nat} {t:List UInt8},Ck l=some t->∀ x∈t,D9 x.toNat 65 90=false
 | [],t,h,x,hx=>by cases h;cases hx
 | c :: r,t,h,x,hx=>by
  rw [Ck] at h;split at h
  ·cases h
  ·cases hm:Ck r with
   | none=>rw [hm] at h;cases h
   | some u=>
    rw [hm] at h;cases h
    rcases List.mem_append.1 hx with hx | hx
    ·exact Yz c x hx
    ·exact Lm hm x hx
structure J2 (l:List UInt8):Prop where
 each:∀ c∈l,Fi c=true/\c≠46
 same:AW l=some l
theorem Yx {c:Nat} (h:GD c=true) (h80:c<128):Fi (UInt8.ofNat c)=true/\UInt8.ofNat c≠46:=by
 have key:∀ n:Fin 128,GD n.val=true->Fi (UInt8.ofNat n.val)=true/\UInt8.ofNat n.val≠46:=by decide+kernel
 exact key ⟨c,h80⟩ h
theorem Aa6:∀ k:Fin 36,Fi (Ge k.val)=true/\Ge k.val≠46:=by decide+kernel
theorem Xn {l:List Nat} (h:Hl l=true):∀ c∈l,GD c=true:=by
 cases l with
 | nil=>cases h
 | cons c r=>
  unfold Hl at h;rw [Bool.and_eq_true,Bool.and_eq_true] at h;exact List.all_eq_true.1 h.1.2
theorem SU {l t:List UInt8} (hl:∀ c∈l,D9 c.toNat 65 90=false/\c≠46) (h:AW l=some t):J2 t:=by
 have hname:IZ l=true->∀ c∈l,Fi c=true/\c≠46:=by
  intro hlow c hc;have h1:=List.all_eq_true.1 hlow c hc;have h2:=hl c hc;refine ⟨?_,h2.2⟩;unfold Fi;have h3:=h2.1;unfold D9 at h3;rw [h1,h3];rfl
 have h0:=h;unfold AW at h;split at h
 ·rename_i hx;split at h
  ·rename_i hlow;split at h
   ·rename_i m hm;split at h
    ·cases h;exact ⟨hname hlow,h0⟩
    ·cases h
   ·cases h
  ·cases h
 ·rename_i hx;split at h
  ·rename_i hlow;cases h;exact ⟨hname hlow,h0⟩
  ·split at h
   ·rename_i hlab;split at h
    ·rename_i o ho;cases h;have hall:=Xn hlab
     have heach:∀ c∈TW++o,Fi c=true/\c≠46:=by
      intro c hc
      rcases List.mem_append.1 hc with hc | hc
      ·unfold TW at hc;simp only [List.mem_cons,List.not_mem_nil,or_false] at hc
       rcases hc with rfl | rfl | rfl | rfl<;>decide
      ·rcases W1 ho c hc with ⟨n,hn,h80,rfl⟩ | rfl | ⟨k,hk,rfl⟩
       ·exact Yx (hall n hn) h80
       ·decide
       ·exact Aa6 ⟨k,hk⟩
     refine ⟨heach,?_⟩;unfold AW
     rw [if_pos (by unfold Lib.hasPrefix TW;simp [List.isPrefixOf]),if_pos (JR fun c hc=>(heach c hc).1)]
     rw [show (TW++o).drop 4=o from rfl,AdX ho];dsimp only;rw [if_pos hlab]
    ·cases h
   ·cases h
theorem KQ:∀ {ls ts:List (List UInt8)},(∀ l∈ls,∀ c∈l,D9 c.toNat 65 90=false/\c≠46)->A0 ls=some ts->(∀ t∈ts,J2 t)/\ts.length=ls.length
 | [],ts,_,h=>by cases h;exact ⟨fun t ht=>(nomatch ht),rfl⟩
 | l :: r,ts,hl,h=>by
  rw [A0] at h
  cases hw:AW l with
  | none=>rw [hw] at h;cases h
  | some t=>
   rw [hw] at h;dsimp only at h
   cases hr:A0 r with
   | none=>rw [hr] at h;cases h
   | some u=>
    rw [hr] at h;cases h
    obtain ⟨h1,h2⟩:=KQ (fun x hx=>hl x (List.mem_cons_of_mem _ hx)) hr
    refine ⟨fun x hx=> ?_,by rw [List.length_cons,List.length_cons,h2]⟩
    rcases List.mem_cons.1 hx with rfl | hx
    ·exact SU (hl l (List.mem_cons_self ..)) hw
    ·exact h1 x hx
theorem Hm:∀ {ts:List (List UInt8)},(∀ t∈ts,J2 t)->A0 ts=some ts
 | [],_=>rfl
 | t :: r,h=>by
  rw [A0,(h t (List.mem_cons_self ..)).same];dsimp only
  rw [Hm (fun x hx=>h x (List.mem_cons_of_mem _ hx))]
  rfl
theorem Ng {s n:List UInt8} (h:Cv s=some n):Cv n=some n/\∀ c∈n,Fi c=true:=by
 unfold Cv at h
 cases hm:Ck (Kw s) with
 | none=>rw [hm] at h;cases h
 | some t=>
  rw [hm] at h;dsimp only at h
  cases hw:A0 (Ay 46 t) with
  | none=>rw [hw] at h;cases h
  | some ts=>
   rw [hw] at h;cases h;have hb:=Lm hm
   obtain ⟨h1,h2⟩:=KQ (fun l hl c hc=>⟨hb c (EA t l hl c hc).1,(EA t l hl c hc).2⟩) hw
   have hne:ts≠[]:=by
    intro e;rw [e] at h2;exact Ds 46 t (List.length_eq_zero_iff.1 h2.symm)
   have hname:∀ c∈EZ ts,Fi c=true:=by
    intro c hc
    rcases RG hc with rfl | ⟨l,hl,hc⟩
    ·decide
    ·exact ((h1 l hl).each c hc).1
   refine ⟨?_,hname⟩;unfold Cv;rw [Vb (JR hname),Ju hname];dsimp only
   rw [NQ hne (fun l hl hh=>((h1 l hl).each 46 hh).2 rfl),Hm h1]
   rfl
def BP (c:UInt8):Bool:=decide (c<32) || decide (126<c)
def AfS (c:UInt8):Bool:=[32,34,60,62,96].contains c || BP c
def My (c:UInt8):Bool:=[32,34,35,60,62].contains c || BP c
def Af4 (c:UInt8):Bool:=c==39 || My c
def AeO (c:UInt8):Bool:=[63,94,96,123,125].contains c || My c
def Agr (c:UInt8):Bool:=[47,58,59,61,64,91,92,93,124].contains c || AeO c
def FO (set:Nat) (c:UInt8):Bool:=match set with
 | 0=>BP c
 | 1=>AfS c
 | 2=>My c
 | 3=>Af4 c
 | 4=>AeO c
 | 5=>Agr c
 | _=>false
def TZ (d:Nat):UInt8:=if d<10 then UInt8.ofNat (48+d) else UInt8.ofNat (55+d)
def E6 (set:Nat) (c:UInt8):List UInt8:=if FO set c=true then [37,TZ (c.toNat / 16),TZ (c.toNat % 16)] else [c]
def A1 (set:Nat) (l:List UInt8):List UInt8:=l.flatMap (E6 set)
theorem Sk (set:Nat) (l:List UInt8) (c:UInt8):A1 set (l++[c])=A1 set l++E6 set c:=by unfold A1;rw [List.flatMap_append];simp
theorem Ab8 (set:Nat) (c:UInt8):(E6 set c).length<=3:=by unfold E6;split<;>simp
theorem CW (set:Nat):∀ l,(A1 set l).length<=3 * l.length
 | []=>Nat.le_refl _
 | c :: r=>by
  have h1:=Ab8 set c;have h2:=CW set r;show (E6 set c++A1 set r).length<=_;rw [List.length_append,List.length_cons];omega
theorem AcN:∀ (set:Fin 6) (n:Fin 256),(E6 set.val (UInt8.ofNat n.val)).all (fun c=> !FO set.val c)=true:=by decide+kernel
theorem Gu {set:Nat} (hs:set<6) {l:List UInt8}:∀ c∈A1 set l,FO set c=false:=by
 intro c hc;obtain ⟨d,hd,hc⟩:=List.mem_flatMap.1 hc;have h:=AcN ⟨set,hs⟩ ⟨d.toNat,d.toNat_lt⟩;simp only [UInt8.ofNat_toNat] at h;simpa using List.all_eq_true.1 h c hc
theorem Hb {set:Nat}:∀ {l:List UInt8},(∀ c∈l,FO set c=false)->A1 set l=l
 | [],_=>rfl
 | c :: r,h=>by
  have h1:=h c (List.mem_cons_self ..)
  have h2:=Hb (l:=r) (fun x hx=>h x (List.mem_cons_of_mem _ hx))
  show E6 set c++A1 set r=_;rw [h2];unfold E6
  rw [if_neg (by rw [h1];decide)];rfl
def Wq (c:UInt8):Option Nat:=if Ah (c.toNat:Int) 16<0 then none else some (Ah (c.toNat:Int) 16).toNat
def BN:List UInt8->List UInt8
 | []=>[]
 | c :: r=>match r with
  | a :: b :: q=>if c=37 then (match Wq a,Wq b with | some x,some y=>UInt8.ofNat (x * 16+y) :: BN q | _,_=>c :: BN (a :: b :: q)) else c :: BN (a :: b :: q)
  | [a]=>c :: BN [a]
  | []=>[c]
theorem Pe:∀ {l:List UInt8},(∀ c∈l,c≠37)->BN l=l
 | [],_=>rfl
 | [a],_=>rfl
 | [a,b],h=>rfl
 | c :: a :: b :: q,h=>by
  rw [BN,if_neg (h c (List.mem_cons_self ..)),Pe (l:=a :: b :: q) (fun x hx=>h x (List.mem_cons_of_mem _ hx))]
def Aw:List UInt8:=[102,105,108,101]
def Aj (s:List UInt8):Bool:=[[102,116,112],Aw,[104,116,116,112],[104,116,116,112,115],[119,115],[119,115,115]].contains s
def HZ (s:List UInt8):Option Nat:=if s=[102,116,112] then some 21 else if s=[104,116,116,112]\/s=[119,115] then some 80 else if s=[104,116,116,112,115]\/s=[119,115,115] then some 443 else none
def L8 (c:UInt8):Bool:=AU (c.toNat:Int)
def BT:List UInt8->Bool
 | [a,b]=>L8 a && (b==58 || b==124)
 | _=>false
def CK:List UInt8->Bool
 | [a,b]=>L8 a && b==58
 | _=>false
def EX:List UInt8->Bool
 | a :: b :: r=>BT [a,b] && (match r with | []=>true | c :: _=>[47,92,63,35].contains c)
 | _=>false
def Km (r:List UInt8):Option (List UInt8):=match r with
 | b :: e :: q=>if b=50/\(e=101\/e=69) then some q else none
 | _=>none
def En:List UInt8->Option (List UInt8)
 | []=>none
 | c :: r=>if c=46 then some r else if c=37 then Km r else none
theorem CP (c:UInt8) (r:List UInt8):En (c :: r)=if c=46 then some r else if c=37 then Km r else none:=rfl
def K3 (s:List UInt8):Bool:=En s==some []
def IK (s:List UInt8):Bool:=match En s with | some r=>K3 r | none=>false
def Ew:List (List UInt8)->Bool
 | [p]=>CK p
 | _=>false
def HY (scheme:List UInt8) (path:List (List UInt8)):List (List UInt8):=if (scheme==Aw && Ew path)=true then path else path.dropLast
def AB (sp:Bool) (c:UInt8):Bool:=c==47 || (sp && c==92)
def Ci (p:UInt8->Bool):List UInt8->List (List UInt8)
 | []=>[[]]
 | c :: r=>if p c=true then [] :: Ci p r else match Ci p r with
  | []=>[[c]]
  | q :: qs=>(c :: q) :: qs
theorem Is (p:UInt8->Bool):∀ l,Ci p l≠[]
 | []=>by simp [Ci]
 | c :: r=>by
  rw [Ci];split
  ·simp
  ·cases h:Ci p r<;>simp
theorem Uv (p:UInt8->Bool):∀ l,∀ q∈Ci p l,∀ c∈q,p c=false
 | [],q,hq,c,hc=>by rw [Ci,List.mem_singleton] at hq;subst hq;cases hc
 | d :: r,q,hq,c,hc=>by
  have ih:=Uv p r;rw [Ci] at hq;cases hd:p d
  ·rw [hd,if_neg (by decide)] at hq
   cases h:Ci p r with
   | nil=>exact absurd h (Is p r)
   | cons a qs=>
    rw [h] at hq ih;dsimp only at hq
    rcases List.mem_cons.1 hq with rfl | hq
    ·rcases List.mem_cons.1 hc with rfl | hc
     ·exact hd
     ·exact ih a (List.mem_cons_self ..) c hc
    ·exact ih q (List.mem_cons_of_mem _ hq) c hc
  ·rw [hd,if_pos rfl] at hq
   rcases List.mem_cons.1 hq with rfl | hq
   ·cases hc
   ·exact ih q hq c hc
theorem PD {p:UInt8->Bool}:∀ {l:List UInt8},(∀ c∈l,p c=false)->Ci p l=[l]
 | [],_=>rfl
 | c :: r,h=>by rw [Ci,if_neg (by rw [h c (List.mem_cons_self ..)];decide),PD (l:=r) (fun x hx=>h x (List.mem_cons_of_mem _ hx))]
theorem Mq {p:UInt8->Bool} {d:UInt8} (hd:p d=true):∀ {l:List UInt8} (r:List UInt8),(∀ c∈l,p c=false)->Ci p (l++d :: r)=l :: Ci p r
 | [],r,_=>by rw [List.nil_append,Ci,if_pos hd]
 | c :: l,r,h=>by rw [List.cons_append,Ci,if_neg (by rw [h c (List.mem_cons_self ..)];decide),Mq hd r (fun x hx=>h x (List.mem_cons_of_mem _ hx))]
def CC (scheme:List UInt8) (out:List (List UInt8)) (p:List UInt8) (last:Bool):List (List UInt8):=
 if IK p=true then (if last=true then HY scheme out++[[]] else HY scheme out)
 else if K3 p=true then (if last=true then out++[[]] else out)
 else if (scheme==Aw && out.isEmpty && BT p)=true then out++[p.take 1++[58]]
 else out++[A1 4 p]
def Dn (scheme:List UInt8):List (List UInt8)->List (List UInt8)->List (List UInt8)
 | out,[]=>out
 | out,p :: r=>Dn scheme (CC scheme out p r.isEmpty) r
def Dl (scheme:List UInt8) (path:List (List UInt8)) (s:List UInt8):List (List UInt8):=Dn scheme path (Ci (AB (Aj scheme)) s)
structure R5 (sp:Bool) (p:List UInt8):Prop where
 slash:∀ c∈p,AB sp c=false
 set:∀ c∈p,FO 4 c=false
 dot:K3 p=false
 dots:IK p=false
structure AA (scheme:List UInt8) (path:List (List UInt8)):Prop where
 each:∀ p∈path,R5 (Aj scheme) p
 drive:(scheme==Aw)=true->∀ p r,path=p :: r->BT p=true->CK p=true
theorem AA.nil (scheme:List UInt8):AA scheme []:=⟨fun p hp=>(nomatch hp),fun _ p r h=>(nomatch h)⟩
theorem Ro (sp:Bool):R5 sp []:=⟨fun c hc=>(nomatch hc),fun c hc=>(nomatch hc),rfl,rfl⟩
theorem GK (c:UInt8):(FO 4 c=false/\E6 4 c=[c])\/(FO 4 c=true/\∃ a b,E6 4 c=[37,a,b]/\¬ (a=50/\(b=101\/b=69))):=by
 cases h:FO 4 c
 ·exact .inl ⟨rfl,by unfold E6;rw [h];rfl⟩
 ·refine .inr ⟨rfl,TZ (c.toNat / 16),TZ (c.toNat % 16),by unfold E6;rw [h];rfl,?_⟩
  have key:∀ n:Fin 256,FO 4 (UInt8.ofNat n.val)=true->¬ (TZ (n.val / 16)=50/\(TZ (n.val % 16)=101\/TZ (n.val % 16)=69)):=by decide+kernel
  have:=key ⟨c.toNat,c.toNat_lt⟩;simp only [UInt8.ofNat_toNat] at this;exact this h
theorem Oq {p:List UInt8} {a:UInt8} {r:List UInt8} (h:A1 4 p=a :: r) (ha:a≠37):∃ q,p=a :: q/\A1 4 q=r:=by
 cases p with
 | nil=>cases h
 | cons c q=>
  have h2:E6 4 c++A1 4 q=a :: r:=h
  rcases GK c with ⟨-,e⟩ | ⟨-,x,y,e,-⟩
  ·rw [e,List.cons_append,List.nil_append,List.cons.injEq] at h2
   exact ⟨q,by rw [h2.1],h2.2⟩
  ·rw [e,List.cons_append,List.cons.injEq] at h2;exact absurd h2.1.symm ha
theorem Qs {p r:List UInt8} (h:En (A1 4 p)=some r):∃ q,En p=some q/\A1 4 q=r:=by
 cases p with
 | nil=>cases h
 | cons c q=>
  have e0:A1 4 (c :: q)=E6 4 c++A1 4 q:=rfl
  rcases GK c with ⟨hc,e⟩ | ⟨hc,x,y,e,hn⟩
  ·have e1:A1 4 (c :: q)=c :: A1 4 q:=by rw [e0,e];rfl
   rw [e1,CP] at h;rw [CP]
   by_cases h46:c=46
   ·rw [if_pos h46] at h⊢;exact ⟨q,rfl,Option.some.inj h⟩
   ·rw [if_neg h46] at h⊢
    by_cases h37:c=37
    ·rw [if_pos h37] at h⊢;unfold Km at h;split at h
     ·rename_i b e2 q2 hq;split at h
      ·rename_i hh;obtain ⟨h2,h3⟩:=hh
       obtain ⟨q3,rfl,hq3⟩:=Oq hq (by rw [h2];decide)
       obtain ⟨q4,rfl,hq4⟩:=Oq hq3 (by rcases h3 with rfl | rfl<;>decide)
       exact ⟨q4,by unfold Km;dsimp only;rw [if_pos ⟨h2,h3⟩],by rw [hq4];exact Option.some.inj h⟩
      ·cases h
     ·cases h
    ·rw [if_neg h37] at h;cases h
  ·have e2:A1 4 (c :: q)=37 :: x :: y :: A1 4 q:=by rw [e0,e];rfl
   rw [e2,CP,if_neg (by decide),if_pos rfl] at h
   unfold Km at h;dsimp only at h;rw [if_neg hn] at h;cases h
theorem Za {p:List UInt8} (h:K3 (A1 4 p)=true):K3 p=true:=by
 unfold K3 at h⊢;rw [beq_iff_eq] at h⊢;obtain ⟨q,hq,he⟩:=Qs h;rw [hq]
 cases q with
 | nil=>rfl
 | cons c q=>
  have e0:A1 4 (c :: q)=E6 4 c++A1 4 q:=rfl;rw [e0] at he
  rcases GK c with ⟨-,e⟩ | ⟨-,x,y,e,-⟩<;>rw [e] at he<;>cases he
theorem AbZ {p:List UInt8} (h:IK (A1 4 p)=true):IK p=true:=by
 unfold IK at h⊢
 cases hb:En (A1 4 p) with
 | none=>rw [hb] at h;cases h
 | some r=>
  rw [hb] at h;obtain ⟨q,hq,rfl⟩:=Qs hb;rw [hq];exact Za h
theorem Zu (sp:Bool) {p:List UInt8} (h:∀ c∈p,AB sp c=false):∀ c∈A1 4 p,AB sp c=false:=by
 intro c hc;obtain ⟨d,hd,hc⟩:=List.mem_flatMap.1 hc;have hds:=h d hd
 rcases GK d with ⟨-,e⟩ | ⟨hin,x,y,e,-⟩
 ·rw [e,List.mem_singleton] at hc;rw [hc];exact hds
 ·have key:∀ (sp:Bool) (n:Fin 256),FO 4 (UInt8.ofNat n.val)=true->(E6 4 (UInt8.ofNat n.val)).all (fun c=> !AB sp c)=true:=by decide+kernel
  have:=key sp ⟨d.toNat,d.toNat_lt⟩;simp only [UInt8.ofNat_toNat] at this;simpa using List.all_eq_true.1 (this hin) c hc
theorem Ada {sp:Bool} {p:List UInt8} (h:∀ c∈p,AB sp c=false) (h1:K3 p=false) (h2:IK p=false):R5 sp (A1 4 p):=by
 refine ⟨Zu sp h,Gu (by decide),?_,?_⟩
 ·cases hd:K3 (A1 4 p)
  ·rfl
  ·rw [Za hd] at h1;cases h1
 ·cases hd:IK (A1 4 p)
  ·rfl
  ·rw [AbZ hd] at h2;cases h2
theorem HB {p:List UInt8} (h:BT p=true):∃ a b,p=[a,b]/\L8 a=true/\(b=58\/b=124):=by
 unfold BT at h;split at h
 ·rename_i a b;rw [Bool.and_eq_true,Bool.or_eq_true,beq_iff_eq,beq_iff_eq] at h;exact ⟨a,b,rfl,h.1,h.2⟩
 ·cases h
theorem Rk (sp:Bool) {a:UInt8} (h:L8 a=true):AB sp a=false/\FO 4 a=false/\a≠46/\a≠37:=by
 have key:∀ (sp:Bool) (n:Fin 256),L8 (UInt8.ofNat n.val)=true->AB sp (UInt8.ofNat n.val)=false/\FO 4 (UInt8.ofNat n.val)=false/\UInt8.ofNat n.val≠46/\UInt8.ofNat n.val≠37:=by decide+kernel
 have:=key sp ⟨a.toNat,a.toNat_lt⟩;simp only [UInt8.ofNat_toNat] at this;exact this h
theorem Qf (sp:Bool) {a:UInt8} (h:L8 a=true):R5 sp [a,58]:=by
 obtain ⟨h1,h2,h3,h4⟩:=Rk sp h
 have hs:AB sp 58=false:=by cases sp<;>rfl
 have hb:En [a,58]=none:=by rw [CP,if_neg h3,if_neg h4]
 refine ⟨fun c hc=> ?_,fun c hc=> ?_,by unfold K3;rw [hb];rfl,by unfold IK;rw [hb]⟩
 ·rcases List.mem_cons.1 hc with rfl | hc
  ·exact h1
  ·rw [List.mem_singleton.1 hc];exact hs
 ·rcases List.mem_cons.1 hc with rfl | hc
  ·exact h2
  ·rw [List.mem_singleton.1 hc];rfl
theorem AA.drop {scheme:List UInt8} {path:List (List UInt8)} (h:AA scheme path):AA scheme path.dropLast:=by
 refine ⟨fun p hp=>h.each p ((List.dropLast_sublist _).mem hp),fun hf p r e hd=> ?_⟩
 cases path with
 | nil=>cases e
 | cons a qs=>
  cases qs with
  | nil=>cases e
  | cons b bs=>
   rw [List.dropLast_cons_cons,List.cons.injEq] at e
   exact h.drive hf p (b :: bs) (by rw [e.1]) hd
theorem AA.up {scheme:List UInt8} {path:List (List UInt8)} (h:AA scheme path):AA scheme (HY scheme path):=by
 unfold HY;split
 ·exact h
 ·exact h.drop
theorem AA.snoc {scheme:List UInt8} {path:List (List UInt8)} (h:AA scheme path) {p:List UInt8} (hp:R5 (Aj scheme) p) (hd:(scheme==Aw)=true->path=[]->BT p=true->CK p=true):AA scheme (path++[p]):=by
 refine ⟨fun q hq=> ?_,fun hf q r e hq=> ?_⟩
 ·rcases List.mem_append.1 hq with hq | hq
  ·exact h.each q hq
  ·rw [List.mem_singleton.1 hq];exact hp
 ·cases path with
  | nil=>
   rw [List.nil_append,List.cons.injEq] at e;rw [<-e.1] at hq⊢;exact hd hf rfl hq
  | cons a qs=>
   rw [List.cons_append,List.cons.injEq] at e
   exact h.drive hf q qs (by rw [e.1]) hq
theorem Abe {p:List UInt8} (h:BT (A1 4 p)=true):BT p=true:=by
 obtain ⟨a,b,e,ha,hb⟩:=HB h;obtain ⟨q,rfl,hq⟩:=Oq e (Rk false ha).2.2.2
 obtain ⟨q2,rfl,hq2⟩:=Oq hq (by rcases hb with rfl | rfl<;>decide)
 cases q2 with
 | nil=>rw [<-e];exact h
 | cons c q3=>
  have e0:A1 4 (c :: q3)=E6 4 c++A1 4 q3:=rfl;rw [e0] at hq2
  rcases GK c with ⟨-,e⟩ | ⟨-,x,y,e,-⟩<;>rw [e] at hq2<;>cases hq2
theorem TV {scheme:List UInt8} {out:List (List UInt8)} {p:List UInt8} {last:Bool} (h:AA scheme out) (hp:∀ c∈p,AB (Aj scheme) c=false):AA scheme (CC scheme out p last):=by
 unfold CC;split
 ·split
  ·exact h.up.snoc (Ro _) (fun _ _ e=>by cases e)
  ·exact h.up
 ·rename_i h1;split
  ·split
   ·exact h.snoc (Ro _) (fun _ _ e=>by cases e)
   ·exact h
  ·rename_i h2;split
   ·rename_i h3;rw [Bool.and_eq_true] at h3;obtain ⟨a,b,rfl,ha,-⟩:=HB h3.2
    exact h.snoc (Qf _ ha) (fun _ _ _=>by show (L8 a && true)=true;rw [ha];rfl)
   ·rename_i h3
    refine h.snoc (Ada hp (by simpa using h2) (by simpa using h1)) (fun hf ho hd=> ?_)
    exact absurd (by rw [hf,ho,Abe hd];rfl) h3
theorem OB {scheme:List UInt8}:∀ (ps:List (List UInt8)) {out:List (List UInt8)},AA scheme out->(∀ p∈ps,∀ c∈p,AB (Aj scheme) c=false)->AA scheme (Dn scheme out ps)
 | [],out,h,_=>h
 | p :: r,out,h,hp=>OB r (TV h (hp p (List.mem_cons_self ..))) (fun q hq=>hp q (List.mem_cons_of_mem _ hq))
theorem Wv {scheme:List UInt8}:∀ (ps:List (List UInt8)) (out:List (List UInt8)),ps≠[]->Dn scheme out ps≠[]
 | [],_,h=>absurd rfl h
 | [p],out,_=>by
  show CC scheme out p true≠[];unfold CC;split
  ·rw [if_pos rfl];simp
  ·split
   ·rw [if_pos rfl];simp
   ·split<;>simp
 | p :: q :: r,out,_=>Wv (q :: r) (CC scheme out p false) (by simp)
theorem EJ {scheme:List UInt8} {path:List (List UInt8)} (h:AA scheme path) (s:List UInt8):AA scheme (Dl scheme path s):=OB _ h (Uv _ s)
theorem Hf (scheme:List UInt8) (path:List (List UInt8)) (s:List UInt8):Dl scheme path s≠[]:=Wv _ _ (Is _ s)
def Az (path:List (List UInt8)):List UInt8:=path.flatMap (fun p=>47 :: p)
theorem RQ {sp:Bool}:∀ (path:List (List UInt8)) (p:List UInt8),(∀ q∈p :: path,∀ c∈q,AB sp c=false)->Ci (AB sp) (p++Az path)=p :: path
 | [],p,h=>by
  show Ci (AB sp) (p++[])=[p];rw [List.append_nil,PD (h p (List.mem_cons_self ..))]
 | q :: r,p,h=>by
  show Ci (AB sp) (p++47 :: (q++Az r))=_
  rw [Mq (by unfold AB;rfl) _ (h p (List.mem_cons_self ..)),RQ r q (fun x hx=>h x (List.mem_cons_of_mem _ hx))]
theorem Sx {scheme:List UInt8} {out:List (List UInt8)} {p:List UInt8} {last:Bool} (hp:R5 (Aj scheme) p) (hd:(scheme==Aw)=true->out=[]->BT p=true->CK p=true):CC scheme out p last=out++[p]:=by
 unfold CC
 rw [if_neg (by rw [hp.dots];decide),if_neg (by rw [hp.dot];decide)]
 split
 ·rename_i h;rw [Bool.and_eq_true,Bool.and_eq_true] at h;have hn:=hd h.1.1 (List.isEmpty_iff.1 h.1.2) h.2;obtain ⟨a,b,rfl,-,-⟩:=HB h.2
  have:b=58:=by
   unfold CK at hn;rw [Bool.and_eq_true,beq_iff_eq] at hn;exact hn.2
  rw [this];rfl
 ·rw [Hb hp.set]
theorem O5 {scheme:List UInt8}:∀ (ps out:List (List UInt8)),AA scheme (out++ps)->Dn scheme out ps=out++ps
 | [],out,_=>by rw [List.append_nil];rfl
 | p :: r,out,h=>by
  have h1:CC scheme out p r.isEmpty=out++[p]:=Sx (h.each p (by simp)) (fun hf ho hd=>by subst ho;exact h.drive hf p r rfl hd)
  show Dn scheme (CC scheme out p r.isEmpty) r=_
  rw [h1,O5 r (out++[p]) (by rw [List.append_assoc];exact h),List.append_assoc];rfl
theorem MG {scheme:List UInt8} {p:List UInt8} {path:List (List UInt8)} (h:AA scheme (p :: path)):Dl scheme [] (p++Az path)=p :: path:=by
 unfold Dl
 rw [RQ path p (fun q hq=>(h.each q hq).slash)]
 exact O5 (p :: path) [] h
def AE (base:Nat):Nat->List UInt8->Option Nat
 | acc,[]=>some acc
 | acc,c :: r=>if Ah (c.toNat:Int) (base:Int)<0 then none else AE base (acc * base+(Ah (c.toNat:Int) (base:Int)).toNat) r
def Bo (base:Nat) (l:List UInt8):Option Nat:=if l=[] then none else AE base 0 l
def FR:List UInt8->Option Nat
 | []=>none
 | [c]=>AE 10 0 [c]
 | c :: d :: r=>if c=48 then (if d=120\/d=88 then AE 16 0 r else AE 8 0 (d :: r)) else AE 10 0 (c :: d :: r)
def Ba (s:List UInt8):List (List UInt8):=if 1<(Ay 46 s).length/\(Ay 46 s).getLast? =some [] then (Ay 46 s).dropLast else Ay 46 s
def Bh:Nat->List (List UInt8)->Nat->Option Nat
 | _,[],sum=>some sum
 | i,[x],sum=>match FR x with
  | none=>none
  | some v=>if v<2 ^ (8 * (4 - i)) then some (sum+v) else none
 | i,x :: y :: r,sum=>match FR x with
  | none=>none
  | some v=>if v<=255 then Bh (i+1) (y :: r) (sum+v * 2 ^ (8 * (3 - i))) else none
def M5 (l:List (List UInt8)):Option Nat:=if 4<l.length then none else Bh 0 l 0
def Bq (s:List UInt8):Option Nat:=M5 (Ba s)
def Wn (l:List (List UInt8)):List UInt8:=(l.getLast?).getD []
def LO (s:List UInt8):Bool:=(Bo 10 (Wn (Ba s))).isSome || (FR (Wn (Ba s))).isSome
theorem MC (s:List UInt8):Ba s≠[]:=by
 unfold Ba;split
 ·rename_i h;intro h2;have:=congrArg List.length h2;rw [List.length_dropLast,List.length_nil] at this;omega
 ·exact Ds _ _
theorem OH:∀ (l:List (List UInt8)) (i sum v:Nat),i+l.length<=4->0<l.length->sum+2 ^ (8 * (4 - i))<=2 ^ 32->Bh i l sum=some v->v<2 ^ 32
 | [],i,sum,v,h,h0,hs,e=>by simp at h0
 | [x],i,sum,v,h,_,hs,e=>by
  unfold Bh at e
  cases hx:FR x with
  | none=>rw [hx] at e;cases e
  | some n=>
   rw [hx] at e;dsimp only at e
   by_cases hn:n<2 ^ (8 * (4 - i))
   ·rw [if_pos hn] at e;cases e;omega
   ·rw [if_neg hn] at e;cases e
 | x :: y :: r,i,sum,v,h,_,hs,e=>by
  unfold Bh at e
  cases hx:FR x with
  | none=>rw [hx] at e;cases e
  | some n=>
   rw [hx] at e;dsimp only at e
   by_cases hn:n<=255
   ·rw [if_pos hn] at e
    refine OH (y :: r) (i+1) _ v (by simp at h⊢;omega) (by simp) ?_ e
    have h3:i<=2:=by simp at h;omega
    have hp:2 ^ (8 * (4 - i))=256 * 2 ^ (8 * (3 - i)):=by
     have:8 * (4 - i)=8+8 * (3 - i):=by omega
     rw [this,Nat.pow_add]
    have e2:4 - (i+1)=3 - i:=by omega
    rw [e2]
    have:(n+1) * 2 ^ (8 * (3 - i))<=256 * 2 ^ (8 * (3 - i)):=Nat.mul_le_mul_right _ (by omega)
    rw [Nat.add_mul] at this;omega
   ·rw [if_neg hn] at e;cases e
theorem AaI {s:List UInt8} {v:Nat} (h:Bq s=some v):v<4294967296:=by
 unfold Bq M5 at h
 by_cases h4:4<(Ba s).length
 ·rw [if_pos h4] at h;cases h
 ·rw [if_neg h4] at h
  exact OH (Ba s) 0 0 v (by omega) (List.length_pos_iff.2 (MC s)) (by decide) h
theorem AbK {C acc b d:Nat} (hb:1<=b):min (min acc C * b+d) C=min (acc * b+d) C:=by
 by_cases h:acc<=C
 ·rw [Nat.min_eq_left h]
 ·have h1:min acc C=C:=Nat.min_eq_right (by omega)
  have h2:C * 1<=C * b:=Nat.mul_le_mul_left _ hb
  have h3:C * b<=acc * b:=Nat.mul_le_mul_right _ (by omega)
  rw [h1,Nat.min_eq_right (by omega),Nat.min_eq_right (by omega)]
theorem AaZ (c a:Int):Ah c a<=35:=by unfold Ah K2;omega
def JA (C:Nat) (w:World) (o:Option Nat) (e:Ending) (w':World):Prop:=e= .returned (.tuple #[.int .i64 ((min (o.getD 0) C:Nat):Int),.bool o.isSome])/\w=w'
theorem Gz {base:Nat} {s:ByteArray} (h:s.toList.isEmpty=false):Bo base s.toList=AE base 0 s.toList:=by
 unfold Bo;rw [if_neg (by intro e;rw [e] at h;cases h)]
theorem OT (s:ByteArray) (b:Nat) (w:World) (hs:s.size<=1099511627776) (hb:b=8\/b=10\/b=16):
  Calls Tryz.prog 343 #[.string s,.int .i64 (b:Int)] w (JA 4294967296 w (Bo b s.toList)):=by
 cases hem:s.toList.isEmpty
 ·have hd1:=H0 (Gz (base:=b) hem)
  have hb1:1<=b:=by omega
  have hb2:(b:Int)<=16:=by omega
  have hb0:(0:Int)<=(b:Int):=by omega
  clear hb;go_enter Tryz.func343,Tryz.ntmps343;go_wp2_with fail
  go_loop [6,13] (fun nv iv=>∃ k m acc:Nat,iv= .int .i64 k/\nv= .int .i64 m/\k<=s.size/\m<=4294967296/\Hid (m=min acc 4294967296)/\Hid (AE b acc (s.toList.drop k)=AE b 0 s.toList)) (fun _ i=>s.size - (intOf i).toNat)
  case atStart=>exact ⟨0,0,0,rfl,rfl,Nat.zero_le _,by omega,rfl,H0 (by rw [List.drop_zero])⟩
  case round=>
   obtain ⟨k,m,acc,rfl,rfl,hk,hm,hmc,hg⟩:=hrel
   by_cases hlt:k<s.size
   ·have hdr:=Ao s k hlt
    have hltI:(k:Int)<(s.size:Int):=by omega
    rw [hdr] at hg;clear hdr
    by_cases hd:Ah (s[k].toNat:Int) (b:Int)<0
    ·have hno:Hid (Bo b s.toList=none):=H0 (by rw [hd1.out,<-hg.out,AE,if_pos hd])
     go_wp2_with (go_at_call 155;refine (Bu _ _ _ (AC _) (AK _)).mono ?_;rintro e w' ⟨rfl,rfl⟩);go_ret2;unfold JA;rw [hno.out];exact ⟨rfl,rfl⟩
    ·have hle:=AaZ (s[k].toNat:Int) (b:Int)
     have hnew:Hid (AE b (acc * b+(Ah (s[k].toNat:Int) (b:Int)).toNat) (s.toList.drop (k+1))=AE b 0 s.toList):=H0 (by rw [<-hg.out,AE,if_neg hd])
     obtain ⟨d,hdd⟩:∃ d:Nat,Ah (s[k].toNat:Int) (b:Int)=(d:Int):=⟨(Ah (s[k].toNat:Int) (b:Int)).toNat,by omega⟩
     have hdig:=fun w=>Bu (s[k].toNat:Int) (b:Int) w (AC _) (AK _)
     rw [hdd] at hnew hdig hle hd;replace hdig:=H0 hdig;replace hdd:=H0 hdd
     have hmb:m * b<=4294967296 * 16:=Nat.mul_le_mul hm (by omega)
     have hmbI:(m:Int) * (b:Int)=((m * b:Nat):Int):=by rw [Int.natCast_mul]
     have e1:IntKind.i64.wrap ((m:Int) * (b:Int))=((m * b:Nat):Int):=by rw [hmbI];exact IntWalk.i64_in _ (by omega)
     have e2:IntKind.i64.wrap (((m * b:Nat):Int)+(d:Int))=((m * b:Nat):Int)+(d:Int):=IntWalk.i64_in _ (by omega)
     have hms:=AbK (C:=4294967296) (acc:=acc) (d:=d) hb1;rw [<-hmc.out] at hms;replace hms:=H0 hms;replace hmbI:=H0 hmbI;clear hg;go_wp2_with (go_at_call 155;refine (hdig.out _).mono ?_;rintro e w' ⟨rfl,rfl⟩);go_round
     case rel=>exact ⟨k+1,min (m * b+d) 4294967296,acc * b+d,by go_num,congrArg (Value.int .i64) (by rw [hmbI.out];omega),by omega,Nat.min_le_right _ _,H0 hms.out,hnew⟩
     case measure=>simp [intOf];omega
   ·have hfin:Hid (Bo b s.toList=some acc):=H0 (by rw [hd1.out,<-hg.out,AM s k (by omega)];rfl)
    have hgeI:(s.size:Int)<=(k:Int):=by omega
    clear hg;go_wp2_with fail;go_ret2;unfold JA;rw [hfin.out,hmc.out];exact ⟨rfl,rfl⟩
 ·have hno:Hid (Bo b s.toList=none):=H0 (by unfold Bo;rw [if_pos (by simpa using hem)])
  go_enter Tryz.func343,Tryz.ntmps343;go_wp2_with fail;go_ret2;unfold JA;rw [hno.out];exact ⟨rfl,rfl⟩
theorem IA {s:ByteArray} {b:Nat} {o:Option Nat} (w:World) (bi:Int) (hbi:bi=(b:Int)) (hs:s.size<=1099511627776) (hb:b=8\/b=10\/b=16) (h:Bo b s.toList=o):
  Calls Tryz.prog 343 #[.string s,.int .i64 bi] w (JA 4294967296 w o):=by
 subst h hbi;exact OT s b w hs hb
theorem Pj (c d:UInt8) (l:List UInt8):Lib.hasPrefix l [c,d]=match l with | x :: y :: _=>(c==x && d==y) | _=>false:=by
 unfold Lib.hasPrefix
 match l with
 | []=>rfl
 | [x]=>simp [List.isPrefixOf]
 | x :: y :: r=>simp [List.isPrefixOf]
theorem AcC {s:ByteArray} {c:UInt8} {l:List UInt8} (h:s.toList=c :: l) (h0:0<s.size):s[0]=c:=by
 have:=CS s 0 h0;rw [<-this];simp [h]
theorem G7 {s:ByteArray} (k:Nat):(s.extract k s.size).toList=s.toList.drop k:=by
 rw [toList_extract,<-Aa,List.take_length]
theorem AeC {C:Nat} {w:World} {o p:Option Nat} {e:Ending} {w':World} (h:o=p) (r:JA C w o e w'):JA C w p e w':=h ▸ r
theorem Afm {c:UInt8} {n:Nat} (hn:n<256):((c.toNat:Int)==(n:Int))=decide (c=UInt8.ofNat n):=by
 rw [Bool.eq_iff_iff];simp only [beq_iff_eq,decide_eq_true_eq];constructor
 ·intro h
  have:c.toNat=n:=by omega
  rw [<-this];simp
 ·rintro rfl;rw [UInt8.toNat_ofNat_of_lt' hn]
theorem PB (s:ByteArray) (w:World) (hs:s.size<=1099511627776):
  Calls Tryz.prog 344 #[.string s] w (JA 4294967296 w (FR s.toList)):=by
 have hl:=Aa s
 by_cases h1:s.size<=1
 ·have hp:∀ c d,Lib.hasPrefix s.data.toList [c,d]=false:=by
   intro c d;rw [<-ByteArray.toList_eq,Pj]
   match hL:s.toList with
   | []=>rfl
   | [x]=>rfl
   | x :: y :: r=>rw [hL] at hl;simp at hl;omega
  have hV:Bo 10 s.toList=FR s.toList:=by
   match hL:s.toList with
   | []=>rfl
   | [x]=>rfl
   | x :: y :: r=>rw [hL] at hl;simp at hl;omega
  have p1:=hp 48 120;have p2:=hp 48 88
  have hz:(s.size:Int)<=1:=by omega
  have hd:=H0 (fun w=>IA (o:=FR s.toList) w 10 (b:=10) rfl hs (by decide) hV)
  clear hp hl h1 hV;go_enter Tryz.func344,Tryz.ntmps344
  go_wp2_with (first
   | (go_at_call 111;refine (Tryz.strings_HasPrefix _ _ _).mono ?_;rintro e w' ⟨rfl,rfl⟩)
   | (go_at_call 343;refine (hd.out _).mono ?_;rintro e w' ⟨rfl,rfl⟩))
  go_ret2;exact ⟨rfl,rfl⟩
 obtain ⟨c,d,r,hL⟩:∃ c d r,s.toList=c :: d :: r:=by
  match hL:s.toList with
  | []=>rw [hL] at hl;simp at hl;omega
  | [x]=>rw [hL] at hl;simp at hl;omega
  | x :: y :: r=>exact ⟨x,y,r,rfl⟩
 have h0:0<s.size:=by omega
 have g0:=AcC hL h0
 have hz:(1:Int)<(s.size:Int):=by omega
 have hz2:(2:Int)<=(s.size:Int):=by omega
 have hp:∀ a b,Lib.hasPrefix s.data.toList [a,b]=(a==c && b==d):=by intro a b;rw [<-ByteArray.toList_eq,Pj,hL]
 have p1:=hp 48 120;have p2:=hp 48 88
 have hb:((s[0].toNat:Int)==48)=decide (c=48):=by rw [g0];exact Afm (n:=48) (by decide)
 by_cases hc:c=48
 ·subst hc
  by_cases hd:d=120\/d=88
  ·have hV:FR s.toList=AE 16 0 r:=by rw [hL,FR,if_pos rfl,if_pos hd]
   have hps:Lib.hasPrefix s.data.toList [48,120]=true\/Lib.hasPrefix s.data.toList [48,120]=false/\Lib.hasPrefix s.data.toList [48,88]=true:=by
    rw [p1,p2]
    rcases hd with rfl | rfl
    ·exact .inl rfl
    ·exact .inr ⟨rfl,rfl⟩
   have hrs:s.size=r.length+2:=by rw [<-hl,hL];rfl
   have hx:(s.extract 2 s.size).toList=r:=by rw [G7,hL];rfl
   have hxs:(s.extract 2 s.size).size<=1099511627776:=by rw [<-Aa,hx];omega
   clear p1 p2 hp hb g0
   by_cases hr:r=[]
   ·have hV2:Hid (FR s.toList=some 0):=H0 (by rw [hV,hr];rfl)
    have hq:((s.size:Int)==2)=true:=by rw [hrs,hr];rfl
    clear hV hrs hx hxs hr hL hl hd
    rcases hps with q1 | ⟨q1,q2⟩
    all_goals
     go_enter Tryz.func344,Tryz.ntmps344
     go_wp2_with (first
      | (go_at_call 111;refine (Tryz.strings_HasPrefix _ _ _).mono ?_;rintro e w' ⟨rfl,rfl⟩))
     go_ret2;exact AeC hV2.out.symm ⟨rfl,rfl⟩
   ·have hq:((s.size:Int)==2)=false:=by
     have:0<r.length:=List.length_pos_iff.2 hr;simp only [beq_eq_false_iff_ne,ne_eq];omega
    have hd':=H0 (fun w=>IA (s:=s.extract 2 s.size) (o:=FR s.toList) w 16 (b:=16) rfl hxs (by decide) (by rw [hx,hV];unfold Bo;rw [if_neg hr]))
    clear hV hrs hx hxs hr hL hl hd
    rcases hps with q1 | ⟨q1,q2⟩
    all_goals
     go_enter Tryz.func344,Tryz.ntmps344
     go_wp2_with (first
      | (go_at_call 111;refine (Tryz.strings_HasPrefix _ _ _).mono ?_;rintro e w' ⟨rfl,rfl⟩)
      | (go_at_call 343;refine (hd'.out _).mono ?_;rintro e w' ⟨rfl,rfl⟩))
     go_ret2;exact ⟨rfl,rfl⟩
  ·have hV:FR s.toList=AE 8 0 (d :: r):=by rw [hL,FR,if_pos rfl,if_neg hd]
   have q1:Lib.hasPrefix s.data.toList [48,120]=false:=by
    rw [p1];simp only [Bool.and_eq_false_iff];right;simp;exact fun e=>hd (.inl e.symm)
   have q2:Lib.hasPrefix s.data.toList [48,88]=false:=by
    rw [p2];simp only [Bool.and_eq_false_iff];right;simp;exact fun e=>hd (.inr e.symm)
   have hx:(s.extract 1 s.size).toList=d :: r:=by rw [G7,hL];rfl
   have hxs:(s.extract 1 s.size).size<=1099511627776:=by rw [<-Aa,G7,List.length_drop];omega
   have hd':=H0 (fun w=>IA (s:=s.extract 1 s.size) (o:=FR s.toList) w 8 (b:=8) rfl hxs (by decide) (by rw [hx,hV];rfl))
   have hb2:((s[0].toNat:Int)==48)=true:=hb.trans (by decide)
   clear hV hx hxs hL hl hd p1 p2 hp hb g0;go_enter Tryz.func344,Tryz.ntmps344
   go_wp2_with (first
    | (go_at_call 111;refine (Tryz.strings_HasPrefix _ _ _).mono ?_;rintro e w' ⟨rfl,rfl⟩)
    | (go_at_call 343;refine (hd'.out _).mono ?_;rintro e w' ⟨rfl,rfl⟩))
   go_ret2;exact ⟨rfl,rfl⟩
 ·have hV:FR s.toList=AE 10 0 (c :: d :: r):=by rw [hL,FR,if_neg hc]
  have q1:Lib.hasPrefix s.data.toList [48,120]=false:=by
   rw [p1];simp only [Bool.and_eq_false_iff];left;simp;exact fun e=>hc e.symm
  have q2:Lib.hasPrefix s.data.toList [48,88]=false:=by
   rw [p2];simp only [Bool.and_eq_false_iff];left;simp;exact fun e=>hc e.symm
  have hd':=H0 (fun w=>IA (s:=s) (o:=FR s.toList) w 10 (b:=10) rfl hs (by decide) (by rw [hV,hL];rfl))
  have hb2:((s[0].toNat:Int)==48)=false:=by rw [hb];simpa using hc
  clear hV hL hl p1 p2 hp hb g0 hc;go_enter Tryz.func344,Tryz.ntmps344
  go_wp2_with (first
   | (go_at_call 111;refine (Tryz.strings_HasPrefix _ _ _).mono ?_;rintro e w' ⟨rfl,rfl⟩)
   | (go_at_call 343;refine (hd'.out _).mono ?_;rintro e w' ⟨rfl,rfl⟩))
  go_ret2;exact ⟨rfl,rfl⟩
end Go.Proofs.YtonomfeipkdmhaaGreatDoor
