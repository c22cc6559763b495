/- Part 8: lemmas. -/
import Derived.Test.YtonomfeipkdmhaaGreatDoorK07
set_option linter.unusedVariables false
set_option linter.unusedSimpArgs false
set_option maxRecDepth 100000
set_option maxHeartbeats 16000000
namespace Go.Proofs.YtonomfeipkdmhaaGreatDoor
open Go.RowKit
theorem Oj {c:UInt8}:∀ {a:List UInt8} (b:List UInt8),(∀ x∈a,x≠c)->Af c (a++c :: b)=(a,b,true)
 | [],b,_=>by rw [List.nil_append,Af,if_pos rfl]
 | x :: r,b,h=>by
  rw [List.cons_append,Af,if_neg (h x (List.mem_cons_self ..)),Oj (a:=r) b (fun y hy=>h y (List.mem_cons_of_mem _ hy))]
theorem TK {c:UInt8}:∀ {a:List UInt8},(∀ x∈a,x≠c)->Af c a=(a,[],false)
 | [],_=>rfl
 | x :: r,h=>by
  rw [Af,if_neg (h x (List.mem_cons_self ..)),TK (a:=r) (fun y hy=>h y (List.mem_cons_of_mem _ hy))]
theorem PV {sp:Bool}:∀ {a:List UInt8} {b:List UInt8},(∀ x∈a,AB sp x=false)->(∀ c,b.head? =some c->AB sp c=true)->BK sp (a++b)=(a,b)
 | [],[],_,_=>rfl
 | [],c :: r,_,h=>by rw [List.nil_append,BK,if_pos (h c rfl)]
 | x :: r,b,h,hb=>by
  rw [List.cons_append,BK,if_neg (by rw [h x (List.mem_cons_self ..)];decide),PV (a:=r) (fun y hy=>h y (List.mem_cons_of_mem _ hy)) hb]
theorem Nr:∀ {T:List UInt8} (p:List UInt8),(∀ c∈T,c≠58/\c≠91/\c≠93)->Br false (T++58 :: p)=some (T,p)
 | [],p,_=>rfl
 | c :: r,p,h=>by
  have hc:=h c (List.mem_cons_self ..)
  rw [List.cons_append,Br,if_neg hc.2.1,if_neg hc.2.2,if_neg (fun e=>hc.1 e.1),Nr (T:=r) p (fun y hy=>h y (List.mem_cons_of_mem _ hy))]
  rfl
theorem Qa:∀ {T:List UInt8},(∀ c∈T,c≠58/\c≠91/\c≠93)->Br false T=none
 | [],_=>rfl
 | c :: r,h=>by
  have hc:=h c (List.mem_cons_self ..)
  rw [Br,if_neg hc.2.1,if_neg hc.2.2,if_neg (fun e=>hc.1 e.1),Qa (T:=r) (fun y hy=>h y (List.mem_cons_of_mem _ hy))]
  rfl
theorem Wf:∀ {T:List UInt8} (Y:List UInt8),(∀ c∈T,c≠91/\c≠93)->Br true (T++93 :: Y)=(Br false Y).map (fun p=>(T++93 :: p.1,p.2))
 | [],Y,_=>by
  rw [List.nil_append,Br,if_neg (by decide),if_pos rfl];rfl
 | c :: r,Y,h=>by
  have hc:=h c (List.mem_cons_self ..)
  rw [List.cons_append,Br,if_neg hc.1,if_neg hc.2,if_neg (fun e=>(nomatch e.2)),Wf (T:=r) Y (fun y hy=>h y (List.mem_cons_of_mem _ hy))]
  cases Br false Y<;>rfl
theorem Qb {c:UInt8} (h:AfH c):c≠91/\c≠93/\BP c=false/\c≠63/\c≠35/\c≠64/\AB true c=false:=by
 rcases h with rfl | ⟨d,hd,rfl⟩
 ·decide
 ·have key:∀ d:Fin 16,Bs d.val≠91/\Bs d.val≠93/\BP (Bs d.val)=false/\Bs d.val≠63/\Bs d.val≠35/\Bs d.val≠64/\AB true (Bs d.val)=false:=by decide+kernel
  exact key ⟨d,hd⟩
theorem M4 {sp:Bool} {c:UInt8} (h:AB true c=false):AB sp c=false:=by
 unfold AB at h⊢;rw [Bool.true_and,Bool.or_eq_false_iff] at h;rw [h.1,h.2];simp
def Nu (c:UInt8):Prop:=BP c=false/\c≠63/\c≠35/\c≠64/\AB true c=false/\c≠32
theorem ZV:∀ n:Fin 256,EN (UInt8.ofNat n.val)=false->BP (UInt8.ofNat n.val)=false->UInt8.ofNat n.val≠63/\UInt8.ofNat n.val≠35/\UInt8.ofNat n.val≠64/\AB true (UInt8.ofNat n.val)=false/\UInt8.ofNat n.val≠32/\UInt8.ofNat n.val≠58/\UInt8.ofNat n.val≠91/\UInt8.ofNat n.val≠93/\UInt8.ofNat n.val≠124:=by decide+kernel
theorem Tq {c:UInt8} (h:EN c=false) (h2:BP c=false):Nu c/\c≠58/\c≠91/\c≠93/\c≠124:=by
 have:=ZV ⟨c.toNat,c.toNat_lt⟩;simp only [UInt8.ofNat_toNat] at this;have h3:=this h h2;exact ⟨⟨h2,h3.1,h3.2.1,h3.2.2.1,h3.2.2.2.1,h3.2.2.2.2.1⟩,h3.2.2.2.2.2⟩
theorem Ade:∀ n:Fin 256,Fi (UInt8.ofNat n.val)=true->IU (UInt8.ofNat n.val)=false->BP (UInt8.ofNat n.val)=false/\EN (UInt8.ofNat n.val)=false:=by decide+kernel
theorem DX {sp:Bool} {h:Bz} (g:Be sp h):(h= .empty/\h.text=[])\/(h.text≠[]/\(∀ c∈h.text,Nu c)/\((∀ c∈h.text,c≠58/\c≠91/\c≠93/\c≠124)\/∃ X,h.text=91 :: (X++[93])/\∀ c∈X,c≠91/\c≠93)):=by
 cases g with
 | @name n h h2 h3 h4=>
  refine .inr ⟨h2,?_,.inl ?_⟩
  all_goals
   intro c hc
   have hb:IU c=false:=by have:=List.any_eq_false.1 h3 c hc;simpa using this
   have hn:=(Ng h).2 c hc;have:=Ade ⟨c.toNat,c.toNat_lt⟩;simp only [UInt8.ofNat_toNat] at this;have h5:=this hn hb;have h6:=Tq h5.2 h5.1
   first | exact h6.1 | exact h6.2
 | @four n h=>
  refine .inr ⟨Wh n,?_,.inl ?_⟩
  all_goals
   intro c hc
   have key:∀ d:Fin 10,EN (Bs d.val)=false/\BP (Bs d.val)=false:=by decide+kernel
   have h6:Nu c/\c≠58/\c≠91/\c≠93/\c≠124:=by
    rcases Pz n c hc with rfl | ⟨d,hd,rfl⟩
    ·exact Tq (by decide) (by decide)
    ·exact Tq (key ⟨d,hd⟩).1 (key ⟨d,hd⟩).2
   first | exact h6.1 | exact h6.2
 | @six sp l h=>
  refine .inr ⟨by show [91]++Ey l++[93]≠[];simp,?_,.inr ⟨Ey l,rfl,fun c hc=> ?_⟩⟩
  ·intro c hc
   change c∈[91]++Ey l++[93] at hc
   have hs:∀ c∈Ey l,Nu c:=by
    intro c hc;have hb:=R1 h c hc;have:=Qb hb;refine ⟨this.2.2.1,this.2.2.2.1,this.2.2.2.2.1,this.2.2.2.2.2.1,this.2.2.2.2.2.2,?_⟩;rintro rfl
    rcases hb with hb | ⟨d,hd,hb⟩
    ·cases hb
    ·have key:∀ d:Fin 16,(32:UInt8)≠Bs d.val:=by decide+kernel
     exact key ⟨d,hd⟩ hb
   rcases List.mem_append.1 hc with hc | hc
   ·rcases List.mem_append.1 hc with hc | hc
    ·rw [List.mem_singleton.1 hc];unfold Nu;decide
    ·exact hs c hc
   ·rw [List.mem_singleton.1 hc];unfold Nu;decide
  ·have:=Qb (R1 h c hc);exact ⟨this.1,this.2.1⟩
 | empty=>exact .inl ⟨rfl,rfl⟩
 | @other n h h2 h3=>
  refine .inr ⟨h,?_,.inl ?_⟩
  all_goals
   intro c hc
   have hb:EN c=false:=by have:=List.any_eq_false.1 h2 c hc;simpa using this
   have h6:=Tq hb (show BP c=false from h3 c hc)
   first | exact h6.1 | exact h6.2
theorem PZ (n:Nat):Lib.itoa (n:Int)=Lib.decDigits n:=by
 unfold Lib.itoa
 rw [if_neg (by omega),Int.toNat_natCast]
theorem Zy (n:Nat):Bo 10 (Lib.itoa (n:Int))=some n:=by
 rw [PZ,<-GA];unfold Bo;rw [if_neg (Ok _ _)]
 exact NK (by decide) (by decide) n
theorem Ys (n:Nat):∀ c∈Lib.itoa (n:Int),∃ d,d<10/\c=Bs d:=by
 rw [PZ,<-GA]
 exact OG (by decide) (by decide) n
theorem Aez (n:Nat):Lib.itoa (n:Int)≠[]:=by
 rw [PZ,<-GA];exact Ok _ _
theorem Aho:∀ d:Fin 10,BP (Bs d.val)=false/\Bs d.val≠63/\Bs d.val≠35/\Bs d.val≠64/\AB true (Bs d.val)=false/\Bs d.val≠32:=by decide+kernel
theorem JM (o:Option Nat):∀ c∈DM o,Nu c:=by
 intro c hc
 cases o with
 | none=>cases hc
 | some n=>
  rcases List.mem_append.1 (show c∈[58]++Lib.itoa (n:Int) from hc) with hc | hc
  ·rw [List.mem_singleton.1 hc];unfold Nu;decide
  ·obtain ⟨d,hd,rfl⟩:=Ys n c hc;exact Aho ⟨d,hd⟩
def AeY:Option Nat->List UInt8
 | none=>[]
 | some n=>Lib.itoa (n:Int)
theorem Q2 {sp:Bool} {h:Bz} (g:Be sp h) (o:Option Nat) (he:h= .empty->o=none):Fz (h.text++DM o)=some (h.text,AeY o):=by
 unfold Fz;have e0:h.text++DM none=h.text:=List.append_nil _
 rcases DX g with ⟨h1,h2⟩ | ⟨hne,hb,hp | ⟨X,hX,hx⟩⟩
 ·have ho:=he h1;subst ho;rw [h2];rfl
 ·have hp':∀ c∈h.text,c≠58/\c≠91/\c≠93:=fun c hc=>⟨(hp c hc).1,(hp c hc).2.1,(hp c hc).2.2.1⟩
  cases o with
  | none=>rw [e0,Qa hp'];rfl
  | some n=>
   have e1:h.text++DM (some n)=h.text++58 :: Lib.itoa (n:Int):=rfl;rw [e1,Nr _ hp'];dsimp only;rw [if_neg hne];rfl
 ·have e:∀ Y,Br false (h.text++Y)=(Br false Y).map (fun p=>(h.text++p.1,p.2)):=by
   intro Y;rw [hX];show Br false (91 :: ((X++[93])++Y))=_;rw [List.append_assoc,Br,if_pos rfl,List.cons_append,List.nil_append,Wf Y hx]
   cases Br false Y with
   | none=>rfl
   | some p=>simp
  cases o with
  | none=>
   have e2:=e [];rw [List.append_nil] at e2;rw [e0,e2];rfl
  | some n=>
   have e1:h.text++DM (some n)=h.text++58 :: Lib.itoa (n:Int):=rfl;have e3:Br false (58 :: Lib.itoa (n:Int))=some ([],Lib.itoa (n:Int)):=rfl;rw [e1,e,e3]
   show (if h.text++[]=[] then none else some (h.text++[],Lib.itoa (n:Int)))=_
   rw [List.append_nil,if_neg hne];rfl
theorem WI {scheme:List UInt8} {o:Option Nat} (h:Jq scheme o):IJ scheme (AeY o)=some o:=by
 cases o with
 | none=>rfl
 | some n=>
  have:=h n rfl;show IJ scheme (Lib.itoa (n:Int))=_;unfold IJ;rw [if_neg (Aez n),Zy];dsimp only
  rw [if_neg (by omega),if_neg this.2]
theorem X7 {scheme user pass:List UInt8} {h:Bz} {o:Option Nat} (g:Be (Aj scheme) h) (po:Jq scheme o) (he:h= .empty->o=none):E7 scheme user pass (h.text++DM o)=some ⟨user,pass,h,o⟩:=by
 unfold E7;rw [Q2 g o he];dsimp only;rw [PK g];dsimp only;rw [WI po]
theorem WY:∀ n:Fin 256,FO 5 (UInt8.ofNat n.val)=false->BP (UInt8.ofNat n.val)=false/\UInt8.ofNat n.val≠63/\UInt8.ofNat n.val≠35/\UInt8.ofNat n.val≠64/\AB true (UInt8.ofNat n.val)=false/\UInt8.ofNat n.val≠58/\UInt8.ofNat n.val≠32:=by decide+kernel
theorem S8 {c:UInt8} (h:FO 5 c=false):BP c=false/\c≠63/\c≠35/\c≠64/\AB true c=false/\c≠58/\c≠32:=by
 have:=WY ⟨c.toNat,c.toNat_lt⟩;simp only [UInt8.ofNat_toNat] at this;exact this h
theorem Qx {user pass:List UInt8} (hu:∀ c∈user,FO 5 c=false) (hp:∀ c∈pass,FO 5 c=false):∀ c∈IE user pass,BP c=false/\c≠63/\c≠35/\AB true c=false/\c≠32:=by
 have h1:∀ c∈user,BP c=false/\c≠63/\c≠35/\AB true c=false/\c≠32:=fun c hc=>by
  have:=S8 (hu c hc);exact ⟨this.1,this.2.1,this.2.2.1,this.2.2.2.2.1,this.2.2.2.2.2.2⟩
 have h2:∀ c∈pass,BP c=false/\c≠63/\c≠35/\AB true c=false/\c≠32:=fun c hc=>by
  have:=S8 (hp c hc);exact ⟨this.1,this.2.1,this.2.2.1,this.2.2.2.2.1,this.2.2.2.2.2.2⟩
 intro c hc;unfold IE at hc;split at hc
 ·cases hc
 ·split at hc
  ·rcases List.mem_append.1 hc with hc | hc
   ·exact h1 c hc
   ·rw [List.mem_singleton.1 hc];decide
  ·rcases List.mem_append.1 hc with hc | hc
   ·rcases List.mem_append.1 hc with hc | hc
    ·rcases List.mem_append.1 hc with hc | hc
     ·exact h1 c hc
     ·rw [List.mem_singleton.1 hc];decide
    ·exact h2 c hc
   ·rw [List.mem_singleton.1 hc];decide
theorem XW {scheme user pass:List UInt8} {h:Bz} {o:Option Nat} (hu:∀ c∈user,FO 5 c=false) (hp:∀ c∈pass,FO 5 c=false) (g:Be (Aj scheme) h) (po:Jq scheme o) (he:h= .empty->user=[]/\pass=[]/\o=none):
  Gy scheme (IE user pass++h.text++DM o)=some ⟨user,pass,h,o⟩:=by
 have hH:∀ c∈h.text++DM o,c≠64:=by
  intro c hc
  rcases List.mem_append.1 hc with hc | hc
  ·rcases DX g with ⟨-,h2⟩ | ⟨-,hb,-⟩
   ·rw [h2] at hc;cases hc
   ·exact (hb c hc).2.2.2.1
  ·exact (JM o c hc).2.2.2.1
 have hQ:=X7 (user:=user) (pass:=pass) g po (fun e=>(he e).2.2)
 unfold Gy
 by_cases hw:user=[]/\pass=[]
 ·have e:IE user pass++h.text++DM o=h.text++DM o:=by unfold IE;rw [if_pos hw];rfl
  rw [e,E4 hH];dsimp only;rw [hw.1,hw.2] at hQ;rw [hw.1,hw.2];exact hQ
 ·have hne:h.text++DM o≠[]:=by
   intro e
   rcases DX g with ⟨h1,-⟩ | ⟨h1,-⟩
   ·exact hw ⟨(he h1).1,(he h1).2.1⟩
   ·exact h1 (List.append_eq_nil_iff.1 e).1
  have hu58:∀ x∈user,x≠58:=fun x hx=>(S8 (hu x hx)).2.2.2.2.2.1
  by_cases hpe:pass=[]
  ·have e:IE user pass++h.text++DM o=user++64 :: (h.text++DM o):=by
    unfold IE;rw [if_neg hw,if_pos hpe];simp
   rw [e,ET hH];dsimp only;rw [if_neg hne,TK hu58,Hb hu];subst hpe;exact hQ
  ·have e:IE user pass++h.text++DM o=(user++58 :: pass)++64 :: (h.text++DM o):=by
    unfold IE;rw [if_neg hw,if_neg hpe];simp
   rw [e,ET hH];dsimp only;rw [if_neg hne,Oj pass hu58,Hb hu,Hb hp];exact hQ
theorem Qe (path:List (List UInt8)):∀ c,(Az path).head? =some c->c=47:=by
 intro c h
 cases path with
 | nil=>cases h
 | cons p r=>exact (Option.some.inj h).symm
theorem It (sp:Bool):AB sp 47=true:=by cases sp<;>rfl
theorem Nx {sp:Bool} {user pass:List UInt8} {h:Bz} {o:Option Nat} {sq:Bool} (hu:∀ c∈user,FO 5 c=false) (hp:∀ c∈pass,FO 5 c=false) (g:Be sq h):∀ c∈IE user pass++h.text++DM o,AB sp c=false:=by
 intro c hc
 rcases List.mem_append.1 hc with hc | hc
 ·rcases List.mem_append.1 hc with hc | hc
  ·exact M4 (Qx hu hp c hc).2.2.2.1
  ·rcases DX g with ⟨-,h2⟩ | ⟨-,hb,-⟩
   ·rw [h2] at hc;cases hc
   ·exact M4 (hb c hc).2.2.2.2.1
 ·exact M4 (JM o c hc).2.2.2.2.1
theorem IF {scheme:List UInt8} {path:List (List UInt8)} (h:AA scheme path) (hne:path≠[]):BZ scheme (Az path)=path:=by
 cases path with
 | nil=>exact absurd rfl hne
 | cons p r=>
  unfold BZ;have e:Az (p :: r)=47 :: (p++Az r):=rfl
  rw [e,A3,if_pos (It _),if_pos (by omega)]
  exact MG h
theorem Rf {u:Aq} {user pass:List UInt8} {h:Bz} {o:Option Nat} {path:List (List UInt8)} (hu:∀ c∈user,FO 5 c=false) (hp:∀ c∈pass,FO 5 c=false) (g:Be (Aj u.scheme) h) (po:Jq u.scheme o) (he:h= .empty->user=[]/\pass=[]/\o=none)
  (gp:AA u.scheme path) (hne:Aj u.scheme=true->path≠[]) (hu0:u.path=[]):
  Ig u (IE user pass++h.text++DM o++Az path)=some ⟨u.scheme,user,pass,h,o,u.opq,u.flat,path,u.query,u.frag⟩:=by
 unfold Ig
 rw [PV (Nx hu hp g) (fun c hc=>by rw [Qe path c hc];exact It _)]
 dsimp only;rw [XW hu hp g po he];show some (SW u ⟨user,pass,h,o⟩ (Az path))=_;unfold SW
 by_cases hpn:path=[]
 ·subst hpn
  have hsp:Aj u.scheme=false:=by
   cases h:Aj u.scheme
   ·rfl
   ·exact absurd rfl (hne h)
  rw [if_neg,hu0];rw [hsp];decide
 ·rw [if_pos,IF gp hpn]
  cases path with
  | nil=>exact absurd rfl hpn
  | cons p r=>show (Aj u.scheme || true)=true;simp
theorem LL {p:UInt8->Bool} {l:List UInt8} (h:∀ c,l.head? =some c->p c=false):l.dropWhile p=l:=by
 cases l with
 | nil=>rfl
 | cons c r=>rw [List.dropWhile_cons,if_neg (by rw [h c rfl];decide)]
theorem AcV {l:List UInt8} (h:∀ c∈l,BP c=false) (hh:l.head? ≠some 32) (hl:l.getLast? ≠some 32):Dy l=l:=by
 have key:∀ n:Fin 256,BP (UInt8.ofNat n.val)=false->Hn (UInt8.ofNat n.val)=true/\(UInt8.ofNat n.val≠32->FG ((UInt8.ofNat n.val).toNat:Int)=false):=by decide+kernel
 have key2:∀ c,BP c=false->Hn c=true/\(c≠32->FG (c.toNat:Int)=false):=by
  intro c hc;have:=key ⟨c.toNat,c.toNat_lt⟩;simp only [UInt8.ofNat_toNat] at this;exact this hc
 have ht:IN l=l:=by
  unfold IN AG BW
  rw [LL (l:=l) (fun c hc=>(key2 c (h c (List.mem_of_head? hc))).2 (fun e=>hh (by rw [hc,e])))]
  rw [LL (l:=l.reverse),List.reverse_reverse];intro c hc;rw [List.head?_reverse] at hc
  exact (key2 c (h c (List.mem_of_getLast? hc))).2 (fun e=>hl (by rw [hc,e]))
 unfold Dy;rw [ht];unfold E5;rw [List.filter_eq_self];intro c hc;exact (key2 c (h c hc)).1
theorem ID {s:List UInt8} (h:CE s=true):∀ c∈s,EB c=true:=by
 intro c hc
 cases s with
 | nil=>cases hc
 | cons x r=>
  unfold CE at h;rw [Bool.and_eq_true] at h
  rcases List.mem_cons.1 hc with rfl | hc
  ·unfold EB;rw [h.1];rfl
  ·exact List.all_eq_true.1 h.2 c hc
theorem Vo:∀ n:Fin 256,EB (UInt8.ofNat n.val)=true->BP (UInt8.ofNat n.val)=false/\UInt8.ofNat n.val≠63/\UInt8.ofNat n.val≠35/\UInt8.ofNat n.val≠58/\UInt8.ofNat n.val≠32:=by decide+kernel
theorem I5 {c:UInt8} (h:EB c=true):BP c=false/\c≠63/\c≠35/\c≠58/\c≠32:=by
 have:=Vo ⟨c.toNat,c.toNat_lt⟩;simp only [UInt8.ofNat_toNat] at this;exact this h
theorem Yn:∀ n:Fin 256,FO 4 (UInt8.ofNat n.val)=false->BP (UInt8.ofNat n.val)=false/\UInt8.ofNat n.val≠63/\UInt8.ofNat n.val≠35/\UInt8.ofNat n.val≠32:=by decide+kernel
theorem Vi {scheme:List UInt8} {path:List (List UInt8)} (h:AA scheme path):∀ c∈Az path,BP c=false/\c≠63/\c≠35/\c≠32:=by
 intro c hc;obtain ⟨p,hp,hc⟩:=List.mem_flatMap.1 hc
 rcases List.mem_cons.1 hc with rfl | hc
 ·decide
 ·have:=Yn ⟨c.toNat,c.toNat_lt⟩;simp only [UInt8.ofNat_toNat] at this;exact this ((h.each p hp).set c hc)
def DH (u:Aq):List UInt8:=FT u++Hd u
theorem Nb {u:Aq} (g:AY u):u.host= .none\/∃ sp,Be sp u.host:=by
 cases g.kind with
 | file s o us ps po pa h=>
  rcases h with h | h
  ·exact .inr ⟨false,by rw [h];exact .empty⟩
  ·exact .inr ⟨true,h.1⟩
 | special s sp o pa h po=>exact .inr ⟨true,h⟩
 | net sp o h po e=>exact .inr ⟨false,h⟩
 | plain sp o h=>exact .inl h
 | flat sp o h=>exact .inl h
theorem UQ {u:Aq} (g:AY u):∀ c∈FT u,BP c=false/\c≠63/\c≠35/\c≠32:=by
 intro c hc;unfold FT at hc;split at hc
 ·split at hc
  ·simp only [List.mem_cons,List.not_mem_nil,or_false] at hc
   rcases hc with rfl | rfl<;>decide
  ·cases hc
 ·rename_i hn
  rcases Nb g with h | ⟨sp,gh⟩
  ·exact absurd h hn
  ·rcases List.mem_append.1 hc with hc | hc
   ·rcases List.mem_append.1 hc with hc | hc
    ·rcases List.mem_append.1 hc with hc | hc
     ·simp only [List.mem_cons,List.not_mem_nil,or_false,or_self] at hc;rw [hc];decide
     ·have:=Qx g.user g.pass c hc;exact ⟨this.1,this.2.1,this.2.2.1,this.2.2.2.2⟩
    ·rcases DX gh with ⟨-,h2⟩ | ⟨-,hb,-⟩
     ·rw [h2] at hc;cases hc
     ·have:=hb c hc;exact ⟨this.1,this.2.1,this.2.2.1,this.2.2.2.2.2⟩
   ·have:=JM u.port c hc;exact ⟨this.1,this.2.1,this.2.2.1,this.2.2.2.2.2⟩
theorem Ael {u:Aq} (g:AY u) (h:u.opq=true):(∀ c∈u.flat,FO 0 c=false/\c≠35/\c≠63)/\u.flat.getLast? ≠some 32:=by
 cases g.kind with
 | file s o=>rw [o] at h;cases h
 | special s sp o=>rw [o] at h;cases h
 | net sp o=>rw [o] at h;cases h
 | plain sp o=>rw [o] at h;cases h
 | flat sp o hh us ps po pa fl hd la=>exact ⟨fl,la⟩
theorem Ik {u:Aq} (g:AY u):(∀ c∈DH u,BP c=false/\c≠63/\c≠35)/\(DH u).getLast? ≠some 32:=by
 have ha:=UQ g
 have ht:(∀ c∈Hd u,BP c=false/\c≠63/\c≠35)/\(Hd u).getLast? ≠some 32:=by
  unfold Hd;split
  ·rename_i ho;obtain ⟨h1,h2⟩:=Ael g ho
   exact ⟨fun c hc=>⟨(h1 c hc).1,(h1 c hc).2.2,(h1 c hc).2.1⟩,h2⟩
  ·have:=Vi g.path
   exact ⟨fun c hc=>⟨(this c hc).1,(this c hc).2.1,(this c hc).2.2.1⟩,fun e=>(this 32 (List.mem_of_getLast? e)).2.2.2 rfl⟩
 refine ⟨fun c hc=> ?_,fun e=> ?_⟩
 ·rcases List.mem_append.1 hc with hc | hc
  ·exact ⟨(ha c hc).1,(ha c hc).2.1,(ha c hc).2.2.1⟩
  ·exact ht.1 c hc
 ·unfold DH at e
  by_cases hn:Hd u=[]
  ·rw [hn,List.append_nil] at e;exact (ha 32 (List.mem_of_getLast? e)).2.2.2 rfl
  ·rw [I3 hn] at e;exact ht.2 e
theorem VV:∀ n:Fin 256,(FO 2 (UInt8.ofNat n.val)=false\/FO 3 (UInt8.ofNat n.val)=false)->BP (UInt8.ofNat n.val)=false/\UInt8.ofNat n.val≠35/\UInt8.ofNat n.val≠32:=by decide+kernel
theorem I4 {u:Aq} (g:AY u):∀ c∈FQ 63 u.query,BP c=false/\c≠35/\c≠32:=by
 intro c hc
 cases hq:u.query with
 | none=>rw [hq] at hc;cases hc
 | some q=>
  rw [hq] at hc
  rcases List.mem_cons.1 (show c∈63 :: q from hc) with rfl | hc
  ·decide
  ·have h1:=g.query q hq c hc;have h2:=VV ⟨c.toNat,c.toNat_lt⟩;simp only [UInt8.ofNat_toNat] at h2;unfold GU at h1;split at h1
   ·exact h2 (.inr h1)
   ·exact h2 (.inl h1)
theorem W7:∀ n:Fin 256,FO 1 (UInt8.ofNat n.val)=false->BP (UInt8.ofNat n.val)=false/\UInt8.ofNat n.val≠32:=by decide+kernel
theorem PX {u:Aq} (g:AY u):∀ c∈FQ 35 u.frag,BP c=false/\c≠32:=by
 intro c hc
 cases hq:u.frag with
 | none=>rw [hq] at hc;cases hc
 | some q=>
  rw [hq] at hc
  rcases List.mem_cons.1 (show c∈35 :: q from hc) with rfl | hc
  ·decide
  ·have h1:=g.frag q hq c hc;have h2:=W7 ⟨c.toNat,c.toNat_lt⟩;simp only [UInt8.ofNat_toNat] at h2;exact h2 h1
theorem J1 (u:Aq):AS u true=u.scheme++[58]++DH u++FQ 63 u.query++FQ 35 u.frag:=by
 unfold AS DH;rw [if_pos rfl,List.append_assoc (u.scheme++[58])]
theorem Jr {u:Aq} (g:AY u):∀ c∈AS u true,BP c=false:=by
 intro c hc;rw [J1] at hc
 rcases List.mem_append.1 hc with hc | hc
 ·rcases List.mem_append.1 hc with hc | hc
  ·rcases List.mem_append.1 hc with hc | hc
   ·rcases List.mem_append.1 hc with hc | hc
    ·exact (I5 (ID g.scheme.1 c hc)).1
    ·rw [List.mem_singleton.1 hc];decide
   ·exact ((Ik g).1 c hc).1
  ·exact (I4 g c hc).1
 ·exact (PX g c hc).1
theorem AdH {u:Aq} (g:AY u):(AS u true).head? ≠some 32/\(AS u true).getLast? ≠some 32:=by
 refine ⟨?_,?_⟩
 ·have hs:=g.scheme.1;rw [J1]
  cases h:u.scheme with
  | nil=>rw [h] at hs;cases hs
  | cons c r=>
   intro e;have e1:c=32:=Option.some.inj e
   have:=I5 (ID hs c (by rw [h];exact List.mem_cons_self ..))
   exact this.2.2.2.2 e1
 ·rw [J1]
  by_cases hf:FQ 35 u.frag=[]
  ·rw [hf,List.append_nil]
   by_cases hq:FQ 63 u.query=[]
   ·rw [hq,List.append_nil]
    by_cases hr:DH u=[]
    ·rw [hr,List.append_nil];simp
    ·rw [I3 hr];exact (Ik g).2
   ·rw [I3 hq]
    exact fun e=>(I4 g 32 (List.mem_of_getLast? e)).2.2 rfl
  ·rw [I3 hf]
   exact fun e=>(PX g 32 (List.mem_of_getLast? e)).2 rfl
theorem NA {u:Aq} (g:AY u):Dy (AS u true)=AS u true:=AcV (Jr g) (AdH g).1 (AdH g).2
def isQ (o:Option (List UInt8)):Bool:=o.isSome
def Ug (o:Option (List UInt8)):List UInt8:=o.getD []
theorem Zc {c:UInt8} {a:List UInt8} (h:∀ x∈a,x≠c) (o:Option (List UInt8)):Af c (a++FQ c o)=(a,Ug o,isQ o):=by
 cases o with
 | none=>show Af c (a++[])=_;rw [List.append_nil,TK h];rfl
 | some q=>exact Oj q h
theorem NT {u:Aq} (g:AY u):B6 (AS u true)=⟨true,u.scheme,DH u,isQ u.query,Ug u.query,isQ u.frag,Ug u.frag⟩:=by
 have hs:=g.scheme;have hsb:=ID hs.1
 have h35:∀ x∈u.scheme++[58]++DH u++FQ 63 u.query,x≠35:=by
  intro c hc
  rcases List.mem_append.1 hc with hc | hc
  ·rcases List.mem_append.1 hc with hc | hc
   ·rcases List.mem_append.1 hc with hc | hc
    ·exact (I5 (hsb c hc)).2.2.1
    ·rw [List.mem_singleton.1 hc];decide
   ·exact ((Ik g).1 c hc).2.2
  ·exact (I4 g c hc).2.1
 have h63:∀ x∈u.scheme++[58]++DH u,x≠63:=by
  intro c hc
  rcases List.mem_append.1 hc with hc | hc
  ·rcases List.mem_append.1 hc with hc | hc
   ·exact (I5 (hsb c hc)).2.1
   ·rw [List.mem_singleton.1 hc];decide
  ·exact ((Ik g).1 c hc).2.1
 unfold B6;rw [J1,Zc h35];dsimp only;rw [Zc h63];dsimp only
 have e:u.scheme++[58]++DH u=u.scheme++58 :: DH u:=by simp
 rw [e,Oj (DH u) (fun x hx=>(I5 (hsb x hx)).2.2.2.1)]
 dsimp only
 rw [if_pos (by rw [hs.1];rfl),hs.2]
theorem Rr {set:Nat} {o:Option (List UInt8)} (h:∀ q,o=some q->∀ c∈q,FO set c=false):Hh (isQ o) (A1 set (Ug o))=o:=by
 cases o with
 | none=>rfl
 | some q=>show some (A1 set q)=some q;rw [Hb (h q rfl)]
theorem Xz {u:Aq} (g:AY u) (r:List UInt8):Ax u.scheme ⟨true,u.scheme,r,isQ u.query,Ug u.query,isQ u.frag,Ug u.frag⟩=⟨u.scheme,[],[],.none,none,false,[],[],u.query,u.frag⟩:=by
 unfold Ax;dsimp only;rw [Rr g.query,Rr g.frag]
theorem UC (sp:Bool) (r:List UInt8):2<=A3 sp (47 :: 47 :: r):=by
 rw [A3,if_pos (It sp),A3,if_pos (It sp)];omega
theorem SG {sp:Bool} {r:List UInt8} (h:∀ c,r.head? =some c->AB sp c=false):A3 sp r=0:=by
 cases r with
 | nil=>rfl
 | cons c r=>rw [A3,if_neg (by rw [h c rfl];decide)]
theorem Vk {sp:Bool} {r:List UInt8} (h:∀ c,r.head? =some c->AB sp c=false):FK sp (47 :: 47 :: r)=r:=by
 unfold FK;rw [A3,if_pos (It sp),A3,if_pos (It sp),SG h];rfl
theorem KS {u:Aq} (h:u.host≠ .none):DH u=47 :: 47 :: (IE u.user u.pass++u.host.text++DM u.port++Hd u):=by
 unfold DH FT;rw [if_neg h];simp
theorem Hy {u:Aq} (h:u.opq=false):Hd u=Az u.path:=by unfold Hd;rw [if_neg (by rw [h];decide)]
theorem S5 {sp:Bool} {h:Bz} (g:Be sp h):h≠ .none:=by cases g<;>(intro e;cases e)
theorem Us {a b:List UInt8} {c:UInt8} (h:(a++b).head? =some c) (ha:a≠[]):c∈a:=by
 cases a with
 | nil=>exact absurd rfl ha
 | cons x r=>rw [<-Option.some.inj h];exact List.mem_cons_self ..
theorem OP {u:Aq} (g:AY u) (base:Aq):G0 base (AS u true)=some u:=by
 unfold G0;rw [NA g,NT g];have hst:=Xz g (DH u);obtain ⟨p,hp⟩:∃ p:B9,p=⟨true,u.scheme,DH u,isQ u.query,Ug u.query,isQ u.frag,Ug u.frag⟩:=⟨_,rfl⟩;rw [<-hp] at hst⊢
 have e1:p.hs=true:=by rw [hp]
 have e2:p.sch=u.scheme:=by rw [hp]
 have e3:p.rest=DH u:=by rw [hp]
 have e4:p.hq=isQ u.query:=by rw [hp]
 have e5:p.hf=isQ u.frag:=by rw [hp]
 unfold IP;rw [e1,e2,e3,Bool.true_and,Bool.not_true,Bool.false_and,Bool.or_false,Bool.true_and]
 cases g.kind with
 | file s o us ps po pa h=>
  have hnn:u.host≠ .none:=by
   rcases h with h | h
   ·rw [h];decide
   ·exact S5 h.1
  have hr:DH u=47 :: 47 :: (u.host.text++Az u.path):=by
   rw [KS hnn,us,ps,po,Hy o];show 47 :: 47 :: ([]++u.host.text++[]++Az u.path)=_;simp
  have hgp:AA Aw u.path:=s ▸ g.path
  have hfin:∀ h,h=u.host->(⟨u.scheme,[],[],h,none,false,[],u.path,u.query,u.frag⟩:Aq)=u:=by
   intro h hh;subst hh;have h1:=g.flat o;cases u;simp only at us ps po o h1⊢;rw [us,ps,po,o,h1]
  rw [if_pos (by rw [s];rfl)]
  rw [s] at hst;unfold LQ;dsimp only;rw [e3,hr,if_pos (UC _ _),hst];show GO ⟨Aw,[],[],.empty,none,false,[],[],u.query,u.frag⟩ (u.host.text++Az u.path)=some u;unfold GO
  have hcut:∀ sq,Be sq u.host->BK true (u.host.text++Az u.path)=(u.host.text,Az u.path):=by
   intro sq gh
   refine PV (fun x hx=> ?_) (fun c hc=>by rw [Qe _ c hc];rfl)
   rcases DX gh with ⟨-,h2⟩ | ⟨-,hb,-⟩
   ·rw [h2] at hx;cases hx
   ·exact (hb x hx).2.2.2.2.1
  rcases h with h | ⟨gh,hl⟩
  ·have hc:=hcut false (by rw [h];exact .empty)
   have ht:u.host.text=[]:=by rw [h];rfl
   rw [hc,ht];dsimp only
   rw [if_neg (by decide),if_pos rfl,IF hgp pa]
   show some (⟨Aw,[],[],.empty,none,false,[],u.path,u.query,u.frag⟩:Aq)=some u;rw [<-s];exact congrArg some (hfin .empty h.symm)
  ·have hc:=hcut true gh;rw [hc];dsimp only
   have hdr:BT u.host.text=false:=by
    cases hd:BT u.host.text
    ·rfl
    ·obtain ⟨a,b,he,ha,hb⟩:=HB hd
     rcases DX gh with ⟨-,h2⟩ | ⟨-,-,hp | ⟨X,hX,-⟩⟩
     ·rw [h2] at he;cases he
     ·have:=hp b (by rw [he];simp)
      rcases hb with hb | hb
      ·exact absurd hb this.1
      ·exact absurd hb this.2.2.2
     ·rw [hX] at he;rw [List.cons.injEq] at he;rw [<-he.1] at ha
      exact absurd ha (by decide)
   have hne:u.host.text≠[]:=by
    rcases DX gh with ⟨h1,-⟩ | ⟨h1,-⟩
    ·rw [h1] at gh;cases gh
    ·exact h1
   rw [if_neg (by rw [hdr];decide),if_neg hne,PK gh]
   dsimp only;rw [if_neg hl,IF hgp pa];show some (⟨Aw,[],[],u.host,none,false,[],u.path,u.query,u.frag⟩:Aq)=some u;rw [<-s];exact congrArg some (hfin _ rfl)
 | special s sp o pa h po=>
  have hr:=KS (u:=u) (S5 h);rw [Hy o] at hr
  have hs:(u.scheme==Aw)=false:=by simpa using s
  rw [if_neg (by rw [hs];decide),hr,if_pos (by
   rw [sp,Bool.true_and,Bool.or_eq_true];right
   unfold Lib.hasPrefix;simp [List.isPrefixOf])]
  have gh:Be (Aj u.scheme) u.host:=by rw [sp];exact h
  have hhd:∀ c,(IE u.user u.pass++u.host.text++DM u.port++Az u.path).head? =some c->AB (Aj u.scheme) c=false:=by
   intro c hc;refine Nx (o:=u.port) g.user g.pass gh c (Us hc ?_);intro e;have e2:=(List.append_eq_nil_iff.1 (List.append_eq_nil_iff.1 e).1).2
   rcases DX gh with ⟨h1,-⟩ | ⟨h1,-⟩
   ·rw [h1] at h;cases h
   ·exact h1 e2
  rw [Vk hhd,hst]
  rw [Rf (u:=⟨u.scheme,[],[],.none,none,false,[],[],u.query,u.frag⟩) g.user g.pass gh po (fun e=>by rw [e] at h;cases h) g.path (fun _=>pa) rfl]
  have h1:=g.flat o;cases u;simp only at o h1⊢;rw [o,h1]
 | net sp o h po e=>
  have hr:=KS (u:=u) (S5 h);rw [Hy o] at hr
  have hs:(u.scheme==Aw)=false:=by
   cases hh:(u.scheme==Aw)
   ·rfl
   ·rw [beq_iff_eq] at hh;rw [hh,CR] at sp;cases sp
  have gh:Be (Aj u.scheme) u.host:=by rw [sp];exact h
  rw [if_neg (by rw [hs];decide),if_neg (by rw [sp,Bool.false_and];decide),if_pos (by rw [sp];rfl)]
  unfold GE;dsimp only
  rw [e3,e2,hr,if_pos (by unfold Lib.hasPrefix;simp [List.isPrefixOf]),hst]
  show Ig _ (IE u.user u.pass++u.host.text++DM u.port++Az u.path)=_
  rw [Rf (u:=⟨u.scheme,[],[],.none,none,false,[],[],u.query,u.frag⟩) g.user g.pass gh po e g.path (fun hh=>by rw [show Aj u.scheme=true from hh] at sp;cases sp) rfl]
  have h1:=g.flat o;cases u;simp only at o h1⊢;rw [o,h1]
 | plain sp o h us ps po pa=>
  have hs:(u.scheme==Aw)=false:=by
   cases hh:(u.scheme==Aw)
   ·rfl
   ·rw [beq_iff_eq] at hh;rw [hh,CR] at sp;cases sp
  have hfin:(⟨u.scheme,[],[],.none,none,false,[],u.path,u.query,u.frag⟩:Aq)=u:=by
   have h1:=g.flat o;cases u;simp only at us ps po o h h1⊢;rw [us,ps,po,o,h,h1]
  rw [if_neg (by rw [hs];decide),if_neg (by rw [sp,Bool.false_and];decide),if_pos (by rw [sp];rfl)]
  unfold GE;dsimp only;rw [e3,e2,hst]
  obtain ⟨p0,r0,hpr⟩:∃ p r,u.path=p :: r:=by
   cases hh:u.path with
   | nil=>exact absurd hh pa
   | cons p r=>exact ⟨p,r,rfl⟩
  have hgp:AA u.scheme (p0 :: r0):=hpr ▸ g.path;have hsl:=hgp.each p0 (List.mem_cons_self ..);rw [sp] at hsl
  by_cases hd:(decide (2<=u.path.length) && YN u.path)=true
  ·have hr:DH u=47 :: 46 :: Az u.path:=by
    unfold DH FT
    rw [if_pos h,if_pos (by rw [o];exact hd),Hy o];rfl
   rw [hr,if_neg (by unfold Lib.hasPrefix;simp [List.isPrefixOf]),if_pos (by unfold Lib.hasPrefix;simp [List.isPrefixOf])]
   have e9:Dl u.scheme [] ((47 :: 46 :: Az u.path:List UInt8).drop 1)=u.path:=by
    show Dl u.scheme [] (46 :: Az u.path)=u.path;rw [hpr];have hsame:Dl u.scheme [] (p0++Az r0)=p0 :: r0:=MG hgp;unfold Dl at hsame⊢;rw [sp] at hsame⊢;have e10:(46 :: Az (p0 :: r0):List UInt8)=[46]++47 :: (p0++Az r0):=rfl
    rw [e10,Mq (It false) _ (by intro c hc;rw [List.mem_singleton.1 hc];rfl)]
    have hne:=Is (AB false) (p0++Az r0);show Dn u.scheme (CC u.scheme [] [46] (Ci (AB false) (p0++Az r0)).isEmpty) (Ci (AB false) (p0++Az r0))=_
    have:CC u.scheme [] [46] (Ci (AB false) (p0++Az r0)).isEmpty=[]:=by
     cases hsp:Ci (AB false) (p0++Az r0) with
     | nil=>exact absurd hsp hne
     | cons a b=>rfl
    rw [this];exact hsame
   show some (Bw _ (Dl u.scheme [] ((47 :: 46 :: Az u.path:List UInt8).drop 1)))=some u;rw [e9];exact congrArg some hfin
  ·have hr:DH u=Az u.path:=by
    unfold DH FT
    rw [if_pos h,if_neg (by rw [o];exact hd),Hy o];rfl
   rw [hr]
   have h2:Lib.hasPrefix (Az u.path) [47,47]=false:=by
    cases hh:Lib.hasPrefix (Az u.path) [47,47]
    ·rfl
    ·exfalso;rw [hpr] at hh hd;have e11:Az (p0 :: r0)=47 :: (p0++Az r0):=rfl;rw [e11] at hh;unfold Lib.hasPrefix at hh;simp [List.isPrefixOf] at hh
     cases p0 with
     | nil=>
      cases r0 with
      | nil=>simp [Az] at hh
      | cons q r1=>exact hd rfl
     | cons c p1=>
      have:=hsl.slash c (List.mem_cons_self ..);simp at hh;rw [<-hh] at this;cases this
   rw [if_neg (by rw [h2];decide),if_pos (by rw [hpr,CY];rfl)]
   have e9:Dl u.scheme [] ((Az u.path).drop 1)=u.path:=by
    rw [hpr];exact MG hgp
   show some (Bw _ (Dl u.scheme [] ((Az u.path).drop 1)))=some u;rw [e9];exact congrArg some hfin
 | flat sp o h us ps po pa fl hd la=>
  have hs:(u.scheme==Aw)=false:=by
   cases hh:(u.scheme==Aw)
   ·rfl
   ·rw [beq_iff_eq] at hh;rw [hh,CR] at sp;cases sp
  rw [if_neg (by rw [hs];decide),if_neg (by rw [sp,Bool.false_and];decide),if_pos (by rw [sp];rfl)]
  have hr:DH u=u.flat:=by
   unfold DH FT Hd
   rw [if_pos h,if_neg (by rw [o];simp),if_pos o];rfl
  unfold GE;dsimp only
  have h1:Lib.hasPrefix u.flat [47]=false:=by
   rw [CY,beq_eq_false_iff_ne];exact hd
  have h2:Lib.hasPrefix u.flat [47,47]=false:=by
   cases hh:Lib.hasPrefix u.flat [47,47]
   ·rfl
   ·exfalso
    cases hf:u.flat with
    | nil=>rw [hf] at hh;cases hh
    | cons c r=>
     rw [hf] at hh hd;unfold Lib.hasPrefix at hh;simp [List.isPrefixOf] at hh;rw [<-hh.1] at hd;exact hd rfl
  have h3:D3 (p.hq || p.hf) u.flat=u.flat:=by
   unfold D3;rw [if_neg];rw [Bool.and_eq_true,not_and];intro _ hh;apply la;unfold Lib.hasSuffix at hh;obtain ⟨t,ht⟩:=List.isSuffixOf_iff_suffix.1 hh;rw [<-ht];simp
  rw [e3,e2,hr,if_neg (by rw [h2];decide),if_neg (by rw [h1];decide),Hb (fun c hc=>(fl c hc).1),h3,hst]
  cases u;simp only at us ps po o h pa⊢;rw [us,ps,po,o,h,pa]
theorem UY {u:Aq} (g:AY u):Dz (AS u true)=some u:=by
 have:=OP g Ea;unfold G0 at this;unfold Dz;rw [NA g,NT g] at this⊢;rw [if_pos rfl];exact this
structure CL where
 kind:Int
 name:ByteArray
 four:Nat
 six:List Nat
def An (h:CL):Array Value:= #[.int .i64 h.kind,.string h.name,.int .u32 (h.four:Int),.int .u16 ((pc h.six 0:Nat):Int),.int .u16 ((pc h.six 1:Nat):Int),.int .u16 ((pc h.six 2:Nat):Int),.int .u16 ((pc h.six 3:Nat):Int),.int .u16 ((pc h.six 4:Nat):Int),.int .u16 ((pc h.six 5:Nat):Int),.int .u16 ((pc h.six 6:Nat):Int),.int .u16 ((pc h.six 7:Nat):Int)]
structure ME (h:CL):Prop where
 four:h.four<4294967296
 six:Tu h.six
 name:h.name.size<=maxLen
def Fa (h:CL):List UInt8:=if h.kind=2\/h.kind=5 then h.name.toList else if h.kind=3 then DD h.four else if h.kind=4 then [91]++Ey h.six++[93] else []
theorem Rt (h:CL):((h.kind==2)=true/\Fa h=h.name.toList)\/((h.kind==2)=false/\(((h.kind==5)=true/\Fa h=h.name.toList)\/((h.kind==5)=false/\
  (((h.kind==3)=true/\Fa h=DD h.four)\/((h.kind==3)=false/\(((h.kind==4)=true/\Fa h=[91]++Ey h.six++[93])\/((h.kind==4)=false/\Fa h=[]))))))):=by
 unfold Fa
 by_cases h2:h.kind=2
 ·exact .inl ⟨by simp [h2],by simp [h2]⟩
 refine .inr ⟨by simp [h2],?_⟩
 by_cases h5:h.kind=5
 ·exact .inl ⟨by simp [h5],by simp [h5]⟩
 refine .inr ⟨by simp [h5],?_⟩
 by_cases h3:h.kind=3
 ·exact .inl ⟨by simp [h3],by simp [h3]⟩
 refine .inr ⟨by simp [h3],?_⟩
 by_cases h4:h.kind=4
 ·exact .inl ⟨by simp [h4],by simp [h4]⟩
 exact .inr ⟨by simp [h4],by simp [h2,h3,h4,h5]⟩
theorem Mu (n:Nat):(DD n).length<=16:=MQ n 4
theorem MW:∀ f l b e i,(Cd f l b e i).length<=5 * f
 | 0,_,_,_,_=>by simp [Cd]
 | f+1,l,b,e,i=>by
  have h1:=MW f l b e e;have h2:=MW f l b e (i+1);have h3:=LZ (pc l i);unfold Cd;split
  ·split
   ·simp;omega
   ·simp only [List.length_append];split<;>simp<;>omega
  ·simp
theorem Jy (l:List Nat):(Ey l).length<=40:=MW 8 l _ _ 0
theorem G4 {t:ByteArray} {l:List UInt8} {n:Nat} (h:t.toList=l) (hl:l.length<=n):t.size<=n:=by rw [<-Aa,h];exact hl
theorem Kz (h:CL) (ok:ME h) (w:World) (ht:Ij w):
  Calls Tryz.prog 44 #[.agg (An h)] w (Cy w (Fa h)):=by
 have hsv:=SX ok.six;replace hsv:=H0 hsv;unfold An;have ht1:=ht.alloc (.cells (An h) 32);have hb1:Below w.heap.size w (w.alloc (.cells (An h) 32)):=(Below.refl _ _).alloc (Nat.le_refl _) _;unfold An at ht1 hb1
 rcases Rt h with ⟨k2,e⟩ | ⟨k2,⟨k5,e⟩ | ⟨k5,⟨k3,e⟩ | ⟨k3,⟨k4,e⟩ | ⟨k4,e⟩⟩⟩⟩
 all_goals replace e:=H0 e
 ·go_enter Tryz.func44,Tryz.ntmps44;go_wp2_with fail;go_ret;exact BL e.out.symm hb1
 ·go_enter Tryz.func44,Tryz.ntmps44;go_wp2_with fail;go_ret;exact BL e.out.symm hb1
 ·go_enter Tryz.func44,Tryz.ntmps44;go_wp2_with fail;refine (QP h.four ok.four _ ht1).mono ?_;rintro e' w2 ⟨t,rfl,ht',hb⟩;go_wp2_with fail;go_ret
  exact BL (ht'.out.trans e.out.symm) (hb1.next hb)
 ·go_enter Tryz.func44,Tryz.ntmps44;go_wp2_with fail;rw [<-hsv.out];refine (TF h.six ok.six _ ht1).mono ?_;rintro e' w2 ⟨t,rfl,ht',hb⟩;have hz:=G4 ht'.out (Jy _);go_wp2_with fail;go_ret
  refine BL ?_ (hb1.next hb)
  rw [e.out,toList_append,toList_append,ht'.out,show (ByteArray.mk #[91]).toList=[91] from toList_mk _,show (ByteArray.mk #[93]).toList=[93] from toList_mk _]
 ·go_enter Tryz.func44,Tryz.ntmps44;go_wp2_with fail;go_ret;exact BL ((toList_mk []).trans e.out.symm) hb1
def PT (sg:Nat) (l:List Nat):Nat:=(l.filter (fun c=>decide (c<sg))).length
theorem L2 (sg:Nat) (l:List Nat):PT sg l<=l.length:=List.length_filter_le _ _
theorem Acv {sg:Nat} {l:List Nat} (h:∀ x∈l,x<sg):PT sg l=l.length:=by
 unfold PT
 rw [List.filter_eq_self.2 (fun x hx=>decide_eq_true (h x hx))]
theorem Rg {sg m:Nat}:∀ {l:List Nat},(∀ x∈l,sg<=x->m<=x)->sg<=m->PT (m+1) l=PT sg l+l.count m
 | [],_,_=>rfl
 | x :: r,h,hm=>by
  have ih:=Rg (l:=r) (fun y hy=>h y (List.mem_cons_of_mem _ hy)) hm
  have hx:=h x (List.mem_cons_self ..);unfold PT at ih⊢;rw [List.filter_cons,List.filter_cons,List.count_cons]
  by_cases h1:x<sg
  ·rw [if_pos (by simp;omega),if_pos (by simpa using h1),List.length_cons,List.length_cons,ih,if_neg (by simp;omega)];omega
  ·by_cases h2:x=m
   ·rw [if_pos (by simp;omega),if_neg (by simpa using h1),List.length_cons,ih,if_pos (by simpa using h2)];omega
   ·have:=hx (by omega)
    rw [if_neg (by simp;omega),if_neg (by simpa using h1),ih,if_neg (by simpa using h2)];omega
structure Vh (D0 N0 k:Nat) (st:CM):Prop where
 d:st.d<=D0+k
 lo:N0<=st.done
 hi:st.done<=N0+k
 bias:st.bias<=756
 out:st.out.length<=256+40 * st.done
theorem AaB {D0 N0 k m c:Nat} {st:CM} (h:Vh D0 N0 k st) (hd:D0+k<=2147483647):Vh D0 N0 (k+1) (AX m st c):=by
 obtain ⟨h1,h2,h3,h4,h5⟩:=h;unfold AX;split
 ·have:=Tb st.d st.bias
  refine ⟨Nat.zero_le _,by show N0<=st.done+1;omega,by show st.done+1<=_;omega,MI _ _ _ (by omega),?_⟩
  show (st.out++RH st.d st.bias).length<=256+40 * (st.done+1);rw [List.length_append];omega
 ·split
  ·exact ⟨by show st.d+1<=_;omega,h2,by show st.done<=_;omega,h4,h5⟩
  ·exact ⟨by omega,h2,by omega,h4,h5⟩
theorem Lx (m:Nat) (l:List Nat) (k:Nat) (st:CM) (h:k<l.length):(l.take (k+1)).foldl (AX m) st=AX m ((l.take k).foldl (AX m) st) l[k]:=by
 rw [List.take_succ_eq_append_getElem h,List.foldl_append];rfl
theorem Se {D0 N0 m:Nat} {l:List Nat} {st:CM} (h:Vh D0 N0 0 st):∀ k,k<=l.length->D0+k<=2147483647->Vh D0 N0 k ((l.take k).foldl (AX m) st)
 | 0,_,_=>by rw [List.take_zero];exact h
 | k+1,hk,hd=>by
  rw [Lx m l k st (by omega)]
  exact AaB (Se h k (by omega) (by omega)) (by omega)
theorem F5 (m:Nat):∀ (l:List Nat) (st:CM),(l.foldl (AX m) st).done=st.done+l.count m
 | [],st=>rfl
 | x :: r,st=>by
  rw [List.foldl_cons,F5 m r,List.count_cons];unfold AX
  by_cases h:x=m
  ·rw [if_pos h,if_pos (by simpa using h)];show st.done+1+_=_;omega
  ·rw [if_neg h,if_neg (show ¬ (x==m)=true by simpa using h)]
   split<;>rfl
theorem Sf (m:Nat):∀ (l:List Nat) (st:CM),(l.foldl (AX m) st).d<=st.d+l.length/\(m∈l->(l.foldl (AX m) st).d<=l.length)
 | [],st=>⟨Nat.le_refl _,fun h=>(nomatch h)⟩
 | x :: r,st=>by
  obtain ⟨h1,h2⟩:=Sf m r (AX m st x);rw [List.foldl_cons,List.length_cons]
  have hs:(AX m st x).d<=st.d+1:=by
   unfold AX;split
   ·exact Nat.zero_le _
   ·split
    ·exact Nat.le_refl _
    ·omega
  refine ⟨by omega,fun hm=> ?_⟩
  rcases List.mem_cons.1 hm with he | hm
  ·have:(AX m st x).d=0:=by unfold AX;rw [if_pos he.symm]
   omega
  ·have:=h2 hm;omega
theorem Ev (l:List Nat):(BS l).length=PT 128 l:=by unfold BS PT;rw [List.length_map];rfl
theorem UT (l:List Nat) (k:Nat) (h:k<l.length):BS (l.take (k+1))=BS (l.take k)++if l[k]<128 then [UInt8.ofNat l[k]] else []:=by
 rw [List.take_succ_eq_append_getElem h];unfold BS;rw [List.filter_append,List.map_append];congr 1
 by_cases hc:l[k]<128
 ·rw [if_pos hc,List.filter_cons,if_pos (by simpa [AaV] using hc)];rfl
 ·rw [if_neg hc,List.filter_cons,if_neg (by simpa [AaV] using hc)];rfl
theorem TE {l:List Nat} {k:Nat} (h:k<l.length) (h1:(l.take k).all Bd=true) (h2:Bd l[k]=true):(l.take (k+1)).all Bd=true:=by
 rw [List.take_succ_eq_append_getElem h,List.all_append,h1,Bool.true_and,List.all_cons,h2];rfl
theorem X3 {l:List Nat} {k:Nat} (h:k<l.length) (h2:Bd l[k]=false):l.all Bd=false:=by
 rw [List.all_eq_false]
 exact ⟨l[k],List.getElem_mem h,by rw [h2];decide⟩
theorem Qu {c:Nat} (h:Bd c=true):c<=1114111:=by
 unfold Bd at h;rw [Bool.and_eq_true,decide_eq_true_iff] at h;exact h.1
def KY (l:List Nat) (sg m:Nat) (st:CM):CM:=⟨st.d+(m - sg) * (st.done+1),st.done,st.bias,st.first,st.out⟩
theorem W5 {l:List Nat} {f sg m:Nat} {st:CM} (h:st.done<l.length) (hm:Cs l sg=(m:Int)):
  Fh l (f+1) sg st=Fh l f (m+1) ⟨(l.foldl (AX m) (KY l sg m st)).d+1,(l.foldl (AX m) (KY l sg m st)).done,(l.foldl (AX m) (KY l sg m st)).bias,(l.foldl (AX m) (KY l sg m st)).first,(l.foldl (AX m) (KY l sg m st)).out⟩:=by
 rw [Fh,if_pos h,hm];rfl
theorem Abj {l:List Nat} {f sg:Nat} {st:CM} (h:¬ st.done<l.length):Fh l f sg st=st:=by
 cases f with
 | zero=>rfl
 | succ f=>rw [Fh,if_neg h]
theorem AbB {l:List Nat} {sg:Nat} (h:PT sg l<l.length):∃ m∈l,Cs l sg=(m:Int)/\sg<=m/\∀ x∈l,sg<=x->m<=x:=by
 by_cases hx:∃ x∈l,sg<=x
 ·obtain ⟨x,hx,hs⟩:=hx;exact RE hx hs
 ·exfalso
  have:=Acv (sg:=sg) (l:=l) (fun x hx'=>by
   by_cases h1:x<sg
   ·exact h1
   ·exact absurd ⟨x,hx',by omega⟩ hx)
  omega
end Go.Proofs.YtonomfeipkdmhaaGreatDoor
