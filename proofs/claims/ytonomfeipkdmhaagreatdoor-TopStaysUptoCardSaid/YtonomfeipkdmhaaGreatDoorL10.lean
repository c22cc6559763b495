/- Part 10: lemmas. -/
import Derived.Test.YtonomfeipkdmhaaGreatDoorL09
import Derived.Deep.CutBlock
import Derived.Deep.RegionWith
import Derived.Laws.ResultCell
import Derived.Laws.Rows
set_option linter.unusedVariables false
set_option linter.unusedSimpArgs false
set_option maxRecDepth 100000
set_option maxHeartbeats 16000000
namespace Go.Proofs.YtonomfeipkdmhaaGreatDoor
open Go.RowKit
def AjV (s:ByteArray) (w:World) (l:List UInt8) (e:Ending) (w':World):Prop:=∃ t:ByteArray,e= .returned (.string t)/\Hid (t.toList=l)/\t.size<=s.size/\w=w'
theorem GV (s:ByteArray) (a b:Nat):(s.extract a b).size<=s.size:=Qh
theorem Fb {s:ByteArray} (k:Nat):(s.extract k s.size).toList=s.toList.drop k:=by
 rw [toList_extract,<-Aa,List.take_length]
theorem FR (s:ByteArray) (w:World) (hs:s.size<=1099511627776):
  Calls Tryz.prog 176 #[.string s] w (AjV s w (Bk s.toList)):=by
 go_enter Tryz.func176,Tryz.ntmps176;go_wp2_with fail
 go_loop [3] (fun iv=>∃ k:Nat,iv= .int .i64 k/\k<=s.size/\Hid (Bk (s.toList.drop k)=Bk s.toList)) (fun iv=>s.size - (intOf iv).toNat)
 case atStart=>exact ⟨0,rfl,Nat.zero_le _,H0 QP⟩
 case round=>
  obtain ⟨k,rfl,hk,hg⟩:=hrel
  by_cases hlt:k<s.size
  ·have hdr:=As s k hlt;have hltI:(k:Int)<(s.size:Int):=Qa;cases hb:Dg (s[k].toNat:Int)
   ·have hfin:Hid ((s.extract k s.size).toList=Bk s.toList):=H0 (by
     rw [Fb,<-hg.out,hdr];unfold Bk
     rw [List.dropWhile_cons,if_neg (by show ¬ Dg _=true;rw [hb];decide)])
    clear hg hdr;have hkI:(k:Int)<=(s.size:Int):=Qa;go_wp2_with (go_at_call 110;refine (Dc _ _).mono ?_;rintro e w' ⟨rfl,rfl⟩);go_ret;exact ⟨_,rfl,hfin,GV _ _ _,rfl⟩
   ·have hnew:Hid (Bk (s.toList.drop (k+1))=Bk s.toList):=H0 (by
     rw [<-hg.out,hdr];unfold Bk
     rw [List.dropWhile_cons (x:=s[k]),if_pos (show isB s[k]=true from hb)])
    clear hg hdr;go_wp2_with (go_at_call 110;refine (Dc _ _).mono ?_;rintro e w' ⟨rfl,rfl⟩);go_round
    case rel=>exact ⟨k+1,Ql,Qa,hnew⟩
    case measure=>simp [intOf];omega
  ·have hge:(s.size:Int)<=(k:Int):=Qa;obtain rfl:k=s.size:=Qa
   have hfin:Hid (ByteArray.empty.toList=Bk s.toList):=H0 (by rw [<-hg.out,AL s s.size (Nat.le_refl _)];exact toList_mk [])
   clear hg;go_wp2_with fail;go_ret;exact ⟨_,rfl,hfin,Nat.zero_le _,rfl⟩
theorem Ah9 {s:ByteArray} {c:UInt8} {r:List UInt8} (h:s.toList=c :: r):∃ h0:0<s.size,s[0]=c:=by
 have h0:0<s.size:=by rw [<-Aa,h];simp
 refine ⟨h0,?_⟩;have:=As s 0 h0;rw [List.drop_zero,h] at this;exact (List.cons.inj this).1.symm
theorem Rg {s:ByteArray} {c:UInt8} {r:List UInt8} (h:s.toList=c :: r):s.toList.isEmpty=false:=by rw [h];rfl
theorem RK {s:ByteArray} (h:s.toList=[]):s.toList.isEmpty=true:=by rw [h];rfl
theorem Hp {c d:UInt8} (h:c=d):((c.toNat:Int)==(d.toNat:Int))=true/\((c.toNat:Int) != (d.toNat:Int))=false:=by subst h;simp
theorem K1 {c d:UInt8} (h:c≠d):((c.toNat:Int)==(d.toNat:Int))=false/\((c.toNat:Int) != (d.toNat:Int))=true:=
 O6 (fun h2=>h (UInt8.toNat_inj.1 Qa))
theorem SB (s:ByteArray) (w:World) (hs:s.size<=4294967000) (hm:ML w):
  Calls Tryz.prog 178 #[.string s] w fun e w'=>∃ t:ByteArray,e= .returned (.string t)/\Hid (t.toList=Ej s.toList)/\t.size<=s.size/\Below w.heap.size w w':=by
 match hL:s.toList with
 | []=>
  have hem:=RK hL;have hy:Hid (s.toList=Ej []):=H0 hL;replace hL:=H0 hL;go_enter Tryz.func178,Tryz.ntmps178;go_wp2_with fail;go_ret;exact ⟨_,rfl,hy,Nat.le_refl _,Below.refl _ _⟩
 | c :: r=>
  have hem:=Rg hL;obtain ⟨hp,hc⟩:=Ah9 hL;have hpI:(1:Int)<=(s.size:Int):=Qa;have hpI2:(0:Int)<(s.size:Int):=Qa
  by_cases hq:c=34\/c=39
  ·obtain ⟨x,hx⟩:=N2 (s.extract 1 s.size);obtain ⟨q,hqq⟩:=N2 (s.extract 0 1)
   have hxl:x.toList=r:=by rw [<-hx,Fb,hL];rfl
   have hxz:x.size<=s.size:=by rw [<-hx];exact GV _ _ _
   have hqe:q=⟨#[c]⟩:=by apply Bb;rw [<-hqq,toList_extract,hL];exact (toList_mk [c]).symm
   have hct:=H0 (fun w hm=>FF x c w hm Qa)
   have hy:Hid (Ej (c :: r)=(Ak c x.toList).1):=H0 (by rw [hxl];exact if_pos hq)
   have hcl:=Cr c x.toList;rw [Aa] at hcl;rw [<-hqe] at hct
   have hq2:(((c.toNat:Int)==34)=true/\((c.toNat:Int) != 34)=false)\/((((c.toNat:Int)==34)=false/\((c.toNat:Int) != 34)=true)/\(((c.toNat:Int)==39)=true/\((c.toNat:Int) != 39)=false)):=by
    rcases hq with h | h
    ·exact .inl (Hp (d:=34) h)
    ·exact .inr ⟨K1 (d:=34) Aj2,Hp (d:=39) h⟩
   replace hL:=H0 hL;replace hxl:=H0 hxl;replace hqe:=H0 hqe;replace hq:=H0 hq
   rcases hq2 with hq2 | ⟨hq2,hq3⟩
   all_goals
    go_enter Tryz.func178,Tryz.ntmps178;go_wp2_with fail;refine wp_region_noPanic ?_
    refine wp_region_held_drew (S:=fun w'=>Below w.heap.size w w') Qb ((Below.refl _ _).drew) (fun hHeld=> ?_)
    refine wpAnyH_take (i:=0) (v:= ?_) rfl Qb Qb Qb (fun _ _ _ h=>h) (Or.inl ⟨Qt,?_⟩) hHeld ?_
    rotate_left
    ·intro w hSw;(try dsimp only at hSw);go_simp;try with_reducible rfl
    try simp only [P3]
    refine wpAnyH_take (i:=1) (v:= ?_) rfl Qb Qb Qb (fun _ _ _ h=>h) (Or.inl ⟨Qt,?_⟩) hHeld ?_
    rotate_left
    ·intro w hSw;(try dsimp only at hSw);go_simp;try with_reducible rfl
    try simp only [P3]
    refine wpAnyH_take (i:=2) (v:= ?_) rfl Qb Qb Qb (fun _ _ _ h=>h) (Or.inl ⟨Qt,?_⟩) hHeld ?_
    rotate_left
    ·intro w hSw;(try dsimp only at hSw);go_simp;try with_reducible rfl
    try simp only [P3]
    refine wpAnyH_take (i:=3) (v:= ?_) rfl Qb Qb Qb (fun _ _ _ h=>h) (Or.inl ⟨Qt,?_⟩) hHeld ?_
    rotate_left
    ·intro w hSw;(try dsimp only at hSw);go_simp;try with_reducible rfl
    try simp only [P3]
    refine wpAnyH_ready (rs:=[4]) Qb Qf ?_
    refine AllReadyH.cons rfl (fun K hK=> ?_) AllReadyH.nil
    go_simp
    refine (hct.out _ (hm.next hHeld)).mono ?_
    rintro e w3 ⟨ta,tb,n,rfl,h1,h2,rfl⟩;have hB:=below_drewN (Below.refl w.heap.size w) (1+n);have htz:ta.size<=s.size:=Akr;clear hHeld;go_wp2_with fail
    refine hK.out _ _ (hB) (fun hHeld=> ?_)
    clear hK K
    try simp only [P3]
    refine wpAnyH_take (i:=5) (v:= ?_) rfl Qb Qb Qb (fun _ _ _ h=>h) (Or.inl ⟨Qt,?_⟩) hHeld ?_
    rotate_left
    ·intro w hSw;(try dsimp only at hSw);go_simp;try with_reducible rfl
    try simp only [P3]
    refine wpAnyH_take (i:=6) (v:= ?_) rfl Qb Qb Qb (fun _ _ _ h=>h) (Or.inl ⟨Qt,?_⟩) hHeld ?_
    rotate_left
    ·intro w hSw;(try dsimp only at hSw);go_simp;try with_reducible rfl
    try simp only [P3]
    refine wpAnyH_take (i:=7) (v:= ?_) rfl Qb Qb Qb (fun _ _ _ h=>h) (Or.inl ⟨Qt,?_⟩) hHeld ?_
    rotate_left
    ·intro w hSw;(try dsimp only at hSw);go_simp;try with_reducible rfl
    try simp only [P3]
    refine wpAnyH_take (i:=8) (v:= ?_) rfl Qb Qb Qb (fun _ _ _ h=>h) (Or.inl ⟨Qt,?_⟩) hHeld ?_
    rotate_left
    ·intro w hSw;(try dsimp only at hSw);go_simp;try with_reducible rfl
    try simp only [P3]
    refine wpAnyH_take (i:=9) (v:= ?_) rfl Qb Qb Qb (fun _ _ _ h=>h) (Or.inl ⟨Qt,?_⟩) hHeld ?_
    rotate_left
    ·intro w hSw;(try dsimp only at hSw);go_simp;try with_reducible rfl
    try simp only [P3]
    refine wpAnyH_take (i:=10) (v:= ?_) rfl Qb Qb Qb (fun _ _ _ h=>h) (Or.inl ⟨Qt,?_⟩) hHeld ?_
    rotate_left
    ·intro w hSw;(try dsimp only at hSw);go_simp;try with_reducible rfl
    try simp only [P3]
    refine wpAnyH_take (i:=11) (v:= ?_) rfl Qb Qb Qb (fun _ _ _ h=>h) (Or.inl ⟨Qt,?_⟩) hHeld ?_
    rotate_left
    ·intro w hSw;(try dsimp only at hSw);go_simp;try with_reducible rfl
    try simp only [P3]
    refine wpAnyH_done Qb ?_ _;refine NoPanic.normal ?_;go_wp2_with fail;go_ret
    exact ⟨ta,rfl,H0 (by rw [h1.out,hy.out]),htz,hB⟩
  ·have h1:=K1 (d:=34) (fun h=>hq (.inl h))
   have h2:=K1 (d:=39) (fun h=>hq (.inr h))
   replace h1:((c.toNat:Int)==34)=false/\((c.toNat:Int) != 34)=true:=h1
   replace h2:((c.toNat:Int)==39)=false/\((c.toNat:Int) != 39)=true:=h2
   obtain ⟨h1a,h1b⟩:=h1;obtain ⟨h2a,h2b⟩:=h2
   have hy:Hid (s.toList=Ej (c :: r)):=H0 (by rw [hL];exact (if_neg hq).symm)
   replace hL:=H0 hL;replace hq:=H0 hq;go_enter Tryz.func178,Tryz.ntmps178;go_wp2_with fail;go_ret;exact ⟨_,rfl,hy,Nat.le_refl _,Below.refl _ _⟩
theorem Abq (c:UInt8) (l:List UInt8):Lib.hasPrefix l [c]=match l with | x :: _=>(c==x) | []=>false:=by
 unfold Lib.hasPrefix
 match l with
 | []=>rfl
 | x :: r=>simp [List.isPrefixOf]
theorem UG (s:ByteArray) (w:World) (hs:s.size<=1000000000):
  Calls Tryz.prog 179 #[.string s] w fun e w'=>∃ t:ByteArray,e= .returned (.string t)/\Hid (t.toList=BR s.toList)/\t.size<=s.size/\Below w.heap.size w w':=by
 have hlen:=Aa s
 by_cases h3:s.size<3
 ·have hy:Hid (s.toList=BR s.toList):=H0 (by unfold BR;rw [if_pos (.inl Qa)])
  have h3I:(s.size:Int)<3:=Qa;replace hlen:=H0 hlen;go_enter Tryz.func179,Tryz.ntmps179;go_wp2_with fail;go_ret;exact ⟨_,rfl,hy,Nat.le_refl _,Below.refl _ _⟩
 have h3I:(3:Int)<=(s.size:Int):=Qa;obtain ⟨q,hq⟩:=N2 (s.extract 0 3);obtain ⟨x,hx⟩:=N2 (s.extract 3 s.size)
 have hql:Hid (q.toList=s.toList.take 3):=H0 (by rw [<-hq,toList_extract];rfl)
 have hxl:Hid (x.toList=s.toList.drop 3):=H0 (by rw [<-hx,Fb])
 have hxz:x.size<=s.size:=by rw [<-hx];exact GV _ _ _
 have hqz:q.size<=s.size:=by rw [<-hq];exact GV _ _ _
 have hlow:=H0 (fun w=>EM q w Qa)
 have hbx:=H0 (fun w=>FR x w Qa)
 replace hlen:=H0 hlen;go_enter Tryz.func179,Tryz.ntmps179;go_wp2_with fail;refine (hlow.out _).mono ?_;rintro e w1 ⟨lo,rfl,hlo,hB⟩
 by_cases hu:lo.toList=[117,114,108]
 ·have huI:(lo.toList==[117,114,108])=true:=by rw [hu];rfl
  have hub:(lo.toList != [117,114,108])=false:=by rw [hu];rfl
  have hun:Hid (AJ (s.toList.take 3)=[117,114,108]):=H0 (by rw [<-hql.out,<-hlo.out];exact hu)
  replace hu:=H0 hu;go_wp2_with fail;refine (hbx.out _).mono ?_;rintro e wx ⟨y,rfl,hy,hyz,rfl⟩
  have hcp:=H0 (fun w=>Tryz.strings_CutPrefix y ⟨#[61]⟩ w)
  have hyd:y.data.toList=y.toList:=(ByteArray.toList_eq ..).symm
  match hL:y.toList with
  | []=>
   have hpf:Lib.hasPrefix y.data.toList [61]=false:=by rw [hyd,hL];rfl
   have hfin:Hid (s.toList=BR s.toList):=H0 (by
    unfold BR
    rw [if_neg QY,<-hxl.out,<-hy.out,hL])
   have hcp2:Hid (∀ w,Calls Tryz.prog 218 #[.string y,.string ⟨#[61]⟩] w fun e w'=>∃ t:ByteArray,e= .returned (.tuple #[.string t,.bool false])/\w'=w):=H0 (fun w=>by have:=hcp.out w;rw [hpf] at this;exact this.mono fun e w' ⟨h1,h2⟩=>⟨_,h1,h2⟩)
   clear hcp;replace hyd:=H0 hyd;replace hL:=H0 hL;replace hpf:=H0 hpf;go_wp2_with fail;refine (hcp2.out _).mono ?_;rintro e wx ⟨t,rfl,rfl⟩;go_wp2_with fail;go_ret;exact ⟨_,rfl,hfin,Nat.le_refl _,hB⟩
  | c :: r=>
   have hpf:Lib.hasPrefix y.data.toList [61]=(61==c):=by rw [hyd,hL];exact Abq 61 (c :: r)
   by_cases hc:c=61
   ·have hpt:Lib.hasPrefix y.data.toList [61]=true:=by rw [hpf,hc];rfl
    have htl:(⟨(Lib.trimPrefix y.data.toList [61]).toArray⟩:ByteArray).toList=r:=by
     rw [toList_mk];unfold Lib.trimPrefix;rw [if_pos hpt,hyd,hL];rfl
    obtain ⟨t,ht⟩:∃ t:ByteArray,(⟨(Lib.trimPrefix y.data.toList [61]).toArray⟩:ByteArray)=t:=⟨_,rfl⟩
    have hcp2:Hid (∀ w,Calls Tryz.prog 218 #[.string y,.string ⟨#[61]⟩] w fun e w'=>e= .returned (.tuple #[.string t,.bool true])/\w'=w):=H0 (fun w=>by have:=hcp.out w;rw [hpt,show (⟨(Lib.trimPrefix y.data.toList (ByteArray.data ⟨#[61]⟩).toList).toArray⟩:ByteArray)=t from ht] at this;exact this)
    rw [ht] at htl
    have htz:t.size<=y.size:=by rw [<-Aa,htl,<-Aa,hL];simp
    have hbt:=H0 (fun w=>FR t w Qa)
    have hfin:Hid (Bk t.toList=BR s.toList):=H0 (by
     unfold BR;rw [if_neg QY,<-hxl.out,<-hy.out,hL,htl]
     exact (if_pos hc).symm)
    clear hcp;replace hyd:=H0 hyd;replace hL:=H0 hL;replace hpf:=H0 hpf;replace hpt:=H0 hpt;replace htl:=H0 htl;replace ht:=H0 ht;go_wp2_with fail;refine (hcp2.out _).mono ?_;rintro e wx ⟨rfl,rfl⟩;go_wp2_with fail;refine (hbt.out _).mono ?_;rintro e wx ⟨z,rfl,hz,hzz,rfl⟩;go_wp2_with fail;go_ret
    exact ⟨z,rfl,H0 (by rw [hz.out,hfin.out]),Qa,hB⟩
   ·have hpt:Lib.hasPrefix y.data.toList [61]=false:=by rw [hpf];simpa using Ne.symm hc
    have hfin:Hid (s.toList=BR s.toList):=H0 (by
     unfold BR;rw [if_neg QY,<-hxl.out,<-hy.out,hL]
     exact (if_neg hc).symm)
    have hcp2:Hid (∀ w,Calls Tryz.prog 218 #[.string y,.string ⟨#[61]⟩] w fun e w'=>∃ t:ByteArray,e= .returned (.tuple #[.string t,.bool false])/\w'=w):=H0 (fun w=>by have:=hcp.out w;rw [hpt] at this;exact this.mono fun e w' ⟨h1,h2⟩=>⟨_,h1,h2⟩)
    clear hcp;replace hyd:=H0 hyd;replace hL:=H0 hL;replace hpf:=H0 hpf;replace hpt:=H0 hpt;go_wp2_with fail;refine (hcp2.out _).mono ?_;rintro e wx ⟨t,rfl,rfl⟩;go_wp2_with fail;go_ret;exact ⟨_,rfl,hfin,Nat.le_refl _,hB⟩
 ·have huI:(lo.toList==[117,114,108])=false:=by simpa using hu
  have hub:(lo.toList != [117,114,108])=true:=by simpa using hu
  have hfin:Hid (s.toList=BR s.toList):=H0 (by
   unfold BR
   rw [if_pos (.inr (by rw [<-hql.out,<-hlo.out];exact hu))])
  replace hu:=H0 hu;go_wp2_with fail;go_ret;exact ⟨_,rfl,hfin,Nat.le_refl _,hB⟩
def AgF (w:World) (o:Option (List UInt8 × Bool × List UInt8)) (e:Ending) (w':World):Prop:=
 ∃ (d u:ByteArray) (h b:Bool),e= .returned (.tuple #[.agg #[.string d,.bool h,.string u],.bool b])/\Below w.heap.size w w'/\d.size<=1000000000/\u.size<=1000000000/\
  Hid ((o=none/\b=false/\d.toList=[]/\h=false/\u.toList=[])\/(o=some (d.toList,h,u.toList)/\b=true))
theorem F5 {p:UInt8->Bool} (l:List UInt8):l.take (l.takeWhile p).length=l.takeWhile p/\l.drop (l.takeWhile p).length=l.dropWhile p:=by
 induction l with
 | nil=>exact ⟨rfl,rfl⟩
 | cons c r ih=>
  cases h:p c
  ·rw [List.takeWhile_cons,List.dropWhile_cons,h];exact ⟨rfl,rfl⟩
  ·rw [List.takeWhile_cons,List.dropWhile_cons,h]
   exact ⟨by show c :: List.take _ r=c :: _;rw [ih.1],by show List.drop _ r=List.dropWhile p r;rw [ih.2]⟩
theorem Tu {p:UInt8->Bool} (l:List UInt8):(l.takeWhile p).length<=l.length:=by
 have:=congrArg List.length (List.takeWhile_append_dropWhile (p:=p) (l:=l));rw [List.length_append] at this;omega
theorem AgB (w:World) (t:TypeId) (a b c v:Value):(w.alloc (.cells #[a,b,c] t)).setCell ⟨w.heap.size,0,none⟩ v=w.alloc (.cells #[v,b,c] t):=by
 simp only [World.setCell,World.alloc];congr 1;apply Array.ext_getElem?;intro k;simp only [Array.getElem?_modify,Array.getElem?_push]
 by_cases hk:w.heap.size=k
 ·subst hk;simp
 ·simp [hk,Ne.symm hk]
theorem Ko (w:World) (A B:Obj):((w.alloc A).alloc B).heap[w.heap.size]? =some A:=by
 rw [heap_alloc_old _ _ Qf,heap_alloc_new]
theorem HB (w:World) (A B:Obj):Below w.heap.size w ((w.alloc A).alloc B):=((Below.refl _ _).alloc (Nat.le_refl _) _).alloc Qf _
theorem HQ {R:Ending->World->Prop} {a:Act} {w:World} {g:Nat} {d u:ByteArray} {h b:Bool} (h2:a.tmps.getD 2 undef= .pointer (some ⟨g,0,none⟩)) (h3:a.tmps.getD 3 undef= .bool b) (hd:a.defers=[])
  (hg:w.heap[g]? =some (.cells #[.string d,.bool h,.string u] 98)) (hR:R (.returned (.tuple #[.agg #[.string d,.bool h,.string u],.bool b])) w):
  bodyPost Tryz.prog Tryz.f105 R .ret a w:=by
 refine bodyPost_ret (v:= .tuple #[.agg #[.string d,.bool h,.string u],.bool b]) ?_ hd hR;rw [results_cell_tmp rfl,h2,h3];simp [asAddr,Result.andThen,run_loadVar_row (P:=Tryz.prog) w g _ 98 _ _ _ hg Tryz.underlying98 rfl Qb]
theorem AaB (s:ByteArray) (w:World) (hs:s.size<=1000000000) (hm:ML w):
  Calls Tryz.prog 105 #[.string s] w (AgF w (Bi s.toList)):=by
 have hbl:=H0 (fun w=>FR s w Qa)
 have e00:(ByteArray.mk #[]).toList=[]:=toList_mk [];go_enter Tryz.func105,Tryz.ntmps105;go_wp2_with fail;refine (hbl.out _).mono ?_;rintro e wx ⟨x,rfl,hx,hxz,rfl⟩;obtain ⟨d,hd⟩:=N2 (x.toList.takeWhile Jr);obtain ⟨n,hn⟩:=N2 (d.length);obtain ⟨R,hR⟩:=N2 (x.toList.dropWhile Jr);have hxlen:=Aa x
 have hnx:n<=x.size:=by rw [<-hn,<-hd,<-hxlen];exact Tu _
 have hdt:x.toList.take n=d:=by rw [<-hn,<-hd];exact (F5 _).1
 have hdR:x.toList.drop n=R:=by rw [<-hn,<-hd,<-hR];exact (F5 _).2
 have hP:Hid (Bi s.toList=if d=[]/\x.toList.head? ≠some 46 then none else Iw d (R.dropWhile KB)):=H0 (by
  unfold Bi O4;rw [<-hx.out,hd,hR])
 have hnI:(n:Int)<=(x.size:Int):=Qa;have hd2:=H0 hd;replace hxlen:=H0 hxlen;clear hd
 go_upto_block 0 with (fail)
 go_cut [4] (fun s4 wx=>s4= .int .i64 (n:Int)/\wx=w.alloc (.cells #[.string ⟨#[]⟩,.bool false,.string ⟨#[]⟩] 98))
 case first=>as_aux_lemma=>
  go_wp2_with fail
  go_loop [4] (fun iv=>∃ k:Nat,iv= .int .i64 k/\k<=x.size/\Hid (n=k+((x.toList.drop k).takeWhile Jr).length)) (fun iv=>x.size - (intOf iv).toNat)
  case atStart=>exact ⟨0,rfl,Nat.zero_le _,H0 (by rw [List.drop_zero,hd2.out,hn,Nat.zero_add])⟩
  case round=>
   obtain ⟨k,rfl,hk,hg⟩:=hrel
   by_cases hlt:k<x.size
   ·have hdr:=As x k hlt;have hltI:(k:Int)<(x.size:Int):=Qa;rw [hdr,List.takeWhile_cons] at hg;clear hdr
    by_cases hdg:Ag (x[k].toNat:Int) 10<0
    ·have hdf:=(IF _).1 hdg;rw [hdf] at hg;have hfin:Hid (n=k):=H0 hg.out;clear hg;replace hdf:=H0 hdf;go_wp2_with (go_at_call 155;refine (A8 _ _ _ (AN _) (AX _)).mono ?_;rintro e w' ⟨rfl,rfl⟩);go_meet
     exact ⟨by rw [hfin.out],rfl⟩
    ·have hdt2:Jr x[k]=true:=by
      cases h:Jr x[k]
      ·exact absurd ((IF _).2 h) hdg
      ·rfl
     rw [hdt2] at hg;have hnew:Hid (n=(k+1)+((x.toList.drop (k+1)).takeWhile Jr).length):=H0 QL;clear hg;replace hdt2:=H0 hdt2;have hd0:0<=Ag (x[k].toNat:Int) 10:=Qa;go_wp2_with (go_at_call 155;refine (A8 _ _ _ (AN _) (AX _)).mono ?_;rintro e w' ⟨rfl,rfl⟩);go_round
     case rel=>exact ⟨k+1,Ql,Qa,hnew⟩
     case measure=>simp [intOf];omega
   ·have hge:(x.size:Int)<=(k:Int):=Qa
    have hfin:Hid (n=k):=H0 (by have:=hg.out;rw [AL x k Qa] at this;exact this)
    clear hg;go_wp2_with fail;go_meet
    exact ⟨by rw [hfin.out],rfl⟩
 case rest=>
  obtain ⟨rfl,rfl⟩:=hcut
  have hhp:=H0 (fun w=>Tryz.strings_HasPrefix x ⟨#[46]⟩ w)
  have hpe:Lib.hasPrefix x.data.toList [46]=decide (x.toList.head? =some 46):=by
   rw [<-ByteArray.toList_eq,Abq]
   cases x.toList with
   | nil=>rfl
   | cons c r=>
    show (46==c)=decide ((some c:Option UInt8)=some 46)
    by_cases h:c=46
    ·subst h;rfl
    ·rw [decide_eq_false (fun h2=>h (Option.some.inj h2))];simpa using Ne.symm h
  by_cases hN:d=[]/\x.toList.head? ≠some 46
  ·have hno:Hid (Bi s.toList=none):=H0 (by rw [hP.out,if_pos hN])
   have hn0:n=0:=by rw [<-hn,hN.1];rfl
   rw [decide_eq_false hN.2] at hpe
   have hhp2:Hid (∀ w,Calls Tryz.prog 111 #[.string x,.string ⟨#[46]⟩] w fun e w'=>e= .returned (.bool false)/\w'=w):=H0 (fun w=>by have:=hhp.out w;rw [hpe] at this;exact this)
   clear hhp hpe hN hP;subst hn0;replace hn:=H0 hn;replace hdt:=H0 hdt;replace hdR:=H0 hdR;go_wp2_with (go_at_call 111;refine (hhp2.out _).mono ?_;rintro e w' ⟨rfl,rfl⟩);refine HQ rfl rfl rfl (heap_alloc_new _ _) ⟨⟨#[]⟩,⟨#[]⟩,false,false,rfl,(Below.refl _ _).alloc (Nat.le_refl _) _,Nat.zero_le _,Nat.zero_le _,H0 (.inl ⟨hno.out,rfl,e00,rfl,e00⟩)⟩
  have hyes:Hid (Bi s.toList=Iw d (R.dropWhile KB)):=H0 (by rw [hP.out,if_neg hN])
  have hway:((n:Int)==0)=false\/(((n:Int)==0)=true/\Hid (∀ w,Calls Tryz.prog 111 #[.string x,.string ⟨#[46]⟩] w fun e w'=>e= .returned (.bool true)/\w'=w)):=by
   by_cases h0:n=0
   ·refine .inr ⟨by rw [h0];rfl,H0 (fun w=> ?_)⟩
    have hd0:d=[]:=List.length_eq_zero_iff.1 Qa
    have hh:x.toList.head? =some 46:=by
     by_cases h:x.toList.head? =some 46
     ·exact h
     ·exact absurd ⟨hd0,h⟩ hN
    rw [decide_eq_true hh] at hpe;have:=hhp.out w;rw [hpe] at this;exact this
   ·exact .inl (by simp only [beq_eq_false_iff_ne,ne_eq];omega)
  clear hhp hpe hN hP;obtain ⟨dt,hdt2⟩:∃ q,x.extract 0 n=q:=⟨_,rfl⟩
  have hdtl:dt.toList=d:=by rw [<-hdt2,toList_extract,List.drop_zero];exact hdt
  have hdtz:dt.size<=x.size:=by rw [<-hdt2];exact GV _ _ _
  obtain ⟨tl,htl⟩:∃ q:ByteArray,(⟨(Lib.trimLeftB dt.data.toList 48).toArray⟩:ByteArray)=q:=⟨_,rfl⟩
  have htll:tl.toList=d.dropWhile (· ==48):=by
   rw [<-htl,toList_mk,<-ByteArray.toList_eq,hdtl];rfl
  have htlz:tl.size<=dt.size:=by
   rw [<-Aa,htll,<-Aa,hdtl]
   have:=congrArg List.length (List.takeWhile_append_dropWhile (p:=(· ==48)) (l:=d))
   rw [List.length_append] at this;omega
  have htrim:Hid (∀ w,Calls Tryz.prog 177 #[.string dt,.string ⟨#[48]⟩] w fun e w'=>e= .returned (.string tl)/\w'=w):=H0 (fun w=>by
   have:=Tryz.strings_TrimLeft_one dt 48 Qc w
   rw [htl] at this;exact this)
  obtain ⟨td,htd,htdz⟩:∃ td:ByteArray,((tl.toList.isEmpty=true/\td=⟨#[48]⟩)\/(tl.toList.isEmpty=false/\td=tl))/\td.size<=1000000000:=by
   cases h:tl.toList.isEmpty
   ·exact ⟨tl,.inr ⟨rfl,rfl⟩,Qa⟩
   ·exact ⟨⟨#[48]⟩,.inl ⟨rfl,rfl⟩,Qc⟩
  have htdl:Hid (td.toList=Ey d):=H0 (by
   unfold Ey;rw [<-htll]
   rcases htd with ⟨h,rfl⟩ | ⟨h,rfl⟩
   ·rw [if_pos (List.isEmpty_iff.1 h)];exact toList_mk [48]
   ·rw [if_neg (fun h2=>by rw [h2] at h;cases h)])
  replace hn:=H0 hn;replace hdt:=H0 hdt;replace hdR:=H0 hdR;replace hR:=H0 hR;replace hdtl:=H0 hdtl;replace htll:=H0 htll;replace htl:=H0 htl
  go_upto_region 5 with (fail)
  go_cut [27] (fun s27 wx=>s27= .bool false/\wx=w.alloc (.cells #[.string ⟨#[]⟩,.bool false,.string ⟨#[]⟩] 98))
  case first=>as_aux_lemma=>
   rcases hway with h | ⟨h,hh⟩
   ·go_wp2_with fail;go_meet;exact ⟨rfl,rfl⟩
   ·go_wp2_with (go_at_call 111;refine (hh.out _).mono ?_;rintro e w' ⟨rfl,rfl⟩);go_meet;exact ⟨rfl,rfl⟩
  case rest=>
   obtain ⟨rfl,rfl⟩:=hcut;clear hway
   go_upto_if 36 with (go_at_call 177;refine (htrim.out _).mono ?_;rintro e w' ⟨rfl,rfl⟩)
   go_cut [4] (fun s4 wx=>s4= .int .i64 (n:Int)/\wx=(w.alloc (.cells #[.string ⟨#[]⟩,.bool false,.string ⟨#[]⟩] 98)).alloc (.cells #[.string td,.bool false,.string ⟨#[]⟩] 98))
   case first=>as_aux_lemma=>
    have hsn:=AgB (w.alloc (.cells #[.string ⟨#[]⟩,.bool false,.string ⟨#[]⟩] 98)) 98 (.string tl) (.bool false) (.string ⟨#[]⟩) (.string ⟨#[48]⟩)
    rw [show (w.alloc (.cells #[.string ⟨#[]⟩,.bool false,.string ⟨#[]⟩] 98)).heap.size=w.heap.size+1 by simp] at hsn
    replace hsn:=H0 hsn
    rcases htd with ⟨h,rfl⟩ | ⟨h,rfl⟩
    all_goals
     rw [h];go_wp2_with fail;go_meet
     exact ⟨rfl,by first | rfl | exact hsn.out⟩
   case rest=>
    obtain ⟨rfl,rfl⟩:=hcut;obtain ⟨n2,hn2⟩:∃ n2,n+(R.takeWhile KB).length=n2:=⟨_,rfl⟩
    have hRlen:n+R.length=x.size:=by
     have:=congrArg List.length hdR.out;rw [List.length_drop,hxlen.out] at this;omega
    have hn2x:n2<=x.size:=by have:=Tu (p:=KB) R;omega
    have hn2I:(n2:Int)<=(x.size:Int):=Qa;obtain ⟨z,hz⟩:∃ q,x.extract n2 x.size=q:=⟨_,rfl⟩
    have hzl:z.toList=R.dropWhile KB:=by
     rw [<-hz,Fb,<-hn2,<-List.drop_drop,hdR.out];exact (F5 R).2
    have hzz:z.size<=x.size:=by rw [<-hz];exact GV _ _ _
    rw [<-hzl] at hyes;replace hzl:=H0 hzl;replace hRlen:=H0 hRlen;replace hn2:=H0 hn2
    go_upto_block 2 with (fail)
    go_cut [4] (fun s4 wx=>s4= .int .i64 (n2:Int)/\wx=(w.alloc (.cells #[.string ⟨#[]⟩,.bool false,.string ⟨#[]⟩] 98)).alloc (.cells #[.string td,.bool false,.string ⟨#[]⟩] 98))
    case first=>as_aux_lemma=>
     go_wp2_with fail
     go_loop [4] (fun iv=>∃ k:Nat,iv= .int .i64 k/\k<=x.size/\Hid (n2=k+((x.toList.drop k).takeWhile KB).length)) (fun iv=>x.size - (intOf iv).toNat)
     case atStart=>exact ⟨n,rfl,hnx,H0 (by rw [hdR.out,hn2.out])⟩
     case round=>
      obtain ⟨k,rfl,hk,hg⟩:=hrel
      by_cases hlt:k<x.size
      ·have hdr:=As x k hlt;have hltI:(k:Int)<(x.size:Int):=Qa;rw [hdr,List.takeWhile_cons] at hg;clear hdr
       by_cases h46:x[k]=46
       ·have hdo:KB x[k]=true:=by unfold KB;rw [h46];rfl
        rw [hdo] at hg;have hnew:Hid (n2=(k+1)+((x.toList.drop (k+1)).takeWhile KB).length):=H0 QL;have hb:=Hp (d:=46) h46
        replace hb:((x[k].toNat:Int)==46)=true/\((x[k].toNat:Int) != 46)=false:=hb
        obtain ⟨hb1,hb2⟩:=hb;clear hg;replace hdo:=H0 hdo;replace h46:=H0 h46;go_wp2_with fail;go_round
        case rel=>exact ⟨k+1,Ql,Qa,hnew⟩
        case measure=>simp [intOf];omega
       ·have hb:=K1 (d:=46) h46
        replace hb:((x[k].toNat:Int)==46)=false/\((x[k].toNat:Int) != 46)=true:=hb
        obtain ⟨hb1,hb2⟩:=hb
        have hdoe:KB x[k]=Jr x[k]:=by unfold KB;simp [h46]
        rw [hdoe] at hg;replace hdoe:=H0 hdoe;replace h46:=H0 h46
        by_cases hdg:Ag (x[k].toNat:Int) 10<0
        ·have hdf:=(IF _).1 hdg;rw [hdf] at hg;have hfin:Hid (n2=k):=H0 hg.out;clear hg;replace hdf:=H0 hdf;go_wp2_with (go_at_call 155;refine (A8 _ _ _ (AN _) (AX _)).mono ?_;rintro e w' ⟨rfl,rfl⟩);go_meet
         exact ⟨by rw [hfin.out],rfl⟩
        ·have hdt2:Jr x[k]=true:=by
          cases h:Jr x[k]
          ·exact absurd ((IF _).2 h) hdg
          ·rfl
         rw [hdt2] at hg;have hnew:Hid (n2=(k+1)+((x.toList.drop (k+1)).takeWhile KB).length):=H0 QL;clear hg;replace hdt2:=H0 hdt2;have hd0:0<=Ag (x[k].toNat:Int) 10:=Qa;go_wp2_with (go_at_call 155;refine (A8 _ _ _ (AN _) (AX _)).mono ?_;rintro e w' ⟨rfl,rfl⟩);go_round
         case rel=>exact ⟨k+1,Ql,Qa,hnew⟩
         case measure=>simp [intOf];omega
      ·have hge:(x.size:Int)<=(k:Int):=Qa
       have hfin:Hid (n2=k):=H0 (by have:=hg.out;rw [AL x k Qa] at this;exact this)
       clear hg;go_wp2_with fail;go_meet
       exact ⟨by rw [hfin.out],rfl⟩
    case rest=>
     obtain ⟨rfl,rfl⟩:=hcut;have hB0:Below w.heap.size w ((w.alloc (.cells #[.string ⟨#[]⟩,.bool false,.string ⟨#[]⟩] 98)).alloc (.cells #[.string td,.bool false,.string ⟨#[]⟩] 98)):=((Below.refl _ _).alloc (Nat.le_refl _) _).alloc Qf _
     match hL:z.toList with
     | []=>
      have hfin:Hid (Bi s.toList=some (td.toList,false,[])):=H0 (by rw [hyes.out,hL,htdl.out];rfl)
      have hem:=RK hL;replace hL:=H0 hL;go_wp2_with fail
      exact HQ rfl rfl rfl (Ko _ _ _) ⟨td,⟨#[]⟩,false,true,rfl,HB _ _ _,htdz,Nat.zero_le _,H0 (.inr ⟨by rw [hfin.out,e00],rfl⟩)⟩
     | c :: r=>
      have hem:=Rg hL;obtain ⟨hp,hc⟩:=Ah9 hL;have hpI:(1:Int)<=(z.size:Int):=Qa;have hpI2:(0:Int)<(z.size:Int):=Qa
      have n59:((c.toNat:Int)==59)=decide (c=59):=by
       by_cases h:c=59
       ·rw [decide_eq_true h];exact (Hp (d:=59) h).1
       ·rw [decide_eq_false h];exact (K1 (d:=59) h).1
      have n44:((c.toNat:Int)==44)=decide (c=44):=by
       by_cases h:c=44
       ·rw [decide_eq_true h];exact (Hp (d:=44) h).1
       ·rw [decide_eq_false h];exact (K1 (d:=44) h).1
      by_cases hg:AfT c=false
      ·have hno:Hid (Bi s.toList=none):=H0 (by rw [hyes.out,hL];exact if_pos hg)
       have hbz:Dg (c.toNat:Int)=false/\¬ c=59/\¬ c=44:=by
        unfold AfT isB at hg;simp only [Bool.or_eq_false_iff,beq_eq_false_iff_ne,ne_eq] at hg;exact ⟨hg.1.1,hg.1.2,hg.2⟩
       obtain ⟨b1,b2,b3⟩:=hbz;rw [decide_eq_false b2] at n59;rw [decide_eq_false b3] at n44
       have m59:((c.toNat:Int) != 59)=true:=by rw [bne,n59];rfl
       have m44:((c.toNat:Int) != 44)=true:=by rw [bne,n44];rfl
       replace hL:=H0 hL;replace hg:=H0 hg;clear b2 b3;go_wp2_with (go_at_call 110;refine (Dc _ _).mono ?_;rintro e w' ⟨rfl,rfl⟩);exact HQ rfl rfl rfl (Ko _ _ _) ⟨⟨#[]⟩,⟨#[]⟩,false,false,rfl,HB _ _ _,Nat.zero_le _,Nat.zero_le _,H0 (.inl ⟨hno.out,rfl,e00,rfl,e00⟩)⟩
      have hgt:AfT c=true:=by simpa using hg
      have hT:Hid (Bi s.toList=if KG z.toList=[] then some (td.toList,false,[]) else some (td.toList,true,Ej (BR (KG z.toList)))):=H0 (by
       rw [hyes.out,hL,htdl.out];exact if_neg hg)
      have hway:Dg (c.toNat:Int)=true\/(Dg (c.toNat:Int)=false/\((c.toNat:Int)==59)=true/\((c.toNat:Int) != 59)=false)\/(Dg (c.toNat:Int)=false/\(((c.toNat:Int)==59)=false/\((c.toNat:Int) != 59)=true)/\(((c.toNat:Int)==44)=true/\((c.toNat:Int) != 44)=false)):=by
       cases hb:Dg (c.toNat:Int)
       ·refine .inr ?_
        by_cases h:c=59
        ·exact .inl ⟨rfl,(Hp (d:=59) h).1,(Hp (d:=59) h).2⟩
        ·refine .inr ⟨rfl,K1 (d:=59) h,Hp (d:=44) ?_⟩;unfold AfT isB at hgt;rw [hb] at hgt;simp only [Bool.false_or,Bool.or_eq_true,beq_iff_eq] at hgt;exact hgt.resolve_left h
       ·exact .inl rfl
      have hbz:=H0 (fun w=>FR z w Qa)
      replace hL:=H0 hL;clear n59 n44 hg hgt hyes
      go_upto_region 15 with (fail)
      go_cut [76] (fun s76 wx=>s76= .bool false/\wx=(w.alloc (.cells #[.string ⟨#[]⟩,.bool false,.string ⟨#[]⟩] 98)).alloc (.cells #[.string td,.bool false,.string ⟨#[]⟩] 98))
      case first=>as_aux_lemma=>
       rcases hway with h1 | ⟨h1,h2,h3⟩ | ⟨h1,⟨h2,h3⟩,h4,h5⟩
       all_goals
        go_wp2_with (go_at_call 110;refine (Dc _ _).mono ?_;rintro e w' ⟨rfl,rfl⟩);go_meet;exact ⟨rfl,rfl⟩
      case rest=>
       obtain ⟨rfl,rfl⟩:=hcut;clear hway
       go_upto_region 18 with (go_at_call 176;refine (hbz.out _).mono ?_;rintro e wy ⟨y,rfl,hy,hyz,rfl⟩)
       have hsep:(∃ B:Bool,((y.toList.isEmpty=true/\B=false/\Hid (y.toList=KG z.toList))\/
         (y.toList.isEmpty=false/\B=false/\(1:Int)<=(y.size:Int)/\(∃ h:0<y.size,((y[0].toNat:Int)==59)=false/\((y[0].toNat:Int)==44)=false)/\Hid (y.toList=KG z.toList))\/
         (y.toList.isEmpty=false/\B=true/\(1:Int)<=(y.size:Int)/\(∃ h:0<y.size,((y[0].toNat:Int)==59)=true\/(((y[0].toNat:Int)==59)=false/\((y[0].toNat:Int)==44)=true))/\Hid (Bk (y.extract 1 y.size).toList=KG z.toList)))):=by
        match hY:y.toList with
        | []=>exact ⟨false,.inl ⟨rfl,rfl,H0 (by unfold KG;rw [<-hy.out,hY])⟩⟩
        | c1 :: r1=>
         obtain ⟨g0,g1⟩:=Ah9 hY
         by_cases h59:c1=59\/c1=44
         ·refine ⟨true,.inr (.inr ⟨rfl,rfl,Qa,⟨g0,?_⟩,H0 ?_⟩)⟩
          ·rw [g1]
           by_cases h:c1=59
           ·exact .inl (Hp (d:=59) h).1
           ·exact .inr ⟨(K1 (d:=59) h).1,(Hp (d:=44) (h59.resolve_left h)).1⟩
          ·rw [Fb,hY];unfold KG;rw [<-hy.out,hY];exact (if_pos h59).symm
         ·refine ⟨false,.inr (.inl ⟨rfl,rfl,Qa,⟨g0,?_⟩,H0 ?_⟩)⟩
          ·rw [g1];exact ⟨(K1 (d:=59) (fun h=>h59 (.inl h))).1,(K1 (d:=44) (fun h=>h59 (.inr h))).1⟩
          ·unfold KG;rw [<-hy.out,hY];exact (if_neg h59).symm
       obtain ⟨B,hsep⟩:=hsep;replace hsep:=H0 hsep;have hy1z:(y.extract 1 y.size).size<=y.size:=GV _ _ _
       have hb1:=H0 (fun w=>FR (y.extract 1 y.size) w Qa)
       go_cut [91] (fun s91 wx=>s91= .bool B/\wx=(w.alloc (.cells #[.string ⟨#[]⟩,.bool false,.string ⟨#[]⟩] 98)).alloc (.cells #[.string td,.bool false,.string ⟨#[]⟩] 98))
       case first=>as_aux_lemma=>
        rcases hsep.out with ⟨h1,rfl,_⟩ | ⟨h1,rfl,h2,⟨h3,h4,h5⟩,_⟩ | ⟨h1,rfl,h2,⟨h3,h4 | ⟨h4,h5⟩⟩,_⟩
        all_goals
         go_wp2_with fail;go_meet;exact ⟨rfl,rfl⟩
       case rest=>
        obtain ⟨rfl,rfl⟩:=hcut
        go_upto_if 91 with (fail)
        go_cut [0] (fun s0 wx=>(∃ q:ByteArray,s0= .string q/\Hid (q.toList=KG z.toList)/\q.size<=z.size)/\wx=(w.alloc (.cells #[.string ⟨#[]⟩,.bool false,.string ⟨#[]⟩] 98)).alloc (.cells #[.string td,.bool false,.string ⟨#[]⟩] 98))
        case first=>as_aux_lemma=>
         rcases hsep.out with ⟨h1,rfl,h5⟩ | ⟨h1,rfl,h2,h3,h5⟩ | ⟨h1,rfl,h2,h3,h5⟩
         ·go_wp2_with fail;go_meet;exact ⟨⟨y,rfl,h5,hyz⟩,rfl⟩
         ·go_wp2_with fail;go_meet;exact ⟨⟨y,rfl,h5,hyz⟩,rfl⟩
         ·go_wp2_with (go_at_call 176;refine (hb1.out _).mono ?_;rintro e wq ⟨q,rfl,hq,hqz,rfl⟩);go_meet
          exact ⟨⟨q,rfl,H0 (by rw [hq.out,h5.out]),Qa⟩,rfl⟩
        case rest=>
         obtain ⟨⟨q,rfl,hq,hqz⟩,rfl⟩:=hcut;clear hsep hb1 hbz
         match hQ:q.toList with
         | []=>
          have hfin:Hid (Bi s.toList=some (td.toList,false,[])):=H0 (by rw [hT.out,<-hq.out,hQ];rfl)
          have heq:=RK hQ;replace hQ:=H0 hQ;go_wp2_with fail
          exact HQ rfl rfl rfl (Ko _ _ _) ⟨td,⟨#[]⟩,false,true,rfl,HB _ _ _,htdz,Nat.zero_le _,H0 (.inr ⟨by rw [hfin.out,e00],rfl⟩)⟩
         | cq :: rq=>
          have hfin:Hid (Bi s.toList=some (td.toList,true,Ej (BR q.toList))):=H0 (by
           rw [hT.out,<-hq.out];exact if_neg (by rw [hQ];simp))
          have heq:=Rg hQ
          have hun:=H0 (fun w=>UG q w Qa)
          replace hQ:=H0 hQ;go_wp2_with fail;refine (hun.out _).mono ?_;rintro e w3 ⟨t1,rfl,ht1,ht1z,hb3⟩;obtain ⟨E1,k1,rfl⟩:=hb3.ext;have hB3:=(HB w (.cells #[.string ⟨#[]⟩,.bool false,.string ⟨#[]⟩] 98) (.cells #[.string td,.bool true,.string ⟨#[]⟩] 98)).toExt Qi E1 k1;go_wp2_with fail
          refine (SB t1 _ Qa (hm.next hB3)).mono ?_
          rintro e w4 ⟨t2,rfl,ht2,ht2z,hb4⟩;obtain ⟨E2,k2,rfl⟩:=hb4.ext;go_wp2_with fail
          refine HQ rfl rfl rfl (g:=w.heap.size) (d:=td) (h:=true) (u:=t2) ?_ ⟨td,t2,true,true,rfl,?_,htdz,Qa,H0 (.inr ⟨by rw [hfin.out,ht2.out,ht1.out],rfl⟩)⟩
          ·rw [Kp _ _ _ _ Qi,Kp _ _ _ _ Qi,Ko]
          ·exact ((HB w _ _).toExt Qi E1 k1).toExt Qi E2 k2
theorem Vb (d u:ByteArray) (h:Bool) (w:World) (hd:d.size<=1000000000) (hu:u.size<=1000000000):
  Calls Tryz.prog 62 #[.agg #[.string d,.bool h,.string u]] w (EI w (Gm (d.toList,h,u.toList))):=by
 have hB:Below w.heap.size w (w.alloc (.cells #[.string d,.bool h,.string u] 98)):=(Below.refl _ _).alloc (Nat.le_refl _) _;cases h
 ·go_enter Tryz.func62,Tryz.ntmps62;go_wp2_with fail;go_ret;exact ⟨_,rfl,H0 rfl,hB⟩
 ·have e1:¬ (9223372036854775807<d.size+6):=Qa;have e2:¬ (9223372036854775807<d.size+6+u.size):=Qa;go_enter Tryz.func62,Tryz.ntmps62;go_wp2_with fail;go_ret
  exact ⟨_,rfl,H0 (by rw [toList_append,toList_append,show (⟨#[59,32,117,114,108,61]⟩:ByteArray).toList=[59,32,117,114,108,61] from toList_mk _];rfl),hB⟩
theorem Ab4 {c:UInt8} (h:Jr c=true):isB c=false/\c≠46/\c≠59/\c≠44/\c≠61:=by
 unfold Jr at h;rw [Bool.and_eq_true,decide_eq_true_eq,decide_eq_true_eq] at h;refine ⟨?_,?_,?_,?_,?_⟩
 ·unfold isB Dg;simp only [Bool.or_eq_false_iff,beq_eq_false_iff_ne,ne_eq];omega
 all_goals (rintro rfl;revert h;decide)
theorem Vj {D r:List UInt8} (hD:D≠[]) (hd:∀ c∈D,Jr c=true) (hr:r.takeWhile Jr=[]):Bi (D++r)=Iw D (r.dropWhile KB):=by
 have hb:Bk (D++r)=D++r:=by
  cases D with
  | nil=>exact absurd rfl hD
  | cons c t=>
   unfold Bk
   rw [List.cons_append,List.dropWhile_cons,if_neg (by rw [(Ab4 (hd c (List.mem_cons_self ..))).1];decide)]
 have ht:(D++r).takeWhile Jr=D:=by rw [List.takeWhile_append_of_pos hd,hr,List.append_nil]
 have hrr:r.dropWhile Jr=r:=by
  have:=List.takeWhile_append_dropWhile (p:=Jr) (l:=r);rw [hr] at this;exact this
 unfold Bi O4
 rw [hb,ht,if_neg (fun h=>hD h.1),List.dropWhile_append_of_pos hd,hrr]
theorem Aao {p:UInt8->Bool} (l:List UInt8):(l.dropWhile p).dropWhile p=l.dropWhile p:=by
 induction l with
 | nil=>rfl
 | cons c r ih=>
  rw [List.dropWhile_cons];split
  ·exact ih
  ·rename_i h;rw [List.dropWhile_cons,if_neg h]
theorem Adl {p:UInt8->Bool} {l:List UInt8} {c:UInt8} (h:c∈l.dropWhile p):c∈l:=(List.dropWhile_sublist p).subset h
theorem Aap {D:List UInt8} (hd:∀ c∈D,Jr c=true):Ey D≠[]/\(∀ c∈Ey D,Jr c=true)/\Ey (Ey D)=Ey D/\(Ey D).length<=D.length+1:=by
 unfold Ey
 by_cases h:D.dropWhile (· ==48)=[]
 ·rw [if_pos h];refine ⟨Qf,?_,rfl,Qf⟩;intro c hc;obtain rfl:=List.mem_singleton.1 hc;decide
 ·rw [if_neg h]
  refine ⟨h,fun c hc=>hd c (Adl hc),?_,?_⟩
  ·rw [Aao,if_neg h]
  ·have:=(List.dropWhile_sublist (p:=(· ==48)) (l:=D)).length_le;omega
theorem Adm {D r d u:List UInt8} {h:Bool} (he:Iw D r=some (d,h,u)):d=Ey D/\(h=false->u=[]):=by
 unfold Iw at he;split at he
 ·have:=Option.some.inj he;have e1:=congrArg Prod.fst this
  have e3:=congrArg (fun x=>x.2.2) this
  exact ⟨e1.symm,fun _=>e3.symm⟩
 ·split at he
  ·cases he
  ·split at he
   ·have:=Option.some.inj he
    exact ⟨(congrArg Prod.fst this).symm,fun _=>(congrArg (fun x=>x.2.2) this).symm⟩
   ·have:=Option.some.inj he
    have e2:true=h:=congrArg (fun x=>x.2.1) this
    exact ⟨(congrArg Prod.fst this).symm,fun h2=>by rw [h2] at e2;cases e2⟩
theorem Tj {l d u:List UInt8} {h:Bool} (hp:Bi l=some (d,h,u)):d≠[]/\(∀ c∈d,Jr c=true)/\Ey d=d/\d.length<=l.length+1/\(h=false->u=[]):=by
 unfold Bi O4 at hp;split at hp
 ·cases hp
 ·obtain ⟨e,hu⟩:=Adm hp
  have hall:∀ c∈(Bk l).takeWhile Jr,Jr c=true:=fun c hc=>List.all_eq_true.1 (List.all_takeWhile (p:=Jr) (l:=Bk l)) c hc
  obtain ⟨h1,h2,h3,h4⟩:=Aap hall;rw [<-e] at h1 h2 h3 h4;refine ⟨h1,h2,h3,?_,hu⟩;have a:=(List.takeWhile_sublist (p:=Jr) (l:=Bk l)).length_le;have b:=(List.dropWhile_sublist (p:=isB) (l:=l)).length_le;unfold Bk at a;unfold Bk at h4;omega
theorem Vw {c:UInt8} (h:Bn (c.toNat:Int)=true):isB c=false/\c≠34/\c≠39:=by
 unfold Bn at h;rw [Bool.or_eq_true,decide_eq_true_eq,decide_eq_true_eq] at h;refine ⟨?_,?_,?_⟩
 ·unfold isB Dg;simp only [Bool.or_eq_false_iff,beq_eq_false_iff_ne,ne_eq];omega
 all_goals (rintro rfl;revert h;decide)
theorem Adx {d r:List UInt8} {c:UInt8} (h1:d≠[]) (h2:∀ c∈d,Jr c=true) (h3:Ey d=d) (hc:Bn (c.toNat:Int)=true):
  Bi (d++[59,32,117,114,108,61]++c :: r)=some (d,true,c :: r):=by
 obtain ⟨b1,b2,b3⟩:=Vw hc
 have hb:Bk (c :: r)=c :: r:=by unfold Bk;rw [List.dropWhile_cons,if_neg (by rw [b1];decide)]
 have hs:KG (59 :: 32 :: 117 :: 114 :: 108 :: 61 :: c :: r)=117 :: 114 :: 108 :: 61 :: c :: r:=Qt
 have hn:BR (117 :: 114 :: 108 :: 61 :: c :: r)=c :: r:=by
  unfold BR
  rw [if_neg (by
   rintro (h | h)
   ·simp only [List.length_cons] at h;omega
   ·exact h (by show AJ [117,114,108]=_;decide))]
  show Bk (c :: r)=_;exact hb
 have hq:Ej (c :: r)=c :: r:=if_neg (by rintro (h | h);exact b2 h;exact b3 h)
 rw [List.append_assoc];rw [Vj h1 h2 rfl];show Iw d (59 :: 32 :: 117 :: 114 :: 108 :: 61 :: c :: r)=_;unfold Iw;dsimp only;rw [if_neg Qc,hs,if_neg Qf,hn,hq,h3]
structure BG where
 right:Bool
 url:Ao
 ws:List (List UInt8)
def AD (raw:List UInt8):List UInt8:=SY (FQ (C6 raw))
def BI (base:Ao) (s:List UInt8) (ws:List (List UInt8)):BG:=⟨(Ho base s).isSome,(Ho base s).getD FU,ws⟩
def E5 (base:Ao):Option (List UInt8 × Bool × List UInt8)->List BG × List UInt8
 | none=>([],[])
 | some (d,h,x)=>if h=true then ([BI base x []],d) else ([⟨true,base,[]⟩],d)
def Al (kind:Nat) (base:Ao) (s:List UInt8):List BG × List UInt8:=
 if kind=1 then ([BI base s []],[])
 else if kind=2 then ((Cf s).map fun c=>BI base c.url c.ws,[])
 else if kind=3 then E5 base (Bi s)
 else ([],[])
def Oz (s:List UInt8):Bool:=s.all A0 && (!s.isEmpty && (!(s.head? ==some 44) && !(s.getLast? ==some 44)))
def AS (alw:Ao->Bool) (kind:Nat) (it:BG):Bool:=it.right && (alw it.url && (kind != 2 || Oz (AW it.url true)))
def Co (it:BG):EW:=⟨AW it.url true,it.ws,(FI it.ws).getD d0⟩
def DR (kind:Nat) (l:List BG) (d:List UInt8):List UInt8:=match l with
 | []=>[]
 | it :: r=>if kind=1 then AW it.url true else if kind=2 then A9 ((it :: r).map Co) else if kind=3 then Gm (d,true,AW it.url true) else []
structure AeK where
 kind:Nat
 why:Nat
 out:List UInt8
def Wz (n:Nat):AeK:=⟨2,n,[]⟩
def A5 (alw:Ao->Bool) (most:Int) (kind:Nat) (base:Ao) (raw:List UInt8):AeK:=
 if kind=0 then ⟨1,0,[]⟩
 else if most<(raw.length:Int) then Wz 1
 else if (Al kind base (AD raw)).1.any (·.right)=false then Wz 3
 else if (Al kind base (AD raw)).1.filter (AS alw kind)=[] then Wz 4
 else if most<((BL (DR kind ((Al kind base (AD raw)).1.filter (AS alw kind)) (Al kind base (AD raw)).2)).length:Int) then Wz 1
 else ⟨3,0,BL (DR kind ((Al kind base (AD raw)).1.filter (AS alw kind)) (Al kind base (AD raw)).2)⟩
def NC (c:UInt8):Bool:= !BM c && (!(c==34) && (!(c==39) && (!(c==60) && (!(c==62) && !(c==96)))))
def Af0:List (List UInt8):=[[38,97,109,112,59],[38,35,51,52,59],[38,35,51,57,59],[38,35,54,48,59],[38,35,54,50,59],[38,35,57,54,59]]
theorem Ada:∀ n:Fin 256,BM (UInt8.ofNat n.val)=false->(EY (UInt8.ofNat n.val)).all NC=true:=Qe
theorem Rb {W:List UInt8} (h:∀ c∈W,BM c=false):∀ c∈BL W,NC c=true:=by
 intro c hc;obtain ⟨x,hx,hm⟩:=List.mem_flatMap.1 hc;have:=Ada ⟨x.toNat,x.toNat_lt⟩;simp only [UInt8.ofNat_toNat] at this;exact List.all_eq_true.1 (this (h x hx)) c hm
theorem Aem:∀ (n:Fin 256) (i:Fin 5),((EY (UInt8.ofNat n.val)).drop i.val).head? =some 38->i.val=0/\Af0.contains (EY (UInt8.ofNat n.val))=true:=Qe
theorem V7:∀ t∈Af0,t.length=5:=Qc
theorem Abl:∀ (W:List UInt8) (i:Nat),((BL W).drop i).head? =some 38->((BL W).drop i).take 5∈Af0
 | [],i,h=>by
  have e:BL []=[]:=rfl;rw [e,List.drop_nil] at h;cases h
 | c :: W,i,h=>by
  have e:BL (c :: W)=EY c++BL W:=by unfold BL;rw [List.flatMap_cons]
  have hl:=X0 c;rw [e] at h⊢
  by_cases hi:i<(EY c).length
  ·rw [List.drop_append_of_le_length Qa] at h⊢
   have hd:((EY c).drop i)≠[]:=by
    intro e2;have:=congrArg List.length e2;rw [List.length_drop,List.length_nil] at this;omega
   have h2:((EY c).drop i).head? =some 38:=by
    cases hq:(EY c).drop i with
    | nil=>exact absurd hq hd
    | cons a q=>rw [hq] at h;exact h
   have key:=Aem ⟨c.toNat,c.toNat_lt⟩ ⟨i,Qa⟩;simp only [UInt8.ofNat_toNat] at key;obtain ⟨h0,hm⟩:=key h2
   have hm2:EY c∈Af0:=by simpa using hm
   rw [show i=0 from h0,List.drop_zero,List.take_append_of_le_length (by rw [V7 _ hm2];omega),List.take_of_length_le (by rw [V7 _ hm2];omega)]
   exact hm2
  ·have e3:(EY c++BL W).drop i=(BL W).drop (i - (EY c).length):=by
    rw [List.drop_append,List.drop_eq_nil_of_le Qa,List.nil_append]
   rw [e3] at h⊢;exact Abl W _ h
theorem Zb:∀ n:Fin 256,NC (UInt8.ofNat n.val)=true->UInt8.ofNat n.val≠0/\decide ((UInt8.ofNat n.val).toNat<128)=true:=Qe
theorem LM {c:UInt8} (h:NC c=true):c≠0/\decide (c.toNat<128)=true:=by
 have:=Zb ⟨c.toNat,c.toNat_lt⟩;simp only [UInt8.ofNat_toNat] at this;exact this h
theorem MN {W:List UInt8} (h:∀ c∈W,BM c=false):AD (BL W)=W:=by
 have hs:=Rb h;unfold AD
 rw [LQ (fun c hc=>(LM (hs c hc)).1),M0 (List.all_eq_true.2 fun c hc=>(LM (hs c hc)).2),AgP]
theorem D4 {base:Ao} {s:List UInt8} {ws:List (List UInt8)} (hb:AI base) (h:(BI base s ws).right=true):∃ u,Ho base s=some u/\BI base s ws=⟨true,u,ws⟩/\AI u:=by
 unfold BI at h⊢
 cases hj:Ho base s with
 | none=>rw [hj] at h;cases h
 | some u=>exact ⟨u,rfl,rfl,PM hb hj⟩
theorem JR {base u:Ao} {ws:List (List UInt8)} (g:AI u):BI base (AW u true) ws=⟨true,u,ws⟩:=by unfold BI;rw [Pu g];rfl
theorem S9 {u:Ao} {ws:List (List UInt8)} {st:Mp} (h:Oz (AW u true)=true) (hd:FI ws=some st):L8 ⟨AW u true,ws,(FI ws).getD d0⟩:=by
 unfold Oz at h;simp only [Bool.and_eq_true,Bool.not_eq_true',beq_eq_false_iff_ne,ne_eq,List.all_eq_true] at h;obtain ⟨h1,h2,h3,h4⟩:=h;refine ⟨?_,h1,h3,h4,?_⟩
 ·intro e;dsimp only at e;rw [e] at h2;cases h2
 ·dsimp only;rw [hd];rfl
theorem Ad8:∀ n:Fin 256,Lz (UInt8.ofNat n.val)=true->BM (UInt8.ofNat n.val)=false:=Qe
theorem AaR {c:UInt8} (h:Lz c=true):BM c=false:=by
 have:=Ad8 ⟨c.toNat,c.toNat_lt⟩;simp only [UInt8.ofNat_toNat] at this;exact this h
theorem Ahi:∀ n:Fin 256,Jr (UInt8.ofNat n.val)=true->BM (UInt8.ofNat n.val)=false:=Qe
theorem Acl {c:UInt8} (h:Jr c=true):BM c=false:=by
 have:=Ahi ⟨c.toNat,c.toNat_lt⟩;simp only [UInt8.ofNat_toNat] at this;exact this h
theorem Acj {x:EW} {c:UInt8} (h:c∈Ck x):c=32\/c∈x.url\/∃ t∈x.ws,c∈t:=by
 rcases List.mem_append.1 h with h | h
 ·exact .inr (.inl h)
 ·obtain ⟨t,ht,hc⟩:=List.mem_flatMap.1 h
  rcases List.mem_cons.1 hc with hc | hc
  ·exact .inl hc
  ·exact .inr (.inr ⟨t,ht,hc⟩)
theorem ZZ:∀ {l:List EW} {c:UInt8},c∈A9 l->c=44\/c=32\/∃ x∈l,c∈x.url\/∃ t∈x.ws,c∈t
 | [],c,h=>Qr
 | a :: r,c,h=>by
  have hin:∀ x∈a :: r,c∈Ck x->c=44\/c=32\/∃ x∈a :: r,c∈x.url\/∃ t∈x.ws,c∈t:=fun x hx hc=>by
   rcases Acj hc with e | e
   ·exact .inr (.inl e)
   ·exact .inr (.inr ⟨x,hx,e⟩)
  rcases List.mem_append.1 h with h | h
  ·exact hin a (List.mem_cons_self ..) h
  ·obtain ⟨x,hx,hc⟩:=List.mem_flatMap.1 h
   rcases List.mem_cons.1 hc with e | hc
   ·exact .inl e
   rcases List.mem_cons.1 hc with e | hc
   ·exact .inr (.inl e)
   ·exact hin x (List.mem_cons_of_mem _ hx) hc
theorem Vf {u:Ao} (g:AI u):∃ c r,AW u true=c :: r/\Bn (c.toNat:Int)=true:=by
 have h:=g.scheme.1;rw [HX]
 cases hs:u.scheme with
 | nil=>rw [hs] at h;cases h
 | cons c r=>
  rw [hs] at h;unfold CI at h;rw [Bool.and_eq_true] at h;exact ⟨c,_,rfl,h.1⟩
theorem NN {alw:Ao->Bool} {kind:Nat} {base:Ao} {s:List UInt8} {l:List BG} (hb:AI base) (hl:(Al kind base s).1.filter (AS alw kind)=l) (hne:l≠[]):
  (∀ it∈l,AS alw kind it=true/\AI it.url)/\(∀ c∈DR kind l (Al kind base s).2,BM c=false)/\Al kind base (DR kind l (Al kind base s).2)=(l,(Al kind base s).2):=by
 by_cases k1:kind=1
 ·subst k1;have e:Al 1 base s=([BI base s []],[]):=rfl;rw [e] at hl⊢;dsimp only at hl⊢;rw [List.filter_cons] at hl;split at hl
  ·rename_i hk;rw [List.filter_nil] at hl;subst hl;have hk2:=hk;unfold AS at hk2;rw [Bool.and_eq_true] at hk2;obtain ⟨u,hj,hi,g⟩:=D4 hb hk2.1;rw [hi] at hk⊢
   refine ⟨fun it hit=> ?_,?_,?_⟩
   ·rw [List.mem_singleton.1 hit];exact ⟨hk,g⟩
   ·exact Hf g
   ·show ([BI base (AW u true) []],[])=_;rw [JR g]
  ·rw [List.filter_nil] at hl;exact absurd hl.symm hne
 by_cases k2:kind=2
 ·subst k2
  have e:∀ s,Al 2 base s=((Cf s).map fun c=>BI base c.url c.ws,[]):=fun _=>rfl
  rw [e] at hl⊢;dsimp only at hl⊢;have hsp:=UA _ s (Nat.le_refl _)
  have key:∀ it∈l,AS alw 2 it=true/\AI it.url/\it.right=true/\L8 (Co it):=fun it hit=>by
   rw [<-hl] at hit;obtain ⟨hm,hk⟩:=List.mem_filter.1 hit;obtain ⟨c,hc,rfl⟩:=List.mem_map.1 hm;have hk2:=hk;unfold AS at hk2;rw [Bool.and_eq_true,Bool.and_eq_true] at hk2;obtain ⟨hr,_,hf⟩:=hk2;obtain ⟨u,hj,hi,g⟩:=D4 hb hr;rw [hi] at hk hf⊢
   have hf2:Oz (AW u true)=true:=by simpa using hf
   exact ⟨hk,g,rfl,S9 hf2 (hsp c hc).ds⟩
  obtain ⟨it,r,hir⟩:∃ it r,l=it :: r:=by
   cases l with
   | nil=>exact absurd rfl hne
   | cons a r=>exact ⟨a,r,rfl⟩
  have ht:DR 2 l []=A9 (l.map Co):=by rw [hir];rfl
  rw [ht]
  refine ⟨fun it hit=>⟨(key it hit).1,(key it hit).2.1⟩,?_,?_⟩
  ·intro c hc
   rcases ZZ hc with rfl | rfl | ⟨x,hx,hc⟩
   ·decide
   ·decide
   ·obtain ⟨it,hit,rfl⟩:=List.mem_map.1 hx;obtain ⟨-,g,-,gc⟩:=key it hit
    rcases hc with hc | ⟨t,ht,hc⟩
    ·exact Hf g c hc
    ·exact AaR ((YJ gc.ds t ht).2 c hc)
  ·rw [e,RW _ (fun x hx=>by obtain ⟨it,hit,rfl⟩:=List.mem_map.1 hx;exact (key it hit).2.2.2),List.map_map]
   congr 1
   have:∀ m:List BG,(∀ it∈m,it∈l)->m.map ((fun c=>BI base c.url c.ws) ∘ Co)=m:=by
    intro m
    induction m with
    | nil=>intro _;rfl
    | cons a m ih=>
     intro hm;obtain ⟨-,g,hr,-⟩:=key a (hm a (List.mem_cons_self ..))
     rw [List.map_cons,ih (fun it hit=>hm it (List.mem_cons_of_mem _ hit))]
     congr 1;show BI base (AW a.url true) a.ws=a;rw [JR g,<-hr]
   exact this l (fun it hit=>hit)
 by_cases k3:kind=3
 ·subst k3
  have e:∀ s,Al 3 base s=E5 base (Bi s):=fun _=>rfl
  rw [e] at hl⊢
  cases hp:Bi s with
  | none=>rw [hp] at hl;exact absurd hl.symm hne
  | some p=>
   obtain ⟨d,h,x⟩:=p;rw [hp] at hl;obtain ⟨p1,p2,p3,-,-⟩:=Tj hp
   have hgo:∀ u,AI u->AS alw 3 ⟨true,u,[]⟩=true->l=[⟨true,u,[]⟩]->(E5 base (some (d,h,x))).2=d->
     (∀ it∈l,AS alw 3 it=true/\AI it.url)/\(∀ c∈DR 3 l (E5 base (some (d,h,x))).2,BM c=false)/\Al 3 base (DR 3 l (E5 base (some (d,h,x))).2)=(l,(E5 base (some (d,h,x))).2):=by
    intro u g hk hl2 hd2;rw [hl2,hd2];have ht:DR 3 [⟨true,u,[]⟩] d=d++[59,32,117,114,108,61]++AW u true:=rfl;rw [ht]
    refine ⟨fun it hit=> ?_,?_,?_⟩
    ·rw [List.mem_singleton.1 hit];exact ⟨hk,g⟩
    ·intro c hc
     rcases List.mem_append.1 hc with hc | hc
     ·rcases List.mem_append.1 hc with hc | hc
      ·exact Acl (p2 c hc)
      ·exact (show ∀ c∈([59,32,117,114,108,61]:List UInt8),BM c=false by decide) c hc
     ·exact Hf g c hc
    ·obtain ⟨c,r,hcr,hlt⟩:=Vf g;rw [e,hcr,Adx p1 p2 p3 hlt,<-hcr];show ([BI base (AW u true) []],d)=_;rw [JR g]
   cases h with
   | true=>
    have e2:E5 base (some (d,true,x))=([BI base x []],d):=rfl;rw [e2] at hl hgo⊢;dsimp only at hl hgo⊢;rw [List.filter_cons] at hl;split at hl
    ·rename_i hk;rw [List.filter_nil] at hl;have hk2:=hk;unfold AS at hk2;rw [Bool.and_eq_true] at hk2;obtain ⟨u,hj,hi,g⟩:=D4 hb hk2.1;rw [hi] at hk hl;exact hgo u g hk hl.symm rfl
    ·rw [List.filter_nil] at hl;exact absurd hl.symm hne
   | false=>
    have e2:E5 base (some (d,false,x))=([⟨true,base,[]⟩],d):=rfl;rw [e2] at hl hgo⊢;dsimp only at hl hgo⊢;rw [List.filter_cons] at hl;split at hl
    ·rename_i hk;rw [List.filter_nil] at hl;exact hgo base hb hk hl.symm rfl
    ·rw [List.filter_nil] at hl;exact absurd hl.symm hne
 ·have e:Al kind base s=([],[]):=by unfold Al;rw [if_neg k1,if_neg k2,if_neg k3]
  rw [e] at hl;exact absurd hl.symm hne
structure Aic (alw:Ao->Bool) (most:Int) (kind:Nat) (base:Ao) (raw W:List UInt8) (l:List BG) (d:List UInt8):Prop where
 kd:kind≠0
 text:DR kind l d=W
 ne:l≠[]
 good:∀ it∈l,AS alw kind it=true/\AI it.url
 clean:∀ c∈W,BM c=false
 again:Al kind base W=(l,d)
 raw:¬ most<(raw.length:Int)
 out:¬ most<((BL W).length:Int)
theorem Aic.self {alw:Ao->Bool} {most:Int} {kind:Nat} {base:Ao} {raw W:List UInt8} {l:List BG} {d:List UInt8} (h:Aic alw most kind base raw W l d):A5 alw most kind base (BL W)=⟨3,0,BL W⟩:=by
 have hf:l.filter (AS alw kind)=l:=List.filter_eq_self.2 fun it hit=>(h.good it hit).1
 have ha:l.any (·.right)=true:=by
  cases hl:l with
  | nil=>exact absurd hl h.ne
  | cons a r=>
   have:=(h.good a (by rw [hl];exact List.mem_cons_self ..)).1
   unfold AS at this;rw [Bool.and_eq_true] at this;rw [List.any_cons,this.1];rfl
 unfold A5;rw [if_neg h.kd,if_neg h.out,MN h.clean,h.again];dsimp only
 rw [hf,if_neg (by rw [ha];decide),if_neg h.ne,h.text,if_neg h.out]
structure Dd where
 kind:Int
 name:ByteArray
 four:Nat
 six:List Nat
def Aq (h:Dd):Array Value:= #[.int .i64 h.kind,.string h.name,.int .u32 (h.four:Int),.int .u16 ((pc h.six 0:Nat):Int),.int .u16 ((pc h.six 1:Nat):Int),.int .u16 ((pc h.six 2:Nat):Int),.int .u16 ((pc h.six 3:Nat):Int),.int .u16 ((pc h.six 4:Nat):Int),.int .u16 ((pc h.six 5:Nat):Int),.int .u16 ((pc h.six 6:Nat):Int),.int .u16 ((pc h.six 7:Nat):Int)]
structure Ry (h:Dd):Prop where
 four:h.four<4294967296
 six:YP h.six
 name:h.name.size<=maxLen
def GP (h:Dd):List UInt8:=if h.kind=2\/h.kind=5 then h.name.toList else if h.kind=3 then El h.four else if h.kind=4 then [91]++Gj h.six++[93] else []
theorem AdF (h:Dd):((h.kind==2)=true/\GP h=h.name.toList)\/((h.kind==2)=false/\(((h.kind==5)=true/\GP h=h.name.toList)\/((h.kind==5)=false/\
  (((h.kind==3)=true/\GP h=El h.four)\/((h.kind==3)=false/\(((h.kind==4)=true/\GP h=[91]++Gj h.six++[93])\/((h.kind==4)=false/\GP h=[]))))))):=by
 unfold GP
 by_cases h2:h.kind=2
 ·exact .inl ⟨by simp [h2],by simp [h2]⟩
 refine .inr ⟨by simp [h2],?_⟩
 by_cases h5:h.kind=5
 ·exact .inl ⟨by simp [h5],by simp [h5]⟩
 refine .inr ⟨by simp [h5],?_⟩
 by_cases h3:h.kind=3
 ·exact .inl ⟨by simp [h3],by simp [h3]⟩
 refine .inr ⟨by simp [h3],?_⟩
 by_cases h4:h.kind=4
 ·exact .inl ⟨by simp [h4],by simp [h4]⟩
 exact .inr ⟨by simp [h4],by simp [h2,h3,h4,h5]⟩
theorem Ni (n:Nat):(El n).length<=16:=Nh n 4
theorem Ns:∀ f l b e i,(DT f l b e i).length<=5 * f
 | 0,_,_,_,_=>by simp [DT]
 | f+1,l,b,e,i=>by
  have h1:=Ns f l b e e;have h2:=Ns f l b e (i+1);have h3:=O5 (pc l i);unfold DT;split
  ·split
   ·simp;omega
   ·simp only [List.length_append];split<;>simp<;>omega
  ·simp
theorem LR (l:List Nat):(Gj l).length<=40:=Ns 8 l _ _ 0
theorem LC {t:ByteArray} {l:List UInt8} {n:Nat} (h:t.toList=l) (hl:l.length<=n):t.size<=n:=by rw [<-Aa,h];exact hl
theorem KM (h:Dd) (ok:Ry h) (w:World) (ht:IG w):
  Calls Tryz.prog 44 #[.agg (Aq h)] w (EI w (GP h)):=by
 have hsv:=Abt ok.six;replace hsv:=H0 hsv;unfold Aq;have ht1:=ht.alloc (.cells (Aq h) 32);have hb1:Below w.heap.size w (w.alloc (.cells (Aq h) 32)):=(Below.refl _ _).alloc (Nat.le_refl _) _;unfold Aq at ht1 hb1
 rcases AdF h with ⟨k2,e⟩ | ⟨k2,⟨k5,e⟩ | ⟨k5,⟨k3,e⟩ | ⟨k3,⟨k4,e⟩ | ⟨k4,e⟩⟩⟩⟩
 all_goals replace e:=H0 e
 ·go_enter Tryz.func44,Tryz.ntmps44;go_wp2_with fail;go_ret;exact GC e.out.symm hb1
 ·go_enter Tryz.func44,Tryz.ntmps44;go_wp2_with fail;go_ret;exact GC e.out.symm hb1
 ·go_enter Tryz.func44,Tryz.ntmps44;go_wp2_with fail;refine (SA h.four ok.four _ ht1).mono ?_;rintro e' w2 ⟨t,rfl,ht',hb⟩;go_wp2_with fail;go_ret
  exact GC (ht'.out.trans e.out.symm) (hb1.next hb)
 ·go_enter Tryz.func44,Tryz.ntmps44;go_wp2_with fail;rw [<-hsv.out];refine (UU h.six ok.six _ ht1).mono ?_;rintro e' w2 ⟨t,rfl,ht',hb⟩;have hz:=LC ht'.out (LR _);go_wp2_with fail;go_ret
  refine GC ?_ (hb1.next hb)
  rw [e.out,toList_append,toList_append,ht'.out,show (ByteArray.mk #[91]).toList=[91] from toList_mk _,show (ByteArray.mk #[93]).toList=[93] from toList_mk _]
 ·go_enter Tryz.func44,Tryz.ntmps44;go_wp2_with fail;go_ret;exact GC ((toList_mk []).trans e.out.symm) hb1
def PO (sg:Nat) (l:List Nat):Nat:=(l.filter (fun c=>decide (c<sg))).length
theorem Mt (sg:Nat) (l:List Nat):PO sg l<=l.length:=List.length_filter_le _ _
theorem AfO {sg:Nat} {l:List Nat} (h:∀ x∈l,x<sg):PO sg l=l.length:=by
 unfold PO
 rw [List.filter_eq_self.2 (fun x hx=>decide_eq_true (h x hx))]
theorem Ub {sg m:Nat}:∀ {l:List Nat},(∀ x∈l,sg<=x->m<=x)->sg<=m->PO (m+1) l=PO sg l+l.count m
 | [],_,_=>rfl
 | x :: r,h,hm=>by
  have ih:=Ub (l:=r) (fun y hy=>h y (List.mem_cons_of_mem _ hy)) hm
  have hx:=h x (List.mem_cons_self ..);unfold PO at ih⊢;rw [List.filter_cons,List.filter_cons,List.count_cons]
  by_cases h1:x<sg
  ·rw [if_pos Qi,if_pos Q2,List.length_cons,List.length_cons,ih,if_neg Qi];omega
  ·by_cases h2:x=m
   ·rw [if_pos Qi,if_neg Q2,List.length_cons,ih,if_pos Aki];omega
   ·have:=hx Qa;rw [if_neg Qi,if_neg Q2,ih,if_neg Aki];omega
structure WH (D0 N0 k:Nat) (st:CU):Prop where
 d:st.d<=D0+k
 lo:N0<=st.done
 hi:st.done<=N0+k
 bias:st.bias<=756
 out:st.out.length<=256+40 * st.done
theorem AdK {D0 N0 k m c:Nat} {st:CU} (h:WH D0 N0 k st) (hd:D0+k<=2147483647):WH D0 N0 (k+1) (AV m st c):=by
 obtain ⟨h1,h2,h3,h4,h5⟩:=h;unfold AV;split
 ·have:=U3 st.d st.bias
  refine ⟨Nat.zero_le _,by show N0<=st.done+1;omega,by show st.done+1<=_;omega,M4 _ _ _ Qa,?_⟩
  show (st.out++TD st.d st.bias).length<=256+40 * (st.done+1);rw [List.length_append];omega
 ·split
  ·exact ⟨by show st.d+1<=_;omega,h2,by show st.done<=_;omega,h4,h5⟩
  ·exact ⟨Qa,h2,Qa,h4,h5⟩
theorem LI (m:Nat) (l:List Nat) (k:Nat) (st:CU) (h:k<l.length):(l.take (k+1)).foldl (AV m) st=AV m ((l.take k).foldl (AV m) st) l[k]:=by
 rw [List.take_succ_eq_append_getElem h,List.foldl_append];rfl
theorem TG {D0 N0 m:Nat} {l:List Nat} {st:CU} (h:WH D0 N0 0 st):∀ k,k<=l.length->D0+k<=2147483647->WH D0 N0 k ((l.take k).foldl (AV m) st)
 | 0,_,_=>by rw [List.take_zero];exact h
 | k+1,hk,hd=>by
  rw [LI m l k st Qa];exact AdK (TG h k Qa Qa) Qa
theorem Gi (m:Nat):∀ (l:List Nat) (st:CU),(l.foldl (AV m) st).done=st.done+l.count m
 | [],st=>rfl
 | x :: r,st=>by
  rw [List.foldl_cons,Gi m r,List.count_cons];unfold AV
  by_cases h:x=m
  ·rw [if_pos h,if_pos Qy];show st.done+1+_=_;omega
  ·rw [if_neg h,if_neg (show ¬ (x==m)=true by simpa using h)]
   split<;>rfl
theorem TJ (m:Nat):∀ (l:List Nat) (st:CU),(l.foldl (AV m) st).d<=st.d+l.length/\(m∈l->(l.foldl (AV m) st).d<=l.length)
 | [],st=>⟨Nat.le_refl _,fun h=>(nomatch h)⟩
 | x :: r,st=>by
  obtain ⟨h1,h2⟩:=TJ m r (AV m st x);rw [List.foldl_cons,List.length_cons]
  have hs:(AV m st x).d<=st.d+1:=by
   unfold AV;split
   ·exact Nat.zero_le _
   ·split
    ·exact Nat.le_refl _
    ·omega
  refine ⟨Qa,fun hm=> ?_⟩
  rcases List.mem_cons.1 hm with he | hm
  ·have:(AV m st x).d=0:=by unfold AV;rw [if_pos he.symm]
   omega
  ·have:=h2 hm;omega
theorem Ez (l:List Nat):(Cd l).length=PO 128 l:=by unfold Cd PO;rw [List.length_map];rfl
theorem Yu (l:List Nat) (k:Nat) (h:k<l.length):Cd (l.take (k+1))=Cd (l.take k)++if l[k]<128 then [UInt8.ofNat l[k]] else []:=by
 rw [List.take_succ_eq_append_getElem h];unfold Cd;rw [List.filter_append,List.map_append];congr 1
 by_cases hc:l[k]<128
 ·rw [if_pos hc,List.filter_cons,if_pos (by simpa [Acg] using hc)];rfl
 ·rw [if_neg hc,List.filter_cons,if_neg (by simpa [Acg] using hc)];rfl
theorem VG {l:List Nat} {k:Nat} (h:k<l.length) (h1:(l.take k).all Bj=true) (h2:Bj l[k]=true):(l.take (k+1)).all Bj=true:=by
 rw [List.take_succ_eq_append_getElem h,List.all_append,h1,Bool.true_and,List.all_cons,h2];rfl
theorem AaA {l:List Nat} {k:Nat} (h:k<l.length) (h2:Bj l[k]=false):l.all Bj=false:=by
 rw [List.all_eq_false];exact ⟨l[k],List.getElem_mem h,Akk⟩
theorem Rv {c:Nat} (h:Bj c=true):c<=1114111:=by
 unfold Bj at h;rw [Bool.and_eq_true,decide_eq_true_iff] at h;exact h.1
def Lc (l:List Nat) (sg m:Nat) (st:CU):CU:=⟨st.d+(m - sg) * (st.done+1),st.done,st.bias,st.first,st.out⟩
theorem Aay {l:List Nat} {f sg m:Nat} {st:CU} (h:st.done<l.length) (hm:Cz l sg=(m:Int)):
  Fu l (f+1) sg st=Fu l f (m+1) ⟨(l.foldl (AV m) (Lc l sg m st)).d+1,(l.foldl (AV m) (Lc l sg m st)).done,(l.foldl (AV m) (Lc l sg m st)).bias,(l.foldl (AV m) (Lc l sg m st)).first,(l.foldl (AV m) (Lc l sg m st)).out⟩:=by
 rw [Fu,if_pos h,hm];rfl
theorem Acm {l:List Nat} {f sg:Nat} {st:CU} (h:¬ st.done<l.length):Fu l f sg st=st:=by
 cases f with
 | zero=>rfl
 | succ f=>rw [Fu,if_neg h]
theorem AfN {l:List Nat} {sg:Nat} (h:PO sg l<l.length):∃ m∈l,Cz l sg=(m:Int)/\sg<=m/\∀ x∈l,sg<=x->m<=x:=by
 by_cases hx:∃ x∈l,sg<=x
 ·obtain ⟨x,hx,hs⟩:=hx;exact Ue hx hs
 ·exfalso
  have:=AfO (sg:=sg) (l:=l) (fun x hx'=>by
   by_cases h1:x<sg
   ·exact h1
   ·exact absurd ⟨x,hx',Qa⟩ hx)
  omega
end Go.Proofs.YtonomfeipkdmhaaGreatDoor
