/- Part 32: lemmas. -/
import Derived.Test.YtonomfeipkdmhaaGreatDoorK31
import Derived.Deep.OwnRows
import Derived.Laws.StructEq
import Derived.WideMake
set_option linter.unusedVariables false
set_option linter.unusedSimpArgs false
set_option maxRecDepth 100000
set_option maxHeartbeats 16000000
namespace Go.Proofs.YtonomfeipkdmhaaGreatDoor
open Go.RowKit Go.Proofs.Tryz
structure KeB (w wx:World) (p:C6) (k:Nat) (C D:Array Value):Prop where
 below:Below w.heap.size w wx
 size:w.heap.size+4<=wx.heap.size
 a:AJ wx w.heap.size (By p) 24
 b:AJ wx (w.heap.size+1) #[.int .i64 (k:Int)] 3
 c:AJ wx (w.heap.size+2) C 44
 o:AJ wx (w.heap.size+3) D 44
theorem KeB.start (w:World) (p:C6) (k:Nat) (C D:Array Value):KeB w ((((w.alloc (.cells (By p) 24)).alloc (.cells #[.int .i64 (k:Int)] 3)).alloc (.cells C 44)).alloc (.cells D 44)) p k C D:=by
 have h:=Mn.start w (By p) 24 #[.int .i64 (k:Int)] 3;have hn:=AJ.new ((w.alloc (.cells (By p) 24)).alloc (.cells #[.int .i64 (k:Int)] 3)) C 44;have hm:=AJ.new (((w.alloc (.cells (By p) 24)).alloc (.cells #[.int .i64 (k:Int)] 3)).alloc (.cells C 44)) D 44;rw [Ai,Ai] at hn;rw [Ai,Ai,Ai] at hm;exact ⟨(h.below.alloc (by rw [Ai,Ai];omega) _).alloc (by rw [Ai,Ai,Ai];omega) _,by rw [Ai,Ai,Ai,Ai];omega,(h.a.alloc _).alloc _,(h.b.alloc _).alloc _,hn.alloc _,hm⟩
theorem KeB.keep {w wx wy:World} {p:C6} {k:Nat} {C D:Array Value} (h:KeB w wx p k C D) (hb:Below wx.heap.size wx wy):KeB w wy p k C D:=⟨h.below.next hb,by have:=hb.size;have:=h.size;omega,h.a.keep hb,h.b.keep hb,h.c.keep hb,h.o.keep hb⟩
theorem KeB.setO {w wx:World} {p:C6} {k:Nat} {C D:Array Value} (h:KeB w wx p k C D) (E:Array Value):KeB w (wx.setRow (w.heap.size+3) E) p k C E:=
 ⟨Ae h.below (by omega) _,by rw [CG];exact h.size,h.a.other (by omega) _,h.b.other (by omega) _,h.c.other (by omega) _,h.o.set _⟩
def AgE (L:List BR) (t:ByteArray) (n:Nat) (w:World) (e:Ending) (w':World):Prop:=∃ (v:Value) (l:List AP),e= .returned (.agg (readC v t))/\Dx l L/\Cb w' w.heap.size v l/\l.length<=n/\(∀ x∈l,x.ws.length<=1000000000)/\Below w.heap.size w w'
theorem Abb (p:C6) (k:Nat) (v:Value) (t:ByteArray) (l:List AP) (L:List BR) (w:World) (hE:GZ w) (hp:Eb w p) (hr:FL w v l) (his:Dx l L) (hn:l.length<=900000000)
  (hg:∀ it∈L,it.right=true->AY it.url/\Bt it.url<=800000000) (hw:∀ x∈l,x.ws.length<=1000000000/\x.url.path.length<=1000000000):
  Calls prog 27 #[.agg (By p),.int .i64 (k:Int),.agg (readC v t)] w (AgE (L.filter (Dm (GL p.schemes.l p.hosts.l p.types.l) k)) t l.length w):=by
 have hmf:∀ (fn:Fn) (first cap:Array Value) (w:World),(Instr.makeFunc fn first cap).run prog w= .ok (.func fn first cap) w:=fun _ _ _ _=>rfl
 have hI:=KeB.start w p k (readC v t) r0;have hch:=H0 (fun (w':World) (hb:KeB w w' p k (readC v t) r0)=>Xf p k v l L w.heap.size (w.heap.size+1) w' (hE.next hb.below) (hp.below hb.below (Nat.le_refl _)) hb.a (hb.b.at 0) (hr.below hb.below (Nat.le_refl _)) his hn hg hw)
 obtain ⟨R,hR⟩:=N2 (L.filter (Dm (GL p.schemes.l p.hosts.l p.types.l) k));rw [hR] at hch⊢;replace hR:=H0 hR;obtain ⟨N,hN⟩:=N2 (l.length);rw [hN] at hch⊢;replace hN:=H0 hN;clear hE hp hr his hg hw;go_enter func27,ntmps27;go_upto_region 1 with (fail)
 refine Ar (R:=fun wx=>KeB w wx p k (readC v t) r0) hI ?_
 clear hI;intro w1 hI;have y0:=(hI.c.at 0).trans (show (readC v t)[0]? =some v from rfl);go_wp2_with fail;refine (hch.out w1 hI).mono ?_;rintro e w2 ⟨v2,l2,rfl,hi2,ho2,hl2,hw2,hb⟩;have hs1:=hI.below.size;have hz1:=hI.size;replace hI:=hI.keep hb;have y1:=(hI.c.at 1).trans (show (readC v t)[1]? =some (.string t) from rfl);obtain ⟨a2,c2,rfl,-,-,-⟩:=ho2.read;replace hi2:=H0 hi2;replace ho2:=H0 ho2;replace hw2:=H0 hw2;clear hb y0 hch
 go_wp2_with (first
  | (refine wpList_buildTo rfl _ _ rfl _ rfl (readC (.slice a2 l2.length c2) t) (by kernel_rfl) ?_)
  | (refine wpList_store_row rfl 44 _ _ rfl (w.heap.size+3) (readC (.slice a2 l2.length c2) t) rfl rfl 44 _ hI.o (CJ _ _) rfl (Gh _ rfl) ?_))
 have hI8:=hI.setO (readC (.slice a2 l2.length c2) t);refine Em rfl rfl rfl hI8.o underlying44 (CJ _ _) ?_;exact ⟨_,l2,rfl,hi2.out,(ho2.out.row (g:=w.heap.size+3) (by omega) _).low hs1,hl2,hw2.out,hI8.below⟩
def BU (k y:Nat) (t:ByteArray):Array Value:= #[.int .i64 (k:Int),.int .i64 (y:Int),.string t]
theorem DF (k y:Nat) (t:ByteArray):(prog.info? 40).map (·.size)=some (BU k y t).size:=by show _=some 3;kernel_rfl
theorem FB (k y:Nat) (t:ByteArray):(BU k y t).all (·.oneCell')=true:=by kernel_rfl
theorem Mj (y:Nat) (w:World):Calls prog 22 #[.int .i64 (y:Int)] w fun e w'=>e= .returned (.agg (BU 2 y ⟨#[]⟩))/\Below w.heap.size w w':=by
 have hb0:Below w.heap.size w (w.alloc (.cells (BU 0 0 ⟨#[]⟩) 40)):=(Below.refl _ _).alloc (Nat.le_refl _) _;have hc0:AJ (w.alloc (.cells (BU 0 0 ⟨#[]⟩) 40)) w.heap.size (BU 0 0 ⟨#[]⟩) 40:=AJ.new _ _ _;go_enter func22,ntmps22;go_upto_region 1 with (fail)
 refine Ar (R:=fun wx=>Below w.heap.size w wx/\AJ wx w.heap.size (BU 0 0 ⟨#[]⟩) 40) ⟨hb0,hc0⟩ ?_
 clear hb0 hc0;rintro w1 ⟨hb1,hc1⟩
 go_wp2_with (first
  | (refine wpList_buildTo rfl _ _ rfl _ rfl (BU 2 y ⟨#[]⟩) (by kernel_rfl) ?_)
  | (refine wpList_store_row rfl 40 _ _ rfl w.heap.size (BU 2 y ⟨#[]⟩) rfl rfl 40 _ hc1 (DF _ _ _) rfl (FB _ _ _) ?_))
 refine Em rfl rfl rfl (hc1.set _) underlying40 (DF _ _ _) ?_;exact ⟨rfl,Ae hb1 (Nat.le_refl _) _⟩
theorem VY (x:AP) (w:World):Calls prog 26 #[.agg (Au x.right x.url x.wv)] w fun e w'=>e= .returned (.bool x.right)/\Below w.heap.size w w':=by
 have hb0:Below w.heap.size w (w.alloc (.cells (Au x.right x.url x.wv) 48)):=(Below.refl _ _).alloc (Nat.le_refl _) _;have hc0:AJ (w.alloc (.cells (Au x.right x.url x.wv) 48)) w.heap.size (Au x.right x.url x.wv) 48:=AJ.new _ _ _;obtain ⟨w0,hw0⟩:∃ w0,w.alloc (.cells (Au x.right x.url x.wv) 48)=w0:=⟨_,rfl⟩;rw [hw0] at hb0 hc0;have x0:=(hc0.at 0).trans (show (Au x.right x.url x.wv)[0]? =some (.bool x.right) from rfl);go_enter func26,ntmps26;go_wp2_with fail;go_ret;exact ⟨rfl,hb0⟩
theorem AbT {L:List BR} {k:Nat} (h:k<L.length):(L.drop k).any (·.right)=(L[k].right || (L.drop (k+1)).any (·.right)):=by rw [List.drop_eq_getElem_cons h,List.any_cons]
theorem QG (v:Value) (l:List AP) (L:List BR) (w:World) (hr:FL w v l) (his:Dx l L) (hn:l.length<=1000000000):
  Calls prog 56 #[v,.func (.func 26) #[] #[]] w fun e w'=>(∃ z:Int,e= .returned (.int .i64 z)/\Hid (decide (z≥0)=L.any (·.right)))/\Below w.heap.size w w':=by
 have hlen:=his.len;obtain ⟨pa,c,rfl,hcap,hrow,hreads⟩:=hr;have hbel0:Below w.heap.size w w:=Below.refl _ _
 obtain ⟨R,hR⟩:∃ R,L.any (·.right)=R:=⟨_,rfl⟩
 rw [hR];replace hR:=H0 hR;replace hrow:=H0 hrow;replace his:=H0 his;replace hlen:=H0 hlen;clear hreads;go_enter func56,ntmps56;go_wp2_with fail
 go_loopw [5,8] (fun v5 iv wr=>∃ k:Nat,iv= .int .i64 (k:Int)/\k<=l.length/\Below w.heap.size w wr/\Hid ((L.drop k).any (·.right)=R)) (fun _ i _=>l.length - (intOf i).toNat)
 case atStart=>exact ⟨0,rfl,Nat.zero_le _,hbel0,by rw [List.drop_zero];exact hR⟩
 case round=>
  obtain ⟨k,rfl,hk,hbel,hg⟩:=hrel;clear hbel0
  by_cases hlt:k<l.length
  ·obtain ⟨g1,o1,rfl,hcell⟩:=hrow.out (by omega)
   have y:=Fu (hcell k hlt) hbel (Nat.le_refl _);have hL:k<L.length:=by rw [<-hlen.out];exact hlt
   have hI:=his.out.get k hlt hL;have hd:=AbT hL;have hgs:=hg.out;rw [hd,<-hI.right] at hgs;obtain ⟨x,hx⟩:=N2 (l[k]);rw [hx] at y hgs;have hltI:(k:Int)<(l.length:Int):=by omega
   have hir:=H0 (fun w=>show Calls prog 26 #[.agg (Dh x).toArray] w fun e w'=>e= .returned (.bool x.right)/\Below w.heap.size w w' from VY x w)
   obtain ⟨b,hb⟩:=N2 (x.right);rw [hb] at hgs hir;replace hb:=H0 hb;replace hx:=H0 hx;replace hgs:=H0 hgs;clear hcell hI hd hL
   cases b with
   | true=>
    have hf:Hid (true=R):=H0 (by have:=hgs.out;simpa using this)
    go_wp2_with (refine wpList_load_mid rfl 48 _ rfl g1 (o1+k * 25) rfl (Dh x) _ y underlying48 rfl (JZ x) ?_);refine (hir.out _).mono ?_;rintro e w3 ⟨rfl,hb3⟩;have hbe3:=hbel.next hb3
    clear hb3 y;go_wp2_with fail;go_ret;exact ⟨⟨(k:Int),rfl,H0 (by rw [<-hf.out,decide_eq_true_eq];omega)⟩,hbe3⟩
   | false=>
    have hnew:Hid ((L.drop (k+1)).any (·.right)=R):=H0 (by have:=hgs.out;simpa using this)
    go_wp2_with (refine wpList_load_mid rfl 48 _ rfl g1 (o1+k * 25) rfl (Dh x) _ y underlying48 rfl (JZ x) ?_);refine (hir.out _).mono ?_;rintro e w3 ⟨rfl,hb3⟩;have hbe3:=hbel.next hb3
    clear hb3 y;go_wp2_with fail;refine ⟨⟨k+1,by go_num,by omega,hbe3,hnew⟩,?_⟩
    simp [intOf];omega
  ·have hltI:(l.length:Int)<=(k:Int):=by omega
   have hf:Hid (false=R):=H0 (by
    have:=hg.out;rw [List.drop_of_length_le (by rw [<-hlen.out];omega)] at this
    exact this)
   go_wp2_with fail;go_ret;exact ⟨⟨-1,rfl,H0 (by rw [<-hf.out];decide)⟩,hbel⟩
theorem Qn (v:Value) (l:List AP) (L:List BR) (w:World) (hr:FL w v l) (his:Dx l L) (hn:l.length<=1000000000):
  Calls prog 25 #[v,.func (.func 26) #[] #[]] w (IY w (L.any (·.right))):=by
 have h:=H0 (QG v l L w hr his hn)
 obtain ⟨R,hR⟩:∃ R,L.any (·.right)=R:=⟨_,rfl⟩
 rw [hR] at h⊢;replace hR:=H0 hR;clear hr his;go_enter func25,ntmps25;go_wp2_with fail;refine h.out.mono ?_;rintro e w1 ⟨⟨z,rfl,hz⟩,hb⟩;have hz2:decide (0<=z)=R:=by rw [<-hz.out]
 cases R with
 | true=>
  have hz3:0<=z:=by simpa using hz2
  go_wp2_with fail;go_ret;exact ⟨rfl,hb⟩
 | false=>
  have hz3:z<0:=by simpa using hz2
  go_wp2_with fail;go_ret;exact ⟨rfl,hb⟩
def Nc (l:List UInt8):List Int:=l.map fun c=>(c.toNat:Int)
theorem ZE (l:List UInt8):Lib.bytesOf (Nc l)=l:=by
 unfold Lib.bytesOf Nc;rw [List.map_map]
 conv=>rhs;rw [<-List.map_id l]
 apply List.map_congr_left;intro c _;simp
theorem Aa9 (l:List UInt8):(Nc l).length=l.length:=by simp [Nc]
theorem Uf (l:List UInt8) (i:Nat) (h:i<l.length):(Nc l).getD i 0=(l[i].toNat:Int):=by
 unfold Nc;rw [List.getD_eq_getElem?_getD,List.getElem?_map,List.getElem?_eq_getElem h];rfl
structure Ed (w:World) (pa:Option Addr) (n c:Nat) (l:List UInt8):Prop extends FV w pa n c l where
 nilC:pa=none->c=0
theorem Ed.below {w w':World} {K:Nat} {pa:Option Addr} {n c:Nat} {l:List UInt8} (h:Ed w pa n c l) (hb:Below K w w') (hK:w.heap.size<=K):Ed w' pa n c l:=⟨h.toFV.below hb hK,h.nilC⟩
theorem NG (s:ByteArray) (w:World):∃ (pa:Addr) (n c:Nat) (w':World),(convert 9 25 (.string s)).run prog w= .ok (.slice (some pa) n c) w'/\Ed w' (some pa) n c s.toList/\Below w.heap.size w w':=by
 have h:=Lib.run_convert_string_bytes (P:=prog) w 9 25 5 s underlying9 underlying25 underlying5;refine ⟨_,_,_,_,h,⟨⟨Aa s,grownCap_ge w s.size 0 _,fun _=>⟨w.heap.size,0,rfl,fun i hi=> ?_⟩⟩,fun h=>(by cases h)⟩,Below.bytesWorld (Below.refl _ _) (Nat.le_refl _) _ s⟩
 rw [Nat.zero_add];exact (LU.made w _ s).cell i hi
theorem Ed.at {w:World} {a:Addr} {n c:Nat} {l:List UInt8} (h:Ed w (some a) n c l):∀ i,i<n->w.cell? (a.add i)=some (.int .u8 ((Nc l).getD i 0)):=fun i hi=>by
 obtain ⟨g,o,e,hc⟩:=h.cells (by omega)
 cases e;have hl:=h.len;rw [Uf l i (by omega)]
 have:=hc i (by omega)
 rw [show (⟨g,o,none⟩:Addr).add i=⟨g,o+i,none⟩ by unfold Addr.add;split<;>simp_all,this]
 rfl
theorem Ed.nil0 {w:World} {n c:Nat} {l:List UInt8} (h:Ed w none n c l):n=0/\c=0/\l=[]:=by
 have hn:n=0:=by
  by_cases h0:0<n
  ·obtain ⟨g,o,e,_⟩:=h.cells h0;cases e
  ·omega
 have hl:=h.len;exact ⟨hn,h.nilC rfl,List.eq_nil_of_length_eq_zero (by omega)⟩
theorem W4 {pa:Option Addr} {n c:Nat} {l:List UInt8} {b2 o2 d:Nat} (w:World) (h:Ed w pa n c l) (hc2:w.cell? ⟨b2,o2,none⟩=some (.int .u8 0)):
  Calls prog 163 #[.slice pa n c,.slice (some ⟨b2,o2,none⟩) 1 d] w fun e w'=>e= .returned (.int .i64 ((l.count 0:Nat):Int))/\w=w':=by
 cases pa with
 | none=>
  obtain ⟨rfl,rfl,rfl⟩:=h.nil0;refine (Tryz.bytes_Count_one_nil b2 o2 d 0 w hc2).mono ?_;rintro e w' ⟨rfl,rfl⟩;exact ⟨rfl,rfl⟩
 | some a=>
  refine (Tryz.bytes_Count_one_at a n c b2 o2 d (Nc l) 0 w (by rw [Aa9,h.len]) h.at hc2).mono ?_
  rintro e w' ⟨rfl,rfl⟩;rw [ZE];exact ⟨rfl,rfl⟩
def Acd (l:List UInt8) (w:World) (e:Ending) (w':World):Prop:=∃ pa n c,e= .returned (.slice pa n c)/\Ed w' pa n c l/\Below w.heap.size w w'
theorem Z4 {w:World} {B:Nat} {v:Value} {l:List UInt8} (h:CA w B 5 v l):∃ pa c,v= .slice pa l.length c/\Ed w pa l.length c l:=by
 have h':=h;rcases h.2 with ⟨rfl,hn⟩ | ⟨g,cap,cur,rfl,hg,hh,hcap,hml,hcs,hcur⟩
 ·have hl:l=[]:=List.eq_nil_of_length_eq_zero hn;subst hl;exact ⟨none,0,rfl,⟨⟨rfl,Nat.le_refl _,fun h0=>absurd h0 (by decide)⟩,fun _=>rfl⟩⟩
 ·refine ⟨some ⟨g,0,none⟩,cap,rfl,⟨⟨rfl,hcap,fun _=>⟨g,0,rfl,fun i hi=> ?_⟩⟩,fun e=>by cases e⟩⟩
  have:=World.ownsRow.cellAt h' i (by omega)
  rw [Nat.zero_add,this];simp [hi]
theorem Afo:∃ i,prog.info? 5=some i/\i.zero=some (.int .u8 0)/\i.size=1/\i.bytes=1:=info_parts (by kernel_rfl)
theorem Tr (pa:Option Addr) (n c:Nat) (l:List UInt8) (gb d:Nat) (pn:Option Addr) (cn:Nat) (w:World) (h:Ed w pa n c l) (hz:n<=1000000000) (hold:w.cell? ⟨gb,0,none⟩=some (.int .u8 0)) (h0:l.count 0=0):
    Calls prog 96 #[.slice pa n c,.slice (some ⟨gb,0,none⟩) 1 d,.slice pn 3 cn,.int .i64 (-1)] w (Acd (GT l) w):=by
  have hcnt:=H0 (W4 (d:=d) w h hold);have hln:=h.len;rw [h0] at hcnt;rw [Aam h0];obtain ⟨bI,hi,hzz,hs1,hb1⟩:=Afo;replace h0:=H0 h0
  cases pa with
  | none=>
    obtain ⟨rfl,rfl,rfl⟩:=h.nil0;have hrun:=fun w=>run_append_owned_none (P:=prog) (w:=w) w.heap.size 25 25 5 bI 1 underlying25 hi (.slice none 0 0) 0 [] (World.ownsRow_nil _ _ _ _)
    clear h hln;go_enter func96,ntmps96;go_wp2_with (go_at_call 163;refine hcnt.out.mono ?_;rintro e w' ⟨rfl,rfl⟩);go_ret;exact ⟨none,0,0,rfl,⟨⟨rfl,Nat.le_refl _,fun h0=>absurd h0 (by decide)⟩,fun _=>rfl⟩,Below.refl _ _⟩
  | some ad=>
    have hnews:∀ j u,(l.map DC)[j]? =some u->w.cell? (ad.add j)=some u:=fun j u hj=>by
      have hjl:=(List.getElem?_eq_some_iff.1 hj).1;rw [List.length_map] at hjl;have:=h.at j (by omega)
      rw [this];rw [List.getElem?_map,List.getElem?_eq_getElem hjl] at hj;rw [<-Option.some.inj hj,Uf l j hjl];rfl
    have hone:∀ u∈l.map DC,u.oneCell'=true:=by
      intro u hu;obtain ⟨c,-,rfl⟩:=List.mem_map.1 hu;rfl
    replace hnews:=H0 hnews;replace hone:=H0 hone;clear h;go_enter func96,ntmps96
    go_wp2_with (first
      | (go_at_call 163;refine hcnt.out.mono ?_;rintro e w' ⟨rfl,rfl⟩)
      | (refine wpList_append_own w rfl _ _ 25 rfl w.heap.size 5 bI _ 1 1 underlying25 hi hzz hs1 hb1 rfl (by decide) (.slice none 0 0) 0 [] rfl (World.ownsRow_nil _ _ _ _) ad n c (l.map DC) rfl (by rw [List.length_map];omega) hnews.out hone.out (by unfold maxLen;omega) (by omega) (Nat.le_refl _) ?_
         intro v' w' hown hgr _
         have hown2:CA w' w.heap.size 5 v' l:=by
           unfold CA;rw [hln];rw [Nat.zero_add,List.nil_append] at hown;exact hown
         have hbel:Below w.heap.size w w':=(Below.refl _ _).grown hgr (Nat.le_refl _) (fun k hk=>by cases hk)
         obtain ⟨pv,cv,rfl,hbn⟩:=Z4 hown2;rw [hln] at hbn;clear hown hgr hown2
         replace hbn:=H0 hbn))
    go_ret;exact ⟨_,_,_,rfl,hbn.out,hbel⟩
theorem Of (pa:Option Addr) (n c:Nat) (l:List UInt8) (gb d:Nat) (pn:Option Addr) (cn:Nat) (w:World) (h:Ed w pa n c l) (hz:n<=1000000000) (hold:w.cell? ⟨gb,0,none⟩=some (.int .u8 0)) (h0:l.count 0=0):
  Calls prog 48 #[.slice pa n c,.slice (some ⟨gb,0,none⟩) 1 d,.slice pn 3 cn] w (Acd (GT l) w):=by
 have hr:=H0 (Tr pa n c l gb d pn cn w h hz hold h0);clear h;go_enter func48,ntmps48;go_wp2_with fail;refine hr.out.mono ?_;rintro e w1 ⟨pv,nv,cv,rfl,hb,hbel⟩;replace hb:=H0 hb;go_wp2_with fail;go_ret;exact ⟨_,_,_,rfl,hb.out,hbel⟩
def YK (l:List UInt8):Prop:=∀ (pa:Option Addr) (n c gb d:Nat) (pn:Addr) (cn:Nat) (w:World),Ed w pa n c l->n<=1000000000->w.cell? ⟨gb,0,none⟩=some (.int .u8 0)->Ed w (some pn) 3 cn IX->Calls prog 48 #[.slice pa n c,.slice (some ⟨gb,0,none⟩) 1 d,.slice (some pn) 3 cn] w (Acd (GT l) w)
theorem K8 {l:List UInt8} (h0:l.count 0=0):YK l:=fun pa n c gb d pn cn w h hz hold _=>Of pa n c l gb d (some pn) cn w h hz hold h0
theorem Z9 (pa:Option Addr) (n c:Nat) (l:List UInt8) (w:World) (h:Ed w pa n c l) (hz:n<=1000000000) (hra:YK l) (hE:GZ w) (hzd:(GT l).length<=1000000000) (hzt:(FY (GT l)).length<=1000000000):
  Calls prog 19 #[.slice pa n c] w (Cy w (A7 l)):=by
 have hb1:Below w.heap.size w (w.alloc (.cells #[.int .u8 0] 5)):=(Below.refl _ _).alloc (Nat.le_refl _) _;have hc1:(w.alloc (.cells #[.int .u8 0] 5)).cell? ⟨w.heap.size,0,none⟩=some (.int .u8 0):=(AJ.new w #[.int .u8 0] 5).at 0;have hn1:=h.below hb1 (Nat.le_refl _);obtain ⟨g,hg⟩:=N2 (w.heap.size);obtain ⟨w1,hw1⟩:∃ w1,w.alloc (.cells #[.int .u8 0] 5)=w1:=⟨_,rfl⟩;rw [hw1] at hb1 hc1 hn1;rw [hg] at hc1;have hE':=H0 hE;have hV:Hid (A7 l=TH (FY (GT l))):=rfl;obtain ⟨V,hVV⟩:=N2 (A7 l);rw [hVV] at hV⊢;replace hVV:=H0 hVV;have h3:(Bj 65533).length=3:=by decide+kernel
 clear h hE;go_enter func19,ntmps19;go_wp2_with fail;refine (JI 65533 (by decide) _).mono ?_
 rintro e w2 ⟨t,rfl,ht,rfl⟩;have htz:t.size=3:=by rw [<-Aa,ht.out,h3]
 obtain ⟨pn,nn,cn,w3,hconv,hbr,hb3⟩:=NG t w1;obtain rfl:nn=3:=by have:=hbr.len;rw [Aa,htz] at this;exact this.symm
 have hb13:Below w.heap.size w w3:=hb1.next hb3
 have hn3:=hn1.below hb3 (Nat.le_refl _)
 have hc3:w3.cell? ⟨g,0,none⟩=some (.int .u8 0):=by
  have hlt:=World.block_lt_of_cell? w1 _ hc1;rw [hb3.cell hlt];exact hc1
 rw [ht.out,show Bj 65533=IX by decide+kernel] at hbr
 have hr:=H0 (hra pa n c g 1 pn cn w3 hn3 hz hc3 hbr);clear hb3 hbr hn1 hn3 hc1 hc3 ht htz hb1 hw1;replace hra:=H0 hra;go_wp2_with fail;refine hr.out.mono ?_;rintro e w4 ⟨pv,nv,cv,rfl,hbn,hb4⟩;have hb14:Below w.heap.size w w4:=hb13.next hb4
 have hnv:=hbn.len;have hd:=H0 (Js pv nv cv (GT l) w4 hbn.toFV (by omega) (hE'.out.next hb14).utf)
 clear hb4 hb13 hbn hr hconv;go_wp2_with fail;refine hd.out.mono ?_;rintro e w5 ⟨td,rfl,htd,hb5⟩;have hb15:=hb14.next hb5
 have hz5:td.size<=1000000000:=by rw [<-Aa,htd.out];exact hzt
 clear hb5 hd hb14;go_wp2_with fail;refine (Q8 td w5 hz5).mono ?_;rintro e w6 ⟨tv,rfl,htv,hb6⟩;have hfin:Hid (tv.toList=V):=H0 (by rw [htv.out,htd.out,hV.out])
 have hb16:=hb15.next hb6
 clear hb6 hb15;go_wp2_with fail;go_ret;exact ⟨_,rfl,hfin,hb16⟩
def SS (k:Nat) (B:Al) (b:Aq) (V:List UInt8):Prop:=∀ (s:ByteArray) (w:World),s.toList=V->GZ w->DI w B b->Calls prog 55 #[.int .i64 (k:Int),.agg (Ab B),.string s] w (Oo (Bi k b V) w)
theorem XO (k:Nat) (B:Al) (b:Aq) (pa:Option Addr) (n c:Nat) (l:List UInt8) (w:World) (hE:GZ w) (hB:DI w B b) (h:Ed w pa n c l) (hz:n<=1000000000) (hra:YK l) (hzd:(GT l).length<=1000000000) (hzt:(FY (GT l)).length<=1000000000) (hia:SS k B b (A7 l)):
  Calls prog 24 #[.int .i64 (k:Int),.agg (Ab B),.slice pa n c] w (Oo (Bi k b (A7 l)) w):=by
 have hI:=Mn.start w (Ab B) 34 r0 44;have hval:=H0 (fun w h hE=>Z9 pa n c l w h hz hra hE hzd hzt)
 have hit:=H0 hia;have hE':=H0 hE;have hB':=H0 hB;have hbn:=H0 h;clear hE hB h hia;obtain ⟨R,hR⟩:=N2 (Bi k b (A7 l));rw [hR];unfold SS at hit;rw [hR] at hit;replace hR:=H0 hR;go_enter func24,ntmps24;go_upto_region 1 with (fail)
 refine Ar (R:=fun wx=>Mn w wx (Ab B) 34 r0 44) hI ?_
 clear hI;intro w1 hI;replace hI:=hI.drew;refine wp_region_noPanic ?_;refine wp_region_held_drew (S:=fun w'=>AJ w' w.heap.size (Ab B) 34) (by kernel_rfl) (hI.a) (fun hHeld=> ?_)
 refine T0 0 7 ?_ hHeld ?_ ?_;rotate_left
 ·intro w hSw;(try dsimp only at hSw);go_simp;try with_reducible rfl
 try simp only [P3]
 refine T0 2 9 ?_ hHeld ?_ ?_;rotate_left
 ·intro w hSw;(try dsimp only at hSw);go_simp;try with_reducible rfl
 try simp only [P3]
 refine wpAnyH_take (i:=1) (oi:=⟨some 8,_,_,_,_,_⟩) (v:= .agg (Ab B).toList.toArray) rfl (by kernel_rfl) (by kernel_rfl) (by kernel_rfl) (fun _ _ _ h=>h) (yieldsIf_load_mid (by rfl) 34 _ rfl w.heap.size 0 rfl (Ab B).toList _ (fun _ h=>h.whole) underlying34 rfl Fv) hHeld ?_
 try simp only [P3]
 refine wpAnyH_ready (rs:=[3]) (by kernel_rfl) (by simp) ?_
 refine AllReadyH.cons rfl (fun K hK=> ?_) AllReadyH.nil
 go_simp;refine (hval.out _ (hbn.out.below hI.below (Nat.le_refl _)) (hE'.out.next hI.below)).mono ?_
 rintro e w2 ⟨t,rfl,ht,hb⟩;replace hI:=hI.keep hb;clear hb hHeld;go_wp2_with fail;refine hK.out _ _ (hI.a) (fun hHeld=> ?_)
 clear hK K
 try simp only [P3]
 refine wpAnyH_ready (rs:=[4]) (by kernel_rfl) (by simp) ?_
 refine AllReadyH.cons rfl (fun K hK=> ?_) AllReadyH.nil
 go_simp;refine (hit.out t _ ht.out (hE'.out.next hI.below) (hB'.out.next hI.below)).mono ?_
 rintro e w3 ⟨v,hl,d,rfl,his,hd,ho,hb⟩;have hlt:=hI.b.lt;have hs2:=hI.below.size;replace hI:=hI.keep hb;have hv1:=ho.one;replace his:=H0 his;replace ho:=H0 ho;clear hb hHeld;go_wp2_with fail;refine hK.out _ _ (hI.a) (fun hHeld=> ?_)
 clear hK K
 try simp only [P3]
 refine wpAnyH_ready (rs:=[5]) (by kernel_rfl) (by simp) ?_
 refine AllReadyH.cons rfl (fun K hK=> ?_) AllReadyH.nil
 refine AO (by kernel_rfl) (fun Q' hQ'=> ?_)
 refine wpList_store_row rfl 44 _ _ rfl (w.heap.size+1) (readC v d) rfl rfl 44 _ hI.b (CJ _ _) rfl (Gh _ hv1) ?_;replace hI:=hI.setB (readC v d);refine hQ' _ _ ?_;refine hK.out _ _ (hI.a) (fun hHeld=> ?_)
 clear hK K hQ' Q'
 try simp only [P3]
 refine wpAnyH_done (by kernel_rfl) ?_ _
 refine NoPanic.normal ?_;go_wp2_with fail;refine Em rfl rfl rfl hI.b underlying44 (CJ _ _) ?_;exact ⟨v,hl,d,rfl,his.out,hd,(ho.out.row hlt _).low hs2,hI.below⟩
theorem JH:∀ (xs ys:List Nat),xs.length=ys.length->((List.range xs.length).all fun i=>decide (xs.getD i 0=ys.getD i 0))=decide (xs=ys)
 | [],[],_=>rfl
 | x :: xs,y :: ys,h=>by
  have ih:=JH xs ys (by simpa using h)
  rw [List.length_cons,List.range_succ_eq_map,List.all_cons,List.all_map];simp only [List.getD_cons_zero,Function.comp_def,List.getD_cons_succ,ih];rw [Bool.eq_iff_iff];simp
 | [],_ :: _,h=>by simp at h
 | _ :: _,[],h=>by simp at h
theorem M3 (d:Nat) (w:World) (xs ys:List Nat) (hx:xs.length=8) (hy:ys.length=8):
  (Op.equalIn (d+2) 30 (.agg (AV xs)) (.agg (AV ys))).run prog w= .ok (decide (xs=ys)) w:=by
 have he:=underlying29;have hsz:∀ w,(sizeOf 29).run prog w= .ok 1 w:=fun w=>by simp [Tryz.sizeOf29]
 rw [<-JH xs ys (hx.trans hy.symm),hx,List.range_eq_range',Op.equalIn];simp only [Sem.run_bind,run_underlying underlying30,Result.andThen_ok,hsz,Std.Legacy.Range.forIn_eq_forIn_range',Std.Legacy.Range.size,Nat.sub_zero,Nat.add_sub_cancel,Nat.div_one];have hl:∀ i∈List.range' 0 8 1,i<8:=fun i hi=>by simpa using (List.mem_range'_1.1 hi).2
 generalize List.range' 0 8 1=l at hl⊢
 induction l with
 | nil=>simp
 | cons i l ih=>
  have hi:i<8:=hl i (by simp)
  have px:(part 29 (AV xs) (i * 1)).run prog w= .ok (.int .u16 (xs.getD i 0:Nat)) w:=by
   simp [part,isAgg,run_underlying he,AV,List.getD,List.getElem?_eq_getElem (show i<xs.length by omega)]
  have py:(part 29 (AV ys) (i * 1)).run prog w= .ok (.int .u16 (ys.getD i 0:Nat)) w:=by
   simp [part,isAgg,run_underlying he,AV,List.getD,List.getElem?_eq_getElem (show i<ys.length by omega)]
  have pe:(Op.equalIn (d+1) 29 (.int .u16 (xs.getD i 0:Nat)) (.int .u16 (ys.getD i 0:Nat))).run prog w= .ok (decide (xs.getD i 0=ys.getD i 0)) w:=by
   rw [run_equalIn_int w d 29 .u16 .u16 _ _ he];congr 1;rw [Bool.eq_iff_iff];simp;omega
  simp only [List.forIn_cons,Sem.run_bind,px,py,pe,Result.andThen_ok,List.all_cons];cases hb:decide (xs.getD i 0=ys.getD i 0)
  ·simp
  ·simp only [Bool.not_true,Bool.false_eq_true,if_false,Sem.run_pure,Result.andThen_ok,Bool.true_and];exact ih fun j hj=>hl j (by simp [hj])
theorem Ad1 (h:CL):AV [pc h.six 0,pc h.six 1,pc h.six 2,pc h.six 3,pc h.six 4,pc h.six 5,pc h.six 6,pc h.six 7]= #[.int .u16 ((pc h.six 0:Nat):Int),.int .u16 ((pc h.six 1:Nat):Int),.int .u16 ((pc h.six 2:Nat):Int),.int .u16 ((pc h.six 3:Nat):Int),.int .u16 ((pc h.six 4:Nat):Int),.int .u16 ((pc h.six 5:Nat):Int),.int .u16 ((pc h.six 6:Nat):Int),.int .u16 ((pc h.six 7:Nat):Int)]:=rfl
theorem MF (w:World) (h:CL):(Op.equalIn 10000 32 (.agg (An h)) (.agg (An h))).run prog w= .ok true w:=by
 have hf:(prog.fieldsOf 32).toList=[{ name:= "Kind",type:=3,offset:=0,embedded:=false,tag:= "",pkgPath:= "",byteOffset:=0 },{ name:= "Name",type:=9,offset:=1,embedded:=false,tag:= "",pkgPath:= "",byteOffset:=8 },{ name:= "Four",type:=28,offset:=2,embedded:=false,tag:= "",pkgPath:= "",byteOffset:=24 },{ name:= "Six",type:=30,offset:=3,embedded:=false,tag:= "",pkgPath:= "",byteOffset:=28 }]:=by kernel_rfl
 have hu:prog.underlying 32=some (.struct (prog.fieldsOf 32)):=by kernel_rfl
 have h6:∀ w,(Op.equalIn 9999 30 (.agg (AV [pc h.six 0,pc h.six 1,pc h.six 2,pc h.six 3,pc h.six 4,pc h.six 5,pc h.six 6,pc h.six 7])) (.agg (AV [pc h.six 0,pc h.six 1,pc h.six 2,pc h.six 3,pc h.six 4,pc h.six 5,pc h.six 6,pc h.six 7]))).run prog w= .ok true w:=fun w=>by
  have:=M3 9997 w [pc h.six 0,pc h.six 1,pc h.six 2,pc h.six 3,pc h.six 4,pc h.six 5,pc h.six 6,pc h.six 7] [pc h.six 0,pc h.six 1,pc h.six 2,pc h.six 3,pc h.six 4,pc h.six 5,pc h.six 6,pc h.six 7] rfl rfl;rw [decide_eq_true rfl] at this;exact this
 rw [show (10000:Nat)=9999+1 from rfl,run_equalIn_struct w 9999 _ _ _ hu (by kernel_rfl),hf]
 rw [Ad1] at h6;have p0:∀ w,(part 3 (An h) 0).run prog w= .ok (.int .i64 h.kind) w:=fun w=>by simp [part,isAgg,run_underlying underlying3,An]
 have p1:∀ w,(part 9 (An h) 1).run prog w= .ok (.string h.name) w:=fun w=>by simp [part,isAgg,run_underlying underlying9,An]
 have p2:∀ w,(part 28 (An h) 2).run prog w= .ok (.int .u32 (h.four:Int)) w:=fun w=>by simp [part,isAgg,run_underlying underlying28,An]
 have p3:∀ w,(part 30 (An h) 3).run prog w= .ok (.agg #[.int .u16 ((pc h.six 0:Nat):Int),.int .u16 ((pc h.six 1:Nat):Int),.int .u16 ((pc h.six 2:Nat):Int),.int .u16 ((pc h.six 3:Nat):Int),.int .u16 ((pc h.six 4:Nat):Int),.int .u16 ((pc h.six 5:Nat):Int),.int .u16 ((pc h.six 6:Nat):Int),.int .u16 ((pc h.six 7:Nat):Int)]) w:=fun w=>by
  kernel_rfl
 have q0:∀ w,(Op.equalIn 9999 3 (.int .i64 h.kind) (.int .i64 h.kind)).run prog w= .ok true w:=fun w=>by rw [show (9999:Nat)=9998+1 from rfl,run_equalIn_int w 9998 _ _ _ _ _ underlying3];simp
 have q2:∀ w,(Op.equalIn 9999 28 (.int .u32 (h.four:Int)) (.int .u32 (h.four:Int))).run prog w= .ok true w:=fun w=>by rw [show (9999:Nat)=9998+1 from rfl,run_equalIn_int w 9998 _ _ _ _ _ underlying28];simp
 have q1:∀ w,(Op.equalIn 9999 9 (.string h.name) (.string h.name)).run prog w= .ok true w:=fun w=>by rw [show (9999:Nat)=9998+1 from rfl,run_equalIn_string w 9998 _ _ _ underlying9];simp
 simp [Op.eqFields,p0,p1,p2,p3,q0,q1,q2,h6,Result.andThen]
theorem Xt (pa pb:Option Addr) (c d:Nat) (l:List ByteArray) (w:World) (h1:DJ w pa l.length c l) (h2:DJ w pb l.length d l) (hn:l.length<=1000000000):
  Calls prog 101 #[.slice pa l.length c,.slice pb l.length d] w fun e w'=>e= .returned (.bool true)/\Below w.heap.size w w':=by
 by_cases h0:l.length=0
 ·rw [h0];refine (Tryz.slices_Equal_string_empty pa pb c 0 d w (by decide)).mono ?_
  rintro e w' ⟨rfl,rfl⟩;exact ⟨rfl,Below.refl _ _⟩
 ·obtain ⟨a1,c1,hv,hc⟩:=h1.read;cases hv;obtain ⟨a2,c2,hv,hd⟩:=h2.read;cases hv;obtain ⟨g,o,rfl,hcc⟩:=hc (by omega)
  obtain ⟨g2,o2,rfl,hdd⟩:=hd (by omega)
  have hz:∀ j (hj:j<l.length),l.getD j ByteArray.empty=l[j]:=fun j hj=>by rw [List.getD_eq_getElem?_getD,List.getElem?_eq_getElem hj];rfl
  refine (Tryz.slices_Equal_string g o l.length c g2 o2 l.length d l l w (Nat.le_refl _) (Nat.le_refl _) (by omega) (by omega) (fun j hj=>by rw [hcc j hj,hz j hj]) (fun j hj=>by rw [hdd j hj,hz j hj])).mono ?_
  rintro e w' ⟨rfl,q,rfl⟩;refine ⟨by rw [decide_eq_true rfl],below_drewN (Below.refl _ _) q⟩
theorem TL:prog.eqGuardType prog.depth 32=false:=by kernel_rfl
theorem Aa8 (S:Al) (pa:Option Addr) (c:Nat) (w:World) (h1:DJ w S.pathA S.path.length S.pathC S.path) (h2:DJ w pa S.path.length c S.path) (hn:S.path.length<=1000000000):
  Calls prog 54 #[.agg (Ab S),.agg (Ab (Ak S pa c S.path))] w (IY w true):=by
 have hI:=Mn.start w (Ab S) 34 (Ab (Ak S pa c S.path)) 34;obtain ⟨w0,hw0⟩:∃ w0,(w.alloc (.cells (Ab S) 34)).alloc (.cells (Ab (Ak S pa c S.path)) 34)=w0:=⟨_,rfl⟩;rw [hw0] at hI;have heq:=H0 (fun w' (hb:Below w.heap.size w w')=>Xt S.pathA pa S.pathC c S.path w' (h1.below hb (Nat.le_refl _)) (h2.below hb (Nat.le_refl _)) hn)
 have hgd:=TL;have hq:=fun w=>MF w S.host
 have r1:=hI.a.host;have r2:=hI.b.host;have x0:=(hI.a.at 0).trans (show (Ab S)[0]? =some (.string S.scheme) from rfl);have x1:=(hI.a.at 1).trans (show (Ab S)[1]? =some (.string S.user) from rfl);have x2:=(hI.a.at 2).trans (show (Ab S)[2]? =some (.string S.pass) from rfl);have x14:=(hI.a.at 14).trans (show (Ab S)[14]? =some (.bool S.hasPort) from rfl);have x15:=(hI.a.at 15).trans (show (Ab S)[15]? =some (.int .i64 S.port) from rfl);have x16:=(hI.a.at 16).trans (show (Ab S)[16]? =some (.bool S.flatP) from rfl);have x17:=(hI.a.at 17).trans (show (Ab S)[17]? =some (.string S.flat) from rfl);have x18:=(hI.a.at 18).trans (show (Ab S)[18]? =some (.slice S.pathA S.path.length S.pathC) from rfl);have y0:=(hI.b.at 0).trans (show (Ab (Ak S pa c S.path))[0]? =some (.string S.scheme) from rfl);have y1:=(hI.b.at 1).trans (show (Ab (Ak S pa c S.path))[1]? =some (.string S.user) from rfl);have y2:=(hI.b.at 2).trans (show (Ab (Ak S pa c S.path))[2]? =some (.string S.pass) from rfl);have y14:=(hI.b.at 14).trans (show (Ab (Ak S pa c S.path))[14]? =some (.bool S.hasPort) from rfl);have y15:=(hI.b.at 15).trans (show (Ab (Ak S pa c S.path))[15]? =some (.int .i64 S.port) from rfl);have y16:=(hI.b.at 16).trans (show (Ab (Ak S pa c S.path))[16]? =some (.bool S.flatP) from rfl);have y17:=(hI.b.at 17).trans (show (Ab (Ak S pa c S.path))[17]? =some (.string S.flat) from rfl);have y18:=(hI.b.at 18).trans (show (Ab (Ak S pa c S.path))[18]? =some (.slice pa S.path.length c) from rfl);clear h1 h2;go_enter func54,ntmps54;go_upto_region 1 with (fail)
 clear hw0;refine wp_region_lit ?_;simp only [List.append]
 go_wp2_with (first
  | (refine AH (by rfl) ?_;refine wpList_load_mid rfl 32 _ rfl w.heap.size 3 rfl (An S.host).toList _ r1 underlying32 rfl (Gv _) ?_)
  | (refine AH (by rfl) ?_;refine wpList_load_mid rfl 32 _ rfl (w.heap.size+1) 3 rfl (An S.host).toList _ r2 underlying32 rfl (Gv _) ?_))
 refine (heq.out w0 hI.below).mono ?_;rintro e w3 ⟨rfl,hb⟩;replace hI:=hI.keep hb;clear hb x0 x1 x2 x14 x15 x16 x17 x18 y0 y1 y2 y14 y15 y16 y17 y18 r1 r2;have x19:=(hI.a.at 19).trans (show (Ab S)[19]? =some (.bool S.hasQuery) from rfl);have x20:=(hI.a.at 20).trans (show (Ab S)[20]? =some (.string S.query) from rfl);have x21:=(hI.a.at 21).trans (show (Ab S)[21]? =some (.bool S.hasFrag) from rfl);have x22:=(hI.a.at 22).trans (show (Ab S)[22]? =some (.string S.frag) from rfl);have y19:=(hI.b.at 19).trans (show (Ab (Ak S pa c S.path))[19]? =some (.bool S.hasQuery) from rfl);have y20:=(hI.b.at 20).trans (show (Ab (Ak S pa c S.path))[20]? =some (.string S.query) from rfl);have y21:=(hI.b.at 21).trans (show (Ab (Ak S pa c S.path))[21]? =some (.bool S.hasFrag) from rfl);have y22:=(hI.b.at 22).trans (show (Ab (Ak S pa c S.path))[22]? =some (.string S.frag) from rfl);go_wp2_with fail;go_ret;exact ⟨rfl,hI.below⟩
theorem AdA {S T:Al} {u:Aq} (h:Gt S u) (h2:Gt T u):T=Ak S T.pathA T.pathC S.path:=by
 have e:∀ {a b:ByteArray} {l:List UInt8},a.toList=l->b.toList=l->b=a:=fun h h'=>Df (h'.trans h.symm)
 have hp:T.path=S.path:=by
  have:T.path.map (·.toList)=S.path.map (·.toList):=h2.path.trans h.path.symm
  exact List.map_inj_right (fun a b hab=>Df hab) |>.1 this
 cases T;unfold Ak;simp only [Al.mk.injEq];exact ⟨e h.scheme h2.scheme,e h.user h2.user,e h.pass h2.pass,h2.host.trans h.host.symm,h2.hasPort.trans h.hasPort.symm,h2.port.trans h.port.symm,h2.opq.trans h.opq.symm,e h.flat h2.flat,trivial,trivial,hp,h2.hasQuery.trans h.hasQuery.symm,e h.query h2.query,h2.hasFrag.trans h.hasFrag.symm,e h.frag h2.frag⟩
theorem Abm (S:Al) (u:Aq) (w:World) (hE:GZ w) (hS:DI w S u) (g:AY u) (hz:Bt u<=1090000):Calls prog 23 #[.agg (Ab S)] w (IY w true):=by
 have hb0:Below w.heap.size w (w.alloc (.cells (Ab S) 34)):=(Below.refl _ _).alloc (Nat.le_refl _) _;have hc0:AJ (w.alloc (.cells (Ab S) 34)) w.heap.size (Ab S) 34:=AJ.new _ _ _;have hlen:=DQ g true;have hfit:=H0 (EF hS.is g (by omega))
 have hwr:=H0 (EG hS.is true);have hpw:=H0 (UY g);have hzp:=I1 u.path
 have hzn:S.path.length<=1000000000:=by
  have:S.path.length=u.path.length:=by rw [<-hS.is.path,List.length_map]
  rw [this];unfold Bt at hz;omega
 obtain ⟨w0,hw0⟩:∃ w0,w.alloc (.cells (Ab S) 34)=w0:=⟨_,rfl⟩;rw [hw0] at hb0 hc0;replace hS:=H0 hS;replace hE:=H0 hE;go_enter func23,ntmps23;go_wp2_with (refine wpList_load_row rfl 34 _ rfl w.heap.size rfl 34 (Ab S) _ _ hc0 underlying34 rfl (Ac _) ?_);clear hw0;refine (Gj S true w0 (hS.out.below hb0 (Nat.le_refl _)).inn hfit.out (hE.out.next hb0).tabs).mono ?_
 rintro e w1 ⟨t,rfl,ht,hb1⟩;have hb2:=hb0.next hb1
 have hc2:=hc0.keep hb1;have htz:t.size<=1100000:=by rw [<-Aa,ht.out,hwr.out];omega
 have htp:Dz t.toList=some u:=by rw [ht.out,hwr.out];exact hpw.out
 clear hb0 hc0 hb1;go_wp2_with fail;have hpp:=K6 t w1 (hE.out.next hb2) htz
 rw [htp] at hpp;refine hpp.mono ?_;rintro e w2 ⟨T,rfl,hu,hb3⟩;clear hpp htp;have hb4:=hb2.next hb3
 have hc4:=hc2.keep hb3;have hs4:=hb4.size;have hT:Hid (S=Ak T S.pathA S.pathC T.path):=H0 (AdA hu.is hS.out.is);have hTw:=hu.w;clear hb2 hc2 hb3;have hb5:Below w.heap.size w (w2.alloc (.cells (Ab T) 34)):=hb4.alloc hs4 _;have hc5:AJ (w2.alloc (.cells (Ab T) 34)) w.heap.size (Ab S) 34:=hc4.alloc _;have hn5:AJ (w2.alloc (.cells (Ab T) 34)) w2.heap.size (Ab T) 34:=AJ.new _ _ _;have hT5:DI (w2.alloc (.cells (Ab T) 34)) T u:=hTw.below ((Below.refl w2.heap.size w2).alloc (Nat.le_refl _) _) (Nat.le_refl _);obtain ⟨w5,hw5⟩:∃ w5,w2.alloc (.cells (Ab T) 34)=w5:=⟨_,rfl⟩;go_upto_region 2 with (refine Ag rfl 34 _ _ rfl rfl (Ab T) _ _ _ rfl (by simp) rfl (Ac _) rfl (As _) ?_)
 rw [hw5] at hb5 hc5 hn5 hT5⊢;clear hw5 hTw hb4 hc4
 go_wp2_with (first
  | (refine wpList_load_row rfl 34 _ rfl w.heap.size rfl 34 (Ab S) _ _ hc5 underlying34 rfl (Ac _) ?_)
  | (refine AH (by rfl) ?_;refine wpList_load_row rfl 34 _ rfl w.heap.size rfl 34 (Ab S) _ _ hc5 underlying34 rfl (Ac _) ?_)
  | (refine AH (by rfl) ?_;refine wpList_load_row rfl 34 _ rfl w2.heap.size rfl 34 (Ab T) _ _ hn5 underlying34 rfl (Ac _) ?_))
 have hp:S.path=T.path:=(congrArg Al.path hT.out).trans rfl
 have h2:DJ w5 S.pathA T.path.length S.pathC T.path:=by
  have:=hS.out.path.below hb5 (Nat.le_refl _)
  rwa [hp] at this
 have hsame:=Aa8 T S.pathA S.pathC w5 hT5.path h2 (by rw [<-hp];exact hzn)
 rw [<-hT.out] at hsame;refine hsame.mono ?_;rintro e w6 ⟨rfl,hb6⟩;replace hb5:=hb5.next hb6
 clear hsame hp h2 hb6;go_wp2_with fail;go_ret;exact ⟨rfl,hb5⟩
end Go.Proofs.YtonomfeipkdmhaaGreatDoor
