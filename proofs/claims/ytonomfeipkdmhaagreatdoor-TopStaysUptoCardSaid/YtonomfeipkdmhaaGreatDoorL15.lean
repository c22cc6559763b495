/- Part 15: lemmas. -/
import Derived.Test.YtonomfeipkdmhaaGreatDoorL14
import Derived.Lib.AppendIntMem
set_option linter.unusedVariables false
set_option linter.unusedSimpArgs false
set_option maxRecDepth 100000
set_option maxHeartbeats 16000000
namespace Go.Proofs.YtonomfeipkdmhaaGreatDoor
open Go.RowKit
theorem Wp {s n:List UInt8} (h:CG s=some n):n.length<=2988 * s.length+1:=by
 unfold CG at h;split at h
 ·cases h
 ·rename_i t ht;rw [Option.map_eq_some_iff] at h;obtain ⟨q,hq,rfl⟩:=h;have h1:=Ip ht;have h2:=Mo s;have h3:=KX hq;have h4:=Jw t;have h5:=Kk q;omega
theorem AbV (c:UInt8):(EV c=true/\Jb c=true)\/(EV c=false/\(c.toNat:Int)<32/\Jb c=true)\/(EV c=false/\(32:Int)<=(c.toNat:Int)/\((c.toNat:Int)==37)=true/\Jb c=true)\/(EV c=false/\(32:Int)<=(c.toNat:Int)/\((c.toNat:Int)==37)=false/\((c.toNat:Int)==127)=true/\Jb c=true)\/(EV c=false/\(32:Int)<=(c.toNat:Int)/\((c.toNat:Int)==37)=false/\((c.toNat:Int)==127)=false/\Jb c=false):=by
 have h32:decide (c<32)=decide (c.toNat<32):=decide_eq_decide.2 (by rw [UInt8.lt_iff_toNat_lt];rfl)
 have e37:(c==37)=((c.toNat:Int)==37):=by
  by_cases h:c=37
  ·subst h;rfl
  ·rw [beq_eq_false_iff_ne.2 h,Eq.comm,beq_eq_false_iff_ne]
   intro e;exact h (UInt8.toNat_inj.1 (by have:(37:UInt8).toNat=37:=rfl;omega))
 have e127:(c==127)=((c.toNat:Int)==127):=by
  by_cases h:c=127
  ·subst h;rfl
  ·rw [beq_eq_false_iff_ne.2 h,Eq.comm,beq_eq_false_iff_ne]
   intro e;exact h (UInt8.toNat_inj.1 (by have:(127:UInt8).toNat=127:=rfl;omega))
 have hN:Jb c=(EV c || decide (c.toNat<32) || ((c.toNat:Int)==37) || ((c.toNat:Int)==127)):=by unfold Jb;rw [h32,e37,e127]
 rw [hN];generalize EV c=b;generalize hb3:((c.toNat:Int)==127)=b3;generalize hb2:((c.toNat:Int)==37)=b2;clear hN h32 e37 e127
 by_cases h:c.toNat<32
 ·rw [decide_eq_true h];cases b
  ·exact .inr (.inl ⟨rfl,Qa,Qf⟩)
  ·exact .inl ⟨rfl,Qf⟩
 ·rw [decide_eq_false h];have hI:(32:Int)<=(c.toNat:Int):=Qa;cases b
  ·cases b2
   ·cases b3
    ·exact .inr (.inr (.inr (.inr ⟨rfl,hI,rfl,rfl,rfl⟩)))
    ·exact .inr (.inr (.inr (.inl ⟨rfl,hI,rfl,rfl,rfl⟩)))
   ·exact .inr (.inr (.inl ⟨rfl,hI,rfl,Qf⟩))
  ·exact .inl ⟨rfl,Qf⟩
theorem X3 {n:List UInt8} {t:ByteArray} (h:t.toList=n):An (.name n)=⟨2,t,0,z8⟩:=by rw [Mx h];rfl
theorem Sw (s:ByteArray) (w:World) (hE:Gu w) (hz:s.size<=1100000):Calls Tryz.prog 304 #[.string s] w (Kq (KK s.toList) w):=by
 obtain ⟨R,hR⟩:=N2 (KK s.toList);rw [hR];have hv:=hR.symm;unfold KK at hv;replace hR:=H0 hR
 have hpd:=H0 (fun w=>Sm s w Qa)
 have hpl:=Kg s.toList.length s.toList (Nat.le_refl _);rw [Aa] at hpl;obtain ⟨D,hD⟩:=N2 (B9 s.toList);rw [hD] at hv hpd hpl;replace hD:=H0 hD
 have hdl:=H0 (fun n (h:CG D=some n)=>Wp h)
 have hdm:=H0 (fun w (hE:Gu w)=>Z6 ⟨D.toArray⟩ w (by rw [<-Aa,toList_mk];omega) hE)
 rw [toList_mk] at hdm;obtain ⟨O,hO⟩:=N2 (CG D);rw [hO] at hv hdm hdl;replace hO:=H0 hO;have hE':=H0 hE;clear hE;have hb0:Below w.heap.size w (w.alloc (.cells (Aq (An .none)) 32)):=(Below.refl _ _).alloc (Nat.le_refl _) _;have hh0:(w.alloc (.cells (Aq (An .none)) 32)).heap[w.heap.size]? =some (.cells (Aq (An .none)) 32 (0,0)):=heap_alloc_new w _;obtain ⟨w0,hw0⟩:∃ w0,w.alloc (.cells (Aq (An .none)) 32)=w0:=⟨_,rfl⟩;rw [hw0] at hb0 hh0;have hw0':w.alloc (.cells #[.int .i64 0,.string ⟨#[]⟩,.int .u32 0,.int .u16 0,.int .u16 0,.int .u16 0,.int .u16 0,.int .u16 0,.int .u16 0,.int .u16 0,.int .u16 0] 32)=w0:=hw0;replace hw0:=H0 hw0;have hs0:=hb0.size;have hlt0:=CH hh0;replace hh0:=H0 hh0;replace hv:=H0 hv;go_enter Tryz.func304,Tryz.ntmps304;go_wp2_with fail;refine (hpd.out _).mono ?_;rintro e w1 ⟨v,rfl,hown,hb1⟩;clear hw0';have hcv:=JY (P:=Tryz.prog) (S:=9) Tryz.underlying25 Tryz.underlying5 Tryz.underlying9 hown;have hbel1:=hb0.trans (hb1.mono hs0);have hh1:Hid (w1.heap[w.heap.size]? =some (.cells (Aq (An .none)) 32 (0,0))):=H0 ((hb1.block _ hlt0).trans hh0.out);have hs1:=hbel1.size;have hlt1:=CH hh1.out;go_wp2_with fail
 refine (hdm.out _ (hE'.out.next hbel1)).mono ?_
 rintro e w2 ⟨t,rfl,ht,hb2⟩;clear hcv;have hbel2:=hbel1.trans (hb2.mono hs1);have hh2:Hid (w2.heap[w.heap.size]? =some (.cells (Aq (An .none)) 32 (0,0))):=H0 ((hb2.block _ hlt1).trans hh1.out);have hs2:=hbel2.size;clear hh0 hh1 hlt0 hb1 hb2
 cases O with
 | none=>
  have hf:Hid (R=none):=H0 hv.out;go_wp2_with (refine wpList_store_row rfl 32 _ _ rfl w.heap.size (Aq (An .none)) rfl rfl 32 _ hh2.out AP rfl (A1 _) ?_);refine Cl rfl rfl rfl rfl (B7 hh2.out) ?_;exact Dw hf.out (Ae hbel2 (Nat.le_refl _) _)
 | some n=>
  have hnl:=hdl.out n rfl
  have htz:t.size<=3286800001:=by rw [<-Aa,ht.out];show n.length<=_;omega
  have htl:t.toList=n:=ht.out;have hv2:=hv.out;dsimp only at hv2;obtain ⟨em,hem⟩:∃ b,t.toList.isEmpty=b:=⟨_,rfl⟩;rw [<-htl,hem] at hv2
  cases em with
  | true=>
   have hf:Hid (R=none):=H0 (hv2.trans (if_pos rfl));replace hv2:=H0 hv2;replace htl:=H0 htl;go_wp2_with (refine wpList_store_row rfl 32 _ _ rfl w.heap.size (Aq (An .none)) rfl rfl 32 _ hh2.out AP rfl (A1 _) ?_);refine Cl rfl rfl rfl rfl (B7 hh2.out) ?_;exact Dw hf.out (Ae hbel2 (Nat.le_refl _) _)
  | false=>
   rw [Bool.false_or] at hv2;replace hv2:=H0 hv2;replace htl:=H0 htl;go_wp2_with fail
   go_loop [6,7,25] (fun _ _ v25=>∃ k:Nat,v25= .int .i64 (k:Int)/\k<=t.size/\Hid (t.toList.any Jb=(t.toList.drop k).any Jb)) (fun _ _ v25=>t.size - (intOf v25).toNat)
   case atStart=>exact ⟨0,rfl,Nat.zero_le _,H0 QP⟩
   case round=>
    obtain ⟨k,rfl,hk,hg⟩:=hrel
    by_cases hlt:k<t.size
    ·have hI:(k:Int)<(t.size:Int):=Qa;have hgs:=hg.out;rw [As t k hlt,List.any_cons] at hgs;have hbd:=H0 (Abs t[k]);have hways:=AbV t[k];have hc0:=AN t[k];obtain ⟨B,hB⟩:=N2 (EV t[k]);obtain ⟨N,hN⟩:=N2 (Jb t[k]);rw [hB] at hbd hways;rw [hN] at hgs hways;replace hB:=H0 hB;replace hN:=H0 hN;replace hgs:=H0 hgs
     rcases hways with ⟨rfl,rfl⟩ | ⟨rfl,q1,rfl⟩ | ⟨rfl,q1,q2,rfl⟩ | ⟨rfl,q1,q2,q3,rfl⟩ | ⟨rfl,q1,q2,q3,rfl⟩
     rotate_right
     ·have hnew:Hid (t.toList.any Jb=(t.toList.drop (k+1)).any Jb):=H0 (by rw [hgs.out,Bool.false_or])
      go_wp2_with (go_at_call 305;refine (hbd.out _).mono ?_;rintro e w' ⟨rfl,rfl⟩);go_round
      case rel=>exact ⟨k+1,Ql,Qa,hnew⟩
      case measure=>simp [intOf];omega
     all_goals
      have hf:Hid (R=none):=H0 (by rw [hv2.out,hgs.out];rfl)
      go_wp2_with (first
       | (go_at_call 305;refine (hbd.out _).mono ?_;rintro e w' ⟨rfl,rfl⟩)
       | (refine wpList_store_row rfl 32 _ _ rfl w.heap.size (Aq (An .none)) rfl rfl 32 _ hh2.out AP rfl (A1 _) ?_))
      refine Cl rfl rfl rfl rfl (B7 hh2.out) ?_;exact Dw hf.out (Ae hbel2 (Nat.le_refl _) _)
    ·have hI:(t.size:Int)<=(k:Int):=Qa
     have hv3:Hid (R=if Mn t.toList=true then (BD t.toList).map BO.four else some (.name n)):=H0 (by
      rw [hv2.out,hg.out,AL t k Qa]
      show (if false=true then _ else _)=_
      rw [if_neg Qc,htl.out])
     have hen:=H0 (fun w hm=>Ad5 t w hm Qa)
     have hpa:=H0 (fun w hm=>Sy t w hm Qa)
     obtain ⟨E,hE⟩:=N2 (Mn t.toList);obtain ⟨U,hU⟩:=N2 (BD t.toList);rw [hE] at hen hv3;rw [hU] at hpa hv3;replace hE:=H0 hE;replace hU:=H0 hU;have hlt2:=CH hh2.out;go_wp2_with fail
     refine (hen.out _ (hE'.out.next hbel2).ml).mono ?_
     rintro e w3 ⟨rfl,hb3⟩;have hbel3:=hbel2.trans (hb3.mono hs2);have hh3:Hid (w3.heap[w.heap.size]? =some (.cells (Aq (An .none)) 32 (0,0))):=H0 ((hb3.block _ hlt2).trans hh2.out);have hs3:=hbel3.size;have hlt3:=CH hh3.out
     cases E with
     | false=>
      have hf:Hid (R=some (.name n)):=H0 (hv3.out.trans (if_neg Qc));go_wp2_with (refine wpList_store_row rfl 32 _ _ rfl w.heap.size (Aq ⟨2,t,0,z8⟩) rfl rfl 32 _ hh3.out AP rfl (A1 _) ?_);refine Cl rfl rfl rfl rfl (B7 hh3.out) ?_;rw [<-X3 htl.out];exact Fi hf.out (Ae hbel3 (Nat.le_refl _) _)
     | true=>
      have hv4:Hid (R=U.map BO.four):=H0 (hv3.out.trans (if_pos rfl))
      have hpa2:=H0 (hpa.out w3 (hE'.out.next hbel3).ml)
      clear hpa
      cases U with
      | none=>
       have hf:Hid (R=none):=H0 hv4.out;go_wp2_with fail;refine hpa2.out.mono ?_;rintro e w4 ⟨rfl,hb4⟩;have hbel4:=hbel3.trans (hb4.mono hs3);have hh4:Hid (w4.heap[w.heap.size]? =some (.cells (Aq (An .none)) 32 (0,0))):=H0 ((hb4.block _ hlt3).trans hh3.out);go_wp2_with (refine wpList_store_row rfl 32 _ _ rfl w.heap.size (Aq (An .none)) rfl rfl 32 _ hh4.out AP rfl (A1 _) ?_);refine Cl rfl rfl rfl rfl (B7 hh4.out) ?_;exact Dw hf.out (Ae hbel4 (Nat.le_refl _) _)
      | some m=>
       have hf:Hid (R=some (.four m)):=H0 hv4.out;go_wp2_with fail;refine hpa2.out.mono ?_;rintro e w4 ⟨rfl,hb4⟩;have hbel4:=hbel3.trans (hb4.mono hs3);have hh4:Hid (w4.heap[w.heap.size]? =some (.cells (Aq (An .none)) 32 (0,0))):=H0 ((hb4.block _ hlt3).trans hh3.out);go_wp2_with (refine wpList_store_row rfl 32 _ _ rfl w.heap.size (Aq (An (.four m))) rfl rfl 32 _ hh4.out AP rfl (A1 _) ?_);refine Cl rfl rfl rfl rfl (B7 hh4.out) ?_;exact Fi hf.out (Ae hbel4 (Nat.le_refl _) _)
theorem K4 (l:List UInt8):(Fe l).length<=l.length:=List.length_filter_le _ _
theorem RQ (l:List UInt8):(AJ l).length=l.length:=by simp [AJ]
structure Am where
 scheme:ByteArray
 user:ByteArray
 pass:ByteArray
 host:Dd
 hasPort:Bool
 port:Int
 flatP:Bool
 flat:ByteArray
 pathA:Option Addr
 pathC:Nat
 path:List ByteArray
 hasQuery:Bool
 query:ByteArray
 hasFrag:Bool
 frag:ByteArray
def Ab (u:Am):Array Value:= #[.string u.scheme,.string u.user,.string u.pass,.int .i64 u.host.kind,.string u.host.name,.int .u32 (u.host.four:Int),.int .u16 ((pc u.host.six 0:Nat):Int),.int .u16 ((pc u.host.six 1:Nat):Int),.int .u16 ((pc u.host.six 2:Nat):Int),.int .u16 ((pc u.host.six 3:Nat):Int),.int .u16 ((pc u.host.six 4:Nat):Int),.int .u16 ((pc u.host.six 5:Nat):Int),.int .u16 ((pc u.host.six 6:Nat):Int),.int .u16 ((pc u.host.six 7:Nat):Int),
 .bool u.hasPort,.int .i64 u.port,.bool u.flatP,.string u.flat,.slice u.pathA u.path.length u.pathC,.bool u.hasQuery,.string u.query,.bool u.hasFrag,.string u.frag]
def Ft (l:List ByteArray):List UInt8:=l.flatMap fun t=>47 :: t.toList
def IY (u:Am):List UInt8:=if u.flatP then u.flat.toList else Ft u.path
def Jf (w:World) (u:Am):Prop:=0<u.path.length->∃ g o,u.pathA=some ⟨g,o,none⟩/\∀ i (h:i<u.path.length),w.cell? ⟨g,o+i,none⟩=some (.string u.path[i])
theorem Jf.below {w w':World} {K:Nat} {u:Am} (h:Jf w u) (hb:Below K w w') (hK:w.heap.size<=K):Jf w' u:=by
 intro h0;obtain ⟨g,o,e,hc⟩:=h h0
 refine ⟨g,o,e,fun i hi=> ?_⟩
 have:=World.block_lt_of_cell? w _ (hc i hi);rw [hb.cell Aka];exact hc i hi
theorem Zs {l:List ByteArray} {k:Nat} (h:k<l.length):Ft (l.take (k+1))=Ft (l.take k)++47 :: l[k].toList:=by
 unfold Ft;rw [List.take_succ_eq_append_getElem h,List.flatMap_append];simp
theorem X1 (l:List ByteArray) (k:Nat):(Ft (l.take k)).length<=(Ft l).length:=by
 have:Ft l=Ft (l.take k)++Ft (l.drop k):=by unfold Ft;rw [<-List.flatMap_append,List.take_append_drop]
 rw [this,List.length_append];omega
theorem AeE (u:Am) (w:World) (hp:Jf w u) (hl:(Ft u.path).length<=549755813888) (hn:u.path.length<=maxLen):
  Calls Tryz.prog 46 #[.agg (Ab u)] w (EI w (IY u)):=by
 have hb1:Below w.heap.size w (w.alloc (.cells (Ab u) 34)):=(Below.refl _ _).alloc (Nat.le_refl _) _;have hb2:Below (w.heap.size+1) (w.alloc (.cells (Ab u) 34)) ((w.alloc (.cells (Ab u) 34)).alloc (.cells #[.pointer none,.slice none 0 0] 76)):=(Below.refl _ _).alloc Qf _
 have hbl:Kz ((w.alloc (.cells (Ab u) 34)).alloc (.cells #[.pointer none,.slice none 0 0] 76)) (w.heap.size+1) (w.heap.size+1) []:=by
  have:=Kz.fresh (w.alloc (.cells (Ab u) 34));simpa using this
 have hX:Hid (IY u=if u.flatP then u.flat.toList else Ft u.path):=rfl
 unfold maxLen at hn;replace hp:=H0 hp;unfold Ab at hb1 hb2 hbl⊢;cases hop:u.flatP
 ·rw [hop] at hX hb1 hb2 hbl;replace hop:=H0 hop;go_enter Tryz.func46,Tryz.ntmps46;go_wp2_with fail;have hbw:=hb1.trans (hb2.mono Qa)
  go_loopw [13] (fun iv wr=>∃ k:Nat,iv= .int .i64 k/\k<=u.path.length/\Kz wr (w.heap.size+1) (w.heap.size+1) (Ft (u.path.take k))/\Below w.heap.size w wr/\w.heap.size+1<=wr.heap.size) (fun i _=>u.path.length - (intOf i).toNat)
  case atStart=>exact ⟨0,rfl,Nat.zero_le _,hbl,hbw,Qf⟩
  case round=>
   obtain ⟨k,rfl,hk,hbld,hbel,hsz⟩:=hrel;clear hb1 hb2 hbl hbw;have hle:=X1 u.path k
   by_cases hlt:k<u.path.length
   ·obtain ⟨g,o,hpa,hcc⟩:=hp.out Qa;have x1:=hcc k hlt;have b1:=World.block_lt_of_cell? w _ x1
    have y1:wr.cell? ⟨g,o+k,none⟩=some (.string u.path[k]):=(hbel.cell (by simpa using b1)).trans x1
    have hle2:=X1 u.path (k+1);have hsn:=Zs hlt
    have hz:(Ft (u.path.take k)).length+(1+u.path[k].size)<=549755813888:=by
     rw [hsn,List.length_append] at hle2;simp [Aa] at hle2;omega
    have hltI:(k:Int)<(u.path.length:Int):=Qa;replace hsn:=H0 hsn;clear hcc x1 b1 hle hle2;rw [hpa];go_wp2_with fail;refine (BQ _ _ _ 47 _ rfl _ hbld Qa hsz).mono ?_;rintro e w3 ⟨rfl,hbld3,hb3⟩;have hs3:=hb3.size;go_wp2_with fail;refine (AM _ _ _ u.path[k] _ hbld3 Qi Qa Qa).mono ?_;rintro e w4 ⟨rfl,hbld4,hb4⟩;have hs4:=hb4.size;go_wp2_with fail;go_roundw
    case rel=>exact ⟨k+1,Ql,Qa,by rw [hsn.out];simpa using hbld4,(hbel.trans (hb3.mono Qa)).trans (hb4.mono Qa),Qa⟩
    case measure=>simp [intOf];omega
   ·have hfin:Hid (IY u=Ft (u.path.take k)):=H0 (by rw [hX.out,List.take_of_length_le Qa];rfl)
    have hgeI:(u.path.length:Int)<=(k:Int):=Qa;go_wp2_with fail;refine (Bq _ _ _ _ hbld hsz).mono ?_;rintro e w3 ⟨t,rfl,ht,hb3⟩;go_wp2_with fail;go_ret;exact GC (ht.out.trans hfin.out.symm) (hbel.trans (hb3.mono Qa))
 ·rw [hop] at hX hb1;replace hop:=H0 hop;clear hb2 hbl;go_enter Tryz.func46,Tryz.ntmps46;go_wp2_with fail;go_ret
  exact GC (by rw [hX.out];rfl) hb1
def LO (u:Am):List UInt8:=if u.user.toList=[]/\u.pass.toList=[] then [] else if u.pass.toList=[] then u.user.toList++[64] else u.user.toList++[58]++u.pass.toList++[64]
def FZ (b:Bool) (l:List UInt8):List UInt8:=if b then l else []
def Od (u:Am):List UInt8:=FZ u.hasPort ([58]++Lib.itoa u.port)
def AaW:List ByteArray->Bool
 | []=>false
 | t :: _=>t.toList.isEmpty
theorem L4 (b:Bool):b=false\/b=true:=by cases b<;>simp
def UW (u:Am):Bool:= !u.flatP && (decide (2<=u.path.length) && AaW u.path)
def Fl (u:Am):List UInt8:=if u.host.kind=0 then FZ (UW u) [47,46] else [47,47]++LO u++GP u.host++Od u
def GL (u:Am) (f:Bool):List UInt8:=u.scheme.toList++[58]++Fl u++IY u++FZ u.hasQuery ([63]++u.query.toList)++FZ (u.hasFrag && f) ([35]++u.frag.toList)
structure R7 (u:Am):Prop where
 scheme:u.scheme.size<=34359738368
 user:u.user.size<=34359738368
 pass:u.pass.size<=34359738368
 name:u.host.name.size<=34359738368
 flat:u.flat.size<=34359738368
 query:u.query.size<=34359738368
 frag:u.frag.size<=34359738368
 path:(Ft u.path).length<=34359738368
 pieces:u.path.length<=maxLen
 port: -9223372036854775808<=u.port/\u.port<=9223372036854775807
 host:Ry u.host
structure YQ (w wx:World) (u:Am) (P:List UInt8):Prop where
 bld:Kz wx (w.heap.size+1) (w.heap.size+1) P
 below:Below w.heap.size w wx
 blk:wx.heap[w.heap.size]? =some (.cells (Ab u) 34 (0,0))
 size:w.heap.size+2<=wx.heap.size
theorem YQ.write {w wx w':World} {u:Am} {P Q:List UInt8} (h:YQ w wx u P) (hb:Below (w.heap.size+1) wx w') (hq:Kz w' (w.heap.size+1) (w.heap.size+1) Q):YQ w w' u Q:=
 ⟨hq,h.below.trans (hb.mono Qa),(hb.block _ Qa).trans h.blk,Qx⟩
theorem YQ.box {w wx:World} {u:Am} {P:List UInt8} (h:YQ w wx u P) (i:Nat):wx.cell? ⟨w.heap.size,i,none⟩=(Ab u)[i]? :=cell_of_row _ _ _ _ _ _ h.blk
theorem IA:(Tryz.prog.info? 34).map (·.size)=some 23:=Qb
theorem YQ.keep {w wx w':World} {u:Am} {P:List UInt8} (h:YQ w wx u P) (hb:Below wx.heap.size wx w'):YQ w w' u P:=
 h.write (hb.mono AjY) (h.bld.keep hb)
theorem YQ.cast {w wx:World} {u:Am} {P Q:List UInt8} (h:YQ w wx u P) (e:P=Q):YQ w wx u Q:=e ▸ h
theorem Ae2 (n:Int) (h0: -9223372036854775808<=n) (h1:n<=9223372036854775807) (w:World) (ht:IG w):
  Calls Tryz.prog 45 #[.int .i64 n] w (EI w (Lib.itoa n)):=by
 refine (Tryz.strconv_Itoa n h0 h1 w ht.1).mono ?_;rintro e w' ⟨rfl,k,os,rfl⟩;exact Hk rfl (Lib.below_grow _ w (Nat.le_refl _) k os)
theorem VN:∀ (k u:Nat),u<10 ^ (k+1)->(Lib.decDigits u).length<=k+1
 | 0,u,h=>by rw [Lib.decDigits,dif_pos Qa];simp
 | k+1,u,h=>by
  rw [Lib.decDigits];split
  ·simp
  ·have:=VN k (u / 10) (by rw [Nat.pow_succ] at h;exact Nat.div_lt_of_lt_mul Qa)
   rw [List.length_append];simp;omega
theorem RY (n:Int) (h0: -9223372036854775808<=n) (h1:n<=9223372036854775807):(Lib.itoa n).length<=40:=by
 unfold Lib.itoa;split
 ·have:=VN 19 n.natAbs Qa;simp;omega
 ·have:=VN 19 n.toNat Qa;omega
theorem Agu (u:Am) (w:World) (h1:u.user.size<=34359738368) (h2:u.pass.size<=34359738368):
  Calls Tryz.prog 43 #[.agg (Ab u)] w (EI w (LO u)):=by
 have hb1:Below w.heap.size w (w.alloc (.cells (Ab u) 34)):=(Below.refl _ _).alloc (Nat.le_refl _) _;unfold Ab at hb1⊢
 have hcs:(u.user.toList.isEmpty=true/\u.pass.toList.isEmpty=true/\Hid (LO u=[]))\/(u.user.toList.isEmpty=false/\u.pass.toList.isEmpty=true/\Hid (LO u=u.user.toList++[64]))\/(u.pass.toList.isEmpty=false/\Hid (LO u=u.user.toList++[58]++u.pass.toList++[64])):=by
  cases hu:u.user.toList<;>cases hp:u.pass.toList
  ·exact .inl ⟨rfl,rfl,H0 (by simp [LO,hu,hp])⟩
  ·exact .inr (.inr ⟨rfl,H0 (by simp [LO,hu,hp])⟩)
  ·exact .inr (.inl ⟨rfl,rfl,H0 (by simp [LO,hu,hp])⟩)
  ·exact .inr (.inr ⟨rfl,H0 (by simp [LO,hu,hp])⟩)
 rcases hcs with ⟨e1,e2,e3⟩ | ⟨e1,e2,e3⟩ | ⟨e2,e3⟩
 ·go_enter Tryz.func43,Tryz.ntmps43;go_wp2_with fail;go_ret;exact GC ((toList_mk []).trans e3.out.symm) hb1
 ·go_enter Tryz.func43,Tryz.ntmps43;go_wp2_with fail;go_ret
  exact GC (by rw [e3.out,toList_append,show (ByteArray.mk #[64]).toList=[64] from toList_mk _]) hb1
 ·cases hu:u.user.toList.isEmpty
  all_goals
   go_enter Tryz.func43,Tryz.ntmps43;go_wp2_with fail;go_ret
   exact GC (by rw [e3.out,toList_append,toList_append,toList_append,show (ByteArray.mk #[64]).toList=[64] from toList_mk _,show (ByteArray.mk #[58]).toList=[58] from toList_mk _]) hb1
theorem Yc (l:List ByteArray) (h:0<l.length):AaW l=l[0].toList.isEmpty:=by
 cases l with
 | nil=>simp at h
 | cons t r=>rfl
theorem Agk (u:Am):(Ab u)[0]? =some (.string u.scheme)/\(Ab u)[1]? =some (.string u.user)/\(Ab u)[2]? =some (.string u.pass)/\(Ab u)[3]? =some (.int .i64 u.host.kind)/\(Ab u)[4]? =some (.string u.host.name)/\(Ab u)[5]? =some (.int .u32 (u.host.four:Int))/\(Ab u)[6]? =some (.int .u16 ((pc u.host.six 0:Nat):Int))/\(Ab u)[7]? =some (.int .u16 ((pc u.host.six 1:Nat):Int))/\(Ab u)[8]? =some (.int .u16 ((pc u.host.six 2:Nat):Int))/\(Ab u)[9]? =some (.int .u16 ((pc u.host.six 3:Nat):Int))/\(Ab u)[10]? =some (.int .u16 ((pc u.host.six 4:Nat):Int))/\(Ab u)[11]? =some (.int .u16 ((pc u.host.six 5:Nat):Int))/\(Ab u)[12]? =some (.int .u16 ((pc u.host.six 6:Nat):Int))/\(Ab u)[13]? =some (.int .u16 ((pc u.host.six 7:Nat):Int))/\(Ab u)[14]? =some (.bool u.hasPort)/\(Ab u)[15]? =some (.int .i64 u.port)/\(Ab u)[16]? =some (.bool u.flatP)/\(Ab u)[17]? =some (.string u.flat)/\(Ab u)[18]? =some (.slice u.pathA u.path.length u.pathC)/\(Ab u)[19]? =some (.bool u.hasQuery)/\(Ab u)[20]? =some (.string u.query)/\(Ab u)[21]? =some (.bool u.hasFrag)/\(Ab u)[22]? =some (.string u.frag):=
 ⟨rfl,rfl,rfl,rfl,rfl,rfl,rfl,rfl,rfl,rfl,rfl,rfl,rfl,rfl,rfl,rfl,rfl,rfl,rfl,rfl,rfl,rfl,rfl⟩
theorem Wr (u:Am) (h1:u.user.size<=34359738368) (h2:u.pass.size<=34359738368):(LO u).length<=68719476738:=by
 unfold LO;split
 ·simp
 ·split<;>simp only [List.length_append,List.length_cons,List.length_nil,Aa]<;>omega
theorem Ts (h:Dd) (hn:h.name.size<=34359738368):(GP h).length<=34359738368:=by
 have h1:=Ni h.four;have h2:=LR h.six;unfold GP;split
 ·rw [Aa];exact hn
 ·split
  ·omega
  ·split<;>simp<;>omega
theorem Zy (u:Am) (fit:R7 u):(Fl u).length<=103079215300:=by
 have h1:=Wr u fit.user fit.pass;have h2:=Ts u.host fit.name;have h3:=RY u.port fit.port.1 fit.port.2;unfold Fl Od FZ;split
 ·split<;>simp
 ·split<;>simp<;>omega
theorem Gr (u:Am) (f:Bool) (w:World) (hp:Jf w u) (fit:R7 u) (ht:IG w):
  Calls Tryz.prog 17 #[.agg (Ab u),.bool f] w (EI w (GL u f)):=by
 have hI:YQ w ((w.alloc (.cells (Ab u) 34)).alloc (.cells #[.pointer none,.slice none 0 0] 76)) u []:=by
  refine ⟨?_,((Below.refl _ _).alloc (Nat.le_refl _) _).alloc Qf _,heap_alloc2_old w _ _,Qf⟩;have:=Kz.fresh (w.alloc (.cells (Ab u) 34));simpa using this
 have f1:=fit.scheme;have f2:=fit.query;have f3:=fit.frag;have f4:=fit.path;have f5:=fit.flat;have hwl:=Wr u fit.user fit.pass;have hhl:=Ts u.host fit.name;have hal:=Zy u fit
 have hpx:(IY u).length<=34359738368:=by
  unfold IY;split
  ·rw [Aa];exact f5
  ·exact f4
 replace hp:=H0 hp;have hX:Hid (GL u f=u.scheme.toList++[58]++Fl u++IY u++FZ u.hasQuery ([63]++u.query.toList)++FZ (u.hasFrag && f) ([35]++u.frag.toList)):=rfl;obtain ⟨x0,x1,x2,x3,x4,x5,x6,x7,x8,x9,x10,x11,x12,x13,x14,x15,x16,x17,x18,x19,x20,x21,x22⟩:=Agk u;go_enter Tryz.func17,Tryz.ntmps17;go_wp2_with fail;refine (AM _ _ _ _ _ hI.bld Qf Qa Qv).mono ?_;rintro e w1 ⟨rfl,hbq,hbb⟩;replace hI:=hI.write hbb hbq;clear hbq hbb;rw [List.nil_append] at hI;go_wp2_with fail;refine (BQ _ _ _ 58 _ rfl _ hI.bld Qw Qv).mono ?_;rintro e w2 ⟨rfl,hbq,hbb⟩;replace hI:=hI.write hbb hbq;clear hbq hbb;have hbx:=hI.box
 go_upto_if 13 with (fail)
 go_cut [] (fun wx=>YQ w wx u (u.scheme.toList++[58]++Fl u))
 case first=>as_aux_lemma=>
  clear hbx
  by_cases hk:u.host.kind=0
  ·have k1:(u.host.kind != 0)=false:=by simp [hk]
   have hdot:(u.flatP=true/\UW u=false)\/(u.flatP=false/\(u.path.length:Int)<2/\UW u=false)\/(u.flatP=false/\(2:Int)<=(u.path.length:Int)/\∃ g o t,u.pathA=some ⟨g,o,none⟩/\w2.cell? ⟨g,o,none⟩=some (.string t)/\t.toList.isEmpty=UW u):=by
    unfold UW;cases hfl:u.flatP
    ·by_cases h2:2<=u.path.length
     ·have hpw:=hp.out.below hI.below (Nat.le_refl _);obtain ⟨g,o,e1,hc⟩:=hpw Qa;have h0:=hc 0 Qa;refine .inr (.inr ⟨rfl,Qa,g,o,u.path[0],e1,h0,?_⟩);rw [Yc u.path Qa];simp [h2]
     ·exact .inr (.inl ⟨rfl,Qa,by simp [h2]⟩)
    ·exact .inl ⟨rfl,rfl⟩
   have hah:Hid (Fl u=FZ (UW u) [47,46]):=H0 (by unfold Fl;rw [if_pos hk])
   clear hk;have hbx:=hI.box
   rcases hdot with ⟨d1,d2⟩ | ⟨d1,d2,d3⟩ | ⟨d1,d2,g,o,t0,d3,d4,d5⟩
   ·replace d2:=H0 d2;go_wp2_with fail;go_meet
    exact hI.cast (by rw [hah.out,d2.out];simp [FZ])
   ·replace d3:=H0 d3;go_wp2_with fail;go_meet
    exact hI.cast (by rw [hah.out,d3.out];simp [FZ])
   ·rcases L4 (UW u) with hd | hd
    ·rw [hd] at d5;replace hd:=H0 hd;go_wp2_with fail;go_meet
     exact hI.cast (by rw [hah.out,hd.out];simp [FZ])
    ·rw [hd] at d5;replace hd:=H0 hd;go_wp2_with fail;refine (AM _ _ _ ⟨#[47,46]⟩ _ hI.bld Qk Qc Qv).mono ?_;rintro e w3 ⟨rfl,hbq,hbb⟩;replace hI:=hI.write hbb hbq;clear hbq hbb hbx;go_wp2_with fail;go_meet
     exact hI.cast (by rw [hah.out,hd.out,show (ByteArray.mk #[47,46]).toList=[47,46] from toList_mk _];simp [FZ])
  ·have k1:(u.host.kind != 0)=true:=by simp [hk]
   have hah:Hid (Fl u=[47,47]++LO u++GP u.host++Od u):=H0 (by unfold Fl;rw [if_neg hk])
   clear hk;have hbx:=hI.box;go_wp2_with fail;refine (AM _ _ _ ⟨#[47,47]⟩ _ hI.bld Qk Qc Qv).mono ?_;rintro e w3 ⟨rfl,hbq,hbb⟩;replace hI:=hI.write hbb hbq;rw [show (ByteArray.mk #[47,47]).toList=[47,47] from toList_mk _] at hI;clear hbq hbb hbx;have hbx:=hI.box;go_wp2_with (refine wpList_load_row rfl 34 _ rfl w.heap.size rfl _ (Ab u) _ _ hI.blk Tryz.underlying34 rfl IA ?_);refine (Agu u _ fit.user fit.pass).mono ?_;rintro e w4 ⟨t1,rfl,htt1,hbb⟩;replace hI:=hI.keep hbb;have hts1:=LC htt1.out hwl;clear hbb hbx;go_wp2_with fail;refine (AM _ _ _ _ _ hI.bld Qk Qa Qv).mono ?_;rintro e w5 ⟨rfl,hbq,hbb⟩;replace hI:=hI.write hbb hbq;clear hbq hbb;have hbx:=hI.box
   have htw:=ht.next hI.below
   go_wp2_with fail;refine (KM u.host fit.host _ htw).mono ?_;rintro e w6 ⟨t2,rfl,htt2,hbb⟩;replace hI:=hI.keep hbb;have hts2:=LC htt2.out hhl;clear hbb hbx htw;go_wp2_with fail;refine (AM _ _ _ _ _ hI.bld Qk Qa Qv).mono ?_;rintro e w7 ⟨rfl,hbq,hbb⟩;replace hI:=hI.write hbb hbq;clear hbq hbb
   rcases L4 u.hasPort with hpt | hpt
   ·have hbx:=hI.box;go_wp2_with fail;go_meet
    exact hI.cast (by rw [hah.out,htt1.out,htt2.out];simp [Od,FZ,hpt])
   ·have hpl:Hid (Od u=[58]++Lib.itoa u.port):=H0 (by simp [Od,FZ,hpt])
    have hbx:=hI.box;go_wp2_with fail;refine (BQ _ _ _ 58 _ rfl _ hI.bld Qk Qv).mono ?_;rintro e w3 ⟨rfl,hbq,hbb⟩;replace hI:=hI.write hbb hbq;clear hbq hbb hbx;have hbx:=hI.box
    have htw:=ht.next hI.below
    go_wp2_with fail;refine (Ae2 u.port fit.port.1 fit.port.2 _ htw).mono ?_;rintro e w3 ⟨t3,rfl,htt3,hbb⟩;replace hI:=hI.keep hbb;have hts3:=LC htt3.out (RY u.port fit.port.1 fit.port.2);clear hbb hbx;go_wp2_with fail;refine (AM _ _ _ _ _ hI.bld Qk Qa Qv).mono ?_;rintro e w4 ⟨rfl,hbq,hbb⟩;replace hI:=hI.write hbb hbq;clear hbq hbb;go_wp2_with fail;go_meet
    exact hI.cast (by rw [hah.out,htt1.out,htt2.out,htt3.out,hpl.out];simp)
 case rest=>
  clear hI hbx;replace hI:=hcut;clear hcut;have hbx:=hI.box
  have htw:=ht.next hI.below
  go_wp2_with (refine wpList_load_row rfl 34 _ rfl w.heap.size rfl _ (Ab u) _ _ hI.blk Tryz.underlying34 rfl IA ?_);refine (AeE u _ (hp.out.below hI.below (Nat.le_refl _)) Qa fit.pieces).mono ?_;rintro e w3 ⟨t1,rfl,htt1,hbb⟩;replace hI:=hI.keep hbb;have hts1:=LC htt1.out hpx;clear hbb hbx htw;go_wp2_with fail;refine (AM _ _ _ _ _ hI.bld Qk Qa Qv).mono ?_;rintro e w4 ⟨rfl,hbq,hbb⟩;replace hI:=hI.write hbb hbq;rw [htt1.out] at hI;clear hbq hbb htt1 hts1;have hbx:=hI.box
  go_upto_if 50 with (fail)
  go_cut [] (fun wx=>YQ w wx u (u.scheme.toList++[58]++Fl u++IY u++FZ u.hasQuery ([63]++u.query.toList)))
  case first=>as_aux_lemma=>
   rcases L4 u.hasQuery with hq | hq
   ·rw [hq];go_wp2_with fail;go_meet
    exact hI.cast (by rw [hq];simp [FZ])
   ·rw [hq];go_wp2_with fail;refine (BQ _ _ _ 63 _ rfl _ hI.bld Qk Qv).mono ?_;rintro e w5 ⟨rfl,hbq,hbb⟩;replace hI:=hI.write hbb hbq;clear hbq hbb hbx;have hbx:=hI.box;go_wp2_with fail;refine (AM _ _ _ _ _ hI.bld Qk Qa Qv).mono ?_;rintro e w6 ⟨rfl,hbq,hbb⟩;replace hI:=hI.write hbb hbq;clear hbq hbb hbx;go_wp2_with fail;go_meet
    exact hI.cast (by rw [hq];simp [FZ])
  case rest=>
   clear hI hbx;replace hI:=hcut;clear hcut;have hbx:=hI.box
   have hql:(FZ u.hasQuery ([63]++u.query.toList)).length<=34359738369:=by
    unfold FZ;split<;>simp [Aa]<;>omega
   go_upto_region 17 with fail
   go_cut [59] (fun s59 wx=>s59= .bool (u.hasFrag && f)/\YQ w wx u (u.scheme.toList++[58]++Fl u++IY u++FZ u.hasQuery ([63]++u.query.toList)))
   case first=>as_aux_lemma=>
    rcases L4 u.hasFrag with hq | hq
    ·go_wp2_with fail;go_meet
     exact ⟨by rw [hq];rfl,hI⟩
    ·go_wp2_with fail;go_meet
     exact ⟨by rw [hq];rfl,hI⟩
   case' rest=>
    clear hI hbx;obtain ⟨rfl,hI⟩:=hcut;have hbx:=hI.box
   go_upto_if 59 with (fail)
   go_cut [] (fun wx=>YQ w wx u (GL u f))
   case first=>as_aux_lemma=>
    rcases L4 (u.hasFrag && f) with hq | hq
    ·rw [hq];go_wp2_with fail;go_meet
     exact hI.cast (by rw [hX.out,hq];simp [FZ])
    ·rw [hq];go_wp2_with fail;refine (BQ _ _ _ 35 _ rfl _ hI.bld Qk Qv).mono ?_;rintro e w5 ⟨rfl,hbq,hbb⟩;replace hI:=hI.write hbb hbq;clear hbq hbb hbx;have hbx:=hI.box;go_wp2_with fail;refine (AM _ _ _ _ _ hI.bld Qk Qa Qv).mono ?_;rintro e w6 ⟨rfl,hbq,hbb⟩;replace hI:=hI.write hbb hbq;clear hbq hbb hbx;go_wp2_with fail;go_meet
     exact hI.cast (by rw [hX.out,hq];simp [FZ])
   case rest=>
    clear hI hbx;replace hI:=hcut;clear hcut;go_wp2_with fail;refine (Bq _ _ _ _ hI.bld Qv).mono ?_;rintro e w7 ⟨t,rfl,htt,hbb⟩;go_wp2_with fail;go_ret;exact GC htt.out (hI.below.trans (hbb.mono Qa))
def S3 (n b0 b1 b2 b3:Nat):Nat × Nat:=
 if b0<0x80 then (b0,1)
 else if b0 / 32=6/\1<n/\b1 / 64=2 then (if (b0 % 32) * 64+b1 % 64≥0x80 then ((b0 % 32) * 64+b1 % 64,2) else (65533,1))
 else if b0 / 16=14/\1<n/\b1 / 64=2/\2<n/\b2 / 64=2 then (if (b0 % 16) * 4096+(b1 % 64) * 64+b2 % 64≥0x800/\Utf8.valid ((((b0 % 16) * 4096+(b1 % 64) * 64+b2 % 64:Nat)):Int)=true then ((b0 % 16) * 4096+(b1 % 64) * 64+b2 % 64,3) else (65533,1))
 else if b0 / 8=30/\1<n/\b1 / 64=2/\2<n/\b2 / 64=2/\3<n/\b3 / 64=2 then (if (b0 % 8) * 262144+(b1 % 64) * 4096+(b2 % 64) * 64+b3 % 64≥0x10000/\Utf8.valid ((((b0 % 8) * 262144+(b1 % 64) * 4096+(b2 % 64) * 64+b3 % 64:Nat)):Int)=true then ((b0 % 8) * 262144+(b1 % 64) * 4096+(b2 % 64) * 64+b3 % 64,4) else (65533,1))
 else (65533,1)
def SW (l:List UInt8) (i:Nat):Nat:=(l.getD i 0).toNat
theorem AgV (l:List UInt8) (i:Nat):(ByteArray.get! ⟨l.toArray⟩ i).toNat=SW l i:=by
 unfold SW ByteArray.get!;simp [List.getD_eq_getElem?_getD];rfl
theorem OU (l:List UInt8):CC l=S3 l.length (SW l 0) (SW l 1) (SW l 2) (SW l 3):=by
 unfold CC Utf8.decode S3
 have hs:(ByteArray.mk l.toArray).size=l.length:=by simp [ByteArray.size]
 simp only [Nat.zero_add,AgV,hs,Bool.and_eq_true,beq_iff_eq,decide_eq_true_eq,ge_iff_le,Utf8.runeError,and_assoc]
theorem Afz {n m b0 b1 b2 b3 c1 c2 c3:Nat} (h2:2<=(S3 n b0 b1 b2 b3).2) (hm:(S3 n b0 b1 b2 b3).2<=m) (e1:c1=b1) (e2:3<=(S3 n b0 b1 b2 b3).2->c2=b2) (e3:4<=(S3 n b0 b1 b2 b3).2->c3=b3):
  S3 m b0 c1 c2 c3=S3 n b0 b1 b2 b3:=by
 subst e1;unfold S3 at h2 hm e2 e3⊢
 by_cases k0:b0<0x80
 ·rw [if_pos k0] at h2;simp at h2
 rw [if_neg k0] at h2 hm e2 e3⊢;rw [if_neg k0]
 by_cases k1:b0 / 32=6/\1<n/\c1 / 64=2
 ·rw [if_pos k1] at h2 hm e2 e3⊢
  by_cases k2:(b0 % 32) * 64+c1 % 64≥0x80
  ·rw [if_pos k2] at h2 hm e2 e3⊢;dsimp only at hm;rw [if_pos ⟨k1.1,Qa,k1.2.2⟩]
  ·rw [if_neg k2] at h2;simp at h2
 rw [if_neg k1] at h2 hm e2 e3⊢
 by_cases k3:b0 / 16=14/\1<n/\c1 / 64=2/\2<n/\b2 / 64=2
 ·rw [if_pos k3] at h2 hm e2 e3⊢
  by_cases k4:(b0 % 16) * 4096+(c1 % 64) * 64+b2 % 64≥0x800/\Utf8.valid ((((b0 % 16) * 4096+(c1 % 64) * 64+b2 % 64:Nat)):Int)=true
  ·rw [if_pos k4] at h2 hm e2 e3⊢;dsimp only at hm e2;obtain rfl:=e2 Qa;rw [if_neg Qa,if_pos ⟨k3.1,Qa,k3.2.2.1,Qa,k3.2.2.2.2⟩,if_pos k4]
  ·rw [if_neg k4] at h2;simp at h2
 rw [if_neg k3] at h2 hm e2 e3⊢
 by_cases k5:b0 / 8=30/\1<n/\c1 / 64=2/\2<n/\b2 / 64=2/\3<n/\b3 / 64=2
 ·rw [if_pos k5] at h2 hm e2 e3⊢
  by_cases k6:(b0 % 8) * 262144+(c1 % 64) * 4096+(b2 % 64) * 64+b3 % 64≥0x10000/\Utf8.valid ((((b0 % 8) * 262144+(c1 % 64) * 4096+(b2 % 64) * 64+b3 % 64:Nat)):Int)=true
  ·rw [if_pos k6] at h2 hm e2 e3⊢;dsimp only at hm e2 e3;obtain rfl:=e2 Qa;obtain rfl:=e3 Qa;rw [if_neg Qa,if_neg Qa,if_pos ⟨k5.1,Qa,k5.2.2.1,Qa,k5.2.2.2.2.1,Qa,k5.2.2.2.2.2.2⟩,if_pos k6]
  ·rw [if_neg k6] at h2;simp at h2
 ·rw [if_neg k5] at h2;simp at h2
theorem YK {l:List UInt8} (X:List UInt8) (h:2<=(CC l).2):CC (l.take (CC l).2++X)=CC l:=by
 have hl:l≠[]:=by
  rintro rfl;revert h;decide
 have hle:=OT hl;obtain ⟨k,hk⟩:∃ k,(CC l).2=k:=⟨_,rfl⟩;rw [hk] at h hle⊢
 have hn:∀ i,i<k->SW (l.take k++X) i=SW l i:=fun i hi=>by
  unfold SW;rw [List.getD_eq_getElem?_getD,List.getD_eq_getElem?_getD,List.getElem?_append_left Qs,List.getElem?_take_of_lt hi]
 rw [OU (l.take k++X),OU l];rw [OU l] at hk;rw [hn 0 Qa]
 exact Afz (by rw [hk];exact h) (by rw [hk,List.length_append,List.length_take];omega) (hn 1 Qa) (fun h3=>hn 2 (by rw [hk] at h3;omega)) (fun h4=>hn 3 (by rw [hk] at h4;omega))
theorem Aez (X:List UInt8):CC (FM++X)=(65533,3):=by
 have:=YK (l:=FM) X Qe
 rw [show CC FM=(65533,3) by decide+kernel] at this
 exact this
theorem Ad6 {l:List UInt8} (hl:l≠[]) (h:(CC l).2<2) (h2:CC l≠(65533,1)):∃ c r,l=c :: r/\c.toNat<128:=by
 cases l with
 | nil=>exact absurd rfl hl
 | cons c r=>
  refine ⟨c,r,rfl,?_⟩;rw [OU] at h h2;unfold S3 at h h2;have e:SW (c :: r) 0=c.toNat:=rfl;rw [e] at h h2
  by_cases k0:c.toNat<128
  ·exact k0
  exfalso;rw [if_neg k0] at h h2;split at h
  ·rename_i k1;rw [if_pos k1] at h2;split at h
   ·simp at h
   ·rename_i k2;rw [if_neg k2] at h2;exact h2 rfl
  ·rename_i k1;rw [if_neg k1] at h2;split at h
   ·rename_i k3;rw [if_pos k3] at h2;split at h
    ·simp at h
    ·rename_i k4;rw [if_neg k4] at h2;exact h2 rfl
   ·rename_i k3;rw [if_neg k3] at h2;split at h
    ·rename_i k5;rw [if_pos k5] at h2;split at h
     ·simp at h
     ·rename_i k6;rw [if_neg k6] at h2;exact h2 rfl
    ·rename_i k5;rw [if_neg k5] at h2;exact h2 rfl
theorem Ka:∀ (f g:Nat) (l:List UInt8),(Cn f (CL g l)).length<=l.length
 | 0,_,l=>Nat.zero_le _
 | f+1,0,l=>by
  rw [CL,Cn,if_pos rfl];exact Nat.zero_le _
 | f+1,g+1,l=>by
  rw [CL]
  by_cases hl:l=[]
  ·rw [if_pos hl,Cn,if_pos rfl];exact Nat.zero_le _
  rw [if_neg hl]
  by_cases hb:CC l=(65533,1)
  ·rw [if_pos hb,Cn,if_neg (by simp [FM]),Aez]
   have e:(FM++CL g (l.drop (Hu l))).drop 3=CL g (l.drop (Hu l)):=rfl;dsimp only;rw [e,List.length_cons];have ih:=Ka f g (l.drop (Hu l));have:=Abm hl;rw [List.length_drop] at ih;omega
  rw [if_neg hb];have hle:=OT hl
  by_cases h2:2<=(CC l).2
  ·have e1:=YK (CL g (l.drop (CC l).2)) h2
   have hne:l.take (CC l).2++CL g (l.drop (CC l).2)≠[]:=by
    intro e;have:=congrArg List.length e;rw [List.length_append,List.length_take,List.length_nil] at this;omega
   rw [Cn,if_neg hne,e1,List.length_cons]
   have e2:(l.take (CC l).2++CL g (l.drop (CC l).2)).drop (CC l).2=CL g (l.drop (CC l).2):=by
    rw [List.drop_append_of_le_length Qs,List.drop_eq_nil_of_le Qs,List.nil_append]
   rw [e2];have ih:=Ka f g (l.drop (CC l).2);rw [List.length_drop] at ih;omega
  ·obtain ⟨c,r,rfl,hc⟩:=Ad6 hl Qa hb;have e1:=II c r hc;rw [e1];show (Cn (f+1) (c :: CL g r)).length<=_;rw [Cn,if_neg Qf,II c _ hc,List.length_cons];have ih:=Ka f g r;show (Cn f (CL g r)).length+1<=r.length+1;omega
theorem Tv (l:List UInt8):(KA l).length<=l.length:=Ka _ _ l
theorem SS {l t:List UInt8} (h:AU l=some t):t.length<=86 * l.length:=by
 unfold AU at h;split at h
 ·split at h
  ·split at h
   ·split at h
    ·cases h;omega
    ·cases h
   ·cases h
  ·cases h
 ·split at h
  ·cases h;omega
  ·rename_i hlo;split at h
   ·split at h
    ·rename_i t' he;cases h;have h1:=Tx he;have h2:=Tv l
     have h3:0<l.length:=by
      cases l with
      | nil=>exact absurd rfl hlo
      | cons a r=>simp
     rw [List.length_append];have:Wa.length=4:=rfl;omega
    ·cases h
   ·cases h
theorem K0:∀ {a b:List (List UInt8)},AY a=some b->KI b<=86 * KI a/\b.length=a.length
 | [],b,h=>by cases h;exact ⟨Nat.le_refl _,rfl⟩
 | y :: r,b,h=>by
  unfold AY at h
  cases hy:AU y with
  | none=>rw [hy] at h;cases h
  | some t=>
   rw [hy] at h;dsimp only at h;rw [Option.map_eq_some_iff] at h;obtain ⟨q,hq,rfl⟩:=h;have ih:=K0 hq;have:=SS hy;unfold KI at ih⊢;simp only [List.map_cons,List.sum_cons,List.length_cons] at ih⊢;omega
theorem UI {s n:List UInt8} (h:CG s=some n):n.length<=348 * s.length+1:=by
 unfold CG at h;split at h
 ·cases h
 ·rename_i t ht;rw [Option.map_eq_some_iff] at h;obtain ⟨q,hq,rfl⟩:=h;have h1:=Ip ht;have h2:=Tv s;have h3:=K0 hq;have h4:=Jw t;have h5:=Kk q;omega
theorem TI {n:List UInt8} {sp:Bool} {h:BO} (e:D6 n sp=some h):h.text.length<=348 * n.length+42:=by
 unfold D6 at e;split at e
 ·unfold UM at e;split at e
  ·rw [Option.map_eq_some_iff] at e;obtain ⟨l,-,rfl⟩:=e;have:=LR l;show ([91]++Gj l++[93]).length<=_;simp only [List.length_append,List.length_cons,List.length_nil];omega
  ·cases e
 ·split at e
  ·unfold KK at e;split at e
   ·cases e
   ·rename_i m hm;have h1:=UI hm;have h2:=Kg _ n (Nat.le_refl _);split at e
    ·cases e
    ·split at e
     ·rw [Option.map_eq_some_iff] at e;obtain ⟨k,-,rfl⟩:=e;have:=Ni k;show (El k).length<=_;omega
     ·cases e;show m.length<=_;omega
  ·unfold Ru at e;split at e
   ·cases e;exact Nat.zero_le _
   ·split at e
    ·cases e
    ·cases e;have:=C8 0 n;show (AZ 0 n).length<=_;omega
def AhM (a:FW):Nat:=a.user.length+a.pass.length+a.host.text.length
theorem J3:∀ {b:Bool} {l n p:List UInt8},BE b l=some (n,p)->n.length<=l.length
 | _,[],_,_,h=>Qr
 | b,c :: r,n,p,h=>by
  rw [BE] at h;split at h
  ·rw [Option.map_eq_some_iff] at h;obtain ⟨⟨x,y⟩,hx,e⟩:=h;have:=J3 hx;cases e;simp only [List.length_cons];omega
  ·split at h
   ·rw [Option.map_eq_some_iff] at h;obtain ⟨⟨x,y⟩,hx,e⟩:=h;have:=J3 hx;cases e;simp only [List.length_cons];omega
   ·split at h
    ·cases h;exact Nat.zero_le _
    ·rw [Option.map_eq_some_iff] at h;obtain ⟨⟨x,y⟩,hx,e⟩:=h;have:=J3 hx;cases e;simp only [List.length_cons];omega
theorem TP {scheme user pass s:List UInt8} {a:FW} (h:Fa scheme user pass s=some a):AhM a<=user.length+pass.length+348 * s.length+42:=by
 unfold Fa at h;split at h
 ·cases h
 ·rename_i n p hn
  have hle:n.length<=s.length:=by
   unfold FJ at hn;split at hn
   ·rename_i n2 p2 hc;split at hn
    ·cases hn
    ·cases hn;exact J3 hc
   ·cases hn;exact Nat.le_refl _
  split at h
  ·cases h
  ·rename_i ho hh;have:=TI hh;split at h
   ·cases h
   ·cases h;show user.length+pass.length+ho.text.length<=_;omega
theorem AdN {scheme s:List UInt8} {a:FW} (h:GG scheme s=some a):AhM a<=348 * s.length+42:=by
 unfold GG at h;split at h
 ·rename_i w r hc;split at h
  ·cases h
  ·have h1:=TP h;have h2:=C8 5 (Ak 58 w).1;have h3:=C8 5 (Ak 58 w).2.1;have h4:=Cr 58 w;have h5:=congrArg List.length (RB hc).1;rw [List.length_append,List.length_cons] at h5;omega
 ·have:=TP h;rw [List.length_nil] at this;omega
theorem Eg (a b:List (List UInt8)):Az (a++b)=Az a++Az b:=by unfold Az;rw [List.flatMap_append]
theorem TU (p:List UInt8):(Az [p]).length=p.length+1:=by unfold Az;simp
theorem Zt (l:List (List UInt8)):(Az l.dropLast).length<=(Az l).length:=by
 rcases List.eq_nil_or_concat l with rfl | ⟨a,x,rfl⟩
 ·exact Nat.le_refl _
 ·rw [List.concat_eq_append,List.dropLast_concat,Eg,List.length_append];omega
theorem Y7 (l:List (List UInt8)) (k:Nat):(Az (l.take k)).length<=(Az l).length:=by
 have:Az l=Az (l.take k)++Az (l.drop k):=by rw [<-Eg,List.take_append_drop]
 rw [this,List.length_append];omega
theorem VO (scheme:List UInt8) (path:List (List UInt8)):(Az (IU scheme path)).length<=(Az path).length:=by
 unfold IU;split
 ·exact Nat.le_refl _
 ·exact Zt _
theorem Ws (scheme:List UInt8) (out:List (List UInt8)) (p:List UInt8) (last:Bool):(Az (CV scheme out p last)).length<=(Az out).length+3 * p.length+1:=by
 have hu:=VO scheme out;have he:=C8 4 p;have h0:(Az [[]]).length=1:=rfl;unfold CV;split
 ·split
  ·rw [Eg,List.length_append,h0];omega
  ·omega
 ·split
  ·split
   ·rw [Eg,List.length_append,h0];omega
   ·omega
  ·split
   ·rename_i hd;rw [Bool.and_eq_true] at hd;obtain ⟨a,b,rfl,-⟩:=HM hd.2;rw [Eg,List.length_append,TU];show _+(2+1)<=_+3 * 2+1;omega
   ·rw [Eg,List.length_append,TU];omega
def JJ (ps:List (List UInt8)):Nat:=(ps.map fun p=>3 * p.length+1).sum
theorem Ui (scheme:List UInt8):∀ (ps out:List (List UInt8)),(Az (Dz scheme out ps)).length<=(Az out).length+JJ ps
 | [],out=>Nat.le_add_right _ _
 | p :: r,out=>by
  rw [Dz];have h1:=Ui scheme r (CV scheme out p r.isEmpty);have h2:=Ws scheme out p r.isEmpty
  have h3:JJ (p :: r)=3 * p.length+1+JJ r:=by unfold JJ;rw [List.map_cons,List.sum_cons]
  omega
theorem XC (p:UInt8->Bool):∀ l,JJ (Cw p l)<=3 * l.length+1
 | []=>by rw [Cw];decide
 | c :: r=>by
  have ih:=XC p r;rw [Cw];split
  ·have h3:JJ ([] :: Cw p r)=1+JJ (Cw p r):=by unfold JJ;rw [List.map_cons,List.sum_cons];rfl
   rw [h3,List.length_cons];omega
  ·cases h:Cw p r with
   | nil=>rw [h] at ih;show JJ [[c]]<=_;rw [List.length_cons];have:JJ [[c]]=4:=rfl;omega
   | cons q qs=>
    rw [h] at ih
    have h3:JJ (q :: qs)=3 * q.length+1+JJ qs:=by unfold JJ;rw [List.map_cons,List.sum_cons]
    have h4:JJ ((c :: q) :: qs)=3 * (q.length+1)+1+JJ qs:=by unfold JJ;rw [List.map_cons,List.sum_cons];rfl
    show JJ ((c :: q) :: qs)<=_;rw [h4,List.length_cons];omega
theorem E6 (scheme:List UInt8) (path:List (List UInt8)) (s:List UInt8):(Az (Dx scheme path s)).length<=(Az path).length+3 * s.length+1:=by
 have h1:=Ui scheme (Cw (AB (Aj scheme)) s) path;have h2:=XC (AB (Aj scheme)) s;unfold Dx;omega
theorem Ju (scheme s:List UInt8):(Az (Cj scheme s)).length<=3 * s.length+1:=by
 unfold Cj;have h0:(Az []).length=0:=rfl;split
 ·have:=E6 scheme [] (s.drop 1);rw [List.length_drop] at this;omega
 ·have:=E6 scheme [] s;omega
def A6 (u:Ao):Nat:=u.scheme.length+u.user.length+u.pass.length+u.host.text.length+u.flat.length+(Az u.path).length+(F1 63 u.query).length+(F1 35 u.frag).length
theorem Lv (sp:Bool):∀ l,(BZ sp l).1.length+(BZ sp l).2.length=l.length
 | []=>rfl
 | c :: r=>by
  rw [BZ];split
  ·simp
  ·have:=Lv sp r;simp only [List.length_cons];omega
theorem XG (d:UInt8) (b:Bool) (set:Nat) (l:List UInt8):(F1 d (Hw b (AZ set l))).length<=3 * l.length+1:=by
 have:=C8 set l;unfold Hw;split
 ·show (d :: AZ set l).length<=_;rw [List.length_cons];omega
 ·exact Nat.zero_le _
theorem ZI:BO.empty.text.length=0:=rfl
theorem IT (scheme:List UInt8) (p:Cq):A6 (Ax scheme p)<=scheme.length+3 * p.qry.length+3 * p.frg.length+2:=by
 have h1:=XG 63 p.hq (G3 scheme) p.qry;have h2:=XG 35 p.hf 1 p.frg;show scheme.length+0+0+0+0+0+(F1 63 (Hw p.hq (AZ (G3 scheme) p.qry))).length+(F1 35 (Hw p.hf (AZ 1 p.frg))).length<=_;omega
theorem Cb (u:Ao) (l:List (List UInt8)):A6 (BF u l)+(Az u.path).length=A6 u+(Az l).length:=by
 unfold A6 BF;dsimp only;omega
theorem ID (u:Ao) (h:BO):A6 (Bu u h)+u.host.text.length=A6 u+h.text.length:=by
 unfold A6 Bu;dsimp only;omega
theorem LL {u v:Ao} {s:List UInt8} (h:IP u s=some v):A6 v<=A6 u+348 * s.length+43:=by
 unfold IP at h;rw [Option.map_eq_some_iff] at h;obtain ⟨a,ha,rfl⟩:=h;have h1:=AdN ha;have h2:=Lv (Aj u.scheme) s;have h3:=Ju u.scheme (BZ (Aj u.scheme) s).2;unfold AhM at h1;unfold VS A6;dsimp only
 split<;>omega
theorem AaJ {u v:Ao} {s:List UInt8} (h:GM u s=some v):A6 v<=A6 u+348 * s.length+43:=by
 have h2:=Lv true s;have h0:(Az []).length=0:=rfl;unfold GM at h;split at h
 ·cases h;have:=Cb u (Dx u.scheme [] s);have:=E6 u.scheme [] s;omega
 ·split at h
  ·cases h;have:=Cb u (Cj u.scheme (BZ true s).2);have:=Ju u.scheme (BZ true s).2;omega
  ·split at h
   ·cases h
   ·rename_i ho hh;cases h;have h4:=TI hh;have h3:=Ju u.scheme (BZ true s).2;split
    ·have:=Cb u (Cj u.scheme (BZ true s).2);omega
    ·have h5:=Cb (Bu u ho) (Cj u.scheme (BZ true s).2);have h6:=ID u ho;have h7:(Bu u ho).path=u.path:=rfl;omega
theorem VZ (u b:Ao):A6 (DH u b)<=A6 u+(b.user.length+b.pass.length+b.host.text.length):=by
 unfold A6 DH;dsimp only;omega
theorem LZ (u b:Ao):A6 (Gw u b)<=A6 u+((Az b.path).length+(F1 63 b.query).length):=by
 unfold A6 Gw;dsimp only
 split<;>omega
theorem PV (b:Ao):b.user.length+b.pass.length+b.host.text.length+(Az b.path).length+(F1 63 b.query).length+b.scheme.length<=A6 b:=by unfold A6;omega
def OH (p:Cq):Nat:=p.sch.length+p.rest.length+p.qry.length+p.frg.length
theorem Adp {b u:Ao} {p:Cq} (h:LW b p=some u):A6 u<=A6 b+348 * OH p+60:=by
 have hb:=PV b;have hs:=IT Aw p;have hh:=ID (Ax Aw p) .empty;have hfl:Aw.length=4:=rfl;have h0:(Az []).length=0:=rfl;have ht:OH p=p.sch.length+p.rest.length+p.qry.length+p.frg.length:=rfl;rw [ZI] at hh;have hh2:A6 (Bu (Ax Aw p) .empty)<=6+3 * p.qry.length+3 * p.frg.length:=Qa;have hp2:(Bu (Ax Aw p) .empty).path=[]:=rfl;unfold LW at h;dsimp only at h;split at h
 ·have:=AaJ h;rw [List.length_drop] at this;omega
 ·obtain ⟨v,hv,hvl,hvp⟩:∃ v,(if (b.scheme==Aw)=true then Bu (Bu (Ax Aw p) .empty) b.host else Bu (Ax Aw p) .empty)=v/\A6 v<=6+3 * p.qry.length+3 * p.frg.length+b.host.text.length/\v.path=[]:=by
   refine ⟨_,rfl,?_,?_⟩
   ·split
    ·have h5:=ID (Bu (Ax Aw p) .empty) b.host;omega
    ·omega
   ·split<;>rfl
  rw [hv] at h;split at h
  ·obtain ⟨ah,hah,hal⟩:∃ ah,(if (b.scheme==Aw && (EU b.path && !E0 (p.rest.drop 1)))=true then b.path.take 1 else [])=ah/\(Az ah).length<=(Az b.path).length:=by
    refine ⟨_,rfl,?_⟩;split
    ·exact Y7 b.path 1
    ·exact Nat.zero_le _
   rw [hah] at h;cases h;have h5:=Cb v (Dx Aw ah (p.rest.drop 1));have h6:=E6 Aw ah (p.rest.drop 1);rw [List.length_drop] at h6;rw [hvp] at h5;omega
  ·split at h
   ·cases h;have:=LZ v b;omega
   ·split at h
    ·cases h;have h5:=Cb v (Dx Aw (IU Aw b.path) p.rest);have h6:=E6 Aw (IU Aw b.path) p.rest;have h7:=VO Aw b.path;omega
    ·cases h;have h5:=Cb v (Dx Aw [] p.rest);have h6:=E6 Aw [] p.rest;omega
theorem Yq (b:Bool) (s:List UInt8):(Eh b s).length<=s.length+3:=by
 unfold Eh;split
 ·rw [List.length_append,List.length_dropLast];simp only [List.length_cons,List.length_nil];omega
 ·omega
theorem AaX {u:Ao} {p:Cq} (h:GI p=some u):A6 u<=348 * OH p+60:=by
 have hs:=IT p.sch p;have h0:(Az []).length=0:=rfl;have ht:OH p=p.sch.length+p.rest.length+p.qry.length+p.frg.length:=rfl;unfold GI at h;dsimp only at h;split at h
 ·have:=LL h;rw [List.length_drop] at this;omega
 ·split at h
  ·cases h;have h5:=Cb (Ax p.sch p) (Dx (Ax p.sch p).scheme [] (p.rest.drop 1));have h6:=E6 (Ax p.sch p).scheme [] (p.rest.drop 1);rw [List.length_drop] at h6;omega
  ·cases h;have h6:=Yq (p.hq || p.hf) (AZ 0 p.rest);have h7:=C8 0 p.rest;have h8:A6 (Ax p.sch p)=p.sch.length+0+0+0+0+0+(F1 63 (Ax p.sch p).query).length+(F1 35 (Ax p.sch p).frag).length:=rfl;show p.sch.length+0+0+0+(Eh (p.hq || p.hf) (AZ 0 p.rest)).length+0+(F1 63 (Ax p.sch p).query).length+(F1 35 (Ax p.sch p).frag).length<=_;omega
theorem AcK {b u:Ao} {p:Cq} (h:Ro b p=some u):A6 u<=A6 b+348 * OH p+60:=by
 have ht:OH p=p.sch.length+p.rest.length+p.qry.length+p.frg.length:=rfl;unfold Ro at h;split at h
 ·cases h
 ·cases h;have:=C8 1 p.frg;unfold A6;show _+_+_+_+_+_+_+(35 :: AZ 1 p.frg).length<=_;rw [List.length_cons];dsimp only;omega
theorem SR {b u:Ao} {p:Cq} (h:EL b p=some u):A6 u<=A6 b+348 * OH p+60:=by
 have hb:=PV b;have hs:=IT b.scheme p;have ha:=VZ (Ax b.scheme p) b;have h0:(Az []).length=0:=rfl;have hp0:(DH (Ax b.scheme p) b).path=[]:=rfl;have ht:OH p=p.sch.length+p.rest.length+p.qry.length+p.frg.length:=rfl;unfold EL at h;dsimp only at h;split at h
 ·split at h
  ·have:=LL h;unfold FN at this;rw [List.length_drop] at this;omega
  ·have:=LL h;rw [List.length_drop] at this;omega
 ·split at h
  ·cases h;have h5:=Cb (DH (Ax b.scheme p) b) (Dx (Ax b.scheme p).scheme [] (p.rest.drop 1));have h6:=E6 (Ax b.scheme p).scheme [] (p.rest.drop 1);rw [List.length_drop] at h6;omega
  ·split at h
   ·cases h;have:=LZ (DH (Ax b.scheme p) b) b;omega
   ·cases h;have h5:=Cb (DH (Ax b.scheme p) b) (Dx (Ax b.scheme p).scheme (IU (Ax b.scheme p).scheme b.path) p.rest);have h6:=E6 (Ax b.scheme p).scheme (IU (Ax b.scheme p).scheme b.path) p.rest;have h7:=VO (Ax b.scheme p).scheme b.path;omega
theorem Tl {b u:Ao} {p:Cq} (h:I7 b p=some u):A6 u<=A6 b+348 * OH p+60:=by
 unfold I7 at h;split at h
 ·exact Adp h
 ·split at h
  ·have h1:=LL h;have h2:=IT p.sch p;have ht:OH p=p.sch.length+p.rest.length+p.qry.length+p.frg.length:=rfl;unfold FN at h1;rw [List.length_drop] at h1;omega
  ·split at h
   ·have:=AaX h;omega
   ·split at h
    ·exact AcK h
    ·exact SR h
theorem PZ (l:List UInt8):OH (Cp l)<=l.length:=by
 have h0:=Cr 35 l;have h1:=Cr 63 (Ak 35 l).1;have h2:=Cr 58 (Ak 63 (Ak 35 l).1).1;unfold Cp OH;dsimp only;split
 ·dsimp only;rw [RQ];omega
 ·dsimp only;rw [List.length_nil];omega
theorem Td {b u:Ao} {s:List UInt8} (h:Ho b s=some u):A6 u<=A6 b+348 * s.length+60:=by
 have h1:=Tl h;have h2:=PZ (DL s);have h3:(DL s).length<=s.length:=Nat.le_trans (K4 _) (Kt _);omega
theorem Ur:A6 FU=0:=rfl
theorem ZN {u:Ao} {s:List UInt8} (h:DJ s=some u):A6 u<=348 * s.length+60:=by
 unfold DJ at h;split at h
 ·have h1:=Tl h;have h2:=PZ (DL s);have h3:(DL s).length<=s.length:=Nat.le_trans (K4 _) (Kt _);rw [Ur] at h1;omega
 ·cases h
theorem To {u:Ao} (g:AI u):∀ n,u.port=some n->n<=65535:=by
 intro n hn
 cases g.kind with
 | file s o us ps po pa h=>rw [po] at hn;cases hn
 | special s sp o pa h po=>exact (po n hn).1
 | net sp o h po e=>exact (po n hn).1
 | plain sp o h us ps po pa=>rw [po] at hn;cases hn
 | flat sp o h us ps po pa fl hd la=>rw [po] at hn;cases hn
theorem AcO (n:Nat) (h:n<=65535):(Lib.itoa (n:Int)).length<=40:=RY _ Qa Qa
theorem CY {u:Ao} (g:AI u) (f:Bool):(AW u f).length<=A6 u+50:=by
 have h1:(F6 u).length<=u.user.length+u.pass.length+u.host.text.length+46:=by
  unfold F6;split
  ·split
   ·simp
   ·simp
  ·have hw:(Ir u.user u.pass).length<=u.user.length+u.pass.length+2:=by
    unfold Ir;split
    ·simp
    ·split<;>simp only [List.length_append,List.length_cons,List.length_nil]<;>omega
   have hp:(D8 u.port).length<=41:=by
    cases hq:u.port with
    | none=>exact Nat.zero_le _
    | some n=>
     have:=AcO n (To g n hq);show ([58]++Lib.itoa (n:Int)).length<=_;rw [List.length_append];simp only [List.length_cons,List.length_nil];omega
   simp only [List.length_append,List.length_cons,List.length_nil];omega
 have h2:(Ha u).length<=u.flat.length+(Az u.path).length:=by unfold Ha;split<;>omega
 have h3:(if f=true then F1 35 u.frag else []).length<=(F1 35 u.frag).length:=by split<;>simp
 unfold AW A6;simp only [List.length_append,List.length_cons,List.length_nil];omega
theorem AbJ:∀ t∈[Ot,DE,NX],∀ p∈t,p.2.length<=p.1.length+1:=Qe
theorem LX {t:List (List UInt8 × List UInt8)} (ht:t∈[Ot,DE,NX]) {s x:List UInt8} (h:C3 t s=some x):x.length<=s.length+1:=by
 unfold C3 at h
 cases hf:t.find? fun p=>p.1==s with
 | none=>rw [hf] at h;cases h
 | some p=>
  rw [hf] at h;cases h;have h1:=AbJ t ht p (List.mem_of_find?_eq_some hf)
  have h2:(p.1==s)=true:=by simpa using List.find?_some (p:=fun p:List UInt8 × List UInt8=>p.1==s) hf
  rw [beq_iff_eq] at h2;rw [h2] at h1;exact h1
theorem AaC {s x:List UInt8} (h:EA s=some x):x.length<=s.length+1:=by
 have hb:∀ s,BA s=some x->x.length<=s.length+1:=by
  intro s h;unfold BA at h;split at h
  ·rename_i b hb;cases h;exact LX Qf hb
  ·exact LX Qf h
 have hd:s.dropLast.length<=s.length:=by rw [List.length_dropLast];omega
 unfold EA at h;split at h
 ·split at h
  ·rename_i t ht;cases h;have:=LX (t:=Ot) Qf ht;omega
  ·have:=hb _ h;omega
 ·exact LX Qf h
theorem PH (s:List UInt8):∀ n,(Eo s n).1.length<=(Eo s n).2
 | 0=>Nat.le_refl _
 | n+1=>by
  have ih:=PH s n;rw [He];split
  ·exact ih
  ·rename_i t ht;split
   ·exact Nat.le_refl _
   ·have h1:=AaC ht;have h2:((s.drop 1).take (n+1)).length<=n+1:=Qs;show t.length<=n+2;omega
theorem X9 {base n:Nat} {l:List UInt8} (h:(AE base n l).2=0):(AE base n l).1=n:=by
 cases l with
 | nil=>rfl
 | cons c r=>
  rw [AE] at h⊢;split
  ·rfl
  ·rename_i hd;rw [if_neg hd] at h;dsimp only at h;omega
theorem Yx (c:UInt8):Ag (c.toNat:Int) 10<=9:=by
 have key:∀ n:Fin 256,Ag ((UInt8.ofNat n.val).toNat:Int) 10<=9:=Qe;have:=key ⟨c.toNat,c.toNat_lt⟩;simp only [UInt8.ofNat_toNat] at this;exact this
theorem Aad {l:List UInt8} (h:(AE 10 0 l).2=1):(AE 10 0 l).1<=9:=by
 cases l with
 | nil=>cases h
 | cons c r=>
  have h9:=Yx c;rw [AE] at h⊢;split
  ·exact Nat.zero_le _
  ·rename_i hd;rw [if_neg hd] at h;dsimp only at h⊢;have h2:(AE 10 (min (0 * 10+(Ag (c.toNat:Int) ((10:Nat):Int)).toNat) 0x110000) r).2=0:=Qa;rw [X9 h2]
   have h3:(Ag (c.toNat:Int) ((10:Nat):Int)).toNat<=9:=by
    have:Ag (c.toNat:Int) ((10:Nat):Int)<=9:=h9;omega
   omega
theorem Aaw:∀ n,n<=9->(Cs n).length<=3:=Qe
theorem Sn (s:List UInt8):(AR s).1.length<=(AR s).2:=by
 unfold AR;dsimp only;split
 ·exact Nat.le_refl _
 ·rename_i h0;have h4:=Oe (AE (CK s) 0 (s.drop (AK s))).1
  have hge:(Cs (AE (CK s) 0 (s.drop (AK s))).1).length<=AK s+(AE (CK s) 0 (s.drop (AK s))).2:=by
   cases hx:isX s with
   | true=>
    have e:AK s=3:=by unfold AK;rw [hx];rfl
    omega
   | false=>
    have e:AK s=2:=by unfold AK;rw [hx];rfl
    have e2:CK s=10:=by unfold CK;rw [hx];rfl
    rw [e,e2] at h0 h4⊢
    by_cases h1:(AE 10 0 (s.drop 2)).2=1
    ·have:=Aaw _ (Aad h1);omega
    ·omega
  dsimp only;split
  ·exact Nat.le_trans hge (Nat.le_succ _)
  ·exact hge
theorem AeU (s:List UInt8):(FK s).1.length<=(FK s).2:=by
 unfold FK;split
 ·exact Sn s
 ·exact PH s _
theorem Wh:∀ (f:Nat) (l:List UInt8),(Iz f l).length<=l.length
 | 0,l=>Nat.zero_le _
 | f+1,l=>by
  rw [Iz];split
  ·rename_i h;have hb:=Lk (c:=38) (l:=l) h;have hl:=congrArg List.length hb;rw [List.length_append,List.length_cons] at hl;have h1:=AeU (38 :: (Ak 38 l).2.1);have h2:=(Wm (s:=38 :: (Ak 38 l).2.1) Qf);have ih:=Wh f ((38 :: (Ak 38 l).2.1).drop (FK (38 :: (Ak 38 l).2.1)).2);rw [List.length_drop,List.length_cons] at ih;rw [List.length_cons] at h2;rw [List.length_append,List.length_append];omega
  ·exact Nat.le_refl _
theorem Ae7 (l:List UInt8):(SY l).length<=l.length:=Wh _ l
theorem Lg (raw:List UInt8):(AD raw).length<=9 * raw.length:=by
 unfold AD;have h1:=Ae7 (FQ (C6 raw));have h2:=Ki (C6 raw);have h3:=Mg raw;have h4:raw.count 0<=raw.length:=List.count_le_length;omega
theorem Adh {c:UInt8} {r:List UInt8} (h:BX c=false):(C4 (c :: r)).2=[]\/((C4 (c :: r)).2.dropWhile BX).length+1<=r.length:=by
 have e1:(c :: r).dropWhile A0=r.dropWhile A0:=by rw [List.dropWhile_cons,if_pos (Jk h)]
 have h3:=B6 A0 r;unfold C4;split
 ·rw [e1];dsimp only
  cases hx:r.dropWhile A0 with
  | nil=>exact .inl rfl
  | cons a q=>
   have ha:=DY A0 r hx
   have hs:BX a=true:=by
    unfold BX;unfold A0 at ha;simp only [Bool.not_eq_false'] at ha;rw [ha];simp
   rw [hx,List.length_cons] at h3;refine .inr ?_;rw [List.dropWhile_cons,if_pos hs];have:=B6 BX q;omega
 ·have h4:=AbC _ _ (Nat.le_refl (r.dropWhile A0).length);rw [e1];dsimp only
  cases hx:(MK (r.dropWhile A0)).2 with
  | nil=>exact .inl rfl
  | cons a q=>
   rw [hx,List.length_cons] at h4;refine .inr ?_;have:=B6 BX q;show (q.dropWhile BX).length+1<=_;omega
theorem XX (p:List UInt8 × List (List UInt8)):(CJ p).length<=1:=by
 unfold CJ;split
 ·exact Nat.zero_le _
 ·exact Nat.le_refl _
theorem R3:∀ (n:Nat) (l:List UInt8),2 * (O2 n l).length<=(l.dropWhile BX).length+1
 | 0,l=>by show 2 * 0<=_;omega
 | n+1,l=>by
  rw [O2];split
  ·show 2 * 0<=_;omega
  ·rename_i hne
   cases hx:l.dropWhile BX with
   | nil=>exact absurd hx hne
   | cons c r=>
    have hc:=DY BX l hx;have h1:=XX (C4 (c :: r)).1;have ih:=R3 n (C4 (c :: r)).2;rw [List.length_append,List.length_cons]
    rcases Adh (r:=r) hc with e | e
    ·rw [e] at ih⊢
     have e0:O2 n []=[]:=by cases n<;>rfl
     rw [e0,List.length_nil];omega
    ·omega
theorem Ri (l:List UInt8):2 * (Cf l).length<=l.length+1:=by
 have h1:=R3 (l.length+1) l;have h2:=B6 BX l;unfold Cf;omega
end Go.Proofs.YtonomfeipkdmhaaGreatDoor
