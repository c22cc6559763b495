/- Part 15: lemmas. -/
import Derived.Test.YtonomfeipkdmhaaGreatDoorK14
import Derived.Laws.AppendOwn
set_option linter.unusedVariables false
set_option linter.unusedSimpArgs false
set_option maxRecDepth 100000
set_option maxHeartbeats 16000000
namespace Go.Proofs.YtonomfeipkdmhaaGreatDoor
open Go.RowKit
def F2 (n:Nat):Value:= .int .u16 (n:Int)
def GV (w:World) (B:Nat) (v:Value) (l:List Nat):Prop:=w.ownsRow B 29 1 v l.length (l.map F2)
theorem GV.nil (w:World) (B:Nat):GV w B (.slice none 0 0) []:=World.ownsRow_nil _ _ _ _
theorem GV.form {w:World} {B:Nat} {v:Value} {l:List Nat} (h:GV w B v l):∃ a c,v= .slice a l.length c:=by
 rcases h.2 with ⟨rfl,hn⟩ | ⟨g,cap,cur,rfl,_⟩
 ·exact ⟨none,0,by rw [hn]⟩
 ·exact ⟨_,_,rfl⟩
theorem GV.below {w w':World} {B K:Nat} {v:Value} {l:List Nat} (h:GV w B v l) (hb:Below K w w') (hK:w.heap.size<=K):GV w' B v l:=by
 refine ⟨h.1,?_⟩
 rcases h.2 with hn | ⟨g,cap,cur,rfl,hg,hh,rest⟩
 ·exact .inl hn
 ·exact .inr ⟨g,cap,cur,rfl,hg,by rw [hb.block g (by have:=(Array.getElem?_eq_some_iff.1 hh).1;omega)];exact hh,rest⟩
theorem Afg:E1 Tryz.prog 256 29 (.int .u16 0) 2:= .mk' Tryz.underlying256 (by kernel_rfl) rfl
theorem XI (w:World) (us:List Value) (e:TypeId):∀ j x,us[j]? =some x->(w.alloc (.cells us.toArray e)).cell? ((⟨w.heap.size,0,none⟩:Addr).add j)=some x:=by
 intro j x hj;have:(w.alloc (.cells us.toArray e)).heap[w.heap.size]? =some (.cells us.toArray e):=heap_alloc_new w _
 have e:(⟨w.heap.size,0,none⟩:Addr).add j=⟨w.heap.size,j,none⟩:=by unfold Addr.add;split<;>simp_all
 rw [e];simp only [World.cell?];rw [this];simp [hj]
theorem F8 {ops:Array Oper} {rest:List Oper} {o:Oper} {a:Act} {Q:Exit->Act->World->Prop}
  (hgd:o.guard=none) (s x:Operand) (ho:o.op= .call { callee:= .builtin .append,args:= #[s,x],argTypes:= #[256,256] })
  {W0 w0:World} {B:Nat} {v:Value} {l:List Nat} (ms:List Nat) (hs:a.eval s=v) (hx:a.eval x= .slice (some ⟨w0.heap.size,0,none⟩) ms.length ms.length)
  (hown:GV w0 B v l) (hbel:Below B W0 w0) (hB:B<=w0.heap.size) (h8:l.length<=8) (hm8:ms.length<=8)
  (h:∀ a' c' w',GV w' B (.slice a' (l.length+ms.length) c') (l++ms)->Below B W0 w'->wpList Tryz.prog ops Q rest (a.put o.dst (.slice a' (l.length+ms.length) c')) w'):
  wpList Tryz.prog ops Q (o :: rest) a (w0.alloc (.cells (ms.map F2).toArray 29)):=by
 obtain ⟨i,hi,hz,hs1,hb1⟩:=Afg.i
 refine wpList_append_own (w0.alloc (.cells (ms.map F2).toArray 29)) hgd s x 256 ho B 29 i (.int .u16 0) 1 2 Afg.u hi hz hs1 hb1 Afg.z (by decide) v l.length (l.map F2) hs (hown.alloc _) ⟨w0.heap.size,0,none⟩ ms.length ms.length (ms.map F2) hx (by simp)
  (XI w0 _ _) (by intro y hy;obtain ⟨n,_,rfl⟩:=List.mem_map.1 hy;rfl) (by unfold maxLen;omega) (by omega) (by simp;omega) ?_
 intro v' w' hown' hgrow hnil
 have hO:GV w' B v' (l++ms):=by unfold GV;rw [List.length_append,List.map_append];exact hown'
 obtain ⟨a',c',rfl⟩:=hO.form;rw [List.length_append] at hO⊢;refine h a' c' w' hO ?_
 exact (hbel.alloc hB _).grown hgrow (by simp;omega) (fun k hk=>(hown.lt k hk).1)
def SH (w:World) (o:Option (List Nat)) (e:Ending) (w':World):Prop:=
 (match o with | some x=>∃ v,e= .returned v/\GV w' w.heap.size v x | none=>Xd e)/\Below w.heap.size w w'
theorem G1 {w w':World} {o:Option (List Nat)} {pv:Value} (h:o=none) (hb:Below w.heap.size w w'):SH w o (.panicked [{ v:= .iface 263 pv,recovered:=false }]) w':=by subst h;exact ⟨⟨pv,rfl⟩,hb⟩
theorem NP {w w':World} {o:Option (List Nat)} {x:List Nat} {v:Value} (h:o=some x) (ho:GV w' w.heap.size v x) (hb:Below w.heap.size w w'):SH w o (.returned v) w':=by subst h;exact ⟨⟨v,rfl,ho⟩,hb⟩
def AfB:Value->Value->Nat | .string s,.bool true=>s.size+1 | _,_=>0
theorem Jo (l:List UInt8) (c:UInt8):l.contains c=decide (0<=Lib.indexByte l c):=by
 induction l with
 | nil=>rfl
 | cons d r ih=>
  have hg:=Lib.indexByte_ge r c;unfold Lib.indexByte;rw [List.contains_cons]
  by_cases h:d=c
  ·subst h;simp
  ·have h2:(c==d)=false:=by simpa using Ne.symm h
   have h3:(d==c)=false:=by simpa using h
   rw [h2,Bool.false_or,ih,h3]
   by_cases h1:Lib.indexByte r c= -1
   ·simp [h1]
   ·have h0:0<=Lib.indexByte r c:=by omega
    have:(Lib.indexByte r c== -1)=false:=by simpa using h1
    simp [this,h0];omega
theorem Aeg (s:ByteArray) (nb:Bool) (w:World) (hm:ML w) (hs:s.size<=1100000):
  Calls Tryz.prog 336 #[.string s,.bool nb] w (SH w (D4 nb s.toList)):=by
 have hB0:Below w.heap.size w w:=Below.refl _ _;have hlen:=Aa s;cases hem:s.toList.isEmpty
 ·have hne:s.toList≠[]:=by intro h;rw [h] at hem;cases hem
  have hgo:=H0 (Ad6 (nb:=nb) hne);replace hlen:=H0 hlen;clear hne;go_enter Tryz.func336,Tryz.ntmps336;go_wp2_with fail
  go_loopw [0,5,6] (fun sv lv mv wr=>∃ (t:ByteArray) (P:List Nat) (mo:Bool) (f:Nat),sv= .string t/\mv= .bool mo/\t.size<=s.size/\Hid (mo=true->t.size<f)/\P.length<=8/\GV wr w.heap.size lv P/\Below w.heap.size w wr/\
   Hid (if mo=true then D4 nb s.toList=IW nb f P t.toList else D4 nb s.toList=some P)) (fun sv _ mv _=>AfB sv mv)
  case atStart=>exact ⟨s,[],true,s.toList.length+1,rfl,rfl,Nat.le_refl _,H0 (fun _=>by rw [hlen.out];omega),by decide,GV.nil _ _,hB0,H0 (by rw [if_pos rfl];exact hgo.out)⟩
  case round=>
   obtain ⟨t,P,mo,f,rfl,rfl,hts,hf,hP,hown,hbel,hg⟩:=hrel;clear hB0;cases mo
   ·have hfin:Hid (D4 nb s.toList=some P):=H0 (by have:=hg.out;rw [if_neg (by decide)] at this;exact this)
    go_wp2_with fail;go_ret;exact NP hfin.out hown hbel
   ·have hf0:=hf.out rfl;clear hf
    obtain ⟨f,rfl⟩:∃ g,f=g+1:=⟨f - 1,by omega⟩
    have hg2:Hid (D4 nb s.toList=IW nb (f+1) P t.toList):=H0 (by have:=hg.out;rw [if_pos rfl] at this;exact this)
    clear hg;have hsz:=hbel.size
    have hct:=H0 (fun w hm=>Gd t 58 w hm (by omega))
    have hl:=Cc 58 t.toList;rw [Aa] at hl
    have hshort:=H0 (fun h=>Oz (c:=58) (l:=t.toList) h)
    go_wp2_with fail
    refine (hct.out _ (hm.next hbel)).mono ?_
    rintro e w2 ⟨ta,tb,nd,rfl,h1,h2,hw⟩
    have hbel2:Below w.heap.size w w2:=by rw [hw];exact below_drewN hbel nd
    have hown2:=(show ∀ v l,GV wr w.heap.size v l->GV w2 w.heap.size v l from fun v l h=>by rw [hw];exact h) _ _ hown
    have hsz2:=hbel2.size;clear hw hbel hown hsz
    have haz:ta.size<=s.size:=by rw [<-Aa,h1.out];omega
    have hbz:tb.size<=s.size:=by rw [<-Aa,h2.out];omega
    have hbz2:(Af 58 t.toList).2.2=true->tb.size<t.size:=fun h=>by rw [<-Aa,h2.out,<-Aa t];exact hshort.out h
    have hpc:=H0 (fun w=>ZP ta w (by omega))
    have hfc:=H0 (fun w hm=>AcU ta w hm (by omega))
    have hix:=H0 (fun w=>Tryz.strings_IndexByte ta 46 w)
    obtain ⟨mo,hmo⟩:∃ mo,(Af 58 t.toList).2.2=mo:=⟨_,rfl⟩;rw [hmo] at hbz2⊢
    have hstep:=H0 (fun x hx=>Aas (nb:=nb) (f:=f) (P:=P) (x:=x) hmo hx)
    have hnone:Hid (C3 (!mo) nb (Af 58 t.toList).1=none->D4 nb s.toList=none):=H0 (fun h=>by rw [hg2.out];exact ZN (by rw [hmo];exact h))
    have hdone:∀ x,C3 (!mo) nb (Af 58 t.toList).1=some x->((P++x).length<=8->Hid (if mo=true then D4 nb s.toList=IW nb f (P++x) tb.toList else D4 nb s.toList=some (P++x)))/\(8<(P++x).length->Hid (D4 nb s.toList=none)):=fun x hx=>by
     rw [hg2.out,h2.out];exact hstep.out x hx
    replace hdone:=H0 hdone
    have hmea:Hid (AfB (.string tb) (.bool mo)<AfB (.string t) (.bool true)):=H0 (by
     cases mo
     ·exact Nat.succ_pos _
     ·exact Nat.succ_lt_succ (hbz2 rfl))
    have hf2:Hid (mo=true->tb.size<f):=H0 (fun h=>by have:=hbz2 h;omega)
    clear hbz2 hl hshort hstep hf0;replace hmo:=H0 hmo
    have hPI:(P.length:Int)<=8:=by omega
    by_cases hW:(!mo)=false\/nb=false\/(Af 58 t.toList).1.contains 46=false
    ·have hpl:=H0 (Pl hW)
     have hway:mo=true\/(mo=false/\nb=false)\/(mo=false/\nb=true/\Hid (∀ w,Calls Tryz.prog 47 #[.string ta,.int .u8 46] w fun e w'=>∃ z:Int,e= .returned (.int .i64 z)/\z<0/\w'=w)):=by
      cases mo
      ·cases nb
       ·exact .inr (.inl ⟨rfl,rfl⟩)
       ·refine .inr (.inr ⟨rfl,rfl,H0 (fun w=>(hix.out w).mono ?_)⟩)
        rintro e w' ⟨rfl,rfl⟩;refine ⟨_,rfl,?_,rfl⟩
        have hc:(Af 58 t.toList).1.contains 46=false:=by
         rcases hW with h | h | h
         ·cases h
         ·cases h
         ·exact h
        rw [<-h1.out,Jo,decide_eq_false_iff_not,ByteArray.toList_eq] at hc;have e46:((46:Int).toNat.toUInt8)=46:=rfl;rw [e46];omega
      ·exact .inl rfl
     clear hW hix
     cases hv:Ee (Af 58 t.toList).1 with
     | none=>
      have hno:Hid (D4 nb s.toList=none):=H0 (hnone.out (by rw [hpl.out,hv];rfl))
      have hpc2:Hid (∀ w,Calls Tryz.prog 346 #[.string ta] w (Aag .u16 w none)):=H0 (fun w=>by have:=hpc.out w;rw [h1.out,hv] at this;exact this)
      replace hv:=H0 hv
      rcases hway with rfl | ⟨rfl,rfl⟩ | ⟨rfl,rfl,hz⟩
      all_goals
       go_wp2_with (first | (go_at_call 47;refine (hz.out _).mono ?_;rintro e w' ⟨z,rfl,hzl,rfl⟩))
       refine (hpc2.out _).mono ?_;rintro e w3 ⟨⟨pv,rfl⟩,rfl⟩;exact ⟨rfl,G1 hno.out hbel2⟩
     | some v=>
      obtain ⟨hd1,hd2⟩:=hdone.out [v] (by rw [hpl.out,hv];rfl)
      have hpc2:Hid (∀ w,Calls Tryz.prog 346 #[.string ta] w (Aag .u16 w (some v))):=H0 (fun w=>by have:=hpc.out w;rw [h1.out,hv] at this;exact this)
      replace hv:=H0 hv
      have hlen8:(P++[v]).length=P.length+1:=by simp
      rw [hlen8] at hd1 hd2;replace hlen8:=H0 hlen8;replace hd1:=H0 hd1;replace hd2:=H0 hd2
      by_cases h7:P.length+1<=8
      ·have h7I:(P.length:Int)+1<=8:=by omega
       rcases hway with rfl | ⟨rfl,rfl⟩ | ⟨rfl,rfl,hz⟩
       all_goals
        go_wp2_with (first | (go_at_call 47;refine (hz.out _).mono ?_;rintro e w' ⟨z,rfl,hzl,rfl⟩))
        refine (hpc2.out _).mono ?_;rintro e w3 ⟨rfl,rfl⟩
        go_wp2_with (at_builtin;refine F8 rfl _ _ rfl [v] rfl rfl hown2 hbel2 hsz2 hP (by show 1<=8;decide) ?_;intro a' c' w4 ho4 hb4)
        go_roundw
        case rel=>exact ⟨tb,P++[v],_,f,rfl,rfl,hbz,by first | exact H0 (fun _=>hf2.out trivial) | exact H0 (fun h=>by cases h),by rw [hlen8.out];exact h7,ho4,hb4,hd1.out h7⟩
        case measure=>exact hmea.out
      ·have h7I:(8:Int)<(P.length:Int)+1:=by omega
       have hno:Hid (D4 nb s.toList=none):=H0 (hd2.out (by omega)).out
       rcases hway with rfl | ⟨rfl,rfl⟩ | ⟨rfl,rfl,hz⟩
       all_goals
        go_wp2_with (first | (go_at_call 47;refine (hz.out _).mono ?_;rintro e w' ⟨z,rfl,hzl,rfl⟩))
        refine (hpc2.out _).mono ?_;rintro e w3 ⟨rfl,rfl⟩
        go_wp2_with (at_builtin;refine F8 rfl _ _ rfl [v] rfl rfl hown2 hbel2 hsz2 hP (by show 1<=8;decide) ?_;intro a' c' w4 ho4 hb4)
        exact ⟨rfl,G1 hno.out hb4⟩
    ·have hW2:mo=false/\nb=true/\(Af 58 t.toList).1.contains 46=true:=by
      cases mo
      ·cases nb
       ·exact absurd (.inr (.inl rfl)) hW
       ·refine ⟨rfl,rfl,?_⟩;cases h:(Af 58 t.toList).1.contains 46
        ·exact absurd (.inr (.inr h)) hW
        ·rfl
      ·exact absurd (.inl rfl) hW
     clear hW;obtain ⟨rfl,rfl,hc⟩:=hW2;have hpl:=H0 (Uj hc)
     have hz:Hid (∀ w,Calls Tryz.prog 47 #[.string ta,.int .u8 46] w fun e w'=>∃ z:Int,e= .returned (.int .i64 z)/\0<=z/\w'=w):=H0 (fun w=>(hix.out w).mono (by
      rintro e w' ⟨rfl,rfl⟩;refine ⟨_,rfl,?_,rfl⟩;rw [<-h1.out,Jo,decide_eq_true_iff,ByteArray.toList_eq] at hc
      exact hc))
     replace hc:=H0 hc;clear hix hpc
     cases hv:GF (Af 58 t.toList).1 with
     | none=>
      have hno:Hid (D4 true s.toList=none):=H0 (hnone.out (by show C3 true true _=none;rw [hpl.out,hv];rfl))
      have hfc2:Hid (∀ w,ML w->Calls Tryz.prog 345 #[.string ta] w (Nv w none)):=H0 (fun w hm=>by have:=hfc.out w hm;rw [h1.out,hv] at this;exact this)
      replace hv:=H0 hv;go_wp2_with (go_at_call 47;refine (hz.out _).mono ?_;rintro e w' ⟨z,rfl,hzl,rfl⟩)
      refine (hfc2.out _ (hm.next hbel2)).mono ?_
      rintro e w3 ⟨⟨pv,rfl⟩,hb3⟩
      exact ⟨rfl,G1 hno.out (hbel2.next hb3)⟩
     | some v=>
      obtain ⟨hd1,hd2⟩:=hdone.out [v / 65536,v % 65536] (by show C3 true true _=_;rw [hpl.out,hv];rfl)
      have hfc2:Hid (∀ w,ML w->Calls Tryz.prog 345 #[.string ta] w (Nv w (some v))):=H0 (fun w hm=>by have:=hfc.out w hm;rw [h1.out,hv] at this;exact this)
      replace hv:=H0 hv
      have hlen8:(P++[v / 65536,v % 65536]).length=P.length+2:=by simp
      rw [hlen8] at hd1 hd2;replace hlen8:=H0 hlen8;obtain ⟨vh,hvh⟩:∃ x,v / 65536=x:=⟨_,rfl⟩;obtain ⟨vl,hvl⟩:∃ x,v % 65536=x:=⟨_,rfl⟩
      have hfc3:Hid (∀ w,ML w->Calls Tryz.prog 345 #[.string ta] w fun e w'=>e= .returned (.tuple #[.int .u16 (vh:Int),.int .u16 (vl:Int)])/\Below w.heap.size w w'):=H0 (fun w hm=>by subst hvh hvl;exact hfc2.out w hm)
      rw [hvh,hvl] at hd1 hlen8;replace hd1:=H0 hd1;replace hd2:=H0 hd2;replace hvh:=H0 hvh;replace hvl:=H0 hvl;have hsz3:w.heap.size<=w2.heap.size:=hsz2
      by_cases h7:P.length+2<=8
      ·have h7I:(P.length:Int)+2<=8:=by omega
       go_wp2_with (go_at_call 47;refine (hz.out _).mono ?_;rintro e w' ⟨z,rfl,hzl,rfl⟩)
       refine (hfc3.out _ (hm.next hbel2)).mono ?_
       rintro e w3 ⟨rfl,hb3⟩
       have hbel3:=hbel2.next hb3
       have hown3:=hown2.below hb3 (Nat.le_refl _);have hsz3:=hbel3.size
       go_wp2_with (at_builtin;refine F8 rfl _ _ rfl [vh,vl] rfl rfl hown3 hbel3 hsz3 hP (by show 2<=8;decide) ?_;intro a' c' w4 ho4 hb4)
       go_roundw
       case rel=>exact ⟨tb,P++[vh,vl],_,f,rfl,rfl,hbz,H0 (fun h=>by cases h),by rw [hlen8.out];exact h7,ho4,hb4,hd1.out h7⟩
       case measure=>exact hmea.out
      ·have h7I:(8:Int)<(P.length:Int)+2:=by omega
       have hno:Hid (D4 true s.toList=none):=H0 (hd2.out (by omega)).out
       go_wp2_with (go_at_call 47;refine (hz.out _).mono ?_;rintro e w' ⟨z,rfl,hzl,rfl⟩)
       refine (hfc3.out _ (hm.next hbel2)).mono ?_
       rintro e w3 ⟨rfl,hb3⟩
       have hbel3:=hbel2.next hb3
       have hown3:=hown2.below hb3 (Nat.le_refl _);have hsz3:=hbel3.size
       go_wp2_with (at_builtin;refine F8 rfl _ _ rfl [vh,vl] rfl rfl hown3 hbel3 hsz3 hP (by show 2<=8;decide) ?_;intro a' c' w4 ho4 hb4)
       exact ⟨rfl,G1 hno.out hb4⟩
 ·have hno:Hid (D4 nb s.toList=some []):=H0 (by
   have:s.toList=[]:=by simpa using hem
   rw [this];rfl)
  replace hlen:=H0 hlen;go_enter Tryz.func336,Tryz.ntmps336;go_wp2_with fail;go_ret;exact NP hno.out (GV.nil _ _) hB0
theorem KO {fn:Func} {p q:Tmp} {tyA tyB:TypeId} (h:fn.results= #[.cell p tyA,.cell q tyB]) (tmps:Array Value) (P:Program) (w:World):
  (results fn tmps).run P w=
   ((asAddr (tmps.getD p undef)).run P w).andThen fun a w₁=>((loadVar tyA a).run P w₁).andThen fun v w₂=>((asAddr (tmps.getD q undef)).run P w₂).andThen fun b w₃=>((loadVar tyB b).run P w₃).andThen fun u w₄=> .ok (.tuple #[v,u]) w₄:=by
 simp only [results,h];simp [Sem.run_bind,Result.andThen]
theorem NI {tmps:Array Value} {w:World} {g g2:Nat} {c:Array Value} {b:Bool} (h2:tmps.getD 2 undef= .pointer (some ⟨g,0,none⟩)) (h3:tmps.getD 3 undef= .pointer (some ⟨g2,0,none⟩))
  (hg:w.heap[g]? =some (.cells c 30)) (hc:c.size=8) (hg2:w.heap[g2]? =some (.cells #[.bool b] 4)):(results Tryz.f326 tmps).run Tryz.prog w= .ok (.tuple #[.agg c,.bool b]) w:=by
 have y0:w.cell? ⟨g2,0,none⟩=some (.bool b):=by simp [World.cell?,hg2]
 have hb:(loadVar 4 ⟨g2,0,none⟩).run Tryz.prog w= .ok (.bool b) w:=by simp [go_sem,y0]
 have ha:=run_loadVar_row (P:=Tryz.prog) w g 30 30 c _ _ hg Tryz.underlying30 rfl (by rw [hc];kernel_rfl)
 rw [KO rfl,h2,h3];simp only [asAddr,Sem.run_pure,Result.andThen,ha,hb]
def Lu (g g2:Nat):List Deferred:=[{ target:= .fn (.func 335) #[.pointer (some ⟨g,0,none⟩),.pointer (some ⟨g2,0,none⟩)],args:= #[] }]
theorem AdE {R:Ending->World->Prop} {tmps:Array Value} {w:World} {g g2:Nat} {c:Array Value} {b:Bool} (h2:tmps.getD 2 undef= .pointer (some ⟨g,0,none⟩)) (h3:tmps.getD 3 undef= .pointer (some ⟨g2,0,none⟩))
  (hg:w.heap[g]? =some (.cells c 30)) (hc:c.size=8) (hg2:w.heap[g2]? =some (.cells #[.bool b] 4)) (hR:R (.returned (.tuple #[.agg c,.bool b])) w):
  Leaves Tryz.prog Tryz.f326 tmps R (Lu g g2) .returning w:=by
 refine leaves_cons (f:=335) (args:= #[.pointer (some ⟨g,0,none⟩),.pointer (some ⟨g2,0,none⟩)]) (by simp) (by simp [go_sem]) ?_
 refine (Xb ⟨g,0,none⟩ ⟨g2,0,none⟩ w).mono ?_;rintro e u' w' ⟨rfl,rfl,rfl⟩;exact ⟨_,NI h2 h3 hg hc hg2,hR⟩
theorem Aa0 {R:Ending->World->Prop} {tmps:Array Value} {w:World} {g g2 B:Nat} {c:Array Value} {b pv:Value} (h2:tmps.getD 2 undef= .pointer (some ⟨g,0,none⟩)) (h3:tmps.getD 3 undef= .pointer (some ⟨g2,0,none⟩))
  (hg:w.heap[g]? =some (.cells c 30)) (hc:c.size=8) (hg2:w.heap[g2]? =some (.cells #[b] 4)) (hne:g≠g2) (hB1:B<=g) (hB2:B<=g2) (hR:∀ w',Below B w w'->R (.returned (.tuple #[.agg C8,.bool false])) w'):
  Leaves Tryz.prog Tryz.f326 tmps R (Lu g g2) (.panicking [{ v:= .iface 263 pv,recovered:=false }]) w:=by
 refine leaves_cons (f:=335) (args:= #[.pointer (some ⟨g,0,none⟩),.pointer (some ⟨g2,0,none⟩)]) (by simp) (by simp [go_sem]) ?_
 refine (Oa g g2 B pv [] w c hc b hg hg2 hne hB1 hB2).mono ?_;rintro e u' w' ⟨rfl,rfl,k1,k2,hb⟩;exact ⟨_,NI h2 h3 k1 rfl k2,hR _ hb⟩
def Tf (w:World) (o:Option (List Nat)) (e:Ending) (w':World):Prop:=
 e= .returned (.tuple #[U8 (o.getD [0,0,0,0,0,0,0,0]),.bool o.isSome])/\Below w.heap.size w w'
theorem JL {w w':World} {o:Option (List Nat)} (h:o=none) (hb:Below w.heap.size w w'):Tf w o (.returned (.tuple #[.agg C8,.bool false])) w':=by subst h;exact ⟨rfl,hb⟩
theorem Jc {w w':World} {o:Option (List Nat)} {l:List Nat} (h:o=some l) (hb:Below w.heap.size w w'):Tf w o (.returned (.tuple #[.agg (AV l),.bool true])) w':=by subst h;exact ⟨rfl,hb⟩
structure Ll (w wx:World) (c:Array Value):Prop where
 below:Below w.heap.size w wx
 size:w.heap.size+2<=wx.heap.size
 a:wx.heap[w.heap.size]? =some (.cells c 30)
 b:wx.heap[w.heap.size+1]? =some (.cells #[.bool false] 4)
theorem Ll.next {w wx wy:World} {c:Array Value} (h:Ll w wx c) (hb:Below wx.heap.size wx wy):Ll w wy c:=
 ⟨h.below.next hb,by have:=hb.size;have:=h.size;omega,(hb.block _ (by have:=h.size;omega)).trans h.a,(hb.block _ (by have:=h.size;omega)).trans h.b⟩
theorem Ll.start (w:World):Ll w ((w.alloc (.cells C8 30)).alloc (.cells #[.bool false] 4)) C8:=
 ⟨((Below.refl _ _).alloc (Nat.le_refl _) _).alloc (by simp) _,by simp,by rw [heap_alloc_old _ _ (by simp),heap_alloc_new],heap_alloc2_new w _ _⟩
theorem Ll.panic {w wx:World} {c:Array Value} {tmps:Array Value} {s:List UInt8} {pv:Value} (h:Ll w wx c) (hc:c.size=8) (hno:FP s=none) (h2:tmps.getD 2 undef= .pointer (some ⟨w.heap.size,0,none⟩)) (h3:tmps.getD 3 undef= .pointer (some ⟨w.heap.size+1,0,none⟩)):
  Leaves Tryz.prog Tryz.f326 tmps (Tf w (FP s)) (Lu w.heap.size (w.heap.size+1)) (.panicking [{ v:= .iface 263 pv,recovered:=false }]) wx:=
 Aa0 (B:=w.heap.size) h2 h3 h.a hc h.b (by omega) (Nat.le_refl _) (by omega) (fun w' hb=>JL hno (h.below.trans hb))
theorem Ll.setRow {w wx:World} {c:Array Value} (h:Ll w wx c) (d:Array Value):Ll w (wx.setRow w.heap.size d) d:=
 ⟨Ae h.below (Nat.le_refl _) _,by have:=h.size;simpa using this,setRow_heap _ _ _ _ _ _ h.a,(setRow_other _ _ _ _ (by omega)).trans h.b⟩
theorem Ll.cellb {w wx:World} {c:Array Value} (h:Ll w wx c):wx.cell? ⟨w.heap.size+1,0,none⟩=some (.bool false)/\wx.frozen? ⟨w.heap.size+1,0,none⟩=false:=by
 constructor
 ·simp [World.cell?,h.b]
 ·simp [World.frozen?,h.b]
theorem Ll.done {w wx:World} {c tmps:Array Value} {R:Ending->World->Prop} {b:Bool} (h:Ll w wx c) (hc:c.size=8) (h2:tmps.getD 2 undef= .pointer (some ⟨w.heap.size,0,none⟩)) (h3:tmps.getD 3 undef= .pointer (some ⟨w.heap.size+1,0,none⟩))
  (hR:∀ w',Below w.heap.size w w'->R (.returned (.tuple #[.agg c,.bool b])) w'):
  Leaves Tryz.prog Tryz.f326 tmps R (Lu w.heap.size (w.heap.size+1)) .returning (wx.setCell ⟨w.heap.size+1,0,none⟩ (.bool b)):=
 AdE h2 h3 ((HF (by omega) 0 _).trans h.a) hc ((SZ (cs:= #[.bool false]) h.b 0 (.bool b))) (hR _ (h.below.setCell (p:=⟨w.heap.size+1,0,none⟩) (by simp) _))
theorem Dp {P:Program} {w:World} {ops:Array Oper} {rest:List Oper} {o:Oper} {a:Act} {Q:Exit->Act->World->Prop} (hgd:o.guard=none) (d s:Operand) (dT sT:TypeId)
  (ho:o.op= .call { callee:= .builtin .copy,args:= #[d,s],argTypes:= #[dT,sT] }) (elem:TypeId) (hu:P.underlying dT=some (.slice elem)) (hsz:(P.info? elem).map (·.size)=some 1)
  (dp sp:Option Addr) (dLen dCap sLen sCap:Nat) (hd:a.eval d= .slice dp dLen dCap) (hs:a.eval s= .slice sp sLen sCap)
  (g off:Nat) (cur:Array Value) (t:TypeId) (hg:w.heap[g]? =some (.cells cur t (0,0))) (cs:List Value) (D:Array Value) (hD:D=(splice cur.toList off cs).toArray) (hn:cs.length=Nat.min sLen dLen)
  (hpos:0<cs.length->dp=some ⟨g,off,none⟩/\∃ ad,sp=some ad/\∀ j v,cs[j]? =some v->w.cell? (ad.add j)=some v)
  (hfit:off+cs.length<=cur.size) (h1:∀ v∈cs,v.oneCell'=true)
  (h:wpList P ops Q rest (a.put o.dst (goInt cs.length)) (w.setRow g D)):
  wpList P ops Q (o :: rest) a w:=by
 subst hD
 by_cases h0:cs.length=0
 ·obtain rfl:cs=[]:=List.eq_nil_of_length_eq_zero h0
  refine wpList_copy_nothing hgd d s dT sT ho elem hu hsz dp sp dLen dCap sLen sCap hd hs (by simpa using hn.symm) ?_
  have e:(splice cur.toList off ([]:List Value)).toArray=cur:=by simp [splice]
  rw [e,setRow_self w g cur t (0,0) hg] at h;exact h
 ·obtain ⟨rfl,ad,rfl,hsrc⟩:=hpos (by omega)
  exact wpList_copy_own hgd d s dT sT ho elem hu hsz g off dLen dCap ad sLen sCap hd hs cur t hg cs hn hsrc hfit h1 h
theorem GV.src {w:World} {B:Nat} {a:Option Addr} {n c:Nat} {x:List Nat} (h:GV w B (.slice a n c) x) (h0:0<x.length):∃ ad,a=some ad/\∀ j v,(x.map F2)[j]? =some v->w.cell? (ad.add j)=some v:=by
 rcases h.2 with ⟨_,hn⟩ | ⟨g,cap,cur,hv,hg,hh,_⟩
 ·omega
 ·obtain ⟨rfl,_,_⟩:=Value.slice.inj hv;exact ⟨_,rfl,World.ownsRow.cells h rfl⟩
theorem AcP (l:List UInt8):(HK l).1.length<=l.length/\(HK l).2.1.length<=l.length:=by
 unfold HK Lib.cut;split
 ·exact ⟨by show (List.take _ l).length<=_;rw [List.length_take];omega,by show (List.drop _ l).length<=_;rw [List.length_drop];omega⟩
 ·exact ⟨Nat.le_refl _,Nat.zero_le _⟩
theorem Y9 {nb:Bool} {l:List UInt8} {x:List Nat} (h:D4 nb l=some x):x.length<=8:=by
 unfold D4 at h;split at h
 ·cases h
 ·split at h
  ·cases h;assumption
  ·cases h
theorem MV {s:ByteArray} {nb:Bool} {o:Option (List Nat)} (w:World) (hm:ML w) (hs:s.size<=1100000) (h:D4 nb s.toList=o):Calls Tryz.prog 336 #[.string s,.bool nb] w (SH w o):=h ▸ Aeg s nb w hm hs
theorem Tx (s:ByteArray) (w:World) (hm:ML w) (hs:s.size<=1100000):
  Calls Tryz.prog 326 #[.string s] w (Tf w (FP s.toList)):=by
 have hmf:∀ (fn:Fn) (first cap:Array Value) (w:World),(Instr.makeFunc fn first cap).run Tryz.prog w= .ok (.func fn first cap) w:=fun _ _ _ _=>rfl
 have hW0:=Ll.start w
 have hm0:=hm.next hW0.below
 obtain ⟨m,hml⟩:=hm0
 have hcut:=H0 (Tryz.strings_Cut s ⟨#[58,58]⟩ m _ (by omega) hml)
 clear hml;go_enter_defers Tryz.func326,Tryz.ntmps326;go_wp2_with fail;refine hcut.out.mono ?_;rintro e w3 ⟨rfl,nd,hw⟩
 have hW:=hW0.next (show Below _ _ w3 from hw ▸ below_drewN (Below.refl _ _) nd)
 clear hcut hW0 hw
 have hC:Lib.cut s.data.toList [58,58]=HK s.toList:=by rw [ByteArray.toList_eq];rfl
 rw [hC];obtain ⟨ta,hta⟩:∃ x:ByteArray,(⟨(HK s.toList).1.toArray⟩:ByteArray)=x:=⟨_,rfl⟩;obtain ⟨tb,htb⟩:∃ x:ByteArray,(⟨(HK s.toList).2.1.toArray⟩:ByteArray)=x:=⟨_,rfl⟩;obtain ⟨two,htwo⟩:∃ x,(HK s.toList).2.2=x:=⟨_,rfl⟩;rw [hta,htb,htwo]
 have hal:ta.toList=(HK s.toList).1:=by rw [<-hta];exact toList_mk _
 have hbl:tb.toList=(HK s.toList).2.1:=by rw [<-htb];exact toList_mk _
 have hlen:=AcP s.toList
 have has:ta.size<=1100000:=by rw [<-Aa,hal];rw [Aa] at hlen;omega
 have hbs:tb.size<=1100000:=by rw [<-Aa,hbl];rw [Aa] at hlen;omega
 have hP:FP s.toList=if two=true then (match D4 false ta.toList with
  | none=>none
  | some x=>match D4 true tb.toList with
   | none=>none
   | some y=>if x.length+y.length<8 then some (x++(List.replicate (8 - x.length - y.length) 0++y)) else none)
  else match D4 true s.toList with | none=>none | some x=>if x.length=8 then some x else none:=by
  rw [hal,hbl,<-htwo];rfl
 replace hP:=H0 hP;clear hlen hal hbl hta htb hC;replace htwo:=H0 htwo
 have hm3:=hm.next hW.below
 cases two
 ·cases hv:D4 true s.toList with
  | none=>
   have hno:Hid (FP s.toList=none):=H0 (by rw [hP.out,if_neg (by decide),hv])
   have hrow:=H0 (MV _ hm3 hs hv);replace hv:=H0 hv;go_wp2_with fail;refine hrow.out.mono ?_;rintro e w4 ⟨⟨pv,rfl⟩,hb⟩
   exact (hW.next hb).panic rfl hno.out rfl rfl
  | some x=>
   have hrow:=H0 (MV _ hm3 hs hv)
   have hq:Hid (FP s.toList=if x.length=8 then some x else none):=H0 (by rw [hP.out,if_neg (by decide),hv])
   replace hv:=H0 hv;go_wp2_with fail;refine hrow.out.mono ?_;rintro e w4 ⟨⟨v,rfl,ho⟩,hb⟩;obtain ⟨xa,xc,rfl⟩:=ho.form
   have hW4:=hW.next hb
   clear hb
   by_cases h8:x.length=8
   ·have hyes:Hid (FP s.toList=some x):=H0 (by rw [hq.out,if_pos h8])
    have h8I:((x.length:Int) != 8)=false:=by rw [h8];rfl
    replace h8:=H0 h8;obtain ⟨D,hD⟩:∃ D,D=(splice C8.toList 0 (x.map F2)).toArray:=⟨_,rfl⟩
    have hDx:Hid (D=AV x):=H0 (by
     rw [hD]
     have e:splice C8.toList 0 (x.map F2)=x.map F2:=by
      unfold splice
      rw [List.take_zero,List.nil_append,List.drop_of_length_le (by rw [List.length_map,h8.out];decide),List.append_nil]
     rw [e];rfl)
    have hDs:D.size=8:=by rw [hDx.out];simp [AV,h8.out]
    have hi8:Hid ((Tryz.prog.info? 30).map (·.size)=some D.size):=H0 (by rw [hDs];kernel_rfl)
    have hone:Hid (D.all (·.oneCell')=true):=H0 (by rw [hDx.out];simp [AV,Value.oneCell'])
    have hW5:=hW4.setRow D;have hW6:=hW5.setRow D;obtain ⟨y0,f2⟩:=hW6.cellb;replace hD:=H0 hD;replace hDs:=H0 hDs
    go_wp2_with (first
     | (refine Dp rfl _ _ 256 256 rfl 29 Tryz.underlying256 (by kernel_rfl) (some ⟨w.heap.size,0,none⟩) xa 8 8 x.length xc rfl rfl w.heap.size 0 C8 30 hW4.a (x.map F2) D hD.out (by rw [List.length_map,h8.out];rfl) (fun h0=>⟨rfl,ho.src (by simpa using h0)⟩) (by rw [List.length_map,h8.out];decide) (by intro v hv;obtain ⟨n,_,rfl⟩:=List.mem_map.1 hv;rfl) ?_)
     | (refine wpList_load_row rfl 30 _ rfl w.heap.size rfl 30 D _ _ hW5.a Tryz.underlying30 rfl hi8.out ?_)
     | (refine wpList_store_row rfl 30 _ _ rfl w.heap.size D rfl rfl 30 _ hW5.a hi8.out rfl hone.out ?_))
    exact hW6.done hDs.out rfl rfl (fun w' hb=>hDx.out ▸ Jc hyes.out hb)
   ·have hno:Hid (FP s.toList=none):=H0 (by rw [hq.out,if_neg h8])
    have h8I:((x.length:Int) != 8)=true:=by simp only [bne_iff_ne,ne_eq];omega
    have hWs:=hW4.setRow C8;obtain ⟨y0,f2⟩:=hWs.cellb;replace h8:=H0 h8
    go_wp2_with (refine wpList_store_row rfl 30 _ _ rfl w.heap.size C8 rfl rfl 30 _ hW4.a (by kernel_rfl) rfl (by kernel_rfl) ?_)
    exact hWs.done rfl rfl rfl (fun w' hb=>JL hno.out hb)
 ·have hP2:Hid (FP s.toList=match D4 false ta.toList with
   | none=>none
   | some x=>match D4 true tb.toList with
    | none=>none
    | some y=>if x.length+y.length<8 then some (x++(List.replicate (8 - x.length - y.length) 0++y)) else none):=H0 (by rw [hP.out,if_pos rfl])
  clear hP
  cases hv:D4 false ta.toList with
  | none=>
   have hno:Hid (FP s.toList=none):=H0 (by rw [hP2.out,hv])
   have hrow:=H0 (MV _ hm3 has hv);replace hv:=H0 hv;go_wp2_with fail;refine hrow.out.mono ?_;rintro e w4 ⟨⟨pv,rfl⟩,hb⟩
   exact (hW.next hb).panic rfl hno.out rfl rfl
  | some x=>
   have hrow:=H0 (MV _ hm3 has hv);have hx8:x.length<=8:=Y9 hv;go_wp2_with fail;refine hrow.out.mono ?_;rintro e w4 ⟨⟨v,rfl,ho⟩,hb⟩;obtain ⟨xa,xc,rfl⟩:=ho.form
   have hW4:=hW.next hb
   have hm4:=hm3.next hb
   clear hb hrow
   cases hu:D4 true tb.toList with
   | none=>
    have hno:Hid (FP s.toList=none):=H0 (by rw [hP2.out,hv];dsimp only;rw [hu])
    have hrow:=H0 (MV _ hm4 hbs hu);replace hv:=H0 hv;replace hu:=H0 hu;go_wp2_with fail;refine hrow.out.mono ?_;rintro e w5 ⟨⟨pv,rfl⟩,hb⟩
    exact (hW4.next hb).panic rfl hno.out rfl rfl
   | some y=>
    have hrow:=H0 (MV _ hm4 hbs hu);have hy8:y.length<=8:=Y9 hu
    have hq:Hid (FP s.toList=if x.length+y.length<8 then some (x++(List.replicate (8 - x.length - y.length) 0++y)) else none):=H0 (by rw [hP2.out,hv];dsimp only;rw [hu])
    replace hv:=H0 hv;replace hu:=H0 hu;go_wp2_with fail;refine hrow.out.mono ?_;rintro e w5 ⟨⟨v,rfl,ho2⟩,hb⟩;obtain ⟨ya,yc,rfl⟩:=ho2.form;have hox:=ho.below hb (Nat.le_refl _)
    have hW5:=hW4.next hb
    have h24:=hW4.size;clear hb ho
    by_cases h8:x.length+y.length<8
    ·have hyes:Hid (FP s.toList=some (x++(List.replicate (8 - x.length - y.length) 0++y))):=H0 (by rw [hq.out,if_pos h8])
     have h8I:(x.length:Int)+(y.length:Int)<8:=by omega
     obtain ⟨k,hk⟩:∃ k,y.length+k=8:=⟨8 - y.length,by omega⟩
     have hkI:(8:Int) - (y.length:Int)=(k:Int):=by omega
     have hk1:(k:Int)<=8:=by omega
     have hy8I:(y.length:Int)<=8:=by omega
     obtain ⟨D,hD⟩:∃ D,D=(splice C8.toList 0 (x.map F2)).toArray:=⟨_,rfl⟩
     have hDx:Hid (D=(x.map F2++List.replicate (8 - x.length) (F2 0)).toArray):=H0 (by
      rw [hD]
      have e:splice C8.toList 0 (x.map F2)=x.map F2++List.replicate (8 - x.length) (F2 0):=by
       unfold splice;rw [List.take_zero,List.nil_append,Nat.zero_add,List.length_map];congr 1;have:C8.toList=List.replicate 8 (F2 0):=rfl;rw [this,List.drop_replicate]
      rw [e])
     have hDs:D.size=8:=by rw [hDx.out];simp;omega
     obtain ⟨E,hE⟩:∃ E,E=(splice D.toList k (y.map F2)).toArray:=⟨_,rfl⟩
     have hEx:Hid (E=AV (x++(List.replicate (8 - x.length - y.length) 0++y))):=H0 (by
      rw [hE]
      have e:splice D.toList k (y.map F2)=(x++(List.replicate (8 - x.length - y.length) 0++y)).map F2:=by
       unfold splice
       rw [List.drop_of_length_le (by rw [Array.length_toList,hDs,List.length_map];omega),List.append_nil,hDx.out]
       rw [List.take_append,List.length_map,List.take_of_length_le (by rw [List.length_map];omega),List.take_replicate,List.map_append,List.map_append,List.map_replicate,List.append_assoc]
       congr 3;omega
      rw [e];rfl)
     have hEs:E.size=8:=by rw [hEx.out];simp [AV];omega
     have hi8:Hid ((Tryz.prog.info? 30).map (·.size)=some E.size):=H0 (by rw [hEs];kernel_rfl)
     have hone:Hid (E.all (·.oneCell')=true):=H0 (by rw [hEx.out];simp [AV,Value.oneCell'])
     have hW6:=hW5.setRow D;have hW7:=hW6.setRow E;have hW8:=hW7.setRow E;obtain ⟨y0,f2⟩:=hW8.cellb
     have hyown:Hid (∀ {a c:_},GV w5 w4.heap.size (.slice a y.length c) y->GV (w5.setRow w.heap.size D) w4.heap.size (.slice a y.length c) y):=H0 (fun h=>by
      refine ⟨h.1,?_⟩
      rcases h.2 with hn | ⟨g,cap,cur,hv,hg,hh,rest⟩
      ·exact .inl hn
      ·exact .inr ⟨g,cap,cur,hv,hg,by rw [setRow_other _ _ _ _ (by omega)];exact hh,rest⟩)
     have ho3:=hyown.out ho2;replace hD:=H0 hD;replace hE:=H0 hE;replace hDs:=H0 hDs;replace hEs:=H0 hEs;have hkN:=H0 hk;clear hk
     by_cases hk8:k=8
     ·subst hk8
      obtain rfl:y=[]:=List.eq_nil_of_length_eq_zero (by have:=hkN.out;omega)
      have hkN:=0
      go_wp2_with (first
       | (refine Dp rfl (.tmp 40) (.tmp 41) 256 256 rfl 29 Tryz.underlying256 (by kernel_rfl) (some ⟨w.heap.size,0,none⟩) xa 8 8 x.length xc rfl rfl w.heap.size 0 C8 30 hW5.a (x.map F2) D hD.out (by rw [List.length_map];exact (Nat.min_eq_left hx8).symm) (fun h0=>⟨rfl,hox.src (by simpa using h0)⟩) (by rw [List.length_map];show 0+x.length<=8;omega) (by intro v hv;obtain ⟨n,_,rfl⟩:=List.mem_map.1 hv;rfl) ?_)
       | (refine Dp rfl (.tmp 46) (.tmp 47) 256 256 rfl 29 Tryz.underlying256 (by kernel_rfl) _ _ _ _ _ _ rfl rfl w.heap.size 8 D 30 hW6.a [] E hE.out (by first | rfl | simp) (fun h0=>absurd h0 (by decide)) (by rw [hDs.out];decide) (by intro v hv;cases hv) ?_)
       | (refine wpList_load_row rfl 30 _ rfl w.heap.size rfl 30 E _ _ hW7.a Tryz.underlying30 rfl hi8.out ?_)
       | (refine wpList_store_row rfl 30 _ _ rfl w.heap.size E rfl rfl 30 _ hW7.a hi8.out rfl hone.out ?_))
      exact hW8.done hEs.out rfl rfl (fun w' hb=>hEx.out ▸ Jc hyes.out hb)
     ·have hk8I:(k:Int)<8:=by omega
      have hyk:Hid ((y.map F2).length=Nat.min y.length (8 - k)):=H0 (by rw [List.length_map];have:=hkN.out;exact (Nat.min_eq_left (by omega)).symm)
      go_wp2_with (first
       | (refine Dp rfl (.tmp 40) (.tmp 41) 256 256 rfl 29 Tryz.underlying256 (by kernel_rfl) (some ⟨w.heap.size,0,none⟩) xa 8 8 x.length xc rfl rfl w.heap.size 0 C8 30 hW5.a (x.map F2) D hD.out (by rw [List.length_map];exact (Nat.min_eq_left hx8).symm) (fun h0=>⟨rfl,hox.src (by simpa using h0)⟩) (by rw [List.length_map];show 0+x.length<=8;omega) (by intro v hv;obtain ⟨n,_,rfl⟩:=List.mem_map.1 hv;rfl) ?_)
       | (refine Dp rfl (.tmp 46) (.tmp 47) 256 256 rfl 29 Tryz.underlying256 (by kernel_rfl) (some ⟨w.heap.size,k,none⟩) ya (8 - k) (8 - k) y.length yc rfl rfl w.heap.size k D 30 hW6.a (y.map F2) E hE.out hyk.out (fun h0=>⟨rfl,ho3.src (by simpa using h0)⟩) (by rw [List.length_map,hDs.out];have:=hkN.out;omega) (by intro v hv;obtain ⟨n,_,rfl⟩:=List.mem_map.1 hv;rfl) ?_)
       | (refine wpList_load_row rfl 30 _ rfl w.heap.size rfl 30 E _ _ hW7.a Tryz.underlying30 rfl hi8.out ?_)
       | (refine wpList_store_row rfl 30 _ _ rfl w.heap.size E rfl rfl 30 _ hW7.a hi8.out rfl hone.out ?_))
      exact hW8.done hEs.out rfl rfl (fun w' hb=>hEx.out ▸ Jc hyes.out hb)
    ·have hno:Hid (FP s.toList=none):=H0 (by rw [hq.out,if_neg h8])
     have h8I:(8:Int)<=(x.length:Int)+(y.length:Int):=by omega
     have hx8I:(x.length:Int)<=8:=by omega
     have hy8I:(y.length:Int)<=8:=by omega
     have hWs:=hW5.setRow C8;obtain ⟨y0,f2⟩:=hWs.cellb
     go_wp2_with (refine wpList_store_row rfl 30 _ _ rfl w.heap.size C8 rfl rfl 30 _ hW5.a (by kernel_rfl) rfl (by kernel_rfl) ?_)
     exact hWs.done rfl rfl rfl (fun w' hb=>JL hno.out hb)
def AfW (l:List UInt8) (w:World) (e:Ending) (w':World):Prop:=∃ v:Value,e= .returned v/\CA w' w.heap.size 5 v l/\Below w.heap.size w w'
theorem RR {w:World} {B:Nat} {E:TypeId} {v:Value} {l:List UInt8} (h:CA w B E v l) (n:Nat):CA (w.drewN n) B E v l:=Bp h (below_drewN (Below.refl w.heap.size w) n) (Nat.le_refl _)
theorem Jm {l:List UInt8} (h:l.length<3):BN l=l:=by
 match l,h with
 | [],_=>rfl
 | [a],_=>rfl
 | [a,b],_=>rfl
theorem Na {c:UInt8} {r:List UInt8} (h:c≠37):BN (c :: r)=c :: BN r:=by
 match r with
 | []=>rfl
 | [a]=>rfl
 | a :: b :: q=>rw [BN,if_neg h]
theorem Nl {c a b:UInt8} {q:List UInt8} (h:c=37):BN (c :: a :: b :: q)=match Wq a,Wq b with | some x,some y=>UInt8.ofNat (x * 16+y) :: BN q | _,_=>c :: BN (a :: b :: q):=by
 rw [BN,if_pos h];rfl
theorem Ka:∀ (n:Nat) (l:List UInt8),l.length<=n->(BN l).length<=l.length
 | 0,l,h=>by rw [Jm (by omega)];exact Nat.le_refl _
 | n+1,l,h=>by
  match l,h with
  | [],_=>exact Nat.le_refl _
  | [a],_=>exact Nat.le_refl _
  | [a,b],_=>exact Nat.le_refl _
  | c :: a :: b :: q,h=>
   have h1:=Ka n (a :: b :: q) (by simp at h⊢;omega)
   have h2:=Ka n q (by simp at h⊢;omega)
   by_cases hc:c=37
   ·rw [Nl hc];split
    ·simp;omega
    ·simp at h1⊢;omega
   ·rw [Na hc];simp at h1⊢;omega
theorem YM (c:UInt8) (n:Nat) (w:World):Calls Tryz.prog 155 #[.int .u8 (c.toNat:Int),.int .i64 16] (w.drewN n) fun e w'=>e= .returned (.int .i64 (Ah (c.toNat:Int) 16))/\w'=w.drewN n:=
 (Bu (c.toNat:Int) 16 (w.drewN n) (AC c) (AK c)).mono fun _ _ ⟨h1,h2⟩=>⟨h1,h2.symm⟩
theorem Vp (c:UInt8): -1<=Ah (c.toNat:Int) 16/\Ah (c.toNat:Int) 16<=15:=by
 have key:∀ n:Fin 256,-1<=Ah ((UInt8.ofNat n.val).toNat:Int) 16/\Ah ((UInt8.ofNat n.val).toNat:Int) 16<=15:=by decide+kernel
 have:=key ⟨c.toNat,c.toNat_lt⟩;simp only [UInt8.ofNat_toNat] at this;exact this
theorem QW (s:ByteArray) (w:World) (hs:s.size<=1099511627776):Calls Tryz.prog 328 #[.string s] w (AfW (BN s.toList) w):=by
 obtain ⟨i0,hi,hz0,hz1,hz2⟩:=ty8.i;go_enter Tryz.func328,Tryz.ntmps328
 go_wp2_with (at_make;refine wpList_make_own _ rfl _ _ 25 rfl w.heap.size 5 i0 (.int .u8 0) 1 Tryz.underlying25 hi hz0 hz1 _ _ _ s.size rfl rfl rfl (by rw [hz2];omega) (by unfold maxLen;omega) (Nat.le_refl _) ?_;intro w1 ho1 hg1)
 have hb1:Below w.heap.size w w1:=(Below.refl _ _).grown hg1 (Nat.le_refl _) (fun k hk=>by cases hk)
 clear hg1
 go_loopw [3,4] (fun v i wr=>∃ (k:Nat) (l:List UInt8),k<=s.size/\i= .int .i64 k/\Hid (BN s.toList=l++BN (s.toList.drop k))/\l.length<=k/\CA wr w.heap.size 5 v l/\Below w.heap.size w wr) (fun _ i _=>s.size - (intOf i).toNat)
 case atStart=>exact ⟨0,[],Nat.zero_le _,rfl,H0 rfl,Nat.zero_le _,ho1,hb1⟩
 case round=>
  obtain ⟨k,l,hk,rfl,hl,hll,hown,hbel⟩:=hrel;have hsz:=hbel.size;clear ho1 hb1
  by_cases hlt:k<s.size
  ·have hdr:=Ao s k hlt
   have hlI:(k:Int)<(s.size:Int):=by omega
   obtain ⟨c,hc⟩:=N2 (s[k]);rw [hc] at hdr;have b0:=AC c;have b1:=AK c
   by_cases h37:c=37
   ·have e37:((c.toNat:Int)==37)=true:=by rw [h37];rfl
    by_cases h2:k+2<s.size
    ·have h2I:(k:Int)+2<(s.size:Int):=by omega
     have h1N:k+1<s.size:=by omega
     have d1:=Ao s (k+1) h1N;have d2:=Ao s (k+2) h2;obtain ⟨x,hx⟩:=N2 (s[k+1]);obtain ⟨y,hy⟩:=N2 (s[k+2]);rw [hx] at d1;rw [hy] at d2
     have hst:BN (s.toList.drop k)=match Wq x,Wq y with | some a,some b=>UInt8.ofNat (a * 16+b) :: BN (s.toList.drop (k+3)) | _,_=>c :: BN (s.toList.drop (k+1)):=by
      rw [hdr,d1,d2,Nl h37]
     have hdx:=Vp x;have hdy:=Vp y;have hqx:=H0 (YM x);have hqy:=H0 (YM y)
     have hvx:Wq x=if Ah (x.toNat:Int) 16<0 then none else some (Ah (x.toNat:Int) 16).toNat:=rfl
     have hvy:Wq y=if Ah (y.toNat:Int) 16<0 then none else some (Ah (y.toNat:Int) 16).toNat:=rfl
     obtain ⟨p,hp⟩:=N2 (Ah (x.toNat:Int) 16);obtain ⟨q,hq⟩:=N2 (Ah (y.toNat:Int) 16);rw [hp] at hdx hqx hvx;rw [hq] at hdy hqy hvy
     have w1:IntKind.i64.wrap ((k:Int)+1)=(k:Int)+1:=IntWalk.i64_in _ (by omega)
     have w2:IntKind.i64.wrap ((k:Int)+2)=(k:Int)+2:=IntWalk.i64_in _ (by omega)
     have g1:(0:Int)<=(k:Int)+1:=by omega
     have g2:(0:Int)<=(k:Int)+2:=by omega
     have t1:((k:Int)+1).toNat=k+1:=by omega
     have t2:((k:Int)+2).toNat=k+2:=by omega
     have l1:(k:Int)+1<(s.size:Int):=by omega
     replace hdr:=H0 hdr;replace d1:=H0 d1;replace d2:=H0 d2;replace hp:=H0 hp;replace hq:=H0 hq;replace h37:=H0 h37
     by_cases hok:0<=p/\0<=q
     ·obtain ⟨p0,q0⟩:=hok
      rw [if_neg (by omega)] at hvx hvy
      rw [hvx,hvy] at hst;dsimp only at hst
      obtain ⟨pn,rfl⟩:∃ n:Nat,p=n:=⟨p.toNat,by omega⟩
      obtain ⟨qn,rfl⟩:∃ n:Nat,q=n:=⟨q.toNat,by omega⟩
      rw [Int.toNat_natCast,Int.toNat_natCast] at hst
      have hnx:Hid (BN s.toList=(l++[UInt8.ofNat (pn * 16+qn)])++BN (s.toList.drop (k+3))):=H0 (by rw [hl.out,hst,List.append_assoc];rfl)
      have hwr:IntKind.u8.wrap ((pn:Int) * 16+(qn:Int))=(pn:Int) * 16+(qn:Int):=by rw [IntKind.wrap_u8];omega
      have hce:(pn:Int) * 16+(qn:Int)=((UInt8.ofNat (pn * 16+qn)).toNat:Int):=by rw [UInt8.toNat_ofNat',Nat.mod_eq_of_lt (by omega)];omega
      replace hst:=H0 hst;replace hvx:=H0 hvx;replace hvy:=H0 hvy;replace hce:=H0 hce;go_wp2_with fail
      go_quiet ((first | (go_at_call 155;with_reducible exact Calls.quiet_of_same (hqx.out _ _)) | (go_at_call 155;with_reducible exact Calls.quiet_of_same (hqy.out _ _))))
      clear w1 w2 t1 t2
      go_wp2_with (at_builtin;refine A8 ty8 rfl _ _ rfl (UInt8.ofNat (pn * 16+qn)) rfl rfl (RR hown nq) (below_drewN hbel nq) (by simpa using hsz) hce.out (by unfold maxLen;omega) (by omega) ?_;intro v' w' ho' hb' _)
      go_wp2_with fail;go_roundw
      case rel=>exact ⟨k+3,_,by omega,by first | rfl | (congr 1<;>omega),hnx,by simp;omega,ho',hb'⟩
      case measure=>simp [intOf];omega
     ·have hst2:BN (s.toList.drop k)=c :: BN (s.toList.drop (k+1)):=by
       rw [hst,hvx,hvy]
       by_cases hp0:p<0
       ·rw [if_pos hp0]
       ·rw [if_neg hp0,if_pos (by omega)]
      have hnx:Hid (BN s.toList=(l++[c])++BN (s.toList.drop (k+1))):=H0 (by rw [hl.out,hst2,List.append_assoc];rfl)
      replace hst:=H0 hst;replace hst2:=H0 hst2;replace hvx:=H0 hvx;replace hvy:=H0 hvy
      have hway:p<0\/(0<=p/\q<0):=by omega
      clear hok
      rcases hway with p0 | ⟨p0,q0⟩
      all_goals
       go_wp2_with fail
       go_quiet ((first | (go_at_call 155;with_reducible exact Calls.quiet_of_same (hqx.out _ _)) | (go_at_call 155;with_reducible exact Calls.quiet_of_same (hqy.out _ _))))
       clear w1 w2 t1 t2
       go_wp2_with (at_builtin;refine A8 ty8 rfl _ _ rfl c rfl rfl (RR hown nq) (below_drewN hbel nq) (by simpa using hsz) rfl (by unfold maxLen;omega) (by omega) ?_;intro v' w' ho' hb' _)
       go_wp2_with fail;go_roundw
       case rel=>exact ⟨k+1,_,by omega,by go_num,hnx,by simp;omega,ho',hb'⟩
       case measure=>simp [intOf];omega
    ·have h2I:(s.size:Int)<=(k:Int)+2:=by omega
     have hnx:Hid (BN s.toList=(l++[c])++BN (s.toList.drop (k+1))):=H0 (by
      have hsz2:=Aa s
      rw [hl.out,Jm (l:=s.toList.drop k) (by rw [List.length_drop];omega),Jm (l:=s.toList.drop (k+1)) (by rw [List.length_drop];omega),hdr,List.append_assoc];rfl)
     replace hdr:=H0 hdr;replace h37:=H0 h37
     go_wp2_with (at_builtin;refine A8 ty8 rfl _ _ rfl c rfl rfl hown hbel hsz rfl (by unfold maxLen;omega) (by omega) ?_;intro v' w' ho' hb' _)
     go_wp2_with fail;go_roundw
     case rel=>exact ⟨k+1,_,by omega,by go_num,hnx,by simp;omega,ho',hb'⟩
     case measure=>simp [intOf];omega
   ·have e37:((c.toNat:Int)==37)=false:=by rw [beq_eq_false_iff_ne];intro e;exact h37 (UInt8.toNat_inj.1 (by show c.toNat=37;omega))
    have hnx:Hid (BN s.toList=(l++[c])++BN (s.toList.drop (k+1))):=H0 (by rw [hl.out,hdr,Na h37,List.append_assoc];rfl)
    replace hdr:=H0 hdr;replace h37:=H0 h37
    go_wp2_with (at_builtin;refine A8 ty8 rfl _ _ rfl c rfl rfl hown hbel hsz rfl (by unfold maxLen;omega) (by omega) ?_;intro v' w' ho' hb' _)
    go_wp2_with fail;go_roundw
    case rel=>exact ⟨k+1,_,by omega,by go_num,hnx,by simp;omega,ho',hb'⟩
    case measure=>simp [intOf];omega
  ·have hge:(s.size:Int)<=(k:Int):=by omega
   have hfin:Hid (BN s.toList=l):=H0 (by rw [hl.out,AM s k (by omega)];exact List.append_nil _)
   go_wp2_with fail;go_ret
   exact ⟨_,rfl,by rw [hfin.out];exact hown,hbel⟩
end Go.Proofs.YtonomfeipkdmhaaGreatDoor
