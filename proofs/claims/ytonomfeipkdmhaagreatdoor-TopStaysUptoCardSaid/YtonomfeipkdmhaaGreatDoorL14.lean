/- Part 14: lemmas. -/
import Derived.Test.YtonomfeipkdmhaaGreatDoorL13
import Derived.Laws.AppendOwn
set_option linter.unusedVariables false
set_option linter.unusedSimpArgs false
set_option maxRecDepth 100000
set_option maxHeartbeats 16000000
namespace Go.Proofs.YtonomfeipkdmhaaGreatDoor
open Go.RowKit
def Gh (n:Nat):Value:= .int .u16 (n:Int)
def G4 (w:World) (B:Nat) (v:Value) (l:List Nat):Prop:=w.ownsRow B 29 1 v l.length (l.map Gh)
theorem G4.nil (w:World) (B:Nat):G4 w B (.slice none 0 0) []:=World.ownsRow_nil _ _ _ _
theorem G4.form {w:World} {B:Nat} {v:Value} {l:List Nat} (h:G4 w B v l):∃ a c,v= .slice a l.length c:=by
 rcases h.2 with ⟨rfl,hn⟩ | ⟨g,cap,cur,rfl,_⟩
 ·exact ⟨none,0,by rw [hn]⟩
 ·exact ⟨_,_,rfl⟩
theorem G4.below {w w':World} {B K:Nat} {v:Value} {l:List Nat} (h:G4 w B v l) (hb:Below K w w') (hK:w.heap.size<=K):G4 w' B v l:=by
 refine ⟨h.1,?_⟩
 rcases h.2 with hn | ⟨g,cap,cur,rfl,hg,hh,rest⟩
 ·exact .inl hn
 ·exact .inr ⟨g,cap,cur,rfl,hg,QB,rest⟩
theorem AhE:EZ Tryz.prog 256 29 (.int .u16 0) 2:= .mk' Tryz.underlying256 Qb rfl
theorem Zz (w:World) (us:List Value) (e:TypeId):∀ j x,us[j]? =some x->(w.alloc (.cells us.toArray e)).cell? ((⟨w.heap.size,0,none⟩:Addr).add j)=some x:=by
 intro j x hj;have:(w.alloc (.cells us.toArray e)).heap[w.heap.size]? =some (.cells us.toArray e):=heap_alloc_new w _
 have e:(⟨w.heap.size,0,none⟩:Addr).add j=⟨w.heap.size,j,none⟩:=by unfold Addr.add;split<;>simp_all
 rw [e];simp only [World.cell?];rw [this];simp [hj]
theorem Gn {ops:Array Oper} {rest:List Oper} {o:Oper} {a:Act} {Q:Exit->Act->World->Prop}
  (hgd:o.guard=none) (s x:Operand) (ho:o.op= .call { callee:= .builtin .append,args:= #[s,x],argTypes:= #[256,256] })
  {W0 w0:World} {B:Nat} {v:Value} {l:List Nat} (ms:List Nat) (hs:a.eval s=v) (hx:a.eval x= .slice (some ⟨w0.heap.size,0,none⟩) ms.length ms.length)
  (hown:G4 w0 B v l) (hbel:Below B W0 w0) (hB:B<=w0.heap.size) (h8:l.length<=8) (hm8:ms.length<=8)
  (h:∀ a' c' w',G4 w' B (.slice a' (l.length+ms.length) c') (l++ms)->Below B W0 w'->wpList Tryz.prog ops Q rest (a.put o.dst (.slice a' (l.length+ms.length) c')) w'):
  wpList Tryz.prog ops Q (o :: rest) a (w0.alloc (.cells (ms.map Gh).toArray 29)):=by
 obtain ⟨i,hi,hz,hs1,hb1⟩:=AhE.i
 refine wpList_append_own (w0.alloc (.cells (ms.map Gh).toArray 29)) hgd s x 256 ho B 29 i (.int .u16 0) 1 2 AhE.u hi hz hs1 hb1 AhE.z Qc v l.length (l.map Gh) hs (hown.alloc _) ⟨w0.heap.size,0,none⟩ ms.length ms.length (ms.map Gh) hx Qf
  (Zz w0 _ _) (by intro y hy;obtain ⟨n,_,rfl⟩:=List.mem_map.1 hy;rfl) Qm Qa Qi ?_
 intro v' w' hown' hgrow hnil
 have hO:G4 w' B v' (l++ms):=by unfold G4;rw [List.length_append,List.map_append];exact hown'
 obtain ⟨a',c',rfl⟩:=hO.form;rw [List.length_append] at hO⊢;refine h a' c' w' hO ?_
 exact (hbel.alloc hB _).grown hgrow Qi (fun k hk=>(hown.lt k hk).1)
def UP (w:World) (o:Option (List Nat)) (e:Ending) (w':World):Prop:=
 (match o with | some x=>∃ v,e= .returned v/\G4 w' w.heap.size v x | none=>AaO e)/\Below w.heap.size w w'
theorem Hj {w w':World} {o:Option (List Nat)} {pv:Value} (h:o=none) (hb:Below w.heap.size w w'):UP w o (.panicked [{ v:= .iface 263 pv,recovered:=false }]) w':=by subst h;exact ⟨⟨pv,rfl⟩,hb⟩
theorem NE {w w':World} {o:Option (List Nat)} {x:List Nat} {v:Value} (h:o=some x) (ho:G4 w' w.heap.size v x) (hb:Below w.heap.size w w'):UP w o (.returned v) w':=by subst h;exact ⟨⟨v,rfl,ho⟩,hb⟩
def Aih:Value->Value->Nat | .string s,.bool true=>s.size+1 | _,_=>0
theorem JT (l:List UInt8) (c:UInt8):l.contains c=decide (0<=Lib.indexByte l c):=by
 induction l with
 | nil=>rfl
 | cons d r ih=>
  have hg:=Lib.indexByte_ge r c;unfold Lib.indexByte;rw [List.contains_cons]
  by_cases h:d=c
  ·subst h;simp
  ·have h2:(c==d)=false:=by simpa using Ne.symm h
   have h3:(d==c)=false:=Qy;rw [h2,Bool.false_or,ih,h3]
   by_cases h1:Lib.indexByte r c= -1
   ·simp [h1]
   ·have h0:0<=Lib.indexByte r c:=Qa;have:(Lib.indexByte r c== -1)=false:=Q2;simp [this,h0];omega
theorem Ahb (s:ByteArray) (nb:Bool) (w:World) (hm:ML w) (hs:s.size<=1100000):
  Calls Tryz.prog 336 #[.string s,.bool nb] w (UP w (Ec nb s.toList)):=by
 have hB0:Below w.heap.size w w:=Below.refl _ _;have hlen:=Aa s;cases hem:s.toList.isEmpty
 ·have hne:s.toList≠[]:=by intro h;rw [h] at hem;cases hem
  have hgo:=H0 (Ahc (nb:=nb) hne);replace hlen:=H0 hlen;clear hne;go_enter Tryz.func336,Tryz.ntmps336;go_wp2_with fail
  go_loopw [0,5,6] (fun sv lv mv wr=>∃ (t:ByteArray) (P:List Nat) (mo:Bool) (f:Nat),sv= .string t/\mv= .bool mo/\t.size<=s.size/\Hid (mo=true->t.size<f)/\P.length<=8/\G4 wr w.heap.size lv P/\Below w.heap.size w wr/\
   Hid (if mo=true then Ec nb s.toList=I9 nb f P t.toList else Ec nb s.toList=some P)) (fun sv _ mv _=>Aih sv mv)
  case atStart=>exact ⟨s,[],true,s.toList.length+1,rfl,rfl,Nat.le_refl _,H0 (fun _=>by rw [hlen.out];omega),Qc,G4.nil _ _,hB0,H0 (by rw [if_pos rfl];exact hgo.out)⟩
  case round=>
   obtain ⟨t,P,mo,f,rfl,rfl,hts,hf,hP,hown,hbel,hg⟩:=hrel;clear hB0;cases mo
   ·have hfin:Hid (Ec nb s.toList=some P):=H0 (by have:=hg.out;rw [if_neg Qc] at this;exact this)
    go_wp2_with fail;go_ret;exact NE hfin.out hown hbel
   ·have hf0:=hf.out rfl;clear hf;obtain ⟨f,rfl⟩:∃ g,f=g+1:=⟨f - 1,Qa⟩
    have hg2:Hid (Ec nb s.toList=I9 nb (f+1) P t.toList):=H0 (by have:=hg.out;rw [if_pos rfl] at this;exact this)
    clear hg;have hsz:=hbel.size
    have hct:=H0 (fun w hm=>FF t 58 w hm Qa)
    have hl:=Cr 58 t.toList;rw [Aa] at hl
    have hshort:=H0 (fun h=>Ra (c:=58) (l:=t.toList) h)
    go_wp2_with fail
    refine (hct.out _ (hm.next hbel)).mono ?_
    rintro e w2 ⟨ta,tb,nd,rfl,h1,h2,hw⟩
    have hbel2:Below w.heap.size w w2:=by rw [hw];exact below_drewN hbel nd
    have hown2:=(show ∀ v l,G4 wr w.heap.size v l->G4 w2 w.heap.size v l from fun v l h=>by rw [hw];exact h) _ _ hown
    have hsz2:=hbel2.size;clear hw hbel hown hsz;have haz:ta.size<=s.size:=Akr
    have hbz:tb.size<=s.size:=by rw [<-Aa,h2.out];omega
    have hbz2:(Ak 58 t.toList).2.2=true->tb.size<t.size:=fun h=>by rw [<-Aa,h2.out,<-Aa t];exact hshort.out h
    have hpc:=H0 (fun w=>AdQ ta w Qa)
    have hfc:=H0 (fun w hm=>AfE ta w hm Qa)
    have hix:=H0 (fun w=>Tryz.strings_IndexByte ta 46 w)
    obtain ⟨mo,hmo⟩:∃ mo,(Ak 58 t.toList).2.2=mo:=⟨_,rfl⟩;rw [hmo] at hbz2⊢
    have hstep:=H0 (fun x hx=>Acv (nb:=nb) (f:=f) (P:=P) (x:=x) hmo hx)
    have hnone:Hid (C9 (!mo) nb (Ak 58 t.toList).1=none->Ec nb s.toList=none):=H0 (fun h=>by rw [hg2.out];exact Adi (by rw [hmo];exact h))
    have hdone:∀ x,C9 (!mo) nb (Ak 58 t.toList).1=some x->((P++x).length<=8->Hid (if mo=true then Ec nb s.toList=I9 nb f (P++x) tb.toList else Ec nb s.toList=some (P++x)))/\(8<(P++x).length->Hid (Ec nb s.toList=none)):=fun x hx=>by
     rw [hg2.out,h2.out];exact hstep.out x hx
    replace hdone:=H0 hdone
    have hmea:Hid (Aih (.string tb) (.bool mo)<Aih (.string t) (.bool true)):=H0 (by
     cases mo
     ·exact Nat.succ_pos _
     ·exact Nat.succ_lt_succ (hbz2 rfl))
    have hf2:Hid (mo=true->tb.size<f):=H0 (fun h=>by have:=hbz2 h;omega)
    clear hbz2 hl hshort hstep hf0;replace hmo:=H0 hmo;have hPI:(P.length:Int)<=8:=Qa
    by_cases hW:(!mo)=false\/nb=false\/(Ak 58 t.toList).1.contains 46=false
    ·have hpl:=H0 (RV hW)
     have hway:mo=true\/(mo=false/\nb=false)\/(mo=false/\nb=true/\Hid (∀ w,Calls Tryz.prog 47 #[.string ta,.int .u8 46] w fun e w'=>∃ z:Int,e= .returned (.int .i64 z)/\z<0/\w'=w)):=by
      cases mo
      ·cases nb
       ·exact .inr (.inl ⟨rfl,rfl⟩)
       ·refine .inr (.inr ⟨rfl,rfl,H0 (fun w=>(hix.out w).mono ?_)⟩)
        rintro e w' ⟨rfl,rfl⟩;refine ⟨_,rfl,?_,rfl⟩
        have hc:(Ak 58 t.toList).1.contains 46=false:=by
         rcases hW with h | h | h
         ·cases h
         ·cases h
         ·exact h
        rw [<-h1.out,JT,decide_eq_false_iff_not,ByteArray.toList_eq] at hc;have e46:((46:Int).toNat.toUInt8)=46:=rfl;rw [e46];omega
      ·exact .inl rfl
     clear hW hix
     cases hv:Ep (Ak 58 t.toList).1 with
     | none=>
      have hno:Hid (Ec nb s.toList=none):=H0 (hnone.out (by rw [hpl.out,hv];rfl))
      have hpc2:Hid (∀ w,Calls Tryz.prog 346 #[.string ta] w (AbG .u16 w none)):=H0 (fun w=>by have:=hpc.out w;rw [h1.out,hv] at this;exact this)
      replace hv:=H0 hv
      rcases hway with rfl | ⟨rfl,rfl⟩ | ⟨rfl,rfl,hz⟩
      all_goals
       go_wp2_with (first | (go_at_call 47;refine (hz.out _).mono ?_;rintro e w' ⟨z,rfl,hzl,rfl⟩))
       refine (hpc2.out _).mono ?_;rintro e w3 ⟨⟨pv,rfl⟩,rfl⟩;exact ⟨rfl,Hj hno.out hbel2⟩
     | some v=>
      obtain ⟨hd1,hd2⟩:=hdone.out [v] (by rw [hpl.out,hv];rfl)
      have hpc2:Hid (∀ w,Calls Tryz.prog 346 #[.string ta] w (AbG .u16 w (some v))):=H0 (fun w=>by have:=hpc.out w;rw [h1.out,hv] at this;exact this)
      replace hv:=H0 hv;have hlen8:(P++[v]).length=P.length+1:=Qf;rw [hlen8] at hd1 hd2;replace hlen8:=H0 hlen8;replace hd1:=H0 hd1;replace hd2:=H0 hd2
      by_cases h7:P.length+1<=8
      ·have h7I:(P.length:Int)+1<=8:=Qa
       rcases hway with rfl | ⟨rfl,rfl⟩ | ⟨rfl,rfl,hz⟩
       all_goals
        go_wp2_with (first | (go_at_call 47;refine (hz.out _).mono ?_;rintro e w' ⟨z,rfl,hzl,rfl⟩))
        refine (hpc2.out _).mono ?_;rintro e w3 ⟨rfl,rfl⟩
        go_wp2_with (at_builtin;refine Gn rfl _ _ rfl [v] rfl rfl hown2 hbel2 hsz2 hP (by show 1<=8;decide) ?_;intro a' c' w4 ho4 hb4)
        go_roundw
        case rel=>exact ⟨tb,P++[v],_,f,rfl,rfl,hbz,by first | exact H0 (fun _=>hf2.out trivial) | exact H0 (fun h=>Qr),by rw [hlen8.out];exact h7,ho4,hb4,hd1.out h7⟩
        case measure=>exact hmea.out
      ·have h7I:(8:Int)<(P.length:Int)+1:=Qa;have hno:Hid (Ec nb s.toList=none):=H0 (hd2.out Qa).out
       rcases hway with rfl | ⟨rfl,rfl⟩ | ⟨rfl,rfl,hz⟩
       all_goals
        go_wp2_with (first | (go_at_call 47;refine (hz.out _).mono ?_;rintro e w' ⟨z,rfl,hzl,rfl⟩))
        refine (hpc2.out _).mono ?_;rintro e w3 ⟨rfl,rfl⟩
        go_wp2_with (at_builtin;refine Gn rfl _ _ rfl [v] rfl rfl hown2 hbel2 hsz2 hP (by show 1<=8;decide) ?_;intro a' c' w4 ho4 hb4)
        exact ⟨rfl,Hj hno.out hb4⟩
    ·have hW2:mo=false/\nb=true/\(Ak 58 t.toList).1.contains 46=true:=by
      cases mo
      ·cases nb
       ·exact absurd (.inr (.inl rfl)) hW
       ·refine ⟨rfl,rfl,?_⟩;cases h:(Ak 58 t.toList).1.contains 46
        ·exact absurd (.inr (.inr h)) hW
        ·rfl
      ·exact absurd (.inl rfl) hW
     clear hW;obtain ⟨rfl,rfl,hc⟩:=hW2;have hpl:=H0 (XI hc)
     have hz:Hid (∀ w,Calls Tryz.prog 47 #[.string ta,.int .u8 46] w fun e w'=>∃ z:Int,e= .returned (.int .i64 z)/\0<=z/\w'=w):=H0 (fun w=>(hix.out w).mono (by
      rintro e w' ⟨rfl,rfl⟩;refine ⟨_,rfl,?_,rfl⟩;rw [<-h1.out,JT,decide_eq_true_iff,ByteArray.toList_eq] at hc
      exact hc))
     replace hc:=H0 hc;clear hix hpc
     cases hv:GE (Ak 58 t.toList).1 with
     | none=>
      have hno:Hid (Ec true s.toList=none):=H0 (hnone.out (by show C9 true true _=none;rw [hpl.out,hv];rfl))
      have hfc2:Hid (∀ w,ML w->Calls Tryz.prog 345 #[.string ta] w (NW w none)):=H0 (fun w hm=>by have:=hfc.out w hm;rw [h1.out,hv] at this;exact this)
      replace hv:=H0 hv;go_wp2_with (go_at_call 47;refine (hz.out _).mono ?_;rintro e w' ⟨z,rfl,hzl,rfl⟩)
      refine (hfc2.out _ (hm.next hbel2)).mono ?_
      rintro e w3 ⟨⟨pv,rfl⟩,hb3⟩
      exact ⟨rfl,Hj hno.out (hbel2.next hb3)⟩
     | some v=>
      obtain ⟨hd1,hd2⟩:=hdone.out [v / 65536,v % 65536] (by show C9 true true _=_;rw [hpl.out,hv];rfl)
      have hfc2:Hid (∀ w,ML w->Calls Tryz.prog 345 #[.string ta] w (NW w (some v))):=H0 (fun w hm=>by have:=hfc.out w hm;rw [h1.out,hv] at this;exact this)
      replace hv:=H0 hv;have hlen8:(P++[v / 65536,v % 65536]).length=P.length+2:=Qf;rw [hlen8] at hd1 hd2;replace hlen8:=H0 hlen8;obtain ⟨vh,hvh⟩:∃ x,v / 65536=x:=⟨_,rfl⟩;obtain ⟨vl,hvl⟩:∃ x,v % 65536=x:=⟨_,rfl⟩
      have hfc3:Hid (∀ w,ML w->Calls Tryz.prog 345 #[.string ta] w fun e w'=>e= .returned (.tuple #[.int .u16 (vh:Int),.int .u16 (vl:Int)])/\Below w.heap.size w w'):=H0 (fun w hm=>by subst hvh hvl;exact hfc2.out w hm)
      rw [hvh,hvl] at hd1 hlen8;replace hd1:=H0 hd1;replace hd2:=H0 hd2;replace hvh:=H0 hvh;replace hvl:=H0 hvl;have hsz3:w.heap.size<=w2.heap.size:=hsz2
      by_cases h7:P.length+2<=8
      ·have h7I:(P.length:Int)+2<=8:=Qa;go_wp2_with (go_at_call 47;refine (hz.out _).mono ?_;rintro e w' ⟨z,rfl,hzl,rfl⟩)
       refine (hfc3.out _ (hm.next hbel2)).mono ?_
       rintro e w3 ⟨rfl,hb3⟩
       have hbel3:=hbel2.next hb3
       have hown3:=hown2.below hb3 (Nat.le_refl _);have hsz3:=hbel3.size
       go_wp2_with (at_builtin;refine Gn rfl _ _ rfl [vh,vl] rfl rfl hown3 hbel3 hsz3 hP (by show 2<=8;decide) ?_;intro a' c' w4 ho4 hb4)
       go_roundw
       case rel=>exact ⟨tb,P++[vh,vl],_,f,rfl,rfl,hbz,H0 (fun h=>Qr),by rw [hlen8.out];exact h7,ho4,hb4,hd1.out h7⟩
       case measure=>exact hmea.out
      ·have h7I:(8:Int)<(P.length:Int)+2:=Qa;have hno:Hid (Ec true s.toList=none):=H0 (hd2.out Qa).out;go_wp2_with (go_at_call 47;refine (hz.out _).mono ?_;rintro e w' ⟨z,rfl,hzl,rfl⟩)
       refine (hfc3.out _ (hm.next hbel2)).mono ?_
       rintro e w3 ⟨rfl,hb3⟩
       have hbel3:=hbel2.next hb3
       have hown3:=hown2.below hb3 (Nat.le_refl _);have hsz3:=hbel3.size
       go_wp2_with (at_builtin;refine Gn rfl _ _ rfl [vh,vl] rfl rfl hown3 hbel3 hsz3 hP (by show 2<=8;decide) ?_;intro a' c' w4 ho4 hb4)
       exact ⟨rfl,Hj hno.out hb4⟩
 ·have hno:Hid (Ec nb s.toList=some []):=H0 (by
   have:s.toList=[]:=AkA
   rw [this];rfl)
  replace hlen:=H0 hlen;go_enter Tryz.func336,Tryz.ntmps336;go_wp2_with fail;go_ret;exact NE hno.out (G4.nil _ _) hB0
theorem KV {fn:Func} {p q:Tmp} {tyA tyB:TypeId} (h:fn.results= #[.cell p tyA,.cell q tyB]) (tmps:Array Value) (P:Program) (w:World):
  (results fn tmps).run P w=
   ((asAddr (tmps.getD p undef)).run P w).andThen fun a w₁=>((loadVar tyA a).run P w₁).andThen fun v w₂=>((asAddr (tmps.getD q undef)).run P w₂).andThen fun b w₃=>((loadVar tyB b).run P w₃).andThen fun u w₄=> .ok (.tuple #[v,u]) w₄:=by
 simp only [results,h];simp [Sem.run_bind,Result.andThen]
theorem Oj {tmps:Array Value} {w:World} {g g2:Nat} {c:Array Value} {b:Bool} (h2:tmps.getD 2 undef= .pointer (some ⟨g,0,none⟩)) (h3:tmps.getD 3 undef= .pointer (some ⟨g2,0,none⟩))
  (hg:w.heap[g]? =some (.cells c 30)) (hc:c.size=8) (hg2:w.heap[g2]? =some (.cells #[.bool b] 4)):(results Tryz.f326 tmps).run Tryz.prog w= .ok (.tuple #[.agg c,.bool b]) w:=by
 have y0:w.cell? ⟨g2,0,none⟩=some (.bool b):=by simp [World.cell?,hg2]
 have hb:(loadVar 4 ⟨g2,0,none⟩).run Tryz.prog w= .ok (.bool b) w:=by simp [go_sem,y0]
 have ha:=run_loadVar_row (P:=Tryz.prog) w g 30 30 c _ _ hg Tryz.underlying30 rfl (by rw [hc];kernel_rfl)
 rw [KV rfl,h2,h3];simp only [asAddr,Sem.run_pure,Result.andThen,ha,hb]
def Mm (g g2:Nat):List Deferred:=[{ target:= .fn (.func 335) #[.pointer (some ⟨g,0,none⟩),.pointer (some ⟨g2,0,none⟩)],args:= #[] }]
theorem Ael {R:Ending->World->Prop} {tmps:Array Value} {w:World} {g g2:Nat} {c:Array Value} {b:Bool} (h2:tmps.getD 2 undef= .pointer (some ⟨g,0,none⟩)) (h3:tmps.getD 3 undef= .pointer (some ⟨g2,0,none⟩))
  (hg:w.heap[g]? =some (.cells c 30)) (hc:c.size=8) (hg2:w.heap[g2]? =some (.cells #[.bool b] 4)) (hR:R (.returned (.tuple #[.agg c,.bool b])) w):
  Leaves Tryz.prog Tryz.f326 tmps R (Mm g g2) .returning w:=by
 refine leaves_cons (f:=335) (args:= #[.pointer (some ⟨g,0,none⟩),.pointer (some ⟨g2,0,none⟩)]) Qf (by simp [go_sem]) ?_
 refine (Aan ⟨g,0,none⟩ ⟨g2,0,none⟩ w).mono ?_;rintro e u' w' ⟨rfl,rfl,rfl⟩;exact ⟨_,Oj h2 h3 hg hc hg2,hR⟩
theorem AdM {R:Ending->World->Prop} {tmps:Array Value} {w:World} {g g2 B:Nat} {c:Array Value} {b pv:Value} (h2:tmps.getD 2 undef= .pointer (some ⟨g,0,none⟩)) (h3:tmps.getD 3 undef= .pointer (some ⟨g2,0,none⟩))
  (hg:w.heap[g]? =some (.cells c 30)) (hc:c.size=8) (hg2:w.heap[g2]? =some (.cells #[b] 4)) (hne:g≠g2) (hB1:B<=g) (hB2:B<=g2) (hR:∀ w',Below B w w'->R (.returned (.tuple #[.agg Dn,.bool false])) w'):
  Leaves Tryz.prog Tryz.f326 tmps R (Mm g g2) (.panicking [{ v:= .iface 263 pv,recovered:=false }]) w:=by
 refine leaves_cons (f:=335) (args:= #[.pointer (some ⟨g,0,none⟩),.pointer (some ⟨g2,0,none⟩)]) Qf (by simp [go_sem]) ?_
 refine (OM g g2 B pv [] w c hc b hg hg2 hne hB1 hB2).mono ?_;rintro e u' w' ⟨rfl,rfl,k1,k2,hb⟩;exact ⟨_,Oj h2 h3 k1 rfl k2,hR _ hb⟩
def Vk (w:World) (o:Option (List Nat)) (e:Ending) (w':World):Prop:=
 e= .returned (.tuple #[Adr (o.getD [0,0,0,0,0,0,0,0]),.bool o.isSome])/\Below w.heap.size w w'
theorem Jm {w w':World} {o:Option (List Nat)} (h:o=none) (hb:Below w.heap.size w w'):Vk w o (.returned (.tuple #[.agg Dn,.bool false])) w':=by subst h;exact ⟨rfl,hb⟩
theorem JI {w w':World} {o:Option (List Nat)} {l:List Nat} (h:o=some l) (hb:Below w.heap.size w w'):Vk w o (.returned (.tuple #[.agg (Be l),.bool true])) w':=by subst h;exact ⟨rfl,hb⟩
structure Lm (w wx:World) (c:Array Value):Prop where
 below:Below w.heap.size w wx
 size:w.heap.size+2<=wx.heap.size
 a:wx.heap[w.heap.size]? =some (.cells c 30)
 b:wx.heap[w.heap.size+1]? =some (.cells #[.bool false] 4)
theorem Lm.next {w wx wy:World} {c:Array Value} (h:Lm w wx c) (hb:Below wx.heap.size wx wy):Lm w wy c:=
 ⟨h.below.next hb,Qx,(hb.block _ AjY).trans h.a,(hb.block _ AjY).trans h.b⟩
theorem Lm.start (w:World):Lm w ((w.alloc (.cells Dn 30)).alloc (.cells #[.bool false] 4)) Dn:=
 ⟨((Below.refl _ _).alloc (Nat.le_refl _) _).alloc Qf _,Qf,by rw [heap_alloc_old _ _ Qf,heap_alloc_new],heap_alloc2_new w _ _⟩
theorem Lm.panic {w wx:World} {c:Array Value} {tmps:Array Value} {s:List UInt8} {pv:Value} (h:Lm w wx c) (hc:c.size=8) (hno:F7 s=none) (h2:tmps.getD 2 undef= .pointer (some ⟨w.heap.size,0,none⟩)) (h3:tmps.getD 3 undef= .pointer (some ⟨w.heap.size+1,0,none⟩)):
  Leaves Tryz.prog Tryz.f326 tmps (Vk w (F7 s)) (Mm w.heap.size (w.heap.size+1)) (.panicking [{ v:= .iface 263 pv,recovered:=false }]) wx:=
 AdM (B:=w.heap.size) h2 h3 h.a hc h.b Qa (Nat.le_refl _) Qa (fun w' hb=>Jm hno (h.below.trans hb))
theorem Lm.setRow {w wx:World} {c:Array Value} (h:Lm w wx c) (d:Array Value):Lm w (wx.setRow w.heap.size d) d:=
 ⟨Ae h.below (Nat.le_refl _) _,by have:=h.size;simpa using this,setRow_heap _ _ _ _ _ _ h.a,(setRow_other _ _ _ _ Qa).trans h.b⟩
theorem Lm.cellb {w wx:World} {c:Array Value} (h:Lm w wx c):wx.cell? ⟨w.heap.size+1,0,none⟩=some (.bool false)/\wx.frozen? ⟨w.heap.size+1,0,none⟩=false:=by
 constructor
 ·simp [World.cell?,h.b]
 ·simp [World.frozen?,h.b]
theorem Lm.done {w wx:World} {c tmps:Array Value} {R:Ending->World->Prop} {b:Bool} (h:Lm w wx c) (hc:c.size=8) (h2:tmps.getD 2 undef= .pointer (some ⟨w.heap.size,0,none⟩)) (h3:tmps.getD 3 undef= .pointer (some ⟨w.heap.size+1,0,none⟩))
  (hR:∀ w',Below w.heap.size w w'->R (.returned (.tuple #[.agg c,.bool b])) w'):
  Leaves Tryz.prog Tryz.f326 tmps R (Mm w.heap.size (w.heap.size+1)) .returning (wx.setCell ⟨w.heap.size+1,0,none⟩ (.bool b)):=
 Ael h2 h3 ((HJ Qa 0 _).trans h.a) hc ((U8 (cs:= #[.bool false]) h.b 0 (.bool b))) (hR _ (h.below.setCell (p:=⟨w.heap.size+1,0,none⟩) Qf _))
theorem DA {P:Program} {w:World} {ops:Array Oper} {rest:List Oper} {o:Oper} {a:Act} {Q:Exit->Act->World->Prop} (hgd:o.guard=none) (d s:Operand) (dT sT:TypeId)
  (ho:o.op= .call { callee:= .builtin .copy,args:= #[d,s],argTypes:= #[dT,sT] }) (elem:TypeId) (hu:P.underlying dT=some (.slice elem)) (hsz:(P.info? elem).map (·.size)=some 1)
  (dp sp:Option Addr) (dLen dCap sLen sCap:Nat) (hd:a.eval d= .slice dp dLen dCap) (hs:a.eval s= .slice sp sLen sCap)
  (g off:Nat) (cur:Array Value) (t:TypeId) (hg:w.heap[g]? =some (.cells cur t (0,0))) (cs:List Value) (D:Array Value) (hD:D=(splice cur.toList off cs).toArray) (hn:cs.length=Nat.min sLen dLen)
  (hpos:0<cs.length->dp=some ⟨g,off,none⟩/\∃ ad,sp=some ad/\∀ j v,cs[j]? =some v->w.cell? (ad.add j)=some v)
  (hfit:off+cs.length<=cur.size) (h1:∀ v∈cs,v.oneCell'=true)
  (h:wpList P ops Q rest (a.put o.dst (goInt cs.length)) (w.setRow g D)):
  wpList P ops Q (o :: rest) a w:=by
 subst hD
 by_cases h0:cs.length=0
 ·obtain rfl:cs=[]:=List.eq_nil_of_length_eq_zero h0
  refine wpList_copy_nothing hgd d s dT sT ho elem hu hsz dp sp dLen dCap sLen sCap hd hs (by simpa using hn.symm) ?_
  have e:(splice cur.toList off ([]:List Value)).toArray=cur:=by simp [splice]
  rw [e,setRow_self w g cur t (0,0) hg] at h;exact h
 ·obtain ⟨rfl,ad,rfl,hsrc⟩:=hpos Qa;exact wpList_copy_own hgd d s dT sT ho elem hu hsz g off dLen dCap ad sLen sCap hd hs cur t hg cs hn hsrc hfit h1 h
theorem G4.src {w:World} {B:Nat} {a:Option Addr} {n c:Nat} {x:List Nat} (h:G4 w B (.slice a n c) x) (h0:0<x.length):∃ ad,a=some ad/\∀ j v,(x.map Gh)[j]? =some v->w.cell? (ad.add j)=some v:=by
 rcases h.2 with ⟨_,hn⟩ | ⟨g,cap,cur,hv,hg,hh,_⟩
 ·omega
 ·obtain ⟨rfl,_,_⟩:=Value.slice.inj hv;exact ⟨_,rfl,World.ownsRow.cells h rfl⟩
theorem AfM (l:List UInt8):(Ia l).1.length<=l.length/\(Ia l).2.1.length<=l.length:=by
 unfold Ia Lib.cut;split
 ·exact ⟨by show (List.take _ l).length<=_;rw [List.length_take];omega,by show (List.drop _ l).length<=_;rw [List.length_drop];omega⟩
 ·exact ⟨Nat.le_refl _,Nat.zero_le _⟩
theorem Abg {nb:Bool} {l:List UInt8} {x:List Nat} (h:Ec nb l=some x):x.length<=8:=by
 unfold Ec at h;split at h
 ·cases h
 ·split at h
  ·cases h;assumption
  ·cases h
theorem Nb {s:ByteArray} {nb:Bool} {o:Option (List Nat)} (w:World) (hm:ML w) (hs:s.size<=1100000) (h:Ec nb s.toList=o):Calls Tryz.prog 336 #[.string s,.bool nb] w (UP w o):=h ▸ Ahb s nb w hm hs
theorem VF (s:ByteArray) (w:World) (hm:ML w) (hs:s.size<=1100000):
  Calls Tryz.prog 326 #[.string s] w (Vk w (F7 s.toList)):=by
 have hmf:∀ (fn:Fn) (first cap:Array Value) (w:World),(Instr.makeFunc fn first cap).run Tryz.prog w= .ok (.func fn first cap) w:=fun _ _ _ _=>rfl
 have hW0:=Lm.start w
 have hm0:=hm.next hW0.below
 obtain ⟨m,hml⟩:=hm0;have hcut:=H0 (Tryz.strings_Cut s ⟨#[58,58]⟩ m _ Qa hml);clear hml;go_enter_defers Tryz.func326,Tryz.ntmps326;go_wp2_with fail;refine hcut.out.mono ?_;rintro e w3 ⟨rfl,nd,hw⟩
 have hW:=hW0.next (show Below _ _ w3 from hw ▸ below_drewN (Below.refl _ _) nd)
 clear hcut hW0 hw
 have hC:Lib.cut s.data.toList [58,58]=Ia s.toList:=by rw [ByteArray.toList_eq];rfl
 rw [hC];obtain ⟨ta,hta⟩:∃ x:ByteArray,(⟨(Ia s.toList).1.toArray⟩:ByteArray)=x:=⟨_,rfl⟩;obtain ⟨tb,htb⟩:∃ x:ByteArray,(⟨(Ia s.toList).2.1.toArray⟩:ByteArray)=x:=⟨_,rfl⟩;obtain ⟨two,htwo⟩:∃ x,(Ia s.toList).2.2=x:=⟨_,rfl⟩;rw [hta,htb,htwo]
 have hal:ta.toList=(Ia s.toList).1:=by rw [<-hta];exact toList_mk _
 have hbl:tb.toList=(Ia s.toList).2.1:=by rw [<-htb];exact toList_mk _
 have hlen:=AfM s.toList
 have has:ta.size<=1100000:=by rw [<-Aa,hal];rw [Aa] at hlen;omega
 have hbs:tb.size<=1100000:=by rw [<-Aa,hbl];rw [Aa] at hlen;omega
 have hP:F7 s.toList=if two=true then (match Ec false ta.toList with
  | none=>none
  | some x=>match Ec true tb.toList with
   | none=>none
   | some y=>if x.length+y.length<8 then some (x++(List.replicate (8 - x.length - y.length) 0++y)) else none)
  else match Ec true s.toList with | none=>none | some x=>if x.length=8 then some x else none:=by
  rw [hal,hbl,<-htwo];rfl
 replace hP:=H0 hP;clear hlen hal hbl hta htb hC;replace htwo:=H0 htwo
 have hm3:=hm.next hW.below
 cases two
 ·cases hv:Ec true s.toList with
  | none=>
   have hno:Hid (F7 s.toList=none):=H0 (by rw [hP.out,if_neg Qc,hv])
   have hrow:=H0 (Nb _ hm3 hs hv);replace hv:=H0 hv;go_wp2_with fail;refine hrow.out.mono ?_;rintro e w4 ⟨⟨pv,rfl⟩,hb⟩
   exact (hW.next hb).panic rfl hno.out rfl rfl
  | some x=>
   have hrow:=H0 (Nb _ hm3 hs hv)
   have hq:Hid (F7 s.toList=if x.length=8 then some x else none):=H0 (by rw [hP.out,if_neg Qc,hv])
   replace hv:=H0 hv;go_wp2_with fail;refine hrow.out.mono ?_;rintro e w4 ⟨⟨v,rfl,ho⟩,hb⟩;obtain ⟨xa,xc,rfl⟩:=ho.form
   have hW4:=hW.next hb
   clear hb
   by_cases h8:x.length=8
   ·have hyes:Hid (F7 s.toList=some x):=H0 (by rw [hq.out,if_pos h8])
    have h8I:((x.length:Int) != 8)=false:=by rw [h8];rfl
    replace h8:=H0 h8;obtain ⟨D,hD⟩:∃ D,D=(splice Dn.toList 0 (x.map Gh)).toArray:=⟨_,rfl⟩
    have hDx:Hid (D=Be x):=H0 (by
     rw [hD]
     have e:splice Dn.toList 0 (x.map Gh)=x.map Gh:=by
      unfold splice
      rw [List.take_zero,List.nil_append,List.drop_of_length_le (by rw [List.length_map,h8.out];decide),List.append_nil]
     rw [e];rfl)
    have hDs:D.size=8:=by rw [hDx.out];simp [Be,h8.out]
    have hi8:Hid ((Tryz.prog.info? 30).map (·.size)=some D.size):=H0 (by rw [hDs];kernel_rfl)
    have hone:Hid (D.all (·.oneCell')=true):=H0 (by rw [hDx.out];simp [Be,Value.oneCell'])
    have hW5:=hW4.setRow D;have hW6:=hW5.setRow D;obtain ⟨y0,f2⟩:=hW6.cellb;replace hD:=H0 hD;replace hDs:=H0 hDs
    go_wp2_with (first
     | (refine DA rfl _ _ 256 256 rfl 29 Tryz.underlying256 Qb (some ⟨w.heap.size,0,none⟩) xa 8 8 x.length xc rfl rfl w.heap.size 0 Dn 30 hW4.a (x.map Gh) D hD.out (by rw [List.length_map,h8.out];rfl) (fun h0=>⟨rfl,ho.src Akh⟩) (by rw [List.length_map,h8.out];decide) QH ?_)
     | (refine wpList_load_row rfl 30 _ rfl w.heap.size rfl 30 D _ _ hW5.a Tryz.underlying30 rfl hi8.out ?_)
     | (refine wpList_store_row rfl 30 _ _ rfl w.heap.size D rfl rfl 30 _ hW5.a hi8.out rfl hone.out ?_))
    exact hW6.done hDs.out rfl rfl (fun w' hb=>hDx.out ▸ JI hyes.out hb)
   ·have hno:Hid (F7 s.toList=none):=H0 (by rw [hq.out,if_neg h8])
    have h8I:((x.length:Int) != 8)=true:=by simp only [bne_iff_ne,ne_eq];omega
    have hWs:=hW4.setRow Dn;obtain ⟨y0,f2⟩:=hWs.cellb;replace h8:=H0 h8;go_wp2_with (refine wpList_store_row rfl 30 _ _ rfl w.heap.size Dn rfl rfl 30 _ hW4.a Qb rfl Qb ?_)
    exact hWs.done rfl rfl rfl (fun w' hb=>Jm hno.out hb)
 ·have hP2:Hid (F7 s.toList=match Ec false ta.toList with
   | none=>none
   | some x=>match Ec true tb.toList with
    | none=>none
    | some y=>if x.length+y.length<8 then some (x++(List.replicate (8 - x.length - y.length) 0++y)) else none):=H0 (by rw [hP.out,if_pos rfl])
  clear hP
  cases hv:Ec false ta.toList with
  | none=>
   have hno:Hid (F7 s.toList=none):=H0 (by rw [hP2.out,hv])
   have hrow:=H0 (Nb _ hm3 has hv);replace hv:=H0 hv;go_wp2_with fail;refine hrow.out.mono ?_;rintro e w4 ⟨⟨pv,rfl⟩,hb⟩
   exact (hW.next hb).panic rfl hno.out rfl rfl
  | some x=>
   have hrow:=H0 (Nb _ hm3 has hv);have hx8:x.length<=8:=Abg hv;go_wp2_with fail;refine hrow.out.mono ?_;rintro e w4 ⟨⟨v,rfl,ho⟩,hb⟩;obtain ⟨xa,xc,rfl⟩:=ho.form
   have hW4:=hW.next hb
   have hm4:=hm3.next hb
   clear hb hrow
   cases hu:Ec true tb.toList with
   | none=>
    have hno:Hid (F7 s.toList=none):=H0 (by rw [hP2.out,hv];dsimp only;rw [hu])
    have hrow:=H0 (Nb _ hm4 hbs hu);replace hv:=H0 hv;replace hu:=H0 hu;go_wp2_with fail;refine hrow.out.mono ?_;rintro e w5 ⟨⟨pv,rfl⟩,hb⟩
    exact (hW4.next hb).panic rfl hno.out rfl rfl
   | some y=>
    have hrow:=H0 (Nb _ hm4 hbs hu);have hy8:y.length<=8:=Abg hu
    have hq:Hid (F7 s.toList=if x.length+y.length<8 then some (x++(List.replicate (8 - x.length - y.length) 0++y)) else none):=H0 (by rw [hP2.out,hv];dsimp only;rw [hu])
    replace hv:=H0 hv;replace hu:=H0 hu;go_wp2_with fail;refine hrow.out.mono ?_;rintro e w5 ⟨⟨v,rfl,ho2⟩,hb⟩;obtain ⟨ya,yc,rfl⟩:=ho2.form;have hox:=ho.below hb (Nat.le_refl _)
    have hW5:=hW4.next hb
    have h24:=hW4.size;clear hb ho
    by_cases h8:x.length+y.length<8
    ·have hyes:Hid (F7 s.toList=some (x++(List.replicate (8 - x.length - y.length) 0++y))):=H0 (by rw [hq.out,if_pos h8])
     have h8I:(x.length:Int)+(y.length:Int)<8:=Qa;obtain ⟨k,hk⟩:∃ k,y.length+k=8:=⟨8 - y.length,Qa⟩;have hkI:(8:Int) - (y.length:Int)=(k:Int):=Qa;have hk1:(k:Int)<=8:=Qa;have hy8I:(y.length:Int)<=8:=Qa;obtain ⟨D,hD⟩:∃ D,D=(splice Dn.toList 0 (x.map Gh)).toArray:=⟨_,rfl⟩
     have hDx:Hid (D=(x.map Gh++List.replicate (8 - x.length) (Gh 0)).toArray):=H0 (by
      rw [hD]
      have e:splice Dn.toList 0 (x.map Gh)=x.map Gh++List.replicate (8 - x.length) (Gh 0):=by
       unfold splice;rw [List.take_zero,List.nil_append,Nat.zero_add,List.length_map];congr 1;have:Dn.toList=List.replicate 8 (Gh 0):=rfl;rw [this,List.drop_replicate]
      rw [e])
     have hDs:D.size=8:=by rw [hDx.out];simp;omega
     obtain ⟨E,hE⟩:∃ E,E=(splice D.toList k (y.map Gh)).toArray:=⟨_,rfl⟩
     have hEx:Hid (E=Be (x++(List.replicate (8 - x.length - y.length) 0++y))):=H0 (by
      rw [hE]
      have e:splice D.toList k (y.map Gh)=(x++(List.replicate (8 - x.length - y.length) 0++y)).map Gh:=by
       unfold splice
       rw [List.drop_of_length_le (by rw [Array.length_toList,hDs,List.length_map];omega),List.append_nil,hDx.out]
       rw [List.take_append,List.length_map,List.take_of_length_le (by rw [List.length_map];omega),List.take_replicate,List.map_append,List.map_append,List.map_replicate,List.append_assoc]
       congr 3;omega
      rw [e];rfl)
     have hEs:E.size=8:=by rw [hEx.out];simp [Be];omega
     have hi8:Hid ((Tryz.prog.info? 30).map (·.size)=some E.size):=H0 (by rw [hEs];kernel_rfl)
     have hone:Hid (E.all (·.oneCell')=true):=H0 (by rw [hEx.out];simp [Be,Value.oneCell'])
     have hW6:=hW5.setRow D;have hW7:=hW6.setRow E;have hW8:=hW7.setRow E;obtain ⟨y0,f2⟩:=hW8.cellb
     have hyown:Hid (∀ {a c:_},G4 w5 w4.heap.size (.slice a y.length c) y->G4 (w5.setRow w.heap.size D) w4.heap.size (.slice a y.length c) y):=H0 (fun h=>by
      refine ⟨h.1,?_⟩
      rcases h.2 with hn | ⟨g,cap,cur,hv,hg,hh,rest⟩
      ·exact .inl hn
      ·exact .inr ⟨g,cap,cur,hv,hg,by rw [setRow_other _ _ _ _ Qa];exact hh,rest⟩)
     have ho3:=hyown.out ho2;replace hD:=H0 hD;replace hE:=H0 hE;replace hDs:=H0 hDs;replace hEs:=H0 hEs;have hkN:=H0 hk;clear hk
     by_cases hk8:k=8
     ·subst hk8
      obtain rfl:y=[]:=List.eq_nil_of_length_eq_zero (by have:=hkN.out;omega)
      have hkN:=0
      go_wp2_with (first
       | (refine DA rfl (.tmp 40) (.tmp 41) 256 256 rfl 29 Tryz.underlying256 Qb (some ⟨w.heap.size,0,none⟩) xa 8 8 x.length xc rfl rfl w.heap.size 0 Dn 30 hW5.a (x.map Gh) D hD.out (by rw [List.length_map];exact (Nat.min_eq_left hx8).symm) (fun h0=>⟨rfl,hox.src Akh⟩) (by rw [List.length_map];show 0+x.length<=8;omega) QH ?_)
       | (refine DA rfl (.tmp 46) (.tmp 47) 256 256 rfl 29 Tryz.underlying256 Qb _ _ _ _ _ _ rfl rfl w.heap.size 8 D 30 hW6.a [] E hE.out (by first | rfl | simp) (fun h0=>absurd h0 Qc) (by rw [hDs.out];decide) (by intro v hv;cases hv) ?_)
       | (refine wpList_load_row rfl 30 _ rfl w.heap.size rfl 30 E _ _ hW7.a Tryz.underlying30 rfl hi8.out ?_)
       | (refine wpList_store_row rfl 30 _ _ rfl w.heap.size E rfl rfl 30 _ hW7.a hi8.out rfl hone.out ?_))
      exact hW8.done hEs.out rfl rfl (fun w' hb=>hEx.out ▸ JI hyes.out hb)
     ·have hk8I:(k:Int)<8:=Qa
      have hyk:Hid ((y.map Gh).length=Nat.min y.length (8 - k)):=H0 (by rw [List.length_map];have:=hkN.out;exact (Nat.min_eq_left Qa).symm)
      go_wp2_with (first
       | (refine DA rfl (.tmp 40) (.tmp 41) 256 256 rfl 29 Tryz.underlying256 Qb (some ⟨w.heap.size,0,none⟩) xa 8 8 x.length xc rfl rfl w.heap.size 0 Dn 30 hW5.a (x.map Gh) D hD.out (by rw [List.length_map];exact (Nat.min_eq_left hx8).symm) (fun h0=>⟨rfl,hox.src Akh⟩) (by rw [List.length_map];show 0+x.length<=8;omega) QH ?_)
       | (refine DA rfl (.tmp 46) (.tmp 47) 256 256 rfl 29 Tryz.underlying256 Qb (some ⟨w.heap.size,k,none⟩) ya (8 - k) (8 - k) y.length yc rfl rfl w.heap.size k D 30 hW6.a (y.map Gh) E hE.out hyk.out (fun h0=>⟨rfl,ho3.src Akh⟩) (by rw [List.length_map,hDs.out];have:=hkN.out;omega) QH ?_)
       | (refine wpList_load_row rfl 30 _ rfl w.heap.size rfl 30 E _ _ hW7.a Tryz.underlying30 rfl hi8.out ?_)
       | (refine wpList_store_row rfl 30 _ _ rfl w.heap.size E rfl rfl 30 _ hW7.a hi8.out rfl hone.out ?_))
      exact hW8.done hEs.out rfl rfl (fun w' hb=>hEx.out ▸ JI hyes.out hb)
    ·have hno:Hid (F7 s.toList=none):=H0 (by rw [hq.out,if_neg h8])
     have h8I:(8:Int)<=(x.length:Int)+(y.length:Int):=Qa;have hx8I:(x.length:Int)<=8:=Qa;have hy8I:(y.length:Int)<=8:=Qa;have hWs:=hW5.setRow Dn;obtain ⟨y0,f2⟩:=hWs.cellb;go_wp2_with (refine wpList_store_row rfl 30 _ _ rfl w.heap.size Dn rfl rfl 30 _ hW5.a Qb rfl Qb ?_)
     exact hWs.done rfl rfl rfl (fun w' hb=>Jm hno.out hb)
def AiJ (l:List UInt8) (w:World) (e:Ending) (w':World):Prop:=∃ v:Value,e= .returned v/\CZ w' w.heap.size 5 v l/\Below w.heap.size w w'
theorem Up {w:World} {B:Nat} {E:TypeId} {v:Value} {l:List UInt8} (h:CZ w B E v l) (n:Nat):CZ (w.drewN n) B E v l:=BC h (below_drewN (Below.refl w.heap.size w) n) (Nat.le_refl _)
theorem JA {l:List UInt8} (h:l.length<3):B9 l=l:=by
 match l,h with
 | [],_=>rfl
 | [a],_=>rfl
 | [a,b],_=>rfl
theorem Oa {c:UInt8} {r:List UInt8} (h:c≠37):B9 (c :: r)=c :: B9 r:=by
 match r with
 | []=>rfl
 | [a]=>rfl
 | a :: b :: q=>rw [B9,if_neg h]
theorem Om {c a b:UInt8} {q:List UInt8} (h:c=37):B9 (c :: a :: b :: q)=match WX a,WX b with | some x,some y=>UInt8.ofNat (x * 16+y) :: B9 q | _,_=>c :: B9 (a :: b :: q):=by
 rw [B9,if_pos h];rfl
theorem Kg:∀ (n:Nat) (l:List UInt8),l.length<=n->(B9 l).length<=l.length
 | 0,l,h=>by rw [JA Qa];exact Nat.le_refl _
 | n+1,l,h=>by
  match l,h with
  | [],_=>exact Nat.le_refl _
  | [a],_=>exact Nat.le_refl _
  | [a,b],_=>exact Nat.le_refl _
  | c :: a :: b :: q,h=>
   have h1:=Kg n (a :: b :: q) (by simp at h⊢;omega)
   have h2:=Kg n q (by simp at h⊢;omega)
   by_cases hc:c=37
   ·rw [Om hc];split
    ·simp;omega
    ·simp at h1⊢;omega
   ·rw [Oa hc];simp at h1⊢;omega
theorem Abr (c:UInt8) (n:Nat) (w:World):Calls Tryz.prog 155 #[.int .u8 (c.toNat:Int),.int .i64 16] (w.drewN n) fun e w'=>e= .returned (.int .i64 (Ag (c.toNat:Int) 16))/\w'=w.drewN n:=
 (A8 (c.toNat:Int) 16 (w.drewN n) (AN c) (AX c)).mono fun _ _ ⟨h1,h2⟩=>⟨h1,h2.symm⟩
theorem Xd (c:UInt8): -1<=Ag (c.toNat:Int) 16/\Ag (c.toNat:Int) 16<=15:=by
 have key:∀ n:Fin 256,-1<=Ag ((UInt8.ofNat n.val).toNat:Int) 16/\Ag ((UInt8.ofNat n.val).toNat:Int) 16<=15:=Qe
 have:=key ⟨c.toNat,c.toNat_lt⟩;simp only [UInt8.ofNat_toNat] at this;exact this
theorem Sm (s:ByteArray) (w:World) (hs:s.size<=1099511627776):Calls Tryz.prog 328 #[.string s] w (AiJ (B9 s.toList) w):=by
 obtain ⟨i0,hi,hz0,hz1,hz2⟩:=ty8.i;go_enter Tryz.func328,Tryz.ntmps328
 go_wp2_with (at_make;refine wpList_make_own _ rfl _ _ 25 rfl w.heap.size 5 i0 (.int .u8 0) 1 Tryz.underlying25 hi hz0 hz1 _ _ _ s.size rfl rfl rfl (by rw [hz2];omega) Qm (Nat.le_refl _) ?_;intro w1 ho1 hg1)
 have hb1:Below w.heap.size w w1:=(Below.refl _ _).grown hg1 (Nat.le_refl _) (fun k hk=>by cases hk)
 clear hg1
 go_loopw [3,4] (fun v i wr=>∃ (k:Nat) (l:List UInt8),k<=s.size/\i= .int .i64 k/\Hid (B9 s.toList=l++B9 (s.toList.drop k))/\l.length<=k/\CZ wr w.heap.size 5 v l/\Below w.heap.size w wr) (fun _ i _=>s.size - (intOf i).toNat)
 case atStart=>exact ⟨0,[],Nat.zero_le _,rfl,H0 rfl,Nat.zero_le _,ho1,hb1⟩
 case round=>
  obtain ⟨k,l,hk,rfl,hl,hll,hown,hbel⟩:=hrel;have hsz:=hbel.size;clear ho1 hb1
  by_cases hlt:k<s.size
  ·have hdr:=As s k hlt;have hlI:(k:Int)<(s.size:Int):=Qa;obtain ⟨c,hc⟩:=N2 (s[k]);rw [hc] at hdr;have b0:=AN c;have b1:=AX c
   by_cases h37:c=37
   ·have e37:((c.toNat:Int)==37)=true:=by rw [h37];rfl
    by_cases h2:k+2<s.size
    ·have h2I:(k:Int)+2<(s.size:Int):=Qa;have h1N:k+1<s.size:=Qa;have d1:=As s (k+1) h1N;have d2:=As s (k+2) h2;obtain ⟨x,hx⟩:=N2 (s[k+1]);obtain ⟨y,hy⟩:=N2 (s[k+2]);rw [hx] at d1;rw [hy] at d2
     have hst:B9 (s.toList.drop k)=match WX x,WX y with | some a,some b=>UInt8.ofNat (a * 16+b) :: B9 (s.toList.drop (k+3)) | _,_=>c :: B9 (s.toList.drop (k+1)):=by
      rw [hdr,d1,d2,Om h37]
     have hdx:=Xd x;have hdy:=Xd y;have hqx:=H0 (Abr x);have hqy:=H0 (Abr y)
     have hvx:WX x=if Ag (x.toNat:Int) 16<0 then none else some (Ag (x.toNat:Int) 16).toNat:=rfl
     have hvy:WX y=if Ag (y.toNat:Int) 16<0 then none else some (Ag (y.toNat:Int) 16).toNat:=rfl
     obtain ⟨p,hp⟩:=N2 (Ag (x.toNat:Int) 16);obtain ⟨q,hq⟩:=N2 (Ag (y.toNat:Int) 16);rw [hp] at hdx hqx hvx;rw [hq] at hdy hqy hvy;have w1:IntKind.i64.wrap ((k:Int)+1)=(k:Int)+1:=IntWalk.i64_in _ Qa;have w2:IntKind.i64.wrap ((k:Int)+2)=(k:Int)+2:=IntWalk.i64_in _ Qa;have g1:(0:Int)<=(k:Int)+1:=Qa;have g2:(0:Int)<=(k:Int)+2:=Qa;have t1:((k:Int)+1).toNat=k+1:=Qa;have t2:((k:Int)+2).toNat=k+2:=Qa;have l1:(k:Int)+1<(s.size:Int):=Qa;replace hdr:=H0 hdr;replace d1:=H0 d1;replace d2:=H0 d2;replace hp:=H0 hp;replace hq:=H0 hq;replace h37:=H0 h37
     by_cases hok:0<=p/\0<=q
     ·obtain ⟨p0,q0⟩:=hok;rw [if_neg Qa] at hvx hvy;rw [hvx,hvy] at hst;dsimp only at hst;obtain ⟨pn,rfl⟩:∃ n:Nat,p=n:=⟨p.toNat,Qa⟩;obtain ⟨qn,rfl⟩:∃ n:Nat,q=n:=⟨q.toNat,Qa⟩;rw [Int.toNat_natCast,Int.toNat_natCast] at hst
      have hnx:Hid (B9 s.toList=(l++[UInt8.ofNat (pn * 16+qn)])++B9 (s.toList.drop (k+3))):=H0 (by rw [hl.out,hst,List.append_assoc];rfl)
      have hwr:IntKind.u8.wrap ((pn:Int) * 16+(qn:Int))=(pn:Int) * 16+(qn:Int):=Aj6
      have hce:(pn:Int) * 16+(qn:Int)=((UInt8.ofNat (pn * 16+qn)).toNat:Int):=by rw [UInt8.toNat_ofNat',Nat.mod_eq_of_lt Qa];omega
      replace hst:=H0 hst;replace hvx:=H0 hvx;replace hvy:=H0 hvy;replace hce:=H0 hce;go_wp2_with fail
      go_quiet ((first | (go_at_call 155;with_reducible exact Calls.quiet_of_same (hqx.out _ _)) | (go_at_call 155;with_reducible exact Calls.quiet_of_same (hqy.out _ _))))
      clear w1 w2 t1 t2
      go_wp2_with (at_builtin;refine By ty8 rfl _ _ rfl (UInt8.ofNat (pn * 16+qn)) rfl rfl (Up hown nq) (below_drewN hbel nq) (by simpa using hsz) hce.out Qm Qa ?_;intro v' w' ho' hb' _)
      go_wp2_with fail;go_roundw
      case rel=>exact ⟨k+3,_,Qa,Qj,hnx,Qi,ho',hb'⟩
      case measure=>simp [intOf];omega
     ·have hst2:B9 (s.toList.drop k)=c :: B9 (s.toList.drop (k+1)):=by
       rw [hst,hvx,hvy]
       by_cases hp0:p<0
       ·rw [if_pos hp0]
       ·rw [if_neg hp0,if_pos Qa]
      have hnx:Hid (B9 s.toList=(l++[c])++B9 (s.toList.drop (k+1))):=H0 (by rw [hl.out,hst2,List.append_assoc];rfl)
      replace hst:=H0 hst;replace hst2:=H0 hst2;replace hvx:=H0 hvx;replace hvy:=H0 hvy
      have hway:p<0\/(0<=p/\q<0):=Qa
      clear hok
      rcases hway with p0 | ⟨p0,q0⟩
      all_goals
       go_wp2_with fail
       go_quiet ((first | (go_at_call 155;with_reducible exact Calls.quiet_of_same (hqx.out _ _)) | (go_at_call 155;with_reducible exact Calls.quiet_of_same (hqy.out _ _))))
       clear w1 w2 t1 t2
       go_wp2_with (at_builtin;refine By ty8 rfl _ _ rfl c rfl rfl (Up hown nq) (below_drewN hbel nq) (by simpa using hsz) rfl Qm Qa ?_;intro v' w' ho' hb' _)
       go_wp2_with fail;go_roundw
       case rel=>exact ⟨k+1,_,Qa,Ql,hnx,Qi,ho',hb'⟩
       case measure=>simp [intOf];omega
    ·have h2I:(s.size:Int)<=(k:Int)+2:=Qa
     have hnx:Hid (B9 s.toList=(l++[c])++B9 (s.toList.drop (k+1))):=H0 (by
      have hsz2:=Aa s
      rw [hl.out,JA (l:=s.toList.drop k) (by rw [List.length_drop];omega),JA (l:=s.toList.drop (k+1)) (by rw [List.length_drop];omega),hdr,List.append_assoc];rfl)
     replace hdr:=H0 hdr;replace h37:=H0 h37;go_wp2_with (at_builtin;refine By ty8 rfl _ _ rfl c rfl rfl hown hbel hsz rfl Qm Qa ?_;intro v' w' ho' hb' _);go_wp2_with fail;go_roundw
     case rel=>exact ⟨k+1,_,Qa,Ql,hnx,Qi,ho',hb'⟩
     case measure=>simp [intOf];omega
   ·have e37:((c.toNat:Int)==37)=false:=by rw [beq_eq_false_iff_ne];intro e;exact h37 (UInt8.toNat_inj.1 (by show c.toNat=37;omega))
    have hnx:Hid (B9 s.toList=(l++[c])++B9 (s.toList.drop (k+1))):=H0 (by rw [hl.out,hdr,Oa h37,List.append_assoc];rfl)
    replace hdr:=H0 hdr;replace h37:=H0 h37;go_wp2_with (at_builtin;refine By ty8 rfl _ _ rfl c rfl rfl hown hbel hsz rfl Qm Qa ?_;intro v' w' ho' hb' _);go_wp2_with fail;go_roundw
    case rel=>exact ⟨k+1,_,Qa,Ql,hnx,Qi,ho',hb'⟩
    case measure=>simp [intOf];omega
  ·have hge:(s.size:Int)<=(k:Int):=Qa
   have hfin:Hid (B9 s.toList=l):=H0 (by rw [hl.out,AL s k Qa];exact List.append_nil _)
   go_wp2_with fail;go_ret
   exact ⟨_,rfl,by rw [hfin.out];exact hown,hbel⟩
theorem I2 (l:List UInt8) (c:UInt8):l.contains c=decide (0<=Lib.indexByte l c):=by
 induction l with
 | nil=>rfl
 | cons d r ih=>
  have hg:=Lib.indexByte_ge r c;unfold Lib.indexByte;rw [List.contains_cons]
  by_cases h:d=c
  ·subst h;simp
  ·have h2:(c==d)=false:=by simpa using Ne.symm h
   have h3:(d==c)=false:=Qy;rw [h2,Bool.false_or,ih,h3]
   by_cases h1:Lib.indexByte r c= -1
   ·simp [h1]
   ·have h0:0<=Lib.indexByte r c:=Qa;have:(Lib.indexByte r c== -1)=false:=Q2;simp [this,h0];omega
theorem Z4 (l:List UInt8) (c:UInt8) (w:World):
  Calls Tryz.prog 307 #[.string ⟨l.toArray⟩,.int .u8 (c.toNat:Int)] w fun e w'=>e= .returned (.bool (l.contains c))/\w=w':=by
 have hix:=fun w=>Tryz.strings_IndexByte ⟨l.toArray⟩ (c.toNat:Int) w
 have ec:((c.toNat:Int)).toNat.toUInt8=c:=Qf;have el:(⟨l.toArray⟩:ByteArray).data.toList=l:=rfl;simp only [ec,el] at hix;have hc:=I2 l c;generalize Lib.indexByte l c=z at hix hc;replace hix:=H0 hix
 have hway:(0<=z/\l.contains c=true)\/(z<0/\l.contains c=false):=by
  by_cases h:0<=z
  ·exact .inl ⟨h,by rw [hc,decide_eq_true h]⟩
  ·exact .inr ⟨Qa,by rw [hc,decide_eq_false h]⟩
 clear hc ec el;generalize l.contains c=b at hway⊢;go_enter Tryz.func307,Tryz.ntmps307
 rcases hway with ⟨h,rfl⟩ | ⟨h,rfl⟩
 all_goals
  go_wp2_with fail;refine (hix.out _).mono ?_;rintro e w' ⟨rfl,hw⟩;obtain rfl:=hw.symm;go_wp2_with fail;go_ret
  refine ⟨?_,rfl⟩;first | rfl | (show Ending.returned (Value.bool _)=_;congr 2;simp<;>omega)
def Ge (set:Nat) (c:UInt8) (w:World) (e:Ending) (w':World):Prop:=e= .returned (.bool (F3 set c))/\w=w'
theorem MD (c:UInt8):(BM c=true/\(c.toNat:Int)<32)\/(BM c=true/\(32:Int)<=(c.toNat:Int)/\(126:Int)<(c.toNat:Int))\/(BM c=false/\(32:Int)<=(c.toNat:Int)/\(c.toNat:Int)<=126):=by
 have h:∀ n:Fin 256,(BM (UInt8.ofNat n.val)=true/\((UInt8.ofNat n.val).toNat:Int)<32)\/(BM (UInt8.ofNat n.val)=true/\(32:Int)<=((UInt8.ofNat n.val).toNat:Int)/\(126:Int)<((UInt8.ofNat n.val).toNat:Int))\/(BM (UInt8.ofNat n.val)=false/\(32:Int)<=((UInt8.ofNat n.val).toNat:Int)/\((UInt8.ofNat n.val).toNat:Int)<=126):=Qe
 have:=h ⟨c.toNat,c.toNat_lt⟩;simp only [UInt8.ofNat_toNat] at this;exact this
theorem C1 (l:ByteArray) (c:UInt8) (w:World):
  Calls Tryz.prog 307 #[.string l,.int .u8 (c.toNat:Int)] w fun e w'=>e= .returned (.bool (l.data.toList.contains c))/\w=w':=Z4 l.data.toList c w
theorem AbB (c:UInt8) (w:World):Calls Tryz.prog 271 #[.int .i64 0,.int .u8 (c.toNat:Int)] w (Ge 0 c w):=by
 unfold Ge
 show Calls _ _ _ _ fun e w'=>e= .returned (.bool (BM c))/\w=w'
 have hway:=MD c;generalize BM c=b at hway⊢;go_enter Tryz.func271,Tryz.ntmps271
 rcases hway with ⟨rfl,h⟩ | ⟨rfl,h,h3⟩ | ⟨rfl,h,h3⟩
 all_goals
  go_wp2_with fail;go_ret
  refine ⟨?_,rfl⟩;first | rfl | (show Ending.returned (Value.bool _)=_;congr 2;simp<;>omega)
theorem Aa0 (c:UInt8) (w:World):Calls Tryz.prog 271 #[.int .i64 2,.int .u8 (c.toNat:Int)] w (Ge 2 c w):=by
 unfold Ge
 show Calls _ _ _ _ fun e w'=>e= .returned (.bool ([32,34,35,60,62].contains c || BM c))/\w=w'
 obtain ⟨a1,h1⟩:∃ a,[32,34,35,60,62].contains c=a:=⟨_,rfl⟩;rw [h1];replace h1:Hid ((ByteArray.mk #[32,34,35,60,62]).data.toList.contains c=a1):=H0 h1;have hway:=MD c;generalize BM c=b at hway⊢;go_enter Tryz.func271,Tryz.ntmps271;cases a1
 ·rw [Bool.false_or]
  rcases hway with ⟨rfl,h⟩ | ⟨rfl,h,h3⟩ | ⟨rfl,h,h3⟩
  all_goals
   go_wp2_with (go_at_call 307;refine (C1 _ c _).mono ?_;rintro e w' ⟨rfl,rfl⟩;first | rw [h1.out] | rw [h2.out] | rw [h3.out])
   go_ret
   refine ⟨?_,rfl⟩;first | rfl | (show Ending.returned (Value.bool _)=_;congr 2;simp<;>omega)
 ·clear hway;rw [Bool.true_or]
  go_wp2_with (go_at_call 307;refine (C1 _ c _).mono ?_;rintro e w' ⟨rfl,rfl⟩;first | rw [h1.out] | rw [h2.out] | rw [h3.out])
  go_ret;exact ⟨rfl,rfl⟩
theorem Ahh (c:UInt8) (w:World):Calls Tryz.prog 271 #[.int .i64 1,.int .u8 (c.toNat:Int)] w (Ge 1 c w):=by
 unfold Ge
 show Calls _ _ _ _ fun e w'=>e= .returned (.bool ([32,34,60,62,96].contains c || BM c))/\w=w'
 obtain ⟨a1,h1⟩:∃ a,[32,34,60,62,96].contains c=a:=⟨_,rfl⟩;rw [h1];replace h1:Hid ((ByteArray.mk #[32,34,60,62,96]).data.toList.contains c=a1):=H0 h1
 have h0:=H0 (fun w=>AbB c w)
 unfold Ge at h0;rw [show F3 0 c=BM c from rfl] at h0;generalize BM c=b at h0⊢;go_enter Tryz.func271,Tryz.ntmps271;cases a1
 all_goals
  go_wp2_with (first
   | (go_at_call 307;refine (C1 _ c _).mono ?_;rintro e w' ⟨rfl,rfl⟩;first | rw [h1.out] | rw [h2.out] | rw [h3.out])
   | (go_at_call 271;refine (h0.out _).mono ?_;rintro e w' ⟨rfl,rfl⟩))
  go_ret;exact ⟨Qf,rfl⟩
theorem Ahe (c:UInt8) (w:World):Calls Tryz.prog 271 #[.int .i64 3,.int .u8 (c.toNat:Int)] w (Ge 3 c w):=by
 unfold Ge
 show Calls _ _ _ _ fun e w'=>e= .returned (.bool (c==39 || MR c))/\w=w'
 have h0:=H0 (fun w=>Aa0 c w)
 unfold Ge at h0;rw [show F3 2 c=MR c from rfl] at h0
 have hq:((c.toNat:Int)==39)=(c==39):=by
  rw [Bool.eq_iff_iff,beq_iff_eq,beq_iff_eq]
  exact ⟨fun h=>UInt8.toNat_inj.1 (by show c.toNat=39;omega),fun h=>by rw [h];rfl⟩
 generalize (c==39)=a at hq⊢;generalize MR c=b at h0⊢;go_enter Tryz.func271,Tryz.ntmps271;cases a
 all_goals
  go_wp2_with (go_at_call 271;refine (h0.out _).mono ?_;rintro e w' ⟨rfl,rfl⟩);go_ret;exact ⟨Qf,rfl⟩
theorem Agz (c:UInt8) (w:World):Calls Tryz.prog 271 #[.int .i64 4,.int .u8 (c.toNat:Int)] w (Ge 4 c w):=by
 unfold Ge
 show Calls _ _ _ _ fun e w'=>e= .returned (.bool ([63,94,96,123,125].contains c || ([32,34,35,60,62].contains c || BM c)))/\w=w'
 obtain ⟨a1,h1⟩:∃ a,[63,94,96,123,125].contains c=a:=⟨_,rfl⟩;rw [h1];replace h1:Hid ((ByteArray.mk #[63,94,96,123,125]).data.toList.contains c=a1):=H0 h1;obtain ⟨a2,h2⟩:∃ a,[32,34,35,60,62].contains c=a:=⟨_,rfl⟩;rw [h2];replace h2:Hid ((ByteArray.mk #[32,34,35,60,62]).data.toList.contains c=a2):=H0 h2;have hway:=MD c;generalize BM c=b at hway⊢;go_enter Tryz.func271,Tryz.ntmps271;cases a1
 ·cases a2
  ·rcases hway with ⟨rfl,h⟩ | ⟨rfl,h,h4⟩ | ⟨rfl,h,h4⟩
   all_goals
    go_wp2_with (first
     | (go_at_call 307;refine (C1 _ c _).mono ?_;rintro e w' ⟨rfl,rfl⟩;first | rw [h1.out] | rw [h2.out] | rw [h3.out]))
    go_ret
    refine ⟨?_,rfl⟩;first | rfl | (show Ending.returned (Value.bool _)=_;congr 2;simp<;>omega)
  ·clear hway
   go_wp2_with (first
    | (go_at_call 307;refine (C1 _ c _).mono ?_;rintro e w' ⟨rfl,rfl⟩;first | rw [h1.out] | rw [h2.out] | rw [h3.out]))
   go_ret;exact ⟨rfl,rfl⟩
 ·clear hway
  go_wp2_with (go_at_call 307;refine (C1 _ c _).mono ?_;rintro e w' ⟨rfl,rfl⟩;first | rw [h1.out] | rw [h2.out] | rw [h3.out])
  go_ret;exact ⟨rfl,rfl⟩
theorem AgJ (c:UInt8) (w:World):Calls Tryz.prog 271 #[.int .i64 5,.int .u8 (c.toNat:Int)] w (Ge 5 c w):=by
 unfold Ge
 show Calls _ _ _ _ fun e w'=>e= .returned (.bool ([47,58,59,61,64,91,92,93,124].contains c || ([63,94,96,123,125].contains c || ([32,34,35,60,62].contains c || BM c))))/\w=w'
 obtain ⟨a0,h3⟩:∃ a,[47,58,59,61,64,91,92,93,124].contains c=a:=⟨_,rfl⟩;rw [h3];replace h3:Hid ((ByteArray.mk #[47,58,59,61,64,91,92,93,124]).data.toList.contains c=a0):=H0 h3;obtain ⟨a1,h1⟩:∃ a,[63,94,96,123,125].contains c=a:=⟨_,rfl⟩;rw [h1];replace h1:Hid ((ByteArray.mk #[63,94,96,123,125]).data.toList.contains c=a1):=H0 h1;obtain ⟨a2,h2⟩:∃ a,[32,34,35,60,62].contains c=a:=⟨_,rfl⟩;rw [h2];replace h2:Hid ((ByteArray.mk #[32,34,35,60,62]).data.toList.contains c=a2):=H0 h2;have hway:=MD c;generalize BM c=b at hway⊢;go_enter Tryz.func271,Tryz.ntmps271;cases a0
 ·cases a1
  ·cases a2
   ·rcases hway with ⟨rfl,h⟩ | ⟨rfl,h,h4⟩ | ⟨rfl,h,h4⟩
    all_goals
     go_wp2_with (first
      | (go_at_call 307;refine (C1 _ c _).mono ?_;rintro e w' ⟨rfl,rfl⟩;first | rw [h1.out] | rw [h2.out] | rw [h3.out]))
     go_ret
     refine ⟨?_,rfl⟩;first | rfl | (show Ending.returned (Value.bool _)=_;congr 2;simp<;>omega)
   ·clear hway
    go_wp2_with (first
     | (go_at_call 307;refine (C1 _ c _).mono ?_;rintro e w' ⟨rfl,rfl⟩;first | rw [h1.out] | rw [h2.out] | rw [h3.out]))
    go_ret;exact ⟨rfl,rfl⟩
  ·clear hway
   go_wp2_with (first
    | (go_at_call 307;refine (C1 _ c _).mono ?_;rintro e w' ⟨rfl,rfl⟩;first | rw [h1.out] | rw [h2.out] | rw [h3.out]))
   go_ret;exact ⟨rfl,rfl⟩
 ·clear hway
  go_wp2_with (go_at_call 307;refine (C1 _ c _).mono ?_;rintro e w' ⟨rfl,rfl⟩;first | rw [h1.out] | rw [h2.out] | rw [h3.out])
  go_ret;exact ⟨rfl,rfl⟩
theorem Agr (set:Nat) (hs:set<6) (c:UInt8) (w:World):Calls Tryz.prog 271 #[.int .i64 (set:Int),.int .u8 (c.toNat:Int)] w (Ge set c w):=by
 match set,hs with
 | 0,_=>exact AbB c w
 | 1,_=>exact Ahh c w
 | 2,_=>exact Aa0 c w
 | 3,_=>exact Ahe c w
 | 4,_=>exact Agz c w
 | 5,_=>exact AgJ c w
def Abz:ByteArray:=⟨#[48,49,50,51,52,53,54,55,56,57,65,66,67,68,69,70]⟩
theorem Pt:∀ d:Fin 16,(Abz[d.val]'(by rw [show Abz.size=16 from rfl];exact d.isLt))=Yh d.val:=Qe
theorem D3 (s:ByteArray) (set:Nat) (hs:set<6) (w:World) (hz:s.size<=4294967296):
  Calls Tryz.prog 214 #[.string s,.int .i64 (set:Int)] w (EI w (AZ set s.toList)):=by
 have hin:=H0 (fun c w=>Agr set hs c w)
 replace hs:=H0 hs;go_enter Tryz.func214,Tryz.ntmps214;go_wp2_with fail
 go_loopw [10] (fun iv wr=>∃ k:Nat,iv= .int .i64 k/\k<=s.size/\Kz wr w.heap.size w.heap.size (AZ set (s.toList.take k))/\Below w.heap.size w wr) (fun iv _=>s.size - (intOf iv).toNat)
 case atStart=>exact ⟨0,rfl,Nat.zero_le _,Kz.fresh w,(Below.refl _ _).alloc (Nat.le_refl _) _⟩
 case round=>
  obtain ⟨k,rfl,hk,hbld,hbel⟩:=hrel;have hsz:=hbel.size
  have hlen:(AZ set (s.toList.take k)).length<=12884901888:=by
   have:=C8 set (s.toList.take k);rw [List.length_take] at this;omega
  by_cases hkl:k<s.size
  ·have hkI:(k:Int)<(s.size:Int):=Qa;have hsn:=H0 ((congrArg (AZ set) (Cx s k hkl)).trans (Uv set _ _));obtain ⟨c,hc⟩:=N2 (s[k]);rw [hc] at hsn
   have hin2:=H0 (fun w=>hin.out c w)
   unfold Ge at hin2;have m0:=AN c;have m1:=AX c;unfold Fm at hsn;generalize AZ set (s.toList.take k)=P at hsn hlen hbld;cases hb:F3 set c
   ·rw [hb] at hin2 hsn;rw [if_neg Qc] at hsn;replace hb:=H0 hb;have hw:=H0 (BQ w.heap.size w.heap.size P c (c.toNat:Int) rfl wr hbld Qa hsz);go_wp2_with (go_at_call 271;refine (hin2.out _).mono ?_;rintro e w' ⟨rfl,rfl⟩);refine hw.out.mono ?_;rintro e w2 ⟨rfl,hb2,hbb⟩;have hbel2:=hbel.trans hbb;rw [<-hsn.out] at hb2;go_wp2_with fail;go_roundw
    case rel=>exact ⟨k+1,Ql,Qa,hb2,hbel2⟩
    case measure=>simp [intOf];omega
   ·rw [hb] at hin2 hsn;rw [if_pos rfl] at hsn;replace hb:=H0 hb;have hw:=H0 (BQ w.heap.size w.heap.size P 37 37 rfl wr hbld Qa hsz);go_wp2_with (go_at_call 271;refine (hin2.out _).mono ?_;rintro e w' ⟨rfl,rfl⟩);refine hw.out.mono ?_;rintro e w2 ⟨rfl,hb2,hbb⟩;have hbel2:=hbel.trans hbb;go_wp2_with fail
    refine (BQ w.heap.size w.heap.size _ _ _ rfl w2 hb2 (by rw [List.length_append];show P.length+1<=_;omega) hbel2.size).mono ?_
    rintro e w3 ⟨rfl,hb3,hbb3⟩;have hbel3:=hbel2.trans hbb3;go_wp2_with fail
    refine (BQ w.heap.size w.heap.size _ _ _ rfl w3 hb3 (by rw [List.length_append,List.length_append];show P.length+1+1<=_;omega) hbel3.size).mono ?_
    rintro e w4 ⟨rfl,hb4,hbb4⟩;have hbel4:=hbel3.trans hbb4;have ex:=Pt ⟨c.toNat / 16,Qa⟩;have ey:=Pt ⟨c.toNat % 16,Qa⟩;dsimp only at ex ey
    have hb5:Kz w4 w.heap.size w.heap.size (AZ set (s.toList.take (k+1))):=by
     rw [hsn.out,<-ex,<-ey];have:=hb4;rw [List.append_assoc,List.append_assoc] at this;exact this
    clear ex ey hb2 hb3 hb4;go_wp2_with fail;go_roundw
    case rel=>exact ⟨k+1,Ql,Qa,hb5,hbel4⟩
    case measure=>simp [intOf];omega
  ·have hkI:(s.size:Int)<=(k:Int):=Qa;have he:s.toList.take k=s.toList:=FT s k Qa;rw [he] at hbld hlen;have hw:=H0 (Bq w.heap.size w.heap.size _ wr hbld hsz);replace he:=H0 he;go_wp2_with fail;refine hw.out.mono ?_;rintro e w2 ⟨t,rfl,ht,hb⟩;go_wp2_with fail;go_ret;exact GC ht.out (hbel.trans hb)
theorem AdJ {l:List Nat} (h:l.length=8):∃ a b c d e f g i,l=[a,b,c,d,e,f,g,i]:=by
 match l,h with
 | [a,b,c,d,e,f,g,i],_=>exact ⟨a,b,c,d,e,f,g,i,rfl⟩
theorem Sk:(Tryz.prog.info? 30).map (·.size)=some 8:=Qb
theorem Aiy (s:ByteArray) (w:World) (hz:s.size<=1100000):Calls Tryz.prog 219 #[.string s,.string ⟨#[93]⟩] w fun e w'=>∃ r:ByteArray,e= .returned (.tuple #[.string r,.bool (Lib.hasSuffix s.toList [93])])/\r.size<=s.size/\Hid (Lib.hasSuffix s.toList [93]=true->r.toList=s.toList.dropLast)/\w=w':=by
 refine (Tryz.strings_CutSuffix s ⟨#[93]⟩ w Qa).mono ?_;rintro e w' ⟨rfl,rfl⟩;have e1:s.data.toList=s.toList:=(ByteArray.toList_eq ..).symm;have e2:(ByteArray.mk #[93]).data.toList=[93]:=rfl;rw [e1,e2]
 have hl:(Lib.trimSuffix s.toList [93]).length<=s.size:=by
  rw [<-Aa];unfold Lib.trimSuffix;split
  ·rw [List.length_take];omega
  ·exact Nat.le_refl _
 refine ⟨_,rfl,Q8,H0 (fun h=> ?_),rfl⟩
 rw [toList_mk];unfold Lib.trimSuffix;rw [if_pos h,List.dropLast_eq_take];rfl
def z8:List Nat:=[0,0,0,0,0,0,0,0]
theorem Dw {o:Option BO} {w w':World} (h:o=none) (hb:Below w.heap.size w w'):Kq o w (.returned (.tuple #[.agg (Aq (An .none)),.bool false])) w':=by subst h;exact ⟨rfl,hb⟩
theorem Fi {o:Option BO} {h:BO} {w w':World} (e:o=some h) (hb:Below w.heap.size w w'):Kq o w (.returned (.tuple #[.agg (Aq (An h)),.bool true])) w':=by subst e;exact ⟨rfl,hb⟩
theorem Sx (s:ByteArray) (w:World) (hm:ML w) (hz:s.size<=1100000):Calls Tryz.prog 303 #[.string s] w (Kq (UM s.toList) w):=by
 obtain ⟨R,hR⟩:=N2 (UM s.toList);rw [hR];have hv:=hR.symm;unfold UM at hv;replace hR:=H0 hR
 have hcs:=H0 (fun w=>Aiy s w hz)
 obtain ⟨P,hP⟩:=N2 (Lib.hasSuffix s.toList [93]);rw [hP] at hv hcs;replace hP:=H0 hP
 cases P with
 | false=>
  have hv:Hid (R=none):=H0 (hv.trans (if_neg Qc));go_enter Tryz.func303,Tryz.ntmps303;go_wp2_with fail;refine (hcs.out _).mono ?_;rintro e w1 ⟨r,rfl,hrz,hr,rfl⟩;go_wp2_with (refine wpList_store_row rfl 32 _ _ rfl w.heap.size (Aq (An .none)) rfl rfl 32 _ (heap_alloc_new w _) AP rfl (A1 _) ?_);refine Cl rfl rfl rfl rfl (B7 (heap_alloc_new w _)) ?_;exact Dw hv.out (Ae ((Below.refl _ _).alloc (Nat.le_refl _) _) (Nat.le_refl _) _)
 | true=>
  rw [if_pos rfl] at hv;replace hv:=H0 hv
  have hsx:=H0 (fun (r:ByteArray) w (hm:ML w) (h:r.size<=1100000)=>VF r w hm h)
  go_enter Tryz.func303,Tryz.ntmps303;go_wp2_with fail;refine (hcs.out _).mono ?_;rintro e w1 ⟨r,rfl,hrz,hr,rfl⟩;have hrl:=hr.out Qf;have hv2:=hv.out;rw [<-hrl] at hv2;replace hrl:=H0 hrl;have hb0:Below w.heap.size w (w.alloc (.cells (Aq (An .none)) 32)):=(Below.refl _ _).alloc (Nat.le_refl _) _;have hh0:(w.alloc (.cells (Aq (An .none)) 32)).heap[w.heap.size]? =some (.cells (Aq (An .none)) 32 (0,0)):=heap_alloc_new w _;obtain ⟨w0,hw0⟩:∃ w0,w.alloc (.cells (Aq (An .none)) 32)=w0:=⟨_,rfl⟩;rw [hw0] at hb0 hh0;have hw0':w.alloc (.cells #[.int .i64 0,.string ⟨#[]⟩,.int .u32 0,.int .u16 0,.int .u16 0,.int .u16 0,.int .u16 0,.int .u16 0,.int .u16 0,.int .u16 0,.int .u16 0] 32)=w0:=hw0;rw [hw0'];clear hw0';replace hw0:=H0 hw0;have hs0:=hb0.size;have hlt0:=CH hh0
  have hsx2:=H0 (hsx.out r w0 (hm.next hb0) Qa)
  clear hsx
  cases ho:F7 r.toList with
  | none=>
   have hf:Hid (R=none):=H0 (by rw [hv2,ho];rfl)
   have hsx3:=hsx2.out;rw [ho] at hsx3;replace hsx3:=H0 hsx3;clear hsx2;replace hv2:=H0 hv2;replace ho:=H0 ho;go_wp2_with fail;refine hsx3.out.mono ?_;rintro e w2 ⟨rfl,hb2⟩;have hh2:w2.heap[w.heap.size]? =some (.cells (Aq (An .none)) 32 (0,0)):=(hb2.block _ hlt0).trans hh0;have hbel2:=hb0.trans (hb2.mono hs0);have hs2:=hbel2.size;have hlt2:=CH hh2;replace hh0:=H0 hh0
   have hhn:∀ c T,(w2.alloc (.cells c T)).heap[w.heap.size]? =some (.cells (Aq (An .none)) 32 (0,0)):=fun c T=>X4 hlt2 hh2
   replace hhn:=H0 hhn
   go_wp2_with (first
    | (refine Af rfl 30 _ _ rfl rfl (Be z8) _ _ _ rfl Qf rfl Sk rfl Qb ?_)
    | (refine wpList_store_row rfl 32 _ _ rfl w.heap.size (Aq (An .none)) rfl rfl 32 _ (hhn.out _ _) AP rfl (A1 _) ?_))
   refine Cl rfl rfl rfl rfl (B7 (hhn.out _ _)) ?_;exact Dw hf.out (Ae (hbel2.alloc hs2 _) (Nat.le_refl _) _)
  | some l=>
   have hf:Hid (R=some (.six l)):=H0 (by rw [hv2,ho];rfl)
   have hsl:=Yw ho;have hsx3:=hsx2.out;rw [ho] at hsx3;clear hsx2;obtain ⟨a0,a1,a2,a3,a4,a5,a6,a7,rfl⟩:=AdJ hsl.len;replace hsl:=H0 hsl;replace hv2:=H0 hv2;replace ho:=H0 ho
   have hsx4:Calls Tryz.prog 326 #[.string r] w0 fun e w'=>e= .returned (.tuple #[.agg #[.int .u16 (a0:Int),.int .u16 (a1:Int),.int .u16 (a2:Int),.int .u16 (a3:Int),.int .u16 (a4:Int),.int .u16 (a5:Int),.int .u16 (a6:Int),.int .u16 (a7:Int)],.bool true])/\Below w0.heap.size w0 w':=
    hsx3.mono fun e w' h=>⟨h.1,h.2⟩
   replace hsx4:=H0 hsx4;clear hsx3;have hag: .agg (Aq (An (.six [a0,a1,a2,a3,a4,a5,a6,a7])))=Value.agg #[.int .i64 4,.string ⟨#[]⟩,.int .u32 0,.int .u16 (a0:Int),.int .u16 (a1:Int),.int .u16 (a2:Int),.int .u16 (a3:Int),.int .u16 (a4:Int),.int .u16 (a5:Int),.int .u16 (a6:Int),.int .u16 (a7:Int)]:=rfl;replace hag:=H0 hag;go_wp2_with fail;refine hsx4.out.mono ?_;rintro e w2 ⟨rfl,hb2⟩;have hh2:w2.heap[w.heap.size]? =some (.cells (Aq (An .none)) 32 (0,0)):=(hb2.block _ hlt0).trans hh0;have hbel2:=hb0.trans (hb2.mono hs0);have hs2:=hbel2.size;have hlt2:=CH hh2;replace hh0:=H0 hh0
   have hhn:∀ c T,(w2.alloc (.cells c T)).heap[w.heap.size]? =some (.cells (Aq (An .none)) 32 (0,0)):=fun c T=>X4 hlt2 hh2
   replace hhn:=H0 hhn
   go_wp2_with (first
    | (refine Af rfl 30 _ _ rfl rfl #[.int .u16 (a0:Int),.int .u16 (a1:Int),.int .u16 (a2:Int),.int .u16 (a3:Int),.int .u16 (a4:Int),.int .u16 (a5:Int),.int .u16 (a6:Int),.int .u16 (a7:Int)] _ _ _ rfl Qf rfl Sk rfl (by simp [Value.oneCell']) ?_)
    | (refine wpList_load_row rfl 30 _ rfl w2.heap.size rfl _ #[.int .u16 (a0:Int),.int .u16 (a1:Int),.int .u16 (a2:Int),.int .u16 (a3:Int),.int .u16 (a4:Int),.int .u16 (a5:Int),.int .u16 (a6:Int),.int .u16 (a7:Int)] _ _ (heap_alloc_new w2 _) Tryz.underlying30 rfl Sk ?_)
    | (refine wpList_store_row rfl 32 _ _ rfl w.heap.size #[.int .i64 4,.string ⟨#[]⟩,.int .u32 0,.int .u16 (a0:Int),.int .u16 (a1:Int),.int .u16 (a2:Int),.int .u16 (a3:Int),.int .u16 (a4:Int),.int .u16 (a5:Int),.int .u16 (a6:Int),.int .u16 (a7:Int)] rfl rfl 32 _ (hhn.out _ _) AP rfl (by simp [Value.oneCell']) ?_))
   refine Cl (h:=An (.six [a0,a1,a2,a3,a4,a5,a6,a7])) rfl rfl rfl rfl (B7 (hhn.out _ _)) ?_;exact Fi hf.out (Ae (hbel2.alloc hs2 _) (Nat.le_refl _) _)
end Go.Proofs.YtonomfeipkdmhaaGreatDoor
