/- Part 7: lemmas. -/
import Derived.Test.YtonomfeipkdmhaaGreatDoorK06
set_option linter.unusedVariables false
set_option linter.unusedSimpArgs false
set_option maxRecDepth 100000
set_option maxHeartbeats 16000000
namespace Go.Proofs.YtonomfeipkdmhaaGreatDoor
open Go.RowKit
theorem Ab2 {a b:List UInt8} (h:a≠[]):(a++b).head? =a.head? :=by
 cases a with
 | nil=>exact absurd rfl h
 | cons c r=>rfl
theorem I3 {a b:List UInt8} (h:b≠[]):(a++b).getLast? =b.getLast? :=by
 rw [List.getLast?_append]
 cases hb:b.getLast? with
 | none=>exact absurd (List.getLast?_eq_none_iff.1 hb) h
 | some x=>rfl
def Jq (scheme:List UInt8) (o:Option Nat):Prop:=∀ n,o=some n->n<=65535/\HZ scheme≠some n
inductive Agw (u:Aq):Prop where
 | file (s:u.scheme=Aw) (o:u.opq=false) (us:u.user=[]) (ps:u.pass=[]) (po:u.port=none) (pa:u.path≠[]) (h:u.host= .empty\/(Be true u.host/\u.host≠ .name Et))
 | special (s:u.scheme≠Aw) (sp:Aj u.scheme=true) (o:u.opq=false) (pa:u.path≠[]) (h:Be true u.host) (po:Jq u.scheme u.port)
 | net (sp:Aj u.scheme=false) (o:u.opq=false) (h:Be false u.host) (po:Jq u.scheme u.port) (e:u.host= .empty->u.user=[]/\u.pass=[]/\u.port=none)
 | plain (sp:Aj u.scheme=false) (o:u.opq=false) (h:u.host= .none) (us:u.user=[]) (ps:u.pass=[]) (po:u.port=none) (pa:u.path≠[])
 | flat (sp:Aj u.scheme=false) (o:u.opq=true) (h:u.host= .none) (us:u.user=[]) (ps:u.pass=[]) (po:u.port=none) (pa:u.path=[]) (fl:∀ c∈u.flat,FO 0 c=false/\c≠35/\c≠63) (hd:u.flat.head? ≠some 47) (la:u.flat.getLast? ≠some 32)
structure AY (u:Aq):Prop where
 scheme:CE u.scheme=true/\AD u.scheme=u.scheme
 query:∀ q,u.query=some q->∀ c∈q,FO (GU u.scheme) c=false
 frag:∀ f,u.frag=some f->∀ c∈f,FO 1 c=false
 user:∀ c∈u.user,FO 5 c=false
 pass:∀ c∈u.pass,FO 5 c=false
 path:AA u.scheme u.path
 flat:u.opq=false->u.flat=[]
 kind:Agw u
theorem WO:∀ n:Fin 256,EB (BD (UInt8.ofNat n.val))=EB (UInt8.ofNat n.val)/\AU ((BD (UInt8.ofNat n.val)).toNat:Int)=AU ((UInt8.ofNat n.val).toNat:Int)/\BD (BD (UInt8.ofNat n.val))=BD (UInt8.ofNat n.val):=by decide+kernel
theorem SJ (c:UInt8):EB (BD c)=EB c/\AU ((BD c).toNat:Int)=AU (c.toNat:Int)/\BD (BD c)=BD c:=by
 have:=WO ⟨c.toNat,c.toNat_lt⟩;simp only [UInt8.ofNat_toNat] at this;exact this
theorem TO {s:List UInt8} (h:CE s=true):CE (AD s)=true/\AD (AD s)=AD s:=by
 refine ⟨?_,?_⟩
 ·cases s with
  | nil=>cases h
  | cons c r=>
   unfold CE at h;rw [Bool.and_eq_true] at h;show (AU ((BD c).toNat:Int) && (AD r).all EB)=true;rw [(SJ c).2.1,h.1,Bool.true_and,List.all_eq_true];intro x hx;obtain ⟨y,hy,rfl⟩:=List.mem_map.1 hx;rw [(SJ y).1];exact List.all_eq_true.1 h.2 y hy
 ·unfold AD;rw [List.map_map];apply List.map_congr_left;intro c _;exact (SJ c).2.2
structure L5 (p:B9):Prop where
 sch:p.hs=true->CE p.sch=true/\AD p.sch=p.sch
 rest:∀ c∈p.rest,c≠35/\c≠63
 last:p.hq=false->p.hf=false->p.rest.getLast? ≠some 32
theorem J0 (c:UInt8):∀ l,∀ x∈(Af c l).1,x≠c/\x∈l
 | [],x,h=>(nomatch h)
 | d :: r,x,h=>by
  rw [Af] at h;split at h
  ·cases h
  ·rename_i hd
   rcases List.mem_cons.1 h with rfl | h
   ·exact ⟨hd,List.mem_cons_self ..⟩
   ·exact ⟨(J0 c r x h).1,List.mem_cons_of_mem _ (J0 c r x h).2⟩
theorem Gq {c:UInt8}:∀ {l},(Af c l).2.2=false->(Af c l).1=l
 | [],_=>rfl
 | d :: r,h=>by
  rw [Af] at h⊢;split at h
  ·cases h
  ·rename_i hd;rw [if_neg hd];show d :: (Af c r).1=d :: r;rw [Gq (l:=r) h]
theorem RS {c:UInt8}:∀ {l},(Af c l).2.2=true->l=(Af c l).1++c :: (Af c l).2.1
 | [],h=>(nomatch h)
 | d :: r,h=>by
  rw [Af] at h⊢;split at h
  ·rename_i hd;rw [if_pos hd,hd];rfl
  ·rename_i hd;rw [if_neg hd];show d :: r=d :: ((Af c r).1++c :: (Af c r).2.1);rw [<-RS (l:=r) h]
theorem TJ {a b:List UInt8} {c x:UInt8} (h:(b).getLast? =some x):(a++c :: b).getLast? =some x:=by
 rw [List.getLast?_append,List.getLast?_cons,h];rfl
theorem I8 {p:UInt8->Bool}:∀ {l:List UInt8} {x:UInt8},(l.dropWhile p).head? =some x->p x=false
 | [],x,h=>(nomatch h)
 | c :: r,x,h=>by
  rw [List.dropWhile_cons] at h;split at h
  ·exact I8 h
  ·rename_i hc;rw [List.head?_cons] at h;rw [<-Option.some.inj h];simpa using hc
theorem Xx {l:List UInt8} {x:UInt8} (h:(IN l).getLast? =some x):FG (x.toNat:Int)=false:=by
 unfold IN AG at h;rw [List.getLast?_reverse] at h
 exact I8 (p:=fun c=>FG (c.toNat:Int)) h
theorem Wt {p:UInt8->Bool} {l:List UInt8} {x:UInt8} (h:l.getLast? =some x) (hp:p x=true):(l.filter p).getLast? =some x:=by
 obtain ⟨a,rfl⟩:=List.getLast?_eq_some_iff.1 h;rw [List.filter_append,List.filter_cons,if_pos hp];simp
theorem Ua {l:List UInt8}:(Dy l).getLast? ≠some 32:=by
 unfold Dy
 cases h:(IN l).getLast? with
 | none=>
  rw [List.getLast?_eq_none_iff] at h;rw [h];simp [E5]
 | some x=>
  have h1:=Xx h
  have key:∀ n:Fin 256,FG ((UInt8.ofNat n.val).toNat:Int)=false->Hn (UInt8.ofNat n.val)=true/\UInt8.ofNat n.val≠32:=by decide+kernel
  have h2:=key ⟨x.toNat,x.toNat_lt⟩;simp only [UInt8.ofNat_toNat] at h2;have h3:=h2 h1;unfold E5;rw [Wt h h3.1];intro e;exact h3.2 (Option.some.inj e)
theorem Z0 {t:List UInt8} (ht:t.getLast? ≠some 32):L5 (B6 t):=by
 unfold B6;have hf:=J0 35 t;have hq:=J0 63 (Af 35 t).1;dsimp only;split
 ·rename_i hs;rw [Bool.and_eq_true] at hs;have hb:=RS hs.1
  refine ⟨fun _=>TO hs.2,fun c hc=> ?_,fun h1 h2 he=> ?_⟩
  ·dsimp only at hc
   have hm:c∈(Af 63 (Af 35 t).1).1:=by rw [hb];exact List.mem_append_right _ (List.mem_cons_of_mem _ hc)
   have:=hq c hm;exact ⟨(hf c this.2).1,this.1⟩
  ·dsimp only at h1 h2 he;apply ht;have e1:=Gq h2;rw [e1] at h1 he hb hs;have e2:=Gq h1;rw [e2] at he hb;rw [hb];exact TJ he
 ·refine ⟨fun h=>(nomatch h),fun c hc=> ?_,fun h1 h2 he=> ?_⟩
  ·have:=hq c hc;exact ⟨(hf c this.2).1,this.1⟩
  ·dsimp only at h1 h2 he;apply ht;have e1:=Gq h2;rw [e1] at h1 he;rw [Gq h1] at he;exact he
theorem V8 (s:List UInt8):L5 (B6 (Dy s)):=Z0 Ua
theorem HG {b:Bool} {set:Nat} (hs:set<6) {l q:List UInt8} (h:Hh b (A1 set l)=some q):∀ c∈q,FO set c=false:=by
 unfold Hh at h;split at h
 ·cases h;exact Gu hs
 ·cases h
theorem Ta (s:List UInt8):GU s<6:=by unfold GU;split<;>decide
theorem AcE {scheme s:List UInt8} {o:Option Nat} (h:IJ scheme s=some o):Jq scheme o:=by
 intro n hn;subst hn;unfold IJ at h;split at h
 ·cases h
 ·split at h
  ·cases h
  ·split at h
   ·cases h
   ·split at h
    ·cases h
    ·cases h
     exact ⟨by omega,by assumption⟩
structure Aci (scheme:List UInt8) (a:FF):Prop where
 user:∀ c∈a.user,FO 5 c=false
 pass:∀ c∈a.pass,FO 5 c=false
 host:Be (Aj scheme) a.host
 port:Jq scheme a.port
 empty:a.host= .empty->a.user=[]/\a.pass=[]/\a.port=none
theorem Ur {n:List UInt8} {sp:Bool} (h:DO n sp=some .empty):n=[]:=by
 unfold DO at h;split at h
 ·unfold Ts at h;split at h
  ·cases hs:FP (n.drop 1).dropLast with
   | none=>rw [hs] at h;cases h
   | some l=>rw [hs] at h;cases h
  ·cases h
 ·split at h
  ·unfold KI at h;split at h
   ·cases h
   ·split at h
    ·cases h
    ·split at h
     ·rename_i m _ _ _
      cases hp:Bq m with
      | none=>rw [hp] at h;cases h
      | some k=>rw [hp] at h;cases h
     ·cases h
  ·unfold PQ at h;split at h
   ·rename_i he;exact List.isEmpty_iff.1 he
   ·split at h
    ·cases h
    ·cases h
theorem TI {s p:List UInt8} (h:Fz s=some ([],p)):s=[]/\p=[]:=by
 unfold Fz at h;split at h
 ·split at h
  ·cases h
  ·rename_i hn;cases h;exact absurd rfl hn
 ·cases h;exact ⟨rfl,rfl⟩
theorem UH {scheme user pass s:List UInt8} {a:FF} (hu:∀ c∈user,FO 5 c=false) (hp:∀ c∈pass,FO 5 c=false) (hs:s=[]->user=[]/\pass=[]) (h:E7 scheme user pass s=some a):Aci scheme a:=by
 unfold E7 at h;split at h
 ·cases h
 ·rename_i n p hn;split at h
  ·cases h
  ·rename_i hh ho;split at h
   ·cases h
   ·rename_i q hq;cases h
    refine ⟨hu,hp,O1 ho,AcE hq,fun e=> ?_⟩
    dsimp only at e;rw [e] at ho;have hn0:=Ur ho;subst hn0;obtain ⟨h1,h2⟩:=TI hn;subst h2;have h3:=hs h1;refine ⟨h3.1,h3.2,?_⟩;unfold IJ at hq;rw [if_pos rfl] at hq;exact (Option.some.inj hq).symm
theorem Adt {scheme s:List UInt8} {a:FF} (h:Gy scheme s=some a):Aci scheme a:=by
 unfold Gy at h;split at h
 ·split at h
  ·cases h
  ·rename_i hr
   exact UH (Gu (by decide)) (Gu (by decide)) (fun e=>absurd e hr) h
 ·refine UH ?_ ?_ (fun _=>⟨rfl,rfl⟩) h<;>(intro c hc;cases hc)
theorem CF (scheme s:List UInt8):AA scheme (BZ scheme s)/\BZ scheme s≠[]:=⟨EJ (AA.nil _) _,Hf _ _ _⟩
theorem CR:Aj Aw=true:=by decide
structure S3 (u:Aq):Prop where
 scheme:CE u.scheme=true/\AD u.scheme=u.scheme
 query:∀ q,u.query=some q->∀ c∈q,FO (GU u.scheme) c=false
 frag:∀ f,u.frag=some f->∀ c∈f,FO 1 c=false
 user:u.user=[]
 pass:u.pass=[]
 port:u.port=none
 opq:u.opq=false
 flat:u.flat=[]
 path:u.path=[]
theorem JV {scheme:List UInt8} {p:B9} (hs:CE scheme=true/\AD scheme=scheme):S3 (Ax scheme p):=
 ⟨hs,fun q hq=>HG (Ta _) hq,fun f hf=>HG (by decide) hf,rfl,rfl,rfl,rfl,rfl,rfl⟩
theorem G6 {p:UInt8->Prop} {l:List UInt8} (h:l=[]):∀ c∈l,p c:=by subst h;intro c hc;cases hc
theorem JX {u v:Aq} {s:List UInt8} (hu:S3 u) (hf:u.scheme≠Aw) (h:Ig u s=some v):AY v:=by
 unfold Ig at h
 cases ha:Gy u.scheme (BK (Aj u.scheme) s).1 with
 | none=>rw [ha] at h;cases h
 | some a=>
  rw [ha] at h;cases h;have ok:=Adt ha
  have hpath:AA u.scheme (if (Aj u.scheme || !(BK (Aj u.scheme) s).2.isEmpty)=true then BZ u.scheme (BK (Aj u.scheme) s).2 else u.path):=by
   split
   ·exact (CF _ _).1
   ·rw [hu.path];exact AA.nil _
  refine ⟨hu.scheme,hu.query,hu.frag,ok.user,ok.pass,hpath,fun _=>hu.flat,?_⟩
  cases hsp:Aj u.scheme
  ·exact .net hsp hu.opq (by have:=ok.host;rw [hsp] at this;exact this) ok.port ok.empty
  ·refine .special hf hsp hu.opq ?_ (by have:=ok.host;rw [hsp] at this;exact this) ok.port
   show (if (Aj u.scheme || _)=true then _ else _)≠[]
   rw [hsp,Bool.true_or,if_pos rfl];exact (CF _ _).2
theorem NU:CE Aw=true/\AD Aw=Aw:=by decide
theorem VO {u v:Aq} {s:List UInt8} (hu:S3 u) (hf:u.scheme=Aw) (he:u.host= .empty) (h:GO u s=some v):AY v:=by
 unfold GO at h;split at h
 ·cases h
  exact ⟨hu.scheme,hu.query,hu.frag,G6 hu.user,G6 hu.pass,EJ (AA.nil _) _,fun _=>hu.flat,.file hf hu.opq hu.user hu.pass hu.port (Hf _ _ _) (.inl he)⟩
 ·split at h
  ·cases h
   exact ⟨hu.scheme,hu.query,hu.frag,G6 hu.user,G6 hu.pass,(CF _ _).1,fun _=>hu.flat,.file hf hu.opq hu.user hu.pass hu.port (CF _ _).2 (.inl he)⟩
  ·split at h
   ·cases h
   ·rename_i ho hh;cases h
    by_cases hl:ho= .name Et
    ·rw [if_pos hl]
     exact ⟨hu.scheme,hu.query,hu.frag,G6 hu.user,G6 hu.pass,(CF _ _).1,fun _=>hu.flat,.file hf hu.opq hu.user hu.pass hu.port (CF _ _).2 (.inl he)⟩
    ·rw [if_neg hl]
     exact ⟨hu.scheme,hu.query,hu.frag,G6 hu.user,G6 hu.pass,(CF _ _).1,fun _=>hu.flat,.file hf hu.opq hu.user hu.pass hu.port (CF _ _).2 (.inr ⟨O1 hh,hl⟩)⟩
theorem MJ {path:List (List UInt8)} (h:EK path=true):AA Aw (path.take 1):=by
 cases path with
 | nil=>cases h
 | cons p r=>
  have hn:CK p=true:=h
  obtain ⟨a,b,rfl,ha,hb⟩:∃ a b,p=[a,b]/\L8 a=true/\b=58:=by
   unfold CK at hn;split at hn
   ·rename_i a b;rw [Bool.and_eq_true,beq_iff_eq] at hn;exact ⟨a,b,rfl,hn.1,hn.2⟩
   ·cases hn
  subst hb;show AA Aw [[a,58]]
  exact ⟨fun q hq=>by rw [List.mem_singleton.1 hq];exact Qf _ ha,fun _ q r e _=>by
   rw [List.cons.injEq] at e
   rw [<-e.1];exact hn⟩
theorem Sp {base:Aq} (hb:AY base) (h:base.scheme=Aw):base.opq=false/\base.path≠[]/\(base.host= .empty\/(Be true base.host/\base.host≠ .name Et)):=by
 cases hb.kind with
 | file s o us ps po pa hh=>exact ⟨o,pa,hh⟩
 | special s=>exact absurd h s
 | net sp=>rw [h,CR] at sp;cases sp
 | plain sp=>rw [h,CR] at sp;cases sp
 | flat sp=>rw [h,CR] at sp;cases sp
theorem XV {base v:Aq} {p:B9} (hb:AY base\/base=Ea) (hp:L5 p) (h:LQ base p=some v):AY v:=by
 have hu:S3 (Bk (Ax Aw p) .empty):=by
  have:=JV (scheme:=Aw) (p:=p) NU;exact ⟨this.scheme,this.query,this.frag,this.user,this.pass,this.port,this.opq,this.flat,this.path⟩
 have hbase:base.scheme=Aw->AY base:=by
  intro e
  rcases hb with hb | hb
  ·exact hb
  ·rw [hb] at e;cases e
 obtain ⟨fr,hfr⟩:∃ b,(base.scheme==Aw)=b:=⟨_,rfl⟩
 have hfr2:fr=true->base.scheme=Aw:=fun e=>by rw [e,beq_iff_eq] at hfr;exact hfr
 have hvh:∀ (l:List (List UInt8)) (q:Option (List UInt8)),AA Aw l->l≠[]->(∀ x,q=some x->∀ c∈x,FO (GU Aw) c=false)->
   AY ⟨Aw,[],[],(if fr=true then Bk (Bk (Ax Aw p) .empty) base.host else Bk (Ax Aw p) .empty).host,none,false,[],l,q,Hh p.hf (A1 1 p.frg)⟩:=by
  intro l q hl hne hq
  refine ⟨NU,hq,fun f hf=>HG (by decide) hf,fun c hc=>(nomatch hc),fun c hc=>(nomatch hc),hl,fun _=>rfl,.file rfl rfl rfl rfl rfl hne ?_⟩
  cases fr
  ·exact .inl rfl
  ·exact (Sp (hbase (hfr2 rfl)) (hfr2 rfl)).2.2
 have hq0:∀ x,Hh p.hq (A1 (GU Aw) p.qry)=some x->∀ c∈x,FO (GU Aw) c=false:=fun x hx=>HG (Ta _) hx
 unfold LQ at h;dsimp only at h;rw [hfr] at h;split at h
 ·exact VO hu rfl rfl h
 ·split at h
  ·cases h
   have:=hvh (Dl Aw (if (fr && (EK base.path && !EX (p.rest.drop 1)))=true then base.path.take 1 else []) (p.rest.drop 1)) _ (EJ (by
    split
    ·rename_i hc;rw [Bool.and_eq_true,Bool.and_eq_true] at hc;exact MJ hc.2.1
    ·exact AA.nil _) _) (Hf _ _ _) hq0
   cases fr<;>exact this
  ·split at h
   ·rename_i hc;cases h;rw [Bool.and_eq_true] at hc;have hg:=hbase (hfr2 hc.1);have hbs:=hfr2 hc.1;have hbp:AA Aw base.path:=hbs ▸ hg.path
    have:=hvh base.path (if Hh p.hq (A1 (GU Aw) p.qry)=none then base.query else Hh p.hq (A1 (GU Aw) p.qry)) hbp (Sp hg hbs).2.1 (by
     intro x hx;split at hx
     ·have:=hg.query x hx;rw [hbs] at this;exact this
     ·exact hq0 x hx)
    obtain ⟨rfl⟩:fr=true:=hc.1;exact this
   ·split at h
    ·rename_i hc;cases h;rw [Bool.and_eq_true] at hc;have hg:=hbase (hfr2 hc.1);have hbs:=hfr2 hc.1;have hbp:AA Aw base.path:=hbs ▸ hg.path;have:=hvh (Dl Aw (HY Aw base.path) p.rest) _ (EJ hbp.up _) (Hf _ _ _) hq0;obtain ⟨rfl⟩:fr=true:=hc.1;exact this
    ·cases h;have:=hvh (Dl Aw [] p.rest) _ (EJ (AA.nil _) _) (Hf _ _ _) hq0
     cases fr<;>exact this
theorem Aax:∀ n:Fin 256,(E6 0 (UInt8.ofNat n.val)).all (fun x=>(x==UInt8.ofNat n.val) || (!(x==35) && !(x==63)))=true:=by decide+kernel
theorem Abh:∀ n:Fin 256,(E6 0 (UInt8.ofNat n.val)).head? =some 47->UInt8.ofNat n.val=47:=by decide+kernel
theorem Tz (b:Bool) (s:List UInt8) (h:b=false->s.getLast? ≠some 32):(D3 b s).getLast? ≠some 32:=by
 unfold D3;split
 ·simp
 ·rename_i hc;cases b
  ·exact h rfl
  ·rw [Bool.true_and] at hc;intro e;obtain ⟨a,rfl⟩:=List.getLast?_eq_some_iff.1 e;exact hc (JF _ _)
theorem ZS:∀ n:Fin 256,(E6 0 (UInt8.ofNat n.val)).getLast? =some 32->UInt8.ofNat n.val=32:=by decide+kernel
theorem Uy {v:Aq} {p:B9} (hs:p.hs=true) (hsp:Aj p.sch=false) (hp:L5 p) (h:GE p=some v):AY v:=by
 have hu:=JV (p:=p) (hp.sch hs)
 have hnf:p.sch≠Aw:=fun e=>by rw [e,CR] at hsp;cases hsp
 unfold GE at h;dsimp only at h;split at h
 ·exact JX hu hnf h
 ·split at h
  ·cases h
   exact ⟨hu.scheme,hu.query,hu.frag,fun c hc=>(nomatch hc),fun c hc=>(nomatch hc),EJ (AA.nil _) _,fun _=>rfl,.plain hsp rfl rfl rfl rfl rfl (Hf _ _ _)⟩
  ·rename_i h47;cases h
   refine ⟨hu.scheme,hu.query,hu.frag,fun c hc=>(nomatch hc),fun c hc=>(nomatch hc),AA.nil _,fun e=>(nomatch e),.flat hsp rfl rfl rfl rfl rfl rfl ?_ ?_ ?_⟩
   ·have h0:∀ c∈A1 0 p.rest,FO 0 c=false/\c≠35/\c≠63:=by
     intro c hc
     refine ⟨Gu (by decide) c hc,?_⟩
     obtain ⟨d,hd,hc⟩:=List.mem_flatMap.1 hc;have h1:=Aax ⟨d.toNat,d.toNat_lt⟩;simp only [UInt8.ofNat_toNat] at h1;have h2:=List.all_eq_true.1 h1 c hc;rw [Bool.or_eq_true] at h2
     rcases h2 with h2 | h2
     ·rw [beq_iff_eq] at h2;rw [h2];exact hp.rest d hd
     ·simpa using h2
    intro c hc
    show FO 0 c=false/\c≠35/\c≠63
    change c∈D3 _ _ at hc
    unfold D3 at hc;split at hc
    ·rcases List.mem_append.1 hc with hc | hc
     ·exact h0 c ((List.dropLast_sublist _).mem hc)
     ·simp only [List.mem_cons,List.not_mem_nil,or_false] at hc
      rcases hc with rfl | rfl | rfl<;>decide
    ·exact h0 c hc
   ·have hne:p.rest.head? ≠some 47:=by
     intro e;apply h47;rw [CY,e];rfl
    have he0:(A1 0 p.rest).head? ≠some 47:=by
     intro e
     cases hr:p.rest with
     | nil=>rw [hr] at e;cases e
     | cons c r=>
      rw [hr] at e hne;have e1:(E6 0 c++A1 0 r).head? =some 47:=e
      have hnn:E6 0 c≠[]:=by unfold E6;split<;>simp
      rw [Ab2 hnn] at e1;have:=Abh ⟨c.toNat,c.toNat_lt⟩;simp only [UInt8.ofNat_toNat] at this;rw [this e1] at hne;exact hne rfl
    show (D3 _ _).head? ≠some 47;unfold D3;split
    ·intro e
     cases hd:(A1 0 p.rest).dropLast with
     | nil=>rw [hd] at e;cases e
     | cons c r=>
      rw [hd] at e;apply he0
      have hx:(A1 0 p.rest)≠[]:=by intro e2;rw [e2] at hd;cases hd
      rw [<-List.dropLast_concat_getLast hx,hd];exact e
    ·exact he0
   ·refine Tz _ _ (fun hb=> ?_)
    rw [Bool.or_eq_false_iff] at hb;have hl:=hp.last hb.1 hb.2;intro e
    cases hr:p.rest.getLast? with
    | none=>
     rw [List.getLast?_eq_none_iff] at hr;rw [hr] at e;cases e
    | some x=>
     obtain ⟨a,ha⟩:=List.getLast?_eq_some_iff.1 hr;rw [ha,Sk] at e
     have hnn:E6 0 x≠[]:=by unfold E6;split<;>simp
     rw [I3 hnn] at e;have:=ZS ⟨x.toNat,x.toNat_lt⟩;simp only [UInt8.ofNat_toNat] at this;rw [hr,this e] at hl;exact hl rfl
theorem Pq {base v:Aq} {p:B9} (hb:AY base) (hf:base.scheme≠Aw) (ho:base.opq=false) (h:ED base p=some v):AY v:=by
 have hu:=JV (p:=p) hb.scheme
 have hq0:∀ x,Hh p.hq (A1 (GU base.scheme) p.qry)=some x->∀ c∈x,FO (GU base.scheme) c=false:=fun x hx=>HG (Ta _) hx
 have key:∀ (l:List (List UInt8)) (q:Option (List UInt8)),AA base.scheme l->(l≠[]\/l=base.path)->(∀ x,q=some x->∀ c∈x,FO (GU base.scheme) c=false)->
   AY ⟨base.scheme,base.user,base.pass,base.host,base.port,false,[],l,q,Hh p.hf (A1 1 p.frg)⟩:=by
  intro l q hl hne hq
  refine ⟨hb.scheme,hq,fun f hf=>HG (by decide) hf,hb.user,hb.pass,hl,fun _=>rfl,?_⟩
  cases hb.kind with
  | file s=>exact absurd s hf
  | special s sp o pa hh po=>exact .special s sp rfl (by rcases hne with h | h;exact h;rw [h];exact pa) hh po
  | net sp o hh po e=>exact .net sp rfl hh po e
  | plain sp o hh us ps po pa=>exact .plain sp rfl hh us ps po (by rcases hne with h | h;exact h;rw [h];exact pa)
  | flat sp o=>rw [o] at ho;cases ho
 unfold ED at h;dsimp only at h;split at h
 ·split at h
  ·exact JX hu hf h
  ·exact JX hu hf h
 ·split at h
  ·cases h;exact key _ _ (EJ (AA.nil _) _) (.inl (Hf _ _ _)) hq0
  ·split at h
   ·cases h
    refine key base.path (if Hh p.hq (A1 (GU base.scheme) p.qry)=none then base.query else Hh p.hq (A1 (GU base.scheme) p.qry)) hb.path (.inr rfl) ?_
    intro x hx;split at hx
    ·exact hb.query x hx
    ·exact hq0 x hx
   ·cases h;exact key _ _ (EJ hb.path.up _) (.inl (Hf _ _ _)) hq0
theorem PH {base u:Aq} {p:B9} (hb:AY base\/(p.hs=true/\base=Ea)) (hp:L5 p) (h:IP base p=some u):AY u:=by
 unfold IP at h;split at h
 ·exact XV (by rcases hb with hb | hb;exact .inl hb;exact .inr hb.2) hp h
 ·rename_i hnf;rw [Bool.or_eq_true,not_or] at hnf;split at h
  ·rename_i hs;rw [Bool.and_eq_true,Bool.and_eq_true] at hs
   refine JX (JV (hp.sch hs.1.1)) (fun e=>hnf.1 ?_) h
   have:p.sch=Aw:=e;rw [hs.1.1,this];rfl
  ·rename_i hns;split at h
   ·rename_i hs;rw [Bool.and_eq_true] at hs
    have hsp:Aj p.sch=false:=by
     have:=hs.2;rw [hs.1,Bool.true_and] at this;simpa using this
    exact Uy hs.1 hsp hp h
   ·rename_i hno
    have hgb:AY base:=by
     rcases hb with hb | ⟨hhs,hz⟩
     ·exact hb
     ·exfalso;rw [hhs] at hno hns;rw [Bool.true_and,Bool.true_and] at hno
      have hsp:Aj p.sch=true:=by simpa using hno
      apply hns;rw [hsp,hz,Bool.true_and,Bool.true_and,Bool.or_eq_true];left
      have:p.sch≠[]:=by intro e;rw [e] at hsp;cases hsp
      simpa [Ea] using this
    split at h
    ·unfold OQ at h;split at h
     ·cases h
     ·rename_i hopq _;cases h
      refine ⟨hgb.scheme,hgb.query,fun f hf=> ?_,hgb.user,hgb.pass,hgb.path,hgb.flat,?_⟩
      ·cases hf;exact Gu (by decide)
      ·cases hgb.kind with
       | file s o=>rw [o] at hopq;cases hopq
       | special s sp o=>rw [o] at hopq;cases hopq
       | net sp o=>rw [o] at hopq;cases hopq
       | plain sp o=>rw [o] at hopq;cases hopq
       | flat sp o hh us ps po pa fl hd la=>exact .flat sp o hh us ps po pa fl hd la
    ·rename_i hopq
     have hopq':base.opq=false:=by simpa using hopq
     refine Pq hgb (fun e=> ?_) hopq' h
     cases hhs:p.hs
     ·apply hnf.2;rw [hhs,hopq',e];rfl
     ·rw [hhs,Bool.true_and,Bool.true_and] at hno
      have hsp:Aj p.sch=true:=by simpa using hno
      rw [hhs,hsp,Bool.true_and,Bool.true_and,Bool.or_eq_true,not_or] at hns
      have:p.sch=base.scheme:=by simpa using hns.1
      apply hnf.1;rw [hhs,this,e];rfl
theorem OL {base u:Aq} {s:List UInt8} (hb:AY base) (h:G0 base s=some u):AY u:=PH (.inl hb) (V8 s) h
theorem M6 {u:Aq} {s:List UInt8} (h:Dz s=some u):AY u:=by
 unfold Dz at h;split at h
 ·rename_i hs;exact PH (.inr ⟨hs,rfl⟩) (V8 s) h
 ·cases h
end Go.Proofs.YtonomfeipkdmhaaGreatDoor
