/- Part 9: lemmas. -/
import Derived.Test.YtonomfeipkdmhaaGreatDoorL08
set_option linter.unusedVariables false
set_option linter.unusedSimpArgs false
set_option maxRecDepth 100000
set_option maxHeartbeats 16000000
namespace Go.Proofs.YtonomfeipkdmhaaGreatDoor
open Go.RowKit
theorem Af8 {a b:List UInt8} (h:a≠[]):(a++b).head? =a.head? :=by
 cases a with
 | nil=>exact absurd rfl h
 | cons c r=>rfl
theorem Jh {a b:List UInt8} (h:b≠[]):(a++b).getLast? =b.getLast? :=by
 rw [List.getLast?_append]
 cases hb:b.getLast? with
 | none=>exact absurd (List.getLast?_eq_none_iff.1 hb) h
 | some x=>rfl
def Jx (scheme:List UInt8) (o:Option Nat):Prop:=∀ n,o=some n->n<=65535/\Ii scheme≠some n
inductive AiX (u:Ao):Prop where
 | file (s:u.scheme=Aw) (o:u.opq=false) (us:u.user=[]) (ps:u.pass=[]) (po:u.port=none) (pa:u.path≠[]) (h:u.host= .empty\/(Bo true u.host/\u.host≠ .name EB))
 | special (s:u.scheme≠Aw) (sp:Aj u.scheme=true) (o:u.opq=false) (pa:u.path≠[]) (h:Bo true u.host) (po:Jx u.scheme u.port)
 | net (sp:Aj u.scheme=false) (o:u.opq=false) (h:Bo false u.host) (po:Jx u.scheme u.port) (e:u.host= .empty->u.user=[]/\u.pass=[]/\u.port=none)
 | plain (sp:Aj u.scheme=false) (o:u.opq=false) (h:u.host= .none) (us:u.user=[]) (ps:u.pass=[]) (po:u.port=none) (pa:u.path≠[])
 | flat (sp:Aj u.scheme=false) (o:u.opq=true) (h:u.host= .none) (us:u.user=[]) (ps:u.pass=[]) (po:u.port=none) (pa:u.path=[]) (fl:∀ c∈u.flat,F3 0 c=false/\c≠35/\c≠63) (hd:u.flat.head? ≠some 47) (la:u.flat.getLast? ≠some 32)
structure AI (u:Ao):Prop where
 scheme:CI u.scheme=true/\AJ u.scheme=u.scheme
 query:∀ q,u.query=some q->∀ c∈q,F3 (G3 u.scheme) c=false
 frag:∀ f,u.frag=some f->∀ c∈f,F3 1 c=false
 user:∀ c∈u.user,F3 5 c=false
 pass:∀ c∈u.pass,F3 5 c=false
 path:AA u.scheme u.path
 flat:u.opq=false->u.flat=[]
 kind:AiX u
theorem ZH:∀ n:Fin 256,ET (BW (UInt8.ofNat n.val))=ET (UInt8.ofNat n.val)/\Bn ((BW (UInt8.ofNat n.val)).toNat:Int)=Bn ((UInt8.ofNat n.val).toNat:Int)/\BW (BW (UInt8.ofNat n.val))=BW (UInt8.ofNat n.val):=Qe
theorem UZ (c:UInt8):ET (BW c)=ET c/\Bn ((BW c).toNat:Int)=Bn (c.toNat:Int)/\BW (BW c)=BW c:=by
 have:=ZH ⟨c.toNat,c.toNat_lt⟩;simp only [UInt8.ofNat_toNat] at this;exact this
theorem UO {s:List UInt8} (h:CI s=true):CI (AJ s)=true/\AJ (AJ s)=AJ s:=by
 refine ⟨?_,?_⟩
 ·cases s with
  | nil=>cases h
  | cons c r=>
   unfold CI at h;rw [Bool.and_eq_true] at h;show (Bn ((BW c).toNat:Int) && (AJ r).all ET)=true;rw [(UZ c).2.1,h.1,Bool.true_and,List.all_eq_true];intro x hx;obtain ⟨y,hy,rfl⟩:=List.mem_map.1 hx;rw [(UZ y).1];exact List.all_eq_true.1 h.2 y hy
 ·unfold AJ;rw [List.map_map];apply List.map_congr_left;intro c _;exact (UZ c).2.2
structure LY (p:Cq):Prop where
 sch:p.hs=true->CI p.sch=true/\AJ p.sch=p.sch
 rest:∀ c∈p.rest,c≠35/\c≠63
 last:p.hq=false->p.hf=false->p.rest.getLast? ≠some 32
theorem Gy (c:UInt8):∀ l,∀ x∈(Ak c l).1,x≠c/\x∈l
 | [],x,h=>(nomatch h)
 | d :: r,x,h=>by
  rw [Ak] at h;split at h
  ·cases h
  ·rename_i hd
   rcases List.mem_cons.1 h with rfl | h
   ·exact ⟨hd,List.mem_cons_self ..⟩
   ·exact ⟨(Gy c r x h).1,List.mem_cons_of_mem _ (Gy c r x h).2⟩
theorem GN {c:UInt8}:∀ {l},(Ak c l).2.2=false->(Ak c l).1=l
 | [],_=>rfl
 | d :: r,h=>by
  rw [Ak] at h⊢;split at h
  ·cases h
  ·rename_i hd;rw [if_neg hd];show d :: (Ak c r).1=d :: r;rw [GN (l:=r) h]
theorem Na {c:UInt8}:∀ {l},(Ak c l).2.2=true->l=(Ak c l).1++c :: (Ak c l).2.1
 | [],h=>(nomatch h)
 | d :: r,h=>by
  rw [Ak] at h⊢;split at h
  ·rename_i hd;rw [if_pos hd,hd];rfl
  ·rename_i hd;rw [if_neg hd];show d :: r=d :: ((Ak c r).1++c :: (Ak c r).2.1);rw [<-Na (l:=r) h]
theorem VK {a b:List UInt8} {c x:UInt8} (h:(b).getLast? =some x):(a++c :: b).getLast? =some x:=by
 rw [List.getLast?_append,List.getLast?_cons,h];rfl
theorem Jt {p:UInt8->Bool}:∀ {l:List UInt8} {x:UInt8},(l.dropWhile p).head? =some x->p x=false
 | [],x,h=>(nomatch h)
 | c :: r,x,h=>by
  rw [List.dropWhile_cons] at h;split at h
  ·exact Jt h
  ·rename_i hc;rw [List.head?_cons] at h;rw [<-Option.some.inj h];simpa using hc
theorem Y4 {l:List UInt8} {x:UInt8} (h:(L2 l).getLast? =some x):MZ (x.toNat:Int)=false:=by
 unfold L2 Bt at h;rw [List.getLast?_reverse] at h
 exact Jt (p:=fun c=>MZ (c.toNat:Int)) h
theorem WN {p:UInt8->Bool} {l:List UInt8} {x:UInt8} (h:l.getLast? =some x) (hp:p x=true):(l.filter p).getLast? =some x:=by
 obtain ⟨a,rfl⟩:=List.getLast?_eq_some_iff.1 h;rw [List.filter_append,List.filter_cons,if_pos hp];simp
theorem Yv {l:List UInt8}:(DL l).getLast? ≠some 32:=by
 unfold DL
 cases h:(L2 l).getLast? with
 | none=>
  rw [List.getLast?_eq_none_iff] at h;rw [h];simp [Fe]
 | some x=>
  have h1:=Y4 h
  have key:∀ n:Fin 256,MZ ((UInt8.ofNat n.val).toNat:Int)=false->Hs (UInt8.ofNat n.val)=true/\UInt8.ofNat n.val≠32:=Qe
  have h2:=key ⟨x.toNat,x.toNat_lt⟩;simp only [UInt8.ofNat_toNat] at h2;have h3:=h2 h1;unfold Fe;rw [WN h h3.1];intro e;exact h3.2 (Option.some.inj e)
theorem AbZ {t:List UInt8} (ht:t.getLast? ≠some 32):LY (Cp t):=by
 unfold Cp;have hf:=Gy 35 t;have hq:=Gy 63 (Ak 35 t).1;dsimp only;split
 ·rename_i hs;rw [Bool.and_eq_true] at hs;have hb:=Na hs.1
  refine ⟨fun _=>UO hs.2,fun c hc=> ?_,fun h1 h2 he=> ?_⟩
  ·dsimp only at hc
   have hm:c∈(Ak 63 (Ak 35 t).1).1:=by rw [hb];exact List.mem_append_right _ (List.mem_cons_of_mem _ hc)
   have:=hq c hm;exact ⟨(hf c this.2).1,this.1⟩
  ·dsimp only at h1 h2 he;apply ht;have e1:=GN h2;rw [e1] at h1 he hb hs;have e2:=GN h1;rw [e2] at he hb;rw [hb];exact VK he
 ·refine ⟨fun h=>(nomatch h),fun c hc=> ?_,fun h1 h2 he=> ?_⟩
  ·have:=hq c hc;exact ⟨(hf c this.2).1,this.1⟩
  ·dsimp only at h1 h2 he;apply ht;have e1:=GN h2;rw [e1] at h1 he;rw [GN h1] at he;exact he
theorem Xq (s:List UInt8):LY (Cp (DL s)):=AbZ Yv
theorem Ic {b:Bool} {set:Nat} (hs:set<6) {l q:List UInt8} (h:Hw b (AZ set l)=some q):∀ c∈q,F3 set c=false:=by
 unfold Hw at h;split at h
 ·cases h;exact GH hs
 ·cases h
theorem UV (s:List UInt8):G3 s<6:=by unfold G3;split<;>decide
theorem Afp {scheme s:List UInt8} {o:Option Nat} (h:IX scheme s=some o):Jx scheme o:=by
 intro n hn;subst hn;unfold IX at h;split at h
 ·cases h
 ·split at h
  ·cases h
  ·split at h
   ·cases h
   ·split at h
    ·cases h
    ·cases h
     exact ⟨Qa,by assumption⟩
structure Afr (scheme:List UInt8) (a:FW):Prop where
 user:∀ c∈a.user,F3 5 c=false
 pass:∀ c∈a.pass,F3 5 c=false
 host:Bo (Aj scheme) a.host
 port:Jx scheme a.port
 empty:a.host= .empty->a.user=[]/\a.pass=[]/\a.port=none
theorem Wv {n:List UInt8} {sp:Bool} (h:D6 n sp=some .empty):n=[]:=by
 unfold D6 at h;split at h
 ·unfold UM at h;split at h
  ·cases hs:F7 (n.drop 1).dropLast with
   | none=>rw [hs] at h;cases h
   | some l=>rw [hs] at h;cases h
  ·cases h
 ·split at h
  ·unfold KK at h;split at h
   ·cases h
   ·split at h
    ·cases h
    ·split at h
     ·rename_i m _ _ _
      cases hp:BD m with
      | none=>rw [hp] at h;cases h
      | some k=>rw [hp] at h;cases h
     ·cases h
  ·unfold Ru at h;split at h
   ·rename_i he;exact List.isEmpty_iff.1 he
   ·split at h
    ·cases h
    ·cases h
theorem VW {s p:List UInt8} (h:FJ s=some ([],p)):s=[]/\p=[]:=by
 unfold FJ at h;split at h
 ·split at h
  ·cases h
  ·rename_i hn;cases h;exact absurd rfl hn
 ·cases h;exact ⟨rfl,rfl⟩
theorem XZ {scheme user pass s:List UInt8} {a:FW} (hu:∀ c∈user,F3 5 c=false) (hp:∀ c∈pass,F3 5 c=false) (hs:s=[]->user=[]/\pass=[]) (h:Fa scheme user pass s=some a):Afr scheme a:=by
 unfold Fa at h;split at h
 ·cases h
 ·rename_i n p hn;split at h
  ·cases h
  ·rename_i hh ho;split at h
   ·cases h
   ·rename_i q hq;cases h
    refine ⟨hu,hp,O1 ho,Afp hq,fun e=> ?_⟩
    dsimp only at e;rw [e] at ho;have hn0:=Wv ho;subst hn0;obtain ⟨h1,h2⟩:=VW hn;subst h2;have h3:=hs h1;refine ⟨h3.1,h3.2,?_⟩;unfold IX at hq;rw [if_pos rfl] at hq;exact (Option.some.inj hq).symm
theorem AfP {scheme s:List UInt8} {a:FW} (h:GG scheme s=some a):Afr scheme a:=by
 unfold GG at h;split at h
 ·split at h
  ·cases h
  ·rename_i hr
   exact XZ (GH Qc) (GH Qc) (fun e=>absurd e hr) h
 ·refine XZ ?_ ?_ (fun _=>⟨rfl,rfl⟩) h<;>(intro c hc;cases hc)
theorem CR (scheme s:List UInt8):AA scheme (Cj scheme s)/\Cj scheme s≠[]:=⟨EP (AA.nil _) _,Hd _ _ _⟩
theorem C0:Aj Aw=true:=Qc
structure Ve (u:Ao):Prop where
 scheme:CI u.scheme=true/\AJ u.scheme=u.scheme
 query:∀ q,u.query=some q->∀ c∈q,F3 (G3 u.scheme) c=false
 frag:∀ f,u.frag=some f->∀ c∈f,F3 1 c=false
 user:u.user=[]
 pass:u.pass=[]
 port:u.port=none
 opq:u.opq=false
 flat:u.flat=[]
 path:u.path=[]
theorem J7 {scheme:List UInt8} {p:Cq} (hs:CI scheme=true/\AJ scheme=scheme):Ve (Ax scheme p):=
 ⟨hs,fun q hq=>Ic (UV _) hq,fun f hf=>Ic Qc hf,rfl,rfl,rfl,rfl,rfl,rfl⟩
theorem Hb {p:UInt8->Prop} {l:List UInt8} (h:l=[]):∀ c∈l,p c:=by subst h;intro c hc;cases hc
theorem J6 {u v:Ao} {s:List UInt8} (hu:Ve u) (hf:u.scheme≠Aw) (h:IP u s=some v):AI v:=by
 unfold IP at h
 cases ha:GG u.scheme (BZ (Aj u.scheme) s).1 with
 | none=>rw [ha] at h;cases h
 | some a=>
  rw [ha] at h;cases h;have ok:=AfP ha
  have hpath:AA u.scheme (if (Aj u.scheme || !(BZ (Aj u.scheme) s).2.isEmpty)=true then Cj u.scheme (BZ (Aj u.scheme) s).2 else u.path):=by
   split
   ·exact (CR _ _).1
   ·rw [hu.path];exact AA.nil _
  refine ⟨hu.scheme,hu.query,hu.frag,ok.user,ok.pass,hpath,fun _=>hu.flat,?_⟩
  cases hsp:Aj u.scheme
  ·exact .net hsp hu.opq (by have:=ok.host;rw [hsp] at this;exact this) ok.port ok.empty
  ·refine .special hf hsp hu.opq ?_ (by have:=ok.host;rw [hsp] at this;exact this) ok.port
   show (if (Aj u.scheme || _)=true then _ else _)≠[]
   rw [hsp,Bool.true_or,if_pos rfl];exact (CR _ _).2
theorem NS:CI Aw=true/\AJ Aw=Aw:=Qc
theorem XV {u v:Ao} {s:List UInt8} (hu:Ve u) (hf:u.scheme=Aw) (he:u.host= .empty) (h:GM u s=some v):AI v:=by
 unfold GM at h;split at h
 ·cases h
  exact ⟨hu.scheme,hu.query,hu.frag,Hb hu.user,Hb hu.pass,EP (AA.nil _) _,fun _=>hu.flat,.file hf hu.opq hu.user hu.pass hu.port (Hd _ _ _) (.inl he)⟩
 ·split at h
  ·cases h
   exact ⟨hu.scheme,hu.query,hu.frag,Hb hu.user,Hb hu.pass,(CR _ _).1,fun _=>hu.flat,.file hf hu.opq hu.user hu.pass hu.port (CR _ _).2 (.inl he)⟩
  ·split at h
   ·cases h
   ·rename_i ho hh;cases h
    by_cases hl:ho= .name EB
    ·rw [if_pos hl]
     exact ⟨hu.scheme,hu.query,hu.frag,Hb hu.user,Hb hu.pass,(CR _ _).1,fun _=>hu.flat,.file hf hu.opq hu.user hu.pass hu.port (CR _ _).2 (.inl he)⟩
    ·rw [if_neg hl]
     exact ⟨hu.scheme,hu.query,hu.frag,Hb hu.user,Hb hu.pass,(CR _ _).1,fun _=>hu.flat,.file hf hu.opq hu.user hu.pass hu.port (CR _ _).2 (.inr ⟨O1 hh,hl⟩)⟩
theorem Nx {path:List (List UInt8)} (h:EU path=true):AA Aw (path.take 1):=by
 cases path with
 | nil=>cases h
 | cons p r=>
  have hn:CT p=true:=h
  obtain ⟨a,b,rfl,ha,hb⟩:∃ a b,p=[a,b]/\L1 a=true/\b=58:=by
   unfold CT at hn;split at hn
   ·rename_i a b;rw [Bool.and_eq_true,beq_iff_eq] at hn;exact ⟨a,b,rfl,hn.1,hn.2⟩
   ·cases hn
  subst hb;show AA Aw [[a,58]]
  exact ⟨fun q hq=>by rw [List.mem_singleton.1 hq];exact Pg _ ha,fun _ q r e _=>by
   rw [List.cons.injEq] at e
   rw [<-e.1];exact hn⟩
theorem Ug {base:Ao} (hb:AI base) (h:base.scheme=Aw):base.opq=false/\base.path≠[]/\(base.host= .empty\/(Bo true base.host/\base.host≠ .name EB)):=by
 cases hb.kind with
 | file s o us ps po pa hh=>exact ⟨o,pa,hh⟩
 | special s=>exact absurd h s
 | net sp=>rw [h,C0] at sp;cases sp
 | plain sp=>rw [h,C0] at sp;cases sp
 | flat sp=>rw [h,C0] at sp;cases sp
theorem AaQ {base v:Ao} {p:Cq} (hb:AI base\/base=FU) (hp:LY p) (h:LW base p=some v):AI v:=by
 have hu:Ve (Bu (Ax Aw p) .empty):=by
  have:=J7 (scheme:=Aw) (p:=p) NS;exact ⟨this.scheme,this.query,this.frag,this.user,this.pass,this.port,this.opq,this.flat,this.path⟩
 have hbase:base.scheme=Aw->AI base:=by
  intro e
  rcases hb with hb | hb
  ·exact hb
  ·rw [hb] at e;cases e
 obtain ⟨fr,hfr⟩:∃ b,(base.scheme==Aw)=b:=⟨_,rfl⟩
 have hfr2:fr=true->base.scheme=Aw:=fun e=>by rw [e,beq_iff_eq] at hfr;exact hfr
 have hvh:∀ (l:List (List UInt8)) (q:Option (List UInt8)),AA Aw l->l≠[]->(∀ x,q=some x->∀ c∈x,F3 (G3 Aw) c=false)->
   AI ⟨Aw,[],[],(if fr=true then Bu (Bu (Ax Aw p) .empty) base.host else Bu (Ax Aw p) .empty).host,none,false,[],l,q,Hw p.hf (AZ 1 p.frg)⟩:=by
  intro l q hl hne hq
  refine ⟨NS,hq,fun f hf=>Ic Qc hf,fun c hc=>(nomatch hc),fun c hc=>(nomatch hc),hl,fun _=>rfl,.file rfl rfl rfl rfl rfl hne ?_⟩
  cases fr
  ·exact .inl rfl
  ·exact (Ug (hbase (hfr2 rfl)) (hfr2 rfl)).2.2
 have hq0:∀ x,Hw p.hq (AZ (G3 Aw) p.qry)=some x->∀ c∈x,F3 (G3 Aw) c=false:=fun x hx=>Ic (UV _) hx
 unfold LW at h;dsimp only at h;rw [hfr] at h;split at h
 ·exact XV hu rfl rfl h
 ·split at h
  ·cases h
   have:=hvh (Dx Aw (if (fr && (EU base.path && !E0 (p.rest.drop 1)))=true then base.path.take 1 else []) (p.rest.drop 1)) _ (EP (by
    split
    ·rename_i hc;rw [Bool.and_eq_true,Bool.and_eq_true] at hc;exact Nx hc.2.1
    ·exact AA.nil _) _) (Hd _ _ _) hq0
   cases fr<;>exact this
  ·split at h
   ·rename_i hc;cases h;rw [Bool.and_eq_true] at hc;have hg:=hbase (hfr2 hc.1);have hbs:=hfr2 hc.1;have hbp:AA Aw base.path:=hbs ▸ hg.path
    have:=hvh base.path (if Hw p.hq (AZ (G3 Aw) p.qry)=none then base.query else Hw p.hq (AZ (G3 Aw) p.qry)) hbp (Ug hg hbs).2.1 (by
     intro x hx;split at hx
     ·have:=hg.query x hx;rw [hbs] at this;exact this
     ·exact hq0 x hx)
    obtain ⟨rfl⟩:fr=true:=hc.1;exact this
   ·split at h
    ·rename_i hc;cases h;rw [Bool.and_eq_true] at hc;have hg:=hbase (hfr2 hc.1);have hbs:=hfr2 hc.1;have hbp:AA Aw base.path:=hbs ▸ hg.path;have:=hvh (Dx Aw (IU Aw base.path) p.rest) _ (EP hbp.up _) (Hd _ _ _) hq0;obtain ⟨rfl⟩:fr=true:=hc.1;exact this
    ·cases h;have:=hvh (Dx Aw [] p.rest) _ (EP (AA.nil _) _) (Hd _ _ _) hq0
     cases fr<;>exact this
theorem Adu:∀ n:Fin 256,(Fm 0 (UInt8.ofNat n.val)).all (fun x=>(x==UInt8.ofNat n.val) || (!(x==35) && !(x==63)))=true:=Qe
theorem AdG:∀ n:Fin 256,(Fm 0 (UInt8.ofNat n.val)).head? =some 47->UInt8.ofNat n.val=47:=Qe
theorem VQ (b:Bool) (s:List UInt8) (h:b=false->s.getLast? ≠some 32):(Eh b s).getLast? ≠some 32:=by
 unfold Eh;split
 ·simp
 ·rename_i hc;cases b
  ·exact h rfl
  ·rw [Bool.true_and] at hc;intro e;obtain ⟨a,rfl⟩:=List.getLast?_eq_some_iff.1 e;exact hc (JO _ _)
theorem AbH:∀ n:Fin 256,(Fm 0 (UInt8.ofNat n.val)).getLast? =some 32->UInt8.ofNat n.val=32:=Qe
theorem Yn {v:Ao} {p:Cq} (hs:p.hs=true) (hsp:Aj p.sch=false) (hp:LY p) (h:GI p=some v):AI v:=by
 have hu:=J7 (p:=p) (hp.sch hs)
 have hnf:p.sch≠Aw:=fun e=>by rw [e,C0] at hsp;cases hsp
 unfold GI at h;dsimp only at h;split at h
 ·exact J6 hu hnf h
 ·split at h
  ·cases h
   exact ⟨hu.scheme,hu.query,hu.frag,fun c hc=>(nomatch hc),fun c hc=>(nomatch hc),EP (AA.nil _) _,fun _=>rfl,.plain hsp rfl rfl rfl rfl rfl (Hd _ _ _)⟩
  ·rename_i h47;cases h
   refine ⟨hu.scheme,hu.query,hu.frag,fun c hc=>(nomatch hc),fun c hc=>(nomatch hc),AA.nil _,fun e=>(nomatch e),.flat hsp rfl rfl rfl rfl rfl rfl ?_ ?_ ?_⟩
   ·have h0:∀ c∈AZ 0 p.rest,F3 0 c=false/\c≠35/\c≠63:=by
     intro c hc;refine ⟨GH Qc c hc,?_⟩;obtain ⟨d,hd,hc⟩:=List.mem_flatMap.1 hc;have h1:=Adu ⟨d.toNat,d.toNat_lt⟩;simp only [UInt8.ofNat_toNat] at h1;have h2:=List.all_eq_true.1 h1 c hc;rw [Bool.or_eq_true] at h2
     rcases h2 with h2 | h2
     ·rw [beq_iff_eq] at h2;rw [h2];exact hp.rest d hd
     ·simpa using h2
    intro c hc
    show F3 0 c=false/\c≠35/\c≠63
    change c∈Eh _ _ at hc
    unfold Eh at hc;split at hc
    ·rcases List.mem_append.1 hc with hc | hc
     ·exact h0 c ((List.dropLast_sublist _).mem hc)
     ·simp only [List.mem_cons,List.not_mem_nil,or_false] at hc
      rcases hc with rfl | rfl | rfl<;>decide
    ·exact h0 c hc
   ·have hne:p.rest.head? ≠some 47:=by
     intro e;apply h47;rw [Dk,e];rfl
    have he0:(AZ 0 p.rest).head? ≠some 47:=by
     intro e
     cases hr:p.rest with
     | nil=>rw [hr] at e;cases e
     | cons c r=>
      rw [hr] at e hne;have e1:(Fm 0 c++AZ 0 r).head? =some 47:=e
      have hnn:Fm 0 c≠[]:=by unfold Fm;split<;>simp
      rw [Af8 hnn] at e1;have:=AdG ⟨c.toNat,c.toNat_lt⟩;simp only [UInt8.ofNat_toNat] at this;rw [this e1] at hne;exact hne rfl
    show (Eh _ _).head? ≠some 47;unfold Eh;split
    ·intro e
     cases hd:(AZ 0 p.rest).dropLast with
     | nil=>rw [hd] at e;cases e
     | cons c r=>
      rw [hd] at e;apply he0
      have hx:(AZ 0 p.rest)≠[]:=by intro e2;rw [e2] at hd;cases hd
      rw [<-List.dropLast_concat_getLast hx,hd];exact e
    ·exact he0
   ·refine VQ _ _ (fun hb=> ?_)
    rw [Bool.or_eq_false_iff] at hb;have hl:=hp.last hb.1 hb.2;intro e
    cases hr:p.rest.getLast? with
    | none=>
     rw [List.getLast?_eq_none_iff] at hr;rw [hr] at e;cases e
    | some x=>
     obtain ⟨a,ha⟩:=List.getLast?_eq_some_iff.1 hr;rw [ha,Uv] at e
     have hnn:Fm 0 x≠[]:=by unfold Fm;split<;>simp
     rw [Jh hnn] at e;have:=AbH ⟨x.toNat,x.toNat_lt⟩;simp only [UInt8.ofNat_toNat] at this;rw [hr,this e] at hl;exact hl rfl
theorem Pm {base v:Ao} {p:Cq} (hb:AI base) (hf:base.scheme≠Aw) (ho:base.opq=false) (h:EL base p=some v):AI v:=by
 have hu:=J7 (p:=p) hb.scheme
 have hq0:∀ x,Hw p.hq (AZ (G3 base.scheme) p.qry)=some x->∀ c∈x,F3 (G3 base.scheme) c=false:=fun x hx=>Ic (UV _) hx
 have key:∀ (l:List (List UInt8)) (q:Option (List UInt8)),AA base.scheme l->(l≠[]\/l=base.path)->(∀ x,q=some x->∀ c∈x,F3 (G3 base.scheme) c=false)->
   AI ⟨base.scheme,base.user,base.pass,base.host,base.port,false,[],l,q,Hw p.hf (AZ 1 p.frg)⟩:=by
  intro l q hl hne hq
  refine ⟨hb.scheme,hq,fun f hf=>Ic Qc hf,hb.user,hb.pass,hl,fun _=>rfl,?_⟩
  cases hb.kind with
  | file s=>exact absurd s hf
  | special s sp o pa hh po=>exact .special s sp rfl (by rcases hne with h | h;exact h;rw [h];exact pa) hh po
  | net sp o hh po e=>exact .net sp rfl hh po e
  | plain sp o hh us ps po pa=>exact .plain sp rfl hh us ps po (by rcases hne with h | h;exact h;rw [h];exact pa)
  | flat sp o=>rw [o] at ho;cases ho
 unfold EL at h;dsimp only at h;split at h
 ·split at h
  ·exact J6 hu hf h
  ·exact J6 hu hf h
 ·split at h
  ·cases h;exact key _ _ (EP (AA.nil _) _) (.inl (Hd _ _ _)) hq0
  ·split at h
   ·cases h
    refine key base.path (if Hw p.hq (AZ (G3 base.scheme) p.qry)=none then base.query else Hw p.hq (AZ (G3 base.scheme) p.qry)) hb.path (.inr rfl) ?_
    intro x hx;split at hx
    ·exact hb.query x hx
    ·exact hq0 x hx
   ·cases h;exact key _ _ (EP hb.path.up _) (.inl (Hd _ _ _)) hq0
theorem PU {base u:Ao} {p:Cq} (hb:AI base\/(p.hs=true/\base=FU)) (hp:LY p) (h:I7 base p=some u):AI u:=by
 unfold I7 at h;split at h
 ·exact AaQ (by rcases hb with hb | hb;exact .inl hb;exact .inr hb.2) hp h
 ·rename_i hnf;rw [Bool.or_eq_true,not_or] at hnf;split at h
  ·rename_i hs;rw [Bool.and_eq_true,Bool.and_eq_true] at hs
   refine J6 (J7 (hp.sch hs.1.1)) (fun e=>hnf.1 ?_) h
   have:p.sch=Aw:=e;rw [hs.1.1,this];rfl
  ·rename_i hns;split at h
   ·rename_i hs;rw [Bool.and_eq_true] at hs
    have hsp:Aj p.sch=false:=by
     have:=hs.2;rw [hs.1,Bool.true_and] at this;simpa using this
    exact Yn hs.1 hsp hp h
   ·rename_i hno
    have hgb:AI base:=by
     rcases hb with hb | ⟨hhs,hz⟩
     ·exact hb
     ·exfalso;rw [hhs] at hno hns;rw [Bool.true_and,Bool.true_and] at hno
      have hsp:Aj p.sch=true:=by simpa using hno
      apply hns;rw [hsp,hz,Bool.true_and,Bool.true_and,Bool.or_eq_true];left
      have:p.sch≠[]:=by intro e;rw [e] at hsp;cases hsp
      simpa [FU] using this
    split at h
    ·unfold Ro at h;split at h
     ·cases h
     ·rename_i hopq _;cases h
      refine ⟨hgb.scheme,hgb.query,fun f hf=> ?_,hgb.user,hgb.pass,hgb.path,hgb.flat,?_⟩
      ·cases hf;exact GH Qc
      ·cases hgb.kind with
       | file s o=>rw [o] at hopq;cases hopq
       | special s sp o=>rw [o] at hopq;cases hopq
       | net sp o=>rw [o] at hopq;cases hopq
       | plain sp o=>rw [o] at hopq;cases hopq
       | flat sp o hh us ps po pa fl hd la=>exact .flat sp o hh us ps po pa fl hd la
    ·rename_i hopq
     have hopq':base.opq=false:=by simpa using hopq
     refine Pm hgb (fun e=> ?_) hopq' h
     cases hhs:p.hs
     ·apply hnf.2;rw [hhs,hopq',e];rfl
     ·rw [hhs,Bool.true_and,Bool.true_and] at hno
      have hsp:Aj p.sch=true:=by simpa using hno
      rw [hhs,hsp,Bool.true_and,Bool.true_and,Bool.or_eq_true,not_or] at hns
      have:p.sch=base.scheme:=by simpa using hns.1
      apply hnf.1;rw [hhs,this,e];rfl
theorem PM {base u:Ao} {s:List UInt8} (hb:AI base) (h:Ho base s=some u):AI u:=PU (.inl hb) (Xq s) h
theorem NV {u:Ao} {s:List UInt8} (h:DJ s=some u):AI u:=by
 unfold DJ at h;split at h
 ·rename_i hs;exact PU (.inr ⟨hs,rfl⟩) (Xq s) h
 ·cases h
theorem OW {c:UInt8}:∀ {a:List UInt8} (b:List UInt8),(∀ x∈a,x≠c)->Ak c (a++c :: b)=(a,b,true)
 | [],b,_=>by rw [List.nil_append,Ak,if_pos rfl]
 | x :: r,b,h=>by
  rw [List.cons_append,Ak,if_neg (h x (List.mem_cons_self ..)),OW (a:=r) b (fun y hy=>h y (List.mem_cons_of_mem _ hy))]
theorem U0 {c:UInt8}:∀ {a:List UInt8},(∀ x∈a,x≠c)->Ak c a=(a,[],false)
 | [],_=>rfl
 | x :: r,h=>by
  rw [Ak,if_neg (h x (List.mem_cons_self ..)),U0 (a:=r) (fun y hy=>h y (List.mem_cons_of_mem _ hy))]
theorem PA {sp:Bool}:∀ {a:List UInt8} {b:List UInt8},(∀ x∈a,AB sp x=false)->(∀ c,b.head? =some c->AB sp c=true)->BZ sp (a++b)=(a,b)
 | [],[],_,_=>rfl
 | [],c :: r,_,h=>by rw [List.nil_append,BZ,if_pos (h c rfl)]
 | x :: r,b,h,hb=>by
  rw [List.cons_append,BZ,if_neg (by rw [h x (List.mem_cons_self ..)];decide),PA (a:=r) (fun y hy=>h y (List.mem_cons_of_mem _ hy)) hb]
theorem Oi:∀ {T:List UInt8} (p:List UInt8),(∀ c∈T,c≠58/\c≠91/\c≠93)->BE false (T++58 :: p)=some (T,p)
 | [],p,_=>rfl
 | c :: r,p,h=>by
  have hc:=h c (List.mem_cons_self ..)
  rw [List.cons_append,BE,if_neg hc.2.1,if_neg hc.2.2,if_neg (fun e=>hc.1 e.1),Oi (T:=r) p (fun y hy=>h y (List.mem_cons_of_mem _ hy))]
  rfl
theorem Rj:∀ {T:List UInt8},(∀ c∈T,c≠58/\c≠91/\c≠93)->BE false T=none
 | [],_=>rfl
 | c :: r,h=>by
  have hc:=h c (List.mem_cons_self ..)
  rw [BE,if_neg hc.2.1,if_neg hc.2.2,if_neg (fun e=>hc.1 e.1),Rj (T:=r) (fun y hy=>h y (List.mem_cons_of_mem _ hy))]
  rfl
theorem YF:∀ {T:List UInt8} (Y:List UInt8),(∀ c∈T,c≠91/\c≠93)->BE true (T++93 :: Y)=(BE false Y).map (fun p=>(T++93 :: p.1,p.2))
 | [],Y,_=>by
  rw [List.nil_append,BE,if_neg Qc,if_pos rfl];rfl
 | c :: r,Y,h=>by
  have hc:=h c (List.mem_cons_self ..)
  rw [List.cons_append,BE,if_neg hc.1,if_neg hc.2,if_neg (fun e=>(nomatch e.2)),YF (T:=r) Y (fun y hy=>h y (List.mem_cons_of_mem _ hy))]
  cases BE false Y<;>rfl
theorem Py {c:UInt8} (h:Ah1 c):c≠91/\c≠93/\BM c=false/\c≠63/\c≠35/\c≠64/\AB true c=false:=by
 rcases h with rfl | ⟨d,hd,rfl⟩
 ·decide
 ·have key:∀ d:Fin 16,BN d.val≠91/\BN d.val≠93/\BM (BN d.val)=false/\BN d.val≠63/\BN d.val≠35/\BN d.val≠64/\AB true (BN d.val)=false:=Qe
  exact key ⟨d,hd⟩
theorem MY {sp:Bool} {c:UInt8} (h:AB true c=false):AB sp c=false:=by
 unfold AB at h⊢;rw [Bool.true_and,Bool.or_eq_false_iff] at h;rw [h.1,h.2];simp
def NZ (c:UInt8):Prop:=BM c=false/\c≠63/\c≠35/\c≠64/\AB true c=false/\c≠32
theorem AbW:∀ n:Fin 256,EV (UInt8.ofNat n.val)=false->BM (UInt8.ofNat n.val)=false->UInt8.ofNat n.val≠63/\UInt8.ofNat n.val≠35/\UInt8.ofNat n.val≠64/\AB true (UInt8.ofNat n.val)=false/\UInt8.ofNat n.val≠32/\UInt8.ofNat n.val≠58/\UInt8.ofNat n.val≠91/\UInt8.ofNat n.val≠93/\UInt8.ofNat n.val≠124:=Qe
theorem UJ {c:UInt8} (h:EV c=false) (h2:BM c=false):NZ c/\c≠58/\c≠91/\c≠93/\c≠124:=by
 have:=AbW ⟨c.toNat,c.toNat_lt⟩;simp only [UInt8.ofNat_toNat] at this;have h3:=this h h2;exact ⟨⟨h2,h3.1,h3.2.1,h3.2.2.1,h3.2.2.2.1,h3.2.2.2.2.1⟩,h3.2.2.2.2.2⟩
theorem Afc:∀ n:Fin 256,Fs (UInt8.ofNat n.val)=true->Jb (UInt8.ofNat n.val)=false->BM (UInt8.ofNat n.val)=false/\EV (UInt8.ofNat n.val)=false:=Qe
theorem Ee {sp:Bool} {h:BO} (g:Bo sp h):(h= .empty/\h.text=[])\/(h.text≠[]/\(∀ c∈h.text,NZ c)/\((∀ c∈h.text,c≠58/\c≠91/\c≠93/\c≠124)\/∃ X,h.text=91 :: (X++[93])/\∀ c∈X,c≠91/\c≠93)):=by
 cases g with
 | @name n h h2 h3 h4=>
  refine .inr ⟨h2,?_,.inl ?_⟩
  all_goals
   intro c hc
   have hb:Jb c=false:=by have:=List.any_eq_false.1 h3 c hc;simpa using this
   have hn:=(OA h).2 c hc;have:=Afc ⟨c.toNat,c.toNat_lt⟩;simp only [UInt8.ofNat_toNat] at this;have h5:=this hn hb;have h6:=UJ h5.2 h5.1
   first | exact h6.1 | exact h6.2
 | @four n h=>
  refine .inr ⟨WP n,?_,.inl ?_⟩
  all_goals
   intro c hc
   have key:∀ d:Fin 10,EV (BN d.val)=false/\BM (BN d.val)=false:=Qe
   have h6:NZ c/\c≠58/\c≠91/\c≠93/\c≠124:=by
    rcases R8 n c hc with rfl | ⟨d,hd,rfl⟩
    ·exact UJ Qc Qc
    ·exact UJ (key ⟨d,hd⟩).1 (key ⟨d,hd⟩).2
   first | exact h6.1 | exact h6.2
 | @six sp l h=>
  refine .inr ⟨by show [91]++Gj l++[93]≠[];simp,?_,.inr ⟨Gj l,rfl,fun c hc=> ?_⟩⟩
  ·intro c hc
   change c∈[91]++Gj l++[93] at hc
   have hs:∀ c∈Gj l,NZ c:=by
    intro c hc;have hb:=Uh h c hc;have:=Py hb;refine ⟨this.2.2.1,this.2.2.2.1,this.2.2.2.2.1,this.2.2.2.2.2.1,this.2.2.2.2.2.2,?_⟩;rintro rfl
    rcases hb with hb | ⟨d,hd,hb⟩
    ·cases hb
    ·have key:∀ d:Fin 16,(32:UInt8)≠BN d.val:=Qe;exact key ⟨d,hd⟩ hb
   rcases List.mem_append.1 hc with hc | hc
   ·rcases List.mem_append.1 hc with hc | hc
    ·rw [List.mem_singleton.1 hc];unfold NZ;decide
    ·exact hs c hc
   ·rw [List.mem_singleton.1 hc];unfold NZ;decide
  ·have:=Py (Uh h c hc);exact ⟨this.1,this.2.1⟩
 | empty=>exact .inl ⟨rfl,rfl⟩
 | @other n h h2 h3=>
  refine .inr ⟨h,?_,.inl ?_⟩
  all_goals
   intro c hc
   have hb:EV c=false:=by have:=List.any_eq_false.1 h2 c hc;simpa using this
   have h6:=UJ hb (show BM c=false from h3 c hc)
   first | exact h6.1 | exact h6.2
theorem Po (n:Nat):Lib.itoa (n:Int)=Lib.decDigits n:=by
 unfold Lib.itoa;rw [if_neg Qa,Int.toNat_natCast]
theorem Ac2 (n:Nat):Bm 10 (Lib.itoa (n:Int))=some n:=by
 rw [Po,<-GU];unfold Bm;rw [if_neg (OS _ _)];exact Ov Qc Qc n
theorem AaI (n:Nat):∀ c∈Lib.itoa (n:Int),∃ d,d<10/\c=BN d:=by
 rw [Po,<-GU];exact O8 Qc Qc n
theorem AgT (n:Nat):Lib.itoa (n:Int)≠[]:=by
 rw [Po,<-GU];exact OS _ _
theorem AjZ:∀ d:Fin 10,BM (BN d.val)=false/\BN d.val≠63/\BN d.val≠35/\BN d.val≠64/\AB true (BN d.val)=false/\BN d.val≠32:=Qe
theorem Jj (o:Option Nat):∀ c∈D8 o,NZ c:=by
 intro c hc
 cases o with
 | none=>cases hc
 | some n=>
  rcases List.mem_append.1 (show c∈[58]++Lib.itoa (n:Int) from hc) with hc | hc
  ·rw [List.mem_singleton.1 hc];unfold NZ;decide
  ·obtain ⟨d,hd,rfl⟩:=AaI n c hc;exact AjZ ⟨d,hd⟩
def AhD:Option Nat->List UInt8
 | none=>[]
 | some n=>Lib.itoa (n:Int)
theorem SN {sp:Bool} {h:BO} (g:Bo sp h) (o:Option Nat) (he:h= .empty->o=none):FJ (h.text++D8 o)=some (h.text,AhD o):=by
 unfold FJ;have e0:h.text++D8 none=h.text:=List.append_nil _
 rcases Ee g with ⟨h1,h2⟩ | ⟨hne,hb,hp | ⟨X,hX,hx⟩⟩
 ·have ho:=he h1;subst ho;rw [h2];rfl
 ·have hp':∀ c∈h.text,c≠58/\c≠91/\c≠93:=fun c hc=>⟨(hp c hc).1,(hp c hc).2.1,(hp c hc).2.2.1⟩
  cases o with
  | none=>rw [e0,Rj hp'];rfl
  | some n=>
   have e1:h.text++D8 (some n)=h.text++58 :: Lib.itoa (n:Int):=rfl;rw [e1,Oi _ hp'];dsimp only;rw [if_neg hne];rfl
 ·have e:∀ Y,BE false (h.text++Y)=(BE false Y).map (fun p=>(h.text++p.1,p.2)):=by
   intro Y;rw [hX];show BE false (91 :: ((X++[93])++Y))=_;rw [List.append_assoc,BE,if_pos rfl,List.cons_append,List.nil_append,YF Y hx]
   cases BE false Y with
   | none=>rfl
   | some p=>simp
  cases o with
  | none=>
   have e2:=e [];rw [List.append_nil] at e2;rw [e0,e2];rfl
  | some n=>
   have e1:h.text++D8 (some n)=h.text++58 :: Lib.itoa (n:Int):=rfl;have e3:BE false (58 :: Lib.itoa (n:Int))=some ([],Lib.itoa (n:Int)):=rfl;rw [e1,e,e3]
   show (if h.text++[]=[] then none else some (h.text++[],Lib.itoa (n:Int)))=_
   rw [List.append_nil,if_neg hne];rfl
theorem Z1 {scheme:List UInt8} {o:Option Nat} (h:Jx scheme o):IX scheme (AhD o)=some o:=by
 cases o with
 | none=>rfl
 | some n=>
  have:=h n rfl;show IX scheme (Lib.itoa (n:Int))=_;unfold IX;rw [if_neg (AgT n),Ac2];dsimp only;rw [if_neg Qa,if_neg this.2]
theorem ZQ {scheme user pass:List UInt8} {h:BO} {o:Option Nat} (g:Bo (Aj scheme) h) (po:Jx scheme o) (he:h= .empty->o=none):Fa scheme user pass (h.text++D8 o)=some ⟨user,pass,h,o⟩:=by
 unfold Fa;rw [SN g o he];dsimp only;rw [RS g];dsimp only;rw [Z1 po]
theorem Z0:∀ n:Fin 256,F3 5 (UInt8.ofNat n.val)=false->BM (UInt8.ofNat n.val)=false/\UInt8.ofNat n.val≠63/\UInt8.ofNat n.val≠35/\UInt8.ofNat n.val≠64/\AB true (UInt8.ofNat n.val)=false/\UInt8.ofNat n.val≠58/\UInt8.ofNat n.val≠32:=Qe
theorem Vl {c:UInt8} (h:F3 5 c=false):BM c=false/\c≠63/\c≠35/\c≠64/\AB true c=false/\c≠58/\c≠32:=by
 have:=Z0 ⟨c.toNat,c.toNat_lt⟩;simp only [UInt8.ofNat_toNat] at this;exact this h
theorem Ph {user pass:List UInt8} (hu:∀ c∈user,F3 5 c=false) (hp:∀ c∈pass,F3 5 c=false):∀ c∈Ir user pass,BM c=false/\c≠63/\c≠35/\AB true c=false/\c≠32:=by
 have h1:∀ c∈user,BM c=false/\c≠63/\c≠35/\AB true c=false/\c≠32:=fun c hc=>by
  have:=Vl (hu c hc);exact ⟨this.1,this.2.1,this.2.2.1,this.2.2.2.2.1,this.2.2.2.2.2.2⟩
 have h2:∀ c∈pass,BM c=false/\c≠63/\c≠35/\AB true c=false/\c≠32:=fun c hc=>by
  have:=Vl (hp c hc);exact ⟨this.1,this.2.1,this.2.2.1,this.2.2.2.2.1,this.2.2.2.2.2.2⟩
 intro c hc;unfold Ir at hc;split at hc
 ·cases hc
 ·split at hc
  ·rcases List.mem_append.1 hc with hc | hc
   ·exact h1 c hc
   ·rw [List.mem_singleton.1 hc];decide
  ·rcases List.mem_append.1 hc with hc | hc
   ·rcases List.mem_append.1 hc with hc | hc
    ·rcases List.mem_append.1 hc with hc | hc
     ·exact h1 c hc
     ·rw [List.mem_singleton.1 hc];decide
    ·exact h2 c hc
   ·rw [List.mem_singleton.1 hc];decide
theorem Aaa {scheme user pass:List UInt8} {h:BO} {o:Option Nat} (hu:∀ c∈user,F3 5 c=false) (hp:∀ c∈pass,F3 5 c=false) (g:Bo (Aj scheme) h) (po:Jx scheme o) (he:h= .empty->user=[]/\pass=[]/\o=none):
  GG scheme (Ir user pass++h.text++D8 o)=some ⟨user,pass,h,o⟩:=by
 have hH:∀ c∈h.text++D8 o,c≠64:=by
  intro c hc
  rcases List.mem_append.1 hc with hc | hc
  ·rcases Ee g with ⟨-,h2⟩ | ⟨-,hb,-⟩
   ·rw [h2] at hc;cases hc
   ·exact (hb c hc).2.2.2.1
  ·exact (Jj o c hc).2.2.2.1
 have hQ:=ZQ (user:=user) (pass:=pass) g po (fun e=>(he e).2.2)
 unfold GG
 by_cases hw:user=[]/\pass=[]
 ·have e:Ir user pass++h.text++D8 o=h.text++D8 o:=by unfold Ir;rw [if_pos hw];rfl
  rw [e,E7 hH];dsimp only;rw [hw.1,hw.2] at hQ;rw [hw.1,hw.2];exact hQ
 ·have hne:h.text++D8 o≠[]:=by
   intro e
   rcases Ee g with ⟨h1,-⟩ | ⟨h1,-⟩
   ·exact hw ⟨(he h1).1,(he h1).2.1⟩
   ·exact h1 (List.append_eq_nil_iff.1 e).1
  have hu58:∀ x∈user,x≠58:=fun x hx=>(Vl (hu x hx)).2.2.2.2.2.1
  by_cases hpe:pass=[]
  ·have e:Ir user pass++h.text++D8 o=user++64 :: (h.text++D8 o):=by
    unfold Ir;rw [if_neg hw,if_pos hpe];simp
   rw [e,E4 hH];dsimp only;rw [if_neg hne,U0 hu58,Hg hu];subst hpe;exact hQ
  ·have e:Ir user pass++h.text++D8 o=(user++58 :: pass)++64 :: (h.text++D8 o):=by
    unfold Ir;rw [if_neg hw,if_neg hpe];simp
   rw [e,E4 hH];dsimp only;rw [if_neg hne,OW pass hu58,Hg hu,Hg hp];exact hQ
theorem Sb (path:List (List UInt8)):∀ c,(Az path).head? =some c->c=47:=by
 intro c h
 cases path with
 | nil=>cases h
 | cons p r=>exact (Option.some.inj h).symm
theorem Iy (sp:Bool):AB sp 47=true:=by cases sp<;>rfl
theorem NY {sp:Bool} {user pass:List UInt8} {h:BO} {o:Option Nat} {sq:Bool} (hu:∀ c∈user,F3 5 c=false) (hp:∀ c∈pass,F3 5 c=false) (g:Bo sq h):∀ c∈Ir user pass++h.text++D8 o,AB sp c=false:=by
 intro c hc
 rcases List.mem_append.1 hc with hc | hc
 ·rcases List.mem_append.1 hc with hc | hc
  ·exact MY (Ph hu hp c hc).2.2.2.1
  ·rcases Ee g with ⟨-,h2⟩ | ⟨-,hb,-⟩
   ·rw [h2] at hc;cases hc
   ·exact MY (hb c hc).2.2.2.2.1
 ·exact MY (Jj o c hc).2.2.2.2.1
theorem IQ {scheme:List UInt8} {path:List (List UInt8)} (h:AA scheme path) (hne:path≠[]):Cj scheme (Az path)=path:=by
 cases path with
 | nil=>exact absurd rfl hne
 | cons p r=>
  unfold Cj;have e:Az (p :: r)=47 :: (p++Az r):=rfl;rw [e,A4,if_pos (Iy _),if_pos Qa];exact Nl h
theorem UF {u:Ao} {user pass:List UInt8} {h:BO} {o:Option Nat} {path:List (List UInt8)} (hu:∀ c∈user,F3 5 c=false) (hp:∀ c∈pass,F3 5 c=false) (g:Bo (Aj u.scheme) h) (po:Jx u.scheme o) (he:h= .empty->user=[]/\pass=[]/\o=none)
  (gp:AA u.scheme path) (hne:Aj u.scheme=true->path≠[]) (hu0:u.path=[]):
  IP u (Ir user pass++h.text++D8 o++Az path)=some ⟨u.scheme,user,pass,h,o,u.opq,u.flat,path,u.query,u.frag⟩:=by
 unfold IP
 rw [PA (NY hu hp g) (fun c hc=>by rw [Sb path c hc];exact Iy _)]
 dsimp only;rw [Aaa hu hp g po he];show some (VS u ⟨user,pass,h,o⟩ (Az path))=_;unfold VS
 by_cases hpn:path=[]
 ·subst hpn
  have hsp:Aj u.scheme=false:=by
   cases h:Aj u.scheme
   ·rfl
   ·exact absurd rfl (hne h)
  rw [if_neg,hu0];rw [hsp];decide
 ·rw [if_pos,IQ gp hpn]
  cases path with
  | nil=>exact absurd rfl hpn
  | cons p r=>show (Aj u.scheme || true)=true;simp
theorem Ml {p:UInt8->Bool} {l:List UInt8} (h:∀ c,l.head? =some c->p c=false):l.dropWhile p=l:=by
 cases l with
 | nil=>rfl
 | cons c r=>rw [List.dropWhile_cons,if_neg (by rw [h c rfl];decide)]
theorem Afv {l:List UInt8} (h:∀ c∈l,BM c=false) (hh:l.head? ≠some 32) (hl:l.getLast? ≠some 32):DL l=l:=by
 have key:∀ n:Fin 256,BM (UInt8.ofNat n.val)=false->Hs (UInt8.ofNat n.val)=true/\(UInt8.ofNat n.val≠32->MZ ((UInt8.ofNat n.val).toNat:Int)=false):=Qe
 have key2:∀ c,BM c=false->Hs c=true/\(c≠32->MZ (c.toNat:Int)=false):=by
  intro c hc;have:=key ⟨c.toNat,c.toNat_lt⟩;simp only [UInt8.ofNat_toNat] at this;exact this hc
 have ht:L2 l=l:=by
  unfold L2 Bt DU
  rw [Ml (l:=l) (fun c hc=>(key2 c (h c (List.mem_of_head? hc))).2 (fun e=>hh (by rw [hc,e])))]
  rw [Ml (l:=l.reverse),List.reverse_reverse];intro c hc;rw [List.head?_reverse] at hc
  exact (key2 c (h c (List.mem_of_getLast? hc))).2 (fun e=>hl (by rw [hc,e]))
 unfold DL;rw [ht];unfold Fe;rw [List.filter_eq_self];intro c hc;exact (key2 c (h c hc)).1
theorem IL {s:List UInt8} (h:CI s=true):∀ c∈s,ET c=true:=by
 intro c hc
 cases s with
 | nil=>cases hc
 | cons x r=>
  unfold CI at h;rw [Bool.and_eq_true] at h
  rcases List.mem_cons.1 hc with rfl | hc
  ·unfold ET;rw [h.1];rfl
  ·exact List.all_eq_true.1 h.2 c hc
theorem WA:∀ n:Fin 256,ET (UInt8.ofNat n.val)=true->BM (UInt8.ofNat n.val)=false/\UInt8.ofNat n.val≠63/\UInt8.ofNat n.val≠35/\UInt8.ofNat n.val≠58/\UInt8.ofNat n.val≠32:=Qe
theorem JL {c:UInt8} (h:ET c=true):BM c=false/\c≠63/\c≠35/\c≠58/\c≠32:=by
 have:=WA ⟨c.toNat,c.toNat_lt⟩;simp only [UInt8.ofNat_toNat] at this;exact this h
theorem Zq:∀ n:Fin 256,F3 4 (UInt8.ofNat n.val)=false->BM (UInt8.ofNat n.val)=false/\UInt8.ofNat n.val≠63/\UInt8.ofNat n.val≠35/\UInt8.ofNat n.val≠32:=Qe
theorem WQ {scheme:List UInt8} {path:List (List UInt8)} (h:AA scheme path):∀ c∈Az path,BM c=false/\c≠63/\c≠35/\c≠32:=by
 intro c hc;obtain ⟨p,hp,hc⟩:=List.mem_flatMap.1 hc
 rcases List.mem_cons.1 hc with rfl | hc
 ·decide
 ·have:=Zq ⟨c.toNat,c.toNat_lt⟩;simp only [UInt8.ofNat_toNat] at this;exact this ((h.each p hp).set c hc)
def DS (u:Ao):List UInt8:=F6 u++Ha u
theorem Ox {u:Ao} (g:AI u):u.host= .none\/∃ sp,Bo sp u.host:=by
 cases g.kind with
 | file s o us ps po pa h=>
  rcases h with h | h
  ·exact .inr ⟨false,by rw [h];exact .empty⟩
  ·exact .inr ⟨true,h.1⟩
 | special s sp o pa h po=>exact .inr ⟨true,h⟩
 | net sp o h po e=>exact .inr ⟨false,h⟩
 | plain sp o h=>exact .inl h
 | flat sp o h=>exact .inl h
theorem Ys {u:Ao} (g:AI u):∀ c∈F6 u,BM c=false/\c≠63/\c≠35/\c≠32:=by
 intro c hc;unfold F6 at hc;split at hc
 ·split at hc
  ·simp only [List.mem_cons,List.not_mem_nil,or_false] at hc
   rcases hc with rfl | rfl<;>decide
  ·cases hc
 ·rename_i hn
  rcases Ox g with h | ⟨sp,gh⟩
  ·exact absurd h hn
  ·rcases List.mem_append.1 hc with hc | hc
   ·rcases List.mem_append.1 hc with hc | hc
    ·rcases List.mem_append.1 hc with hc | hc
     ·simp only [List.mem_cons,List.not_mem_nil,or_false,or_self] at hc;rw [hc];decide
     ·have:=Ph g.user g.pass c hc;exact ⟨this.1,this.2.1,this.2.2.1,this.2.2.2.2⟩
    ·rcases Ee gh with ⟨-,h2⟩ | ⟨-,hb,-⟩
     ·rw [h2] at hc;cases hc
     ·have:=hb c hc;exact ⟨this.1,this.2.1,this.2.2.1,this.2.2.2.2.2⟩
   ·have:=Jj u.port c hc;exact ⟨this.1,this.2.1,this.2.2.1,this.2.2.2.2.2⟩
theorem Ago {u:Ao} (g:AI u) (h:u.opq=true):(∀ c∈u.flat,F3 0 c=false/\c≠35/\c≠63)/\u.flat.getLast? ≠some 32:=by
 cases g.kind with
 | file s o=>rw [o] at h;cases h
 | special s sp o=>rw [o] at h;cases h
 | net sp o=>rw [o] at h;cases h
 | plain sp o=>rw [o] at h;cases h
 | flat sp o hh us ps po pa fl hd la=>exact ⟨fl,la⟩
theorem IM {u:Ao} (g:AI u):(∀ c∈DS u,BM c=false/\c≠63/\c≠35)/\(DS u).getLast? ≠some 32:=by
 have ha:=Ys g
 have ht:(∀ c∈Ha u,BM c=false/\c≠63/\c≠35)/\(Ha u).getLast? ≠some 32:=by
  unfold Ha;split
  ·rename_i ho;obtain ⟨h1,h2⟩:=Ago g ho
   exact ⟨fun c hc=>⟨(h1 c hc).1,(h1 c hc).2.2,(h1 c hc).2.1⟩,h2⟩
  ·have:=WQ g.path
   exact ⟨fun c hc=>⟨(this c hc).1,(this c hc).2.1,(this c hc).2.2.1⟩,fun e=>(this 32 (List.mem_of_getLast? e)).2.2.2 rfl⟩
 refine ⟨fun c hc=> ?_,fun e=> ?_⟩
 ·rcases List.mem_append.1 hc with hc | hc
  ·exact ⟨(ha c hc).1,(ha c hc).2.1,(ha c hc).2.2.1⟩
  ·exact ht.1 c hc
 ·unfold DS at e
  by_cases hn:Ha u=[]
  ·rw [hn,List.append_nil] at e;exact (ha 32 (List.mem_of_getLast? e)).2.2.2 rfl
  ·rw [Jh hn] at e;exact ht.2 e
theorem Xr:∀ n:Fin 256,(F3 2 (UInt8.ofNat n.val)=false\/F3 3 (UInt8.ofNat n.val)=false)->BM (UInt8.ofNat n.val)=false/\UInt8.ofNat n.val≠35/\UInt8.ofNat n.val≠32:=Qe
theorem JC {u:Ao} (g:AI u):∀ c∈F1 63 u.query,BM c=false/\c≠35/\c≠32:=by
 intro c hc
 cases hq:u.query with
 | none=>rw [hq] at hc;cases hc
 | some q=>
  rw [hq] at hc
  rcases List.mem_cons.1 (show c∈63 :: q from hc) with rfl | hc
  ·decide
  ·have h1:=g.query q hq c hc;have h2:=Xr ⟨c.toNat,c.toNat_lt⟩;simp only [UInt8.ofNat_toNat] at h2;unfold G3 at h1;split at h1
   ·exact h2 (.inr h1)
   ·exact h2 (.inl h1)
theorem AaN:∀ n:Fin 256,F3 1 (UInt8.ofNat n.val)=false->BM (UInt8.ofNat n.val)=false/\UInt8.ofNat n.val≠32:=Qe
theorem RH {u:Ao} (g:AI u):∀ c∈F1 35 u.frag,BM c=false/\c≠32:=by
 intro c hc
 cases hq:u.frag with
 | none=>rw [hq] at hc;cases hc
 | some q=>
  rw [hq] at hc
  rcases List.mem_cons.1 (show c∈35 :: q from hc) with rfl | hc
  ·decide
  ·have h1:=g.frag q hq c hc;have h2:=AaN ⟨c.toNat,c.toNat_lt⟩;simp only [UInt8.ofNat_toNat] at h2;exact h2 h1
theorem HX (u:Ao):AW u true=u.scheme++[58]++DS u++F1 63 u.query++F1 35 u.frag:=by
 unfold AW DS;rw [if_pos rfl,List.append_assoc (u.scheme++[58])]
theorem Hf {u:Ao} (g:AI u):∀ c∈AW u true,BM c=false:=by
 intro c hc;rw [HX] at hc
 rcases List.mem_append.1 hc with hc | hc
 ·rcases List.mem_append.1 hc with hc | hc
  ·rcases List.mem_append.1 hc with hc | hc
   ·rcases List.mem_append.1 hc with hc | hc
    ·exact (JL (IL g.scheme.1 c hc)).1
    ·rw [List.mem_singleton.1 hc];decide
   ·exact ((IM g).1 c hc).1
  ·exact (JC g c hc).1
 ·exact (RH g c hc).1
theorem Pj {u:Ao} (g:AI u):(AW u true).head? ≠some 32/\(AW u true).getLast? ≠some 32:=by
 refine ⟨?_,?_⟩
 ·have hs:=g.scheme.1;rw [HX]
  cases h:u.scheme with
  | nil=>rw [h] at hs;cases hs
  | cons c r=>
   intro e;have e1:c=32:=Option.some.inj e
   have:=JL (IL hs c (by rw [h];exact List.mem_cons_self ..))
   exact this.2.2.2.2 e1
 ·rw [HX]
  by_cases hf:F1 35 u.frag=[]
  ·rw [hf,List.append_nil]
   by_cases hq:F1 63 u.query=[]
   ·rw [hq,List.append_nil]
    by_cases hr:DS u=[]
    ·rw [hr,List.append_nil];simp
    ·rw [Jh hr];exact (IM g).2
   ·rw [Jh hq]
    exact fun e=>(JC g 32 (List.mem_of_getLast? e)).2.2 rfl
  ·rw [Jh hf]
   exact fun e=>(RH g 32 (List.mem_of_getLast? e)).2 rfl
theorem Ol {u:Ao} (g:AI u):DL (AW u true)=AW u true:=Afv (Hf g) (Pj g).1 (Pj g).2
def isQ (o:Option (List UInt8)):Bool:=o.isSome
def Yr (o:Option (List UInt8)):List UInt8:=o.getD []
theorem Aa9 {c:UInt8} {a:List UInt8} (h:∀ x∈a,x≠c) (o:Option (List UInt8)):Ak c (a++F1 c o)=(a,Yr o,isQ o):=by
 cases o with
 | none=>show Ak c (a++[])=_;rw [List.append_nil,U0 h];rfl
 | some q=>exact OW q h
theorem NF {u:Ao} (g:AI u):Cp (AW u true)=⟨true,u.scheme,DS u,isQ u.query,Yr u.query,isQ u.frag,Yr u.frag⟩:=by
 have hs:=g.scheme;have hsb:=IL hs.1
 have h35:∀ x∈u.scheme++[58]++DS u++F1 63 u.query,x≠35:=by
  intro c hc
  rcases List.mem_append.1 hc with hc | hc
  ·rcases List.mem_append.1 hc with hc | hc
   ·rcases List.mem_append.1 hc with hc | hc
    ·exact (JL (hsb c hc)).2.2.1
    ·rw [List.mem_singleton.1 hc];decide
   ·exact ((IM g).1 c hc).2.2
  ·exact (JC g c hc).2.1
 have h63:∀ x∈u.scheme++[58]++DS u,x≠63:=by
  intro c hc
  rcases List.mem_append.1 hc with hc | hc
  ·rcases List.mem_append.1 hc with hc | hc
   ·exact (JL (hsb c hc)).2.1
   ·rw [List.mem_singleton.1 hc];decide
  ·exact ((IM g).1 c hc).2.1
 unfold Cp;rw [HX,Aa9 h35];dsimp only;rw [Aa9 h63];dsimp only;have e:u.scheme++[58]++DS u=u.scheme++58 :: DS u:=Qf
 rw [e,OW (DS u) (fun x hx=>(JL (hsb x hx)).2.2.2.1)]
 dsimp only
 rw [if_pos (by rw [hs.1];rfl),hs.2]
theorem UB {set:Nat} {o:Option (List UInt8)} (h:∀ q,o=some q->∀ c∈q,F3 set c=false):Hw (isQ o) (AZ set (Yr o))=o:=by
 cases o with
 | none=>rfl
 | some q=>show some (AZ set q)=some q;rw [Hg (h q rfl)]
theorem ZT {u:Ao} (g:AI u) (r:List UInt8):Ax u.scheme ⟨true,u.scheme,r,isQ u.query,Yr u.query,isQ u.frag,Yr u.frag⟩=⟨u.scheme,[],[],.none,none,false,[],[],u.query,u.frag⟩:=by
 unfold Ax;dsimp only;rw [UB g.query,UB g.frag]
theorem Wu (sp:Bool) (r:List UInt8):2<=A4 sp (47 :: 47 :: r):=by
 rw [A4,if_pos (Iy sp),A4,if_pos (Iy sp)];omega
theorem VJ {sp:Bool} {r:List UInt8} (h:∀ c,r.head? =some c->AB sp c=false):A4 sp r=0:=by
 cases r with
 | nil=>rfl
 | cons c r=>rw [A4,if_neg (by rw [h c rfl];decide)]
theorem WR {sp:Bool} {r:List UInt8} (h:∀ c,r.head? =some c->AB sp c=false):FN sp (47 :: 47 :: r)=r:=by
 unfold FN;rw [A4,if_pos (Iy sp),A4,if_pos (Iy sp),VJ h];rfl
theorem Lb {u:Ao} (h:u.host≠ .none):DS u=47 :: 47 :: (Ir u.user u.pass++u.host.text++D8 u.port++Ha u):=by
 unfold DS F6;rw [if_neg h];simp
theorem HG {u:Ao} (h:u.opq=false):Ha u=Az u.path:=by unfold Ha;rw [if_neg Aj2]
theorem UQ {sp:Bool} {h:BO} (g:Bo sp h):h≠ .none:=by cases g<;>(intro e;cases e)
theorem XD {a b:List UInt8} {c:UInt8} (h:(a++b).head? =some c) (ha:a≠[]):c∈a:=by
 cases a with
 | nil=>exact absurd rfl ha
 | cons x r=>rw [<-Option.some.inj h];exact List.mem_cons_self ..
theorem Pu {u:Ao} (g:AI u) (base:Ao):Ho base (AW u true)=some u:=by
 unfold Ho;rw [Ol g,NF g];have hst:=ZT g (DS u);obtain ⟨p,hp⟩:∃ p:Cq,p=⟨true,u.scheme,DS u,isQ u.query,Yr u.query,isQ u.frag,Yr u.frag⟩:=⟨_,rfl⟩;rw [<-hp] at hst⊢
 have e1:p.hs=true:=by rw [hp]
 have e2:p.sch=u.scheme:=by rw [hp]
 have e3:p.rest=DS u:=by rw [hp]
 have e4:p.hq=isQ u.query:=by rw [hp]
 have e5:p.hf=isQ u.frag:=by rw [hp]
 unfold I7;rw [e1,e2,e3,Bool.true_and,Bool.not_true,Bool.false_and,Bool.or_false,Bool.true_and]
 cases g.kind with
 | file s o us ps po pa h=>
  have hnn:u.host≠ .none:=by
   rcases h with h | h
   ·rw [h];decide
   ·exact UQ h.1
  have hr:DS u=47 :: 47 :: (u.host.text++Az u.path):=by
   rw [Lb hnn,us,ps,po,HG o];show 47 :: 47 :: ([]++u.host.text++[]++Az u.path)=_;simp
  have hgp:AA Aw u.path:=s ▸ g.path
  have hfin:∀ h,h=u.host->(⟨u.scheme,[],[],h,none,false,[],u.path,u.query,u.frag⟩:Ao)=u:=by
   intro h hh;subst hh;have h1:=g.flat o;cases u;simp only at us ps po o h1⊢;rw [us,ps,po,o,h1]
  rw [if_pos (by rw [s];rfl)]
  rw [s] at hst;unfold LW;dsimp only;rw [e3,hr,if_pos (Wu _ _),hst];show GM ⟨Aw,[],[],.empty,none,false,[],[],u.query,u.frag⟩ (u.host.text++Az u.path)=some u;unfold GM
  have hcut:∀ sq,Bo sq u.host->BZ true (u.host.text++Az u.path)=(u.host.text,Az u.path):=by
   intro sq gh
   refine PA (fun x hx=> ?_) (fun c hc=>by rw [Sb _ c hc];rfl)
   rcases Ee gh with ⟨-,h2⟩ | ⟨-,hb,-⟩
   ·rw [h2] at hx;cases hx
   ·exact (hb x hx).2.2.2.2.1
  rcases h with h | ⟨gh,hl⟩
  ·have hc:=hcut false (by rw [h];exact .empty)
   have ht:u.host.text=[]:=by rw [h];rfl
   rw [hc,ht];dsimp only;rw [if_neg Qc,if_pos rfl,IQ hgp pa];show some (⟨Aw,[],[],.empty,none,false,[],u.path,u.query,u.frag⟩:Ao)=some u;rw [<-s];exact congrArg some (hfin .empty h.symm)
  ·have hc:=hcut true gh;rw [hc];dsimp only
   have hdr:Ce u.host.text=false:=by
    cases hd:Ce u.host.text
    ·rfl
    ·obtain ⟨a,b,he,ha,hb⟩:=HM hd
     rcases Ee gh with ⟨-,h2⟩ | ⟨-,-,hp | ⟨X,hX,-⟩⟩
     ·rw [h2] at he;cases he
     ·have:=hp b (by rw [he];simp)
      rcases hb with hb | hb
      ·exact absurd hb this.1
      ·exact absurd hb this.2.2.2
     ·rw [hX] at he;rw [List.cons.injEq] at he;rw [<-he.1] at ha;exact absurd ha Qc
   have hne:u.host.text≠[]:=by
    rcases Ee gh with ⟨h1,-⟩ | ⟨h1,-⟩
    ·rw [h1] at gh;cases gh
    ·exact h1
   rw [if_neg (by rw [hdr];decide),if_neg hne,RS gh]
   dsimp only;rw [if_neg hl,IQ hgp pa];show some (⟨Aw,[],[],u.host,none,false,[],u.path,u.query,u.frag⟩:Ao)=some u;rw [<-s];exact congrArg some (hfin _ rfl)
 | special s sp o pa h po=>
  have hr:=Lb (u:=u) (UQ h);rw [HG o] at hr
  have hs:(u.scheme==Aw)=false:=by simpa using s
  rw [if_neg (by rw [hs];decide),hr,if_pos (by
   rw [sp,Bool.true_and,Bool.or_eq_true];right
   unfold Lib.hasPrefix;simp [List.isPrefixOf])]
  have gh:Bo (Aj u.scheme) u.host:=by rw [sp];exact h
  have hhd:∀ c,(Ir u.user u.pass++u.host.text++D8 u.port++Az u.path).head? =some c->AB (Aj u.scheme) c=false:=by
   intro c hc;refine NY (o:=u.port) g.user g.pass gh c (XD hc ?_);intro e;have e2:=(List.append_eq_nil_iff.1 (List.append_eq_nil_iff.1 e).1).2
   rcases Ee gh with ⟨h1,-⟩ | ⟨h1,-⟩
   ·rw [h1] at h;cases h
   ·exact h1 e2
  rw [WR hhd,hst]
  rw [UF (u:=⟨u.scheme,[],[],.none,none,false,[],[],u.query,u.frag⟩) g.user g.pass gh po (fun e=>by rw [e] at h;cases h) g.path (fun _=>pa) rfl]
  have h1:=g.flat o;cases u;simp only at o h1⊢;rw [o,h1]
 | net sp o h po e=>
  have hr:=Lb (u:=u) (UQ h);rw [HG o] at hr
  have hs:(u.scheme==Aw)=false:=by
   cases hh:(u.scheme==Aw)
   ·rfl
   ·rw [beq_iff_eq] at hh;rw [hh,C0] at sp;cases sp
  have gh:Bo (Aj u.scheme) u.host:=by rw [sp];exact h
  rw [if_neg (by rw [hs];decide),if_neg Akl,if_pos (by rw [sp];rfl)]
  unfold GI;dsimp only;rw [e3,e2,hr,if_pos QE,hst];show IP _ (Ir u.user u.pass++u.host.text++D8 u.port++Az u.path)=_
  rw [UF (u:=⟨u.scheme,[],[],.none,none,false,[],[],u.query,u.frag⟩) g.user g.pass gh po e g.path (fun hh=>by rw [show Aj u.scheme=true from hh] at sp;cases sp) rfl]
  have h1:=g.flat o;cases u;simp only at o h1⊢;rw [o,h1]
 | plain sp o h us ps po pa=>
  have hs:(u.scheme==Aw)=false:=by
   cases hh:(u.scheme==Aw)
   ·rfl
   ·rw [beq_iff_eq] at hh;rw [hh,C0] at sp;cases sp
  have hfin:(⟨u.scheme,[],[],.none,none,false,[],u.path,u.query,u.frag⟩:Ao)=u:=by
   have h1:=g.flat o;cases u;simp only at us ps po o h h1⊢;rw [us,ps,po,o,h,h1]
  rw [if_neg (by rw [hs];decide),if_neg Akl,if_pos (by rw [sp];rfl)]
  unfold GI;dsimp only;rw [e3,e2,hst]
  obtain ⟨p0,r0,hpr⟩:∃ p r,u.path=p :: r:=by
   cases hh:u.path with
   | nil=>exact absurd hh pa
   | cons p r=>exact ⟨p,r,rfl⟩
  have hgp:AA u.scheme (p0 :: r0):=hpr ▸ g.path;have hsl:=hgp.each p0 (List.mem_cons_self ..);rw [sp] at hsl
  by_cases hd:(decide (2<=u.path.length) && Abh u.path)=true
  ·have hr:DS u=47 :: 46 :: Az u.path:=by
    unfold DS F6
    rw [if_pos h,if_pos (by rw [o];exact hd),HG o];rfl
   rw [hr,if_neg QE,if_pos QE]
   have e9:Dx u.scheme [] ((47 :: 46 :: Az u.path:List UInt8).drop 1)=u.path:=by
    show Dx u.scheme [] (46 :: Az u.path)=u.path;rw [hpr];have hsame:Dx u.scheme [] (p0++Az r0)=p0 :: r0:=Nl hgp;unfold Dx at hsame⊢;rw [sp] at hsame⊢;have e10:(46 :: Az (p0 :: r0):List UInt8)=[46]++47 :: (p0++Az r0):=rfl
    rw [e10,M2 (Iy false) _ (by intro c hc;rw [List.mem_singleton.1 hc];rfl)]
    have hne:=In (AB false) (p0++Az r0);show Dz u.scheme (CV u.scheme [] [46] (Cw (AB false) (p0++Az r0)).isEmpty) (Cw (AB false) (p0++Az r0))=_
    have:CV u.scheme [] [46] (Cw (AB false) (p0++Az r0)).isEmpty=[]:=by
     cases hsp:Cw (AB false) (p0++Az r0) with
     | nil=>exact absurd hsp hne
     | cons a b=>rfl
    rw [this];exact hsame
   show some (BF _ (Dx u.scheme [] ((47 :: 46 :: Az u.path:List UInt8).drop 1)))=some u;rw [e9];exact congrArg some hfin
  ·have hr:DS u=Az u.path:=by
    unfold DS F6
    rw [if_pos h,if_neg (by rw [o];exact hd),HG o];rfl
   rw [hr]
   have h2:Lib.hasPrefix (Az u.path) [47,47]=false:=by
    cases hh:Lib.hasPrefix (Az u.path) [47,47]
    ·rfl
    ·exfalso;rw [hpr] at hh hd;have e11:Az (p0 :: r0)=47 :: (p0++Az r0):=rfl;rw [e11] at hh;unfold Lib.hasPrefix at hh;simp [List.isPrefixOf] at hh
     cases p0 with
     | nil=>
      cases r0 with
      | nil=>simp [Az] at hh
      | cons q r1=>exact hd rfl
     | cons c p1=>
      have:=hsl.slash c (List.mem_cons_self ..);simp at hh;rw [<-hh] at this;cases this
   rw [if_neg Akk,if_pos (by rw [hpr,Dk];rfl)]
   have e9:Dx u.scheme [] ((Az u.path).drop 1)=u.path:=by
    rw [hpr];exact Nl hgp
   show some (BF _ (Dx u.scheme [] ((Az u.path).drop 1)))=some u;rw [e9];exact congrArg some hfin
 | flat sp o h us ps po pa fl hd la=>
  have hs:(u.scheme==Aw)=false:=by
   cases hh:(u.scheme==Aw)
   ·rfl
   ·rw [beq_iff_eq] at hh;rw [hh,C0] at sp;cases sp
  rw [if_neg (by rw [hs];decide),if_neg Akl,if_pos (by rw [sp];rfl)]
  have hr:DS u=u.flat:=by
   unfold DS F6 Ha
   rw [if_pos h,if_neg (by rw [o];simp),if_pos o];rfl
  unfold GI;dsimp only
  have h1:Lib.hasPrefix u.flat [47]=false:=by
   rw [Dk,beq_eq_false_iff_ne];exact hd
  have h2:Lib.hasPrefix u.flat [47,47]=false:=by
   cases hh:Lib.hasPrefix u.flat [47,47]
   ·rfl
   ·exfalso
    cases hf:u.flat with
    | nil=>rw [hf] at hh;cases hh
    | cons c r=>
     rw [hf] at hh hd;unfold Lib.hasPrefix at hh;simp [List.isPrefixOf] at hh;rw [<-hh.1] at hd;exact hd rfl
  have h3:Eh (p.hq || p.hf) u.flat=u.flat:=by
   unfold Eh;rw [if_neg];rw [Bool.and_eq_true,not_and];intro _ hh;apply la;unfold Lib.hasSuffix at hh;obtain ⟨t,ht⟩:=List.isSuffixOf_iff_suffix.1 hh;rw [<-ht];simp
  rw [e3,e2,hr,if_neg Akk,if_neg (by rw [h1];decide),Hg (fun c hc=>(fl c hc).1),h3,hst]
  cases u;simp only at us ps po o h pa⊢;rw [us,ps,po,o,h,pa]
theorem Wi {u:Ao} (g:AI u):DJ (AW u true)=some u:=by
 have:=Pu g FU;unfold Ho at this;unfold DJ;rw [Ol g,NF g] at this⊢;rw [if_pos rfl];exact this
def C6 (l:List UInt8):List UInt8:=l.flatMap fun c=>if c=0 then FM else [c]
theorem Um (c:UInt8) (r:List UInt8):C6 (c :: r)=(if c=0 then FM else [c])++C6 r:=by unfold C6;rw [List.flatMap_cons]
theorem Hi (a b:List UInt8):C6 (a++b)=C6 a++C6 b:=by unfold C6;rw [List.flatMap_append]
theorem LQ:∀ {l:List UInt8},(∀ c∈l,c≠0)->C6 l=l
 | [],_=>rfl
 | c :: r,h=>by
  rw [Um,if_neg (h c (List.mem_cons_self ..)),LQ (fun x hx=>h x (List.mem_cons_of_mem _ hx))];rfl
theorem Mg:∀ l:List UInt8,(C6 l).length=l.length+2 * l.count 0
 | []=>rfl
 | c :: r=>by
  have ih:=Mg r;rw [Um,List.length_append,ih,List.count_cons,List.length_cons]
  by_cases h:c=0
  ·subst h;rw [if_pos rfl];have:FM.length=3:=rfl;simp only [beq_self_eq_true,if_true];omega
  ·rw [if_neg h,if_neg Qy];simp only [List.length_cons,List.length_nil];omega
theorem Acf {l:List UInt8} (h:0<l.count 0):∃ i:Nat,Lib.indexByte l 0=(i:Int)/\i<l.length/\(∀ c∈l.take i,c≠0)/\l=l.take i++0 :: l.drop (i+1)/\(l.drop (i+1)).count 0+1=l.count 0:=by
 rcases JD 0 l with ⟨_,hc⟩ | ⟨i,h1,h2,h3⟩
 ·exfalso;have hleft:=Gy 0 l;rw [hc] at hleft
  have:l.count 0=0:=List.count_eq_zero.2 fun hm=>(hleft 0 hm).1 rfl
  omega
 ·have hleft:=Gy 0 l
  have hb:=Na (c:=0) (l:=l) (by rw [h3])
  rw [h3] at hleft hb;dsimp only at hleft hb
  refine ⟨i,h1,h2,fun c hc=>(hleft c hc).1,hb,?_⟩
  have hz:(l.take i).count 0=0:=List.count_eq_zero.2 fun hm=>(hleft 0 hm).1 rfl
  conv=>rhs;rw [hb]
  rw [List.count_append,List.count_cons,hz];simp
theorem HU {l:List UInt8} (h:l.count 0=0):C6 l=l:=LQ fun c hc e=>by
 subst e;exact List.count_eq_zero.1 h hc
theorem Aaz {l:List UInt8} {s i:Nat} (hs:s<=l.length) (h1:∀ c∈(l.drop s).take i,c≠0) (h2:l.drop s=(l.drop s).take i++0 :: (l.drop s).drop (i+1)) (hi:i<(l.drop s).length):
  C6 (l.take (s+i+1))=C6 (l.take s)++((l.drop s).take i++FM):=by
 have e:l.take (s+i+1)=l.take s++((l.drop s).take i++[0]):=by
  have e1:l.take (s+i+1)=l.take s++(l.drop s).take (i+1):=by
   rw [show s+i+1=s+(i+1) by omega,List.take_add]
  rw [e1];congr 1;rw [List.take_succ_eq_append_getElem hi];congr 2
  have h3:(l.drop s)[i]? =some 0:=by
   rw [h2,List.getElem?_append_right Qs,List.length_take,Nat.min_eq_left Qa,Nat.sub_self];rfl
  rw [List.getElem?_eq_getElem hi] at h3;exact Option.some.inj h3
 rw [e,Hi,Hi,LQ h1];rfl
def isB (c:UInt8):Bool:=Dg (c.toNat:Int)
def Jr (c:UInt8):Bool:=decide (48<=c.toNat) && decide (c.toNat<=57)
theorem Xw:∀ n:Fin 256,(decide (Ag (n.val:Int) 10<0))= !(decide (48<=n.val) && decide (n.val<=57)):=Qe
theorem IF (c:UInt8):Ag (c.toNat:Int) 10<0↔Jr c=false:=by
 have:=Xw ⟨c.toNat,c.toNat_lt⟩;unfold Jr;constructor
 ·intro h;rw [decide_eq_true (show Ag (c.toNat:Int) 10<0 from h)] at this;have this:true= !(decide (48<=c.toNat) && decide (c.toNat<=57)):=this;cases hq:(decide (48<=c.toNat) && decide (c.toNat<=57))
  ·rfl
  ·rw [hq] at this;cases this
 ·intro h;apply of_decide_eq_true (p:=Ag (c.toNat:Int) 10<0);rw [this];show (!(decide (48<=c.toNat) && decide (c.toNat<=57)))=true;rw [h];rfl
def Bk (l:List UInt8):List UInt8:=l.dropWhile isB
def Ey (d:List UInt8):List UInt8:=if d.dropWhile (· ==48)=[] then [48] else d.dropWhile (· ==48)
def KB (c:UInt8):Bool:=c==46 || Jr c
def AfT (c:UInt8):Bool:=isB c || c==59 || c==44
def KG (l:List UInt8):List UInt8:=
 match Bk l with
 | []=>[]
 | c :: t=>if c=59\/c=44 then Bk t else c :: t
def BR (l:List UInt8):List UInt8:=
 if l.length<3\/AJ (l.take 3)≠[117,114,108] then l else
 match Bk (l.drop 3) with
 | []=>l
 | c :: t=>if c=61 then Bk t else l
def Ej (l:List UInt8):List UInt8:=
 match l with
 | []=>[]
 | c :: t=>if c=34\/c=39 then (Ak c t).1 else c :: t
def Iw (d r:List UInt8):Option (List UInt8 × Bool × List UInt8):=
 match r with
 | []=>some (Ey d,false,[])
 | c :: t=>if AfT c=false then none else
  if KG (c :: t)=[] then some (Ey d,false,[]) else some (Ey d,true,Ej (BR (KG (c :: t))))
def O4 (l:List UInt8):Option (List UInt8 × Bool × List UInt8):=
 if l.takeWhile Jr=[]/\l.head? ≠some 46 then none
 else Iw (l.takeWhile Jr) ((l.dropWhile Jr).dropWhile KB)
def Bi (s:List UInt8):Option (List UInt8 × Bool × List UInt8):=O4 (Bk s)
def Gm (r:List UInt8 × Bool × List UInt8):List UInt8:=if r.2.1 then r.1++[59,32,117,114,108,61]++r.2.2 else r.1
end Go.Proofs.YtonomfeipkdmhaaGreatDoor
