/- Lemmas. -/
import Derived.Test.YtonomfeipkdmhaaGreatDoorZm03
import Derived.Test.YtonomfeipkdmhaaGreatDoorZm04
import Derived.Test.YtonomfeipkdmhaaGreatDoorZm05
import Derived.Test.YtonomfeipkdmhaaGreatDoorZm06
import Derived.Laws.ResultCell
import Derived.WalkSmall
set_option linter.all false
set_option maxRecDepth 100000
set_option maxHeartbeats 16000000
namespace Go.Proofs.YtonomfeipkdmhaaGreatDoor
open Go renaming wpList->Aq,Program->Dj,maxLen->BK,Operand->CV,World->A7,Calls->AD,Value->AJ,TypeId->Ab,Ending->Ag
open Go.RowKit renaming Below->AF
open Go.RowKit Go.Proofs.Tryz
open Go.Proofs.Tryz renaming prog->A8
inductive Cb where
 |none
 |empty
 |name (n:A5)
 |four (n:Nat)
 |six (l:List Nat)
 |opaqueN (n:A5)
deriving DecidableEq
def Cb.text:Cb->A5
 | .none=>[]| .empty=>[]| .name n=>n| .four n=>FF n| .six l=>[91]++Dv l++[93]| .opaqueN n=>n
def NX:A5:=[0,9,10,13,32,35,47,58,60,62,63,64,91,92,93,94,124]
def Cx(c:UInt8):Bool:=NX.contains c
def FK(c:UInt8):Bool:=Cx c||decide (c<32)||c==37||c==127
def Ja(s:A5):Option Cb:=if Lib.hasSuffix s [93]=true then(Ca s.dropLast).map Cb.six else Option.none
def J9(s:A5):Option Cb:=match FL (Bt s)with
 |Option.none=>Option.none|some n=>if(n.isEmpty||n.any FK)=true then Option.none else if HV n=true then(CT n).map Cb.four else some (.name n)
def MM(s:A5):Option Cb:=if s.isEmpty=true then some .empty else if s.any Cx=true then Option.none else some (.opaqueN (Ai 0 s))
def ET(s:A5)(special:Bool):Option Cb:=if Lib.hasPrefix s [91]=true then Ja (s.drop 1)else if special=true then J9 s else MM s
inductive F6:Bool->Cb->Prop where
 |name {n:A5} (h:FL n=some n) (h2:n≠[]) (h3:n.any FK=false) (h4:HV n=false):F6 true (.name n)
 |four {n:Nat} (h:n<4294967296):F6 true (.four n)
 |six {sp:Bool} {l:List Nat} (h:Gg l):F6 sp (.six l)
 |empty:F6 false .empty
 |other {n:A5} (h:n≠[]) (h2:n.any Cx=false) (h3:∀c∈n,Bv 0 c=false):F6 false (.opaqueN n)
def Axr:∀n:UInt8,Cx n=false->(Dd 0 n).all (λc=> !Cx c)=true:=DZ AX
def Rx(c:UInt8)(l:A5):Lib.hasPrefix l [c]=(l.head?==some c):=by
 exact Al5
def Adx(l:A5)(c:UInt8):Lib.hasSuffix (l++[c]) [c]=true:=by
 unfold Lib.hasSuffix;simp[List.isPrefixOf]
variable{p:UInt8->Bool}
def Xt{n:A5}(h:n.any p=false){c:UInt8}(a:p c=true):Lib.hasPrefix n [c]=false:=by
 rw[Rx];cases n with
 |nil=>rfl
 |cons x r=>
  rw[OV,J1]at h;rw[B6];intro e;rw[Cm e,a]at h;cases h.1
variable{s:A5}
def AlZ{a:Bool}{h:Cb}(e:ET s a=some h):F6 a h:=by
 unfold ET at e;split at e
 ·unfold Ja at e;split at e
  ·cases hs:Ca (s.drop 1).dropLast with
   |none=>grind
   |some l=>
    simp_all;cases e;exact .six (AaJ hs)
  ·cases e
 split at e
 ·rename_i hsp;rw[hsp];unfold J9 at e;cases hd:FL (Bt s)with
  |none=>grind
  |some n=>
   rw[hd]at e;dsimp only at e;split at e
   ·cases e
   rename_i hn;rw[Gd,not_or]at hn;split at e
   ·rename_i hends;cases hp:CT n with
    |none=>grind
    |some k=>
     simp_all;cases e;exact .four (AsG hp)
   rename_i hends;cases e;exact .name (Afn hd).1 (λh=>hn.1 AS) AS AS
 rename_i hsp;have:a=false:=by simpa using hsp
 subst this;unfold MM at e;split at e
 ·cases e;exact .empty
 rename_i hne;split at e
 ·cases e
 rename_i hb;cases e;refine .other ?_ ?_ (O2 AE)
 ·intro b;cases s with
  |nil=>grind
  |cons c r=>
   have f:=(PI.1 b).1;unfold Dd at f;grind
 rw[Mp];intro c hc;have⟨d,hd,hc⟩:=LK.1 hc;have g:Cx d=false:=by
  have:=Mp.1 (by simpa using hb) d hd;simpa using this
 have:=Axr d;simp_all
def AwG(n:Nat):HV (FF n)=true:=by
 unfold HV;rw[Afj (Al4 n) (WI n 3)];unfold QH;rw[List.getLast?_concat,Option.getD_some,Rg];simp
def Ap9{n:A5}(h:∀c∈n,Gu c=true)(hx:∀c∈n,c≠120):FL n=some n:=by
 unfold FL;rw[SW (Un h),Zd h];dsimp only;have d:∀t∈Al 46 n,Tr t:=by
  intro t a;refine⟨λc hc=>⟨h c (Ny n t a c hc).1,(Ny n t a c hc).2⟩,?_⟩;unfold CG;have b:Lib.hasPrefix t FP=false:=by
   cases t with
   |nil=>rfl
   |cons c r=>
    unfold Lib.hasPrefix FP;grind[Ny]
  grind[Un,Ny]
 simp_all[Xn,Ap8]
def Ac1(n:Nat):∀c∈FF n,c=46\/∃d,d<10/\c=BJ d:=by
 intro c hc;rw[YN]at hc;have a:∀k,∀c∈ES n k,∃d,d<10/\c=BJ d:=by
  intro k c hc;unfold ES at hc;rw[<-Nu]at hc;exact Ys AE AE _ c hc
 rcases BL.1 hc with hc|hc
 ·have⟨p,hp,hc⟩:=LK.1 hc;rcases BL.1 hc with hc|hc
  ·simp[Bn,K3,or_false]at hp;rcases hp with rfl|rfl|rfl<;>exact .inr (a _ c hc)
  exact .inl (CO.1 hc)
 exact .inr (a _ c hc)
def VG:∀d:Fin 10,Gu (BJ d.val)=true/\BJ d.val≠120/\FK (BJ d.val)=false/\BJ d.val≠37:=AX
def AcV{f:Bool}{h:Cb}(g:F6 f h):ET h.text f=some h:=by
 cases g with
 | @name n h h2 h3 h4=>
  show ET n true=_;have m:Lib.hasPrefix n [91]=false:=Xt h3 AE;have a:=Vs (λc hc e=>by
   have:=Mp.1 h3 c hc;rw[e]at this;exact this AE)
  unfold ET;unfold J9;grind
 | @four n h=>
  show ET (FF n) true=_;have i:=Ac1 n;have p:∀c∈FF n,Gu c=true:=by
   intro c hc;rcases i c hc with rfl|⟨d,a,rfl⟩
   ·decide
   exact(VG ⟨d,a⟩).1
  have b:(FF n).any FK=false:=by
   rw[Mp];intro c hc;rcases i c hc with rfl|⟨d,a,rfl⟩
   ·decide
   rw[(VG ⟨d,a⟩).2.2.1];decide
  have k:∀c∈FF n,c≠37:=by
   intro c hc;rcases i c hc with rfl|⟨d,a,rfl⟩
   ·decide
   exact(VG ⟨d,a⟩).2.2.2
  have j:∀c∈FF n,c≠120:=by
   intro c hc;rcases i c hc with rfl|⟨d,a,rfl⟩
   ·decide
   exact(VG ⟨d,a⟩).2.1
  have m:Lib.hasPrefix (FF n) [91]=false:=Xt b AE;have o:(FF n).isEmpty=false:=by
   cases h:FF n with
   |nil=>exact absurd h (AiT n)|cons c r=>rfl
  unfold ET;unfold J9;simp_all[Vs,Ap9,AwG,Alf]
 | @six f l h=>
  show ET ([91]++Dv l++[93]) f=_;unfold ET;unfold Ja;have e:([91]++Dv l++[93]).drop 1=Dv l++[93]:=rfl;rw[e,AC (Adx _ _),RF,AsL h];rfl
 |empty=>rfl
 | @other n h h2 h3=>
  show ET n false=_;unfold ET;rw[AA (by rw[Xt h2 AE];decide)];unfold MM;simp_all[Nj]
def Aej(K m:Nat):∀(l:List Nat)(st:EK),st.out.length<=K+40*st.done->(l.foldl (Cp m) st).out.length<=K+40*(l.foldl (Cp m) st).done
 |[],st,h=>h
 |x::r,st,h=>by
  refine Aej K m r _ ?_;unfold Cp;split
  ·have:=Uf st.d st.bias;show(st.out++Fu st.d st.bias).length<=K+40*(st.done+1);exact R4
  split
  ·exact h
  exact h
def AfB(K:Nat)(l:List Nat):∀(f sg:Nat)(st:EK),st.out.length<=K+40*st.done->st.done<=2*l.length->(Fv l f sg st).out.length<=K+80*l.length
 |0,_,st,h,h2=>by show st.out.length<=_;omega
 |f+1,sg,st,h,h2=>by
  rw[Fv];split
  ·rename_i hlt;refine AfB K l f _ _ ?_ ?_
   ·exact Aej K _ l _ h
   exact AjG
  omega
def AeX{l:List Nat}{t:A5}(h:GX l=some t):t.length<=81*l.length+1:=by
 unfold GX at h;split at h
 ·cases h
 split at h
 ·cases h;have b:=K5 l;have a:=M6 128 l;have:=AfB (l.length+1) l (l.length+1) 128 (Dg l) (by
   exact Aju) (by show(DQ l).length<=_;omega)
  omega
 ·cases h
variable{l:A5}
def Atb{t:A5}(h:CG l=some t):t.length<=248*l.length:=by
 unfold CG at h;split at h
 ·exact Vf
 split at h
 ·cases h;omega
 rename_i hlo;split at h
 ·split at h
  ·rename_i t' he;cases h;have h1:=AeX he;have c:=PS l;have b:0<l.length:=by
    cases l with
    |nil=>exact absurd rfl hlo|cons a r=>simp
   rw[Aa];have:FP.length=4:=rfl;omega
  ·cases h
 ·cases h
def AbP:∀{a b:List (A5)},Cc a=some b->Hm b<=248*Hm a/\b.length=a.length
 |[],b,h=>by cases h;exact⟨AG _,rfl⟩
 |y::r,b,h=>by
  unfold Cc at h;cases hy:CG y with
  |none=>rw[hy]at h;cases h
  |some t=>
   rw[hy]at h;rw[H1]at h;obtain⟨q,c,rfl⟩:=h;have ih:=AbP c;have:=Atb hy;unfold Hm at ih⊢;exact TI
def AW:Cb->E7
 | .none=>⟨0,⟨#[]⟩,0,[0,0,0,0,0,0,0,0]⟩| .empty=>⟨1,⟨#[]⟩,0,[0,0,0,0,0,0,0,0]⟩| .name n=>⟨2,⟨n.toArray⟩,0,[0,0,0,0,0,0,0,0]⟩| .four n=>⟨3,⟨#[]⟩,n,[0,0,0,0,0,0,0,0]⟩| .six l=>⟨4,⟨#[]⟩,0,l⟩| .opaqueN n=>⟨5,⟨n.toArray⟩,0,[0,0,0,0,0,0,0,0]⟩
variable{w w0:A7}
def PM(h:w.alloc (.cells (AV (AW .none)) 32)=w0):w.alloc (.cells #[.int .i64 0,.string ⟨#[]⟩,.int .u32 0,.int .u16 0,.int .u16 0,.int .u16 0,.int .u16 0,.int .u16 0,.int .u16 0,.int .u16 0,.int .u16 0] 32)=w0:=h
def Azg(h:Cb):AJ:=.agg (AV (AW h))
def OX:(A8.info? 32).map (·.size)=some 11:=AO
def UA(h:E7):(AV h).all (·.oneCell')=true:=by unfold AV;simp[Value.oneCell']
def Kc(o:Option Cb)(w:A7)(e:Ag)(w':A7):Prop:=e=.returned (.tuple #[Azg (o.getD .none),.bool o.isSome])/\AF w w w'
variable{g:Nat}{c:Array AJ}{T:Ab}
def GW{a:Array AJ}{fr:Nat×Nat}(h:w.heap[g]?=some (.cells a T fr)):(w.setRow g c).heap[g]?=some (.cells c T fr):=by
 simp only[World.setRow];rw[Js,AC rfl,h];rfl
variable{B:Nat}
def Au(h:AF B w0 w)(a:B<=g)(c:Array AJ):AF B w0 (w.setRow g c):=by
 refine h.trans ⟨rfl,rfl,rfl,AS,λk b=> ?_⟩;simp only[World.setRow];rw[Js,AA A4]
variable{a:Act}
def Gs{f:Func}{R:Ag->A7->Prop}{h:E7}{b:Bool}{p u:Nat}(hf:f.results= #[.cell p 32,.tmp u])(d:a.tmps.getD p undef=.pointer (some ⟨g,0,none⟩))(c:a.tmps.getD u undef=.bool b)(j:a.defers=[])(i:w.heap[g]?=some (.cells (AV h) 32))(e:R (.returned (.tuple #[.agg (AV h),.bool b])) w):bodyPost A8 f R .ret a w:=by
 refine IC ?_ j e;rw[OG hf,d,c];simp[asAddr,K8 w g _ 32 _ _ _ i underlying32 rfl AO]
def Ah6(c:UInt8)(w:A7):AD A8 305 #[.int .u8 (c:Int)] w (AzJ (.bool (Cx c)) w):=by
 have a:∀(k:UInt8),c=k->Cx k=true->(AD A8 305 #[.int .u8 (k:Int)] w (AzJ (.bool true) w))->AD A8 305 #[.int .u8 (c:Int)] w (AzJ (.bool (Cx c)) w):=by
  intro k h1 O D;subst h1;rw[O];exact D
 by_cases v:c=0
 ·refine a 0 v AE ?_;show AD _ _ #[.int .u8 0] _ _;exact HG
 by_cases x:c=9
 ·refine a 9 x AE ?_;show AD _ _ #[.int .u8 9] _ _;exact HG
 by_cases u:c=10
 ·refine a 10 u AE ?_;show AD _ _ #[.int .u8 10] _ _;exact HG
 by_cases t:c=13
 ·refine a 13 t AE ?_;show AD _ _ #[.int .u8 13] _ _;exact HG
 by_cases q:c=32
 ·refine a 32 q AE ?_;show AD _ _ #[.int .u8 32] _ _;exact HG
 by_cases f:c=35
 ·refine a 35 f AE ?_;show AD _ _ #[.int .u8 35] _ _;exact HG
 by_cases o:c=47
 ·refine a 47 o AE ?_;show AD _ _ #[.int .u8 47] _ _;exact HG
 by_cases p:c=58
 ·refine a 58 p AE ?_;show AD _ _ #[.int .u8 58] _ _;exact HG
 by_cases i:c=60
 ·refine a 60 i AE ?_;show AD _ _ #[.int .u8 60] _ _;exact HG
 by_cases n:c=62
 ·refine a 62 n AE ?_;show AD _ _ #[.int .u8 62] _ _;exact HG
 by_cases j:c=63
 ·refine a 63 j AE ?_;show AD _ _ #[.int .u8 63] _ _;exact HG
 by_cases l:c=64
 ·refine a 64 l AE ?_;show AD _ _ #[.int .u8 64] _ _;exact HG
 by_cases r:c=91
 ·refine a 91 r AE ?_;show AD _ _ #[.int .u8 91] _ _;exact HG
 by_cases m:c=92
 ·refine a 92 m AE ?_;show AD _ _ #[.int .u8 92] _ _;exact HG
 by_cases s:c=93
 ·refine a 93 s AE ?_;show AD _ _ #[.int .u8 93] _ _;exact HG
 by_cases g:c=94
 ·refine a 94 g AE ?_;show AD _ _ #[.int .u8 94] _ _;exact HG
 by_cases d:c=124
 ·refine a 124 d AE ?_;show AD _ _ #[.int .u8 124] _ _;exact HG
 clear a;have y:Cx c=false:=by
  unfold Cx NX;simp only[Nl,List.contains_nil,Jw,J1,B6];exact⟨v,x,u,t,q,f,o,p,i,n,j,l,r,m,s,g,d⟩
 rw[y];have b:∀k:UInt8,c≠k->((c:Int)==(k:Int))=false:=λk h=>by rw[B6];intro e;exact h (CM.1 A4)
 have R:((c:Int)==0)=false:=b 0 v;have S:((c:Int)==9)=false:=b 9 x;have F:((c:Int)==10)=false:=b 10 u;have C:((c:Int)==13)=false:=b 13 t;have N:((c:Int)==32)=false:=b 32 q;have G:((c:Int)==35)=false:=b 35 f;have P:((c:Int)==47)=false:=b 47 o;have K:((c:Int)==58)=false:=b 58 p;have I:((c:Int)==60)=false:=b 60 i;have L:((c:Int)==62)=false:=b 62 n;have M:((c:Int)==63)=false:=b 63 j;have H:((c:Int)==64)=false:=b 64 l;have J:((c:Int)==91)=false:=b 91 r;have B:((c:Int)==92)=false:=b 92 m;have Q:((c:Int)==93)=false:=b 93 s;have E:((c:Int)==94)=false:=b 94 g;have A:((c:Int)==124)=false:=b 124 d;clear b y v x u t q f o p i n j l r m s g d;generalize(c:Int)=z at *;go_in;go_wp2_with fail;go_ret;exact⟨rfl,rfl⟩
def DB(w:A7)(o:Obj):(w.alloc o).heap.size=w.heap.size+1:=AN
def AM(w:A7)(g:Nat)(c:Array AJ)(T:Ab):Prop:=w.heap[g]?=some (.cells c T (0,0))
def AM.lt(h:AM w g c T):g<w.heap.size:=(En.1 h).1
variable{w':A7}
def AM.keep(h:AM w g c T)(a:AF w w w'):AM w' g c T:=(a.block g h.lt).trans h
def AM.new(w:A7)(c:Array AJ)(T:Ab):AM (w.alloc (.cells c T)) w.heap.size c T:=CB w _
def AM.alloc(h:AM w g c T)(o:Obj):AM (w.alloc o) g c T:=h.keep ((AU _ _).alloc (AG _) o)
def AM.at(h:AM w g c T)(i:Nat):w.cell? ⟨g,i,none⟩=c[i]? :=BV _ _ _ _ _ _ h
def AM.free(h:AM w g c T)(i:Nat):w.frozen? ⟨g,i,none⟩=false:=by
 have a:w.heap[g]?=some (.cells c T (0,0)):=h;simp[World.frozen?,a]
def AM.set(h:AM w g c T)(a:Array AJ):AM (w.setRow g a) g a T:=GW h
def LZ(w:A7)(g k:Nat)(c:Array AJ)(a:k≠g):(w.setRow g c).heap[k]?=w.heap[k]? :=by
 simp only[World.setRow];rw[Js,AA (λe=>a e.symm)]
def Nr(w:A7)(g:Nat)(c:Array AJ):(w.setRow g c).heap.size=w.heap.size:=by simp_all
def AM.other{g':Nat}(h:AM w g c T)(b:g≠g')(a:Array AJ):AM (w.setRow g' a) g c T:=(LZ w g' g a b).trans h
variable{G:Nat->Prop}
def AM.chg(h:AM w g c T)(hc:Aj G w w')(a:¬G g):AM w' g c T:=(hc.block g h.lt a).trans h
def Aj.row{a b:A7}(h:Aj G a b)(f:G g)(c:Array AJ):Aj G a (b.setRow g c):=
 h.trans ⟨rfl,rfl,rfl,AS,λk i d=>LZ b g k c (λe=>d AS)⟩
def Aj.next{a b c:A7}(h:Aj G a b)(d:AF b b c):Aj G a c:=h.trans (Aj.of d)
def Aj.alloc{a b:A7}(h:Aj G a b)(o:Obj):Aj G a (b.alloc o):=h.next ((AU _ _).alloc (AG _) o)
def Aj.belowNew{a b:A7}(h:AF B w a)(c:B<=a.heap.size)(d:B<=g)(hc:Aj (λk=>k=g) a b):AF B w b:=
 h.trans (hc.below c (λk e=>A4))
def AM.range(h:AM w g c T)(o:Nat)(cs:List AJ)(hc:∀j,j<cs.length->c[o+j]?=cs[j]?):w.rangeAt g o cs:=λj v a=>by
 rw[h.at,hc j (Hk.1 a).1,a]
def AM.whole(h:AM w g c T):w.rangeAt g 0 c.toList:=h.range 0 _ (λj _=>AS)
def S8(dM:Array AJ):Nat->List AJ->Array AJ
 |_,[]=>dM|o,v::r=>S8 (dM.setIfInBounds o v) (o+1) r
def AfW{P:Dj}(g o:Nat)(t:Ab):∀(e:List AJ)(i:Nat)(a:Array AJ)(w:A7),w.heap[g]?=some (.cells a t (0,0))->o+i+e.length<=a.size->(∀v∈e,v.oneCell'=true)->(storeCells ⟨g,o,none⟩ e i).run P w=.ok () (w.setRow g (S8 a (o+i) e))
 |[],i,a,w,hg,hl,_=>by
  show Result.ok () w=_;congr 1;cases w with
  |mk heap tape drawn os output=>
   congr 1;apply P4;intro k;rw[Js];by_cases j:g=k
   ·subst j;rw[AC rfl];rw[hg];rfl
   grind
 |v::rest,i,a,w,hg,hl,h1=>by
  have l:o+i<a.size:=by simp at hl;omega
  have c:(⟨g,o,none⟩:Addr).add i=⟨g,o+i,none⟩:=by unfold Addr.add;split<;>simp_all
  have b:w.cell? ⟨g,o+i,none⟩=some a[o+i]:=by simp[World.cell?,hg]
  have d:w.frozen? ⟨g,o+i,none⟩=false:=by simp[World.frozen?,hg]
  have f:(store ((⟨g,o,none⟩:Addr).add i) v).run P w=.ok () (w.setRow g (a.setIfInBounds (o+i) v)):=by
   rw[c,run_store P w _ v _ (h1 v AN),b];simp[d,setCell_eq_setRow w g _ a t _ v hg]
  have h:=AfW (P:=P) g o t rest (i+1) _ (w.setRow g (a.setIfInBounds (o+i) v)) (Ia w g a _ t _ hg) (by simp at hl⊢;omega) (λx hx=>h1 x (by simp[hx]));simp[storeCells,f,h,setRow_setRow];rfl
variable{P:Dj}
def Au5(w:A7)(g o:Nat)(t ty:Ab)(a:Array AJ)(v:AJ)(cs:Array AJ)(hv:v.cells=cs)(c:AM w g a t)(b:(P.info? ty).map (·.size)=some cs.size)(e:o+cs.size<=a.size)(h1:cs.all (·.oneCell')=true):(storeVar ty ⟨g,o,none⟩ v).run P w=.ok () (w.setRow g (S8 a o cs)):=by
 have:=AfW (P:=P) g o t cs 0 a w c B7 (λv hv=>(Array.all_eq_true_iff_forall_mem.1 h1) v La);subst hv;cases hq:P.info? ty with
 |none=>simp[hq]at b
 |some i=>
  have d:v.cells.size=i.size:=by simp[hq]at b;omega
  simp[storeVar,sizeOf,typeInfo,hq,d,this]
variable{ops:Array Oper}{rest:List Oper}{Q:Exit->Act->A7->Prop}
def Sr{x:Oper}(f:x.guard=none)(ty:Ab)(p y:CV)(k:x.op=.store ty p y)(g o:Nat)(c:a.eval p=.pointer (some ⟨g,o,none⟩))(v:AJ)(d:a.eval y=v)(cs:Array AJ)(hc:v.cells=cs)(t:Ab)(b new:Array AJ)(l:AM w g b t)(m:(P.info? ty).map (·.size)=some cs.size)(j:o+cs.size<=b.size)(h1:cs.all (·.oneCell')=true)(i:S8 b o cs.toList=new)(h:Aq P ops Q rest (a.put x.dst undef) (w.setRow g new)):Aq P ops Q (x::rest) a w:=by
 subst i;refine wpList_plain f λ_ e=> ?_;unfold Oper.wp execOp;simp[k,c,d,Instr.storeAt,Instr.sureAddr,Sem.run_bind,Sem.run_pure,QS,Au5 w g o t ty b v cs hc l m j h1];exact e _ _ h
def LF{x:Oper}(e:x.guard=none)(ty:Ab)(p y:CV)(j:x.op=.store ty p y)(g o:Nat)(c:a.eval p=.pointer (some ⟨g,o,none⟩))(v:AJ)(d:a.eval y=v)(hc:v.cells= #[v])(t:Ab)(b new:Array AJ)(k:AM w g b t)(l:(P.info? ty).map (·.size)=some 1)(i:o+1<=b.size)(h1:v.oneCell'=true)(f:b.setIfInBounds o v=new)(h:Aq P ops Q rest (a.put x.dst undef) (w.setRow g new)):Aq P ops Q (x::rest) a w:=
 Sr e ty p y j g o c v d #[v] hc t b new k l i (by simp[h1]) f h
def Ve(P:Dj)(ty:Ab):Bool:=match P.underlying ty with|some (.struct _)|some (.array _ _)=>true|_=>false
variable{o:Oper}{ty t:Ab}{x:CV}
def At{cs:Array AJ}(i:AM w g cs t)(h:Aq P ops Q rest (a.put o.dst (.agg cs)) w)(c:o.guard=none:=by rfl)(f:o.op=.load ty x:=by rfl)(hx:a.eval x=.pointer (some ⟨g,0,none⟩):=by rfl)(b:Ve P ty=true:=by kernel_rfl)(j:(P.info? ty).map (·.size)=some cs.size:=by kernel_rfl):Aq P ops Q (o::rest) a w:=by
 unfold Ve at b;split at b
 ·rename_i d hd;exact Cg c ty x f g hx t cs _ _ i hd rfl j h
 ·rename_i d e hd;exact Cg c ty x f g hx t cs _ _ i hd rfl j h
 ·cases b
variable{y:CV}
def Ax{b:Array AJ}(i:AM w g b t)(cells:Array AJ)(h:Aq P ops Q rest (a.put o.dst undef) (w.setRow g cells))(c:o.guard=none:=by rfl)(f:o.op=.store ty x y:=by rfl)(hx:a.eval x=.pointer (some ⟨g,0,none⟩):=by rfl)(e:a.eval y=.agg cells:=by rfl)(j:(P.info? ty).map (·.size)=some cells.size:=by kernel_rfl)(d:b.size=cells.size:=by rfl)(h1:cells.all (·.oneCell')=true:=by kernel_rfl):Aq P ops Q (o::rest) a w:=
 Fb c ty x y f g cells hx e t b i j d h1 h
def Cw{b:Array AJ}(cells:Array AJ)(h:Aq P ops Q rest a (w.alloc (.cells cells t)))(c:o.guard=none:=by rfl)(g:o.op=.store ty x y:=by rfl)(f:o.dst=none:=by rfl)(hx:a.eval x=.pointer (some ⟨w,0,none⟩):=by rfl)(e:a.eval y=.agg cells:=by rfl)(i:(P.info? ty).map (·.size)=some cells.size:=by kernel_rfl)(d:b.size=cells.size:=by rfl)(h1:cells.all (·.oneCell')=true:=by kernel_rfl):Aq P ops Q (o::rest) a (w.alloc (.cells b t)):=
 Jf c ty x y g f cells t b _ hx rfl e i d h1 h
variable{v:AJ}
def BN{x:Oper}{p:CV}{b:Array AJ}(k:AM w g b t)(o:Nat)(new:Array AJ)(h:Aq P ops Q rest (a.put x.dst undef) (w.setRow g new))(e:x.guard=none:=by rfl)(j:x.op=.store ty p y:=by rfl)(c:a.eval p=.pointer (some ⟨g,o,none⟩):=by rfl)(d:a.eval y=v:=by rfl)(hc:v.cells= #[v]:=by rfl)(l:(P.info? ty).map (·.size)=some 1:=by kernel_rfl)(i:Nat.ble (o+1) b.size=true:=by kernel_rfl)(h1:v.oneCell'=true:=by rfl)(f:b.setIfInBounds o v=new:=by kernel_rfl):Aq P ops Q (x::rest) a w:=
 LF e ty p y j g o c v d hc t b new k l (Nat.le_of_ble_eq_true i) h1 f h
def OE{b:Array (Nat×CV)}{d:Option Tmp}(cells:Array AJ)(h:Aq P ops Q rest (a.put d (.agg cells)) w)(e:o.guard=none:=by rfl)(c:o.op=.build t b:=by rfl)(f:o.dst=d:=by rfl)(hf:P.built t (b.map λ(i,x)=>(i,a.eval x)).toList=some cells:=by kernel_rfl):Aq P ops Q (o::rest) a w:=
 wpList_buildTo e t b c d f cells hf h
def KW{b:Array AJ}(j:AM w g b t)(cells:Array AJ)(h:Aq P ops Q rest a (w.setRow g cells))(c:o.guard=none:=by rfl)(i:o.op=.store ty x y:=by rfl)(f:o.dst=none:=by rfl)(hx:a.eval x=.pointer (some ⟨g,0,none⟩):=by rfl)(e:a.eval y=.agg cells:=by rfl)(k:(P.info? ty).map (·.size)=some cells.size:=by kernel_rfl)(d:b.size=cells.size:=by rfl)(h1:cells.all (·.oneCell')=true:=by kernel_rfl):Aq P ops Q (o::rest) a w:=
 wpList_store_rowTo c ty x y i f g cells hx e t b j k d h1 h
def MD{x:Oper}{p:CV}{b:Array AJ}(k:AM w g b t)(o:Nat)(cs new:Array AJ)(h:Aq P ops Q rest (a.put x.dst undef) (w.setRow g new))(e:x.guard=none:=by rfl)(j:x.op=.store ty p y:=by rfl)(c:a.eval p=.pointer (some ⟨g,o,none⟩):=by rfl)(d:a.eval y=.agg cs:=by rfl)(l:(P.info? ty).map (·.size)=some cs.size:=by kernel_rfl)(i:Nat.ble (o+cs.size) b.size=true:=by kernel_rfl)(h1:cs.all (·.oneCell')=true:=by kernel_rfl)(f:S8 b o cs.toList=new:=by kernel_rfl):Aq P ops Q (x::rest) a w:=
 Sr e ty p y j g o c (.agg cs) d cs rfl t b new k l (Nat.le_of_ble_eq_true i) h1 f h
def AjO(P:Dj)(md:Region.Mode)(ops:Array Oper)(Q:Exit->Act->A7->Prop)(S:A7->Prop)(fuel:Nat)(j5:Array Bool):Exit->Act->A7->Prop:=λe a w=>match e with
 | .normal=>S w/\wpAnyH P md ops Q S fuel j5 a w| .outgrown=>False|e=>Q e a w
variable{S:A7->Prop}
def rdy{l:Region.Mode}{m:Array Bool}(i:Nat){d op ty pos after guard}(h:Aq P ops (AjO P l ops Q S g (m.setIfInBounds i true)) [⟨d,op,ty,pos,after,guard⟩] a w)(h1:ops[i]?=some ⟨d,op,ty,pos,after,guard⟩:=by rfl)(p:Region.ready l ops m=[i]:=by kernel_rfl)(n:Region.wanted (⟨d,op,ty,pos,after,guard⟩:Oper) (yielded ops a.tmps)=true:=by kernel_rfl):wpAnyH P l ops Q S (g+1) m a w:=by
 refine wpAnyH_ready p AN (AllReadyH.cons h1 (λK j=> ?_) AllReadyH.nil);rw[AC n];unfold Aq at h;rw[AC n]at h;rcases h with b|⟨_,q,w',hf⟩
 ·unfold Oper.wp at b⊢;generalize(execOp a.eval _).run P w=r at b⊢;cases r with
  |ok v w'=>
   cases v with
   |value v=>exact j.out _ _ b.1 λ_=>b.2|skip=>exact j.out _ _ b.1 λ_=>b.2|defer d=>exact j.out _ _ b.1 λ_=>b.2
   |enter f args=>
    refine Calls.mono b ?_;intro e o k;cases e with
    |returned v=>exact j.out _ _ k.1 λ_=>k.2|panicked c=>exact k|outgrown=>have⟨_,_,hx⟩:=k;exact hx.elim
   |row row args=>exact Rows.mono b (λ_ _ h=>j.out _ _ h.1 λ_=>h.2)|_=>exact b
  |halt hh w'=>cases hh<;>exact b
 exact(hf:False).elim
variable{b:Nat}
def rde{c:Region.Mode}{e:Array Bool}{d:Act}(f:S w)(h:S w->wpAnyH P c ops Q S b e d w)(g:a=d:=by(try simp only[Jg]);rfl):Aq P ops (AjO P c ops Q S b e) [] a w:=by
 subst g;unfold Aq;exact⟨f,h f⟩
def rdk{c:Region.Mode}{e:Array Bool}(i:Nat){d op ty pos after guard}(h:∀K:Act->A7->Prop,Shut (∀a w,S w->(S w->wpAnyH P c ops Q S b (e.setIfInBounds i true) a w)->K a w)->Oper.wp P ⟨d,op,ty,pos,after,guard⟩ a w K Q)(h1:ops[i]?=some ⟨d,op,ty,pos,after,guard⟩:=by rfl)(f:Region.ready c ops e=[i]:=by kernel_rfl)(g:Region.wanted (⟨d,op,ty,pos,after,guard⟩:Oper) (yielded ops a.tmps)=true:=by kernel_rfl):wpAnyH P c ops Q S (b+1) e a w:=
 wpAnyH_ready f AN (AllReadyH.cons h1 (λK j=>by rw[AC g];exact h K j) AllReadyH.nil)
def rdg{A K:Act->A7->Prop}{b:Act}(e:Shut (∀a w,S w->(S w->A a w)->K a w))(d:S w)(h:S w->A b w)(c:a=b:=by(try simp only[Jg]);rfl):K a w:=by
 subst c;exact e.out _ _ d h
def rdn{c:Region.Mode}{d:Array Bool}(h:Q .normal a w)(e:Region.ready c ops d=[]:=by kernel_rfl):wpAnyH P c ops (NoPanic Q) S b d a w:=
 wpAnyH_done e (NoPanic.normal h) _
def rds{c:Nat}(S:A7->Prop)(b:S w.drew)(h:S w.drew->wpAnyH P .any ops (NoPanic Q) S ops.size (Array.replicate ops.size false) a w.drew)(d:P.follows .mixedOrders=true:=by kernel_rfl):(Code.region c ops true).wp P Q a w:=
 wp_region_noPanic (wp_region_held_drew d b h)
variable{d:Nat}
def tq{e:Region.Mode}{f:Array Bool}{g:Act}(i:Nat){op ty pos after guard}(h:wpAnyH P e ops Q S b (f.setIfInBounds i true) g w)(m:S w:=by assumption)(h1:ops[i]?=some ⟨some d,op,ty,pos,after,guard⟩:=by rfl)(r:Region.noSelect ops=true:=by kernel_rfl)(k:Region.free e ops f i=true:=by kernel_rfl)(p:(Region.ready e ops f).contains i=true:=by kernel_rfl)(l:Region.wanted (⟨some d,op,ty,pos,after,guard⟩:Oper) (yielded ops a.tmps)=true:=by rfl)(q:∀c a w,Q (.panic c) (a.put (some d) v) w->Q (.panic c) a w:=by exactλ_ _ _ h=>h)(o:∀w,S w->(execOp a.eval ⟨some d,op,ty,pos,after,guard⟩).run P w=.ok (.value v) w:=by intro w n;(try dsimp only at n);go_simp;try with_reducible rfl)(j:a.put (some d) v=g:=by(try simp only[Jg]);rfl):wpAnyH P e ops Q S (b+1) f a w:=by
 subst j;exact wpAnyH_take h1 r k p q (Or.inl ⟨l,o⟩) m h
def tkm{g:Region.Mode}{e:Nat}{j:Array Bool}{n:Act}(i:Nat){op ty pos after guard}{y:Ab}{o:Nat}{C:Array AJ}(A:∀w,S w->w.rangeAt b o C)(h:wpAnyH P g ops Q S e (j.setIfInBounds i true) n w)(u:S w:=by assumption)(h1:ops[i]?=some ⟨some d,op,ty,pos,after,guard⟩:=by rfl)(D:Region.noSelect ops=true:=by kernel_rfl)(r:Region.free g ops j i=true:=by kernel_rfl)(v:(Region.ready g ops j).contains i=true:=by kernel_rfl)(s:Region.wanted (⟨some d,op,ty,pos,after,guard⟩:Oper) (yielded ops a.tmps)=true:=by rfl)(B:∀c a w,Q (.panic c) (a.put (some d) (.agg C)) w->Q (.panic c) a w:=by exactλ_ _ _ h=>h)(z:op=.load y x:=by rfl)(hx:a.eval x=.pointer (some ⟨b,o,none⟩):=by rfl)(k:Ve P y=true:=by kernel_rfl)(l:(P.info? y).map (·.size)=some C.size:=by kernel_rfl)(q:a.put (some d) (.agg C)=n:=by(try simp only[Jg]);rfl):wpAnyH P g ops Q S (e+1) j a w:=by
 subst q;unfold Ve at k;have l:(P.info? y).map (·.size)=some C.toList.length:=by rw[l,Of]
 have m:∀t:TypeDesc,P.underlying y=some t->t.isRow=true->wpAnyH P g ops Q S (e+1) j a w:=λt f E=>by
  have p:=yieldsIf_load_mid (ops:=ops) (S:=S) (op:=⟨some d,op,ty,pos,after,guard⟩) (a:=a) s y x z b o hx C t A f E l;rw[Array.toArray_toList]at p;exact wpAnyH_take h1 D r v B p u h
 split at k
 ·rename_i f;exact m _ f rfl
 ·rename_i f;exact m _ f rfl
 ·cases k
variable{E:Ab}
def pbX{z:AJ}(ty:Fs P T E z b){s:CV}{W0:A7}{n:Int}(c:UInt8)(d:BM w0 B E v l)(e:AF B W0 w0)(i:B<=w0.heap.size)(h:∀f w',BM w' B E f (l++[c])->AF B W0 w'->(f=.slice none 0 0->False)->Aq P ops Q rest (a.put o.dst f) w')(k:o.guard=none:=by rfl)(m:o.op=.call {callee:=.builtin .append,args:= #[s,x],argTypes:= #[T,T]}:=by rfl)(j:a.eval s=v:=by rfl)(hx:a.eval x=.slice (some ⟨w0,0,none⟩) 1 1:=by rfl)(hc:n=(c:Int):=by rfl)(g:l.length+1<=BK:=by unfold BK;omega)(p:(l.length+1)*b<=140737488355328:=by omega):Aq P ops Q (o::rest) a (w0.alloc (.cells #[.int .u8 n] E)):=
 HZ ty k s x m c j hx d e i hc g p h
def psX{z:AJ}(ty:Fs P T E z b){s:CV}{W0:A7}{l:List A9}{t:A9}(c:OwnS w0 B E v l)(d:AF B W0 w0)(g:B<=w0.heap.size)(h:∀e w',OwnS w' B E e (l++[t])->AF B W0 w'->(e=.slice none 0 0->False)->Aq P ops Q rest (a.put o.dst e) w')(j:o.guard=none:=by rfl)(k:o.op=.call {callee:=.builtin .append,args:= #[s,x],argTypes:= #[T,T]}:=by rfl)(i:a.eval s=v:=by rfl)(hx:a.eval x=.slice (some ⟨w0,0,none⟩) 1 1:=by rfl)(f:l.length+1<=BK:=by unfold BK;omega)(m:(l.length+1)*b<=140737488355328:=by omega):Aq P ops Q (o::rest) a (w0.alloc (.cells #[.string t] E)):=
 LH ty j s x k i hx c d g f m h
def Aut(s:A9)(c:UInt8)(k:Nat)(h:k<s.size):(s.toList.drop k).contains c=(s[k]==c||(s.toList.drop (k+1)).contains c):=by
 have e:(c==s[k])=(s[k]==c):=by rw[Fl,CW,CW];exact eq_comm
 rw[Aw s k h,Nl,e]
def Auu(s:A9)(c:UInt8)(w:A7)(j:s.size<=1099511627776):AD A8 256 #[.string s,.int .u8 (c:Int)] w (AzJ (.bool (s.toList.contains c)) w):=by
 obtain⟨R,hR⟩:=AI (s.toList.contains c);rw[hR];go_in;go_wp2;go_loop[5] (λi=>∃k:Nat,i=.int .i64 k/\k<=s.size/\Hid ((s.toList.drop k).contains c=R)) (λi=>s.size-(intOf i).toNat)
 ·exact⟨0,rfl,AR _,H0 RC⟩
 obtain⟨k,rfl,h,b⟩:=hrel;by_cases a:k<s.size
 ·have d:=H0 (Aut s c k a);by_cases hc:s[k]=c
  ·have g:=AfF hc;have aD:=A6 (R=true) (by rw[<-b.out,d.out,hc];simp);exact Tx
  have g:=Al8 hc;have f:=A6 ((s.toList.drop (k+1)).contains c=R) (by rw[<-b.out,d.out,B6.2 hc];rfl);go_wp2;go_round;exact⟨k+1,AP,A4,f⟩;exact AzF
 have aD:=A6 (R=false) (by rw[<-b.out,CP s k A4];rfl);exact Tx
def WS:Nat->A5
 |1=>[32,34,60,62,96]|2=>[32,34,35,60,62]|3=>[32,34,35,60,62,39]|4=>[32,34,35,60,62,63,94,96,123,125]|5=>[32,34,35,60,62,63,94,96,123,125,47,58,59,61,64,91,92,93,124]|_=>[]
def AnJ:∀(set:Fin 6)(n:Fin 256),Bv set.val (UInt8.ofNat n.val)=(BR (UInt8.ofNat n.val)||(WS set.val).contains (UInt8.ofNat n.val)):=AX
def Auq{set:Nat}(a:set<6)(c:UInt8):Bv set c=(BR c||(WS set).contains c):=by
 have:=AnJ ⟨set,a⟩ ⟨c.toNat,c.toNat_lt⟩;simpa using this
def An8(set:Nat)(f:set<6)(c:UInt8)(w:A7):AD A8 197 #[.int .i64 (set:Int),.int .u8 (c:Int)] w (GH set c w):=by
 unfold GH;rw[Auq f c];have d:∀(l:A9)(w:A7),l.size<=100->AD A8 256 #[.string l,.int .u8 (c:Int)] w (AzJ (.bool (l.data.toList.contains c)) w):=λl w h=>by
  have:=Auu l c w A4;rwa[BQ]at this
 have a:=Rt c;generalize BR c=b at a⊢;have i:set=0\/set=1\/set=2\/set=3\/set=4\/set=5:=A4;clear f;replace d:=H0 d;rcases i with rfl|rfl|rfl|rfl|rfl|rfl;all_goals
  rcases a with⟨rfl,h⟩|⟨rfl,h,g⟩|⟨rfl,h,g⟩;all_goals
   go_in;go_wp2_with(go_at_call 256;refine(d.out _ _ AE).mono (AH ?_));go_ret;exact⟨by first|rfl|(simp[WS]),rfl⟩
def Ms(s:A9)(set:Nat)(i:set<6)(w:A7)(E:s.size<=4294967296):AD A8 125 #[.string s,.int .i64 (set:Int)] w (Bi w (Ai set s)):=by
 have m:=H0 (λc w=>An8 set i c w);replace i:=H0 i;go_in;go_wp2;go_loopw[6,7] (λt iv wr=>∃k:Nat,iv=.int .i64 k/\k<=s.size/\BM wr w 5 t (Ai set (s.toList.take k))/\AF w w wr) (λ_ iv _=>s.size-(intOf iv).toNat)
 ·exact⟨0,rfl,AR _,BM.nil _ _ _,AU _ _⟩
 obtain⟨k,rfl,z,a,hbel⟩:=hrel;have n:=hbel.size;have f:(Ai set (s.toList.take k)).length<=12884901888:=by
  have:=I3 set (s.toList.take k);exact OK
 by_cases j:k<s.size
 ·have aV:=H0 ((congrArg (Ai set) (DX s k j)).trans (Rb set _ _));generalize hc:s[k]=c at aV;have i8:=H0 (λw=>m.out c w);unfold GH at i8;have y:=Bo c;have G:=Bf c;unfold Dd at aV;generalize Ai set (s.toList.take k)=P at aV f a;cases d:Bv set c
  ·rw[d]at i8 aV;rw[AA AE]at aV;replace d:=H0 d;go_wp2_with(first|(go_call i8;refine AH ?_)|(at_builtin;refine pbX Gc c a hbel n ?_;intro p w' ho' bA _));exact AgM
  rw[d]at i8 aV;rw[AC rfl]at aV;replace d:=H0 d;have l:=Sx ⟨c.toNat/16,A4⟩;have h:=Sx ⟨c.toNat%16,A4⟩;dsimp only at l h;have A:(c:Int)/16<16:=A4;have x:(c:Int)%16<16:=A4;have v:0<=(c:Int)/16:=A4;have r:0<=(c:Int)%16:=A4;have B:IntKind.u8.wrap ((c:Int)/16)=(c:Int)/16:=NO;have C:IntKind.u8.wrap ((c:Int)%16)=(c:Int)%16:=NO;have D:(c:Int).tmod 16=(c:Int)%16:=MW A4;have F:((c:Int)/16).toNat=c.toNat/16:=A4;have ty:((c:Int)%16).toNat=c.toNat%16:=A4;change Hid _ at l h;go_upto_region 7 with(go_at_call 197;go_call i8;refine AH ?_);refine rds (λw'=>AF w w w') hbel.drew λb=> ?_;refine tk 0 19 b ?_;refine tk 1 20 b ?_;refine tk 2 21 b ?_;refine tk 3 22 b ?_;refine tk 4 23 b ?_;refine tk 5 24 b ?_;refine tk 6 25 b ?_;refine tk 7 26 b ?_;refine tk 8 27 b ?_;refine tk 9 28 b ?_;refine tk 10 29 b ?_;refine tk 11 30 b ?_;refine tk 12 31 b ?_;refine rdk 13 λK o=> ?_;go_simp;refine o.out _ _ ((b.alloc n _)) (λb=> ?_);clear o K;try simp only[Jg]
  refine rdy 14 ?_;refine Amo Gc rfl _ _ rfl [37,Kk (c.toNat/16),Kk (c.toNat%16)] (by rw[<-l.out,<-h.out];rfl) rfl rfl rfl (VQ a 1) (hbel.drew) (by simpa using n) (by unfold BK;simp;omega) B7 ?_;intro p w' ho' bA;refine rde bA λb=> ?_;try simp only[Jg]
  refine tk 15 6 b ?_;refine rdn ?_;go_wp2;exact AgM
 have he:=A6 (s.toList.take k=s.toList) (Fh s k A4);have g:=λS q=>Mh (P:=A8) (S:=S) underlying25 underlying5 q a;have u:=g 9 underlying9;clear g;generalize hP:Ai set (s.toList.take k)=P at a u;exact Ak6
def D5(sp:Bool):A5->A5×A5
 |[]=>([],[])|c::r=>if B8 sp c=true then([],c::r)else(c::(D5 sp r).1,(D5 sp r).2)
def Hn(scheme s:A5):Option (Option Nat):=if s=[]then some none else match Az 10 s with
 |none=>none|some n=>if 65535<n then none else if Kh scheme=some n then some none else some (some n)
def CF:Bool->A5->Option (A5×A5)
 |_,[]=>none
 |b,c::r=>if c=91 then(CF true r).map (λp=>(c::p.1,p.2))else if c=93 then(CF false r).map (λp=>(c::p.1,p.2))
  else if c=58/\b=false then some ([],r)else(CF b r).map (λp=>(c::p.1,p.2))
structure HI where
 user:A5
 pass:A5
 host:Cb
 port:Option Nat
def MN(s:A5):Option (A5×A5):=match CF false s with
 |some (n,p)=>if n=[]then none else some (n,p)|none=>some (s,[])
def El(scheme user pass s:A5):Option HI:=match MN s with
 |none=>none
 |some (n,p)=>match ET n (Ar scheme)with
  |none=>none
  |some h=>match Hn scheme p with
   |none=>none|some q=>some ⟨user,pass,h,q⟩
def Gn(scheme s:A5):Option HI:=match Ew 64 s with
 |some (w,r)=>if r=[]then none else El scheme (Ai 5 (AL 58 w).1) (Ai 5 (AL 58 w).2.1) r|none=>El scheme [] [] s
structure AZ where
 scheme:A5
 user:A5
 pass:A5
 host:Cb
 port:Option Nat
 opq:Bool
 flat:A5
 path:List (A5)
 query:Option (A5)
 frag:Option (A5)
deriving DecidableEq
def EH:AZ:=⟨[],[],[],.none,none,false,[],[],none,none⟩
def GN(b:Bool)(l:A5):Option (A5):=if b=true then some l else none
def FU(scheme:A5):Nat:=if Ar scheme=true then 3 else 2
def BZ(scheme:A5)(p:F9):AZ:=⟨scheme,[],[],.none,none,false,[],[],GN p.hq (Ai (FU scheme) p.qry),GN p.hf (Ai 1 p.frg)⟩
def C2(sp:Bool):A5->Nat
 |[]=>0|c::r=>if B8 sp c=true then C2 sp r+1 else 0
def HQ(sp:Bool)(s:A5):A5:=s.drop (C2 sp s)
def FT(scheme s:A5):List (A5):=DE scheme [] (if 0<C2 (Ar scheme) s then s.drop 1 else s)
def Kt(u:AZ)(a:HI)(rest:A5):AZ:=
 ⟨u.scheme,a.user,a.pass,a.host,a.port,u.opq,u.flat,if(Ar u.scheme|| !rest.isEmpty)=true then FT u.scheme rest else u.path,u.query,u.frag⟩
def FC(u:AZ)(s:A5):Option AZ:=(Gn u.scheme (D5 (Ar u.scheme) s).1).map λa=>Kt u a (D5 (Ar u.scheme) s).2
def GQ:A5:=[108,111,99,97,108,104,111,115,116]
def FQ(u:AZ)(h:Cb):AZ:=⟨u.scheme,u.user,u.pass,h,u.port,u.opq,u.flat,u.path,u.query,u.frag⟩
def FN(u:AZ)(l:List (A5)):AZ:=⟨u.scheme,u.user,u.pass,u.host,u.port,u.opq,u.flat,l,u.query,u.frag⟩
def PN(u base:AZ):AZ:=⟨u.scheme,base.user,base.pass,base.host,base.port,u.opq,u.flat,u.path,u.query,u.frag⟩
def Oa(u base:AZ):AZ:=⟨u.scheme,u.user,u.pass,u.host,u.port,u.opq,u.flat,base.path,if u.query=none then base.query else u.query,u.frag⟩
def Il(u:AZ)(s:A5):Option AZ:=
 if E6 (D5 true s).1=true then some (FN u (DE u.scheme [] s))
 else if(D5 true s).1=[]then some (FN u (FT u.scheme (D5 true s).2))
 else match ET (D5 true s).1 true with
  |none=>none|some h=>some (FN (if h=.name GQ then u else FQ u h) (FT u.scheme (D5 true s).2))
def Pt:List (A5)->Bool
 |[]=>false|p::_=>Fo p
def I5(base:AZ)(p:F9):Option AZ:=
 let u:=FQ (BZ Av p) .empty
 let from_:=base.scheme==Av
 if 2<=C2 true p.rest then Il u (p.rest.drop 2)
 else
  let v:=if from_=true then FQ u base.host else u
  if C2 true p.rest=1 then some (FN v (DE Av (if(from_&&(Pt base.path&& !K0 (p.rest.drop 1)))=true then base.path.take 1 else[]) (p.rest.drop 1)))
  else if(from_&&p.rest.isEmpty)=true then some (Oa v base)
  else if(from_&& !K0 p.rest)=true then some (FN v (DE Av (CK Av base.path) p.rest))
  else some (FN v (DE Av [] p.rest))
def Gk(b:Bool)(s:A5):A5:=if(b&&Lib.hasSuffix s [32])=true then s.dropLast++[37,50,48]else s
def Hu(p:F9):Option AZ:=
 let u:=BZ p.sch p
 if Lib.hasPrefix p.rest [47,47]=true then FC u (p.rest.drop 2)
 else if Lib.hasPrefix p.rest [47]=true then some (FN u (DE u.scheme [] (p.rest.drop 1)))
 else some ⟨u.scheme,[],[],.none,none,true,Gk (p.hq||p.hf) (Ai 0 p.rest),[],u.query,u.frag⟩
def NR(base:AZ)(p:F9):Option AZ:=if(!p.hf||p.hq|| !p.rest.isEmpty)=true then none
 else some ⟨base.scheme,base.user,base.pass,base.host,base.port,base.opq,base.flat,base.path,base.query,some (Ai 1 p.frg)⟩
def MP(base:AZ)(p:F9):Option AZ:=
 let u:=BZ base.scheme p
 let sp:=Ar base.scheme
 if 2<=C2 sp p.rest then(if sp=true then FC u (HQ sp p.rest)else FC u (p.rest.drop 2))
 else if C2 sp p.rest=1 then some (FN (PN u base) (DE u.scheme [] (p.rest.drop 1)))
 else if p.rest.isEmpty=true then some (Oa (PN u base) base)
 else some (FN (PN u base) (DE u.scheme (CK u.scheme base.path) p.rest))
def J4(base:AZ)(p:F9):Option AZ:=
 if((p.hs&&p.sch==Av)||(!p.hs&&(!base.opq&&base.scheme==Av)))=true then I5 base p
 else if((p.hs&&Ar p.sch)&&(!(p.sch==base.scheme)||Lib.hasPrefix p.rest [47,47]))=true then FC (BZ p.sch p) (HQ (Ar p.sch) p.rest)
 else if(p.hs&& !(p.hs&&Ar p.sch))=true then Hu p
 else if base.opq=true then NR base p
 else MP base p
def IJ(base:AZ)(s:A5):Option AZ:=J4 base (Cq (EQ s))
def Du(s:A5):Option AZ:=if(Cq (EQ s)).hs=true then J4 EH (Cq (EQ s))else none
def GJ(user pass:A5):A5:=if user=[]/\pass=[]then[]else if pass=[]then user++[64]else user++[58]++pass++[64]
def FB:Option Nat->A5
 |none=>[]|some n=>[58]++Lib.itoa (n:Int)
def VD:List (A5)->Bool
 |[]=>false|p::_=>p.isEmpty
def JH(u:AZ):A5:=if u.host=.none then(if(!u.opq&&(decide (2<=u.path.length)&&VD u.path))=true then[47,46]else[])else[47,47]++GJ u.user u.pass++u.host.text++FB u.port
def IZ(u:AZ):A5:=if u.opq=true then u.flat else Ay u.path
def Ek(d:UInt8):Option (A5)->A5
 |none=>[]|some q=>d::q
def C6(u:AZ)(f:Bool):A5:=u.scheme++[58]++JH u++IZ u++Ek 63 u.query++(if f=true then Ek 35 u.frag else[])
def Acb(p:A5×A5)(w:A7)(e:Ag)(w':A7):Prop:=∃a b:A9,e=.returned (.tuple #[.string a,.string b])/\Hid (a.toList=p.1)/\Hid (b.toList=p.2)/\AF w w w'
def V9(a:Bool)(c:UInt8):(((c:Int)==47)=true/\B8 a c=true)\/(((c:Int)==47)=false/\a=false/\B8 a c=false)\/(((c:Int)==47)=false/\a=true/\((c:Int)==92)=true/\B8 a c=true)\/(((c:Int)==47)=false/\a=true/\((c:Int)==92)=false/\B8 a c=false):=by
 have d:(c==47)=((c:Int)==47):=by
  by_cases h:c=47
  ·simp_all
  rw[B6.2 h,Eq.comm,B6];intro e;exact h (CM.1 (by have:(47:UInt8).toNat=47:=rfl;omega))
 have b:(c==92)=((c:Int)==92):=by
  by_cases h:c=92
  ·simp_all
  rw[B6.2 h,Eq.comm,B6];intro e;exact h (CM.1 (by have:(92:UInt8).toNat=92:=rfl;omega))
 have f:B8 a c=(((c:Int)==47)||(a&&((c:Int)==92))):=by unfold B8;rw[d,b]
 rw[f];generalize((c:Int)==47)=b1;generalize((c:Int)==92)=b2;grind
def Aap(s:A9)(sp:Bool)(w:A7)(a:s.size<=1000000000):AD A8 215 #[.string s,.bool sp] w (Acb (D5 sp s) w):=by
 exact AcQ
def Kv(kO:A5):List (A5)->List (A5)
 |[]=>[kO]|q::qs=>(kO++q)::qs
def Zq{l:List (A5)}(h:l≠[]):Kv [] l=l:=by
 cases l with
 |nil=>exact absurd rfl h|cons q qs=>rfl
def Agh{c:UInt8}{r a:A5}(h:p c=false):Kv a (Bs p (c::r))=Kv (a++[c]) (Bs p r):=by
 rw[Bs,AA AS];cases hs:Bs p r with
 |nil=>exact absurd hs (O9 p r)|cons q qs=>show(a++(c::q))::qs=((a++[c])++q)::qs;rw[CQ];rfl
def Agm{c:UInt8}{r a:A5}(h:p c=true):Kv a (Bs p (c::r))=[a]++Kv [] (Bs p r):=by
 rw[Bs,AC h,Zq (O9 p r)];show(a++[])::_=_;rw[Bq];rfl
def Tl(s:A9)(f k:Nat)(hf:f<=k)(a:k<s.size):(s.extract f (k+1)).toList=(s.extract f k).toList++[s[k]]:=by
 rw[toList_extract,toList_extract,DX s k a,Ge M2]
def PH(s:A9)(k:Nat):(s.extract k k).toList=[]:=by simp_all
def Ayw(s:A9)(a:Bool)(w:A7)(B:s.size<=1000000000):AD A8 267 #[.string s,.bool a] w (NL (Bs (B8 a) s.toList) w):=by
 obtain⟨R,g⟩:=AI (Bs (B8 a) s.toList);rw[g];replace g:=H0 g;have p:=H0 (O9 (B8 a));go_in;go_wp2;go_loopw[5,6,7] (λv5 u j wr=>∃(f k:Nat)(l:List A9),u=.int .i64 (f:Int)/\j=.int .i64 (k:Int)/\f<=k/\k<=s.size/\l.length<=k/\OwnS wr w 9 v5 l/\AF w w wr/\Hid (R=l.map (·.toList)++Kv (s.extract f k).toList (Bs (B8 a) (s.toList.drop k)))) (λ_ _ j _=>s.size-(intOf j).toNat)
 ·exact⟨0,0,[],rfl,rfl,AG _,AR _,AR _,OwnS.nil _ _ _,AU _ _,H0 (by rw[C9,PH,Zq (p.out _),g.out];rfl)⟩
 obtain⟨f,k,l,rfl,rfl,o,y,x,hown,hbel,q⟩:=hrel;have bD:=hbel.size;have r:(f:Int)<=k:=A4;have A:0<=(f:Int):=A4;by_cases d:k<s.size
 ·have z:(k:Int)<=s.size:=A4;have b:=q.out;rw[Aw s k d]at b;have m:=Tl s f k o d;have e:=V9 a s[k];obtain⟨N,c⟩:=AI (B8 a s[k]);cases N with
  |false=>
   rw[Agh c,<-m]at b;rw[c]at e;have aC:=H0 b;change Hid _ at c m;clear b;rcases e with⟨_,h⟩|⟨i,rfl,_⟩|⟨_,_,_,h⟩|⟨i,rfl,v,_⟩
   ·cases h
   ·exact Akw
   ·cases h
   exact Akw
  |true=>
   rw[Agm c]at b;rw[c]at e;have aC:=A6 (R=(l++[s.extract f k]).map (·.toList)++Kv (s.extract (k+1) (k+1)).toList (Bs (B8 a) (s.toList.drop (k+1)))) (by
    rw[b,PH,Dx,CQ];rfl)
   change Hid _ at c m;clear b;rcases e with⟨i,_⟩|⟨_,_,h⟩|⟨i,rfl,v,_⟩|⟨_,_,_,h⟩
   ·exact Af4
   ·cases h
   ·exact Af4
   ·cases h
 have n:k=s.size:=A4;have t:(f:Int)<=s.size:=A4;have hf:=A6 ((l++[s.extract f s.size]).map (·.toList)=R) (by
  rw[q.out,CP s k A4,n,Dx];show _=_++[(s.extract f s.size).toList++[]];rw[Bq];rfl)
 replace n:=H0 n;go_wp2_with(at_builtin;refine psX Es hown hbel bD ?_;intro v' w' ho' bA _);go_ret;exact⟨_,_,rfl,hf,ho',bA⟩
def AwE(s:A5)(l:List A9)(B:Nat)(w:A7)(e:Ag)(w':A7):Prop:=
 ∃(v':AJ)(l':List A9),e=.returned v'/\Hid (l'.map (·.toList)=CK s (l.map (·.toList)))/\OwnS w B 9 v' l'/\Hid (l'=l\/l'=l.dropLast)/\w=w'
def AwO{c m:Nat}{l:List A9}(h:OwnS w B 9 (.slice (some ⟨g,0,none⟩) (m+1) c) l)(f:l.length=m+1):OwnS w B 9 (.slice (some ⟨g,0,none⟩) m c) l.dropLast:=by
 unfold OwnS at h⊢;have a:l≠[]:=λe=>by simp_all
 have b:l.map Value.string=l.dropLast.map Value.string++[.string (l.getLast a)]:=by
  conv=>lhs;rw[<-List.dropLast_concat_getLast a]
  rw[Dx];rfl
 have d:l.dropLast.length=m:=by rw[OJ];omega
 rw[f,b]at h;rw[d];exact ownsRow_pop (by rw[Bz,d,Nat.mul_one]) h
def AsM(s:A9)(v:AJ)(B:Nat)(l:List A9)(w:A7)(a:OwnS w B 9 v l)(S:l.length<=1000000000)(O:∀t∈l,t.size<=4294967296):AD A8 269 #[.string s,v] w (AwE s l B w):=by
 have P:=a.read;have⟨a1,c1,hv,hcell⟩:=P;by_cases p:l.length=0
 ·have E:l=[]:=EP p;have fY:=A6 (l.map (·.toList)=CK s (l.map (·.toList))) (by subst E;unfold CK;split<;>rfl);rw[p]at hv;subst hv;clear hcell;change Hid _ at E p;go_in;go_wp2;go_ret;exact⟨_,l,rfl,fY,a,H0 (.inl rfl),rfl⟩
 obtain⟨m,z⟩:∃m,l.length=m+1:=⟨l.length-1,A4⟩;obtain⟨g,o,rfl,k⟩:=hcell A4;have K:o=0:=by
  rcases a.2 with⟨e,_⟩|⟨g',x,u,e,_⟩
  ·rw[hv]at e;cases e
  rw[hv]at e;cases e;rfl
 subst K;have q:l.length<=c1:=by
  rcases a.2 with⟨e,_⟩|⟨g',x,u,e,_,_,q,_⟩
  ·rw[hv]at e;cases e
  rw[hv]at e;cases e;exact q
 have y:((m:Nat):Int)<=(c1:Int):=A4;replace q:=H0 q;have D:=k 0 A4;rw[Jy]at D;have i:=O (l[0]' A4) (CI ..);rw[z]at hv;subst hv;have zE:=AwO a z;obtain⟨n,J⟩:=AI ((s.toList==[102,105,108,101]));have d:(s.toList==Av)=n:=J;have A:=A6 ((n&&LN (l.map (·.toList)))=false->l.dropLast.map (·.toList)=CK s (l.map (·.toList))) (λh=>by
  unfold CK;rw[d,h,AA AE,Nc])
 have L:=A6 ((n&&LN (l.map (·.toList)))=true->l.map (·.toList)=CK s (l.map (·.toList))) (λh=>by
  unfold CK;rw[d,h,AC rfl])
 have Q:=H0 (λh=>V7 (l:=l) h);have H:=H0 (λh=>Vx (l:=l) h);generalize hx0:l[0]' A4=x0 at D i;have hno:=H0 (λw=>AaB x0 w i);generalize hN:Fo x0.toList=N at hno;have f:=A6 (m=0->LN (l.map (·.toList))=N) (λe=>by rw[Q.out A4,hx0,hN]);have I:=A6 (m≠0->LN (l.map (·.toList))=false) (λe=>H.out A4);change Hid _ at hN hx0 d k;have M:0<=(m:Int):=A4;have R:(m:Int)<=1000000000:=A4;have C:((m:Int)+1==0)=false:=DV;clear hcell;change Hid _ at z p;cases n with
 |false=>
  have fY:=H0 (A.out rfl);exact AdR
 |true=>
  by_cases b:m=0
  ·have c:=f.out b;have fY:=A6 (N=false->l.dropLast.map (·.toList)=CK s (l.map (·.toList))) (λe=>A.out (by rw[c,e];rfl));have j:=A6 (N=true->l.map (·.toList)=CK s (l.map (·.toList))) (λe=>L.out (by rw[c,e];rfl));replace c:=H0 c;subst b;cases N with
   |false=>
    have r:=H0 (fY.out rfl);go_in;go_wp2_with(go_call hno;refine AH ?_);go_ret;exact⟨_,l.dropLast,rfl,r,zE,H0 (.inr rfl),rfl⟩
   |true=>
    have r:=H0 (j.out rfl);go_in;go_wp2_with(go_call hno;refine AH ?_);go_ret;exact⟨_,l,rfl,r,a,H0 (.inl rfl),rfl⟩
  have fY:=H0 (A.out (by rw[I.out b];rfl));have F:((m:Int)+1==1)=false:=DV;have G:¬((m:Int)=0):=A4;replace b:=H0 b;exact AdR
def OS(pa:Option Addr)(n c:Nat)(l:List A9)(w:A7)(b:EX w pa n c l)(h:n<=1000000000):AD A8 104 #[.slice pa n c] w λe w'=>∃v:AJ,e=.returned v/\OwnS w' w 9 v l/\AF w w w':=by
 obtain⟨rfl,d,f⟩:=b;have⟨a1,c1,hv,hcell⟩:=d;cases hv;cases pa with
 |none=>
  have cZ:l=[]:=by simp_all
  subst cZ;exact Wo
 |some a=>
  exact Ahp
def Ahd{b:A5}{c out:List (A5)}{k:Nat}(h:k<c.length):Dk b out (c.drop k)=Dk b (Gh b out c[k] (decide (k+1=c.length))) (c.drop (k+1)):=by
 rw[Fr h,Dk];congr 2;by_cases d:k+1=c.length
 ·simp_all
 rw[BO d];cases hd:c.drop (k+1)with
 |nil=>
  have:=congrArg List.length hd;simp at this;omega
 |cons a r=>rfl
def Wx(p:UInt8->Bool):∀l,(∀q∈Bs p l,q.length<=l.length)/\(Bs p l).length<=l.length+1
 |[]=>⟨λq b=>by rw[Bs,CO]at b;subst b;exact AG _,AG _⟩
 |c::r=>by
  have d:=Wx p r;rw[Bs];split
  ·refine⟨λq b=> ?_,AS⟩;rcases Bn.1 b with rfl|b
   ·simp
   grind
  ·cases hs:Bs p r with
   |nil=>simp
   |cons a qs=>
    rw[hs]at d;refine⟨λq b=> ?_,by have:=d.2;simp only[BC]at this⊢;omega⟩;rcases Bn.1 b with rfl|b
    ·simp_all[CC,BC]
    grind[Cr,BC]
def VF:([⟨#[]⟩]:List A9).map (·.toList)=[[]]:=by simp_all
def Acp(h:E6 l=true):l.length=2:=by
 unfold E6 at h;split at h
 ·rfl
 ·cases h
def Iz(sch:A9)(pa:Option Addr)(n c:Nat)(l:List A9)(s:A9)(w:A7)(M:EX w pa n c l)(hn:n<=1000000)(hz:s.size<=1100000)(hl:∀t∈l,t.size<=4294967296):AD A8 211 #[.string sch,.slice pa n c,.string s] w (NL (DE sch (l.map (·.toList)) s.toList) w):=by
 obtain⟨R,hR⟩:∃R,DE sch (l.map (·.toList)) s.toList=R:=⟨_,rfl⟩;rw[hR];unfold DE at hR;have bH:=M.len;have U:=H0 M;clear M;have qM:=H0 (NN sch);generalize E:Ar sch.toList=SP at qM hR;replace E:=H0 E;have jK:=H0 (λw=>Ayw s SP w A4);have q:=Wx (B8 SP) s.toList;generalize hP:Bs (B8 SP) s.toList=P at jK q hR;change Hid _ at hP hR;rw[AK]at q;obtain⟨qQ,hpl2⟩:=q;change Hid _ at qQ hl;go_in;go_wp2_with fail;refine(qM.out _).mono (AH ?_);go_wp2_with fail;refine(jK.out _).mono ?_;rintro e w1⟨v1,ps,rfl,hps,gA,p⟩;obtain⟨T,c1,rfl,I⟩:=gA.read;have K:CA w1 (.slice T ps.length c1) ps:=⟨T,c1,rfl,I⟩;have D:=p.size;have bR:=H0 (OS pa n c l w1 (U.out.below p (AG _)) A4);go_wp2_with fail;refine bR.out.mono ?_;rintro e w2⟨v2,rfl,bK,z⟩;obtain⟨n2,A⟩:=AI (ps.length);have hPl:P.length=n2:=by rw[<-hps.out,Bz,A]
 have hn2b:n2<=1100001:=A4;rw[A]at K⊢;replace K:=H0 K;clear I gA bR;go_wp2_with fail;go_loopw[8,20] (λv8 O wr=>∃(k:Nat)(out:List A9),O=.int .i64 (k:Int)/\k<=n2/\OwnS wr w1 9 v8 out/\AF w1 w1 wr/\Hid (Dk sch (out.map (·.toList)) (P.drop k)=R)/\out.length<=n+k/\Hid (∀t∈out,t.size<=4294967296)) (λ_ O _=>n2-(intOf O).toNat)
 ·exact⟨0,l,rfl,AR _,bK,z,H0 RC,A4,hl⟩
 clear bK z;obtain⟨k,out,rfl,hk,f,d,hg,sL,iK⟩:=hrel;have S:=d.size;by_cases hlt:k<n2
 ·have yP:k<P.length:=A4;have dL:k<ps.length:=A4;have uN:=K.out.below d (AG _);obtain⟨a2,c2,B,j⟩:=uN;obtain⟨g',o',e1,C⟩:=j A4;have e2:T=a2:=by simpa using congrArg (λv=>match v with|Value.slice a _ _=>a|_=>none) B
  subst e2;subst e1;clear B j;have ck:=C k dL;have N:ps[k].toList=P[k]:=by
   exact Abt
  have aM:=hg.out;rw[Ahd yP,<-N]at aM;have Q:ps[k].size<=1100000:=by
   rw[<-AK,N];have:=qQ.out P[k] (CI yP);omega
  generalize ht:ps[k]=t at ck aM Q;change Hid _ at ht N C;have W:((k:Int)==n2-1)=decide (k+1=P.length):=by
   exact AgN
  generalize mK:decide (k+1=P.length)=LB at W aM;replace mK:=H0 mK;have L:=H0 (λw=>AuP t w A4);have X:=H0 (λw=>Ag4 t w A4);have aL:=H0 (λw=>Us t w A4);have fY:=H0 (λv w own=>AsM sch v w1 out w own A4 iK);have gC:=H0 (λw=>Mu t 4 AE w A4);obtain⟨a8,c8,rfl,_⟩:=f.read;unfold Gh at aM;have qA:=H0 (λh=>Acp (l:=t.toList) h);obtain⟨D1,H⟩:=AI (G1 t);obtain⟨D2,j0⟩:=AI (EG t);obtain⟨V,hV⟩:=AI (E6 t);rw[H]at L aM;rw[j0]at X aM;rw[hV]at aL aM qA;change Hid _ at H j0 hV;have fJ:∀(x:A9),x.size<=4294967296->∀Z:List A9,(∀t∈Z,t.size<=4294967296)->∀t∈Z++[x],t.size<=4294967296:=λx hx Z h t ht=>by
   exact Akz
  replace fJ:=H0 fJ;cases D1 with
  |true=>
   rw[AC rfl]at aM;go_wp2_with fail;refine(L.out _).mono ?_;rintro e u⟨rfl,g⟩;have b:OwnS u w1 9 (.slice a8 out.length c8) out:=HR f g (AG _);have m:=d.trans (g.mono S);have G:=m.size;have rH:=H0 (fY.out _ u b);go_wp2_with fail;refine rH.out.mono ?_;rintro e J⟨v',o,rfl,zH,dW,pD,rfl⟩;have hll:o.length<=out.length:=by
    rcases pD.out with e|e
    ·rw[e];exact Mg
    rw[e,OJ];omega
   have pY:=A6 (∀t∈o,t.size<=4294967296) (λt ht=>iK.out t (by
    rcases pD.out with e|e
    ·rw[e]at ht;exact ht
    rw[e]at ht;exact(SE out).subset ht))
   cases LB with
   |true=>
    have hf:=A6 (Dk sch ((o++[⟨#[]⟩]:List A9).map (·.toList)) (P.drop (k+1))=R) (by
     rw[<-aM,AC rfl,Dx,zH.out,VF])
    replace aM:=H0 aM;go_wp2_with(at_builtin;refine psX Es dW m G ?_;intro v' w' ho' bA _);go_roundw;exact⟨k+1,o++[⟨#[]⟩],AP,A4,ho',bA,hf,B7,H0 (fJ.out ⟨#[]⟩ AE o pY)⟩;exact AzF
   |false=>
    have hf:=A6 (Dk sch (o.map (·.toList)) (P.drop (k+1))=R) (by
     rw[<-aM,AA AE,zH.out])
    replace aM:=H0 aM;go_wp2;go_roundw;exact⟨k+1,o,AP,A4,dW,m,hf,A4,pY⟩;exact AzF
  |false=>
   rw[AA AE]at aM;cases D2 with
   |true=>
    rw[AC rfl]at aM;go_wp2_with fail;refine(L.out _).mono ?_;rintro e u⟨rfl,g⟩;have m:=d.trans (g.mono S);have G:=m.size;have b:OwnS u w1 9 (.slice a8 out.length c8) out:=HR f g (AG _);go_wp2_with fail;refine(X.out _).mono ?_;rintro e J⟨rfl,i⟩;have aU:=m.trans (i.mono G);have cK:=aU.size;have dW:OwnS J w1 9 (.slice a8 out.length c8) out:=HR b i (AG _);cases LB with
    |true=>
     have hf:=A6 (Dk sch ((out++[⟨#[]⟩]:List A9).map (·.toList)) (P.drop (k+1))=R) (by
      rw[<-aM,AC rfl,Dx,VF])
     replace aM:=H0 aM;go_wp2_with(at_builtin;refine psX Es dW aU cK ?_;intro v' w' ho' bA _);go_roundw;exact⟨k+1,out++[⟨#[]⟩],AP,A4,ho',bA,hf,B7,H0 (fJ.out ⟨#[]⟩ AE out iK)⟩;exact AzF
    |false=>
     have hf:=A6 (Dk sch (out.map (·.toList)) (P.drop (k+1))=R) (by
      rw[<-aM,AA AE])
     replace aM:=H0 aM;go_wp2;go_roundw;exact⟨k+1,out,AP,A4,dW,aU,hf,A4,iK⟩;exact AzF
   |false=>
    rw[AA AE]at aM;go_wp2_with fail;refine(L.out _).mono ?_;rintro e u⟨rfl,g⟩;have m:=d.trans (g.mono S);have G:=m.size;have b:OwnS u w1 9 (.slice a8 out.length c8) out:=HR f g (AG _);go_wp2_with fail;refine(X.out _).mono ?_;rintro e J⟨rfl,i⟩;have aU:=m.trans (i.mono G);have cK:=aU.size;have dW:OwnS J w1 9 (.slice a8 out.length c8) out:=HR b i (AG _);obtain⟨F,hF⟩:=AI ((sch.toList==[102,105,108,101]));have Y:(sch.toList==Av)=F:=hF;rw[Y]at aM;replace Y:=H0 Y;cases F with
    |false=>
     exact AkV
    |true=>
     by_cases y:out.length=0
     ·have jG:out=[]:=EP y;subst jG;replace y:=H0 y;cases V with
      |false=>
       have gT:Dk sch (([]:List A9).map (·.toList)++[Ai 4 t.toList]) (P.drop (k+1))=R:=by
        rw[<-aM,AA AN]
       change Hid _ at aM gT;go_wp2_with(go_at_call 265;refine(aL.out _).mono (AH ?_));refine(gC.out _).mono ?_;rintro e w5⟨t2,rfl,ht2,hb5⟩;have eH:=aU.trans (hb5.mono cK);have dI:=eH.size;have eZ:OwnS w5 w1 9 (.slice a8 0 c8) []:=HR dW hb5 (AG _);have kZ:t2.size<=4294967296:=by
        rw[<-AK,ht2.out];have:=I3 4 t.toList;exact KN
       have hf:=A6 (Dk sch ((([]:List A9)++[t2]).map (·.toList)) (P.drop (k+1))=R) (by
        rw[<-gT.out,Dx,<-ht2.out];rfl)
       go_wp2_with(at_builtin;refine psX Es eZ eH dI ?_;intro v' w' ho' bA _);go_roundw;exact⟨k+1,([]:List A9)++[t2],AP,A4,ho',bA,hf,B7,H0 (fJ.out t2 kZ [] iK)⟩;exact AzF
      |true=>
       have yL:t.size=2:=by rw[<-AK];exact qA.out rfl
       have fL:(t.extract 0 1).size=1:=Bk;have hf:=A6 (Dk sch (([]++[t.extract 0 1++⟨#[58]⟩]:List A9).map (·.toList)) (P.drop (k+1))=R) (by
        rw[<-aM,AC AN];show Dk _ [(t.extract 0 1++⟨#[58]⟩).toList] _=_;rw[toList_append,toList_extract,C9,show(ByteArray.mk #[58]).toList=[58]from toList_mk [58]];rfl)
       replace aM:=H0 aM;have lS:(t.extract 0 1++⟨#[58]⟩:A9).size<=4294967296:=by
        rw[Ix,fL];decide
       go_wp2_with(first|(go_at_call 265;refine(aL.out _).mono (AH ?_))|(at_builtin;refine psX Es dW aU cK ?_;intro v' w' ho' bA _));go_roundw;exact⟨k+1,[]++[t.extract 0 1++⟨#[58]⟩],AP,A4,ho',bA,hf,B7,H0 (fJ.out _ lS [] (λt h=>C5))⟩;exact AzF
     have hoI:((out.length:Int)==0)=false:=DV;have hoI2:¬(out.length=0):=y;have pF:(out.map (·.toList)).isEmpty=false:=by
      cases out with
      |nil=>exact absurd rfl y|cons a r=>rfl
     rw[pF]at aM;change Hid _ at pF y;exact AkV
 have hf:=A6 (out.map (·.toList)=R) (by rw[<-hg.out,Cj A4];rfl);go_wp2;go_ret;exact⟨_,out,rfl,hf,Jl f D,p.trans (d.mono D)⟩
def AkO(R:Option (A5×A5))(s:A5)(i:Int):Prop:=(i=-1/\R=none)\/∃k:Nat,i=(k:Int)/\k<s.length/\R=some (s.take k,s.drop (k+1))
def VV(s:A5)(w:A7)(e:Ag)(w':A7):Prop:=∃i:Int,e=.returned (.int .i64 i)/\Hid (AkO (CF false s) s i)/\w=w'
def Aj5(b:Bool)(c:UInt8)(r:A5):(((c:Int)==91)=true/\CF b (c::r)=(CF true r).map (λp=>(c::p.1,p.2)))\/(((c:Int)==91)=false/\((c:Int)==93)=true/\CF b (c::r)=(CF false r).map (λp=>(c::p.1,p.2)))\/(((c:Int)==91)=false/\((c:Int)==93)=false/\((c:Int)==58)=true/\b=false/\CF b (c::r)=some ([],r))\/(((c:Int)==91)=false/\((c:Int)==93)=false/\((c:Int)==58)=true/\b=true/\CF b (c::r)=(CF b r).map (λp=>(c::p.1,p.2)))\/(((c:Int)==91)=false/\((c:Int)==93)=false/\((c:Int)==58)=false/\CF b (c::r)=(CF b r).map (λp=>(c::p.1,p.2))):=by
 have a:∀k:UInt8,c=k->((c:Int)==(k:Int))=true:=λk h=>by simp_all
 have f:∀k:UInt8,c≠k->((c:Int)==(k:Int))=false:=λk h=>by rw[B6];intro e;exact h (CM.1 A4)
 by_cases h1:c=91
 ·exact .inl ⟨a 91 h1,by rw[CF,AC h1]⟩
 by_cases d:c=93
 ·exact .inr (.inl ⟨f 91 h1,a 93 d,by rw[CF,AA h1,AC d]⟩)
 by_cases g:c=58
 ·cases b with
  |false=>exact .inr (.inr (.inl ⟨f 91 h1,f 93 d,a 58 g,rfl,by rw[CF,AA h1,AA d,AC ⟨g,rfl⟩]⟩))|true=>exact .inr (.inr (.inr (.inl ⟨f 91 h1,f 93 d,a 58 g,rfl,by rw[CF,AA h1,AA d,AA AN]⟩)))
 exact .inr (.inr (.inr (.inr ⟨f 91 h1,f 93 d,f 58 g,by rw[CF,AA h1,AA d,AA (by simp[g])]⟩)))
def Agu{R:Option (A5×A5)}{s:A9}{k:Nat}{b b':Bool}(a:k<s.size)(h:R=(CF b (s.toList.drop k)).map (λp=>(s.toList.take k++p.1,p.2)))(c:CF b (s[k]::s.toList.drop (k+1))=(CF b' (s.toList.drop (k+1))).map (λp=>(s[k]::p.1,p.2))):R=(CF b' (s.toList.drop (k+1))).map (λp=>(s.toList.take (k+1)++p.1,p.2)):=by
 rw[h,Aw s k a,c,Option.map_map,DX s k a];congr 1
 funext p;simp
def Awt(s:A9)(w:A7)(i:s.size<=1000000000):AD A8 273 #[.string s] w (VV s w):=by
 unfold VV;obtain⟨R,hR⟩:=AI (CF false s);rw[hR];replace hR:=H0 hR;go_in;go_wp2;go_loop[3,4] (λv3 v4=>∃(k:Nat)(b:Bool),v3=.bool b/\v4=.int .i64 (k:Int)/\k<=s.size/\Hid (R=(CF b (s.toList.drop k)).map (λp=>(s.toList.take k++p.1,p.2)))) (λ_ v4=>s.size-(intOf v4).toNat)
 ·exact Adq
 obtain⟨k,b,rfl,rfl,g,hg⟩:=hrel;by_cases hlt:k<s.size
 ·have hn:=H0 (λb' f=>Agu (b':=b') hlt hg f);have e:=Aj5 b s[k] (s.toList.drop (k+1));rcases e with⟨a,h⟩|⟨a,c,h⟩|⟨a,c,d,rfl,h⟩|⟨a,c,d,rfl,h⟩|⟨a,c,d,h⟩
  ·exact Vw
  ·have aC:=H0 (hn.out _ h);replace h:=H0 h;exact AfC
  ·exact Af6
  ·exact Vw
  exact Af0
 exact AhD
def KL(o:Option (A5))(w:A7)(e:Ag)(w':A7):Prop:=∃t:A9,e=.returned (.tuple #[.string t,.bool o.isSome])/\Hid (t.toList=o.getD [])/\AF w w w'
def Ajt{o:Option (A5)}(h:o=some l)(a:AF w w w'):KL o w (.returned (.tuple #[.string ⟨l.toArray⟩,.bool true])) w':=by
 subst h;exact⟨_,rfl,H0 (toList_mk l),a⟩
def Lp{o:Option (A5)}(h:o=none)(a:AF w w w'):KL o w (.returned (.tuple #[.string ⟨#[]⟩,.bool false])) w':=by
 subst h;exact⟨_,rfl,H0 (toList_mk []),a⟩
def AcI{s:A9}(h:s.toList=l):s=⟨l.toArray⟩:=Lo (h.trans (toList_mk l).symm)
def AaD{t:List (A5×A5)}(h:∀p∈t,p.1≠s):I0 t s=none:=by
 unfold I0;rw[List.find?_eq_none.2,Option.map_none];intro p a;rw[CW];exact h p a
def Ahy(s:A9)(w:A7):AD A8 235 #[.string s] w (KL (Nz s) w):=by
 by_cases b:∃p∈Lm,p.1=s.toList
 ·obtain⟨p,a,d⟩:=b;simp only[Lm,Bn,K3,or_false]at a;rcases a with rfl|rfl|rfl|rfl|rfl|rfl|rfl|rfl|rfl|rfl|rfl|rfl|rfl|rfl|rfl|rfl|rfl|rfl|rfl|rfl|rfl;all_goals
   dsimp only at d;obtain rfl:=AcI d.symm;clear d;go_in;go_wp2;go_ret2;exact Ajt (by rw[toList_mk];decide+kernel) (AU _ _)
 have c:=AaD λp a e=>b ⟨p,a,e⟩;have n:∀p∈Lm,(s.toList==p.1)=false:=λp a=>B6.2 λe=>b ⟨p,a,e.symm⟩;simp only[Lm,List.forall_mem_cons,List.forall_mem_nil,KA]at n;obtain⟨f,t,B,y,g,l,z,r,A,x,h,D,j,k,u,q,C,v,o,i,m⟩:=n;clear b;replace c:=H0 c;go_in;go_wp2;go_ret2;exact Lp c (AU _ _)
def XQ:Array AJ:= #[.string ⟨#[97,112,111,115]⟩,.int .u8 39,.string ⟨#[99,111,108,111,110]⟩,.int .u8 58,.string ⟨#[115,111,108]⟩,.int .u8 47,.string ⟨#[98,115,111,108]⟩,.int .u8 92,.string ⟨#[113,117,101,115,116]⟩,.int .u8 63,.string ⟨#[110,117,109]⟩,.int .u8 35,.string ⟨#[112,101,114,99,110,116]⟩,.int .u8 37,.string ⟨#[99,111,109,109,97,116]⟩,.int .u8 64,.string ⟨#[101,113,117,97,108,115]⟩,.int .u8 61,.string ⟨#[112,108,117,115]⟩,.int .u8 43,.string ⟨#[99,111,109,109,97]⟩,.int .u8 44,.string ⟨#[112,101,114,105,111,100]⟩,.int .u8 46,.string ⟨#[115,101,109,105]⟩,.int .u8 59,.string ⟨#[101,120,99,108]⟩,.int .u8 33,.string ⟨#[100,111,108,108,97,114]⟩,.int .u8 36,.string ⟨#[97,115,116]⟩,.int .u8 42,.string ⟨#[108,111,119,98,97,114]⟩,.int .u8 95,.string ⟨#[103,114,97,118,101]⟩,.int .u8 96,.string ⟨#[72,97,116]⟩,.int .u8 94,.string ⟨#[108,112,97,114]⟩,.int .u8 40,.string ⟨#[114,112,97,114]⟩,.int .u8 41,.string ⟨#[108,115,113,98]⟩,.int .u8 91,.string ⟨#[114,115,113,98]⟩,.int .u8 93,.string ⟨#[108,99,117,98]⟩,.int .u8 123,.string ⟨#[114,99,117,98]⟩,.int .u8 125,.string ⟨#[118,101,114,98,97,114]⟩,.int .u8 124,.string ⟨#[84,97,98]⟩,.int .u8 9,.string ⟨#[78,101,119,76,105,110,101]⟩,.int .u8 10]
def M4(k:Nat):A5:=(Ij.getD k ([],[])).1
def Px(k:Nat):UInt8:=((Ij.getD k ([],[])).2).headD 0
def Aun(w:A7):∀k:Nat,k<28->(Instr.index 243 (.agg XQ) (.int .i64 (k:Int))).run A8 w=.ok (.agg #[.string ⟨(M4 k).toArray⟩,.int .u8 ((Px k).toNat:Int)]) w
 |0,_=>AO|1,_=>AO|2,_=>AO|3,_=>AO|4,_=>AO|5,_=>AO|6,_=>AO|7,_=>AO|8,_=>AO|9,_=>AO|10,_=>AO|11,_=>AO|12,_=>AO|13,_=>AO|14,_=>AO|15,_=>AO|16,_=>AO|17,_=>AO|18,_=>AO|19,_=>AO|20,_=>AO|21,_=>AO|22,_=>AO|23,_=>AO|24,_=>AO|25,_=>AO|26,_=>AO|27,_=>AO|n+28,h=>A4
def Aye:∀k:Fin 28,I0 Ij (M4 k.val)=some [Px k.val]/\Px k.val≠0/\Jj ((Px k.val).toNat:Int)=[Px k.val]:=AX
def Anx(h:∀k,k<28->M4 k≠s):I0 Ij s=none:=by
 refine AaD λp a=> ?_;obtain⟨k,c,rfl⟩:=O5 a;have b:Ij.length=28:=rfl;have:=h k A4;unfold M4 at this;rw[LS,Cs c]at this;exact this
def Au8(s:A5)(w:A7)(e:Ag)(w':A7):Prop:=∃b:UInt8,e=.returned (.int .u8 (b:Int))/\Hid ((b=0/\I0 Ij s=none)\/(b≠0/\I0 Ij s=some [b]/\Jj (b:Int)=[b]))/\AF w w w'
def Aw8(s:A9)(w:A7):AD A8 288 #[.string s] w (Au8 s w):=by
 go_in;go_wp2_with(first|(refine Cw XQ ?_)|(refine At (CB w _) ?_));have u:=Ah w (.cells XQ 243);go_loopw[36] (λv wr=>∃k:Nat,v=.int .i64 k/\k<=28/\AF w w wr/\Hid (∀j,j<k->M4 j≠s.toList)) (λv _=>28-(intOf v).toNat)
 ·exact⟨0,rfl,A4,u,H0 (λj h=>absurd h (Nat.not_lt_zero _))⟩
 obtain⟨k,rfl,x,a,f⟩:=hrel;have o:=a.size;by_cases c:k<28
 ·have n:=λw=>Aun w k c;obtain⟨t,m⟩:∃t:A9,(⟨(M4 k).toArray⟩:A9)=t:=⟨_,rfl⟩;have p:=A6 (t.toList=M4 k) (by rw[<-m];exact toList_mk _);rw[m]at n;have g:=H0 (Aye ⟨k,c⟩);generalize hb:Px k=b at g n;obtain⟨q,r⟩:=AI ((t.toList==s.toList));have d:=A6 ((M4 k==s.toList)=q) (by rw[<-p.out];exact r);cases q
  ·have i:=A6 (∀j,j<k+1->M4 j≠s.toList) (λj h=>by
    by_cases e:j=k
    ·subst e;have:=d.out;grind
    exact f.out j A4)
   go_wp21;go_roundw;exact⟨k+1,AP,A4,((a.alloc o _)),i⟩;exact AzF
  have l:=A6 (I0 Ij s.toList=some [b]) (by
   have:=d.out;rw[CW]at this;rw[<-this];exact g.out.1)
  go_wp21;go_ret;exact⟨b,rfl,H0 (.inr ⟨g.out.2.1,l,g.out.2.2⟩),a.alloc o _⟩
 have l:=H0 (Anx (λj h=>f.out j A4));go_wp21;go_ret;exact⟨0,rfl,H0 (.inl ⟨rfl,l⟩),a⟩
def AyR(s:A9)(w:A7):AD A8 236 #[.string s] w (KL (JU s) w):=by
 have f:=H0 (Aw8 s);have j:∀(b:UInt8)w,(convert 21 9 (.int .i32 (b:Int))).run A8 w=.ok (.string (Utf8.encode (b:Int))) w:=λb w=>run_convert_int_string w _ _ _ (b.toNat:Int) (by rw[underlying21];rfl) underlying9;replace j:=H0 j;by_cases h:∃p∈Kb,p.1=s.toList
 ·obtain⟨p,d,c⟩:=h;have a:=(show∀p∈Kb,I0 Ij p.1=none from AX) p d;rw[c]at a;simp only[Kb,Bn,K3,or_false]at d;rcases d with rfl|rfl|rfl|rfl|rfl|rfl|rfl|rfl|rfl|rfl;all_goals
   dsimp only at c;obtain rfl:=AcI c.symm;clear c;replace a:=H0 a;go_in;go_wp2_with fail;refine(f.out _).mono ?_;rintro e m⟨b,rfl,g,i⟩;rcases g.out with⟨rfl,-⟩|⟨-,h1,-⟩
   ·go_wp2;go_ret2;exact Ajt (by rw[toList_mk];decide+kernel) i
   rw[a.out]at h1;cases h1
 have o:=H0 (AaD λp d e=>h ⟨p,d,e⟩);have n:∀p∈Kb,(s.toList==p.1)=false:=λp d=>B6.2 λe=>h ⟨p,d,e.symm⟩;simp only[Kb,List.forall_mem_cons,List.forall_mem_nil,KA]at n;obtain⟨r,A,F,C,u,x,D,z,E,B⟩:=n;clear h;go_in;go_wp2_with fail;refine(f.out _).mono ?_;rintro e m⟨b,rfl,g,i⟩;rcases g.out with⟨rfl,h1⟩|⟨c,h1,l⟩
 ·have hv:=A6 (JU s.toList=none) (by unfold JU;rw[h1,o.out]);clear h1 g;go_wp2;go_ret2;exact Lp hv i
 have hv:=A6 (JU s.toList=some [b]) (by unfold JU;rw[h1]);have v:((b:Int)!=0)=true:=by
  rw[JO];intro e;exact c (CM.1 (by show b.toNat=0;omega))
 have q:=j.out b;have k:=A6 ((Utf8.encode (b:Int)).toList=[b]) (by rw[BQ];exact l);generalize Utf8.encode (b:Int)=t at q k;have y:=Bo b;have b1:=Bf b;replace c:=H0 c;clear h1 l g;go_wp2;go_ret2;exact⟨t,JQ,H0 (by rw[hv.out];exact k),i⟩
def SH:Array AJ:= #[.int .i64 8364,.int .i64 129,.int .i64 8218,.int .i64 402,.int .i64 8222,.int .i64 8230,.int .i64 8224,.int .i64 8225,.int .i64 710,.int .i64 8240,.int .i64 352,.int .i64 8249,.int .i64 338,.int .i64 141,.int .i64 381,.int .i64 143,.int .i64 144,.int .i64 8216,.int .i64 8217,.int .i64 8220,.int .i64 8221,.int .i64 8226,.int .i64 8211,.int .i64 8212,.int .i64 732,.int .i64 8482,.int .i64 353,.int .i64 8250,.int .i64 339,.int .i64 157,.int .i64 382,.int .i64 376]
def Av3:∀k:Fin 32,SH[k.val]?=some (.int .i64 ((S3.getD k.val 0:Nat):Int)):=by
 intro k
 match k with
 |⟨0,_⟩=>rfl|⟨1,_⟩=>rfl|⟨2,_⟩=>rfl|⟨3,_⟩=>rfl|⟨4,_⟩=>rfl|⟨5,_⟩=>rfl|⟨6,_⟩=>rfl|⟨7,_⟩=>rfl|⟨8,_⟩=>rfl|⟨9,_⟩=>rfl|⟨10,_⟩=>rfl|⟨11,_⟩=>rfl|⟨12,_⟩=>rfl|⟨13,_⟩=>rfl|⟨14,_⟩=>rfl|⟨15,_⟩=>rfl|⟨16,_⟩=>rfl|⟨17,_⟩=>rfl|⟨18,_⟩=>rfl|⟨19,_⟩=>rfl|⟨20,_⟩=>rfl|⟨21,_⟩=>rfl|⟨22,_⟩=>rfl|⟨23,_⟩=>rfl|⟨24,_⟩=>rfl|⟨25,_⟩=>rfl|⟨26,_⟩=>rfl|⟨27,_⟩=>rfl|⟨28,_⟩=>rfl|⟨29,_⟩=>rfl|⟨30,_⟩=>rfl|⟨31,_⟩=>rfl|⟨n+32,h⟩=>omega
def Amx(n:Nat)(w:A7):AD A8 287 #[.int .i64 (n:Int)] w λe w'=>e=.returned (.int .i64 (Je n:Int))/\AF w w w':=by
 have c:=Ah w (.cells SH 241);by_cases h:128<=n/\n<=159
 ·obtain⟨k,rfl⟩:∃k,n=128+k:=⟨n-128,A4⟩;have g:k<32:=A4;have hv:=A6 (Je (128+k)=S3.getD k 0) (by unfold Je;rw[AC h,Nat.add_sub_cancel_left]);have a:=Av3 ⟨k,g⟩;generalize hve:S3.getD k 0=v at hv a;have h1:(128:Int)<=((128+k:Nat):Int):=A4;have i:((128+k:Nat):Int)<=159:=A4;have f:((128+k:Nat):Int)-128=(k:Int):=A4;have hc:(w.alloc (.cells SH 241)).cell? ⟨w,k,none⟩=some (.int .i64 (v:Int)):=(Ky _ _ _ _ rfl).trans a;generalize hz:((128+k:Nat):Int)=z at h1 i f⊢;go_in;go_wp2_with(refine Cw SH ?_);go_ret;exact⟨JQ,c⟩
 have hv:=A6 (Je n=n) (by unfold Je;rw[AA h]);have b:((n:Int)<128)\/(128<=(n:Int)/\159<(n:Int)):=A4;clear h;rcases b with d|⟨d,j⟩;all_goals
  go_in;go_wp2_with(refine Cw SH ?_);go_ret;exact⟨JQ,c⟩
def UC{o:Option (A5)}{t:A9}(h:o=some l)(a:t.toList=l)(b:AF w w w'):KL o w (.returned (.tuple #[.string t,.bool true])) w':=by
 subst h;exact⟨_,rfl,H0 a,b⟩
def AnF(h:BM w B E v l):(∃a c,v=.slice a l.length c)/\∀g n k,v=.slice (some ⟨g,0,none⟩) n k->g<w.heap.size:=by
 rcases h.2 with⟨rfl,j⟩|⟨g,d,b,rfl,i,f,_⟩
 ·simp_all
 exact⟨⟨_,_,rfl⟩,λg' n k e=>by cases e;exact(En.1 f).1⟩
def AnN(pa:Option Addr)(n c:Nat)(l:List Nat)(w:A7)(h:Fc w pa n c l)(hn:n<=1000000000):AD A8 354 #[.slice pa n c] w (KL (GX l) w):=by
 have bH:=h.len;have bG:=H0 h;clear h;obtain⟨R,hR⟩:=AI (GX l);rw[hR];by_cases h255:255<n
 ·exact AcP
 have iL:=A6 (R=if l.all Ce=true then some (Fv l (l.length+1) 128 (Dg l)).out else none) (by rw[<-hR];unfold GX;rw[AA A4]);replace bH:=H0 bH;go_in;go_wp2_with fail;go_loopw[4,20] (λv4 r5 wr=>∃k:Nat,r5=.int .i64 k/\k<=n/\BM wr w 5 v4 (DQ (l.take k))/\AF w w wr/\Hid ((l.take k).all Ce=true)) (λ_ r5 _=>n-(intOf r5).toNat)
 ·exact⟨0,rfl,AR _,BM.nil _ _ _,AU _ _,H0 rfl⟩
 obtain⟨k,rfl,X,a,hbel,j⟩:=hrel;have V:=hbel.size;by_cases G:k<n
 ·have T:=bG.out.below hbel (AG _);obtain⟨g,o,rfl,hc⟩:=T.cells A4;have i:k<l.length:=JN;have W:=hc k i;unfold Cd at W;have hbs:=Al0 l k i;have wD:=H0 (Ac4 i j);have hno:=H0 (Acv i);have B:(DQ (l.take k)).length<=k:=by
   rw[K5];have:=M6 128 (l.take k);exact OK
  obtain⟨x,hx⟩:=AI (l[k]);rw[hx]at W hbs wD hno;have cB:=H0 (λw=>Ajh x w);replace hc:=H0 hc;clear T;obtain⟨sb,cJ⟩:=AI (Ce x);rw[cJ]at cB;cases sb
  ·exact Ab2
  have aC:=H0 (wD.out cJ);by_cases u:x<128
  ·have hxI:(x:Int)<128:=A4;have uZ:(x:Int)=(((UInt8.ofNat x).toNat:Nat):Int):=by
    have:(UInt8.ofNat x).toNat=x:=B7;rw[this]
   rw[AC u]at hbs;change Hid _ at hbs uZ;have dZ:IntKind.u8.wrap (x:Int)=(x:Int):=NO;go_wp2_with fail;refine(cB.out _).mono (AH ?_);go_wp2_with(at_builtin;refine HZ Gc rfl _ _ rfl (UInt8.ofNat x) rfl rfl a hbel V uZ C1 A4 ?_;intro v' w' E bA _);go_roundw;exact⟨k+1,AP,A4,by rw[hbs.out];exact E,bA,aC⟩;exact AzF
  rw[AA u,Bq]at hbs;replace hbs:=H0 hbs;go_wp2_with fail;refine(cB.out _).mono (AH ?_);go_wp2_with fail;go_roundw;exact⟨k+1,AP,A4,by rw[hbs.out];exact a,hbel,aC⟩;exact AzF
 have dA:l.take k=l:=Bc JN;rw[dA]at a j;have O:=A6 (R=some (Fv l (l.length+1) 128 (Dg l)).out) (by rw[iL.out,AC j.out]);clear iL;have B:=M6 128 l;rw[<-K5,bH.out]at B;obtain⟨N0,lN⟩:∃N,(DQ l).length=N:=⟨_,rfl⟩;have j9:=A6 (N0=Io 128 l) (by rw[<-lN,K5]);obtain⟨⟨a4,c4,rfl⟩,kF⟩:=AnF a;rw[lN]at a⊢;have Q:=A6 ((Dg l).out=if N0=0 then[]else DQ l++[45]) (by
  exact Acs)
 rw[lN]at B;go_upto_if 38 with(fail);go_cut[4] (λs4 wx=>BM wx w 5 s4 (Dg l).out/\AF w w wx);case first=>as_aux_lemma=>
  by_cases h0:N0=0
  ·have rI:¬0<N0:=A4;rw[AC h0]at Q;have bK:BM wr w 5 (.slice a4 N0 c4) []:=by
    rw[NK.1 (lN.trans h0)]at a;exact a
   go_wp2_with fail;go_meet;exact⟨by rw[Q.out];exact bK,hbel⟩
  have rI:0<N0:=A4;rw[AA h0]at Q;have gH:(DQ l).length+1<=1000:=A4;go_wp2_with(at_builtin;refine HZ Gc rfl _ _ rfl 45 rfl rfl a hbel V rfl C1 A4 ?_;intro v' w' E bA _);go_meet;exact⟨by rw[Q.out];exact E,bA⟩
 ·obtain⟨gA,bS⟩:=hcut;have F:n=l.length:=bH.out.symm;clear a hbel V Q G dA;have uS:(Dg l).out.length<=256+40*N0:=by
   exact Aes
  have eC:(Dg l).done=N0:=by rw[j9.out,<-K5];rfl
  go_wp2_with fail;go_loopw[4,7,8,9,10,11] (λv4 J v8 v9 eT lA wr=>∃(f sg:Nat)(st:EK),BM wr w 5 v4 st.out/\J=.int .i64 (st.done:Int)/\v8=.int .i64 (st.d:Int)/\v9=.int .i64 (sg:Int)/\eT=.int .i64 (st.bias:Int)/\lA=.bool st.first/\AF w w wr/\n<st.done+f/\Hid (st.done=Io sg l)/\st.done<=n/\st.d<=257/\st.bias<=756/\st.out.length<=256+40*st.done/\sg<=1114112/\Hid (R=some (Fv l f sg st).out)) (λ_ J _ _ _ _ _=>n-(intOf J).toNat)
  ·exact⟨n+1,128,Dg l,gA,by rw[eC],rfl,rfl,rfl,rfl,bS,A4,H0 (by rw[eC];exact j9),A4,AR _,by show 72<=756;decide,by rw[eC];exact uS,A4,by rw[F];exact O⟩
  clear gA bS uS eC O j9 B;obtain⟨f,sg,⟨d0,eE,A,z,s⟩,a,rfl,rfl,rfl,rfl,rfl,hbel,vR,fQ,yJ,rY,kV,sL,hsgl,t⟩:=hrel;dsimp only at a vR fQ yJ rY kV sL t⊢;by_cases G:eE<n
  ·obtain⟨m,Y,xT,wH,bO⟩:=Akp (sg:=sg) (l:=l) (by rw[<-fQ.out];omega);obtain⟨f,rfl⟩:∃g,f=g+1:=⟨f-1,A4⟩;have hm11:m<=1114111:=U8 (Et.1 j m Y);have aJ:=Adw (f:=f) (st:=⟨d0,eE,A,z,s⟩) (show(⟨d0,eE,A,z,s⟩:EK).done<l.length by show eE<l.length;omega) xT;have H:=H0 (λw h=>AsC pa n c l sg w h hn);rw[xT]at H;obtain⟨e,he⟩:=AI (m-sg);obtain⟨p,hp⟩:=AI (e*(eE+1));have heI:(m:Int)-sg=(e:Int):=A4;have rA:(e:Int)*((eE:Int)+1)=(p:Int):=by rw[<-hp];simp
   have hpl:p<=284098305:=Aks;obtain⟨q,hq⟩:=AI (d0+p);have tR:(d0:Int)+p=(q:Int):=A4;have lY:Ld l sg m ⟨d0,eE,A,z,s⟩=⟨q,eE,A,z,s⟩:=by
    unfold Ld;dsimp only;rw[he,hp,hq]
   rw[lY]at aJ;have bM:=t.out;rw[aJ]at bM;have oB:=UY m l ⟨q,eE,A,z,s⟩;have pK:=(Yu m l ⟨q,eE,A,z,s⟩).2 Y;have M:0<l.count m:=List.count_pos_iff.2 Y;have hbs:=X0 bO wH;have m8:Og q eE 0 ⟨q,eE,A,z,s⟩:=⟨AG _,AG _,AG _,kV,sL⟩;have hBk:=H0 (λk X=>Xe (m:=m) (l:=l) m8 k X A4);clear aJ lY m8;have aV:=H0 (λk h=>XI m l k ⟨q,eE,A,z,s⟩ h);have rQ:=A6 (l.take n=l) (by rw[F];exact Li);have e1:(e:Int)<=1114111:=A4;have q1:(q:Int)<=284098562:=A4;have m0:0<=(m:Int):=A4;have m1:(m:Int)<=1114111:=A4;change Hid _ at bM oB pK M hbs xT he F Y bO wH;go_wp2_with fail;refine(H.out _ (bG.out.below hbel (AG _))).mono (AH ?_);go_wp2_with fail;go_loopw[4,7,8,10,11,60] (λv4 J v8 eT lA xL wr=>∃(k:Nat)(st:EK),BM wr w 5 v4 st.out/\J=.int .i64 (st.done:Int)/\v8=.int .i64 (st.d:Int)/\eT=.int .i64 (st.bias:Int)/\lA=.bool st.first/\xL=.int .i64 (k:Int)/\k<=n/\AF w w wr/\Hid ((l.take k).foldl (Cp m) ⟨q,eE,A,z,s⟩=st)) (λ_ _ _ _ _ xL _=>n-(intOf xL).toNat)
   ·exact⟨0,⟨q,eE,A,z,s⟩,a,rfl,Gq,rfl,rfl,rfl,AR _,hbel,H0 rfl⟩
   clear a hbel;obtain⟨k,⟨y,r,b1,K,L⟩,a,rfl,rfl,rfl,rfl,rfl,X,hbel,aF⟩:=hrel;dsimp only at a aF⊢;have V:=hbel.size;have oR:=hBk.out k (by rw[<-F.out];exact X);rw[aF.out]at oR;obtain⟨B1,B2,B3,B4,B5⟩:=oR;dsimp only at B1 B2 B3 B4 B5;have D1:(y:Int)<=284098820:=A4;have N1:(r:Int)<=1000:=A4;by_cases hkn:k<n
   ·have i:k<l.length:=by rw[<-F.out];exact hkn
    have T:=bG.out.below hbel (AG _);obtain⟨g,o,rfl,hc⟩:=T.cells A4;have W:=hc k i;unfold Cd at W;have b:=aV.out k i;rw[aF.out]at b;obtain⟨x,hx⟩:=AI (l[k]);rw[hx]at W b;replace hc:=H0 hc;clear T;unfold Cp at b;dsimp only at b;by_cases U:x=m
    ·subst U;rw[AC rfl]at b;have hwp:=H0 (Ao8 _ w y b1 L _ a V A4 A4 A4);have D:=H0 (λw=>Aev y (r+1) K w A4 A4 A4);rw[show((r+1:Nat):Int)=(r:Int)+1 from A4]at D;obtain⟨nb,lB⟩:=AI (Ha y (r+1) K);rw[lB]at b D;replace b:=H0 b;go_wp2_with fail;refine hwp.out.mono ?_;rintro e' w2⟨v2,rfl,ho2,hb2⟩;have hb3:=hbel.trans hb2;go_wp2_with fail;refine(D.out _).mono (AH ?_);go_wp2_with fail;go_roundw;exact⟨k+1,⟨0,r+1,nb,false,L++Fu y b1⟩,ho2,Gq,rfl,rfl,rfl,AP,A4,hb3,b⟩;exact AzF
    rw[AA U]at b;have hne:((x:Int)==m)=false:=DV;by_cases C:x<m
    ·rw[AC C]at b;replace b:=H0 b;go_wp2_with fail;go_roundw;exact⟨k+1,⟨y+1,r,b1,K,L⟩,a,rfl,Gq,rfl,rfl,AP,A4,hbel,b⟩;exact AzF
    rw[AA C]at b;replace b:=H0 b;go_wp2_with fail;go_roundw;exact⟨k+1,⟨y,r,b1,K,L⟩,a,rfl,rfl,rfl,rfl,AP,A4,hbel,b⟩;exact AzF
   have qN:k=n:=A4;have v:=aF.out;rw[qN,rQ.out]at v;have Z:=oB.out;have iP:=pK.out;have fP:=bM.out;rw[v]at Z iP fP;dsimp only at Z iP fP;have I:=hbs.out;rw[<-fQ.out,<-Z]at I;have yZ:=M.out;have hle:=M6 (m+1) l;rw[I]at hle;have hll:=F.out;have hd256:y<=255:=A4;have zU:r<=n:=A4;have hdng:eE<r:=A4;replace I:=H0 I.symm;change Hid _ at fP Z iP v yZ hll qN;go_wp2_with fail;go_roundw;exact⟨f,m+1,⟨y+1,r,b1,K,L⟩,a,rfl,Gq,Gq,rfl,rfl,hbel,by show n<r+f;omega,I,zU,by show y+1<=257;omega,B4,B5,A4,fP⟩;exact AzF
  have aD:=A6 (R=some s) (by
   rw[t.out,Ads (by show¬eE<l.length;omega)])
  have hcv:=Mh (P:=A8) (S:=9) underlying25 underlying5 underlying9 a;go_wp2_with fail;go_ret2;exact UC aD (toList_mk _) hbel
structure Bu(S:AT)(u:AZ):Prop where
 scheme:S.scheme.toList=u.scheme
 user:S.user.toList=u.user
 pass:S.pass.toList=u.pass
 host:S.host=AW u.host
 hasPort:S.hasPort=u.port.isSome
 port:S.port=((u.port.getD 0:Nat):Int)
 opq:S.flatP=u.opq
 flat:S.flat.toList=u.flat
 path:S.path.map (·.toList)=u.path
 hasQuery:S.hasQuery=u.query.isSome
 query:S.query.toList=u.query.getD []
 hasFrag:S.hasFrag=u.frag.isSome
 frag:S.frag.toList=u.frag.getD []
structure Cy(w:A7)(S:AT)(u:AZ):Prop where
 is:Bu S u
 path:EX w S.pathA S.path.length S.pathC S.path
 cap:S.path.length<=S.pathC
variable{u:AZ}
def Cy.below{K:Nat}{S:AT}(h:Cy w S u)(a:AF K w w')(b:w.heap.size<=K):Cy w' S u:=⟨h.is,h.path.below a b,h.cap⟩
def Cy.next{S:AT}(h:Cy w S u)(a:AF w w w'):Cy w' S u:=h.below a (AG _)
def Cy.inn{S:AT}(h:Cy w S u):HF w S:=by
 have⟨a,c,e,hc⟩:=h.path.read;cases e;exact hc
def zS:AT:=⟨⟨#[]⟩,⟨#[]⟩,⟨#[]⟩,AW .none,false,0,false,⟨#[]⟩,none,0,[],false,⟨#[]⟩,false,⟨#[]⟩⟩
def I2(w:A7):EX w none 0 0 []:=⟨rfl,⟨none,0,rfl,λh=>absurd h AE⟩,λ_=>rfl⟩
def Vv:Bu zS EH:=⟨toList_mk [],toList_mk [],toList_mk [],rfl,rfl,rfl,rfl,toList_mk [],rfl,rfl,toList_mk [],rfl,toList_mk []⟩
def AtR(w:A7):Cy w zS EH:=⟨Vv,I2 w,AG _⟩
def PJ:A8.built 34 []=some (AB zS):=AO
def EO(u:AT):(AB u).all (·.oneCell')=true:=AO
def Ah1(u:AT):(AB u).size=23:=rfl
def Bj(u:AT):(A8.info? 34).map (·.size)=some (AB u).size:=MG
def AtM:(A8.info? 9).map (·.size)=some 1:=AO
def At9:(A8.info? 4).map (·.size)=some 1:=AO
def Xk:(A8.info? 22).map (·.size)=some 1:=AO
def Ec{l:List A9}(h:OwnS w B 9 v l):∃pa c,v=.slice pa l.length c/\l.length<=c/\EX w pa l.length c l:=by
 have a:=h.read;rcases h.2 with⟨rfl,b⟩|⟨g,f,e,rfl,j,i,d,_⟩
 ·exact⟨none,0,by rw[b],A4,rfl,by rw[b];exact a,λ_=>rfl⟩
 exact⟨_,_,rfl,d,rfl,a,λh=>C5⟩
def Azj(l:A5)(h:Lib.hasSuffix l [59]=true):Lib.trimSuffix l [59]=l.dropLast:=by
 unfold Lib.trimSuffix;rw[AC h,OD];rfl
def Ayq(l:A5)(h:Lib.hasSuffix l [59]=false):Lib.trimSuffix l [59]=l:=by
 unfold Lib.trimSuffix;rw[AA AS]
def Ar2(s:A9)(w:A7)(i:s.size<=1099511627776):AD A8 166 #[.string s] w (KL (Ji s) w):=by
 have a:=λw=>Tryz.strings_CutSuffix s ⟨#[59]⟩ w A4;have e0:(ByteArray.mk #[59]).data.toList=[59]:=rfl;simp only[e0,<-BQ]at a;cases hb:Lib.hasSuffix s [59]
 ·have d:Ji s.toList=Nz s.toList:=by unfold Ji;rw[AA (by rw[hb];decide)]
  have b:(⟨(Lib.trimSuffix s [59]).toArray⟩:A9)=s:=by
   rw[Ayq _ hb];exact Lo (toList_mk _)
  simp only[hb,b]at a;have hf:=H0 (Ahy s);rw[d];generalize f:Nz s.toList=o at hf⊢;change Hid _ at hb d f a b;go_in;go_wp2_with fail;go_call a;refine AH ?_;go_wp2_with fail;go_call hf as e w2⟨t,rfl,b,hb⟩;cases o with
  |none=>
   go_wp2;go_ret2;exact Lp rfl hb
  |some x=>
   go_wp2;go_ret2;exact⟨t,rfl,b,hb⟩
 obtain⟨t,b⟩:∃t:A9,(⟨(Lib.trimSuffix s [59]).toArray⟩:A9)=t:=⟨_,rfl⟩;have g:t.toList=s.toList.dropLast:=by rw[<-b,Azj _ hb];exact toList_mk _
 simp only[hb,b]at a;have d:Ji s.toList=match Nz t with|some x=>some x|none=>JU t.toList:=by unfold Ji;rw[AC hb,g];rfl
 have hf:=H0 (Ahy t);have h:=H0 (AyR t);rw[d];obtain⟨o,f⟩:=AI (Nz t);obtain⟨j,c⟩:=AI (JU t);rw[f]at hf⊢;rw[c]at h⊢;change Hid _ at hb d f c a b g;go_in;go_wp2_with fail;go_call a;refine AH ?_;go_wp2_with fail;go_call hf as e w2⟨t2,rfl,ht2,hb⟩;cases o with
 |none=>
  go_wp2_with fail;go_call h as e w3⟨t3,rfl,ht3,hb3⟩;go_wp2;go_ret2;exact⟨t3,rfl,ht3,hb.next hb3⟩
 |some x=>
  go_wp2;go_ret2;exact⟨t2,rfl,ht2,hb⟩
def Ama:∀k:Fin 32,S3.getD k.val 0<=65536:=AX
def AsS(n:Nat)(h:n<=2147483647):Je n<=2147483647:=by
 unfold Je;split
 ·rename_i hh;have:=Ama ⟨n-0x80,A4⟩;dsimp only at this;omega
 exact h
def Aai(n:Nat)(w:A7)(g:n<=1114112):AD A8 234 #[.int .i64 (n:Int)] w (Bi w (It n)):=by
 by_cases f:n=0
 ·subst f;have a:=H0 (λw=>Qr 65533 AE w);have c:It 0=An 65533:=rfl;rw[c];generalize hL:An 65533=L at a⊢;change Hid _ at c hL;go_in;go_wp2_with fail;go_call a as e w1⟨t,rfl,ht,rfl⟩;go_wp2;go_ret;exact⟨t,rfl,ht,AU _ _⟩
 have c:It n=An (Je n):=by unfold It;rw[AA f]
 have d:=H0 (Amx n);have b:=AsS n A4;have a:=H0 (λw=>Qr (Je n) b w);rw[c];generalize hL:An (Je n)=L at a⊢;generalize hm:Je n=m at a d;have e0:((n:Int)==0)=false:=DV;change Hid _ at c hL hm b;go_in;go_wp2_with fail;go_call d as e w1⟨rfl,hb⟩;go_wp2_with fail;go_call a as e w2⟨t,rfl,ht,rfl⟩;go_wp2;go_ret;exact⟨t,rfl,ht,hb⟩
def AmT(c:UInt8)(w:A7):AD A8 167 #[.int .u8 (c:Int)] w (AzJ (.bool (QC c)) w):=by
 have f:=H0 (λw=>LG (c:Int) w);have k:=Bo c;have b1:=Bf c;have g:=H0 (λw=>GS (c:Int) 10 w k b1);have l:((c:Int)==61)=(c==61):=by
  rw[Fl,CW,CW];exact⟨λh=>CM.1 (by show c.toNat=61;omega),λh=>L4⟩
 have j:QC c=(CE (c:Int)||(decide (0<=AQ (c:Int) 10)||(c==61))):=by unfold QC;rw[Bool.or_assoc]
 rw[j];generalize CE (c:Int)=a at f⊢;generalize AQ (c:Int) 10=d at g⊢;have b:(0<=d/\decide (0<=d)=true)\/(d<0/\decide (0<=d)=false):=by
  by_cases h:0<=d
  ·exact .inl ⟨h,Bx h⟩
  exact .inr ⟨A4,BO h⟩
 go_in;cases a
 ·rcases b with⟨h1,i⟩|⟨h1,i⟩;all_goals
   rw[i];go_wp2_with(first|(go_call f;refine AH ?_)|(go_call g;refine AH ?_));go_ret;exact⟨AS,rfl⟩
 go_wp2_with(first|(go_call f;refine AH ?_)|(go_call g;refine AH ?_));go_ret;exact⟨AN,rfl⟩
end Go.Proofs.YtonomfeipkdmhaaGreatDoor
