/- Lemmas. -/
import Derived.Test.YtplmgfkghomelaaGreatDoorIns
import Derived.Deep.Draws
import Derived.Lib.OthersKept
import Derived.Lib.Join
import Derived.Lib.ItoaNum
import Derived.Lib.LaidTab
import Derived.Lib.ParseIntB
import Derived.Lib.SplitLaws
import Derived.Lib.AtoiErrMem
import Derived.Stop.IfaceNil
set_option linter.all false
namespace Go.Sx
open Go.RowKit
variable {Fs Fin:List Fa}{M β ρ ι γ κ:Type}{L Lr Lq Bq:List Item}{q N i j sz e n k c q' k2:Nat}{w0 w wb:World}{Z S js ks b Sb S0 eff Sp:List Nat}{P:Program}{T U d3 ty:TypeId}{x y a4:M}{p fr':Fr}{B e2 B0:Func}{R:Rp M}{l:List Oper}{v v' u:Value}{Q:Exit->Act->World->Prop}{r:ρ}{hs hs':List H}{xs t xs':List M}{f:Option ρ}{enc:β->List Value}{m m':List (Int×M)}{L1:List Nat->List Item}{A:Rp β}{a:Option Addr}{o a5:Option M}{fcs:ι->M->List Fa}{F k':Int}{vs:ι->M->List Value}{src:List Src}{z:M->Nat->Nat->ι->List Fa}{pd:List (Nat×Pn)}{g mm:Bool}{css:List (List Value)}{G:Rp γ}{kss:List (List Pa)}{ff:M->List Value->List Value}{ho:Option (Int×Value)}{vs2:κ->γ->List Value}{s:κ->γ->List Fa}{d:List (Int×β)}{E:List Pa}{I:List Value}{J V:Code}{K:Nat->List Nat->List Item}{O:Nat->List Item}{W:List Nat->Value->List Item}{X:Value->List Nat->List Nat->List Item}{Y:M->List Value}{a0:List (Int×List M)}{a1 a3:List Nat->Option Addr->Nat->List Item}{hh:H}{a6:M->Option ρ}{a7:M->List Item}{a8:M->List Fa}{a9:List (Nat×Value)}{b0:Oper}{b3 b4:Operand}{kd:IntKind}{b5:Value->Rp β}{b6:Nat->ι->β->List Value}{b7:Nat->ι->β->List Item}{b8:Nat->ι->β->List Fa}{c0:List β}{y2 y1:β}{c2 it':Item}{c3:Value->ι->β->List Value}{c4:Value->ι->β->List Fa}{C:Value->Rp M}{c5:ι->β->List Value}{c6:ι->β->List Fa}{c7:γ->List Value->List Value}{c8:γ->β}{c9:ι->List Fa}{h h0:AH}{d0:List AH}{d2:World->Prop}{d4:String}{e0:Array Edge}{gdd:Option (Nat×Bool)}{L0 e1:World×List Nat×List Nat->List Item}{e3 h':Option (Nat×List Value)}{need:Fa}{e4:Exit}{e5:LH}{e6 R':Ending->World->Prop}{e7:Nat->β}{D:World->List Nat->M->List Value->Prop}{Ss:List (List Nat)}{e8:FuncId}{e9:World->List Nat->ρ->Ending->World->Prop}
theorem jl.mapn:jl [5] q Fs (Jv A) (λ(i:Nat×List Nat)_=>[.map (some i.1)]) (λi y=>[mN i.1 A i.2 y none]) (λ_ _=>[]):=⟨by
 intro w0 Z w c S y a ho;have b:=(Jv A).nd w c S y ho;obtain ⟨r,rfl,h⟩:=ho;exact ⟨(r,S),rfl,ao.single (it:=mN r A S y none) h b rfl,trivial⟩⟩
theorem qJ.mapn(h:nth L j=some (mN q A S d none)):qJ [.r j] Fs L (Jv A) [j] [.map (some q)] d:=qJ.item h λw ho=>⟨q,rfl,ho⟩
theorem ao.nilI(h:ao w S L):ao w S (nilI::L):=ao.cons trivial m6 (λb a=>by cases a) (S2:=S) (λb a=>by cases a) h (λb a=>a)
theorem Adm.ne{ι:Type}{vs:ι->M->List Value}{d:ι->M->List Item}{fcs:ι->M->List Fa}{Lq L1:ι×List Nat->List Item}{z:ι×List Nat->List Fa}
  (r:nth Fs q=some (.el v' N i F xs x)) (G:nth L j=some (nI T R v' S xs' none)) (b:KR xs' xs) (t:jl ks e Fs R vs d fcs) (u:∀p,dp L j (nI T R v' p.2 xs' (some (F.toNat,vs p.1 x)))=some (Lq p)) (v:∀p,lX (Lq p) (nilI::d p.1 x)=some (L1 p)) (y:∀p,lX Fs (fcs p.1 x)=some (z p)):
  Adm (.ne j q e ks) Fs L L1 z:=⟨λw0 Z w a s=>by
 obtain ⟨A,c,B⟩:=zA a r;have b:=b.h;subst b;have g:L[j]? =some (nI T R v' S xs' none):=by grind [zP]
 obtain ⟨l,f,m,hl,C,n⟩:=s.nout j g A B;have ho:R.own w l m x:=n.all L.length (itI R l m x) (by simp);obtain ⟨k,rfl,D,E⟩:=t.o w0 Z w _ _ _ a ho;refine ⟨(k,f),?_,nD (y (k,f)) a E⟩;rw [bT (v (k,f)),qI (u (k,f))];exact n.spread D.nilI⟩
theorem Adm.nb0s
 (c:nth Fs q=some (.el v N i F xs x)) (d:gh L b []=some Lr) (e:nth Lr k=some (nI T R v' S xs' (some (n,I)))) (f:qJ (.s::E) Fs L R js I x) (h:KR xs' xs) (g:KR n F.toNat) (j:KR (zQ (js++b)) true)
 (l:∀a,dp Lr k (nI T R v' a xs' none)=some (L1 a)):Adm (.nb0 k q b (.s::E)) Fs L L1 (λ_=>Fs):=⟨(Adm.nb0 c d e f h g ⟨rfl⟩ ⟨rfl⟩ j l).o⟩
theorem EZ.consS{β:Type}{hl:∀J vs,(ff J vs).length=sz}{g:M->β}{A:Rp β}{z:β}(h:R=qO ff sz hl g A)(a:qJ E Fs L A Z I z)(b:KR (g y) z)(c:EZ kss Fs L R S css t):EZ ((.s::E)::kss) Fs L R (Z++S) (ff y I::css) (y::t):=EZ.cons (by subst h;exact qJ.st a ⟨rfl⟩ b) c
theorem GO.lyx{M:Type}{R:Rp M}{t:List M}(h:EZ kss Fs L R js css t)(a:gh L b []=some Lr)(c:KR (rwC l N p i) (some t.length))(d:KR css.length t.length)(e:KR (Nat.ble t.length 9223372036854775807) true)
 (hs:KR (sM p ((rwP l i).map (·.2))) true) (j:∀w,KR ((Instr.buildSlice (rwT l i) t.length ((rwP l i).toArray.map λ(i,J)=>(i,rho p J))).run P w) (.ok (.slice (some ⟨w.heap.size,0,none⟩) t.length t.length) (w.alloc (.cells (jP (fit R.sz) css).toArray T))))
 (k:KR (zQ (js++b)) true) (m:∀g S,vd Lr (nI T R (.slice (some ⟨g,0,none⟩) t.length t.length) S t none)=some (K g S)) (n:∀g S,GO hs' f r Fs (K g S) ((dst l i,.slice (some ⟨g,0,none⟩) t.length t.length)::p) P B N w0 Z l (i+1) Q):GO (.lyx T R b kss t::hs') f r Fs L p P B N w0 Z l i Q:=⟨(GO.ly h a c d e hs j k m n).o⟩
def Rq(l:List Oper)(N:Nat)(p:Fr)(i:Nat):Option TypeId:=match okO l N p i with
 |some ⟨_,.makeMap t none,_,_,_,_⟩=>some t
 |_=>none
theorem GO.mnN(b:KR (Rq l N p i).isSome true)(u:∀q,vd L (Sx.mN q R [q] ([]:List (Int×M)) none)=some (O q))
  (n:∀q,GO hs f r Fs (O q) ((dst l i,.map (some q))::p) P B N w0 Z l (i+1) Q):GO (.mnN R::hs) f r Fs L p P B N w0 Z l i Q:=⟨λw a s e=>by
 have b:=b.h;unfold Rq at b;split at b
 ·rename_i v x _ _ _ _ c
  obtain ⟨d,hl,k,g,m⟩:=jC c;simp only at g;subst g;refine OW.mnewN R s hl k m λq t y=> ?_
  have j:=(n q).o t a (by grind [vK]) e;rw [vn hl rfl] at j;exact j
 ·cases b⟩
def mlC(P:Program)(l:List Oper)(N:Nat)(p:Fr)(i:Nat):Option (Nat×Int×Bool×Value):=match okO l N p i with
 |some ⟨_,.lookup t x y g,_,_,_,_⟩=>match look p x,look p y,P.underlying t with
  |some (.map (some q)),some (.int .i64 k),some (.map a b)=>match P.underlying a,am P (zeroValue b) with
   |some (.int _),some v=>some (q,k,g,v)
   |_,_=>none
  |_,_,_=>none
 |_=>none
theorem wZ(h:mlC P l N p i=some (q,F,g,v)):
  ∃d t J V ty pos a gdd b c kd,vm l i=some ⟨some d,.lookup t J V g,ty,pos,a,gdd⟩/\gd l p ⟨some d,.lookup t J V g,ty,pos,a,gdd⟩=some true/\Nat.blt d N=true/\look p J=some (.map (some q))/\look p V=some (.int .i64 F)/\P.underlying t=some (.map b c)/\P.underlying b=some (.int kd)/\am P (zeroValue c)=some v:=by
 unfold mlC at h;split at h
 ·rename_i k t J V f ty pos a gdd e
  split at h
  ·rename_i q' k' b c m n o
   split at h
   ·rename_i kd j r s
    simp only [i5,o4] at h;obtain ⟨rfl,rfl,rfl,rfl⟩:=h;obtain ⟨d,hl,u,w,x⟩:=jC e
    grind
   ·cases h
  ·cases h
 ·cases h
def mlT(l:List Oper)(i:Nat):Bool:=match vm l i with
 |some ⟨_,.lookup _ _ _ g,_,_,_,_⟩=>g
 |_=>false
def mlV(g:Bool)(v:Value)(b:Bool):Value:=match g with
 |true=>.tuple #[v,.bool b]
 |false=>v
theorem GO.mlP(z:nth L j=some (Sx.mN q (vE U R) S m none))(K:Nf (mlT l i) g)(A:KR (mlC P l N p i) (some (q,F,g,.pointer none)))
  (M:∀b v,dp L j (Sx.mN q (vE U R) b m (some (F,v)))=some (W b v)) (O:∀v b c,vd (W b v) (itI (Bi U R) [v] c (jA m F))=some (X v b c))
  (n:∀v b c,GO hs f r Fs (X v b c) ((dst l i,mlV g v (jA m F).isSome)::p) P B N w0 Z l (i+1) Q):GO (.mlP j F::hs) f r Fs L p P B N w0 Z l i Q:=⟨λw a s e=>by
 obtain ⟨d,t,x,y,ty,pos,T,gdd,V,Y,kd,hl,C,k,D,E,G,I,J⟩:=wZ A.h;refine OW.mlook (Bi U R) (λo=>o) s j (by rw [<- zP];exact z) hl C k D E G I (.pointer none) J (λ_=>⟨rfl,rfl⟩) (λ_ _ _ _ h=>h) (λ_ _ _ _ h=>h) λv b c s'=> ?_
 have u:=(n v b c).o w a (by grind [vK,qI]) e;rw [vn hl rfl] at u;cases g<;>exact u⟩
theorem Sim.mapN(a:KR m m')(n:Sim L Lr):Sim (Go.Sx.mN q R S m none::L) (Go.Sx.mN q R S m' none::Lr):=⟨by rw [a.h,n.e]⟩
theorem GS.mlP(K:nth L j=some (Sx.mN q (vE U R) S m none))(h2:Nf (mlT l i) g)(M:KR (mlC P l N p i) (some (q,F,g,.pointer none)))(O:KR (Nat.blt i sz) true)
  (T:∀b v,dp L j (Sx.mN q (vE U R) b m (some (F,v)))=some (W b v)) (V:∀v b c,vd (W b v) (itI (Bi U R) [v] c (jA m F))=some (X v b c))
  (n:∀v b c,GS hs f r Fs (X v b c) ((dst l i,mlV g v (jA m F).isSome)::p) P B N w0 Z l (i+1) sz mm Q):GS (.mlP j F::hs) f r Fs L p P B N w0 Z l i sz mm Q:=⟨λw a s e=>by
 obtain ⟨d,t,x,y,ty,pos,af,gdd,tk,te,kd,hl,Y,z,A,C,D,E,G⟩:=wZ M.h;obtain ⟨v,b,c,h0,u,s'⟩:=s.mlookS (k:=F) (Bi U R) (λo=>o) j (by rw [<- zP];exact K) (.pointer none) (λ_=>⟨rfl,rfl⟩) (λ_ _ _ _ h=>h) (λ_ _ _ _ h=>h)
 have I:=(n v b c).o w a (by rw [vK (V v b c),qI (T b v)];exact s') e
 rw [vn hl rfl] at I;refine OS.op (v:=mlV g v (jA m F).isSome) hl O.h Y rfl z (λa J=> ?_) I;cases g
 ·exact Kv u rfl A C D E G a J
 ·exact Kw u rfl A C D E G a J⟩
theorem GO.mlR{k:∀V,(Y V).length=sz}{m:0<sz}(A:nth L j=some (Sx.mN q (nt T Y sz k m) S a0 none))(W:Nf (mlT l i) g)(C:KR (mlC P l N p i) (some (q,F,g,.slice none 0 0)))
  (X:∀b a J,dp L j (Sx.mN q (nt T Y sz k m) b a0 (some (F,.slice a ((jA a0 F).getD []).length J)))=some (a1 b a J)) (hL:∀b a J,vd (a1 b a J) (qk (.slice a ((jA a0 F).getD []).length J) T Y sz ((jA a0 F).getD []))=some (a3 b a J))
  (n:∀b a J,GO hs f r Fs (a3 b a J) ((dst l i,mlV g (.slice a ((jA a0 F).getD []).length J) (jA a0 F).isSome)::p) P B N w0 Z l (i+1) Q):GO (.mlR j F::hs) f r Fs L p P B N w0 Z l i Q:=⟨λw a s e=>by
 obtain ⟨d,t,V,y,ty,pos,af,gdd,tk,te,kd,hl,D,u,E,G,I,K,M⟩:=wZ C.h;refine OW.mlook (nt T Y sz k m) (λo=>o.getD []) s j (by rw [<- zP];exact A) hl D u E G I K (.slice none 0 0) M (λw=>⟨_,rfl,rfl,dH.nil w _ _ none⟩) (λ_ _ _ _ h=>h) (λ_ _ _ _ h=>h) λv b S2 O=> ?_
 have c:(L.set j (Sx.mN q (nt T Y sz k m) b a0 (some (F,v)))).length=L.length:=by simp
 have x:=O.toRow1 L.length (by rw [y5 (by simp)];simp;rfl);rw [R8 _ _ (by simp)] at x;simp only [c,Nat.sub_self,List.set_cons_zero] at x;obtain ⟨_,R,U,rfl⟩:=x.len L.length (by rw [y5 (by simp)];simp;rfl);have z:=(n b R U).o w a (by grind [vK,qI]) e;rw [vn hl rfl] at z;cases g<;>exact z⟩
def muC(P:Program)(l:List Oper)(p:Fr)(i:Nat):Option (Nat×Int×Value):=match vm l i with
 |some ⟨none,.mapUpdate t x y z,ty,pos,a,g⟩=>match gd l p ⟨none,.mapUpdate t x y z,ty,pos,a,g⟩,look p x,look p y,look p z with
  |some true,some (.map (some q)),some (.int .i64 k),some v=>match P.underlying t with
   |some (.map b _)=>match P.underlying b with
    |some (.int _)=>some (q,k,v)
    |_=>none
   |_=>none
  |_,_,_,_=>none
 |_=>none
theorem E1(h:muC P l p i=some (q,F,v)):
  ∃t J V z ty pos a gdd b c kd,vm l i=some ⟨none,.mapUpdate t J V z,ty,pos,a,gdd⟩/\gd l p ⟨none,.mapUpdate t J V z,ty,pos,a,gdd⟩=some true/\look p J=some (.map (some q))/\look p V=some (.int .i64 F)/\look p z=some v/\P.underlying t=some (.map b c)/\P.underlying b=some (.int kd):=by
 unfold muC at h
 grind
theorem GO.mpG
  (k:∀k' a4,ho=some (k',a4)->k'=F) (G:gh L b []=some Lr) (Y:nth Lr j=some (Sx.mN q R S m ho)) (I:qJ E Fs L R js [v] a4) (J:KR (muC P l p i) (some (q,F,v))) (K:KR (zQ (js++b)) true)
  (hL:∀d,dp Lr j (Sx.mN q R d (mput m F a4) none)=some (L1 d)) (n:∀d,GO hs f r Fs (L1 d) p P B N w0 Z l (i+1) Q):GO (hh::hs) f r Fs L p P B N w0 Z l i Q:=⟨λw a s e=>by
 obtain ⟨t,x,y,z,ty,pos,af,gdd,tk,te,kd,hl,M,O,T,U,V,A⟩:=E1 J.h;obtain ⟨C,W⟩:=gD I G K.h a s;have c:Lr[j]? =some (Sx.mN q R S m ho):=by grind [zP]
 have g:j<Lr.length:=(zes.1 c).1;refine OW.mputN (S2:=C) (u:=a4) W j Lr.length (Nd (Nat.ne_of_lt g)) (by rw [x8 g,c]) k (by simp) hl M O T U V A λd X D=> ?_
 rw [pR c,R8 _ _ (by simp)] at D;simp at D;exact (n d).o X a (by grind [qI,kj]) e⟩
theorem GO.mq
 (d:gh L b []=some Lr) (g:nth Lr j=some (Sx.mN q R S m (some (k',v')))) (c:KR k' F) (k:qJ E Fs L R js [v] x) (o:KR (muC P l p i) (some (q,F,v))) (s:KR (zQ (js++b)) true)
 (t:∀a,dp Lr j (Sx.mN q R a (mput m F x) none)=some (L1 a)) (n:∀a,GO hs f r Fs (L1 a) p P B N w0 Z l (i+1) Q):GO (.mq j F b E::hs) f r Fs L p P B N w0 Z l i Q:=GO.mpG (λ_ _ e=>by cases e;exact c.h) d g k o s t n
def muV(P:Program)(l:List Oper)(p:Fr)(i:Nat):Value:=match muC P l p i with
 |some (_,_,v)=>v
 |none=>undef
theorem GO.mh
  (d:nth L j=some (Sx.mN q R S m none)) (g:KR (muC P l p i) (some (q,F,muV P l p i))) (E:∀b,dp L j (Sx.mN q R b (mput m F a4) (some (F,muV P l p i)))=some (L1 b)) (n:∀b,GO hs f r Fs (L1 b) p P B N w0 Z l (i+1) Q):GO (.mh j F a4::hs) f r Fs L p P B N w0 Z l i Q:=⟨λw a s e=>by
 obtain ⟨t,x,y,z,ty,pos,G,gdd,I,J,kd,hl,k,u,v,A,C,c⟩:=E1 g.h;refine OW.mputH s j a4 (by rw [<- zP];exact d) (λ_ _ e=>by cases e) hl k u v A C c λb D K=> ?_
 exact (n b).o D a (by grind [qI]) e⟩
def mdC(P:Program)(l:List Oper)(p:Fr)(i:Nat):Option (Nat×Int):=match vm l i with
 |some ⟨none,.call ⟨.builtin .delete,⟨[x,y]⟩,⟨t::a⟩⟩,ty,pos,b,g⟩=>match gd l p ⟨none,.call ⟨.builtin .delete,⟨[x,y]⟩,⟨t::a⟩⟩,ty,pos,b,g⟩,look p x,look p y,P.underlying t with
  |some true,some (.map (some q)),some (.int .i64 k),some (.map c _)=>match P.underlying c with
   |some (.int _)=>some (q,k)
   |_=>none
  |_,_,_,_=>none
 |_=>none
theorem GO.md(d:nth L j=some (Sx.mN q R S m none))(b:KR (mdC P l p i) (some (q,F)))(E:∀c,dp L j (Sx.mN q R c (mdel m F) none)=some (L1 c))
  (n:∀c,GO hs f r Fs (L1 c) p P B N w0 Z l (i+1) Q):GO (.md j F::hs) f r Fs L p P B N w0 Z l i Q:=⟨λw a s e=>by
 have b:=b.h;unfold mdC at b;split at b
 ·rename_i x y t k ty pos G g hl
  split at b
  ·rename_i q' k' I J u v z A
   split at b
   ·rename_i kd C
    simp only [i5,o4] at b;obtain ⟨rfl,rfl⟩:=b;refine OW.mdelN (ats:=t::k) s j (by rw [<- zP];exact d) hl u rfl v z A C λc D K=> ?_
    exact (n c).o D a (by grind [qI]) e
   ·cases b
  ·cases b
 ·cases b⟩
def llC(P:Program)(l:List Oper)(N:Nat)(p:Fr)(i:Nat):Option Nat:=match okO l N p i with
 |some ⟨_,.call ⟨.builtin .len,⟨[x]⟩,⟨t::_⟩⟩,_,_,_,_⟩=>match look p x,P.underlying t with
  |some (.map (some q)),some (.map _ _)=>some q
  |_,_=>none
 |_=>none
theorem GO.ll(u:nth L j=some (Sx.mN q R S m ho))(b:KR (llC P l N p i) (some q))
  (n:GO hs f r Fs L ((dst l i,.int .i64 (m.length:Int))::p) P B N w0 Z l (i+1) Q):GO (.ll j::hs) f r Fs L p P B N w0 Z l i Q:=⟨λw a s e=>by
 have b:=b.h;unfold llC at b;split at b
 ·rename_i D x t v _ _ _ _ c
  split at b
  ·rename_i q' E F y z
   simp only [i5] at b;subst b;obtain ⟨d,hl,A,g,C⟩:=jC c;simp only at g;subst g;refine j7 hl A rfl C (JE (ats:=t::v) s j (by rw [<- zP];exact u) rfl rfl y z) ?_
   have k:=n.o w a s e;rw [vn hl rfl] at k;exact k
  ·cases b
 ·cases b⟩
theorem Dq{γ:Type}{e:Rp γ}{ff:Option M->γ}{y:γ}(l:gh L b []=some Lr)(t:nth Lr k=some (Sx.mN q R S m (some (F,v))))(n:qJ E Fs L e js [v] y)
  (d:∀w g S J,e.own w g S (ff (some J))->R.own w g S J) (o:zQ (js++b)=true) (z:M) (p:(jA m F).isSome=true->y=ff (some z)) (a:bS w0 Z Fs) (s:St w0 Z w L):∃i,St w0 Z w (Lr.set k (Sx.mN q R i (uI m F z) none)):=by
 obtain ⟨j,r⟩:=gD n l o a s;have h:Lr[k]? =some (Sx.mN q R S m (some (F,v))):=by grind [zP]
 have c:k<Lr.length:=(zes.1 h).1;obtain ⟨i,u⟩:=r.mback (f:=ff) k Lr.length (S2:=j) (Nd (Nat.ne_of_lt c)) (by rw [x8 c,h]) (by simp) d z p
 grind [pR,kj]
theorem E3{γ:Type}{e:Rp γ}{ff:Option M->γ}(l:gh L b []=some Lr)(r:nth Lr k=some (Sx.mN q R S m (some (F,v))))(n:qJ E Fs L e js [v] (ff (jA m F)))
  (d:∀w g S J,e.own w g S (ff (some J))->R.own w g S J) (o:zQ (js++b)=true) (a:bS w0 Z Fs) (s:St w0 Z w L):∃i,St w0 Z w (Lr.set k (Sx.mN q R i m none)):=by
 obtain ⟨j,p⟩:=gD n l o a s;have h:Lr[k]? =some (Sx.mN q R S m (some (F,v))):=by grind [zP]
 have c:k<Lr.length:=(zes.1 h).1;obtain ⟨i,t⟩:=p.mback0 (f:=ff) k Lr.length (S2:=j) (Nd (Nat.ne_of_lt c)) (by rw [x8 c,h]) (by simp) d
 grind [pR,kj]
theorem Adm.mb0(f:gh L b []=some Lr)(g:nth Lr k=some (Sx.mN q (vE U R) S m (some (F,v))))(i:qJ E Fs L (Bi U R) js [v'] a5)
  (c:KR v' v) (d:KR a5 (jA m F)) (j:KR (zQ (js++b)) true) (l:∀e,dp Lr k (Sx.mN q (vE U R) e m none)=some (L1 e)):Adm (.mb0 k b E) Fs L L1 (λ_=>Fs):=⟨λw0 Z w a s=>by
 have c:=c.h;have d:=d.h;subst c d;obtain ⟨e,n⟩:=E3 (ff:=λo=>o) f g i (λ_ _ _ _ h=>h) j.h a s
 grind [qI]⟩
theorem Adm.mb0r{c:∀J,(Y J).length=sz}{d:0<sz}(i:gh L b []=some Lr)(j:nth Lr k=some (Sx.mN q (nt T Y sz c d) S a0 (some (F,v))))(l:qJ E Fs L (nt T Y sz c d) js [v'] xs)
  (e:KR v' v) (f:KR xs ((jA a0 F).getD [])) (m:KR (zQ (js++b)) true) (n:∀g,dp Lr k (Sx.mN q (nt T Y sz c d) g a0 none)=some (L1 g)):Adm (.mbr k b E) Fs L L1 (λ_=>Fs):=⟨λw0 Z w a s=>by
 have e:=e.h;have f:=f.h;subst e f;obtain ⟨g,p⟩:=E3 (ff:=λo=>o.getD []) i j l (λ_ _ _ _ h=>h) m.h a s
 grind [qI]⟩
theorem Adm.mb(e:gh L b []=some Lr)(f:nth Lr k=some (Sx.mN q (vE U R) S m (some (F,v))))(g:qJ E Fs L (Bi U R) js [v'] (some y))
  (c:KR v' v) (i:KR (zQ (js++b)) true) (j:∀d,dp Lr k (Sx.mN q (vE U R) d (uI m F y) none)=some (L1 d)):Adm (.mb k b E) Fs L L1 (λ_=>Fs):=⟨λw0 Z w a s=>by
 have c:=c.h;subst c;obtain ⟨d,l⟩:=Dq (ff:=λo=>o) e f g (λ_ _ _ _ h=>h) i.h y (λ_=>rfl) a s
 grind [qI]⟩
theorem Adm.mbf(f:nth Fs e=some (.oe o x))(g:gh L b []=some Lr)(i:nth Lr k=some (Sx.mN q (vE U R) S m (some (F,v))))(j:qJ E Fs L (Bi U R) js [v'] (some y))
  (c:KR v' v) (ho:KR o (jA m F)) (l:KR x y) (n:KR (zQ (js++b)) true) (t:∀d,dp Lr k (Sx.mN q (vE U R) d m none)=some (L1 d)):Adm (.mbf k e b E) Fs L L1 (λ_=>Fs):=⟨λw0 Z w a s=>by
 have c:=c.h;subst c;have p:o=some x:=zA a f;obtain ⟨d,r⟩:=Dq (ff:=λo=>o) g i j (λ_ _ _ _ h=>h) n.h y (λ_=>rfl) a s;rw [uA (by rw [<- ho.h,p,l.h])] at r
 grind [qI]⟩
theorem Adm.mbp(f:gh L b []=some Lr)(g:nth Lr k=some (Sx.mN q (vE U R) S (mput m k' x) (some (F,v))))(i:qJ E Fs L (Bi U R) js [v'] (some y))
  (c:KR v' v) (ho:KR k' F) (d:KR x y) (j:KR (zQ (js++b)) true) (l:∀e,dp Lr k (Sx.mN q (vE U R) e (mput m k' x) none)=some (L1 e)):Adm (.mbp k b E) Fs L L1 (λ_=>Fs):=⟨λw0 Z w a s=>by
 have c:=c.h;have ho:=ho.h;have d:=d.h;subst c ho d;obtain ⟨e,n⟩:=Dq (ff:=λo=>o) f g i (λ_ _ _ _ h=>h) j.h x (λ_=>rfl) a s
 grind [uA,Ba,qI]⟩
theorem GO.fO(c:nth L j=some (itI (Bi U R) [u] S o))(d:∀y,dp L j (itI (vE U R) [u] S y)=some (a7 y))(e:∀y,vd Fs (.oe o y)=some (a8 y))(n:∀y b,u=.pointer (some ⟨b,0,none⟩)->GO hs (a6 y) r (a8 y) (a7 y) p P B N w0 Z l i Q):GO (.fO j::hs) (o.bind a6) r Fs L p P B N w0 Z l i Q:=⟨λw a s q=>by
 obtain ⟨y,h,f⟩:=zL q;obtain ⟨g,b,k⟩:=E0 c (d y) s h;exact (n y b k).o w (jv (F:=.oe o y) a h (e y)) g f⟩
theorem GS.fO(d:nth L j=some (itI (Bi U R) [u] S o))(e:∀y,dp L j (itI (vE U R) [u] S y)=some (a7 y))(f:∀y,vd Fs (.oe o y)=some (a8 y))(n:∀y b,u=.pointer (some ⟨b,0,none⟩)->GS hs (a6 y) r (a8 y) (a7 y) p P B N w0 Z l i c g Q):GS (.fO j::hs) (o.bind a6) r Fs L p P B N w0 Z l i c g Q:=⟨λw a s q=>by
 obtain ⟨y,h,k⟩:=zL q;obtain ⟨m,b,t⟩:=E0 d (e y) s h;exact (n y b t).o w (jv (F:=.oe o y) a h (f y)) m k⟩
theorem GP.fO(c:nth L j=some (itI (Bi U R) [u] S o))(d:∀y,dp L j (itI (vE U R) [u] S y)=some (a7 y))(e:∀y,vd Fs (.oe o y)=some (a8 y))(n:∀y b,u=.pointer (some ⟨b,0,none⟩)->GP hs (a6 y) r (a8 y) (a7 y) p P B N w0 Z l js eff pd Q):GP (.fO j::hs) (o.bind a6) r Fs L p P B N w0 Z l js eff pd Q:=⟨λw a s q=>by
 obtain ⟨y,h,f⟩:=zL q;obtain ⟨g,b,i⟩:=E0 c (d y) s h;exact (n y b i).o w (jv (F:=.oe o y) a h (e y)) g f⟩
open Go.RowKit Go.Sort
theorem CI{M:Type}{enc:M->List Value}{sz:Nat}(a:∀x,(enc x).length=sz):∀{xs:List M} {t:Nat} {u:M},xs[t]? =some u->((jP enc xs).drop (t*sz)).take sz=enc u
 |[],t,u,h=>by simp at h
 |x::r,0,u,h=>by
  simp at h;subst h;simp only [jP,Nat.zero_mul,List.drop_zero];rw [y7 (by rw [a];omega),r9 (by rw [a];omega)]
 |x::r,t+1,u,h=>by
  have:=CI a (xs:=r) (t:=t) (u:=u) (by simpa using h);simp only [jP]
  have e:(enc x++jP enc r).drop ((t+1)*sz)=(jP enc r).drop (t*sz):=by
   rw [show (t+1)*sz=sz+t*sz by rw [t8];omega,<- yj,List.drop_left' (a x)]
  rw [e];exact this
theorem LR{M:Type}{enc:M->List Value}{xs:List M}{sz:Nat}{u:M}(ho:b0.op=.index i b3 b4)(c:look a9 b3=some (.agg (jP enc xs).toArray))(d:look a9 b4=some (.int kd F))
  (f:P.underlying i=some (.array n e)) (hs:am P (sizeOf e)=some sz) (g:am P (isAgg e)=some true) (j:∀b3,(enc b3).length=sz) (m:xs.length=n) (h:idx xs F=some u):
  ∀a w,Rep N a9 a->(execOp a.eval b0).run P w=.ok (.value (.agg (enc u).toArray)) w:=by
 intro a w b;have e1:=b.look c;have e2:=b.look d;unfold idx at h;split at h
 case isFalse=>cases h
 rename_i h0
 have k:=(zes.1 h).1;have l:F<(n:Int):=by omega
 have:=CI j h
 have e3:(jP enc xs).toArray.extract (F.toNat*sz) (F.toNat*sz+sz)=(enc u).toArray:=by
  rw [<- this];simp [List.take_drop]
 simp [execOp,ho,Instr.index,e1,e2,asIntOf,run_underlying f,h0,l,part,qV hs,qV g,e3];exact this
open Go.RowKit
def bytesOf(s:ByteArray):List Int:=s.data.toList.map λb=>(b.toNat:Int)
open Go.RowKit
open Go.RowKit
theorem jl.len:jl [9] q Fs (Mq β) (λ(i:Option Addr×Nat)y=>[.slice i.1 y.length i.2]) (λi y=>[itI (Mq β) [.slice i.1 y.length i.2] [] y]) (λ_ _=>[]):=⟨by
 rintro w0 Z w b S y a ⟨rfl,p,c,rfl⟩;exact ⟨(p,c),rfl,ao.single (it:=itI (Mq β) [.slice p y.length c] [] y) ⟨rfl,p,c,rfl⟩ m6 rfl,trivial⟩⟩
theorem jl.gho{γ:Type}{G:Rp γ}{f:∀v,(b5 v).sz=n}
  (h:∀b:Nat,jl ks q Fs (b5 (.pointer (some ⟨b,0,none⟩))) (b6 b) (b7 b) (b8 b)):
  jl (10::ks) q Fs (No (vE U G) b5 n f) (λ(i:Nat×List Nat×ι)y=>b6 i.1 i.2.2 y.2) (λi y=>itI (vE U G) [.pointer (some ⟨i.1,0,none⟩)] i.2.1 y.1::b7 i.1 i.2.2 y.2) (λi y=>b8 i.1 i.2.2 y.2):=⟨by
 rintro w0 Z w t S y a ⟨u,g,x,rfl,j,c,k⟩;have l:=(vE U G).nd w _ g y.1 c;have d:=c;obtain ⟨b,m,e,p,rfl,z⟩:=d;obtain rfl:u=.pointer (some ⟨b,0,none⟩):=by simpa using p
 obtain ⟨i,rfl,r,s⟩:=(h b).o w0 Z w _ _ _ a k;exact ⟨(b,b::e,i),rfl,(ao.single (it:=itI (vE U G) [.pointer (some ⟨b,0,none⟩)] (b::e) y.1) c l rfl).app r j,s⟩⟩
theorem jl.rdn{β:Type}{R:Rp β}{h:0<R.sz}(b:nth Fs q=some (.bo wb Sb)):
  jl [11] q Fs (rdP (kS T R h) wb Sb) (λ(i:Option Addr×Nat)y=>[.slice i.1 y.length i.2]) (λ_ _=>[]) (λi y=>[.rbn wb Sb (.slice i.1 y.length i.2) R y,.rn (.slice i.1 y.length i.2) R y]):=⟨by
 rintro w0 Z w d S y a ⟨rfl,v,rfl,ho⟩;obtain ⟨_,p,c,rfl⟩:=RdN.len ho;exact ⟨(p,c),rfl,ao.nil,ho,ho.bor h (zA a b),trivial⟩⟩
theorem qJ.len(b:nth L j=some (jS q T I))(d:nth I k=some (.slice a c0.length c)):qJ [.ln j k] Fs L (Mq β) [] [.slice a c0.length c] c0:=⟨λw0 Z w e s h=>⟨[],⟨rfl,a,c,rfl⟩,m6,by simp⟩⟩
theorem qJ.rdn{β:Type}{R:Rp β}{h:0<R.sz}{xs:List β}(b:nth Fs e=some (.rbn wb Sb v R xs)):qJ [.f e] Fs L (rdP (kS T R h) wb Sb) [] [v] xs:=⟨λw0 Z w c a s=>
 ⟨[],⟨rfl,v,rfl,zA a b⟩,m6,by simp⟩⟩
theorem qJ.gho{γ:Type}{G:Rp γ}{k:∀v,(b5 v).sz=n}{y1:γ}(l:nth L j=some (itI G [u] S y1))(h:qJ E Fs L (b5 u) js I y2):
  qJ (.g j::E) Fs L (No G b5 n k) (j::js) I (y1,y2):=⟨λw0 Z w m a s=>by
 have c:zQ ([j]++js)=true:=m;obtain ⟨d,p,q,r⟩:=(qJ.it (Fs:=Fs) (A:=G) l).o w0 Z w (dC c) a s;obtain ⟨f,t,x,y⟩:=h.o w0 Z w (lZ c) a s;have z:∀b∈d,b∉f:=λb i B=>sE s c b (r b i) (y b B)
 refine ⟨d++f,⟨u,d,f,rfl,z,p,t⟩,k7.2 ⟨q,x,λa C b i e=>by grind⟩,λb i=> ?_⟩
 grind [fp,sel,wW,HP]⟩
theorem Giv.po(c:nth L j=some (pU wb Sp))(b:KR (mem? j js) false)(n:Giv src Fs L js Fin):Giv (.po j::src) Fs L js (.bo wb (coS wb Sp)::Fin):=
 ⟨λw0 Z w a s=>⟨s.pool j (by grind [zP]) js b.h,n.g w0 Z w a s⟩⟩
theorem St.alter(s:St w0 Z w L)(j:Nat)(d:L[j]? =some c2)(h:it'.Φ w)(g:it'.S=c2.S):St w0 Z w (L.set j it'):=by
 have i:=(zes.1 d).1
 have k:∀(m:Nat)(x:Item),(L.set j it')[m]? =some x->(m=j/\x=it')\/L[m]? =some x:=λm x a=>by
  grind
 refine s.repart (λm x a=> ?_) (λm n x y e a l b c o=> ?_)
 ·rcases k m x a with ⟨rfl,rfl⟩|a
  ·exact ⟨h,by rw [g];exact s.nd _ c2 d,λb c=>vy.2 ⟨_,c2,d,by rw [<- g];exact c⟩⟩
  ·exact ⟨s.all m x a,s.nd m x a,λb c=>vy.2 ⟨m,x,a,c⟩⟩
 ·have f:∀(m:Nat)(x:Item),(L.set j it')[m]? =some x->∃y,L[m]? =some y/\y.S=x.S:=λm x a=>by
   grind
  obtain ⟨p,q,r⟩:=f m x a;obtain ⟨t,u,v⟩:=f n y l;exact s.apart m n p t e q u b (by rw [r];exact c) (by rw [v];exact o)
theorem Kq(d:nth L j=some (itI (Kt T Y) [u] S o))(s:St w0 Z w L)(ho:o=some y):∃b A C,u=.pointer (some ⟨b,A.length,none⟩)/\St w0 Z w (L.set j (dm b T A (Y y) C)):=by
 subst ho;have h:L[j]? =some (itI (Kt T Y) [u] S (some y)):=by grind [zP]
 obtain ⟨b,A,C,a,e,c⟩:=s.all j _ h;exact ⟨b,A,C,by simpa using a,s.alter j h c (by grind [itI,dm,jS])⟩
theorem qJ.prn{β:Type}{enc:β->List Value}:qJ [.on] Fs L (Kt T enc) [] [.pointer none] none:=⟨λw0 Z w h a s=>⟨[],⟨rfl,rfl⟩,m6,by simp⟩⟩
theorem qJ.pb{β:Type}{enc:β->List Value}{x:β}(a:nth L j=some (jS q T I))(b:KR (I.take N).length N)(hs:KR I (I.take N++(enc x++I.drop (N+n)))):qJ [.pb j N n] Fs L (Kt T enc) [j] [.pointer (some ⟨q,N,none⟩)] (some x):=
 qJ.item a λw ho=>⟨q,I.take N,I.drop (N+n),by rw [b.h],rfl,by rw [<- hs.h];exact ho⟩
open Go.RowKit
structure aB {β ι:Type} (ks:List Nat) (q:Nat) (Fs:List Fa) (A:Rp β) (vs:ι->β->List Value) (fcs:ι->β->List Fa):Prop where
 o:∀w0 Z cs y,bS w0 Z Fs->A.rd w0 Z y cs->∃i,cs=vs i y/\bS w0 Z (fcs i y)
structure mc {β ι:Type} (ks:List Nat) (q:Nat) (Fs:List Fa) (wb:World) (Sb:List Nat) (A:Rp β) (vs:ι->β->List Value) (fcs:ι->β->List Fa):Prop where
 o:∀w0 Z cs y,bS w0 Z Fs->A.rd wb Sb y cs->∃i,cs=vs i y/\bS w0 Z (fcs i y)
theorem aB.row{b:∀x,(enc x).length=sz}{d:0<sz}:
  aB [1] q Fs (nt T enc sz b d) (λ(i:Option Addr×Nat)y=>[.slice i.1 y.length i.2]) (λi y=>[.rd (.slice i.1 y.length i.2) enc sz y]):=⟨by
 rintro w Z e y a ⟨v,rfl,h⟩;obtain ⟨_,a,c,rfl⟩:=Rd.len h;exact ⟨(a,c),rfl,h,trivial⟩⟩
theorem aB.nrow{β:Type}{R:Rp β}{b:0<R.sz}:
  aB [2] q Fs (kS T R b) (λ(i:Option Addr×Nat)y=>[.slice i.1 y.length i.2]) (λi y=>[.rn (.slice i.1 y.length i.2) R y]):=⟨by
 rintro w Z d y a ⟨v,rfl,h⟩;obtain ⟨_,a,c,rfl⟩:=RdN.len h;exact ⟨(a,c),rfl,h,trivial⟩⟩
theorem aB.any{β:Type}{A:Rp β}(b:KR A.sz 1):aB [4] q Fs A (λ(i:Value)_=>[i]) (λi y=>[.ri i A y]):=⟨by
 intro w Z c y a h;have hl:=A.rlen _ _ _ _ h;rw [b.h] at hl
 match c,hl,h with
 |[v],_,h=>exact ⟨v,rfl,h,trivial⟩⟩
theorem aB.ptr:aB [5] q Fs (vE U A) (λ(i:Nat)_=>[.pointer (some ⟨i,0,none⟩)]) (λi y=>[.ri (.pointer (some ⟨i,0,none⟩)) (vE U A) y]):=⟨by
 rintro w Z d y a ⟨b,c,rfl,h⟩;exact ⟨b,rfl,⟨b,c,rfl,h⟩,trivial⟩⟩
theorem aB.bor(h:nth Fs q=some (.bo wb Sb)):
  aB [6] q Fs (HK wb Sb enc sz) (λ(i:Option Addr×Nat)y=>[.slice i.1 y.length i.2]) (λi y=>[.rb wb Sb (.slice i.1 y.length i.2) enc sz y,.rd (.slice i.1 y.length i.2) enc sz y]):=⟨by
 rintro w0 Z b y a ⟨v,rfl,ho⟩;obtain ⟨_,p,c,rfl⟩:=Rd.len ho;exact ⟨(p,c),rfl,ho,ho.bor (zA a h),trivial⟩⟩
theorem aB.rdn{β:Type}{R:Rp β}{h:0<R.sz}(b:nth Fs q=some (.bo wb Sb)):
  aB [7] q Fs (rdP (kS T R h) wb Sb) (λ(i:Option Addr×Nat)y=>[.slice i.1 y.length i.2]) (λi y=>[.rbn wb Sb (.slice i.1 y.length i.2) R y,.rn (.slice i.1 y.length i.2) R y]):=⟨by
 rintro w0 Z d y a ⟨v,rfl,ho⟩;obtain ⟨_,p,c,rfl⟩:=RdN.len ho;exact ⟨(p,c),rfl,ho,ho.bor h (zA a b),trivial⟩⟩
theorem aB.len:aB [8] q Fs (Mq β) (λ(i:Option Addr×Nat)y=>[.slice i.1 y.length i.2]) (λ_ _=>[]):=⟨by
 rintro w0 Z b y a ⟨p,c,rfl⟩;exact ⟨(p,c),rfl,trivial⟩⟩
theorem aB.gho{γ:Type}{G:Rp γ}{b:∀v,(b5 v).sz=n}(h:∀u,aB ks q Fs (b5 u) (c3 u) (c4 u)):
  aB (10::ks) q Fs (No G b5 n b) (λ(i:Value×ι)y=>c3 i.1 i.2 y.2) (λi y=>.ri i.1 G y.1::c4 i.1 i.2 y.2):=⟨by
 rintro w0 Z e y a ⟨u,c,d⟩;obtain ⟨i,rfl,f⟩:=(h u).o w0 Z _ _ a d;exact ⟨(u,i),rfl,c,f⟩⟩
theorem aB.dep{β:Type}{A:Rp β}{e:∀v,(C v).sz=n}(j:KR A.sz 1)(k:KR G.sz 1)(m:KR n 1):
  aB [11] q Fs (QC A G C n e) (λ(i:Value×Value×Value)_=>[i.1,i.2.1,i.2.2]) (λi y=>[.ri i.1 A y.1,.ri i.2.1 G y.2.1,.ri i.2.2 (C i.1) y.2.2]):=⟨by
 rintro w0 Z t y a ⟨v1,⟨p,c2,rfl,o,c3,c4,rfl,b,c⟩,d⟩;have l:=A.rlen _ _ _ _ o;have f:=G.rlen _ _ _ _ b;have g:=(C v1).rlen _ _ _ _ c;rw [j.h] at l;rw [k.h] at f;rw [e,m.h] at g
 match p,l,c3,f,c4,g,o,b,c,d with
 |[u],_,[r],_,[s],_,o,b,c,d=>
  have:v1=u:=by simpa using d.symm
  subst this;exact ⟨(v1,r,s),rfl,o,b,c,trivial⟩⟩
theorem aB.pair
  (h:aB [k] q Fs A c5 c6) (b:aB (k2::ks) q Fs G vs2 s):aB (k::k2::ks) q Fs (jq A G) (λ(i:ι×κ)y=>c5 i.1 y.1++vs2 i.2 y.2) (λi y=>c6 i.1 y.1++s i.2 y.2):=⟨by
 rintro w Z g y a ⟨l,c2,rfl,c,d⟩;obtain ⟨i,rfl,f⟩:=h.o w Z _ _ a c;obtain ⟨j,rfl,e⟩:=b.o w Z _ _ a d;exact ⟨(i,j),rfl,Na w Z f e⟩⟩
theorem aB.st{hl:∀x c5,(c7 x c5).length=sz}(h:aB ks q Fs A c5 c6):
  aB (3::ks) q Fs (qO c7 sz hl c8 A) (λ(i:ι)x=>c7 x (c5 i (c8 x))) (λi x=>c6 i (c8 x)):=⟨by
 rintro w Z c x a ⟨u,rfl,b⟩;obtain ⟨i,rfl,f⟩:=h.o w Z _ _ a b;exact ⟨i,rfl,f⟩⟩
theorem mc.row{h:∀x,(enc x).length=sz}{b:0<sz}(d:nth Fs q=some (.bo wb Sb)):
  mc [1] q Fs wb Sb (nt T enc sz h b) (λ(i:Option Addr×Nat)y=>[.slice i.1 y.length i.2]) (λi y=>[.rb wb Sb (.slice i.1 y.length i.2) enc sz y,.rd (.slice i.1 y.length i.2) enc sz y]):=⟨by
 rintro w0 Z e y a ⟨v,rfl,ho⟩;obtain ⟨_,p,c,rfl⟩:=Rd.len ho;exact ⟨(p,c),rfl,ho,ho.bor (zA a d),trivial⟩⟩
theorem mc.pair
  (h:mc [k] q Fs wb Sb A c5 c6) (b:mc (k2::ks) q Fs wb Sb G vs2 s):mc (k::k2::ks) q Fs wb Sb (jq A G) (λ(i:ι×κ)y=>c5 i.1 y.1++vs2 i.2 y.2) (λi y=>c6 i.1 y.1++s i.2 y.2):=⟨by
 rintro w Z g y a ⟨l,c2,rfl,c,d⟩;obtain ⟨i,rfl,f⟩:=h.o w Z _ _ a c;obtain ⟨j,rfl,e⟩:=b.o w Z _ _ a d;exact ⟨(i,j),rfl,Na w Z f e⟩⟩
theorem mc.st{hl:∀x c5,(c7 x c5).length=sz}(h:mc ks q Fs wb Sb A c5 c6):
  mc (3::ks) q Fs wb Sb (qO c7 sz hl c8 A) (λ(i:ι)x=>c7 x (c5 i (c8 x))) (λi x=>c6 i (c8 x)):=⟨by
 rintro w Z c x a ⟨u,rfl,b⟩;obtain ⟨i,rfl,f⟩:=h.o w Z _ _ a b;exact ⟨i,rfl,f⟩⟩
theorem th(a:q∉Z)(h:w.heap[q]? =some (.cells I.toArray T (0,0))):RdB w Z q I:=⟨a,λk u b=>by
 rw [cell_of_row w q k I.toArray T (0,0) h]
 simpa using b⟩
theorem Adm.oi{M:Type}{ff:M->List Value->List Value}{hl:∀x c5,(ff x c5).length=sz}{g:M->β}{x:M}
  (h:nth Fs e=some (.ri (.pointer (some ⟨N,0,none⟩)) (vE T (qO ff sz hl g A)) x)) (b:aB ks q Fs A c5 c6) (c:∀i,lX Fs (.pb N (ff x (c5 i (g x)))::c6 i (g x))=some (c9 i)):
  Adm (.oi e q (3::ks)) Fs L (λ_:ι=>L) c9:=⟨λw0 Z w a s=>by
 obtain ⟨n,d,j,k,l,u,rfl,m⟩:(vE T (qO ff sz hl g A)).rd w0 Z x [.pointer (some ⟨N,0,none⟩)]:=zA a h;cases j;obtain ⟨i,rfl,f⟩:=b.o w0 Z _ _ a m;exact ⟨i,s,nD (c i) a ⟨th k l,f⟩⟩⟩
theorem Adm.oi0{h:∀x,(Y x).length=sz}
  (d:nth Fs e=some (.ri (.pointer (some ⟨N,0,none⟩)) (vE T (sk Y sz h)) x)) (f:vd Fs (.pb N (Y x))=some Fin):Adm (.oi e q [0]) Fs L (λ_:Unit=>L) (λ_=>Fin):=⟨λw0 Z w a s=>by
 obtain ⟨k,c,g,i,j,b⟩:(vE T (sk Y sz h)).rd w0 Z x [.pointer (some ⟨N,0,none⟩)]:=zA a d;cases g;have b:c=Y x:=b;subst b;exact ⟨(),s,jv (F:=.pb N (Y x)) a (th i j) f⟩⟩
theorem Pu(b:nth Fs e=some (.rn v' R xs))(d:aB ks q' Fs R vs fcs)
  (f:∀x g o q,lX Fs (.el v' g o F xs x::.ce g (o+F.toNat*R.sz) (vs q x)::fcs q x)=some (z x g o q)) (a:bS w0 Z Fs) (h:idx xs F=some x):∃g o q,bS w0 Z (z x g o q):=by
 have i:RdN w0 Z v' R.rd R.sz xs:=zA a b;obtain ⟨g,o,c,r,j,l,m⟩:=i.formv h;obtain ⟨q,rfl,n⟩:=d.o w0 Z _ _ a l;exact ⟨g,o,q,nD (f x g o q) a ⟨⟨h,c,j⟩,λw L s k u p=>m k u p w L s,n⟩⟩
theorem GO.bj(h:nth Fs e=some (.rn v' R xs))(b:aB ks q' Fs R vs fcs)
  (c:∀x g o q,lX Fs (.el v' g o F xs x::.ce g (o+F.toNat*R.sz) (vs q x)::fcs q x)=some (z x g o q)) (n:∀x g o q,GO hs (a6 x) r (z x g o q) L p P B N w0 Z l i Q):GO (.bj e q' ks::hs) ((idx xs F).bind a6) r Fs L p P B N w0 Z l i Q:=⟨λw a s q=>by
 obtain ⟨x,d,f⟩:=zL q;obtain ⟨g,o,j,k⟩:=Pu h b c a d;exact (n x g o j).o w k s f⟩
theorem GP.bj(h:nth Fs e=some (.rn v' R xs))(b:aB ks q' Fs R vs fcs)
  (c:∀x g o q,lX Fs (.el v' g o F xs x::.ce g (o+F.toNat*R.sz) (vs q x)::fcs q x)=some (z x g o q)) (n:∀x g o q,GP hs (a6 x) r (z x g o q) L p P B N w0 Z l S eff pd Q):GP (.bj e q' ks::hs) ((idx xs F).bind a6) r Fs L p P B N w0 Z l S eff pd Q:=⟨λw a s q=>by
 obtain ⟨x,d,f⟩:=zL q;obtain ⟨g,o,j,i⟩:=Pu h b c a d;exact (n x g o j).o w i s f⟩
theorem Q0(b:nth Fs e=some (.rbn wb Sb v' R xs))(d:nth Fs q'=some (.bo wb Sb))(f:mc ks q' Fs wb Sb R vs fcs)
  (i:∀x g o q,lX Fs (.el v' g o F xs x::.ce g (o+F.toNat*R.sz) (vs q x)::fcs q x)=some (z x g o q)) (a:bS w0 Z Fs) (h:idx xs F=some x):∃g o q,bS w0 Z (z x g o q):=by
 have j:RdN wb Sb v' R.rd R.sz xs:=zA a b;have l:Bor wb Sb w0 Z:=zA a d;obtain ⟨g,o,c,v,m,n,p⟩:=j.formB l h;obtain ⟨q,rfl,r⟩:=f.o w0 Z _ _ a n;exact ⟨g,o,q,nD (i x g o q) a ⟨⟨h,c,m⟩,λw L s k u t=>p k u t w L s,r⟩⟩
theorem GP.bl(h:nth Fs e=some (.rbn wb Sb v' R xs))(b:nth Fs q'=some (.bo wb Sb))(c:mc ks q' Fs wb Sb R vs fcs)
  (d:∀x g o q,lX Fs (.el v' g o F xs x::.ce g (o+F.toNat*R.sz) (vs q x)::fcs q x)=some (z x g o q)) (n:∀x g o q,GP hs (a6 x) r (z x g o q) L p P B N w0 Z l S eff pd Q):GP (.bl e q' ks::hs) ((idx xs F).bind a6) r Fs L p P B N w0 Z l S eff pd Q:=⟨λw a s q=>by
 obtain ⟨x,f,i⟩:=zL q;obtain ⟨g,o,j,k⟩:=Q0 h b c d a f;exact (n x g o j).o w k s i⟩
structure Mk (hs:List AH) (j:Nat) (Fs:List Fa) (L:List Item) (Q:World->Prop):Prop where
 o:∀w0 Z w,bS w0 Z Fs->St w0 Z w L->Q w
theorem Mk.nil(h:nth L j=some (itI R [v] S x)):Mk [] j Fs L (λw=>R.rd w [] x [v]):=⟨λw0 Z w a s=>R.see _ _ _ _ [] (s.all j _ (by rw [<- zP];exact h)) (λb _=>znm)⟩
theorem Mk.cons{ι:Type}{L1:ι->List Item}{z:ι->List Fa}(b:Adm h Fs L L1 z)(n:∀q,Mk d0 j (z q) (L1 q) d2):Mk (h::d0) j Fs L d2:=⟨λw0 Z w a s=>by
 obtain ⟨q,c,d⟩:=b.o w0 Z w a s;exact (n q).o w0 Z w d c⟩
theorem Giv.sv(h:Mk d0 j Fs L (λw=>R.rd w [] x [v]))(n:Giv src Fs L [] Fin):Giv (.sv d0 j::src) Fs L [] (.ri v R x::Fin):=⟨λw0 Z w a s=>⟨h.o w0 Z w a s,n.g w0 Z w a s⟩⟩
theorem Giv.oi(f:nth L j=some (itI R [v] S x))(d:KR (mem? j js) false)(n:Giv src Fs L js Fin):Giv (.oi j::src) Fs L js (.ri v R x::Fin):=⟨λw0 Z w a s=>by
 have c:L[j]? =some (itI R [v] S x):=by grind [zP]
 exact ⟨R.see _ _ _ _ _ (s.all j _ c) (λb e=>s.noin j c js d.h b e),n.g w0 Z w a s⟩⟩
theorem Giv.fi(f:nth Fs e=some (.ri v R x))(n:Giv src Fs L js Fin):Giv (.fi e::src) Fs L js (.ri v R x::Fin):=⟨λw0 Z w a s=>by
 have h:R.rd w0 Z x [v]:=zA a f;refine ⟨R.TF _ _ _ _ _ _ (λb i l=>s.chg.block b i l) (λb m=> ?_) h,n.g w0 Z w a s⟩;obtain ⟨j,o,p,c⟩:=vy.1 m;obtain ⟨k,_,d⟩:=eI p;rcases xK d with d|rfl
 ·exact s.own k o d b c
 ·cases c⟩
def pnX(l:List Oper)(N:Nat)(p:Fr)(i:Nat):Option Value:=match okO l N p i with
 |some ⟨_,.binOp _ _ x _ _,_,_,_,_⟩=>look p x
 |_=>none
def pnR(P:Program)(l:List Oper)(N:Nat)(p:Fr)(i:Nat)(u:Value):Option Value:=match okO l N p i with
 |some ⟨_,.binOp op t x y _,_,_,_,_⟩=>match look p y with
  |some a=>am P (do eqGuard op t x y u a;binOp op t u a)
  |none=>none
 |_=>none
theorem Q1{h:LH}(q:nth Fs e=some (.ri v (Kt T Y) o))(c:KR (pnX l N p i) (some v))(h0:KR (pnR P l N p i (.pointer none)) (some (.bool g)))(s:∀b k,KR (pnR P l N p i (.pointer (some ⟨b,k,none⟩))) (some (.bool mm))):
  LkV Fs p P B N w0 Z h l i (.bool (match o with|none=>g|some _=>mm)):=by
 have c:=c.h;unfold pnX at c;split at c
 ·rename_i d op t x y z ty pos D E ho
  refine LkV.of ho rfl λF a w m=> ?_
  have e1:=m.look c
  have key:∀u r,v=u->pnR P l N p i u=some r->(execOp a.eval ⟨d,.binOp op t x y z,ty,pos,D,E⟩).run P w=.ok (.value r) w:=by
   intro u r G f;subst G;unfold pnR at f;rw [ho] at f;dsimp only at f;split at f
   ·rename_i n I
    have e2:=m.look I;have e3:=qV f w
    have e4:(do pure (Next.value (<- (do eqGuard op t x y v n;binOp op t v n))):Sem Next).run P w=.ok (.value r) w:=by
     simp only [Sem.run_bind,e3];rfl
    simp only [execOp,e1,e2];exact e4
   ·cases f
  have j:(Kt T Y).rd w0 Z o [v]:=zA F q;cases o with
  |none=>
   have j:[v]=[Value.pointer none]:=j;exact key _ _ (by simpa using j) h0.h
  |some x=>
   obtain ⟨b,A,C,J,_⟩:=j;exact key _ _ (by simpa using J) (s b A.length).h
 ·cases c
theorem LkV.pn{M:Type}{o:Option M}{enc:M->List Value}(a:nth Fs e=some (.ri v (Kt T enc) o))(c:KR (pnX l N p i) (some v))(h0:KR (pnR P l N p i (.pointer none)) (some (.bool false)))(d:∀b k,KR (pnR P l N p i (.pointer (some ⟨b,k,none⟩))) (some (.bool true))):
  LkV Fs p P B N w0 Z (.pn e) l i (.bool o.isSome):=by
 have:=Q1 (B:=B) (h:=.pn e) (w0:=w0) (Z:=Z) a c h0 d
 grind
def swP(P:Program)(l:List Oper)(N:Nat)(p:Fr)(i:Nat):Option (Option Addr×Nat×Nat×Int×Nat):=match cpC P l N p i with
 |some (.slice a k c,some q,none,sz)=>some (a,k,c,q,sz)
 |_=>none
def swV(p:Option (Option Addr×Nat×Nat×Int×Nat))(m:Nat):Value:=match p with
 |some (a,_,c,q,sz)=>.slice (shd a c q.toNat sz) m (c-q.toNat)
 |none=>undef
def swK(p:Option (Option Addr×Nat×Nat×Int×Nat)):Option (Nat×Int):=match p with
 |some (_,k,_,q,_)=>some (k,q)
 |none=>none
theorem LkV.sw{M:Type}{xs t:List M}(e:nth Fs q=some (.oe (cut xs F ((xs.length:Nat):Int)) t))(d:KR (swK (swP P l N p i)) (some (xs.length,F))):
  LkV Fs p P B N w0 Z (.sw q) l i (swV (swP P l N p i) t.length):=by
 have d:=d.h;cases hs:swP P l N p i with
 |none=>rw [hs] at d;cases d
 |some u=>
  obtain ⟨a,k,c,q',sz⟩:=u;rw [hs] at d;simp only [swK,i5,o4] at d;obtain ⟨rfl,rfl⟩:=d;unfold swP at hs;split at hs
  ·rename_i v k' x y s b
   simp only [i5,o4] at hs;obtain ⟨rfl,rfl,rfl,rfl,rfl⟩:=hs;unfold cpC at b;split at b
   ·rename_i ho
    split at b
    ·rename_i f g
     split at b
     ·rename_i j
      split at b
      ·grind
      ·split at b
       ·rename_i m
        cases b
        exact LkV.of ho rfl λn r w o=>gf _ rfl g rfl m (zA n e) f j r w o
       ·cases b
      ·grind
      ·cases b
     ·cases b
    ·cases b
   ·cases b
  ·cases hs
theorem E4(h:i∈(dj (.slice (shd a c q sz) N (c-q))).toList):i∈(dj (.slice a n c)).toList:=by
 cases c with
 |zero=>rw [Nat.zero_sub,eJ] at h;cases h
 |succ c=>
  cases a with
  |none=>
   have:shd none (c+1) q sz=none:=by grind [shd]
   rw [this] at h;cases h
  |some a=>
   by_cases b:c+1=q
   ·rw [b,Nat.sub_self,eJ] at h;cases h
   ·have e1:shd (some a) (c+1) q sz=some (a.add (q*sz)):=by unfold shd;rw [d7 b];rfl
    rw [e1] at h;rcases yq (c+1-q) with h0|h0
    ·grind [eJ]
    ·rw [xL h0] at h;rw [xL (Nat.succ_pos c)]
     have e2:(a.add (q*sz)).block=a.block:=by
      obtain ⟨b0,o,s⟩:=a;unfold Addr.add
      grind
     grind
theorem St.sufN{M:Type}{R:Rp M}{xs t:List M}(f:St w0 S0 w L)(j:Nat)(A:L[j]? =some (nI T R (.slice a n c) S xs none))(E:cut xs F (xs.length:Int)=some t):
  ∃o,St w0 S0 w (L.set j (nI T R (.slice (shd a c F.toNat R.sz) t.length (c-F.toNat)) o t none)):=by
 obtain ⟨css,Ss,h⟩:=f.all j _ A;obtain ⟨h0,G,N,e⟩:=bA E;have d:t=xs.drop F.toNat:=by rw [e];simp
 have p:cut css F (css.length:Int)=some (css.drop F.toNat):=by
  have:cut css F (css.length:Int)=some ((css.take (css.length:Int).toNat).drop F.toNat):=by
   unfold cut;rw [h.lc];simp [h0,G]
  rw [this];simp
 have g:dH w T R.sz (.slice a n c) css.length (jP (fit R.sz) css):=by rw [h.lc];exact h.row
 have hs:=dH.suf (enc:=fit R.sz) (λ_=>dl _ _) g p;have hl:(css.drop F.toNat).length=t.length:=by rw [d];simp [h.lc]
 have k:=h.nd;rw [h.hS] at k;obtain ⟨O,P,Q⟩:=k7.1 k
 have B:∀b∈(Ss.drop F.toNat).flatten,b∈Ss.flatten:=λb m=>by
  obtain ⟨s,q,r⟩:=j9.1 m;exact j9.2 ⟨s,List.mem_of_mem_drop q,r⟩
 have I:Ss.flatten=(Ss.take F.toNat).flatten++(Ss.drop F.toNat).flatten:=by rw [<- yr,yg]
 have u:(Ss.drop F.toNat).flatten.Nodup:=by grind
 have v:(dj (.slice (shd a c F.toNat R.sz) t.length (c-F.toNat))).toList.Nodup:=cT
 have l:((dj (.slice (shd a c F.toNat R.sz) t.length (c-F.toNat))).toList++(Ss.drop F.toNat).flatten).Nodup:=
  k7.2 ⟨v,u,λx U y V J=>by grind [E4]⟩
 refine ⟨(dj (.slice (shd a c F.toNat R.sz) t.length (c-F.toNat))).toList++(Ss.drop F.toNat).flatten,?_⟩;refine f.upd j A (w9 _ _) ⟨css.drop F.toNat,Ss.drop F.toNat,?_⟩ (λb m=>.inl ?_) l
 ·refine ⟨by rw [<- hl];exact hs,hl,by rw [d];simp [h.ls],rfl,l,λ_ _ e=>(by cases e),λi K o x _ C D z=> ?_⟩;rw [d] at z;rw [List.getElem?_drop] at C D z;exact h.own _ K o x (λ_ e=>by cases e) C D z
 ·show b∈S;rw [h.hS];have m:b∈(dj (.slice (shd a c F.toNat R.sz) t.length (c-F.toNat))).toList++(Ss.drop F.toNat).flatten:=m
  grind [E4]
theorem Adm.sfN{M:Type}{R:Rp M}{xs xs' t:List M}(f:nth Fs q=some (.oe (cut xs F ((xs.length:Nat):Int)) t))(g:nth L j=some (nI T R (.slice a n c) S xs' none))(b:KR xs' xs)
  (k:∀d,dp L j (nI T R (.slice (shd a c F.toNat R.sz) t.length (c-F.toNat)) d t none)=some (L1 d)):Adm (.sfN j q) Fs L L1 (λ_=>Fs):=⟨λw0 Z w i s=>by
 have e:L[j]? =some (nI T R (.slice a n c) S xs none):=by rw [<- zP,<- b.h];exact g
 obtain ⟨d,l⟩:=s.sufN j e (zA i f)
 grind [qI]⟩
theorem Adm.sfx(f:nth Fs q=some (.oe (cut xs F ((xs.length:Nat):Int)) t))(g:nth L j=some (qk (.slice a n c) T Y sz xs'))(i:∀x,KR (Y x).length sz)(b:KR xs' xs)
  (k:dp L j (qk (.slice (shd a c F.toNat sz) t.length (c-F.toNat)) T Y sz t)=some Lr):Adm (.sfx j q) Fs L (λ_:Unit=>Lr) (λ_=>Fs):=⟨λw0 Z w e s=>by
 have d:L[j]? =some (qk (.slice a n c) T Y sz xs):=by rw [<- zP,<- b.h];exact g
 exact ⟨(),by rw [qI k];exact s.sufRow j d (λx=>(i x).h) (zA e f),e⟩⟩
theorem Adm.ctr(f:nth Fs q=some (.oe (cut xs 0 F) t))(g:nth L j=some (qk (.slice a n c) T Y sz xs'))(i:∀x,KR (Y x).length sz)(b:KR xs' xs)
  (k:dp L j (qk (.slice a t.length c) T Y sz t)=some Lr):Adm (.ctr j q) Fs L (λ_:Unit=>Lr) (λ_=>Fs):=⟨λw0 Z w e s=>by
 have d:L[j]? =some (qk (.slice a n c) T Y sz xs):=by rw [<- zP,<- b.h];exact g
 exact ⟨(),by rw [qI k];exact s.cutRow j d (λx=>(i x).h) (zA e f),e⟩⟩
theorem GO.clr{ρ:Type}{f:Option ρ}{r:ρ}
  (m:nth Fs q=some (.oe (cut xs F ((xs.length:Nat):Int)) t)) (u:nth L j=some (qk (.slice a n c) T Y sz xs')) (v:∀b3,KR (Y b3).length sz) (b:KR xs' xs)
  (hl:vm l i=some ⟨none,.call ⟨.builtin .clear,[b3].toArray,S.toArray⟩,ty,d4,e0,gdd⟩) (x:KR (gd l p ⟨none,.call ⟨.builtin .clear,[b3].toArray,S.toArray⟩,ty,d4,e0,gdd⟩) (some true))
  (z:KR (Go.Sx.look p b3) (some (.slice (Go.Sx.shd a c F.toNat sz) t.length (c-F.toNat)))) (d:S[0]? =some U) (A:P.underlying U=some (.slice d3))
  (e:KR ((am P (zeroValue d3)).map (·.cells.toList)) (some (Y y))) (C:KR (eK (Y y)) true)
  (I:dp L j (qk (.slice a n c) T Y sz (xs.take F.toNat++List.replicate t.length y))=some Lr) (D:GO hs f r Fs Lr p P B N w0 Z l (i+1) Q):GO (.clr j q y::hs) f r Fs L p P B N w0 Z l i Q:=⟨λw k s E=>by
 have g:L[j]? =some (qk (.slice a n c) T Y sz xs):=by rw [<- zP,<- b.h];exact u
 refine OW.clearR s j g (λb3=>(v b3).h) hl x.h (zA k m) z.h d A y e.h C.h λG J=> ?_
 exact D.o G k (by grind [qI]) E⟩
theorem Adm.tp{M:Type}{A:Rp M}{B:World->List Nat->Rp M}{h:Cv A B}{x:M}(a:nth L j=some (itI A I S x))(d:∀p,dp L j (itI (B p.1 (coS p.1 p.2.1)) I p.2.2 x)=some (L0 p))(e:∀p,vd (L0 p) (pU p.1 p.2.1)=some (e1 p)):
  Adm (.tp j h) Fs L e1 (λ_=>Fs):=⟨λw0 Z w b s=>by
 obtain ⟨wb,Sp,c,f⟩:=s.toPool h j (by rw [<- zP];exact a)
 exact ⟨(wb,Sp,c),by grind [vK,qI],b⟩⟩
theorem GO.nl{M:Type}{enc:M->List Value}{xs:List M}(e:nth L j=some (qk (.slice a q c) T enc sz xs))(d:KR (BC p S) (BD (.slice a q c) S))
  (k:dp L j (qk (.slice a xs.length c) T enc sz xs)=some Lr) (n:GO hs f r Fs Lr (reh (.slice a xs.length c) S p) P B N w0 Z l i Q):GO (.nl j S::hs) f r Fs L p P B N w0 Z l i Q:=⟨λw m s g b t=>by
 have u:=s.rlen e;have d:=d.h;rw [u] at d e
 have e1:Lr=L:=by
  rw [qI k];have v:L[j]? =some (qk (.slice a xs.length c) T enc sz xs):=by grind [zP]
  apply l8
  grind
 subst e1;exact n.o w m s g b (wn t d)⟩
theorem GP.fp{M:Type}{enc:M->List Value}{o:Option M}{L1:M->Nat->List Value->List Value->List Item}{k:M->Option ρ}(h:nth L j=some (itI (Kt T enc) [u] S o))(d:∀y b A C,dp L j (dm b T A (enc y) C)=some (L1 y b A C))
  (n:∀y b A C,u=.pointer (some ⟨b,A.length,none⟩)->GP hs (k y) r Fs (L1 y b A C) p P B N w0 Z l js eff pd Q):GP (.fp j::hs) (o.bind k) r Fs L p P B N w0 Z l js eff pd Q:=⟨λw a s e=>by
 obtain ⟨y,f,g⟩:=zL e;obtain ⟨b,c,C,i,m⟩:=Kq h s f;exact (n y b c C i).o w a (by rw [qI (d y b c C)];exact m) g⟩
theorem GQ.rI(h:e2.results= #[])(n:GO hs f r Fs L ((dst l i,.tuple #[])::p) P B N w0 Z l (i+1) Q):
 GQ (.rI::hs) f r Fs L fr' P B0 j w0 Z .normal (bodyPost P e2 (IQ P l N Q i p B)):=⟨λw a s q=>QW.end0 h ⟨_,rfl,n.o w a s q⟩⟩
theorem Sim.nrowH(h0:Ln q N)(b:KR T U)(d:KR xs xs')(f:KR e3 h')(n:Sim L Lr):
 Sim (nI T R (.slice a q c) S xs e3::L) (nI U R (.slice a N c) S xs' h'::Lr):=⟨by rw [h0.h,b.h,d.h,f.h,n.e]⟩
theorem Sim.pool(n:Sim L Lr):Sim (pU wb Sp::L) (pU wb Sp::Lr):=⟨by rw [n.e]⟩
theorem Adm.opk{ι:Type}{cells:ι->M->List Value}{b:ι->M->List Item}{fcs:ι->M->List Fa}{h:OpK R need cells b fcs}
  {L0 L1:ι->List Item} {z:ι->List Fa}
  (D:nth L j=some (itI (vE T R) [.pointer (some ⟨N,0,none⟩)] S x)) (g:nth Fs q=some need) (k:dp L j nilI=some Lq) (l:∀i,lX Lq (jS N T (cells i x)::b i x)=some (L0 i))
  (m:∀i,gh (L0 i) (By j L.length L.length 0 (Pp (L.length+1) (b i x).length)) []=some (L1 i)) (n:∀i,KR (zQ (By j L.length L.length 0 (Pp (L.length+1) (b i x).length))) true) (p:∀i,lX Fs (fcs i x)=some (z i)):
  Adm (.opk j q h) Fs L L1 z:=⟨λw0 Z w a s=>by
 have d:L[j]? =some (itI (vE T R) [.pointer (some ⟨N,0,none⟩)] S x):=by grind [zP]
 have ho:=s.all j _ d;obtain ⟨E,r,e,t,rfl,F,u,v⟩:=ho;cases t;obtain ⟨i,rfl,y,A⟩:=h.o w0 Z w _ _ _ ⟨zA a g,trivial⟩ v;refine ⟨i,?_,by rw [bT (p i)];exact Na w0 Z a A⟩
 have B:ao w (N::e) (jS N T (cells i x)::b i x):=ao.cons u (by simp [jS]) (by simp [jS]) (S2:=e) (by grind [jS]) y (λc C=>zcm _ C);have f:=s.burst j d B;rw [<- qI k,<- bT (l i)] at f;have:=xj (m i);rw [i9] at this;rw [this];exact f.keep _ (n i).h⟩
theorem GO.here{ρ:Type}{f:Option ρ}{r:ρ}(h:GO hs f r Fs L p P B N w0 Z l i Q):GO hs f r Fs L p P B N w0 Z l i Q:=h
theorem GC.here{ρ:Type}{f:Option ρ}{r:ρ}(h:GC hs f r Fs L p P B N w0 Z J Q):GC hs f r Fs L p P B N w0 Z J Q:=h
theorem GQ.here{ρ:Type}{f:Option ρ}{r:ρ}(h:GQ hs f r Fs L p P B N w0 Z e4 Q):GQ hs f r Fs L p P B N w0 Z e4 Q:=h
theorem GS.here{ρ:Type}{f:Option ρ}{r:ρ}(h:GS hs f r Fs L p P B N w0 Z l i c g Q):GS hs f r Fs L p P B N w0 Z l i c g Q:=h
theorem GP.here{ρ:Type}{f:Option ρ}{r:ρ}(h:GP hs f r Fs L p P B N w0 Z l S eff pd Q):GP hs f r Fs L p P B N w0 Z l S eff pd Q:=h
theorem Adm.here{ι:Type}{L1:ι->List Item}{z:ι->List Fa}(h:Adm h0 Fs L L1 z):Adm h0 Fs L L1 z:=h
theorem jl.here{ι:Type}{vs:ι->β->List Value}{i:ι->β->List Item}{fcs:ι->β->List Fa}(h:jl ks q Fs A vs i fcs):jl ks q Fs A vs i fcs:=h
theorem qJ.here{β:Type}{A:Rp β}{y:β}(h:qJ E Fs L A js I y):qJ E Fs L A js I y:=h
theorem LkV.here(h:LkV Fs p P B N w0 Z e5 l i v):LkV Fs p P B N w0 Z e5 l i v:=h
theorem Giv.here(h:Giv src Fs L js Fin):Giv src Fs L js Fin:=h
theorem GQ.popN{b c:Type}{x d:b}{k:b->Option c}{r:c}(h:nth Fs q=some (.po k x r))(n:GQ hs (k d) r Fs L p P B N w0 Z e4 Q):GQ (.pop q::hs) (some d) x Fs L p P B N w0 Z e4 Q:=⟨λw a s e=>by
 cases e
 exact n.o w a s (zA a h)⟩
theorem E5(h:(HK wb Sb Y sz).own w I S xs):eK I=true:=by
 obtain ⟨v,rfl,_,b⟩:=h;obtain ⟨_,a,c,rfl⟩:=Rd.len b;rfl
structure Q2 {ρ ι:Type} (P:Program) (name:String) (v:Value) (args:List Value) (Fs:List Fa) (L:List Item) (f:Option ρ) (post:ρ->ι->Value×List Item):Prop where
 c:∀w r,bS w (fp L) Fs->St w (fp L) w L->f=some r->Nr P v name args w (RQ w (fp L) post r)
structure Pv {ρ ι:Type} (P:Program) (name:String) (v:Value) (args:List Value) (Fs:List Fa) (L:List Item) (f:Option ρ) (post:ρ->ι->Value×List Item):Prop where
 h:Q2 P name v args Fs L f post
theorem Nr.mono(h:Nr P v d4 I w e6)(k:∀e c,e6 e c->R' e c):Nr P v d4 I w R':=by
 obtain ⟨a,b,d,f⟩:=h;exact ⟨a,b,d,f.mono k⟩
def icC(l:List Oper)(N:Nat)(p:Fr)(i:Nat):Option (Value×String×List Value):=match okO l N p i with
 |some ⟨_,.call ⟨.invoke x name,t,_⟩,_,_,_,_⟩=>match look p x,looks p t.toList with
  |some v,some u=>some (v,name,u)
  |_,_=>none
 |_=>none
theorem GO.ci{u:Type}{S:Prop}{o:Option u}{k:u->Option ρ}{post:u->ι->Value×List Item}{L1:u->ι->List Item}[C:HasC o S]
  (E:S->Pv P d4 v I Fin Lr o post) (F:gh L js []=some Lq) (G:Sim Lq Lr) (J:Giv src Fs L js Fin) (f:KR (icC l N p i) (some (v,d4,I))) (K:gh L b []=some Bq) (M:∀x q,lX (post x q).2 Bq=some (L1 x q))
  (A:KR (zQ (js++b)) true) (n:∀x q,GO hs (k x) r Fs (L1 x q) ((dst l i,(post x q).1)::p) P B N w0 Z l (i+1) Q):GO (.ci js src b::hs) (o.bind k) r Fs L p P B N w0 Z l i Q:=⟨λw a s q=>by
 obtain ⟨x,O,R⟩:=zL q;have f:=f.h;unfold icC at f;split at f
 ·rename_i d' x' y t m _ _ _ _ ho
  split at f
  ·rename_i v' T U V
   cases f
   obtain ⟨d,hl,z,j,W⟩:=jC ho;have X:=vn hl j;simp only at j;subst j;have e1:=xj F;have e2:=xj K;rw [G.e] at e1;rw [i9] at e1 e2;subst e1 e2;refine OW.inv (ys:=t.toList) (ats:=m.toList) hl z W U V ((E C.c).h.c w x (J.g w0 Z w a s) (s.part js (by have:=A.h;exact dC this)) O) ?_
   rintro e Y ⟨D,rfl,s'⟩;refine ⟨_,rfl,?_⟩;have h3:=(n x D).o Y a (by rw [bT (M x D)];exact s.join A.h s') R
   grind
  ·cases f
 ·cases f⟩
theorem qJ.rowF{h:∀x,(enc x).length=sz}{a:0<sz}(b:nth L j=some (qk v T enc sz c0)):qJ [.r j] Fs L (Ac T enc sz h a) [j] [v] c0:=
 qJ.item b λw ho=>E6 ho
theorem qJ.frz{l:∀x,(enc x).length=sz}{m:0<sz}(n:nth L j=some (LQ q enc sz c0)):qJ [.pr j] Fs L (Ac T enc sz l m) [j] [.slice (some ⟨q,0,none⟩) c0.length c0.length] c0:=
 qJ.item n λw ho=>⟨_,rfl,by simp [LQ],(LQ q enc sz c0).lt w ho,λp F d r=>by
  obtain ⟨⟨d,a,c,b,e,s⟩,_⟩:=(LQ q enc sz c0).loc w p d ho;refine ⟨d,a,c,b,e,λt x f u v y=> ?_⟩;obtain ⟨g,o,k,z,h⟩:=s t x f u v y
  have i:g=q:=by
   rw [k] at b;simp only [Value.slice.injEq,i5,Addr.mk.injEq] at b;exact b.1.1.symm
  subst i;exact ⟨g,o,k,r g (by simp [LQ]),h⟩⟩
theorem mc.rowF{h:∀x,(enc x).length=sz}{b:0<sz}(d:nth Fs q=some (.bo wb Sb)):mc [1] q Fs wb Sb (Ac T enc sz h b) (λ(i:Option Addr×Nat)y=>[.slice i.1 y.length i.2]) (λi y=>[.rb wb Sb (.slice i.1 y.length i.2) enc sz y,.rd (.slice i.1 y.length i.2) enc sz y]):=⟨by
 rintro w0 Z e y a ⟨v,rfl,ho⟩;obtain ⟨_,p,c,rfl⟩:=Rd.len ho;exact ⟨(p,c),rfl,ho,ho.bor (zA a d),trivial⟩⟩
def Rs(P:Program)(l:List Oper)(N:Nat)(p:Fr)(i:Nat):Option Value:=match okO l N p i with
 |some ⟨_,.convert t a x,_,_,_,_⟩=>match Nat.beq t a,look p x,P.underlying t with
  |true,some v,some (.slice e)=>match P.underlying e with
   |some (.int .u8)=>some v
   |_=>none
  |_,_,_=>none
 |_=>none
theorem GO.mkf(z:nth L j=some (qk (.slice (some ⟨q,0,none⟩) n n) T enc sz c0))(b:KR (Rs P l N p i) (some (.slice (some ⟨q,0,none⟩) n n)))(c:∀x,(enc x).length=sz)(A:KR c0.length n)(g:KR (Nat.blt 0 n) true)(C:dp L j (LQ q enc sz c0)=some Lq)
  (k:GO hs f r Fs Lq ((dst l i,.slice (some ⟨q,0,none⟩) n n)::p) P B N w0 Z l (i+1) Q):GO (.mkf j::hs) f r Fs L p P B N w0 Z l i Q:=⟨λw a s e=>by
 have b:=b.h;unfold Rs at b;split at b
 ·rename_i O t R x ty pos S gdd m
  split at b
  ·rename_i v U D E F
   split at b
   ·rename_i G
    cases b
    obtain ⟨d,hl,I,u,J⟩:=jC m;simp only at u;subst u;obtain rfl:=t6 D;refine OW.mark s j (by rw [<- zP];exact z) hl I J E F G c A.h (by have:=g.h;simpa [v8] using this) λK M=> ?_
    have y:=k.o K a (by rw [qI C];exact M) e
    rw [vn hl rfl] at y;exact y
   ·cases b
  ·cases b
 ·cases b⟩
def avC(P:Program)(l:List Oper)(N:Nat)(p:Fr)(i:Nat):Option (Int×List Value×Nat×Nat×Bool):=match okO l N p i with
 |some ⟨_,.index t x y,_,_,_,_⟩=>match look p x,look p y,P.underlying t with
  |some (.agg c),some (.int .i64 k),some (.array n e)=>match am P (sizeOf e),am P (isAgg e) with
   |some z,some b=>some (k,c.toList,n,z,b)
   |_,_=>none
  |_,_,_=>none
 |_=>none
theorem LkV.ai(f:nth Fs q=some (.oe (ain n k') k))(a:KR (avC P l N p i) (some (k',eR enc n e7,n,sz,true)))(g:∀x,(enc x).length=sz):LkV Fs p P B N w0 Z (.ai q sz enc e7) l i (.agg (enc (e7 k)).toArray):=by
 have a:=a.h;unfold avC at a;split at a
 ·rename_i G ty x y I J t pos K gdd c
  split at a
  ·rename_i L F m e j o r
   split at a
   ·rename_i z b hs s
    simp only [i5,o4] at a;obtain ⟨rfl,d,rfl,rfl,rfl⟩:=a;refine LkV.of c rfl λv b w A=> ?_
    obtain ⟨C,M,D,E⟩:=sB (zA v f);refine LR (xs:=(List.range m).map e7) (u:=e7 k) rfl ?_ o r hs s g (by simp) ?_ b w A
    ·rw [j,<- lW,<- d]
    ·unfold idx;rw [d8 C,E];simp [D]
   ·cases a
  ·cases a
 ·cases a
open Go.RowKit
theorem HY{β:Type}{P:Nat->β->Prop}:∀n:Nat,(∀t,t<n->∃r,P t r)->∃b:List β,b.length=n/\∀t r,b[t]? =some r->P t r
 |0,_=>⟨[],rfl,λt r h=>by simp at h⟩
 |n+1,h=>by
  obtain ⟨b,hl,f⟩:=HY n λt a=>h t (by omega)
  obtain ⟨r,g⟩:=h n (by omega);refine ⟨b++[r],by simp [hl],λt e a=> ?_⟩;rcases Nat.lt_or_ge t b.length with d|d
  ·rw [x8 d] at a;exact f t e a
  ·rw [y5 d] at a
   have c:t-b.length=0:=by
    rcases yq (t-b.length) with c|c
    ·exact c
    ·rw [yp (by simp;omega)] at a;cases a
   rw [c] at a;obtain rfl:r=e:=by simpa using a
   have:t=n:=by omega
   subst this;exact g
theorem RdN.rows(g:β->M)(G:β->Prop)
  (n:∀x i,D w S x i->∃r,g r=x/\enc r=i/\G r) (h:RdN w S v D sz xs):∃d:List β,d.map g=xs/\Rd w S v enc sz d/\∀r∈d,G r:=by
 obtain ⟨B,a,c,p,q,s⟩:=h
 obtain ⟨d,hl,j⟩:=HY (P:=λt r=>xs[t]? =some (g r)/\G r/\∃b o,a=some ⟨b,o,none⟩/\b∉S/\∀f u,(enc r)[f]? =some u->w.cell? ⟨b,o+t*sz+f,none⟩=some u) xs.length λt e=>by
  obtain ⟨i,k,b,o,l⟩:=s t xs[t] (zeg e);obtain ⟨r,e1,e2,e3⟩:=n _ _ k;exact ⟨r,by rw [e1];exact zeg e,e3,b,o,by rw [e2];exact l⟩
 have y:d.map g=xs:=by
  refine l8 λt=> ?_
  rw [x3];cases e:d[t]? with
  |some r=>exact (j t r e).1.symm
  |none=>
   have:d.length<=t:=by simpa using e
   exact (yp (by omega)).symm
 refine ⟨d,y,⟨by omega,a,c,by rw [hl];exact p,by omega,λt r f u m z=> ?_⟩,λr m=> ?_⟩
 ·obtain ⟨_,_,b,o,k,l,A⟩:=j t r m;exact ⟨b,o,k,l,A f u z⟩
 ·obtain ⟨t,e⟩:=p9 m;exact (j t r e).2.1
theorem Nn{M β γ:Type}{f:M->Option β}{g:M->Option γ}:∀{xs:List M} {u:Unit},xs.foldlM (λ(_:Unit)c=>(f c).bind λ_=>(g c).bind λ_=>some ()) ()=some u->∀x∈xs,(∃y,f x=some y)/\∃z,g x=some z
 |[],_,_=>by simp
 |x::xs,u,h=>by
  rw [List.foldlM_cons] at h;obtain ⟨j,a,d⟩:=zL h;obtain ⟨y,e,a⟩:=zL a;obtain ⟨z,i,a⟩:=zL a;intro q b;rcases j5.1 b with rfl|b
  ·exact ⟨⟨y,e⟩,z,i⟩
  ·exact Nn d q b
theorem St.toItF(h:St w0 S0 w L)(j:Nat)(c:L[j]? =some (qk v T enc sz c0))(a:∀x,(enc x).length=sz)(b:0<sz):
 St w0 S0 w (L.set j (itI (Ac T enc sz a b) [v] (dj v).toList c0)):=h.turn j c (E6 (he:=a) (hp:=b) (h.all j _ c)) rfl
theorem St.fuseS{M γ:Type}{n:Rp γ}{y2:γ}{f:M->List Value->List Value}{hl:∀x vs,(f x vs).length=sz}{g:M->β×γ}(h:St w0 S0 w L)(R:Rp M)(p:R=qO f sz hl g (jq A n))(k j:Nat)(c:Nat.beq k j=false)
  (d:L[k]? =some (itI A [v] Z y1)) (i:L[j]? =some (itI n [v'] S y2)) (x:M) (q:g x=(y1,y2)) (l:f x [v,v']=I):St w0 S0 w ((L.set k (itI R I (Z++S) x)).set j nilI):=by
 have r:=h.all k _ d;have s:=h.all j _ i;have o:∀b∈Z,b∉S:=h.apart k j _ _ (p7 c) d i;refine h.fuse k j c d i (C:=itI R I (Z++S) x) ?_ ?_ (λb m=>g8.1 m)
 ·subst p;exact ⟨[v,v'],l.symm,by rw [q];exact ⟨[v],[v'],Z,S,rfl,rfl,o,r,s⟩⟩
 ·exact k7.2 ⟨h.nd k _ d,h.nd j _ i,λa t b m e=>by subst e;exact o a t m⟩
theorem St.nRows(h:St w0 S0 w L)(j:Nat)(n:L[j]? =some (nI T R v S xs none))(g:β->M)(G:β->Prop)
  (q:∀r,(enc r).length=R.sz) (o:∀w p d x,R.own w p d x->d=[]/\∃r,g r=x/\enc r=p/\G r):∃b:List β,b.map g=xs/\(∀r∈b,G r)/\St w0 S0 w (L.set j (qk v T enc R.sz b)):=by
 obtain ⟨css,Ss,c⟩:=h.all j _ n
 obtain ⟨b,hl,i⟩:=HY (P:=λt r=>xs[t]? =some (g r)/\css[t]? =some (enc r)/\G r) xs.length λt a=>by
  have f:t<css.length:=by rw [c.lc];exact a
  have k:t<Ss.length:=by rw [c.ls];exact a
  obtain ⟨_,r,e1,e2,e3⟩:=o _ _ _ _ (c.own t css[t] Ss[t] xs[t] (λ_ e=>by cases e) (zeg f) (zeg k) (zeg a));exact ⟨r,by rw [e1];exact zeg a,by rw [e2];exact zeg f,e3⟩
 have s:b.map g=xs:=by
  refine l8 λt=> ?_
  rw [x3];cases a:b[t]? with
  |some r=>exact (i t r a).1.symm
  |none=>
   have:b.length<=t:=by simpa using a
   exact (yp (by omega)).symm
 have l:b.map enc=css:=by
  refine l8 λt=> ?_
  rw [x3];cases a:b[t]? with
  |some r=>exact (i t r a).2.1.symm
  |none=>
   have:b.length<=t:=by simpa using a
   exact (yp (by have:=c.lc;omega)).symm
 have u:Ss.flatten=[]:=by
  rw [List.flatten_eq_nil_iff];intro d m;obtain ⟨t,a⟩:=p9 m;have k:t<Ss.length:=(zes.1 a).1;have h0:t<xs.length:=by rw [<- c.ls];exact k
  have f:t<css.length:=by rw [c.lc];exact h0
  exact (o _ _ _ _ (c.own t css[t] d xs[t] (λ_ e=>by cases e) (zeg f) a (zeg h0))).1
 refine ⟨b,s,λr y=>by obtain ⟨t,a⟩:=p9 y;exact (i t r a).2.2,h.turn j n ?_ ?_⟩
 ·have:=c.row;show dH w T R.sz v b.length (jP enc b);rw [hl,<- oT q,l];exact this
 ·show (dj v).toList=S;rw [c.hS,u,i9]
theorem St.nOfRows(R:Rp M)(h:St w0 S0 w L)(j:Nat)(hs:sz=R.sz)(d:L[j]? =some (qk v T enc sz c0))(g:β->M)(f:∀r,(enc r).length=sz)(k:∀r∈c0,R.own w (enc r) [] (g r)):
  St w0 S0 w (L.set j (nI T R v (dj v).toList (c0.map g) none)):=by
 subst hs;have m:=h.all j _ d;have n:(List.replicate c0.length ([]:List Nat)).flatten=[]:=by rw [List.flatten_eq_nil_iff];intro l hl;exact (List.mem_replicate.1 hl).2
 refine h.turn j d ⟨c0.map enc,List.replicate c0.length [],?_,by simp,by simp,by rw [n,i9],cT,(λ_ _ e=>by cases e),λi p S x _ b o c=> ?_⟩ rfl
 ·rw [oT f,o8];exact m
 ·rw [x3] at b c;cases a:c0[i]? with
  |none=>rw [a] at b;cases b
  |some r=>
   rw [a] at b c;cases b;cases c;obtain rfl:S=[]:=(List.mem_replicate.1 (zmg o)).2;exact k r (zmg a)
theorem St.asRaw(h:St w0 S0 w L)(j:Nat)(a:L[j]? =some (qk v T enc sz c0))(b:∀r,(enc r).length=sz):St w0 S0 w (L.set j (qk v T (fit sz) sz (c0.map enc))):=by
 refine h.turn j a ?_ rfl;show dH w T sz v (c0.map enc).length (jP (fit sz) (c0.map enc));rw [o8,oT b];exact h.all j _ a
theorem Ks{M:Type}{R:Rp M}(w:World):(rY R [] [] []).Φ w:=⟨rfl,rfl,λi c S x h=>by simp at h⟩
theorem St.bchNew{M:Type}(R:Rp M)(h:St w0 S0 w L):St w0 S0 w (L++[rY R [] [] []]):=
 h.push (w9 _ _) (Ks w) (λb a=>by simp [rY] at a) (by simp [rY])
theorem St.bchOn{M:Type}{R:Rp M}{xs:List M}{x:M}(h:St w0 S0 w L)(k j:Nat)(a:Nat.beq k j=false)(g:L[k]? =some (rY R css Ss xs))(d:L[j]? =some (itI R I S x)):
  St w0 S0 w ((L.set k (rY R (css++[I]) (Ss++[S]) (xs++[x]))).set j nilI):=by
 have b:k≠j:=p7 a;have i:=h.bchOne j d;have c:j<L.length:=(zes.1 d).1;have f:=i.bchApp k j a (by rw [z7 (λe=>b e.symm)];exact g) (yh c)
 have e:((L.set j (rY R [I] [S] [x])).set k (rY R (css++[I]) (Ss++[S]) (xs++[x]))).set j nilI=(L.set k (rY R (css++[I]) (Ss++[S]) (xs++[x]))).set j nilI:=by
  rw [List.set_comm _ _ (λe=>b e.symm),yz]
 rw [e] at f;exact f
theorem tq(h:xs[i]? =some x):Sx.idx xs (i:Int)=some x:=by
 have a:i<xs.length:=(zes.1 h).1;unfold Sx.idx;rw [d8 (by omega)]
 simpa using h
theorem tr(h:xs[i]? =some x):xs.take (i+1)=xs.take i++[x]:=by
 rw [x6,h];rfl
theorem HZ(h:xs.drop i=t.drop i):xs[i]? =t[i]? :=by
 have:=congrArg (·[0]?) h
 simpa [List.getElem?_drop] using this
theorem BI(h:xs.drop i=t.drop i):(xs.set i x).drop (i+1)=t.drop (i+1):=by
 rw [List.drop_set_of_lt (by omega)];have:=congrArg (List.drop 1) h
 simpa [yj,Nat.add_comm] using this
theorem sJ{a:M}{β:Type}{g:M->β}(h:xs[i]? =some x)(e:g a=g x):(xs.set i a).map g=xs.map g:=by
 rw [yb,e];refine l8 λt=> ?_
 rw [yo];split
 ·rename_i b
  subst b;have:i<(xs.map g).length:=by rw [o8];exact (zes.1 h).1
  rw [d8 this,x3,h];rfl
 ·rfl
theorem BJ(h:i<xs.length):(xs.set i y).take (i+1)=xs.take i++[y]:=by
 rw [tr (x:=y) (by rw [yh h]),List.take_set_of_le (k9 i)]
set_option maxRecDepth 10000
theorem wk(a:P.funcs[e8]? =some B)(hs:List H)
    (c:B.body=some J:=by rfl) (d:B.ntmps=N:=by rfl) (g:Nat.ble I.length N=true:=by kernel_rfl)
    (n:∀w0 Z r,GC hs f r Fs L (rT 0 I) P B N w0 Z J (bodyPost P B (e9 w0 Z r)):=by
      repeat' (first
        |exact rfl
        |(refine KR.mk ?_;kernel_rfl)
        |((fail_if_success (fail_if_success (apply GO.here)));first|(refine GO.fo (by exact rfl) (λ_=>by exact rfl) ?_;intro _ _ e;subst e)|(refine GO.fO (by exact rfl) (λ_=>by exact rfl) (λ_=>by exact rfl) ?_;intro _ _ e;subst e)|(refine GO.fx (by assumption) ?_)|apply GO.mkf|apply GO.clr|apply GO.ci|apply GO.p|apply GO.k|apply GO.km|apply GO.kv|apply GO.nil|apply GO.nx|apply GO.ca|apply GO.bi|apply GO.bo|apply GO.st|apply GO.al|apply GO.bx|apply GO.sp|apply GO.ad|apply GO.sr|apply GO.rw|apply GO.ap|apply GO.mkS|apply GO.be|apply GO.bt|apply GO.sa|apply GO.sra|apply GO.srw|apply GO.spa|apply GO.sp1|apply GO.co|apply GO.ce|apply GO.cn|apply GO.il|apply GO.bn|apply GO.sn|apply GO.an|apply GO.ly|apply GO.lyx|apply GO.mN|apply GO.sg|apply GO.sx|apply GO.cp|apply GO.pw|apply GO.nd|apply GO.bxe|apply GO.ste|apply GO.vb|apply GO.mnN|apply GO.mlP|apply GO.mlR|apply GO.mq|apply GO.mh|apply GO.md|apply GO.ll|apply GO.nl|apply GO.bj)
        |((fail_if_success (fail_if_success (apply GQ.here)));first|(refine GQ.fx (by assumption) ?_)|apply GQ.mt|apply GQ.ms|apply GQ.bk|apply GQ.bg|apply GQ.next|apply GQ.then_ret|apply GQ.block_ret|apply GQ.then_exit|apply GQ.block_here|apply GQ.block_normal|apply GQ.block_on|apply GQ.rt|apply GQ.pop|apply GQ.popN|apply GQ.rc1|apply GQ.rc2|apply GQ.rc3|apply GQ.re|apply GQ.r0|apply GQ.ad|apply GQ.rn|apply GQ.rs|apply GQ.ri|apply GQ.nd|apply GQ.nl|apply GQ.nm|apply GQ.rI)
        |((fail_if_success (fail_if_success (apply GC.here)));first|(refine GC.fx (by assumption) ?_)|apply GC.dk|apply GC.ds|apply GC.dn|apply GC.ad|apply GC.seq|apply GC.block|apply GC.skip|apply GC.exit|apply GC.ret|apply GC.ck|apply GC.cs|apply GC.scB|apply GC.scC|apply GC.rgB|apply GC.plB|apply GC.br|apply GC.lb|apply GC.lc|apply GC.ct|apply GC.cf|apply GC.lg|apply GC.be|apply GC.nb|apply GC.stB|apply GC.tlB|apply GC.nl|apply GC.nm)
        |((fail_if_success (fail_if_success (apply GP.here)));first|(refine GP.fp (by exact rfl) (λ_ _ _ _=>by exact rfl) ?_;intro _ _ _ _ e;first|subst e|(generalize (‹(Nat×List Nat)×Value×List Nat›).2.1=u at e |-;subst e))|(refine GP.fO (by exact rfl) (λ_=>by exact rfl) (λ_=>by exact rfl) ?_;intro _ _ e;subst e)|(refine GP.fx (by assumption) ?_)|apply GP.p|apply GP.l1|apply GP.lm|apply GP.lv|apply GP.ac|apply GP.a2|apply GP.fin|apply GP.sp|apply GP.bi|apply GP.bo|apply GP.ad|apply GP.be|apply GP.bn|apply GP.bj|apply GP.bl)
        |((fail_if_success (fail_if_success (apply GS.here)));first|(refine GS.fO (by exact rfl) (λ_=>by exact rfl) (λ_=>by exact rfl) ?_;intro _ _ e;subst e)|(refine GS.fx (by assumption) ?_)|apply GS.sp|apply GS.ad|apply GS.be|apply GS.p|apply GS.k|apply GS.km|apply GS.kv|apply GS.bi|apply GS.bo|apply GS.fin|apply GS.on|apply GS.bn|apply GS.mlP)
        |(apply GC.dg;intro _ _ _ _ _)
        |intro _
        |(apply Nf.mk;(try dsimp only);(try exact rfl))
        |((fail_if_success (fail_if_success (apply Giv.here)));first|apply Giv.nil|apply Giv.rf|apply Giv.ro|apply Giv.rn|apply Giv.rb|apply Giv.rc|apply Giv.bj|apply Giv.bq|apply Giv.ru|apply Giv.dn|apply Giv.oN|apply Giv.po|apply Giv.sv|apply Giv.oi|apply Giv.fi)
        |((fail_if_success (fail_if_success (apply LkV.here)));first|apply LkV.ix|apply LkV.qu|apply LkV.re|apply LkV.hl|apply LkV.hr|apply LkV.si|apply LkV.ad|apply LkV.sq|apply LkV.cp|apply LkV.cu|apply LkV.cf|apply LkV.ai|apply LkV.sA|apply LkV.sU|apply LkV.nz|apply LkV.al|apply LkV.af|apply LkV.at|apply LkV.pn|apply LkV.sw)
        |((fail_if_success (fail_if_success (apply Adm.here)));first|apply Adm.nn|apply Adm.o0|apply Adm.s0|apply Adm.kp|apply Adm.nr|apply Adm.op|apply Adm.opk|apply Adm.sh|apply Adm.fp|apply Adm.fu|apply Adm.pt|apply Adm.no|apply Adm.nb|apply Adm.nb0s|apply Adm.nb0|apply Adm.shx|apply Adm.shw|apply Adm.ctr|apply Adm.nc|apply Adm.nd|apply Adm.s0x|apply Adm.ne|apply Adm.mb0|apply Adm.mb0r|apply Adm.mb|apply Adm.mbf|apply Adm.mbp|apply Adm.oi0|apply Adm.oi|apply Adm.sfN|apply Adm.sfx|apply Adm.tp)
        |((fail_if_success (fail_if_success (apply jl.here)));first|apply jl.dep|apply w8|apply jl.row|apply jl.nrow|apply jl.ptr|apply jl.bor|apply jl.any|apply jl.st|apply jl.len|apply jl.gho|apply jl.rdn|apply jl.mapn)
        |((fail_if_success (fail_if_success (apply qJ.here)));first|apply qJ.dep|apply qJ.on|apply qJ.os|apply qJ.pair|apply qJ.row|apply qJ.rowF|apply qJ.frz|apply qJ.nrow|apply qJ.rdn|apply qJ.bor|apply qJ.prn|apply qJ.pb|apply qJ.mapn|apply qJ.it|apply qJ.st|apply qJ.len|apply qJ.rdn|apply qJ.gho)
        |apply CY.nil
        |apply CY.kq
        |apply CY.c1
        |apply CY.n1
        |apply Ex.u
        |apply Ex.p
        |apply Ln.s
        |apply Ln.t
        |apply Ln.k
        |apply Sim.nil
        |apply Sim.part
        |apply Sim.blk
        |apply Sim.row
        |apply Sim.itU
        |apply Sim.nrow
        |apply Sim.mapN
        |apply Sim.nrowH
        |apply Sim.pool
        |apply RV.t
        |apply RV.cN
        |apply J7.nil
        |apply Bn.f1
        |apply Bn.oo
        |apply Bn.l1
        |apply Bn.r1
        |apply Bn.n1
        |apply Bn.d1
        |apply Bn.c1
        |apply Nb.sf
        |apply Nb.so
        |apply CF.b1
        |apply Ko.nil
        |apply Ko.u
        |apply CF.o1
        |apply CF.p1
        |apply CF.r1
        |apply LvR.c1
        |apply LvR.nil
        |apply CZ.nil
        |apply CZ.b
        |apply CZ.p
        |apply CZ.t
        |apply EZ.nil
        |apply EZ.consS
        |apply EZ.cons
        |apply Sim.sit
        |apply Mk.nil
        |apply Mk.cons
        |(apply QT.mk;apply_assumption)
        |(apply Pv.mk;apply_assumption)
        |(apply Po.mk;apply_assumption)
        |(apply Rn.mk;intro h wb Sb;apply (h wb Sb))
        |apply Cel.ld
        |apply Cel.le
        |apply Cel.lr
        |apply Cel.cc
        |apply Cel.ca
        |apply Cel.ce
        |apply Cel.nh
        |apply rK.lE
        |apply rK.lN
        |apply rK.lR
        |apply rK.cN
        |apply rK.cA
        |apply rK.ce
        |apply rK.nH
        |apply aB.row
        |apply aB.nrow
        |apply aB.any
        |apply aB.ptr
        |apply aB.bor
        |apply aB.rdn
        |apply aB.len
        |apply aB.gho
        |apply aB.dep
        |apply aB.pair
        |apply aB.st
        |apply mc.row
        |apply mc.rowF
        |apply mc.pair
        |apply mc.st
       )):OZ P e8 I Fs L f e9:=OZ.start hs a c d ⟨g⟩ n
end Go.Sx
