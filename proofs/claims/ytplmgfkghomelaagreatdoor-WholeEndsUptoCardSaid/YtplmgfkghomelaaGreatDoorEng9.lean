/- Lemmas. -/
import Derived.Test.YtplmgfkghomelaaGreatDoorIns
import Derived.Deep.Draws
import Derived.Lib.OthersKept
import Derived.Lib.Join
import Derived.Lib.ItoaNum
import Derived.Lib.LaidTab
import Derived.Lib.ParseIntB
import Derived.Lib.SplitLaws
import Derived.Lib.AtoiErrMem
import Derived.Stop.IfaceNil
import Derived.Test.YtplmgfkghomelaaGreatDoorRows
set_option linter.all false
namespace Go.Sx
open Go.RowKit
variable {Fs Fin:List Fa}{K β ρ ι γ κ:Type}{L M Lq Bq:List Item}{q i N j sz e n k c q' k2:Nat}{w0 w wb:World}{Z S js ks b Sb S0 eff Sp:List Nat}{T U d4 ty tb:TypeId}{P:Program}{x y a5:K}{p fr':Fr}{B e3 B0:Func}{R:Rp K}{l:List Oper}{v v' u:Value}{Q:Exit->Act->World->Prop}{r:ρ}{hs hs':List H}{xs t xs':List K}{f:Option ρ}{enc:β->List Value}{m m':List (Int×K)}{L1:List Nat->List Item}{A:Rp β}{a:Option Addr}{o a6:Option K}{fcs:ι->K->List Fa}{F k':Int}{vs:ι->K->List Value}{src:List Src}{z:K->Nat->Nat->ι->List Fa}{pd:List (Nat×Pn)}{g mm:Bool}{css:List (List Value)}{G:Rp γ}{kss:List (List Pa)}{ff:K->List Value->List Value}{ho:Option (Int×Value)}{vs2:κ->γ->List Value}{s:κ->γ->List Fa}{d:List (Int×β)}{E:List Pa}{I:List Value}{J W:Code}{O:Nat->List Nat->List Item}{V:Nat->List Item}{X:List Nat->Value->List Item}{Y:Value->List Nat->List Nat->List Item}{a0:K->List Value}{a1:List (Int×List K)}{a3 a4:List Nat->Option Addr->Nat->List Item}{hh:H}{a7:K->Option ρ}{a8:K->List Item}{a9:K->List Fa}{b0:List (Nat×Value)}{b3:Oper}{b4 b5:Operand}{kd:IntKind}{b6:Value->Rp β}{b7:Nat->ι->β->List Value}{b8:Nat->ι->β->List Item}{c0:Nat->ι->β->List Fa}{c2:List β}{y2 y1:β}{c3 it':Item}{c4:Value->ι->β->List Value}{c5:Value->ι->β->List Fa}{C:Value->Rp K}{c6:ι->β->List Value}{c7:ι->β->List Fa}{c8:γ->List Value->List Value}{c9:γ->β}{d0:ι->List Fa}{h h0:AH}{d2:List AH}{d3:World->Prop}{e0:String}{e1:Array Edge}{gdd:Option (Nat×Bool)}{L0 e2:World×List Nat×List Nat->List Item}{e4 h':Option (Nat×List Value)}{need:Fa}{e5:Exit}{e6:LH}{e7 R':Ending->World->Prop}{e8:Nat->β}{D:World->List Nat->K->List Value->Prop}{Ss:List (List Nat)}{e9:Os}{g0:FuncId}{conds:List PathCond}{g1:List (String×DataW Unit)}
theorem jk.mapn:jk [5] q Fs (JQ A) (λ(i:Nat×List Nat)_=>[.map (some i.1)]) (λi y=>[mN i.1 A i.2 y none]) (λ_ _=>[]):=⟨by
 intro w0 Z w c S y a ho;have b:=(JQ A).nd w c S y ho;obtain ⟨r,rfl,h⟩:=ho;exact ⟨(r,S),rfl,av.single (it:=mN r A S y none) h b rfl,trivial⟩⟩
theorem qJ.mapn(h:nth L j=some (mN q A S d none)):qJ [.r j] Fs L (JQ A) [j] [.map (some q)] d:=qJ.item h λw ho=>⟨q,rfl,ho⟩
theorem av.nilI(h:av w S L):av w S (nilI::L):=av.cons trivial o4 (λb a=>by cases a) (S2:=S) (λb a=>by cases a) h (λb a=>a)
theorem Adm.ne{ι:Type}{vs:ι->K->List Value}{d:ι->K->List Item}{fcs:ι->K->List Fa}{Lq L1:ι×List Nat->List Item}{z:ι×List Nat->List Fa}
  (r:nth Fs q=some (.el v' i N F xs x)) (G:nth L j=some (nI T R v' S xs' none)) (b:KR xs' xs) (t:jk ks e Fs R vs d fcs) (u:∀p,du L j (nI T R v' p.2 xs' (some (F.toNat,vs p.1 x)))=some (Lq p)) (v:∀p,lY (Lq p) (nilI::d p.1 x)=some (L1 p)) (y:∀p,lY Fs (fcs p.1 x)=some (z p)):
  Adm (.ne j q e ks) Fs L L1 z:=⟨λw0 Z w a s=>by
 obtain ⟨A,c,B⟩:=zD a r;have b:=b.h;subst b;have g:L[j]? =some (nI T R v' S xs' none):=by grind [zQ]
 obtain ⟨l,f,m,hl,C,n⟩:=s.nout j g A B;have ho:R.own w l m x:=n.all L.length (itI R l m x) (by simp);obtain ⟨k,rfl,D,E⟩:=t.o w0 Z w _ _ _ a ho;refine ⟨(k,f),?_,mo (y (k,f)) a E⟩;rw [bW (v (k,f)),qI (u (k,f))];exact n.spread D.nilI⟩
theorem Adm.nb0s
 (c:nth Fs q=some (.el v i N F xs x)) (d:gp L b []=some M) (e:nth M k=some (nI T R v' S xs' (some (n,I)))) (f:qJ (.s::E) Fs L R js I x) (h:KR xs' xs) (g:KR n F.toNat) (j:KR (zR (js++b)) true)
 (l:∀a,du M k (nI T R v' a xs' none)=some (L1 a)):Adm (.nb0 k q b (.s::E)) Fs L L1 (λ_=>Fs):=⟨(Adm.nb0 c d e f h g ⟨rfl⟩ ⟨rfl⟩ j l).o⟩
theorem Fg.consS{β:Type}{hl:∀J vs,(ff J vs).length=sz}{g:K->β}{A:Rp β}{z:β}(h:R=qK ff sz hl g A)(a:qJ E Fs L A Z I z)(b:KR (g y) z)(c:Fg kss Fs L R S css t):Fg ((.s::E)::kss) Fs L R (Z++S) (ff y I::css) (y::t):=Fg.cons (by subst h;exact qJ.st a ⟨rfl⟩ b) c
theorem GO.lyx{K:Type}{R:Rp K}{t:List K}(h:Fg kss Fs L R js css t)(a:gp L b []=some M)(c:KR (rwC l N p i) (some t.length))(d:KR css.length t.length)(e:KR (Nat.ble t.length 9223372036854775807) true)
 (hs:KR (tv p ((rwP l i).map (·.2))) true) (j:∀w,KR ((Instr.buildSlice (rwT l i) t.length ((rwP l i).toArray.map λ(i,J)=>(i,rho p J))).run P w) (.ok (.slice (some ⟨w.heap.size,0,none⟩) t.length t.length) (w.alloc (.cells (jP (fit R.sz) css).toArray T))))
 (k:KR (zR (js++b)) true) (m:∀g S,vh M (nI T R (.slice (some ⟨g,0,none⟩) t.length t.length) S t none)=some (O g S)) (n:∀g S,GO hs' f r Fs (O g S) ((dst l i,.slice (some ⟨g,0,none⟩) t.length t.length)::p) P B N w0 Z l (i+1) Q):GO (.lyx T R b kss t::hs') f r Fs L p P B N w0 Z l i Q:=⟨(GO.ly h a c d e hs j k m n).o⟩
def RM(l:List Oper)(N:Nat)(p:Fr)(i:Nat):Option TypeId:=match okO l N p i with
 |some ⟨_,.makeMap t none,_,_,_,_⟩=>some t
 |_=>none
theorem GO.mnN(b:KR (RM l N p i).isSome true)(u:∀q,vh L (Sx.mN q R [q] ([]:List (Int×K)) none)=some (V q))
  (n:∀q,GO hs f r Fs (V q) ((dst l i,.map (some q))::p) P B N w0 Z l (i+1) Q):GO (.mnN R::hs) f r Fs L p P B N w0 Z l i Q:=⟨λw a s e=>by
 have b:=b.h;unfold RM at b;split at b
 ·rename_i v x _ _ _ _ c
  obtain ⟨d,hl,k,g,m⟩:=jB c;simp only at g;subst g;refine OW.mnewN R s hl k m λq t y=> ?_
  have j:=(n q).o t a (by grind [vO]) e;rw [vt hl rfl] at j;exact j
 ·cases b⟩
def mlC(P:Program)(l:List Oper)(N:Nat)(p:Fr)(i:Nat):Option (Nat×Int×Bool×Value):=match okO l N p i with
 |some ⟨_,.lookup t x y g,_,_,_,_⟩=>match look p x,look p y,P.underlying t with
  |some (.map (some q)),some (.int .i64 k),some (.map a b)=>match P.underlying a,au P (zeroValue b) with
   |some (.int _),some v=>some (q,k,g,v)
   |_,_=>none
  |_,_,_=>none
 |_=>none
theorem Ai(h:mlC P l N p i=some (q,F,g,v)):
  ∃d t J W ty pos a gdd b c kd,vr l i=some ⟨some d,.lookup t J W g,ty,pos,a,gdd⟩/\gd l p ⟨some d,.lookup t J W g,ty,pos,a,gdd⟩=some true/\Nat.blt d N=true/\look p J=some (.map (some q))/\look p W=some (.int .i64 F)/\P.underlying t=some (.map b c)/\P.underlying b=some (.int kd)/\au P (zeroValue c)=some v:=by
 unfold mlC at h;split at h
 ·rename_i k t J W f ty pos a gdd e
  split at h
  ·rename_i q' k' b c m n o
   split at h
   ·rename_i kd j r s
    simp only [i8,p8] at h;obtain ⟨rfl,rfl,rfl,rfl⟩:=h;obtain ⟨d,hl,u,w,x⟩:=jB e
    grind
   ·cases h
  ·cases h
 ·cases h
def mlT(l:List Oper)(i:Nat):Bool:=match vr l i with
 |some ⟨_,.lookup _ _ _ g,_,_,_,_⟩=>g
 |_=>false
def mlV(g:Bool)(v:Value)(b:Bool):Value:=match g with
 |true=>.tuple #[v,.bool b]
 |false=>v
theorem GO.mlP(z:nth L j=some (Sx.mN q (vI U R) S m none))(K:Nf (mlT l i) g)(A:KR (mlC P l N p i) (some (q,F,g,.pointer none)))
  (M:∀b v,du L j (Sx.mN q (vI U R) b m (some (F,v)))=some (X b v)) (O:∀v b c,vh (X b v) (itI (BC U R) [v] c (jz m F))=some (Y v b c))
  (n:∀v b c,GO hs f r Fs (Y v b c) ((dst l i,mlV g v (jz m F).isSome)::p) P B N w0 Z l (i+1) Q):GO (.mlP j F::hs) f r Fs L p P B N w0 Z l i Q:=⟨λw a s e=>by
 obtain ⟨d,t,x,y,ty,pos,T,gdd,V,W,kd,hl,C,k,D,E,G,I,J⟩:=Ai A.h;refine OW.mlook (BC U R) (λo=>o) s j (by rw [<- zQ];exact z) hl C k D E G I (.pointer none) J (λ_=>⟨rfl,rfl⟩) (λ_ _ _ _ h=>h) (λ_ _ _ _ h=>h) λv b c s'=> ?_
 have u:=(n v b c).o w a (by grind [vO,qI]) e;rw [vt hl rfl] at u;cases g<;>exact u⟩
theorem Sim.mapN(a:KR m m')(n:Sim L M):Sim (Go.Sx.mN q R S m none::L) (Go.Sx.mN q R S m' none::M):=⟨by rw [a.h,n.e]⟩
theorem GS.mlP(K:nth L j=some (Sx.mN q (vI U R) S m none))(h2:Nf (mlT l i) g)(M:KR (mlC P l N p i) (some (q,F,g,.pointer none)))(O:KR (Nat.blt i sz) true)
  (T:∀b v,du L j (Sx.mN q (vI U R) b m (some (F,v)))=some (X b v)) (V:∀v b c,vh (X b v) (itI (BC U R) [v] c (jz m F))=some (Y v b c))
  (n:∀v b c,GS hs f r Fs (Y v b c) ((dst l i,mlV g v (jz m F).isSome)::p) P B N w0 Z l (i+1) sz mm Q):GS (.mlP j F::hs) f r Fs L p P B N w0 Z l i sz mm Q:=⟨λw a s e=>by
 obtain ⟨d,t,x,y,ty,pos,af,gdd,tk,te,kd,hl,W,z,A,C,D,E,G⟩:=Ai M.h;obtain ⟨v,b,c,h0,u,s'⟩:=s.mlookS (k:=F) (BC U R) (λo=>o) j (by rw [<- zQ];exact K) (.pointer none) (λ_=>⟨rfl,rfl⟩) (λ_ _ _ _ h=>h) (λ_ _ _ _ h=>h)
 have I:=(n v b c).o w a (by rw [vO (V v b c),qI (T b v)];exact s') e
 rw [vt hl rfl] at I;refine OS.op (v:=mlV g v (jz m F).isSome) hl O.h W rfl z (λa J=> ?_) I;cases g
 ·exact KQ u rfl A C D E G a J
 ·exact KS u rfl A C D E G a J⟩
theorem GO.mlR{k:∀W,(a0 W).length=sz}{m:0<sz}(A:nth L j=some (Sx.mN q (nL T a0 sz k m) S a1 none))(V:Nf (mlT l i) g)(C:KR (mlC P l N p i) (some (q,F,g,.slice none 0 0)))
  (X:∀b a J,du L j (Sx.mN q (nL T a0 sz k m) b a1 (some (F,.slice a ((jz a1 F).getD []).length J)))=some (a3 b a J)) (Y:∀b a J,vh (a3 b a J) (qk (.slice a ((jz a1 F).getD []).length J) T a0 sz ((jz a1 F).getD []))=some (a4 b a J))
  (n:∀b a J,GO hs f r Fs (a4 b a J) ((dst l i,mlV g (.slice a ((jz a1 F).getD []).length J) (jz a1 F).isSome)::p) P B N w0 Z l (i+1) Q):GO (.mlR j F::hs) f r Fs L p P B N w0 Z l i Q:=⟨λw a s e=>by
 obtain ⟨d,t,W,y,ty,pos,af,gdd,tk,te,kd,hl,D,u,E,G,I,K,M⟩:=Ai C.h;refine OW.mlook (nL T a0 sz k m) (λo=>o.getD []) s j (by rw [<- zQ];exact A) hl D u E G I K (.slice none 0 0) M (λw=>⟨_,rfl,rfl,dW.nil w _ _ none⟩) (λ_ _ _ _ h=>h) (λ_ _ _ _ h=>h) λv b S2 O=> ?_
 have c:(L.set j (Sx.mN q (nL T a0 sz k m) b a1 (some (F,v)))).length=L.length:=by simp
 have x:=O.toRow1 L.length (by rw [z7 (by simp)];simp;rfl);rw [SF _ _ (by simp)] at x;simp only [c,Nat.sub_self,List.set_cons_zero] at x;obtain ⟨_,R,U,rfl⟩:=x.len L.length (by rw [z7 (by simp)];simp;rfl);have z:=(n b R U).o w a (by grind [vO,qI]) e;rw [vt hl rfl] at z;cases g<;>exact z⟩
def muC(P:Program)(l:List Oper)(p:Fr)(i:Nat):Option (Nat×Int×Value):=match vr l i with
 |some ⟨none,.mapUpdate t x y z,ty,pos,a,g⟩=>match gd l p ⟨none,.mapUpdate t x y z,ty,pos,a,g⟩,look p x,look p y,look p z with
  |some true,some (.map (some q)),some (.int .i64 k),some v=>match P.underlying t with
   |some (.map b _)=>match P.underlying b with
    |some (.int _)=>some (q,k,v)
    |_=>none
   |_=>none
  |_,_,_,_=>none
 |_=>none
theorem Fi(h:muC P l p i=some (q,F,v)):
  ∃t J W z ty pos a gdd b c kd,vr l i=some ⟨none,.mapUpdate t J W z,ty,pos,a,gdd⟩/\gd l p ⟨none,.mapUpdate t J W z,ty,pos,a,gdd⟩=some true/\look p J=some (.map (some q))/\look p W=some (.int .i64 F)/\look p z=some v/\P.underlying t=some (.map b c)/\P.underlying b=some (.int kd):=by
 unfold muC at h
 grind
theorem GO.mpG
  (k:∀k' a5,ho=some (k',a5)->k'=F) (G:gp L b []=some M) (hk:nth M j=some (Sx.mN q R S m ho)) (I:qJ E Fs L R js [v] a5) (J:KR (muC P l p i) (some (q,F,v))) (K:KR (zR (js++b)) true)
  (hL:∀d,du M j (Sx.mN q R d (mput m F a5) none)=some (L1 d)) (n:∀d,GO hs f r Fs (L1 d) p P B N w0 Z l (i+1) Q):GO (hh::hs) f r Fs L p P B N w0 Z l i Q:=⟨λw a s e=>by
 obtain ⟨t,x,y,z,ty,pos,af,gdd,tk,te,kd,hl,O,T,U,V,W,A⟩:=Fi J.h;obtain ⟨C,X⟩:=gJ I G K.h a s;have c:M[j]? =some (Sx.mN q R S m ho):=by grind [zQ]
 have g:j<M.length:=(zes.1 c).1;refine OW.mputN (S2:=C) (u:=a5) X j M.length (Nv (Nat.ne_of_lt g)) (by rw [x9 g,c]) k (by simp) hl O T U V W A λd Y D=> ?_
 rw [rr c,SF _ _ (by simp)] at D;simp at D;exact (n d).o Y a (by grind [qI,kE]) e⟩
theorem GO.mq
 (d:gp L b []=some M) (g:nth M j=some (Sx.mN q R S m (some (k',v')))) (c:KR k' F) (k:qJ E Fs L R js [v] x) (o:KR (muC P l p i) (some (q,F,v))) (s:KR (zR (js++b)) true)
 (t:∀a,du M j (Sx.mN q R a (mput m F x) none)=some (L1 a)) (n:∀a,GO hs f r Fs (L1 a) p P B N w0 Z l (i+1) Q):GO (.mq j F b E::hs) f r Fs L p P B N w0 Z l i Q:=GO.mpG (λ_ _ e=>by cases e;exact c.h) d g k o s t n
def muV(P:Program)(l:List Oper)(p:Fr)(i:Nat):Value:=match muC P l p i with
 |some (_,_,v)=>v
 |none=>undef
theorem GO.mh
  (d:nth L j=some (Sx.mN q R S m none)) (g:KR (muC P l p i) (some (q,F,muV P l p i))) (E:∀b,du L j (Sx.mN q R b (mput m F a5) (some (F,muV P l p i)))=some (L1 b)) (n:∀b,GO hs f r Fs (L1 b) p P B N w0 Z l (i+1) Q):GO (.mh j F a5::hs) f r Fs L p P B N w0 Z l i Q:=⟨λw a s e=>by
 obtain ⟨t,x,y,z,ty,pos,G,gdd,I,J,kd,hl,k,u,v,A,C,c⟩:=Fi g.h;refine OW.mputH s j a5 (by rw [<- zQ];exact d) (λ_ _ e=>by cases e) hl k u v A C c λb D K=> ?_
 exact (n b).o D a (by grind [qI]) e⟩
def mdC(P:Program)(l:List Oper)(p:Fr)(i:Nat):Option (Nat×Int):=match vr l i with
 |some ⟨none,.call ⟨.builtin .delete,⟨[x,y]⟩,⟨t::a⟩⟩,ty,pos,b,g⟩=>match gd l p ⟨none,.call ⟨.builtin .delete,⟨[x,y]⟩,⟨t::a⟩⟩,ty,pos,b,g⟩,look p x,look p y,P.underlying t with
  |some true,some (.map (some q)),some (.int .i64 k),some (.map c _)=>match P.underlying c with
   |some (.int _)=>some (q,k)
   |_=>none
  |_,_,_,_=>none
 |_=>none
theorem GO.md(d:nth L j=some (Sx.mN q R S m none))(b:KR (mdC P l p i) (some (q,F)))(E:∀c,du L j (Sx.mN q R c (mdel m F) none)=some (L1 c))
  (n:∀c,GO hs f r Fs (L1 c) p P B N w0 Z l (i+1) Q):GO (.md j F::hs) f r Fs L p P B N w0 Z l i Q:=⟨λw a s e=>by
 have b:=b.h;unfold mdC at b;split at b
 ·rename_i x y t k ty pos G g hl
  split at b
  ·rename_i q' k' I J u v z A
   split at b
   ·rename_i kd C
    simp only [i8,p8] at b;obtain ⟨rfl,rfl⟩:=b;refine OW.mdelN (ats:=t::k) s j (by rw [<- zQ];exact d) hl u rfl v z A C λc D K=> ?_
    exact (n c).o D a (by grind [qI]) e
   ·cases b
  ·cases b
 ·cases b⟩
def llC(P:Program)(l:List Oper)(N:Nat)(p:Fr)(i:Nat):Option Nat:=match okO l N p i with
 |some ⟨_,.call ⟨.builtin .len,⟨[x]⟩,⟨t::_⟩⟩,_,_,_,_⟩=>match look p x,P.underlying t with
  |some (.map (some q)),some (.map _ _)=>some q
  |_,_=>none
 |_=>none
theorem GO.ll(u:nth L j=some (Sx.mN q R S m ho))(b:KR (llC P l N p i) (some q))
  (n:GO hs f r Fs L ((dst l i,.int .i64 (m.length:Int))::p) P B N w0 Z l (i+1) Q):GO (.ll j::hs) f r Fs L p P B N w0 Z l i Q:=⟨λw a s e=>by
 have b:=b.h;unfold llC at b;split at b
 ·rename_i D x t v _ _ _ _ c
  split at b
  ·rename_i q' E F y z
   simp only [i8] at b;subst b;obtain ⟨d,hl,A,g,C⟩:=jB c;simp only at g;subst g;refine k6 hl A rfl C (JZ (ats:=t::v) s j (by rw [<- zQ];exact u) rfl rfl y z) ?_
   have k:=n.o w a s e;rw [vt hl rfl] at k;exact k
  ·cases b
 ·cases b⟩
theorem DE{γ:Type}{e:Rp γ}{ff:Option K->γ}{y:γ}(l:gp L b []=some M)(t:nth M k=some (Sx.mN q R S m (some (F,v))))(n:qJ E Fs L e js [v] y)
  (d:∀w g S J,e.own w g S (ff (some J))->R.own w g S J) (o:zR (js++b)=true) (z:K) (p:(jz m F).isSome=true->y=ff (some z)) (a:bJ w0 Z Fs) (s:St w0 Z w L):∃i,St w0 Z w (M.set k (Sx.mN q R i (wc m F z) none)):=by
 obtain ⟨j,r⟩:=gJ n l o a s;have h:M[k]? =some (Sx.mN q R S m (some (F,v))):=by grind [zQ]
 have c:k<M.length:=(zes.1 h).1;obtain ⟨i,u⟩:=r.mback (f:=ff) k M.length (S2:=j) (Nv (Nat.ne_of_lt c)) (by rw [x9 c,h]) (by simp) d z p
 grind [rr,kE]
theorem Fj{γ:Type}{e:Rp γ}{ff:Option K->γ}(l:gp L b []=some M)(r:nth M k=some (Sx.mN q R S m (some (F,v))))(n:qJ E Fs L e js [v] (ff (jz m F)))
  (d:∀w g S J,e.own w g S (ff (some J))->R.own w g S J) (o:zR (js++b)=true) (a:bJ w0 Z Fs) (s:St w0 Z w L):∃i,St w0 Z w (M.set k (Sx.mN q R i m none)):=by
 obtain ⟨j,p⟩:=gJ n l o a s;have h:M[k]? =some (Sx.mN q R S m (some (F,v))):=by grind [zQ]
 have c:k<M.length:=(zes.1 h).1;obtain ⟨i,t⟩:=p.mback0 (f:=ff) k M.length (S2:=j) (Nv (Nat.ne_of_lt c)) (by rw [x9 c,h]) (by simp) d
 grind [rr,kE]
theorem Adm.mb0(f:gp L b []=some M)(g:nth M k=some (Sx.mN q (vI U R) S m (some (F,v))))(i:qJ E Fs L (BC U R) js [v'] a6)
  (c:KR v' v) (d:KR a6 (jz m F)) (j:KR (zR (js++b)) true) (l:∀e,du M k (Sx.mN q (vI U R) e m none)=some (L1 e)):Adm (.mb0 k b E) Fs L L1 (λ_=>Fs):=⟨λw0 Z w a s=>by
 have c:=c.h;have d:=d.h;subst c d;obtain ⟨e,n⟩:=Fj (ff:=λo=>o) f g i (λ_ _ _ _ h=>h) j.h a s
 grind [qI]⟩
theorem Adm.mb0r{c:∀J,(a0 J).length=sz}{d:0<sz}(i:gp L b []=some M)(j:nth M k=some (Sx.mN q (nL T a0 sz c d) S a1 (some (F,v))))(l:qJ E Fs L (nL T a0 sz c d) js [v'] xs)
  (e:KR v' v) (f:KR xs ((jz a1 F).getD [])) (m:KR (zR (js++b)) true) (n:∀g,du M k (Sx.mN q (nL T a0 sz c d) g a1 none)=some (L1 g)):Adm (.mbr k b E) Fs L L1 (λ_=>Fs):=⟨λw0 Z w a s=>by
 have e:=e.h;have f:=f.h;subst e f;obtain ⟨g,p⟩:=Fj (ff:=λo=>o.getD []) i j l (λ_ _ _ _ h=>h) m.h a s
 grind [qI]⟩
theorem Adm.mb(e:gp L b []=some M)(f:nth M k=some (Sx.mN q (vI U R) S m (some (F,v))))(g:qJ E Fs L (BC U R) js [v'] (some y))
  (c:KR v' v) (i:KR (zR (js++b)) true) (j:∀d,du M k (Sx.mN q (vI U R) d (wc m F y) none)=some (L1 d)):Adm (.mb k b E) Fs L L1 (λ_=>Fs):=⟨λw0 Z w a s=>by
 have c:=c.h;subst c;obtain ⟨d,l⟩:=DE (ff:=λo=>o) e f g (λ_ _ _ _ h=>h) i.h y (λ_=>rfl) a s
 grind [qI]⟩
theorem Adm.mbf(f:nth Fs e=some (.oe o x))(g:gp L b []=some M)(i:nth M k=some (Sx.mN q (vI U R) S m (some (F,v))))(j:qJ E Fs L (BC U R) js [v'] (some y))
  (c:KR v' v) (ho:KR o (jz m F)) (l:KR x y) (n:KR (zR (js++b)) true) (t:∀d,du M k (Sx.mN q (vI U R) d m none)=some (L1 d)):Adm (.mbf k e b E) Fs L L1 (λ_=>Fs):=⟨λw0 Z w a s=>by
 have c:=c.h;subst c;have p:o=some x:=zD a f;obtain ⟨d,r⟩:=DE (ff:=λo=>o) g i j (λ_ _ _ _ h=>h) n.h y (λ_=>rfl) a s;rw [uV (by rw [<- ho.h,p,l.h])] at r
 grind [qI]⟩
theorem Adm.mbp(f:gp L b []=some M)(g:nth M k=some (Sx.mN q (vI U R) S (mput m k' x) (some (F,v))))(i:qJ E Fs L (BC U R) js [v'] (some y))
  (c:KR v' v) (ho:KR k' F) (d:KR x y) (j:KR (zR (js++b)) true) (l:∀e,du M k (Sx.mN q (vI U R) e (mput m k' x) none)=some (L1 e)):Adm (.mbp k b E) Fs L L1 (λ_=>Fs):=⟨λw0 Z w a s=>by
 have c:=c.h;have ho:=ho.h;have d:=d.h;subst c ho d;obtain ⟨e,n⟩:=DE (ff:=λo=>o) f g i (λ_ _ _ _ h=>h) j.h x (λ_=>rfl) a s
 grind [uV,Bo,qI]⟩
theorem GO.fO(c:nth L j=some (itI (BC U R) [u] S o))(d:∀y,du L j (itI (vI U R) [u] S y)=some (a8 y))(e:∀y,vh Fs (.oe o y)=some (a9 y))(n:∀y b,u=.pointer (some ⟨b,0,none⟩)->GO hs (a7 y) r (a9 y) (a8 y) p P B N w0 Z l i Q):GO (.fO j::hs) (o.bind a7) r Fs L p P B N w0 Z l i Q:=⟨λw a s q=>by
 obtain ⟨y,h,f⟩:=zK q;obtain ⟨g,b,k⟩:=Fh c (d y) s h;exact (n y b k).o w (ju (F:=.oe o y) a h (e y)) g f⟩
theorem GS.fO(d:nth L j=some (itI (BC U R) [u] S o))(e:∀y,du L j (itI (vI U R) [u] S y)=some (a8 y))(f:∀y,vh Fs (.oe o y)=some (a9 y))(n:∀y b,u=.pointer (some ⟨b,0,none⟩)->GS hs (a7 y) r (a9 y) (a8 y) p P B N w0 Z l i c g Q):GS (.fO j::hs) (o.bind a7) r Fs L p P B N w0 Z l i c g Q:=⟨λw a s q=>by
 obtain ⟨y,h,k⟩:=zK q;obtain ⟨m,b,t⟩:=Fh d (e y) s h;exact (n y b t).o w (ju (F:=.oe o y) a h (f y)) m k⟩
theorem GP.fO(c:nth L j=some (itI (BC U R) [u] S o))(d:∀y,du L j (itI (vI U R) [u] S y)=some (a8 y))(e:∀y,vh Fs (.oe o y)=some (a9 y))(n:∀y b,u=.pointer (some ⟨b,0,none⟩)->GP hs (a7 y) r (a9 y) (a8 y) p P B N w0 Z l js eff pd Q):GP (.fO j::hs) (o.bind a7) r Fs L p P B N w0 Z l js eff pd Q:=⟨λw a s q=>by
 obtain ⟨y,h,f⟩:=zK q;obtain ⟨g,b,i⟩:=Fh c (d y) s h;exact (n y b i).o w (ju (F:=.oe o y) a h (e y)) g f⟩
open Go.RowKit Go.Sort
theorem CZ{K:Type}{enc:K->List Value}{sz:Nat}(a:∀x,(enc x).length=sz):∀{xs:List K} {t:Nat} {u:K},xs[t]? =some u->((jP enc xs).drop (t*sz)).take sz=enc u
 |[],t,u,h=>by simp at h
 |x::r,0,u,h=>by
  simp at h;subst h;simp only [jP,Nat.zero_mul,List.drop_zero];rw [Su (by rw [a];omega),t7 (by rw [a];omega)]
 |x::r,t+1,u,h=>by
  have:=CZ a (xs:=r) (t:=t) (u:=u) (by simpa using h);simp only [jP]
  have e:(enc x++jP enc r).drop ((t+1)*sz)=(jP enc r).drop (t*sz):=by
   rw [show (t+1)*sz=sz+t*sz by rw [v9];omega,<- yu,List.drop_left' (a x)]
  rw [e];exact this
theorem Md{K:Type}{enc:K->List Value}{xs:List K}{sz:Nat}{u:K}(ho:b3.op=.index i b4 b5)(c:look b0 b4=some (.agg (jP enc xs).toArray))(d:look b0 b5=some (.int kd F))
  (f:P.underlying i=some (.array n e)) (hs:au P (sizeOf e)=some sz) (g:au P (isAgg e)=some true) (j:∀b4,(enc b4).length=sz) (m:xs.length=n) (h:idx xs F=some u):
  ∀a w,Rep N b0 a->(execOp a.eval b3).run P w=.ok (.value (.agg (enc u).toArray)) w:=by
 intro a w b;have e1:=b.look c;have e2:=b.look d;unfold idx at h;split at h
 case isFalse=>cases h
 rename_i h0
 have k:=(zes.1 h).1;have l:F<(n:Int):=by omega
 have:=CZ j h
 have e3:(jP enc xs).toArray.extract (F.toNat*sz) (F.toNat*sz+sz)=(enc u).toArray:=by
  rw [<- this];simp [List.take_drop]
 simp [execOp,ho,Instr.index,e1,e2,asIntOf,run_underlying f,h0,l,part,qV hs,qV g,e3];exact this
open Go.ChangeShapes Go.WideShapes Go.ChangeAt Go.RowKit
def Sk(P:Program):Nat:=(World.holding P default ⟨#[],#[],[]⟩).heap.size
def B7(P:Program)(T k:Nat):List Value:=[.iface T (.pointer (some ⟨Sk P+k,0,none⟩))]
open Go.RowKit
def bytesOf(s:ByteArray):List Int:=s.data.toList.map λb=>(b.toNat:Int)
open Go.RowKit
open Go.RowKit
theorem jk.len:jk [9] q Fs (MK β) (λ(i:Option Addr×Nat)y=>[.slice i.1 y.length i.2]) (λi y=>[itI (MK β) [.slice i.1 y.length i.2] [] y]) (λ_ _=>[]):=⟨by
 rintro w0 Z w b S y a ⟨rfl,p,c,rfl⟩;exact ⟨(p,c),rfl,av.single (it:=itI (MK β) [.slice p y.length c] [] y) ⟨rfl,p,c,rfl⟩ o4 rfl,trivial⟩⟩
theorem jk.gho{γ:Type}{G:Rp γ}{f:∀v,(b6 v).sz=n}
  (h:∀b:Nat,jk ks q Fs (b6 (.pointer (some ⟨b,0,none⟩))) (b7 b) (b8 b) (c0 b)):
  jk (10::ks) q Fs (NE (vI U G) b6 n f) (λ(i:Nat×List Nat×ι)y=>b7 i.1 i.2.2 y.2) (λi y=>itI (vI U G) [.pointer (some ⟨i.1,0,none⟩)] i.2.1 y.1::b8 i.1 i.2.2 y.2) (λi y=>c0 i.1 i.2.2 y.2):=⟨by
 rintro w0 Z w t S y a ⟨u,g,x,rfl,j,c,k⟩;have l:=(vI U G).nd w _ g y.1 c;have d:=c;obtain ⟨b,m,e,p,rfl,z⟩:=d;obtain rfl:u=.pointer (some ⟨b,0,none⟩):=by simpa using p
 obtain ⟨i,rfl,r,s⟩:=(h b).o w0 Z w _ _ _ a k;exact ⟨(b,b::e,i),rfl,(av.single (it:=itI (vI U G) [.pointer (some ⟨b,0,none⟩)] (b::e) y.1) c l rfl).app r j,s⟩⟩
theorem jk.rdn{β:Type}{R:Rp β}{h:0<R.sz}(b:nth Fs q=some (.bo wb Sb)):
  jk [11] q Fs (rdP (lx T R h) wb Sb) (λ(i:Option Addr×Nat)y=>[.slice i.1 y.length i.2]) (λ_ _=>[]) (λi y=>[.rbn wb Sb (.slice i.1 y.length i.2) R y,.rn (.slice i.1 y.length i.2) R y]):=⟨by
 rintro w0 Z w d S y a ⟨rfl,v,rfl,ho⟩;obtain ⟨_,p,c,rfl⟩:=RdN.len ho;exact ⟨(p,c),rfl,av.nil,ho,ho.bor h (zD a b),trivial⟩⟩
theorem qJ.len(b:nth L j=some (jT q T I))(d:nth I k=some (.slice a c2.length c)):qJ [.ln j k] Fs L (MK β) [] [.slice a c2.length c] c2:=⟨λw0 Z w e s h=>⟨[],⟨rfl,a,c,rfl⟩,o4,by simp⟩⟩
theorem qJ.rdn{β:Type}{R:Rp β}{h:0<R.sz}{xs:List β}(b:nth Fs e=some (.rbn wb Sb v R xs)):qJ [.f e] Fs L (rdP (lx T R h) wb Sb) [] [v] xs:=⟨λw0 Z w c a s=>
 ⟨[],⟨rfl,v,rfl,zD a b⟩,o4,by simp⟩⟩
theorem qJ.gho{γ:Type}{G:Rp γ}{k:∀v,(b6 v).sz=n}{y1:γ}(l:nth L j=some (itI G [u] S y1))(h:qJ E Fs L (b6 u) js I y2):
  qJ (.g j::E) Fs L (NE G b6 n k) (j::js) I (y1,y2):=⟨λw0 Z w m a s=>by
 have c:zR ([j]++js)=true:=m;obtain ⟨d,p,q,r⟩:=(qJ.it (Fs:=Fs) (A:=G) l).o w0 Z w (dG c) a s;obtain ⟨f,t,x,y⟩:=h.o w0 Z w (mu c) a s;have z:∀b∈d,b∉f:=λb i B=>tj s c b (r b i) (y b B)
 refine ⟨d++f,⟨u,d,f,rfl,z,p,t⟩,l6.2 ⟨q,x,λa C b i e=>by grind⟩,λb i=> ?_⟩
 grind [fp,sel,Af,H8]⟩
theorem Giv.po(c:nth L j=some (sJ wb Sp))(b:KR (mem? j js) false)(n:Giv src Fs L js Fin):Giv (.po j::src) Fs L js (.bo wb (coS wb Sp)::Fin):=
 ⟨λw0 Z w a s=>⟨s.pool j (by grind [zQ]) js b.h,n.g w0 Z w a s⟩⟩
theorem St.alter(s:St w0 Z w L)(j:Nat)(d:L[j]? =some c3)(h:it'.Φ w)(g:it'.S=c3.S):St w0 Z w (L.set j it'):=by
 have i:=(zes.1 d).1
 have k:∀(m:Nat)(x:Item),(L.set j it')[m]? =some x->(m=j/\x=it')\/L[m]? =some x:=λm x a=>by
  grind
 refine s.repart (λm x a=> ?_) (λm n x y e a l b c o=> ?_)
 ·rcases k m x a with ⟨rfl,rfl⟩|a
  ·exact ⟨h,by rw [g];exact s.nd _ c3 d,λb c=>vF.2 ⟨_,c3,d,by rw [<- g];exact c⟩⟩
  ·exact ⟨s.all m x a,s.nd m x a,λb c=>vF.2 ⟨m,x,a,c⟩⟩
 ·have f:∀(m:Nat)(x:Item),(L.set j it')[m]? =some x->∃y,L[m]? =some y/\y.S=x.S:=λm x a=>by
   grind
  obtain ⟨p,q,r⟩:=f m x a;obtain ⟨t,u,v⟩:=f n y l;exact s.apart m n p t e q u b (by rw [r];exact c) (by rw [v];exact o)
theorem KL(d:nth L j=some (itI (KO T a0) [u] S o))(s:St w0 Z w L)(ho:o=some y):∃b A C,u=.pointer (some ⟨b,A.length,none⟩)/\St w0 Z w (L.set j (dt b T A (a0 y) C)):=by
 subst ho;have h:L[j]? =some (itI (KO T a0) [u] S (some y)):=by grind [zQ]
 obtain ⟨b,A,C,a,e,c⟩:=s.all j _ h;exact ⟨b,A,C,by simpa using a,s.alter j h c (by grind [itI,dt,jT])⟩
theorem qJ.prn{β:Type}{enc:β->List Value}:qJ [.on] Fs L (KO T enc) [] [.pointer none] none:=⟨λw0 Z w h a s=>⟨[],⟨rfl,rfl⟩,o4,by simp⟩⟩
theorem qJ.pb{β:Type}{enc:β->List Value}{x:β}(a:nth L j=some (jT q T I))(b:KR (I.take i).length i)(hs:KR I (I.take i++(enc x++I.drop (i+n)))):qJ [.pb j i n] Fs L (KO T enc) [j] [.pointer (some ⟨q,i,none⟩)] (some x):=
 qJ.item a λw ho=>⟨q,I.take i,I.drop (i+n),by rw [b.h],rfl,by rw [<- hs.h];exact ho⟩
open Go.RowKit
structure aD {β ι:Type} (ks:List Nat) (q:Nat) (Fs:List Fa) (A:Rp β) (vs:ι->β->List Value) (fcs:ι->β->List Fa):Prop where
 o:∀w0 Z cs y,bJ w0 Z Fs->A.rd w0 Z y cs->∃i,cs=vs i y/\bJ w0 Z (fcs i y)
structure my {β ι:Type} (ks:List Nat) (q:Nat) (Fs:List Fa) (wb:World) (Sb:List Nat) (A:Rp β) (vs:ι->β->List Value) (fcs:ι->β->List Fa):Prop where
 o:∀w0 Z cs y,bJ w0 Z Fs->A.rd wb Sb y cs->∃i,cs=vs i y/\bJ w0 Z (fcs i y)
theorem aD.row{b:∀x,(enc x).length=sz}{d:0<sz}:
  aD [1] q Fs (nL T enc sz b d) (λ(i:Option Addr×Nat)y=>[.slice i.1 y.length i.2]) (λi y=>[.rd (.slice i.1 y.length i.2) enc sz y]):=⟨by
 rintro w Z e y a ⟨v,rfl,h⟩;obtain ⟨_,a,c,rfl⟩:=Rd.len h;exact ⟨(a,c),rfl,h,trivial⟩⟩
theorem aD.nrow{β:Type}{R:Rp β}{b:0<R.sz}:
  aD [2] q Fs (lx T R b) (λ(i:Option Addr×Nat)y=>[.slice i.1 y.length i.2]) (λi y=>[.rn (.slice i.1 y.length i.2) R y]):=⟨by
 rintro w Z d y a ⟨v,rfl,h⟩;obtain ⟨_,a,c,rfl⟩:=RdN.len h;exact ⟨(a,c),rfl,h,trivial⟩⟩
theorem aD.any{β:Type}{A:Rp β}(b:KR A.sz 1):aD [4] q Fs A (λ(i:Value)_=>[i]) (λi y=>[.ri i A y]):=⟨by
 intro w Z c y a h;have hl:=A.rlen _ _ _ _ h;rw [b.h] at hl
 match c,hl,h with
 |[v],_,h=>exact ⟨v,rfl,h,trivial⟩⟩
theorem aD.ptr:aD [5] q Fs (vI U A) (λ(i:Nat)_=>[.pointer (some ⟨i,0,none⟩)]) (λi y=>[.ri (.pointer (some ⟨i,0,none⟩)) (vI U A) y]):=⟨by
 rintro w Z d y a ⟨b,c,rfl,h⟩;exact ⟨b,rfl,⟨b,c,rfl,h⟩,trivial⟩⟩
theorem aD.bor(h:nth Fs q=some (.bo wb Sb)):
  aD [6] q Fs (H3 wb Sb enc sz) (λ(i:Option Addr×Nat)y=>[.slice i.1 y.length i.2]) (λi y=>[.rb wb Sb (.slice i.1 y.length i.2) enc sz y,.rd (.slice i.1 y.length i.2) enc sz y]):=⟨by
 rintro w0 Z b y a ⟨v,rfl,ho⟩;obtain ⟨_,p,c,rfl⟩:=Rd.len ho;exact ⟨(p,c),rfl,ho,ho.bor (zD a h),trivial⟩⟩
theorem aD.rdn{β:Type}{R:Rp β}{h:0<R.sz}(b:nth Fs q=some (.bo wb Sb)):
  aD [7] q Fs (rdP (lx T R h) wb Sb) (λ(i:Option Addr×Nat)y=>[.slice i.1 y.length i.2]) (λi y=>[.rbn wb Sb (.slice i.1 y.length i.2) R y,.rn (.slice i.1 y.length i.2) R y]):=⟨by
 rintro w0 Z d y a ⟨v,rfl,ho⟩;obtain ⟨_,p,c,rfl⟩:=RdN.len ho;exact ⟨(p,c),rfl,ho,ho.bor h (zD a b),trivial⟩⟩
theorem aD.len:aD [8] q Fs (MK β) (λ(i:Option Addr×Nat)y=>[.slice i.1 y.length i.2]) (λ_ _=>[]):=⟨by
 rintro w0 Z b y a ⟨p,c,rfl⟩;exact ⟨(p,c),rfl,trivial⟩⟩
theorem aD.gho{γ:Type}{G:Rp γ}{b:∀v,(b6 v).sz=n}(h:∀u,aD ks q Fs (b6 u) (c4 u) (c5 u)):
  aD (10::ks) q Fs (NE G b6 n b) (λ(i:Value×ι)y=>c4 i.1 i.2 y.2) (λi y=>.ri i.1 G y.1::c5 i.1 i.2 y.2):=⟨by
 rintro w0 Z e y a ⟨u,c,d⟩;obtain ⟨i,rfl,f⟩:=(h u).o w0 Z _ _ a d;exact ⟨(u,i),rfl,c,f⟩⟩
theorem aD.dep{β:Type}{A:Rp β}{e:∀v,(C v).sz=n}(j:KR A.sz 1)(k:KR G.sz 1)(m:KR n 1):
  aD [11] q Fs (QR A G C n e) (λ(i:Value×Value×Value)_=>[i.1,i.2.1,i.2.2]) (λi y=>[.ri i.1 A y.1,.ri i.2.1 G y.2.1,.ri i.2.2 (C i.1) y.2.2]):=⟨by
 rintro w0 Z t y a ⟨v1,⟨p,c2,rfl,o,c3,c4,rfl,b,c⟩,d⟩;have l:=A.rlen _ _ _ _ o;have f:=G.rlen _ _ _ _ b;have g:=(C v1).rlen _ _ _ _ c;rw [j.h] at l;rw [k.h] at f;rw [e,m.h] at g
 match p,l,c3,f,c4,g,o,b,c,d with
 |[u],_,[r],_,[s],_,o,b,c,d=>
  have:v1=u:=by simpa using d.symm
  subst this;exact ⟨(v1,r,s),rfl,o,b,c,trivial⟩⟩
theorem aD.pair
  (h:aD [k] q Fs A c6 c7) (b:aD (k2::ks) q Fs G vs2 s):aD (k::k2::ks) q Fs (jn A G) (λ(i:ι×κ)y=>c6 i.1 y.1++vs2 i.2 y.2) (λi y=>c7 i.1 y.1++s i.2 y.2):=⟨by
 rintro w Z g y a ⟨l,c2,rfl,c,d⟩;obtain ⟨i,rfl,f⟩:=h.o w Z _ _ a c;obtain ⟨j,rfl,e⟩:=b.o w Z _ _ a d;exact ⟨(i,j),rfl,MD w Z f e⟩⟩
theorem aD.st{hl:∀x c6,(c8 x c6).length=sz}(h:aD ks q Fs A c6 c7):
  aD (3::ks) q Fs (qK c8 sz hl c9 A) (λ(i:ι)x=>c8 x (c6 i (c9 x))) (λi x=>c7 i (c9 x)):=⟨by
 rintro w Z c x a ⟨u,rfl,b⟩;obtain ⟨i,rfl,f⟩:=h.o w Z _ _ a b;exact ⟨i,rfl,f⟩⟩
theorem my.row{h:∀x,(enc x).length=sz}{b:0<sz}(d:nth Fs q=some (.bo wb Sb)):
  my [1] q Fs wb Sb (nL T enc sz h b) (λ(i:Option Addr×Nat)y=>[.slice i.1 y.length i.2]) (λi y=>[.rb wb Sb (.slice i.1 y.length i.2) enc sz y,.rd (.slice i.1 y.length i.2) enc sz y]):=⟨by
 rintro w0 Z e y a ⟨v,rfl,ho⟩;obtain ⟨_,p,c,rfl⟩:=Rd.len ho;exact ⟨(p,c),rfl,ho,ho.bor (zD a d),trivial⟩⟩
theorem my.pair
  (h:my [k] q Fs wb Sb A c6 c7) (b:my (k2::ks) q Fs wb Sb G vs2 s):my (k::k2::ks) q Fs wb Sb (jn A G) (λ(i:ι×κ)y=>c6 i.1 y.1++vs2 i.2 y.2) (λi y=>c7 i.1 y.1++s i.2 y.2):=⟨by
 rintro w Z g y a ⟨l,c2,rfl,c,d⟩;obtain ⟨i,rfl,f⟩:=h.o w Z _ _ a c;obtain ⟨j,rfl,e⟩:=b.o w Z _ _ a d;exact ⟨(i,j),rfl,MD w Z f e⟩⟩
theorem my.st{hl:∀x c6,(c8 x c6).length=sz}(h:my ks q Fs wb Sb A c6 c7):
  my (3::ks) q Fs wb Sb (qK c8 sz hl c9 A) (λ(i:ι)x=>c8 x (c6 i (c9 x))) (λi x=>c7 i (c9 x)):=⟨by
 rintro w Z c x a ⟨u,rfl,b⟩;obtain ⟨i,rfl,f⟩:=h.o w Z _ _ a b;exact ⟨i,rfl,f⟩⟩
theorem tU(a:q∉Z)(h:w.heap[q]? =some (.cells I.toArray T (0,0))):RdB w Z q I:=⟨a,λk u b=>by
 rw [cell_of_row w q k I.toArray T (0,0) h]
 simpa using b⟩
theorem Adm.oi{K:Type}{ff:K->List Value->List Value}{hl:∀x c6,(ff x c6).length=sz}{g:K->β}{x:K}
  (h:nth Fs e=some (.ri (.pointer (some ⟨N,0,none⟩)) (vI T (qK ff sz hl g A)) x)) (b:aD ks q Fs A c6 c7) (c:∀i,lY Fs (.pb N (ff x (c6 i (g x)))::c7 i (g x))=some (d0 i)):
  Adm (.oi e q (3::ks)) Fs L (λ_:ι=>L) d0:=⟨λw0 Z w a s=>by
 obtain ⟨n,d,j,k,l,u,rfl,m⟩:(vI T (qK ff sz hl g A)).rd w0 Z x [.pointer (some ⟨N,0,none⟩)]:=zD a h;cases j;obtain ⟨i,rfl,f⟩:=b.o w0 Z _ _ a m;exact ⟨i,s,mo (c i) a ⟨tU k l,f⟩⟩⟩
theorem Adm.oi0{h:∀x,(a0 x).length=sz}
  (d:nth Fs e=some (.ri (.pointer (some ⟨i,0,none⟩)) (vI T (tc a0 sz h)) x)) (f:vh Fs (.pb i (a0 x))=some Fin):Adm (.oi e q [0]) Fs L (λ_:Unit=>L) (λ_=>Fin):=⟨λw0 Z w a s=>by
 obtain ⟨l,c,g,j,k,b⟩:(vI T (tc a0 sz h)).rd w0 Z x [.pointer (some ⟨i,0,none⟩)]:=zD a d;cases g;have b:c=a0 x:=b;subst b;exact ⟨(),s,ju (F:=.pb i (a0 x)) a (tU j k) f⟩⟩
theorem PH(b:nth Fs e=some (.rn v' R xs))(d:aD ks q' Fs R vs fcs)
  (f:∀x g o q,lY Fs (.el v' g o F xs x::.ce g (o+F.toNat*R.sz) (vs q x)::fcs q x)=some (z x g o q)) (a:bJ w0 Z Fs) (h:idx xs F=some x):∃g o q,bJ w0 Z (z x g o q):=by
 have i:RdN w0 Z v' R.rd R.sz xs:=zD a b;obtain ⟨g,o,c,r,j,l,m⟩:=i.formv h;obtain ⟨q,rfl,n⟩:=d.o w0 Z _ _ a l;exact ⟨g,o,q,mo (f x g o q) a ⟨⟨h,c,j⟩,λw L s k u p=>m k u p w L s,n⟩⟩
theorem GO.bj(h:nth Fs e=some (.rn v' R xs))(b:aD ks q' Fs R vs fcs)
  (c:∀x g o q,lY Fs (.el v' g o F xs x::.ce g (o+F.toNat*R.sz) (vs q x)::fcs q x)=some (z x g o q)) (n:∀x g o q,GO hs (a7 x) r (z x g o q) L p P B N w0 Z l i Q):GO (.bj e q' ks::hs) ((idx xs F).bind a7) r Fs L p P B N w0 Z l i Q:=⟨λw a s q=>by
 obtain ⟨x,d,f⟩:=zK q;obtain ⟨g,o,j,k⟩:=PH h b c a d;exact (n x g o j).o w k s f⟩
theorem GP.bj(h:nth Fs e=some (.rn v' R xs))(b:aD ks q' Fs R vs fcs)
  (c:∀x g o q,lY Fs (.el v' g o F xs x::.ce g (o+F.toNat*R.sz) (vs q x)::fcs q x)=some (z x g o q)) (n:∀x g o q,GP hs (a7 x) r (z x g o q) L p P B N w0 Z l S eff pd Q):GP (.bj e q' ks::hs) ((idx xs F).bind a7) r Fs L p P B N w0 Z l S eff pd Q:=⟨λw a s q=>by
 obtain ⟨x,d,f⟩:=zK q;obtain ⟨g,o,j,i⟩:=PH h b c a d;exact (n x g o j).o w i s f⟩
theorem Rj(b:nth Fs e=some (.rbn wb Sb v' R xs))(d:nth Fs q'=some (.bo wb Sb))(f:my ks q' Fs wb Sb R vs fcs)
  (i:∀x g o q,lY Fs (.el v' g o F xs x::.ce g (o+F.toNat*R.sz) (vs q x)::fcs q x)=some (z x g o q)) (a:bJ w0 Z Fs) (h:idx xs F=some x):∃g o q,bJ w0 Z (z x g o q):=by
 have j:RdN wb Sb v' R.rd R.sz xs:=zD a b;have l:Bor wb Sb w0 Z:=zD a d;obtain ⟨g,o,c,v,m,n,p⟩:=j.formB l h;obtain ⟨q,rfl,r⟩:=f.o w0 Z _ _ a n;exact ⟨g,o,q,mo (i x g o q) a ⟨⟨h,c,m⟩,λw L s k u t=>p k u t w L s,r⟩⟩
theorem GP.bl(h:nth Fs e=some (.rbn wb Sb v' R xs))(b:nth Fs q'=some (.bo wb Sb))(c:my ks q' Fs wb Sb R vs fcs)
  (d:∀x g o q,lY Fs (.el v' g o F xs x::.ce g (o+F.toNat*R.sz) (vs q x)::fcs q x)=some (z x g o q)) (n:∀x g o q,GP hs (a7 x) r (z x g o q) L p P B N w0 Z l S eff pd Q):GP (.bl e q' ks::hs) ((idx xs F).bind a7) r Fs L p P B N w0 Z l S eff pd Q:=⟨λw a s q=>by
 obtain ⟨x,f,i⟩:=zK q;obtain ⟨g,o,j,k⟩:=Rj h b c d a f;exact (n x g o j).o w k s i⟩
structure ME (hs:List AH) (j:Nat) (Fs:List Fa) (L:List Item) (Q:World->Prop):Prop where
 o:∀w0 Z w,bJ w0 Z Fs->St w0 Z w L->Q w
theorem ME.nil(h:nth L j=some (itI R [v] S x)):ME [] j Fs L (λw=>R.rd w [] x [v]):=⟨λw0 Z w a s=>R.see _ _ _ _ [] (s.all j _ (by rw [<- zQ];exact h)) (λb _=>znm)⟩
theorem ME.cons{ι:Type}{L1:ι->List Item}{z:ι->List Fa}(b:Adm h Fs L L1 z)(n:∀q,ME d2 j (z q) (L1 q) d3):ME (h::d2) j Fs L d3:=⟨λw0 Z w a s=>by
 obtain ⟨q,c,d⟩:=b.o w0 Z w a s;exact (n q).o w0 Z w d c⟩
theorem Giv.sv(h:ME d2 j Fs L (λw=>R.rd w [] x [v]))(n:Giv src Fs L [] Fin):Giv (.sv d2 j::src) Fs L [] (.ri v R x::Fin):=⟨λw0 Z w a s=>⟨h.o w0 Z w a s,n.g w0 Z w a s⟩⟩
theorem Giv.oi(f:nth L j=some (itI R [v] S x))(d:KR (mem? j js) false)(n:Giv src Fs L js Fin):Giv (.oi j::src) Fs L js (.ri v R x::Fin):=⟨λw0 Z w a s=>by
 have c:L[j]? =some (itI R [v] S x):=by grind [zQ]
 exact ⟨R.see _ _ _ _ _ (s.all j _ c) (λb e=>s.noin j c js d.h b e),n.g w0 Z w a s⟩⟩
theorem Giv.fi(f:nth Fs e=some (.ri v R x))(n:Giv src Fs L js Fin):Giv (.fi e::src) Fs L js (.ri v R x::Fin):=⟨λw0 Z w a s=>by
 have h:R.rd w0 Z x [v]:=zD a f;refine ⟨R.Ug _ _ _ _ _ _ (λb i l=>s.chg.block b i l) (λb m=> ?_) h,n.g w0 Z w a s⟩;obtain ⟨j,o,p,c⟩:=vF.1 m;obtain ⟨k,_,d⟩:=eO p;rcases xP d with d|rfl
 ·exact s.own k o d b c
 ·cases c⟩
def pnX(l:List Oper)(N:Nat)(p:Fr)(i:Nat):Option Value:=match okO l N p i with
 |some ⟨_,.binOp _ _ x _ _,_,_,_,_⟩=>look p x
 |_=>none
def pnR(P:Program)(l:List Oper)(N:Nat)(p:Fr)(i:Nat)(u:Value):Option Value:=match okO l N p i with
 |some ⟨_,.binOp op t x y _,_,_,_,_⟩=>match look p y with
  |some a=>au P (do eqGuard op t x y u a;binOp op t u a)
  |none=>none
 |_=>none
theorem Rk{h:LH}(q:nth Fs e=some (.ri v (KO T a0) o))(c:KR (pnX l N p i) (some v))(h0:KR (pnR P l N p i (.pointer none)) (some (.bool g)))(s:∀b k,KR (pnR P l N p i (.pointer (some ⟨b,k,none⟩))) (some (.bool mm))):
  LkV Fs p P B N w0 Z h l i (.bool (match o with|none=>g|some _=>mm)):=by
 have c:=c.h;unfold pnX at c;split at c
 ·rename_i d op t x y z ty pos D E ho
  refine LkV.of ho rfl λF a w m=> ?_
  have e1:=m.look c
  have key:∀u r,v=u->pnR P l N p i u=some r->(execOp a.eval ⟨d,.binOp op t x y z,ty,pos,D,E⟩).run P w=.ok (.value r) w:=by
   intro u r G f;subst G;unfold pnR at f;rw [ho] at f;dsimp only at f;split at f
   ·rename_i n I
    have e2:=m.look I;have e3:=qV f w
    have e4:(do pure (Next.value (<- (do eqGuard op t x y v n;binOp op t v n))):Sem Next).run P w=.ok (.value r) w:=by
     simp only [Sem.run_bind,e3];rfl
    simp only [execOp,e1,e2];exact e4
   ·cases f
  have j:(KO T a0).rd w0 Z o [v]:=zD F q;cases o with
  |none=>
   have j:[v]=[Value.pointer none]:=j;exact key _ _ (by simpa using j) h0.h
  |some x=>
   obtain ⟨b,A,C,J,_⟩:=j;exact key _ _ (by simpa using J) (s b A.length).h
 ·cases c
theorem LkV.pn{K:Type}{o:Option K}{enc:K->List Value}(a:nth Fs e=some (.ri v (KO T enc) o))(c:KR (pnX l N p i) (some v))(h0:KR (pnR P l N p i (.pointer none)) (some (.bool false)))(d:∀b k,KR (pnR P l N p i (.pointer (some ⟨b,k,none⟩))) (some (.bool true))):
  LkV Fs p P B N w0 Z (.pn e) l i (.bool o.isSome):=by
 have:=Rk (B:=B) (h:=.pn e) (w0:=w0) (Z:=Z) a c h0 d
 grind
def swP(P:Program)(l:List Oper)(N:Nat)(p:Fr)(i:Nat):Option (Option Addr×Nat×Nat×Int×Nat):=match cpC P l N p i with
 |some (.slice a k c,some q,none,sz)=>some (a,k,c,q,sz)
 |_=>none
def swV(p:Option (Option Addr×Nat×Nat×Int×Nat))(m:Nat):Value:=match p with
 |some (a,_,c,q,sz)=>.slice (shd a c q.toNat sz) m (c-q.toNat)
 |none=>undef
def swK(p:Option (Option Addr×Nat×Nat×Int×Nat)):Option (Nat×Int):=match p with
 |some (_,k,_,q,_)=>some (k,q)
 |none=>none
theorem LkV.sw{K:Type}{xs t:List K}(e:nth Fs q=some (.oe (cut xs F ((xs.length:Nat):Int)) t))(d:KR (swK (swP P l N p i)) (some (xs.length,F))):
  LkV Fs p P B N w0 Z (.sw q) l i (swV (swP P l N p i) t.length):=by
 have d:=d.h;cases hs:swP P l N p i with
 |none=>rw [hs] at d;cases d
 |some u=>
  obtain ⟨a,k,c,q',sz⟩:=u;rw [hs] at d;simp only [swK,i8,p8] at d;obtain ⟨rfl,rfl⟩:=d;unfold swP at hs;split at hs
  ·rename_i v k' x y s b
   simp only [i8,p8] at hs;obtain ⟨rfl,rfl,rfl,rfl,rfl⟩:=hs;unfold cpC at b;split at b
   ·rename_i ho
    split at b
    ·rename_i f g
     split at b
     ·rename_i j
      split at b
      ·grind
      ·split at b
       ·rename_i m
        cases b
        exact LkV.of ho rfl λn r w o=>gk _ rfl g rfl m (zD n e) f j r w o
       ·cases b
      ·grind
      ·cases b
     ·cases b
    ·cases b
   ·cases b
  ·cases hs
theorem Fk(h:N∈(dq (.slice (shd a c q sz) i (c-q))).toList):N∈(dq (.slice a n c)).toList:=by
 cases c with
 |zero=>rw [Nat.zero_sub,eP] at h;cases h
 |succ c=>
  cases a with
  |none=>
   have:shd none (c+1) q sz=none:=by grind [shd]
   rw [this] at h;cases h
  |some a=>
   by_cases b:c+1=q
   ·rw [b,Nat.sub_self,eP] at h;cases h
   ·have e1:shd (some a) (c+1) q sz=some (a.add (q*sz)):=by unfold shd;rw [d8 b];rfl
    rw [e1] at h;rcases yw (c+1-q) with h0|h0
    ·grind [eP]
    ·rw [xQ h0] at h;rw [xQ (Nat.succ_pos c)]
     have e2:(a.add (q*sz)).block=a.block:=by
      obtain ⟨b0,o,s⟩:=a;unfold Addr.add
      grind
     grind
theorem St.sufN{K:Type}{R:Rp K}{xs t:List K}(f:St w0 S0 w L)(j:Nat)(A:L[j]? =some (nI T R (.slice a n c) S xs none))(E:cut xs F (xs.length:Int)=some t):
  ∃o,St w0 S0 w (L.set j (nI T R (.slice (shd a c F.toNat R.sz) t.length (c-F.toNat)) o t none)):=by
 obtain ⟨css,Ss,h⟩:=f.all j _ A;obtain ⟨h0,G,N,e⟩:=bp E;have d:t=xs.drop F.toNat:=by rw [e];simp
 have p:cut css F (css.length:Int)=some (css.drop F.toNat):=by
  have:cut css F (css.length:Int)=some ((css.take (css.length:Int).toNat).drop F.toNat):=by
   unfold cut;rw [h.lc];simp [h0,G]
  rw [this];simp
 have g:dW w T R.sz (.slice a n c) css.length (jP (fit R.sz) css):=by rw [h.lc];exact h.row
 have hs:=dW.suf (enc:=fit R.sz) (λ_=>dr _ _) g p;have hl:(css.drop F.toNat).length=t.length:=by rw [d];simp [h.lc]
 have k:=h.nd;rw [h.hS] at k;obtain ⟨O,P,Q⟩:=l6.1 k
 have B:∀b∈(Ss.drop F.toNat).flatten,b∈Ss.flatten:=λb m=>by
  obtain ⟨s,q,r⟩:=k9.1 m;exact k9.2 ⟨s,List.mem_of_mem_drop q,r⟩
 have I:Ss.flatten=(Ss.take F.toNat).flatten++(Ss.drop F.toNat).flatten:=by rw [<- yx,yp]
 have u:(Ss.drop F.toNat).flatten.Nodup:=by grind
 have v:(dq (.slice (shd a c F.toNat R.sz) t.length (c-F.toNat))).toList.Nodup:=cZ
 have l:((dq (.slice (shd a c F.toNat R.sz) t.length (c-F.toNat))).toList++(Ss.drop F.toNat).flatten).Nodup:=
  l6.2 ⟨v,u,λx U y V J=>by grind [Fk]⟩
 refine ⟨(dq (.slice (shd a c F.toNat R.sz) t.length (c-F.toNat))).toList++(Ss.drop F.toNat).flatten,?_⟩;refine f.upd j A (x6 _ _) ⟨css.drop F.toNat,Ss.drop F.toNat,?_⟩ (λb m=>.inl ?_) l
 ·refine ⟨by rw [<- hl];exact hs,hl,by rw [d];simp [h.ls],rfl,l,λ_ _ e=>(by cases e),λi M o x _ C D z=> ?_⟩;rw [d] at z;rw [List.getElem?_drop] at C D z;exact h.own _ M o x (λ_ e=>by cases e) C D z
 ·show b∈S;rw [h.hS];have m:b∈(dq (.slice (shd a c F.toNat R.sz) t.length (c-F.toNat))).toList++(Ss.drop F.toNat).flatten:=m
  grind [Fk]
theorem Adm.sfN{K:Type}{R:Rp K}{xs xs' t:List K}(f:nth Fs q=some (.oe (cut xs F ((xs.length:Nat):Int)) t))(g:nth L j=some (nI T R (.slice a n c) S xs' none))(b:KR xs' xs)
  (k:∀d,du L j (nI T R (.slice (shd a c F.toNat R.sz) t.length (c-F.toNat)) d t none)=some (L1 d)):Adm (.sfN j q) Fs L L1 (λ_=>Fs):=⟨λw0 Z w i s=>by
 have e:L[j]? =some (nI T R (.slice a n c) S xs none):=by rw [<- zQ,<- b.h];exact g
 obtain ⟨d,l⟩:=s.sufN j e (zD i f)
 grind [qI]⟩
theorem Adm.sfx(f:nth Fs q=some (.oe (cut xs F ((xs.length:Nat):Int)) t))(g:nth L j=some (qk (.slice a n c) T a0 sz xs'))(i:∀x,KR (a0 x).length sz)(b:KR xs' xs)
  (k:du L j (qk (.slice (shd a c F.toNat sz) t.length (c-F.toNat)) T a0 sz t)=some M):Adm (.sfx j q) Fs L (λ_:Unit=>M) (λ_=>Fs):=⟨λw0 Z w e s=>by
 have d:L[j]? =some (qk (.slice a n c) T a0 sz xs):=by rw [<- zQ,<- b.h];exact g
 exact ⟨(),by rw [qI k];exact s.sufRow j d (λx=>(i x).h) (zD e f),e⟩⟩
theorem Adm.ctr(f:nth Fs q=some (.oe (cut xs 0 F) t))(g:nth L j=some (qk (.slice a n c) T a0 sz xs'))(i:∀x,KR (a0 x).length sz)(b:KR xs' xs)
  (k:du L j (qk (.slice a t.length c) T a0 sz t)=some M):Adm (.ctr j q) Fs L (λ_:Unit=>M) (λ_=>Fs):=⟨λw0 Z w e s=>by
 have d:L[j]? =some (qk (.slice a n c) T a0 sz xs):=by rw [<- zQ,<- b.h];exact g
 exact ⟨(),by rw [qI k];exact s.cutRow j d (λx=>(i x).h) (zD e f),e⟩⟩
theorem GO.clr{ρ:Type}{f:Option ρ}{r:ρ}
  (m:nth Fs q=some (.oe (cut xs F ((xs.length:Nat):Int)) t)) (u:nth L j=some (qk (.slice a n c) T a0 sz xs')) (v:∀b4,KR (a0 b4).length sz) (b:KR xs' xs)
  (hl:vr l i=some ⟨none,.call ⟨.builtin .clear,[b4].toArray,S.toArray⟩,ty,e0,e1,gdd⟩) (x:KR (gd l p ⟨none,.call ⟨.builtin .clear,[b4].toArray,S.toArray⟩,ty,e0,e1,gdd⟩) (some true))
  (z:KR (Go.Sx.look p b4) (some (.slice (Go.Sx.shd a c F.toNat sz) t.length (c-F.toNat)))) (d:S[0]? =some U) (A:P.underlying U=some (.slice d4))
  (e:KR ((au P (zeroValue d4)).map (·.cells.toList)) (some (a0 y))) (C:KR (eQ (a0 y)) true)
  (I:du L j (qk (.slice a n c) T a0 sz (xs.take F.toNat++List.replicate t.length y))=some M) (D:GO hs f r Fs M p P B N w0 Z l (i+1) Q):GO (.clr j q y::hs) f r Fs L p P B N w0 Z l i Q:=⟨λw k s E=>by
 have g:L[j]? =some (qk (.slice a n c) T a0 sz xs):=by rw [<- zQ,<- b.h];exact u
 refine OW.clearR s j g (λb4=>(v b4).h) hl x.h (zD k m) z.h d A y e.h C.h λG J=> ?_
 exact D.o G k (by grind [qI]) E⟩
theorem Adm.tp{K:Type}{A:Rp K}{B:World->List Nat->Rp K}{h:Cv A B}{x:K}(a:nth L j=some (itI A I S x))(d:∀p,du L j (itI (B p.1 (coS p.1 p.2.1)) I p.2.2 x)=some (L0 p))(e:∀p,vh (L0 p) (sJ p.1 p.2.1)=some (e2 p)):
  Adm (.tp j h) Fs L e2 (λ_=>Fs):=⟨λw0 Z w b s=>by
 obtain ⟨wb,Sp,c,f⟩:=s.toPool h j (by rw [<- zQ];exact a)
 exact ⟨(wb,Sp,c),by grind [vO,qI],b⟩⟩
theorem GO.nl{K:Type}{enc:K->List Value}{xs:List K}(e:nth L j=some (qk (.slice a q c) T enc sz xs))(d:KR (BT p S) (BU (.slice a q c) S))
  (k:du L j (qk (.slice a xs.length c) T enc sz xs)=some M) (n:GO hs f r Fs M (reh (.slice a xs.length c) S p) P B N w0 Z l i Q):GO (.nl j S::hs) f r Fs L p P B N w0 Z l i Q:=⟨λw m s g b t=>by
 have u:=s.rlen e;have d:=d.h;rw [u] at d e
 have e1:M=L:=by
  rw [qI k];have v:L[j]? =some (qk (.slice a xs.length c) T enc sz xs):=by grind [zQ]
  apply o5
  grind
 subst e1;exact n.o w m s g b (wD t d)⟩
theorem GP.fp{K:Type}{enc:K->List Value}{o:Option K}{L1:K->Nat->List Value->List Value->List Item}{k:K->Option ρ}(h:nth L j=some (itI (KO T enc) [u] S o))(d:∀y b A C,du L j (dt b T A (enc y) C)=some (L1 y b A C))
  (n:∀y b A C,u=.pointer (some ⟨b,A.length,none⟩)->GP hs (k y) r Fs (L1 y b A C) p P B N w0 Z l js eff pd Q):GP (.fp j::hs) (o.bind k) r Fs L p P B N w0 Z l js eff pd Q:=⟨λw a s e=>by
 obtain ⟨y,f,g⟩:=zK e;obtain ⟨b,c,C,i,m⟩:=KL h s f;exact (n y b c C i).o w a (by rw [qI (d y b c C)];exact m) g⟩
theorem GQ.rI(h:e3.results= #[])(n:GO hs f r Fs L ((dst l i,.tuple #[])::p) P B N w0 Z l (i+1) Q):
 GQ (.rI::hs) f r Fs L fr' P B0 j w0 Z .normal (bodyPost P e3 (IQ P l N Q i p B)):=⟨λw a s q=>QW.end0 h ⟨_,rfl,n.o w a s q⟩⟩
theorem Sim.nrowH(h0:Ln q i)(b:KR T U)(d:KR xs xs')(f:KR e4 h')(n:Sim L M):
 Sim (nI T R (.slice a q c) S xs e4::L) (nI U R (.slice a i c) S xs' h'::M):=⟨by rw [h0.h,b.h,d.h,f.h,n.e]⟩
theorem Sim.pool(n:Sim L M):Sim (sJ wb Sp::L) (sJ wb Sp::M):=⟨by rw [n.e]⟩
theorem Adm.opk{ι:Type}{cells:ι->K->List Value}{b:ι->K->List Item}{fcs:ι->K->List Fa}{h:OpK R need cells b fcs}
  {L0 L1:ι->List Item} {z:ι->List Fa}
  (D:nth L j=some (itI (vI T R) [.pointer (some ⟨N,0,none⟩)] S x)) (g:nth Fs q=some need) (k:du L j nilI=some Lq) (l:∀i,lY Lq (jT N T (cells i x)::b i x)=some (L0 i))
  (m:∀i,gp (L0 i) (BQ j L.length L.length 0 (upto (L.length+1) (b i x).length)) []=some (L1 i)) (n:∀i,KR (zR (BQ j L.length L.length 0 (upto (L.length+1) (b i x).length))) true) (p:∀i,lY Fs (fcs i x)=some (z i)):
  Adm (.opk j q h) Fs L L1 z:=⟨λw0 Z w a s=>by
 have d:L[j]? =some (itI (vI T R) [.pointer (some ⟨N,0,none⟩)] S x):=by grind [zQ]
 have ho:=s.all j _ d;obtain ⟨E,r,e,t,rfl,F,u,v⟩:=ho;cases t;obtain ⟨i,rfl,y,A⟩:=h.o w0 Z w _ _ _ ⟨zD a g,trivial⟩ v;refine ⟨i,?_,by rw [bW (p i)];exact MD w0 Z a A⟩
 have B:av w (N::e) (jT N T (cells i x)::b i x):=av.cons u (by simp [jT]) (by simp [jT]) (S2:=e) (by grind [jT]) y (λc C=>zcm _ C);have f:=s.burst j d B;rw [<- qI k,<- bW (l i)] at f;have:=xk (m i);rw [j7] at this;rw [this];exact f.keep _ (n i).h⟩
theorem GO.here{ρ:Type}{f:Option ρ}{r:ρ}(h:GO hs f r Fs L p P B N w0 Z l i Q):GO hs f r Fs L p P B N w0 Z l i Q:=h
theorem GC.here{ρ:Type}{f:Option ρ}{r:ρ}(h:GC hs f r Fs L p P B N w0 Z J Q):GC hs f r Fs L p P B N w0 Z J Q:=h
theorem GQ.here{ρ:Type}{f:Option ρ}{r:ρ}(h:GQ hs f r Fs L p P B N w0 Z e5 Q):GQ hs f r Fs L p P B N w0 Z e5 Q:=h
theorem GS.here{ρ:Type}{f:Option ρ}{r:ρ}(h:GS hs f r Fs L p P B N w0 Z l i c g Q):GS hs f r Fs L p P B N w0 Z l i c g Q:=h
theorem GP.here{ρ:Type}{f:Option ρ}{r:ρ}(h:GP hs f r Fs L p P B N w0 Z l S eff pd Q):GP hs f r Fs L p P B N w0 Z l S eff pd Q:=h
theorem Adm.here{ι:Type}{L1:ι->List Item}{z:ι->List Fa}(h:Adm h0 Fs L L1 z):Adm h0 Fs L L1 z:=h
theorem jk.here{ι:Type}{vs:ι->β->List Value}{i:ι->β->List Item}{fcs:ι->β->List Fa}(h:jk ks q Fs A vs i fcs):jk ks q Fs A vs i fcs:=h
theorem qJ.here{β:Type}{A:Rp β}{y:β}(h:qJ E Fs L A js I y):qJ E Fs L A js I y:=h
theorem LkV.here(h:LkV Fs p P B N w0 Z e6 l i v):LkV Fs p P B N w0 Z e6 l i v:=h
theorem Giv.here(h:Giv src Fs L js Fin):Giv src Fs L js Fin:=h
theorem GQ.popN{b c:Type}{x d:b}{k:b->Option c}{r:c}(h:nth Fs q=some (.po k x r))(n:GQ hs (k d) r Fs L p P B N w0 Z e5 Q):GQ (.pop q::hs) (some d) x Fs L p P B N w0 Z e5 Q:=⟨λw a s e=>by
 cases e
 exact n.o w a s (zD a h)⟩
theorem Fl(h:(H3 wb Sb a0 sz).own w I S xs):eQ I=true:=by
 obtain ⟨v,rfl,_,b⟩:=h;obtain ⟨_,a,c,rfl⟩:=Rd.len b;rfl
structure Rl {ρ ι:Type} (P:Program) (name:String) (v:Value) (args:List Value) (Fs:List Fa) (L:List Item) (f:Option ρ) (post:ρ->ι->Value×List Item):Prop where
 c:∀w r,bJ w (fp L) Fs->St w (fp L) w L->f=some r->NH P v name args w (RQ w (fp L) post r)
structure PI {ρ ι:Type} (P:Program) (name:String) (v:Value) (args:List Value) (Fs:List Fa) (L:List Item) (f:Option ρ) (post:ρ->ι->Value×List Item):Prop where
 h:Rl P name v args Fs L f post
theorem NH.mono(h:NH P v e0 I w e7)(k:∀e c,e7 e c->R' e c):NH P v e0 I w R':=by
 obtain ⟨a,b,d,f⟩:=h;exact ⟨a,b,d,f.mono k⟩
def icC(l:List Oper)(N:Nat)(p:Fr)(i:Nat):Option (Value×String×List Value):=match okO l N p i with
 |some ⟨_,.call ⟨.invoke x name,t,_⟩,_,_,_,_⟩=>match look p x,looks p t.toList with
  |some v,some u=>some (v,name,u)
  |_,_=>none
 |_=>none
theorem GO.ci{u:Type}{S:Prop}{o:Option u}{k:u->Option ρ}{post:u->ι->Value×List Item}{L1:u->ι->List Item}[C:HasC o S]
  (E:S->PI P e0 v I Fin M o post) (F:gp L js []=some Lq) (G:Sim Lq M) (J:Giv src Fs L js Fin) (f:KR (icC l N p i) (some (v,e0,I))) (K:gp L b []=some Bq) (O:∀x q,lY (post x q).2 Bq=some (L1 x q))
  (A:KR (zR (js++b)) true) (n:∀x q,GO hs (k x) r Fs (L1 x q) ((dst l i,(post x q).1)::p) P B N w0 Z l (i+1) Q):GO (.ci js src b::hs) (o.bind k) r Fs L p P B N w0 Z l i Q:=⟨λw a s q=>by
 obtain ⟨x,R,T⟩:=zK q;have f:=f.h;unfold icC at f;split at f
 ·rename_i d' x' y t m _ _ _ _ ho
  split at f
  ·rename_i v' U V W
   cases f
   obtain ⟨d,hl,z,j,X⟩:=jB ho;have Y:=vt hl j;simp only at j;subst j;have e1:=xk F;have e2:=xk K;rw [G.e] at e1;rw [j7] at e1 e2;subst e1 e2;refine OW.inv (ys:=t.toList) (ats:=m.toList) hl z X V W ((E C.c).h.c w x (J.g w0 Z w a s) (s.part js (by have:=A.h;exact dG this)) R) ?_
   rintro e w' ⟨D,rfl,s'⟩;refine ⟨_,rfl,?_⟩;have h3:=(n x D).o w' a (by rw [bW (O x D)];exact s.join A.h s') T
   grind
  ·cases f
 ·cases f⟩
theorem qJ.rowF{h:∀x,(enc x).length=sz}{a:0<sz}(b:nth L j=some (qk v T enc sz c2)):qJ [.r j] Fs L (wo T enc sz h a) [j] [v] c2:=
 qJ.item b λw ho=>Fm ho
theorem qJ.frz{l:∀x,(enc x).length=sz}{m:0<sz}(n:nth L j=some (Mc q enc sz c2)):qJ [.pr j] Fs L (wo T enc sz l m) [j] [.slice (some ⟨q,0,none⟩) c2.length c2.length] c2:=
 qJ.item n λw ho=>⟨_,rfl,by simp [Mc],(Mc q enc sz c2).lt w ho,λp F d r=>by
  obtain ⟨⟨d,a,c,b,e,s⟩,_⟩:=(Mc q enc sz c2).loc w p d ho;refine ⟨d,a,c,b,e,λt x f u v y=> ?_⟩;obtain ⟨g,o,k,z,h⟩:=s t x f u v y
  have i:g=q:=by
   rw [k] at b;simp only [Value.slice.injEq,i8,Addr.mk.injEq] at b;exact b.1.1.symm
  subst i;exact ⟨g,o,k,r g (by simp [Mc]),h⟩⟩
theorem my.rowF{h:∀x,(enc x).length=sz}{b:0<sz}(d:nth Fs q=some (.bo wb Sb)):my [1] q Fs wb Sb (wo T enc sz h b) (λ(i:Option Addr×Nat)y=>[.slice i.1 y.length i.2]) (λi y=>[.rb wb Sb (.slice i.1 y.length i.2) enc sz y,.rd (.slice i.1 y.length i.2) enc sz y]):=⟨by
 rintro w0 Z e y a ⟨v,rfl,ho⟩;obtain ⟨_,p,c,rfl⟩:=Rd.len ho;exact ⟨(p,c),rfl,ho,ho.bor (zD a d),trivial⟩⟩
theorem me.rowF{b:∀x,(enc x).length=sz}{d:0<sz}:me [1] (wo T enc sz b d) (λ(i:Option Addr×Nat)y=>[.slice i.1 y.length i.2]) (λi y=>[.rd (.slice i.1 y.length i.2) enc sz y]):=⟨by
 rintro w Z e y ⟨v,rfl,h⟩;obtain ⟨_,a,c,rfl⟩:=Rd.len h;exact ⟨(a,c),rfl,h,trivial⟩⟩
def RN(P:Program)(l:List Oper)(N:Nat)(p:Fr)(i:Nat):Option Value:=match okO l N p i with
 |some ⟨_,.convert t a x,_,_,_,_⟩=>match Nat.beq t a,look p x,P.underlying t with
  |true,some v,some (.slice e)=>match P.underlying e with
   |some (.int .u8)=>some v
   |_=>none
  |_,_,_=>none
 |_=>none
theorem GO.mkf(z:nth L j=some (qk (.slice (some ⟨q,0,none⟩) n n) T enc sz c2))(b:KR (RN P l N p i) (some (.slice (some ⟨q,0,none⟩) n n)))(c:∀x,(enc x).length=sz)(A:KR c2.length n)(g:KR (Nat.blt 0 n) true)(C:du L j (Mc q enc sz c2)=some Lq)
  (k:GO hs f r Fs Lq ((dst l i,.slice (some ⟨q,0,none⟩) n n)::p) P B N w0 Z l (i+1) Q):GO (.mkf j::hs) f r Fs L p P B N w0 Z l i Q:=⟨λw a s e=>by
 have b:=b.h;unfold RN at b;split at b
 ·rename_i O t R x ty pos S gdd m
  split at b
  ·rename_i v U D E F
   split at b
   ·rename_i G
    cases b
    obtain ⟨d,hl,I,u,J⟩:=jB m;simp only at u;subst u;obtain rfl:=u6 D;refine OW.mark s j (by rw [<- zQ];exact z) hl I J E F G c A.h (by have:=g.h;simpa [w9] using this) λK M=> ?_
    have y:=k.o K a (by rw [qI C];exact M) e
    rw [vt hl rfl] at y;exact y
   ·cases b
  ·cases b
 ·cases b⟩
def avC(P:Program)(l:List Oper)(N:Nat)(p:Fr)(i:Nat):Option (Int×List Value×Nat×Nat×Bool):=match okO l N p i with
 |some ⟨_,.index t x y,_,_,_,_⟩=>match look p x,look p y,P.underlying t with
  |some (.agg c),some (.int .i64 k),some (.array n e)=>match au P (sizeOf e),au P (isAgg e) with
   |some z,some b=>some (k,c.toList,n,z,b)
   |_,_=>none
  |_,_,_=>none
 |_=>none
theorem LkV.ai(f:nth Fs q=some (.oe (ain n k') k))(a:KR (avC P l N p i) (some (k',eW enc n e8,n,sz,true)))(g:∀x,(enc x).length=sz):LkV Fs p P B N w0 Z (.ai q sz enc e8) l i (.agg (enc (e8 k)).toArray):=by
 have a:=a.h;unfold avC at a;split at a
 ·rename_i G ty x y I J t pos K gdd c
  split at a
  ·rename_i L F m e j o r
   split at a
   ·rename_i z b hs s
    simp only [i8,p8] at a;obtain ⟨rfl,d,rfl,rfl,rfl⟩:=a;refine LkV.of c rfl λv b w A=> ?_
    obtain ⟨C,M,D,E⟩:=tg (zD v f);refine Md (xs:=(List.range m).map e8) (u:=e8 k) rfl ?_ o r hs s g (by simp) ?_ b w A
    ·rw [j,<- ml,<- d]
    ·unfold idx;rw [d7 C,E];simp [D]
   ·cases a
  ·cases a
 ·cases a
open Go.RowKit
theorem Ih{β:Type}{P:Nat->β->Prop}:∀n:Nat,(∀t,t<n->∃r,P t r)->∃b:List β,b.length=n/\∀t r,b[t]? =some r->P t r
 |0,_=>⟨[],rfl,λt r h=>by simp at h⟩
 |n+1,h=>by
  obtain ⟨b,hl,f⟩:=Ih n λt a=>h t (by omega)
  obtain ⟨r,g⟩:=h n (by omega);refine ⟨b++[r],by simp [hl],λt e a=> ?_⟩;rcases Nat.lt_or_ge t b.length with d|d
  ·rw [x9 d] at a;exact f t e a
  ·rw [z7 d] at a
   have c:t-b.length=0:=by
    rcases yw (t-b.length) with c|c
    ·exact c
    ·rw [SJ (by simp;omega)] at a;cases a
   rw [c] at a;obtain rfl:r=e:=by simpa using a
   have:t=n:=by omega
   subst this;exact g
theorem RdN.rows(g:β->K)(G:β->Prop)
  (n:∀x i,D w S x i->∃r,g r=x/\enc r=i/\G r) (h:RdN w S v D sz xs):∃d:List β,d.map g=xs/\Rd w S v enc sz d/\∀r∈d,G r:=by
 obtain ⟨B,a,c,p,q,s⟩:=h
 obtain ⟨d,hl,j⟩:=Ih (P:=λt r=>xs[t]? =some (g r)/\G r/\∃b o,a=some ⟨b,o,none⟩/\b∉S/\∀f u,(enc r)[f]? =some u->w.cell? ⟨b,o+t*sz+f,none⟩=some u) xs.length λt e=>by
  obtain ⟨i,k,b,o,l⟩:=s t xs[t] (zeg e);obtain ⟨r,e1,e2,e3⟩:=n _ _ k;exact ⟨r,by rw [e1];exact zeg e,e3,b,o,by rw [e2];exact l⟩
 have y:d.map g=xs:=by
  refine o5 λt=> ?_
  rw [u7];cases e:d[t]? with
  |some r=>exact (j t r e).1.symm
  |none=>
   have:d.length<=t:=by simpa using e
   exact (SJ (by omega)).symm
 refine ⟨d,y,⟨by omega,a,c,by rw [hl];exact p,by omega,λt r f u m z=> ?_⟩,λr m=> ?_⟩
 ·obtain ⟨_,_,b,o,k,l,A⟩:=j t r m;exact ⟨b,o,k,l,A f u z⟩
 ·obtain ⟨t,e⟩:=p6 m;exact (j t r e).2.1
theorem ND{K β γ:Type}{f:K->Option β}{g:K->Option γ}:∀{xs:List K} {u:Unit},xs.foldlM (λ(_:Unit)c=>(f c).bind λ_=>(g c).bind λ_=>some ()) ()=some u->∀x∈xs,(∃y,f x=some y)/\∃z,g x=some z
 |[],_,_=>by simp
 |x::xs,u,h=>by
  rw [List.foldlM_cons] at h;obtain ⟨j,a,d⟩:=zK h;obtain ⟨y,e,a⟩:=zK a;obtain ⟨z,i,a⟩:=zK a;intro q b;rcases j9.1 b with rfl|b
  ·exact ⟨⟨y,e⟩,z,i⟩
  ·exact ND d q b
theorem St.toItF(h:St w0 S0 w L)(j:Nat)(c:L[j]? =some (qk v T enc sz c2))(a:∀x,(enc x).length=sz)(b:0<sz):
 St w0 S0 w (L.set j (itI (wo T enc sz a b) [v] (dq v).toList c2)):=h.turn j c (Fm (he:=a) (hp:=b) (h.all j _ c)) rfl
theorem St.fuseS{K γ:Type}{n:Rp γ}{y2:γ}{f:K->List Value->List Value}{hl:∀x vs,(f x vs).length=sz}{g:K->β×γ}(h:St w0 S0 w L)(R:Rp K)(p:R=qK f sz hl g (jn A n))(k j:Nat)(c:Nat.beq k j=false)
  (d:L[k]? =some (itI A [v] Z y1)) (i:L[j]? =some (itI n [v'] S y2)) (x:K) (q:g x=(y1,y2)) (l:f x [v,v']=I):St w0 S0 w ((L.set k (itI R I (Z++S) x)).set j nilI):=by
 have r:=h.all k _ d;have s:=h.all j _ i;have o:∀b∈Z,b∉S:=h.apart k j _ _ (q9 c) d i;refine h.fuse k j c d i (C:=itI R I (Z++S) x) ?_ ?_ (λb m=>g8.1 m)
 ·subst p;exact ⟨[v,v'],l.symm,by rw [q];exact ⟨[v],[v'],Z,S,rfl,rfl,o,r,s⟩⟩
 ·exact l6.2 ⟨h.nd k _ d,h.nd j _ i,λa t b m e=>by subst e;exact o a t m⟩
theorem St.nRows(h:St w0 S0 w L)(j:Nat)(n:L[j]? =some (nI T R v S xs none))(g:β->K)(G:β->Prop)
  (q:∀r,(enc r).length=R.sz) (o:∀w p d x,R.own w p d x->d=[]/\∃r,g r=x/\enc r=p/\G r):∃b:List β,b.map g=xs/\(∀r∈b,G r)/\St w0 S0 w (L.set j (qk v T enc R.sz b)):=by
 obtain ⟨css,Ss,c⟩:=h.all j _ n
 obtain ⟨b,hl,i⟩:=Ih (P:=λt r=>xs[t]? =some (g r)/\css[t]? =some (enc r)/\G r) xs.length λt a=>by
  have f:t<css.length:=by rw [c.lc];exact a
  have k:t<Ss.length:=by rw [c.ls];exact a
  obtain ⟨_,r,e1,e2,e3⟩:=o _ _ _ _ (c.own t css[t] Ss[t] xs[t] (λ_ e=>by cases e) (zeg f) (zeg k) (zeg a));exact ⟨r,by rw [e1];exact zeg a,by rw [e2];exact zeg f,e3⟩
 have s:b.map g=xs:=by
  refine o5 λt=> ?_
  rw [u7];cases a:b[t]? with
  |some r=>exact (i t r a).1.symm
  |none=>
   have:b.length<=t:=by simpa using a
   exact (SJ (by omega)).symm
 have l:b.map enc=css:=by
  refine o5 λt=> ?_
  rw [u7];cases a:b[t]? with
  |some r=>exact (i t r a).2.1.symm
  |none=>
   have:b.length<=t:=by simpa using a
   exact (SJ (by have:=c.lc;omega)).symm
 have u:Ss.flatten=[]:=by
  rw [List.flatten_eq_nil_iff];intro d m;obtain ⟨t,a⟩:=p6 m;have k:t<Ss.length:=(zes.1 a).1;have h0:t<xs.length:=by rw [<- c.ls];exact k
  have f:t<css.length:=by rw [c.lc];exact h0
  exact (o _ _ _ _ (c.own t css[t] d xs[t] (λ_ e=>by cases e) (zeg f) a (zeg h0))).1
 refine ⟨b,s,λr y=>by obtain ⟨t,a⟩:=p6 y;exact (i t r a).2.2,h.turn j n ?_ ?_⟩
 ·have:=c.row;show dW w T R.sz v b.length (jP enc b);rw [hl,<- pp q,l];exact this
 ·show (dq v).toList=S;rw [c.hS,u,j7]
theorem St.nOfRows(R:Rp K)(h:St w0 S0 w L)(j:Nat)(hs:sz=R.sz)(d:L[j]? =some (qk v T enc sz c2))(g:β->K)(f:∀r,(enc r).length=sz)(k:∀r∈c2,R.own w (enc r) [] (g r)):
  St w0 S0 w (L.set j (nI T R v (dq v).toList (c2.map g) none)):=by
 subst hs;have m:=h.all j _ d;have n:(List.replicate c2.length ([]:List Nat)).flatten=[]:=by rw [List.flatten_eq_nil_iff];intro l hl;exact (List.mem_replicate.1 hl).2
 refine h.turn j d ⟨c2.map enc,List.replicate c2.length [],?_,by simp,by simp,by rw [n,j7],cZ,(λ_ _ e=>by cases e),λi p S x _ b o c=> ?_⟩ rfl
 ·rw [pp f,r9];exact m
 ·rw [u7] at b c;cases a:c2[i]? with
  |none=>rw [a] at b;cases b
  |some r=>
   rw [a] at b c;cases b;cases c;obtain rfl:S=[]:=(List.mem_replicate.1 (zmg o)).2;exact k r (zmg a)
theorem St.asRaw(h:St w0 S0 w L)(j:Nat)(a:L[j]? =some (qk v T enc sz c2))(b:∀r,(enc r).length=sz):St w0 S0 w (L.set j (qk v T (fit sz) sz (c2.map enc))):=by
 refine h.turn j a ?_ rfl;show dW w T sz v (c2.map enc).length (jP (fit sz) (c2.map enc));rw [r9,pp b];exact h.all j _ a
theorem KN{K:Type}{R:Rp K}(w:World):(sK R [] [] []).Φ w:=⟨rfl,rfl,λi c S x h=>by simp at h⟩
theorem St.bchNew{K:Type}(R:Rp K)(h:St w0 S0 w L):St w0 S0 w (L++[sK R [] [] []]):=
 h.push (x6 _ _) (KN w) (λb a=>by simp [sK] at a) (by simp [sK])
theorem St.bchOn{K:Type}{R:Rp K}{xs:List K}{x:K}(h:St w0 S0 w L)(k j:Nat)(a:Nat.beq k j=false)(g:L[k]? =some (sK R css Ss xs))(d:L[j]? =some (itI R I S x)):
  St w0 S0 w ((L.set k (sK R (css++[I]) (Ss++[S]) (xs++[x]))).set j nilI):=by
 have b:k≠j:=q9 a;have i:=h.bchOne j d;have c:j<L.length:=(zes.1 d).1;have f:=i.bchApp k j a (by rw [SB (λe=>b e.symm)];exact g) (yr c)
 have e:((L.set j (sK R [I] [S] [x])).set k (sK R (css++[I]) (Ss++[S]) (xs++[x]))).set j nilI=(L.set k (sK R (css++[I]) (Ss++[S]) (xs++[x]))).set j nilI:=by
  rw [List.set_comm _ _ (λe=>b e.symm),y8]
 rw [e] at f;exact f
theorem tY(h:xs[i]? =some x):Sx.idx xs (i:Int)=some x:=by
 have a:i<xs.length:=(zes.1 h).1;unfold Sx.idx;rw [d7 (by omega)]
 simpa using h
theorem ua(h:xs[i]? =some x):xs.take (i+1)=xs.take i++[x]:=by
 rw [yc,h];rfl
theorem Ii(h:xs.drop i=t.drop i):xs[i]? =t[i]? :=by
 have:=congrArg (·[0]?) h
 simpa [List.getElem?_drop] using this
theorem BZ(h:xs.drop i=t.drop i):(xs.set i x).drop (i+1)=t.drop (i+1):=by
 rw [List.drop_set_of_lt (by omega)];have:=congrArg (List.drop 1) h
 simpa [yu,Nat.add_comm] using this
theorem tu{a:K}{β:Type}{g:K->β}(h:xs[i]? =some x)(e:g a=g x):(xs.set i a).map g=xs.map g:=by
 rw [yg,e];refine o5 λt=> ?_
 rw [y6];split
 ·rename_i b
  subst b;have:i<(xs.map g).length:=by rw [r9];exact (zes.1 h).1
  rw [d7 this,u7,h];rfl
 ·rfl
theorem B3(h:i<xs.length):(xs.set i y).take (i+1)=xs.take i++[y]:=by
 rw [ua (x:=y) (by rw [yr h]),List.take_set_of_le (m6 i)]
open Go.ChangeShapes Go.WideShapes Go.ChangeAt Go.RowKit
theorem wy{C:Checked}{s:ChangeSpec}{K:(H:Type)->List (DataW H)->Bool}{F:Stop.Interp}(H:Type)(enc:TypeId×Value->H)
  (own:ownKnob C.prog.godebug=none) (a:e9.Started) (g:C.prog.inits.idxOf? g0=none) (A:C.prog.funcs[g0]? =some B)
  (b:∃(w:World)(tape:Tape)(i:Input),w.os=e9/\(w.forCall tape i).Shaped C.prog/\i.vars=[]/\Input.okWide C.prog (w.forCall tape i) .any w.heap.size g0 i/\
   ({OpenSpec.ofChange s with cond:=some K}:OpenSpec).preRow enc C.prog B conds false g1 (w.forCall tape i).memory i.args/\({}:Assume).holds C.prog (lone (Frame.enter C.prog g0 i.args .normal) [] (w.forCall tape i)))
  (l:laidOutB C.prog=true) (f:s.vars=[]) (D:B.params.toList.all (λt=>C.prog.readableRec t&&decide (t<C.prog.types.size))=true)
  (E:B.resultTypes= #[tb]) (G:C.prog.underlying tb=some .bool)
  (k:∀(d:List (DataW H)),d.length=B.params.toList.length->(s.fn H (d++[])).results=[.lit (.bool true)]/\(s.fn H (d++[])).args=d/\(s.fn H (d++[])).vars=[])
  (c:∀(W:World)(base:Nat)(args:Array Value)(d:List (DataW H))(P:List MemPlace),laidMetH C.prog g1 W->W.ShapedOpen C.prog->K H d=true->
   (∀(j:Nat) t v,B.params[j]? =some t->args[j]? =some v->Value.okWide C.prog W .any base t v)->
   DataW.TrodAll enc C.prog W 0 (λ_=>true) true B.params.toList args.toList d P->(∀n∈DataW.weightsEach C.prog B.params.toList d,n<=reachBytes)->
   Calls C.prog g0 args W λe I=>e=.returned (.bool true)/\Chg [] W I):
  ReturnsInHanded {} C e9 g0 .any (({OpenSpec.ofChange s with cond:=some K}:OpenSpec).preRow enc C.prog B conds false g1) ((({OpenSpec.ofChange s with cond:=some K}:OpenSpec).at F).post enc C.prog B false true false false):=by
 refine returnsInHanded_of_row (s:={OpenSpec.ofChange s with cond:=some K}) own a g A b ?_;intro W base args d Q u m N _ y J R L _;have y:=y K rfl;have o:=N;obtain ⟨p,q,z,S,rfl,_,_⟩:=N;have r:DataW.TrodVars enc C.prog W (λ_=>true) s.vars Q q:=S;rw [f] at r;obtain ⟨rfl,rfl⟩:=trodVars_none r;rw [j7] at y
 have T:∀n∈DataW.weightsEach C.prog B.params.toList d,n<=reachBytes:=by
  intro n U
  have:n∈DataW.weightsEach C.prog (B.params.toList++(OpenSpec.ofChange s).bare.plain.varTypes C.prog) (d++[]):=by
   rw [j7];exact mK (oD z) U
  have V:=yb.1 J n this
  simpa using V
 refine (c W base args d p R L y m z T).mono λe I ⟨X,Y⟩=> ?_
 subst X;have O:=Y.below;have M:∀x∈p,x.block<W.heap.size:=λx Z=>o.lt x (zal _ Z)
 obtain ⟨r1,r2,r3⟩:=k d (oD z);refine ⟨_,rfl,?_⟩;show s.post enc C.prog B false true false false W args _ I;refine ⟨d,[],p++[],[]++[],p,[],o,?_,?_,?_,O.frame _,λh=>by cases h⟩
 ·rw [r1,E];exact Ig G
 ·rw [r2];exact pm l O D z M
 ·rw [r3,f];rfl
end Go.Sx
namespace Go.Proofs.YtplmgfkghomelaaGreatDoor
variable {E c v:Type}{P:Program}{G G':E->Prop}{D D':World->List Nat->E->List Value->Prop}{g sz B:Nat}{e:TypeId}{l:List (DataW E)}{d:DataW E}{C:E->List Value}{p:Array Field}{j:TypeId×Value->c}{m:World}{o z:Nat->Bool}{q f:Bool}{r:List Value}{x:DataW c×List MemPlace}{L:List (TypeId×Nat×Nat)}{y:TypeId×Value->v}{A:DataW v×List MemPlace}{b:List TypeId}{i:List (DataW c)}{ps:List MemPlace}
theorem F9{H:Type}:∀(l:List (DataW H)),l.length<=Rows.uptoBulkAll l
 |[]=>Nat.zero_le _
 |d::r=>by
  have h:=F9 r
  have a:1<=Rows.uptoBulk d:=by
   unfold Rows.uptoBulk;split<;>omega
  simp only [Rows.uptoBulkAll,u5];omega
theorem Ga{H:Type}:∀{ds:List (DataW H)} {i:Nat} {d:DataW H},ds[i]? =some d->Rows.uptoBulk d<=Rows.uptoBulkAll ds
 |[],i,d,h=>by simp at h
 |a::r,0,d,h=>by
  simp at h;subst h;simp only [Rows.uptoBulkAll];omega
 |a::r,i+1,d,h=>by
  have:=Ga (i:=i) (ds:=r) (by simpa using h);simp only [Rows.uptoBulkAll];omega
open Go.Sx Go.ChangeShapes Go.WideShapes Go.ChangeAt Go.RowKit
theorem Gb(h:d∈l):Rows.uptoBulk d<=Rows.uptoBulkAll l:=by
 obtain ⟨i,a⟩:=p6 h;exact Ga a
def iV(P:Program)(t:TypeId)(D:World->List Nat->E->List Value->Prop)(G:E->Prop):Prop:=
 ∀(H:Type)(C:TypeId×Value->H)(w:World)(g:Nat)(spare:Nat->Bool)(held:Bool)(B:Nat)(c:List Value)(x:DataW H×List MemPlace),
  DataW.trod C P w g spare held B t c=some x->(∀n∈x.1.weights P t,n<=reachBytes)->Rows.uptoBulk x.1<=1048576->∃a,D w [] a c/\G a
theorem iV.of(h:Dec P e D G):iV P e D G:=λH C w g spare held B c x a b _=>h H C w g spare held B c x a b
theorem iV.mono(h:iV P e D G)(b:∀w a c,D w [] a c->D' w [] a c)(d:∀a,G a->G' a):iV P e D' G':=by
 intro H C w g spare held B c x f i j;obtain ⟨a,k,l⟩:=h H C w g spare held B c x f i j;exact ⟨a,b _ _ _ k,d _ l⟩
theorem iV.sliceN{t:TypeId}{bytes:Nat}(Y:iV P e D G)(J:P.underlying t=some (.slice e))(Z:P.cellsOf e=sz)(hsz:0<sz)(hb:P.bytesOf e=bytes):
  iV P t (λw S (q:List E) c=>∃v,c=[v]/\RdN w S v D sz q) (λq=>(q.length*bytes<=reachBytes/\∀x∈q,G x)/\q.length<=1048575):=by
 intro H C w g spare held B c x h K L;rcases Go.Deep.open_slice J h with ⟨rfl,rfl⟩|⟨a,len,cap,m,n,z,Pl,rfl,_,hl,hm,rfl,rfl,r⟩
 ·exact ⟨[],⟨_,rfl,by simp,none,0,rfl,by simp,λt x r=>by simp at r⟩,⟨by simp,λx r=>absurd r znm⟩,by simp⟩
 rw [Z] at r;have hle:len<=(if spare a.block then cap else len):=by split<;>omega
 unfold DataW.weights at K;simp only [J] at K
 obtain ⟨q,j,A⟩:=tX (p:=λi y=>G y/\∃c,D w [] y c/\w.cells? g (a.add (i*sz)) sz=some c) len (λi F=>by
  obtain ⟨c,N,h2⟩:=r i (by omega)
  obtain ⟨y,O,hG⟩:=Y H C w g spare held n c _ h2 (λk L=>K k (zcm _ (zal _ (pj (d:=z i) (x8.2 ⟨i,by simpa using F,rfl⟩) k L)))) (by
   have W:=Gb (d:=z i) (l:=(List.range len).map z) (x8.2 ⟨i,by simpa using F,rfl⟩);simp only [Rows.uptoBulk] at L;show Rows.uptoBulk (z i)<=_;omega)
  exact ⟨y,hG,c,O,N⟩)
 have X:=K _ zcs;simp only [r9,List.length_range,hb] at X
 have Q:len<=1048575:=by
  have W:=F9 ((List.range len).map z);rw [r9,List.length_range] at W;simp only [Rows.uptoBulk] at L;omega
 have R:len*bytes<=reachBytes:=p9 (p7 _ (by omega)) X;refine ⟨q,⟨_,rfl,?_,some a,cap,by rw [j],by rw [j];exact hl,λi y M=> ?_⟩,⟨by rw [j];exact R,λy M=> ?_⟩,by rw [j];exact Q⟩
 ·unfold maxLen at hm;omega
 ·obtain ⟨_,c,O,T⟩:=A i y M;have F:i<len:=by have:=(zes.1 M).1;omega
  have I:a.spot=none:=by
   obtain ⟨U,N,_⟩:=r 0 (by omega);obtain ⟨hl0,V⟩:=cells?_at N;have:=V 0 U[0] (zeg (by omega));rw [Nat.zero_mul] at this
   simpa [Addr.add] using World.cell?_spot this
  refine ⟨c,O,a.block,a.off,?_,by simp,λf u J=> ?_⟩
  ·obtain ⟨b,o,s⟩:=a;cases I;rfl
  ·have:=(cells?_at T).2 f u J;rw [NC I] at this;exact this
 ·obtain ⟨i,F⟩:=List.mem_iff_getElem?.1 M;exact (A i y F).1
theorem iV.slice{t:TypeId}{bytes:Nat}(l:iV P e (λ_ _ a g=>g=C a) G)(i:P.underlying t=some (.slice e))(m:P.cellsOf e=sz)(j:0<sz)(n:P.bytesOf e=bytes):
  iV P t (λw S (d:List E) g=>∃v,g=[v]/\Rd w S v C sz d) (λd=>(d.length*bytes<=reachBytes/\∀x∈d,G x)/\d.length<=1048575):=by
 refine (iV.sliceN l i m j n).mono ?_ (λ_ h=>h);rintro w d g ⟨v,rfl,p,a,c,rfl,k,q⟩;refine ⟨_,rfl,p,a,c,rfl,k,λt x f u r i=> ?_⟩;obtain ⟨g,rfl,b,o,s,y,z⟩:=q t x r;exact ⟨b,o,s,y,z f u i⟩
theorem iV.struct
  (y:P.underlying e=some (.struct p)) (h:DataW.trod j P m g o q B e r=some x) (u:∀n∈x.1.weights P e,n<=reachBytes) (v:Rows.uptoBulk x.1<=1048576):
  r.length=P.cellsOf e/\∀(E:Type)(D:World->List Nat->E->List Value->Prop)(G:E->Prop)(i:Nat)(f:Field),p[i]? =some f->iV P f.type D G->∃a,D m [] a ((r.drop f.offset).take (P.cellsOf f.type))/\G a:=by
 obtain ⟨s,n,_,rfl,hl,z,C⟩:=DataW.trod_struct y h;refine ⟨hl,λE D G i f w F=> ?_⟩;have A:=C i f w;have b:i<s.length:=by have:=(x3.1 w).1;omega
 rw [zeg b] at A;unfold DataW.weights at u;simp only [y] at u;refine F c j m g o q n _ _ A (λk v=>u k (kg (i:=i) (t:=f.type) (d:=s[i].1) ?_ ?_ k v)) ?_
 ·rw [u7,Array.getElem?_toList,w];rfl
 ·rw [u7,zeg b];rfl
 ·simp only [Rows.uptoBulk] at v;have:=Gb (d:=s[i].1) (l:=s.map (·.1)) (x8.2 ⟨s[i],yo b,rfl⟩);omega
theorem iV.parts
  (d:QT P e=L) (j:L≠ []) (h:DataW.trod y P m g z q B e r=some A) (s:∀n∈A.1.weights P e,n<=reachBytes) (t:Rows.uptoBulk A.1<=1048576):
  r.length=P.cellsOf e/\∀(E:Type)(D:World->List Nat->E->List Value->Prop)(G:E->Prop)(i T o c:Nat),L[i]? =some (T,o,c)->iV P T D G->∃a,D m [] a ((r.drop o).take c)/\G a:=by
 unfold QT at d;split at d
 ·rename_i p k
  obtain ⟨u,v⟩:=iV.struct k h s t;refine ⟨u,λE D G i T o c b w=> ?_⟩;rw [<- d,u7,Array.getElem?_toList] at b;cases l:p[i]? with
  |none=>rw [l] at b;cases b
  |some f=>
   rw [l] at b;cases b;exact v E D G i f l w
 ·exact absurd d.symm j
theorem Bp
  (h:DataW.TrodAll j P m g o f (e::b) r i ps) (s:∀n∈DataW.weightsEach P (e::b) i,n<=reachBytes) (w:Rows.uptoBulkAll i<=1048576):
  ∃v l k t,r=v::l/\(∀(E:Type)(D:World->List Nat->E->List Value->Prop)(G:E->Prop),iV P e D G->∃a,D m [] a v.cells.toList/\G a)/\
   DataW.TrodAll j P m g o f b l k t/\(∀n∈DataW.weightsEach P b k,n<=reachBytes)/\Rows.uptoBulkAll k<=1048576:=by
 cases r with
 |nil=>exact h.elim
 |cons v r=>
  cases i with
  |nil=>exact h.elim
  |cons d i=>
   obtain ⟨p,q,⟨B,x⟩,y,rfl⟩:=h;unfold DataW.weightsEach at s;simp only [Rows.uptoBulkAll] at w;exact ⟨v,r,i,q,rfl,λE D G z=>z c j m g o f B _ _ x (λn u=>s n (zal _ u)) (by show Rows.uptoBulk d<=_;omega),y,λn u=>s n (zar _ u),by omega⟩
end Go.Proofs.YtplmgfkghomelaaGreatDoor
set_option maxRecDepth 10000
namespace Go.Sx
variable {ρ:Type}{P:Program}{N:Nat}{c:Code}{f:Option ρ}{a:FuncId}{d:List Value}{Fs:List Fa}{L:List Item}{R:World->List Nat->ρ->Ending->World->Prop}{i:Func}
theorem wk(j:P.funcs[a]? =some i)(g:List H)
  (l:i.body=some c:=by rfl) (m:i.ntmps=N:=by rfl) (o:Nat.ble d.length N=true:=by kernel_rfl)
  (n:∀w Z r,GC g f r Fs L (sD 0 d) P i N w Z c (bodyPost P i (R w Z r)):=by
   repeat' (first
    |exact rfl
    |(refine KR.mk ?_;kernel_rfl)
    |((fail_if_success (fail_if_success (apply GO.here)));first|(refine GO.fo (by exact rfl) (λ_=>by exact rfl) ?_;intro _ _ e;subst e)|(refine GO.fO (by exact rfl) (λ_=>by exact rfl) (λ_=>by exact rfl) ?_;intro _ _ e;subst e)|(refine GO.fx (by assumption) ?_)|apply GO.mkf|apply GO.clr|apply GO.ci|apply GO.p|apply GO.k|apply GO.km|apply GO.kv|apply GO.nil|apply GO.nx|apply GO.ca|apply GO.bi|apply GO.bo|apply GO.st|apply GO.al|apply GO.bx|apply GO.sp|apply GO.ad|apply GO.sr|apply GO.rw|apply GO.ap|apply GO.mkS|apply GO.be|apply GO.bt|apply GO.sa|apply GO.sra|apply GO.srw|apply GO.spa|apply GO.sp1|apply GO.co|apply GO.ce|apply GO.cn|apply GO.il|apply GO.bd|apply GO.bn|apply GO.sn|apply GO.an|apply GO.ly|apply GO.lyx|apply GO.mN|apply GO.sg|apply GO.sx|apply GO.cp|apply GO.pw|apply GO.nd|apply GO.bxe|apply GO.ste|apply GO.vb|apply GO.mnN|apply GO.mlP|apply GO.mlR|apply GO.mq|apply GO.mh|apply GO.md|apply GO.ll|apply GO.nl|apply GO.bj)
    |((fail_if_success (fail_if_success (apply GQ.here)));first|(refine GQ.fx (by assumption) ?_)|apply GQ.mt|apply GQ.ms|apply GQ.bk|apply GQ.bg|apply GQ.next|apply GQ.then_ret|apply GQ.block_ret|apply GQ.then_exit|apply GQ.block_here|apply GQ.block_normal|apply GQ.block_on|apply GQ.rt|apply GQ.pop|apply GQ.popN|apply GQ.rc1|apply GQ.rc2|apply GQ.rc3|apply GQ.re|apply GQ.r0|apply GQ.ad|apply GQ.rn|apply GQ.rs|apply GQ.ri|apply GQ.nd|apply GQ.nl|apply GQ.nm|apply GQ.rI)
    |((fail_if_success (fail_if_success (apply GC.here)));first|(refine GC.fx (by assumption) ?_)|apply GC.dk|apply GC.ds|apply GC.dn|apply GC.ad|apply GC.seq|apply GC.block|apply GC.skip|apply GC.exit|apply GC.ret|apply GC.ck|apply GC.cs|apply GC.scB|apply GC.scC|apply GC.rgB|apply GC.plB|apply GC.br|apply GC.lb|apply GC.lc|apply GC.ct|apply GC.cf|apply GC.lg|apply GC.be|apply GC.nb|apply GC.stB|apply GC.tlB|apply GC.nl|apply GC.nm)
    |((fail_if_success (fail_if_success (apply GP.here)));first|(refine GP.fp (by exact rfl) (λ_ _ _ _=>by exact rfl) ?_;intro _ _ _ _ e;first|subst e|(generalize (‹(Nat×List Nat)×Value×List Nat›).2.1=u at e |-;subst e))|(refine GP.fO (by exact rfl) (λ_=>by exact rfl) (λ_=>by exact rfl) ?_;intro _ _ e;subst e)|(refine GP.fx (by assumption) ?_)|apply GP.p|apply GP.l1|apply GP.lm|apply GP.lv|apply GP.ac|apply GP.a2|apply GP.fin|apply GP.sp|apply GP.bi|apply GP.bo|apply GP.ad|apply GP.be|apply GP.bn|apply GP.bj|apply GP.bl)
    |((fail_if_success (fail_if_success (apply GS.here)));first|(refine GS.fO (by exact rfl) (λ_=>by exact rfl) (λ_=>by exact rfl) ?_;intro _ _ e;subst e)|(refine GS.fx (by assumption) ?_)|apply GS.sp|apply GS.ad|apply GS.be|apply GS.p|apply GS.k|apply GS.km|apply GS.kv|apply GS.bi|apply GS.bo|apply GS.fin|apply GS.on|apply GS.bd|apply GS.bn|apply GS.mlP)
    |(apply GC.dg;intro _ _ _ _ _)
    |intro _
    |(apply Nf.mk;(try dsimp only);(try exact rfl))
    |((fail_if_success (fail_if_success (apply Giv.here)));first|apply Giv.nil|apply Giv.rf|apply Giv.ro|apply Giv.rn|apply Giv.rb|apply Giv.rc|apply Giv.bj|apply Giv.bq|apply Giv.ru|apply Giv.dn|apply Giv.oN|apply Giv.po|apply Giv.sv|apply Giv.oi|apply Giv.fi)
    |((fail_if_success (fail_if_success (apply LkV.here)));first|apply LkV.ix|apply LkV.qu|apply LkV.re|apply LkV.hl|apply LkV.hr|apply LkV.si|apply LkV.ad|apply LkV.sq|apply LkV.cp|apply LkV.cu|apply LkV.cf|apply LkV.ai|apply LkV.sA|apply LkV.sU|apply LkV.nz|apply LkV.al|apply LkV.af|apply LkV.at|apply LkV.pn|apply LkV.sw)
    |((fail_if_success (fail_if_success (apply Adm.here)));first|apply Adm.nn|apply Adm.o0|apply Adm.s0|apply Adm.kp|apply Adm.nr|apply Adm.op|apply Adm.opk|apply Adm.sh|apply Adm.fp|apply Adm.fu|apply Adm.pt|apply Adm.no|apply Adm.nb|apply Adm.nb0s|apply Adm.nb0|apply Adm.shx|apply Adm.shw|apply Adm.ctr|apply Adm.nc|apply Adm.nd|apply Adm.s0x|apply Adm.ne|apply Adm.mb0|apply Adm.mb0r|apply Adm.mb|apply Adm.mbf|apply Adm.mbp|apply Adm.oi0|apply Adm.oi|apply Adm.sfN|apply Adm.sfx|apply Adm.tp)
    |((fail_if_success (fail_if_success (apply jk.here)));first|apply jk.dep|apply x5|apply jk.row|apply jk.nrow|apply jk.ptr|apply jk.bor|apply jk.any|apply jk.st|apply jk.len|apply jk.gho|apply jk.rdn|apply jk.mapn)
    |((fail_if_success (fail_if_success (apply qJ.here)));first|apply qJ.dep|apply qJ.on|apply qJ.os|apply qJ.pair|apply qJ.row|apply qJ.rowF|apply qJ.frz|apply qJ.nrow|apply qJ.rdn|apply qJ.bor|apply qJ.prn|apply qJ.pb|apply qJ.mapn|apply qJ.it|apply qJ.st|apply qJ.len|apply qJ.rdn|apply qJ.gho)
    |apply Df.nil
    |apply Df.kq
    |apply Df.c1
    |apply Df.n1
    |apply Ex.u
    |apply Ex.p
    |apply Ln.s
    |apply Ln.t
    |apply Ln.k
    |apply Sim.nil
    |apply Sim.part
    |apply Sim.blk
    |apply Sim.row
    |apply Sim.itU
    |apply Sim.nrow
    |apply Sim.mapN
    |apply Sim.nrowH
    |apply Sim.pool
    |apply RV.t
    |apply RV.cN
    |apply Kr.nil
    |apply Bn.f1
    |apply Bn.oo
    |apply Bn.l1
    |apply Bn.r1
    |apply Bn.n1
    |apply Bn.d1
    |apply Bn.c1
    |apply Nt.sf
    |apply Nt.so
    |apply CF.b1
    |apply KJ.nil
    |apply KJ.u
    |apply CF.o1
    |apply CF.p1
    |apply CF.r1
    |apply LvR.c1
    |apply LvR.nil
    |apply Dg.nil
    |apply Dg.b
    |apply Dg.p
    |apply Dg.t
    |apply Fg.nil
    |apply Fg.consS
    |apply Fg.cons
    |apply Sim.sit
    |apply ME.nil
    |apply ME.cons
    |(apply Rc.mk;apply_assumption)
    |(apply PI.mk;apply_assumption)
    |(apply PD.mk;apply_assumption)
    |(apply RK.mk;intro h q S;apply (h q S))
    |apply Cel.ld
    |apply Cel.le
    |apply Cel.lr
    |apply Cel.cc
    |apply Cel.ca
    |apply Cel.ce
    |apply Cel.nh
    |apply rX.lE
    |apply rX.lN
    |apply rX.lR
    |apply rX.cN
    |apply rX.cA
    |apply rX.ce
    |apply rX.nH
    |apply aD.row
    |apply aD.nrow
    |apply aD.any
    |apply aD.ptr
    |apply aD.bor
    |apply aD.rdn
    |apply aD.len
    |apply aD.gho
    |apply aD.dep
    |apply aD.pair
    |apply aD.st
    |apply my.row
    |apply my.rowF
    |apply my.pair
    |apply my.st
    |apply me.row
    |apply me.rowF
    |apply me.st
    |apply me.pair)):Pj P a d Fs L f R:=Pj.start g j l m ⟨o⟩ n
end Go.Sx
