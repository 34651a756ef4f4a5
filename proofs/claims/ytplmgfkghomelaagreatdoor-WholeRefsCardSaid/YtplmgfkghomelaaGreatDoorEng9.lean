/- Lemmas. -/
import Derived.Test.YtplmgfkghomelaaGreatDoorIns
import Derived.Shelf.Small.Bits
import Derived.Shelf.Sort.Plain
import Derived.Shelf.Bits.Mul64
import Derived.Shelf.Slices.Clone
import Derived.Shelf.Slices.SearchI
import Derived.Shelf.Slices.In.SortNone
import Derived.Shelf.SlicesE.Clone
import Derived.Test.YtplmgfkghomelaaGreatDoorProg
import Derived.Lib.OthersKept
import Derived.Lib.Join
import Derived.Lib.ItoaNum
import Derived.Lib.LaidTab
import Derived.Lib.ParseIntB
import Derived.Lib.SplitLaws
import Derived.Lib.AtoiErrMem
import Derived.Stop.IfaceNil
set_option linter.all false
namespace Go.Sx
open Go.RowKit
variable {Fs:List Fa}{L b:List Item}{α ρ w:Type}{S Z js O:List Nat}{q N i j sz e:Nat}{R A:Rp α}{c:Fr}{P:Program}{w0 V:World}{l:List Oper}{m m':List (Int×α)}{B:Func}{r:ρ}{Q:Exit->Act->World->Prop}{p s:List H}{v v':Value}{ks:List Pa}{F:List Nat->List Item}{f:Option ρ}{k t kk':Int}{U T:TypeId}{x G:Code}{o W:Option α}{y u:α}{g mm:Bool}{Fs1:α->List Fa}{xs n ys:List α}{kss:List (List Pa)}{css:List (List Value)}{Lq:List Nat->Value->List Item}{z:α->List Value}{ho:Option (Int×Value)}{d:Rp w}{a:List (Int×w)}{h:List Value}{C:α->List Value->List Value}{D:Nat->List Nat->List Item}{E:Nat->List Item}{I:Value->List Nat->List Nat->List Item}{J:List (Int×List α)}{K M:List Nat->Option Addr->Nat->List Item}{hh:H}{X:α->Option ρ}{Y:α->List Item}{pd:List (Nat×Pn)}
theorem jl.mapn:jl [5] q Fs (Dd d) (λ(i:Nat×List Nat)_=>[.map (some i.1)]) (λi y=>[mN i.1 d i.2 y none]) (λ_ _=>[]):=⟨by
 intro w0 Z w c S y a ho;have b:=(Dd d).nd w c S y ho;obtain ⟨r,rfl,h⟩:=ho;exact ⟨(r,S),rfl,vL.single (it:=mN r d S y none) h b rfl,trivial⟩⟩
theorem qK.mapn(h:nth L j=some (mN q d S a none)):qK [.r j] Fs L (Dd d) [j] [.map (some q)] a:=qK.item h λw ho=>⟨q,rfl,ho⟩
theorem vL.nilI(h:vL w0 S L):vL w0 S (nilI::L):=vL.cons trivial o5 (λb a=>by cases a) (S2:=S) (λb a=>by cases a) h (λb a=>a)
theorem Adm.ne{d:Type}{v:d->α->List Value}{f:d->α->List Item}{g:d->α->List Fa}{Lq F:d×List Nat->List Item}{Fs1:d×List Nat->List Fa}
  (z:nth Fs q=some (.el v' N i t xs y)) (M:nth L j=some (nI T R v' S n none)) (b:KR n xs) (A:jl js e Fs R v f g) (B:∀p,dx L j (nI T R v' p.2 n (some (t.toNat,v p.1 y)))=some (Lq p)) (C:∀p,mB (Lq p) (nilI::f p.1 y)=some (F p)) (D:∀p,mB Fs (g p.1 y)=some (Fs1 p)):
  Adm (.ne j q e js) Fs L F Fs1:=⟨λw0 Z w a s=>by
 obtain ⟨E,c,G⟩:=zD a z;have b:=b.h;subst b;have m:L[j]? =some (nI T R v' S n none):=by grind [zQ]
 obtain ⟨r,l,u,hl,I,x⟩:=s.nout j m E G;have ho:R.own w r u y:=x.all L.length (itI R r u y) (by simp);obtain ⟨k,rfl,J,K⟩:=A.o w0 Z w _ _ _ a ho;refine ⟨(k,l),?_,mG (D (k,l)) a K⟩;rw [bY (C (k,l)),qJ (B (k,l))];exact x.spread J.nilI⟩
theorem Adm.nb0s
 (d:nth Fs q=some (.el v i j t xs y)) (e:gz L Z []=some b) (f:nth b N=some (nI T R v' S n (some (sz,h)))) (g:qK (.s::ks) Fs L R js h y) (a:KR n xs) (k:KR sz t.toNat) (l:KR (zT (js++Z)) true)
 (m:∀c,dx b N (nI T R v' c n none)=some (F c)):Adm (.nb0 N q Z (.s::ks)) Fs L F (λ_=>Fs):=⟨(Adm.nb0 d e f g a k ⟨rfl⟩ ⟨rfl⟩ l m).o⟩
theorem FH.consS{w:Type}{hl:∀x v,(C x v).length=sz}{g:α->w}{A:Rp w}{z:w}(a:R=qv C sz hl g A)(b:qK ks Fs L A S h z)(c:KR (g y) z)(d:FH kss Fs L R Z css ys):FH ((.s::ks)::kss) Fs L R (S++Z) (C y h::css) (y::ys):=FH.cons (by subst a;exact qK.st b ⟨rfl⟩ c) d
theorem GO.lyx{α:Type}{R:Rp α}{ys:List α}(h:FH kss Fs L R js css ys)(d:gz L S []=some b)(e:KR (rwC l N c i) (some ys.length))(j:KR css.length ys.length)(k:KR (Nat.ble ys.length 9223372036854775807) true)
 (p:KR (fh c ((rwP l i).map (·.2))) true) (m:∀w,KR ((Instr.buildSlice (rwT l i) ys.length ((rwP l i).toArray.map λ(i,x)=>(i,rho c x))).run P w) (.ok (.slice (some ⟨w.heap.size,0,none⟩) ys.length ys.length) (w.alloc (.cells (jO (fit R.sz) css).toArray T))))
 (q:KR (zT (js++S)) true) (t:∀g a,vl b (nI T R (.slice (some ⟨g,0,none⟩) ys.length ys.length) a ys none)=some (D g a)) (n:∀g a,GO s f r Fs (D g a) ((dst l i,.slice (some ⟨g,0,none⟩) ys.length ys.length)::c) P B N w0 Z l (i+1) Q):GO (.lyx T R S kss ys::s) f r Fs L c P B N w0 Z l i Q:=⟨(GO.ly h d e j k p m q t n).o⟩
def SN(l:List Oper)(N:Nat)(c:Fr)(i:Nat):Option TypeId:=match okO l N c i with
 |some ⟨_,.makeMap t none,_,_,_,_⟩=>some t
 |_=>none
theorem GO.mnN(b:KR (SN l N c i).isSome true)(v:∀q,vl L (Sx.mN q R [q] ([]:List (Int×α)) none)=some (E q))
  (n:∀q,GO p f r Fs (E q) ((dst l i,.map (some q))::c) P B N w0 Z l (i+1) Q):GO (.mnN R::p) f r Fs L c P B N w0 Z l i Q:=⟨λw a s e=>by
 have b:=b.h;unfold SN at b;split at b
 ·rename_i x y _ _ _ _ g
  obtain ⟨d,hl,m,j,t⟩:=jC g;simp only at j;subst j;refine OW.mnewN R s hl m t λq u z=> ?_
  have k:=(n q).o u a (by grind [vS]) e;rw [vv hl rfl] at k;exact k
 ·cases b⟩
def mlC(P:Program)(l:List Oper)(N:Nat)(c:Fr)(i:Nat):Option (Nat×Int×Bool×Value):=match okO l N c i with
 |some ⟨_,.lookup t x y g,_,_,_,_⟩=>match look c x,look c y,P.underlying t with
  |some (.map (some q)),some (.int .i64 k),some (.map a b)=>match P.underlying a,ax P (zeroValue b) with
   |some (.int _),some v=>some (q,k,g,v)
   |_,_=>none
  |_,_,_=>none
 |_=>none
theorem As(h:mlC P l N c i=some (q,k,g,v)):
  ∃d t x G b pos e a f j n,vg l i=some ⟨some d,.lookup t x G g,b,pos,e,a⟩/\gd l c ⟨some d,.lookup t x G g,b,pos,e,a⟩=some true/\Nat.blt d N=true/\look c x=some (.map (some q))/\look c G=some (.int .i64 k)/\P.underlying t=some (.map f j)/\P.underlying f=some (.int n)/\ax P (zeroValue j)=some v:=by
 unfold mlC at h;split at h
 ·rename_i r t x G o b pos e a m
  split at h
  ·rename_i s u f j w y z
   split at h
   ·rename_i n p A B
    simp only [i6,o7] at h;obtain ⟨rfl,rfl,rfl,rfl⟩:=h;obtain ⟨d,hl,C,D,E⟩:=jC m
    grind
   ·cases h
  ·cases h
 ·cases h
def mlT(l:List Oper)(i:Nat):Bool:=match vg l i with
 |some ⟨_,.lookup _ _ _ g,_,_,_,_⟩=>g
 |_=>false
def mlV(g:Bool)(v:Value)(b:Bool):Value:=match g with
 |true=>.tuple #[v,.bool b]
 |false=>v
theorem GO.mlP(D:nth L j=some (Sx.mN q (vu U A) S m none))(T:Nf (mlT l i) g)(E:KR (mlC P l N c i) (some (q,k,g,.pointer none)))
  (V:∀b v,dx L j (Sx.mN q (vu U A) b m (some (k,v)))=some (Lq b v)) (W:∀v b u,vl (Lq b v) (itI (BL U A) [v] u (ja m k))=some (I v b u))
  (n:∀v b u,GO p f r Fs (I v b u) ((dst l i,mlV g v (ja m k).isSome)::c) P B N w0 Z l (i+1) Q):GO (.mlP j k::p) f r Fs L c P B N w0 Z l i Q:=⟨λw a s e=>by
 obtain ⟨d,t,x,y,X,pos,Y,F,tk,te,kd,hl,G,z,J,K,M,O,R⟩:=As E.h;refine OW.mlook (BL U A) (λo=>o) s j (by rw [<- zQ];exact D) hl G z J K M O (.pointer none) R (λ_=>⟨rfl,rfl⟩) (λ_ _ _ _ h=>h) (λ_ _ _ _ h=>h) λv b u s'=> ?_
 have C:=(n v b u).o w a (by grind [vS,qJ]) e;rw [vv hl rfl] at C;cases g<;>exact C⟩
theorem Sim.mapN(a:KR m m')(n:Sim L b):Sim (Go.Sx.mN q R S m none::L) (Go.Sx.mN q R S m' none::b):=⟨by rw [a.h,n.e]⟩
theorem GS.mlP(O:nth L j=some (Sx.mN q (vu U A) S m none))(h2:Nf (mlT l i) g)(R:KR (mlC P l N c i) (some (q,k,g,.pointer none)))(T:KR (Nat.blt i sz) true)
  (V:∀b v,dx L j (Sx.mN q (vu U A) b m (some (k,v)))=some (Lq b v)) (W:∀v b u,vl (Lq b v) (itI (BL U A) [v] u (ja m k))=some (I v b u))
  (n:∀v b u,GS p f r Fs (I v b u) ((dst l i,mlV g v (ja m k).isSome)::c) P B N w0 Z l (i+1) sz mm Q):GS (.mlP j k::p) f r Fs L c P B N w0 Z l i sz mm Q:=⟨λw a s e=>by
 obtain ⟨d,t,x,y,ty,pos,af,X,tk,te,kd,hl,Y,C,D,E,F,G,J⟩:=As R.h;obtain ⟨v,b,u,h0,z,s'⟩:=s.mlookS (k:=k) (BL U A) (λo=>o) j (by rw [<- zQ];exact O) (.pointer none) (λ_=>⟨rfl,rfl⟩) (λ_ _ _ _ h=>h) (λ_ _ _ _ h=>h)
 have K:=(n v b u).o w a (by rw [vS (W v b u),qJ (V b v)];exact s') e
 rw [vv hl rfl] at K;refine OS.op (v:=mlV g v (ja m k).isSome) hl T.h Y rfl C (λa M=> ?_) K;cases g
 ·exact Lt z rfl D E F G J a M
 ·exact Lu z rfl D E F G J a M⟩
theorem GO.mlR{u:∀x,(z x).length=sz}{A:0<sz}(F:nth L j=some (Sx.mN q (nF T z sz u A) S J none))(h2:Nf (mlT l i) g)(I:KR (mlC P l N c i) (some (q,k,g,.slice none 0 0)))
  (hN:∀b a G,dx L j (Sx.mN q (nF T z sz u A) b J (some (k,.slice a ((ja J k).getD []).length G)))=some (K b a G)) (hL:∀b a G,vl (K b a G) (qb (.slice a ((ja J k).getD []).length G) T z sz ((ja J k).getD []))=some (M b a G))
  (n:∀b a G,GO p f r Fs (M b a G) ((dst l i,mlV g (.slice a ((ja J k).getD []).length G) (ja J k).isSome)::c) P B N w0 Z l (i+1) Q):GO (.mlR j k::p) f r Fs L c P B N w0 Z l i Q:=⟨λw a s e=>by
 obtain ⟨d,t,x,y,ty,pos,af,O,tk,te,kd,hl,R,C,U,V,W,X,Y⟩:=As I.h;refine OW.mlook (nF T z sz u A) (λo=>o.getD []) s j (by rw [<- zQ];exact F) hl R C U V W X (.slice none 0 0) Y (λw=>⟨_,rfl,rfl,dw.nil w _ _ none⟩) (λ_ _ _ _ h=>h) (λ_ _ _ _ h=>h) λv b S2 s'=> ?_
 have m:(L.set j (Sx.mN q (nF T z sz u A) b J (some (k,v)))).length=L.length:=by simp
 have D:=s'.toRow1 L.length (by rw [Tu (by simp)];simp;rfl);rw [TM _ _ (by simp)] at D;simp only [m,Nat.sub_self,List.set_cons_zero] at D;obtain ⟨_,pa,pc,rfl⟩:=D.len L.length (by rw [Tu (by simp)];simp;rfl);have E:=(n b pa pc).o w a (by grind [vS,qJ]) e;rw [vv hl rfl] at E;cases g<;>exact E⟩
def muC(P:Program)(l:List Oper)(c:Fr)(i:Nat):Option (Nat×Int×Value):=match vg l i with
 |some ⟨none,.mapUpdate t x y z,a,pos,b,g⟩=>match gd l c ⟨none,.mapUpdate t x y z,a,pos,b,g⟩,look c x,look c y,look c z with
  |some true,some (.map (some q)),some (.int .i64 k),some v=>match P.underlying t with
   |some (.map d _)=>match P.underlying d with
    |some (.int _)=>some (q,k,v)
    |_=>none
   |_=>none
  |_,_,_,_=>none
 |_=>none
theorem FJ(h:muC P l c i=some (q,k,v)):
  ∃t x G z a pos b g d e f,vg l i=some ⟨none,.mapUpdate t x G z,a,pos,b,g⟩/\gd l c ⟨none,.mapUpdate t x G z,a,pos,b,g⟩=some true/\look c x=some (.map (some q))/\look c G=some (.int .i64 k)/\look c z=some v/\P.underlying t=some (.map d e)/\P.underlying d=some (.int f):=by
 unfold muC at h
 grind
theorem GO.mpG
  (C:∀E u,ho=some (E,u)->E=k) (J:gz L O []=some b) (hk:nth b j=some (Sx.mN q R S m ho)) (K:qK ks Fs L R js [v] u) (M:KR (muC P l c i) (some (q,k,v))) (T:KR (zT (js++O)) true)
  (hL:∀g,dx b j (Sx.mN q R g (mput m k u) none)=some (F g)) (n:∀g,GO p f r Fs (F g) c P B N w0 Z l (i+1) Q):GO (hh::p) f r Fs L c P B N w0 Z l i Q:=⟨λw a s e=>by
 obtain ⟨t,x,y,z,ty,pos,af,U,tk,te,kd,hl,V,W,X,Y,ht,D⟩:=FJ M.h;obtain ⟨G,s2⟩:=gR K J T.h a s;have d:b[j]? =some (Sx.mN q R S m ho):=by grind [zQ]
 have A:j<b.length:=(zes.1 d).1;refine OW.mputN (S2:=G) (u:=u) s2 j b.length (N7 (Nat.ne_of_lt A)) (by rw [ye A,d]) C (by simp) hl V W X Y ht D λg w' I=> ?_
 rw [rP d,TM _ _ (by simp)] at I;simp at I;exact (n g).o w' a (by grind [qJ,kU]) e⟩
theorem GO.mq
 (g:gz L O []=some b) (o:nth b j=some (Sx.mN q R S m (some (t,v')))) (d:KR t k) (s:qK ks Fs L R js [v] u) (w:KR (muC P l c i) (some (q,k,v))) (x:KR (zT (js++O)) true)
 (y:∀a,dx b j (Sx.mN q R a (mput m k u) none)=some (F a)) (n:∀a,GO p f r Fs (F a) c P B N w0 Z l (i+1) Q):GO (.mq j k O ks::p) f r Fs L c P B N w0 Z l i Q:=GO.mpG (λ_ _ e=>by cases e;exact d.h) g o s w x y n
def muV(P:Program)(l:List Oper)(c:Fr)(i:Nat):Value:=match muC P l c i with
 |some (_,_,v)=>v
 |none=>undef
theorem GO.mh
  (g:nth L j=some (Sx.mN q R S m none)) (v:KR (muC P l c i) (some (q,k,muV P l c i))) (K:∀b,dx L j (Sx.mN q R b (mput m k u) (some (k,muV P l c i)))=some (F b)) (n:∀b,GO p f r Fs (F b) c P B N w0 Z l (i+1) Q):GO (.mh j k u::p) f r Fs L c P B N w0 Z l i Q:=⟨λw a s e=>by
 obtain ⟨t,x,y,z,M,pos,O,A,T,U,V,hl,C,D,E,G,I,d⟩:=FJ v.h;refine OW.mputH s j u (by rw [<- zQ];exact g) (λ_ _ e=>by cases e) hl C D E G I d λb J W=> ?_
 exact (n b).o J a (by grind [qJ]) e⟩
def mdC(P:Program)(l:List Oper)(c:Fr)(i:Nat):Option (Nat×Int):=match vg l i with
 |some ⟨none,.call ⟨.builtin .delete,⟨[x,y]⟩,⟨t::a⟩⟩,b,pos,d,g⟩=>match gd l c ⟨none,.call ⟨.builtin .delete,⟨[x,y]⟩,⟨t::a⟩⟩,b,pos,d,g⟩,look c x,look c y,P.underlying t with
  |some true,some (.map (some q)),some (.int .i64 k),some (.map e _)=>match P.underlying e with
   |some (.int _)=>some (q,k)
   |_=>none
  |_,_,_,_=>none
 |_=>none
theorem GO.md(u:nth L j=some (Sx.mN q R S m none))(b:KR (mdC P l c i) (some (q,k)))(I:∀d,dx L j (Sx.mN q R d (mdel m k) none)=some (F d))
  (n:∀d,GO p f r Fs (F d) c P B N w0 Z l (i+1) Q):GO (.md j k::p) f r Fs L c P B N w0 Z l i Q:=⟨λw a s e=>by
 have b:=b.h;unfold mdC at b;split at b
 ·rename_i x y t v J pos K g hl
  split at b
  ·rename_i M O T U z A C D
   split at b
   ·rename_i V E
    simp only [i6,o7] at b;obtain ⟨rfl,rfl⟩:=b;refine OW.mdelN (ats:=t::v) s j (by rw [<- zQ];exact u) hl z rfl A C D E λd G W=> ?_
    exact (n d).o G a (by grind [qJ]) e
   ·cases b
  ·cases b
 ·cases b⟩
def llC(P:Program)(l:List Oper)(N:Nat)(c:Fr)(i:Nat):Option Nat:=match okO l N c i with
 |some ⟨_,.call ⟨.builtin .len,⟨[x]⟩,⟨t::_⟩⟩,_,_,_,_⟩=>match look c x,P.underlying t with
  |some (.map (some q)),some (.map _ _)=>some q
  |_,_=>none
 |_=>none
theorem GO.ll(v:nth L j=some (Sx.mN q R S m ho))(b:KR (llC P l N c i) (some q))
  (n:GO p f r Fs L ((dst l i,.int .i64 (m.length:Int))::c) P B N w0 Z l (i+1) Q):GO (.ll j::p) f r Fs L c P B N w0 Z l i Q:=⟨λw a s e=>by
 have b:=b.h;unfold llC at b;split at b
 ·rename_i E x t y _ _ _ _ g
  split at b
  ·rename_i F G I z A
   simp only [i6] at b;subst b;obtain ⟨d,hl,C,k,D⟩:=jC g;simp only at k;subst k;refine j6 hl C rfl D (Kt (ats:=t::y) s j (by rw [<- zQ];exact v) rfl rfl z A) ?_
   have u:=n.o w a s e;rw [vv hl rfl] at u;exact u
  ·cases b
 ·cases b⟩
theorem D0{d:Type}{g:Rp d}{ff:Option α->d}{y:d}(l:gz L O []=some b)(u:nth b N=some (Sx.mN q R S m (some (t,v))))(n:qK ks Fs L g js [v] y)
  (e:∀V i S x,g.own V i S (ff (some x))->R.own V i S x) (o:zT (js++O)=true) (z:α) (p:(ja m t).isSome=true->y=ff (some z)) (a:bO w0 Z Fs) (s:St w0 Z V L):∃j,St w0 Z V (b.set N (Sx.mN q R j (wn m t z) none)):=by
 obtain ⟨k,r⟩:=gR n l o a s;have h:b[N]? =some (Sx.mN q R S m (some (t,v))):=by grind [zQ]
 have c:N<b.length:=(zes.1 h).1;obtain ⟨j,w⟩:=r.mback (f:=ff) N b.length (S2:=k) (N7 (Nat.ne_of_lt c)) (by rw [ye c,h]) (by simp) e z p
 grind [rP,kU]
theorem FK{e:Type}{g:Rp e}{ff:Option α->e}(l:gz L O []=some b)(r:nth b N=some (Sx.mN q R S m (some (t,v))))(n:qK ks Fs L g js [v] (ff (ja m t)))
  (d:∀V i S x,g.own V i S (ff (some x))->R.own V i S x) (o:zT (js++O)=true) (a:bO w0 Z Fs) (s:St w0 Z V L):∃j,St w0 Z V (b.set N (Sx.mN q R j m none)):=by
 obtain ⟨k,p⟩:=gR n l o a s;have h:b[N]? =some (Sx.mN q R S m (some (t,v))):=by grind [zQ]
 have c:N<b.length:=(zes.1 h).1;obtain ⟨j,u⟩:=p.mback0 (f:=ff) N b.length (S2:=k) (N7 (Nat.ne_of_lt c)) (by rw [ye c,h]) (by simp) d
 grind [rP,kU]
theorem Adm.mb0(f:gz L O []=some b)(g:nth b N=some (Sx.mN q (vu U A) S m (some (t,v))))(i:qK ks Fs L (BL U A) js [v'] W)
  (c:KR v' v) (d:KR W (ja m t)) (j:KR (zT (js++O)) true) (k:∀e,dx b N (Sx.mN q (vu U A) e m none)=some (F e)):Adm (.mb0 N O ks) Fs L F (λ_=>Fs):=⟨λw0 Z w a s=>by
 have c:=c.h;have d:=d.h;subst c d;obtain ⟨e,l⟩:=FK (ff:=λo=>o) f g i (λ_ _ _ _ h=>h) j.h a s
 grind [qJ]⟩
theorem Adm.mb0r{c:∀x,(z x).length=sz}{d:0<sz}(i:gz L O []=some b)(j:nth b N=some (Sx.mN q (nF T z sz c d) S J (some (t,v))))(k:qK ks Fs L (nF T z sz c d) js [v'] xs)
  (e:KR v' v) (f:KR xs ((ja J t).getD [])) (l:KR (zT (js++O)) true) (m:∀g,dx b N (Sx.mN q (nF T z sz c d) g J none)=some (F g)):Adm (.mbr N O ks) Fs L F (λ_=>Fs):=⟨λw0 Z w a s=>by
 have e:=e.h;have f:=f.h;subst e f;obtain ⟨g,n⟩:=FK (ff:=λo=>o.getD []) i j k (λ_ _ _ _ h=>h) l.h a s
 grind [qJ]⟩
theorem Adm.mb(e:gz L O []=some b)(f:nth b N=some (Sx.mN q (vu U A) S m (some (t,v))))(g:qK ks Fs L (BL U A) js [v'] (some y))
  (c:KR v' v) (i:KR (zT (js++O)) true) (j:∀d,dx b N (Sx.mN q (vu U A) d (wn m t y) none)=some (F d)):Adm (.mb N O ks) Fs L F (λ_=>Fs):=⟨λw0 Z w a s=>by
 have c:=c.h;subst c;obtain ⟨d,k⟩:=D0 (ff:=λo=>o) e f g (λ_ _ _ _ h=>h) i.h y (λ_=>rfl) a s
 grind [qJ]⟩
theorem Adm.mbf(f:nth Fs e=some (.oe o u))(g:gz L O []=some b)(i:nth b N=some (Sx.mN q (vu U A) S m (some (t,v))))(j:qK ks Fs L (BL U A) js [v'] (some y))
  (c:KR v' v) (ho:KR o (ja m t)) (k:KR u y) (l:KR (zT (js++O)) true) (r:∀d,dx b N (Sx.mN q (vu U A) d m none)=some (F d)):Adm (.mbf N e O ks) Fs L F (λ_=>Fs):=⟨λw0 Z w a s=>by
 have c:=c.h;subst c;have n:o=some u:=zD a f;obtain ⟨d,p⟩:=D0 (ff:=λo=>o) g i j (λ_ _ _ _ h=>h) l.h y (λ_=>rfl) a s;rw [wc (by rw [<- ho.h,n,k.h])] at p
 grind [qJ]⟩
theorem Adm.mbp(f:gz L O []=some b)(g:nth b N=some (Sx.mN q (vu U A) S (mput m kk' u) (some (t,v))))(i:qK ks Fs L (BL U A) js [v'] (some y))
  (c:KR v' v) (ho:KR kk' t) (d:KR u y) (j:KR (zT (js++O)) true) (k:∀e,dx b N (Sx.mN q (vu U A) e (mput m kk' u) none)=some (F e)):Adm (.mbp N O ks) Fs L F (λ_=>Fs):=⟨λw0 Z w a s=>by
 have c:=c.h;have ho:=ho.h;have d:=d.h;subst c ho d;obtain ⟨e,l⟩:=D0 (ff:=λo=>o) f g i (λ_ _ _ _ h=>h) j.h u (λ_=>rfl) a s
 grind [wc,BA,qJ]⟩
theorem GO.fO(d:nth L j=some (itI (BL U R) [v] S o))(e:∀y,dx L j (itI (vu U R) [v] S y)=some (Y y))(f:∀y,vl Fs (.oe o y)=some (Fs1 y))(n:∀y b,v=.pointer (some ⟨b,0,none⟩)->GO p (X y) r (Fs1 y) (Y y) c P B N w0 Z l i Q):GO (.fO j::p) (o.bind X) r Fs L c P B N w0 Z l i Q:=⟨λw a s q=>by
 obtain ⟨y,h,g⟩:=zI q;obtain ⟨k,b,m⟩:=FI d (e y) s h;exact (n y b m).o w (jw (F:=.oe o y) a h (f y)) k g⟩
theorem GS.fO(d:nth L j=some (itI (BL U R) [v] S o))(e:∀y,dx L j (itI (vu U R) [v] S y)=some (Y y))(f:∀y,vl Fs (.oe o y)=some (Fs1 y))(n:∀y b,v=.pointer (some ⟨b,0,none⟩)->GS p (X y) r (Fs1 y) (Y y) c P B N w0 Z l i sz g Q):GS (.fO j::p) (o.bind X) r Fs L c P B N w0 Z l i sz g Q:=⟨λw a s q=>by
 obtain ⟨y,h,k⟩:=zI q;obtain ⟨m,b,t⟩:=FI d (e y) s h;exact (n y b t).o w (jw (F:=.oe o y) a h (f y)) m k⟩
theorem GP.fO(d:nth L j=some (itI (BL U R) [v] S o))(e:∀y,dx L j (itI (vu U R) [v] S y)=some (Y y))(f:∀y,vl Fs (.oe o y)=some (Fs1 y))(n:∀y b,v=.pointer (some ⟨b,0,none⟩)->GP p (X y) r (Fs1 y) (Y y) c P B N w0 Z l js O pd Q):GP (.fO j::p) (o.bind X) r Fs L c P B N w0 Z l js O pd Q:=⟨λw a s q=>by
 obtain ⟨y,h,g⟩:=zI q;obtain ⟨i,b,k⟩:=FI d (e y) s h;exact (n y b k).o w (jw (F:=.oe o y) a h (f y)) i g⟩
end Go.Sx
namespace Go.Proofs
open Go.Shelf
def Tryz.lays189_ren:Go.Shelf.Ren:=⟨λ|189=>126|125=>161|257=>160|128=>191|129=>192|294=>182|295=>183|296=>184|297=>185|298=>186|299=>187|216=>188|300=>189|301=>190|328=>200|329=>201|330=>202|331=>203|332=>204|215=>205|343=>222|n=>n,λ|28=>26|3=>3|46=>150|0=>0|51=>351|53=>44|4=>4|183=>344|182=>343|131=>39|5=>5|9=>9|218=>359|222=>363|228=>395|229=>264|n=>n,λ|n=>n⟩
theorem Tryz.lays189:Go.Proofs.Lays.n189 Tryz.prog Tryz.lays189_ren:={
 mixed:=by kernel_rfl
 f125:=Tryz.func161.trans (congrArg some (by kernel_rfl))
 f128:=Tryz.func191.trans (congrArg some (by kernel_rfl))
 f129:=Tryz.func192.trans (congrArg some (by kernel_rfl))
 f189:=Tryz.func126.trans (congrArg some (by kernel_rfl))
 f215:=Tryz.func205.trans (congrArg some (by kernel_rfl))
 f216:=Tryz.func188.trans (congrArg some (by kernel_rfl))
 f257:=Tryz.func160.trans (congrArg some (by kernel_rfl))
 f294:=Tryz.func182.trans (congrArg some (by kernel_rfl))
 f295:=Tryz.func183.trans (congrArg some (by kernel_rfl))
 f296:=Tryz.func184.trans (congrArg some (by kernel_rfl))
 f297:=Tryz.func185.trans (congrArg some (by kernel_rfl))
 f298:=Tryz.func186.trans (congrArg some (by kernel_rfl))
 f299:=Tryz.func187.trans (congrArg some (by kernel_rfl))
 f300:=Tryz.func189.trans (congrArg some (by kernel_rfl))
 f301:=Tryz.func190.trans (congrArg some (by kernel_rfl))
 f328:=Tryz.func200.trans (congrArg some (by kernel_rfl))
 f329:=Tryz.func201.trans (congrArg some (by kernel_rfl))
 f330:=Tryz.func202.trans (congrArg some (by kernel_rfl))
 f331:=Tryz.func203.trans (congrArg some (by kernel_rfl))
 f332:=Tryz.func204.trans (congrArg some (by kernel_rfl))
 f343:=Tryz.func222.trans (congrArg some (by kernel_rfl))
 t0:=Tryz.underlying0
 a0:=Tryz.isAgg0
 z0:=Tryz.sizeOf0
 v0:=Tryz.zeroValue0
 t3:=Tryz.underlying3
 a3:=Tryz.isAgg3
 z3:=Tryz.sizeOf3
 v3:=Tryz.zeroValue3
 t4:=Tryz.underlying4
 a4:=Tryz.isAgg4
 z4:=Tryz.sizeOf4
 v4:=Tryz.zeroValue4
 t5:=Tryz.underlying5
 a5:=Tryz.isAgg5
 z5:=Tryz.sizeOf5
 v5:=Tryz.zeroValue5
 t9:=Tryz.underlying9
 a9:=Tryz.isAgg9
 z9:=Tryz.sizeOf9
 v9:=Tryz.zeroValue9
 t28:=Tryz.underlying26
 a28:=Tryz.isAgg26
 z28:=Tryz.sizeOf26
 v28:=Tryz.zeroValue26
 t46:=Tryz.underlying150
 a46:=Tryz.isAgg150
 z46:=Tryz.sizeOf150
 v46:=Tryz.zeroValue150
 t51:=Tryz.underlying351
 a51:=Tryz.isAgg351
 z51:=Tryz.sizeOf351
 v51:=Tryz.zeroValue351
 t53:=Tryz.underlying44
 a53:=Tryz.isAgg44
 z53:=Tryz.sizeOf44
 v53:=Tryz.zeroValue44
 t131:=Tryz.underlying39
 a131:=Tryz.isAgg39
 z131:=Tryz.sizeOf39
 v131:=Tryz.zeroValue39
 t182:=Tryz.underlying343
 a182:=Tryz.isAgg343
 z182:=Tryz.sizeOf343
 v182:=Tryz.zeroValue343
 t183:=Tryz.underlying344
 a183:=Tryz.isAgg344
 z183:=Tryz.sizeOf344
 v183:=Tryz.zeroValue344
 t218:=Tryz.underlying359
 a218:=Tryz.isAgg359
 z218:=Tryz.sizeOf359
 v218:=Tryz.zeroValue359
 t222:=Tryz.underlying363
 a222:=Tryz.isAgg363
 z222:=Tryz.sizeOf363
 v222:=Tryz.zeroValue363
 t228:=Tryz.underlying395
 a228:=Tryz.isAgg395
 z228:=Tryz.sizeOf395
 v228:=Tryz.zeroValue395
 t229:=Tryz.underlying264
 a229:=Tryz.isAgg264
 z229:=Tryz.sizeOf264
 v229:=Tryz.zeroValue264}
open Go.Sort Go.RowKit in
theorem Tryz.slices_Sort_int(b off cap:Nat)(zs:List Int)(w:World)(c:Holds (Value.int .i64) w b off zs.toArray)(h:b<w.heap.size)(a:zs.length<4611686018427387904):
  Calls Tryz.prog 126 #[.slice (some ⟨b,off,none⟩) zs.length cap] w λe d=>
   e=.returned (.tuple #[])/\∃n os,d=grow (putRow (Value.int .i64) (Sort.ahead w n) b off (zs.mergeSort λx y=>decide (x<=y)).toArray) os:=Any.slices_Sort_int Tryz.lays189 b off cap zs w c h a
open Go.RowKit Go.Lib in
open Go.RowKit Go.Sort in
theorem Tryz.slices_Sort_int_none(p:Option Addr)(cap:Nat)(w:World):
 Calls Tryz.prog 126 #[.slice p 0 cap] w λe a=>e=.returned (.tuple #[])/\a=w:=Any.slices_Sort_int_none Tryz.lays189 p cap w
end Go.Proofs
namespace Go.Sx
open Go.RowKit Go.Sort
variable {Fs Fin:List Fa}{F β ι ρ γ κ:Type}{L L1 Lq Lin Bq:List Item}{q sz N i j n e c q' m k2:Nat}{T U b6 ty:TypeId}{x z:F}{w0 w wb:World}{Z S ks Sb S0 js eff Sp:List Nat}{xs t k:List F}{P:Program}{B c2 B0:Func}{p fr':Fr}{v v' u:Value}{l:List Oper}{enc:β->List Value}{R:Rp F}{hs:List H}{Q:Exit->Act->World->Prop}{r:ρ}{f:Option ρ}{a:Option Addr}{A:Rp β}{vs:ι->β->List Value}{src:List Src}{fcs:ι->β->List Fa}{b:F->Nat->Nat->ι->List Fa}{o:Option F}{pd:List (Nat×Pn)}{G:Rp γ}{vs2:κ->γ->List Value}{s:κ->γ->List Fa}{ff:γ->List Value->List Value}{d:List (Nat×Value)}{E:Oper}{I y:Operand}{J:Int}{kd:IntKind}{K:Value->Rp β}{O:Nat->ι->β->List Value}{its:Nat->ι->β->List Item}{V:Nat->ι->β->List Fa}{W:List Value}{X:List β}{Y:List Pa}{y2 y1:β}{a0 it':Item}{g:F->List Value}{a3:Value->ι->β->List Value}{a4:Value->ι->β->List Fa}{C:Value->Rp F}{a5:γ->β}{a6:ι->List Fa}{a7:ι->F->List Value}{a8:ι->F->List Fa}{a9:F->Option ρ}{h h0:AH}{b0:List AH}{b3:World->Prop}{b4 b2:Bool}{b5:List Nat->List Item}{b7:String}{b8:Array Edge}{gdd:Option (Nat×Bool)}{L0 c0:World×List Nat×List Nat->List Item}{c3 h':Option (Nat×List Value)}{need:Fa}{c4:Code}{c5:Exit}{c6:LH}{c7 R':Ending->World->Prop}{c8:Nat->β}{D:World->List Nat->F->List Value->Prop}{M:List (List Value)}{Ss:List (List Nat)}{c9:FuncId}{d0:World->List Nat->ρ->Ending->World->Prop}
theorem Di{F:Type}{enc:F->List Value}{sz:Nat}(a:∀x,(enc x).length=sz):∀{xs:List F} {t:Nat} {u:F},xs[t]? =some u->((jO enc xs).drop (t*sz)).take sz=enc u
 |[],t,u,h=>by simp at h
 |x::r,0,u,h=>by
  simp at h;subst h;simp only [jO,Nat.zero_mul,List.drop_zero];rw [Tx (by rw [a];omega),s9 (by rw [a];omega)]
 |x::r,t+1,u,h=>by
  have:=Di a (xs:=r) (t:=t) (u:=u) (by simpa using h);simp only [jO]
  have e:(enc x++jO enc r).drop ((t+1)*sz)=(jO enc r).drop (t*sz):=by
   rw [show (t+1)*sz=sz+t*sz by rw [w8];omega,<- y4,List.drop_left' (a x)]
  rw [e];exact this
theorem MK{F:Type}{enc:F->List Value}{xs:List F}{sz:Nat}{u:F}(c:E.op=.index i I y)(f:look d I=some (.agg (jO enc xs).toArray))(g:look d y=some (.int kd J))
  (j:P.underlying i=some (.array n e)) (hs:ax P (sizeOf e)=some sz) (k:ax P (isAgg e)=some true) (l:∀I,(enc I).length=sz) (s:xs.length=n) (h:idx xs J=some u):
  ∀a w,Rep N d a->(execOp a.eval E).run P w=.ok (.value (.agg (enc u).toArray)) w:=by
 intro a w b;have m:=b.look f;have o:=b.look g;unfold idx at h;split at h
 case isFalse=>cases h
 rename_i h0
 have p:=(zes.1 h).1;have q:J<(n:Int):=by omega
 have:=Di l h
 have r:(jO enc xs).toArray.extract (J.toNat*sz) (J.toNat*sz+sz)=(enc u).toArray:=by
  rw [<- this];simp [List.take_drop]
 simp [execOp,c,Instr.index,m,o,asIntOf,run_underlying j,h0,q,part,qV hs,qV k,r];exact this
open Go.RowKit
def bytesOf(s:ByteArray):List Int:=s.data.toList.map λb=>(b.toNat:Int)
open Go.RowKit
open Go.RowKit
theorem jl.len:jl [9] q Fs (Nk β) (λ(i:Option Addr×Nat)y=>[.slice i.1 y.length i.2]) (λi y=>[itI (Nk β) [.slice i.1 y.length i.2] [] y]) (λ_ _=>[]):=⟨by
 rintro w0 Z w b S y a ⟨rfl,p,c,rfl⟩;exact ⟨(p,c),rfl,vL.single (it:=itI (Nk β) [.slice p y.length c] [] y) ⟨rfl,p,c,rfl⟩ o5 rfl,trivial⟩⟩
theorem jl.gho{γ:Type}{G:Rp γ}{f:∀v,(K v).sz=n}
  (h:∀b:Nat,jl ks q Fs (K (.pointer (some ⟨b,0,none⟩))) (O b) (its b) (V b)):
  jl (10::ks) q Fs (Oi (vu U G) K n f) (λ(i:Nat×List Nat×ι)y=>O i.1 i.2.2 y.2) (λi y=>itI (vu U G) [.pointer (some ⟨i.1,0,none⟩)] i.2.1 y.1::its i.1 i.2.2 y.2) (λi y=>V i.1 i.2.2 y.2):=⟨by
 rintro w0 Z w t S y a ⟨u,g,x,rfl,j,c,k⟩;have l:=(vu U G).nd w _ g y.1 c;have d:=c;obtain ⟨b,m,e,p,rfl,z⟩:=d;obtain rfl:u=.pointer (some ⟨b,0,none⟩):=by simpa using p
 obtain ⟨i,rfl,r,s⟩:=(h b).o w0 Z w _ _ _ a k;exact ⟨(b,b::e,i),rfl,(vL.single (it:=itI (vu U G) [.pointer (some ⟨b,0,none⟩)] (b::e) y.1) c l rfl).app r j,s⟩⟩
theorem jl.rdn{β:Type}{R:Rp β}{b:0<R.sz}(d:nth Fs q=some (.bo wb Sb)):
  jl [11] q Fs (rdP (lO T R b) wb Sb) (λ(i:Option Addr×Nat)y=>[.slice i.1 y.length i.2]) (λ_ _=>[]) (λi y=>[.rbn wb Sb (.slice i.1 y.length i.2) R y,.rn (.slice i.1 y.length i.2) R y]):=⟨by
 rintro w0 Z w e S y a ⟨rfl,v,rfl,h⟩;obtain ⟨_,p,c,rfl⟩:=RdN.len h;exact ⟨(p,c),rfl,vL.nil,h,h.bor b (zD a d),trivial⟩⟩
theorem qK.len(b:nth L j=some (jL sz T W))(d:nth W q=some (.slice a X.length c)):qK [.ln j q] Fs L (Nk β) [] [.slice a X.length c] X:=⟨λw0 Z w e s h=>⟨[],⟨rfl,a,c,rfl⟩,o5,by simp⟩⟩
theorem qK.rdn{β:Type}{R:Rp β}{h:0<R.sz}{xs:List β}(b:nth Fs e=some (.rbn wb Sb v R xs)):qK [.f e] Fs L (rdP (lO T R h) wb Sb) [] [v] xs:=⟨λw0 Z w c a s=>
 ⟨[],⟨rfl,v,rfl,zD a b⟩,o5,by simp⟩⟩
theorem qK.gho{γ:Type}{G:Rp γ}{k:∀v,(K v).sz=n}{y1:γ}(l:nth L j=some (itI G [u] S y1))(h:qK Y Fs L (K u) js W y2):
  qK (.g j::Y) Fs L (Oi G K n k) (j::js) W (y1,y2):=⟨λw0 Z w m a s=>by
 have c:zT ([j]++js)=true:=m;obtain ⟨d,p,q,r⟩:=(qK.it (Fs:=Fs) (A:=G) l).o w0 Z w (dL c) a s;obtain ⟨f,t,x,y⟩:=h.o w0 Z w (mI c) a s;have z:∀b∈d,b∉f:=λb i B=>tB s c b (r b i) (y b B)
 refine ⟨d++f,⟨u,d,f,rfl,z,p,t⟩,k6.2 ⟨q,x,λa C b i e=>by grind⟩,λb i=> ?_⟩
 grind [fp,sel,Ap,IC]⟩
theorem Giv.po(c:nth L j=some (td wb Sp))(b:KR (mem? j js) false)(n:Giv src Fs L js Fin):Giv (.po j::src) Fs L js (.bo wb (coS wb Sp)::Fin):=
 ⟨λw0 Z w a s=>⟨s.pool j (by grind [zQ]) js b.h,n.g w0 Z w a s⟩⟩
theorem St.alter(s:St w0 Z w L)(j:Nat)(d:L[j]? =some a0)(h:it'.Φ w)(g:it'.S=a0.S):St w0 Z w (L.set j it'):=by
 have i:=(zes.1 d).1
 have k:∀(m:Nat)(x:Item),(L.set j it')[m]? =some x->(m=j/\x=it')\/L[m]? =some x:=λm x a=>by
  grind
 refine s.repart (λm x a=> ?_) (λm n x y e a l b c o=> ?_)
 ·rcases k m x a with ⟨rfl,rfl⟩|a
  ·exact ⟨h,by rw [g];exact s.nd _ a0 d,λb c=>vG.2 ⟨_,a0,d,by rw [<- g];exact c⟩⟩
  ·exact ⟨s.all m x a,s.nd m x a,λb c=>vG.2 ⟨m,x,a,c⟩⟩
 ·have f:∀(m:Nat)(x:Item),(L.set j it')[m]? =some x->∃y,L[m]? =some y/\y.S=x.S:=λm x a=>by
   grind
  obtain ⟨p,q,r⟩:=f m x a;obtain ⟨t,u,v⟩:=f n y l;exact s.apart m n p t e q u b (by rw [r];exact c) (by rw [v];exact o)
theorem Li(e:nth L j=some (itI (Lm T g) [u] S o))(s:St w0 Z w L)(a:o=some x):∃b A C,u=.pointer (some ⟨b,A.length,none⟩)/\St w0 Z w (L.set j (dv b T A (g x) C)):=by
 subst a;have h:L[j]? =some (itI (Lm T g) [u] S (some x)):=by grind [zQ]
 obtain ⟨b,A,C,c,f,d⟩:=s.all j _ h;exact ⟨b,A,C,by simpa using c,s.alter j h d (by grind [itI,dv,jL])⟩
theorem qK.prn{β:Type}{enc:β->List Value}:qK [.on] Fs L (Lm T enc) [] [.pointer none] none:=⟨λw0 Z w h a s=>⟨[],⟨rfl,rfl⟩,o5,by simp⟩⟩
theorem qK.pb{β:Type}{enc:β->List Value}{x:β}(a:nth L j=some (jL q T W))(b:KR (W.take sz).length sz)(hs:KR W (W.take sz++(enc x++W.drop (sz+n)))):qK [.pb j sz n] Fs L (Lm T enc) [j] [.pointer (some ⟨q,sz,none⟩)] (some x):=
 qK.item a λw c=>⟨q,W.take sz,W.drop (sz+n),by rw [b.h],rfl,by rw [<- hs.h];exact c⟩
open Go.RowKit
structure aF {β ι:Type} (ks:List Nat) (q:Nat) (Fs:List Fa) (A:Rp β) (vs:ι->β->List Value) (fcs:ι->β->List Fa):Prop where
 o:∀w0 Z cs y,bO w0 Z Fs->A.rd w0 Z y cs->∃i,cs=vs i y/\bO w0 Z (fcs i y)
structure mL {β ι:Type} (ks:List Nat) (q:Nat) (Fs:List Fa) (wb:World) (Sb:List Nat) (A:Rp β) (vs:ι->β->List Value) (fcs:ι->β->List Fa):Prop where
 o:∀w0 Z cs y,bO w0 Z Fs->A.rd wb Sb y cs->∃i,cs=vs i y/\bO w0 Z (fcs i y)
theorem aF.row{b:∀x,(enc x).length=sz}{d:0<sz}:
  aF [1] q Fs (nF T enc sz b d) (λ(i:Option Addr×Nat)y=>[.slice i.1 y.length i.2]) (λi y=>[.rd (.slice i.1 y.length i.2) enc sz y]):=⟨by
 rintro w Z e y a ⟨v,rfl,h⟩;obtain ⟨_,a,c,rfl⟩:=Rd.len h;exact ⟨(a,c),rfl,h,trivial⟩⟩
theorem aF.nrow{β:Type}{R:Rp β}{b:0<R.sz}:
  aF [2] q Fs (lO T R b) (λ(i:Option Addr×Nat)y=>[.slice i.1 y.length i.2]) (λi y=>[.rn (.slice i.1 y.length i.2) R y]):=⟨by
 rintro w Z d y a ⟨v,rfl,h⟩;obtain ⟨_,a,c,rfl⟩:=RdN.len h;exact ⟨(a,c),rfl,h,trivial⟩⟩
theorem aF.any{β:Type}{A:Rp β}(b:KR A.sz 1):aF [4] q Fs A (λ(i:Value)_=>[i]) (λi y=>[.ri i A y]):=⟨by
 intro w Z c y a h;have hl:=A.rlen _ _ _ _ h;rw [b.h] at hl
 match c,hl,h with
 |[v],_,h=>exact ⟨v,rfl,h,trivial⟩⟩
theorem aF.ptr:aF [5] q Fs (vu U A) (λ(i:Nat)_=>[.pointer (some ⟨i,0,none⟩)]) (λi y=>[.ri (.pointer (some ⟨i,0,none⟩)) (vu U A) y]):=⟨by
 rintro w Z d y a ⟨b,c,rfl,h⟩;exact ⟨b,rfl,⟨b,c,rfl,h⟩,trivial⟩⟩
theorem aF.bor(b:nth Fs q=some (.bo wb Sb)):
  aF [6] q Fs (Ix wb Sb enc sz) (λ(i:Option Addr×Nat)y=>[.slice i.1 y.length i.2]) (λi y=>[.rb wb Sb (.slice i.1 y.length i.2) enc sz y,.rd (.slice i.1 y.length i.2) enc sz y]):=⟨by
 rintro w0 Z d y a ⟨v,rfl,h⟩;obtain ⟨_,p,c,rfl⟩:=Rd.len h;exact ⟨(p,c),rfl,h,h.bor (zD a b),trivial⟩⟩
theorem aF.rdn{β:Type}{R:Rp β}{b:0<R.sz}(d:nth Fs q=some (.bo wb Sb)):
  aF [7] q Fs (rdP (lO T R b) wb Sb) (λ(i:Option Addr×Nat)y=>[.slice i.1 y.length i.2]) (λi y=>[.rbn wb Sb (.slice i.1 y.length i.2) R y,.rn (.slice i.1 y.length i.2) R y]):=⟨by
 rintro w0 Z e y a ⟨v,rfl,h⟩;obtain ⟨_,p,c,rfl⟩:=RdN.len h;exact ⟨(p,c),rfl,h,h.bor b (zD a d),trivial⟩⟩
theorem aF.len:aF [8] q Fs (Nk β) (λ(i:Option Addr×Nat)y=>[.slice i.1 y.length i.2]) (λ_ _=>[]):=⟨by
 rintro w0 Z b y a ⟨p,c,rfl⟩;exact ⟨(p,c),rfl,trivial⟩⟩
theorem aF.gho{γ:Type}{G:Rp γ}{b:∀v,(K v).sz=n}(h:∀u,aF ks q Fs (K u) (a3 u) (a4 u)):
  aF (10::ks) q Fs (Oi G K n b) (λ(i:Value×ι)y=>a3 i.1 i.2 y.2) (λi y=>.ri i.1 G y.1::a4 i.1 i.2 y.2):=⟨by
 rintro w0 Z e y a ⟨u,c,d⟩;obtain ⟨i,rfl,f⟩:=(h u).o w0 Z _ _ a d;exact ⟨(u,i),rfl,c,f⟩⟩
theorem aF.dep{β:Type}{A:Rp β}{e:∀v,(C v).sz=n}(j:KR A.sz 1)(k:KR G.sz 1)(m:KR n 1):
  aF [11] q Fs (RK A G C n e) (λ(i:Value×Value×Value)_=>[i.1,i.2.1,i.2.2]) (λi y=>[.ri i.1 A y.1,.ri i.2.1 G y.2.1,.ri i.2.2 (C i.1) y.2.2]):=⟨by
 rintro w0 Z t y a ⟨v1,⟨p,c2,rfl,o,c3,c4,rfl,b,c⟩,d⟩;have l:=A.rlen _ _ _ _ o;have f:=G.rlen _ _ _ _ b;have g:=(C v1).rlen _ _ _ _ c;rw [j.h] at l;rw [k.h] at f;rw [e,m.h] at g
 match p,l,c3,f,c4,g,o,b,c,d with
 |[u],_,[r],_,[s],_,o,b,c,d=>
  have:v1=u:=by simpa using d.symm
  subst this;exact ⟨(v1,r,s),rfl,o,b,c,trivial⟩⟩
theorem aF.pair
  (h:aF [sz] q Fs A vs fcs) (b:aF (k2::ks) q Fs G vs2 s):aF (sz::k2::ks) q Fs (jo A G) (λ(i:ι×κ)y=>vs i.1 y.1++vs2 i.2 y.2) (λi y=>fcs i.1 y.1++s i.2 y.2):=⟨by
 rintro w Z g y a ⟨k,c2,rfl,c,d⟩;obtain ⟨i,rfl,f⟩:=h.o w Z _ _ a c;obtain ⟨j,rfl,e⟩:=b.o w Z _ _ a d;exact ⟨(i,j),rfl,Nb w Z f e⟩⟩
theorem aF.st{hl:∀x vs,(ff x vs).length=sz}(h:aF ks q Fs A vs fcs):
  aF (3::ks) q Fs (qv ff sz hl a5 A) (λ(i:ι)x=>ff x (vs i (a5 x))) (λi x=>fcs i (a5 x)):=⟨by
 rintro w Z c x a ⟨u,rfl,b⟩;obtain ⟨i,rfl,f⟩:=h.o w Z _ _ a b;exact ⟨i,rfl,f⟩⟩
theorem mL.row{b:∀x,(enc x).length=sz}{d:0<sz}(e:nth Fs q=some (.bo wb Sb)):
  mL [1] q Fs wb Sb (nF T enc sz b d) (λ(i:Option Addr×Nat)y=>[.slice i.1 y.length i.2]) (λi y=>[.rb wb Sb (.slice i.1 y.length i.2) enc sz y,.rd (.slice i.1 y.length i.2) enc sz y]):=⟨by
 rintro w0 Z f y a ⟨v,rfl,h⟩;obtain ⟨_,p,c,rfl⟩:=Rd.len h;exact ⟨(p,c),rfl,h,h.bor (zD a e),trivial⟩⟩
theorem mL.pair
  (h:mL [sz] q Fs wb Sb A vs fcs) (b:mL (k2::ks) q Fs wb Sb G vs2 s):mL (sz::k2::ks) q Fs wb Sb (jo A G) (λ(i:ι×κ)y=>vs i.1 y.1++vs2 i.2 y.2) (λi y=>fcs i.1 y.1++s i.2 y.2):=⟨by
 rintro w Z g y a ⟨k,c2,rfl,c,d⟩;obtain ⟨i,rfl,f⟩:=h.o w Z _ _ a c;obtain ⟨j,rfl,e⟩:=b.o w Z _ _ a d;exact ⟨(i,j),rfl,Nb w Z f e⟩⟩
theorem mL.st{hl:∀x vs,(ff x vs).length=sz}(h:mL ks q Fs wb Sb A vs fcs):
  mL (3::ks) q Fs wb Sb (qv ff sz hl a5 A) (λ(i:ι)x=>ff x (vs i (a5 x))) (λi x=>fcs i (a5 x)):=⟨by
 rintro w Z c x a ⟨u,rfl,b⟩;obtain ⟨i,rfl,f⟩:=h.o w Z _ _ a b;exact ⟨i,rfl,f⟩⟩
theorem uf(a:q∉Z)(h:w.heap[q]? =some (.cells W.toArray T (0,0))):RdB w Z q W:=⟨a,λk u b=>by
 rw [cell_of_row w q k W.toArray T (0,0) h]
 simpa using b⟩
theorem Adm.oi{F:Type}{ff:F->List Value->List Value}{hl:∀x vs,(ff x vs).length=sz}{g:F->β}{x:F}
  (h:nth Fs e=some (.ri (.pointer (some ⟨N,0,none⟩)) (vu T (qv ff sz hl g A)) x)) (b:aF ks q Fs A vs fcs) (c:∀i,mB Fs (.pb N (ff x (vs i (g x)))::fcs i (g x))=some (a6 i)):
  Adm (.oi e q (3::ks)) Fs L (λ_:ι=>L) a6:=⟨λw0 Z w a s=>by
 obtain ⟨n,d,j,k,l,u,rfl,m⟩:(vu T (qv ff sz hl g A)).rd w0 Z x [.pointer (some ⟨N,0,none⟩)]:=zD a h;cases j;obtain ⟨i,rfl,f⟩:=b.o w0 Z _ _ a m;exact ⟨i,s,mG (c i) a ⟨uf k l,f⟩⟩⟩
theorem Adm.oi0{h:∀x,(g x).length=sz}
  (d:nth Fs e=some (.ri (.pointer (some ⟨N,0,none⟩)) (vu T (tu g sz h)) x)) (f:vl Fs (.pb N (g x))=some Fin):Adm (.oi e q [0]) Fs L (λ_:Unit=>L) (λ_=>Fin):=⟨λw0 Z w a s=>by
 obtain ⟨l,c,i,j,k,b⟩:(vu T (tu g sz h)).rd w0 Z x [.pointer (some ⟨N,0,none⟩)]:=zD a d;cases i;have b:c=g x:=b;subst b;exact ⟨(),s,jw (F:=.pb N (g x)) a (uf j k) f⟩⟩
theorem Qp(d:nth Fs e=some (.rn v' R xs))(f:aF ks q' Fs R a7 a8)
  (i:∀x g o q,mB Fs (.el v' g o J xs x::.ce g (o+J.toNat*R.sz) (a7 q x)::a8 q x)=some (b x g o q)) (a:bO w0 Z Fs) (h:idx xs J=some x):∃g o q,bO w0 Z (b x g o q):=by
 have j:RdN w0 Z v' R.rd R.sz xs:=zD a d;obtain ⟨g,o,c,t,l,m,n⟩:=j.formv h;obtain ⟨q,rfl,p⟩:=f.o w0 Z _ _ a m;exact ⟨g,o,q,mG (i x g o q) a ⟨⟨h,c,l⟩,λw L s k u r=>n k u r w L s,p⟩⟩
theorem GO.bj(h:nth Fs e=some (.rn v' R xs))(c:aF ks q' Fs R a7 a8)
  (d:∀x g o q,mB Fs (.el v' g o J xs x::.ce g (o+J.toNat*R.sz) (a7 q x)::a8 q x)=some (b x g o q)) (n:∀x g o q,GO hs (a9 x) r (b x g o q) L p P B N w0 Z l i Q):GO (.bj e q' ks::hs) ((idx xs J).bind a9) r Fs L p P B N w0 Z l i Q:=⟨λw a s q=>by
 obtain ⟨x,f,k⟩:=zI q;obtain ⟨g,o,j,m⟩:=Qp h c d a f;exact (n x g o j).o w m s k⟩
theorem GP.bj(h:nth Fs e=some (.rn v' R xs))(c:aF ks q' Fs R a7 a8)
  (d:∀x g o q,mB Fs (.el v' g o J xs x::.ce g (o+J.toNat*R.sz) (a7 q x)::a8 q x)=some (b x g o q)) (n:∀x g o q,GP hs (a9 x) r (b x g o q) L p P B N w0 Z l S eff pd Q):GP (.bj e q' ks::hs) ((idx xs J).bind a9) r Fs L p P B N w0 Z l S eff pd Q:=⟨λw a s q=>by
 obtain ⟨x,f,i⟩:=zI q;obtain ⟨g,o,j,k⟩:=Qp h c d a f;exact (n x g o j).o w k s i⟩
theorem Sf(d:nth Fs e=some (.rbn wb Sb v' R xs))(f:nth Fs q'=some (.bo wb Sb))(i:mL ks q' Fs wb Sb R a7 a8)
  (j:∀x g o q,mB Fs (.el v' g o J xs x::.ce g (o+J.toNat*R.sz) (a7 q x)::a8 q x)=some (b x g o q)) (a:bO w0 Z Fs) (h:idx xs J=some x):∃g o q,bO w0 Z (b x g o q):=by
 have l:RdN wb Sb v' R.rd R.sz xs:=zD a d;have m:Bor wb Sb w0 Z:=zD a f;obtain ⟨g,o,c,y,n,p,r⟩:=l.formB m h;obtain ⟨q,rfl,s⟩:=i.o w0 Z _ _ a p;exact ⟨g,o,q,mG (j x g o q) a ⟨⟨h,c,n⟩,λw L t k u v=>r k u v w L t,s⟩⟩
theorem GP.bl(h:nth Fs e=some (.rbn wb Sb v' R xs))(c:nth Fs q'=some (.bo wb Sb))(d:mL ks q' Fs wb Sb R a7 a8)
  (f:∀x g o q,mB Fs (.el v' g o J xs x::.ce g (o+J.toNat*R.sz) (a7 q x)::a8 q x)=some (b x g o q)) (n:∀x g o q,GP hs (a9 x) r (b x g o q) L p P B N w0 Z l S eff pd Q):GP (.bl e q' ks::hs) ((idx xs J).bind a9) r Fs L p P B N w0 Z l S eff pd Q:=⟨λw a s q=>by
 obtain ⟨x,i,k⟩:=zI q;obtain ⟨g,o,j,m⟩:=Sf h c d f a i;exact (n x g o j).o w m s k⟩
structure Nc (hs:List AH) (j:Nat) (Fs:List Fa) (L:List Item) (Q:World->Prop):Prop where
 o:∀w0 Z w,bO w0 Z Fs->St w0 Z w L->Q w
theorem Nc.nil(h:nth L j=some (itI R [v] S x)):Nc [] j Fs L (λw=>R.rd w [] x [v]):=⟨λw0 Z w a s=>R.see _ _ _ _ [] (s.all j _ (by rw [<- zQ];exact h)) (λb _=>znm)⟩
theorem Nc.cons{ι:Type}{L1:ι->List Item}{b:ι->List Fa}(c:Adm h Fs L L1 b)(n:∀q,Nc b0 j (b q) (L1 q) b3):Nc (h::b0) j Fs L b3:=⟨λw0 Z w a s=>by
 obtain ⟨q,d,e⟩:=c.o w0 Z w a s;exact (n q).o w0 Z w e d⟩
theorem Giv.sv(h:Nc b0 j Fs L (λw=>R.rd w [] x [v]))(n:Giv src Fs L [] Fin):Giv (.sv b0 j::src) Fs L [] (.ri v R x::Fin):=⟨λw0 Z w a s=>⟨h.o w0 Z w a s,n.g w0 Z w a s⟩⟩
theorem Giv.oi(f:nth L j=some (itI R [v] S x))(d:KR (mem? j js) false)(n:Giv src Fs L js Fin):Giv (.oi j::src) Fs L js (.ri v R x::Fin):=⟨λw0 Z w a s=>by
 have c:L[j]? =some (itI R [v] S x):=by grind [zQ]
 exact ⟨R.see _ _ _ _ _ (s.all j _ c) (λb e=>s.noin j c js d.h b e),n.g w0 Z w a s⟩⟩
theorem Giv.fi(f:nth Fs e=some (.ri v R x))(n:Giv src Fs L js Fin):Giv (.fi e::src) Fs L js (.ri v R x::Fin):=⟨λw0 Z w a s=>by
 have h:R.rd w0 Z x [v]:=zD a f;refine ⟨R.Vk _ _ _ _ _ _ (λb i l=>s.chg.block b i l) (λb m=> ?_) h,n.g w0 Z w a s⟩;obtain ⟨j,o,p,c⟩:=vG.1 m;obtain ⟨k,_,d⟩:=eS p;rcases xS d with d|rfl
 ·exact s.own k o d b c
 ·cases c⟩
def pnX(l:List Oper)(N:Nat)(p:Fr)(i:Nat):Option Value:=match okO l N p i with
 |some ⟨_,.binOp _ _ x _ _,_,_,_,_⟩=>look p x
 |_=>none
def pnR(P:Program)(l:List Oper)(N:Nat)(p:Fr)(i:Nat)(u:Value):Option Value:=match okO l N p i with
 |some ⟨_,.binOp op t x y _,_,_,_,_⟩=>match look p y with
  |some a=>ax P (do eqGuard op t x y u a;binOp op t u a)
  |none=>none
 |_=>none
theorem Sg{h:LH}(s:nth Fs e=some (.ri v (Lm T g) o))(c:KR (pnX l N p i) (some v))(h0:KR (pnR P l N p i (.pointer none)) (some (.bool b4)))(z:∀b k,KR (pnR P l N p i (.pointer (some ⟨b,k,none⟩))) (some (.bool b2))):
  LkV Fs p P B N w0 Z h l i (.bool (match o with|none=>b4|some _=>b2)):=by
 have c:=c.h;unfold pnX at c;split at c
 ·rename_i d op t x y D ty pos E F m
  refine LkV.of m rfl λG a w n=> ?_
  have I:=n.look c
  have key:∀u r,v=u->pnR P l N p i u=some r->(execOp a.eval ⟨d,.binOp op t x y D,ty,pos,E,F⟩).run P w=.ok (.value r) w:=by
   intro u r J f;subst J;unfold pnR at f;rw [m] at f;dsimp only at f;split at f
   ·rename_i q K
    have L:=n.look K;have M:=qV f w
    have O:(do pure (Next.value (<- (do eqGuard op t x y v q;binOp op t v q))):Sem Next).run P w=.ok (.value r) w:=by
     simp only [Sem.run_bind,M];rfl
    simp only [execOp,I,L];exact O
   ·cases f
  have j:(Lm T g).rd w0 Z o [v]:=zD G s;cases o with
  |none=>
   have j:[v]=[Value.pointer none]:=j;exact key _ _ (by simpa using j) h0.h
  |some x=>
   obtain ⟨b,A,C,Q,_⟩:=j;exact key _ _ (by simpa using Q) (z b A.length).h
 ·cases c
theorem LkV.pn{F:Type}{o:Option F}{enc:F->List Value}(a:nth Fs e=some (.ri v (Lm T enc) o))(c:KR (pnX l N p i) (some v))(h0:KR (pnR P l N p i (.pointer none)) (some (.bool false)))(d:∀b k,KR (pnR P l N p i (.pointer (some ⟨b,k,none⟩))) (some (.bool true))):
  LkV Fs p P B N w0 Z (.pn e) l i (.bool o.isSome):=by
 have:=Sg (B:=B) (h:=.pn e) (w0:=w0) (Z:=Z) a c h0 d
 grind
def swP(P:Program)(l:List Oper)(N:Nat)(p:Fr)(i:Nat):Option (Option Addr×Nat×Nat×Int×Nat):=match cpC P l N p i with
 |some (.slice a k c,some q,none,sz)=>some (a,k,c,q,sz)
 |_=>none
def swV(p:Option (Option Addr×Nat×Nat×Int×Nat))(m:Nat):Value:=match p with
 |some (a,_,c,q,sz)=>.slice (shd a c q.toNat sz) m (c-q.toNat)
 |none=>undef
def swK(p:Option (Option Addr×Nat×Nat×Int×Nat)):Option (Nat×Int):=match p with
 |some (_,k,_,q,_)=>some (k,q)
 |none=>none
theorem LkV.sw{F:Type}{xs t:List F}(e:nth Fs q=some (.oe (cut xs J ((xs.length:Nat):Int)) t))(d:KR (swK (swP P l N p i)) (some (xs.length,J))):
  LkV Fs p P B N w0 Z (.sw q) l i (swV (swP P l N p i) t.length):=by
 have d:=d.h;cases hs:swP P l N p i with
 |none=>rw [hs] at d;cases d
 |some u=>
  obtain ⟨a,k,c,q',sz⟩:=u;rw [hs] at d;simp only [swK,i6,o7] at d;obtain ⟨rfl,rfl⟩:=d;unfold swP at hs;split at hs
  ·rename_i x y z A s b
   simp only [i6,o7] at hs;obtain ⟨rfl,rfl,rfl,rfl,rfl⟩:=hs;unfold cpC at b;split at b
   ·rename_i f
    split at b
    ·rename_i g j
     split at b
     ·rename_i m
      split at b
      ·grind
      ·split at b
       ·rename_i n
        cases b
        exact LkV.of f rfl λo r w v=>gy _ rfl j rfl n (zD o e) g m r w v
       ·cases b
      ·grind
      ·cases b
     ·cases b
    ·cases b
   ·cases b
  ·cases hs
theorem FL(h:N∈(cM (.slice (shd a c q sz) m (c-q))).toList):N∈(cM (.slice a n c)).toList:=by
 cases c with
 |zero=>rw [Nat.zero_sub,eT] at h;cases h
 |succ c=>
  cases a with
  |none=>
   have:shd none (c+1) q sz=none:=by grind [shd]
   rw [this] at h;cases h
  |some a=>
   by_cases b:c+1=q
   ·rw [b,Nat.sub_self,eT] at h;cases h
   ·have e:shd (some a) (c+1) q sz=some (a.add (q*sz)):=by unfold shd;rw [d8 b];rfl
    rw [e] at h;rcases y8 (c+1-q) with h0|h0
    ·grind [eT]
    ·rw [xJ h0] at h;rw [xJ (Nat.succ_pos c)]
     have d:(a.add (q*sz)).block=a.block:=by
      obtain ⟨b0,o,s⟩:=a;unfold Addr.add
      grind
     grind
theorem St.sufN{F:Type}{R:Rp F}{xs t:List F}(f:St w0 S0 w L)(j:Nat)(A:L[j]? =some (nI T R (.slice a n c) S xs none))(E:cut xs J (xs.length:Int)=some t):
  ∃o,St w0 S0 w (L.set j (nI T R (.slice (shd a c J.toNat R.sz) t.length (c-J.toNat)) o t none)):=by
 obtain ⟨M,Ss,h⟩:=f.all j _ A;obtain ⟨h0,G,O,e⟩:=bA E;have d:t=xs.drop J.toNat:=by rw [e];simp
 have p:cut M J (M.length:Int)=some (M.drop J.toNat):=by
  have:cut M J (M.length:Int)=some ((M.take (M.length:Int).toNat).drop J.toNat):=by
   unfold cut;rw [h.lc];simp [h0,G]
  rw [this];simp
 have g:dw w T R.sz (.slice a n c) M.length (jO (fit R.sz) M):=by rw [h.lc];exact h.row
 have hs:=dw.suf (enc:=fit R.sz) (λ_=>du _ _) g p;have hl:(M.drop J.toNat).length=t.length:=by rw [d];simp [h.lc]
 have k:=h.nd;rw [h.hS] at k;obtain ⟨P,Q,U⟩:=k6.1 k
 have B:∀b∈(Ss.drop J.toNat).flatten,b∈Ss.flatten:=λb m=>by
  obtain ⟨s,q,r⟩:=j9.1 m;exact j9.2 ⟨s,List.mem_of_mem_drop q,r⟩
 have I:Ss.flatten=(Ss.take J.toNat).flatten++(Ss.drop J.toNat).flatten:=by rw [<- yx,x9]
 have u:(Ss.drop J.toNat).flatten.Nodup:=by grind
 have v:(cM (.slice (shd a c J.toNat R.sz) t.length (c-J.toNat))).toList.Nodup:=db
 have l:((cM (.slice (shd a c J.toNat R.sz) t.length (c-J.toNat))).toList++(Ss.drop J.toNat).flatten).Nodup:=
  k6.2 ⟨v,u,λx V y W K=>by grind [FL]⟩
 refine ⟨(cM (.slice (shd a c J.toNat R.sz) t.length (c-J.toNat))).toList++(Ss.drop J.toNat).flatten,?_⟩;refine f.upd j A (x8 _ _) ⟨M.drop J.toNat,Ss.drop J.toNat,?_⟩ (λb m=>.inl ?_) l
 ·refine ⟨by rw [<- hl];exact hs,hl,by rw [d];simp [h.ls],rfl,l,λ_ _ e=>(by cases e),λi N o x _ C D z=> ?_⟩;rw [d] at z;rw [TG] at C D z;exact h.own _ N o x (λ_ e=>by cases e) C D z
 ·show b∈S;rw [h.hS];have m:b∈(cM (.slice (shd a c J.toNat R.sz) t.length (c-J.toNat))).toList++(Ss.drop J.toNat).flatten:=m
  grind [FL]
theorem Adm.sfN{F:Type}{R:Rp F}{xs k t:List F}(f:nth Fs q=some (.oe (cut xs J ((xs.length:Nat):Int)) t))(g:nth L j=some (nI T R (.slice a n c) S k none))(b:KR k xs)
  (l:∀d,dx L j (nI T R (.slice (shd a c J.toNat R.sz) t.length (c-J.toNat)) d t none)=some (b5 d)):Adm (.sfN j q) Fs L b5 (λ_=>Fs):=⟨λw0 Z w i s=>by
 have e:L[j]? =some (nI T R (.slice a n c) S xs none):=by rw [<- zQ,<- b.h];exact g
 obtain ⟨d,m⟩:=s.sufN j e (zD i f)
 grind [qJ]⟩
theorem Adm.sfx(f:nth Fs q=some (.oe (cut xs J ((xs.length:Nat):Int)) t))(i:nth L j=some (qb (.slice a n c) T g sz k))(l:∀x,KR (g x).length sz)(b:KR k xs)
  (m:dx L j (qb (.slice (shd a c J.toNat sz) t.length (c-J.toNat)) T g sz t)=some L1):Adm (.sfx j q) Fs L (λ_:Unit=>L1) (λ_=>Fs):=⟨λw0 Z w e s=>by
 have d:L[j]? =some (qb (.slice a n c) T g sz xs):=by rw [<- zQ,<- b.h];exact i
 exact ⟨(),by rw [qJ m];exact s.sufRow j d (λx=>(l x).h) (zD e f),e⟩⟩
theorem Adm.ctr(f:nth Fs q=some (.oe (cut xs 0 J) t))(i:nth L j=some (qb (.slice a n c) T g sz k))(l:∀x,KR (g x).length sz)(b:KR k xs)
  (m:dx L j (qb (.slice a t.length c) T g sz t)=some L1):Adm (.ctr j q) Fs L (λ_:Unit=>L1) (λ_=>Fs):=⟨λw0 Z w e s=>by
 have d:L[j]? =some (qb (.slice a n c) T g sz xs):=by rw [<- zQ,<- b.h];exact i
 exact ⟨(),by rw [qJ m];exact s.cutRow j d (λx=>(l x).h) (zD e f),e⟩⟩
theorem GO.clr{ρ:Type}{f:Option ρ}{r:ρ}
  (v:nth Fs q=some (.oe (cut xs J ((xs.length:Nat):Int)) t)) (x:nth L j=some (qb (.slice a n c) T g sz k)) (y:∀I,KR (g I).length sz) (b:KR k xs)
  (hl:vg l i=some ⟨none,.call ⟨.builtin .clear,[I].toArray,S.toArray⟩,ty,b7,b8,gdd⟩) (A:KR (gd l p ⟨none,.call ⟨.builtin .clear,[I].toArray,S.toArray⟩,ty,b7,b8,gdd⟩) (some true))
  (C:KR (Go.Sx.look p I) (some (.slice (Go.Sx.shd a c J.toNat sz) t.length (c-J.toNat)))) (d:S[0]? =some U) (D:P.underlying U=some (.slice b6))
  (e:KR ((ax P (zeroValue b6)).map (·.cells.toList)) (some (g z))) (E:KR (eU (g z)) true)
  (M:dx L j (qb (.slice a n c) T g sz (xs.take J.toNat++List.replicate t.length z))=some L1) (F:GO hs f r Fs L1 p P B N w0 Z l (i+1) Q):GO (.clr j q z::hs) f r Fs L p P B N w0 Z l i Q:=⟨λw u s G=>by
 have m:L[j]? =some (qb (.slice a n c) T g sz xs):=by rw [<- zQ,<- b.h];exact x
 refine OW.clearR s j m (λI=>(y I).h) hl A.h (zD u v) C.h d D z e.h E.h λK O=> ?_
 exact F.o K u (by grind [qJ]) G⟩
theorem Adm.tp{F:Type}{A:Rp F}{B:World->List Nat->Rp F}{h:Cv A B}{x:F}(a:nth L j=some (itI A W S x))(d:∀p,dx L j (itI (B p.1 (coS p.1 p.2.1)) W p.2.2 x)=some (L0 p))(e:∀p,vl (L0 p) (td p.1 p.2.1)=some (c0 p)):
  Adm (.tp j h) Fs L c0 (λ_=>Fs):=⟨λw0 Z w b s=>by
 obtain ⟨wb,Sp,c,f⟩:=s.toPool h j (by rw [<- zQ];exact a)
 exact ⟨(wb,Sp,c),by grind [vS,qJ],b⟩⟩
theorem GO.nl{F:Type}{enc:F->List Value}{xs:List F}(e:nth L j=some (qb (.slice a m c) T enc sz xs))(d:KR (B3 p S) (B4 (.slice a m c) S))
  (k:dx L j (qb (.slice a xs.length c) T enc sz xs)=some L1) (n:GO hs f r Fs L1 (reh (.slice a xs.length c) S p) P B N w0 Z l i Q):GO (.nl j S::hs) f r Fs L p P B N w0 Z l i Q:=⟨λw q s g b t=>by
 have u:=s.rlen e;have d:=d.h;rw [u] at d e
 have v:L1=L:=by
  rw [qJ k];have x:L[j]? =some (qb (.slice a xs.length c) T enc sz xs):=by grind [zQ]
  apply o4
  grind
 subst v;exact n.o w q s g b (wN t d)⟩
theorem GP.fp{F:Type}{enc:F->List Value}{o:Option F}{L1:F->Nat->List Value->List Value->List Item}{k:F->Option ρ}(h:nth L j=some (itI (Lm T enc) [u] S o))(d:∀y b A C,dx L j (dv b T A (enc y) C)=some (L1 y b A C))
  (n:∀y b A C,u=.pointer (some ⟨b,A.length,none⟩)->GP hs (k y) r Fs (L1 y b A C) p P B N w0 Z l ks eff pd Q):GP (.fp j::hs) (o.bind k) r Fs L p P B N w0 Z l ks eff pd Q:=⟨λw a s e=>by
 obtain ⟨y,f,g⟩:=zI e;obtain ⟨b,c,C,i,m⟩:=Li h s f;exact (n y b c C i).o w a (by rw [qJ (d y b c C)];exact m) g⟩
theorem GQ.rI(h:c2.results= #[])(n:GO hs f r Fs L ((dst l i,.tuple #[])::p) P B N w0 Z l (i+1) Q):
 GQ (.rI::hs) f r Fs L fr' P B0 sz w0 Z .normal (bodyPost P c2 (IQ P l N Q i p B)):=⟨λw a s q=>QW.end0 h ⟨_,rfl,n.o w a s q⟩⟩
theorem Sim.nrowH(h0:Ln m q)(b:KR T U)(d:KR xs k)(f:KR c3 h')(n:Sim L L1):
 Sim (nI T R (.slice a m c) S xs c3::L) (nI U R (.slice a q c) S k h'::L1):=⟨by rw [h0.h,b.h,d.h,f.h,n.e]⟩
theorem Sim.pool(n:Sim L L1):Sim (td wb Sp::L) (td wb Sp::L1):=⟨by rw [n.e]⟩
theorem Adm.opk{ι:Type}{cells:ι->F->List Value}{its:ι->F->List Item}{fcs:ι->F->List Fa}{h:OpK R need cells its fcs}
  {L0 L1:ι->List Item} {b:ι->List Fa}
  (D:nth L j=some (itI (vu T R) [.pointer (some ⟨sz,0,none⟩)] S x)) (g:nth Fs q=some need) (k:dx L j nilI=some Lq) (l:∀i,mB Lq (jL sz T (cells i x)::its i x)=some (L0 i))
  (m:∀i,gz (L0 i) (BW j L.length L.length 0 (upto (L.length+1) (its i x).length)) []=some (L1 i)) (n:∀i,KR (zT (BW j L.length L.length 0 (upto (L.length+1) (its i x).length))) true) (p:∀i,mB Fs (fcs i x)=some (b i)):
  Adm (.opk j q h) Fs L L1 b:=⟨λw0 Z w a s=>by
 have d:L[j]? =some (itI (vu T R) [.pointer (some ⟨sz,0,none⟩)] S x):=by grind [zQ]
 have r:=s.all j _ d;obtain ⟨E,t,e,u,rfl,G,v,y⟩:=r;cases u;obtain ⟨i,rfl,z,A⟩:=h.o w0 Z w _ _ _ ⟨zD a g,trivial⟩ y;refine ⟨i,?_,by rw [bY (p i)];exact Nb w0 Z a A⟩
 have B:vL w (sz::e) (jL sz T (cells i x)::its i x):=vL.cons v (by simp [jL]) (by simp [jL]) (S2:=e) (by grind [jL]) z (λc C=>zcm _ C);have f:=s.burst j d B;rw [<- qJ k,<- bY (l i)] at f;have:=xp (m i);rw [i4] at this;rw [this];exact f.keep _ (n i).h⟩
theorem GO.here{ρ:Type}{f:Option ρ}{r:ρ}(h:GO hs f r Fs L p P B N w0 Z l i Q):GO hs f r Fs L p P B N w0 Z l i Q:=h
theorem GC.here{ρ:Type}{f:Option ρ}{r:ρ}(h:GC hs f r Fs L p P B N w0 Z c4 Q):GC hs f r Fs L p P B N w0 Z c4 Q:=h
theorem GQ.here{ρ:Type}{f:Option ρ}{r:ρ}(h:GQ hs f r Fs L p P B N w0 Z c5 Q):GQ hs f r Fs L p P B N w0 Z c5 Q:=h
theorem GS.here{ρ:Type}{f:Option ρ}{r:ρ}(h:GS hs f r Fs L p P B N w0 Z l i c b4 Q):GS hs f r Fs L p P B N w0 Z l i c b4 Q:=h
theorem GP.here{ρ:Type}{f:Option ρ}{r:ρ}(h:GP hs f r Fs L p P B N w0 Z l S eff pd Q):GP hs f r Fs L p P B N w0 Z l S eff pd Q:=h
theorem Adm.here{ι:Type}{L1:ι->List Item}{b:ι->List Fa}(h:Adm h0 Fs L L1 b):Adm h0 Fs L L1 b:=h
theorem jl.here{ι:Type}{vs:ι->β->List Value}{its:ι->β->List Item}{fcs:ι->β->List Fa}(h:jl ks q Fs A vs its fcs):jl ks q Fs A vs its fcs:=h
theorem qK.here{β:Type}{A:Rp β}{y:β}(h:qK Y Fs L A js W y):qK Y Fs L A js W y:=h
theorem LkV.here(h:LkV Fs p P B N w0 Z c6 l i v):LkV Fs p P B N w0 Z c6 l i v:=h
theorem Giv.here(h:Giv src Fs L js Fin):Giv src Fs L js Fin:=h
theorem GQ.popN{b c:Type}{x d:b}{k:b->Option c}{r:c}(h:nth Fs q=some (.po k x r))(n:GQ hs (k d) r Fs L p P B N w0 Z c5 Q):GQ (.pop q::hs) (some d) x Fs L p P B N w0 Z c5 Q:=⟨λw a s e=>by
 cases e
 exact n.o w a s (zD a h)⟩
theorem FM(h:(Ix wb Sb g sz).own w W S xs):eU W=true:=by
 obtain ⟨v,rfl,_,b⟩:=h;obtain ⟨_,a,c,rfl⟩:=Rd.len b;rfl
structure Sh {ρ ι:Type} (P:Program) (name:String) (v:Value) (args:List Value) (Fs:List Fa) (L:List Item) (f:Option ρ) (post:ρ->ι->Value×List Item):Prop where
 c:∀w r,bO w (fp L) Fs->St w (fp L) w L->f=some r->Ol P v name args w (RQ w (fp L) post r)
structure Qq {ρ ι:Type} (P:Program) (name:String) (v:Value) (args:List Value) (Fs:List Fa) (L:List Item) (f:Option ρ) (post:ρ->ι->Value×List Item):Prop where
 h:Sh P name v args Fs L f post
theorem Ol.mono(h:Ol P v b7 W w c7)(k:∀e c,c7 e c->R' e c):Ol P v b7 W w R':=by
 obtain ⟨a,b,d,f⟩:=h;exact ⟨a,b,d,f.mono k⟩
def icC(l:List Oper)(N:Nat)(p:Fr)(i:Nat):Option (Value×String×List Value):=match okO l N p i with
 |some ⟨_,.call ⟨.invoke x name,t,_⟩,_,_,_,_⟩=>match look p x,looks p t.toList with
  |some v,some u=>some (v,name,u)
  |_,_=>none
 |_=>none
theorem GO.ci{m:Type}{S:Prop}{o:Option m}{k:m->Option ρ}{post:m->ι->Value×List Item}{L1:m->ι->List Item}[C:HasC o S]
  (F:S->Qq P b7 v W Fin Lin o post) (G:gz L js []=some Lq) (I:Sim Lq Lin) (J:Giv src Fs L js Fin) (b:KR (icC l N p i) (some (v,b7,W))) (K:gz L ks []=some Bq) (M:∀x q,mB (post x q).2 Bq=some (L1 x q))
  (A:KR (zT (js++ks)) true) (n:∀x q,GO hs (k x) r Fs (L1 x q) ((dst l i,(post x q).1)::p) P B N w0 Z l (i+1) Q):GO (.ci js src ks::hs) (o.bind k) r Fs L p P B N w0 Z l i Q:=⟨λw a s q=>by
 obtain ⟨x,O,R⟩:=zI q;have b:=b.h;unfold icC at b;split at b
 ·rename_i d' x' u t j _ _ _ _ T
  split at b
  ·rename_i v' U V X
   cases b
   obtain ⟨d,hl,y,f,Y⟩:=jC T;have hde:=vv hl f;simp only at f;subst f;have z:=xp G;have D:=xp K;rw [I.e] at z;rw [i4] at z D;subst z D;refine OW.inv (ys:=t.toList) (ats:=j.toList) hl y Y V X ((F C.c).h.c w x (J.g w0 Z w a s) (s.part js (by have:=A.h;exact dL this)) O) ?_
   rintro e w' ⟨E,rfl,s'⟩;refine ⟨_,rfl,?_⟩;have h3:=(n x E).o w' a (by rw [bY (M x E)];exact s.join A.h s') R
   grind
  ·cases b
 ·cases b⟩
theorem qK.rowF{h:∀x,(enc x).length=sz}{a:0<sz}(b:nth L j=some (qb v T enc sz X)):qK [.r j] Fs L (wC T enc sz h a) [j] [v] X:=
 qK.item b λw c=>FN c
theorem qK.frz{m:∀x,(enc x).length=sz}{n:0<sz}(p:nth L j=some (MJ q enc sz X)):qK [.pr j] Fs L (wC T enc sz m n) [j] [.slice (some ⟨q,0,none⟩) X.length X.length] X:=
 qK.item p λw k=>⟨_,rfl,by simp [MJ],(MJ q enc sz X).lt w k,λr F d s=>by
  obtain ⟨⟨d,a,c,b,e,v⟩,_⟩:=(MJ q enc sz X).loc w r d k;refine ⟨d,a,c,b,e,λt x f u y z=> ?_⟩;obtain ⟨g,o,l,A,h⟩:=v t x f u y z
  have i:g=q:=by
   rw [l] at b;simp only [Value.slice.injEq,i6,Addr.mk.injEq] at b;exact b.1.1.symm
  subst i;exact ⟨g,o,l,s g (by simp [MJ]),h⟩⟩
theorem mL.rowF{b:∀x,(enc x).length=sz}{d:0<sz}(e:nth Fs q=some (.bo wb Sb)):mL [1] q Fs wb Sb (wC T enc sz b d) (λ(i:Option Addr×Nat)y=>[.slice i.1 y.length i.2]) (λi y=>[.rb wb Sb (.slice i.1 y.length i.2) enc sz y,.rd (.slice i.1 y.length i.2) enc sz y]):=⟨by
 rintro w0 Z f y a ⟨v,rfl,h⟩;obtain ⟨_,p,c,rfl⟩:=Rd.len h;exact ⟨(p,c),rfl,h,h.bor (zD a e),trivial⟩⟩
theorem mK.rowF{b:∀x,(enc x).length=sz}{d:0<sz}:mK [1] (wC T enc sz b d) (λ(i:Option Addr×Nat)y=>[.slice i.1 y.length i.2]) (λi y=>[.rd (.slice i.1 y.length i.2) enc sz y]):=⟨by
 rintro w Z e y ⟨v,rfl,h⟩;obtain ⟨_,a,c,rfl⟩:=Rd.len h;exact ⟨(a,c),rfl,h,trivial⟩⟩
def SO(P:Program)(l:List Oper)(N:Nat)(p:Fr)(i:Nat):Option Value:=match okO l N p i with
 |some ⟨_,.convert t a x,_,_,_,_⟩=>match Nat.beq t a,look p x,P.underlying t with
  |true,some v,some (.slice e)=>match P.underlying e with
   |some (.int .u8)=>some v
   |_=>none
  |_,_,_=>none
 |_=>none
theorem GO.mkf(z:nth L j=some (qb (.slice (some ⟨q,0,none⟩) n n) T enc sz X))(b:KR (SO P l N p i) (some (.slice (some ⟨q,0,none⟩) n n)))(c:∀x,(enc x).length=sz)(A:KR X.length n)(g:KR (Nat.blt 0 n) true)(C:dx L j (MJ q enc sz X)=some Lq)
  (k:GO hs f r Fs Lq ((dst l i,.slice (some ⟨q,0,none⟩) n n)::p) P B N w0 Z l (i+1) Q):GO (.mkf j::hs) f r Fs L p P B N w0 Z l i Q:=⟨λw a s e=>by
 have b:=b.h;unfold SO at b;split at b
 ·rename_i O t R x ty pos S gdd m
  split at b
  ·rename_i v U D E F
   split at b
   ·rename_i G
    cases b
    obtain ⟨d,hl,I,u,J⟩:=jC m;simp only at u;subst u;obtain rfl:=w7 D;refine OW.mark s j (by rw [<- zQ];exact z) hl I J E F G c A.h (by have:=g.h;simpa [x6] using this) λK M=> ?_
    have y:=k.o K a (by rw [qJ C];exact M) e
    rw [vv hl rfl] at y;exact y
   ·cases b
  ·cases b
 ·cases b⟩
def avC(P:Program)(l:List Oper)(N:Nat)(p:Fr)(i:Nat):Option (Int×List Value×Nat×Nat×Bool):=match okO l N p i with
 |some ⟨_,.index t x y,_,_,_,_⟩=>match look p x,look p y,P.underlying t with
  |some (.agg c),some (.int .i64 k),some (.array n e)=>match ax P (sizeOf e),ax P (isAgg e) with
   |some z,some b=>some (k,c.toList,n,z,b)
   |_,_=>none
  |_,_,_=>none
 |_=>none
theorem LkV.ai(f:nth Fs q=some (.oe (ain n J) j))(a:KR (avC P l N p i) (some (J,fa enc n c8,n,sz,true)))(g:∀x,(enc x).length=sz):LkV Fs p P B N w0 Z (.ai q sz enc c8) l i (.agg (enc (c8 j)).toArray):=by
 have a:=a.h;unfold avC at a;split at a
 ·rename_i F ty x y G I t pos K gdd c
  split at a
  ·rename_i L M m e k o r
   split at a
   ·rename_i z b hs s
    simp only [i6,o7] at a;obtain ⟨rfl,d,rfl,rfl,rfl⟩:=a;refine LkV.of c rfl λv b w A=> ?_
    obtain ⟨C,O,D,E⟩:=tx (zD v f);refine MK (xs:=(List.range m).map c8) (u:=c8 j) rfl ?_ o r hs s g (by simp) ?_ b w A
    ·rw [k,<- mF,<- d]
    ·unfold idx;rw [d7 C,E];simp [D]
   ·cases a
  ·cases a
 ·cases a
open Go.RowKit
theorem IJ{β:Type}{P:Nat->β->Prop}:∀n:Nat,(∀t,t<n->∃r,P t r)->∃b:List β,b.length=n/\∀t r,b[t]? =some r->P t r
 |0,_=>⟨[],rfl,λt r h=>by simp at h⟩
 |n+1,h=>by
  obtain ⟨b,hl,f⟩:=IJ n λt a=>h t (by omega)
  obtain ⟨r,g⟩:=h n (by omega);refine ⟨b++[r],by simp [hl],λt e a=> ?_⟩;rcases Nat.lt_or_ge t b.length with d|d
  ·rw [ye d] at a;exact f t e a
  ·rw [Tu d] at a
   have c:t-b.length=0:=by
    rcases y8 (t-b.length) with c|c
    ·exact c
    ·rw [TA (by simp;omega)] at a;cases a
   rw [c] at a;obtain rfl:r=e:=by simpa using a
   have:t=n:=by omega
   subst this;exact g
theorem RdN.rows(g:β->F)(G:β->Prop)
  (n:∀x i,D w S x i->∃r,g r=x/\enc r=i/\G r) (h:RdN w S v D sz xs):∃d:List β,d.map g=xs/\Rd w S v enc sz d/\∀r∈d,G r:=by
 obtain ⟨I,a,c,p,q,s⟩:=h
 obtain ⟨d,hl,j⟩:=IJ (P:=λt r=>xs[t]? =some (g r)/\G r/\∃b o,a=some ⟨b,o,none⟩/\b∉S/\∀f u,(enc r)[f]? =some u->w.cell? ⟨b,o+t*sz+f,none⟩=some u) xs.length λt e=>by
  obtain ⟨i,k,b,o,l⟩:=s t xs[t] (zeg e);obtain ⟨r,y,z,A⟩:=n _ _ k;exact ⟨r,by rw [y];exact zeg e,A,b,o,by rw [z];exact l⟩
 have B:d.map g=xs:=by
  refine o4 λt=> ?_
  rw [o8];cases e:d[t]? with
  |some r=>exact (j t r e).1.symm
  |none=>
   have:d.length<=t:=by simpa using e
   exact (TA (by omega)).symm
 refine ⟨d,B,⟨by omega,a,c,by rw [hl];exact p,by omega,λt r f u m C=> ?_⟩,λr m=> ?_⟩
 ·obtain ⟨_,_,b,o,k,l,E⟩:=j t r m;exact ⟨b,o,k,l,E f u C⟩
 ·obtain ⟨t,e⟩:=q8 m;exact (j t r e).2.1
theorem Oh{F β γ:Type}{f:F->Option β}{g:F->Option γ}:∀{xs:List F} {u:Unit},xs.foldlM (λ(_:Unit)c=>(f c).bind λ_=>(g c).bind λ_=>some ()) ()=some u->∀x∈xs,(∃y,f x=some y)/\∃z,g x=some z
 |[],_,_=>by simp
 |x::xs,u,h=>by
  rw [List.foldlM_cons] at h;obtain ⟨j,a,d⟩:=zI h;obtain ⟨y,e,a⟩:=zI a;obtain ⟨z,i,a⟩:=zI a;intro q b;rcases j5.1 b with rfl|b
  ·exact ⟨⟨y,e⟩,z,i⟩
  ·exact Oh d q b
theorem St.toItF(h:St w0 S0 w L)(j:Nat)(c:L[j]? =some (qb v T enc sz X))(a:∀x,(enc x).length=sz)(b:0<sz):
 St w0 S0 w (L.set j (itI (wC T enc sz a b) [v] (cM v).toList X)):=h.turn j c (FN (he:=a) (hp:=b) (h.all j _ c)) rfl
theorem St.fuseS{F γ:Type}{n:Rp γ}{y2:γ}{f:F->List Value->List Value}{hl:∀x vs,(f x vs).length=sz}{g:F->β×γ}(h:St w0 S0 w L)(R:Rp F)(p:R=qv f sz hl g (jo A n))(k j:Nat)(c:Nat.beq k j=false)
  (d:L[k]? =some (itI A [v] Z y1)) (i:L[j]? =some (itI n [v'] S y2)) (x:F) (q:g x=(y1,y2)) (l:f x [v,v']=W):St w0 S0 w ((L.set k (itI R W (Z++S) x)).set j nilI):=by
 have r:=h.all k _ d;have s:=h.all j _ i;have o:∀b∈Z,b∉S:=h.apart k j _ _ (r7 c) d i;refine h.fuse k j c d i (C:=itI R W (Z++S) x) ?_ ?_ (λb m=>f8.1 m)
 ·subst p;exact ⟨[v,v'],l.symm,by rw [q];exact ⟨[v],[v'],Z,S,rfl,rfl,o,r,s⟩⟩
 ·exact k6.2 ⟨h.nd k _ d,h.nd j _ i,λa t b m e=>by subst e;exact o a t m⟩
theorem St.nRows(h:St w0 S0 w L)(j:Nat)(n:L[j]? =some (nI T R v S xs none))(g:β->F)(G:β->Prop)
  (q:∀r,(enc r).length=R.sz) (o:∀w p d x,R.own w p d x->d=[]/\∃r,g r=x/\enc r=p/\G r):∃b:List β,b.map g=xs/\(∀r∈b,G r)/\St w0 S0 w (L.set j (qb v T enc R.sz b)):=by
 obtain ⟨M,Ss,c⟩:=h.all j _ n
 obtain ⟨b,hl,i⟩:=IJ (P:=λt r=>xs[t]? =some (g r)/\M[t]? =some (enc r)/\G r) xs.length λt a=>by
  have f:t<M.length:=by rw [c.lc];exact a
  have k:t<Ss.length:=by rw [c.ls];exact a
  obtain ⟨_,r,s,u,y⟩:=o _ _ _ _ (c.own t M[t] Ss[t] xs[t] (λ_ e=>by cases e) (zeg f) (zeg k) (zeg a));exact ⟨r,by rw [s];exact zeg a,by rw [u];exact zeg f,y⟩
 have z:b.map g=xs:=by
  refine o4 λt=> ?_
  rw [o8];cases a:b[t]? with
  |some r=>exact (i t r a).1.symm
  |none=>
   have:b.length<=t:=by simpa using a
   exact (TA (by omega)).symm
 have l:b.map enc=M:=by
  refine o4 λt=> ?_
  rw [o8];cases a:b[t]? with
  |some r=>exact (i t r a).2.1.symm
  |none=>
   have:b.length<=t:=by simpa using a
   exact (TA (by have:=c.lc;omega)).symm
 have A:Ss.flatten=[]:=by
  rw [List.flatten_eq_nil_iff];intro d m;obtain ⟨t,a⟩:=q8 m;have k:t<Ss.length:=(zes.1 a).1;have h0:t<xs.length:=by rw [<- c.ls];exact k
  have f:t<M.length:=by rw [c.lc];exact h0
  exact (o _ _ _ _ (c.own t M[t] d xs[t] (λ_ e=>by cases e) (zeg f) a (zeg h0))).1
 refine ⟨b,z,λr B=>by obtain ⟨t,a⟩:=q8 B;exact (i t r a).2.2,h.turn j n ?_ ?_⟩
 ·have:=c.row;show dw w T R.sz v b.length (jO enc b);rw [hl,<- pI q,l];exact this
 ·show (cM v).toList=S;rw [c.hS,A,i4]
theorem St.nOfRows(R:Rp F)(h:St w0 S0 w L)(j:Nat)(hs:sz=R.sz)(d:L[j]? =some (qb v T enc sz X))(g:β->F)(f:∀r,(enc r).length=sz)(k:∀r∈X,R.own w (enc r) [] (g r)):
  St w0 S0 w (L.set j (nI T R v (cM v).toList (X.map g) none)):=by
 subst hs;have m:=h.all j _ d;have n:(List.replicate X.length ([]:List Nat)).flatten=[]:=by rw [List.flatten_eq_nil_iff];intro l hl;exact (List.mem_replicate.1 hl).2
 refine h.turn j d ⟨X.map enc,List.replicate X.length [],?_,by simp,by simp,by rw [n,i4],db,(λ_ _ e=>by cases e),λi p S x _ b o c=> ?_⟩ rfl
 ·rw [pI f,m6];exact m
 ·rw [o8] at b c;cases a:X[i]? with
  |none=>rw [a] at b;cases b
  |some r=>
   rw [a] at b c;cases b;cases c;obtain rfl:S=[]:=(List.mem_replicate.1 (zmg o)).2;exact k r (zmg a)
theorem St.asRaw(h:St w0 S0 w L)(j:Nat)(a:L[j]? =some (qb v T enc sz X))(b:∀r,(enc r).length=sz):St w0 S0 w (L.set j (qb v T (fit sz) sz (X.map enc))):=by
 refine h.turn j a ?_ rfl;show dw w T sz v (X.map enc).length (jO (fit sz) (X.map enc));rw [m6,pI b];exact h.all j _ a
theorem Ll{F:Type}{R:Rp F}(w:World):(tf R [] [] []).Φ w:=⟨rfl,rfl,λi c S x h=>by simp at h⟩
theorem St.bchNew{F:Type}(R:Rp F)(h:St w0 S0 w L):St w0 S0 w (L++[tf R [] [] []]):=
 h.push (x8 _ _) (Ll w) (λb a=>by simp [tf] at a) (by simp [tf])
theorem St.bchOn{F:Type}{R:Rp F}{xs:List F}{x:F}(h:St w0 S0 w L)(k j:Nat)(a:Nat.beq k j=false)(g:L[k]? =some (tf R M Ss xs))(d:L[j]? =some (itI R W S x)):
  St w0 S0 w ((L.set k (tf R (M++[W]) (Ss++[S]) (xs++[x]))).set j nilI):=by
 have b:k≠j:=r7 a;have i:=h.bchOne j d;have c:j<L.length:=(zes.1 d).1;have f:=i.bchApp k j a (by rw [TE (λe=>b e.symm)];exact g) (yy c)
 have e:((L.set j (tf R [W] [S] [x])).set k (tf R (M++[W]) (Ss++[S]) (xs++[x]))).set j nilI=(L.set k (tf R (M++[W]) (Ss++[S]) (xs++[x]))).set j nilI:=by
  rw [List.set_comm _ _ (λe=>b e.symm),Tt]
 rw [e] at f;exact f
theorem uj(h:xs[i]? =some x):Sx.idx xs (i:Int)=some x:=by
 have a:i<xs.length:=(zes.1 h).1;unfold Sx.idx;rw [d7 (by omega)]
 simpa using h
theorem uk(h:xs[i]? =some x):xs.take (i+1)=xs.take i++[x]:=by
 rw [yh,h];rfl
theorem IK(h:xs.drop i=t.drop i):xs[i]? =t[i]? :=by
 have:=congrArg (·[0]?) h
 simpa [TG] using this
theorem B9(h:xs.drop i=t.drop i):(xs.set i x).drop (i+1)=t.drop (i+1):=by
 rw [List.drop_set_of_lt (by omega)];have:=congrArg (List.drop 1) h
 simpa [y4,Nat.add_comm] using this
theorem tJ{a:F}{β:Type}{g:F->β}(h:xs[i]? =some x)(e:g a=g x):(xs.set i a).map g=xs.map g:=by
 rw [yo,e];refine o4 λt=> ?_
 rw [y7];split
 ·rename_i b
  subst b;have:i<(xs.map g).length:=by rw [m6];exact (zes.1 h).1
  rw [d7 this,o8,h];rfl
 ·rfl
theorem Ca(h:i<xs.length):(xs.set i z).take (i+1)=xs.take i++[z]:=by
 rw [uk (x:=z) (by rw [yy h]),List.take_set_of_le (k9 i)]
set_option maxRecDepth 10000
theorem wk(a:P.funcs[c9]? =some B)(hs:List H)
  (c:B.body=some c4:=by rfl) (d:B.ntmps=N:=by rfl) (g:Nat.ble W.length N=true:=by kernel_rfl)
  (n:∀w0 Z r,GC hs f r Fs L (sX 0 W) P B N w0 Z c4 (bodyPost P B (d0 w0 Z r)):=by
   repeat' (first
    |exact rfl
    |(refine KR.mk ?_;kernel_rfl)
    |((fail_if_success (fail_if_success (apply GO.here)));first|(refine GO.fo (by exact rfl) (λ_=>by exact rfl) ?_;intro _ _ e;subst e)|(refine GO.fO (by exact rfl) (λ_=>by exact rfl) (λ_=>by exact rfl) ?_;intro _ _ e;subst e)|(refine GO.fx (by assumption) ?_)|apply GO.mkf|apply GO.clr|apply GO.ci|apply GO.p|apply GO.k|apply GO.km|apply GO.kv|apply GO.nil|apply GO.nx|apply GO.ca|apply GO.bi|apply GO.bo|apply GO.st|apply GO.al|apply GO.bx|apply GO.sp|apply GO.ad|apply GO.sr|apply GO.rw|apply GO.ap|apply GO.mkS|apply GO.be|apply GO.bt|apply GO.sa|apply GO.sra|apply GO.srw|apply GO.spa|apply GO.sp1|apply GO.co|apply GO.ce|apply GO.cn|apply GO.il|apply GO.bd|apply GO.bn|apply GO.sn|apply GO.an|apply GO.ly|apply GO.lyx|apply GO.mN|apply GO.sg|apply GO.sx|apply GO.cp|apply GO.pw|apply GO.nd|apply GO.bxe|apply GO.ste|apply GO.vb|apply GO.mnN|apply GO.mlP|apply GO.mlR|apply GO.mq|apply GO.mh|apply GO.md|apply GO.ll|apply GO.nl|apply GO.bj)
    |((fail_if_success (fail_if_success (apply GQ.here)));first|(refine GQ.fx (by assumption) ?_)|apply GQ.mt|apply GQ.ms|apply GQ.bk|apply GQ.bg|apply GQ.next|apply GQ.then_ret|apply GQ.block_ret|apply GQ.then_exit|apply GQ.block_here|apply GQ.block_normal|apply GQ.block_on|apply GQ.rt|apply GQ.pop|apply GQ.popN|apply GQ.rc1|apply GQ.rc2|apply GQ.rc3|apply GQ.re|apply GQ.r0|apply GQ.ad|apply GQ.rn|apply GQ.rs|apply GQ.ri|apply GQ.nd|apply GQ.nl|apply GQ.nm|apply GQ.rI)
    |((fail_if_success (fail_if_success (apply GC.here)));first|(refine GC.fx (by assumption) ?_)|apply GC.dk|apply GC.ds|apply GC.dn|apply GC.ad|apply GC.seq|apply GC.block|apply GC.skip|apply GC.exit|apply GC.ret|apply GC.ck|apply GC.cs|apply GC.scB|apply GC.scC|apply GC.rgB|apply GC.plB|apply GC.br|apply GC.lb|apply GC.lc|apply GC.ct|apply GC.cf|apply GC.lg|apply GC.be|apply GC.nb|apply GC.stB|apply GC.tlB|apply GC.nl|apply GC.nm)
    |((fail_if_success (fail_if_success (apply GP.here)));first|(refine GP.fp (by exact rfl) (λ_ _ _ _=>by exact rfl) ?_;intro _ _ _ _ e;first|subst e|(generalize (‹(Nat×List Nat)×Value×List Nat›).2.1=u at e |-;subst e))|(refine GP.fO (by exact rfl) (λ_=>by exact rfl) (λ_=>by exact rfl) ?_;intro _ _ e;subst e)|(refine GP.fx (by assumption) ?_)|apply GP.p|apply GP.l1|apply GP.lm|apply GP.lv|apply GP.ac|apply GP.a2|apply GP.fin|apply GP.sp|apply GP.bi|apply GP.bo|apply GP.ad|apply GP.be|apply GP.bn|apply GP.bj|apply GP.bl)
    |((fail_if_success (fail_if_success (apply GS.here)));first|(refine GS.fO (by exact rfl) (λ_=>by exact rfl) (λ_=>by exact rfl) ?_;intro _ _ e;subst e)|(refine GS.fx (by assumption) ?_)|apply GS.sp|apply GS.ad|apply GS.be|apply GS.p|apply GS.k|apply GS.km|apply GS.kv|apply GS.bi|apply GS.bo|apply GS.fin|apply GS.on|apply GS.bn|apply GS.mlP)
    |(apply GC.dg;intro _ _ _ _ _)
    |intro _
    |(apply Nf.mk;(try dsimp only);(try exact rfl))
    |((fail_if_success (fail_if_success (apply Giv.here)));first|apply Giv.nil|apply Giv.rf|apply Giv.ro|apply Giv.rn|apply Giv.rb|apply Giv.rc|apply Giv.bj|apply Giv.bq|apply Giv.ru|apply Giv.dn|apply Giv.oN|apply Giv.po|apply Giv.sv|apply Giv.oi|apply Giv.fi)
    |((fail_if_success (fail_if_success (apply LkV.here)));first|apply LkV.ix|apply LkV.qu|apply LkV.re|apply LkV.hl|apply LkV.hr|apply LkV.si|apply LkV.ad|apply LkV.sq|apply LkV.cp|apply LkV.cu|apply LkV.cf|apply LkV.ai|apply LkV.sA|apply LkV.sU|apply LkV.nz|apply LkV.al|apply LkV.af|apply LkV.at|apply LkV.pn|apply LkV.sw)
    |((fail_if_success (fail_if_success (apply Adm.here)));first|apply Adm.nn|apply Adm.o0|apply Adm.s0|apply Adm.kp|apply Adm.nr|apply Adm.op|apply Adm.opk|apply Adm.sh|apply Adm.fp|apply Adm.fu|apply Adm.pt|apply Adm.no|apply Adm.nb|apply Adm.nb0s|apply Adm.nb0|apply Adm.shx|apply Adm.shw|apply Adm.ctr|apply Adm.nc|apply Adm.nd|apply Adm.s0x|apply Adm.ne|apply Adm.mb0|apply Adm.mb0r|apply Adm.mb|apply Adm.mbf|apply Adm.mbp|apply Adm.oi0|apply Adm.oi|apply Adm.sfN|apply Adm.sfx|apply Adm.tp)
    |((fail_if_success (fail_if_success (apply jl.here)));first|apply jl.dep|apply yc|apply jl.row|apply jl.nrow|apply jl.ptr|apply jl.bor|apply jl.any|apply jl.st|apply jl.len|apply jl.gho|apply jl.rdn|apply jl.mapn)
    |((fail_if_success (fail_if_success (apply qK.here)));first|apply qK.dep|apply qK.on|apply qK.os|apply qK.pair|apply qK.row|apply qK.rowF|apply qK.frz|apply qK.nrow|apply qK.rdn|apply qK.bor|apply qK.prn|apply qK.pb|apply qK.mapn|apply qK.it|apply qK.st|apply qK.len|apply qK.rdn|apply qK.gho)
    |apply Dz.nil
    |apply Dz.kq
    |apply Dz.c1
    |apply Dz.n1
    |apply Ex.u
    |apply Ex.p
    |apply Ln.s
    |apply Ln.t
    |apply Ln.k
    |apply Sim.nil
    |apply Sim.part
    |apply Sim.blk
    |apply Sim.row
    |apply Sim.itU
    |apply Sim.nrow
    |apply Sim.mapN
    |apply Sim.nrowH
    |apply Sim.pool
    |apply RV.t
    |apply RV.cN
    |apply KY.nil
    |apply Bn.f1
    |apply Bn.oo
    |apply Bn.l1
    |apply Bn.r1
    |apply Bn.n1
    |apply Bn.d1
    |apply Bn.c1
    |apply N5.sf
    |apply N5.so
    |apply CF.b1
    |apply Lg.nil
    |apply Lg.u
    |apply CF.o1
    |apply CF.p1
    |apply CF.r1
    |apply LvR.c1
    |apply LvR.nil
    |apply DA.nil
    |apply DA.b
    |apply DA.p
    |apply DA.t
    |apply FH.nil
    |apply FH.consS
    |apply FH.cons
    |apply Sim.sit
    |apply Nc.nil
    |apply Nc.cons
    |(apply R7.mk;apply_assumption)
    |(apply Qq.mk;apply_assumption)
    |(apply Qm.mk;apply_assumption)
    |(apply SL.mk;intro h wb Sb;apply (h wb Sb))
    |apply Cel.ld
    |apply Cel.le
    |apply Cel.lr
    |apply Cel.cc
    |apply Cel.ca
    |apply Cel.ce
    |apply Cel.nh
    |apply sM.lE
    |apply sM.lN
    |apply sM.lR
    |apply sM.cN
    |apply sM.cA
    |apply sM.ce
    |apply sM.nH
    |apply aF.row
    |apply aF.nrow
    |apply aF.any
    |apply aF.ptr
    |apply aF.bor
    |apply aF.rdn
    |apply aF.len
    |apply aF.gho
    |apply aF.dep
    |apply aF.pair
    |apply aF.st
    |apply mL.row
    |apply mL.rowF
    |apply mL.pair
    |apply mL.st
    |apply mK.row
    |apply mK.rowF
    |apply mK.st
    |apply mK.pair)):P4 P c9 W Fs L f d0:=P4.start hs a c d ⟨g⟩ n
end Go.Sx
