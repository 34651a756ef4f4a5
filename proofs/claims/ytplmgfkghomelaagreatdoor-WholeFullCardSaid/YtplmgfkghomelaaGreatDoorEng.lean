/- Lemmas. -/
import Derived.Test.YtplmgfkghomelaaGreatDoorArr
set_option linter.unusedVariables false
set_option linter.unusedSimpArgs false
namespace Go.Sx
section
section
open Go.RowKit
universe u
variable {σ ι:Type} {a:Addr} {α:Type} {A B:List Item} {T T':TypeId} {m sz:Nat} {S:List Nat} {id j:Nat} {v':Value} {τ:Type} {kI:List Nat} {Lq L2:List Item} {ids:List Nat} {n:Nat} {κ ι0 ι1:Type} {js:List Nat} {u1:Value} {q1:Nat×Nat×Nat} {xs:List α} {x:α} {enc:α->List Value} {xs':List α} {R:Rp α} {its Lf:σ->ι->List Item}
structure KR {α:Type} (a b:α):Prop where
 h:a=b
inductive Fa:Type 1
 |rd {α:Type} (v:Value) (enc:α->List Value) (sz:Nat) (xs:List α)
 |el {α:Type} (v:Value) (g o:Nat) (t:Int) (xs:List α) (x:α)
 |ct (k m n:Nat)
 |po {σ ρ:Type} (k:σ->Option ρ) (e:σ) (r:ρ)
 |rb {α:Type} (wb:World) (Sb:List Nat) (v:Value) (enc:α->List Value) (sz:Nat) (xs:List α)
 |bo (wb:World) (Sb:List Nat)
 |oe {α:Type} (o:Option α) (x:α)
 |pb (b:Nat) (cs:List Value)
 |rn {α:Type} (v:Value) (R:Rp α) (xs:List α)
 |ce (g o:Nat) (cs:List Value)
 |rbn {α:Type} (wb:World) (Sb:List Nat) (v:Value) (R:Rp α) (xs:List α)
 |ri {α:Type} (v:Value) (R:Rp α) (x:α)
def Fa.ok(w:World)(Z:List Nat):Fa->Prop
 |.rd v enc sz xs=>Rd w Z v enc sz xs
 |.el v g o t xs x=>idx xs t=some x/\∃c,v=.slice (some ⟨g,o,none⟩) xs.length c
 |.ct k m n=>k+m=n/\n<=9223372036854775807
 |.po k e r=>k e=some r
 |.rb wb Sb v enc sz xs=>Rd wb Sb v enc sz xs
 |.bo wb Sb=>Bor wb Sb w Z
 |.rbn wb Sb v R xs=>RdN wb Sb v R.rd R.sz xs
 |.oe o x=>o=some x
 |.pb b cs=>RdB w Z b cs
 |.rn v R xs=>RdN w Z v R.rd R.sz xs
 |.ri v R x=>R.rd w Z x [v]
 |.ce g o cs=>∀w' L',St w Z w' L'->∀f u,cs[f]? =some u->w'.cell? ⟨g,o+f,none⟩=some u
def bC(w:World)(Z:List Nat):List Fa->Prop
 |[]=>True
 |F::r=>F.ok w Z/\bC w Z r
def nth{α:Type u}:List α->Nat->Option α
 |[],_=>none
 |x::_,0=>some x
 |_::r,n+1=>nth r n
theorem zP{α:Type u}:∀{l:List α} {n:Nat},nth l n=l[n]?
 |[],_=>by simp [nth]
 |_::_,0=>rfl
 |_::r,n+1=>by simp [nth,zP (l:=r)]
def vc{α:Type u}:List α->α->Option (List α)
 |[],x=>some [x]
 |y::r,x=>match vc r x with
  |some q=>some (y::q)
  |none=>none
theorem vI{α:Type u}:∀{l q:List α} {x:α},vc l x=some q->q=l++[x]
 |[],q,x,h=>by cases h;rfl
 |y::r,q,x,h=>by
  unfold vc at h;split at h
  ·rename_i e;cases h;rw [vI e];rfl
  ·cases h
def dc{α:Type u}:List α->Nat->α->Option (List α)
 |[],_,_=>none
 |_::r,0,x=>some (x::r)
 |y::r,n+1,x=>match dc r n x with
  |some q=>some (y::q)
  |none=>none
theorem qJ{α:Type u}:∀{l q:List α} {n:Nat} {x:α},dc l n x=some q->q=l.set n x
 |[],_,_,_,h=>by cases h
 |_::_,_,0,_,h=>by cases h;rfl
 |y::r,q,n+1,x,h=>by
  unfold dc at h;split at h
  ·rename_i e;cases h;rw [qJ e];rfl
  ·cases h
def ul{α:Type u}:List α->Nat->Option (List α)
 |_,0=>some []
 |[],_+1=>none
 |x::r,n+1=>match ul r n with
  |some q=>some (x::q)
  |none=>none
def Hn{α:Type u}:List α->Nat->Nat->Option (List α)
 |l,0,n=>ul l n
 |[],_+1,_=>none
 |_::r,k+1,n=>Hn r k n
theorem AO{α:Type u}:∀{l q:List α} {n:Nat},ul l n=some q->q.length=n/\∀(j:Nat)(u:α),q[j]? =some u->l[j]? =some u
 |l,q,0,h=>by cases l<;>(cases h;exact ⟨rfl,λj u hj=>by simp at hj⟩)
 |[],q,n+1,h=>by cases h
 |x::r,q,n+1,h=>by
  unfold ul at h;split at h
  ·rename_i e
   cases h
   obtain ⟨h1,h2⟩:=AO e
   grind
  ·cases h
theorem fZ{α:Type u}:∀{l q:List α} {k n:Nat},Hn l k n=some q->q.length=n/\∀(j:Nat)(u:α),q[j]? =some u->l[k+j]? =some u
 |l,q,0,n,h=>by
  have:ul l n=some q:=by cases l<;>exact h
  grind [AO]
 |[],q,k+1,n,h=>by cases h
 |x::r,q,k+1,n,h=>by
  obtain ⟨h1,h2⟩:=fZ (l:=r) (k:=k) h
  grind
def fP(L:List Item):List Nat->List Item->Option (List Item)
 |[],B=>some B
 |i::r,B=>match nth L i,fP L r B with
  |some it,some q=>some (it::q)
  |_,_=>none
theorem xk{L:List Item}:∀{ids:List Nat} {B q:List Item},fP L ids B=some q->q=sel L ids++B
 |[],B,q,h=>by cases h;rfl
 |i::r,B,q,h=>by
  unfold fP at h;split at h
  ·rename_i it q' h1 h2
   cases h
   rw [xk h2,sel]
   grind [zP]
  ·cases h
def LX(L:List Item):List Nat->List Item->Option (List Item)
 |[],_=>some []
 |0::r,it::B=>match LX L r B with
  |some q=>some (it::q)
  |none=>none
 |0::_,[]=>none
 |(j+1)::r,B=>match nth L j,LX L r B with
  |some it,some q=>some (it::q)
  |_,_=>none
theorem zz{w:World}{Z:List Nat}:∀{Fs:List Fa} {n:Nat} {F:Fa},bC w Z Fs->nth Fs n=some F->F.ok w Z
 |[],_,_,_,h=>by cases h
 |_::_,0,_,ha,h=>by cases h;exact ha.1
 |_::r,n+1,_,ha,h=>zz (Fs:=r) ha.2 h
theorem jw{w:World}{Z:List Nat}:∀{Fs q:List Fa} {F:Fa},bC w Z Fs->F.ok w Z->vc Fs F=some q->bC w Z q
 |[],q,F,_,h,e=>by cases e;exact ⟨h,trivial⟩
 |x::r,q,F,ha,h,e=>by
  unfold vc at e;split at e
  ·rename_i q' e';cases e;exact ⟨ha.1,jw (Fs:=r) ha.2 h e'⟩
  ·cases e
theorem Ez{w:World}{Z:List Nat}:∀{Fs q:List Fa} {n:Nat} {F:Fa},bC w Z Fs->F.ok w Z->dc Fs n F=some q->bC w Z q
 |[],_,_,_,_,_,e=>by cases e
 |x::r,q,0,F,ha,h,e=>by cases e;exact ⟨h,ha.2⟩
 |x::r,q,n+1,F,ha,h,e=>by
  unfold dc at e;split at e
  ·rename_i q' e';cases e;exact ⟨ha.1,Ez (Fs:=r) ha.2 h e'⟩
  ·cases e
theorem dt:∀{a b:List Nat},zQ (a++b)=true->zQ a=true
 |[],_,_=>rfl
 |x::r,b,h=>by
  simp only [y7,zQ] at h |-;split at h
  ·cases h
  ·rename_i e
   have:mem? x r=false:=by
    cases hm:mem? x r with
    |false=>rfl
    |true=>
     have h1:=mem?_iff.1 hm;have h2:mem? x (r++b)=true:=mem?_iff.2 (zal _ h1)
     grind
   rw [this];exact dt h
abbrev Fr:=List (Nat×Value)
def pick(fr:Fr):List Nat->Fr->Fr
 |[],b=>b
 |k::r,b=>(k,(kE fr k).getD undef)::pick fr r b
inductive BH|f (e:Nat)|d (e:Nat)|o (j:Nat)|n (j:Nat)|l|r (q:Nat)|c (q:Nat) (b:BH)
inductive Cs|b (e:Nat)|o (j:Nat)|p (j:Nat)|e (e q:Nat)|r (j q:Nat)
inductive LH:Type 1
 |kq {α:Type} {o:Option α} {V W:α->Value} (h:LH) (q:Nat) (e:∀x,o=some x->V x=W x)
 |da {α:Type} (c:Cs) (e k0 f sz:Nat) (enc:α->List Value) (dec:List Value->Nat->α)|dA {α:Type} (c:Cs) (e k0 f m sz:Nat) (enc:α->List Value) (dec:List Value->Nat->α)
 |hc (e:Nat)|hd (e:Nat)|al|af (q:Nat)|at (q:Nat)|nz|sA|sP (q:Nat)|sU (q:Nat)|cc (c:Cs) (k:Nat)|cN (c:Cs) (k n:Nat)|ca {α:Type} (c:Cs) (e k0 f sz:Nat) (enc:α->List Value)|cA {α:Type} (c:Cs) (e k0 f m sz:Nat) (enc:α->List Value)
 |pn (e:Nat)|pq (e:Nat)|sw (q:Nat)|qu (q:Nat)|re (q:Nat)|hl (q:Nat)|hr (q:Nat)|hw|hv|si (q:Nat)|ad (q:Nat)|sq|sn|cp (e q:Nat)|cu (e q:Nat)|cf (e q:Nat)
 |nh (j q f:Nat)|nH (j q f n:Nat)|ce (e f:Nat)|cE (e f n:Nat)|ai {α:Type} (q sz:Nat) (enc:α->List Value) (a:Nat->α)
 |ld (j k:Nat)|lN (j k n:Nat)|ix (q sz:Nat)|le (e q f:Nat)|lE (e q f n:Nat)|lr (j q f:Nat)|lR (j q f n:Nat)
inductive Pa|r (j:Nat)|f (e:Nat)|n|s|fl|on|os (j:Nat)|ln (j k:Nat)|g (j:Nat)|pr (j:Nat)|pb (j off n:Nat)
structure OpK {α ι:Type} (R:Rp α) (need:Fa) (cells:ι->α->List Value) (its:ι->α->List Item) (fcs:ι->α->List Fa):Prop where
 o:∀w0 Z w cs S x,bC w0 Z [need]->R.own w cs S x->∃i,cs=cells i x/\ak w S (its i x)/\bC w0 Z (fcs i x)
inductive AH:Type 1
 |opk {α ι:Type} {R:Rp α} {need:Fa} {cells:ι->α->List Value} {its:ι->α->List Item} {fcs:ι->α->List Fa} (j q:Nat) (h:OpK R need cells its fcs)
 |pt (j k m:Nat)|oi (e q:Nat) (ks:List Nat)|sfx (j q:Nat)|sfN (j q:Nat)|tp {α:Type} {A:Rp α} {B:World->List Nat->Rp α} (j:Nat) (h:Cv A B)
 |op (j q:Nat) (ks:List Nat)|fp (e q:Nat)|fu (e q:Nat)
 |sh {α:Type} (j:Nat) (ks:List Pa) (rest:List Nat) (R:Rp α)|nc (jb k j:Nat)|nd (jb k j:Nat)
 |shx {α:Type} (j:Nat) (ks:List Pa) (rest:List Nat) (R:Rp α) (x:α)|ctr (j q:Nat)|shw {α:Type} (j:Nat) (ks:List Pa) (rest:List Nat) (R:Value->Rp α) (q k:Nat) (x:α)|s0x {α:Type} (j:Nat) (enc:α->List Value) (sz:Nat) (x:α)
 |nr {α:Type} (T:TypeId) (enc:α->List Value) (sz:Nat)
 |ne (j q e:Nat) (ks:List Nat)|mb (k:Nat) (rest:List Nat) (ks:List Pa)|mb0 (k:Nat) (rest:List Nat) (ks:List Pa)|mbr (k:Nat) (rest:List Nat) (ks:List Pa)|mbf (k e:Nat) (rest:List Nat) (ks:List Pa)|mbp (k:Nat) (rest:List Nat) (ks:List Pa)
 |no (j q e:Nat) (ks:List Nat)|nb (k q:Nat) (rest:List Nat) (ks:List Pa)|nb0 (k q:Nat) (rest:List Nat) (ks:List Pa)|nbx {α:Type} (k q:Nat) (rest:List Nat) (ks:List Pa) (y:α)
 |kp (ids:List Nat)|nn {α:Type} (T:TypeId) (R:Rp α)|o0 (j:Nat)|s0 {α:Type} (j:Nat) (enc:α->List Value) (sz:Nat)
inductive Src:Type 1
 |oi (j:Nat)|fi (e:Nat)|sv (hs:List AH) (j:Nat)|cn (e:Nat)|ov (j q:Nat)|po (j:Nat)|dn (e:Nat)|oN (j:Nat)|nN|bj (j:Nat)|bq (e:Nat)|ra (j k:Nat)|ru (j k q:Nat)|rp (j k q:Nat)|f (e:Nat)|o (j:Nat)|n|b (e:Nat)|c (e:Nat)|m
inductive H:Type 1
 |oc (j:Nat) (rest:List Nat) (a b:List H)|ocp (j:Nat) (rest:List Nat) (a b:List H)|fp (j:Nat)|ts (s:Src)|mnN {α:Type} (R:Rp α)|mnF {α:Type} (val:α->Value)|mlP (j:Nat) (k:Int)|mlR (j:Nat) (k:Int)|mp (j:Nat) (k:Int) (rest:List Nat) (ks:List Pa)|mq (j:Nat) (k:Int) (rest:List Nat) (ks:List Pa)|mh {α:Type} (j:Nat) (k:Int) (u:α)|md (j:Nat) (k:Int)|ll (j:Nat)|fO (j:Nat)
 |bt (e:Nat)|nb (e:Nat) (a b:List H)
 |fo (j:Nat)|dn (d:Nat)|a2 (i:Nat) (k:List Nat) (i':Nat) (k':List Nat) (a b:List H)
 |sa {α:Type} (j e k0 f m sz:Nat) (enc:α->List Value) (dec:List Value->α)|spa {α:Type} (j e k0 f m sz:Nat) (enc:α->List Value) (dec:List Value->α)|sp1 (j k m:Nat)|srw {α:Type} (j q m n:Nat) (enc:α->List Value)|sra {α:Type} (j q e f m sz:Nat) (enc:α->List Value) (dec:List Value->α)
 |p (n:Nat)|k (h:LH)|km (h:LH)|kv (h:LH)|a (h:AH)
 |be|bi (e:Nat)|bo (j:Nat)|ei (e q:Nat)|eo (j q:Nat)
 |st (j k n:Nat)|al (T:TypeId) (cs:List Value)|bx (T:TypeId) (n:Nat)|sp (q:Nat) (a b:List H)
 |rtc (ids:List Nat) (cs:List (Nat×Nat×Nat))|rte (ids:List Nat)
 |lG {σ ι:Type} (keep:List Nat) (chg:σ->ι->Fr) (kI:List Nat) (its:σ->ι->List Item) (fcs:σ->ι->List Fa) (ids:List Nat) (src:List Src)
 |bG (ids:List Nat) (src:List Src)
 |br (a b:List H)|ct|cf
 |cK {σ ι:Type} (keep:List Nat) (chg:σ->ι->Fr) (kI:List Nat) (its:σ->ι->List Item) (fcs:σ->ι->List Fa) (a:List H)
 |cS {σ ι:Type} (keep:List Nat) (chg:σ->ι->Fr) (kI:List Nat) (its:σ->ι->List Item) (fcs:σ->ι->List Fa) (a:List H)
 |mT (ids:List Nat) (src:List Src)
 |lb {σ ι:Type} (b:BH) (c:Nat) (keep:List Nat) (chg:σ->ι->Fr) (kI:List Nat) (its:σ->ι->List Item) (fcs:σ->ι->List Fa) (ids:List Nat) (src:List Src)
 |bj (e q:Nat) (ks:List Nat)|bl (e q:Nat) (ks:List Nat)|rI|rj|fx {α:Type} (k:α->List H)|il {P:Program} {k:FuncId} {fn:Func} (hf:P.funcs[k]? =some fn)|ri
 |ce (js:List Nat) (src:List Src) (rest:List Nat)|cn (js:List Nat) (src:List Src) (rest:List Nat)|co (js:List Nat) (src:List Src) (rest:List Nat) (a b:List H)|rn|rs
 |nd|bxe (T:TypeId) (cs:List Value)|ste (j k:Nat) (us:List Value)|bn (j:Nat)|ci (js:List Nat) (src:List Src) (rest:List Nat)|clr {α:Type} (j q:Nat) (z:α)|pw (j q:Nat)|nl (j:Nat) (qs:List Nat)|nm (j:Nat) (qs:List Nat)|vb (j q:Nat)|en (j q:Nat)|bd (e:Nat) (ks:List Nat)|sx (j:Nat) (a b:List H)|sg|cl (j k n:Nat)|cp (j k n:Nat)|mkf (j:Nat)
 |sn (k q:Nat) (rest:List Nat) (ks:List Pa)|sm (k q:Nat) (rest:List Nat) (ks:List Pa)|sh_ (j q f m:Nat)|an {α:Type} {R:Rp α} (q k j:Nat) (h:∀w cs S x,R.own w cs S x->eA cs=true)|ah {α:Type} {R:Rp α} (q k j:Nat) (h:∀w cs S x,R.own w cs S x->eA cs=true)
 |ly {α:Type} (T:TypeId) (R:Rp α) (rest:List Nat) (kss:List (List Pa))|lyx {α:Type} (T:TypeId) (R:Rp α) (rest:List Nat) (kss:List (List Pa)) (ys:List α)|l1 {α:Type} (T:TypeId) (R:Rp α) (j:Nat)|mN {α:Type} (q:Nat) (R:Rp α) (cs:List Value) (x:α) (h:∀w,R.own w cs [] x)
 |lc (e:Nat) (a b:List H)
 |bK (e:Nat) (ids:List Nat) (src:List Src)
 |rt (ids:List Nat)
 |pop (e:Nat)
 |ca (js:List Nat) (src:List Src) (rest:List Nat)
 |sl|tl (c:Nat)|fi
 |sr {α:Type} (j q f m:Nat) (dec:List Value->α)
 |rw {α:Type} (n:Nat) (T:TypeId) (enc:α->List Value) (sz:Nat) (dec:List Value->α)
 |ap (q j:Nat) (s:Src)|mk {α:Type} (q:Nat) (enc:α->List Value) (sz bytes:Nat) (z:α)
 |sc (live:List Nat) (one many:List (Nat×LH)) (pk:List (Nat×Bool))
 |pl|q (is:List Nat)|l (i:Nat) (h:LH)|lm (i:Nat) (h:LH)|lv (i:Nat) (h:LH)|ac (i:Nat) (keep:List Nat)|nx (hs:List LH)
@[reducible] def H.mt(ids:List Nat):H:=.mT ids []
@[reducible] def H.bk(e:Nat)(ids:List Nat):H:=.bK e ids []
@[reducible] def H.bg(ids:List Nat):H:=.bG ids []
@[reducible] def H.ck(keep:List Nat)(chg:σ->ι->Fr)(kI:List Nat)(its:σ->ι->List Item)(a:List H):H:=.cK keep chg kI its (λ_ _=>[]) a
@[reducible] def H.cs(keep:List Nat)(chg:σ->ι->Fr)(kI:List Nat)(its:σ->ι->List Item)(a:List H):H:=.cS keep chg kI its (λ_ _=>[]) a
@[reducible] def H.lp(c e:Nat)(keep:List Nat)(chg:σ->ι->Fr)(kI:List Nat)(its:σ->ι->List Item)(ids:List Nat):H:=.lb (.f e) c keep chg kI its (λ_ _=>[]) ids []
@[reducible] def H.lq(c j:Nat)(keep:List Nat)(chg:σ->ι->Fr)(kI:List Nat)(its:σ->ι->List Item)(ids:List Nat):H:=.lb (.o j) c keep chg kI its (λ_ _=>[]) ids []
@[reducible] def H.lo(c q:Nat)(keep:List Nat)(chg:σ->ι->Fr)(kI:List Nat)(its:σ->ι->List Item)(ids:List Nat):H:=.lb (.r q) c keep chg kI its (λ_ _=>[]) ids []
@[reducible] def H.ln(c e:Nat)(keep:List Nat)(chg:σ->ι->Fr)(kI:List Nat)(its:σ->ι->List Item)(ids:List Nat):H:=.lb .l c keep chg kI its (λ_ _=>[]) ids []
@[reducible] def H.lg(keep:List Nat)(chg:σ->ι->Fr)(kI:List Nat)(its:σ->ι->List Item)(ids:List Nat):H:=.lG keep chg kI its (λ_ _=>[]) ids []
@[reducible] def H.op(j q:Nat)(ks:List Nat):H:=.a (.op j q ks)
@[reducible] def H.sh{α:Type}(j:Nat)(ks:List Pa)(rest:List Nat)(R:Rp α):H:=.a (.sh j ks rest R)
@[reducible] def H.nr{α:Type}(T:TypeId)(enc:α->List Value)(sz:Nat):H:=.a (.nr T enc sz)
@[reducible] def H.nn{α:Type}(T:TypeId)(R:Rp α):H:=.a (.nn T R)
@[reducible] def H.o0(j:Nat):H:=.a (.o0 j)
@[reducible] def H.s0{α:Type}(j:Nat)(enc:α->List Value)(sz:Nat):H:=.a (.s0 j enc sz)
@[reducible] def H.kp(ids:List Nat):H:=.a (.kp ids)
@[reducible] def H.ld(j k:Nat):H:=.k (.ld j k)
@[reducible] def H.lN(j k n:Nat):H:=.km (.lN j k n)
@[reducible] def H.ix(q sz:Nat):H:=.kv (.ix q sz)
@[reducible] def H.le(e q f:Nat):H:=.k (.le e q f)
@[reducible] def H.lE(e q f n:Nat):H:=.km (.lE e q f n)
@[reducible] def H.lr(e q f:Nat):H:=.k (.lr e q f)
@[reducible] def H.lR(e q f n:Nat):H:=.km (.lR e q f n)
structure Sim (A B:List Item):Prop where
 e:A=B
structure Ln (a b:Nat):Prop where
 h:a=b
theorem Ln.k{a b:Nat}(h:KR a b):Ln a b:=⟨h.h⟩
theorem Ln.s{a:Nat}{i:Nat}(h:Ln a xs.length):Ln a (xs.set i x).length:=⟨by rw [j7];exact h.h⟩
theorem Ln.t{a:Nat}{i:Nat}(h:Ln xs.length a):Ln (xs.set i x).length a:=⟨by rw [j7];exact h.h⟩
structure Nf {α:Type u} (a b:α):Prop where
 h:a=b
theorem Sim.nil:Sim [] []:=⟨rfl⟩
theorem Sim.blk{b:Nat}{cs cs':List Value}(h1:KR T T')(h2:KR cs cs')(n:Sim A B):Sim (jT b T cs::A) (jT b T' cs'::B):=⟨by rw [h1.h,h2.h,n.e]⟩
theorem Sim.row{a:Option Addr}{m' c:Nat}{sz':Nat}(h0:Ln m m')(h1:KR T T')(h3:KR sz sz')(h2:KR xs xs')(n:Sim A B):
 Sim (qi (.slice a m c) T enc sz xs::A) (qi (.slice a m' c) T' enc sz' xs'::B):=⟨by rw [h0.h,h1.h,h2.h,h3.h,n.e]⟩
theorem Sim.itU{v:Value}(n:Sim A B):Sim (itI R [v] S x::A) (itI R [v] S x::B):=⟨by rw [n.e]⟩
theorem Sim.nrow{a:Option Addr}{m' c:Nat}(h0:Ln m m')(h1:KR T T')(h2:KR xs xs')(n:Sim A B):
 Sim (nI T R (.slice a m c) S xs none::A) (nI T' R (.slice a m' c) S xs' none::B):=⟨by rw [h0.h,h1.h,h2.h,n.e]⟩
structure GC {ρ:Type} (h:List H) (f:Option ρ) (r:ρ) (Fs:List Fa) (L:List Item) (fr:Fr) (P:Program) (B:Func) (N:Nat) (w0:World) (Z:List Nat) (c:Code) (Q:Exit->Act->World->Prop):Prop where
 o:∀w,bC w0 Z Fs->St w0 Z w L->f=some r->CW P N c Q fr w
structure GQ {ρ:Type} (h:List H) (f:Option ρ) (r:ρ) (Fs:List Fa) (L:List Item) (fr:Fr) (P:Program) (B:Func) (N:Nat) (w0:World) (Z:List Nat) (e:Exit) (Q:Exit->Act->World->Prop):Prop where
 o:∀w,bC w0 Z Fs->St w0 Z w L->f=some r->QW N Q e fr w
structure GO {ρ:Type} (h:List H) (f:Option ρ) (r:ρ) (Fs:List Fa) (L:List Item) (fr:Fr) (P:Program) (B:Func) (N:Nat) (w0:World) (Z:List Nat) (l:List Oper) (i:Nat) (Q:Exit->Act->World->Prop):Prop where
 o:∀w,bC w0 Z Fs->St w0 Z w L->f=some r->OW P l N Q i fr w
def Rm(P:Program)(l:List Oper)(Q:Exit->Act->World->Prop)(c:Nat):Bool->Act->World->Prop
 |true,a,w=>Q .normal a w
 |false,a,w=>wpList P l.toArray Q (l.drop c) a w
structure GS {ρ:Type} (h:List H) (f:Option ρ) (r:ρ) (Fs:List Fa) (L:List Item) (fr:Fr) (P:Program) (B:Func) (N:Nat) (w0:World) (Z:List Nat) (l:List Oper) (i c:Nat) (m:Bool) (Q:Exit->Act->World->Prop):Prop where
 o:∀w,bC w0 Z Fs->St w0 Z w L->f=some r->OS P l N w (λa=>Rm P l Q c m a w) c i fr
structure Lk (Fs:List Fa) (L:List Item) (fr:Fr) (P:Program) (B:Func) (N:Nat) (w0:World) (Z:List Nat) (h:LH) (l:List Oper) (i:Nat) (v:Value):Prop where
 o:∃o d,vk l i=some o/\gd l fr o=some true/\o.dst=some d/\Nat.blt d N=true/\∀w,bC w0 Z Fs->St w0 Z w L->∀a,Rep N fr a->(execOp a.eval o).run P w=.ok (.value v) w
section
variable {ρ:Type} {h:LH} {hs hs':List H} {f:Option ρ} {r:ρ} {Fs Fs':List Fa} {L L':List Item} {fr:Fr} {P:Program} {B:Func} {N:Nat} {w0:World} {Z:List Nat} {c x y:Code} {Q:Exit->Act->World->Prop} {l:List Oper} {i:Nat} {e:Exit} {v:Value}
def dst(l:List Oper)(i:Nat):Nat:=match vk l i with
 |some o=>o.dst.getD 0
 |none=>0
theorem vl{o:Oper}{d:Nat}(h1:vk l i=some o)(h2:o.dst=some d):dst l i=d:=by simp [dst,h1,h2]
theorem GC.fx{α:Type}{k:α->List H}(x:α)(n:GC (k x) f r Fs L fr P B N w0 Z c Q):GC (.fx k::hs) f r Fs L fr P B N w0 Z c Q:=⟨n.o⟩
theorem GQ.fx{α:Type}{k:α->List H}(x:α)(n:GQ (k x) f r Fs L fr P B N w0 Z e Q):GQ (.fx k::hs) f r Fs L fr P B N w0 Z e Q:=⟨n.o⟩
theorem GO.fx{α:Type}{k:α->List H}(x:α)(n:GO (k x) f r Fs L fr P B N w0 Z l i Q):GO (.fx k::hs) f r Fs L fr P B N w0 Z l i Q:=⟨n.o⟩
theorem GS.fx{α:Type}{cc:Nat}{m:Bool}{k:α->List H}(x:α)(n:GS (k x) f r Fs L fr P B N w0 Z l i cc m Q):GS (.fx k::hs) f r Fs L fr P B N w0 Z l i cc m Q:=⟨n.o⟩
theorem GQ.nd:GQ (.nd::hs) none r Fs L fr P B N w0 Z e Q:=⟨λw a s e=>by cases e⟩
theorem GO.nd:GO (.nd::hs) none r Fs L fr P B N w0 Z l i Q:=⟨λw a s e=>by cases e⟩
def CY(id:Nat):Code->Option (List Oper)
 |.region i ⟨l⟩ _=>match Nat.beq i id with
  |true=>some l
  |false=>none
 |.seq x y=>match CY id x with
  |some l=>some l
  |none=>CY id y
 |.cond _ x y=>match CY id x with
  |some l=>some l
  |none=>CY id y
 |.block _ c=>CY id c
 |.loop c=>CY id c
 |_=>none
theorem GC.seq(n:GC hs f r Fs L fr P B N w0 Z x (Exit.then (y.wp P Q) Q)):GC hs f r Fs L fr P B N w0 Z (.seq x y) Q:=⟨λw a s e=>f4 (n.o w a s e)⟩
def rP(B:Func)(id:Nat):List Oper:=match B.body with
 |some c=>(CY id c).getD []
 |none=>[]
theorem GC.region{id:Nat}(n:GO hs f r Fs L fr P B N w0 Z l 0 Q):GC hs f r Fs L fr P B N w0 Z (.region id l.toArray false) Q:=⟨λw a s e=>f8 (n.o w a s e)⟩
theorem GC.still{id:Nat}(hm:KR (P.follows .mixedOrders) true)(hB:KR (Region.lexB .any l.toArray) true)(n:GS hs f r Fs L fr P B N w0 Z l 0 l.length true Q):GC (.sl::hs) f r Fs L fr P B N w0 Z (.region id l.toArray true) Q:=
 ⟨λw a s e=>CW.still hm.h hB.h λw1 hc=>n.o w1 a (s.same hc) e⟩
theorem GC.tail{id c:Nat}(hm:KR (P.follows .mixedOrders) true)(hB:KR (Region.lexTailB .any l.toArray c) true)(n:GS hs f r Fs L fr P B N w0 Z l 0 c false Q):GC (.tl c::hs) f r Fs L fr P B N w0 Z (.region id l.toArray true) Q:=
 ⟨λw a s e=>CW.tail c hm.h hB.h λw1 hc=>n.o w1 a (s.same hc) e⟩
theorem GC.skip(n:GQ hs f r Fs L fr P B N w0 Z .normal Q):GC hs f r Fs L fr P B N w0 Z .skip Q:=⟨λw a s e=>t7 (n.o w a s e)⟩
theorem GC.exit{id:Nat}(n:GQ hs f r Fs L fr P B N w0 Z (.exit id) Q):GC hs f r Fs L fr P B N w0 Z (.exit id) Q:=⟨λw a s e=>CW.exit (n.o w a s e)⟩
theorem GC.ret(n:GQ hs f r Fs L fr P B N w0 Z .ret Q):GC hs f r Fs L fr P B N w0 Z .ret Q:=⟨λw a s e=>o4 (n.o w a s e)⟩
theorem GC.block{id:Nat}(n:GC hs f r Fs L fr P B N w0 Z c (Exit.inBlock id Q)):GC hs f r Fs L fr P B N w0 Z (.block id c) Q:=⟨λw a s e=>CW.block (n.o w a s e)⟩
theorem GC.ct{q:Operand}(hc:KR (look fr q) (some (.bool true)))(n:GC hs f r Fs L fr P B N w0 Z x Q):GC (.ct::hs) f r Fs L fr P B N w0 Z (.cond q x y) Q:=⟨λw a s e=>o8 hc.h rfl (n.o w a s e)⟩
theorem GC.cf{q:Operand}(hc:KR (look fr q) (some (.bool false)))(n:GC hs f r Fs L fr P B N w0 Z y Q):GC (.cf::hs) f r Fs L fr P B N w0 Z (.cond q x y) Q:=⟨λw a s e=>p7 hc.h rfl (n.o w a s e)⟩
theorem GC.br{q:Operand}{b:Bool}{A A':Option ρ}{hs1 hs2:List H}(hc:KR (look fr q) (some (.bool b)))(n1:GC hs1 A r Fs L fr P B N w0 Z x Q)(n2:GC hs2 A' r Fs L fr P B N w0 Z y Q):
  GC (.br hs1 hs2::hs) (@ite _ (b=true) (instDecidableEqBool b true) A A') r Fs L fr P B N w0 Z (.cond q x y) Q:=⟨λw a s e=>by
 rcases zft b with hb|hb
 ·exact o8 hc.h hb (n1.o w a s (rJ e hb))
 ·exact p7 hc.h hb (n2.o w a s (rK e hb))⟩
theorem GC.rgB{arr:Array Oper}(hR:KR arr (rP B id).toArray)(n:GO hs f r Fs L fr P B N w0 Z (rP B id) 0 Q):GC hs f r Fs L fr P B N w0 Z (.region id arr false) Q:=by have:=hR.h;subst this;exact GC.region n
theorem GC.stB{arr:Array Oper}(hR:KR arr (rP B id).toArray)(hm:KR (P.follows .mixedOrders) true)(hB:KR (Region.lexB .any (rP B id).toArray) true)(n:GS hs f r Fs L fr P B N w0 Z (rP B id) 0 (rP B id).length true Q):GC (.sl::hs) f r Fs L fr P B N w0 Z (.region id arr true) Q:=by have:=hR.h;subst this;exact GC.still hm hB n
theorem GC.tlB{c:Nat}{arr:Array Oper}(hR:KR arr (rP B id).toArray)(hm:KR (P.follows .mixedOrders) true)(hB:KR (Region.lexTailB .any (rP B id).toArray c) true)(n:GS hs f r Fs L fr P B N w0 Z (rP B id) 0 c false Q):GC (.tl c::hs) f r Fs L fr P B N w0 Z (.region id arr true) Q:=by have:=hR.h;subst this;exact GC.tail hm hB n
theorem GQ.next(n:GC hs f r Fs L fr P B N w0 Z y Q):GQ hs f r Fs L fr P B N w0 Z .normal (Exit.then (y.wp P Q) Q):=⟨λw a s e=>f5 (n.o w a s e)⟩
theorem GQ.then_exit{id:Nat}{K:Act->World->Prop}(n:GQ hs f r Fs L fr P B N w0 Z (.exit id) Q):GQ hs f r Fs L fr P B N w0 Z (.exit id) (Exit.then K Q):=⟨λw a s e=>y9 (n.o w a s e)⟩
theorem GQ.then_ret{K:Act->World->Prop}(n:GQ hs f r Fs L fr P B N w0 Z .ret Q):GQ hs f r Fs L fr P B N w0 Z .ret (Exit.then K Q):=⟨λw a s e=>ya (n.o w a s e)⟩
theorem GQ.block_normal{id:Nat}(n:GQ hs f r Fs L fr P B N w0 Z .normal Q):GQ hs f r Fs L fr P B N w0 Z .normal (Exit.inBlock id Q):=⟨λw a s e=>yt (n.o w a s e)⟩
theorem GQ.block_ret{id:Nat}(n:GQ hs f r Fs L fr P B N w0 Z .ret Q):GQ hs f r Fs L fr P B N w0 Z .ret (Exit.inBlock id Q):=⟨λw a s e=>QW.block_ret (n.o w a s e)⟩
theorem GQ.block_here{id:Nat}(n:GQ hs f r Fs L fr P B N w0 Z .normal Q):GQ hs f r Fs L fr P B N w0 Z (.exit id) (Exit.inBlock id Q):=⟨λw a s e=>QW.block_here (n.o w a s e)⟩
theorem GQ.block_on{id id':Nat}(hne:KR (Nat.beq id' id) false)(n:GQ hs f r Fs L fr P B N w0 Z (.exit id') Q):GQ hs f r Fs L fr P B N w0 Z (.exit id') (Exit.inBlock id Q):=⟨λw a s e=>QW.block_on hne.h (n.o w a s e)⟩
theorem GO.look{hh:H}(h1:Lk Fs L fr P B N w0 Z h l i v)(n:GO hs f r Fs L ((dst l i,v)::fr) P B N w0 Z l (i+1) Q):GO (hh::hs) f r Fs L fr P B N w0 Z l i Q:=⟨λw a s e=>by
 obtain ⟨o,d,hl,hg,hd,hN,hr⟩:=h1.o;have:=n.o w a s e;rw [vl hl hd] at this;exact j6 hl hg hd hN (hr w a s) this⟩
theorem GS.look{hh:H}{c:Nat}{m:Bool}(h1:Lk Fs L fr P B N w0 Z h l i v)(hc:KR (Nat.blt i c) true)(n:GS hs f r Fs L ((dst l i,v)::fr) P B N w0 Z l (i+1) c m Q):GS (hh::hs) f r Fs L fr P B N w0 Z l i c m Q:=⟨λw a s e=>by
 obtain ⟨o,d,hl,hg,hd,hN,hr⟩:=h1.o;have:=n.o w a s e;rw [vl hl hd] at this;exact OS.op hl hc.h hg hd hN (hr w a s) this⟩
def chF(P:Program)(l:List Oper)(N n i:Nat)(fr:Fr):Fr:=(kF P l N n i fr).getD fr
theorem GO.p{n:Nat}(hc:KR (kF P l N n i fr).isSome true)(k:GO hs f r Fs L (chF P l N n i fr) P B N w0 Z l (i+n) Q):GO (.p n::hs) f r Fs L fr P B N w0 Z l i Q:=⟨λw a s e=>by
 have h2:=k.o w a s e;have h1:=hc.h;unfold chF at h2;cases hh:kF P l N n i fr with
 |none=>rw [hh] at h1;cases h1
 |some q=>rw [hh] at h2;exact Fp n i fr hh h2⟩
theorem GS.p{n c:Nat}{m:Bool}(hc:KR (kF P l N n i fr).isSome true)(hn:KR (Nat.ble (i+n) c) true)(k:GS hs f r Fs L (chF P l N n i fr) P B N w0 Z l (i+n) c m Q):GS (.p n::hs) f r Fs L fr P B N w0 Z l i c m Q:=⟨λw a s e=>by
 have h2:=k.o w a s e;have h1:=hc.h;unfold chF at h2;cases hh:kF P l N n i fr with
 |none=>rw [hh] at h1;cases h1
 |some q=>rw [hh] at h2;exact Ft n i fr hh (q8 hn.h) h2⟩
theorem EA:∀{l:List Oper} {i:Nat},l.length<=i->vk l i=none
 |[],_,_=>rfl
 |_::_,0,h=>absurd h (by simp)
 |_::r,i+1,h=>EA (l:=r) (i:=i) (by simp at h;omega)
theorem GO.nil(hc:KR (kF P l N (l.length-i) i fr).isSome true)(n:GQ hs f r Fs L (chF P l N (l.length-i) i fr) P B N w0 Z .normal Q):GO (.fi::hs) f r Fs L fr P B N w0 Z l i Q:=
 ⟨(GO.p (B:=B) (hs:=hs) hc ⟨λw a s e=>f7 (EA (by omega)) (n.o w a s e)⟩).o⟩
theorem GS.fin{c:Nat}(hi:KR (Nat.ble i c) true)(hc:KR (kF P l N (c-i) i fr).isSome true)(n:GQ hs f r Fs L (chF P l N (c-i) i fr) P B N w0 Z .normal Q):GS (.fi::hs) f r Fs L fr P B N w0 Z l i c true Q:=
 have h:=q8 hi.h
 ⟨(GS.p (B:=B) (hs:=hs) hc ⟨u7 (by omega)⟩ ⟨λw a s e=>OS.fin (u7 (by omega)) (n.o w a s e)⟩).o⟩
theorem GS.on{c:Nat}(hi:KR (Nat.ble i c) true)(hc:KR (kF P l N (c-i) i fr).isSome true)(n:GO hs f r Fs L (chF P l N (c-i) i fr) P B N w0 Z l c Q):GS (.fi::hs) f r Fs L fr P B N w0 Z l i c false Q:=
 have h:=q8 hi.h;have e0:i+(c-i)=c:=by omega
 ⟨(GS.p (B:=B) (hs:=hs) hc ⟨u7 (by omega)⟩ ⟨λw a s e=>by rw [e0];exact OS.on (n.o w a s e)⟩).o⟩
def okO(l:List Oper)(N:Nat)(fr:Fr)(i:Nat):Option Oper:=match vk l i with
 |none=>none
 |some o=>match gd l fr o,o.dst with
  |some true,some d=>match Nat.blt d N with
   |true=>some o
   |false=>none
  |_,_=>none
theorem jD{o:Oper}(h:okO l N fr i=some o):∃d,vk l i=some o/\gd l fr o=some true/\o.dst=some d/\Nat.blt d N=true:=by
 grind [okO]
def ldC(P:Program)(l:List Oper)(N:Nat)(fr:Fr)(i:Nat):Option Addr:=match okO l N fr i with
 |some ⟨_,.load t x,_,_,_,_⟩=>match aj P (isAgg t),look fr x with
  |some false,some (.pointer (some a))=>some a
  |_,_=>none
 |_=>none
def MN(P:Program)(l:List Oper)(N:Nat)(fr:Fr)(i n:Nat):Option Addr:=match okO l N fr i with
 |some ⟨_,.load t x,_,_,_,_⟩=>match aj P (isAgg t),aj P (sizeOf t),look fr x with
  |some true,some m,some (.pointer (some a))=>match Nat.beq m n with
   |true=>some a
   |false=>none
  |_,_,_=>none
 |_=>none
theorem Lk.ofLd(hc:ldC P l N fr i=some a)(hv:∀w,bC w0 Z Fs->St w0 Z w L->w.cell? a=some v):Lk Fs L fr P B N w0 Z h l i v:=by
 unfold ldC at hc;split at hc
 ·rename_i d t x _ _ _ _ ho
  split at hc
  ·rename_i a' hA hx
   cases hc
   obtain ⟨d,hl,hg,hd,hN⟩:=jD ho
   exact ⟨_,d,hl,hg,hd,hN,λw hF s b hb=>by
    simp only [execOp];rw [hb.look hx];have:=oW (P:=P) hA (hv w hF s);simp [this]⟩
  ·cases hc
 ·cases hc
theorem Lk.ofLdN{b k:Nat}{cs:List Value}(hc:MN P l N fr i cs.length=some ⟨b,k,none⟩)(hv:∀w,bC w0 Z Fs->St w0 Z w L->∀j u,cs[j]? =some u->w.cell? ⟨b,k+j,none⟩=some u):
  Lk Fs L fr P B N w0 Z h l i (.agg cs.toArray):=by
 unfold MN at hc;split at hc
 ·rename_i d t x _ _ _ _ ho
  split at hc
  ·rename_i m a' hA hs hx
   split at hc
   ·rename_i hm
    cases hc
    have hm:=t6 hm;subst hm;obtain ⟨d,hl,hg,hd,hN⟩:=jD ho
    exact ⟨_,d,hl,hg,hd,hN,λw hF s b' hb=>by
     simp only [execOp];rw [hb.look hx];have:=oX (P:=P) hA hs (hv w hF s);simp [this]⟩
   ·cases hc
  ·cases hc
 ·cases hc
structure Cel (Fs:List Fa) (L:List Item) (w0:World) (Z:List Nat) (h:LH) (a:Addr) (v:Value):Prop where
 o:∀w,bC w0 Z Fs->St w0 Z w L->w.cell? a=some v
structure pW (Fs:List Fa) (L:List Item) (w0:World) (Z:List Nat) (h:LH) (b k:Nat) (cs:List Value):Prop where
 o:∀w,bC w0 Z Fs->St w0 Z w L->∀j u,cs[j]? =some u->w.cell? ⟨b,k+j,none⟩=some u
theorem Cel.ld{j k b:Nat}{T:TypeId}{cs:List Value}(hj:nth L j=some (jT b T cs))(hv:nth cs k=some v):Cel Fs L w0 Z (.ld j k) ⟨b,k,none⟩ v:=
 ⟨λw _ s=>s.blk j (by rw [<- zP];exact hj) (by grind [zP])⟩
theorem pW.lN{j k n b:Nat}{T:TypeId}{cs us:List Value}(hj:nth L j=some (jT b T cs))(hv:Hn cs k n=some us):pW Fs L w0 Z (.lN j k n) b k us:=
 ⟨λw _ s q u hu=>s.blk j (by rw [<- zP];exact hj) ((fZ hv).2 q u hu)⟩
theorem Cel.le{α:Type}{e q ff g o sz:Nat}{v' u:Value}{enc:α->List Value}{xs:List α}{t:Int}{x:α}(he:nth Fs e=some (.rd v' enc sz xs))(hq:nth Fs q=some (.el v' g o t xs x))(hu:nth (enc x) ff=some u):
  Cel Fs L w0 Z (.le e q ff) ⟨g,o+t.toNat*sz+ff,none⟩ u:=
 ⟨λw a s=>by
  obtain ⟨h1,c,h2⟩:=zz a hq;exact Rd.cellv (zz a he) s h1 h2 ff u (by rw [<- zP];exact hu)⟩
theorem pW.lE{α:Type}{e q ff n g o sz:Nat}{v':Value}{us:List Value}{enc:α->List Value}{xs:List α}{t:Int}{x:α}(he:nth Fs e=some (.rd v' enc sz xs))(hq:nth Fs q=some (.el v' g o t xs x))(hu:Hn (enc x) ff n=some us):
  pW Fs L w0 Z (.lE e q ff n) g (o+t.toNat*sz+ff) us:=⟨λw a s j u hj=>by
 obtain ⟨h1,c,h2⟩:=zz a hq;rw [yq];exact Rd.cellv (zz a he) s h1 h2 (ff+j) u ((fZ hu).2 j u hj)⟩
theorem Cel.lr{α:Type}{j q ff g o sz:Nat}{T:TypeId}{v' u:Value}{enc:α->List Value}{xs xs':List α}{t:Int}{x:α}(he:nth L j=some (qi v' T enc sz xs'))(hq:nth Fs q=some (.el v' g o t xs x))(hxx:KR xs' xs)(hz:∀x,KR (enc x).length sz)(hu:nth (enc x) ff=some u):
  Cel Fs L w0 Z (.lr j q ff) ⟨g,o+t.toNat*sz+ff,none⟩ u:=
 ⟨λw a s=>by
  have he:=he;rw [hxx.h] at he;obtain ⟨h1,c,h2⟩:=zz a hq;exact s.rowc j (by rw [<- zP];exact he) (λx=>(hz x).h) h1 h2 ff u (by grind [zP])⟩
theorem pW.lR{α:Type}{j q ff n g o sz:Nat}{T:TypeId}{v':Value}{us:List Value}{enc:α->List Value}{xs xs':List α}{t:Int}{x:α}(he:nth L j=some (qi v' T enc sz xs'))(hq:nth Fs q=some (.el v' g o t xs x))(hxx:KR xs' xs)(hz:∀x,KR (enc x).length sz)(hu:Hn (enc x) ff n=some us):
  pW Fs L w0 Z (.lR j q ff n) g (o+t.toNat*sz+ff) us:=⟨λw a s j' u hj=>by
 have he:=he;rw [hxx.h] at he;obtain ⟨h1,c,h2⟩:=zz a hq;rw [yq];exact s.rowc j (by rw [<- zP];exact he) (λx=>(hz x).h) h1 h2 (ff+j') u ((fZ hu).2 j' u hj)⟩
theorem Lk.l1(hv:Cel Fs L w0 Z h a v)(hc:KR (ldC P l N fr i) (some a)):Lk Fs L fr P B N w0 Z h l i v:=Lk.ofLd hc.h hv.o
theorem Lk.lm{b k:Nat}{cs:List Value}(hv:pW Fs L w0 Z h b k cs)(hc:KR (MN P l N fr i cs.length) (some ⟨b,k,none⟩)):Lk Fs L fr P B N w0 Z h l i (.agg cs.toArray):=Lk.ofLdN hc.h hv.o
structure LkV (Fs:List Fa) (fr:Fr) (P:Program) (B:Func) (N:Nat) (w0:World) (Z:List Nat) (h:LH) (l:List Oper) (i:Nat) (v:Value):Prop where
 o:∃o d,vk l i=some o/\gd l fr o=some true/\o.dst=some d/\Nat.blt d N=true/\ax o.op=true/\(bC w0 Z Fs->∀w a,Rep N fr a->(execOp a.eval o).run P w=.ok (.value v) w)
theorem Lk.lv(hv:LkV Fs fr P B N w0 Z h l i v):Lk Fs L fr P B N w0 Z h l i v:=by
 obtain ⟨o,d,h1,h2,h3,h4,_,h6⟩:=hv.o;exact ⟨o,d,h1,h2,h3,h4,λw a _=>h6 a w⟩
def ixC(P:Program)(l:List Oper)(N:Nat)(fr:Fr)(i:Nat):Option (Value×Int×Nat):=match okO l N fr i with
 |some ⟨_,.indexAddr t x y,_,_,_,_⟩=>match P.underlying t,look fr x,look fr y with
  |some (.slice e),some v,some (.int _ q)=>match aj P (sizeOf e) with
   |some sz=>some (v,q,sz)
   |none=>none
  |_,_,_=>none
 |_=>none
theorem LkV.ix{α:Type}{q sz g o:Nat}{v':Value}{xs:List α}{t:Int}{x:α}(hq:nth Fs q=some (.el v' g o t xs x))(hc:KR (ixC P l N fr i) (some (v',t,sz))):LkV Fs fr P B N w0 Z (.ix q sz) l i (.pointer (some ⟨g,o+t.toNat*sz,none⟩)):=by
 have hc:=hc.h;unfold ixC at hc;split at hc
 ·rename_i d t' X Y _ _ _ _ ho
  split at hc
  ·rename_i e v'' kd q' ht hx hy
   split at hc
   ·rename_i sz' hs
    cases hc
    obtain ⟨d,hl,hg,hd,hN⟩:=jD ho;refine ⟨_,d,hl,hg,hd,hN,rfl,λa w b hb=> ?_⟩;obtain ⟨h1,c,rfl⟩:=zz a hq;obtain ⟨h2,h3,_⟩:=zU h1;simp [execOp,Instr.indexAt,hb.look hx,hb.look hy,asIntOf,run_underlying ht,h2,h3,qV hs,dy]
   ·cases hc
  ·cases hc
 ·cases hc
theorem GO.k{a:Addr}(hv:Cel Fs L w0 Z h a v)(hc:KR (ldC P l N fr i) (some a))(n:GO hs f r Fs L ((dst l i,v)::fr) P B N w0 Z l (i+1) Q):GO (.k h::hs) f r Fs L fr P B N w0 Z l i Q:=GO.look (h:=h) (Lk.l1 hv hc) n
theorem GO.km{b k:Nat}{cs:List Value}(hv:pW Fs L w0 Z h b k cs)(hc:KR (MN P l N fr i cs.length) (some ⟨b,k,none⟩))(n:GO hs f r Fs L ((dst l i,.agg cs.toArray)::fr) P B N w0 Z l (i+1) Q):GO (.km h::hs) f r Fs L fr P B N w0 Z l i Q:=GO.look (h:=h) (Lk.lm hv hc) n
theorem GO.kv(hv:LkV Fs fr P B N w0 Z h l i v)(n:GO hs f r Fs L ((dst l i,v)::fr) P B N w0 Z l (i+1) Q):GO (.kv h::hs) f r Fs L fr P B N w0 Z l i Q:=GO.look (h:=h) (Lk.lv hv) n
theorem GS.k{a:Addr}{c:Nat}{m:Bool}(hv:Cel Fs L w0 Z h a v)(hc:KR (ldC P l N fr i) (some a))(hb:KR (Nat.blt i c) true)(n:GS hs f r Fs L ((dst l i,v)::fr) P B N w0 Z l (i+1) c m Q):GS (.k h::hs) f r Fs L fr P B N w0 Z l i c m Q:=GS.look (h:=h) (Lk.l1 hv hc) hb n
theorem GS.km{b k c:Nat}{m:Bool}{cs:List Value}(hv:pW Fs L w0 Z h b k cs)(hc:KR (MN P l N fr i cs.length) (some ⟨b,k,none⟩))(hb:KR (Nat.blt i c) true)(n:GS hs f r Fs L ((dst l i,.agg cs.toArray)::fr) P B N w0 Z l (i+1) c m Q):GS (.km h::hs) f r Fs L fr P B N w0 Z l i c m Q:=GS.look (h:=h) (Lk.lm hv hc) hb n
theorem GS.kv{c:Nat}{m:Bool}(hv:LkV Fs fr P B N w0 Z h l i v)(hb:KR (Nat.blt i c) true)(n:GS hs f r Fs L ((dst l i,v)::fr) P B N w0 Z l (i+1) c m Q):GS (.kv h::hs) f r Fs L fr P B N w0 Z l i c m Q:=GS.look (h:=h) (Lk.lv hv) hb n
inductive Pn|c (a:Addr) (v:Value)|n (b k:Nat) (cs:List Value)
def Pn.Φ:Pn->World->Prop
 |.c a v,w=>w.cell? a=some v
 |.n b k cs,w=>∀j u,cs[j]? =some u->w.cell? ⟨b,k+j,none⟩=some u
def pdF:List (Nat×Pn)->na
 |[]=>[]
 |p::r=>(p.1,p.2.Φ)::pdF r
def CZ(keep:List Nat):List (Nat×Pn)->Option (List (Nat×Pn))
 |[]=>some []
 |p::r=>match mem? p.1 keep,CZ keep r with
  |true,some q=>some (p::q)
  |false,some q=>some q
  |_,none=>none
theorem rQ{keep:List Nat}:∀{pd q:List (Nat×Pn)},CZ keep pd=some q->lD keep (pdF pd)=pdF q
 |[],q,h=>by cases h;rfl
 |p::r,q,h=>by
  unfold CZ at h;split at h
  ·rename_i q' h1 h2;cases h;simp [pdF,lD,h1,rQ h2]
  ·rename_i q' h1 h2;cases h;simp [pdF,lD,h1,rQ h2]
  ·cases h
structure GP {ρ:Type} (h:List H) (f:Option ρ) (r:ρ) (Fs:List Fa) (L:List Item) (fr:Fr) (P:Program) (B:Func) (N:Nat) (w0:World) (Z:List Nat) (l:List Oper) (done eff:List Nat) (pd:List (Nat×Pn)) (Q:Exit->Act->World->Prop):Prop where
 o:∀w,bC w0 Z Fs->St w0 Z w L->f=some r->OA P l N Q done eff (pdF pd) fr w
section
variable {done eff:List Nat} {pd:List (Nat×Pn)}
theorem GP.fx{α:Type}{k:α->List H}(x:α)(n:GP (k x) f r Fs L fr P B N w0 Z l done eff pd Q):GP (.fx k::hs) f r Fs L fr P B N w0 Z l done eff pd Q:=⟨n.o⟩
theorem GC.plan{id:Nat}(hm:KR (P.follows .mixedOrders) true)(n:GP hs f r Fs L fr P B N w0 Z l [] [] [] Q):GC (.pl::hs) f r Fs L fr P B N w0 Z (.region id l.toArray true) Q:=
 ⟨λw a s e=>CW.plan hm.h λw1 hc=>n.o w1 a (s.same hc) e⟩
theorem GC.plB{arr:Array Oper}(hR:KR arr (rP B id).toArray)(hm:KR (P.follows .mixedOrders) true)(n:GP hs f r Fs L fr P B N w0 Z (rP B id) [] [] [] Q):GC (.pl::hs) f r Fs L fr P B N w0 Z (.region id arr true) Q:=by have:=hR.h;subst this;exact GC.plan hm n
theorem GP.fin(hp:KR (Ar l) true)(ha:KR (Rg l done) true)(n:GQ hs f r Fs L fr P B N w0 Z .normal Q):GP (.fi::hs) f r Fs L fr P B N w0 Z l done eff pd Q:=⟨λw a s e=>OA.fin hp.h ha.h (n.o w a s e)⟩
def ciF(P:Program)(l:List Oper)(N:Nat)(eff is done:List Nat)(fr:Fr):Fr:=(mC P l N eff is done fr).getD fr
theorem GP.p{is:List Nat}(hc:KR (mC P l N eff is done fr).isSome true)(n:GP hs f r Fs L (ciF P l N eff is done fr) P B N w0 Z l (Qt is done) eff pd Q):GP (.q is::hs) f r Fs L fr P B N w0 Z l done eff pd Q:=⟨λw a s e=>by
 have h2:=n.o w a s e;have h1:=hc.h;unfold ciF at h2;cases hh:mC P l N eff is done fr with
 |none=>rw [hh] at h1;cases h1
 |some q=>rw [hh] at h2;exact Fw is done fr hh h2⟩
theorem GP.l1(hv:Cel Fs L w0 Z h a v)(hc:KR (ldC P l N fr i) (some a))(hk:KR (JA l done eff i) true)(n:GP hs f r Fs L ((dst l i,v)::fr) P B N w0 Z l (i::done) eff ((i,.c a v)::pd) Q):GP (.l i h::hs) f r Fs L fr P B N w0 Z l done eff pd Q:=⟨λw al s e=>by
 have hc:=hc.h;have h2:=n.o w al s e;unfold ldC at hc;split at hc
 ·rename_i d t x _ _ _ _ ho
  split at hc
  ·rename_i a' hA hx
   cases hc
   obtain ⟨d,hl,hg,hd,hN⟩:=jD ho;simp only at hd;subst hd;rw [vl hl rfl] at h2;exact OA.ld hl hk.h hg hN hx hA (hv.o w al s) h2
  ·cases hc
 ·cases hc⟩
theorem GP.lm{b k:Nat}{cs:List Value}(hv:pW Fs L w0 Z h b k cs)(hc:KR (MN P l N fr i cs.length) (some ⟨b,k,none⟩))(hk:KR (JA l done eff i) true)(n:GP hs f r Fs L ((dst l i,.agg cs.toArray)::fr) P B N w0 Z l (i::done) eff ((i,.n b k cs)::pd) Q):GP (.lm i h::hs) f r Fs L fr P B N w0 Z l done eff pd Q:=⟨λw al s e=>by
 have hc:=hc.h;have h2:=n.o w al s e;unfold MN at hc;split at hc
 ·rename_i d t x _ _ _ _ ho
  split at hc
  ·rename_i m a' hA hs' hx
   split at hc
   ·rename_i hm
    cases hc
    have hm:=t6 hm;subst hm;obtain ⟨d,hl,hg,hd,hN⟩:=jD ho;simp only at hd;subst hd;rw [vl hl rfl] at h2;exact OA.ldN hl hk.h hg hN cs hx hA hs' (hv.o w al s) h2
   ·cases hc
  ·cases hc
 ·cases hc⟩
theorem GP.lv(hv:LkV Fs fr P B N w0 Z h l i v)(hk:KR (JA l done eff i) true)(n:GP hs f r Fs L ((dst l i,v)::fr) P B N w0 Z l (i::done) eff pd Q):GP (.lv i h::hs) f r Fs L fr P B N w0 Z l done eff pd Q:=⟨λw al s e=>by
 obtain ⟨o,d,hl,hg,hd,hN,hn,hr⟩:=hv.o;have h2:=n.o w al s e;rw [vl hl hd] at h2;exact OA.val hl hk.h hn hg hd hN (λb w hb=>hr al w b hb) h2⟩
theorem GP.sp{q:Nat}{b:Bool}{A A':Option ρ}{hs1 hs2:List H}(hc:KR (kE fr q) (some (.bool b)))(n1:GP hs1 A r Fs L ((q,.bool true)::fr) P B N w0 Z l done eff pd Q)(n2:GP hs2 A' r Fs L ((q,.bool false)::fr) P B N w0 Z l done eff pd Q):
  GP (.sp q hs1 hs2::hs) (@ite _ (b=true) (instDecidableEqBool b true) A A') r Fs L fr P B N w0 Z l done eff pd Q:=⟨λw a s e=>
 OA.split q hc.h (λhb=>n1.o w a s (rJ e hb)) (λhb=>n2.o w a s (rK e hb))⟩
def uF(l:List Oper)(i:Nat):Oper:=match vk l i with
 |some o=>bare o
 | none=>⟨none,.ready 0,0, "",#[],none⟩
def gdI(l:List Oper)(fr:Fr)(i:Nat):Option Bool:=match vk l i with
 |some o=>gd l fr o
 |none=>none
theorem GP.ac{keep:List Nat}{pd2:List (Nat×Pn)}(hk:CZ keep pd=some pd2)(hp:KR (Ar l) true)(hg:KR (gdI l fr i) (some true))(hck:KR (Q0 l done eff i) true)(hkb:KR (uB l i keep (pdF pd)) true)
  (n:GO hs f r Fs L fr P B N w0 Z [uF l i] 0 (mB P l Q (i::done) (i::eff) (pdF pd2))):GP (.ac i keep::hs) f r Fs L fr P B N w0 Z l done eff pd Q:=⟨λw a s e=>by
 have hg:=hg.h;have h2:=n.o w a s e;unfold gdI at hg;unfold uF at h2;split at hg
 ·rename_i o ho
  rw [ho] at h2;rw [<- rQ hk] at h2;exact OA.act keep hp.h ho hg hck.h hkb.h h2
 ·cases hg⟩
theorem Alt.g{keep:List Nat}{pd2:List (Nat×Pn)}{w:World}(hk:CZ keep pd=some pd2)(hg:gdI l fr i=some true)(hck:Gw l done eff i=true)(hkb:uB l i keep (pdF pd)=true)
  (n:OW P [uF l i] N (mB P l Q (i::done) (i::eff) (pdF pd2)) 0 fr w):Alt P l N Q done eff (pdF pd) fr w i:=by
 grind [gdI,uF,rQ,Alt.of]
theorem GP.a2{i':Nat}{keep keep':List Nat}{pd2 pd3:List (Nat×Pn)}{hs1 hs2:List H}(hk:CZ keep pd=some pd2)(hk':CZ keep' pd=some pd3)(hp:KR (Ar l) true)(hi:KR (mem? i [i,i']&& !mem? i done&&decide (Nat.blt i l.length=true)) true)(hsat:KR (Rh l done [i,i']) true)
  (hg:KR (gdI l fr i) (some true)) (hck:KR (Gw l done eff i) true) (hkb:KR (uB l i keep (pdF pd)) true) (hg':KR (gdI l fr i') (some true)) (hck':KR (Gw l done eff i') true) (hkb':KR (uB l i' keep' (pdF pd)) true)
  (n1:GO hs1 f r Fs L fr P B N w0 Z [uF l i] 0 (mB P l Q (i::done) (i::eff) (pdF pd2))) (n2:GO hs2 f r Fs L fr P B N w0 Z [uF l i'] 0 (mB P l Q (i'::done) (i'::eff) (pdF pd3))):
  GP (.a2 i keep i' keep' hs1 hs2::hs) f r Fs L fr P B N w0 Z l done eff pd Q:=⟨λw a s e=>
 OA.acts [i,i'] i hp.h hi.h hsat.h (Cj (Alt.g hk hg.h hck.h hkb.h (n1.o w a s e)) (Cj (Alt.g hk' hg'.h hck'.h hkb'.h (n2.o w a s e)) Lt))⟩
structure CC (hh:List LH) (Fs:List Fa) (L:List Item) (w0:World) (Z:List Nat) (pd:List (Nat×Pn)):Prop where
 o:∀w,bC w0 Z Fs->St w0 Z w L->holds (pdF pd) w
theorem CC.nil:CC [] Fs L w0 Z []:=⟨λ_ _ _=>trivial⟩
theorem CC.c1{hh:List LH}(h1:Cel Fs L w0 Z h a v)(n:CC hh Fs L w0 Z pd):CC (h::hh) Fs L w0 Z ((j,.c a v)::pd):=⟨λw a s=>⟨h1.o w a s,n.o w a s⟩⟩
theorem CC.n1{hh:List LH}{b k:Nat}{cs:List Value}(h1:pW Fs L w0 Z h b k cs)(n:CC hh Fs L w0 Z pd):CC (h::hh) Fs L w0 Z ((j,.n b k cs)::pd):=⟨λw a s=>⟨h1.o w a s,n.o w a s⟩⟩
theorem CC.kq{α:Type}{hh:List LH}{j q:Nat}{a:Addr}{o:Option α}{V W:α->Value}{x:α}{ee:∀x,o=some x->V x=W x}{v1 v0:Value}(h1:Cel Fs L w0 Z h a v1)(hq:nth Fs q=some (.oe o x))(hv:KR v1 (V x))(hw:KR v0 (W x))(n:CC hh Fs L w0 Z pd):CC (.kq h q ee::hh) Fs L w0 Z ((j,.c a v0)::pd):=⟨λw al s=>⟨by
 have:=h1.o w al s;rw [hv.h,ee x (zz al hq),<- hw.h] at this;exact this,n.o w al s⟩⟩
theorem GO.nx{hh:List LH}{o:Oper}(hH:CC hh Fs L w0 Z pd)(n:GP hs f r Fs L fr P B N w0 Z l done eff pd Q):GO (.nx hh::hs) f r Fs L fr P B N w0 Z [o] (0+1) (mB P l Q done eff (pdF pd)):=⟨λw a s e=>
 OA.next (hH.o w a s) (n.o w a s e)⟩
end
def FN:List Value->Bool
 |[]=>false
 |_::_=>true
theorem JR{cs:List Value}(h:FN cs=true):∃u,cs[0]? =some u:=match cs,h with
 |_::_,_=>⟨_,rfl⟩
theorem MO{e:Nat}{t:Int}{x:α}(he:nth Fs e=some (.rd v' enc sz xs))(hp:∀x,KR (FN (enc x)) true)(a:bC w0 Z Fs)(hx:idx xs t=some x):
  ∃g o,(Fa.el v' g o t xs x).ok w0 Z:=by
 obtain ⟨b,o,c,h⟩:=Rd.formv (zz a he) (λx=>JR (hp x).h) hx;exact ⟨b,o,hx,c,h⟩
theorem GO.bi{α:Type}{e sz:Nat}{v':Value}{enc:α->List Value}{xs:List α}{t:Int}{k:α->Option ρ}{Fs1:α->Nat->Nat->List Fa}(he:nth Fs e=some (.rd v' enc sz xs))(hp:∀x,KR (FN (enc x)) true)
  (hF:∀x g o,vc Fs (.el v' g o t xs x)=some (Fs1 x g o)) (n:∀x g o,GO hs (k x) r (Fs1 x g o) L fr P B N w0 Z l i Q):GO (.bi e::hs) ((idx xs t).bind k) r Fs L fr P B N w0 Z l i Q:=⟨λw a s q=>by
 obtain ⟨x,hx,hk⟩:=zI q;obtain ⟨g,o,h1⟩:=MO he hp a hx;exact (n x g o).o w (jw a h1 (hF x g o)) s hk⟩
theorem GS.bi{α:Type}{e sz c:Nat}{m:Bool}{v':Value}{enc:α->List Value}{xs:List α}{t:Int}{k:α->Option ρ}{Fs1:α->Nat->Nat->List Fa}(he:nth Fs e=some (.rd v' enc sz xs))(hp:∀x,KR (FN (enc x)) true)
  (hF:∀x g o,vc Fs (.el v' g o t xs x)=some (Fs1 x g o)) (n:∀x g o,GS hs (k x) r (Fs1 x g o) L fr P B N w0 Z l i c m Q):GS (.bi e::hs) ((idx xs t).bind k) r Fs L fr P B N w0 Z l i c m Q:=⟨λw a s q=>by
 obtain ⟨x,hx,hk⟩:=zI q;obtain ⟨g,o,h1⟩:=MO he hp a hx;exact (n x g o).o w (jw a h1 (hF x g o)) s hk⟩
theorem GO.bo{α:Type}{j sz:Nat}{T:TypeId}{v':Value}{enc:α->List Value}{xs xs':List α}{t:Int}{k:α->Option ρ}{Fs1:α->Nat->Nat->List Fa}(he:nth L j=some (qi v' T enc sz xs'))(hxx:KR xs' xs)
  (hF:∀x g o,vc Fs (.el v' g o t xs x)=some (Fs1 x g o)) (n:∀x g o,GO hs (k x) r (Fs1 x g o) L fr P B N w0 Z l i Q):GO (.bo j::hs) ((idx xs t).bind k) r Fs L fr P B N w0 Z l i Q:=⟨λw a s q=>by
 obtain ⟨x,hx,hk⟩:=zI q;have he:=he;rw [hxx.h] at he;obtain ⟨g,o,c,h1⟩:=s.rowv j (by rw [<- zP];exact he) hx
 exact (n x g o).o w (jw (F:=.el v' g o t xs x) a ⟨hx,c,h1⟩ (hF x g o)) s hk⟩
theorem GS.bo{α:Type}{j sz c:Nat}{m:Bool}{T:TypeId}{v':Value}{enc:α->List Value}{xs xs':List α}{t:Int}{k:α->Option ρ}{Fs1:α->Nat->Nat->List Fa}(he:nth L j=some (qi v' T enc sz xs'))(hxx:KR xs' xs)
  (hF:∀x g o,vc Fs (.el v' g o t xs x)=some (Fs1 x g o)) (n:∀x g o,GS hs (k x) r (Fs1 x g o) L fr P B N w0 Z l i c m Q):GS (.bo j::hs) ((idx xs t).bind k) r Fs L fr P B N w0 Z l i c m Q:=⟨λw a s q=>by
 obtain ⟨x,hx,hk⟩:=zI q;have he:=he;rw [hxx.h] at he;obtain ⟨g,o,c,h1⟩:=s.rowv j (by rw [<- zP];exact he) hx
 exact (n x g o).o w (jw (F:=.el v' g o t xs x) a ⟨hx,c,h1⟩ (hF x g o)) s hk⟩
theorem GP.bi{α:Type}{done eff:List Nat}{pd:List (Nat×Pn)}{e sz:Nat}{v':Value}{enc:α->List Value}{xs:List α}{t:Int}{k:α->Option ρ}{Fs1:α->Nat->Nat->List Fa}(he:nth Fs e=some (.rd v' enc sz xs))(hp:∀x,KR (FN (enc x)) true)
  (hF:∀x g o,vc Fs (.el v' g o t xs x)=some (Fs1 x g o)) (n:∀x g o,GP hs (k x) r (Fs1 x g o) L fr P B N w0 Z l done eff pd Q):GP (.bi e::hs) ((idx xs t).bind k) r Fs L fr P B N w0 Z l done eff pd Q:=⟨λw a s q=>by
 obtain ⟨x,hx,hk⟩:=zI q;obtain ⟨g,o,h1⟩:=MO he hp a hx;exact (n x g o).o w (jw a h1 (hF x g o)) s hk⟩
theorem GP.bo{α:Type}{done eff:List Nat}{pd:List (Nat×Pn)}{j sz:Nat}{T:TypeId}{v':Value}{enc:α->List Value}{xs xs':List α}{t:Int}{k:α->Option ρ}{Fs1:α->Nat->Nat->List Fa}(he:nth L j=some (qi v' T enc sz xs'))(hxx:KR xs' xs)
  (hF:∀x g o,vc Fs (.el v' g o t xs x)=some (Fs1 x g o)) (n:∀x g o,GP hs (k x) r (Fs1 x g o) L fr P B N w0 Z l done eff pd Q):GP (.bo j::hs) ((idx xs t).bind k) r Fs L fr P B N w0 Z l done eff pd Q:=⟨λw a s q=>by
 obtain ⟨x,hx,hk⟩:=zI q;have he:=he;rw [hxx.h] at he;obtain ⟨g,o,c,h1⟩:=s.rowv j (by rw [<- zP];exact he) hx
 exact (n x g o).o w (jw (F:=.el v' g o t xs x) a ⟨hx,c,h1⟩ (hF x g o)) s hk⟩
theorem GO.be{α:Type}{o:Option α}{k:α->Option ρ}{Fs1:α->List Fa}(hF:∀x,vc Fs (.oe o x)=some (Fs1 x))(n:∀x,GO hs (k x) r (Fs1 x) L fr P B N w0 Z l i Q):GO (.be::hs) (o.bind k) r Fs L fr P B N w0 Z l i Q:=⟨λw a s q=>by
 obtain ⟨x,hx,hk⟩:=zI q;exact (n x).o w (jw (F:=.oe o x) a hx (hF x)) s hk⟩
theorem GS.be{α:Type}{c:Nat}{m:Bool}{o:Option α}{k:α->Option ρ}{Fs1:α->List Fa}(hF:∀x,vc Fs (.oe o x)=some (Fs1 x))(n:∀x,GS hs (k x) r (Fs1 x) L fr P B N w0 Z l i c m Q):GS (.be::hs) (o.bind k) r Fs L fr P B N w0 Z l i c m Q:=⟨λw a s q=>by
 obtain ⟨x,hx,hk⟩:=zI q;exact (n x).o w (jw (F:=.oe o x) a hx (hF x)) s hk⟩
theorem GP.be{α:Type}{done eff:List Nat}{pd:List (Nat×Pn)}{o:Option α}{k:α->Option ρ}{Fs1:α->List Fa}(hF:∀x,vc Fs (.oe o x)=some (Fs1 x))(n:∀x,GP hs (k x) r (Fs1 x) L fr P B N w0 Z l done eff pd Q):GP (.be::hs) (o.bind k) r Fs L fr P B N w0 Z l done eff pd Q:=⟨λw a s q=>by
 obtain ⟨x,hx,hk⟩:=zI q;exact (n x).o w (jw (F:=.oe o x) a hx (hF x)) s hk⟩
theorem GC.be{α:Type}{o:Option α}{k:α->Option ρ}{Fs1:α->List Fa}(hF:∀x,vc Fs (.oe o x)=some (Fs1 x))(n:∀x,GC hs (k x) r (Fs1 x) L fr P B N w0 Z c Q):GC (.be::hs) (o.bind k) r Fs L fr P B N w0 Z c Q:=⟨λw a s q=>by
 obtain ⟨x,hx,hk⟩:=zI q;exact (n x).o w (jw (F:=.oe o x) a hx (hF x)) s hk⟩
inductive Ex:{ι:Type}->ι->Prop
 |u:Ex ()
 |p {A B:Type} {a:A} {b:B}:Ex b->Ex (a,b)
def JC(N:Nat)(w0:World)(Z:List Nat)(frf:σ->ι->Fr)(Lf:σ->ι->List Item)(fcs:σ->ι->List Fa)(x:σ):Act->World->Prop:=λa w=>∃i,Rep N (frf x i) a/\St w0 Z w (Lf x i)/\bC w0 Z (fcs x i)
def JS(N:Nat)(w0:World)(Z:List Nat)(frf:σ->ι->Fr)(Lf:σ->ι->List Item)(fcs:σ->ι->List Fa)(x:σ⊕τ):Act->World->Prop:=λa w=>∃s i,x=.inl s/\Rep N (frf s i) a/\St w0 Z w (Lf s i)/\bC w0 Z (fcs s i)
def lw{α:Type u}:List α->List α->Option (List α)
 |[],b=>some b
 |x::r,b=>match lw r b with
  |some q=>some (x::q)
  |none=>none
theorem bJ{α:Type u}:∀{l b q:List α},lw l b=some q->q=l++b
 |[],b,q,h=>by cases h;rfl
 |x::r,b,q,h=>by
  unfold lw at h;split at h
  ·rename_i e;cases h;rw [bJ e];rfl
  ·cases h
theorem LY(w0:World)(Z:List Nat):∀{A B:List Fa},bC w0 Z A->bC w0 Z B->bC w0 Z (A++B)
 |[],_,_,h=>h
 |_::_,_,h,k=>⟨h.1,LY w0 Z h.2 k⟩
theorem lI{w0:World}{Z:List Nat}{A B q:List Fa}(h:lw A B=some q)(h1:bC w0 Z A)(h2:bC w0 Z B):bC w0 Z q:=by rw [bJ h];exact LY w0 Z h1 h2
structure JT (src:List Src) (Fs:List Fa) (Fin:List Fa):Prop where
 g:∀w0 Z,bC w0 Z Fs->bC w0 Z Fin
theorem JT.nil:JT [] Fs []:=⟨λ_ _ _=>trivial⟩
theorem GC.ck{keep:List Nat}{chg:σ->ι->Fr}{fcs Fs2:σ->ι->List Fa}{hs1:List H}{o:Option σ}{k:σ->Option ρ}(hL:∀x i,LX L kI (its x i)=some (Lf x i))(hF2:∀x i,lw Fs (fcs x i)=some (Fs2 x i))
  (n1:∀x,GC hs1 o x Fs L fr P B N w0 Z c (Exit.then (JC N w0 Z (λx i=>pick fr keep (chg x i)) Lf fcs x) Q))
  (n2:∀x i,GQ hs (k x) r (Fs2 x i) (Lf x i) (pick fr keep (chg x i)) P B N w0 Z .normal Q):GC (.cK keep chg kI its fcs hs1::hs) (o.bind k) r Fs L fr P B N w0 Z c Q:=⟨λw a s q=>by
 obtain ⟨x,hx,hk⟩:=zI q;refine CW.cutQ _ ((n1 x).o w a s hx) λb w1 ⟨i,hb,s1,f1⟩=> ?_
 exact ((n2 x i).o w1 (lI (hF2 x i) a f1) s1 hk).go hb⟩
theorem GC.cs{keep:List Nat}{chg:σ->ι->Fr}{fcs Fs2:σ->ι->List Fa}{hs1:List H}{o:Option (σ⊕τ)}{k:σ⊕τ->Option ρ}{Fs1:σ⊕τ->List Fa}(hL:∀x i,LX L kI (its x i)=some (Lf x i))(hF2:∀x i,lw Fs (fcs x i)=some (Fs2 x i))
  (hF:∀x,vc Fs (.po k x r)=some (Fs1 x))
  (n1:∀x,GC hs1 o x (Fs1 x) L fr P B N w0 Z c (Exit.then (JS N w0 Z (λx i=>pick fr keep (chg x i)) Lf fcs x) Q))
  (n2:∀x i,GQ hs (k (.inl x)) r (Fs2 x i) (Lf x i) (pick fr keep (chg x i)) P B N w0 Z .normal Q):GC (.cS keep chg kI its fcs hs1::hs) (o.bind k) r Fs L fr P B N w0 Z c Q:=⟨λw a s q=>by
 obtain ⟨x,hx,hk⟩:=zI q;refine CW.cutQ _ ((n1 x).o w (jw (F:=.po k x r) a hk (hF x)) s hx) ?_;rintro b w1 ⟨y,i,rfl,hb,s1,f1⟩;exact ((n2 y i).o w1 (lI (hF2 y i) a f1) s1 hk).go hb⟩
theorem GC.dn{d:Nat}(n:GC (.dn d::hs) f r Fs L fr P B N w0 Z x (Exit.then (y.wp P Q) Q)):GC (.dn (d+1)::hs) f r Fs L fr P B N w0 Z (.seq x y) Q:=⟨λw a s e=>f4 (n.o w a s e)⟩
theorem GC.dk{keep:List Nat}{chg:σ->ι->Fr}{fcs Fs2:σ->ι->List Fa}{hs1:List H}{o:Option σ}{k:σ->Option ρ}(hL:∀x i,LX L kI (its x i)=some (Lf x i))(hF2:∀x i,lw Fs (fcs x i)=some (Fs2 x i))
 (n1:∀x,GC hs1 o x Fs L fr P B N w0 Z c (Exit.then (JC N w0 Z (λx i=>pick fr keep (chg x i)) Lf fcs x) Q))
 (n2:∀x i,GQ hs (k x) r (Fs2 x i) (Lf x i) (pick fr keep (chg x i)) P B N w0 Z .normal Q):GC (.dn 0::.cK keep chg kI its fcs hs1::hs) (o.bind k) r Fs L fr P B N w0 Z c Q:=⟨(GC.ck hL hF2 n1 n2).o⟩
theorem GC.ds{keep:List Nat}{chg:σ->ι->Fr}{fcs Fs2:σ->ι->List Fa}{hs1:List H}{o:Option (σ⊕τ)}{k:σ⊕τ->Option ρ}{Fs1:σ⊕τ->List Fa}(hL:∀x i,LX L kI (its x i)=some (Lf x i))(hF2:∀x i,lw Fs (fcs x i)=some (Fs2 x i))
 (hF:∀x,vc Fs (.po k x r)=some (Fs1 x))
 (n1:∀x,GC hs1 o x (Fs1 x) L fr P B N w0 Z c (Exit.then (JS N w0 Z (λx i=>pick fr keep (chg x i)) Lf fcs x) Q))
 (n2:∀x i,GQ hs (k (.inl x)) r (Fs2 x i) (Lf x i) (pick fr keep (chg x i)) P B N w0 Z .normal Q):GC (.dn 0::.cS keep chg kI its fcs hs1::hs) (o.bind k) r Fs L fr P B N w0 Z c Q:=⟨(GC.cs hL hF2 hF n1 n2).o⟩
theorem GQ.mt{Ff:List Fa}{src:List Src}{x x':σ}{j:ι}{frf:σ->ι->Fr}{fcs:σ->ι->List Fa}(hi:Ex j)(hL:fP L ids []=some Lq)(hN:Nf (Lf x' j) L2)(hS:Sim Lq L2)(hNf:Nf (fcs x' j) Ff)(hR:JT src Fs Ff)(hd:KR (zQ ids) true)
  (hf:KR (oV fr (aQ [] (frf x' j))) (iC (aQ [] (frf x' j)))):GQ (.mT ids src::hs) (some x') x Fs L fr P B N w0 Z .normal (Exit.then (JC N w0 Z frf Lf fcs x) Q):=⟨λw a s q b hb=>by
 cases q
 refine ⟨j,hb.agrees hf.h,?_,by rw [hNf.h];exact hR.g w0 Z a⟩
 have:=xk hL;rw [hS.e,<- hN.h] at this;rw [i9] at this;rw [this];exact s.keep ids hd.h⟩
theorem GQ.ms{Ff:List Fa}{src:List Src}{x:σ⊕τ}{x':σ}{j:ι}{frf:σ->ι->Fr}{fcs:σ->ι->List Fa}(hi:Ex j)(hL:fP L ids []=some Lq)(hN:Nf (Lf x' j) L2)(hS:Sim Lq L2)(hNf:Nf (fcs x' j) Ff)(hR:JT src Fs Ff)(hd:KR (zQ ids) true)
  (hf:KR (oV fr (aQ [] (frf x' j))) (iC (aQ [] (frf x' j)))):GQ (.mT ids src::hs) (some (.inl x')) x Fs L fr P B N w0 Z .normal (Exit.then (JS N w0 Z frf Lf fcs x) Q):=⟨λw a s q b hb=>by
 cases q
 refine ⟨x',j,rfl,hb.agrees hf.h,?_,by rw [hNf.h];exact hR.g w0 Z a⟩
 have:=xk hL;rw [hS.e,<- hN.h] at this;rw [i9] at this;rw [this];exact s.keep ids hd.h⟩
theorem GQ.pop{σ τ:Type}{q:Nat}{x x':σ}{k:σ->Option τ}{r':τ}{Q:Exit->Act->World->Prop}(hq:nth Fs q=some (.po k x r'))(n:GQ hs (k x') r' Fs L fr P B N w0 Z .ret Q):GQ (.pop q::hs) (some x') x Fs L fr P B N w0 Z .ret Q:=⟨λw a s e=>by
 cases e
 exact n.o w a s (zz a hq)⟩
def JL{ρ:Type}(N:Nat)(w0:World)(Z:List Nat)(frf:Value->σ->ι->Fr)(Lf:σ->ι->List Item)(fcs:σ->ι->List Fa)(n:Nat)(F:Nat->Nat->σ->Option ρ)(r:ρ)(m:Nat):Act->World->Prop:=
 λa w=>∃k s i,k+m=n/\F m k s=some r/\Rep N (frf (.int .i64 ((k:Nat):Int)) s i) a/\St w0 Z w (Lf s i)/\bC w0 Z (fcs s i)
structure Bn (b:BH) (Fs:List Fa) (L:List Item) (n:Nat):Prop where
 o:∀w0 Z w,bC w0 Z Fs->St w0 Z w L->n<=9223372036854775807
theorem Bn.f1{e:Nat}(he:nth Fs e=some (.rd v' enc sz xs))(hn:KR xs.length n):Bn (.f e) Fs L n:=⟨λw0 Z w a s=>by have:=(Rd.len (zz a he)).1;have h2:=hn.h;omega⟩
theorem Bn.d1{e:Nat}(he:nth Fs e=some (.rn v' R xs))(hn:KR xs.length n):Bn (.d e) Fs L n:=⟨λw0 Z w a s=>by have:=(RdN.len (zz a he)).1;have h2:=hn.h;omega⟩
theorem Bn.oo{e:Nat}(he:nth L e=some (qi v' T enc sz xs))(hn:KR xs.length n):Bn (.o e) Fs L n:=⟨λw0 Z w a s=>by have:=(s.len e (by rw [<- zP];exact he)).1;have h2:=hn.h;omega⟩
theorem Bn.n1{e:Nat}{ho:Option (Nat×List Value)}(he:nth L e=some (nI T R v' S xs ho))(hn:KR xs.length n):Bn (.n e) Fs L n:=⟨λw0 Z w a s=>by have:=(s.nlen e (by rw [<- zP];exact he)).1;have h2:=hn.h;omega⟩
theorem Bn.l1(hn:KR (Nat.ble n 9223372036854775807) true):Bn .l Fs L n:=⟨λ_ _ _ _ _=>q8 hn.h⟩
theorem Bn.r1{q:Nat}{u:Unit}(he:nth Fs q=some (.oe (room n 1) u)):Bn (.r q) Fs L n:=⟨λw0 Z w a s=>by have h:room n 1=some u:=zz a he;have:=pK h;omega⟩
theorem Bn.c1{q:Nat}{b:BH}{ys:List α}{lo hi:Int}(he:nth Fs q=some (.oe (cut xs lo hi) ys))(h:Bn b Fs L xs.length)(hn:KR ys.length n):Bn (.c q b) Fs L n:=⟨λw0 Z w a s=>by
 have h1:cut xs lo hi=some ys:=zz a he;have h2:=h.o w0 Z w a s;have h3:=P8 h1;have h4:=hn.h;omega⟩
theorem GC.lb{Lq L2:List Item}{Ff:List Fa}{σ ι:Type}{keep kI ids:List Nat}{chg:σ->ι->Fr}{its Lf:σ->ι->List Item}{fcs:σ->ι->List Fa}{src:List Src}{b:BH}{ct:Nat}{body:Nat->(σ->Option ρ)->σ->Option ρ}{out:σ->ρ}{n:Nat}{s0:σ}{i0:ι}{Fs0:Nat->Nat->List Fa}{Fs1:Nat->Nat->σ->ι->List Fa}
  (hn:Bn b Fs L n) (hi:Ex i0)
  (hL:∀s i,LX L kI (its s i)=some (Lf s i)) (hL0:fP L ids []=some Lq) (hN:Nf (Lf s0 i0) L2) (hS:Sim Lq L2) (hNf:Nf (fcs s0 i0) Ff) (hR:JT src Fs Ff) (hd:KR (zQ ids) true)
  (hf:KR (oV fr (aQ [] (pick fr keep ((ct,.int .i64 0)::chg s0 i0)))) (iC (aQ [] (pick fr keep ((ct,.int .i64 0)::chg s0 i0)))))
  (hF:∀m k,vc Fs (.ct k m n)=some (Fs0 m k)) (hF2:∀m k s i,lw (Fs0 m k) (fcs s i)=some (Fs1 m k s i))
  (n1:∀m k s i,GC hs (jN body out m k s) r (Fs1 m k s i) (Lf s i) (pick fr keep ((ct,.int .i64 ((k:Nat):Int))::chg s i)) P B N w0 Z c
   (Exit.then (λa w=>∃q,q<m/\JL N w0 Z (λu s i=>pick fr keep ((ct,u)::chg s i)) Lf fcs n (jN body out) r q a w) Q)):
  GC (.lb b ct keep chg kI its fcs ids src::hs) (jN body out n 0 s0) r Fs L fr P B N w0 Z (.loop c) Q:=⟨λw a s e=>by
 have hnn:=hn.o w0 Z w a s;refine CW.loop (JL N w0 Z (λu s i=>pick fr keep ((ct,u)::chg s i)) Lf fcs n (jN body out) r) n (λb hb=>⟨0,s0,i0,x4 _,e,hb.agrees hf.h,?_,by rw [hNf.h];exact hR.g w0 Z a⟩) ?_
 ·have:=xk hL0;rw [hS.e,<- hN.h] at this;rw [i9] at this;rw [this];exact s.keep ids hd.h
 ·rintro m b w1 ⟨k,s,i,h1,h2,h3,h4,h5⟩;exact ((n1 m k s i).o w1 (lI (hF2 m k s i) (jw (F:=.ct k m n) a ⟨h1,hnn⟩ (hF m k)) h5) h4 h2).go h3⟩
theorem GC.lc{σ:Type}{e m k n:Nat}{q:Operand}{hs1 hs2:List H}{body:Nat->(σ->Option ρ)->σ->Option ρ}{out:σ->ρ}{s:σ}{Q:Nat->Exit->Act->World->Prop}{Fs1:Nat->List Fa}
  (he:nth Fs e=some (.ct k m n)) (hc:KR (look fr q) (some (.bool (decide (((k:Nat):Int)<((n:Nat):Int))))))
  (hF:∀m,dc Fs e (.ct k (m+1) n)=some (Fs1 m))
  (n1:∀m,GC hs1 (body k (jN body out m (k+1)) s) r (Fs1 m) L fr P B N w0 Z x (Q (m+1)))
  (n2:GC hs2 (some (out s)) r Fs L fr P B N w0 Z y (Q m)):GC (.lc e hs1 hs2::hs) (jN body out m k s) r Fs L fr P B N w0 Z (.cond q x y) (Q m):=⟨λw a st q=>by
 have h1:=zz a he;cases m with
 |zero=>exact p7 hc.h (decide_eq_false (by have:=h1.1;omega)) (n2.o w a st q)
 |succ m=>exact o8 hc.h (decide_eq_true (by have:=h1.1;omega)) ((n1 m).o w (Ez a h1 (hF m)) st q)⟩
theorem GQ.bk{Ff:List Fa}{e k:Nat}{src:List Src}{body:Nat->(σ->Option ρ)->σ->Option ρ}{out:σ->ρ}{s':σ}{j:ι}{frf:Value->σ->ι->Fr}{fcs:σ->ι->List Fa}
  (he:nth Fs e=some (.ct k (m+1) n)) (hi:Ex j) (hL:fP L ids []=some Lq) (hN:Nf (Lf s' j) L2) (hS:Sim Lq L2) (hNf:Nf (fcs s' j) Ff) (hR:JT src Fs Ff) (hd:KR (zQ ids) true)
  (hf:KR (oV fr (aQ [] (frf (.int .i64 (w64 (((k:Nat):Int)+1))) s' j))) (iC (aQ [] (frf (.int .i64 (w64 (((k:Nat):Int)+1))) s' j)))):
  GQ (.bK e ids src::hs) (jN body out m (k+1) s') r Fs L fr P B N w0 Z .normal (Exit.then (λa w=>∃q,q<m+1/\JL N w0 Z frf Lf fcs n (jN body out) r q a w) Q):=⟨λw a s q b hb=>by
 obtain ⟨h1,h2⟩:=zz a he;have h3:=hb.agrees hf.h;rw [Fu (i:=k) (n:=n) (by omega) h2] at h3;refine ⟨m,zls m,k+1,s',j,by omega,q,h3,?_,by rw [hNf.h];exact hR.g w0 Z a⟩
 have:=xk hL;rw [hS.e,<- hN.h] at this;rw [i9] at this;rw [this];exact s.keep ids hd.h⟩
def RQ{ρ:Type}(w0:World)(Z:List Nat)(post:ρ->ι->Value×List Item)(r:ρ):Ending->World->Prop:=λe w=>∃i,e=.returned (post r i).1/\St w0 Z w (post r i).2
structure Ctr {ρ ι:Type} (P:Program) (k:FuncId) (args:List Value) (Fs:List Fa) (L:List Item) (f:Option ρ) (post:ρ->ι->Value×List Item):Prop where
 c:∀w r,bC w (fp L) Fs->St w (fp L) w L->f=some r->Calls P k args.toArray w (RQ w (fp L) post r)
structure OC {ρ:Type} (P:Program) (k:FuncId) (args:List Value) (Fs:List Fa) (L:List Item) (f:Option ρ) (R:World->List Nat->ρ->Ending->World->Prop):Prop where
 c:∀w r,bC w (fp L) Fs->St w (fp L) w L->f=some r->Calls P k args.toArray w (R w (fp L) r)
theorem Ctr.w{ρ ι:Type}{P:Program}{k:FuncId}{args:List Value}{Fs:List Fa}{L:List Item}{f:Option ρ}{post:ρ->ι->Value×List Item}(h:OC P k args Fs L f (λw Z r=>RQ w Z post r)):Ctr P k args Fs L f post:=⟨h.c⟩
def RO{ρ:Type}(w0:World)(Z:List Nat)(sel:ρ->Option κ)(post0:ρ->ι0->Value×List Item)(post1:ρ->κ->ι1->Value×List Item)(r:ρ):Ending->World->Prop:=vB (sel r) (RQ w0 Z post0 r) (λk=>RQ w0 Z (λr i=>post1 r k i) r)
structure AB {ρ κ ι0 ι1:Type} (P:Program) (k:FuncId) (args:List Value) (Fs:List Fa) (L:List Item) (f:Option ρ) (sel:ρ->Option κ) (post0:ρ->ι0->Value×List Item) (post1:ρ->κ->ι1->Value×List Item):Prop where
 c:∀w r,bC w (fp L) Fs->St w (fp L) w L->f=some r->Calls P k args.toArray w (RO w (fp L) sel post0 post1 r)
theorem AB.w{ρ κ ι0 ι1:Type}{P:Program}{k:FuncId}{args:List Value}{Fs:List Fa}{L:List Item}{f:Option ρ}{sel:ρ->Option κ}{post0:ρ->ι0->Value×List Item}{post1:ρ->κ->ι1->Value×List Item}(h:OC P k args Fs L f (λw Z r=>RO w Z sel post0 post1 r)):AB P k args Fs L f sel post0 post1:=⟨h.c⟩
theorem Ho{ρ:Type}{w0 w:World}{Z:List Nat}{sel:ρ->Option κ}{post0:ρ->ι0->Value×List Item}{post1:ρ->κ->ι1->Value×List Item}{r:ρ}{e:Ending}(h:sel r=none)(k:RO w0 Z sel post0 post1 r e w):RQ w0 Z post0 r e w:=by
 unfold RO at k;rw [h] at k;exact k
theorem Hp{ρ:Type}{w0 w:World}{Z:List Nat}{sel:ρ->Option κ}{post0:ρ->ι0->Value×List Item}{post1:ρ->κ->ι1->Value×List Item}{r:ρ}{e:Ending}{q:κ}(h:sel r=some q)(k:RO w0 Z sel post0 post1 r e w):RQ w0 Z (λr i=>post1 r q i) r e w:=by
 unfold RO at k;rw [h] at k;exact k
theorem JU{ρ:Type}{w0 w:World}{Z:List Nat}{sel:ρ->Option κ}{post0:ρ->ι0->Value×List Item}{post1:ρ->κ->ι1->Value×List Item}{r:ρ}{e:Ending}(h:sel r=none)(k:RQ w0 Z post0 r e w):RO w0 Z sel post0 post1 r e w:=by
 unfold RO;rw [h];exact k
theorem JV{ρ:Type}{w0 w:World}{Z:List Nat}{sel:ρ->Option κ}{post0:ρ->ι0->Value×List Item}{post1:ρ->κ->ι1->Value×List Item}{r:ρ}{e:Ending}{q:κ}(h:sel r=some q)(k:RQ w0 Z (λr i=>post1 r q i) r e w):RO w0 Z sel post0 post1 r e w:=by
 unfold RO;rw [h];exact k
structure OZ {ρ κ ι0 ι1:Type} (P:Program) (k:FuncId) (args:List Value) (Fs:List Fa) (L:List Item) (f:Option ρ) (sel:ρ->Option κ) (post0:ρ->ι0->Value×List Item) (post1:ρ->κ->ι1->Value×List Item):Prop where
 h:AB P k args Fs L f sel post0 post1
structure Qz {ρ ι:Type} (P:Program) (k:FuncId) (args:List Value) (Fs:List Fa) (L:List Item) (f:Option ρ) (post:ρ->ι->Value×List Item):Prop where
 h:Ctr P k args Fs L f post
def OD(fn:Func)(fr:Fr):Option Value:=match fn.results.toList with
 |[.tmp a]=>kE fr a
 |[.tmp a,.tmp b]=>match kE fr a,kE fr b with
  |some x,some y=>some (.tuple #[x,y])
  |_,_=>none
 |[.tmp a,.tmp b,.tmp c]=>match kE fr a,kE fr b,kE fr c with
  |some x,some y,some z=>some (.tuple #[x,y,z])
  |_,_,_=>none
 |_=>none
theorem GQ.rt{Lq L2:List Item}{ι:Type}{ids:List Nat}{x':ρ}{j:ι}{fn:Func}{post:ρ->ι->Value×List Item}(hi:Ex j)(hL:fP L ids []=some Lq)(hN:Nf (post x' j).2 L2)(hS:Sim Lq L2)(hd:KR (zQ ids) true)(hr:KR (OD fn fr) (some (post x' j).1)):
  GQ (.rt ids::hs) (some x') r Fs L fr P B N w0 Z .ret (bodyPost P fn (RQ w0 Z post r)):=⟨λw a s q=>by
 have q:=j4 q;subst q;have hr:=hr.h
 have hq:RQ w0 Z post x' (.returned (post x' j).1) w:=⟨j,rfl,by
  have:=xk hL;rw [hS.e,<- hN.h] at this;rw [i9] at this;rw [this];exact s.keep ids hd.h⟩
 unfold OD at hr;have hl:∀{l},fn.results.toList=l->fn.results=l.toArray:=λh=>by rw [<- h]
 split at hr
 ·rename_i a' e'
  exact s7 (hl e') hr hq
 ·rename_i a' b' e'
  split at hr
  ·rename_i x y h1 h2
   rw [<- j4 hr] at hq;exact QW.ret2 (hl e') h1 h2 hq
  ·cases hr
 ·rename_i a' b' c' e'
  split at hr
  ·rename_i x y z h1 h2 h4
   rw [<- j4 hr] at hq;exact QW.ret3 (hl e') h1 h2 h4 hq
  ·cases hr
 ·cases hr⟩
theorem GQ.rn{κ ι0 ι1:Type}{fn:Func}{x':ρ}{sel:ρ->Option κ}{post0:ρ->ι0->Value×List Item}{post1:ρ->κ->ι1->Value×List Item}(hn:KR (sel x') none)(n:GQ hs (some x') r Fs L fr P B N w0 Z .ret (bodyPost P fn (RQ w0 Z post0 r))):
  GQ (.rn::hs) (some x') r Fs L fr P B N w0 Z .ret (bodyPost P fn (RO w0 Z sel post0 post1 r)):=⟨λw a s e=>by
 have h:=n.o w a s e;have e:=j4 e;subst e;have e2:RO w0 Z sel post0 post1 x'=RQ w0 Z post0 x':=by unfold RO;rw [hn.h];rfl
 rw [e2];exact h⟩
theorem GQ.rs{κ ι0 ι1:Type}{k:κ}{fn:Func}{x':ρ}{sel:ρ->Option κ}{post0:ρ->ι0->Value×List Item}{post1:ρ->κ->ι1->Value×List Item}(hn:sel x'=some k)(n:GQ hs (some x') r Fs L fr P B N w0 Z .ret (bodyPost P fn (RQ w0 Z (λr i=>post1 r k i) r))):
  GQ (.rs::hs) (some x') r Fs L fr P B N w0 Z .ret (bodyPost P fn (RO w0 Z sel post0 post1 r)):=⟨λw a s e=>by
 have h:=n.o w a s e;have e:=j4 e;subst e;have e2:RO w0 Z sel post0 post1 x'=RQ w0 Z (λr i=>post1 r k i) x':=by unfold RO;rw [hn];rfl
 rw [e2];exact h⟩
theorem OC.start{k:FuncId}{args:List Value}{fn:Func}{R:World->List Nat->ρ->Ending->World->Prop}(hs:List H)(hf:P.funcs[k]? =some fn)(hb:fn.body=some c)(hN:fn.ntmps=N)(hz:KR (Nat.ble args.length N) true)
  (n:∀w0 Z r,GC hs f r Fs L (rx 0 args) P fn N w0 Z c (bodyPost P fn (R w0 Z r))):OC P k args Fs L f R:=⟨λw r a s q=>
 CW.start hf hb hN hz.h ((n w (fp L) r).o w a s q)⟩
structure Giv (src:List Src) (Fs:List Fa) (L:List Item) (js:List Nat) (Fin:List Fa):Prop where
 g:∀w0 Z w,bC w0 Z Fs->St w0 Z w L->bC w (fp (sel L js)) Fin
theorem Giv.nil:Giv [] Fs L js []:=⟨λ_ _ _ _ _=>trivial⟩
theorem Giv.rf{e:Nat}{src:List Src}{Fin:List Fa}(he:nth Fs e=some (.rd v' enc sz xs))(n:Giv src Fs L js Fin):Giv (.f e::src) Fs L js (.rd v' enc sz xs::Fin):=
 ⟨λw0 Z w a s=>⟨Rd.give (zz a he) s js,n.g w0 Z w a s⟩⟩
theorem Giv.ro{src:List Src}{Fin:List Fa}(he:nth L j=some (qi v' T enc sz xs'))(hz:∀x,KR (enc x).length sz)(hn:KR (mem? j js) false)(hxx:KR xs' xs)(n:Giv src Fs L js Fin):
  Giv (.o j::src) Fs L js (.rd v' enc sz xs::Fin):=
 ⟨λw0 Z w a s=>by
  have hj:L[j]? =some (qi v' T enc sz xs):=by rw [<- zP,<- hxx.h];exact he
  exact ⟨s.rd j hj (λx=>(hz x).h) js hn.h (s.len j hj).1,n.g w0 Z w a s⟩⟩
def pcC(P:Program)(l:List Oper)(N:Nat)(fr:Fr)(i:Nat):Option (FuncId×List Value):=match okO l N fr i with
 |some o=>I9 P fr o
 |none=>none
class HasC {σ:Type} (o:Option σ) (S:outParam Prop):Prop where
 c:S
theorem GO.ca{σ ι:Type}{S:Prop}{js rest:List Nat}{src:List Src}{kf:FuncId}{args:List Value}{o:Option σ}{k:σ->Option ρ}{post:σ->ι->Value×List Item}{Fin:List Fa}{Lin Lq Bq:List Item}{L1:σ->ι->List Item}[C:HasC o S]
  (hS:S->Qz P kf args Fin Lin o post) (hL:fP L js []=some Lq) (hM:Sim Lq Lin) (hg:Giv src Fs L js Fin) (hp:KR (pcC P l N fr i) (some (kf,args))) (hB:fP L rest []=some Bq) (hJ:∀x q,lw (post x q).2 Bq=some (L1 x q))
  (hd:KR (zQ (js++rest)) true) (n:∀x q,GO hs (k x) r Fs (L1 x q) ((dst l i,(post x q).1)::fr) P B N w0 Z l (i+1) Q):GO (.ca js src rest::hs) (o.bind k) r Fs L fr P B N w0 Z l i Q:=⟨λw a s q=>by
 obtain ⟨x,hx,hk⟩:=zI q;have hp:=hp.h;unfold pcC at hp;cases ho:okO l N fr i with
 |none=>rw [ho] at hp;cases hp
 |some op=>
  rw [ho] at hp;obtain ⟨d,hl,hg',hdd,hN⟩:=jD ho;have e1:=xk hL;have e2:=xk hB;rw [hM.e] at e1;rw [i9] at e1 e2;subst e1 e2;refine OW.fn hl hg' hdd hN hp ((hS C.c).h.c w x (hg.g w0 Z w a s) (s.part js (by have:=hd.h;exact dt this)) hx) ?_
  rintro e w' ⟨i',rfl,s'⟩;refine ⟨_,rfl,?_⟩;have h3:=(n x i').o w' a (by rw [bJ (hJ x i')];exact s.join hd.h s') hk
  rw [vl hl hdd] at h3;exact h3⟩
theorem GO.ce{σ ι:Type}{S:Prop}{js rest:List Nat}{src:List Src}{kf:FuncId}{args:List Value}{o:Option σ}{k:σ->Option ρ}{post:σ->ι->Value×List Item}{Fin:List Fa}{Lin Lq Bq:List Item}{L1:σ->ι->List Item}{Fs1:σ->List Fa}[C:HasC o S]
  (hS:S->Qz P kf args Fin Lin o post) (hL:fP L js []=some Lq) (hM:Sim Lq Lin) (hg:Giv src Fs L js Fin) (hp:KR (pcC P l N fr i) (some (kf,args))) (hB:fP L rest []=some Bq) (hJ:∀x q,lw (post x q).2 Bq=some (L1 x q))
  (hd:KR (zQ (js++rest)) true) (hF:∀x,vc Fs (.oe o x)=some (Fs1 x)) (n:∀x q,GO hs (k x) r (Fs1 x) (L1 x q) ((dst l i,(post x q).1)::fr) P B N w0 Z l (i+1) Q):GO (.ce js src rest::hs) (o.bind k) r Fs L fr P B N w0 Z l i Q:=⟨λw a s q=>by
 obtain ⟨x,hx,hk⟩:=zI q;have hp:=hp.h;unfold pcC at hp;cases ho:okO l N fr i with
 |none=>rw [ho] at hp;cases hp
 |some op=>
  rw [ho] at hp;obtain ⟨d,hl,hg',hdd,hN⟩:=jD ho;have e1:=xk hL;have e2:=xk hB;rw [hM.e] at e1;rw [i9] at e1 e2;subst e1 e2;refine OW.fn hl hg' hdd hN hp ((hS C.c).h.c w x (hg.g w0 Z w a s) (s.part js (by have:=hd.h;exact dt this)) hx) ?_
  rintro e w' ⟨i',rfl,s'⟩;refine ⟨_,rfl,?_⟩;have h3:=(n x i').o w' (jw (F:=.oe o x) a hx (hF x)) (by rw [bJ (hJ x i')];exact s.join hd.h s') hk
  rw [vl hl hdd] at h3;exact h3⟩
end
section
variable {ρ:Type} {h:LH} {hs hs':List H} {f:Option ρ} {r:ρ} {Fs Fs':List Fa} {L L':List Item} {fr:Fr} {P:Program} {B:Func} {N:Nat} {w0:World} {Z:List Nat} {c x y:Code} {Q:Exit->Act->World->Prop} {l:List Oper} {i:Nat} {e:Exit} {v:Value}
theorem GO.sp{q:Nat}{b:Bool}{A A':Option ρ}{hs1 hs2:List H}(hc:KR (kE fr q) (some (.bool b)))(n1:GO hs1 A r Fs L ((q,.bool true)::fr) P B N w0 Z l i Q)(n2:GO hs2 A' r Fs L ((q,.bool false)::fr) P B N w0 Z l i Q):
  GO (.sp q hs1 hs2::hs) (@ite _ (b=true) (instDecidableEqBool b true) A A') r Fs L fr P B N w0 Z l i Q:=⟨λw a s e=>
 OW.split q hc.h (λhb=>n1.o w a s (rJ e hb)) (λhb=>n2.o w a s (rK e hb))⟩
theorem GS.sp{q c:Nat}{m:Bool}{b:Bool}{A A':Option ρ}{hs1 hs2:List H}(hc:KR (kE fr q) (some (.bool b)))(n1:GS hs1 A r Fs L ((q,.bool true)::fr) P B N w0 Z l i c m Q)(n2:GS hs2 A' r Fs L ((q,.bool false)::fr) P B N w0 Z l i c m Q):
  GS (.sp q hs1 hs2::hs) (@ite _ (b=true) (instDecidableEqBool b true) A A') r Fs L fr P B N w0 Z l i c m Q:=⟨λw a s e=>
 OS.split q hc.h (λhb=>n1.o w a s (rJ e hb)) (λhb=>n2.o w a s (rK e hb))⟩
def opT(l:List Oper)(i:Nat):TypeId:=match vk l i with
 |some ⟨_,.alloc e,_,_,_,_⟩=>e
 |some ⟨_,.box e _,_,_,_,_⟩=>e
 |_=>0
def alC(P:Program)(l:List Oper)(N:Nat)(fr:Fr)(i:Nat):Option (List Value):=match okO l N fr i with
 |some ⟨_,.alloc e,_,_,_,_⟩=>(aj P (zeroValue e)).map (·.cells.toList)
 |_=>none
def bxC(l:List Oper)(N:Nat)(fr:Fr)(i:Nat):Option Value:=match okO l N fr i with
 |some ⟨_,.box _ x,_,_,_,_⟩=>look fr x
 |_=>none
def QA(v:Option Value)(k:Nat):Value:=match v with
 |some (.agg ⟨cs⟩)=>cs.getD k undef
 |some v=>v
 |none=>undef
def wm(v:Option Value):Nat->Nat->Option (List Value)
 |_,0=>some []
 |k,m+1=>match wm v (k+1) m with
  |some q=>some (QA v k::q)
  |none=>none
def fQ(v:Option Value):Option (List Value):=match v with
 |some (.agg ⟨cs⟩)=>some cs
 |some v=>some [v]
 |none=>none
theorem lJ{v:Option Value}{cs:List Value}(h:fQ v=some cs):∃u,v=some u/\u.cells.toList=cs:=by
 unfold fQ at h;split at h
 ·cases h;exact ⟨_,rfl,rfl⟩
 ·rename_i v' hne
  cases h
  refine ⟨v',rfl,?_⟩;cases v'<;>first|rfl|exact absurd rfl (hne _)
 ·cases h
theorem GO.al{T:TypeId}{cs:List Value}{L1:Nat->List Item}(hT:KR (opT l i) T)(hc:KR (alC P l N fr i) (some cs))(hL:∀b,vc L (jT b T cs)=some (L1 b))
  (n:∀b,GO hs f r Fs (L1 b) ((dst l i,.pointer (some ⟨b,0,none⟩))::fr) P B N w0 Z l (i+1) Q):GO (.al T cs::hs) f r Fs L fr P B N w0 Z l i Q:=⟨λw a s q=>by
 have hc:=hc.h;unfold alC at hc;split at hc
 ·rename_i o' e' _ _ _ _ ho
  obtain ⟨d,hl,hg,hd,hN⟩:=jD ho;simp only at hd;subst hd;refine OW.alloc s hl hg hN cs hc λb w' s'=> ?_
  have h1:=(n b).o w' a (by
   rw [vI (hL b)];have:opT l i=e':=by simp [opT,hl]
   rw [<- hT.h,this];exact s') q
  rw [vl hl rfl] at h1;exact h1
 ·cases hc⟩
theorem GO.bx{T:TypeId}{m:Nat}{cs:List Value}{L1:Nat->List Item}(hT:KR (opT l i) T)(hv:wm (bxC l N fr i) 0 m=some cs)(hc:KR (fQ (bxC l N fr i)) (some cs))(hL:∀b,vc L (jT b T cs)=some (L1 b))
  (n:∀b,GO hs f r Fs (L1 b) ((dst l i,.pointer (some ⟨b,0,none⟩))::fr) P B N w0 Z l (i+1) Q):GO (.bx T m::hs) f r Fs L fr P B N w0 Z l i Q:=⟨λw a s q=>by
 obtain ⟨u,hu,hcs⟩:=lJ hc.h;unfold bxC at hu;split at hu
 ·rename_i o' e' x' _ _ _ _ ho
  obtain ⟨d,hl,hg,hd,hN⟩:=jD ho;simp only at hd;subst hd;refine OW.box s hl hg hN hu cs hcs λb w' s'=> ?_
  have h1:=(n b).o w' a (by
   rw [vI (hL b)];have:opT l i=e':=by simp [opT,hl]
   rw [<- hT.h,this];exact s') q
  rw [vl hl rfl] at h1;exact h1
 ·cases hu⟩
def stC(P:Program)(l:List Oper)(fr:Fr)(i n:Nat):Option Addr:=match vk l i with
 |some ⟨none,.store t x y,ty,pos,af,g⟩=>match gd l fr ⟨none,.store t x y,ty,pos,af,g⟩,look fr x,aj P (sizeOf t) with
  |some true,some (.pointer (some a)),some m=>match Nat.beq m n with
   |true=>some a
   |false=>none
  |_,_,_=>none
 |_=>none
def stV(l:List Oper)(fr:Fr)(i:Nat):Option Value:=match vk l i with
 |some ⟨_,.store _ _ y,_,_,_,_⟩=>look fr y
 |_=>none
def eM:List Value->List Value->Nat->Option (List Value)
 |cs,[],_=>some cs
 |[],_::_,_=>none
 |_::r,v::vs,0=>match eM r vs 0 with
  |some q=>some (v::q)
  |none=>none
 |u::r,v::vs,k+1=>match eM r (v::vs) k with
  |some q=>some (u::q)
  |none=>none
theorem bp:∀{cs vs q:List Value} {k:Nat},eM cs vs k=some q->vs≠ []->qG cs vs k=q/\k+vs.length<=cs.length
 |cs,[],q,k,h,hn=>absurd rfl hn
 |[],_::_,q,k,h,_=>by cases h
 |u::r,v::vs,q,0,h,_=>by
  unfold eM at h;split at h
  ·rename_i q' e
   cases h
   cases vs with
   |nil=>cases r<;>(cases e;simp [qG])
   |cons v2 vs=>
    obtain ⟨h1,h2⟩:=bp e (by simp)
    grind [qG]
  ·cases h
 |u::r,v::vs,q,k+1,h,_=>by
  unfold eM at h;split at h
  ·rename_i q' e
   cases h
   obtain ⟨h1,h2⟩:=bp e (by simp)
   grind [qG]
  ·cases h
theorem GO.st{j k m b:Nat}{T:TypeId}{cs us cs':List Value}{L1:List Item}(hj:nth L j=some (jT b T cs))(hv:wm (stV l fr i) 0 m=some us)(hs':eM cs us k=some cs')(hw:KR (fQ (stV l fr i)) (some us))(hc:KR (stC P l fr i m) (some ⟨b,k,none⟩))
  (hm:KR us.length m) (h1:KR (eA us) true) (h0:KR (FN us) true) (hL:dc L j (jT b T cs')=some L1) (n:GO hs f r Fs L1 fr P B N w0 Z l (i+1) Q):GO (.st j k m::hs) f r Fs L fr P B N w0 Z l i Q:=⟨λw a s q=>by
 have hc:=hc.h;obtain ⟨u,hu,hcs⟩:=lJ hw.h;unfold stC at hc;unfold stV at hu;split at hc
 ·rename_i t x' y' ty pos af g hl
  rw [hl] at hu;simp only at hu;split at hc
  ·rename_i a' m' hg hx hz
   split at hc
   ·rename_i hb
    have e1:=t6 hb;have e2:=hm.h;cases hc;obtain ⟨e3,e4⟩:=bp hs' (by intro e5;have:=h0.h;rw [e5] at this;cases this);refine OW.stB s j (by rw [<- zP];exact hj) hl hg hx hu (by grind) (by rw [hcs];exact h1.h) (by rw [hcs];exact u7 e4) cs' (by rw [hcs];exact e3) λw' s'=> ?_
    exact n.o w' a (by grind [qJ]) q
   ·cases hc
  ·cases hc
 ·cases hc⟩
def rvS(tmps:Array Value):ResultVar->Sem Value
 |.tmp t=>pure (tmps.getD t undef)
 |.cell c t=>do loadVar t (<- asAddr (tmps.getD c undef))
theorem pm(fn:Func)(tmps:Array Value):results fn tmps=(do
  let vs <- fn.results.mapM (rvS tmps)
  pure (if h:vs.size=1 then vs[0] else .tuple vs)):=by
 unfold results
 congr 1
structure RV (P:Program) (Fs:List Fa) (L:List Item) (fr:Fr) (w0:World) (Z:List Nat) (q:Nat×Nat×Nat) (rv:ResultVar) (v:Value):Prop where
 g:∀w N a,bC w0 Z Fs->St w0 Z w L->Rep N fr a->(rvS a.tmps rv).run P w=.ok v w
theorem RV.t{q:Nat×Nat×Nat}{t:Nat}(h:KR (kE fr t).isSome true):RV P Fs L fr w0 Z q (.tmp t) ((kE fr t).getD undef):=⟨λw N a _ _ hr=>by
 have h:=h.h;cases hh:kE fr t with
 |none=>rw [hh] at h;cases h
 |some u=>simp [rvS,yi,hr.get _ _ hh]⟩
theorem RV.cN{k b c:Nat}{t:TypeId}{cs us:List Value}(hj:nth L j=some (jT b T cs))(hv:Hn cs k (n+1)=some us)(h:KR (kE fr c) (some (.pointer (some ⟨b,k,none⟩))))(hA:KR (aj P (isAgg t)) (some true))(hz:KR (aj P (sizeOf t)) (some (n+1))):
  RV P Fs L fr w0 Z (j,k,n+1) (.cell c t) (.agg us.toArray):=⟨λw N a _ s hr=>by
 obtain ⟨h2,h3⟩:=fZ hv;have h1:∀q u,us[q]? =some u->w.cell? ⟨b,k+q,none⟩=some u:=λq u hq=>s.blk j (by rw [<- zP];exact hj) (h3 q u hq)
 have h4:=oX (P:=P) hA.h (by rw [hz.h,h2]) h1;simp [rvS,yi,hr.get _ _ h.h,D6 h4,asAddr,Sem.run_bind,Result.andThen]⟩
theorem GQ.rtN{x':ρ}{j:ι}{fn:Func}{post:ρ->ι->Value×List Item}{u:Value}{hh:H}(hL:fP L ids []=some Lq)(hN:Nf (post x' j).2 L2)(hS:Sim Lq L2)(hd:KR (zQ ids) true)(hu:KR u (post x' j).1)
  (hr:∀w a,bC w0 Z Fs->St w0 Z w L->Rep N fr a->(results fn a.tmps).run P w=.ok u w):
  GQ (hh::hs) (some x') r Fs L fr P B N w0 Z .ret (bodyPost P fn (RQ w0 Z post r)):=⟨λw a s q b hb=>by
 have q:=j4 q;subst q;refine ⟨hb.defers,u,hr w b a s hb,⟨j,by rw [hu.h],?_⟩⟩;have:=xk hL;rw [hS.e,<- hN.h] at this;rw [i9] at this;rw [this];exact s.keep ids hd.h⟩
theorem GQ.rc1{x':ρ}{j:ι}{fn:Func}{post:ρ->ι->Value×List Item}{r1:ResultVar}(hi:Ex j)(hL:fP L ids []=some Lq)(hN:Nf (post x' j).2 L2)(hS:Sim Lq L2)(hd:KR (zQ ids) true)
  (hf:fn.results= #[r1]) (h1:RV P Fs L fr w0 Z q1 r1 u1) (hu:KR u1 (post x' j).1):
  GQ (.rtc ids [q1]::hs) (some x') r Fs L fr P B N w0 Z .ret (bodyPost P fn (RQ w0 Z post r)):=
 GQ.rtN hL hN hS hd hu λw a hF s ha=>by
  have e1:=h1.g w N a hF s ha;rw [pm,hf];simp [Sem.run_bind,Result.andThen,e1]
theorem GQ.rc2{x':ρ}{j:ι}{fn:Func}{post:ρ->ι->Value×List Item}{u2:Value}{q2:Nat×Nat×Nat}{r1 r2:ResultVar}(hi:Ex j)(hL:fP L ids []=some Lq)(hN:Nf (post x' j).2 L2)(hS:Sim Lq L2)(hd:KR (zQ ids) true)
  (hf:fn.results= #[r1,r2]) (h1:RV P Fs L fr w0 Z q1 r1 u1) (h2:RV P Fs L fr w0 Z q2 r2 u2) (hu:KR (.tuple #[u1,u2]) (post x' j).1):
  GQ (.rtc ids [q1,q2]::hs) (some x') r Fs L fr P B N w0 Z .ret (bodyPost P fn (RQ w0 Z post r)):=
 GQ.rtN hL hN hS hd hu λw a hF s ha=>by
  have e1:=h1.g w N a hF s ha;have e2:=h2.g w N a hF s ha;rw [pm,hf];simp [Sem.run_bind,Result.andThen,e1,e2]
theorem GQ.rc3{x':ρ}{j:ι}{fn:Func}{post:ρ->ι->Value×List Item}{u2 u3:Value}{q2 q3:Nat×Nat×Nat}{r1 r2 r3:ResultVar}(hi:Ex j)(hL:fP L ids []=some Lq)(hN:Nf (post x' j).2 L2)(hS:Sim Lq L2)(hd:KR (zQ ids) true)
  (hf:fn.results= #[r1,r2,r3]) (h1:RV P Fs L fr w0 Z q1 r1 u1) (h2:RV P Fs L fr w0 Z q2 r2 u2) (h3:RV P Fs L fr w0 Z q3 r3 u3) (hu:KR (.tuple #[u1,u2,u3]) (post x' j).1):
  GQ (.rtc ids [q1,q2,q3]::hs) (some x') r Fs L fr P B N w0 Z .ret (bodyPost P fn (RQ w0 Z post r)):=
 GQ.rtN hL hN hS hd hu λw a hF s ha=>by
  have e1:=h1.g w N a hF s ha;have e2:=h2.g w N a hF s ha;have e3:=h3.g w N a hF s ha;rw [pm,hf];simp [Sem.run_bind,Result.andThen,e1,e2,e3]
theorem GQ.re{x':ρ}{j:ι}{fn:Func}{post:ρ->ι->Value×List Item}(hi:Ex j)(hL:fP L ids []=some Lq)(hN:Nf (post x' j).2 L2)(hS:Sim Lq L2)(hd:KR (zQ ids) true)
  (hf:fn.results= #[]) (hu:KR (.tuple #[]) (post x' j).1):
  GQ (.rte ids::hs) (some x') r Fs L fr P B N w0 Z .normal (bodyPost P fn (RQ w0 Z post r)):=⟨λw a s q=>by
 have q:=j4 q;subst q;refine QW.end0 hf ⟨j,by rw [<- hu.h],?_⟩;have:=xk hL;rw [hS.e,<- hN.h] at this;rw [i9] at this;rw [this];exact s.keep ids hd.h⟩
theorem GQ.r0{x':ρ}{j:ι}{fn:Func}{post:ρ->ι->Value×List Item}(hi:Ex j)(hL:fP L ids []=some Lq)(hN:Nf (post x' j).2 L2)(hS:Sim Lq L2)(hd:KR (zQ ids) true)
  (hf:fn.results= #[]) (hu:KR (.tuple #[]) (post x' j).1):
  GQ (.rte ids::hs) (some x') r Fs L fr P B N w0 Z .ret (bodyPost P fn (RQ w0 Z post r)):=⟨λw a s q=>by
 have q:=j4 q;subst q;refine QW.ret0 hf ⟨j,by rw [<- hu.h],?_⟩;have:=xk hL;rw [hS.e,<- hN.h] at this;rw [i9] at this;rw [this];exact s.keep ids hd.h⟩
theorem Giv.rb{e:Nat}{wb:World}{Sb:List Nat}{src:List Src}{Fin:List Fa}(he:nth Fs e=some (.bo wb Sb))(n:Giv src Fs L js Fin):Giv (.b e::src) Fs L js (.bo wb Sb::Fin):=
 ⟨λw0 Z w a s=>⟨Bor.on (zz a he) s js,n.g w0 Z w a s⟩⟩
theorem Giv.rc{e:Nat}{wb:World}{Sb:List Nat}{src:List Src}{Fin:List Fa}(he:nth Fs e=some (.rb wb Sb v' enc sz xs))(n:Giv src Fs L js Fin):Giv (.c e::src) Fs L js (.rb wb Sb v' enc sz xs::Fin):=
 ⟨λw0 Z w a s=>⟨(zz a he:Rd wb Sb v' enc sz xs),n.g w0 Z w a s⟩⟩
theorem Giv.rn{src:List Src}{Fin:List Fa}(n:Giv src Fs L js Fin):Giv (.n::src) Fs L js (.rd (.slice none ([]:List α).length 0) enc sz ([]:List α)::Fin):=
 ⟨λw0 Z w a s=>⟨Rd.nil _ _ enc sz 0,n.g w0 Z w a s⟩⟩
def JG{ρ:Type}(N:Nat)(w0:World)(Z:List Nat)(frf:σ->ι->Fr)(Lf:σ->ι->List Item)(fcs:σ->ι->List Fa)(F:Nat->σ->Option ρ)(r:ρ)(m:Nat):Act->World->Prop:=
 λa w=>∃s i,F m s=some r/\Rep N (frf s i) a/\St w0 Z w (Lf s i)/\bC w0 Z (fcs s i)
theorem GC.lg{Ff:List Fa}{keep:List Nat}{chg:σ->ι->Fr}{fcs Fs1:σ->ι->List Fa}{src:List Src}{body:(σ->Option ρ)->σ->Option ρ}{fu:Nat}{s0:σ}{i0:ι}(hi:Ex i0)
  (hL:∀s i,LX L kI (its s i)=some (Lf s i)) (hL0:fP L ids []=some Lq) (hN:Nf (Lf s0 i0) L2) (hS:Sim Lq L2) (hNf:Nf (fcs s0 i0) Ff) (hR:JT src Fs Ff) (hd:KR (zQ ids) true)
  (hf:KR (oV fr (aQ [] (pick fr keep (chg s0 i0)))) (iC (aQ [] (pick fr keep (chg s0 i0))))) (hF2:∀s i,lw Fs (fcs s i)=some (Fs1 s i))
  (n1:∀m s i,GC hs (body (loop body m) s) r (Fs1 s i) (Lf s i) (pick fr keep (chg s i)) P B N w0 Z c
   (Exit.then (λa w=>∃q,q<m+1/\JG N w0 Z (λs i=>pick fr keep (chg s i)) Lf fcs (loop body) r q a w) Q)):
  GC (.lG keep chg kI its fcs ids src::hs) (loop body fu s0) r Fs L fr P B N w0 Z (.loop c) Q:=⟨λw a s e=>by
 refine CW.loop (JG N w0 Z (λs i=>pick fr keep (chg s i)) Lf fcs (loop body) r) fu (λb hb=>⟨s0,i0,e,hb.agrees hf.h,?_,by rw [hNf.h];exact hR.g w0 Z a⟩) ?_
 ·have:=xk hL0;rw [hS.e,<- hN.h] at this;rw [i9] at this;rw [this];exact s.keep ids hd.h
 ·rintro m b w1 ⟨s,i,h2,h3,h4,h5⟩;cases m with
  |zero=>exact (Jb h2).elim
  |succ m=>exact ((n1 m s i).o w1 (lI (hF2 s i) a h5) h4 h2).go h3⟩
theorem GQ.bg{Ff:List Fa}{src:List Src}{body:(σ->Option ρ)->σ->Option ρ}{s':σ}{j:ι}{frf:σ->ι->Fr}{fcs:σ->ι->List Fa}
  (hi:Ex j) (hL:fP L ids []=some Lq) (hN:Nf (Lf s' j) L2) (hS:Sim Lq L2) (hNf:Nf (fcs s' j) Ff) (hR:JT src Fs Ff) (hd:KR (zQ ids) true)
  (hf:KR (oV fr (aQ [] (frf s' j))) (iC (aQ [] (frf s' j)))):
  GQ (.bG ids src::hs) (loop body m s') r Fs L fr P B N w0 Z .normal (Exit.then (λa w=>∃q,q<m+1/\JG N w0 Z frf Lf fcs (loop body) r q a w) Q):=⟨λw a s q b hb=>by
 refine ⟨m,zls m,s',j,q,hb.agrees hf.h,?_,by rw [hNf.h];exact hR.g w0 Z a⟩
 have:=xk hL;rw [hS.e,<- hN.h] at this;rw [i9] at this;rw [this];exact s.keep ids hd.h⟩
end
end
open Go.RowKit
universe u
variable {S:List Nat} {T:TypeId} {sz:Nat} {v:Value} {j:Nat}
structure Adm {ι:Type} (h:AH) (Fs:List Fa) (L:List Item) (L1:ι->List Item) (Fs1:ι->List Fa):Prop where
 o:∀w0 Z w,bC w0 Z Fs->St w0 Z w L->∃i,St w0 Z w (L1 i)/\bC w0 Z (Fs1 i)
section
variable {ρ ι:Type} {h:AH} {hs hs':List H} {f:Option ρ} {r:ρ} {Fs Fs':List Fa} {L L':List Item} {fr:Fr} {P:Program} {B:Func} {N:Nat} {w0:World} {Z:List Nat} {c x y:Code} {Q:Exit->Act->World->Prop} {l:List Oper} {i:Nat} {e:Exit} {v:Value} {L1:ι->List Item} {Fs1:ι->List Fa}
theorem GO.ad(h1:Adm h Fs L L1 Fs1)(n:∀q,GO hs f r (Fs1 q) (L1 q) fr P B N w0 Z l i Q):GO (.a h::hs) f r Fs L fr P B N w0 Z l i Q:=⟨λw a s q=>by
 obtain ⟨j,s',a'⟩:=h1.o w0 Z w a s;exact (n j).o w a' s' q⟩
theorem GQ.ad(h1:Adm h Fs L L1 Fs1)(n:∀q,GQ hs f r (Fs1 q) (L1 q) fr P B N w0 Z e Q):GQ (.a h::hs) f r Fs L fr P B N w0 Z e Q:=⟨λw a s q=>by
 obtain ⟨j,s',a'⟩:=h1.o w0 Z w a s;exact (n j).o w a' s' q⟩
theorem GC.ad(h1:Adm h Fs L L1 Fs1)(n:∀q,GC hs f r (Fs1 q) (L1 q) fr P B N w0 Z c Q):GC (.a h::hs) f r Fs L fr P B N w0 Z c Q:=⟨λw a s q=>by
 obtain ⟨j,s',a'⟩:=h1.o w0 Z w a s;exact (n j).o w a' s' q⟩
theorem GS.ad{cc:Nat}{m:Bool}(h1:Adm h Fs L L1 Fs1)(n:∀q,GS hs f r (Fs1 q) (L1 q) fr P B N w0 Z l i cc m Q):GS (.a h::hs) f r Fs L fr P B N w0 Z l i cc m Q:=⟨λw a s q=>by
 obtain ⟨j,s',a'⟩:=h1.o w0 Z w a s;exact (n j).o w a' s' q⟩
theorem GP.ad{done eff:List Nat}{pd:List (Nat×Pn)}(h1:Adm h Fs L L1 Fs1)(n:∀q,GP hs f r (Fs1 q) (L1 q) fr P B N w0 Z l done eff pd Q):GP (.a h::hs) f r Fs L fr P B N w0 Z l done eff pd Q:=⟨λw a s q=>by
 obtain ⟨j,s',a'⟩:=h1.o w0 Z w a s;exact (n j).o w a' s' q⟩
theorem Adm.nn{α:Type}{T:TypeId}{R:Rp α}{Lq:List Item}(hL:vc L (nI T R (.slice none ([]:List α).length 0) [] ([]:List α) none)=some Lq):Adm (.nn T R) Fs L (λ_:Unit=>Lq) (λ_=>Fs):=⟨λw0 Z w a s=>⟨(),by
 rw [vI hL];exact s.nNil T R none,a⟩⟩
theorem Adm.o0{α:Type}{j b sz:Nat}{S:List Nat}{T:TypeId}{enc:α->List Value}{he:∀x,(enc x).length=sz}{x:α}{Lq:List Item}(hj:nth L j=some (itI (vC T (rL enc sz he)) [.pointer (some ⟨b,0,none⟩)] S x))(hL:dc L j (jT b T (enc x))=some Lq):
  Adm (.o0 j) Fs L (λ_:Unit=>Lq) (λ_=>Fs):=⟨λw0 Z w a s=>⟨(),by
 rw [qJ hL];exact s.openQ0 j (by rw [<- zP];exact hj),a⟩⟩
theorem Adm.s0{α:Type}{j b sz:Nat}{T:TypeId}{enc:α->List Value}{he:∀x,(enc x).length=sz}{cs:List Value}{x:α}{Lq:List Item}(hj:nth L j=some (jT b T cs))(hL:dc L j (itI (vC T (rL enc sz he)) [.pointer (some ⟨b,0,none⟩)] [b] x)=some Lq)(hx:KR cs (enc x)):
  Adm (.s0 j enc sz) Fs L (λ_:Unit=>Lq) (λ_=>Fs):=⟨λw0 Z w a s=>⟨(),by
 rw [qJ hL];exact s.shutP0 j (by rw [<- zP];exact hj) x hx.h,a⟩⟩
theorem Adm.kp{ids:List Nat}{Lq:List Item}(hL:fP L ids []=some Lq)(hd:KR (zQ ids) true):Adm (.kp ids) Fs L (λ_:Unit=>Lq) (λ_=>Fs):=⟨λw0 Z w a s=>⟨(),by
 have:=xk hL;rw [i9] at this;rw [this];exact s.keep ids hd.h,a⟩⟩
theorem Adm.nr{α:Type}{T:TypeId}{enc:α->List Value}{sz:Nat}{Lq:List Item}(hL:vc L (qi (.slice none ([]:List α).length 0) T enc sz ([]:List α))=some Lq):Adm (.nr T enc sz) Fs L (λ_:Unit=>Lq) (λ_=>Fs):=⟨λw0 Z w a s=>⟨(),by
 rw [vI hL];exact s.nilRow α T enc sz,a⟩⟩
end
theorem ak.app{w:World}{B1 B2:List Item}{S1 S2:List Nat}(h1:ak w S1 B1)(h2:ak w S2 B2)(hd:∀b∈S1,b∉S2):ak w (S1++S2) (B1++B2):=by
 refine ⟨λi x hi=> ?_,λi j a b hij hi hj y hy hyb=> ?_⟩
 ·rcases aX hi with ⟨_,hi⟩|⟨_,hi⟩
  ·obtain ⟨p,q,t⟩:=h1.1 _ _ hi;exact ⟨p,q,λb hb=>zal _ (t b hb)⟩
  ·obtain ⟨p,q,t⟩:=h2.1 _ _ hi;exact ⟨p,q,λb hb=>zar _ (t b hb)⟩
 ·rcases aX hi with ⟨p1,hi⟩|⟨p1,hi⟩<;>rcases aX hj with ⟨p2,hj⟩|⟨p2,hj⟩
  ·exact h1.2 _ _ _ _ hij hi hj y hy hyb
  ·exact hd y ((h1.1 _ _ hi).2.2 y hy) ((h2.1 _ _ hj).2.2 y hyb)
  ·exact hd y ((h1.1 _ _ hj).2.2 y hyb) ((h2.1 _ _ hi).2.2 y hy)
  ·exact h2.2 _ _ _ _ (by omega) hi hj y hy hyb
theorem ak.single{w:World}{it:Item}(h1:it.Φ w)(h2:it.S.Nodup)(h3:it.S=S):ak w S [it]:=ak.cons h1 h2 (by grind) (S2:=[]) (by simp) ak.nil (by simp)
structure jn {β ι:Type} (ks:List Nat) (q:Nat) (Fs:List Fa) (A:Rp β) (vs:ι->β->List Value) (its:ι->β->List Item) (fcs:ι->β->List Fa):Prop where
 o:∀w0 Z w cs S y,bC w0 Z Fs->A.own w cs S y->∃i,cs=vs i y/\ak w S (its i y)/\bC w0 Z (fcs i y)
section
variable {β γ:Type} {q:Nat} {Fs:List Fa}
theorem jn.pair{ι κ:Type}{k k2:Nat}{ks:List Nat}{A:Rp β}{B:Rp γ}{vs:ι->β->List Value}{its:ι->β->List Item}{fcs:ι->β->List Fa}{vs2:κ->γ->List Value}{its2:κ->γ->List Item}{fcs2:κ->γ->List Fa}
  (h1:jn [k] q Fs A vs its fcs) (h2:jn (k2::ks) q Fs B vs2 its2 fcs2):
  jn (k::k2::ks) q Fs (jp A B) (λ(i:ι×κ)y=>vs i.1 y.1++vs2 i.2 y.2) (λi y=>its i.1 y.1++its2 i.2 y.2) (λi y=>fcs i.1 y.1++fcs2 i.2 y.2):=⟨by
 rintro w0 Z w cs S y a ⟨c1,c2,S1,S2,rfl,rfl,hd,o1,o2⟩;obtain ⟨i,rfl,p1,f1⟩:=h1.o w0 Z w _ _ _ a o1;obtain ⟨j,rfl,p2,f2⟩:=h2.o w0 Z w _ _ _ a o2;exact ⟨(i,j),rfl,p1.app p2 hd,LY w0 Z f1 f2⟩⟩
theorem w8:type_of% @jn.pair:=jn.pair
theorem AP{w:World}{n:Nat}{cs:List Value}(h:dJ w T sz v n cs):∃a c,v=.slice a n c:=by
 rcases h.2 with ⟨hn,a,rfl⟩|⟨g,o,cap,cur,rfl,_⟩
 ·grind
 ·exact ⟨_,_,rfl⟩
theorem jn.row{enc:β->List Value}{he:∀x,(enc x).length=sz}{hp:0<sz}:
  jn [0] q Fs (mU T enc sz he hp) (λ(i:Option Addr×Nat)y=>[.slice i.1 y.length i.2]) (λi y=>[qi (.slice i.1 y.length i.2) T enc sz y]) (λ_ _=>[]):=⟨by
 rintro w0 Z w cs S y a ⟨v,rfl,rfl,ho⟩;obtain ⟨p,c,rfl⟩:=AP ho;exact ⟨(p,c),rfl,ak.single ho cI rfl,trivial⟩⟩
theorem jn.nrow{R:Rp β}{hp:0<R.sz}:
  jn [1] q Fs (kH T R hp) (λ(i:Option Addr×Nat×List Nat)y=>[.slice i.1 y.length i.2.1]) (λi y=>[nI T R (.slice i.1 y.length i.2.1) i.2.2 y none]) (λ_ _=>[]):=⟨by
 rintro w0 Z w cs S y a ⟨v,rfl,css,Ss,ho⟩;obtain ⟨p,c,rfl⟩:=AP ho.row;exact ⟨(p,c,S),rfl,ak.single ⟨css,Ss,ho⟩ ho.nd rfl,trivial⟩⟩
theorem jn.ptr{U:TypeId}{R:Rp β}:
  jn [2] q Fs (vC U R) (λ(i:Nat×List Nat)_=>[.pointer (some ⟨i.1,0,none⟩)]) (λi y=>[itI (vC U R) [.pointer (some ⟨i.1,0,none⟩)] i.2 y]) (λ_ _=>[]):=⟨by
 intro w0 Z w cs S y a ho;have hn:=(vC U R).nd w cs S y ho;obtain ⟨b,cs',S',rfl,rfl,h3⟩:=ho;exact ⟨(b,b::S'),rfl,ak.single ⟨b,cs',S',rfl,rfl,h3⟩ hn rfl,trivial⟩⟩
theorem jn.bor{wb:World}{Sb:List Nat}{enc:β->List Value}{sz:Nat}(hq:nth Fs q=some (.bo wb Sb)):
  jn [3] q Fs (Hl wb Sb enc sz) (λ(i:Option Addr×Nat)y=>[.slice i.1 y.length i.2]) (λ_ _=>[]) (λi y=>[.rb wb Sb (.slice i.1 y.length i.2) enc sz y,.rd (.slice i.1 y.length i.2) enc sz y]):=⟨by
 rintro w0 Z w cs S y a ⟨v,rfl,rfl,ho⟩;obtain ⟨_,p,c,rfl⟩:=Rd.len ho;exact ⟨(p,c),rfl,ak.nil,ho,ho.bor (zz a hq),trivial⟩⟩
theorem jn.any{A:Rp β}(hz:KR A.sz 1):jn [4] q Fs A (λ(i:Value×List Nat)_=>[i.1]) (λi y=>[itI A [i.1] i.2 y]) (λ_ _=>[]):=⟨by
 intro w0 Z w cs S y a ho;have hl:=A.len w cs S y ho;rw [hz.h] at hl
 match cs,hl with
 |[v],_=>exact ⟨(v,S),rfl,ak.single ho (A.nd w _ S y ho) rfl,trivial⟩⟩
def AQ(j n:Nat):Nat->Nat->List Nat->List Nat
 |0,_,B=>B
 |m+1,q,B=>(match Nat.beq q j with
  |true=>n
  |false=>q)::AQ j n m (q+1) B
def upto(n:Nat):Nat->List Nat
 |0=>[]
 |m+1=>n::upto (n+1) m
theorem Adm.op{α ι:Type}{j b:Nat}{ks:List Nat}{S:List Nat}{L Lq:List Item}{T:TypeId}{ff:α->List Value->List Value}{sz:Nat}{hl:∀x vs,(ff x vs).length=sz}{g:α->β}{A:Rp β}{x:α}{vs:ι->β->List Value}{its:ι->β->List Item}{fcs:ι->β->List Fa}
  {L0 L1:ι->List Item} {Fs1:ι->List Fa}
  (hj:nth L j=some (itI (vC T (qL ff sz hl g A)) [.pointer (some ⟨b,0,none⟩)] S x)) (hO:jn ks q Fs A vs its fcs) (hN:dc L j nilI=some Lq) (hA:∀i,lw Lq (jT b T (ff x (vs i (g x)))::its i (g x))=some (L0 i))
  (hL:∀i,fP (L0 i) (AQ j L.length L.length 0 (upto (L.length+1) (its i (g x)).length)) []=some (L1 i)) (hd:∀i,KR (zQ (AQ j L.length L.length 0 (upto (L.length+1) (its i (g x)).length))) true) (hF:∀i,lw Fs (fcs i (g x))=some (Fs1 i)):
  Adm (.op j q ks) Fs L L1 Fs1:=⟨λw0 Z w a s=>by
 have hj':L[j]? =some (itI (vC T (qL ff sz hl g A)) [.pointer (some ⟨b,0,none⟩)] S x):=by grind [zP]
 have ho:=s.all j _ hj';obtain ⟨b',cs',S',h1,rfl,h3,h4,ws,rfl,h5⟩:=ho;cases h1;obtain ⟨i,rfl,hp,hf⟩:=hO.o w0 Z w _ _ _ a h5;refine ⟨i,?_,by rw [bJ (hF i)];exact LY w0 Z a hf⟩
 have hB:ak w (b::S') (jT b T (ff x (vs i (g x)))::its i (g x)):=ak.cons h4 (by simp [jT]) (by simp [jT]) (S2:=S') (by grind [jT]) hp (λc hc=>zcm _ hc);have s2:=s.burst j hj' hB;rw [<- qJ hN,<- bJ (hA i)] at s2;have:=xk (hL i);rw [i9] at this;rw [this];exact s2.keep _ (hd i).h⟩
structure qK (ks:List Pa) (Fs:List Fa) (L:List Item) (A:Rp β) (js:List Nat) (vs:List Value) (y:β):Prop where
 o:∀w0 Z w,zQ js=true->bC w0 Z Fs->St w0 Z w L->∃S,A.own w vs S y/\S.Nodup/\∀b∈S,b∈fp (sel L js)
end
section
variable {β γ:Type} {Fs:List Fa} {L:List Item}
theorem wn{L:List Item}:∀{a b:List Nat},sel L (a++b)=sel L a++sel L b
 |[],_=>rfl
 |x::r,b=>by simp [sel,wn (a:=r)]
theorem lK:∀{a b:List Nat},zQ (a++b)=true->zQ b=true
 |[],_,h=>h
 |x::r,b,h=>by
  simp only [y7,zQ] at h;split at h
  ·cases h
  ·exact lK h
theorem rR{w0 w:World}{Z:List Nat}(s:St w0 Z w L){a b:List Nat}(hd:zQ (a++b)=true):∀x∈fp (sel L a),x∉fp (sel L b):=by
 intro x hx hy;obtain ⟨p,A,hp,hpx⟩:=vw.1 hx;obtain ⟨q,B,hq,hqx⟩:=vw.1 hy;obtain ⟨i,h1,h2⟩:=et hp;obtain ⟨j,h3,h4⟩:=et hq;rcases xK h2 with h2|rfl
 ·rcases xK h4 with h4|rfl
  ·have hlt:p<a.length:=(zes.1 h1).1;have hne:i≠j:=cj hd (i:=p) (j:=a.length+q) (by omega) (by grind) (by grind);exact s.apart i j A B hne h2 h4 x hpx hqx
  ·cases hqx
 ·cases hpx
theorem Hq{A B:List Item}{b:Nat}:b∈fp (A++B)↔b∈fp A\/b∈fp B:=by
 induction A with
 |nil=>simp [fp]
 |cons x r ih=>simp [fp,ih,or_assoc]
theorem qK.pair{k k2:Pa}{ks:List Pa}{A:Rp β}{B:Rp γ}{j1 j2:List Nat}{v1 v2:List Value}{y1:β}{y2:γ}(h1:qK [k] Fs L A j1 v1 y1)(h2:qK (k2::ks) Fs L B j2 v2 y2):
  qK (k::k2::ks) Fs L (jp A B) (j1++j2) (v1++v2) (y1,y2):=⟨λw0 Z w hd a s=>by
 obtain ⟨S1,o1,n1,f1⟩:=h1.o w0 Z w (dt hd) a s;obtain ⟨S2,o2,n2,f2⟩:=h2.o w0 Z w (lK hd) a s;have hx:∀b∈S1,b∉S2:=λb hb hc=>rR s hd b (f1 b hb) (f2 b hc)
 refine ⟨S1++S2,⟨v1,v2,S1,S2,rfl,rfl,hx,o1,o2⟩,k7.2 ⟨n1,n2,λa ha b hb e=>by grind⟩,λb hb=> ?_⟩
 grind [wn,Hq]⟩
theorem qK.item{k:Pa}{A:Rp β}{it:Item}{y:β}(hj:nth L j=some it)(h:∀w,it.Φ w->A.own w [v] it.S y):qK [k] Fs L A [j] [v] y:=⟨λw0 Z w hd a s=>by
 have hj':L[j]? =some it:=by rw [<- zP];exact hj
 refine ⟨it.S,h w (s.all j it hj'),s.nd j it hj',λb hb=> ?_⟩;simp only [sel,List.getD_eq_getElem?_getD,hj',Option.getD_some,fp,i9];exact hb⟩
theorem qK.row{enc:β->List Value}{he:∀x,(enc x).length=sz}{hp:0<sz}{xs:List β}(hj:nth L j=some (qi v T enc sz xs)):qK [.r j] Fs L (mU T enc sz he hp) [j] [v] xs:=
 qK.item hj λw ho=>⟨v,rfl,rfl,ho⟩
theorem qK.nrow{R:Rp β}{hp:0<R.sz}{xs:List β}(hj:nth L j=some (nI T R v S xs none)):qK [.r j] Fs L (kH T R hp) [j] [v] xs:=
 qK.item hj λw ho=>⟨v,rfl,ho⟩
theorem qK.it{A:Rp β}{x:β}(hj:nth L j=some (itI A [v] S x)):qK [.r j] Fs L A [j] [v] x:=
 qK.item hj λw ho=>ho
theorem qK.bor{e:Nat}{wb:World}{Sb:List Nat}{enc:β->List Value}{xs:List β}(hq:nth Fs e=some (.rb wb Sb v enc sz xs)):qK [.f e] Fs L (Hl wb Sb enc sz) [] [v] xs:=⟨λw0 Z w hd a s=>
 ⟨[],⟨v,rfl,rfl,zz a hq⟩,l8,by simp⟩⟩
theorem Adm.sh{α:Type}{j b:Nat}{ks:List Pa}{rest js:List Nat}{R:Rp α}{Lr:List Item}{T:TypeId}{cs vs:List Value}{ff:α->List Value->List Value}{sz:Nat}{hl:∀x vs,(ff x vs).length=sz}{g:α->β}{A:Rp β}{x:α}{y:β}{L1:List Nat->List Item}
  (hj:nth L j=some (jT b T cs)) (hR:R=qL ff sz hl g A) (hS:qK ks Fs L A js vs y) (hr:fP L rest []=some Lr) (hL:∀S,vc Lr (itI (vC T R) [.pointer (some ⟨b,0,none⟩)] S x)=some (L1 S))
  (hd:KR (zQ ((j::js)++rest)) true) (hx:KR cs (ff x vs)) (hy:KR (g x) y):Adm (.sh j ks rest R) Fs L L1 (λ_=>Fs):=⟨λw0 Z w a s=>by
 have hj':L[j]? =some (jT b T cs):=by grind [zP]
 have hd1:zQ (j::js)=true:=dt hd.h;have hd2:zQ js=true:=lK (a:=[j]) hd1;obtain ⟨S,o1,n1,f1⟩:=hS.o w0 Z w hd2 a s;have hb:∀c∈S,c≠b:=λc hc e=>rR s (a:=[j]) (b:=js) hd1 b (by grind [sel,fp,jT]) (f1 b (by rw [<- e];exact hc))
 refine ⟨b::S,?_,a⟩;have:=xk hr;rw [i9] at this;rw [vI (hL (b::S)),this];refine s.gather (j::js) rest hd.h (C:=itI (vC T R) [.pointer (some ⟨b,0,none⟩)] (b::S) x) ⟨b,cs,S,rfl,rfl,λhc=>hb b hc rfl,s.all j _ hj',?_⟩ (r9.2 ⟨λhc=>hb b hc rfl,n1⟩) ?_
 ·subst hR;exact ⟨vs,hx.h,by rw [hy.h];exact o1⟩
 grind [itI,sel,fp,jT]⟩
end
end
open Go.RowKit
universe u
variable {sz:Nat} {α:Type} {enc:α->List Value}
def zn(cs:List Value)(k:Nat):Int:=match nth cs k with
 |some (.int _ n)=>n
 |_=>0
def dB(cs:List Value)(k:Nat):Bool:=match nth cs k with
 |some (.bool b)=>b
 |_=>false
section
variable {ρ:Type} {h:LH} {hs hs':List H} {f:Option ρ} {r:ρ} {Fs Fs':List Fa} {L L':List Item} {fr:Fr} {P:Program} {B:Func} {N:Nat} {w0:World} {Z:List Nat} {c x y:Code} {Q:Exit->Act->World->Prop} {l:List Oper} {i:Nat} {e:Exit} {v:Value}
theorem GO.sr{α:Type}{j q k m g o sz:Nat}{dec:List Value->α}{T:TypeId}{v':Value}{enc:α->List Value}{xs xs':List α}{t:Int}{x:α}{us cs':List Value}{L1:List Item}(he:nth L j=some (qi v' T enc sz xs'))(hq:nth Fs q=some (.el v' g o t xs x))(hxx:KR xs' xs)
  (hz:∀x,KR (enc x).length sz) (hv:wm (stV l fr i) 0 m=some us) (hs':eM (enc x) us k=some cs') (hw:KR (fQ (stV l fr i)) (some us)) (hc:KR (stC P l fr i m) (some ⟨g,o+t.toNat*sz+k,none⟩))
  (hm:KR us.length m) (h1:KR (eA us) true) (h0:KR (FN us) true) (hd:KR (enc (dec cs')) cs') (hL:dc L j (qi v' T enc sz (xs'.set t.toNat (dec cs')))=some L1) (n:GO hs f r Fs L1 fr P B N w0 Z l (i+1) Q):GO (.sr j q k m dec::hs) f r Fs L fr P B N w0 Z l i Q:=⟨λw a s e=>by
 have hc:=hc.h;obtain ⟨u,hu,hcs⟩:=lJ hw.h;obtain ⟨hx1,cp,hx2⟩:=zz a hq;have hxx:=hxx.h;subst hxx;unfold stC at hc;unfold stV at hu;split at hc
 ·rename_i t' x' y' ty pos af g' hl
  rw [hl] at hu;simp only at hu;split at hc
  ·rename_i a' m' hg hx hzz
   split at hc
   ·rename_i hb
    have e1:=t6 hb;have e2:=hm.h;cases hc;obtain ⟨e3,e4⟩:=bp hs' (by intro e5;have:=h0.h;rw [e5] at this;cases this);refine OW.stR s j (by rw [<- zP];exact he) hx2 (λx=>(hz x).h) hl hg hx1 k hx rfl hu (by grind) (by rw [hcs];exact h1.h) (by rw [hcs];exact u7 (by rw [<- (hz x).h];exact e4)) (dec cs') (by rw [hcs,hd.h];exact e3) λw' s'=> ?_
    exact n.o w' a (by grind [qJ]) e
   ·cases hc
  ·cases hc
 ·cases hc⟩
def rwP(l:List Oper)(i:Nat):List (Nat×Operand):=match vk l i with
 |some ⟨_,.buildSlice _ _ ⟨ps⟩,_,_,_,_⟩=>ps
 |_=>[]
def rwT(l:List Oper)(i:Nat):TypeId:=match vk l i with
 |some ⟨_,.buildSlice t _ _,_,_,_,_⟩=>t
 |_=>0
def rwC(l:List Oper)(N:Nat)(fr:Fr)(i:Nat):Option Nat:=match okO l N fr i with
 |some ⟨_,.buildSlice _ n ⟨_⟩,_,_,_,_⟩=>some n
 |_=>none
def atK(fr:Fr)(k:Nat):List (Nat×Operand)->Option Value
 |[]=>none
 |p::r=>match Nat.beq p.1 k with
  |true=>look fr p.2
  |false=>atK fr k r
def rwX{α:Type}(fr:Fr)(ps:List (Nat×Operand))(dec:List Value->α):Nat->Nat->Option (List α)
 |_,0=>some []
 |k,n+1=>match rwX fr ps dec (k+1) n with
  |some q=>some (dec ((fQ (atK fr k ps)).getD [])::q)
  |none=>none
theorem GO.rw{α:Type}{m sz:Nat}{T:TypeId}{enc:α->List Value}{dec:List Value->α}{xs:List α}{L1:Nat->List Item}(hx:rwX fr (rwP l i) dec 0 m=some xs)(hc:KR (rwC l N fr i) (some m))(hm:KR xs.length m)(hb:KR (Nat.ble m 9223372036854775807) true)(hz:∀x,KR (enc x).length sz)
  (hs:KR (sb fr ((rwP l i).map (·.2))) true) (hr:∀w,KR ((Instr.buildSlice (rwT l i) m ((rwP l i).toArray.map λ(i,x)=>(i,rho fr x))).run P w) (.ok (.slice (some ⟨w.heap.size,0,none⟩) m m) (w.alloc (.cells (jQ enc xs).toArray T))))
  (hL:∀g,vc L (qi (.slice (some ⟨g,0,none⟩) m m) T enc sz xs)=some (L1 g)) (n:∀g,GO hs' f r Fs (L1 g) ((dst l i,.slice (some ⟨g,0,none⟩) m m)::fr) P B N w0 Z l (i+1) Q):GO (.rw m T enc sz dec::hs') f r Fs L fr P B N w0 Z l i Q:=⟨λw a s e=>by
 have hc:=hc.h;unfold rwC at hc;split at hc
 ·rename_i d' t' n' ps _ _ _ _ ho
  cases hc
  obtain ⟨d,hl,hg,hd,hN⟩:=jD ho;simp only at hd;subst hd;have e1:rwP l i=ps:=by simp [rwP,hl]
  have e2:rwT l i=t':=by simp [rwT,hl]
  rw [e1] at hs hr;rw [e2] at hr;refine OW.row (ps:=ps) s hl hg hN xs hm.h (λx=>(hz x).h) hb.h hs.h (λw=>(hr w).h) λg w' s'=> ?_
  have h1:=(n g).o w' a (by grind [vI]) e;rw [vl hl rfl] at h1;exact h1
 ·cases hc⟩
def elB(P:Program)(e sz:Nat):Option Nat:=match aj P (sizeOf e),P.info? e with
 |some s,some i=>match Nat.beq s sz,i.zero.map (·.cells.size),Nat.beq i.size sz,Nat.blt 0 sz,Nat.blt 0 i.bytes with
  |true,some z,true,true,true=>match Nat.beq z sz with
   |true=>some i.bytes
   |false=>none
  |_,_,_,_,_=>none
 |_,_=>none
theorem rS{e bytes:Nat}(h:elB P e sz=some bytes):tN P e sz bytes:=by
 unfold elB at h;split at h
 ·rename_i s i h1 h2
  split at h
  ·rename_i z g1 g2 g3 g4 g5
   split at h
   ·rename_i g6
    cases h
    have e1:=t6 g1;have e3:=t6 g3;have e6:=t6 g6;subst e1 e6;exact tN.of h1 h2 g2 e3 rfl (by simpa [u6] using g4) (by simpa [u6] using g5)
   ·cases h
  ·cases h
 ·cases h
structure MP {α:Type} (sr:Src) (Fs:List Fa) (L:List Item) (enc:α->List Value) (sz:Nat) (v:Value) (ys:List α):Prop where
 o:∀w0 Z w,bC w0 Z Fs->St w0 Z w L->∃S,Rd w S v enc sz ys
theorem MP.sf{e:Nat}{v':Value}{ys:List α}(he:nth Fs e=some (.rd v' enc sz ys)):MP (.f e) Fs L enc sz v' ys:=⟨λw0 Z w a s=>⟨Z,Rd.on (zz a he) s⟩⟩
theorem MP.so{j:Nat}{T:TypeId}{v':Value}{ys:List α}(hj:nth L j=some (qi v' T enc sz ys))(hz:∀x,KR (enc x).length sz):MP (.o j) Fs L enc sz v' ys:=⟨λw0 Z w a s=>by
 have hj':L[j]? =some (qi v' T enc sz ys):=by grind [zP]
 exact ⟨_,s.rd j hj' (λx=>(hz x).h) [] rfl (s.len j hj').1⟩⟩
def apC(P:Program)(l:List Oper)(N:Nat)(fr:Fr)(i:Nat):Option (Value×Value×TypeId):=match okO l N fr i with
 |some ⟨_,.call ⟨.builtin .append,⟨[x,y]⟩,⟨[t,t']⟩⟩,_,_,_,_⟩=>match Nat.beq t t',look fr x,look fr y,P.underlying t with
  |true,some u,some v,some (.slice e)=>some (u,v,e)
  |_,_,_,_=>none
 |_=>none
theorem GO.ap{α:Type}{j sz bytes:Nat}{sr:Src}{T:TypeId}{enc:α->List Value}{v1 v2:Value}{xs xs' ys ys':List α}{q:Nat}{u:Unit}{L1:Option Addr->Nat->List Item}(hq:nth Fs q=some (.oe (room (xs.length+ys.length) bytes) u))(hj:nth L j=some (qi v1 T enc sz xs'))(hxx:KR xs' xs)(hS:MP sr Fs L enc sz v2 ys')(hyy:KR ys' ys)
  (hz:∀x,KR (enc x).length sz) (ho:∀x,KR (eA (enc x)) true) (hc:KR (apC P l N fr i) (some (v1,v2,T))) (hel:KR (elB P T sz) (some bytes)) (hL:∀a c,dc L j (qi (.slice a (xs++ys).length c) T enc sz (xs++ys))=some (L1 a c))
  (n:∀a c,GO hs f r Fs (L1 a c) ((dst l i,.slice a (xs++ys).length c)::fr) P B N w0 Z l (i+1) Q):GO (.ap q j sr::hs) f r Fs L fr P B N w0 Z l i Q:=⟨λw a s hk=>by
 have hu:room (xs.length+ys.length) bytes=some u:=zz a hq;have hxx:=hxx.h;have hyy:=hyy.h;subst hxx hyy;obtain ⟨S,hr⟩:=hS.o w0 Z w a s;have hc:=hc.h;unfold apC at hc;split at hc
 ·rename_i d' x' y' t t' _ _ _ _ hok
  split at hc
  ·rename_i u' v' e' hb hx hy ht
   cases hc
   have hb:=t6 hb;subst hb;obtain ⟨d,hl,hg,hd,hN⟩:=jD hok;simp only at hd;subst hd;refine OW.app s j (by grind [zP]) (λx=>(hz x).h) (λx=>(ho x).h) hl rfl hg hN hx hy ht (rS hel.h) hr (pK hu) λv' w' s'=> ?_
   have hget:(L.set j (qi v' T enc sz (xs'++ys')))[j]? =some (qi v' T enc sz (xs'++ys')):=by
    grind [zP]
   obtain ⟨_,pa,pc,rfl⟩:=s'.len j hget;have h1:=(n pa pc).o w' a (by grind [qJ]) hk;rw [vl hl rfl] at h1;exact h1
  ·cases hc
 ·cases hc⟩
def mkC(P:Program)(l:List Oper)(N:Nat)(fr:Fr)(i:Nat):Option (Int×Int):=match okO l N fr i with
 |some ⟨_,.makeSlice _ x y,_,_,_,_⟩=>match look fr x,look fr y with
  |some (.int _ a),some (.int _ b)=>some (a,b)
  |_,_=>none
 |_=>none
def mkT(P:Program)(l:List Oper)(i:Nat):TypeId:=match vk l i with
 |some ⟨_,.makeSlice t _ _,_,_,_,_⟩=>match P.underlying t with
  |some (.slice e)=>e
  |_=>0
 |_=>0
def Qi(P:Program)(l:List Oper)(i:Nat):Bool:=match vk l i with
 |some ⟨_,.makeSlice t _ _,_,_,_,_⟩=>match P.underlying t with
  |some (.slice _)=>true
  |_=>false
 |_=>false
theorem GO.mkS{bytes:Nat}{z:α}{nn:Int}{q m:Nat}{L1:Nat->List Item}(hq:nth Fs q=some (.oe (mkLen nn bytes) m))(hz:∀x,KR (enc x).length sz)(hc:KR (mkC P l N fr i) (some (nn,nn)))(ht:KR (Qi P l i) true)(hel:KR (elB P (mkT P l i) sz) (some bytes))(h0:KR ((aj P (zeroValue (mkT P l i))).map (·.cells.toList)) (some (enc z)))
  (hL:∀g,vc L (qi (.slice (some ⟨g,0,none⟩) m m) (mkT P l i) enc sz (List.replicate m z))=some (L1 g))
  (n:∀g,GO hs f r Fs (L1 g) ((dst l i,.slice (some ⟨g,0,none⟩) m m)::fr) P B N w0 Z l (i+1) Q):GO (.mk q enc sz bytes z::hs) f r Fs L fr P B N w0 Z l i Q:=⟨λw a s hk=>by
 have hm:mkLen nn bytes=some m:=zz a hq;have hc:=hc.h;unfold mkC at hc;split at hc
 ·rename_i d' t x' y' _ _ _ _ hok
  split at hc
  ·rename_i k1 a1 k2 b1 hx hy
   simp only [g9,o7] at hc;obtain ⟨rfl,rfl⟩:=hc;obtain ⟨d,hl,hg,hd,hN⟩:=jD hok;simp only at hd;subst hd;have ht:=ht.h;unfold Qi at ht;rw [hl] at ht;simp only at ht;split at ht
   ·rename_i e' hu
    have e2:mkT P l i=e':=by simp [mkT,hl,hu]
    rw [e2] at hel h0 hL;refine OW.make s hl hg hN hx hy hu (rS hel.h) z h0.h (λx=>(hz x).h) hm λg w' s'=> ?_
    have h1:=(n g).o w' a (by grind [vI]) hk;rw [vl hl rfl] at h1;exact h1
   ·cases ht
  ·cases hc
 ·cases hc⟩
end
end Go.Sx
