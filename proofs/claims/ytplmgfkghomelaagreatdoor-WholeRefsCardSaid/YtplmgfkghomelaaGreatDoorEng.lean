/- Lemmas. -/
import Derived.Test.YtplmgfkghomelaaGreatDoorArr
set_option linter.all false
namespace Go.Sx
open Go.RowKit
universe u
variable {ι σ β κ ι0 ι1 τ ρ α γ:Type}{n m N i sz j q e id o ff m' d:Nat}{c x y:Code}{L V Lin Bq:List Item}{Z done eff ids S js kI Sb ks:List Nat}{w0 wb:World}{P:Program}{B c2:Func}{r x':ρ}{Q:Exit->Act->World->Prop}{f A':Option ρ}{l:List Oper}{T T':TypeId}{xs b ys:List α}{enc:α->List Value}{z v u1 v1 u2:Value}{a:Addr}{Lf its:σ->ι->List Item}{post:ρ->ι->Value×List Item}{A:Rp β}{post0:ρ->ι0->Value×List Item}{post1:ρ->κ->ι1->Value×List Item}{R:Rp α}{us F c7:List Value}{L1:ι->List Item}{q1 q2 q3:Nat×Nat×Nat}{K:Act->World->Prop}{U:ι}{W a7:σ}{kf:FuncId}{r2 c8 r3:ResultVar}{vs:ι->β->List Value}{C:α}{D:Option Addr}{E:Exit}{G c4:Bool}{I:Operand}{J:Array Oper}{O:Oper}{X a0:Int}{a1:Option σ}{a3:σ->Option ρ}{a4:Option (σ⊕τ)}{a5:σ⊕τ->Option ρ}{ho:Option (Nat×List Value)}{a8:Unit}{b0:Nat->(σ->Option ρ)->σ->Option ρ}{b2:σ->ρ}{b4:Nat->Exit->Act->World->Prop}{b7:ρ->Option κ}{b8:Ending}{c0:κ}{c3:World->List Nat->ρ->Ending->World->Prop}{c5:Option Value}{c6:Nat->List Item}{c9:(σ->Option ρ)->σ->Option ρ}{d3:Rp γ}{d4:ι->β->List Item}{vs2:κ->γ->List Value}{its2:κ->γ->List Item}{y1:β}{e3:Item}{e4:List β}{e5:β->List Value}{e6:List Nat->List Item}{e8:Option Addr->Nat->List Item}
structure KR {α:Type} (a b:α):Prop where
 h:a=b
inductive Fa:Type 1
 |rd {α:Type} (v:Value) (enc:α->List Value) (sz:Nat) (xs:List α)
 |el {α:Type} (v:Value) (g o:Nat) (t:Int) (xs:List α) (x:α)
 |ct (k m n:Nat)
 |po {σ ρ:Type} (k:σ->Option ρ) (e:σ) (r:ρ)
 |rb {α:Type} (wb:World) (Sb:List Nat) (v:Value) (enc:α->List Value) (sz:Nat) (xs:List α)
 |bo (wb:World) (Sb:List Nat)
 |oe {α:Type} (o:Option α) (x:α)
 |pb (b:Nat) (cs:List Value)
 |rn {α:Type} (v:Value) (R:Rp α) (xs:List α)
 |ce (g o:Nat) (cs:List Value)
 |rbn {α:Type} (wb:World) (Sb:List Nat) (v:Value) (R:Rp α) (xs:List α)
 |ri {α:Type} (v:Value) (R:Rp α) (x:α)
def Fa.ok(w:World)(Z:List Nat):Fa->Prop
 |.rd v enc sz xs=>Rd w Z v enc sz xs
 |.el v g o t xs x=>idx xs t=some x/\∃c,v=.slice (some ⟨g,o,none⟩) xs.length c
 |.ct k m n=>k+m=n/\n<=9223372036854775807
 |.po k e r=>k e=some r
 |.rb wb Sb v enc sz xs=>Rd wb Sb v enc sz xs
 |.bo wb Sb=>Bor wb Sb w Z
 |.rbn wb Sb v R xs=>RdN wb Sb v R.rd R.sz xs
 |.oe o x=>o=some x
 |.pb b a=>RdB w Z b a
 |.rn v R xs=>RdN w Z v R.rd R.sz xs
 |.ri v R x=>R.rd w Z x [v]
 |.ce g o a=>∀d L,St w Z d L->∀f u,a[f]? =some u->d.cell? ⟨g,o+f,none⟩=some u
def bO(w:World)(Z:List Nat):List Fa->Prop
 |[]=>True
 |F::r=>F.ok w Z/\bO w Z r
def nth{α:Type u}:List α->Nat->Option α
 |[],_=>none
 |x::_,0=>some x
 |_::r,n+1=>nth r n
theorem zQ{α:Type u}:∀{l:List α} {n:Nat},nth l n=l[n]?
 |[],_=>by simp [nth]
 |_::_,0=>rfl
 |_::r,n+1=>by simp [nth,zQ (l:=r)]
def vl{α:Type u}:List α->α->Option (List α)
 |[],x=>some [x]
 |y::r,x=>match vl r x with
  |some q=>some (y::q)
  |none=>none
theorem vS{α:Type u}:∀{l q:List α} {x:α},vl l x=some q->q=l++[x]
 |[],q,x,h=>by cases h;rfl
 |y::r,q,x,h=>by
  unfold vl at h;split at h
  ·rename_i e;cases h;rw [vS e];rfl
  ·cases h
def dx{α:Type u}:List α->Nat->α->Option (List α)
 |[],_,_=>none
 |_::r,0,x=>some (x::r)
 |y::r,n+1,x=>match dx r n x with
  |some q=>some (y::q)
  |none=>none
theorem qJ{α:Type u}:∀{l q:List α} {n:Nat} {x:α},dx l n x=some q->q=l.set n x
 |[],_,_,_,h=>by cases h
 |_::_,_,0,_,h=>by cases h;rfl
 |y::r,q,n+1,x,h=>by
  unfold dx at h;split at h
  ·rename_i e;cases h;rw [qJ e];rfl
  ·cases h
def wz{α:Type u}:List α->Nat->Option (List α)
 |_,0=>some []
 |[],_+1=>none
 |x::r,n+1=>match wz r n with
  |some q=>some (x::q)
  |none=>none
def Iz{α:Type u}:List α->Nat->Nat->Option (List α)
 |l,0,n=>wz l n
 |[],_+1,_=>none
 |_::r,k+1,n=>Iz r k n
theorem BU{α:Type u}:∀{l q:List α} {n:Nat},wz l n=some q->q.length=n/\∀(j:Nat)(u:α),q[j]? =some u->l[j]? =some u
 |l,q,0,h=>by cases l<;>(cases h;exact ⟨rfl,λj u a=>by simp at a⟩)
 |[],q,n+1,h=>by cases h
 |x::r,q,n+1,h=>by
  unfold wz at h;split at h
  ·rename_i e
   cases h
   obtain ⟨b,c⟩:=BU e
   grind
  ·cases h
theorem gI{α:Type u}:∀{l q:List α} {k n:Nat},Iz l k n=some q->q.length=n/\∀(j:Nat)(u:α),q[j]? =some u->l[k+j]? =some u
 |l,q,0,n,h=>by
  have:wz l n=some q:=by cases l<;>exact h
  grind [BU]
 |[],q,k+1,n,h=>by cases h
 |x::r,q,k+1,n,h=>by
  obtain ⟨a,b⟩:=gI (l:=r) (k:=k) h
  grind
def gz(L:List Item):List Nat->List Item->Option (List Item)
 |[],B=>some B
 |i::r,B=>match nth L i,gz L r B with
  |some a,some q=>some (a::q)
  |_,_=>none
theorem xp{L:List Item}:∀{ids:List Nat} {B q:List Item},gz L ids B=some q->q=sel L ids++B
 |[],B,q,h=>by cases h;rfl
 |i::r,B,q,h=>by
  unfold gz at h;split at h
  ·rename_i b c d a
   cases h
   rw [xp a,sel]
   grind [zQ]
  ·cases h
def Na(L:List Item):List Nat->List Item->Option (List Item)
 |[],_=>some []
 |0::r,i::B=>match Na L r B with
  |some q=>some (i::q)
  |none=>none
 |0::_,[]=>none
 |(j+1)::r,B=>match nth L j,Na L r B with
  |some i,some q=>some (i::q)
  |_,_=>none
theorem zD{w:World}{Z:List Nat}:∀{Fs:List Fa} {n:Nat} {F:Fa},bO w Z Fs->nth Fs n=some F->F.ok w Z
 |[],_,_,_,h=>by cases h
 |_::_,0,_,a,h=>by cases h;exact a.1
 |_::r,n+1,_,a,h=>zD (Fs:=r) a.2 h
theorem jw{w:World}{Z:List Nat}:∀{Fs q:List Fa} {F:Fa},bO w Z Fs->F.ok w Z->vl Fs F=some q->bO w Z q
 |[],q,F,_,h,e=>by cases e;exact ⟨h,trivial⟩
 |x::r,q,F,a,h,e=>by
  unfold vl at e;split at e
  ·rename_i c b;cases e;exact ⟨a.1,jw (Fs:=r) a.2 h b⟩
  ·cases e
theorem FE{w:World}{Z:List Nat}:∀{Fs q:List Fa} {n:Nat} {F:Fa},bO w Z Fs->F.ok w Z->dx Fs n F=some q->bO w Z q
 |[],_,_,_,_,_,e=>by cases e
 |x::r,q,0,F,a,h,e=>by cases e;exact ⟨h,a.2⟩
 |x::r,q,n+1,F,a,h,e=>by
  unfold dx at e;split at e
  ·rename_i c b;cases e;exact ⟨a.1,FE (Fs:=r) a.2 h b⟩
  ·cases e
theorem dL:∀{a b:List Nat},zT (a++b)=true->zT a=true
 |[],_,_=>rfl
 |x::r,b,h=>by
  simp only [Ts,zT] at h |-;split at h
  ·cases h
  ·rename_i e
   have:mem? x r=false:=by
    cases c:mem? x r with
    |false=>rfl
    |true=>
     have d:=mem?_iff.1 c;have f:mem? x (r++b)=true:=mem?_iff.2 (zal _ d)
     grind
   rw [this];exact dL h
abbrev Fr:=List (Nat×Value)
def pick(fr:Fr):List Nat->Fr->Fr
 |[],b=>b
 |k::r,b=>(k,(lK fr k).getD undef)::pick fr r b
inductive BH|f (e:Nat)|d (e:Nat)|o (j:Nat)|n (j:Nat)|l|r (q:Nat)|c (q:Nat) (b:BH)
inductive Cs|b (e:Nat)|o (j:Nat)|p (j:Nat)|e (e q:Nat)|r (j q:Nat)
inductive LH:Type 1
 |kq {α:Type} {o:Option α} {V W:α->Value} (h:LH) (q:Nat) (e:∀x,o=some x->V x=W x)
 |da {α:Type} (c:Cs) (e k0 f sz:Nat) (enc:α->List Value) (dec:List Value->Nat->α)|dA {α:Type} (c:Cs) (e k0 f m sz:Nat) (enc:α->List Value) (dec:List Value->Nat->α)
 |hc (e:Nat)|hd (e:Nat)|al|af (q:Nat)|at (q:Nat)|nz|sA|sP (q:Nat)|sU (q:Nat)|cc (c:Cs) (k:Nat)|cN (c:Cs) (k n:Nat)|ca {α:Type} (c:Cs) (e k0 f sz:Nat) (enc:α->List Value)|cA {α:Type} (c:Cs) (e k0 f m sz:Nat) (enc:α->List Value)
 |pn (e:Nat)|pq (e:Nat)|sw (q:Nat)|qu (q:Nat)|re (q:Nat)|hl (q:Nat)|hr (q:Nat)|hw|hv|si (q:Nat)|ad (q:Nat)|sq|sn|cp (e q:Nat)|cu (e q:Nat)|cf (e q:Nat)
 |nh (j q f:Nat)|nH (j q f n:Nat)|ce (e f:Nat)|cE (e f n:Nat)|ai {α:Type} (q sz:Nat) (enc:α->List Value) (a:Nat->α)
 |ld (j k:Nat)|lN (j k n:Nat)|ix (q sz:Nat)|le (e q f:Nat)|lE (e q f n:Nat)|lr (j q f:Nat)|lR (j q f n:Nat)
inductive Pa|r (j:Nat)|f (e:Nat)|n|s|fl|on|os (j:Nat)|ln (j k:Nat)|g (j:Nat)|pr (j:Nat)|pb (j off n:Nat)
structure OpK {α ι:Type} (R:Rp α) (need:Fa) (cells:ι->α->List Value) (its:ι->α->List Item) (fcs:ι->α->List Fa):Prop where
 o:∀w0 Z w cs S x,bO w0 Z [need]->R.own w cs S x->∃i,cs=cells i x/\vL w S (its i x)/\bO w0 Z (fcs i x)
inductive AH:Type 1
 |opk {α ι:Type} {R:Rp α} {need:Fa} {cells:ι->α->List Value} {its:ι->α->List Item} {fcs:ι->α->List Fa} (j q:Nat) (h:OpK R need cells its fcs)
 |pt (j k m:Nat)|oi (e q:Nat) (ks:List Nat)|sfx (j q:Nat)|sfN (j q:Nat)|tp {α:Type} {A:Rp α} {B:World->List Nat->Rp α} (j:Nat) (h:Cv A B)
 |op (j q:Nat) (ks:List Nat)|fp (e q:Nat)|fu (e q:Nat)
 |sh {α:Type} (j:Nat) (ks:List Pa) (rest:List Nat) (R:Rp α)|nc (jb k j:Nat)|nd (jb k j:Nat)
 |shx {α:Type} (j:Nat) (ks:List Pa) (rest:List Nat) (R:Rp α) (x:α)|ctr (j q:Nat)|shw {α:Type} (j:Nat) (ks:List Pa) (rest:List Nat) (R:Value->Rp α) (q k:Nat) (x:α)|s0x {α:Type} (j:Nat) (enc:α->List Value) (sz:Nat) (x:α)
 |nr {α:Type} (T:TypeId) (enc:α->List Value) (sz:Nat)
 |ne (j q e:Nat) (ks:List Nat)|mb (k:Nat) (rest:List Nat) (ks:List Pa)|mb0 (k:Nat) (rest:List Nat) (ks:List Pa)|mbr (k:Nat) (rest:List Nat) (ks:List Pa)|mbf (k e:Nat) (rest:List Nat) (ks:List Pa)|mbp (k:Nat) (rest:List Nat) (ks:List Pa)
 |no (j q e:Nat) (ks:List Nat)|nb (k q:Nat) (rest:List Nat) (ks:List Pa)|nb0 (k q:Nat) (rest:List Nat) (ks:List Pa)|nbx {α:Type} (k q:Nat) (rest:List Nat) (ks:List Pa) (y:α)
 |kp (ids:List Nat)|nn {α:Type} (T:TypeId) (R:Rp α)|o0 (j:Nat)|s0 {α:Type} (j:Nat) (enc:α->List Value) (sz:Nat)
inductive Src:Type 1
 |oi (j:Nat)|fi (e:Nat)|sv (hs:List AH) (j:Nat)|cn (e:Nat)|ov (j q:Nat)|po (j:Nat)|dn (e:Nat)|oN (j:Nat)|nN|bj (j:Nat)|bq (e:Nat)|ra (j k:Nat)|ru (j k q:Nat)|rp (j k q:Nat)|f (e:Nat)|o (j:Nat)|n|b (e:Nat)|c (e:Nat)|m
inductive H:Type 1
 |oc (j:Nat) (rest:List Nat) (a b:List H)|ocp (j:Nat) (rest:List Nat) (a b:List H)|fp (j:Nat)|ts (s:Src)|mnN {α:Type} (R:Rp α)|mnF {α:Type} (val:α->Value)|mlP (j:Nat) (k:Int)|mlR (j:Nat) (k:Int)|mp (j:Nat) (k:Int) (rest:List Nat) (ks:List Pa)|mq (j:Nat) (k:Int) (rest:List Nat) (ks:List Pa)|mh {α:Type} (j:Nat) (k:Int) (u:α)|md (j:Nat) (k:Int)|ll (j:Nat)|fO (j:Nat)
 |bt (e:Nat)|nb (e:Nat) (a b:List H)
 |fo (j:Nat)|dn (d:Nat)|a2 (i:Nat) (k:List Nat) (i':Nat) (k':List Nat) (a b:List H)
 |sa {α:Type} (j e k0 f m sz:Nat) (enc:α->List Value) (dec:List Value->α)|spa {α:Type} (j e k0 f m sz:Nat) (enc:α->List Value) (dec:List Value->α)|sp1 (j k m:Nat)|srw {α:Type} (j q m n:Nat) (enc:α->List Value)|sra {α:Type} (j q e f m sz:Nat) (enc:α->List Value) (dec:List Value->α)
 |p (n:Nat)|k (h:LH)|km (h:LH)|kv (h:LH)|a (h:AH)
 |be|bi (e:Nat)|bo (j:Nat)|ei (e q:Nat)|eo (j q:Nat)
 |st (j k n:Nat)|al (T:TypeId) (cs:List Value)|bx (T:TypeId) (n:Nat)|sp (q:Nat) (a b:List H)
 |rtc (ids:List Nat) (cs:List (Nat×Nat×Nat))|rte (ids:List Nat)
 |lG {σ ι:Type} (keep:List Nat) (chg:σ->ι->Fr) (kI:List Nat) (its:σ->ι->List Item) (fcs:σ->ι->List Fa) (ids:List Nat) (src:List Src)
 |bG (ids:List Nat) (src:List Src)
 |br (a b:List H)|ct|cf
 |cK {σ ι:Type} (keep:List Nat) (chg:σ->ι->Fr) (kI:List Nat) (its:σ->ι->List Item) (fcs:σ->ι->List Fa) (a:List H)
 |cS {σ ι:Type} (keep:List Nat) (chg:σ->ι->Fr) (kI:List Nat) (its:σ->ι->List Item) (fcs:σ->ι->List Fa) (a:List H)
 |mT (ids:List Nat) (src:List Src)
 |lb {σ ι:Type} (b:BH) (c:Nat) (keep:List Nat) (chg:σ->ι->Fr) (kI:List Nat) (its:σ->ι->List Item) (fcs:σ->ι->List Fa) (ids:List Nat) (src:List Src)
 |bj (e q:Nat) (ks:List Nat)|bl (e q:Nat) (ks:List Nat)|rI|rj|fx {α:Type} (k:α->List H)|il {P:Program} {k:FuncId} {fn:Func} (hf:P.funcs[k]? =some fn)|ri
 |ce (js:List Nat) (src:List Src) (rest:List Nat)|cn (js:List Nat) (src:List Src) (rest:List Nat)|co (js:List Nat) (src:List Src) (rest:List Nat) (a b:List H)|rn|rs
 |nd|bxe (T:TypeId) (cs:List Value)|ste (j k:Nat) (us:List Value)|bn (j:Nat)|ci (js:List Nat) (src:List Src) (rest:List Nat)|clr {α:Type} (j q:Nat) (z:α)|pw (j q:Nat)|nl (j:Nat) (qs:List Nat)|nm (j:Nat) (qs:List Nat)|vb (j q:Nat)|en (j q:Nat)|bd (e:Nat) (ks:List Nat)|sx (j:Nat) (a b:List H)|sg|cl (j k n:Nat)|cp (j k n:Nat)|mkf (j:Nat)
 |sn (k q:Nat) (rest:List Nat) (ks:List Pa)|sm (k q:Nat) (rest:List Nat) (ks:List Pa)|sh_ (j q f m:Nat)|an {α:Type} {R:Rp α} (q k j:Nat) (h:∀w cs S x,R.own w cs S x->eU cs=true)|ah {α:Type} {R:Rp α} (q k j:Nat) (h:∀w cs S x,R.own w cs S x->eU cs=true)
 |ly {α:Type} (T:TypeId) (R:Rp α) (rest:List Nat) (kss:List (List Pa))|lyx {α:Type} (T:TypeId) (R:Rp α) (rest:List Nat) (kss:List (List Pa)) (ys:List α)|l1 {α:Type} (T:TypeId) (R:Rp α) (j:Nat)|mN {α:Type} (q:Nat) (R:Rp α) (cs:List Value) (x:α) (h:∀w,R.own w cs [] x)
 |lc (e:Nat) (a b:List H)
 |bK (e:Nat) (ids:List Nat) (src:List Src)
 |rt (ids:List Nat)
 |pop (e:Nat)
 |ca (js:List Nat) (src:List Src) (rest:List Nat)
 |sl|tl (c:Nat)|fi
 |sr {α:Type} (j q f m:Nat) (dec:List Value->α)
 |rw {α:Type} (n:Nat) (T:TypeId) (enc:α->List Value) (sz:Nat) (dec:List Value->α)
 |ap (q j:Nat) (s:Src)|mk {α:Type} (q:Nat) (enc:α->List Value) (sz bytes:Nat) (z:α)
 |sc (live:List Nat) (one many:List (Nat×LH)) (pk:List (Nat×Bool))
 |pl|q (is:List Nat)|l (i:Nat) (h:LH)|lm (i:Nat) (h:LH)|lv (i:Nat) (h:LH)|ac (i:Nat) (keep:List Nat)|nx (hs:List LH)
@[reducible] def H.mt(ids:List Nat):H:=.mT ids []
@[reducible] def H.bk(e:Nat)(ids:List Nat):H:=.bK e ids []
@[reducible] def H.bg(ids:List Nat):H:=.bG ids []
@[reducible] def H.ck(k:List Nat)(chg:σ->ι->Fr)(kI:List Nat)(its:σ->ι->List Item)(a:List H):H:=.cK k chg kI its (λ_ _=>[]) a
@[reducible] def H.cs(k:List Nat)(chg:σ->ι->Fr)(kI:List Nat)(its:σ->ι->List Item)(a:List H):H:=.cS k chg kI its (λ_ _=>[]) a
@[reducible] def H.lp(c e:Nat)(k:List Nat)(chg:σ->ι->Fr)(kI:List Nat)(its:σ->ι->List Item)(ids:List Nat):H:=.lb (.f e) c k chg kI its (λ_ _=>[]) ids []
@[reducible] def H.lq(c j:Nat)(k:List Nat)(chg:σ->ι->Fr)(kI:List Nat)(its:σ->ι->List Item)(ids:List Nat):H:=.lb (.o j) c k chg kI its (λ_ _=>[]) ids []
@[reducible] def H.lo(c q:Nat)(k:List Nat)(chg:σ->ι->Fr)(kI:List Nat)(its:σ->ι->List Item)(ids:List Nat):H:=.lb (.r q) c k chg kI its (λ_ _=>[]) ids []
@[reducible] def H.ln(c e:Nat)(k:List Nat)(chg:σ->ι->Fr)(kI:List Nat)(its:σ->ι->List Item)(ids:List Nat):H:=.lb .l c k chg kI its (λ_ _=>[]) ids []
@[reducible] def H.lg(k:List Nat)(chg:σ->ι->Fr)(kI:List Nat)(its:σ->ι->List Item)(ids:List Nat):H:=.lG k chg kI its (λ_ _=>[]) ids []
@[reducible] def H.op(j q:Nat)(ks:List Nat):H:=.a (.op j q ks)
@[reducible] def H.sh{α:Type}(j:Nat)(ks:List Pa)(r:List Nat)(R:Rp α):H:=.a (.sh j ks r R)
@[reducible] def H.nr{α:Type}(T:TypeId)(enc:α->List Value)(sz:Nat):H:=.a (.nr T enc sz)
@[reducible] def H.nn{α:Type}(T:TypeId)(R:Rp α):H:=.a (.nn T R)
@[reducible] def H.o0(j:Nat):H:=.a (.o0 j)
@[reducible] def H.s0{α:Type}(j:Nat)(enc:α->List Value)(sz:Nat):H:=.a (.s0 j enc sz)
@[reducible] def H.kp(ids:List Nat):H:=.a (.kp ids)
@[reducible] def H.ld(j k:Nat):H:=.k (.ld j k)
@[reducible] def H.lN(j k n:Nat):H:=.km (.lN j k n)
@[reducible] def H.ix(q sz:Nat):H:=.kv (.ix q sz)
@[reducible] def H.le(e q f:Nat):H:=.k (.le e q f)
@[reducible] def H.lE(e q f n:Nat):H:=.km (.lE e q f n)
@[reducible] def H.lr(e q f:Nat):H:=.k (.lr e q f)
@[reducible] def H.lR(e q f n:Nat):H:=.km (.lR e q f n)
structure Sim (A B:List Item):Prop where
 e:A=B
structure Ln (a b:Nat):Prop where
 h:a=b
theorem Ln.k(h:KR n m):Ln n m:=⟨h.h⟩
theorem Ln.s(h:Ln n xs.length):Ln n (xs.set i C).length:=⟨by rw [j8];exact h.h⟩
theorem Ln.t(h:Ln xs.length n):Ln (xs.set i C).length n:=⟨by rw [j8];exact h.h⟩
structure Nf {α:Type u} (a b:α):Prop where
 h:a=b
theorem Sim.nil:Sim [] []:=⟨rfl⟩
theorem Sim.blk(a:KR T T')(b:KR us F)(n:Sim L V):Sim (jL m T us::L) (jL m T' F::V):=⟨by rw [a.h,b.h,n.e]⟩
theorem Sim.row(a:Ln m m')(c:KR T T')(d:KR sz i)(f:KR xs b)(n:Sim L V):
 Sim (qb (.slice D m N) T enc sz xs::L) (qb (.slice D m' N) T' enc i b::V):=⟨by rw [a.h,c.h,f.h,d.h,n.e]⟩
theorem Sim.itU(n:Sim L V):Sim (itI R [v] S C::L) (itI R [v] S C::V):=⟨by rw [n.e]⟩
theorem Sim.nrow(a:Ln m m')(c:KR T T')(d:KR xs b)(n:Sim L V):
 Sim (nI T R (.slice D m N) S xs none::L) (nI T' R (.slice D m' N) S b none::V):=⟨by rw [a.h,c.h,d.h,n.e]⟩
structure GC {ρ:Type} (h:List H) (f:Option ρ) (r:ρ) (Fs:List Fa) (L:List Item) (fr:Fr) (P:Program) (B:Func) (N:Nat) (w0:World) (Z:List Nat) (c:Code) (Q:Exit->Act->World->Prop):Prop where
 o:∀w,bO w0 Z Fs->St w0 Z w L->f=some r->CW P N c Q fr w
structure GQ {ρ:Type} (h:List H) (f:Option ρ) (r:ρ) (Fs:List Fa) (L:List Item) (fr:Fr) (P:Program) (B:Func) (N:Nat) (w0:World) (Z:List Nat) (e:Exit) (Q:Exit->Act->World->Prop):Prop where
 o:∀w,bO w0 Z Fs->St w0 Z w L->f=some r->QW N Q e fr w
structure GO {ρ:Type} (h:List H) (f:Option ρ) (r:ρ) (Fs:List Fa) (L:List Item) (fr:Fr) (P:Program) (B:Func) (N:Nat) (w0:World) (Z:List Nat) (l:List Oper) (i:Nat) (Q:Exit->Act->World->Prop):Prop where
 o:∀w,bO w0 Z Fs->St w0 Z w L->f=some r->OW P l N Q i fr w
def Rm(P:Program)(l:List Oper)(Q:Exit->Act->World->Prop)(c:Nat):Bool->Act->World->Prop
 |true,a,w=>Q .normal a w
 |false,a,w=>wpList P l.toArray Q (l.drop c) a w
structure GS {ρ:Type} (h:List H) (f:Option ρ) (r:ρ) (Fs:List Fa) (L:List Item) (fr:Fr) (P:Program) (B:Func) (N:Nat) (w0:World) (Z:List Nat) (l:List Oper) (i c:Nat) (m:Bool) (Q:Exit->Act->World->Prop):Prop where
 o:∀w,bO w0 Z Fs->St w0 Z w L->f=some r->OS P l N w (λa=>Rm P l Q c m a w) c i fr
structure Lk (Fs:List Fa) (L:List Item) (fr:Fr) (P:Program) (B:Func) (N:Nat) (w0:World) (Z:List Nat) (h:LH) (l:List Oper) (i:Nat) (v:Value):Prop where
 o:∃o d,vg l i=some o/\gd l fr o=some true/\o.dst=some d/\Nat.blt d N=true/\∀w,bO w0 Z Fs->St w0 Z w L->∀a,Rep N fr a->(execOp a.eval o).run P w=.ok (.value v) w
def dst(l:List Oper)(i:Nat):Nat:=match vg l i with
 |some o=>o.dst.getD 0
 |none=>0
theorem vv{o:Oper}(h:vg l i=some o)(a:o.dst=some d):dst l i=d:=by simp [dst,h,a]
variable {Fs:List Fa}{fr:Fr}{hs:List H}
theorem GC.fx{α:Type}{k:α->List H}(x:α)(n:GC (k x) f r Fs L fr P B N w0 Z c Q):GC (.fx k::hs) f r Fs L fr P B N w0 Z c Q:=⟨n.o⟩
theorem GQ.fx{α:Type}{k:α->List H}(x:α)(n:GQ (k x) f r Fs L fr P B N w0 Z E Q):GQ (.fx k::hs) f r Fs L fr P B N w0 Z E Q:=⟨n.o⟩
theorem GO.fx{α:Type}{k:α->List H}(x:α)(n:GO (k x) f r Fs L fr P B N w0 Z l i Q):GO (.fx k::hs) f r Fs L fr P B N w0 Z l i Q:=⟨n.o⟩
theorem GS.fx{α:Type}{k:α->List H}(x:α)(n:GS (k x) f r Fs L fr P B N w0 Z l i sz G Q):GS (.fx k::hs) f r Fs L fr P B N w0 Z l i sz G Q:=⟨n.o⟩
theorem GQ.nd:GQ (.nd::hs) none r Fs L fr P B N w0 Z E Q:=⟨λw a s E=>by cases E⟩
theorem GO.nd:GO (.nd::hs) none r Fs L fr P B N w0 Z l i Q:=⟨λw a s e=>by cases e⟩
def DW(id:Nat):Code->Option (List Oper)
 |.region i ⟨l⟩ _=>match Nat.beq i id with
  |true=>some l
  |false=>none
 |.seq x y=>match DW id x with
  |some l=>some l
  |none=>DW id y
 |.cond _ x y=>match DW id x with
  |some l=>some l
  |none=>DW id y
 |.block _ c=>DW id c
 |.loop c=>DW id c
 |_=>none
theorem GC.seq(n:GC hs f r Fs L fr P B N w0 Z x (Exit.then (y.wp P Q) Q)):GC hs f r Fs L fr P B N w0 Z (.seq x y) Q:=⟨λw a s e=>f4 (n.o w a s e)⟩
def tz(B:Func)(id:Nat):List Oper:=match B.body with
 |some c=>(DW id c).getD []
 |none=>[]
theorem GC.region(n:GO hs f r Fs L fr P B N w0 Z l 0 Q):GC hs f r Fs L fr P B N w0 Z (.region id l.toArray false) Q:=⟨λw a s e=>f7 (n.o w a s e)⟩
theorem GC.still(b:KR (P.follows .mixedOrders) true)(c:KR (Region.lexB .any l.toArray) true)(n:GS hs f r Fs L fr P B N w0 Z l 0 l.length true Q):GC (.sl::hs) f r Fs L fr P B N w0 Z (.region id l.toArray true) Q:=
 ⟨λw a s e=>CW.still b.h c.h λd g=>n.o d a (s.same g) e⟩
theorem GC.tail(b:KR (P.follows .mixedOrders) true)(c:KR (Region.lexTailB .any l.toArray m) true)(n:GS hs f r Fs L fr P B N w0 Z l 0 m false Q):GC (.tl m::hs) f r Fs L fr P B N w0 Z (.region id l.toArray true) Q:=
 ⟨λw a s e=>CW.tail m b.h c.h λd g=>n.o d a (s.same g) e⟩
theorem GC.skip(n:GQ hs f r Fs L fr P B N w0 Z .normal Q):GC hs f r Fs L fr P B N w0 Z .skip Q:=⟨λw a s e=>u7 (n.o w a s e)⟩
theorem GC.exit(n:GQ hs f r Fs L fr P B N w0 Z (.exit id) Q):GC hs f r Fs L fr P B N w0 Z (.exit id) Q:=⟨λw a s e=>CW.exit (n.o w a s e)⟩
theorem GC.ret(n:GQ hs f r Fs L fr P B N w0 Z .ret Q):GC hs f r Fs L fr P B N w0 Z .ret Q:=⟨λw a s e=>p5 (n.o w a s e)⟩
theorem GC.block(n:GC hs f r Fs L fr P B N w0 Z c (Exit.inBlock id Q)):GC hs f r Fs L fr P B N w0 Z (.block id c) Q:=⟨λw a s e=>CW.block (n.o w a s e)⟩
theorem GC.ct(b:KR (look fr I) (some (.bool true)))(n:GC hs f r Fs L fr P B N w0 Z x Q):GC (.ct::hs) f r Fs L fr P B N w0 Z (.cond I x y) Q:=⟨λw a s e=>p6 b.h rfl (n.o w a s e)⟩
theorem GC.cf(b:KR (look fr I) (some (.bool false)))(n:GC hs f r Fs L fr P B N w0 Z y Q):GC (.cf::hs) f r Fs L fr P B N w0 Z (.cond I x y) Q:=⟨λw a s e=>p8 b.h rfl (n.o w a s e)⟩
variable {u hs2:List H}
theorem GC.br(c:KR (look fr I) (some (.bool G)))(n:GC u f r Fs L fr P B N w0 Z x Q)(d:GC hs2 A' r Fs L fr P B N w0 Z y Q):
  GC (.br u hs2::hs) (@ite _ (G=true) (instDecidableEqBool G true) f A') r Fs L fr P B N w0 Z (.cond I x y) Q:=⟨λw a s e=>by
 rcases zft G with b|b
 ·exact p6 c.h b (n.o w a s (sk e b))
 ·exact p8 c.h b (d.o w a s (su e b))⟩
theorem GC.rgB(a:KR J (tz B id).toArray)(n:GO hs f r Fs L fr P B N w0 Z (tz B id) 0 Q):GC hs f r Fs L fr P B N w0 Z (.region id J false) Q:=by have:=a.h;subst this;exact GC.region n
theorem GC.stB(a:KR J (tz B id).toArray)(b:KR (P.follows .mixedOrders) true)(c:KR (Region.lexB .any (tz B id).toArray) true)(n:GS hs f r Fs L fr P B N w0 Z (tz B id) 0 (tz B id).length true Q):GC (.sl::hs) f r Fs L fr P B N w0 Z (.region id J true) Q:=by have:=a.h;subst this;exact GC.still b c n
theorem GC.tlB(a:KR J (tz B id).toArray)(b:KR (P.follows .mixedOrders) true)(c:KR (Region.lexTailB .any (tz B id).toArray m) true)(n:GS hs f r Fs L fr P B N w0 Z (tz B id) 0 m false Q):GC (.tl m::hs) f r Fs L fr P B N w0 Z (.region id J true) Q:=by have:=a.h;subst this;exact GC.tail b c n
theorem GQ.next(n:GC hs f r Fs L fr P B N w0 Z y Q):GQ hs f r Fs L fr P B N w0 Z .normal (Exit.then (y.wp P Q) Q):=⟨λw a s e=>f5 (n.o w a s e)⟩
theorem GQ.then_exit(n:GQ hs f r Fs L fr P B N w0 Z (.exit id) Q):GQ hs f r Fs L fr P B N w0 Z (.exit id) (Exit.then K Q):=⟨λw a s e=>z6 (n.o w a s e)⟩
theorem GQ.then_ret(n:GQ hs f r Fs L fr P B N w0 Z .ret Q):GQ hs f r Fs L fr P B N w0 Z .ret (Exit.then K Q):=⟨λw a s e=>yl (n.o w a s e)⟩
theorem GQ.block_normal(n:GQ hs f r Fs L fr P B N w0 Z .normal Q):GQ hs f r Fs L fr P B N w0 Z .normal (Exit.inBlock id Q):=⟨λw a s e=>yu (n.o w a s e)⟩
theorem GQ.block_ret(n:GQ hs f r Fs L fr P B N w0 Z .ret Q):GQ hs f r Fs L fr P B N w0 Z .ret (Exit.inBlock id Q):=⟨λw a s e=>QW.block_ret (n.o w a s e)⟩
theorem GQ.block_here(n:GQ hs f r Fs L fr P B N w0 Z .normal Q):GQ hs f r Fs L fr P B N w0 Z (.exit id) (Exit.inBlock id Q):=⟨λw a s e=>QW.block_here (n.o w a s e)⟩
theorem GQ.block_on(b:KR (Nat.beq m id) false)(n:GQ hs f r Fs L fr P B N w0 Z (.exit m) Q):GQ hs f r Fs L fr P B N w0 Z (.exit m) (Exit.inBlock id Q):=⟨λw a s e=>QW.block_on b.h (n.o w a s e)⟩
variable {h:LH}{M:H}
theorem GO.look(c:Lk Fs L fr P B N w0 Z h l i v)(n:GO hs f r Fs L ((dst l i,v)::fr) P B N w0 Z l (i+1) Q):GO (M::hs) f r Fs L fr P B N w0 Z l i Q:=⟨λw a s e=>by
 obtain ⟨o,d,hl,g,b,j,k⟩:=c.o;have:=n.o w a s e;rw [vv hl b] at this;exact j6 hl g b j (k w a s) this⟩
theorem GS.look(c:Lk Fs L fr P B N w0 Z h l i v)(g:KR (Nat.blt i sz) true)(n:GS hs f r Fs L ((dst l i,v)::fr) P B N w0 Z l (i+1) sz G Q):GS (M::hs) f r Fs L fr P B N w0 Z l i sz G Q:=⟨λw a s e=>by
 obtain ⟨o,d,hl,j,b,k,m⟩:=c.o;have:=n.o w a s e;rw [vv hl b] at this;exact OS.op hl g.h j b k (m w a s) this⟩
def chF(P:Program)(l:List Oper)(N n i:Nat)(fr:Fr):Fr:=(lL P l N n i fr).getD fr
theorem GO.p(d:KR (lL P l N n i fr).isSome true)(k:GO hs f r Fs L (chF P l N n i fr) P B N w0 Z l (i+n) Q):GO (.p n::hs) f r Fs L fr P B N w0 Z l i Q:=⟨λw a s e=>by
 have b:=k.o w a s e;have c:=d.h;unfold chF at b;cases hh:lL P l N n i fr with
 |none=>rw [hh] at c;cases c
 |some q=>rw [hh] at b;exact Gq n i fr hh b⟩
theorem GS.p(d:KR (lL P l N n i fr).isSome true)(g:KR (Nat.ble (i+n) sz) true)(k:GS hs f r Fs L (chF P l N n i fr) P B N w0 Z l (i+n) sz G Q):GS (.p n::hs) f r Fs L fr P B N w0 Z l i sz G Q:=⟨λw a s e=>by
 have b:=k.o w a s e;have c:=d.h;unfold chF at b;cases hh:lL P l N n i fr with
 |none=>rw [hh] at c;cases c
 |some q=>rw [hh] at b;exact Gs n i fr hh (u5 g.h) b⟩
theorem FF:∀{l:List Oper} {i:Nat},l.length<=i->vg l i=none
 |[],_,_=>rfl
 |_::_,0,h=>absurd h (by simp)
 |_::r,i+1,h=>FF (l:=r) (i:=i) (by simp at h;omega)
theorem GO.nil(h:KR (lL P l N (l.length-i) i fr).isSome true)(n:GQ hs f r Fs L (chF P l N (l.length-i) i fr) P B N w0 Z .normal Q):GO (.fi::hs) f r Fs L fr P B N w0 Z l i Q:=
 ⟨(GO.p (B:=B) (hs:=hs) h ⟨λw a s e=>f6 (FF (by omega)) (n.o w a s e)⟩).o⟩
theorem GS.fin{c:Nat}(b:KR (Nat.ble i c) true)(d:KR (lL P l N (c-i) i fr).isSome true)(n:GQ hs f r Fs L (chF P l N (c-i) i fr) P B N w0 Z .normal Q):GS (.fi::hs) f r Fs L fr P B N w0 Z l i c true Q:=
 have h:=u5 b.h
 ⟨(GS.p (B:=B) (hs:=hs) d ⟨x7 (by omega)⟩ ⟨λw a s e=>OS.fin (x7 (by omega)) (n.o w a s e)⟩).o⟩
theorem GS.on(b:KR (Nat.ble i m) true)(c:KR (lL P l N (m-i) i fr).isSome true)(n:GO hs f r Fs L (chF P l N (m-i) i fr) P B N w0 Z l m Q):GS (.fi::hs) f r Fs L fr P B N w0 Z l i m false Q:=
 have h:=u5 b.h;have e0:i+(m-i)=m:=by omega
 ⟨(GS.p (B:=B) (hs:=hs) c ⟨x7 (by omega)⟩ ⟨λw a s e=>by rw [e0];exact OS.on (n.o w a s e)⟩).o⟩
def okO(l:List Oper)(N:Nat)(fr:Fr)(i:Nat):Option Oper:=match vg l i with
 |none=>none
 |some o=>match gd l fr o,o.dst with
  |some true,some d=>match Nat.blt d N with
   |true=>some o
   |false=>none
  |_,_=>none
theorem jC(h:okO l N fr i=some O):∃d,vg l i=some O/\gd l fr O=some true/\O.dst=some d/\Nat.blt d N=true:=by
 grind [okO]
def ldC(P:Program)(l:List Oper)(N:Nat)(fr:Fr)(i:Nat):Option Addr:=match okO l N fr i with
 |some ⟨_,.load t x,_,_,_,_⟩=>match ax P (isAgg t),look fr x with
  |some false,some (.pointer (some a))=>some a
  |_,_=>none
 |_=>none
def N3(P:Program)(l:List Oper)(N:Nat)(fr:Fr)(i n:Nat):Option Addr:=match okO l N fr i with
 |some ⟨_,.load t x,_,_,_,_⟩=>match ax P (isAgg t),ax P (sizeOf t),look fr x with
  |some true,some m,some (.pointer (some a))=>match Nat.beq m n with
   |true=>some a
   |false=>none
  |_,_,_=>none
 |_=>none
theorem Lk.ofLd(c:ldC P l N fr i=some a)(e:∀w,bO w0 Z Fs->St w0 Z w L->w.cell? a=some v):Lk Fs L fr P B N w0 Z h l i v:=by
 unfold ldC at c;split at c
 ·rename_i d t x _ _ _ _ ho
  split at c
  ·rename_i p f g
   cases c
   obtain ⟨d,hl,j,k,m⟩:=jC ho
   exact ⟨_,d,hl,j,k,m,λw n s b o=>by
    simp only [execOp];rw [o.look g];have:=rC (P:=P) f (e w n s);simp [this]⟩
  ·cases c
 ·cases c
theorem Lk.ofLdN(a:N3 P l N fr i us.length=some ⟨n,sz,none⟩)(c:∀w,bO w0 Z Fs->St w0 Z w L->∀j u,us[j]? =some u->w.cell? ⟨n,sz+j,none⟩=some u):
  Lk Fs L fr P B N w0 Z h l i (.agg us.toArray):=by
 unfold N3 at a;split at a
 ·rename_i d t x _ _ _ _ ho
  split at a
  ·rename_i m r e hs f
   split at a
   ·rename_i b
    cases a
    have b:=w7 b;subst b;obtain ⟨d,hl,g,k,o⟩:=jC ho
    exact ⟨_,d,hl,g,k,o,λw p s v q=>by
     simp only [execOp];rw [q.look f];have:=rD (P:=P) e hs (c w p s);simp [this]⟩
   ·cases a
  ·cases a
 ·cases a
structure Cel (Fs:List Fa) (L:List Item) (w0:World) (Z:List Nat) (h:LH) (a:Addr) (v:Value):Prop where
 o:∀w,bO w0 Z Fs->St w0 Z w L->w.cell? a=some v
structure sM (Fs:List Fa) (L:List Item) (w0:World) (Z:List Nat) (h:LH) (b k:Nat) (cs:List Value):Prop where
 o:∀w,bO w0 Z Fs->St w0 Z w L->∀j u,cs[j]? =some u->w.cell? ⟨b,k+j,none⟩=some u
theorem Cel.ld(h:nth L j=some (jL m T us))(a:nth us n=some v):Cel Fs L w0 Z (.ld j n) ⟨m,n,none⟩ v:=
 ⟨λw _ s=>s.blk j (by rw [<- zQ];exact h) (by grind [zQ])⟩
theorem sM.lN(h:nth L j=some (jL N T F))(a:Iz F m n=some us):sM Fs L w0 Z (.lN j m n) N m us:=
 ⟨λw _ s q u b=>s.blk j (by rw [<- zQ];exact h) ((gI a).2 q u b)⟩
theorem Cel.le{α:Type}{enc:α->List Value}{xs:List α}{x:α}(h:nth Fs e=some (.rd z enc sz xs))(b:nth Fs q=some (.el z n o X xs x))(d:nth (enc x) ff=some v):
  Cel Fs L w0 Z (.le e q ff) ⟨n,o+X.toNat*sz+ff,none⟩ v:=
 ⟨λw a s=>by
  obtain ⟨f,c,g⟩:=zD a b;exact Rd.cellv (zD a h) s f g ff v (by rw [<- zQ];exact d)⟩
theorem sM.lE{α:Type}{enc:α->List Value}{xs:List α}{x:α}(h:nth Fs e=some (.rd z enc sz xs))(b:nth Fs q=some (.el z m o X xs x))(d:Iz (enc x) ff n=some us):
  sM Fs L w0 Z (.lE e q ff n) m (o+X.toNat*sz+ff) us:=⟨λw a s j u f=>by
 obtain ⟨g,c,i⟩:=zD a b;rw [y9];exact Rd.cellv (zD a h) s g i (ff+j) u ((gI d).2 j u f)⟩
theorem Cel.lr{α:Type}{enc:α->List Value}{xs b:List α}{x:α}(d:nth L j=some (qb z T enc sz b))(f:nth Fs q=some (.el z n o X xs x))(e:KR b xs)(g:∀x,KR (enc x).length sz)(l:nth (enc x) ff=some v):
  Cel Fs L w0 Z (.lr j q ff) ⟨n,o+X.toNat*sz+ff,none⟩ v:=
 ⟨λw a s=>by
  have d:=d;rw [e.h] at d;obtain ⟨i,c,k⟩:=zD a f;exact s.rowc j (by rw [<- zQ];exact d) (λx=>(g x).h) i k ff v (by grind [zQ])⟩
theorem sM.lR{α:Type}{enc:α->List Value}{xs b:List α}{x:α}(d:nth L j=some (qb z T enc sz b))(g:nth Fs q=some (.el z m o X xs x))(e:KR b xs)(i:∀x,KR (enc x).length sz)(k:Iz (enc x) ff n=some us):
  sM Fs L w0 Z (.lR j q ff n) m (o+X.toNat*sz+ff) us:=⟨λw a s f u l=>by
 have d:=d;rw [e.h] at d;obtain ⟨p,c,r⟩:=zD a g;rw [y9];exact s.rowc j (by rw [<- zQ];exact d) (λx=>(i x).h) p r (ff+f) u ((gI k).2 f u l)⟩
theorem Lk.l1(b:Cel Fs L w0 Z h a v)(c:KR (ldC P l N fr i) (some a)):Lk Fs L fr P B N w0 Z h l i v:=Lk.ofLd c.h b.o
theorem Lk.lm(a:sM Fs L w0 Z h n m us)(b:KR (N3 P l N fr i us.length) (some ⟨n,m,none⟩)):Lk Fs L fr P B N w0 Z h l i (.agg us.toArray):=Lk.ofLdN b.h a.o
structure LkV (Fs:List Fa) (fr:Fr) (P:Program) (B:Func) (N:Nat) (w0:World) (Z:List Nat) (h:LH) (l:List Oper) (i:Nat) (v:Value):Prop where
 o:∃o d,vg l i=some o/\gd l fr o=some true/\o.dst=some d/\Nat.blt d N=true/\aE o.op=true/\(bO w0 Z Fs->∀w a,Rep N fr a->(execOp a.eval o).run P w=.ok (.value v) w)
theorem Lk.lv(b:LkV Fs fr P B N w0 Z h l i v):Lk Fs L fr P B N w0 Z h l i v:=by
 obtain ⟨o,d,c,e,f,g,_,j⟩:=b.o;exact ⟨o,d,c,e,f,g,λw a _=>j a w⟩
def ixC(P:Program)(l:List Oper)(N:Nat)(fr:Fr)(i:Nat):Option (Value×Int×Nat):=match okO l N fr i with
 |some ⟨_,.indexAddr t x y,_,_,_,_⟩=>match P.underlying t,look fr x,look fr y with
  |some (.slice e),some v,some (.int _ q)=>match ax P (sizeOf e) with
   |some sz=>some (v,q,sz)
   |none=>none
  |_,_,_=>none
 |_=>none
theorem LkV.ix{α:Type}{xs:List α}{x:α}(j:nth Fs q=some (.el z n o a0 xs x))(f:KR (ixC P l N fr i) (some (z,a0,sz))):LkV Fs fr P B N w0 Z (.ix q sz) l i (.pointer (some ⟨n,o+a0.toNat*sz,none⟩)):=by
 have f:=f.h;unfold ixC at f;split at f
 ·rename_i d D X Y _ _ _ _ ho
  split at f
  ·rename_i e v E F k m p
   split at f
   ·rename_i s hs
    cases f
    obtain ⟨d,hl,r,t,u⟩:=jC ho;refine ⟨_,d,hl,r,t,u,rfl,λa w b g=> ?_⟩;obtain ⟨y,c,rfl⟩:=zD a j;obtain ⟨A,C,_⟩:=zX y;simp [execOp,Instr.indexAt,g.look m,g.look p,asIntOf,run_underlying k,A,C,qV hs,dR]
   ·cases f
  ·cases f
 ·cases f
theorem GO.k(b:Cel Fs L w0 Z h a v)(c:KR (ldC P l N fr i) (some a))(n:GO hs f r Fs L ((dst l i,v)::fr) P B N w0 Z l (i+1) Q):GO (.k h::hs) f r Fs L fr P B N w0 Z l i Q:=GO.look (h:=h) (Lk.l1 b c) n
theorem GO.km(a:sM Fs L w0 Z h m sz us)(b:KR (N3 P l N fr i us.length) (some ⟨m,sz,none⟩))(n:GO hs f r Fs L ((dst l i,.agg us.toArray)::fr) P B N w0 Z l (i+1) Q):GO (.km h::hs) f r Fs L fr P B N w0 Z l i Q:=GO.look (h:=h) (Lk.lm a b) n
theorem GO.kv(a:LkV Fs fr P B N w0 Z h l i v)(n:GO hs f r Fs L ((dst l i,v)::fr) P B N w0 Z l (i+1) Q):GO (.kv h::hs) f r Fs L fr P B N w0 Z l i Q:=GO.look (h:=h) (Lk.lv a) n
theorem GS.k(b:Cel Fs L w0 Z h a v)(c:KR (ldC P l N fr i) (some a))(d:KR (Nat.blt i sz) true)(n:GS hs f r Fs L ((dst l i,v)::fr) P B N w0 Z l (i+1) sz G Q):GS (.k h::hs) f r Fs L fr P B N w0 Z l i sz G Q:=GS.look (h:=h) (Lk.l1 b c) d n
theorem GS.km(a:sM Fs L w0 Z h sz j us)(b:KR (N3 P l N fr i us.length) (some ⟨sz,j,none⟩))(c:KR (Nat.blt i q) true)(n:GS hs f r Fs L ((dst l i,.agg us.toArray)::fr) P B N w0 Z l (i+1) q G Q):GS (.km h::hs) f r Fs L fr P B N w0 Z l i q G Q:=GS.look (h:=h) (Lk.lm a b) c n
theorem GS.kv(a:LkV Fs fr P B N w0 Z h l i v)(b:KR (Nat.blt i sz) true)(n:GS hs f r Fs L ((dst l i,v)::fr) P B N w0 Z l (i+1) sz G Q):GS (.kv h::hs) f r Fs L fr P B N w0 Z l i sz G Q:=GS.look (h:=h) (Lk.lv a) b n
inductive Pn|c (a:Addr) (v:Value)|n (b k:Nat) (cs:List Value)
def Pn.Φ:Pn->World->Prop
 |.c a v,w=>w.cell? a=some v
 |.n b k d,w=>∀j u,d[j]? =some u->w.cell? ⟨b,k+j,none⟩=some u
def pdF:List (Nat×Pn)->oq
 |[]=>[]
 |p::r=>(p.1,p.2.Φ)::pdF r
def DX(k:List Nat):List (Nat×Pn)->Option (List (Nat×Pn))
 |[]=>some []
 |p::r=>match mem? p.1 k,DX k r with
  |true,some q=>some (p::q)
  |false,some q=>some q
  |_,none=>none
theorem tA{k:List Nat}:∀{pd q:List (Nat×Pn)},DX k pd=some q->mC k (pdF pd)=pdF q
 |[],q,h=>by cases h;rfl
 |p::r,q,h=>by
  unfold DX at h;split at h
  ·rename_i c a b;cases h;simp [pdF,mC,a,tA b]
  ·rename_i c a b;cases h;simp [pdF,mC,a,tA b]
  ·cases h
structure GP {ρ:Type} (h:List H) (f:Option ρ) (r:ρ) (Fs:List Fa) (L:List Item) (fr:Fr) (P:Program) (B:Func) (N:Nat) (w0:World) (Z:List Nat) (l:List Oper) (done eff:List Nat) (pd:List (Nat×Pn)) (Q:Exit->Act->World->Prop):Prop where
 o:∀w,bO w0 Z Fs->St w0 Z w L->f=some r->OA P l N Q done eff (pdF pd) fr w
variable {pd:List (Nat×Pn)}
theorem GP.fx{α:Type}{k:α->List H}(x:α)(n:GP (k x) f r Fs L fr P B N w0 Z l done eff pd Q):GP (.fx k::hs) f r Fs L fr P B N w0 Z l done eff pd Q:=⟨n.o⟩
theorem GC.plan(b:KR (P.follows .mixedOrders) true)(n:GP hs f r Fs L fr P B N w0 Z l [] [] [] Q):GC (.pl::hs) f r Fs L fr P B N w0 Z (.region id l.toArray true) Q:=
 ⟨λw a s e=>CW.plan b.h λc d=>n.o c a (s.same d) e⟩
theorem GC.plB(a:KR J (tz B id).toArray)(b:KR (P.follows .mixedOrders) true)(n:GP hs f r Fs L fr P B N w0 Z (tz B id) [] [] [] Q):GC (.pl::hs) f r Fs L fr P B N w0 Z (.region id J true) Q:=by have:=a.h;subst this;exact GC.plan b n
theorem GP.fin(b:KR (Bz l) true)(c:KR (SX l done) true)(n:GQ hs f r Fs L fr P B N w0 Z .normal Q):GP (.fi::hs) f r Fs L fr P B N w0 Z l done eff pd Q:=⟨λw a s e=>OA.fin b.h c.h (n.o w a s e)⟩
def ciF(P:Program)(l:List Oper)(N:Nat)(eff i done:List Nat)(fr:Fr):Fr:=(nJ P l N eff i done fr).getD fr
theorem GP.p(d:KR (nJ P l N eff ids done fr).isSome true)(n:GP hs f r Fs L (ciF P l N eff ids done fr) P B N w0 Z l (RY ids done) eff pd Q):GP (.q ids::hs) f r Fs L fr P B N w0 Z l done eff pd Q:=⟨λw a s e=>by
 have b:=n.o w a s e;have c:=d.h;unfold ciF at b;cases hh:nJ P l N eff ids done fr with
 |none=>rw [hh] at c;cases c
 |some q=>rw [hh] at b;exact Gw ids done fr hh b⟩
theorem GP.l1(m:Cel Fs L w0 Z h a v)(b:KR (ldC P l N fr i) (some a))(p:KR (KJ l done eff i) true)(n:GP hs f r Fs L ((dst l i,v)::fr) P B N w0 Z l (i::done) eff ((i,.c a v)::pd) Q):GP (.l i h::hs) f r Fs L fr P B N w0 Z l done eff pd Q:=⟨λw g s e=>by
 have b:=b.h;have j:=n.o w g s e;unfold ldC at b;split at b
 ·rename_i d t x _ _ _ _ ho
  split at b
  ·rename_i A q u
   cases b
   obtain ⟨d,hl,y,k,z⟩:=jC ho;simp only at k;subst k;rw [vv hl rfl] at j;exact OA.ld hl p.h y z u q (m.o w g s) j
  ·cases b
 ·cases b⟩
theorem GP.lm(q:sM Fs L w0 Z h sz j us)(a:KR (N3 P l N fr i us.length) (some ⟨sz,j,none⟩))(u:KR (KJ l done eff i) true)(n:GP hs f r Fs L ((dst l i,.agg us.toArray)::fr) P B N w0 Z l (i::done) eff ((i,.n sz j us)::pd) Q):GP (.lm i h::hs) f r Fs L fr P B N w0 Z l done eff pd Q:=⟨λw g s e=>by
 have a:=a.h;have k:=n.o w g s e;unfold N3 at a;split at a
 ·rename_i d t x _ _ _ _ ho
  split at a
  ·rename_i m C v b y
   split at a
   ·rename_i c
    cases a
    have c:=w7 c;subst c;obtain ⟨d,hl,z,p,A⟩:=jC ho;simp only at p;subst p;rw [vv hl rfl] at k;exact OA.ldN hl u.h z A us y v b (q.o w g s) k
   ·cases a
  ·cases a
 ·cases a⟩
theorem GP.lv(j:LkV Fs fr P B N w0 Z h l i v)(k:KR (KJ l done eff i) true)(n:GP hs f r Fs L ((dst l i,v)::fr) P B N w0 Z l (i::done) eff pd Q):GP (.lv i h::hs) f r Fs L fr P B N w0 Z l done eff pd Q:=⟨λw a s e=>by
 obtain ⟨o,d,hl,m,c,p,q,t⟩:=j.o;have g:=n.o w a s e;rw [vv hl c] at g;exact OA.val hl k.h q m c p (λb w u=>t a w b u) g⟩
theorem GP.sp(c:KR (lK fr q) (some (.bool G)))(n:GP u f r Fs L ((q,.bool true)::fr) P B N w0 Z l done eff pd Q)(d:GP hs2 A' r Fs L ((q,.bool false)::fr) P B N w0 Z l done eff pd Q):
  GP (.sp q u hs2::hs) (@ite _ (G=true) (instDecidableEqBool G true) f A') r Fs L fr P B N w0 Z l done eff pd Q:=⟨λw a s e=>
 OA.split q c.h (λb=>n.o w a s (sk e b)) (λb=>d.o w a s (su e b))⟩
def wM(l:List Oper)(i:Nat):Oper:=match vg l i with
 |some o=>bare o
 | none=>⟨none,.ready 0,0, "",#[],none⟩
def gdI(l:List Oper)(fr:Fr)(i:Nat):Option Bool:=match vg l i with
 |some o=>gd l fr o
 |none=>none
variable {pd2:List (Nat×Pn)}
theorem GP.ac(j:DX ids pd=some pd2)(k:KR (Bz l) true)(b:KR (gdI l fr i) (some true))(d:KR (SI l done eff i) true)(g:KR (wJ l i ids (pdF pd)) true)
  (n:GO hs f r Fs L fr P B N w0 Z [wM l i] 0 (nG P l Q (i::done) (i::eff) (pdF pd2))):GP (.ac i ids::hs) f r Fs L fr P B N w0 Z l done eff pd Q:=⟨λw a s e=>by
 have b:=b.h;have c:=n.o w a s e;unfold gdI at b;unfold wM at c;split at b
 ·rename_i o ho
  rw [ho] at c;rw [<- tA j] at c;exact OA.act ids k.h ho b d.h g.h c
 ·cases b⟩
theorem Alt.g(b:DX Z pd=some pd2)(c:gdI l fr i=some true)(h:HD l done eff i=true)(a:wJ l i Z (pdF pd)=true)
  (n:OW P [wM l i] N (nG P l Q (i::done) (i::eff) (pdF pd2)) 0 fr w0):Alt P l N Q done eff (pdF pd) fr w0 i:=by
 grind [gdI,wM,tA,Alt.of]
variable {pd3:List (Nat×Pn)}
theorem GP.a2(q:DX ids pd=some pd2)(j:DX S pd=some pd3)(t:KR (Bz l) true)(v:KR (mem? i [i,n]&& !mem? i done&&decide (Nat.blt i l.length=true)) true)(b:KR (SY l done [i,n]) true)
  (x:KR (gdI l fr i) (some true)) (k:KR (HD l done eff i) true) (m:KR (wJ l i ids (pdF pd)) true) (p:KR (gdI l fr n) (some true)) (c:KR (HD l done eff n) true) (d:KR (wJ l n S (pdF pd)) true)
  (y:GO u f r Fs L fr P B N w0 Z [wM l i] 0 (nG P l Q (i::done) (i::eff) (pdF pd2))) (z:GO hs2 f r Fs L fr P B N w0 Z [wM l n] 0 (nG P l Q (n::done) (n::eff) (pdF pd3))):
  GP (.a2 i ids n S u hs2::hs) f r Fs L fr P B N w0 Z l done eff pd Q:=⟨λw a s e=>
 OA.acts [i,n] i t.h v.h b.h (Dh (Alt.g q x.h k.h m.h (y.o w a s e)) (Dh (Alt.g j p.h c.h d.h (z.o w a s e)) MH))⟩
structure Dz (hh:List LH) (Fs:List Fa) (L:List Item) (w0:World) (Z:List Nat) (pd:List (Nat×Pn)):Prop where
 o:∀w,bO w0 Z Fs->St w0 Z w L->holds (pdF pd) w
theorem Dz.nil:Dz [] Fs L w0 Z []:=⟨λ_ _ _=>trivial⟩
variable {hh:List LH}
theorem Dz.c1(b:Cel Fs L w0 Z h a v)(n:Dz hh Fs L w0 Z pd):Dz (h::hh) Fs L w0 Z ((j,.c a v)::pd):=⟨λw a s=>⟨b.o w a s,n.o w a s⟩⟩
theorem Dz.n1(b:sM Fs L w0 Z h m N us)(n:Dz hh Fs L w0 Z pd):Dz (h::hh) Fs L w0 Z ((j,.n m N us)::pd):=⟨λw a s=>⟨b.o w a s,n.o w a s⟩⟩
theorem Dz.kq{α:Type}{o:Option α}{V W:α->Value}{x:α}{e:∀x,o=some x->V x=W x}(d:Cel Fs L w0 Z h a v1)(f:nth Fs q=some (.oe o x))(g:KR v1 (V x))(i:KR z (W x))(n:Dz hh Fs L w0 Z pd):Dz (.kq h q e::hh) Fs L w0 Z ((j,.c a z)::pd):=⟨λw b s=>⟨by
 have:=d.o w b s;rw [g.h,e x (zD b f),<- i.h] at this;exact this,n.o w b s⟩⟩
theorem GO.nx(h:Dz hh Fs L w0 Z pd)(n:GP hs f r Fs L fr P B N w0 Z l done eff pd Q):GO (.nx hh::hs) f r Fs L fr P B N w0 Z [O] (0+1) (nG P l Q done eff (pdF pd)):=⟨λw a s e=>
 OA.next (h.o w a s) (n.o w a s e)⟩
def GR:List Value->Bool
 |[]=>false
 |_::_=>true
theorem KX(h:GR us=true):∃u,us[0]? =some u:=match us,h with
 |_::_,_=>⟨_,rfl⟩
theorem N4(f:nth Fs e=some (.rd z enc sz xs))(i:∀C,KR (GR (enc C)) true)(a:bO w0 Z Fs)(d:idx xs X=some C):
  ∃g o,(Fa.el z g o X xs C).ok w0 Z:=by
 obtain ⟨b,o,c,h⟩:=Rd.formv (zD a f) (λC=>KX (i C).h) d;exact ⟨b,o,d,c,h⟩
theorem GO.bi{α:Type}{enc:α->List Value}{xs:List α}{k:α->Option ρ}{F:α->Nat->Nat->List Fa}(h:nth Fs e=some (.rd z enc sz xs))(b:∀x,KR (GR (enc x)) true)
  (c:∀x g o,vl Fs (.el z g o X xs x)=some (F x g o)) (n:∀x g o,GO hs (k x) r (F x g o) L fr P B N w0 Z l i Q):GO (.bi e::hs) ((idx xs X).bind k) r Fs L fr P B N w0 Z l i Q:=⟨λw a s q=>by
 obtain ⟨x,d,f⟩:=zI q;obtain ⟨g,o,j⟩:=N4 h b a d;exact (n x g o).o w (jw a j (c x g o)) s f⟩
theorem GS.bi{α:Type}{enc:α->List Value}{xs:List α}{k:α->Option ρ}{F:α->Nat->Nat->List Fa}(h:nth Fs e=some (.rd z enc sz xs))(b:∀x,KR (GR (enc x)) true)
  (c:∀x g o,vl Fs (.el z g o X xs x)=some (F x g o)) (n:∀x g o,GS hs (k x) r (F x g o) L fr P B N w0 Z l i j G Q):GS (.bi e::hs) ((idx xs X).bind k) r Fs L fr P B N w0 Z l i j G Q:=⟨λw a s q=>by
 obtain ⟨x,d,f⟩:=zI q;obtain ⟨g,o,m⟩:=N4 h b a d;exact (n x g o).o w (jw a m (c x g o)) s f⟩
theorem GO.bo{α:Type}{enc:α->List Value}{xs b:List α}{k:α->Option ρ}{d:α->Nat->Nat->List Fa}(e:nth L j=some (qb z T enc sz b))(f:KR b xs)
  (p:∀x g o,vl Fs (.el z g o X xs x)=some (d x g o)) (n:∀x g o,GO hs (k x) r (d x g o) L fr P B N w0 Z l i Q):GO (.bo j::hs) ((idx xs X).bind k) r Fs L fr P B N w0 Z l i Q:=⟨λw a s q=>by
 obtain ⟨x,m,t⟩:=zI q;have e:=e;rw [f.h] at e;obtain ⟨g,o,c,u⟩:=s.rowv j (by rw [<- zQ];exact e) m
 exact (n x g o).o w (jw (F:=.el z g o X xs x) a ⟨m,c,u⟩ (p x g o)) s t⟩
theorem GS.bo{α:Type}{enc:α->List Value}{xs b:List α}{k:α->Option ρ}{c:α->Nat->Nat->List Fa}(d:nth L j=some (qb z T enc sz b))(f:KR b xs)
  (p:∀x g o,vl Fs (.el z g o X xs x)=some (c x g o)) (n:∀x g o,GS hs (k x) r (c x g o) L fr P B N w0 Z l i e G Q):GS (.bo j::hs) ((idx xs X).bind k) r Fs L fr P B N w0 Z l i e G Q:=⟨λw a s q=>by
 obtain ⟨x,m,t⟩:=zI q;have d:=d;rw [f.h] at d;obtain ⟨g,o,e,u⟩:=s.rowv j (by rw [<- zQ];exact d) m
 exact (n x g o).o w (jw (F:=.el z g o X xs x) a ⟨m,e,u⟩ (p x g o)) s t⟩
theorem GP.bi{α:Type}{enc:α->List Value}{xs:List α}{k:α->Option ρ}{F:α->Nat->Nat->List Fa}(h:nth Fs e=some (.rd z enc sz xs))(b:∀x,KR (GR (enc x)) true)
  (c:∀x g o,vl Fs (.el z g o X xs x)=some (F x g o)) (n:∀x g o,GP hs (k x) r (F x g o) L fr P B N w0 Z l done eff pd Q):GP (.bi e::hs) ((idx xs X).bind k) r Fs L fr P B N w0 Z l done eff pd Q:=⟨λw a s q=>by
 obtain ⟨x,d,f⟩:=zI q;obtain ⟨g,o,i⟩:=N4 h b a d;exact (n x g o).o w (jw a i (c x g o)) s f⟩
theorem GP.bo{α:Type}{enc:α->List Value}{xs b:List α}{k:α->Option ρ}{d:α->Nat->Nat->List Fa}(e:nth L j=some (qb z T enc sz b))(f:KR b xs)
  (m:∀x g o,vl Fs (.el z g o X xs x)=some (d x g o)) (n:∀x g o,GP hs (k x) r (d x g o) L fr P B N w0 Z l done eff pd Q):GP (.bo j::hs) ((idx xs X).bind k) r Fs L fr P B N w0 Z l done eff pd Q:=⟨λw a s q=>by
 obtain ⟨x,i,p⟩:=zI q;have e:=e;rw [f.h] at e;obtain ⟨g,o,c,t⟩:=s.rowv j (by rw [<- zQ];exact e) i
 exact (n x g o).o w (jw (F:=.el z g o X xs x) a ⟨i,c,t⟩ (m x g o)) s p⟩
theorem GO.be{α:Type}{o:Option α}{k:α->Option ρ}{b:α->List Fa}(h:∀x,vl Fs (.oe o x)=some (b x))(n:∀x,GO hs (k x) r (b x) L fr P B N w0 Z l i Q):GO (.be::hs) (o.bind k) r Fs L fr P B N w0 Z l i Q:=⟨λw a s q=>by
 obtain ⟨x,c,d⟩:=zI q;exact (n x).o w (jw (F:=.oe o x) a c (h x)) s d⟩
theorem GS.be{α:Type}{o:Option α}{k:α->Option ρ}{b:α->List Fa}(h:∀x,vl Fs (.oe o x)=some (b x))(n:∀x,GS hs (k x) r (b x) L fr P B N w0 Z l i sz G Q):GS (.be::hs) (o.bind k) r Fs L fr P B N w0 Z l i sz G Q:=⟨λw a s q=>by
 obtain ⟨x,c,d⟩:=zI q;exact (n x).o w (jw (F:=.oe o x) a c (h x)) s d⟩
theorem GP.be{α:Type}{o:Option α}{k:α->Option ρ}{b:α->List Fa}(h:∀x,vl Fs (.oe o x)=some (b x))(n:∀x,GP hs (k x) r (b x) L fr P B N w0 Z l done eff pd Q):GP (.be::hs) (o.bind k) r Fs L fr P B N w0 Z l done eff pd Q:=⟨λw a s q=>by
 obtain ⟨x,c,d⟩:=zI q;exact (n x).o w (jw (F:=.oe o x) a c (h x)) s d⟩
theorem GC.be{α:Type}{o:Option α}{k:α->Option ρ}{b:α->List Fa}(h:∀x,vl Fs (.oe o x)=some (b x))(n:∀x,GC hs (k x) r (b x) L fr P B N w0 Z c Q):GC (.be::hs) (o.bind k) r Fs L fr P B N w0 Z c Q:=⟨λw a s q=>by
 obtain ⟨x,d,e⟩:=zI q;exact (n x).o w (jw (F:=.oe o x) a d (h x)) s e⟩
inductive Ex:{ι:Type}->ι->Prop
 |u:Ex ()
 |p {A B:Type} {a:A} {b:B}:Ex b->Ex (a,b)
def JC(N:Nat)(w0:World)(Z:List Nat)(frf:σ->ι->Fr)(Lf:σ->ι->List Item)(fcs:σ->ι->List Fa)(x:σ):Act->World->Prop:=λa w=>∃i,Rep N (frf x i) a/\St w0 Z w (Lf x i)/\bO w0 Z (fcs x i)
def JS(N:Nat)(w0:World)(Z:List Nat)(frf:σ->ι->Fr)(Lf:σ->ι->List Item)(fcs:σ->ι->List Fa)(x:σ⊕τ):Act->World->Prop:=λa w=>∃s i,x=.inl s/\Rep N (frf s i) a/\St w0 Z w (Lf s i)/\bO w0 Z (fcs s i)
def mB{α:Type u}:List α->List α->Option (List α)
 |[],b=>some b
 |x::r,b=>match mB r b with
  |some q=>some (x::q)
  |none=>none
theorem bY{α:Type u}:∀{l b q:List α},mB l b=some q->q=l++b
 |[],b,q,h=>by cases h;rfl
 |x::r,b,q,h=>by
  unfold mB at h;split at h
  ·rename_i e;cases h;rw [bY e];rfl
  ·cases h
theorem Nb(w0:World)(Z:List Nat):∀{A B:List Fa},bO w0 Z A->bO w0 Z B->bO w0 Z (A++B)
 |[],_,_,h=>h
 |_::_,_,h,k=>⟨h.1,Nb w0 Z h.2 k⟩
variable {Ff Y:List Fa}
theorem mG(h:mB Fs Ff=some Y)(a:bO w0 Z Fs)(b:bO w0 Z Ff):bO w0 Z Y:=by rw [bY h];exact Nb w0 Z a b
structure KY (src:List Src) (Fs:List Fa) (Fin:List Fa):Prop where
 g:∀w0 Z,bO w0 Z Fs->bO w0 Z Fin
theorem KY.nil:KY [] Fs []:=⟨λ_ _ _=>trivial⟩
variable {fcs Fs2:σ->ι->List Fa}{chg:σ->ι->Fr}
theorem GC.ck(m:∀x i,Na L kI (its x i)=some (Lf x i))(h:∀x i,mB Fs (fcs x i)=some (Fs2 x i))
  (n:∀x,GC u a1 x Fs L fr P B N w0 Z c (Exit.then (JC N w0 Z (λx i=>pick fr done (chg x i)) Lf fcs x) Q))
  (d:∀x i,GQ hs (a3 x) r (Fs2 x i) (Lf x i) (pick fr done (chg x i)) P B N w0 Z .normal Q):GC (.cK done chg kI its fcs u::hs) (a1.bind a3) r Fs L fr P B N w0 Z c Q:=⟨λw a s q=>by
 obtain ⟨x,e,f⟩:=zI q;refine CW.cutQ _ ((n x).o w a s e) λb g ⟨i,j,k,l⟩=> ?_
 exact ((d x i).o g (mG (h x i) a l) k f).go j⟩
variable {a6:σ⊕τ->List Fa}
theorem GC.cs(p:∀x i,Na L kI (its x i)=some (Lf x i))(h:∀x i,mB Fs (fcs x i)=some (Fs2 x i))
  (e:∀x,vl Fs (.po a5 x r)=some (a6 x))
  (n:∀x,GC u a4 x (a6 x) L fr P B N w0 Z c (Exit.then (JS N w0 Z (λx i=>pick fr done (chg x i)) Lf fcs x) Q))
  (f:∀x i,GQ hs (a5 (.inl x)) r (Fs2 x i) (Lf x i) (pick fr done (chg x i)) P B N w0 Z .normal Q):GC (.cS done chg kI its fcs u::hs) (a4.bind a5) r Fs L fr P B N w0 Z c Q:=⟨λw a s q=>by
 obtain ⟨x,g,d⟩:=zI q;refine CW.cutQ _ ((n x).o w (jw (F:=.po a5 x r) a d (e x)) s g) ?_;rintro b j ⟨y,i,rfl,k,l,m⟩;exact ((f y i).o j (mG (h y i) a m) l d).go k⟩
theorem GC.dn(n:GC (.dn d::hs) f r Fs L fr P B N w0 Z x (Exit.then (y.wp P Q) Q)):GC (.dn (d+1)::hs) f r Fs L fr P B N w0 Z (.seq x y) Q:=⟨λw a s e=>f4 (n.o w a s e)⟩
theorem GC.dk(a:∀x i,Na L kI (its x i)=some (Lf x i))(h:∀x i,mB Fs (fcs x i)=some (Fs2 x i))
 (n:∀x,GC u a1 x Fs L fr P B N w0 Z c (Exit.then (JC N w0 Z (λx i=>pick fr done (chg x i)) Lf fcs x) Q))
 (b:∀x i,GQ hs (a3 x) r (Fs2 x i) (Lf x i) (pick fr done (chg x i)) P B N w0 Z .normal Q):GC (.dn 0::.cK done chg kI its fcs u::hs) (a1.bind a3) r Fs L fr P B N w0 Z c Q:=⟨(GC.ck a h n b).o⟩
theorem GC.ds(a:∀x i,Na L kI (its x i)=some (Lf x i))(h:∀x i,mB Fs (fcs x i)=some (Fs2 x i))
 (b:∀x,vl Fs (.po a5 x r)=some (a6 x))
 (n:∀x,GC u a4 x (a6 x) L fr P B N w0 Z c (Exit.then (JS N w0 Z (λx i=>pick fr done (chg x i)) Lf fcs x) Q))
 (d:∀x i,GQ hs (a5 (.inl x)) r (Fs2 x i) (Lf x i) (pick fr done (chg x i)) P B N w0 Z .normal Q):GC (.dn 0::.cS done chg kI its fcs u::hs) (a4.bind a5) r Fs L fr P B N w0 Z c Q:=⟨(GC.cs a h b n d).o⟩
variable {src:List Src}{frf:σ->ι->Fr}
theorem GQ.mt{d:List Item}{Ff:List Fa}(o:Ex U)(f:gz L ids []=some V)(i:Nf (Lf a7 U) d)(j:Sim V d)(c:Nf (fcs a7 U) Ff)(k:KY src Fs Ff)(l:KR (zT ids) true)
  (m:KR (rB fr (aY [] (frf a7 U))) (kj (aY [] (frf a7 U)))):GQ (.mT ids src::hs) (some a7) W Fs L fr P B N w0 Z .normal (Exit.then (JC N w0 Z frf Lf fcs W) Q):=⟨λw a s q b n=>by
 cases q
 refine ⟨U,n.agrees m.h,?_,by rw [c.h];exact k.g w0 Z a⟩
 have:=xp f;rw [j.e,<- i.h] at this;rw [i4] at this;rw [this];exact s.keep ids l.h⟩
theorem GQ.ms{τ:Type}{d:List Item}{Ff:List Fa}{x:σ⊕τ}(o:Ex U)(f:gz L ids []=some V)(i:Nf (Lf W U) d)(j:Sim V d)(c:Nf (fcs W U) Ff)(k:KY src Fs Ff)(l:KR (zT ids) true)
  (m:KR (rB fr (aY [] (frf W U))) (kj (aY [] (frf W U)))):GQ (.mT ids src::hs) (some (.inl W)) x Fs L fr P B N w0 Z .normal (Exit.then (JS N w0 Z frf Lf fcs x) Q):=⟨λw a s q b n=>by
 cases q
 refine ⟨W,U,rfl,n.agrees m.h,?_,by rw [c.h];exact k.g w0 Z a⟩
 have:=xp f;rw [j.e,<- i.h] at this;rw [i4] at this;rw [this];exact s.keep ids l.h⟩
theorem GQ.pop{σ τ:Type}{x x':σ}{k:σ->Option τ}{r:τ}(h:nth Fs q=some (.po k x r))(n:GQ hs (k x') r Fs L fr P B N w0 Z .ret Q):GQ (.pop q::hs) (some x') x Fs L fr P B N w0 Z .ret Q:=⟨λw a s e=>by
 cases e
 exact n.o w a s (zD a h)⟩
def JL{ρ:Type}(N:Nat)(w0:World)(Z:List Nat)(frf:Value->σ->ι->Fr)(Lf:σ->ι->List Item)(fcs:σ->ι->List Fa)(n:Nat)(F:Nat->Nat->σ->Option ρ)(r:ρ)(m:Nat):Act->World->Prop:=
 λa w=>∃k s i,k+m=n/\F m k s=some r/\Rep N (frf (.int .i64 ((k:Nat):Int)) s i) a/\St w0 Z w (Lf s i)/\bO w0 Z (fcs s i)
structure Bn (b:BH) (Fs:List Fa) (L:List Item) (n:Nat):Prop where
 o:∀w0 Z w,bO w0 Z Fs->St w0 Z w L->n<=9223372036854775807
theorem Bn.f1(b:nth Fs e=some (.rd z enc sz xs))(c:KR xs.length n):Bn (.f e) Fs L n:=⟨λw0 Z w a s=>by have:=(Rd.len (zD a b)).1;have d:=c.h;omega⟩
theorem Bn.d1(b:nth Fs e=some (.rn z R xs))(c:KR xs.length n):Bn (.d e) Fs L n:=⟨λw0 Z w a s=>by have:=(RdN.len (zD a b)).1;have f:=c.h;omega⟩
theorem Bn.oo(b:nth L e=some (qb z T enc sz xs))(c:KR xs.length n):Bn (.o e) Fs L n:=⟨λw0 Z w a s=>by have:=(s.len e (by rw [<- zQ];exact b)).1;have d:=c.h;omega⟩
theorem Bn.n1(b:nth L e=some (nI T R z S xs ho))(c:KR xs.length n):Bn (.n e) Fs L n:=⟨λw0 Z w a s=>by have:=(s.nlen e (by rw [<- zQ];exact b)).1;have d:=c.h;omega⟩
theorem Bn.l1(a:KR (Nat.ble n 9223372036854775807) true):Bn .l Fs L n:=⟨λ_ _ _ _ _=>u5 a.h⟩
theorem Bn.r1(b:nth Fs q=some (.oe (room n 1) a8)):Bn (.r q) Fs L n:=⟨λw0 Z w a s=>by have h:room n 1=some a8:=zD a b;have:=pm h;omega⟩
variable {a9:BH}
theorem Bn.c1(b:nth Fs q=some (.oe (cut xs X a0) ys))(h:Bn a9 Fs L xs.length)(d:KR ys.length n):Bn (.c q a9) Fs L n:=⟨λw0 Z w a s=>by
 have e:cut xs X a0=some ys:=zD a b;have f:=h.o w0 Z w a s;have g:=Rz e;have i:=d.h;omega⟩
variable {Fs0:Nat->Nat->List Fa}{b3:Nat->Nat->σ->ι->List Fa}
theorem GC.lb{l:List Item}{Ff:List Fa}
  (p:Bn a9 Fs L n) (O:Ex U)
  (R:∀s i,Na L kI (its s i)=some (Lf s i)) (b:gz L ids []=some V) (t:Nf (Lf W U) l) (v:Sim V l) (d:Nf (fcs W U) Ff) (x:KY src Fs Ff) (y:KR (zT ids) true)
  (z:KR (rB fr (aY [] (pick fr done ((sz,.int .i64 0)::chg W U)))) (kj (aY [] (pick fr done ((sz,.int .i64 0)::chg W U)))))
  (A:∀m k,vl Fs (.ct k m n)=some (Fs0 m k)) (f:∀m k s i,mB (Fs0 m k) (fcs s i)=some (b3 m k s i))
  (C:∀m k s i,GC hs (jN b0 b2 m k s) r (b3 m k s i) (Lf s i) (pick fr done ((sz,.int .i64 ((k:Nat):Int))::chg s i)) P B N w0 Z c
   (Exit.then (λa w=>∃q,q<m/\JL N w0 Z (λu s i=>pick fr done ((sz,u)::chg s i)) Lf fcs n (jN b0 b2) r q a w) Q)):
  GC (.lb a9 sz done chg kI its fcs ids src::hs) (jN b0 b2 n 0 W) r Fs L fr P B N w0 Z (.loop c) Q:=⟨λw a s e=>by
 have j:=p.o w0 Z w a s;refine CW.loop (JL N w0 Z (λu s i=>pick fr done ((sz,u)::chg s i)) Lf fcs n (jN b0 b2) r) n (λa9 D=>⟨0,W,U,ya _,e,D.agrees z.h,?_,by rw [d.h];exact x.g w0 Z a⟩) ?_
 ·have:=xp b;rw [v.e,<- t.h] at this;rw [i4] at this;rw [this];exact s.keep ids y.h
 ·rintro m a9 E ⟨k,s,i,G,I,J,K,M⟩;exact ((C m k s i).o E (mG (f m k s i) (jw (F:=.ct k m n) a ⟨G,j⟩ (A m k)) M) K I).go J⟩
variable {b5:Nat->List Fa}
theorem GC.lc
  (d:nth Fs e=some (.ct i m n)) (c:KR (look fr I) (some (.bool (decide (((i:Nat):Int)<((n:Nat):Int))))))
  (f:∀m,dx Fs e (.ct i (m+1) n)=some (b5 m))
  (g:∀m,GC u (b0 i (jN b0 b2 m (i+1)) W) r (b5 m) L fr P B N w0 Z x (b4 (m+1)))
  (j:GC hs2 (some (b2 W)) r Fs L fr P B N w0 Z y (b4 m)):GC (.lc e u hs2::hs) (jN b0 b2 m i W) r Fs L fr P B N w0 Z (.cond I x y) (b4 m):=⟨λw a s I=>by
 have b:=zD a d;cases m with
 |zero=>exact p8 c.h (decide_eq_false (by have:=b.1;omega)) (j.o w a s I)
 |succ m=>exact p6 c.h (decide_eq_true (by have:=b.1;omega)) ((g m).o w (FE a b (f m)) s I)⟩
variable {b6:Value->σ->ι->Fr}
theorem GQ.bk{d:List Item}{Ff:List Fa}
  (j:nth Fs e=some (.ct sz (m+1) n)) (y:Ex U) (k:gz L ids []=some V) (l:Nf (Lf W U) d) (o:Sim V d) (c:Nf (fcs W U) Ff) (p:KY src Fs Ff) (t:KR (zT ids) true)
  (u:KR (rB fr (aY [] (b6 (.int .i64 (w64 (((sz:Nat):Int)+1))) W U))) (kj (aY [] (b6 (.int .i64 (w64 (((sz:Nat):Int)+1))) W U)))):
  GQ (.bK e ids src::hs) (jN b0 b2 m (sz+1) W) r Fs L fr P B N w0 Z .normal (Exit.then (λa w=>∃q,q<m+1/\JL N w0 Z b6 Lf fcs n (jN b0 b2) r q a w) Q):=⟨λw a s q b v=>by
 obtain ⟨z,x⟩:=zD a j;have f:=v.agrees u.h;rw [Gt (i:=sz) (n:=n) (by omega) x] at f;refine ⟨m,zls m,sz+1,W,U,by omega,q,f,?_,by rw [c.h];exact p.g w0 Z a⟩
 have:=xp k;rw [o.e,<- l.h] at this;rw [i4] at this;rw [this];exact s.keep ids t.h⟩
def RQ{ρ:Type}(w0:World)(Z:List Nat)(post:ρ->ι->Value×List Item)(r:ρ):Ending->World->Prop:=λe w=>∃i,e=.returned (post r i).1/\St w0 Z w (post r i).2
structure Ctr {ρ ι:Type} (P:Program) (k:FuncId) (args:List Value) (Fs:List Fa) (L:List Item) (f:Option ρ) (post:ρ->ι->Value×List Item):Prop where
 c:∀w r,bO w (fp L) Fs->St w (fp L) w L->f=some r->Calls P k args.toArray w (RQ w (fp L) post r)
structure P4 {ρ:Type} (P:Program) (k:FuncId) (args:List Value) (Fs:List Fa) (L:List Item) (f:Option ρ) (R:World->List Nat->ρ->Ending->World->Prop):Prop where
 c:∀w r,bO w (fp L) Fs->St w (fp L) w L->f=some r->Calls P k args.toArray w (R w (fp L) r)
theorem Ctr.w(h:P4 P kf us Fs L f (λw Z r=>RQ w Z post r)):Ctr P kf us Fs L f post:=⟨h.c⟩
def RO{ρ:Type}(w0:World)(Z:List Nat)(sel:ρ->Option κ)(post0:ρ->ι0->Value×List Item)(post1:ρ->κ->ι1->Value×List Item)(r:ρ):Ending->World->Prop:=vK (sel r) (RQ w0 Z post0 r) (λk=>RQ w0 Z (λr i=>post1 r k i) r)
structure BK {ρ κ ι0 ι1:Type} (P:Program) (k:FuncId) (args:List Value) (Fs:List Fa) (L:List Item) (f:Option ρ) (sel:ρ->Option κ) (post0:ρ->ι0->Value×List Item) (post1:ρ->κ->ι1->Value×List Item):Prop where
 c:∀w r,bO w (fp L) Fs->St w (fp L) w L->f=some r->Calls P k args.toArray w (RO w (fp L) sel post0 post1 r)
theorem BK.w(h:P4 P kf us Fs L f (λw Z r=>RO w Z b7 post0 post1 r)):BK P kf us Fs L f b7 post0 post1:=⟨h.c⟩
theorem IA{ρ:Type}{sel:ρ->Option κ}{post0:ρ->ι0->Value×List Item}{post1:ρ->κ->ι1->Value×List Item}{r:ρ}(h:sel r=none)(k:RO w0 Z sel post0 post1 r b8 wb):RQ w0 Z post0 r b8 wb:=by
 unfold RO at k;rw [h] at k;exact k
theorem IB{ρ:Type}{sel:ρ->Option κ}{post0:ρ->ι0->Value×List Item}{post1:ρ->κ->ι1->Value×List Item}{r:ρ}(h:sel r=some c0)(k:RO w0 Z sel post0 post1 r b8 wb):RQ w0 Z (λr i=>post1 r c0 i) r b8 wb:=by
 unfold RO at k;rw [h] at k;exact k
theorem KZ{ρ:Type}{sel:ρ->Option κ}{post0:ρ->ι0->Value×List Item}{post1:ρ->κ->ι1->Value×List Item}{r:ρ}(h:sel r=none)(k:RQ w0 Z post0 r b8 wb):RO w0 Z sel post0 post1 r b8 wb:=by
 unfold RO;rw [h];exact k
theorem K0{ρ:Type}{sel:ρ->Option κ}{post0:ρ->ι0->Value×List Item}{post1:ρ->κ->ι1->Value×List Item}{r:ρ}(h:sel r=some c0)(k:RQ w0 Z (λr i=>post1 r c0 i) r b8 wb):RO w0 Z sel post0 post1 r b8 wb:=by
 unfold RO;rw [h];exact k
structure Qm {ρ κ ι0 ι1:Type} (P:Program) (k:FuncId) (args:List Value) (Fs:List Fa) (L:List Item) (f:Option ρ) (sel:ρ->Option κ) (post0:ρ->ι0->Value×List Item) (post1:ρ->κ->ι1->Value×List Item):Prop where
 h:BK P k args Fs L f sel post0 post1
structure R7 {ρ ι:Type} (P:Program) (k:FuncId) (args:List Value) (Fs:List Fa) (L:List Item) (f:Option ρ) (post:ρ->ι->Value×List Item):Prop where
 h:Ctr P k args Fs L f post
def P5(fn:Func)(fr:Fr):Option Value:=match fn.results.toList with
 |[.tmp a]=>lK fr a
 |[.tmp a,.tmp b]=>match lK fr a,lK fr b with
  |some x,some y=>some (.tuple #[x,y])
  |_,_=>none
 |[.tmp a,.tmp b,.tmp c]=>match lK fr a,lK fr b,lK fr c with
  |some x,some y,some z=>some (.tuple #[x,y,z])
  |_,_,_=>none
 |_=>none
theorem GQ.rt{i:List Item}(u:Ex U)(k:gz L ids []=some V)(m:Nf (post x' U).2 i)(n:Sim V i)(o:KR (zT ids) true)(b:KR (P5 c2 fr) (some (post x' U).1)):
  GQ (.rt ids::hs) (some x') r Fs L fr P B N w0 Z .ret (bodyPost P c2 (RQ w0 Z post r)):=⟨λw a s q=>by
 have q:=i8 q;subst q;have b:=b.h
 have c:RQ w0 Z post x' (.returned (post x' U).1) w:=⟨U,rfl,by
  have:=xp k;rw [n.e,<- m.h] at this;rw [i4] at this;rw [this];exact s.keep ids o.h⟩
 unfold P5 at b;have hl:∀{l},c2.results.toList=l->c2.results=l.toArray:=λh=>by rw [<- h]
 split at b
 ·rename_i j d
  exact v8 (hl d) b c
 ·rename_i j p d
  split at b
  ·rename_i x y f g
   rw [<- i8 b] at c;exact QW.ret2 (hl d) f g c
  ·cases b
 ·rename_i j p v d
  split at b
  ·rename_i x y z f g t
   rw [<- i8 b] at c;exact QW.ret3 (hl d) f g t c
  ·cases b
 ·cases b⟩
theorem GQ.rn(b:KR (b7 x') none)(n:GQ hs (some x') r Fs L fr P B N w0 Z .ret (bodyPost P c2 (RQ w0 Z post0 r))):
  GQ (.rn::hs) (some x') r Fs L fr P B N w0 Z .ret (bodyPost P c2 (RO w0 Z b7 post0 post1 r)):=⟨λw a s e=>by
 have h:=n.o w a s e;have e:=i8 e;subst e;have e2:RO w0 Z b7 post0 post1 x'=RQ w0 Z post0 x':=by unfold RO;rw [b.h];rfl
 rw [e2];exact h⟩
theorem GQ.rs(b:b7 x'=some c0)(n:GQ hs (some x') r Fs L fr P B N w0 Z .ret (bodyPost P c2 (RQ w0 Z (λr i=>post1 r c0 i) r))):
  GQ (.rs::hs) (some x') r Fs L fr P B N w0 Z .ret (bodyPost P c2 (RO w0 Z b7 post0 post1 r)):=⟨λw a s e=>by
 have h:=n.o w a s e;have e:=i8 e;subst e;have e2:RO w0 Z b7 post0 post1 x'=RQ w0 Z (λr i=>post1 r c0 i) x':=by unfold RO;rw [b];rfl
 rw [e2];exact h⟩
theorem P4.start(hs:List H)(b:P.funcs[kf]? =some B)(d:B.body=some c)(e:B.ntmps=N)(g:KR (Nat.ble us.length N) true)
  (n:∀w0 Z r,GC hs f r Fs L (sX 0 us) P B N w0 Z c (bodyPost P B (c3 w0 Z r))):P4 P kf us Fs L f c3:=⟨λw r a s q=>
 ym b d e g.h ((n w (fp L) r).o w a s q)⟩
structure Giv (src:List Src) (Fs:List Fa) (L:List Item) (js:List Nat) (Fin:List Fa):Prop where
 g:∀w0 Z w,bO w0 Z Fs->St w0 Z w L->bO w (fp (sel L js)) Fin
theorem Giv.nil:Giv [] Fs L js []:=⟨λ_ _ _ _ _=>trivial⟩
theorem Giv.rf(h:nth Fs e=some (.rd z enc sz xs))(n:Giv src Fs L js Ff):Giv (.f e::src) Fs L js (.rd z enc sz xs::Ff):=
 ⟨λw0 Z w a s=>⟨Rd.give (zD a h) s js,n.g w0 Z w a s⟩⟩
theorem Giv.ro(e:nth L j=some (qb z T enc sz b))(f:∀x,KR (enc x).length sz)(i:KR (mem? j js) false)(c:KR b xs)(n:Giv src Fs L js Ff):
  Giv (.o j::src) Fs L js (.rd z enc sz xs::Ff):=
 ⟨λw0 Z w a s=>by
  have d:L[j]? =some (qb z T enc sz xs):=by rw [<- zQ,<- c.h];exact e
  exact ⟨s.rd j d (λx=>(f x).h) js i.h (s.len j d).1,n.g w0 Z w a s⟩⟩
def pcC(P:Program)(l:List Oper)(N:Nat)(fr:Fr)(i:Nat):Option (FuncId×List Value):=match okO l N fr i with
 |some o=>Kj P fr o
 |none=>none
class HasC {σ:Type} (o:Option σ) (S:outParam Prop):Prop where
 c:S
theorem GO.ca{σ:Type}{S:Prop}{o:Option σ}{k:σ->Option ρ}{post:σ->ι->Value×List Item}{L1:σ->ι->List Item}[C:HasC o S]
  (u:S->R7 P kf us Ff Lin o post) (v:gz L js []=some V) (y:Sim V Lin) (z:Giv src Fs L js Ff) (b:KR (pcC P l N fr i) (some (kf,us))) (A:gz L done []=some Bq) (D:∀x q,mB (post x q).2 Bq=some (L1 x q))
  (m:KR (zT (js++done)) true) (n:∀x q,GO hs (k x) r Fs (L1 x q) ((dst l i,(post x q).1)::fr) P B N w0 Z l (i+1) Q):GO (.ca js src done::hs) (o.bind k) r Fs L fr P B N w0 Z l i Q:=⟨λw a s q=>by
 obtain ⟨x,E,F⟩:=zI q;have b:=b.h;unfold pcC at b;cases ho:okO l N fr i with
 |none=>rw [ho] at b;cases b
 |some op=>
  rw [ho] at b;obtain ⟨d,hl,j,f,G⟩:=jC ho;have e1:=xp v;have e2:=xp A;rw [y.e] at e1;rw [i4] at e1 e2;subst e1 e2;refine OW.fn hl j f G b ((u C.c).h.c w x (z.g w0 Z w a s) (s.part js (by have:=m.h;exact dL this)) E) ?_
  rintro e I ⟨p,rfl,W⟩;refine ⟨_,rfl,?_⟩;have t:=(n x p).o I a (by rw [bY (D x p)];exact s.join m.h W) F
  rw [vv hl f] at t;exact t⟩
theorem GO.ce{σ:Type}{S:Prop}{o:Option σ}{k:σ->Option ρ}{post:σ->ι->Value×List Item}{L1:σ->ι->List Item}{f:σ->List Fa}[C:HasC o S]
  (y:S->R7 P kf us Ff Lin o post) (z:gz L js []=some V) (A:Sim V Lin) (D:Giv src Fs L js Ff) (b:KR (pcC P l N fr i) (some (kf,us))) (E:gz L done []=some Bq) (G:∀x q,mB (post x q).2 Bq=some (L1 x q))
  (p:KR (zT (js++done)) true) (I:∀x,vl Fs (.oe o x)=some (f x)) (n:∀x q,GO hs (k x) r (f x) (L1 x q) ((dst l i,(post x q).1)::fr) P B N w0 Z l (i+1) Q):GO (.ce js src done::hs) (o.bind k) r Fs L fr P B N w0 Z l i Q:=⟨λw a s q=>by
 obtain ⟨x,t,J⟩:=zI q;have b:=b.h;unfold pcC at b;cases ho:okO l N fr i with
 |none=>rw [ho] at b;cases b
 |some op=>
  rw [ho] at b;obtain ⟨d,hl,m,j,K⟩:=jC ho;have e1:=xp z;have e2:=xp E;rw [A.e] at e1;rw [i4] at e1 e2;subst e1 e2;refine OW.fn hl m j K b ((y C.c).h.c w x (D.g w0 Z w a s) (s.part js (by have:=p.h;exact dL this)) t) ?_
  rintro e M ⟨u,rfl,W⟩;refine ⟨_,rfl,?_⟩;have v:=(n x u).o M (jw (F:=.oe o x) a t (I x)) (by rw [bY (G x u)];exact s.join p.h W) J
  rw [vv hl j] at v;exact v⟩
theorem GO.sp(c:KR (lK fr q) (some (.bool G)))(n:GO u f r Fs L ((q,.bool true)::fr) P B N w0 Z l i Q)(d:GO hs2 A' r Fs L ((q,.bool false)::fr) P B N w0 Z l i Q):
  GO (.sp q u hs2::hs) (@ite _ (G=true) (instDecidableEqBool G true) f A') r Fs L fr P B N w0 Z l i Q:=⟨λw a s e=>
 OW.split q c.h (λb=>n.o w a s (sk e b)) (λb=>d.o w a s (su e b))⟩
theorem GS.sp(c:KR (lK fr q) (some (.bool c4)))(d:GS u f r Fs L ((q,.bool true)::fr) P B N w0 Z l i n G Q)(g:GS hs2 A' r Fs L ((q,.bool false)::fr) P B N w0 Z l i n G Q):
  GS (.sp q u hs2::hs) (@ite _ (c4=true) (instDecidableEqBool c4 true) f A') r Fs L fr P B N w0 Z l i n G Q:=⟨λw a s e=>
 OS.split q c.h (λb=>d.o w a s (sk e b)) (λb=>g.o w a s (su e b))⟩
def opT(l:List Oper)(i:Nat):TypeId:=match vg l i with
 |some ⟨_,.alloc e,_,_,_,_⟩=>e
 |some ⟨_,.box e _,_,_,_,_⟩=>e
 |_=>0
def alC(P:Program)(l:List Oper)(N:Nat)(fr:Fr)(i:Nat):Option (List Value):=match okO l N fr i with
 |some ⟨_,.alloc e,_,_,_,_⟩=>(ax P (zeroValue e)).map (·.cells.toList)
 |_=>none
def bxC(l:List Oper)(N:Nat)(fr:Fr)(i:Nat):Option Value:=match okO l N fr i with
 |some ⟨_,.box _ x,_,_,_,_⟩=>look fr x
 |_=>none
def R8(v:Option Value)(k:Nat):Value:=match v with
 |some (.agg ⟨c⟩)=>c.getD k undef
 |some v=>v
 |none=>undef
def Ao(v:Option Value):Nat->Nat->Option (List Value)
 |_,0=>some []
 |k,m+1=>match Ao v (k+1) m with
  |some q=>some (R8 v k::q)
  |none=>none
def gA(v:Option Value):Option (List Value):=match v with
 |some (.agg ⟨c⟩)=>some c
 |some v=>some [v]
 |none=>none
theorem mH(h:gA c5=some us):∃u,c5=some u/\u.cells.toList=us:=by
 unfold gA at h;split at h
 ·cases h;exact ⟨_,rfl,rfl⟩
 ·rename_i z a
  cases h
  refine ⟨z,rfl,?_⟩;cases z<;>first|rfl|exact absurd rfl (a _)
 ·cases h
theorem GO.al(j:KR (opT l i) T)(c:KR (alC P l N fr i) (some us))(k:∀b,vl L (jL b T us)=some (c6 b))
  (n:∀b,GO hs f r Fs (c6 b) ((dst l i,.pointer (some ⟨b,0,none⟩))::fr) P B N w0 Z l (i+1) Q):GO (.al T us::hs) f r Fs L fr P B N w0 Z l i Q:=⟨λw a s q=>by
 have c:=c.h;unfold alC at c;split at c
 ·rename_i v m _ _ _ _ ho
  obtain ⟨d,hl,p,e,t⟩:=jC ho;simp only at e;subst e;refine OW.alloc s hl p t us c λb u W=> ?_
  have g:=(n b).o u a (by
   rw [vS (k b)];have:opT l i=m:=by simp [opT,hl]
   rw [<- j.h,this];exact W) q
  rw [vv hl rfl] at g;exact g
 ·cases c⟩
theorem GO.bx(k:KR (opT l i) T)(A:Ao (bxC l N fr i) 0 m=some us)(p:KR (gA (bxC l N fr i)) (some us))(t:∀b,vl L (jL b T us)=some (c6 b))
  (n:∀b,GO hs f r Fs (c6 b) ((dst l i,.pointer (some ⟨b,0,none⟩))::fr) P B N w0 Z l (i+1) Q):GO (.bx T m::hs) f r Fs L fr P B N w0 Z l i Q:=⟨λw a s q=>by
 obtain ⟨u,c,e⟩:=mH p.h;unfold bxC at c;split at c
 ·rename_i C v x' _ _ _ _ ho
  obtain ⟨d,hl,x,g,y⟩:=jC ho;simp only at g;subst g;refine OW.box s hl x y c us e λb z W=> ?_
  have j:=(n b).o z a (by
   rw [vS (t b)];have:opT l i=v:=by simp [opT,hl]
   rw [<- k.h,this];exact W) q
  rw [vv hl rfl] at j;exact j
 ·cases c⟩
def stC(P:Program)(l:List Oper)(fr:Fr)(i n:Nat):Option Addr:=match vg l i with
 |some ⟨none,.store t x y,b,pos,c,g⟩=>match gd l fr ⟨none,.store t x y,b,pos,c,g⟩,look fr x,ax P (sizeOf t) with
  |some true,some (.pointer (some a)),some m=>match Nat.beq m n with
   |true=>some a
   |false=>none
  |_,_,_=>none
 |_=>none
def stV(l:List Oper)(fr:Fr)(i:Nat):Option Value:=match vg l i with
 |some ⟨_,.store _ _ y,_,_,_,_⟩=>look fr y
 |_=>none
def fj:List Value->List Value->Nat->Option (List Value)
 |c,[],_=>some c
 |[],_::_,_=>none
 |_::r,v::vs,0=>match fj r vs 0 with
  |some q=>some (v::q)
  |none=>none
 |u::r,v::vs,k+1=>match fj r (v::vs) k with
  |some q=>some (u::q)
  |none=>none
theorem bH:∀{c vs q:List Value} {k:Nat},fj c vs k=some q->vs≠ []->qG c vs k=q/\k+vs.length<=c.length
 |c,[],q,k,h,a=>absurd rfl a
 |[],_::_,q,k,h,_=>by cases h
 |u::r,v::vs,q,0,h,_=>by
  unfold fj at h;split at h
  ·rename_i b e
   cases h
   cases vs with
   |nil=>cases r<;>(cases e;simp [qG])
   |cons g vs=>
    obtain ⟨d,f⟩:=bH e (by simp)
    grind [qG]
  ·cases h
 |u::r,v::vs,q,k+1,h,_=>by
  unfold fj at h;split at h
  ·rename_i b e
   cases h
   obtain ⟨d,f⟩:=bH e (by simp)
   grind [qG]
  ·cases h
theorem GO.st(p:nth L j=some (jL e T c7))(G:Ao (stV l fr i) 0 m=some us)(k:fj c7 us sz=some F)(v:KR (gA (stV l fr i)) (some us))(b:KR (stC P l fr i m) (some ⟨e,sz,none⟩))
  (x:KR us.length m) (y:KR (eU us) true) (z:KR (GR us) true) (I:dx L j (jL e T F)=some V) (n:GO hs f r Fs V fr P B N w0 Z l (i+1) Q):GO (.st j sz m::hs) f r Fs L fr P B N w0 Z l i Q:=⟨λw a s q=>by
 have b:=b.h;obtain ⟨u,d,c⟩:=mH v.h;unfold stC at b;unfold stV at d;split at b
 ·rename_i t x' J K pos M g hl
  rw [hl] at d;simp only at d;split at b
  ·rename_i O m' A C R
   split at b
   ·rename_i D
    have e1:=w7 D;have e2:=x.h;cases b;obtain ⟨e3,e4⟩:=bH k (by intro e5;have:=z.h;rw [e5] at this;cases this);refine OW.stB s j (by rw [<- zQ];exact p) hl A C d (by grind) (by rw [c];exact y.h) (by rw [c];exact x7 e4) F (by rw [c];exact e3) λE W=> ?_
    exact n.o E a (by grind [qJ]) q
   ·cases b
  ·cases b
 ·cases b⟩
def rvS(tmps:Array Value):ResultVar->Sem Value
 |.tmp t=>pure (tmps.getD t undef)
 |.cell c t=>do loadVar t (<- asAddr (tmps.getD c undef))
theorem rO(fn:Func)(tmps:Array Value):results fn tmps=(do
  let vs <- fn.results.mapM (rvS tmps)
  pure (if h:vs.size=1 then vs[0] else .tuple vs)):=by
 unfold results
 congr 1
structure RV (P:Program) (Fs:List Fa) (L:List Item) (fr:Fr) (w0:World) (Z:List Nat) (q:Nat×Nat×Nat) (rv:ResultVar) (v:Value):Prop where
 g:∀w N a,bO w0 Z Fs->St w0 Z w L->Rep N fr a->(rvS a.tmps rv).run P w=.ok v w
theorem RV.t(h:KR (lK fr n).isSome true):RV P Fs L fr w0 Z q1 (.tmp n) ((lK fr n).getD undef):=⟨λw N a _ _ b=>by
 have h:=h.h;cases hh:lK fr n with
 |none=>rw [hh] at h;cases h
 |some u=>simp [rvS,yz,b.get _ _ hh]⟩
theorem RV.cN(b:nth L j=some (jL i T F))(c:Iz F m (n+1)=some us)(h:KR (lK fr sz) (some (.pointer (some ⟨i,m,none⟩))))(d:KR (ax P (isAgg T')) (some true))(e:KR (ax P (sizeOf T')) (some (n+1))):
  RV P Fs L fr w0 Z (j,m,n+1) (.cell sz T') (.agg us.toArray):=⟨λw N a _ s f=>by
 obtain ⟨g,k⟩:=gI c;have l:∀q u,us[q]? =some u->w.cell? ⟨i,m+q,none⟩=some u:=λq u o=>s.blk j (by rw [<- zQ];exact b) (k q u o)
 have p:=rD (P:=P) d.h (by rw [e.h,g]) l;simp [rvS,yz,f.get _ _ h.h,E6 p,asAddr,Sem.run_bind,Result.andThen]⟩
theorem GQ.rtN{c:List Item}(f:gz L ids []=some V)(g:Nf (post x' U).2 c)(i:Sim V c)(j:KR (zT ids) true)(k:KR z (post x' U).1)
  (l:∀w a,bO w0 Z Fs->St w0 Z w L->Rep N fr a->(results c2 a.tmps).run P w=.ok z w):
  GQ (M::hs) (some x') r Fs L fr P B N w0 Z .ret (bodyPost P c2 (RQ w0 Z post r)):=⟨λw a s q b d=>by
 have q:=i8 q;subst q;refine ⟨d.defers,z,l w b a s d,⟨U,by rw [k.h],?_⟩⟩;have:=xp f;rw [i.e,<- g.h] at this;rw [i4] at this;rw [this];exact s.keep ids j.h⟩
theorem GQ.rc1{b:List Item}(m:Ex U)(h:gz L ids []=some V)(c:Nf (post x' U).2 b)(d:Sim V b)(e:KR (zT ids) true)
  (f:c2.results= #[r2]) (i:RV P Fs L fr w0 Z q1 r2 u1) (j:KR u1 (post x' U).1):
  GQ (.rtc ids [q1]::hs) (some x') r Fs L fr P B N w0 Z .ret (bodyPost P c2 (RQ w0 Z post r)):=
 GQ.rtN h c d e j λw a k s l=>by
  have e1:=i.g w N a k s l;rw [rO,f];simp [Sem.run_bind,Result.andThen,e1]
theorem GQ.rc2{b:List Item}(n:Ex U)(d:gz L ids []=some V)(e:Nf (post x' U).2 b)(f:Sim V b)(i:KR (zT ids) true)
  (j:c2.results= #[c8,r2]) (k:RV P Fs L fr w0 Z q1 c8 u1) (l:RV P Fs L fr w0 Z q2 r2 u2) (m:KR (.tuple #[u1,u2]) (post x' U).1):
  GQ (.rtc ids [q1,q2]::hs) (some x') r Fs L fr P B N w0 Z .ret (bodyPost P c2 (RQ w0 Z post r)):=
 GQ.rtN d e f i m λw a h s c=>by
  have e1:=k.g w N a h s c;have e2:=l.g w N a h s c;rw [rO,j];simp [Sem.run_bind,Result.andThen,e1,e2]
theorem GQ.rc3{c:List Item}(o:Ex U)(d:gz L ids []=some V)(e:Nf (post x' U).2 c)(f:Sim V c)(i:KR (zT ids) true)
  (j:c2.results= #[c8,r2,r3]) (k:RV P Fs L fr w0 Z q1 c8 u1) (l:RV P Fs L fr w0 Z q2 r2 u2) (m:RV P Fs L fr w0 Z q3 r3 z) (n:KR (.tuple #[u1,u2,z]) (post x' U).1):
  GQ (.rtc ids [q1,q2,q3]::hs) (some x') r Fs L fr P B N w0 Z .ret (bodyPost P c2 (RQ w0 Z post r)):=
 GQ.rtN d e f i n λw a h s b=>by
  have e1:=k.g w N a h s b;have e2:=l.g w N a h s b;have e3:=m.g w N a h s b;rw [rO,j];simp [Sem.run_bind,Result.andThen,e1,e2,e3]
theorem GQ.re{b:List Item}(k:Ex U)(c:gz L ids []=some V)(d:Nf (post x' U).2 b)(f:Sim V b)(g:KR (zT ids) true)
  (i:c2.results= #[]) (j:KR (.tuple #[]) (post x' U).1):
  GQ (.rte ids::hs) (some x') r Fs L fr P B N w0 Z .normal (bodyPost P c2 (RQ w0 Z post r)):=⟨λw a s q=>by
 have q:=i8 q;subst q;refine QW.end0 i ⟨U,by rw [<- j.h],?_⟩;have:=xp c;rw [f.e,<- d.h] at this;rw [i4] at this;rw [this];exact s.keep ids g.h⟩
theorem GQ.r0{b:List Item}(k:Ex U)(c:gz L ids []=some V)(d:Nf (post x' U).2 b)(f:Sim V b)(g:KR (zT ids) true)
  (i:c2.results= #[]) (j:KR (.tuple #[]) (post x' U).1):
  GQ (.rte ids::hs) (some x') r Fs L fr P B N w0 Z .ret (bodyPost P c2 (RQ w0 Z post r)):=⟨λw a s q=>by
 have q:=i8 q;subst q;refine QW.ret0 i ⟨U,by rw [<- j.h],?_⟩;have:=xp c;rw [f.e,<- d.h] at this;rw [i4] at this;rw [this];exact s.keep ids g.h⟩
theorem Giv.rb(h:nth Fs e=some (.bo wb Sb))(n:Giv src Fs L js Ff):Giv (.b e::src) Fs L js (.bo wb Sb::Ff):=
 ⟨λw0 Z w a s=>⟨Bor.on (zD a h) s js,n.g w0 Z w a s⟩⟩
theorem Giv.rc(h:nth Fs e=some (.rb wb Sb z enc sz xs))(n:Giv src Fs L js Ff):Giv (.c e::src) Fs L js (.rb wb Sb z enc sz xs::Ff):=
 ⟨λw0 Z w a s=>⟨(zD a h:Rd wb Sb z enc sz xs),n.g w0 Z w a s⟩⟩
theorem Giv.rn(n:Giv src Fs L js Ff):Giv (.n::src) Fs L js (.rd (.slice none ([]:List α).length 0) enc sz ([]:List α)::Ff):=
 ⟨λw0 Z w a s=>⟨Rd.nil _ _ enc sz 0,n.g w0 Z w a s⟩⟩
def JG{ρ:Type}(N:Nat)(w0:World)(Z:List Nat)(frf:σ->ι->Fr)(Lf:σ->ι->List Item)(fcs:σ->ι->List Fa)(F:Nat->σ->Option ρ)(r:ρ)(m:Nat):Act->World->Prop:=
 λa w=>∃s i,F m s=some r/\Rep N (frf s i) a/\St w0 Z w (Lf s i)/\bO w0 Z (fcs s i)
theorem GC.lg{k:List Item}{Ff:List Fa}(F:Ex U)
  (G:∀s i,Na L kI (its s i)=some (Lf s i)) (d:gz L ids []=some V) (p:Nf (Lf W U) k) (t:Sim V k) (f:Nf (fcs W U) Ff) (u:KY src Fs Ff) (v:KR (zT ids) true)
  (x:KR (rB fr (aY [] (pick fr done (chg W U)))) (kj (aY [] (pick fr done (chg W U))))) (j:∀s i,mB Fs (fcs s i)=some (Fs2 s i))
  (y:∀m s i,GC hs (c9 (loop c9 m) s) r (Fs2 s i) (Lf s i) (pick fr done (chg s i)) P B N w0 Z c
   (Exit.then (λa w=>∃q,q<m+1/\JG N w0 Z (λs i=>pick fr done (chg s i)) Lf fcs (loop c9) r q a w) Q)):
  GC (.lG done chg kI its fcs ids src::hs) (loop c9 n W) r Fs L fr P B N w0 Z (.loop c) Q:=⟨λw a s e=>by
 refine CW.loop (JG N w0 Z (λs i=>pick fr done (chg s i)) Lf fcs (loop c9) r) n (λb z=>⟨W,U,e,z.agrees x.h,?_,by rw [f.h];exact u.g w0 Z a⟩) ?_
 ·have:=xp d;rw [t.e,<- p.h] at this;rw [i4] at this;rw [this];exact s.keep ids v.h
 ·rintro m b A ⟨s,i,l,C,D,E⟩;cases m with
  |zero=>exact (Kl l).elim
  |succ m=>exact ((y m s i).o A (mG (j s i) a E) D l).go C⟩
theorem GQ.bg{d:List Item}{Ff:List Fa}
  (p:Ex U) (f:gz L ids []=some V) (i:Nf (Lf W U) d) (j:Sim V d) (c:Nf (fcs W U) Ff) (k:KY src Fs Ff) (l:KR (zT ids) true)
  (n:KR (rB fr (aY [] (frf W U))) (kj (aY [] (frf W U)))):
  GQ (.bG ids src::hs) (loop c9 m W) r Fs L fr P B N w0 Z .normal (Exit.then (λa w=>∃q,q<m+1/\JG N w0 Z frf Lf fcs (loop c9) r q a w) Q):=⟨λw a s q b o=>by
 refine ⟨m,zls m,W,U,q,o.agrees n.h,?_,by rw [c.h];exact k.g w0 Z a⟩
 have:=xp f;rw [j.e,<- i.h] at this;rw [i4] at this;rw [this];exact s.keep ids l.h⟩
open Go.RowKit
structure Adm {ι:Type} (h:AH) (Fs:List Fa) (L:List Item) (L1:ι->List Item) (Fs1:ι->List Fa):Prop where
 o:∀w0 Z w,bO w0 Z Fs->St w0 Z w L->∃i,St w0 Z w (L1 i)/\bO w0 Z (Fs1 i)
variable {d0:AH}{d2:ι->List Fa}
theorem GO.ad(h:Adm d0 Fs L L1 d2)(n:∀q,GO hs f r (d2 q) (L1 q) fr P B N w0 Z l i Q):GO (.a d0::hs) f r Fs L fr P B N w0 Z l i Q:=⟨λw a s q=>by
 obtain ⟨j,W,b⟩:=h.o w0 Z w a s;exact (n j).o w b W q⟩
theorem GQ.ad(h:Adm d0 Fs L L1 d2)(n:∀q,GQ hs f r (d2 q) (L1 q) fr P B N w0 Z E Q):GQ (.a d0::hs) f r Fs L fr P B N w0 Z E Q:=⟨λw a s q=>by
 obtain ⟨j,W,b⟩:=h.o w0 Z w a s;exact (n j).o w b W q⟩
theorem GC.ad(h:Adm d0 Fs L L1 d2)(n:∀q,GC hs f r (d2 q) (L1 q) fr P B N w0 Z c Q):GC (.a d0::hs) f r Fs L fr P B N w0 Z c Q:=⟨λw a s q=>by
 obtain ⟨j,W,b⟩:=h.o w0 Z w a s;exact (n j).o w b W q⟩
theorem GS.ad(h:Adm d0 Fs L L1 d2)(n:∀q,GS hs f r (d2 q) (L1 q) fr P B N w0 Z l i sz G Q):GS (.a d0::hs) f r Fs L fr P B N w0 Z l i sz G Q:=⟨λw a s q=>by
 obtain ⟨j,W,b⟩:=h.o w0 Z w a s;exact (n j).o w b W q⟩
theorem GP.ad(h:Adm d0 Fs L L1 d2)(n:∀q,GP hs f r (d2 q) (L1 q) fr P B N w0 Z l done eff pd Q):GP (.a d0::hs) f r Fs L fr P B N w0 Z l done eff pd Q:=⟨λw a s q=>by
 obtain ⟨j,W,b⟩:=h.o w0 Z w a s;exact (n j).o w b W q⟩
theorem Adm.nn(h:vl L (nI T R (.slice none ([]:List α).length 0) [] ([]:List α) none)=some V):Adm (.nn T R) Fs L (λ_:Unit=>V) (λ_=>Fs):=⟨λw0 Z w a s=>⟨(),by
 rw [vS h];exact s.nNil T R none,a⟩⟩
theorem Adm.o0{α:Type}{enc:α->List Value}{h:∀x,(enc x).length=sz}{x:α}(b:nth L j=some (itI (vu T (tu enc sz h)) [.pointer (some ⟨n,0,none⟩)] S x))(c:dx L j (jL n T (enc x))=some V):
  Adm (.o0 j) Fs L (λ_:Unit=>V) (λ_=>Fs):=⟨λw0 Z w a s=>⟨(),by
 rw [qJ c];exact s.openQ0 j (by rw [<- zQ];exact b),a⟩⟩
theorem Adm.s0{α:Type}{enc:α->List Value}{b:∀x,(enc x).length=sz}{x:α}(c:nth L j=some (jL n T us))(d:dx L j (itI (vu T (tu enc sz b)) [.pointer (some ⟨n,0,none⟩)] [n] x)=some V)(e:KR us (enc x)):
  Adm (.s0 j enc sz) Fs L (λ_:Unit=>V) (λ_=>Fs):=⟨λw0 Z w a s=>⟨(),by
 rw [qJ d];exact s.shutP0 j (by rw [<- zQ];exact c) x e.h,a⟩⟩
theorem Adm.kp(b:gz L ids []=some V)(c:KR (zT ids) true):Adm (.kp ids) Fs L (λ_:Unit=>V) (λ_=>Fs):=⟨λw0 Z w a s=>⟨(),by
 have:=xp b;rw [i4] at this;rw [this];exact s.keep ids c.h,a⟩⟩
theorem Adm.nr(h:vl L (qb (.slice none ([]:List α).length 0) T enc sz ([]:List α))=some V):Adm (.nr T enc sz) Fs L (λ_:Unit=>V) (λ_=>Fs):=⟨λw0 Z w a s=>⟨(),by
 rw [vS h];exact s.nilRow α T enc sz,a⟩⟩
theorem vL.app(e:vL w0 Z L)(f:vL w0 done V)(m:∀b∈Z,b∉done):vL w0 (Z++done) (L++V):=by
 refine ⟨λi x h=> ?_,λi j a b k h d y g c=> ?_⟩
 ·rcases bz h with ⟨_,h⟩|⟨_,h⟩
  ·obtain ⟨p,q,t⟩:=e.1 _ _ h;exact ⟨p,q,λb l=>zal _ (t b l)⟩
  ·obtain ⟨p,q,t⟩:=f.1 _ _ h;exact ⟨p,q,λb l=>zar _ (t b l)⟩
 ·rcases bz h with ⟨n,h⟩|⟨n,h⟩<;>rcases bz d with ⟨o,d⟩|⟨o,d⟩
  ·exact e.2 _ _ _ _ k h d y g c
  ·exact m y ((e.1 _ _ h).2.2 y g) ((f.1 _ _ d).2.2 y c)
  ·exact m y ((e.1 _ _ d).2.2 y c) ((f.1 _ _ h).2.2 y g)
  ·exact f.2 _ _ _ _ (by omega) h d y g c
theorem vL.single{it:Item}(h:it.Φ w0)(a:it.S.Nodup)(b:it.S=S):vL w0 S [it]:=vL.cons h a (by grind) (S2:=[]) (by simp) vL.nil (by simp)
structure jl {β ι:Type} (ks:List Nat) (q:Nat) (Fs:List Fa) (A:Rp β) (vs:ι->β->List Value) (its:ι->β->List Item) (fcs:ι->β->List Fa):Prop where
 o:∀w0 Z w cs S y,bO w0 Z Fs->A.own w cs S y->∃i,cs=vs i y/\vL w S (its i y)/\bO w0 Z (fcs i y)
variable {e0:ι->β->List Fa}{fcs2:κ->γ->List Fa}
theorem jl.pair
  (h:jl [n] q Fs A vs d4 e0) (b:jl (m::ks) q Fs d3 vs2 its2 fcs2):
  jl (n::m::ks) q Fs (jo A d3) (λ(i:ι×κ)y=>vs i.1 y.1++vs2 i.2 y.2) (λi y=>d4 i.1 y.1++its2 i.2 y.2) (λi y=>e0 i.1 y.1++fcs2 i.2 y.2):=⟨by
 rintro w0 Z w l S y a ⟨r,c2,s,t,rfl,rfl,c,d,e⟩;obtain ⟨i,rfl,p,f⟩:=h.o w0 Z w _ _ _ a d;obtain ⟨j,rfl,g,k⟩:=b.o w0 Z w _ _ _ a e;exact ⟨(i,j),rfl,p.app g c,Nb w0 Z f k⟩⟩
theorem yc:type_of% @jl.pair:=jl.pair
theorem BV(h:dw w0 T sz v n us):∃a c,v=.slice a n c:=by
 rcases h.2 with ⟨d,a,rfl⟩|⟨g,o,cap,b,rfl,_⟩
 ·grind
 ·exact ⟨_,_,rfl⟩
theorem jl.row{enc:β->List Value}{h:∀x,(enc x).length=sz}{b:0<sz}:
  jl [0] q Fs (nF T enc sz h b) (λ(i:Option Addr×Nat)y=>[.slice i.1 y.length i.2]) (λi y=>[qb (.slice i.1 y.length i.2) T enc sz y]) (λ_ _=>[]):=⟨by
 rintro w0 Z w d S y a ⟨v,rfl,rfl,ho⟩;obtain ⟨p,c,rfl⟩:=BV ho;exact ⟨(p,c),rfl,vL.single ho db rfl,trivial⟩⟩
theorem jl.nrow{h:0<A.sz}:
  jl [1] q Fs (lO T A h) (λ(i:Option Addr×Nat×List Nat)y=>[.slice i.1 y.length i.2.1]) (λi y=>[nI T A (.slice i.1 y.length i.2.1) i.2.2 y none]) (λ_ _=>[]):=⟨by
 rintro w0 Z w e S y a ⟨v,rfl,b,d,ho⟩;obtain ⟨p,c,rfl⟩:=BV ho.row;exact ⟨(p,c,S),rfl,vL.single ⟨b,d,ho⟩ ho.nd rfl,trivial⟩⟩
theorem jl.ptr:
  jl [2] q Fs (vu T A) (λ(i:Nat×List Nat)_=>[.pointer (some ⟨i.1,0,none⟩)]) (λi y=>[itI (vu T A) [.pointer (some ⟨i.1,0,none⟩)] i.2 y]) (λ_ _=>[]):=⟨by
 intro w0 Z w d S y a ho;have h:=(vu T A).nd w d S y ho;obtain ⟨b,F,c,rfl,rfl,e⟩:=ho;exact ⟨(b,b::c),rfl,vL.single ⟨b,F,c,rfl,rfl,e⟩ h rfl,trivial⟩⟩
theorem jl.bor{β:Type}{enc:β->List Value}(h:nth Fs q=some (.bo wb Sb)):
  jl [3] q Fs (Ix wb Sb enc sz) (λ(i:Option Addr×Nat)y=>[.slice i.1 y.length i.2]) (λ_ _=>[]) (λi y=>[.rb wb Sb (.slice i.1 y.length i.2) enc sz y,.rd (.slice i.1 y.length i.2) enc sz y]):=⟨by
 rintro w0 Z w b S y a ⟨v,rfl,rfl,ho⟩;obtain ⟨_,p,c,rfl⟩:=Rd.len ho;exact ⟨(p,c),rfl,vL.nil,ho,ho.bor (zD a h),trivial⟩⟩
theorem jl.any(b:KR A.sz 1):jl [4] q Fs A (λ(i:Value×List Nat)_=>[i.1]) (λi y=>[itI A [i.1] i.2 y]) (λ_ _=>[]):=⟨by
 intro w0 Z w c S y a ho;have hl:=A.len w c S y ho;rw [b.h] at hl
 match c,hl with
 |[v],_=>exact ⟨(v,S),rfl,vL.single ho (A.nd w _ S y ho) rfl,trivial⟩⟩
def BW(j n:Nat):Nat->Nat->List Nat->List Nat
 |0,_,B=>B
 |m+1,q,B=>(match Nat.beq q j with
  |true=>n
  |false=>q)::BW j n m (q+1) B
def upto(n:Nat):Nat->List Nat
 |0=>[]
 |m+1=>n::upto (n+1) m
theorem Adm.op{α ι:Type}{ff:α->List Value->List Value}{hl:∀x vs,(ff x vs).length=sz}{g:α->β}{x:α}{vs:ι->β->List Value}{its:ι->β->List Item}{fcs:ι->β->List Fa}
  {e L1:ι->List Item} {b:ι->List Fa}
  (G:nth L j=some (itI (vu T (qv ff sz hl g A)) [.pointer (some ⟨n,0,none⟩)] S x)) (l:jl ks q Fs A vs its fcs) (m:dx L j nilI=some V) (p:∀i,mB V (jL n T (ff x (vs i (g x)))::its i (g x))=some (e i))
  (r:∀i,gz (e i) (BW j L.length L.length 0 (upto (L.length+1) (its i (g x)).length)) []=some (L1 i)) (t:∀i,KR (zT (BW j L.length L.length 0 (upto (L.length+1) (its i (g x)).length))) true) (u:∀i,mB Fs (fcs i (g x))=some (b i)):
  Adm (.op j q ks) Fs L L1 b:=⟨λw0 Z w a s=>by
 have d:L[j]? =some (itI (vu T (qv ff sz hl g A)) [.pointer (some ⟨n,0,none⟩)] S x):=by grind [zQ]
 have ho:=s.all j _ d;obtain ⟨I,F,f,v,rfl,J,y,K,rfl,z⟩:=ho;cases v;obtain ⟨i,rfl,B,C⟩:=l.o w0 Z w _ _ _ a z;refine ⟨i,?_,by rw [bY (u i)];exact Nb w0 Z a C⟩
 have D:vL w (n::f) (jL n T (ff x (vs i (g x)))::its i (g x)):=vL.cons y (by simp [jL]) (by simp [jL]) (S2:=f) (by grind [jL]) B (λc E=>zcm _ E);have k:=s.burst j d D;rw [<- qJ m,<- bY (p i)] at k;have:=xp (r i);rw [i4] at this;rw [this];exact k.keep _ (t i).h⟩
structure qK (ks:List Pa) (Fs:List Fa) (L:List Item) (A:Rp β) (js:List Nat) (vs:List Value) (y:β):Prop where
 o:∀w0 Z w,zT js=true->bO w0 Z Fs->St w0 Z w L->∃S,A.own w vs S y/\S.Nodup/\∀b∈S,b∈fp (sel L js)
theorem Ap{L:List Item}:∀{a b:List Nat},sel L (a++b)=sel L a++sel L b
 |[],_=>rfl
 |x::r,b=>by simp [sel,Ap (a:=r)]
theorem mI:∀{a b:List Nat},zT (a++b)=true->zT b=true
 |[],_,h=>h
 |x::r,b,h=>by
  simp only [Ts,zT] at h;split at h
  ·cases h
  ·exact mI h
theorem tB(s:St w0 Z wb L){a b:List Nat}(g:zT (a++b)=true):∀x∈fp (sel L a),x∉fp (sel L b):=by
 intro x k l;obtain ⟨p,A,m,h⟩:=vG.1 k;obtain ⟨q,B,n,c⟩:=vG.1 l;obtain ⟨i,o,d⟩:=eS m;obtain ⟨j,t,e⟩:=eS n;rcases xS d with d|rfl
 ·rcases xS e with e|rfl
  ·have r:p<a.length:=(zes.1 o).1;have f:i≠j:=cI g (i:=p) (j:=a.length+q) (by omega) (by grind) (by grind);exact s.apart i j A B f d e x h c
  ·cases c
 ·cases h
theorem IC:n∈fp (L++V)↔n∈fp L\/n∈fp V:=by
 induction L with
 |nil=>simp [fp]
 |cons x r i=>simp [fp,i,or_assoc]
variable {e1 k2:Pa}{e2:List Pa}
theorem qK.pair{γ:Type}{B:Rp γ}{y:γ}(f:qK [e1] Fs L A done us y1)(g:qK (k2::e2) Fs L B eff F y):
  qK (e1::k2::e2) Fs L (jo A B) (done++eff) (us++F) (y1,y):=⟨λw0 Z w h a s=>by
 obtain ⟨S,i,n,j⟩:=f.o w0 Z w (dL h) a s;obtain ⟨c,k,l,m⟩:=g.o w0 Z w (mI h) a s;have p:∀b∈S,b∉c:=λb d q=>tB s h b (j b d) (m b q)
 refine ⟨S++c,⟨us,F,S,c,rfl,rfl,p,i,k⟩,k6.2 ⟨n,l,λa r b d e=>by grind⟩,λb d=> ?_⟩
 grind [Ap,IC]⟩
theorem qK.item(d:nth L j=some e3)(h:∀w,e3.Φ w->A.own w [v] e3.S y1):qK [e1] Fs L A [j] [v] y1:=⟨λw0 Z w f a s=>by
 have c:L[j]? =some e3:=by rw [<- zQ];exact d
 refine ⟨e3.S,h w (s.all j e3 c),s.nd j e3 c,λb e=> ?_⟩;simp only [sel,List.getD_eq_getElem?_getD,c,Option.getD_some,fp,i4];exact e⟩
theorem qK.row{enc:β->List Value}{h:∀x,(enc x).length=sz}{a:0<sz}(b:nth L j=some (qb v T enc sz e4)):qK [.r j] Fs L (nF T enc sz h a) [j] [v] e4:=
 qK.item b λw ho=>⟨v,rfl,rfl,ho⟩
theorem qK.nrow{h:0<A.sz}(a:nth L j=some (nI T A v S e4 none)):qK [.r j] Fs L (lO T A h) [j] [v] e4:=
 qK.item a λw ho=>⟨v,rfl,ho⟩
theorem qK.it(h:nth L j=some (itI A [v] S y1)):qK [.r j] Fs L A [j] [v] y1:=
 qK.item h λw ho=>ho
theorem qK.bor(h:nth Fs e=some (.rb wb Sb v e5 sz e4)):qK [.f e] Fs L (Ix wb Sb e5 sz) [] [v] e4:=⟨λw0 Z w b a s=>
 ⟨[],⟨v,rfl,rfl,zD a h⟩,o5,by simp⟩⟩
theorem Adm.sh{β:Type}{α:Type}{R:Rp α}{ff:α->List Value->List Value}{hl:∀x F,(ff x F).length=sz}{g:α->β}{A:Rp β}{x:α}{y:β}
  (E:nth L j=some (jL n T us)) (p:R=qv ff sz hl g A) (q:qK e2 Fs L A js F y) (r:gz L done []=some V) (t:∀S,vl V (itI (vu T R) [.pointer (some ⟨n,0,none⟩)] S x)=some (e6 S))
  (l:KR (zT ((j::js)++done)) true) (u:KR us (ff x F)) (v:KR (g x) y):Adm (.sh j e2 done R) Fs L e6 (λ_=>Fs):=⟨λw0 Z w a s=>by
 have i:L[j]? =some (jL n T us):=by grind [zQ]
 have d:zT (j::js)=true:=dL l.h;have k:zT js=true:=mI (a:=[j]) d;obtain ⟨S,z,B,D⟩:=q.o w0 Z w k a s;have m:∀c∈S,c≠n:=λc f e=>tB s (a:=[j]) (b:=js) d n (by grind [sel,fp,jL]) (D n (by rw [<- e];exact f))
 refine ⟨n::S,?_,a⟩;have:=xp r;rw [i4] at this;rw [vS (t (n::S)),this];refine s.gather (j::js) done l.h (C:=itI (vu T R) [.pointer (some ⟨n,0,none⟩)] (n::S) x) ⟨n,us,S,rfl,rfl,λf=>m n f rfl,s.all j _ i,?_⟩ (q7.2 ⟨λf=>m n f rfl,B⟩) ?_
 ·subst p;exact ⟨F,u.h,by rw [v.h];exact z⟩
 grind [itI,sel,fp,jL]⟩
open Go.RowKit
def zo(c:List Value)(k:Nat):Int:=match nth c k with
 |some (.int _ n)=>n
 |_=>0
def dT(c:List Value)(k:Nat):Bool:=match nth c k with
 |some (.bool b)=>b
 |_=>false
theorem GO.sr{α:Type}{dec:List Value->α}{enc:α->List Value}{xs b:List α}{x:α}(A:nth L j=some (qb z T enc sz b))(C:nth Fs q=some (.el z ff o X xs x))(d:KR b xs)
  (y:∀x,KR (enc x).length sz) (U:Ao (stV l fr i) 0 m=some us) (p:fj (enc x) us id=some F) (D:KR (gA (stV l fr i)) (some us)) (c:KR (stC P l fr i m) (some ⟨ff,o+X.toNat*sz+id,none⟩))
  (E:KR us.length m) (G:KR (eU us) true) (I:KR (GR us) true) (J:KR (enc (dec F)) F) (Y:dx L j (qb z T enc sz (b.set X.toNat (dec F)))=some V) (n:GO hs f r Fs V fr P B N w0 Z l (i+1) Q):GO (.sr j q id m dec::hs) f r Fs L fr P B N w0 Z l i Q:=⟨λw a s e=>by
 have c:=c.h;obtain ⟨u,k,g⟩:=mH D.h;obtain ⟨t,cp,v⟩:=zD a C;have d:=d.h;subst d;unfold stC at c;unfold stV at k;split at c
 ·rename_i t' x' y' ty pos af g' hl
  rw [hl] at k;simp only at k;split at c
  ·rename_i a' m' K M O
   split at c
   ·rename_i R
    have e1:=w7 R;have e2:=E.h;cases c;obtain ⟨e3,e4⟩:=bH p (by intro e5;have:=I.h;rw [e5] at this;cases this);refine OW.stR s j (by rw [<- zQ];exact A) v (λx=>(y x).h) hl K t id M rfl k (by grind) (by rw [g];exact G.h) (by rw [g];exact x7 (by rw [<- (y x).h];exact e4)) (dec F) (by rw [g,J.h];exact e3) λS W=> ?_
    exact n.o S a (by grind [qJ]) e
   ·cases c
  ·cases c
 ·cases c⟩
def rwP(l:List Oper)(i:Nat):List (Nat×Operand):=match vg l i with
 |some ⟨_,.buildSlice _ _ ⟨p⟩,_,_,_,_⟩=>p
 |_=>[]
def rwT(l:List Oper)(i:Nat):TypeId:=match vg l i with
 |some ⟨_,.buildSlice t _ _,_,_,_,_⟩=>t
 |_=>0
def rwC(l:List Oper)(N:Nat)(fr:Fr)(i:Nat):Option Nat:=match okO l N fr i with
 |some ⟨_,.buildSlice _ n ⟨_⟩,_,_,_,_⟩=>some n
 |_=>none
def atK(fr:Fr)(k:Nat):List (Nat×Operand)->Option Value
 |[]=>none
 |p::r=>match Nat.beq p.1 k with
  |true=>look fr p.2
  |false=>atK fr k r
def rwX{α:Type}(fr:Fr)(p:List (Nat×Operand))(dec:List Value->α):Nat->Nat->Option (List α)
 |_,0=>some []
 |k,n+1=>match rwX fr p dec (k+1) n with
  |some q=>some (dec ((gA (atK fr k p)).getD [])::q)
  |none=>none
theorem GO.rw{α:Type}{enc:α->List Value}{dec:List Value->α}{xs:List α}(D:rwX fr (rwP l i) dec 0 m=some xs)(b:KR (rwC l N fr i) (some m))(q:KR xs.length m)(t:KR (Nat.ble m 9223372036854775807) true)(v:∀x,KR (enc x).length sz)
  (hs:KR (fh fr ((rwP l i).map (·.2))) true) (c:∀w,KR ((Instr.buildSlice (rwT l i) m ((rwP l i).toArray.map λ(i,x)=>(i,rho fr x))).run P w) (.ok (.slice (some ⟨w.heap.size,0,none⟩) m m) (w.alloc (.cells (jO enc xs).toArray T))))
  (E:∀g,vl L (qb (.slice (some ⟨g,0,none⟩) m m) T enc sz xs)=some (c6 g)) (n:∀g,GO u f r Fs (c6 g) ((dst l i,.slice (some ⟨g,0,none⟩) m m)::fr) P B N w0 Z l (i+1) Q):GO (.rw m T enc sz dec::u) f r Fs L fr P B N w0 Z l i Q:=⟨λw a s e=>by
 have b:=b.h;unfold rwC at b;split at b
 ·rename_i F y G p _ _ _ _ ho
  cases b
  obtain ⟨d,hl,z,j,A⟩:=jC ho;simp only at j;subst j;have e1:rwP l i=p:=by simp [rwP,hl]
  have e2:rwT l i=y:=by simp [rwT,hl]
  rw [e1] at hs c;rw [e2] at c;refine OW.row (ps:=p) s hl z A xs q.h (λx=>(v x).h) t.h hs.h (λw=>(c w).h) λg C W=> ?_
  have k:=(n g).o C a (by grind [vS]) e;rw [vv hl rfl] at k;exact k
 ·cases b⟩
def elB(P:Program)(e sz:Nat):Option Nat:=match ax P (sizeOf e),P.info? e with
 |some s,some i=>match Nat.beq s sz,i.zero.map (·.cells.size),Nat.beq i.size sz,Nat.blt 0 sz,Nat.blt 0 i.bytes with
  |true,some z,true,true,true=>match Nat.beq z sz with
   |true=>some i.bytes
   |false=>none
  |_,_,_,_,_=>none
 |_,_=>none
theorem tD(h:elB P e sz=some n):tq P e sz n:=by
 unfold elB at h;split at h
 ·rename_i s i a b
  split at h
  ·rename_i z g c d f j
   split at h
   ·rename_i k
    cases h
    have e1:=w7 g;have e3:=w7 d;have e6:=w7 k;subst e1 e6;exact tq.of a b c e3 rfl (by simpa [x6] using f) (by simpa [x6] using j)
   ·cases h
  ·cases h
 ·cases h
structure N5 {α:Type} (sr:Src) (Fs:List Fa) (L:List Item) (enc:α->List Value) (sz:Nat) (v:Value) (ys:List α):Prop where
 o:∀w0 Z w,bO w0 Z Fs->St w0 Z w L->∃S,Rd w S v enc sz ys
theorem N5.sf(h:nth Fs e=some (.rd z enc sz ys)):N5 (.f e) Fs L enc sz z ys:=⟨λw0 Z w a s=>⟨Z,Rd.on (zD a h) s⟩⟩
theorem N5.so(d:nth L j=some (qb z T enc sz ys))(c:∀x,KR (enc x).length sz):N5 (.o j) Fs L enc sz z ys:=⟨λw0 Z w a s=>by
 have b:L[j]? =some (qb z T enc sz ys):=by grind [zQ]
 exact ⟨_,s.rd j b (λx=>(c x).h) [] rfl (s.len j b).1⟩⟩
def apC(P:Program)(l:List Oper)(N:Nat)(fr:Fr)(i:Nat):Option (Value×Value×TypeId):=match okO l N fr i with
 |some ⟨_,.call ⟨.builtin .append,⟨[x,y]⟩,⟨[t,a]⟩⟩,_,_,_,_⟩=>match Nat.beq t a,look fr x,look fr y,P.underlying t with
  |true,some u,some v,some (.slice e)=>some (u,v,e)
  |_,_,_,_=>none
 |_=>none
variable {e7:Src}
theorem GO.ap{α:Type}{enc:α->List Value}{xs b ys y:List α}(F:nth Fs q=some (.oe (room (xs.length+ys.length) m) a8))(hj:nth L j=some (qb v1 T enc sz b))(g:KR b xs)(G:N5 e7 Fs L enc sz v y)(k:KR y ys)
  (I:∀x,KR (enc x).length sz) (ho:∀x,KR (eU (enc x)) true) (e:KR (apC P l N fr i) (some (v1,v,T))) (u:KR (elB P T sz) (some m)) (hL:∀a c,dx L j (qb (.slice a (xs++ys).length c) T enc sz (xs++ys))=some (e8 a c))
  (n:∀a c,GO hs f r Fs (e8 a c) ((dst l i,.slice a (xs++ys).length c)::fr) P B N w0 Z l (i+1) Q):GO (.ap q j e7::hs) f r Fs L fr P B N w0 Z l i Q:=⟨λw a s J=>by
 have K:room (xs.length+ys.length) m=some a8:=zD a F;have g:=g.h;have k:=k.h;subst g k;obtain ⟨S,M⟩:=G.o w0 Z w a s;have e:=e.h;unfold apC at e;split at e
 ·rename_i d' x' y' t t' _ _ _ _ A
  split at e
  ·rename_i u' z e' C O R U
   cases e
   have C:=w7 C;subst C;obtain ⟨d,hl,V,D,X⟩:=jC A;simp only at D;subst D;refine OW.app s j (by grind [zQ]) (λx=>(I x).h) (λx=>(ho x).h) hl rfl V X O R U (tD u.h) M (pm K) λz Y W=> ?_
   have p:(L.set j (qb z T enc sz (b++y)))[j]? =some (qb z T enc sz (b++y)):=by
    grind [zQ]
   obtain ⟨_,pa,pc,rfl⟩:=W.len j p;have E:=(n pa pc).o Y a (by grind [qJ]) J;rw [vv hl rfl] at E;exact E
  ·cases e
 ·cases e⟩
def mkC(P:Program)(l:List Oper)(N:Nat)(fr:Fr)(i:Nat):Option (Int×Int):=match okO l N fr i with
 |some ⟨_,.makeSlice _ x y,_,_,_,_⟩=>match look fr x,look fr y with
  |some (.int _ a),some (.int _ b)=>some (a,b)
  |_,_=>none
 |_=>none
def mkT(P:Program)(l:List Oper)(i:Nat):TypeId:=match vg l i with
 |some ⟨_,.makeSlice t _ _,_,_,_,_⟩=>match P.underlying t with
  |some (.slice e)=>e
  |_=>0
 |_=>0
def RL(P:Program)(l:List Oper)(i:Nat):Bool:=match vg l i with
 |some ⟨_,.makeSlice t _ _,_,_,_,_⟩=>match P.underlying t with
  |some (.slice _)=>true
  |_=>false
 |_=>false
theorem GO.mkS(z:nth Fs q=some (.oe (mkLen X j) m))(A:∀x,KR (enc x).length sz)(b:KR (mkC P l N fr i) (some (X,X)))(c:KR (RL P l i) true)(e:KR (elB P (mkT P l i) sz) (some j))(p:KR ((ax P (zeroValue (mkT P l i))).map (·.cells.toList)) (some (enc C)))
  (D:∀g,vl L (qb (.slice (some ⟨g,0,none⟩) m m) (mkT P l i) enc sz (List.replicate m C))=some (c6 g))
  (n:∀g,GO hs f r Fs (c6 g) ((dst l i,.slice (some ⟨g,0,none⟩) m m)::fr) P B N w0 Z l (i+1) Q):GO (.mk q enc sz j C::hs) f r Fs L fr P B N w0 Z l i Q:=⟨λw a s E=>by
 have F:mkLen X j=some m:=zD a z;have b:=b.h;unfold mkC at b;split at b
 ·rename_i R t x' S _ _ _ _ k
  split at b
  ·rename_i T a1 k2 U G I
   simp only [i6,o7] at b;obtain ⟨rfl,rfl⟩:=b;obtain ⟨d,hl,J,u,K⟩:=jC k;simp only at u;subst u;have c:=c.h;unfold RL at c;rw [hl] at c;simp only at c;split at c
   ·rename_i M v
    have e2:mkT P l i=M:=by simp [mkT,hl,v]
    rw [e2] at e p D;refine OW.make s hl J K G I v (tD e.h) C p.h (λx=>(A x).h) F λg O W=> ?_
    have y:=(n g).o O a (by grind [vS]) E;rw [vv hl rfl] at y;exact y
   ·cases c
  ·cases b
 ·cases b⟩
end Go.Sx
