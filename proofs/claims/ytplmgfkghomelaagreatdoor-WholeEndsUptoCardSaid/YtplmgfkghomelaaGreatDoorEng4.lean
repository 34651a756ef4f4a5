/- Lemmas. -/
import Derived.Test.YtplmgfkghomelaaGreatDoorEng
set_option linter.all false
namespace Go.Sx
open Go.RowKit
variable {α ρ σ:Type}{w w0 w':World}{o:Oper}{Fs Fs1:List Fa}{N i M q n e c j m d p ff sze a8:Nat}{Z S0 g js ats:List Nat}{fr:Fr}{P:Program}{l:List Oper}{L L1:List Item}{B:Func}{enc:α->List Value}{xs ys:List α}{x:α}{T ty tk te:TypeId}{Q:Exit->Act->World->Prop}{a:Option Addr}{hs hs1 hs2:List H}{r:ρ}{v v' J:Value}{f:Option ρ}{lv:List (Nat×Pn)}{pk Ls la:List (Nat×Bool)}{X t p3:Int}{F A C k b2:List Value}{one many:List (Nat×LH)}{h:LH}{R:Rp α}{ho:Option (Int×Value)}{src:List Src}{gdd:Option (Nat×Bool)}{b:(Nat->α)->List Value}{xs' a9:List (Nat->α)}{z b0:Nat->α}{mv:List (Int×Value)}{Ss:List (List Nat)}{D:Act}{G d3 d4:Operand}{E:List (Value×Value)}{I:Value×List (Nat×Bool)}{K:Addr}{O:Array Oper}{U:BinOp}{V:BinOp->Bool}{W:IntKind×Int×IntKind×Int}{Y:Unit}{a0:ByteArray}{a1:Int×Int}{φ:List α->Option ρ}{a3 y:Code}{a4:Nat×Nat×Nat×Option Int×Option Int×Nat}{a5:Option (Nat×Nat×Nat×Option Int×Option Int×Nat)}{a6:Nat×Option Int×Option Int}{a7:Cs}{dec:List Value->α}{b3 b5:α->Prop}{b4 b7:Option α}{b6:Bool}{b8:Unit->Prop}{c0:Nat->Prop}{c2:Nat->(σ->Option ρ)->σ->Option ρ}{c3:σ->ρ}{c4:ρ->Prop}{c5:σ}{c6:(σ->Option α)->σ->Option α}{c7:List (Nat×Value)}{s:List (Int×α)}{c9:FuncId}{d0:String}{d2:Array Edge}{kd:IntKind}{e0:Array Value}
abbrev SpS:=List (Nat×Value×List (Nat×Bool))
def tq:SpS->Nat->Option (Value×List (Nat×Bool))
 |[],_=>none
 |p::r,n=>match Nat.beq p.1 n with
  |true=>some p.2
  |false=>tq r n
def slk(S:SpS)(fr:Fr):Operand->Option (Value×List (Nat×Bool))
 |.tmp t=>match tq S t with
  |some e=>some e
  |none=>match lj fr t with
   |some v=>some (v,[])
   |none=>none
 |.const v=>some (v,[])
 |.global g=>some (.pointer (some ⟨g,0,none⟩),[])
 |.func f=>some (.func (.func f) #[] #[],[])
def Ku(p:Nat×Bool):List (Nat×Bool)->Bool
 |[]=>false
 |q::r=>match Nat.beq q.1 p.1,q.2==p.2 with
  |true,true=>true
  |_,_=>Ku p r
def iG:List (Nat×Bool)->List (Nat×Bool)->Bool
 |[],_=>true
 |p::r,B=>match Ku p B with
  |true=>iG r B
  |false=>false
theorem BR{p:Nat×Bool}:∀{B:List (Nat×Bool)},Ku p B=true->p∈B
 |[],h=>by cases h
 |q::r,h=>by
  unfold Ku at h;split at h
  ·rename_i a b
   have e:=u6 a
   grind
  ·exact zcm _ (BR h)
theorem gI:∀{A B:List (Nat×Bool)},iG A B=true->∀p∈A,p∈B
 |[],_,_,p,a=>by cases a
 |q::r,B,h,p,a=>by
  unfold iG at h;split at h
  ·rename_i b
   rcases j9.1 a with rfl|a
   ·exact BR b
   ·exact gI h p a
  ·cases h
def H9(l:List Oper)(S:SpS)(o:Oper):Option (List (Nat×Bool)):=match o.guard with
 |none=>some []
 |some (j,b)=>match (vr l j).bind (·.dst) with
  |some d=>match tq S d with
   |some (.bool _,a)=>some ((d,b)::a)
   |_=>none
  |none=>none
def Rf(S:SpS)(fr:Fr)(x:Operand):Value:=match slk S fr x with
 |some e=>e.1
 |none=>undef
def Kv(S:SpS)(fr:Fr)(Ls:List (Nat×Bool)):List Operand->Bool
 |[]=>true
 |x::r=>match slk S fr x with
  |some e=>match iG e.2 Ls with
   |true=>Kv S fr Ls r
   |false=>false
  |none=>false
def DC{α:Type}:List (Nat×α)->Nat->Option α
 |[],_=>none
 |p::r,n=>match Nat.beq p.1 n with
  |true=>some p.2
  |false=>DC r n
def Rg(P:Program)(lv:List (Nat×Pn))(pk:List (Nat×Bool))(i:Nat)(S:SpS)(fr:Fr)(Ls:List (Nat×Bool))(o:Oper):Option (Value×List (Value×Value)):=match o.op with
 |.pick (.tmp c) x y=>match DC pk i with
  |some true=>match slk S fr (.tmp c),slk S fr x,slk S fr y with
   |some (.bool g,l),some (.bool true,la),some (.bool b,d)=>match iG l Ls,iG la ((c,true)::Ls),iG d ((c,false)::Ls) with
    |true,true,true=>some (.bool (g||b),[])
    |_,_,_=>none
   |_,_,_=>none
  |some false=>match slk S fr (.tmp c),slk S fr x,slk S fr y with
   |some (.bool g,l),some (.bool a,la),some (.bool false,d)=>match iG l Ls,iG la ((c,true)::Ls),iG d ((c,false)::Ls) with
    |true,true,true=>some (.bool (g&&a),[])
    |_,_,_=>none
   |_,_,_=>none
  |none=>none
 |.load t x=>match DC lv i,slk S fr x with
  |some (.c a v),some (p,la)=>match iG la Ls,au P (isAgg t) with
   |true,some false=>some (v,[(p,.pointer (some a))])
   |_,_=>none
  |some (.n b k e),some (p,la)=>match iG la Ls,au P (isAgg t),au P (sizeOf t) with
   |true,some true,some m=>match Nat.beq m e.length with
    |true=>some (.agg e.toArray,[(p,.pointer (some ⟨b,k,none⟩))])
    |false=>none
   |_,_,_=>none
  |_,_=>none
 |_=>match aC o.op,Kv S fr Ls o.op.operands.toList with
  |true,true=>match au P (execOp (Rf S fr) o) with
   |some (.value v)=>some (v,[])
   |_=>none
  |_,_=>none
def tN(P:Program)(l:List Oper)(N:Nat)(lv:List (Nat×Pn))(pk:List (Nat×Bool))(fr:Fr):Nat->Nat->SpS->List (Value×Value)->Option (SpS×List (Value×Value))
 |0,_,S,E=>some (S,E)
 |n+1,i,S,E=>match vr l i with
  |none=>none
  |some o=>match o.dst,H9 l S o with
   |some d,some Ls=>match Nat.blt d N,tq S d with
    |true,none=>match Rg P lv pk i S fr Ls o with
     |some (v,e)=>tN P l N lv pk fr n (i+1) ((d,v,Ls)::S) (e++E)
     |none=>none
    |_,_=>none
   |_,_=>none
def Hd(S:SpS)(Ls:List (Nat×Bool)):Prop:=∀p∈Ls,∃l,tq S p.1=some (.bool p.2,l)
structure SpI (N:Nat) (S:SpS) (fr:Fr) (a:Act):Prop where
 size:a.tmps.size=N
 defers:a.defers=[]
 on:∀t v Ls,tq S t=some (v,Ls)->(Hd S Ls->a.tmps[t]? =some v)/\(¬ Hd S Ls->a.tmps[t]? =some undef)
 off:∀t v,tq S t=none->lj fr t=some v->a.tmps[t]? =some v
 closed:∀t v Ls,tq S t=some (v,Ls)->∀p∈Ls,∃u,tq S p.1=some u
variable {S:SpS}
theorem Hd.sub(h:Hd S Ls)(hs:iG pk Ls=true):Hd S pk:=λp a=>h p (gI hs p a)
theorem SpI.lk(h:SpI N S fr D)(a:slk S fr G=some (v,la))(hl:Hd S la):D.eval G=v:=by
 cases G with
 |tmp t=>
  simp only [slk] at a
  have:D.tmps[t]? =some v:=by
   split at a
   ·rename_i e b
    cases a
    exact (h.on t v la b).1 hl
   ·rename_i b
    split at a
    ·rename_i u c;cases a;exact h.off t v b c
    ·cases a
  simp [Act.eval,yt,this]
 |const u=>simp only [slk] at a;cases a;rfl
 |global g=>simp only [slk] at a;cases a;rfl
 |func f=>simp only [slk] at a;cases a;rfl
theorem BS{fr:Fr}{S:SpS}{Ls:List (Nat×Bool)}:∀{xs:List Operand},Kv S fr Ls xs=true->∀x∈xs,∃e,slk S fr x=some e/\iG e.2 Ls=true
 |[],_,x,a=>by cases a
 |y::r,h,x,a=>by
  unfold Kv at h;split at h
  ·rename_i e b
   split at h
   ·rename_i hs
    rcases j9.1 a with rfl|a
    ·exact ⟨e,b,hs⟩
    ·exact BS h x a
   ·cases h
  ·cases h
theorem SpI.want(h:SpI N S fr D)(a:H9 l S o=some Ls):(Hd S Ls->Region.wanted o (yielded l.toArray D.tmps)=true)/\(¬ Hd S Ls->Region.wanted o (yielded l.toArray D.tmps)=false):=by
 unfold H9 at a;unfold Region.wanted;split at a
 ·rename_i m
  cases a
  rw [m];exact ⟨λ_=>rfl,λk=>absurd (λp c=>by cases c) k⟩
 ·rename_i j b m
  rw [m];split at a
  ·rename_i d n
   split at a
   ·rename_i g q hs
    cases a
    have f:=h.on d _ _ hs;constructor
    ·intro k;have i:Hd S q:=λp c=>k p (zcm _ c)
     obtain ⟨s,r⟩:=k (d,b) zcs;rw [hs] at r;cases r;simp only [yielded,dL,n,zbs,f.1 i];cases b<;>rfl
    ·intro k;by_cases i:Hd S q
     ·have t:g≠b:=λe=>k (λp c=>by
       rcases j9.1 c with rfl|c
       ·grind
       ·exact i p c)
      simp only [yielded,dL,n,zbs,f.1 i]
      grind
     ·simp only [yielded,dL,n,zbs,f.2 i];cases b<;>rfl
   ·cases a
  ·cases a
theorem SpI.val(h:SpI N S fr D)(a:Rg P lv pk i S fr Ls o=some (v,E))(M:∀p∈E,p.1=p.2)(hl:∀i e,DC lv i=some e->e.Φ w)(A:Hd S Ls):(execOp D.eval o).run P w=.ok (.value v) w:=by
 unfold Rg at a;split at a
 ·rename_i c x y ho
  split at a
  split at a
  ·rename_i g O la b Q q d j
   split at a
   ·rename_i C G I
    cases a
    have F:=h.lk q (A.sub C);simp only [execOp,ho,F,asBool];cases g with
    |true=>
     have R:Hd S ((c,true)::Ls)\/Hd S la:=.inr (λp n=>by
      rcases j9.1 (gI G p n) with rfl|r
      ·cases l:tq S c with
       |none=>
        exfalso
        cases x with
        |tmp t=>
         simp only [slk] at d;split at d
         ·rename_i e z;cases d;obtain ⟨u,s⟩:=h.closed t _ _ z _ n;rw [l] at s;cases s
         ·split at d<;>cases d;cases n
        |const u=>simp only [slk] at d;cases d;cases n
        |global g=>simp only [slk] at d;cases d
        |func f=>simp only [slk] at d;cases d
       |some u=>
        simp only [slk,l] at q;cases q;exact ⟨_,rfl⟩
      ·exact A p r)
     have B:=h.lk d (R.elim (λk=>k.sub G) id);simp [B]
    |false=>
     have J:=h.lk j (λp n=>by
      rcases j9.1 (gI I p n) with rfl|r
      ·cases l:tq S c with
       |none=>
        exfalso
        cases y with
        |tmp t=>
         simp only [slk] at j;split at j
         ·rename_i e z;cases j;obtain ⟨u,s⟩:=h.closed t _ _ z _ n;rw [l] at s;cases s
         ·split at j<;>cases j;cases n
        |const u=>simp only [slk] at j;cases j;cases n
        |global g=>simp only [slk] at j;cases j
        |func f=>simp only [slk] at j;cases j
       |some u=>
        simp only [slk,l] at q;cases q;exact ⟨_,rfl⟩
      ·exact A p r)
     simp [J]
   ·cases a
  ·cases a
  split at a
  ·rename_i g O V la Q q d j
   split at a
   ·rename_i C G I
    cases a
    have F:=h.lk q (A.sub C);simp only [execOp,ho,F,asBool];cases g with
    |true=>
     have B:=h.lk d (λp n=>by
      rcases j9.1 (gI G p n) with rfl|r
      ·cases l:tq S c with
       |none=>
        exfalso
        cases x with
        |tmp t=>
         simp only [slk] at d;split at d
         ·rename_i e z;cases d;obtain ⟨u,s⟩:=h.closed t _ _ z _ n;rw [l] at s;cases s
         ·split at d<;>cases d;cases n
        |const u=>simp only [slk] at d;cases d;cases n
        |global g=>simp only [slk] at d;cases d
        |func f=>simp only [slk] at d;cases d
       |some u=>
        simp only [slk,l] at q;cases q;exact ⟨_,rfl⟩
      ·exact A p r)
     simp [B]
    |false=>
     have J:=h.lk j (λp n=>by
      rcases j9.1 (gI I p n) with rfl|r
      ·cases l:tq S c with
       |none=>
        exfalso
        cases y with
        |tmp t=>
         simp only [slk] at j;split at j
         ·rename_i e z;cases j;obtain ⟨u,s⟩:=h.closed t _ _ z _ n;rw [l] at s;cases s
         ·split at j<;>cases j;cases n
        |const u=>simp only [slk] at j;cases j;cases n
        |global g=>simp only [slk] at j;cases j
        |func f=>simp only [slk] at j;cases j
       |some u=>
        simp only [slk,l] at q;cases q;exact ⟨_,rfl⟩
      ·exact A p r)
     simp [J]
   ·cases a
  ·cases a
  cases a
 ·rename_i t x ho
  split at a
  ·rename_i W u p la q d
   split at a
   ·rename_i C K
    cases a
    have F:=h.lk d (A.sub C);have B:=M _ zcs;simp only at B;have j:=pT (P:=P) (w:=w) K (hl i _ q);simp only [execOp,ho];rw [F,B];simp [j]
   ·cases a
  ·rename_i b k X p la q d
   split at a
   ·rename_i m C K T
    split at a
    ·rename_i L
     cases a
     have L:=u6 L;subst L;have F:=h.lk d (A.sub C);have B:=M _ zcs;simp only at B;have j:=pU (P:=P) (w:=w) K T (hl i _ q);simp only [execOp,ho];rw [F,B];simp [j]
    ·cases a
   ·cases a
  ·cases a
 ·split at a
  ·rename_i hs ho
   split at a
   ·rename_i u s
    cases a
    rw [iR (ρ':=Rf S fr) hs (λx U=> ?_)]
    ·exact qV s w
    ·obtain ⟨e,z,hs2⟩:=BS ho x U;rw [h.lk (v:=e.1) (la:=e.2) z (A.sub hs2)];simp [Rf,z]
   ·cases a
  ·cases a
theorem mw:tq ((d,I)::S) N=if d=N then some I else tq S N:=by
 simp only [tq];cases h:Nat.beq d N with
 |true=>rw [d7 (u6 h)]
 |false=>rw [d8 (q9 h)]
theorem SpI.put(h:SpI N S fr D)(n:Nat.blt d N=true)(w:tq S d=none)(c:H9 l S o=some Ls)(x:Hd S Ls->J=v)(y:¬ Hd S Ls->J=undef):SpI N ((d,v,Ls)::S) fr (D.put (some d) J):=by
 have i:d<N:=by simpa [w9] using n
 have r:∀p∈Ls,∃z,tq S p.1=some z:=by
  unfold H9 at c;split at c
  ·grind
  ·split at c
   ·split at c
    ·rename_i A _ g B hs
     cases c
     intro p b;rcases j9.1 b with rfl|b
     ·exact ⟨_,hs⟩
     ·exact h.closed _ _ _ hs p b
    ·cases c
   ·cases c
 have m:∀L,(∀p∈L,∃z,tq S p.1=some z)->(Hd ((d,v,Ls)::S) L↔Hd S L):=by
  intro L j
  have:∀p∈L,tq ((d,v,Ls)::S) p.1=tq S p.1:=by
   grind [mw]
  exact ⟨λk p b=>by rw [<- this p b];exact k p b,λk p b=>by rw [this p b];exact k p b⟩
 refine ⟨by simp [Act.put,h.size],by simp [Act.put,h.defers],λt v' L a=> ?_,λt v' a s=> ?_,λt v' L a p b=> ?_⟩
 ·rw [mw] at a;by_cases e:d=t
  ·subst e;rw [d7 rfl] at a;cases a;have f:(D.put (some d) J).tmps[d]? =some J:=by simp [Act.put,h.size,i]
   grind
  ·rw [d8 e] at a;have f:(D.put (some d) J).tmps[t]? =D.tmps[t]? :=by simp only [Act.put];exact Array.getElem?_setIfInBounds_ne e
   rw [f];have j:=h.closed t v' L a;exact ⟨λk=>(h.on t v' L a).1 ((m L j).1 k),λk=>(h.on t v' L a).2 (λq=>k ((m L j).2 q))⟩
 ·rw [mw] at a;by_cases e:d=t
  ·grind
  ·rw [d8 e] at a;have f:(D.put (some d) J).tmps[t]? =D.tmps[t]? :=by simp only [Act.put];exact Array.getElem?_setIfInBounds_ne e
   rw [f];exact h.off t v' a s
 ·have u:∃z,tq S p.1=some z:=by
   rw [mw] at a;by_cases e:d=t
   ·grind
   ·rw [d8 e] at a;exact h.closed t v' L a p b
  grind [mw]
theorem PE{a:Act}(G:Nat->Act->Prop)(hl:∀i e,DC lv i=some e->e.Φ w)
  (step:∀i a o,vr l i=some o->(Region.wanted o (yielded l.toArray a.tmps)=true->∀v d,o.dst=some d->(execOp a.eval o).run P w=.ok (.value v) w->G (i+1) (a.put (some d) v)->G i a)/\
   (Region.wanted o (yielded l.toArray a.tmps)=false->∀d,o.dst=some d->G (i+1) (a.put (some d) undef)->G i a)):
  ∀(n i:Nat)(S:SpS)(E:List (Value×Value)){c:SpS}{b:List (Value×Value)}{a:Act},tN P l N lv pk fr n i S E=some (c,b)->(∀p∈b,p.1=p.2)->SpI N S fr a->(∀x,SpI N c fr x->G (i+n) x)->G i a:=by
 have f:∀(n i:Nat)(S:SpS)(E:List (Value×Value)){c:SpS}{b:List (Value×Value)},tN P l N lv pk fr n i S E=some (c,b)->∀p∈E,p∈b:=by
  intro n
  induction n with
  |zero=>intro i S E c b h p j;simp only [tN,i8,p8] at h;rw [<- h.2];exact j
  |succ n r=>
   intro i S E c b h p j;unfold tN at h;split at h
   ·cases h
   ·split at h
    ·split at h
     ·split at h
      ·exact r _ _ _ h p (zar _ j)
      ·cases h
     ·cases h
    ·cases h
 intro n
 induction n with
 |zero=>intro i S E c b a h _ g k;simp only [tN,i8,p8] at h;exact k a (by grind)
 |succ n r=>
  intro i S E c b a h t g k;have F:=h;unfold tN at h;split at h
  ·cases h
  ·rename_i o ho
   split at h
   ·rename_i d Ls y s
    split at h
    ·rename_i z A
     split at h
     ·rename_i v e B
      have u:∀p∈e,p.1=p.2:=λp j=>t p (f _ _ _ _ h p (zal _ j))
      obtain ⟨C,D⟩:=step i a o ho;by_cases m:Hd S Ls
      ·refine C ((g.want s).1 m) v d y (g.val B u hl m) (r _ _ _ h t (g.put z A s (λ_=>rfl) (λq=>absurd m q)) ?_)
       grind
      ·refine D ((g.want s).2 m) d y (r _ _ _ h t (g.put z A s (λq=>absurd q m) (λ_=>rfl)) ?_)
       grind
     ·cases h
    ·cases h
   ·cases h
def tO(S:SpS)(fr:Fr):List Nat->Bool
 |[]=>true
 |q::r=>(match tq S q with
  |some (_,[])=>true
  |some _=>false
  |none=>match lj fr q with
   |some _=>true
   |none=>false)&&tO S fr r
def Kw(S:SpS)(fr:Fr):List Nat->Fr
 |[]=>[]
 |q::r=>(q,match tq S q with
  |some (v,_)=>v
  |none=>(lj fr q).getD undef)::Kw S fr r
theorem SpI.rep{N:Nat}{fr:Fr}{S:SpS}{a:Act}(h:SpI N S fr a):∀{g:List Nat},tO S fr g=true->Rep N (Kw S fr g) a
 |[],_=>⟨h.size,h.defers,λi v X=>by cases X⟩
 |q::r,hl=>by
  unfold tO at hl;rw [zae] at hl;have f:=h.rep hl.2;refine {h with get:=λi v X=> ?_};simp only [Kw] at X;rw [bB] at X;split at X
  ·rename_i e
   subst e;have c:=hl.1;split at c
   ·rename_i u b
    rw [b] at X;cases X;exact (h.on q _ _ b).1 (λp j=>by cases j)
   ·cases c
   ·rename_i b
    split at c
    ·rename_i u d
     rw [b,d] at X;cases X;exact h.off q _ b d
    ·cases c
  ·exact f.get i v X
theorem SpI.init(a:Rep N fr D):SpI N [] fr D:=⟨a.size,a.defers,λt v Ls h=>(by cases h),λt v _ b=>a.get t v b,λt v Ls h=>(by cases h)⟩
structure LvR (one many:List (Nat×LH)) (Fs:List Fa) (L:List Item) (w0:World) (Z:List Nat) (lv:List (Nat×Pn)):Prop where
 o:∀w,bJ w0 Z Fs->St w0 Z w L->∀p∈lv,p.2.Φ w
theorem LvR.nil:LvR [] [] Fs L w0 Z []:=⟨λ_ _ _ p h=>by cases h⟩
theorem LvR.c1(d:Cel Fs L w0 Z h K v)(n:LvR one many Fs L w0 Z lv):LvR ((j,h)::one) many Fs L w0 Z ((j,.c K v)::lv):=⟨λw b s p a=>by
 rcases j9.1 a with rfl|a
 ·exact d.o w b s
 ·exact n.o w b s p a⟩
theorem tP{α:Type}:∀{xs:List (Nat×α)} {n:Nat} {x:α},DC xs n=some x->∃p∈xs,p.2=x
 |[],_,_,h=>by cases h
 |p::r,n,x,h=>by
  unfold DC at h;split at h
  ·grind
  ·obtain ⟨q,a,e⟩:=tP h;exact ⟨q,zcm _ a,e⟩
def spS(P:Program)(l:List Oper)(N:Nat)(lv:List (Nat×Pn))(pk:List (Nat×Bool))(fr:Fr):SpS:=match tN P l N lv pk fr l.length 0 [] [] with
 |some p=>p.1
 |none=>[]
def spE(P:Program)(l:List Oper)(N:Nat)(lv:List (Nat×Pn))(pk:List (Nat×Bool))(fr:Fr):Option (List (Value×Value)):=match tN P l N lv pk fr l.length 0 [] [] with
 |some p=>some p.2
 |none=>none
theorem tQ:∀{E:List (Value×Value)},E.map (·.1)=E.map (·.2)->∀p∈E,p.1=p.2
 |[],_,p,a=>by cases a
 |q::r,h,p,a=>by
  simp only [t6,List.cons.injEq] at h;rcases j9.1 a with rfl|a
  ·exact h.1
  ·exact tQ h.2 p a
theorem GC.sc(hl:LvR one many Fs L w0 Z lv)(E:KR (spE P l N lv pk fr).isSome true)(F:KR (((spE P l N lv pk fr).getD []).map (·.1)) (((spE P l N lv pk fr).getD []).map (·.2)))(G:KR (tO (spS P l N lv pk fr) fr g) true)
  (n:GQ hs f r Fs L (Kw (spS P l N lv pk fr) fr g) P B N w0 Z .normal Q):GC (.sc g one many pk::hs) f r Fs L fr P B N w0 Z (.region M l.toArray false) Q:=⟨λw a s e=>by
 refine f9 λb I=> ?_
 have t:=E.h;have u:=tQ F.h;have j:=G.h;have m:=n.o w a s e;unfold spE at t u;unfold spS at j m;cases x:tN P l N lv pk fr l.length 0 [] [] with
 |none=>rw [x] at t;cases t
 |some p=>
  rw [x] at u j m
  have key:=PE (P:=P) (l:=l) (N:=N) (lv:=lv) (pk:=pk) (fr:=fr) (w:=w) (λi a=>wpList P l.toArray Q (l.drop i) a w)
   (λi e X=>by obtain ⟨q,J,rfl⟩:=tP X;exact hl.o w a s q J)
   (λi a o ho=>⟨λy v d z c k=>by
     show wpList P l.toArray Q (l.drop i) a w;rw [aU ho];refine wpList_step (λK A=> ?_);rw [d7 y];unfold Oper.wp;rw [c,Oper.upon_value,z];exact A _ _ k,
    λy d z k=>by
     show wpList P l.toArray Q (l.drop i) a w;rw [aU ho];refine wpList_step (λK A=> ?_);rw [y,z];exact A _ _ k⟩) l.length 0 [] [] (a:=b) x u (SpI.init I) (λC D=>by
    have S:=m C (D.rep j)
    have O:=f8 (P:=P) (l:=l) (N:=N) (Q:=Q) (i:=l.length) (fr:=Kw p.1 fr g) (w:=w) (by
     cases R:vr l l.length with
     |none=>rfl
     |some o=>exact absurd (rR R) (by omega)) m C (D.rep j)
    simpa using O)
  exact key⟩
theorem GC.scS(I:KR (P.follows .mixedOrders) true)(J:KR (Region.lexB .any l.toArray) true)(hl:LvR one many Fs L w0 Z lv)(O:KR (spE P l N lv pk fr).isSome true)(R:KR (((spE P l N lv pk fr).getD []).map (·.1)) (((spE P l N lv pk fr).getD []).map (·.2)))(S:KR (tO (spS P l N lv pk fr) fr g) true)
  (n:GQ hs f r Fs L (Kw (spS P l N lv pk fr) fr g) P B N w0 Z .normal Q):GC (.sc g one many pk::hs) f r Fs L fr P B N w0 Z (.region M l.toArray true) Q:=⟨λw a s e=>by
 refine CW.still I.h J.h λj t b T=> ?_
 have G:=s.same t;have u:=O.h;have x:=tQ R.h;have y:=S.h;have z:=n.o j a G e;unfold spE at u x;unfold spS at y z;cases A:tN P l N lv pk fr l.length 0 [] [] with
 |none=>rw [A] at u;cases u
 |some p=>
  rw [A] at x y z
  have key:=PE (P:=P) (l:=l) (N:=N) (lv:=lv) (pk:=pk) (fr:=fr) (w:=j) (λi a=>wpStill P l.toArray j (λC=>Q .normal C j) ((l.take l.length).drop i) a)
   (λi e X=>by obtain ⟨q,U,rfl⟩:=tP X;exact hl.o j a G q U)
   (λi a o ho=>⟨λD v d E m k=>by
     show wpStill P l.toArray j _ ((l.take l.length).drop i) a;rw [tD (c:=l.length) ho (by have:=rR ho;simp [w9,this])];refine wpStill_step (λK F=> ?_);rw [d7 D];unfold Oper.still;rw [m,Oper.stillUpon_value,E];exact F _ k,
    λD d E k=>by
     show wpStill P l.toArray j _ ((l.take l.length).drop i) a;rw [tD (c:=l.length) ho (by have:=rR ho;simp [w9,this])];refine wpStill_step (λK F=> ?_);rw [D,E];exact F _ k⟩) l.length 0 [] [] (a:=b) A x (SpI.init T) (λC V=>by
    have W:=OS.fin (P:=P) (l:=l) (N:=N) (Q:=Q) (c:=l.length) (i:=l.length) (fr:=Kw p.1 fr g) (w:=j) (by simp) z C (V.rep y)
    simpa using W)
  exact key⟩
theorem GC.scB(a:KR O (th B i).toArray)(hl:LvR one many Fs L w0 Z lv)(b:KR (spE P (th B i) N lv pk fr).isSome true)(c:KR (((spE P (th B i) N lv pk fr).getD []).map (·.1)) (((spE P (th B i) N lv pk fr).getD []).map (·.2)))(d:KR (tO (spS P (th B i) N lv pk fr) fr g) true)
 (n:GQ hs f r Fs L (Kw (spS P (th B i) N lv pk fr) fr g) P B N w0 Z .normal Q):GC (.sc g one many pk::hs) f r Fs L fr P B N w0 Z (.region i O false) Q:=by have:=a.h;subst this;exact GC.sc hl b c d n
theorem GC.scC(a:KR O (th B i).toArray)(b:KR (P.follows .mixedOrders) true)(c:KR (Region.lexB .any (th B i).toArray) true)(hl:LvR one many Fs L w0 Z lv)(d:KR (spE P (th B i) N lv pk fr).isSome true)(e:KR (((spE P (th B i) N lv pk fr).getD []).map (·.1)) (((spE P (th B i) N lv pk fr).getD []).map (·.2)))(j:KR (tO (spS P (th B i) N lv pk fr) fr g) true)
 (n:GQ hs f r Fs L (Kw (spS P (th B i) N lv pk fr) fr g) P B N w0 Z .normal Q):GC (.sc g one many pk::hs) f r Fs L fr P B N w0 Z (.region i O true) Q:=by have:=a.h;subst this;exact GC.scS b c hl d e j n
open Go.RowKit
theorem LkV.of(ho:okO l N fr i=some o)(hs:aC o.op=true)(c:bJ w0 Z Fs->∀a w,Rep N fr a->(execOp a.eval o).run P w=.ok (.value v) w):LkV Fs fr P B N w0 Z h l i v:=by
 obtain ⟨d,hl,e,f,g⟩:=jB ho;exact ⟨o,d,hl,e,f,g,hs,λa w b j=>c a b w j⟩
def Kx:BinOp->Bool|.quo=>true|_=>false
def Ky:BinOp->Bool|.rem=>true|_=>false
def Kz:BinOp->Bool|.shl=>true|_=>false
def KA:BinOp->Bool|.shr=>true|_=>false
theorem KB(h:Kx U=true):U=.quo:=by cases U<;>first|rfl|cases h
theorem KC(h:Ky U=true):U=.rem:=by cases U<;>first|rfl|cases h
theorem KD(h:Kz U=true):U=.shl:=by cases U<;>first|rfl|cases h
theorem KE(h:KA U=true):U=.shr:=by cases U<;>first|rfl|cases h
def biC(sel:BinOp->Bool)(l:List Oper)(N:Nat)(fr:Fr)(i:Nat):Option (IntKind×Int×IntKind×Int):=match okO l N fr i with
 |some ⟨_,.binOp op _ x y _,_,_,_,_⟩=>match sel op,look fr x,look fr y with
  |true,some (.int k a),some (.int c b)=>some (k,a,c,b)
  |_,_,_=>none
 |_=>none
theorem tr(h:biC V l N fr i=some W):∃d op t x y a ty pos b g,okO l N fr i=some ⟨d,.binOp op t x y a,ty,pos,b,g⟩/\V op=true/\look fr x=some (.int W.1 W.2.1)/\look fr y=some (.int W.2.2.1 W.2.2.2):=by
 grind [biC]
def biV(p:Option (IntKind×Int×IntKind×Int))(g:IntKind->Int->Int->Int):Value:=match p with
 |some (k,a,_,b)=>.int k (g k a b)
 |none=>undef
theorem LkV.qu(m:nth Fs q=some (.oe (nz X) Y))(b:KR ((biC Kx l N fr i).map λp=>(p.2.2.2,decide (p.1=p.2.2.1))) (some (X,true))):LkV Fs fr P B N w0 Z (.qu q) l i (biV (biC Kx l N fr i) λk a X=>k.wrap (a.tdiv X)):=by
 have b:=b.h;cases c:biC Kx l N fr i with
 |none=>rw [c] at b;cases b
 |some p=>
  obtain ⟨k,a,z,n⟩:=p;rw [c] at b;simp only [t8,i8,p8,zdq] at b;obtain ⟨rfl,rfl⟩:=b;obtain ⟨d,op,t,x,y,A,ty,pos,C,g,ho,hs,o,s⟩:=tr c;have:=KB hs;subst this;refine LkV.of ho rfl λu r w e=> ?_
  have v:n≠0:=QH (zD u m);have f:=e.look o;have j:=e.look s;simp only at f j;simp [execOp,eqGuard,binOp,f,j,Op.intDiv,v,biV]
theorem LkV.re(m:nth Fs q=some (.oe (nz X) Y))(b:KR ((biC Ky l N fr i).map λp=>(p.2.2.2,decide (p.1=p.2.2.1))) (some (X,true))):LkV Fs fr P B N w0 Z (.re q) l i (biV (biC Ky l N fr i) λk a X=>a.tmod X):=by
 have b:=b.h;cases c:biC Ky l N fr i with
 |none=>rw [c] at b;cases b
 |some p=>
  obtain ⟨k,a,z,n⟩:=p;rw [c] at b;simp only [t8,i8,p8,zdq] at b;obtain ⟨rfl,rfl⟩:=b;obtain ⟨d,op,t,x,y,A,ty,pos,C,g,ho,hs,o,s⟩:=tr c;have:=KC hs;subst this;refine LkV.of ho rfl λu r w e=> ?_
  have v:n≠0:=QH (zD u m);have f:=e.look o;have j:=e.look s;simp only at f j;simp [execOp,eqGuard,binOp,f,j,Op.intDiv,v,biV]
theorem LkV.hl(e:nth Fs q=some (.oe (nn X) Y))(b:KR ((biC Kz l N fr i).map λp=>p.2.2.2) (some X)):LkV Fs fr P B N w0 Z (.hl q) l i (biV (biC Kz l N fr i) λk a X=>wX k a X):=by
 have b:=b.h;cases c:biC Kz l N fr i with
 |none=>rw [c] at b;cases b
 |some p=>
  obtain ⟨k,a,o,s⟩:=p;rw [c] at b;simp only [t8,i8] at b;subst b;obtain ⟨d,op,t,x,y,u,ty,pos,v,g,ho,hs,f,j⟩:=tr c;have:=KD hs;subst this;exact LkV.of ho rfl λm r w n=>OT rfl f j (QJ (zD m e)) r w n
theorem LkV.hr(e:nth Fs q=some (.oe (nn X) Y))(b:KR ((biC KA l N fr i).map λp=>p.2.2.2) (some X)):LkV Fs fr P B N w0 Z (.hr q) l i (biV (biC KA l N fr i) λk a X=>iU k a X):=by
 have b:=b.h;cases c:biC KA l N fr i with
 |none=>rw [c] at b;cases b
 |some p=>
  obtain ⟨k,a,o,s⟩:=p;rw [c] at b;simp only [t8,i8] at b;subst b;obtain ⟨d,op,t,x,y,u,ty,pos,v,g,ho,hs,f,j⟩:=tr c;have:=KE hs;subst this;exact LkV.of ho rfl λm r w n=>OU rfl f j (QJ (zD m e)) r w n
def siC(P:Program)(l:List Oper)(N:Nat)(fr:Fr)(i:Nat):Option (ByteArray×Int):=match okO l N fr i with
 |some ⟨_,.index t x y,_,_,_,_⟩=>match P.underlying t,look fr x,look fr y with
  |some .string,some (.string s),some (.int _ q)=>some (s,q)
  |_,_,_=>none
 |_=>none
theorem LkV.si(b:nth Fs q=some (.oe (wd a0 X) t))(a:KR (siC P l N fr i) (some (a0,X))):LkV Fs fr P B N w0 Z (.si q) l i (.int .u8 t):=by
 have a:=a.h;unfold siC at a;split at a
 ·rename_i ho
  split at a
  ·rename_i c d e
   cases a
   exact LkV.of ho rfl λf r w g=>L7 rfl d e c (zD f b) r w g
  ·cases a
 ·cases a
def KF:BinOp->Bool|.eql=>true|_=>false
theorem KG(h:KF U=true):U=.eql:=by cases U<;>first|rfl|cases h
def seC(sel:BinOp->Bool)(P:Program)(l:List Oper)(N:Nat)(fr:Fr)(i:Nat):Option Bool:=match okO l N fr i with
 |some ⟨_,.binOp op t x y _,_,_,_,_⟩=>match sel op,look fr x,look fr y,P.eqGuardType P.depth t with
  |true,some (.agg xs),some (.agg ys),false=>JR P 9 t (.agg xs) (.agg ys)
  |_,_,_,_=>none
 |_=>none
theorem LkV.sq(c:KR (seC KF P l N fr i).isSome true):LkV Fs fr P B N w0 Z .sq l i (.bool ((seC KF P l N fr i).getD false)):=by
 have c:=c.h;cases b:seC KF P l N fr i with
 |none=>rw [b] at c;cases c
 |some r=>
  unfold seC at b;split at b
  ·rename_i ho
   split at b
   ·rename_i d e f g
    have:=KG d;subst this;exact LkV.of ho rfl λk a w j=>OQ rfl e f g b a w j
   ·cases b
  ·cases b
def adC(l:List Oper)(N:Nat)(fr:Fr)(i:Nat):Option (FuncId×Int×Int×Int):=match okO l N fr i with
 |some ⟨_,.call ⟨.value (.func f),⟨[x,y,z]⟩,⟨_⟩⟩,_,_,_,_⟩=>match look fr x,look fr y,look fr z with
  |some (.int .u64 p),some (.int .u64 q),some (.int .u64 c)=>some (f,p,q,c)
  |_,_,_=>none
 |_=>none
def adF(P:Program)(p:Option (FuncId×Int×Int×Int)):Option Func:=match p with
 |some (f,_)=>P.funcs[f]?
 |none=>none
theorem LkV.ad (n:nth Fs q=some (.oe (Gq X t p3) a1)) (g:KR ((adC l N fr i).map (·.2)) (some (X,t,p3))) (d:KR ((adF P (adC l N fr i)).map fun fn=>(fn.name== "runtime.NumGoroutine",fn.body.isNone)) (some (false,true)))
  (j:KR ((adF P (adC l N fr i)).bind λfn=>some (Extern.findNext fn)) (some none)) (k:KR ((adF P (adC l N fr i)).bind λfn=>Extern.find fn) (some add64Entry)):LkV Fs fr P B N w0 Z (.ad q) l i (.tuple [.int .u64 a1.1,.int .u64 a1.2].toArray):=by
 have g:=g.h;have d:=d.h;have j:=j.h;have k:=k.h;cases e:adC l N fr i with
 |none=>rw [e] at g;cases g
 |some p=>
  obtain ⟨f,a,b,c⟩:=p;rw [e] at g d j k;simp only [t8,i8,p8] at g;obtain ⟨rfl,rfl,rfl⟩:=g;simp only [adF] at d j k;cases m:P.funcs[f]? with
  |none=>rw [m] at d;cases d
  |some fn=>
   rw [m] at d j k;simp only [t8,i8,p8] at d;simp only [zbs,i8] at j k;unfold adC at e;split at e
   ·rename_i ho
    split at e
    ·rename_i o s x
     cases e
     exact LkV.of ho rfl λy r w z=>H2 (u:=a1.1) (v:=a1.2) rfl o s x m d.1 d.2 j k (zD y n) r w z
    ·cases e
   ·cases e
def cpC(P:Program)(l:List Oper)(N:Nat)(fr:Fr)(i:Nat):Option (Value×Option Int×Option Int×Nat):=match okO l N fr i with
 |some ⟨_,.slice t x a X none,_,_,_,_⟩=>match P.underlying t,look fr x with
  |some (.slice e),some v=>match au P (sizeOf e) with
   |some M=>match a,X with
    |none,some y=>match look fr y with
     |some (.int _ q)=>some (v,none,some q,M)
     |_=>none
    |some y,none=>match look fr y with
     |some (.int _ q)=>some (v,some q,none,M)
     |_=>none
    |some y,some z=>match look fr y,look fr z with
     |some (.int _ q),some (.int _ r)=>some (v,some q,some r,M)
     |_,_=>none
    |none,none=>none
   |none=>none
  |_,_=>none
 |_=>none
theorem LkV.cp{α:Type}{enc:α->List Value}{xs ys:List α}(f:nth Fs e=some (.rd (.slice a n c) enc M xs))(g:nth Fs q=some (.oe (cut xs 0 X) ys))(b:KR (cpC P l N fr i) (some (.slice a n c,none,some X,M))):
  LkV Fs fr P B N w0 Z (.cp e q) l i (.slice a ys.length c):=by
 have b:=b.h;unfold cpC at b;split at b
 ·rename_i ho
  split at b
  ·rename_i j k
   split at b
   ·rename_i m
    split at b
    ·split at b
     ·rename_i o
      cases b
      exact LkV.of ho rfl λd r w p=>rQ M rfl k o (zD d g) (Rd.cap (zD d f)) j m r w p
     ·cases b
    ·grind
    ·grind
    ·cases b
   ·cases b
  ·cases b
 ·cases b
theorem LkV.cu{α:Type}{enc:α->List Value}{xs ys:List α}(f:nth Fs e=some (.rd (.slice a n c) enc M xs))(g:nth Fs q=some (.oe (cut xs t X) ys))(b:KR (cpC P l N fr i) (some (.slice a n c,some t,some X,M))):
  LkV Fs fr P B N w0 Z (.cu e q) l i (.slice (shd a c t.toNat M) ys.length (c-t.toNat)):=by
 have b:=b.h;unfold cpC at b;split at b
 ·rename_i ho
  split at b
  ·rename_i j k
   split at b
   ·rename_i m
    split at b
    ·grind
    ·grind
    ·split at b
     ·rename_i o p
      cases b
      exact LkV.of ho rfl λd r w s=>EH M rfl k o p (zD d g) (Rd.cap (zD d f)) j m r w s
     ·cases b
    ·cases b
   ·cases b
  ·cases b
 ·cases b
theorem LkV.cf{α:Type}{enc:α->List Value}{xs ys:List α}(s:nth Fs e=some (.rd (.slice a n c) enc M xs))(d:nth Fs q=some (.oe (cut xs X ((xs.length:Nat):Int)) ys))(f:KR n xs.length)(b:KR (cpC P l N fr i) (some (.slice a n c,some X,none,M))):
  LkV Fs fr P B N w0 Z (.cf e q) l i (.slice (shd a c X.toNat M) ys.length (c-X.toNat)):=by
 have b:=b.h;unfold cpC at b;split at b
 ·rename_i ho
  split at b
  ·rename_i g j
   split at b
   ·rename_i k
    split at b
    ·grind
    ·split at b
     ·rename_i m
      cases b
      exact LkV.of ho rfl λo r w p=>gk M rfl j f.h m (zD o d) g k r w p
     ·cases b
    ·grind
    ·cases b
   ·cases b
  ·cases b
 ·cases b
theorem Adm.fp{α:Type}{enc:α->List Value}{xs ys:List α}(h:nth Fs e=some (.rd (.slice a n c) enc M xs))(d:nth Fs q=some (.oe (cut xs 0 X) ys))(f:vh Fs (.rd (.slice a ys.length c) enc M ys)=some Fs1):
 Adm (.fp e q) Fs L (λ_:Unit=>L) (λ_=>Fs1):=⟨λw0 Z w b s=>⟨(),s,ju (F:=.rd (.slice a ys.length c) enc M ys) b (Rd.pre (zD b h) (zD b d)) f⟩⟩
theorem Adm.fu{α:Type}{enc:α->List Value}{xs ys:List α}(h:nth Fs e=some (.rd (.slice a n c) enc M xs))(d:nth Fs q=some (.oe (cut xs t X) ys))(f:vh Fs (.rd (.slice (shd a c t.toNat M) ys.length (c-t.toNat)) enc M ys)=some Fs1):
 Adm (.fu e q) Fs L (λ_:Unit=>L) (λ_=>Fs1):=⟨λw0 Z w b s=>⟨(),s,ju (F:=.rd (.slice (shd a c t.toNat M) ys.length (c-t.toNat)) enc M ys) b (Rd.part (zD b h) (zD b d)) f⟩⟩
open Go.RowKit
def aiC(P:Program)(l:List Oper)(N:Nat)(fr:Fr)(i:Nat):Option (Addr×Int×Nat×Nat):=match okO l N fr i with
 |some ⟨_,.indexAddr t x y,_,_,_,_⟩=>match P.underlying t,look fr x,look fr y with
  |some (.array n e),some (.pointer (some a)),some (.int _ q)=>match au P (sizeOf e) with
   |some M=>some (a,q,n,M)
   |none=>none
  |_,_,_=>none
 |_=>none
def aiV(p:Option (Addr×Int×Nat×Nat)):Value:=match p with
 |some (⟨b,k,none⟩,q,_,M)=>.pointer (some ⟨b,k+q.toNat*M,none⟩)
 |_=>undef
def aiN(p:Option (Addr×Int×Nat×Nat)):Option (Int×Nat):=match p with
 |some (⟨_,_,none⟩,q,n,_)=>some (q,n)
 |_=>none
def inB(p:Option (Int×Nat)):Bool:=match p with
 |some (q,n)=>decide (0<=q/\q<(n:Int))
 |none=>false
theorem KI(h:aiC P l N fr i=some (K,X,n,M)):∃d t x y ty pos a g e kd,okO l N fr i=some ⟨d,.indexAddr t x y,ty,pos,a,g⟩/\P.underlying t=some (.array n e)/\look fr x=some (.pointer (some K))/\look fr y=some (.int kd X)/\au P (sizeOf e)=some M:=by
 grind [aiC]
theorem LkV.aiG(f:bJ w0 Z Fs->inB (aiN (aiC P l N fr i))=true)(j:∃p,aiN (aiC P l N fr i)=some p):LkV Fs fr P B N w0 Z h l i (aiV (aiC P l N fr i)):=by
 obtain ⟨p,a⟩:=j;cases c:aiC P l N fr i with
 |none=>rw [c] at a;cases a
 |some w=>
  obtain ⟨⟨b,k,s⟩,q,n,M⟩:=w;rw [c] at f a;cases s with
  |some _=>cases a
  |none=>
   obtain ⟨d,t,x,y,ty,pos,z,g,e,kd,ho,m,o,r,u⟩:=KI c;refine LkV.of ho rfl λv=> ?_
   have X:=f v;simp only [aiN,inB,zdq] at X;exact L8 _ _ rfl o r X.1 X.2 m u
theorem LkV.al(a:KR (inB (aiN (aiC P l N fr i))) true):LkV Fs fr P B N w0 Z .al l i (aiV (aiC P l N fr i)):=LkV.aiG (λ_=>a.h) (by
 have:=a.h;cases e:aiN (aiC P l N fr i) with
 |none=>rw [e] at this;cases this
 |some p=>exact ⟨p,rfl⟩)
theorem LkV.af(b:nth Fs q=some (.oe (ain n X) M))(a:KR (aiN (aiC P l N fr i)) (some (X,n))):LkV Fs fr P B N w0 Z (.af q) l i (aiV (aiC P l N fr i)):=LkV.aiG (λc=>by
 rw [a.h];obtain ⟨d,e,_⟩:=tg (zD c b);simp [inB,d,e]) ⟨_,a.h⟩
theorem LkV.at{α:Type}{xs:List α}{x:α}(b:nth Fs q=some (.el v' M n X xs x))(a:KR (aiN (aiC P l N fr i)) (some (X,xs.length))):LkV Fs fr P B N w0 Z (.at q) l i (aiV (aiC P l N fr i)):=LkV.aiG (λc=>by
 rw [a.h];obtain ⟨d,_⟩:=zD c b
 grind [zV,inB]) ⟨_,a.h⟩
theorem Rh(h:Rd w Z (.slice (some ⟨i,N,none⟩) m c) enc M xs)(a:idx xs X=some x):(Fa.el (.slice (some ⟨i,N,none⟩) m c) i N X xs x).ok w Z:=by
 refine ⟨a,c,?_⟩
 grind [Rd.len]
theorem GO.bt{α:Type}{enc:α->List Value}{xs:List α}{k:α->Option ρ}{Fs1:α->List Fa}(h:nth Fs e=some (.rd (.slice (some ⟨j,d,none⟩) m c) enc M xs))(b:∀x,vh Fs (.el (.slice (some ⟨j,d,none⟩) m c) j d X xs x)=some (Fs1 x))
  (n:∀x,GO hs (k x) r (Fs1 x) L fr P B N w0 Z l i Q):GO (.bt e::hs) ((idx xs X).bind k) r Fs L fr P B N w0 Z l i Q:=⟨λw a s q=>by
 obtain ⟨x,f,g⟩:=zK q;exact (n x).o w (ju (F:=.el (.slice (some ⟨j,d,none⟩) m c) j d X xs x) a (Rh (zD a h) f) (b x)) s g⟩
def nzC(P:Program)(l:List Oper)(N:Nat)(fr:Fr)(i:Nat):Option (Option Addr):=match okO l N fr i with
 |some ⟨_,.binOp .eql t x y _,_,_,_,_⟩=>match P.underlying t,look fr x,look fr y with
  |some (.slice _),some (.slice a _ _),some (.slice none 0 0)=>some a
  |_,_,_=>none
 |_=>none
def nzV(p:Option (Option Addr)):Value:=match p with
 |some a=>.bool a.isNone
 |none=>undef
theorem LkV.nz(c:KR (nzC P l N fr i).isSome true):LkV Fs fr P B N w0 Z .nz l i (nzV (nzC P l N fr i)):=by
 have c:=c.h;cases b:nzC P l N fr i with
 |none=>rw [b] at c;cases c
 |some a=>
  unfold nzC at b;split at b
  ·rename_i ho
   split at b
   ·rename_i d e f
    cases b
    exact LkV.of ho rfl λg=>Bh rfl e f d
   ·cases b
  ·cases b
theorem GC.nb(j:nth Fs e=some (.rd (.slice a m c) enc M xs))(b:f=φ xs)(k:KR (Nat.blt 0 M) true)(l:∀a3,KR (enc a3).length M)
  (i:KR (look fr G) (some (.bool a.isNone))) (n:GC hs1 (φ []) r Fs L fr P B N w0 Z a3 Q) (p:GC hs2 f r Fs L fr P B N w0 Z y Q):GC (.nb e hs1 hs2::hs) f r Fs L fr P B N w0 Z (.cond G a3 y) Q:=⟨λw d s g=>by
 rcases zft a.isNone with h|h
 ·have q:xs=[]:=Rd.isnil (zD d j) (λa3=>by
   have t:=(l a3).h;have u:0<M:=by have:=k.h;simpa [w9] using this
   grind) h
  rw [b,q] at g;exact q8 i.h h (n.o w d s g)
 ·exact r6 i.h h (p.o w d s g)⟩
def asC(P:Program)(l:List Oper)(N:Nat)(fr:Fr)(i:Nat):Option (Nat×Nat×Nat×Option Int×Option Int×Nat):=match okO l N fr i with
 |some ⟨_,.slice t x a X none,_,_,_,_⟩=>match P.underlying t,look fr x with
  |some (.array n e),some (.pointer (some ⟨b,k,none⟩))=>match au P (sizeOf e) with
   |some M=>match a,X with
    |none,none=>some (b,k,n,none,none,M)
    |none,some y=>match look fr y with
     |some (.int _ q)=>some (b,k,n,none,some q,M)
     |_=>none
    |some y,some z=>match look fr y,look fr z with
     |some (.int _ q),some (.int _ r)=>some (b,k,n,some q,some r,M)
     |_,_=>none
    |some _,none=>none
   |none=>none
  |_,_=>none
 |_=>none
def asB(p:Option (Nat×Nat×Nat×Option Int×Option Int×Nat)):Option (Nat×Option Int×Option Int):=p.map λq=>(q.2.2.1,q.2.2.2.1,q.2.2.2.2.1)
def asV(p:Option (Nat×Nat×Nat×Option Int×Option Int×Nat))(m:Nat):Value:=match p with
 |some (b,k,n,none,none,_)=>.slice (some ⟨b,k,none⟩) n n
 |some (b,k,n,none,some _,_)=>.slice (some ⟨b,k,none⟩) m n
 |some (b,k,n,some l,some _,M)=>.slice (shd (some ⟨b,k,none⟩) n l.toNat M) m (n-l.toNat)
 |_=>undef
theorem LkV.sG(a:asC P l N fr i=some a4)
  (k:bJ w0 Z Fs->a4.2.2.2.2.1≠none->∃(α:Type)(xs ys:List α),xs.length=a4.2.2.1/\cut xs (a4.2.2.2.1.getD 0) (a4.2.2.2.2.1.getD 0)=some ys/\ys.length=m):LkV Fs fr P B N w0 Z h l i (asV (some a4) m):=by
 unfold asC at a;split at a
 ·rename_i ho
  split at a
  ·rename_i c d
   split at a
   ·rename_i e
    split at a
    ·cases a
     exact LkV.of ho rfl λb=>Nn _ rfl d c e
    ·split at a
     ·rename_i f
      cases a
      refine LkV.of ho rfl λb=> ?_
      obtain ⟨α,xs,ys,g,j,rfl⟩:=k b (by simp);exact Nq _ rfl d f g j c e
     ·cases a
    ·split at a
     ·rename_i f n
      cases a
      refine LkV.of ho rfl λb=> ?_
      obtain ⟨α,xs,ys,g,j,rfl⟩:=k b (by simp);exact Np _ rfl d f n g j c e
     ·cases a
    ·cases a
   ·cases a
  ·cases a
 ·cases a
theorem Fe(h:asB a5=some a6):∃q,a5=some q/\q.2.2.1=a6.1/\q.2.2.2.1=a6.2.1/\q.2.2.2.2.1=a6.2.2:=by
 cases a5 with
 |none=>cases h
 |some q=>cases h;exact ⟨q,rfl,rfl,rfl,rfl⟩
theorem LkV.sA(b:KR ((asB (asC P l N fr i)).map (·.2)) (some (none,none))):LkV Fs fr P B N w0 Z .sA l i (asV (asC P l N fr i) 0):=by
 have b:=b.h;cases c:asB (asC P l N fr i) with
 |none=>rw [c] at b;cases b
 |some a=>
  grind [Fe,LkV.sG]
theorem LkV.sU{α:Type}{xs ys:List α}(a:nth Fs q=some (.oe (cut xs t X) ys))(b:KR (asB (asC P l N fr i)) (some (xs.length,some t,some X))):LkV Fs fr P B N w0 Z (.sU q) l i (asV (asC P l N fr i) ys.length):=by
 obtain ⟨p,e,c,d,f⟩:=Fe b.h;rw [e];exact LkV.sG e λg _=>⟨α,xs,ys,c.symm,by rw [d,f];exact zD g a,rfl⟩
theorem Giv.ru{α:Type}{enc:α->List Value}{a:Nat->α}{ys:List α}(d:nth Fs q=some (.oe (cut (H1 n a) t X) ys))(e:nth L j=some (jT N T F))(b:KR F (F.take p++(eW enc n a++F.drop (p+n*M))))(f:KR (Nat.ble p F.length) true)
  (i:∀x,KR (enc x).length M) (k:KR (Nat.ble n 9223372036854775807) true) (l:KR (mem? j js) false) (m:Giv src Fs L js Fs1):Giv (.ru j p q::src) Fs L js (.rd (.slice (shd (some ⟨N,p,none⟩) n t.toNat M) ys.length (n-t.toNat)) enc M ys::Fs1):=
 ⟨λw0 Z w c s=>⟨Rd.part (s.arrRd j (by rw [<- zQ];exact e) enc (λx=>(i x).h) n a p b.h f.h k.h js l.h) (zD c d),m.g w0 Z w c s⟩⟩
structure CF (Fs:List Fa) (L:List Item) (w0:World) (Z:List Nat) (c:Cs) (b o:Nat) (cs:List Value):Prop where
 o:∀w,bJ w0 Z Fs->St w0 Z w L->∀k u,cs[k]? =some u->w.cell? ⟨b,o+k,none⟩=some u
theorem CF.o1(h:nth L j=some (jT N T F)):CF Fs L w0 Z (.o j) N 0 F:=⟨λw _ s k u a=>by
 rw [yj];exact s.blk j (by rw [<- zQ];exact h) a⟩
theorem CF.p1(h:nth L j=some (dt N T A F C)):CF Fs L w0 Z (.p j) N A.length F:=⟨λw _ s k u a=>s.prt j (by rw [<- zQ];exact h) k a⟩
theorem CF.r1(b:nth L j=some (qk v' T enc M ys))(e:nth Fs q=some (.el v' i N X xs x))(d:KR ys xs)(f:∀x,KR (enc x).length M):CF Fs L w0 Z (.r j q) i (N+X.toNat*M) (enc x):=
 ⟨λw a s k u g=>by
  have b:=b;rw [d.h] at b;obtain ⟨l,c,m⟩:=zD a e;exact s.rowc j (by rw [<- zQ];exact b) (λx=>(f x).h) l m k u g⟩
theorem CF.b1(h:nth Fs e=some (.pb N F)):CF Fs L w0 Z (.b e) N 0 F:=⟨λw a s k u c=>by
 rw [yj];exact RdB.cell (zD a h) s k c⟩
structure KJ (A B:List Value):Prop where
 e:A=B
theorem KJ.nil:KJ [] []:=⟨rfl⟩
theorem KJ.u(n:KJ A F):KJ (v::A) (v::F):=⟨by rw [n.e]⟩
theorem Giv.bj(a:nth L j=some (jT N T F))(b:KJ F k)(c:KR (mem? j js) false)(m:Giv src Fs L js Fs1):Giv (.bj j::src) Fs L js (.pb N k::Fs1):=
 ⟨λw0 Z w d s=>⟨by
  rw [<- b.e];exact s.rdB j (by rw [<- zQ];exact a) js c.h,m.g w0 Z w d s⟩⟩
theorem Giv.bq(b:nth Fs e=some (.pb N (v::F)))(c:KJ (v::F) (v'::A))(m:Giv src Fs L js Fs1):Giv (.bq e::src) Fs L js (.pb N (v'::A)::Fs1):=
 ⟨λw0 Z w a s=>⟨by
  have h:RdB w0 Z N (v::F):=zD a b;have:=h.give s js;rw [c.e] at this;exact this,m.g w0 Z w a s⟩⟩
theorem Cel.cc(h:CF Fs L w0 Z a7 N i F)(b:nth F M=some v):Cel Fs L w0 Z (.cc a7 M) ⟨N,i+M,none⟩ v:=⟨λw a s=>h.o w a s M v (by grind [zQ])⟩
theorem rX.cN(h:CF Fs L w0 Z a7 N i A)(b:H5 A M n=some F):rX Fs L w0 Z (.cN a7 M n) N (i+M) F:=⟨λw a s j u c=>by
 rw [yq];exact h.o w a s (M+j) u ((gA b).2 j u c)⟩
theorem CF.arr(c:CF Fs L w0 Z a7 i N F)(d:nth Fs e=some (.oe (ain n X) q))
  (a:KR F (F.take p++(eW enc n z++F.drop (p+n*M)))) (g:KR (Nat.ble p F.length) true) (j:∀q,KR (enc q).length M):CF Fs L w0 Z a7 i (N+p+X.toNat*M) (enc (z q)):=
 ⟨λw b s k u l=>E9 (λf u m=>c.o w b s f u m) enc (λq=>(j q).h) n z p a.h g.h (zD b d) k u l⟩
theorem Cel.ca{α:Type}{enc:α->List Value}{a:Nat->α}{u:Value}(b:CF Fs L w0 Z a7 N i F)(c:nth Fs e=some (.oe (ain n X) q))(j:nth F p=some u)(k:nth (enc (a 0)) 0=some u)
  (h:KR F (F.take p++(eW enc n a++F.drop (p+n*M)))) (d:KR (Nat.ble p F.length) true) (f:∀q,KR (enc q).length M) (l:nth (enc (a q)) ff=some v):Cel Fs L w0 Z (.ca a7 e p ff M enc) ⟨N,i+p+X.toNat*M+ff,none⟩ v:=
 ⟨λw g s=>(CF.arr b c h d f).o w g s ff v (by grind [zQ])⟩
theorem rX.cA{α:Type}{enc:α->List Value}{a:Nat->α}{u:Value}(b:CF Fs L w0 Z a7 N i A)(c:nth Fs e=some (.oe (ain n X) q))(r:nth A p=some u)(t:nth (enc (a 0)) 0=some u)
  (h:KR A (A.take p++(eW enc n a++A.drop (p+n*M)))) (d:KR (Nat.ble p A.length) true) (f:∀q,KR (enc q).length M) (g:H5 (enc (a q)) ff m=some F):rX Fs L w0 Z (.cA a7 e p ff m M enc) N (i+p+X.toNat*M+ff) F:=
 ⟨λw k s j u l=>by
  rw [yq];exact (CF.arr b c h d f).o w k s (ff+j) u ((gA g).2 j u l)⟩
def PF{α:Type}(enc:α->List Value):Nat->(Nat->α)->List Value->Option (List Value)
 |0,_,C=>some C
 |n+1,a,C=>match PF enc n (λi=>a (i+1)) C with
  |some q=>lY (enc (a 0)) q
  |none=>none
theorem DD{α:Type}{enc:α->List Value}:∀{n:Nat} {a:Nat->α} {C q:List Value},PF enc n a C=some q->q=eW enc n a++C
 |0,_,_,_,h=>by cases h;rfl
 |n+1,a,C,q,h=>by
  unfold PF at h;split at h
  ·rename_i e
   rw [bW h,DD e,eW,x4]
  ·cases h
def Ia{α:Type}:List α->Nat->Option (List α)
 |l,0=>some l
 |[],_+1=>none
 |_::r,n+1=>Ia r n
theorem Ag{α:Type}:∀{l q:List α} {n:Nat},Ia l n=some q->q=l.drop n
 |l,q,0,h=>by cases l<;>(cases h;rfl)
 |[],_,_+1,h=>by cases h
 |_::r,q,n+1,h=>by rw [List.drop_succ_cons];exact Ag h
theorem Ah{α:Type}:∀{l q:List α} {n:Nat},wl l n=some q->q=l.take n
 |l,q,0,h=>by cases l<;>(cases h;rfl)
 |[],_,_+1,h=>by cases h
 |x::r,q,n+1,h=>by
  unfold wl at h;split at h
  ·rename_i e;cases h;rw [List.take_succ_cons,Ah e]
  ·cases h
theorem lB(h:stC P l fr i m=some ⟨M,N,none⟩)(c:gq (stV l fr i)=some F)(f:F.length=m):
  ∃t x y ty pos a g u,vr l i=some ⟨none,.store t x y,ty,pos,a,g⟩/\gd l fr ⟨none,.store t x y,ty,pos,a,g⟩=some true/\look fr x=some (.pointer (some ⟨M,N,none⟩))/\look fr y=some u/\u.cells.toList=F/\au P (sizeOf t)=some u.cells.toList.length:=by
 obtain ⟨u,b,d⟩:=mr c;unfold stC at h;unfold stV at b;split at h
 ·rename_i t j k ty pos a g hl
  rw [hl] at b;simp only at b;split at h
  ·rename_i n o p q r
   split at h
   ·rename_i e
    have s:=u6 e
    grind
   ·cases h
  ·cases h
 ·cases h
theorem GO.sa{ρ:Type}{hs:List H}{f:Option ρ}{r:ρ}{Fs:List Fa}{L:List Item}{fr:Fr}{P:Program}{B:Func}{N:Nat}{w0:World}{Z:List Nat}{l:List Oper}{i:Nat}{Q:Exit->Act->World->Prop}{α:Type}{j e p ff m n M b x:Nat}{enc:α->List Value}{dec:List Value->α}{T:TypeId}{d F c A C q k:List Value}{a:Nat->α}{t:Int}{u:Value}{L1:List Item}(O:nth L j=some (jT b T d))(R:nth Fs e=some (.oe (ain n t) x))
  (hu:nth d p=some u) (ha:nth (enc (a 0)) 0=some u) (z:KR d (d.take p++(eW enc n a++d.drop (p+n*M)))) (S:KR (Nat.ble p d.length) true) (G:∀x,KR (enc x).length M)
  (hv:Ae (stV l fr i) 0 m=some F) (U:KR (gq (stV l fr i)) (some F)) (D:fd (enc (a x)) F ff=some c) (V:KR (enc (dec c)) c) (W:KR (stC P l fr i m) (some ⟨b,p+t.toNat*M+ff,none⟩))
  (X:KR F.length m) (Y:KR (eQ F) true) (h0:KR (Gr F) true) (hA:wl d p=some A) (hC:Ia d (p+n*M)=some C) (hN:PF enc n (aset a x (dec c)) C=some q) (hQ:lY A q=some k)
  (hL:du L j (jT b T k)=some L1) (n:GO hs f r Fs L1 fr P B N w0 Z l (i+1) Q):GO (.sa j e p ff m M enc dec::hs) f r Fs L fr P B N w0 Z l i Q:=⟨λw I s e=>by
 obtain ⟨t,x',y',ty,pos,af,g,v,hl,hg,hx,hy,y,E⟩:=lB W.h U.h X.h;obtain ⟨J,K⟩:=bC D (by intro e5;have:=h0.h;rw [e5] at this;cases this);rw [<- y] at J K
 refine OW.stA s j (by rw [<- zQ];exact O) hl hg hx hy E (by rw [y];exact Y.h) enc (λx=>(G x).h) _ a p z.h S.h (zD I R) ff rfl (x2 (by rw [<- (G (a _)).h];exact K)) (dec c) (by rw [J,V.h]) k
  (by grind [bW,DD,Ah,Ag]) λw' s'=> ?_
 exact n.o w' I (by grind [qI]) e⟩
theorem GO.sra
  (R:nth L j=some (qk v' T b sze xs')) (S:nth Fs q=some (.el v' d p t a9 z)) (a:KR xs' a9) (X:nth Fs e=some (.oe (ain c p3) a8)) (I:∀y,KR (b y) (eW enc c y)) (k:∀y,KR (b y).length sze) (u:∀a8,KR (enc a8).length M)
  (hv:Ae (stV l fr i) 0 m=some F) (U:KR (gq (stV l fr i)) (some F)) (x:fd (enc (z a8)) F ff=some A) (V:KR (enc (dec A)) A) (W:KR (stC P l fr i m) (some ⟨d,p+t.toNat*sze+0+p3.toNat*M+ff,none⟩))
  (Y:KR F.length m) (h1:KR (eQ F) true) (h0:KR (Gr F) true) (hL:du L j (qk v' T b sze (xs'.set t.toNat (aset z a8 (dec A))))=some L1)
  (n:GO hs f r Fs L1 fr P B N w0 Z l (i+1) Q):GO (.sra j q e ff m M enc dec::hs) f r Fs L fr P B N w0 Z l i Q:=⟨λw C s hf=>by
 obtain ⟨t',x',y',ty,pos,af,g',v,hl,hg,hx,hy,g,D⟩:=lB W.h U.h Y.h;obtain ⟨J,K⟩:=bC x (by intro e5;have:=h0.h;rw [e5] at this;cases this);rw [<- g] at J K;have a:=a.h;subst a;obtain ⟨E,cp,G⟩:=zD C S
 have O:∀y:Nat->α,b y=(b z).take 0++(eW enc c y++(b z).drop (0+c*M)):=λy=>by
  have h5:(b z).drop (0+c*M)=[]:=yi (by rw [(I z).h,Ac (λa8=>(u a8).h)];omega);rw [h5,(I y).h];simp
 refine OW.stRA s j (by rw [<- zQ];exact R) G (λa8=>(k a8).h) hl hg E hx hy D (by rw [g];exact h1.h) enc (λa8=>(u a8).h) c z 0 (O z) (by cases h9:b z<;>rfl) (zD C X) ff rfl (x2 (by rw [<- (u (z a8)).h];exact K)) (dec A) (by rw [J,V.h]) (aset z a8 (dec A)) (O (aset z a8 (dec A))) λw' s'=> ?_
 exact n.o w' C (by grind [qI]) hf⟩
theorem Gs(h:A.length=F.length):qF A F 0=F:=by
 grind [qF]
theorem GO.srw{u:Value}
  (G:nth L j=some (qk v' T b sze xs')) (I:nth Fs q=some (.el v' e c t a9 z)) (a:KR xs' a9) (d:∀y,KR (b y).length sze)
  (X:Ae (stV l fr i) 0 m=some F) (Y:nth F 0=some u) (ha:nth (enc (b0 0)) 0=some u) (k:KR (b b0) F) (J:KR (gq (stV l fr i)) (some F)) (K:KR (stC P l fr i m) (some ⟨e,c+t.toNat*sze+0,none⟩))
  (O:KR F.length m) (R:KR (eQ F) true) (hL:du L j (qk v' T b sze (xs'.set t.toNat b0))=some L1)
  (n:GO hs f r Fs L1 fr P B N w0 Z l (i+1) Q):GO (.srw j q m M enc::hs) f r Fs L fr P B N w0 Z l i Q:=⟨λw E s S=>by
 obtain ⟨t',x',y',ty,pos,af,g',v,hl,U,V,W,g,p⟩:=lB K.h J.h O.h;have a:=a.h;subst a;obtain ⟨A,cp,C⟩:=zD E I;have D:F.length=sze:=by rw [<- k.h];exact (d b0).h
 refine OW.stR s j (by rw [<- zQ];exact G) C (λx=>(d x).h) hl U A 0 V rfl W p (by rw [g];exact R.h) (x2 (by rw [g];omega)) b0 (by rw [g,Gs (by rw [D];exact (d z).h),k.h]) λw' s'=> ?_
 exact n.o w' E (by grind [qI]) S⟩
theorem GO.sp1(x:nth L j=some (dt e T A b2 C))(R:Ae (stV l fr i) 0 m=some F)(c:fd b2 F M=some k)(y:KR (gq (stV l fr i)) (some F))(z:KR (stC P l fr i m) (some ⟨e,A.length+M,none⟩))
  (D:KR F.length m) (E:KR (eQ F) true) (G:KR (Gr F) true) (S:du L j (dt e T A k C)=some L1) (n:GO hs f r Fs L1 fr P B N w0 Z l (i+1) Q):GO (.sp1 j M m::hs) f r Fs L fr P B N w0 Z l i Q:=⟨λw a s q=>by
 obtain ⟨t,U,V,ty,pos,W,g,v,hl,I,J,K,b,d⟩:=lB z.h y.h D.h;obtain ⟨p,u⟩:=bC c (by intro O;have:=G.h;rw [O] at this;cases this);rw [<- b] at p u;refine OW.stP s j (by rw [<- zQ];exact x) hl I M J K d (by rw [b];exact E.h) (x2 u) k p λw' X=> ?_
 exact n.o w' a (by grind [qI]) q⟩
theorem GO.spa{ρ:Type}{hs:List H}{f:Option ρ}{r:ρ}{Fs:List Fa}{L:List Item}{fr:Fr}{P:Program}{B:Func}{N:Nat}{w0:World}{Z:List Nat}{l:List Oper}{i:Nat}{Q:Exit->Act->World->Prop}{α:Type}{j e p ff m n M b x:Nat}{enc:α->List Value}{dec:List Value->α}{T:TypeId}{z I d F c A C q k:List Value}{a:Nat->α}{t:Int}{u:Value}{L1:List Item}(S:nth L j=some (dt b T z d I))(U:nth Fs e=some (.oe (ain n t) x))
  (hu:nth d p=some u) (ha:nth (enc (a 0)) 0=some u) (D:KR d (d.take p++(eW enc n a++d.drop (p+n*M)))) (V:KR (Nat.ble p d.length) true) (J:∀x,KR (enc x).length M)
  (hv:Ae (stV l fr i) 0 m=some F) (W:KR (gq (stV l fr i)) (some F)) (E:fd (enc (a x)) F ff=some c) (X:KR (enc (dec c)) c) (Y:KR (stC P l fr i m) (some ⟨b,z.length+p+t.toNat*M+ff,none⟩))
  (hm:KR F.length m) (h1:KR (eQ F) true) (h0:KR (Gr F) true) (hA:wl d p=some A) (hC:Ia d (p+n*M)=some C) (hN:PF enc n (aset a x (dec c)) C=some q) (hQ:lY A q=some k)
  (hL:du L j (dt b T z k I)=some L1) (n:GO hs f r Fs L1 fr P B N w0 Z l (i+1) Q):GO (.spa j e p ff m M enc dec::hs) f r Fs L fr P B N w0 Z l i Q:=⟨λw K s e=>by
 obtain ⟨t,x',y',ty,pos,af,g,v,hl,hg,hx,hy,y,G⟩:=lB Y.h W.h hm.h;obtain ⟨O,R⟩:=bC E (by intro e5;have:=h0.h;rw [e5] at this;cases this);rw [<- y] at O R
 refine OW.stPA s j (by rw [<- zQ];exact S) hl hg hx hy G (by rw [y];exact h1.h) enc (λx=>(J x).h) _ a p D.h V.h (zD K U) ff rfl (x2 (by rw [<- (J (a _)).h];exact R)) (dec c) (by rw [O,X.h]) k
  (by grind [bW,DD,Ah,Ag]) λw' s'=> ?_
 exact n.o w' K (by grind [qI]) e⟩
theorem Sim.part(a:KR b2 k)(n:Sim L L1):Sim (dt N T F b2 C::L) (dt N T F k C::L1):=⟨by rw [a.h,n.e]⟩
theorem Adm.pt(a:nth L j=some (jT i T F))(g:wl F N=some A)(l:H5 F N m=some k)(n:Ia F (N+m)=some C)(b:KR F (A++(k++C)))(c:du L j (dt i T A k C)=some L1):
  Adm (.pt j N m) Fs L (λ_:Unit=>L1) (λ_=>Fs):=⟨λw0 Z w d s=>⟨(),by
 have e:L1=L:=by
  rw [qI c];unfold dt;rw [<- b.h];apply o5;intro q;rw [y6];rw [zQ] at a;split
  ·rename_i f
   subst f;rw [a];simp [(zes.1 a).1]
  ·rfl
 rw [e];exact s,d⟩⟩
def OK(o:Option α)(Q:α->Prop):Prop:=∃r,o=some r/\Q r
theorem OK.ret(h:b3 x):OK (some x) b3:=⟨x,rfl,h⟩
theorem b9:type_of% @OK.ret:=OK.ret
theorem OK.bind{a:Type}{f:α->Option a}{Q:a->Prop}(h:OK b4 (λx=>OK (f x) Q)):OK (b4.bind f) Q:=by
 obtain ⟨x,rfl,h⟩:=h;exact h
theorem g9:type_of% @OK.bind:=OK.bind
theorem OK.mono(h:OK b4 b3)(k:∀x,b3 x->b5 x):OK b4 b5:=by
 obtain ⟨x,rfl,h⟩:=h;exact ⟨x,rfl,k x h⟩
theorem OK.bind2{a:Type}{f:α->Option a}{R:α->Prop}{Q:a->Prop}(h:OK b4 R)(k:∀x,R x->OK (f x) Q):OK (b4.bind f) Q:=
 g9 (h.mono k)
theorem d6:type_of% @OK.bind2:=OK.bind2
theorem OK.ite{α:Type}{c:Bool}{A B:Option α}{Q:α->Prop}(h:c=true->OK A Q)(a:c=false->OK B Q):
  OK (if c then A else B) Q:=by
 grind
theorem d5:type_of% @OK.ite:=OK.ite
theorem OK.ite_true(h:b6=true)(a:OK b4 b3):OK (if b6 then b4 else b7) b3:=by
 subst h;exact a
theorem o8:type_of% @OK.ite_true:=OK.ite_true
theorem OK.ite_false(h:b6=false)(a:OK b7 b3):OK (if b6 then b4 else b7) b3:=by
 subst h;exact a
theorem j8:type_of% @OK.ite_false:=OK.ite_false
theorem OK.get(a:0<=X)(b:X<xs.length)
  (h:∀x,xs[X.toNat]? =some x->b3 x):OK (idx xs X) b3:=by
 have hl:X.toNat<xs.length:=by omega
 refine ⟨xs[X.toNat],?_,h _ (zeg hl)⟩;unfold Go.Sx.idx
 grind
theorem OK.getN(b:i<xs.length)
  (h:∀x,xs[i]? =some x->b3 x):OK (Go.Sx.idx xs (i:Int)) b3:=
 OK.get (by omega) (by omega) (λx a=>h x (by simpa using a))
theorem j4:type_of% @OK.getN:=OK.getN
theorem OK.hasRoom(h:m*N<=140737488355328)(k:b8 ()):OK (room m N) b8:=
 ⟨(),by unfold Go.Sx.room;rw [d7 h],k⟩
theorem OK.mkl(a:0<=X)(h:X.toNat*N<=140737488355328)(k:c0 X.toNat):OK (mkLen X N) c0:=
 ⟨X.toNat,by unfold Go.Sx.mkLen;rw [d7 ⟨a,h⟩],k⟩
theorem OK.count_from(I:Nat->σ->Prop)
    (c:∀i s a,i<N->I i s->(∀b,I (i+1) b->OK (a b) c4)->OK (c2 i a s) c4)
    (ho:∀s,I N s->c4 (c3 s)):∀(n i:Nat)(s:σ),i+n=N->I i s->OK (jM c2 c3 n i s) c4:=by
  intro n
  induction n with
  | zero => intro i s X h; have e : i = N := by omega
            subst e;exact b9 (ho s h)
  |succ n d=>intro i s X h;exact c i s _ (by omega) h (λb f=>d (i+1) b (by omega) f)
theorem OK.count{Q:ρ->Prop}(I:Nat->σ->Prop)
 (h:I 0 c5)
 (b:∀i c5 a,i<N->I i c5->(∀s,I (i+1) s->OK (a s) Q)->OK (c2 i a c5) Q)
 (ho:∀c5,I N c5->Q (c3 c5)):OK (jM c2 c3 N 0 c5) Q:=OK.count_from I b ho N 0 c5 (by omega) h
theorem i7:type_of% @OK.count:=OK.count
theorem OK.rounds{Q:α->Prop}(I:σ->Prop)(m:σ->Nat)
  (c:∀s a,I s->(∀b,I b->m b<m s->OK (a b) Q)->OK (c6 a s) Q):
  ∀(f:Nat)(s:σ),I s->m s<f->OK (loop c6 f s) Q:=by
 intro f
 induction f with
 |zero=>intro s _ h;omega
 |succ n i=>intro s h g;exact c s _ h (λb d e=>i b d (by omega))
theorem OK.none_{α ρ:Type}{A:Option ρ}{B:α->Option ρ}{Q:ρ->Prop}(h:OK A Q):OK (vW none A B) Q:=h
theorem OK.some_{ρ:Type}{A:Option ρ}{B:α->Option ρ}{Q:ρ->Prop}(h:OK (B x) Q):OK (vW (some x) A B) Q:=h
theorem OK.eq(h:b4=some x)(k:b3 x):OK b4 b3:=⟨x,h,k⟩
theorem OK.is(h:OK b4 (λy=>y=x)):b4=some x:=by
 obtain ⟨y,rfl,rfl⟩:=h;rfl
theorem jS:(xs.set i x)[j]? =if i=j then (if i<xs.length then some x else none) else xs[j]? :=by
 rw [y6]
open Go.RowKit
open Go.RowKit
theorem JZ{L:List Item}(h:St w0 S0 w L)(j:Nat)(f:L[j]? =some (mN i R Z s ho))
  (a:o.op=.call ⟨.builtin .len,[G].toArray,ats.toArray⟩) (c:ats[0]? =some T) (g:look c7 G=some (.map (some i))) (k:P.underlying T=some (.map tk te)):∀b,Rep N c7 b->(execOp b.eval o).run P w=.ok (.value (.int .i64 (s.length:Int))) w:=by
 intro b l;obtain ⟨mv,Ss,e⟩:=h.all j _ f;obtain ⟨A,clock,m,n⟩:=e.map;have p:=l.look g
 have q:A.size=s.length:=by
  have:=congrArg List.length n.eq;have r:=congrArg List.length e.Ub
  grind
 have d:(ats.toArray)[0]? =some T:=by simpa using c
 simp [execOp,a,resolve,invoke,builtin,p,Builtin.len_,d,run_underlying k,dc m,goInt,q]
theorem OW.inl(hl:vr l i=some o)(a:gd l c7 o=some true)(b:o.dst=some d)(c:Nat.blt d N=true)
  (f:JN P c7 o=some (c9,F)) (g:P.funcs[c9]? =some B) (j:B.body=some a3) (k:B.ntmps=M) (hs:Nat.ble F.length M=true)
  (h:CW P M a3 (bodyPost P B (λe w'=>∃v,e=.returned v/\OW P l N Q (i+1) ((d,v)::c7) w')) (sD 0 F) w):OW P l N Q i c7 w:=
 OW.fn hl a b c f (CW.start g j k hs h) (λ_ _ h=>h)
def Mc{α:Type}(b:Nat)(enc:α->List Value)(M:Nat)(xs:List α):Item where
 S:=[b]
 Φ w:=Rd w [] (.slice (some ⟨b,0,none⟩) xs.length xs.length) enc M xs/\b<w.heap.size
 loc w w' hb h:=by
  obtain ⟨⟨n,a,c,g,j,p⟩,q⟩:=h;have e:w'.heap[b]? =w.heap[b]? :=hb b (by simp);refine ⟨⟨n,a,c,g,j,λt x f u i r=> ?_⟩,?_⟩
  ·obtain ⟨l,o,m,s,d⟩:=p t x f u i r
   have k:l=b:=by
    rw [m] at g;simp only [Value.slice.injEq,i8,Addr.mk.injEq] at g;exact g.1.1.symm
   subst k;refine ⟨l,o,m,s,?_⟩;rw [<- d];exact World.cell?_of_block e
  ·have:=x3.1 (e.trans (SG q));exact this.1
 lt w h x i:=by
  simp only [i6] at i;subst i;exact h.2
theorem OW.mark(y:St w0 S0 w L)(j:Nat)(Y:L[j]? =some (qk (.slice (some ⟨p,0,none⟩) n n) T enc M xs))
  (hl:vr l i=some ⟨some d,.convert m m G,ty,d0,d2,gdd⟩) (hg:gd l c7 ⟨some d,.convert m m G,ty,d0,d2,gdd⟩=some true) (hN:Nat.blt d N=true) (D:look c7 G=some (.slice (some ⟨p,0,none⟩) n n))
  (ht:P.underlying m=some (.slice e)) (he:P.underlying e=some (.int .u8)) (E:∀G,(enc G).length=M) (hn:xs.length=n) (hn0:0<n)
  (h:∀w',St w0 S0 w' (L.set j (Mc p enc M xs))->OW P l N Q (i+1) ((d,.slice (some ⟨p,0,none⟩) n n)::c7) w'):OW P l N Q i c7 w:=by
 have z:=y.all j _ Y;have r:dW w T M (.slice (some ⟨p,0,none⟩) n n) xs.length (jP enc xs):=z;have v:=r;obtain ⟨Z,hc⟩:=r;rcases hc with ⟨h0,a,I⟩|⟨g',o',cap,g,I,hp,B,hle,hm,hsz,htk⟩
 ·exact absurd h0 (by omega)
 ·simp only [Value.slice.injEq,i8,Addr.mk.injEq,and_true] at I;obtain ⟨⟨rfl,rfl⟩,h1,rfl⟩:=I;have J:w.shape? p=some (T,g.size):=by unfold World.shape?;rw [B]
  let w':=w.freeze ⟨p,g.size,none⟩ 1
  have K:w'.heap[p]? =some (.cells g T (g.size,g.size+1)):=by
   show (w.freeze ⟨p,g.size,none⟩ 1).heap[p]? =_;unfold World.freeze;rw [d8 (by decide)];simp only;rw [Array.getElem?_modify,d7 rfl,B];rfl
  have A:∀k,k≠p->w'.heap[k]? =w.heap[k]? :=by
   intro k O;show (w.freeze ⟨p,g.size,none⟩ 1).heap[k]? =_;unfold World.freeze;rw [d8 (by decide)];simp only;rw [Array.getElem?_modify,d8 (λe=>O e.symm)]
  have t:w'.heap.size=w.heap.size:=by
   show (w.freeze ⟨p,g.size,none⟩ 1).heap.size=_;unfold World.freeze;rw [d8 (by decide)];simp
  refine k6 (w':=w') hl hg rfl hN (λa C=> ?_) (h w' ?_)
  ·have e1:=C.look D;simp [execOp,e1,convert,run_underlying ht,run_underlying he,markStringish,J];rfl
  ·have R:Rd w [] (.slice (some ⟨p,0,none⟩) xs.length xs.length) enc M xs:=by
    have:=lw (F:=[]) E v (λ_ _=>by simp);rw [hn];exact this
   refine y.upd j Y ⟨rfl,rfl,rfl,by rw [t];exact m6 _,λk _ O=>A k (by rintro rfl;exact O (by simp [qk,xQ hp]))⟩ ?_ (λb hb=>.inl ?_) (by simp [Mc])
   ·obtain ⟨S,a,c,s,U,V⟩:=R;refine ⟨⟨S,a,c,s,U,λq G f u D hu=> ?_⟩,by rw [t];exact (x3.1 B).1⟩
    obtain ⟨b',o,C,W,x⟩:=V q G f u D hu;refine ⟨b',o,C,W,?_⟩;rw [<- x]
    have X:b'=p:=by
     rw [C] at s;simp only [Value.slice.injEq,i8,Addr.mk.injEq] at s;exact s.1.1.symm
    subst X;simp only [World.cell?,K,B]
   ·simp only [Mc,i6] at hb;subst hb;simp [qk,xQ hp]
theorem Bo{α:Type}:∀{m:List (Int×α)} {k:Int} {x:α},jz (mput m k x) k=some x
 |[],k,x=>by simp [mput,jz]
 |p::m,k,x=>by
  unfold mput;by_cases h:(p.1==k)=true
  ·grind [jz]
  ·rw [d8 h];unfold jz;rw [d8 h];exact Bo
theorem pY{α:Type}:∀{m:List (Int×α)} {k:Int} {x:α},jz m k=none->(k,x)∉m
 |[],k,x,_=>by simp
 |p::m,k,x,h=>by
  unfold jz at h;by_cases b:(p.1==k)=true
  ·grind
  ·rw [d8 b] at h;intro a;rcases j9.1 a with e|a
   ·subst e;simp at b
   ·exact pY h a
theorem F8(h:gG s X=some i):(s.set i (X,x)).map (·.1)=s.map (·.1):=by
 obtain ⟨v,_,a⟩:=uT h;rw [yg];apply o5
 grind
theorem om.giveH(h:om w N R Z s ho mv Ss)(y:∀k u,ho=some (k,u)->k=X)(o:gG s X=some i)
  (z:∀b∈Ss.flatten,w'.heap[b]? =w.heap[b]?) (B:∃A clock,w'.heap[N]? =some (.map A clock)/\ol (λv:Value=>v) (mv.set i (X,v)) A.toList clock):om w' N R (N::(Ss.set i []).flatten) (s.set i (X,x)) (some (X,v)) (mv.set i (X,v)) (Ss.set i []):=by
 have r:=h.nd;rw [h.hS] at r;obtain ⟨C,D⟩:=t9.1 r;have F:=h.hS;obtain ⟨G,_,d⟩:=uT o;have E:=(zes.1 d).1;have f:=(cJ h.Ub X).trans o;obtain ⟨v0,_,j⟩:=uT f;have I:=(zes.1 j).1;have J:i<Ss.length:=by rw [h.ls];exact E
 refine ⟨B,by rw [yg,yg,h.Ub],by rw [k7,k7];exact h.ls,rfl,?_,λk v' t e l=> ?_,λt q S p K m g n=> ?_⟩
 ·refine t9.2 ⟨λa=> ?_,aP D o4 (λ_ _ _ _ b a=>absurd a znm)⟩;rcases jU a with a|a
  ·grind
  ·exact C a
 ·grind [cJ,F8]
 ·rcases vc g with ⟨rfl,rfl⟩|⟨c,g⟩
  ·grind [cJ,F8]
  ·rcases vc m with ⟨e,_⟩|⟨_,m⟩
   ·exact absurd e c
   ·rcases vc n with ⟨e,_⟩|⟨_,n⟩
    ·exact absurd e c
    ·refine R.loc w w' _ S _ (λb a=>z b (k9.2 ⟨S,zmg g,a⟩)) (h.own t q S p (λk u e l=> ?_) m g n)
     grind
theorem om.comeH(h:om w N R Z s ho mv Ss)(z:∀k u,ho=some (k,u)->k=t)(m:gG s t=none)
  (B:∀b∈Ss.flatten,w'.heap[b]? =w.heap[b]?) (C:∃A clock,w'.heap[N]? =some (.map A clock)/\ol (λv:Value=>v) (mv++[(t,v)]) A.toList clock):om w' N R (N::(Ss++[[]]).flatten) (s++[(t,x)]) (some (t,v)) (mv++[(t,v)]) (Ss++[[]]):=by
 have n:=h.nd;rw [h.hS] at n;obtain ⟨L,M⟩:=t9.1 n;have O:=h.hS;have hl:=h.len;have D:=h.ls
 have o:gG (s++[(t,x)]) t=some s.length:=by
  have E:jz (s++[(t,x)]) t=some x:=by
   have:=xn.1 m;rw [<- iz this];exact Bo
  obtain ⟨i,X,d⟩:=eS E;rw [X];have P:=(zes.1 d).1;rcases Nat.lt_or_ge i s.length with f|F
  ·rw [x9 f] at d;have:=xn.1 m
   exact absurd this (by
    intro j;have r:=zmg d
    grind [pY])
  grind
 refine ⟨C,by rw [o7,o7,h.Ub];rfl,by simp [h.ls],rfl,?_,λk v' y e l=> ?_,λy q S p Q a g c=> ?_⟩
 ·grind
 ·grind
 ·rcases bm a with ⟨G,a⟩|⟨G,a⟩
  ·rcases bm g with ⟨I,g⟩|⟨I,g⟩
   ·rcases bm c with ⟨J,c⟩|⟨J,c⟩
    ·refine R.loc w w' _ S _ (λb K=>B b (k9.2 ⟨S,zmg g,K⟩)) (h.own y q S p (λk u e l=> ?_) a g c)
     grind
    ·omega
   ·omega
  grind
theorem OW.mputH(r:St w0 S0 w L)(q:Nat)(u:α)(E:L[q]? =some (mN M R Z s ho))(y:∀F u,ho=some (F,u)->F=t)
  (hl:vr l i=some ⟨none,.mapUpdate T G d3 d4,ty,d0,d2,gdd⟩) (W:gd l c7 ⟨none,.mapUpdate T G d3 d4,ty,d0,d2,gdd⟩=some true) (Y:look c7 G=some (.map (some M))) (I:look c7 d3=some (.int .i64 t)) (hz:look c7 d4=some v)
  (ht:P.underlying T=some (.map tk te)) (hk:P.underlying tk=some (.int kd)) (h:∀S' w',St w0 S0 w' (L.set q (mN M R S' (Sx.mput s t u) (some (t,v))))->OW P l N Q (i+1) c7 w'):OW P l N Q i c7 w:=by
 obtain ⟨mv,Ss,e⟩:=r.all q _ E;have J:=e.hS;have K:=e.nd;rw [J] at K;obtain ⟨n1,_⟩:=t9.1 K
 have hI:St w [M] w [Di M (λv:Value=>v) mv]:=by
  refine ⟨x6 _ _,λn O X=> ?_,λn O X=> ?_,λn n' a b hne h1 h2=> ?_,λn O X d3 I=> ?_⟩
  ·cases n with
   |zero=>simp at X;subst X;exact e.map
   |succ n=>simp at X
  ·grind [Di]
  ·grind
  grind [Di]
 obtain ⟨w',z,f⟩:=wV (P:=P) (k:=t) (x:=v) hI 0 rfl ht hk;have g:Chg [M] w w':=f.chg;have c:∃A clock,w'.heap[M]? =some (.map A clock)/\ol (λv:Value=>v) (Sx.mput mv t v) A.toList clock:=f.all 0 _ rfl;have C:=e.lt;have U:∀b∈Ss.flatten,w'.heap[b]? =w.heap[b]? :=λb d=>g.block b (C b (by grind)) (by grind)
 obtain ⟨S,B,j,V⟩:∃S B,om w' M R (M::List.flatten S) (Sx.mput s t u) (some (t,v)) B S/\∀b∈List.flatten S,b∈Ss.flatten:=by
  cases p:gG s t with
  |none=>
   have m:gG mv t=none:=(cJ e.Ub t).trans p;rw [iz (xn.1 m)] at c;rw [iz (xn.1 p)];refine ⟨_,_,e.comeH y p U c,λb d=> ?_⟩
   grind
  |some n=>
   have m:gG mv t=some n:=(cJ e.Ub t).trans p;rw [nj m] at c;rw [nj p];exact ⟨_,_,e.giveH y p U c,λb d=>(jU d).elim (λh=>absurd h znm) id⟩
 refine OW.ops hl W rfl (λa D=> ?_) (h (M::List.flatten S) w' ?_)
 ·simp [execOp,D.look Y,D.look I,D.look hz,z]
 ·have o:∀b∈M::List.flatten S,b∈Z:=λb d=>by
   grind
  exact r.upd q E (it':=mN M R (M::List.flatten S) (Sx.mput s t u) (some (t,v))) (g.mono (λb d=>by simp only [i6] at d;subst d;show b∈Z;rw [J];exact zcs)) ⟨_,_,j⟩ (λb d=>.inl (o b d)) j.nd
open Go.RowKit
theorem ny(h:∀x,(enc x).length=M)(xs:List α)(n:Nat):(jP enc xs).take (n*M)=jP enc (xs.take n):=by
 induction xs generalizing n with
 |nil=>simp [jP]
 |cons x r i=>
  cases n with
  |zero=>simp [jP]
  |succ n=>
   have a:=h x;simp only [jP,List.take_succ_cons];rw [List.take_append,a,Sr,show n*M+M-M=n*M by omega,i,t7 (by omega)]
theorem tJ(h:∀x,(enc x).length=M)(xs:List α)(n:Nat):(jP enc xs).drop (n*M)=jP enc (xs.drop n):=by
 induction xs generalizing n with
 |nil=>simp [jP]
 |cons x r i=>
  cases n with
  |zero=>simp
  |succ n=>
   have a:=h x;simp only [jP,List.drop_succ_cons];rw [SE,a,Sr,show n*M+M-M=n*M by omega,i,yi (by omega),List.nil_append]
theorem iE(xs ys:List α):jP enc (xs++ys)=jP enc xs++jP enc ys:=by
 induction xs with
 |nil=>rfl
 |cons x r i=>simp only [Sv,jP,i,x4]
theorem Kp(a:eQ F=true)(h:eQ A=true):eQ (F++A)=true:=by
 induction F with
 |nil=>exact h
 |cons x r i=>
  grind [eQ]
theorem H4(h:eQ (enc x)=true)(n:Nat):eQ (jP enc (List.replicate n x))=true:=by
 induction n with
 |zero=>rfl
 |succ n i=>exact Kp h i
theorem nW(h:e0.toList=enc x)(n:Nat):(Builtin.zeroCells e0 n).toList=jP enc (List.replicate n x):=by
 have hs:e0.size=(enc x).length:=by rw [<- h];simp
 have key:∀n,(List.range (n*e0.size)).map (λi=>e0[i%e0.size]!)=jP enc (List.replicate n x):=by
  intro n
  induction n with
  |zero=>simp [jP]
  |succ n a=>
   rw [Sr,List.range_add,o7,a,List.replicate_succ',iE]
   congr 1
   simp only [jP,j7,List.map_map];refine o5 (λi=> ?_);rw [u7];by_cases X:i<e0.size
   ·rw [List.getElem?_range X];simp only [t8,Function.comp];rw [show (n*e0.size+i)%e0.size=i by rw [Nat.add_comm,Nat.add_mul_mod_self_right,SA X],<- h,getElem!_pos e0 i X];simp [X]
   grind
 simpa [Builtin.zeroCells] using key n
theorem dW.pre(j:∀x,(enc x).length=M)(h:dW w T M (.slice a n c) xs.length (jP enc xs))(i:cut xs 0 X=some ys):
  dW w T M (.slice a ys.length c) ys.length (jP enc ys):=by
 obtain ⟨_,s,t,e⟩:=bp i;have hl:=kx i
 have k:ys=xs.take ys.length:=by
  grind
 refine ⟨qO j _,?_⟩;rcases h.2 with ⟨u,v,d⟩|⟨g,o,cap,b,d,l,m,p,q,f,y⟩
 ·grind
 ·simp only [Value.slice.injEq] at d;obtain ⟨rfl,rfl,rfl⟩:=d;refine .inr ⟨g,o,c,b,rfl,l,m,by omega,q,f,?_⟩;have r:ys.length*M<=xs.length*M:=p7 _ (by omega)
  have z:((b.toList.drop o).take (xs.length*M)).take (ys.length*M)=(b.toList.drop o).take (ys.length*M):=by
   grind
  grind [ny,jP]
theorem dW.suf(l:∀x,(enc x).length=M)(h:dW w T M (.slice a n c) xs.length (jP enc xs))(i:cut xs X (xs.length:Int)=some ys):
  dW w T M (.slice (shd a c X.toNat M) ys.length (c-X.toNat)) ys.length (jP enc ys):=by
 obtain ⟨u,v,y,e⟩:=bp i;have hl:=kx i
 have m:ys=xs.drop X.toNat:=by
  rw [e];simp
 refine ⟨qO l _,?_⟩;rcases h.2 with ⟨z,A,f⟩|⟨g,o,cap,b,f,B,p,q,C,r,D⟩
 ·grind
 ·simp only [Value.slice.injEq] at f;obtain ⟨rfl,rfl,rfl⟩:=f;by_cases d:c=X.toNat
  ·have j:ys.length=0:=by omega
   exact .inl ⟨j,_,by rw [j,d,Nat.sub_self]⟩
  ·have s:X.toNat<=xs.length:=by omega
   have k:ys.length=xs.length-X.toNat:=by grind
   refine .inr ⟨g,o+X.toNat*M,c-X.toNat,b,?_,by omega,p,by omega,by omega,?_,?_⟩
   ·simp [shd,d,Addr.add]
   ·have:(c-X.toNat)*M+X.toNat*M=c*M:=by rw [<- v9];congr 1;omega
    omega
   ·have t:X.toNat*M+ys.length*M=xs.length*M:=by rw [<- v9];congr 1;omega
    have E:((b.toList.drop o).take (xs.length*M)).drop (X.toNat*M)=(b.toList.drop (o+X.toNat*M)).take (ys.length*M):=by
     rw [List.drop_take,yu]
     congr 1
     omega
    grind [tJ]
theorem St.cutRow(d:St w0 S0 w L)(j:Nat)(f:L[j]? =some (qk (.slice a n c) T enc M xs))(g:∀x,(enc x).length=M)(i:cut xs 0 X=some ys):
  St w0 S0 w (L.set j (qk (.slice a ys.length c) T enc M ys)):=by
 have h:=d.all j _ f
 have e:(dq (.slice a ys.length c)).toList=(dq (.slice a n c)).toList:=by
  cases a with
  |none=>rfl
  |some a=>cases c<;>rfl
 exact d.upd j f (x6 _ _) (dW.pre g h i) (λb k=>.inl (by
  show b∈(dq (.slice a n c)).toList;rw [<- e];exact k)) vq
theorem St.sufRow(e:St w0 S0 w L)(j:Nat)(g:L[j]? =some (qk (.slice a n c) T enc M xs))(k:∀x,(enc x).length=M)(l:cut xs X (xs.length:Int)=some ys):
  St w0 S0 w (L.set j (qk (.slice (shd a c X.toNat M) ys.length (c-X.toNat)) T enc M ys)):=by
 have h:=e.all j _ g;refine e.upd j g (x6 _ _) (dW.suf k h l) (λb d=>.inl ?_) vq;have d:b∈(dq (.slice (shd a c X.toNat M) ys.length (c-X.toNat))).toList:=d;show b∈(dq (.slice a n c)).toList;cases c with
 |zero=>rw [Nat.zero_sub,eP] at d;cases d
 |succ c=>
  cases a with
  |none=>
   have:shd none (c+1) X.toNat M=none:=by grind [shd]
   rw [this] at d;cases d
  |some a=>
   by_cases f:c+1=X.toNat
   ·rw [f,Nat.sub_self,eP] at d;cases d
   ·have m:shd (some a) (c+1) X.toNat M=some (a.add (X.toNat*M)):=by unfold shd;rw [d8 f];rfl
    rw [m] at d;rcases yw (c+1-X.toNat) with i|i
    ·grind [eP]
    ·rw [xQ i] at d;rw [xQ (Nat.succ_pos c)]
     have o:(a.add (X.toNat*M)).block=a.block:=by
      obtain ⟨b0,p,s⟩:=a;unfold Addr.add
      grind
     grind
theorem OW.clearR{e:TypeId}(r:St w0 S0 w L)(j:Nat)(D:L[j]? =some (qk (.slice a n c) T enc M xs))(he:∀G,(enc G).length=M)
  (hl:vr l i=some ⟨none,.call ⟨.builtin .clear,[G].toArray,ats.toArray⟩,ty,d0,d2,gdd⟩) (Z:gd l c7 ⟨none,.call ⟨.builtin .clear,[G].toArray,ats.toArray⟩,ty,d0,d2,gdd⟩=some true) (hc:cut xs X (xs.length:Int)=some ys) (hx:look c7 G=some (.slice (shd a c X.toNat M) ys.length (c-X.toNat))) (E:ats[0]? =some tk) (F:P.underlying tk=some (.slice e)) (z:α)
  (C:(au P (zeroValue e)).map (·.cells.toList)=some (enc z)) (h1:eQ (enc z)=true)
  (h:∀w',St w0 S0 w' (L.set j (qk (.slice a n c) T enc M (xs.take X.toNat++List.replicate ys.length z)))->OW P l N Q (i+1) c7 w'):OW P l N Q i c7 w:=by
 obtain ⟨h0,hq1,hq2,e0⟩:=bp hc;have hl0:=kx hc;have hyl:ys.length=xs.length-X.toNat:=by omega
 have s:(ats.toArray)[0]? =some tk:=by simpa using E
 have hr:dW w T M (.slice a n c) xs.length (jP enc xs):=r.all j _ D;cases I:ys.length with
 |zero=>
  have J:xs.take X.toNat++List.replicate ys.length z=xs:=by
   rw [I,List.replicate_zero,j7,t7 (by omega)]
  have x:St w0 S0 w (L.set j (qk (.slice a n c) T enc M (xs.take X.toNat++List.replicate ys.length z))):=by
   rw [J];have K:=(zes.1 D)
   rw [show L.set j (qk (.slice a n c) T enc M xs)=L from by
    obtain ⟨h5,h6⟩:=K;rw [<- h6,List.set_getElem_self]]
   exact r
  refine OW.opn (v:=.tuple #[]) hl Z rfl (w':=w) (λb O=> ?_) (h _ x);have f:=O.look hx;rw [I] at f;cases m:shd a c X.toNat M with
  |none=>rw [m] at f;simp [execOp,resolve,invoke,builtin,f,Builtin.clear_,s,run_underlying F]
  |some a'=>rw [m] at f;simp [execOp,resolve,invoke,builtin,f,Builtin.clear_,s,run_underlying F]
 |succ k=>
  rcases hr.2 with ⟨hz0,_⟩|⟨g,o,cap,d,hv,hp,y,A,hm,hcs,t⟩
  ·omega
  ·simp only [Value.slice.injEq] at hv;obtain ⟨rfl,rfl,rfl⟩:=hv;have R:¬ c=X.toNat:=by omega
   have B:shd (some ⟨g,o,none⟩) c X.toNat M=some ⟨g,o+X.toNat*M,none⟩:=by simp [shd,R,Addr.add]
   cases u:au P (zeroValue e) with
   |none=>rw [u] at C;cases C
   |some zv=>
    rw [u] at C;have S:zv.cells.toList=enc z:=by simpa using C
    have U:=nW (enc:=enc) S (k+1)
    let p:=jP enc (List.replicate (k+1) z)
    have hvl:p.length=(k+1)*M:=by
     have:=qO he (List.replicate (k+1) z)
     simpa using this
    have hsum:X.toNat*M+(k+1)*M=xs.length*M:=by rw [<- v9];congr 1;omega
    have hcap:xs.length*M<=c*M:=p7 _ A;have q:o+X.toNat*M+p.length<=d.size:=by omega
    have hst2:=run_storeCells_at (P:=P) g (o+X.toNat*M) T p 0 d w y (by simpa using q) (eR (H4 h1 _));refine OW.opn (v:=.tuple #[]) hl Z rfl (w':=w.setRow g (qF d.toList p (o+X.toNat*M)).toArray) (λb O=> ?_) (h _ ?_)
    ·have f:=O.look hx;rw [I,B] at f;have V:=qV u w;have h3:(storeCells ⟨g,o+X.toNat*M,none⟩ p).run P w=.ok () (w.setRow g (qF d.toList p (o+X.toNat*M)).toArray):=by grind [qF]
     have h4:(Builtin.zeroCells zv.cells (k+1)).toList=p:=U;simp [execOp,resolve,invoke,builtin,f,Builtin.clear_,s,run_underlying F,V,h4,h3]
    ·have hlen:(qF d.toList p (o+X.toNat*M)).length=d.size:=by simp [qF] at q |-;omega
     refine r.upd j D ⟨rfl,rfl,rfl,by simp [World.setRow],λk' _ hn=>setRow_other w g k' _ (by grind [qk,xQ])⟩ ?_ (λk' W=>.inl W) vq;have Y:(xs.take X.toNat++List.replicate ys.length z).length=xs.length:=by simp;omega
     show dW (w.setRow g _) T M _ _ _;rw [Y];refine ⟨by grind [qO],.inr ⟨g,o,c,_,rfl,hp,setRow_heap w g d _ T _ y,A,hm,by grind,?_⟩⟩;simp only;rw [db (by omega) (by omega) (by grind),t,show o+X.toNat*M-o=X.toNat*M by omega]
     grind [iE,ny,qF,qO]
end Go.Sx
