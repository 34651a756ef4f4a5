/- Lemmas. -/
import Derived.Test.YtplmgfkghomelaaGreatDoorEng
set_option linter.all false
namespace Go.Sx
open Go.RowKit
variable {α ρ β σ:Type}{w w0 w':World}{o:Oper}{N i M n q e c j m d it p ff sze:Nat}{Fs Fs1:List Fa}{P:Program}{Z S0 S g js ats:List Nat}{fr:Fr}{l:List Oper}{L L1:List Item}{B:Func}{enc:α->List Value}{xs ys:List α}{Q:Exit->Act->World->Prop}{T ty tk te:TypeId}{x d3:α}{v v' K:Value}{a:Option Addr}{hs hs1 hs2:List H}{r:ρ}{f:Option ρ}{R:Rp α}{lv:List (Nat×Pn)}{pk Ls la:List (Nat×Bool)}{X t p3:Int}{F A C k b2:List Value}{gdd:Option (Nat×Bool)}{one many:List (Nat×LH)}{h:LH}{rem d2:List (Int×α)}{ho:Option (Int×Value)}{src:List Src}{mv:List (Int×Value)}{b:(Nat->α)->List Value}{xs' a9:List (Nat->α)}{z b0:Nat->α}{last:Option (Int×Value×α)}{Ss:List (List Nat)}{G:Act}{I e5 e6:Operand}{E:List (Value×Value)}{J:Value×List (Nat×Bool)}{O:Addr}{U:Array Oper}{V:BinOp}{W:BinOp->Bool}{Y:IntKind×Int×IntKind×Int}{a0:Unit}{a1:ByteArray}{a3:Int×Int}{φ:List α->Option ρ}{a4 y:Code}{a5:Nat×Nat×Nat×Option Int×Option Int×Nat}{a6:Option (Nat×Nat×Nat×Option Int×Option Int×Nat)}{a7:Nat×Option Int×Option Int}{a8:Cs}{dec:List Value->α}{b3 b5:α->Prop}{b4 b7:Option α}{b6:Bool}{b8:Unit->Prop}{c0:Nat->Prop}{c2:Nat->(σ->Option ρ)->σ->Option ρ}{c3:σ->ρ}{c4:ρ->Prop}{c5 s':σ}{c6:(σ->Option α)->σ->Option α}{c7:List (Nat×Value)}{c8:String}{c9:Array Edge}{d0:List MapEntry}{d4:β->List Value}{e0 s:List (Int×List β)}{e2:List β}{e3:σ->Option ρ}{e4:FuncId}{kd:IntKind}{e7:Array Value}
abbrev SpS:=List (Nat×Value×List (Nat×Bool))
def tH:SpS->Nat->Option (Value×List (Nat×Bool))
 |[],_=>none
 |p::r,n=>match Nat.beq p.1 n with
  |true=>some p.2
  |false=>tH r n
def slk(S:SpS)(fr:Fr):Operand->Option (Value×List (Nat×Bool))
 |.tmp t=>match tH S t with
  |some e=>some e
  |none=>match lK fr t with
   |some v=>some (v,[])
   |none=>none
 |.const v=>some (v,[])
 |.global g=>some (.pointer (some ⟨g,0,none⟩),[])
 |.func f=>some (.func (.func f) #[] #[],[])
def K1(p:Nat×Bool):List (Nat×Bool)->Bool
 |[]=>false
 |q::r=>match Nat.beq q.1 p.1,q.2==p.2 with
  |true,true=>true
  |_,_=>K1 p r
def iU:List (Nat×Bool)->List (Nat×Bool)->Bool
 |[],_=>true
 |p::r,B=>match K1 p B with
  |true=>iU r B
  |false=>false
theorem BX{p:Nat×Bool}:∀{B:List (Nat×Bool)},K1 p B=true->p∈B
 |[],h=>by cases h
 |q::r,h=>by
  unfold K1 at h;split at h
  ·rename_i a b
   have s:=w7 a
   grind
  ·exact zcm _ (BX h)
theorem gQ:∀{A B:List (Nat×Bool)},iU A B=true->∀p∈A,p∈B
 |[],_,_,p,a=>by cases a
 |q::r,B,h,p,a=>by
  unfold iU at h;split at h
  ·rename_i b
   rcases j5.1 a with rfl|a
   ·exact BX b
   ·exact gQ h p a
  ·cases h
def ID(l:List Oper)(S:SpS)(o:Oper):Option (List (Nat×Bool)):=match o.guard with
 |none=>some []
 |some (j,b)=>match (vg l j).bind (·.dst) with
  |some d=>match tH S d with
   |some (.bool _,a)=>some ((d,b)::a)
   |_=>none
  |none=>none
def R9(S:SpS)(fr:Fr)(x:Operand):Value:=match slk S fr x with
 |some e=>e.1
 |none=>undef
def K2(S:SpS)(fr:Fr)(Ls:List (Nat×Bool)):List Operand->Bool
 |[]=>true
 |x::r=>match slk S fr x with
  |some e=>match iU e.2 Ls with
   |true=>K2 S fr Ls r
   |false=>false
  |none=>false
def DY{α:Type}:List (Nat×α)->Nat->Option α
 |[],_=>none
 |p::r,n=>match Nat.beq p.1 n with
  |true=>some p.2
  |false=>DY r n
def Sa(P:Program)(lv:List (Nat×Pn))(pk:List (Nat×Bool))(i:Nat)(S:SpS)(fr:Fr)(Ls:List (Nat×Bool))(o:Oper):Option (Value×List (Value×Value)):=match o.op with
 |.pick (.tmp c) x y=>match DY pk i with
  |some true=>match slk S fr (.tmp c),slk S fr x,slk S fr y with
   |some (.bool g,l),some (.bool true,la),some (.bool b,d)=>match iU l Ls,iU la ((c,true)::Ls),iU d ((c,false)::Ls) with
    |true,true,true=>some (.bool (g||b),[])
    |_,_,_=>none
   |_,_,_=>none
  |some false=>match slk S fr (.tmp c),slk S fr x,slk S fr y with
   |some (.bool g,l),some (.bool a,la),some (.bool false,d)=>match iU l Ls,iU la ((c,true)::Ls),iU d ((c,false)::Ls) with
    |true,true,true=>some (.bool (g&&a),[])
    |_,_,_=>none
   |_,_,_=>none
  |none=>none
 |.load t x=>match DY lv i,slk S fr x with
  |some (.c a v),some (p,la)=>match iU la Ls,ax P (isAgg t) with
   |true,some false=>some (v,[(p,.pointer (some a))])
   |_,_=>none
  |some (.n b k e),some (p,la)=>match iU la Ls,ax P (isAgg t),ax P (sizeOf t) with
   |true,some true,some m=>match Nat.beq m e.length with
    |true=>some (.agg e.toArray,[(p,.pointer (some ⟨b,k,none⟩))])
    |false=>none
   |_,_,_=>none
  |_,_=>none
 |_=>match aE o.op,K2 S fr Ls o.op.operands.toList with
  |true,true=>match ax P (execOp (R9 S fr) o) with
   |some (.value v)=>some (v,[])
   |_=>none
  |_,_=>none
def ub(P:Program)(l:List Oper)(N:Nat)(lv:List (Nat×Pn))(pk:List (Nat×Bool))(fr:Fr):Nat->Nat->SpS->List (Value×Value)->Option (SpS×List (Value×Value))
 |0,_,S,E=>some (S,E)
 |n+1,i,S,E=>match vg l i with
  |none=>none
  |some o=>match o.dst,ID l S o with
   |some d,some Ls=>match Nat.blt d N,tH S d with
    |true,none=>match Sa P lv pk i S fr Ls o with
     |some (v,e)=>ub P l N lv pk fr n (i+1) ((d,v,Ls)::S) (e++E)
     |none=>none
    |_,_=>none
   |_,_=>none
def Hd(S:SpS)(Ls:List (Nat×Bool)):Prop:=∀p∈Ls,∃l,tH S p.1=some (.bool p.2,l)
structure SpI (N:Nat) (S:SpS) (fr:Fr) (a:Act):Prop where
 size:a.tmps.size=N
 defers:a.defers=[]
 on:∀t v Ls,tH S t=some (v,Ls)->(Hd S Ls->a.tmps[t]? =some v)/\(¬ Hd S Ls->a.tmps[t]? =some undef)
 off:∀t v,tH S t=none->lK fr t=some v->a.tmps[t]? =some v
 closed:∀t v Ls,tH S t=some (v,Ls)->∀p∈Ls,∃u,tH S p.1=some u
variable {D:SpS}
theorem Hd.sub(h:Hd D Ls)(hs:iU pk Ls=true):Hd D pk:=λp a=>h p (gQ hs p a)
theorem SpI.lk(h:SpI N D fr G)(a:slk D fr I=some (v,la))(hl:Hd D la):G.eval I=v:=by
 cases I with
 |tmp t=>
  simp only [slk] at a
  have:G.tmps[t]? =some v:=by
   split at a
   ·rename_i e b
    cases a
    exact (h.on t v la b).1 hl
   ·rename_i b
    split at a
    ·rename_i u c;cases a;exact h.off t v b c
    ·cases a
  simp [Act.eval,yz,this]
 |const u=>simp only [slk] at a;cases a;rfl
 |global g=>simp only [slk] at a;cases a;rfl
 |func f=>simp only [slk] at a;cases a;rfl
theorem BZ{fr:Fr}{S:SpS}{Ls:List (Nat×Bool)}:∀{xs:List Operand},K2 S fr Ls xs=true->∀x∈xs,∃e,slk S fr x=some e/\iU e.2 Ls=true
 |[],_,x,a=>by cases a
 |y::r,h,x,a=>by
  unfold K2 at h;split at h
  ·rename_i e b
   split at h
   ·rename_i hs
    rcases j5.1 a with rfl|a
    ·exact ⟨e,b,hs⟩
    ·exact BZ h x a
   ·cases h
  ·cases h
theorem SpI.want(h:SpI N D fr G)(a:ID l D o=some Ls):(Hd D Ls->Region.wanted o (yielded l.toArray G.tmps)=true)/\(¬ Hd D Ls->Region.wanted o (yielded l.toArray G.tmps)=false):=by
 unfold ID at a;unfold Region.wanted;split at a
 ·rename_i m
  cases a
  rw [m];exact ⟨λ_=>rfl,λk=>absurd (λp c=>by cases c) k⟩
 ·rename_i j b m
  rw [m];split at a
  ·rename_i d n
   split at a
   ·rename_i g q hs
    cases a
    have f:=h.on d _ _ hs;constructor
    ·intro k;have i:Hd D q:=λp c=>k p (zcm _ c)
     obtain ⟨s,r⟩:=k (d,b) zcs;rw [hs] at r;cases r;simp only [yielded,dQ,n,zbs,f.1 i];cases b<;>rfl
    ·intro k;by_cases i:Hd D q
     ·have t:g≠b:=λe=>k (λp c=>by
       rcases j5.1 c with rfl|c
       ·grind
       ·exact i p c)
      simp only [yielded,dQ,n,zbs,f.1 i]
      grind
     ·simp only [yielded,dQ,n,zbs,f.2 i];cases b<;>rfl
   ·cases a
  ·cases a
theorem SpI.val(h:SpI N D fr G)(a:Sa P lv pk i D fr Ls o=some (v,E))(L:∀p∈E,p.1=p.2)(hl:∀i e,DY lv i=some e->e.Φ w)(B:Hd D Ls):(execOp G.eval o).run P w=.ok (.value v) w:=by
 unfold Sa at a;split at a
 ·rename_i c x y ho
  split at a
  split at a
  ·rename_i g M la b O q d j
   split at a
   ·rename_i C F I
    cases a
    have s:=h.lk q (B.sub C);simp only [execOp,ho,s,asBool];cases g with
    |true=>
     have Q:Hd D ((c,true)::Ls)\/Hd D la:=.inr (λp n=>by
      rcases j5.1 (gQ F p n) with rfl|r
      ·cases l:tH D c with
       |none=>
        exfalso
        cases x with
        |tmp t=>
         simp only [slk] at d;split at d
         ·rename_i e A;cases d;obtain ⟨u,z⟩:=h.closed t _ _ A _ n;rw [l] at z;cases z
         ·split at d<;>cases d;cases n
        |const u=>simp only [slk] at d;cases d;cases n
        |global g=>simp only [slk] at d;cases d
        |func f=>simp only [slk] at d;cases d
       |some u=>
        simp only [slk,l] at q;cases q;exact ⟨_,rfl⟩
      ·exact B p r)
     have e2:=h.lk d (Q.elim (λk=>k.sub F) id);simp [e2]
    |false=>
     have e3:=h.lk j (λp n=>by
      rcases j5.1 (gQ I p n) with rfl|r
      ·cases l:tH D c with
       |none=>
        exfalso
        cases y with
        |tmp t=>
         simp only [slk] at j;split at j
         ·rename_i e A;cases j;obtain ⟨u,z⟩:=h.closed t _ _ A _ n;rw [l] at z;cases z
         ·split at j<;>cases j;cases n
        |const u=>simp only [slk] at j;cases j;cases n
        |global g=>simp only [slk] at j;cases j
        |func f=>simp only [slk] at j;cases j
       |some u=>
        simp only [slk,l] at q;cases q;exact ⟨_,rfl⟩
      ·exact B p r)
     simp [e3]
   ·cases a
  ·cases a
  split at a
  ·rename_i g M T la O q d j
   split at a
   ·rename_i C F I
    cases a
    have s:=h.lk q (B.sub C);simp only [execOp,ho,s,asBool];cases g with
    |true=>
     have e2:=h.lk d (λp n=>by
      rcases j5.1 (gQ F p n) with rfl|r
      ·cases l:tH D c with
       |none=>
        exfalso
        cases x with
        |tmp t=>
         simp only [slk] at d;split at d
         ·rename_i e A;cases d;obtain ⟨u,z⟩:=h.closed t _ _ A _ n;rw [l] at z;cases z
         ·split at d<;>cases d;cases n
        |const u=>simp only [slk] at d;cases d;cases n
        |global g=>simp only [slk] at d;cases d
        |func f=>simp only [slk] at d;cases d
       |some u=>
        simp only [slk,l] at q;cases q;exact ⟨_,rfl⟩
      ·exact B p r)
     simp [e2]
    |false=>
     have e3:=h.lk j (λp n=>by
      rcases j5.1 (gQ I p n) with rfl|r
      ·cases l:tH D c with
       |none=>
        exfalso
        cases y with
        |tmp t=>
         simp only [slk] at j;split at j
         ·rename_i e A;cases j;obtain ⟨u,z⟩:=h.closed t _ _ A _ n;rw [l] at z;cases z
         ·split at j<;>cases j;cases n
        |const u=>simp only [slk] at j;cases j;cases n
        |global g=>simp only [slk] at j;cases j
        |func f=>simp only [slk] at j;cases j
       |some u=>
        simp only [slk,l] at q;cases q;exact ⟨_,rfl⟩
      ·exact B p r)
     simp [e3]
   ·cases a
  ·cases a
  cases a
 ·rename_i t x ho
  split at a
  ·rename_i U u p la q d
   split at a
   ·rename_i C J
    cases a
    have s:=h.lk d (B.sub C);have e2:=L _ zcs;simp only at e2;have j:=rC (P:=P) (w:=w) J (hl i _ q);simp only [execOp,ho];rw [s,e2];simp [j]
   ·cases a
  ·rename_i b k V p la q d
   split at a
   ·rename_i m C J R
    split at a
    ·rename_i K
     cases a
     have K:=w7 K;subst K;have s:=h.lk d (B.sub C);have e2:=L _ zcs;simp only at e2;have j:=rD (P:=P) (w:=w) J R (hl i _ q);simp only [execOp,ho];rw [s,e2];simp [j]
    ·cases a
   ·cases a
  ·cases a
 ·split at a
  ·rename_i hs ho
   split at a
   ·rename_i u z
    cases a
    rw [ki (ρ':=R9 D fr) hs (λx S=> ?_)]
    ·exact qV z w
    ·obtain ⟨e,A,hs2⟩:=BZ ho x S;rw [h.lk (v:=e.1) (la:=e.2) A (B.sub hs2)];simp [R9,A]
   ·cases a
  ·cases a
theorem mJ:tH ((d,J)::D) N=if d=N then some J else tH D N:=by
 simp only [tH];cases h:Nat.beq d N with
 |true=>rw [d7 (w7 h)]
 |false=>rw [d8 (r7 h)]
theorem SpI.put(h:SpI N D fr G)(n:Nat.blt d N=true)(w:tH D d=none)(c:ID l D o=some Ls)(x:Hd D Ls->K=v)(y:¬ Hd D Ls->K=undef):SpI N ((d,v,Ls)::D) fr (G.put (some d) K):=by
 have i:d<N:=by simpa [x6] using n
 have r:∀p∈Ls,∃z,tH D p.1=some z:=by
  unfold ID at c;split at c
  ·grind
  ·split at c
   ·split at c
    ·rename_i A _ g B hs
     cases c
     intro p b;rcases j5.1 b with rfl|b
     ·exact ⟨_,hs⟩
     ·exact h.closed _ _ _ hs p b
    ·cases c
   ·cases c
 have m:∀L,(∀p∈L,∃z,tH D p.1=some z)->(Hd ((d,v,Ls)::D) L↔Hd D L):=by
  intro L j
  have:∀p∈L,tH ((d,v,Ls)::D) p.1=tH D p.1:=by
   grind [mJ]
  exact ⟨λk p b=>by rw [<- this p b];exact k p b,λk p b=>by rw [this p b];exact k p b⟩
 refine ⟨by simp [Act.put,h.size],by simp [Act.put,h.defers],λt v' L a=> ?_,λt v' a s=> ?_,λt v' L a p b=> ?_⟩
 ·rw [mJ] at a;by_cases e:d=t
  ·subst e;rw [d7 rfl] at a;cases a;have f:(G.put (some d) K).tmps[d]? =some K:=by simp [Act.put,h.size,i]
   grind
  ·rw [d8 e] at a;have f:(G.put (some d) K).tmps[t]? =G.tmps[t]? :=by simp only [Act.put];exact Array.getElem?_setIfInBounds_ne e
   rw [f];have j:=h.closed t v' L a;exact ⟨λk=>(h.on t v' L a).1 ((m L j).1 k),λk=>(h.on t v' L a).2 (λq=>k ((m L j).2 q))⟩
 ·rw [mJ] at a;by_cases e:d=t
  ·grind
  ·rw [d8 e] at a;have f:(G.put (some d) K).tmps[t]? =G.tmps[t]? :=by simp only [Act.put];exact Array.getElem?_setIfInBounds_ne e
   rw [f];exact h.off t v' a s
 ·have u:∃z,tH D p.1=some z:=by
   rw [mJ] at a;by_cases e:d=t
   ·grind
   ·rw [d8 e] at a;exact h.closed t v' L a p b
  grind [mJ]
theorem Qn{a:Act}(G:Nat->Act->Prop)(hl:∀i e,DY lv i=some e->e.Φ w)
  (step:∀i a o,vg l i=some o->(Region.wanted o (yielded l.toArray a.tmps)=true->∀v d,o.dst=some d->(execOp a.eval o).run P w=.ok (.value v) w->G (i+1) (a.put (some d) v)->G i a)/\
   (Region.wanted o (yielded l.toArray a.tmps)=false->∀d,o.dst=some d->G (i+1) (a.put (some d) undef)->G i a)):
  ∀(n i:Nat)(D:SpS)(E:List (Value×Value)){S:SpS}{b:List (Value×Value)}{a:Act},ub P l N lv pk fr n i D E=some (S,b)->(∀p∈b,p.1=p.2)->SpI N D fr a->(∀u,SpI N S fr u->G (i+n) u)->G i a:=by
 have c:∀(n i:Nat)(D:SpS)(E:List (Value×Value)){S:SpS}{b:List (Value×Value)},ub P l N lv pk fr n i D E=some (S,b)->∀p∈E,p∈b:=by
  intro n
  induction n with
  |zero=>intro i D E S b h p g;simp only [ub,i6,o7] at h;rw [<- h.2];exact g
  |succ n m=>
   intro i D E S b h p g;unfold ub at h;split at h
   ·cases h
   ·split at h
    ·split at h
     ·split at h
      ·exact m _ _ _ h p (zar _ g)
      ·cases h
     ·cases h
    ·cases h
 intro n
 induction n with
 |zero=>intro i D E S b a h _ f k;simp only [ub,i6,o7] at h;exact k a (by grind)
 |succ n m=>
  intro i D E S b a h s f k;have F:=h;unfold ub at h;split at h
  ·cases h
  ·rename_i o ho
   split at h
   ·rename_i d Ls x r
    split at h
    ·rename_i y z
     split at h
     ·rename_i v e A
      have t:∀p∈e,p.1=p.2:=λp g=>s p (c _ _ _ _ h p (zal _ g))
      obtain ⟨B,C⟩:=step i a o ho;by_cases j:Hd D Ls
      ·refine B ((f.want r).1 j) v d x (f.val A t hl j) (m _ _ _ h s (f.put y z r (λ_=>rfl) (λq=>absurd j q)) ?_)
       grind
      ·refine C ((f.want r).2 j) d x (m _ _ _ h s (f.put y z r (λq=>absurd q j) (λ_=>rfl)) ?_)
       grind
     ·cases h
    ·cases h
   ·cases h
def uc(S:SpS)(fr:Fr):List Nat->Bool
 |[]=>true
 |q::r=>(match tH S q with
  |some (_,[])=>true
  |some _=>false
  |none=>match lK fr q with
   |some _=>true
   |none=>false)&&uc S fr r
def K3(S:SpS)(fr:Fr):List Nat->Fr
 |[]=>[]
 |q::r=>(q,match tH S q with
  |some (v,_)=>v
  |none=>(lK fr q).getD undef)::K3 S fr r
theorem SpI.rep{N:Nat}{fr:Fr}{S:SpS}{a:Act}(h:SpI N S fr a):∀{g:List Nat},uc S fr g=true->Rep N (K3 S fr g) a
 |[],_=>⟨h.size,h.defers,λi v X=>by cases X⟩
 |q::r,hl=>by
  unfold uc at hl;rw [zae] at hl;have f:=h.rep hl.2;refine {h with get:=λi v X=> ?_};simp only [K3] at X;rw [bF] at X;split at X
  ·rename_i e
   subst e;have c:=hl.1;split at c
   ·rename_i u b
    rw [b] at X;cases X;exact (h.on q _ _ b).1 (λp j=>by cases j)
   ·cases c
   ·rename_i b
    split at c
    ·rename_i u d
     rw [b,d] at X;cases X;exact h.off q _ b d
    ·cases c
  ·exact f.get i v X
theorem SpI.init(a:Rep N fr G):SpI N [] fr G:=⟨a.size,a.defers,λt v Ls h=>(by cases h),λt v _ b=>a.get t v b,λt v Ls h=>(by cases h)⟩
structure LvR (one many:List (Nat×LH)) (Fs:List Fa) (L:List Item) (w0:World) (Z:List Nat) (lv:List (Nat×Pn)):Prop where
 o:∀w,bO w0 Z Fs->St w0 Z w L->∀p∈lv,p.2.Φ w
theorem LvR.nil:LvR [] [] Fs L w0 Z []:=⟨λ_ _ _ p h=>by cases h⟩
theorem LvR.c1(d:Cel Fs L w0 Z h O v)(n:LvR one many Fs L w0 Z lv):LvR ((j,h)::one) many Fs L w0 Z ((j,.c O v)::lv):=⟨λw b s p a=>by
 rcases j5.1 a with rfl|a
 ·exact d.o w b s
 ·exact n.o w b s p a⟩
theorem ud{α:Type}:∀{xs:List (Nat×α)} {n:Nat} {x:α},DY xs n=some x->∃p∈xs,p.2=x
 |[],_,_,h=>by cases h
 |p::r,n,x,h=>by
  unfold DY at h;split at h
  ·grind
  ·obtain ⟨q,a,e⟩:=ud h;exact ⟨q,zcm _ a,e⟩
def spS(P:Program)(l:List Oper)(N:Nat)(lv:List (Nat×Pn))(pk:List (Nat×Bool))(fr:Fr):SpS:=match ub P l N lv pk fr l.length 0 [] [] with
 |some p=>p.1
 |none=>[]
def spE(P:Program)(l:List Oper)(N:Nat)(lv:List (Nat×Pn))(pk:List (Nat×Bool))(fr:Fr):Option (List (Value×Value)):=match ub P l N lv pk fr l.length 0 [] [] with
 |some p=>some p.2
 |none=>none
theorem ue:∀{E:List (Value×Value)},E.map (·.1)=E.map (·.2)->∀p∈E,p.1=p.2
 |[],_,p,a=>by cases a
 |q::r,h,p,a=>by
  simp only [p9,List.cons.injEq] at h;rcases j5.1 a with rfl|a
  ·exact h.1
  ·exact ue h.2 p a
theorem GC.sc(hl:LvR one many Fs L w0 Z lv)(E:KR (spE P l N lv pk fr).isSome true)(F:KR (((spE P l N lv pk fr).getD []).map (·.1)) (((spE P l N lv pk fr).getD []).map (·.2)))(G:KR (uc (spS P l N lv pk fr) fr g) true)
  (n:GQ hs f r Fs L (K3 (spS P l N lv pk fr) fr g) P B N w0 Z .normal Q):GC (.sc g one many pk::hs) f r Fs L fr P B N w0 Z (.region M l.toArray false) Q:=⟨λw a s e=>by
 refine f7 λb I=> ?_
 have t:=E.h;have u:=ue F.h;have j:=G.h;have m:=n.o w a s e;unfold spE at t u;unfold spS at j m;cases x:ub P l N lv pk fr l.length 0 [] [] with
 |none=>rw [x] at t;cases t
 |some p=>
  rw [x] at u j m
  have key:=Qn (P:=P) (l:=l) (N:=N) (lv:=lv) (pk:=pk) (fr:=fr) (w:=w) (λi a=>wpList P l.toArray Q (l.drop i) a w)
   (λi e X=>by obtain ⟨q,J,rfl⟩:=ud X;exact hl.o w a s q J)
   (λi a o ho=>⟨λy v d z c k=>by
     show wpList P l.toArray Q (l.drop i) a w;rw [aX ho];refine wpList_step (λK A=> ?_);rw [d7 y];unfold Oper.wp;rw [c,Oper.upon_value,z];exact A _ _ k,
    λy d z k=>by
     show wpList P l.toArray Q (l.drop i) a w;rw [aX ho];refine wpList_step (λK A=> ?_);rw [y,z];exact A _ _ k⟩) l.length 0 [] [] (a:=b) x u (SpI.init I) (λC D=>by
    have S:=m C (D.rep j)
    have O:=f6 (P:=P) (l:=l) (N:=N) (Q:=Q) (i:=l.length) (fr:=K3 p.1 fr g) (w:=w) (by
     cases R:vg l l.length with
     |none=>rfl
     |some o=>exact absurd (sE R) (by omega)) m C (D.rep j)
    simpa using O)
  exact key⟩
theorem GC.scS(I:KR (P.follows .mixedOrders) true)(J:KR (Region.lexB .any l.toArray) true)(hl:LvR one many Fs L w0 Z lv)(O:KR (spE P l N lv pk fr).isSome true)(R:KR (((spE P l N lv pk fr).getD []).map (·.1)) (((spE P l N lv pk fr).getD []).map (·.2)))(S:KR (uc (spS P l N lv pk fr) fr g) true)
  (n:GQ hs f r Fs L (K3 (spS P l N lv pk fr) fr g) P B N w0 Z .normal Q):GC (.sc g one many pk::hs) f r Fs L fr P B N w0 Z (.region M l.toArray true) Q:=⟨λw a s e=>by
 refine CW.still I.h J.h λj t b T=> ?_
 have G:=s.same t;have u:=O.h;have x:=ue R.h;have y:=S.h;have z:=n.o j a G e;unfold spE at u x;unfold spS at y z;cases A:ub P l N lv pk fr l.length 0 [] [] with
 |none=>rw [A] at u;cases u
 |some p=>
  rw [A] at x y z
  have key:=Qn (P:=P) (l:=l) (N:=N) (lv:=lv) (pk:=pk) (fr:=fr) (w:=j) (λi a=>wpStill P l.toArray j (λC=>Q .normal C j) ((l.take l.length).drop i) a)
   (λi e X=>by obtain ⟨q,U,rfl⟩:=ud X;exact hl.o j a G q U)
   (λi a o ho=>⟨λD v d E m k=>by
     show wpStill P l.toArray j _ ((l.take l.length).drop i) a;rw [tU (c:=l.length) ho (by have:=sE ho;simp [x6,this])];refine wpStill_step (λK F=> ?_);rw [d7 D];unfold Oper.still;rw [m,Oper.stillUpon_value,E];exact F _ k,
    λD d E k=>by
     show wpStill P l.toArray j _ ((l.take l.length).drop i) a;rw [tU (c:=l.length) ho (by have:=sE ho;simp [x6,this])];refine wpStill_step (λK F=> ?_);rw [D,E];exact F _ k⟩) l.length 0 [] [] (a:=b) A x (SpI.init T) (λC V=>by
    have W:=OS.fin (P:=P) (l:=l) (N:=N) (Q:=Q) (c:=l.length) (i:=l.length) (fr:=K3 p.1 fr g) (w:=j) (by simp) z C (V.rep y)
    simpa using W)
  exact key⟩
theorem GC.scB(a:KR U (tz B i).toArray)(hl:LvR one many Fs L w0 Z lv)(b:KR (spE P (tz B i) N lv pk fr).isSome true)(c:KR (((spE P (tz B i) N lv pk fr).getD []).map (·.1)) (((spE P (tz B i) N lv pk fr).getD []).map (·.2)))(d:KR (uc (spS P (tz B i) N lv pk fr) fr g) true)
 (n:GQ hs f r Fs L (K3 (spS P (tz B i) N lv pk fr) fr g) P B N w0 Z .normal Q):GC (.sc g one many pk::hs) f r Fs L fr P B N w0 Z (.region i U false) Q:=by have:=a.h;subst this;exact GC.sc hl b c d n
theorem GC.scC(a:KR U (tz B i).toArray)(b:KR (P.follows .mixedOrders) true)(c:KR (Region.lexB .any (tz B i).toArray) true)(hl:LvR one many Fs L w0 Z lv)(d:KR (spE P (tz B i) N lv pk fr).isSome true)(e:KR (((spE P (tz B i) N lv pk fr).getD []).map (·.1)) (((spE P (tz B i) N lv pk fr).getD []).map (·.2)))(j:KR (uc (spS P (tz B i) N lv pk fr) fr g) true)
 (n:GQ hs f r Fs L (K3 (spS P (tz B i) N lv pk fr) fr g) P B N w0 Z .normal Q):GC (.sc g one many pk::hs) f r Fs L fr P B N w0 Z (.region i U true) Q:=by have:=a.h;subst this;exact GC.scS b c hl d e j n
open Go.RowKit
theorem LkV.of(ho:okO l N fr i=some o)(hs:aE o.op=true)(c:bO w0 Z Fs->∀a w,Rep N fr a->(execOp a.eval o).run P w=.ok (.value v) w):LkV Fs fr P B N w0 Z h l i v:=by
 obtain ⟨d,hl,e,f,g⟩:=jC ho;exact ⟨o,d,hl,e,f,g,hs,λa w b j=>c a b w j⟩
def K4:BinOp->Bool|.quo=>true|_=>false
def K5:BinOp->Bool|.rem=>true|_=>false
def K6:BinOp->Bool|.shl=>true|_=>false
def K7:BinOp->Bool|.shr=>true|_=>false
theorem K8(h:K4 V=true):V=.quo:=by cases V<;>first|rfl|cases h
theorem K9(h:K5 V=true):V=.rem:=by cases V<;>first|rfl|cases h
theorem La(h:K6 V=true):V=.shl:=by cases V<;>first|rfl|cases h
theorem Lb(h:K7 V=true):V=.shr:=by cases V<;>first|rfl|cases h
def biC(sel:BinOp->Bool)(l:List Oper)(N:Nat)(fr:Fr)(i:Nat):Option (IntKind×Int×IntKind×Int):=match okO l N fr i with
 |some ⟨_,.binOp op _ x y _,_,_,_,_⟩=>match sel op,look fr x,look fr y with
  |true,some (.int k a),some (.int c b)=>some (k,a,c,b)
  |_,_,_=>none
 |_=>none
theorem tI(h:biC W l N fr i=some Y):∃d op t x y a ty pos b g,okO l N fr i=some ⟨d,.binOp op t x y a,ty,pos,b,g⟩/\W op=true/\look fr x=some (.int Y.1 Y.2.1)/\look fr y=some (.int Y.2.2.1 Y.2.2.2):=by
 grind [biC]
def biV(p:Option (IntKind×Int×IntKind×Int))(g:IntKind->Int->Int->Int):Value:=match p with
 |some (k,a,_,b)=>.int k (g k a b)
 |none=>undef
theorem LkV.qu(f:nth Fs q=some (.oe (nz X) a0))(b:KR ((biC K4 l N fr i).map λp=>(p.2.2.2,decide (p.1=p.2.2.1))) (some (X,true))):LkV Fs fr P B N w0 Z (.qu q) l i (biV (biC K4 l N fr i) λk a X=>k.wrap (a.tdiv X)):=by
 have b:=b.h;cases c:biC K4 l N fr i with
 |none=>rw [c] at b;cases b
 |some p=>
  obtain ⟨k,a,v,j⟩:=p;rw [c] at b;simp only [t6,i6,o7,zdq] at b;obtain ⟨rfl,rfl⟩:=b;obtain ⟨d,op,t,x,y,z,ty,pos,A,g,ho,hs,m,n⟩:=tI c;have:=K8 hs;subst this;refine LkV.of ho rfl λo r w e=> ?_
  have u:j≠0:=Ry (zD o f);have s:=e.look m;have e2:=e.look n;simp only at s e2;simp [execOp,eqGuard,binOp,s,e2,Op.intDiv,u,biV]
theorem LkV.re(f:nth Fs q=some (.oe (nz X) a0))(b:KR ((biC K5 l N fr i).map λp=>(p.2.2.2,decide (p.1=p.2.2.1))) (some (X,true))):LkV Fs fr P B N w0 Z (.re q) l i (biV (biC K5 l N fr i) λk a X=>a.tmod X):=by
 have b:=b.h;cases c:biC K5 l N fr i with
 |none=>rw [c] at b;cases b
 |some p=>
  obtain ⟨k,a,v,j⟩:=p;rw [c] at b;simp only [t6,i6,o7,zdq] at b;obtain ⟨rfl,rfl⟩:=b;obtain ⟨d,op,t,x,y,z,ty,pos,A,g,ho,hs,m,n⟩:=tI c;have:=K9 hs;subst this;refine LkV.of ho rfl λo r w e=> ?_
  have u:j≠0:=Ry (zD o f);have s:=e.look m;have e2:=e.look n;simp only at s e2;simp [execOp,eqGuard,binOp,s,e2,Op.intDiv,u,biV]
theorem LkV.hl(e:nth Fs q=some (.oe (nn X) a0))(b:KR ((biC K6 l N fr i).map λp=>p.2.2.2) (some X)):LkV Fs fr P B N w0 Z (.hl q) l i (biV (biC K6 l N fr i) λk a X=>Ah k a X):=by
 have b:=b.h;cases c:biC K6 l N fr i with
 |none=>rw [c] at b;cases b
 |some p=>
  obtain ⟨k,a,o,s⟩:=p;rw [c] at b;simp only [t6,i6] at b;subst b;obtain ⟨d,op,t,x,y,u,ty,pos,v,g,ho,hs,f,j⟩:=tI c;have:=La hs;subst this;exact LkV.of ho rfl λm r w n=>PG rfl f j (RA (zD m e)) r w n
theorem LkV.hr(e:nth Fs q=some (.oe (nn X) a0))(b:KR ((biC K7 l N fr i).map λp=>p.2.2.2) (some X)):LkV Fs fr P B N w0 Z (.hr q) l i (biV (biC K7 l N fr i) λk a X=>kr k a X):=by
 have b:=b.h;cases c:biC K7 l N fr i with
 |none=>rw [c] at b;cases b
 |some p=>
  obtain ⟨k,a,o,s⟩:=p;rw [c] at b;simp only [t6,i6] at b;subst b;obtain ⟨d,op,t,x,y,u,ty,pos,v,g,ho,hs,f,j⟩:=tI c;have:=Lb hs;subst this;exact LkV.of ho rfl λm r w n=>PH rfl f j (RA (zD m e)) r w n
def siC(P:Program)(l:List Oper)(N:Nat)(fr:Fr)(i:Nat):Option (ByteArray×Int):=match okO l N fr i with
 |some ⟨_,.index t x y,_,_,_,_⟩=>match P.underlying t,look fr x,look fr y with
  |some .string,some (.string s),some (.int _ q)=>some (s,q)
  |_,_,_=>none
 |_=>none
theorem LkV.si(b:nth Fs q=some (.oe (wo a1 X) t))(a:KR (siC P l N fr i) (some (a1,X))):LkV Fs fr P B N w0 Z (.si q) l i (.int .u8 t):=by
 have a:=a.h;unfold siC at a;split at a
 ·rename_i ho
  split at a
  ·rename_i c d e
   cases a
   exact LkV.of ho rfl λf r w g=>MD rfl d e c (zD f b) r w g
  ·cases a
 ·cases a
def Lc:BinOp->Bool|.eql=>true|_=>false
theorem Ld(h:Lc V=true):V=.eql:=by cases V<;>first|rfl|cases h
def seC(sel:BinOp->Bool)(P:Program)(l:List Oper)(N:Nat)(fr:Fr)(i:Nat):Option Bool:=match okO l N fr i with
 |some ⟨_,.binOp op t x y _,_,_,_,_⟩=>match sel op,look fr x,look fr y,P.eqGuardType P.depth t with
  |true,some (.agg xs),some (.agg ys),false=>Km P 9 t (.agg xs) (.agg ys)
  |_,_,_,_=>none
 |_=>none
theorem LkV.sq(c:KR (seC Lc P l N fr i).isSome true):LkV Fs fr P B N w0 Z .sq l i (.bool ((seC Lc P l N fr i).getD false)):=by
 have c:=c.h;cases b:seC Lc P l N fr i with
 |none=>rw [b] at c;cases c
 |some r=>
  unfold seC at b;split at b
  ·rename_i ho
   split at b
   ·rename_i d e f g
    have:=Ld d;subst this;exact LkV.of ho rfl λk a w j=>PE rfl e f g b a w j
   ·cases b
  ·cases b
def adC(l:List Oper)(N:Nat)(fr:Fr)(i:Nat):Option (FuncId×Int×Int×Int):=match okO l N fr i with
 |some ⟨_,.call ⟨.value (.func f),⟨[x,y,z]⟩,⟨_⟩⟩,_,_,_,_⟩=>match look fr x,look fr y,look fr z with
  |some (.int .u64 p),some (.int .u64 q),some (.int .u64 c)=>some (f,p,q,c)
  |_,_,_=>none
 |_=>none
def adF(P:Program)(p:Option (FuncId×Int×Int×Int)):Option Func:=match p with
 |some (f,_)=>P.funcs[f]?
 |none=>none
theorem LkV.ad (n:nth Fs q=some (.oe (GN X t p3) a3)) (g:KR ((adC l N fr i).map (·.2)) (some (X,t,p3))) (d:KR ((adF P (adC l N fr i)).map fun fn=>(fn.name== "runtime.NumGoroutine",fn.body.isNone)) (some (false,true)))
  (j:KR ((adF P (adC l N fr i)).bind λfn=>some (Extern.findNext fn)) (some none)) (k:KR ((adF P (adC l N fr i)).bind λfn=>Extern.find fn) (some add64Entry)):LkV Fs fr P B N w0 Z (.ad q) l i (.tuple [.int .u64 a3.1,.int .u64 a3.2].toArray):=by
 have g:=g.h;have d:=d.h;have j:=j.h;have k:=k.h;cases e:adC l N fr i with
 |none=>rw [e] at g;cases g
 |some p=>
  obtain ⟨f,a,b,c⟩:=p;rw [e] at g d j k;simp only [t6,i6,o7] at g;obtain ⟨rfl,rfl,rfl⟩:=g;simp only [adF] at d j k;cases m:P.funcs[f]? with
  |none=>rw [m] at d;cases d
  |some fn=>
   rw [m] at d j k;simp only [t6,i6,o7] at d;simp only [zbs,i6] at j k;unfold adC at e;split at e
   ·rename_i ho
    split at e
    ·rename_i o s x
     cases e
     exact LkV.of ho rfl λy r w z=>Iw (u:=a3.1) (v:=a3.2) rfl o s x m d.1 d.2 j k (zD y n) r w z
    ·cases e
   ·cases e
def cpC(P:Program)(l:List Oper)(N:Nat)(fr:Fr)(i:Nat):Option (Value×Option Int×Option Int×Nat):=match okO l N fr i with
 |some ⟨_,.slice t x a X none,_,_,_,_⟩=>match P.underlying t,look fr x with
  |some (.slice e),some v=>match ax P (sizeOf e) with
   |some M=>match a,X with
    |none,some y=>match look fr y with
     |some (.int _ q)=>some (v,none,some q,M)
     |_=>none
    |some y,none=>match look fr y with
     |some (.int _ q)=>some (v,some q,none,M)
     |_=>none
    |some y,some z=>match look fr y,look fr z with
     |some (.int _ q),some (.int _ r)=>some (v,some q,some r,M)
     |_,_=>none
    |none,none=>none
   |none=>none
  |_,_=>none
 |_=>none
theorem LkV.cp{α:Type}{enc:α->List Value}{xs ys:List α}(f:nth Fs e=some (.rd (.slice a n c) enc M xs))(g:nth Fs q=some (.oe (cut xs 0 X) ys))(b:KR (cpC P l N fr i) (some (.slice a n c,none,some X,M))):
  LkV Fs fr P B N w0 Z (.cp e q) l i (.slice a ys.length c):=by
 have b:=b.h;unfold cpC at b;split at b
 ·rename_i ho
  split at b
  ·rename_i j k
   split at b
   ·rename_i m
    split at b
    ·split at b
     ·rename_i o
      cases b
      exact LkV.of ho rfl λd r w p=>sD M rfl k o (zD d g) (Rd.cap (zD d f)) j m r w p
     ·cases b
    ·grind
    ·grind
    ·cases b
   ·cases b
  ·cases b
 ·cases b
theorem LkV.cu{α:Type}{enc:α->List Value}{xs ys:List α}(f:nth Fs e=some (.rd (.slice a n c) enc M xs))(g:nth Fs q=some (.oe (cut xs t X) ys))(b:KR (cpC P l N fr i) (some (.slice a n c,some t,some X,M))):
  LkV Fs fr P B N w0 Z (.cu e q) l i (.slice (shd a c t.toNat M) ys.length (c-t.toNat)):=by
 have b:=b.h;unfold cpC at b;split at b
 ·rename_i ho
  split at b
  ·rename_i j k
   split at b
   ·rename_i m
    split at b
    ·grind
    ·grind
    ·split at b
     ·rename_i o p
      cases b
      exact LkV.of ho rfl λd r w s=>E5 M rfl k o p (zD d g) (Rd.cap (zD d f)) j m r w s
     ·cases b
    ·cases b
   ·cases b
  ·cases b
 ·cases b
theorem LkV.cf{α:Type}{enc:α->List Value}{xs ys:List α}(s:nth Fs e=some (.rd (.slice a n c) enc M xs))(d:nth Fs q=some (.oe (cut xs X ((xs.length:Nat):Int)) ys))(f:KR n xs.length)(b:KR (cpC P l N fr i) (some (.slice a n c,some X,none,M))):
  LkV Fs fr P B N w0 Z (.cf e q) l i (.slice (shd a c X.toNat M) ys.length (c-X.toNat)):=by
 have b:=b.h;unfold cpC at b;split at b
 ·rename_i ho
  split at b
  ·rename_i g j
   split at b
   ·rename_i k
    split at b
    ·grind
    ·split at b
     ·rename_i m
      cases b
      exact LkV.of ho rfl λo r w p=>gy M rfl j f.h m (zD o d) g k r w p
     ·cases b
    ·grind
    ·cases b
   ·cases b
  ·cases b
 ·cases b
theorem Adm.fp{α:Type}{enc:α->List Value}{xs ys:List α}(h:nth Fs e=some (.rd (.slice a n c) enc M xs))(d:nth Fs q=some (.oe (cut xs 0 X) ys))(f:vl Fs (.rd (.slice a ys.length c) enc M ys)=some Fs1):
 Adm (.fp e q) Fs L (λ_:Unit=>L) (λ_=>Fs1):=⟨λw0 Z w b s=>⟨(),s,jw (F:=.rd (.slice a ys.length c) enc M ys) b (Rd.pre (zD b h) (zD b d)) f⟩⟩
theorem Adm.fu{α:Type}{enc:α->List Value}{xs ys:List α}(h:nth Fs e=some (.rd (.slice a n c) enc M xs))(d:nth Fs q=some (.oe (cut xs t X) ys))(f:vl Fs (.rd (.slice (shd a c t.toNat M) ys.length (c-t.toNat)) enc M ys)=some Fs1):
 Adm (.fu e q) Fs L (λ_:Unit=>L) (λ_=>Fs1):=⟨λw0 Z w b s=>⟨(),s,jw (F:=.rd (.slice (shd a c t.toNat M) ys.length (c-t.toNat)) enc M ys) b (Rd.part (zD b h) (zD b d)) f⟩⟩
open Go.RowKit
def aiC(P:Program)(l:List Oper)(N:Nat)(fr:Fr)(i:Nat):Option (Addr×Int×Nat×Nat):=match okO l N fr i with
 |some ⟨_,.indexAddr t x y,_,_,_,_⟩=>match P.underlying t,look fr x,look fr y with
  |some (.array n e),some (.pointer (some a)),some (.int _ q)=>match ax P (sizeOf e) with
   |some M=>some (a,q,n,M)
   |none=>none
  |_,_,_=>none
 |_=>none
def aiV(p:Option (Addr×Int×Nat×Nat)):Value:=match p with
 |some (⟨b,k,none⟩,q,_,M)=>.pointer (some ⟨b,k+q.toNat*M,none⟩)
 |_=>undef
def aiN(p:Option (Addr×Int×Nat×Nat)):Option (Int×Nat):=match p with
 |some (⟨_,_,none⟩,q,n,_)=>some (q,n)
 |_=>none
def inB(p:Option (Int×Nat)):Bool:=match p with
 |some (q,n)=>decide (0<=q/\q<(n:Int))
 |none=>false
theorem Le(h:aiC P l N fr i=some (O,X,n,M)):∃d t x y ty pos a g e kd,okO l N fr i=some ⟨d,.indexAddr t x y,ty,pos,a,g⟩/\P.underlying t=some (.array n e)/\look fr x=some (.pointer (some O))/\look fr y=some (.int kd X)/\ax P (sizeOf e)=some M:=by
 grind [aiC]
theorem LkV.aiG(f:bO w0 Z Fs->inB (aiN (aiC P l N fr i))=true)(j:∃p,aiN (aiC P l N fr i)=some p):LkV Fs fr P B N w0 Z h l i (aiV (aiC P l N fr i)):=by
 obtain ⟨p,a⟩:=j;cases c:aiC P l N fr i with
 |none=>rw [c] at a;cases a
 |some w=>
  obtain ⟨⟨b,k,s⟩,q,n,M⟩:=w;rw [c] at f a;cases s with
  |some _=>cases a
  |none=>
   obtain ⟨d,t,x,y,ty,pos,z,g,e,kd,ho,m,o,r,u⟩:=Le c;refine LkV.of ho rfl λv=> ?_
   have X:=f v;simp only [aiN,inB,zdq] at X;exact ME _ _ rfl o r X.1 X.2 m u
theorem LkV.al(a:KR (inB (aiN (aiC P l N fr i))) true):LkV Fs fr P B N w0 Z .al l i (aiV (aiC P l N fr i)):=LkV.aiG (λ_=>a.h) (by
 have:=a.h;cases e:aiN (aiC P l N fr i) with
 |none=>rw [e] at this;cases this
 |some p=>exact ⟨p,rfl⟩)
theorem LkV.af(b:nth Fs q=some (.oe (ain n X) M))(a:KR (aiN (aiC P l N fr i)) (some (X,n))):LkV Fs fr P B N w0 Z (.af q) l i (aiV (aiC P l N fr i)):=LkV.aiG (λc=>by
 rw [a.h];obtain ⟨d,e,_⟩:=tx (zD c b);simp [inB,d,e]) ⟨_,a.h⟩
theorem LkV.at{α:Type}{xs:List α}{x:α}(b:nth Fs q=some (.el v' M n X xs x))(a:KR (aiN (aiC P l N fr i)) (some (X,xs.length))):LkV Fs fr P B N w0 Z (.at q) l i (aiV (aiC P l N fr i)):=LkV.aiG (λc=>by
 rw [a.h];obtain ⟨d,_⟩:=zD c b
 grind [zX,inB]) ⟨_,a.h⟩
theorem Sc(h:Rd w Z (.slice (some ⟨i,N,none⟩) m c) enc M xs)(a:idx xs X=some x):(Fa.el (.slice (some ⟨i,N,none⟩) m c) i N X xs x).ok w Z:=by
 refine ⟨a,c,?_⟩
 grind [Rd.len]
theorem GO.bt{α:Type}{enc:α->List Value}{xs:List α}{k:α->Option ρ}{Fs1:α->List Fa}(h:nth Fs e=some (.rd (.slice (some ⟨j,d,none⟩) m c) enc M xs))(b:∀x,vl Fs (.el (.slice (some ⟨j,d,none⟩) m c) j d X xs x)=some (Fs1 x))
  (n:∀x,GO hs (k x) r (Fs1 x) L fr P B N w0 Z l i Q):GO (.bt e::hs) ((idx xs X).bind k) r Fs L fr P B N w0 Z l i Q:=⟨λw a s q=>by
 obtain ⟨x,f,g⟩:=zI q;exact (n x).o w (jw (F:=.el (.slice (some ⟨j,d,none⟩) m c) j d X xs x) a (Sc (zD a h) f) (b x)) s g⟩
def nzC(P:Program)(l:List Oper)(N:Nat)(fr:Fr)(i:Nat):Option (Option Addr):=match okO l N fr i with
 |some ⟨_,.binOp .eql t x y _,_,_,_,_⟩=>match P.underlying t,look fr x,look fr y with
  |some (.slice _),some (.slice a _ _),some (.slice none 0 0)=>some a
  |_,_,_=>none
 |_=>none
def nzV(p:Option (Option Addr)):Value:=match p with
 |some a=>.bool a.isNone
 |none=>undef
theorem LkV.nz(c:KR (nzC P l N fr i).isSome true):LkV Fs fr P B N w0 Z .nz l i (nzV (nzC P l N fr i)):=by
 have c:=c.h;cases b:nzC P l N fr i with
 |none=>rw [b] at c;cases c
 |some a=>
  unfold nzC at b;split at b
  ·rename_i ho
   split at b
   ·rename_i d e f
    cases b
    exact LkV.of ho rfl λg=>Bv rfl e f d
   ·cases b
  ·cases b
theorem GC.nb(j:nth Fs e=some (.rd (.slice a m c) enc M xs))(b:f=φ xs)(k:KR (Nat.blt 0 M) true)(l:∀a4,KR (enc a4).length M)
  (i:KR (look fr I) (some (.bool a.isNone))) (n:GC hs1 (φ []) r Fs L fr P B N w0 Z a4 Q) (p:GC hs2 f r Fs L fr P B N w0 Z y Q):GC (.nb e hs1 hs2::hs) f r Fs L fr P B N w0 Z (.cond I a4 y) Q:=⟨λw d s g=>by
 rcases zft a.isNone with h|h
 ·have q:xs=[]:=Rd.isnil (zD d j) (λa4=>by
   have t:=(l a4).h;have u:0<M:=by have:=k.h;simpa [x6] using this
   grind) h
  rw [b,q] at g;exact p6 i.h h (n.o w d s g)
 ·exact p8 i.h h (p.o w d s g)⟩
def asC(P:Program)(l:List Oper)(N:Nat)(fr:Fr)(i:Nat):Option (Nat×Nat×Nat×Option Int×Option Int×Nat):=match okO l N fr i with
 |some ⟨_,.slice t x a X none,_,_,_,_⟩=>match P.underlying t,look fr x with
  |some (.array n e),some (.pointer (some ⟨b,k,none⟩))=>match ax P (sizeOf e) with
   |some M=>match a,X with
    |none,none=>some (b,k,n,none,none,M)
    |none,some y=>match look fr y with
     |some (.int _ q)=>some (b,k,n,none,some q,M)
     |_=>none
    |some y,some z=>match look fr y,look fr z with
     |some (.int _ q),some (.int _ r)=>some (b,k,n,some q,some r,M)
     |_,_=>none
    |some _,none=>none
   |none=>none
  |_,_=>none
 |_=>none
def asB(p:Option (Nat×Nat×Nat×Option Int×Option Int×Nat)):Option (Nat×Option Int×Option Int):=p.map λq=>(q.2.2.1,q.2.2.2.1,q.2.2.2.2.1)
def asV(p:Option (Nat×Nat×Nat×Option Int×Option Int×Nat))(m:Nat):Value:=match p with
 |some (b,k,n,none,none,_)=>.slice (some ⟨b,k,none⟩) n n
 |some (b,k,n,none,some _,_)=>.slice (some ⟨b,k,none⟩) m n
 |some (b,k,n,some l,some _,M)=>.slice (shd (some ⟨b,k,none⟩) n l.toNat M) m (n-l.toNat)
 |_=>undef
theorem LkV.sG(a:asC P l N fr i=some a5)
  (g:bO w0 Z Fs->a5.2.2.2.2.1≠none->∃(α:Type)(xs ys:List α),xs.length=a5.2.2.1/\cut xs (a5.2.2.2.1.getD 0) (a5.2.2.2.2.1.getD 0)=some ys/\ys.length=m):LkV Fs fr P B N w0 Z h l i (asV (some a5) m):=by
 unfold asC at a;split at a
 ·rename_i ho
  split at a
  ·rename_i c d
   split at a
   ·rename_i e
    split at a
    ·cases a
     exact LkV.of ho rfl λb=>N0 _ rfl d c e
    ·split at a
     ·rename_i f
      cases a
      refine LkV.of ho rfl λb=> ?_
      obtain ⟨α,xs,ys,s,e2,rfl⟩:=g b (by simp);exact N2 _ rfl d f s e2 c e
     ·cases a
    ·split at a
     ·rename_i f j
      cases a
      refine LkV.of ho rfl λb=> ?_
      obtain ⟨α,xs,ys,s,e2,rfl⟩:=g b (by simp);exact N1 _ rfl d f j s e2 c e
     ·cases a
    ·cases a
   ·cases a
  ·cases a
 ·cases a
theorem FG(h:asB a6=some a7):∃q,a6=some q/\q.2.2.1=a7.1/\q.2.2.2.1=a7.2.1/\q.2.2.2.2.1=a7.2.2:=by
 cases a6 with
 |none=>cases h
 |some q=>cases h;exact ⟨q,rfl,rfl,rfl,rfl⟩
theorem LkV.sA(b:KR ((asB (asC P l N fr i)).map (·.2)) (some (none,none))):LkV Fs fr P B N w0 Z .sA l i (asV (asC P l N fr i) 0):=by
 have b:=b.h;cases c:asB (asC P l N fr i) with
 |none=>rw [c] at b;cases b
 |some a=>
  grind [FG,LkV.sG]
theorem LkV.sU{α:Type}{xs ys:List α}(a:nth Fs q=some (.oe (cut xs t X) ys))(b:KR (asB (asC P l N fr i)) (some (xs.length,some t,some X))):LkV Fs fr P B N w0 Z (.sU q) l i (asV (asC P l N fr i) ys.length):=by
 obtain ⟨p,s,e2,e3,e4⟩:=FG b.h;rw [s];exact LkV.sG s λc _=>⟨α,xs,ys,e2.symm,by rw [e3,e4];exact zD c a,rfl⟩
theorem Giv.ru{α:Type}{enc:α->List Value}{a:Nat->α}{ys:List α}(d:nth Fs q=some (.oe (cut (Iv n a) t X) ys))(e:nth L j=some (jL N T F))(b:KR F (F.take p++(fa enc n a++F.drop (p+n*M))))(f:KR (Nat.ble p F.length) true)
  (i:∀x,KR (enc x).length M) (k:KR (Nat.ble n 9223372036854775807) true) (l:KR (mem? j js) false) (m:Giv src Fs L js Fs1):Giv (.ru j p q::src) Fs L js (.rd (.slice (shd (some ⟨N,p,none⟩) n t.toNat M) ys.length (n-t.toNat)) enc M ys::Fs1):=
 ⟨λw0 Z w c s=>⟨Rd.part (s.arrRd j (by rw [<- zQ];exact e) enc (λx=>(i x).h) n a p b.h f.h k.h js l.h) (zD c d),m.g w0 Z w c s⟩⟩
structure CF (Fs:List Fa) (L:List Item) (w0:World) (Z:List Nat) (c:Cs) (b o:Nat) (cs:List Value):Prop where
 o:∀w,bO w0 Z Fs->St w0 Z w L->∀k u,cs[k]? =some u->w.cell? ⟨b,o+k,none⟩=some u
theorem CF.o1(h:nth L j=some (jL N T F)):CF Fs L w0 Z (.o j) N 0 F:=⟨λw _ s k u a=>by
 rw [ya];exact s.blk j (by rw [<- zQ];exact h) a⟩
theorem CF.p1(h:nth L j=some (dv N T A F C)):CF Fs L w0 Z (.p j) N A.length F:=⟨λw _ s k u a=>s.prt j (by rw [<- zQ];exact h) k a⟩
theorem CF.r1(b:nth L j=some (qb v' T enc M ys))(e:nth Fs q=some (.el v' i N X xs x))(d:KR ys xs)(f:∀x,KR (enc x).length M):CF Fs L w0 Z (.r j q) i (N+X.toNat*M) (enc x):=
 ⟨λw a s k u g=>by
  have b:=b;rw [d.h] at b;obtain ⟨l,c,m⟩:=zD a e;exact s.rowc j (by rw [<- zQ];exact b) (λx=>(f x).h) l m k u g⟩
theorem CF.b1(h:nth Fs e=some (.pb N F)):CF Fs L w0 Z (.b e) N 0 F:=⟨λw a s k u c=>by
 rw [ya];exact RdB.cell (zD a h) s k c⟩
structure Lg (A B:List Value):Prop where
 e:A=B
theorem Lg.nil:Lg [] []:=⟨rfl⟩
theorem Lg.u(n:Lg A F):Lg (v::A) (v::F):=⟨by rw [n.e]⟩
theorem Giv.bj(a:nth L j=some (jL N T F))(b:Lg F k)(c:KR (mem? j js) false)(m:Giv src Fs L js Fs1):Giv (.bj j::src) Fs L js (.pb N k::Fs1):=
 ⟨λw0 Z w d s=>⟨by
  rw [<- b.e];exact s.rdB j (by rw [<- zQ];exact a) js c.h,m.g w0 Z w d s⟩⟩
theorem Giv.bq(b:nth Fs e=some (.pb N (v::F)))(c:Lg (v::F) (v'::A))(m:Giv src Fs L js Fs1):Giv (.bq e::src) Fs L js (.pb N (v'::A)::Fs1):=
 ⟨λw0 Z w a s=>⟨by
  have h:RdB w0 Z N (v::F):=zD a b;have:=h.give s js;rw [c.e] at this;exact this,m.g w0 Z w a s⟩⟩
theorem Cel.cc(h:CF Fs L w0 Z a8 N i F)(b:nth F M=some v):Cel Fs L w0 Z (.cc a8 M) ⟨N,i+M,none⟩ v:=⟨λw a s=>h.o w a s M v (by grind [zQ])⟩
theorem sM.cN(h:CF Fs L w0 Z a8 N i A)(b:Iz A M n=some F):sM Fs L w0 Z (.cN a8 M n) N (i+M) F:=⟨λw a s j u c=>by
 rw [y9];exact h.o w a s (M+j) u ((gI b).2 j u c)⟩
theorem CF.arr(c:CF Fs L w0 Z a8 i N F)(d:nth Fs e=some (.oe (ain n X) q))
  (a:KR F (F.take p++(fa enc n z++F.drop (p+n*M)))) (g:KR (Nat.ble p F.length) true) (j:∀q,KR (enc q).length M):CF Fs L w0 Z a8 i (N+p+X.toNat*M) (enc (z q)):=
 ⟨λw b s k u l=>FD (λf u m=>c.o w b s f u m) enc (λq=>(j q).h) n z p a.h g.h (zD b d) k u l⟩
theorem Cel.ca{α:Type}{enc:α->List Value}{a:Nat->α}{u:Value}(b:CF Fs L w0 Z a8 N i F)(c:nth Fs e=some (.oe (ain n X) q))(j:nth F p=some u)(k:nth (enc (a 0)) 0=some u)
  (h:KR F (F.take p++(fa enc n a++F.drop (p+n*M)))) (d:KR (Nat.ble p F.length) true) (f:∀q,KR (enc q).length M) (l:nth (enc (a q)) ff=some v):Cel Fs L w0 Z (.ca a8 e p ff M enc) ⟨N,i+p+X.toNat*M+ff,none⟩ v:=
 ⟨λw g s=>(CF.arr b c h d f).o w g s ff v (by grind [zQ])⟩
theorem sM.cA{α:Type}{enc:α->List Value}{a:Nat->α}{u:Value}(b:CF Fs L w0 Z a8 N i A)(c:nth Fs e=some (.oe (ain n X) q))(r:nth A p=some u)(t:nth (enc (a 0)) 0=some u)
  (h:KR A (A.take p++(fa enc n a++A.drop (p+n*M)))) (d:KR (Nat.ble p A.length) true) (f:∀q,KR (enc q).length M) (g:Iz (enc (a q)) ff m=some F):sM Fs L w0 Z (.cA a8 e p ff m M enc) N (i+p+X.toNat*M+ff) F:=
 ⟨λw k s j u l=>by
  rw [y9];exact (CF.arr b c h d f).o w k s (ff+j) u ((gI g).2 j u l)⟩
def Qo{α:Type}(enc:α->List Value):Nat->(Nat->α)->List Value->Option (List Value)
 |0,_,C=>some C
 |n+1,a,C=>match Qo enc n (λi=>a (i+1)) C with
  |some q=>mB (enc (a 0)) q
  |none=>none
theorem DZ{α:Type}{enc:α->List Value}:∀{n:Nat} {a:Nat->α} {C q:List Value},Qo enc n a C=some q->q=fa enc n a++C
 |0,_,_,_,h=>by cases h;rfl
 |n+1,a,C,q,h=>by
  unfold Qo at h;split at h
  ·rename_i e
   rw [bY h,DZ e,fa,u6]
  ·cases h
def IE{α:Type}:List α->Nat->Option (List α)
 |l,0=>some l
 |[],_+1=>none
 |_::r,n+1=>IE r n
theorem Aq{α:Type}:∀{l q:List α} {n:Nat},IE l n=some q->q=l.drop n
 |l,q,0,h=>by cases l<;>(cases h;rfl)
 |[],_,_+1,h=>by cases h
 |_::r,q,n+1,h=>by rw [List.drop_succ_cons];exact Aq h
theorem Ar{α:Type}:∀{l q:List α} {n:Nat},wz l n=some q->q=l.take n
 |l,q,0,h=>by cases l<;>(cases h;rfl)
 |[],_,_+1,h=>by cases h
 |x::r,q,n+1,h=>by
  unfold wz at h;split at h
  ·rename_i e;cases h;rw [List.take_succ_cons,Ar e]
  ·cases h
theorem lS(h:stC P l fr i m=some ⟨M,N,none⟩)(c:gA (stV l fr i)=some F)(f:F.length=m):
  ∃t x y ty pos a g u,vg l i=some ⟨none,.store t x y,ty,pos,a,g⟩/\gd l fr ⟨none,.store t x y,ty,pos,a,g⟩=some true/\look fr x=some (.pointer (some ⟨M,N,none⟩))/\look fr y=some u/\u.cells.toList=F/\ax P (sizeOf t)=some u.cells.toList.length:=by
 obtain ⟨u,b,d⟩:=mH c;unfold stC at h;unfold stV at b;split at h
 ·rename_i t j k ty pos a g hl
  rw [hl] at b;simp only at b;split at h
  ·rename_i n o p q r
   split at h
   ·rename_i e
    have s:=w7 e
    grind
   ·cases h
  ·cases h
 ·cases h
theorem GO.sa{ρ:Type}{hs:List H}{f:Option ρ}{r:ρ}{Fs:List Fa}{L:List Item}{fr:Fr}{P:Program}{B:Func}{N:Nat}{w0:World}{Z:List Nat}{l:List Oper}{i:Nat}{Q:Exit->Act->World->Prop}{α:Type}{j e p ff m n M b x:Nat}{enc:α->List Value}{dec:List Value->α}{T:TypeId}{d F c A C q k:List Value}{a:Nat->α}{t:Int}{u:Value}{L1:List Item}(J:nth L j=some (jL b T d))(K:nth Fs e=some (.oe (ain n t) x))
  (hu:nth d p=some u) (ha:nth (enc (a 0)) 0=some u) (z:KR d (d.take p++(fa enc n a++d.drop (p+n*M)))) (O:KR (Nat.ble p d.length) true) (G:∀x,KR (enc x).length M)
  (hv:Ao (stV l fr i) 0 m=some F) (R:KR (gA (stV l fr i)) (some F)) (D:fj (enc (a x)) F ff=some c) (S:KR (enc (dec c)) c) (U:KR (stC P l fr i m) (some ⟨b,p+t.toNat*M+ff,none⟩))
  (V:KR F.length m) (W:KR (eU F) true) (X:KR (GR F) true) (hA:wz d p=some A) (hC:IE d (p+n*M)=some C) (hN:Qo enc n (aset a x (dec c)) C=some q) (hQ:mB A q=some k)
  (hL:dx L j (jL b T k)=some L1) (n:GO hs f r Fs L1 fr P B N w0 Z l (i+1) Q):GO (.sa j e p ff m M enc dec::hs) f r Fs L fr P B N w0 Z l i Q:=⟨λw I s e=>by
 obtain ⟨t,x',y',ty,pos,af,g,v,hl,Y,hx,hy,y,E⟩:=lS U.h R.h V.h;obtain ⟨e3,e4⟩:=bH D (by intro e5;have:=X.h;rw [e5] at this;cases this);rw [<- y] at e3 e4
 refine OW.stA s j (by rw [<- zQ];exact J) hl Y hx hy E (by rw [y];exact W.h) enc (λx=>(G x).h) _ a p z.h O.h (zD I K) ff rfl (x7 (by rw [<- (G (a _)).h];exact e4)) (dec c) (by rw [e3,S.h]) k
  (by grind [bY,DZ,Ar,Aq]) λw' s'=> ?_
 exact n.o w' I (by grind [qJ]) e⟩
theorem GO.sra
  (K:nth L j=some (qb v' T b sze xs')) (O:nth Fs q=some (.el v' d it t a9 z)) (a:KR xs' a9) (X:nth Fs e=some (.oe (ain c p3) p)) (I:∀y,KR (b y) (fa enc c y)) (k:∀y,KR (b y).length sze) (u:∀p,KR (enc p).length M)
  (hv:Ao (stV l fr i) 0 m=some F) (R:KR (gA (stV l fr i)) (some F)) (x:fj (enc (z p)) F ff=some A) (S:KR (enc (dec A)) A) (U:KR (stC P l fr i m) (some ⟨d,it+t.toNat*sze+0+p3.toNat*M+ff,none⟩))
  (V:KR F.length m) (W:KR (eU F) true) (Y:KR (GR F) true) (hL:dx L j (qb v' T b sze (xs'.set t.toNat (aset z p (dec A))))=some L1)
  (n:GO hs f r Fs L1 fr P B N w0 Z l (i+1) Q):GO (.sra j q e ff m M enc dec::hs) f r Fs L fr P B N w0 Z l i Q:=⟨λw C s hf=>by
 obtain ⟨t',x',y',ty,pos,af,g',v,hl,hg,hx,hy,g,D⟩:=lS U.h R.h V.h;obtain ⟨e3,e4⟩:=bH x (by intro e5;have:=Y.h;rw [e5] at this;cases this);rw [<- g] at e3 e4;have a:=a.h;subst a;obtain ⟨E,cp,G⟩:=zD C O
 have J:∀y:Nat->α,b y=(b z).take 0++(fa enc c y++(b z).drop (0+c*M)):=λy=>by
  have h5:(b z).drop (0+c*M)=[]:=yr (by rw [(I z).h,Am (λp=>(u p).h)];omega);rw [h5,(I y).h];simp
 refine OW.stRA s j (by rw [<- zQ];exact K) G (λp=>(k p).h) hl hg E hx hy D (by rw [g];exact W.h) enc (λp=>(u p).h) c z 0 (J z) (by cases h9:b z<;>rfl) (zD C X) ff rfl (x7 (by rw [<- (u (z p)).h];exact e4)) (dec A) (by rw [e3,S.h]) (aset z p (dec A)) (J (aset z p (dec A))) λw' s'=> ?_
 exact n.o w' C (by grind [qJ]) hf⟩
theorem GT(h:A.length=F.length):qG A F 0=F:=by
 grind [qG]
theorem GO.srw{u:Value}
  (G:nth L j=some (qb v' T b sze xs')) (I:nth Fs q=some (.el v' e c t a9 z)) (a:KR xs' a9) (d:∀y,KR (b y).length sze)
  (X:Ao (stV l fr i) 0 m=some F) (Y:nth F 0=some u) (ha:nth (enc (b0 0)) 0=some u) (k:KR (b b0) F) (J:KR (gA (stV l fr i)) (some F)) (K:KR (stC P l fr i m) (some ⟨e,c+t.toNat*sze+0,none⟩))
  (O:KR F.length m) (R:KR (eU F) true) (hL:dx L j (qb v' T b sze (xs'.set t.toNat b0))=some L1)
  (n:GO hs f r Fs L1 fr P B N w0 Z l (i+1) Q):GO (.srw j q m M enc::hs) f r Fs L fr P B N w0 Z l i Q:=⟨λw E s S=>by
 obtain ⟨t',x',y',ty,pos,af,g',v,hl,U,V,W,g,p⟩:=lS K.h J.h O.h;have a:=a.h;subst a;obtain ⟨A,cp,C⟩:=zD E I;have D:F.length=sze:=by rw [<- k.h];exact (d b0).h
 refine OW.stR s j (by rw [<- zQ];exact G) C (λx=>(d x).h) hl U A 0 V rfl W p (by rw [g];exact R.h) (x7 (by rw [g];omega)) b0 (by rw [g,GT (by rw [D];exact (d z).h),k.h]) λw' s'=> ?_
 exact n.o w' E (by grind [qJ]) S⟩
theorem GO.sp1(p:nth L j=some (dv e T A b2 C))(J:Ao (stV l fr i) 0 m=some F)(c:fj b2 F M=some k)(u:KR (gA (stV l fr i)) (some F))(x:KR (stC P l fr i m) (some ⟨e,A.length+M,none⟩))
  (y:KR F.length m) (z:KR (eU F) true) (D:KR (GR F) true) (K:dx L j (dv e T A k C)=some L1) (n:GO hs f r Fs L1 fr P B N w0 Z l (i+1) Q):GO (.sp1 j M m::hs) f r Fs L fr P B N w0 Z l i Q:=⟨λw a s q=>by
 obtain ⟨t,O,R,ty,pos,S,g,v,hl,E,G,I,b,d⟩:=lS x.h u.h y.h;obtain ⟨e3,e4⟩:=bH c (by intro e5;have:=D.h;rw [e5] at this;cases this);rw [<- b] at e3 e4;refine OW.stP s j (by rw [<- zQ];exact p) hl E M G I d (by rw [b];exact z.h) (x7 e4) k e3 λw' s'=> ?_
 exact n.o w' a (by grind [qJ]) q⟩
theorem GO.spa{ρ:Type}{hs:List H}{f:Option ρ}{r:ρ}{Fs:List Fa}{L:List Item}{fr:Fr}{P:Program}{B:Func}{N:Nat}{w0:World}{Z:List Nat}{l:List Oper}{i:Nat}{Q:Exit->Act->World->Prop}{α:Type}{j e p ff m n M b x:Nat}{enc:α->List Value}{dec:List Value->α}{T:TypeId}{z I d F c A C q k:List Value}{a:Nat->α}{t:Int}{u:Value}{L1:List Item}(O:nth L j=some (dv b T z d I))(R:nth Fs e=some (.oe (ain n t) x))
  (hu:nth d p=some u) (ha:nth (enc (a 0)) 0=some u) (D:KR d (d.take p++(fa enc n a++d.drop (p+n*M)))) (S:KR (Nat.ble p d.length) true) (J:∀x,KR (enc x).length M)
  (hv:Ao (stV l fr i) 0 m=some F) (U:KR (gA (stV l fr i)) (some F)) (E:fj (enc (a x)) F ff=some c) (V:KR (enc (dec c)) c) (W:KR (stC P l fr i m) (some ⟨b,z.length+p+t.toNat*M+ff,none⟩))
  (X:KR F.length m) (Y:KR (eU F) true) (h0:KR (GR F) true) (hA:wz d p=some A) (hC:IE d (p+n*M)=some C) (hN:Qo enc n (aset a x (dec c)) C=some q) (hQ:mB A q=some k)
  (hL:dx L j (dv b T z k I)=some L1) (n:GO hs f r Fs L1 fr P B N w0 Z l (i+1) Q):GO (.spa j e p ff m M enc dec::hs) f r Fs L fr P B N w0 Z l i Q:=⟨λw K s e=>by
 obtain ⟨t,x',y',ty,pos,af,g,v,hl,hg,hx,hy,y,G⟩:=lS W.h U.h X.h;obtain ⟨e3,e4⟩:=bH E (by intro e5;have:=h0.h;rw [e5] at this;cases this);rw [<- y] at e3 e4
 refine OW.stPA s j (by rw [<- zQ];exact O) hl hg hx hy G (by rw [y];exact Y.h) enc (λx=>(J x).h) _ a p D.h S.h (zD K R) ff rfl (x7 (by rw [<- (J (a _)).h];exact e4)) (dec c) (by rw [e3,V.h]) k
  (by grind [bY,DZ,Ar,Aq]) λw' s'=> ?_
 exact n.o w' K (by grind [qJ]) e⟩
theorem Sim.part(a:KR b2 k)(n:Sim L L1):Sim (dv N T F b2 C::L) (dv N T F k C::L1):=⟨by rw [a.h,n.e]⟩
theorem Adm.pt(a:nth L j=some (jL i T F))(g:wz F N=some A)(l:Iz F N m=some k)(n:IE F (N+m)=some C)(b:KR F (A++(k++C)))(c:dx L j (dv i T A k C)=some L1):
  Adm (.pt j N m) Fs L (λ_:Unit=>L1) (λ_=>Fs):=⟨λw0 Z w d s=>⟨(),by
 have e:L1=L:=by
  rw [qJ c];unfold dv;rw [<- b.h];apply o4;intro q;rw [y7];rw [zQ] at a;split
  ·rename_i f
   subst f;rw [a];simp [(zes.1 a).1]
  ·rfl
 rw [e];exact s,d⟩⟩
def OK(o:Option α)(Q:α->Prop):Prop:=∃r,o=some r/\Q r
theorem OK.ret(h:b3 x):OK (some x) b3:=⟨x,rfl,h⟩
theorem b9:type_of% @OK.ret:=OK.ret
theorem OK.bind{β:Type}{f:α->Option β}{Q:β->Prop}(h:OK b4 (λx=>OK (f x) Q)):OK (b4.bind f) Q:=by
 obtain ⟨x,rfl,h⟩:=h;exact h
theorem g9:type_of% @OK.bind:=OK.bind
theorem OK.mono(h:OK b4 b3)(k:∀x,b3 x->b5 x):OK b4 b5:=by
 obtain ⟨x,rfl,h⟩:=h;exact ⟨x,rfl,k x h⟩
theorem OK.bind2{β:Type}{f:α->Option β}{R:α->Prop}{Q:β->Prop}(h:OK b4 R)(k:∀x,R x->OK (f x) Q):OK (b4.bind f) Q:=
 g9 (h.mono k)
theorem d6:type_of% @OK.bind2:=OK.bind2
theorem OK.ite{α:Type}{c:Bool}{A B:Option α}{Q:α->Prop}(h:c=true->OK A Q)(a:c=false->OK B Q):
  OK (if c then A else B) Q:=by
 grind
theorem d5:type_of% @OK.ite:=OK.ite
theorem OK.ite_true(h:b6=true)(a:OK b4 b3):OK (if b6 then b4 else b7) b3:=by
 subst h;exact a
theorem o9:type_of% @OK.ite_true:=OK.ite_true
theorem OK.ite_false(h:b6=false)(a:OK b7 b3):OK (if b6 then b4 else b7) b3:=by
 subst h;exact a
theorem j7:type_of% @OK.ite_false:=OK.ite_false
theorem OK.get(a:0<=X)(b:X<xs.length)
  (h:∀x,xs[X.toNat]? =some x->b3 x):OK (idx xs X) b3:=by
 have hl:X.toNat<xs.length:=by omega
 refine ⟨xs[X.toNat],?_,h _ (zeg hl)⟩;unfold Go.Sx.idx
 grind
theorem OK.getN(b:i<xs.length)
  (h:∀x,xs[i]? =some x->b3 x):OK (Go.Sx.idx xs (i:Int)) b3:=
 OK.get (by omega) (by omega) (λx a=>h x (by simpa using a))
theorem i9:type_of% @OK.getN:=OK.getN
theorem OK.hasRoom(h:m*N<=140737488355328)(k:b8 ()):OK (room m N) b8:=
 ⟨(),by unfold Go.Sx.room;rw [d7 h],k⟩
theorem OK.mkl(a:0<=X)(h:X.toNat*N<=140737488355328)(k:c0 X.toNat):OK (mkLen X N) c0:=
 ⟨X.toNat,by unfold Go.Sx.mkLen;rw [d7 ⟨a,h⟩],k⟩
theorem OK.count_from(I:Nat->σ->Prop)
    (b:∀i s a,i<N->I i s->(∀s',I (i+1) s'->OK (a s') c4)->OK (c2 i a s) c4)
    (ho:∀s,I N s->c4 (c3 s)):∀(n i:Nat)(s:σ),i+n=N->I i s->OK (jN c2 c3 n i s) c4:=by
  intro n
  induction n with
  | zero => intro i s X h; have e : i = N := by omega
            subst e;exact b9 (ho s h)
  |succ n c=>intro i s X h;exact b i s _ (by omega) h (λs' d=>c (i+1) s' (by omega) d)
theorem OK.count{Q:ρ->Prop}(I:Nat->σ->Prop)
 (h:I 0 c5)
 (b:∀i c5 a,i<N->I i c5->(∀s',I (i+1) s'->OK (a s') Q)->OK (c2 i a c5) Q)
 (ho:∀c5,I N c5->Q (c3 c5)):OK (jN c2 c3 N 0 c5) Q:=OK.count_from I b ho N 0 c5 (by omega) h
theorem i5:type_of% @OK.count:=OK.count
theorem OK.rounds{Q:α->Prop}(I:σ->Prop)(m:σ->Nat)
  (b:∀s a,I s->(∀s',I s'->m s'<m s->OK (a s') Q)->OK (c6 a s) Q):
  ∀(f:Nat)(s:σ),I s->m s<f->OK (loop c6 f s) Q:=by
 intro f
 induction f with
 |zero=>intro s _ h;omega
 |succ n i=>intro s h e;exact b s _ h (λs' c d=>i s' c (by omega))
theorem OK.none_{α ρ:Type}{A:Option ρ}{B:α->Option ρ}{Q:ρ->Prop}(h:OK A Q):OK (vK none A B) Q:=h
theorem OK.some_{ρ:Type}{A:Option ρ}{B:α->Option ρ}{Q:ρ->Prop}(h:OK (B x) Q):OK (vK (some x) A B) Q:=h
theorem OK.eq(h:b4=some x)(k:b3 x):OK b4 b3:=⟨x,h,k⟩
theorem OK.is(h:OK b4 (λy=>y=x)):b4=some x:=by
 obtain ⟨y,rfl,rfl⟩:=h;rfl
theorem jW:(xs.set i x)[j]? =if i=j then (if i<xs.length then some x else none) else xs[j]? :=by
 rw [y7]
open Go.RowKit
def oH{a σ ρ:Type}(body:a->σ->Option (σ⊕ρ))(fin:σ->Option ρ):List a->σ->Option ρ
 |[],s=>fin s
 |e::q,s=>(body e s).bind λt=>match t with
  |.inl s'=>oH body fin q s'
  |.inr r=>some r
def MI{a σ ρ:Type}(body:a->σ->Option (σ⊕ρ))(fin:σ->Option ρ)(m:List a)(s:σ):Prop:=∀q,q.Perm m->∀r,oH body fin m s=some r->oH body fin q s=some r
theorem E7[DecidableEq α](f:β->α)(p:β->Bool):∀{l:List β} {b:β},l.Pairwise (λx y=>f x≠f y)->b∈l->p b=true->(l.filter p).Perm (b::l.filter (λq=>p q&& !decide (f q=f b))):=by
 intro l
 induction l with
 |nil=>intro b _ h;simp at h
 |cons x r i=>
  intro b hl h c;obtain ⟨g,j⟩:=List.pairwise_cons.1 hl;rcases j5.1 h with rfl|h
  ·have e:(b::r).filter (λq=>p q&& !decide (f q=f b))=r.filter p:=by
    rw [List.filter_cons,d8 (by simp)];exact List.filter_congr (λy k=>by simp [Ne.symm (g y k)])
   rw [e,List.filter_cons,d7 c]
  ·have d:f x≠f b:=g b h;rw [List.filter_cons,List.filter_cons];by_cases a:p x=true
   ·rw [d7 a,d7 (by simp [a,d])];exact ((i j h c).cons x).trans (List.Perm.swap _ _ _)
   ·rw [d8 a,d8 (by simp [a])];exact i j h c
structure Rng {α:Type} (w:World) (it r:Nat) (R:Rp α) (S:List Nat) (m rem:List (Int×α)) (last:Option (Int×Value×α)) (mv:List (Int×Value)) (Ss:List (List Nat)) (A:Array MapEntry) (clock since:Nat) (fh:Array Nat) (c0:Nat):Prop where
 row:om w r R S m none mv Ss
 map:w.heap[r]? =some (.map A clock)
 Wh:oa (λv:Value=>v) mv A.toList clock
 iter:w.heap[it]? =some (.mapIter (some r) since fh c0)
 apart:it∉S
 hold:∀x∈A.toList,x.born<since
 le:since<=c0
 WL:since<=clock
 left:rem=((A.toList.zip m).filter (λp=> !fh.contains p.1.born)).map (·.2)
 Vs:∀k v x,last=some (k,v,x)->c0=clock/\∃(i:Nat)(e:MapEntry)(s':Array Nat),A.toList[i]? =some e/\mv[i]? =some (k,v)/\m[i]? =some (k,x)/\fh=s'.push e.born
def NF{α:Type}(it r:Nat)(R:Rp α)(S:List Nat)(m rem:List (Int×α))(last:Option (Int×Value×α)):Item where
 S:=it::S
 Φ w:=∃mv Ss A clock s fh c0,Rng w it r R S m rem last mv Ss A clock s fh c0
 loc w w' a h:=by
  obtain ⟨mv,Ss,A,clock,s,fh,c0,h⟩:=h;have d:=h.row.hS;refine ⟨mv,Ss,A,clock,s,fh,c0,h.row.loc (λb c=>a b (zcm _ c)),?_,h.Wh,?_,h.apart,h.hold,h.le,h.WL,h.left,h.Vs⟩
  ·rw [a r (zcm _ (by rw [d];exact zcs))];exact h.map
  ·rw [a it zcs];exact h.iter
 lt w h b a:=by
  obtain ⟨mv,Ss,A,clock,s,fh,c0,h⟩:=h;rcases j5.1 a with rfl|a
  ·exact (t7.1 h.iter).1
  ·exact h.row.lt b a
theorem OW.range(g:St w0 S0 w L)(j:Nat)(t:L[j]? =some (mN M R S rem none))
  (hl:vg l i=some ⟨some d,.range T I,ty,c8,c9,gdd⟩) (u:gd l c7 ⟨some d,.range T I,ty,c8,c9,gdd⟩=some true) (v:Nat.blt d N=true) (x:look c7 I=some (.map (some M))) (y:P.underlying T=some (.map tk te))
  (h:∀it w',St w0 S0 w' (L.set j (NF it M R S rem rem none))->OW P l N Q (i+1) ((d,.pointer (some ⟨it,0,none⟩))::c7) w'):OW P l N Q i c7 w:=by
 obtain ⟨mv,Ss,k⟩:=g.all j _ t;obtain ⟨A,clock,q,r⟩:=k.map;have m:=k.lt;refine j6 hl u rfl v (w':=w.alloc (.mapIter (some M) clock #[] clock)) (λa z=> ?_) (h w.heap.size _ ?_)
 ·have:=run_range_map (P:=P) w T tk te M A clock y q;simp [execOp,z.look x,this]
 ·have n:Chg (mN M R S rem none).S w (w.alloc (.mapIter (some M) clock #[] clock)):=Chg.alloc _ _;have o:∀b∈S,(w.alloc (.mapIter (some M) clock #[] clock)).heap[b]? =w.heap[b]? :=λb f=>Below.heap_alloc _ _ _ (m b f)
  have c:w.heap.size∉S:=λf=>Nat.lt_irrefl _ (m _ f)
  refine g.upd j t n ⟨mv,Ss,A,clock,clock,#[],clock,k.loc o,?_,r,heap_alloc_new _ _,c,r.lt,k9 _,k9 _,?_,λ_ _ _ e=>(by cases e)⟩ (λb f=> ?_) (q7.2 ⟨c,k.nd⟩)
  ·rw [Below.heap_alloc _ _ _ (t7.1 q).1];exact q
  ·have s:(A.toList.zip rem).filter (λp=> !(#[]:Array Nat).contains p.1.born)=A.toList.zip rem:=List.filter_eq_self.2 (λI _=>by simp);rw [s,List.map_snd_zip (by have:=r.len;have:=k.len;omega)]
  ·rcases j5.1 f with rfl|f
   ·exact .inr (k9 _)
   ·exact .inl f
theorem Gx(h:oa (λv:Value=>v) mv d0 N):(d0.map (·.born)).Nodup:=by
 have:=h.born;rw [List.nodup_iff_pairwise_ne,List.pairwise_map];exact this.imp (λh=>Nat.ne_of_lt h)
theorem OW.rnext(B:St w0 S0 w L)(j:Nat)(X:L[j]? =some (NF it M R S d2 rem last))
  (hl:vg l i=some ⟨some d,.next I false,ty,c8,c9,gdd⟩) (Y:gd l c7 ⟨some d,.next I false,ty,c8,c9,gdd⟩=some true) (Z:Nat.blt d N=true) (G:look c7 I=some (.pointer (some ⟨it,0,none⟩)))
  (h0:rem=[]->OW P l N Q (i+1) ((d,.tuple #[.bool false])::c7) w)
  (m:∀k v I r w',rem.Perm ((k,I)::r)->St w0 S0 w' (L.set j (NF it M R S d2 r (some (k,v,I))))->OW P l N Q (i+1) ((d,.tuple #[.bool true,.int .i64 k,v])::c7) w'):OW P l N Q i c7 w:=by
 obtain ⟨mv,Ss,A,clock,c,fh,c0,h⟩:=B.all j _ X;have hml:A.toList.length=d2.length:=by rw [h.Wh.len,h.row.len]
 rcases run_next_at (P:=P) w ty it M c c0 fh A clock h.iter h.map h.hold h.le with ⟨J,f⟩|⟨e,he,K,C,f⟩
 ·refine j6 hl Y rfl Z (w':=w) (λa O=> ?_) (h0 ?_)
  ·simp [execOp,O.look G,f]
  ·rw [h.left];have:leftOf A fh= #[]:=Array.eq_empty_of_size_eq_zero J
   have hf:∀I∈A.toList,fh.contains I.born=true:=by
    intro I G;cases hc:fh.contains I.born with
    |true=>rfl
    |false=>
     have:I∈(leftOf A fh).toList:=by
      unfold leftOf;simp only [Array.toList_filter,List.mem_filter];exact ⟨G,by rw [hc];rfl⟩
     rw [‹leftOf A fh= #[]›] at this;simp at this
   have s:(A.toList.zip d2).filter (λp=> !fh.contains p.1.born)=[]:=by
    rw [List.filter_eq_nil_iff];rintro ⟨I,y⟩ hp;have:=hf I (List.of_mem_zip hp).1
    simpa using this
   rw [s];rfl
 ·have D:e∈A.toList/\fh.contains e.born=false:=by
   have:e∈(leftOf A fh).toList:=he;unfold leftOf at this;simp only [Array.toList_filter,List.mem_filter] at this;exact ⟨this.1,by simpa using this.2⟩
  obtain ⟨n,x,t⟩:=w6.1 D.1;have n1:n<d2.length:=by omega
  have T:n<mv.length:=by rw [h.row.len];omega
  have u:(e.key,e.val)=(.int .i64 mv[n].1,mv[n].2):=by
   have m:(A.toList.map (λe=>(e.key,e.val)))[n]? =(mv.map (C8 (λv:Value=>v)))[n]? :=by rw [h.Wh.eq]
   rw [o8,o8,zeg x,zeg T,t] at m
   simpa [C8] using m
  have g:mv[n].1=d2[n].1:=by
   have m:(mv.map (·.1))[n]? =(d2.map (·.1))[n]? :=by rw [h.row.Vc]
   rw [o8,o8,zeg n1,zeg T] at m
   simpa using m
  simp only [o7] at u
  have o:Chg [it] w (ChangeMaps.setBlock K it (.mapIter (some M) c (fh.push e.born) clock)):=by
   rcases C with rfl|rfl
   ·exact ⟨rfl,rfl,rfl,by simp [ChangeMaps.setBlock],λk hk x=>by
     have:it≠k:=λe=>x (by simp [e])
     simp [ChangeMaps.setBlock,Array.getElem?_setIfInBounds,this]⟩
   ·exact ⟨rfl,rfl,rfl,by simp [ChangeMaps.setBlock],λk hk x=>by
     have:it≠k:=λe=>x (by simp [e])
     simp [ChangeMaps.setBlock,Array.getElem?_setIfInBounds,this];rfl⟩
  have U:=h.row.lt;have E:=(t7.1 h.iter).1;have hS:=h.row.hS;have V:M≠it:=λs=>h.apart (by rw [<- s,hS];exact zcs)
  refine j6 hl Y rfl Z (w':=ChangeMaps.setBlock K it (.mapIter (some M) c (fh.push e.born) clock)) (λa O=> ?_) (m mv[n].1 mv[n].2 d2[n].2 (((A.toList.zip d2).filter (λp=> !(fh.push e.born).contains p.1.born)).map (·.2)) _ ?_ ?_)
  ·simp [execOp,O.look G,f,u.1,u.2]
  ·rw [h.left]
   have J:(e,d2[n])∈A.toList.zip d2:=by
    rw [w6];exact ⟨n,by rw [List.length_zip];omega,by rw [List.getElem_zip,t]⟩
   have W:(A.toList.zip d2).Pairwise (λI y=>I.1.born≠y.1.born):=by
    have m:=Gx h.Wh
    have h2:(A.toList.zip d2).map (λp=>p.1.born)=A.toList.map (·.born):=by
     have h3:((A.toList.zip d2).map Prod.fst).map (λe:MapEntry=>e.born)=A.toList.map (·.born):=by rw [List.map_fst_zip (by omega)]
     rw [<- h3,List.map_map];rfl
    rw [<- h2,List.nodup_iff_pairwise_ne,List.pairwise_map] at m;exact m
   have:=E7 (λp:MapEntry×(Int×α)=>p.1.born) (λp=> !fh.contains p.1.born) W J (by simp only [D.2];rfl);have hm:=this.map (·.2);rw [p9] at hm
   have e2:(A.toList.zip d2).filter (λp=> !(fh.push e.born).contains p.1.born)=(A.toList.zip d2).filter (λq=>(!fh.contains q.1.born)&& !decide (q.1.born=e.born)):=by
    apply List.filter_congr
    rintro ⟨I,y⟩ _
    have:(fh.push e.born).contains I.born=(fh.contains I.born||decide (I.born=e.born)):=by
     rw [Bool.eq_iff_iff];simp only [Array.contains_iff_mem,Array.mem_push,s7,zdq]
    simp only [this,Bool.not_or]
   rw [e2];have e3:(mv[n].1,d2[n].2)=d2[n]:=by rw [g]
   rw [e3];exact hm
  ·have F:=o;refine B.upd j X (o.mono (λb z=>by rw [g8.1 z];exact zcs)) ⟨mv,Ss,A,clock,c,fh.push e.born,clock,h.row.loc (λb z=>F.block b (U b z) (by simp only [g8];rintro rfl;exact h.apart z)),?_,h.Wh,?_,h.apart,h.hold,h.WL,h.WL,rfl,λk v I s=> ?_⟩ (λb z=>.inl z) (q7.2 ⟨h.apart,h.row.nd⟩)
   ·rw [F.block M (t7.1 h.map).1 (by simpa using V)];exact h.map
   ·have:it<K.heap.size:=by rcases C with rfl|rfl<;>exact E
    simp [ChangeMaps.setBlock,this]
   ·simp only [i6,o7] at s;obtain ⟨rfl,rfl,rfl⟩:=s;exact ⟨rfl,n,e,fh,by rw [zeg x,t],zeg T,by rw [zeg n1,g],rfl⟩
theorem OW.rentry{L:List Item}(f:St w0 S0 w L)(j:Nat)(p:L[j]? =some (NF it M R S d2 rem (some (X,v,d3))))
  (hl:vg l i=some ⟨some d,.entry I,ty,c8,c9,gdd⟩) (q:gd l c7 ⟨some d,.entry I,ty,c8,c9,gdd⟩=some true) (r:Nat.blt d N=true) (t:look c7 I=some (.pointer (some ⟨it,0,none⟩)))
  (h:OW P l N Q (i+1) ((d,.tuple #[.int .i64 X,v])::c7) w):OW P l N Q i c7 w:=by
 obtain ⟨mv,Ss,A,clock,s,fh,c0,b⟩:=f.all j _ p;obtain ⟨rfl,n,e,s',m,g,x,rfl⟩:=b.Vs X v d3 rfl;have c:=run_entry_at (P:=P) w it M s s' A c0 e b.iter b.map (zmg m) (Gx b.Wh)
 have k:(e.key,e.val)=(.int .i64 X,v):=by
  have o:(A.toList.map (λe=>(e.key,e.val)))[n]? =(mv.map (C8 (λv:Value=>v)))[n]? :=by rw [b.Wh.eq]
  rw [o8,o8,m,g] at o
  simpa [C8] using o
 simp only [o7] at k;refine j6 hl q rfl r (λa u=> ?_) h;simp [execOp,u.look t,c,k.1,k.2]
theorem St.rsee(h:St w0 S0 w L)(j:Nat)(f:L[j]? =some (NF it N R S d2 rem (some (X,v,x))))(i:List Nat)(k:mem? j i=false):R.rd w (fp (sel L i)) x [v]:=by
 obtain ⟨mv,Ss,A,clock,s,fh,c0,c⟩:=h.all j _ f;obtain ⟨_,n,e,s',o,d,g,_⟩:=c.Vs X v x rfl;have hl:=(zes.1 g).1;have l:n<Ss.length:=by rw [c.row.ls];exact hl
 have a:=c.row.own n (X,v) Ss[n] (X,x) (λ_ _ e=>(by cases e)) d (zeg l) g;refine R.see _ _ _ _ _ a (λb m=>h.noin j f i k b ?_);show b∈it::S;rw [c.row.hS];exact zcm _ (zcm _ (j9.2 ⟨Ss[n],yi l,m⟩))
theorem St.unrng(h:St w0 S0 w L)(j:Nat)(a:L[j]? =some (NF it N R S d2 rem last)):St w0 S0 w (L.set j (mN N R S d2 none)):=by
 obtain ⟨mv,Ss,A,clock,s,fh,c0,c⟩:=h.all j _ a;exact h.upd j a (x8 _ _) ⟨mv,Ss,c.row⟩ (λb d=>.inl (zcm _ d)) c.row.nd
theorem St.rseeRow{b:∀x,(d4 x).length=M}{c:0<M}(a:St w0 S0 w L)(j:Nat)(d:L[j]? =some (NF it N (nF T d4 M b c) S e0 s (some (X,v,e2))))(i:List Nat)(e:mem? j i=false):Rd w (fp (sel L i)) v d4 M e2:=by
 obtain ⟨u,f,h⟩:=a.rsee j d i e;cases f;exact h
theorem we{a:Type}{body:a->σ->Option (σ⊕ρ)}{e:a}{q:List a}(h:oH body e3 (e::q) c5=f)(b:body e c5=some (.inl s')):oH body e3 q s'=f:=by
 simpa [oH,b] using h
theorem NG{a:Type}{rem r:List a}{e:a}(b:n=rem.length)(h:rem.Perm (e::r)):r.length<n:=by
 have:=h.length_eq;simp at this;omega
open Go.RowKit
theorem Kt{L:List Item}(h:St w0 S0 w L)(j:Nat)(f:L[j]? =some (mN i R S rem ho))
  (a:o.op=.call ⟨.builtin .len,[I].toArray,ats.toArray⟩) (c:ats[0]? =some T) (g:look c7 I=some (.map (some i))) (k:P.underlying T=some (.map tk te)):∀b,Rep N c7 b->(execOp b.eval o).run P w=.ok (.value (.int .i64 (rem.length:Int))) w:=by
 intro b l;obtain ⟨mv,Ss,e⟩:=h.all j _ f;obtain ⟨A,clock,m,n⟩:=e.map;have s:=l.look g
 have p:A.size=rem.length:=by
  have:=congrArg List.length n.eq;have q:=congrArg List.length e.Vc
  grind
 have d:(ats.toArray)[0]? =some T:=by simpa using c
 simp [execOp,a,resolve,invoke,builtin,s,Builtin.len_,d,run_underlying k,dd m,goInt,p]
theorem OW.inl(hl:vg l i=some o)(a:gd l c7 o=some true)(b:o.dst=some d)(c:Nat.blt d N=true)
  (f:Kj P c7 o=some (e4,F)) (g:P.funcs[e4]? =some B) (j:B.body=some a4) (k:B.ntmps=M) (hs:Nat.ble F.length M=true)
  (h:CW P M a4 (bodyPost P B (λe w'=>∃v,e=.returned v/\OW P l N Q (i+1) ((d,v)::c7) w')) (sX 0 F) w):OW P l N Q i c7 w:=
 OW.fn hl a b c f (ym g j k hs h) (λ_ _ h=>h)
def MJ{α:Type}(b:Nat)(enc:α->List Value)(M:Nat)(xs:List α):Item where
 S:=[b]
 Φ w:=Rd w [] (.slice (some ⟨b,0,none⟩) xs.length xs.length) enc M xs/\b<w.heap.size
 loc w w' hb h:=by
  obtain ⟨⟨n,a,c,g,j,p⟩,q⟩:=h;have e:w'.heap[b]? =w.heap[b]? :=hb b (by simp);refine ⟨⟨n,a,c,g,j,λt x f u i r=> ?_⟩,?_⟩
  ·obtain ⟨l,o,m,s,d⟩:=p t x f u i r
   have k:l=b:=by
    rw [m] at g;simp only [Value.slice.injEq,i6,Addr.mk.injEq] at g;exact g.1.1.symm
   subst k;refine ⟨l,o,m,s,?_⟩;rw [<- d];exact World.cell?_of_block e
  ·have:=t7.1 (e.trans (TN q));exact this.1
 lt w h x i:=by
  simp only [g8] at i;subst i;exact h.2
theorem OW.mark(y:St w0 S0 w L)(j:Nat)(Y:L[j]? =some (qb (.slice (some ⟨it,0,none⟩) n n) T enc M xs))
  (hl:vg l i=some ⟨some d,.convert m m I,ty,c8,c9,gdd⟩) (hg:gd l c7 ⟨some d,.convert m m I,ty,c8,c9,gdd⟩=some true) (hN:Nat.blt d N=true) (D:look c7 I=some (.slice (some ⟨it,0,none⟩) n n))
  (ht:P.underlying m=some (.slice e)) (he:P.underlying e=some (.int .u8)) (E:∀I,(enc I).length=M) (hn:xs.length=n) (hn0:0<n)
  (h:∀w',St w0 S0 w' (L.set j (MJ it enc M xs))->OW P l N Q (i+1) ((d,.slice (some ⟨it,0,none⟩) n n)::c7) w'):OW P l N Q i c7 w:=by
 have z:=y.all j _ Y;have p:dw w T M (.slice (some ⟨it,0,none⟩) n n) xs.length (jO enc xs):=z;have v:=p;obtain ⟨Z,hc⟩:=p;rcases hc with ⟨h0,a,G⟩|⟨g',o',cap,g,G,hp,B,hle,hm,hsz,htk⟩
 ·exact absurd h0 (by omega)
 ·simp only [Value.slice.injEq,i6,Addr.mk.injEq,and_true] at G;obtain ⟨⟨rfl,rfl⟩,h1,rfl⟩:=G;have J:w.shape? it=some (T,g.size):=by unfold World.shape?;rw [B]
  let w':=w.freeze ⟨it,g.size,none⟩ 1
  have K:w'.heap[it]? =some (.cells g T (g.size,g.size+1)):=by
   show (w.freeze ⟨it,g.size,none⟩ 1).heap[it]? =_;unfold World.freeze;rw [d8 (by decide)];simp only;rw [Array.getElem?_modify,d7 rfl,B];rfl
  have A:∀k,k≠it->w'.heap[k]? =w.heap[k]? :=by
   intro k O;show (w.freeze ⟨it,g.size,none⟩ 1).heap[k]? =_;unfold World.freeze;rw [d8 (by decide)];simp only;rw [Array.getElem?_modify,d8 (λe=>O e.symm)]
  have t:w'.heap.size=w.heap.size:=by
   show (w.freeze ⟨it,g.size,none⟩ 1).heap.size=_;unfold World.freeze;rw [d8 (by decide)];simp
  refine j6 (w':=w') hl hg rfl hN (λa C=> ?_) (h w' ?_)
  ·have s:=C.look D;simp [execOp,s,convert,run_underlying ht,run_underlying he,markStringish,J];rfl
  ·have R:Rd w [] (.slice (some ⟨it,0,none⟩) xs.length xs.length) enc M xs:=by
    have:=lM (F:=[]) E v (λ_ _=>by simp);rw [hn];exact this
   refine y.upd j Y ⟨rfl,rfl,rfl,by rw [t];exact k9 _,λk _ O=>A k (by rintro rfl;exact O (by simp [qb,xJ hp]))⟩ ?_ (λb hb=>.inl ?_) (by simp [MJ])
   ·obtain ⟨S,a,c,r,U,V⟩:=R;refine ⟨⟨S,a,c,r,U,λq I f u D hu=> ?_⟩,by rw [t];exact (t7.1 B).1⟩
    obtain ⟨b',o,C,W,x⟩:=V q I f u D hu;refine ⟨b',o,C,W,?_⟩;rw [<- x]
    have X:b'=it:=by
     rw [C] at r;simp only [Value.slice.injEq,i6,Addr.mk.injEq] at r;exact r.1.1.symm
    subst X;simp only [World.cell?,K,B]
   ·simp only [MJ,g8] at hb;subst hb;simp [qb,xJ hp]
theorem BA{α:Type}:∀{m:List (Int×α)} {k:Int} {x:α},ja (mput m k x) k=some x
 |[],k,x=>by simp [mput,ja]
 |p::m,k,x=>by
  unfold mput;by_cases h:(p.1==k)=true
  ·grind [ja]
  ·rw [d8 h];unfold ja;rw [d8 h];exact BA
theorem rJ{α:Type}:∀{m:List (Int×α)} {k:Int} {x:α},ja m k=none->(k,x)∉m
 |[],k,x,_=>by simp
 |p::m,k,x,h=>by
  unfold ja at h;by_cases b:(p.1==k)=true
  ·grind
  ·rw [d8 b] at h;intro a;rcases j5.1 a with e|a
   ·subst e;simp at b
   ·exact rJ h a
theorem Gy(h:gO rem X=some i):(rem.set i (X,x)).map (·.1)=rem.map (·.1):=by
 obtain ⟨v,_,a⟩:=uZ h;rw [yo];apply o4
 grind
theorem om.giveH(h:om w N R S rem ho mv Ss)(y:∀k u,ho=some (k,u)->k=X)(r:gO rem X=some i)
  (z:∀b∈Ss.flatten,w'.heap[b]? =w.heap[b]?) (B:∃A clock,w'.heap[N]? =some (.map A clock)/\oa (λv:Value=>v) (mv.set i (X,v)) A.toList clock):om w' N R (N::(Ss.set i []).flatten) (rem.set i (X,x)) (some (X,v)) (mv.set i (X,v)) (Ss.set i []):=by
 have s:=h.nd;rw [h.hS] at s;obtain ⟨C,D⟩:=q7.1 s;have F:=h.hS;obtain ⟨G,_,d⟩:=uZ r;have E:=(zes.1 d).1;have f:=(cJ h.Vc X).trans r;obtain ⟨v0,_,j⟩:=uZ f;have I:=(zes.1 j).1;have J:i<Ss.length:=by rw [h.ls];exact E
 refine ⟨B,by rw [yo,yo,h.Vc],by rw [j8,j8];exact h.ls,rfl,?_,λk v' t e l=> ?_,λt q m p K n g o=> ?_⟩
 ·refine q7.2 ⟨λa=> ?_,aS D o5 (λ_ _ _ _ b a=>absurd a znm)⟩;rcases jX a with a|a
  ·grind
  ·exact C a
 ·grind [cJ,Gy]
 ·rcases ve g with ⟨rfl,rfl⟩|⟨c,g⟩
  ·grind [cJ,Gy]
  ·rcases ve n with ⟨e,_⟩|⟨_,n⟩
   ·exact absurd e c
   ·rcases ve o with ⟨e,_⟩|⟨_,o⟩
    ·exact absurd e c
    ·refine R.loc w w' _ m _ (λb a=>z b (j9.2 ⟨m,zmg g,a⟩)) (h.own t q m p (λk u e l=> ?_) n g o)
     grind
theorem om.comeH(h:om w N R S rem ho mv Ss)(z:∀k u,ho=some (k,u)->k=t)(n:gO rem t=none)
  (B:∀b∈Ss.flatten,w'.heap[b]? =w.heap[b]?) (C:∃A clock,w'.heap[N]? =some (.map A clock)/\oa (λv:Value=>v) (mv++[(t,v)]) A.toList clock):om w' N R (N::(Ss++[[]]).flatten) (rem++[(t,x)]) (some (t,v)) (mv++[(t,v)]) (Ss++[[]]):=by
 have o:=h.nd;rw [h.hS] at o;obtain ⟨L,M⟩:=q7.1 o;have O:=h.hS;have hl:=h.len;have D:=h.ls
 have r:gO (rem++[(t,x)]) t=some rem.length:=by
  have E:ja (rem++[(t,x)]) t=some x:=by
   have:=xt.1 n;rw [<- iK this];exact BA
  obtain ⟨i,X,d⟩:=eW E;rw [X];have P:=(zes.1 d).1;rcases Nat.lt_or_ge i rem.length with f|F
  ·rw [ye f] at d;have:=xt.1 n
   exact absurd this (by
    intro j;have s:=zmg d
    grind [rJ])
  grind
 refine ⟨C,by rw [k8,k8,h.Vc];rfl,by simp [h.ls],rfl,?_,λk v' y e l=> ?_,λy q m p Q a g c=> ?_⟩
 ·grind
 ·grind
 ·rcases bz a with ⟨G,a⟩|⟨G,a⟩
  ·rcases bz g with ⟨I,g⟩|⟨I,g⟩
   ·rcases bz c with ⟨J,c⟩|⟨J,c⟩
    ·refine R.loc w w' _ m _ (λb K=>B b (j9.2 ⟨m,zmg g,K⟩)) (h.own y q m p (λk u e l=> ?_) a g c)
     grind
    ·omega
   ·omega
  grind
theorem OW.mputH(s:St w0 S0 w L)(q:Nat)(u:α)(E:L[q]? =some (mN M R S rem ho))(y:∀F u,ho=some (F,u)->F=t)
  (hl:vg l i=some ⟨none,.mapUpdate T I e5 e6,ty,c8,c9,gdd⟩) (V:gd l c7 ⟨none,.mapUpdate T I e5 e6,ty,c8,c9,gdd⟩=some true) (W:look c7 I=some (.map (some M))) (G:look c7 e5=some (.int .i64 t)) (Y:look c7 e6=some v)
  (Z:P.underlying T=some (.map tk te)) (hk:P.underlying tk=some (.int kd)) (h:∀S' w',St w0 S0 w' (L.set q (mN M R S' (Sx.mput rem t u) (some (t,v))))->OW P l N Q (i+1) c7 w'):OW P l N Q i c7 w:=by
 obtain ⟨mv,Ss,f⟩:=s.all q _ E;have J:=f.hS;have K:=f.nd;rw [J] at K;obtain ⟨n1,_⟩:=q7.1 K
 have hI:St w [M] w [DE M (λv:Value=>v) mv]:=by
  refine ⟨x8 _ _,λn it X=> ?_,λn it X=> ?_,λn n' a b hne h1 h2=> ?_,λn it X e5 G=> ?_⟩
  ·cases n with
   |zero=>simp at X;subst X;exact f.map
   |succ n=>simp at X
  ·grind [DE]
  ·grind
  grind [DE]
 obtain ⟨w',z,g⟩:=Af (P:=P) (k:=t) (x:=v) hI 0 rfl Z hk;have j:Chg [M] w w':=g.chg;have d:∃A clock,w'.heap[M]? =some (.map A clock)/\oa (λv:Value=>v) (Sx.mput mv t v) A.toList clock:=g.all 0 _ rfl;have C:=f.lt;have O:∀b∈Ss.flatten,w'.heap[b]? =w.heap[b]? :=λb e=>j.block b (C b (by grind)) (by grind)
 obtain ⟨c,B,m,U⟩:∃c B,om w' M R (M::List.flatten c) (Sx.mput rem t u) (some (t,v)) B c/\∀b∈List.flatten c,b∈Ss.flatten:=by
  cases r:gO rem t with
  |none=>
   have o:gO mv t=none:=(cJ f.Vc t).trans r;rw [iK (xt.1 o)] at d;rw [iK (xt.1 r)];refine ⟨_,_,f.comeH y r O d,λb e=> ?_⟩
   grind
  |some n=>
   have o:gO mv t=some n:=(cJ f.Vc t).trans r;rw [nD o] at d;rw [nD r];exact ⟨_,_,f.giveH y r O d,λb e=>(jX e).elim (λh=>absurd h znm) id⟩
 refine OW.ops hl V rfl (λa D=> ?_) (h (M::List.flatten c) w' ?_)
 ·simp [execOp,D.look W,D.look G,D.look Y,z]
 ·have p:∀b∈M::List.flatten c,b∈S:=λb e=>by
   grind
  exact s.upd q E (it':=mN M R (M::List.flatten c) (Sx.mput rem t u) (some (t,v))) (j.mono (λb e=>by simp only [g8] at e;subst e;show b∈S;rw [J];exact zcs)) ⟨_,_,m⟩ (λb e=>.inl (p b e)) m.nd
open Go.RowKit
theorem nQ(h:∀x,(enc x).length=M)(xs:List α)(n:Nat):(jO enc xs).take (n*M)=jO enc (xs.take n):=by
 induction xs generalizing n with
 |nil=>simp [jO]
 |cons x r i=>
  cases n with
  |zero=>simp [jO]
  |succ n=>
   have a:=h x;simp only [jO,List.take_succ_cons];rw [List.take_append,a,Tw,show n*M+M-M=n*M by omega,i,s9 (by omega)]
theorem tX(h:∀x,(enc x).length=M)(xs:List α)(n:Nat):(jO enc xs).drop (n*M)=jO enc (xs.drop n):=by
 induction xs generalizing n with
 |nil=>simp [jO]
 |cons x r i=>
  cases n with
  |zero=>simp
  |succ n=>
   have a:=h x;simp only [jO,List.drop_succ_cons];rw [TL,a,Tw,show n*M+M-M=n*M by omega,i,yr (by omega),Tr]
theorem iT(xs ys:List α):jO enc (xs++ys)=jO enc xs++jO enc ys:=by
 induction xs with
 |nil=>rfl
 |cons x r i=>simp only [Ts,jO,i,u6]
theorem KW(a:eU F=true)(h:eU A=true):eU (F++A)=true:=by
 induction F with
 |nil=>exact h
 |cons x r i=>
  grind [eU]
theorem Iy(h:eU (enc x)=true)(n:Nat):eU (jO enc (List.replicate n x))=true:=by
 induction n with
 |zero=>rfl
 |succ n i=>exact KW h i
theorem ox(h:e7.toList=enc x)(n:Nat):(Builtin.zeroCells e7 n).toList=jO enc (List.replicate n x):=by
 have hs:e7.size=(enc x).length:=by rw [<- h];simp
 have key:∀n,(List.range (n*e7.size)).map (λi=>e7[i%e7.size]!)=jO enc (List.replicate n x):=by
  intro n
  induction n with
  |zero=>simp [jO]
  |succ n a=>
   rw [Tw,List.range_add,k8,a,List.replicate_succ',iT]
   congr 1
   simp only [jO,i4,List.map_map];refine o4 (λi=> ?_);rw [o8];by_cases X:i<e7.size
   ·rw [TJ X];simp only [t6,Function.comp];rw [show (n*e7.size+i)%e7.size=i by rw [Nat.add_comm,Nat.add_mul_mod_self_right,TD X],<- h,getElem!_pos e7 i X];simp [X]
   grind
 simpa [Builtin.zeroCells] using key n
theorem dw.pre(j:∀x,(enc x).length=M)(h:dw w T M (.slice a n c) xs.length (jO enc xs))(i:cut xs 0 X=some ys):
  dw w T M (.slice a ys.length c) ys.length (jO enc ys):=by
 obtain ⟨_,s,t,e⟩:=bA i;have hl:=kK i
 have k:ys=xs.take ys.length:=by
  grind
 refine ⟨qO j _,?_⟩;rcases h.2 with ⟨u,v,d⟩|⟨g,o,cap,b,d,l,m,p,q,f,y⟩
 ·grind
 ·simp only [Value.slice.injEq] at d;obtain ⟨rfl,rfl,rfl⟩:=d;refine .inr ⟨g,o,c,b,rfl,l,m,by omega,q,f,?_⟩;have r:ys.length*M<=xs.length*M:=r6 _ (by omega)
  have e2:((b.toList.drop o).take (xs.length*M)).take (ys.length*M)=(b.toList.drop o).take (ys.length*M):=by
   grind
  grind [nQ,jO]
theorem dw.suf(l:∀x,(enc x).length=M)(h:dw w T M (.slice a n c) xs.length (jO enc xs))(i:cut xs X (xs.length:Int)=some ys):
  dw w T M (.slice (shd a c X.toNat M) ys.length (c-X.toNat)) ys.length (jO enc ys):=by
 obtain ⟨u,v,y,e⟩:=bA i;have hl:=kK i
 have m:ys=xs.drop X.toNat:=by
  rw [e];simp
 refine ⟨qO l _,?_⟩;rcases h.2 with ⟨z,A,f⟩|⟨g,o,cap,b,f,B,p,q,C,r,D⟩
 ·grind
 ·simp only [Value.slice.injEq] at f;obtain ⟨rfl,rfl,rfl⟩:=f;by_cases d:c=X.toNat
  ·have j:ys.length=0:=by omega
   exact .inl ⟨j,_,by rw [j,d,Nat.sub_self]⟩
  ·have s:X.toNat<=xs.length:=by omega
   have k:ys.length=xs.length-X.toNat:=by grind
   refine .inr ⟨g,o+X.toNat*M,c-X.toNat,b,?_,by omega,p,by omega,by omega,?_,?_⟩
   ·simp [shd,d,Addr.add]
   ·have:(c-X.toNat)*M+X.toNat*M=c*M:=by rw [<- w8];congr 1;omega
    omega
   ·have t:X.toNat*M+ys.length*M=xs.length*M:=by rw [<- w8];congr 1;omega
    have e3:((b.toList.drop o).take (xs.length*M)).drop (X.toNat*M)=(b.toList.drop (o+X.toNat*M)).take (ys.length*M):=by
     rw [List.drop_take,y4]
     congr 1
     omega
    grind [tX]
theorem St.cutRow(d:St w0 S0 w L)(j:Nat)(f:L[j]? =some (qb (.slice a n c) T enc M xs))(g:∀x,(enc x).length=M)(i:cut xs 0 X=some ys):
  St w0 S0 w (L.set j (qb (.slice a ys.length c) T enc M ys)):=by
 have h:=d.all j _ f
 have e:(cM (.slice a ys.length c)).toList=(cM (.slice a n c)).toList:=by
  cases a with
  |none=>rfl
  |some a=>cases c<;>rfl
 exact d.upd j f (x8 _ _) (dw.pre g h i) (λb k=>.inl (by
  show b∈(cM (.slice a n c)).toList;rw [<- e];exact k)) xT
theorem St.sufRow(e:St w0 S0 w L)(j:Nat)(g:L[j]? =some (qb (.slice a n c) T enc M xs))(k:∀x,(enc x).length=M)(l:cut xs X (xs.length:Int)=some ys):
  St w0 S0 w (L.set j (qb (.slice (shd a c X.toNat M) ys.length (c-X.toNat)) T enc M ys)):=by
 have h:=e.all j _ g;refine e.upd j g (x8 _ _) (dw.suf k h l) (λb d=>.inl ?_) xT;have d:b∈(cM (.slice (shd a c X.toNat M) ys.length (c-X.toNat))).toList:=d;show b∈(cM (.slice a n c)).toList;cases c with
 |zero=>rw [Nat.zero_sub,eT] at d;cases d
 |succ c=>
  cases a with
  |none=>
   have:shd none (c+1) X.toNat M=none:=by grind [shd]
   rw [this] at d;cases d
  |some a=>
   by_cases f:c+1=X.toNat
   ·rw [f,Nat.sub_self,eT] at d;cases d
   ·have s:shd (some a) (c+1) X.toNat M=some (a.add (X.toNat*M)):=by unfold shd;rw [d8 f];rfl
    rw [s] at d;rcases y8 (c+1-X.toNat) with i|i
    ·grind [eT]
    ·rw [xJ i] at d;rw [xJ (Nat.succ_pos c)]
     have e2:(a.add (X.toNat*M)).block=a.block:=by
      obtain ⟨b0,o,m⟩:=a;unfold Addr.add
      grind
     grind
theorem OW.clearR{e:TypeId}(q:St w0 S0 w L)(j:Nat)(D:L[j]? =some (qb (.slice a n c) T enc M xs))(he:∀I,(enc I).length=M)
  (hl:vg l i=some ⟨none,.call ⟨.builtin .clear,[I].toArray,ats.toArray⟩,ty,c8,c9,gdd⟩) (Z:gd l c7 ⟨none,.call ⟨.builtin .clear,[I].toArray,ats.toArray⟩,ty,c8,c9,gdd⟩=some true) (hc:cut xs X (xs.length:Int)=some ys) (hx:look c7 I=some (.slice (shd a c X.toNat M) ys.length (c-X.toNat))) (E:ats[0]? =some tk) (F:P.underlying tk=some (.slice e)) (z:α)
  (C:(ax P (zeroValue e)).map (·.cells.toList)=some (enc z)) (h1:eU (enc z)=true)
  (h:∀w',St w0 S0 w' (L.set j (qb (.slice a n c) T enc M (xs.take X.toNat++List.replicate ys.length z)))->OW P l N Q (i+1) c7 w'):OW P l N Q i c7 w:=by
 obtain ⟨h0,hq1,hq2,e0⟩:=bA hc;have hl0:=kK hc;have hyl:ys.length=xs.length-X.toNat:=by omega
 have r:(ats.toArray)[0]? =some tk:=by simpa using E
 have hr:dw w T M (.slice a n c) xs.length (jO enc xs):=q.all j _ D;cases G:ys.length with
 |zero=>
  have J:xs.take X.toNat++List.replicate ys.length z=xs:=by
   rw [G,List.replicate_zero,i4,s9 (by omega)]
  have x:St w0 S0 w (L.set j (qb (.slice a n c) T enc M (xs.take X.toNat++List.replicate ys.length z))):=by
   rw [J];have K:=(zes.1 D)
   rw [show L.set j (qb (.slice a n c) T enc M xs)=L from by
    obtain ⟨h5,h6⟩:=K;rw [<- h6,List.set_getElem_self]]
   exact q
  refine OW.opn (v:=.tuple #[]) hl Z rfl (w':=w) (λb O=> ?_) (h _ x);have s:=O.look hx;rw [G] at s;cases f:shd a c X.toNat M with
  |none=>rw [f] at s;simp [execOp,resolve,invoke,builtin,s,Builtin.clear_,r,run_underlying F]
  |some a'=>rw [f] at s;simp [execOp,resolve,invoke,builtin,s,Builtin.clear_,r,run_underlying F]
 |succ k=>
  rcases hr.2 with ⟨hz0,_⟩|⟨g,o,cap,d,hv,hp,y,A,hm,hcs,t⟩
  ·omega
  ·simp only [Value.slice.injEq] at hv;obtain ⟨rfl,rfl,rfl⟩:=hv;have R:¬ c=X.toNat:=by omega
   have B:shd (some ⟨g,o,none⟩) c X.toNat M=some ⟨g,o+X.toNat*M,none⟩:=by simp [shd,R,Addr.add]
   cases u:ax P (zeroValue e) with
   |none=>rw [u] at C;cases C
   |some zv=>
    rw [u] at C;have S:zv.cells.toList=enc z:=by simpa using C
    have U:=ox (enc:=enc) S (k+1)
    let m:=jO enc (List.replicate (k+1) z)
    have hvl:m.length=(k+1)*M:=by
     have:=qO he (List.replicate (k+1) z)
     simpa using this
    have hsum:X.toNat*M+(k+1)*M=xs.length*M:=by rw [<- w8];congr 1;omega
    have hcap:xs.length*M<=c*M:=r6 _ A;have p:o+X.toNat*M+m.length<=d.size:=by omega
    have hst2:=run_storeCells_at (P:=P) g (o+X.toNat*M) T m 0 d w y (by simpa using p) (eV (Iy h1 _));refine OW.opn (v:=.tuple #[]) hl Z rfl (w':=w.setRow g (qG d.toList m (o+X.toNat*M)).toArray) (λb O=> ?_) (h _ ?_)
    ·have s:=O.look hx;rw [G,B] at s;have V:=qV u w;have h3:(storeCells ⟨g,o+X.toNat*M,none⟩ m).run P w=.ok () (w.setRow g (qG d.toList m (o+X.toNat*M)).toArray):=by grind [qG]
     have h4:(Builtin.zeroCells zv.cells (k+1)).toList=m:=U;simp [execOp,resolve,invoke,builtin,s,Builtin.clear_,r,run_underlying F,V,h4,h3]
    ·have hlen:(qG d.toList m (o+X.toNat*M)).length=d.size:=by simp [qG] at p |-;omega
     refine q.upd j D ⟨rfl,rfl,rfl,by simp [World.setRow],λk' _ hn=>setRow_other w g k' _ (by grind [qb,xJ])⟩ ?_ (λk' W=>.inl W) xT;have Y:(xs.take X.toNat++List.replicate ys.length z).length=xs.length:=by simp;omega
     show dw (w.setRow g _) T M _ _ _;rw [Y];refine ⟨by grind [qO],.inr ⟨g,o,c,_,rfl,hp,setRow_heap w g d _ T _ y,A,hm,by grind,?_⟩⟩;simp only;rw [dc (by omega) (by omega) (by grind),t,show o+X.toNat*M-o=X.toNat*M by omega]
     grind [iT,nQ,qG,qO]
end Go.Sx
