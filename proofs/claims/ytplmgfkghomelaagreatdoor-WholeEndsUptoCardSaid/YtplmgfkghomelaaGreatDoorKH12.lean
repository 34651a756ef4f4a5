/- Lemmas. -/
import Derived.Test.YtplmgfkghomelaaGreatDoorKReg3
set_option linter.all false
namespace Go.Proofs.YtplmgfkghomelaaGreatDoor.KH
open Go.Sx
variable {c:zG}{n i a j W:Nat}{h F:za}{ss:List (List zJ)}{o o':zc}{x:Nat×zq}{r L:zq}{α:Type}{l:List (Nat×zq)}{es:List ze}{m f:Int}{y I:α}{k' K:zd}{xs:List zq}{d:List Nat}{e A:List zc}{v:List zx}{z:zx}{B:List zJ}{C:List zg}{D:zg}{E cmd:zJ}{G:List α}{J g:List zd}{q:aH}{b:List zB}
def Kb(o:zc)(r:zq):zc:={o with SX:=o.SX++[r]}
def oj(os:List zc)(x:Nat×zq):List zc:=match os[x.1]? with
 |some o=>os.set x.1 (Kb o x.2)
 |none=>os
def puts(os:List zc)(l:List (Nat×zq)):List zc:=l.foldl oj os
theorem pB(os:List zc)(x:Nat×zq):(oj os x).length=os.length:=by
 grind [oj]
theorem pC(l:List (Nat×zq)):∀os:List zc,(puts os l).length=os.length:=by
 induction l with
 |nil=>exact λos=>rfl
 |cons x l i=>exact λos=>(i (oj os x)).trans (pB os x)
def sL(l:List zq)(f:Int):Nat:=l.countP (λr=>r.Ud==f)
def bQ(os:List zc)(f:Int):Nat:=(os.map (λo=>sL o.SX f)).sum
def bV(l:List zx)(t:Int):Nat:=l.countP (λx=>x.Tn==t)
theorem DX(h:d[i]? =some a)(b:Nat):(d.set i b).sum+a=d.sum+b:=by
 induction d generalizing i with
 |nil=>simp at h
 |cons x d c=>
  cases i with
  |zero=>simp at h;subst h;simp;omega
  |succ i=>
   grind
theorem gC(h:e[i]? =some o)(o':zc)(f:Int):bQ (e.set i o') f+sL o.SX f=bQ e f+sL o'.SX f:=by
 unfold bQ;rw [yg];exact DX (by grind) _
theorem uh(l:List zq)(r:zq)(f:Int):sL (l++[r]) f=sL l f+if r.Ud=f then 1 else 0:=by
 grind [sL]
theorem ui(l:List zq)(r:zq)(f:Int):sL (r::l) f=sL l f+if r.Ud=f then 1 else 0:=by
 grind [sL]
theorem ij(l:List zx)(x:zx)(f:Int):bV (x::l) f=bV l f+if x.Tn=f then 1 else 0:=by
 grind [bV]
theorem gD(l a:List zx)(f:Int):bV (l++a) f=bV l f+bV a f:=by
 grind [bV]
theorem nC(x:zx)(f:Int):bV [x] f=if x.Tn=f then 1 else 0:=by
 grind [ij,bV]
theorem uj{os:List zc}(h:x.1<os.length)(f:Int):bQ (oj os x) f=bQ os f+if x.2.Ud=f then 1 else 0:=by
 unfold oj;rw [zeg h];have:=gC (zeg h) (Kb os[x.1] x.2) f
 grind [sL,Kb,uh,bQ]
theorem B8(a:∀x∈l,x.2.Ud=f):∀os:List zc,(∀x∈l,x.1<os.length)->∀g,bQ (puts os l) g=bQ os g+if f=g then l.length else 0:=by
 induction l with
 |nil=>intro os h g;simp [puts]
 |cons x l i=>
  intro os h g;have b:=uj (h x zcs) g
  grind [oj,pB,bQ,puts]
theorem Gw(h:a∈d):a<=d.sum:=by
 induction d with
 |nil=>cases h
 |cons x d i=>
  grind
theorem K1(h:r∈xs):1<=sL xs r.Ud:=by
 grind [sL]
theorem pD(a:o∈e)(h:r∈o.SX):1<=bQ e r.Ud:=by
 have b:=K1 h
 have c:sL o.SX r.Ud<=bQ e r.Ud:=by
  unfold bQ;exact Gw (x8.2 ⟨o,a,rfl⟩)
 omega
theorem Fy(h:z∈v):1<=bV v z.Tn:=by
 unfold bV;exact List.countP_pos_iff.2 ⟨z,h,by simp⟩
structure wJ (c:zG) (b:Nat) (os:List zc):Prop where
 len:(os.length:Int)=c.SR
 all:∀(i:Nat)(o:zc),os[i]? =some o->ko o/\GF o/\o.Uo=i/\o.TR=c.SR/\o.maps.length=c.Maps.length/\o.SX.length<=b
theorem wJ.mono(h:wJ c n e)(l:n<=a):wJ c a e:=
 ⟨h.len,λi o b=>by obtain ⟨d,f,g,j,k,m⟩:=h.all i o b;exact ⟨d,f,g,j,k,by omega⟩⟩
theorem wJ.put(h:wJ c n A)(g:0<=x.2.Item.TB)(j:x.2.Item.TB<c.Maps.length)(q:x.2.Up=true\/(0<=x.2.Item.Op/\x.2.Item.Op<5))(t:u64 x.2.Item.TL):wJ c (n+1) (oj A x):=by
 refine ⟨by rw [pB];exact h.len,λi o a=> ?_⟩
 unfold oj at a;split at a
 ·rename_i m s
  rw [y6] at a;split at a
  ·rename_i e
   subst e;split at a
   ·obtain rfl:=j6 a;obtain ⟨b,d,k,l,f,p⟩:=h.all _ _ s;refine ⟨{b with UL:=λr hr=> ?_},⟨d.maps,λr hr=> ?_⟩,k,l,f,?_⟩
    ·rcases g8.1 hr with hr|hr
     ·exact b.UL r hr
     ·rw [i6.1 hr];exact ⟨g,by show _<((m.maps.length:Nat):Int);rw [f];exact j,q⟩
    ·rcases g8.1 hr with hr|hr
     ·exact d.SX r hr
     grind
    ·show (m.SX++[x.2]).length<=_
     grind
   ·cases a
  ·obtain ⟨b,d,k,l,f,p⟩:=h.all _ _ a
   grind
 ·obtain ⟨b,d,k,l,f,p⟩:=h.all _ _ a
  grind
theorem wJ.puts:∀{b:Nat} {os:List zc} (h:wJ c b os) (hl:∀x∈l,0<=x.2.Item.TB/\x.2.Item.TB<c.Maps.length/\(x.2.Up=true\/(0<=x.2.Item.Op/\x.2.Item.Op<5))/\u64 x.2.Item.TL),wJ c (b+l.length) (KH.puts os l):=by
 induction l with
 |nil=>exact λh _=>h
 |cons x l i=>
  intro b os h hl;obtain ⟨a,d,e,f⟩:=hl x zcs;have:=i (h.put a d e f) (λy g=>hl y (zcm _ g));exact this.mono (by grind)
theorem Aw:∀{os:List zc} {o:zc} {r:zq},o∈KH.puts os l->r∈o.SX->(∃o'∈os,r∈o'.SX)\/∃x∈l,x.2=r:=by
 induction l with
 |nil=>exact λb c=>.inl ⟨_,b,c⟩
 |cons x l i=>
  intro os o r b c;rcases i (os:=oj os x) b c with ⟨o',h,a⟩|⟨y,h,a⟩
  ·unfold oj at h;split at h
   ·rename_i d e
    rcases r7 h with h|rfl
    ·grind
    ·rcases g8.1 (show r∈d.SX++[x.2] from a) with a|a
     ·grind
     grind
   grind
  grind
theorem pE(h:(oj A x)[i]? =some o):∃o',A[i]? =some o'/\o'.SZ=o.SZ:=by
 unfold oj at h;split at h
 ·rename_i a b
  rw [y6] at h;split at h
  ·rename_i e
   subst e;split at h
   ·obtain rfl:=j6 h;exact ⟨a,b,rfl⟩
   ·cases h
  ·exact ⟨o,h,rfl⟩
 ·exact ⟨o,h,rfl⟩
theorem ep:∀{os:List zc} {i:Nat} {o:zc},(KH.puts os l)[i]? =some o->∃o',os[i]? =some o'/\o'.SZ=o.SZ:=by
 induction l with
 |nil=>exact λh=>⟨_,h,rfl⟩
 |cons x l a=>
  intro os i o h;obtain ⟨b,c,e⟩:=a (os:=oj os x) h
  grind [pE]
def io(k:Int)(n:Nat):Nat:=((ay k (n:Int)).getD 0).toNat
theorem DY(h:wJ c i e)(j:1<=c.SR/\c.SR<=4)(d:∀o∈e,o.SZ=false)(f:0<=r.Item.TB)(g:r.Item.TB<c.Maps.length)(b:0<=r.Item.Op/\r.Item.Op<5)(t:(i+1)*56<=140737488355328):
  ∃(p:Nat)(o:zc),io r.Item.TQ e.length=p/\ay r.Item.TQ (e.length:Int)=some (p:Int)/\p<e.length/\Go.Sx.idx e (p:Int)=some o/\e[p]? =some o/\jH o [r]=some (0,Kb o r):=by
 obtain ⟨p,l,q⟩:=Av (k:=r.Item.TQ) (n:=(e.length:Int)) (by rw [h.len];exact j.1) (by rw [h.len];exact j.2)
 have a:p<e.length:=by omega
 have m:=zeg a;obtain ⟨u,v,w,x,s,y⟩:=h.all _ _ m;refine ⟨p,e[p],by grind [io],l,a,og a,m,?_⟩;rw [h.len] at l;exact IC (d _ (yo a)) f (by rw [s];exact g) (.inr ⟨b.1,b.2,by grind⟩) (by omega)
def kj:zg:=⟨0,0,0,0⟩
def uk:zk:=⟨0,false,0,false,0,0⟩
def K2(k:zd):zA:=⟨k.Id.E,k.Id.N,k.Id.TD,k.Id.Pairs++k.parts.flatten⟩
def Fz(k:zd):zd:=⟨k.Tj,w64 (k.Tt+1),false,k.Tf,QV,[],k.Tc++[K2 k]⟩
def Qb(t:Int)(k:zd):ze:=⟨2,t,0,k.Tt,0,0,0,0,0,0,kj,uk,xZ k.Id.N,k.Id.E⟩
def mf(t:Int)(k:zd):ze:=⟨1,t,0,k.Tt,0,0,0,0,0,0,kj,uk,0,0⟩
def QX(t:Int)(k:zd)(n h:Int):ze:=⟨4,t,0,k.Tt,0,n,h,0,0,0,kj,uk,0,0⟩
def withA(k:zd)(a:zA):zd:={k with Id:=a}
def Dh(h:za)(t:Nat)(k:zd)(es:List ze)(r:List zp)(g:zM):za:=
 {h with or:=h.or.set t (Fz k),rings:=r,Tr:=h.Tr++es++[Qb t k],TF:=g}
def bf(cmd:zJ):List zg:=if cmd.SV=0 then [cmd.Item] else cmd.Tw
def vG(t:Int)(n:Nat)(l:List zg):List (Nat×zq):=l.mapIdx (λi x=>(io x.TQ n,⟨t,(i:Int),false,x⟩))
def aB(t:Int)(n:Nat)(m:Int):List (Nat×zq):=(List.range n).map (λs=>(s,⟨t,(s:Int),true,⟨m,0,0,0⟩⟩))
def Ax(k:zd)(n:Int)(r:List zk)(p:List (List zt)):zd:=⟨k.Tj,k.Tt,true,n,⟨0,k.Id.N,r,k.Id.Pairs⟩,p,k.Tc⟩
def Kc(h:za)(t:Nat)(k k':zd)(os:List zc)(l:List zx):za:=
 {h with or:=h.or.set t k',Fd:=os,SX:=l,Tr:=h.Tr++[mf t k]}
def B9(c:zG)(i:zg):Prop:=0<=i.TB/\i.TB<c.Maps.length/\0<=i.Op/\i.Op<5
def RR(h:za)(x:zJ)(E:Int):Prop:=E≠0/\(x.SV=3->(h.closed=true/\E=43)\/(h.closed=false/\E=2/\¬ (0<=x.TC/\x.TC<h.rings.length)))
inductive CMv (h:za) (t:Nat) (k:zd) (cmd:zJ):za->Prop
 |told (E:Int):RR h cmd E->CMv h t k cmd (Dh h t (withA k ⟨E,k.Id.N,k.Id.TD,k.Id.Pairs⟩) [mf t k] h.rings h.TF)
 | fire (i : Nat) (r r' : zp) (n E : Int) (g : zM) : h.closed = false -> cmd.SV = 3 -> cmd.TC = i -> h.rings[i]? = some r -> xj r cmd.Tq h.TF = some (n, E, r', g) ->
   CMv h t k cmd (Dh h t (withA k ⟨E,if E=0 then n else k.Id.N,k.Id.TD,k.Id.Pairs⟩) ([mf t k]++if E=0 then [QX t k n i] else []) (h.rings.set i r') g)
 | items : h.closed = false -> (cmd.SV = 0 \/ cmd.SV = 1) -> 1 <= (bf cmd).length -> (bf cmd).length <= 16 -> (∀ i ∈ bf cmd, B9 h.Tm i) ->
   CMv h t k cmd (Kc h t k (Ax k (bf cmd).length (List.replicate (bf cmd).length uk) k.parts) (puts h.Fd (vG t h.Fd.length (bf cmd))) h.SX)
 | walk : h.closed = false -> cmd.SV = 2 -> 0 <= cmd.TB -> cmd.TB < h.Tm.Maps.length ->
   CMv h t k cmd (Kc h t k (Ax k h.Fd.length k.Id.TD (List.replicate h.Fd.length [])) (puts h.Fd (aB t h.Fd.length cmd.TB)) h.SX)
 |call:h.closed=false->4<=cmd.SV->cmd.SV<=10->CMv h t k cmd (Kc h t k (Ax k 1 k.Id.TD k.parts) h.Fd (h.SX++[⟨t,cmd,0⟩]))
open Go.Sx
theorem zV{α:Type}{xs:List α}{x:α}(h:xs[i]? =some x):Go.Sx.idx xs (i:Int)=some x:=by
 grind [og]
theorem xJ{m b:Nat}(h:m*b<=140737488355328):room m b=some ():=by
 grind [room]
structure rB (s:List zJ) (k:zd):Prop where
 Tj:k.Tj=s
 Ve:0<=k.Tt
 Vj:k.Tt<=s.length
 Vx:k.waits=true->k.Tt<s.length
 UX:(k.Tc.length:Int)=k.Tt
 done:∀a∈k.Tc,a.TD.length<=16/\a.Pairs.length<=64
 res:k.Id.TD.length<=16
 Vo:k.Id.Pairs=[]
 Vc:k.parts.length<=4
 part:∀p∈k.parts,p.length<=16
 UM:k.waits=false->k.Tf=0
structure Ca (H K:Nat) (w:zB):Prop where
 Tz:WJ H K w.SQ
 cur:0<=w.TA/\w.TA<H
 rep:∀r,w.TV=some r->u64 r.TL
 over:w.SZ=true->w.SQ.SY=0
def Ay(c:List zd)(W:Nat)(r:zq):Prop:=
 (∃(t:Nat)(k:zd),r.Ud=t/\c[t]? =some k/\0<=r.UI/\(r.Up=true->r.UI<k.parts.length)/\(r.Up=false->r.UI<k.Id.TD.length))\/
 ∃j:Nat,r.Ud=(c.length:Int)+j/\j<W/\r.Up=false
def gE(h:za)(t:Int):Nat:=bV h.SX t+bV h.held t+(if h.closed=true/\h.over=false/\h.Tb=t then 1 else 0)
structure aq (c:zG) (ss:List (List zJ)):Prop where
 hk:1<=c.Ti/\c.Ti<=4
 wk:1<=c.SS/\c.SS<=4
 sh:1<=c.SR/\c.SR<=4
 mp:c.Maps.length<=4
 cl:1<=ss.length/\ss.length<=4
 sl:∀s∈ss,s.length<=64
 fit:∀s∈ss,∀c∈s,Fit c
structure HI (c:zG) (ss:List (List zJ)) (n:Nat) (h:za):Prop where
 TU:n<=100000000
 Tm:h.Tm=c
 cl:h.or.length=ss.length
 cr:(h.LE.length:Int)=c.SS
 rg:(h.rings.length:Int)=c.Ti
 TT:fJ c.Ti.toNat c.Maps.length c.SS.toNat n h.Fn
 Uj:∀r∈h.rings,kU r/\∀q∈r.waiting,u64 q.Tq.A/\u64 q.Tq.B
 Um:∀(t:Nat) k s,h.or[t]? =some k->ss[t]? =some s->rB s k
 crew:∀w∈h.LE,Ca c.Ti.toNat c.Maps.length w
 own:wJ c (16*n) h.Fd
 Vd:∀o∈h.Fd,∀r∈o.SX,Ay h.or h.LE.length r
 Ut:∀(t:Nat) k,h.or[t]? =some k->k.Tf=((bQ h.Fd t+gE h t:Nat):Int)
 UC:∀t:Nat,gE h t=0\/(gE h t=1/\bQ h.Fd t=0)
 call:∀x∈h.SX++h.held,(∃t:Nat,x.Tn=t/\t<ss.length)/\x.cmd.Tu.length<=140737488355328/\4<=x.cmd.SV/\x.cmd.SV<=10
 Tb:∃t:Nat,h.Tb=t/\t<ss.length
 UD:h.Td.SU.length=ss.length+c.SS.toNat+c.SR.toNat+1
 Uu:∀o∈h.Fd,o.SZ=true->h.closed=true/\∀w∈h.LE,w.SZ=true
 UB:∀w∈h.LE,w.SZ=true->h.closed=true
 UE:h.Tr.length<=200*n
 Va:h.SX.length<=n
 hel:h.held.length<=n
theorem FA{l:List (List zt)}{b:Nat}(h:∀p∈l,p.length<=b):l.flatten.length<=l.length*b:=by
 induction l with
 |nil=>simp
 |cons p l i=>
  have c:=h p zcs;have d:=i λq a=>h q (zcm _ a)
  rw [yl,q7,u5,v9];omega
theorem K3(h:rB B k'):(K2 k').TD.length<=16/\(K2 k').Pairs.length<=64:=by
 refine ⟨h.res,?_⟩;show (k'.Id.Pairs++k'.parts.flatten).length<=64;have a:=FA h.part;have b:=h.Vc;rw [h.Vo,List.nil_append];omega
theorem ID{k:zd}{s:List zJ}(j:h.or[n]? =some k)(c:rB s k)(w:s.length<=64)(hl:h.Tr.length<=500000000000):ja h (n:Int)=some (Dh h n k [] h.rings h.TF):=by
 unfold ja;rw [zV j,zbs]
 have a:jM (fg k) (λ(d:(List zt))=>{k with Id:=(zA.mk k.Id.E k.Id.N k.Id.TD d)}) (k.parts).length 0 k.Id.Pairs=some {k with Id:=(K2 k)}:=by
  refine OK.is (i7 (λi l=>l=k.Id.Pairs++(k.parts.take i).flatten) (by simp) (λi l e o r t=> ?_) (λl hl=> ?_))
  ·subst r;unfold fg;refine g9 (j4 o λp f=>g9 (OK.hasRoom ?_ (t _ ?_)))
   ·have g:=FA (l:=k.parts.take i) (b:=16) λq u=>c.part q (y7 u)
    have v:=c.part p (zmg f);have x:=c.Vc;rw [y4] at g;rw [c.Vo,List.nil_append];omega
   ·rw [mP f,yx,x4];simp
  ·subst hl;rw [z9];rfl
 rw [a];simp only [zbs];have g:=c.UX;have v:=c.Vj;rw [xJ (m:=h.Tr.length+_) (b:=176) (by grind)];simp only [zbs];rw [xJ (m:=k.Tc.length+_) (b:=64) (by grind)];simp only [zbs,l8,i8];unfold Dh;rw [j7];rfl
theorem IE{k:zd}(b:h.or[n]? =some k)(a:rB B k)(c:B.length<=64)(hl:h.Tr.length<=400000000000)(E N:Int){es:List ze}(e:es.length<=2)(r:List zp)(g:zM):
  ja {h with or:=h.or.set n (withA k ⟨E,N,k.Id.TD,k.Id.Pairs⟩),rings:=r,Tr:=h.Tr++es,TF:=g} (n:Int)=some (Dh h n (withA k ⟨E,N,k.Id.TD,k.Id.Pairs⟩) es r g):=by
 have d:=(zes.1 b).1;rw [ID (k:=withA k ⟨E,N,k.Id.TD,k.Id.Pairs⟩) (s:=B) (by grind) ⟨a.Tj,a.Ve,a.Vj,a.Vx,a.UX,a.done,a.res,a.Vo,a.Vc,a.part,a.UM⟩ c (by grind)];unfold Dh;simp only [y8,j7]
theorem FB(g:h.Tm=c)(l:List zg):∃b,xH h l=some b/\(b=false->∀i∈l,B9 c i):=by
 subst g;unfold xH qf qm
 obtain ⟨o,j,k⟩:OK (jM (qB l h) (λ(d:Unit)=>(.inl ())) l.length 0 ()) (λo=>match o with|.inl _=>∀i∈l,B9 h.Tm i|.inr r=>0<=r):=by
  refine i7 (λi _=>∀x∈l.take i,B9 h.Tm x) (by simp) (λi s a m A n=> ?_) (λs B=>by grind);unfold qB;refine g9 (j4 m λx p=> ?_);refine d6 (R:=λb=>b=false->B9 h.Tm x) ?_ (λb f=>d5 (λe=>b9 (by grind)) (λe=>n _ (λy q=> ?_)))
  ·unfold cM;refine d6 (R:=λb=>b=false->B9 h.Tm x) ?_ (λb f=>b9 f);refine d5 (λe=>b9 λz=>by cases z) (λt=>d5 (λe=>b9 λz=>by cases z) (λu=>d5 (λe=>b9 λz=>by cases z) (λv=>b9 λw=> ?_)));simp only [decide_eq_false_iff_not] at t u v w;exact ⟨by omega,by omega,by omega,by omega⟩
  ·rw [mP p] at q
   grind
 rw [j];cases o with
 |inl _=>exact ⟨_,rfl,λ_=>k⟩
 |inr r=>
  refine ⟨_,rfl,λe=> ?_⟩
  grind
theorem ul{t:Int}(h:C[i]? =some D):(vG t n C)[i]? =some (io D.TQ n,⟨t,(i:Int),false,D⟩):=by
 grind [vG]
theorem fW:(vG m n C).length=C.length:=by
 grind [vG]
theorem Cb(os:List zc)(l:List (Nat×zq))(x:Nat×zq):puts os (l++[x])=oj (puts os l) x:=by
 grind [puts]
theorem et(h:x∈vG m n C):∃(i:Nat)(y:zg),C[i]? =some y/\x=(io y.TQ n,⟨m,(i:Int),false,y⟩):=by
 obtain ⟨i,a⟩:=p6 h;have hl:=(zes.1 a).1;rw [fW] at hl;rw [ul (zeg hl)] at a
 grind
theorem wK{l:List zg}(h:wJ c a e)(k:1<=c.SR/\c.SR<=4)(w:∀o∈e,o.SZ=false){t:Int}(m:∀i∈l,B9 c i/\u64 i.TL)(N:(a+l.length+1)*56<=140737488355328)
  {body:Nat->(List zc->Option (List zc))->List zc->Option (List zc)}
  (d:∀i b (s:List zc),body i b s=(Go.Sx.idx l (i:Int)).bind λx=>(ay x.TQ (s.length:Int)).bind λp=>(Go.Sx.idx s p).bind λo=>(jH o [⟨t,(i:Int),false,x⟩]).bind λr=>b (s.set (Int.toNat p) r.2)):
  jM body (λs=>s) l.length 0 e=some (puts e (vG t e.length l)):=by
 refine OK.is (i7 (λi s=>s=puts e ((vG t e.length l).take i)) rfl (λi s b A B C=> ?_) (λs k=>by grind [fW]));subst B;rw [d];refine g9 (j4 A λx q=> ?_);have D:=ul (t:=t) (n:=e.length) q;have u:(puts e ((vG t e.length l).take i)).length=e.length:=pC _ _;have f:=m x (zmg q)
 have E:wJ c (a+l.length) (puts e ((vG t e.length l).take i)):=by
  refine (h.puts (l:=(vG t e.length l).take i) (λy F=> ?_)).mono (by grind);obtain ⟨j,z,G,rfl⟩:=et (y7 F);obtain ⟨g,I⟩:=m z (zmg G);exact ⟨g.1,g.2.1,.inr g.2.2,I⟩
 obtain ⟨p,o,v,J,O,K,P,L⟩:=DY E k (λo M=>by
  obtain ⟨j,Q⟩:=p6 M
  grind [ep]) (r:=⟨t,(i:Int),false,x⟩) f.1.1 f.1.2.1 f.1.2.2 (by omega)
 have v:io x.TQ (puts e ((vG t e.length l).take i)).length=p:=v;rw [show ay x.TQ ((puts e ((vG t e.length l).take i)).length:Int)=some (p:Int) from J];simp only [zbs];rw [K];simp only [zbs];rw [L];simp only [zbs,l8];refine C _ ?_;rw [mP D,Cb]
 grind [oj]
theorem DZ{t:Int}(h:i<n):(aB t n m)[i]? =some (i,⟨t,(i:Int),true,⟨m,0,0,0⟩⟩):=by
 grind [aB]
theorem iM:(aB f n m).length=n:=by
 grind [aB]
theorem ez(h:x∈aB f n m):∃i:Nat,i<n/\x=(i,⟨f,(i:Int),true,⟨m,0,0,0⟩⟩):=by
 grind [aB]
theorem IF(h:wJ c n e)(k:1<=c.SR/\c.SR<=4)(p:∀o∈e,o.SZ=false)(q:0<=E.TB)(u:E.TB<c.Maps.length)(B:(n+6)*56<=140737488355328):
  jM (dQ f E) (λs=>s) e.length 0 e=some (puts e (aB f e.length E.TB)):=by
 refine OK.is (i7 (λi s=>s=puts e ((aB f e.length E.TB).take i)) rfl (λi s d g v w=> ?_) (λs k=>by grind [iM]));subst v;unfold dQ;have a:(puts e ((aB f e.length E.TB).take i)).length=e.length:=pC _ _;have x:e.length<=4:=by have:=h.len;omega
 have z:wJ c (n+4) (puts e ((aB f e.length E.TB).take i)):=by
  refine (h.puts (l:=(aB f e.length E.TB).take i) (λy C=> ?_)).mono (by grind)
  grind [ez,z64]
 refine g9 (j4 (by rw [a];exact g) λo j=> ?_)
 obtain ⟨D,F,G,I,A,J⟩:=z.all _ _ j
 have b:o.SZ=false:=by
  grind [ep]
 rw [IC b (r:=⟨f,(i:Int),true,⟨E.TB,0,0,0⟩⟩) q (by rw [A];exact u) (.inl rfl) (by omega)]
 simp only [zbs,l8];refine w _ ?_;rw [mP (DZ (t:=f) (m:=E.TB) g),Cb];unfold oj;simp only [j];rfl
open Go.Sx
theorem HI.logb(a:HI c ss n h):h.Tr.length<=20000000000:=by
 have:=a.UE;have:=a.TU;omega
theorem HI.at{h:za}(b:HI c ss n h)(d:h.or[i]? =some k'):∃s,ss[i]? =some s/\rB s k':=by
 have a:=(zes.1 d).1;rw [b.cl] at a;exact ⟨_,zeg a,b.Um i k' _ d (zeg a)⟩
theorem D0(d:aq c ss)(b:HI c ss n h)(a:h.or[i]? =some k')(e:k'.waits=true):
  xS h (i:Int)=some (Dh h i k' [] h.rings h.TF):=by
 obtain ⟨s,f,g⟩:=b.at a;unfold xS;rw [zV a,zbs,d7 e,ID a g (d.sl s (zmg f)) (by have:=b.logb;omega)];rfl
theorem Gx(J:aq c ss)(y:HI c ss n h){t:Nat}{k:zd}(K:h.or[t]? =some k)(hw:k.waits=false)(V:k.Tt<k.Tj.length):
  ∃cmd,k.Tj[k.Tt.toNat]? =some cmd/\OK (xS h (t:Int)) (CMv h t k cmd):=by
 obtain ⟨s,hs,L⟩:=y.at K;have p:=J.sl s (zmg hs);have hlog:=y.logb;have W:=y.Tm;have j:=y.own;have X:=L.Ve;obtain ⟨cmd,hx,hg⟩:=pA (xs:=k.Tj) X V;have A:Fit cmd:=J.fit s (zmg hs) cmd (by rw [<- L.Tj];exact zmg hg)
 refine ⟨cmd,hg,?_⟩;have hb:=y.TU;have hln:=y.Va;unfold xS;rw [zV K,zbs,d8 (by simp [hw])];rw [xJ (m:=h.Tr.length+_) (b:=176) (by grind)];simp only [zbs];rw [hx];simp only [zbs,l8]
 have told:∀E:Int,RR h cmd E->OK (ja {h with or:=h.or.set t (withA k ⟨E,k.Id.N,k.Id.TD,k.Id.Pairs⟩),Tr:=h.Tr++[mf t k]} (t:Int)) (CMv h t k cmd):=λE hE=>
  OK.eq (IE K L p (by omega) E k.Id.N (by simp) h.rings h.TF) (.told E hE)
 refine d5 (λa=>d6 (told 43 ⟨by decide,λ_=>.inl ⟨a,rfl⟩⟩) λr d=>b9 d) (λa=> ?_)
 have B:∀o∈h.Fd,o.SZ=false:=λo S=>by
  cases u:o.SZ with
  |false=>rfl
  |true=>rw [(y.Uu o S u).1] at a;cases a
 have hO4:h.Fd.length<=4:=by have:=j.len;have:=J.sh;omega
 refine d6 (R:=λo=>match o with
  |.inl q=>CMv h t k cmd {h with or:=h.or.set t ⟨q.1.Tj,q.1.Tt,true,q.1.Tf,⟨0,q.1.Id.N,q.1.Id.TD,q.1.Id.Pairs⟩,q.1.parts,q.1.Tc⟩,Fd:=q.2.1,SX:=q.2.2,Tr:=h.Tr++[mf t k]}
  |.inr r=>CMv h t k cmd r) ?_ (λo S=> ?_)
 rotate_left
 ·cases o with
  |inl q=>exact b9 S
  |inr r=>exact b9 S
 refine d6 (R:=λb=>b=decide (cmd.SV=0\/cmd.SV=1)) (d5 (λe=>b9 (by grind)) (λe=>b9 (by grind))) (λb Y=> ?_);subst Y;refine d5 (λf=> ?_) (λf=> ?_)
 ·have f:=yd f;refine d5 (λM=> ?_) (λM=> ?_)
  ·have M:cmd.SV=0:=by simpa using M
   obtain ⟨b,v,w⟩:=FB (h:=za.mk h.Fn h.Td h.Tm h.or h.LE h.Fd h.rings h.SX h.held h.Tb h.closed h.over (h.Tr++[mf t k]) h.TF) (c:=c) W [cmd.Item];rw [show xH {h with Tr:=(h.Tr++[(ze.mk 1 (t:Int) 0 k.Tt 0 0 0 0 0 0 (zg.mk 0 0 0 0) (zk.mk 0 false 0 false 0 0) 0 0)])} ([cmd.Item])=some b from v,zbs];refine d5 (λ_=>d6 (told 2 ⟨by decide,λz=>by omega⟩) λr d=>b9 d) (λC=> ?_);have g:=w C;have D:mkLen 1 48=some 1:=by grind [mkLen]
   have hit:bf cmd=[cmd.Item]:=by grind [bf]
   have hl:=wK j J.sh B (t:=(t:Int)) (l:=[cmd.Item]) (λi F=>⟨g i F,by rw [i6.1 F];exact A.it⟩) (by grind) (body:=dP (t:Int) cmd) (λi G s=>rfl)
   rw [D,zbs,show jM (dP (t:Int) cmd) (λ(I:(List zc))=>I) 1 0 h.Fd=_ from hl,zbs];have:=CMv.items (h:=h) (t:=t) (k:=k) (cmd:=cmd) a f (by rw [hit];simp) (by rw [hit];simp) (λi F=>by grind);rw [hit] at this;exact b9 this
  ·have M:cmd.SV≠0:=by simpa using M
   have h1:cmd.SV=1:=by omega
   have hit:bf cmd=cmd.Tw:=by grind [bf]
   refine d6 (R:=λb=>b=false->1<=cmd.Tw.length/\cmd.Tw.length<=16/\∀i∈cmd.Tw,B9 c i) ?_ (λb w=> ?_)
   ·refine d5 (λ_=>b9 λz=>by cases z) (λe1=>d5 (λ_=>b9 λz=>by cases z) (λe2=> ?_));obtain ⟨b,v,w⟩:=FB (h:=za.mk h.Fn h.Td h.Tm h.or h.LE h.Fd h.rings h.SX h.held h.Tb h.closed h.over (h.Tr++[mf t k]) h.TF) (c:=c) W cmd.Tw;rw [show xH {h with Tr:=(h.Tr++[(ze.mk 1 (t:Int) 0 k.Tt 0 0 0 0 0 0 (zg.mk 0 0 0 0) (zk.mk 0 false 0 false 0 0) 0 0)])} cmd.Tw=some b from v,zbs]
    grind [b9]
   refine d5 (λ_=>d6 (told 2 ⟨by decide,λz=>by omega⟩) λr d=>b9 d) (λC=> ?_);obtain ⟨l1,Z,g⟩:=w C;have D:mkLen (cmd.Tw.length:Int) 48=some cmd.Tw.length:=by grind [mkLen]
   have hl:=wK j J.sh B (t:=(t:Int)) (l:=cmd.Tw) (λi F=>⟨g i F,A.its i F⟩) (by omega) (body:=gZ (t:Int) cmd) (λi G s=>rfl);rw [D,zbs,xJ (by omega),zbs,hl,zbs];have:=CMv.items (h:=h) (t:=t) (k:=k) (cmd:=cmd) a f (by rw [hit];exact l1) (by rw [hit];exact Z) (λi F=>by grind)
   rw [hit] at this;exact b9 this
 have f:=yv f;refine d5 (λT=> ?_) (λT=> ?_)
 ·have T:cmd.SV=2:=by simpa using T
  refine d5 (λ_=>d6 (told 2 ⟨by decide,λz=>by omega⟩) λr d=>b9 d) (λD=> ?_);simp only [Bool.or_eq_false_iff,decide_eq_false_iff_not] at D;have hm1:mkLen (h.Fd.length:Int) 24=some h.Fd.length:=by grind [mkLen]
  rw [hm1,zbs,IF j J.sh B (by omega) (by rw [<- W];omega) (by omega),zbs];exact b9 (.walk a T (by omega) (by omega))
 refine d5 (λO=> ?_) (λO=> ?_)
 ·have O:cmd.SV=3:=by simpa using O
  refine d5 (λhbad=>d6 (told 2 ⟨by decide,λ_=>.inr ⟨a,rfl,by grind⟩⟩) λr d=>b9 d) (λD=> ?_);simp only [Bool.or_eq_false_iff,decide_eq_false_iff_not] at D;obtain ⟨r,d,P⟩:=pA (xs:=h.rings) (t:=cmd.TC) (by omega) (by omega);rw [d,zbs];obtain ⟨q1,U,q3,q4,hq,_⟩:=kh (y.Uj r (zmg P)).1 cmd.Tq h.TF;rw [hq,zbs];have Q:(cmd.TC.toNat:Int)=cmd.TC:=by omega
  have x:=CMv.fire (h:=h) (t:=t) (k:=k) (cmd:=cmd) cmd.TC.toNat r q3 q1 U q4 a O Q.symm P hq;simp only;refine d5 (λu=> ?_) (λu=> ?_)
  ·have u:U=0:=by simpa using u
   subst u;rw [xJ (m:=(h.Tr++_).length+_) (b:=176) (by grind)];simp only [zbs];rw [d7 (by simp [hw])];rw [d7 rfl,d7 rfl,Q] at x;have:=IE K L p (by omega) 0 q1 (es:=[mf t k]++[QX t k q1 cmd.TC]) (by simp) (h.rings.set cmd.TC.toNat q3) q4;rw [<- x4] at this;refine d6 (OK.eq this x) (λr d=>b9 d)
  ·have u:U≠0:=by simpa using u
   rw [d7 (by simp [u])];rw [d8 u,d8 u,j7] at x;exact d6 (OK.eq (IE K L p (by omega) U k.Id.N (es:=[mf t k]) (by simp) (h.rings.set cmd.TC.toNat q3) q4) x) (λr d=>b9 d)
 refine d6 (R:=λb=>b=true->4<=cmd.SV/\cmd.SV<=10) ?_ (λb v=> ?_)
 ·refine d5 (λe=>b9 λz=> ?_) (λ_=>d5 (λe=>b9 λz=> ?_) (λ_=>d5 (λe=>b9 λz=> ?_) (λ_=>d5 (λe=>b9 λz=> ?_) (λ_=>d5 (λe=>b9 λz=> ?_) (λ_=>d5 (λe=>b9 λz=> ?_) (λ_=>b9 λz=> ?_))))))
  all_goals (have z:=eq_of_beq z;omega)
 refine d5 (λe=> ?_) (λ_=>d6 (told 2 ⟨by decide,λz=>by simp [z] at O⟩) λr d=>b9 d);obtain ⟨k4,k10⟩:=v e;rw [xJ (m:=h.SX.length+_) (b:=144) (by grind)];exact b9 (.call a k4 k10)
open Go.Sx
theorem jS(h:(G.set i I)[j]? =some y):(j=i/\y=I/\i<G.length)\/(j≠i/\G[j]? =some y):=by
 rw [y6] at h;split at h
 ·rename_i e
  split at h
  ·exact .inl ⟨e.symm,(j6 h).symm,by assumption⟩
  ·cases h
 ·exact .inr ⟨λe=> ‹¬_› e.symm,h⟩
theorem vc(h:G[j]? =some y)(a:j≠i):(G.set i I)[j]? =some y:=by
 grind
theorem iN(h:G[i]? =some y):(G.set i I)[i]? =some I:=by
 grind
theorem HI.idle(a:HI c ss n h){k:zd}(b:h.or[i]? =some k)(d:k.Tf=0):bQ h.Fd i=0/\gE h i=0:=by
 have:=a.Ut i k b;omega
theorem Ay.keep(h:Ay J W r)(c:r.Ud≠n)(k':zd):Ay (J.set n k') W r:=by
 rcases h with ⟨u,k,e,d,a⟩|⟨j,e,b⟩
 ·refine .inl ⟨u,k,e,vc d (λz=>c (by rw [e,z])),a⟩
 ·exact .inr ⟨j,by grind,b⟩
theorem Ay.same(h:Ay J W r)(hl:g.length=J.length)(a:∀(t:Nat) k,J[t]? =some k->∃k',g[t]? =some k'/\k'.parts.length=k.parts.length/\k'.Id.TD.length=k.Id.TD.length):Ay g W r:=by
 rcases h with ⟨u,k,e,c,d,f,i⟩|⟨j,e,b⟩
 ·obtain ⟨k',l,m,n⟩:=a u k c;exact .inl ⟨u,k',e,l,d,by rw [m];exact f,by rw [n];exact i⟩
 ·exact .inr ⟨j,by rw [hl];exact e,b⟩
def Az(c:zG)(a:List zp):Prop:=(a.length:Int)=c.Ti/\∀r∈a,kU r/\∀q∈r.waiting,u64 q.Tq.A/\u64 q.Tq.B
theorem D1(b:HI c ss n h)(w:n+1<=100000000){k:zd}(x:h.or[i]? =some k)(y:ss[i]? =some B)(z:k.Tf=0)(l:rB B k')(q:k'.Tf=0)(A:k'.Tt<B.length)(t:B.length<=64)(F:es.length<=2){rs:List zp}(j:Az c rs)(g:zM):
  HI c ss (n+1) (Dh h i k' es rs g):=by
 obtain ⟨C,G⟩:=b.idle x z;exact
 {TU:=w
  Tm:=b.Tm
  cl:=by show (h.or.set i _).length=_;rw [k7];exact b.cl
  cr:=b.cr
  rg:=j.1
  TT:=b.TT.mono (by omega) (by omega)
  Uj:=j.2
  Um:=λu s D d f=>by
   rcases jS d with ⟨rfl,rfl,_⟩|⟨_,d⟩
   ·rw [y] at f;obtain rfl:=j6 f;have I:=l.Ve;have J:=l.UX;refine ⟨l.Tj,?_,?_,(λe=>by cases e),?_,λa m=> ?_,by simp [Fz,QV],rfl,by simp [Fz],(λp E=>by simp [Fz] at E),λ_=>q⟩
    ·show 0<=w64 (k'.Tt+1);rw [qe (by omega) (by omega)];omega
    ·show w64 (k'.Tt+1)<=_;rw [qe (by omega) (by omega)];omega
    ·show ((k'.Tc++[K2 k']).length:Int)=w64 (k'.Tt+1)
     grind [qe]
    ·rcases g8.1 m with m|m
     ·exact l.done a m
     grind [K3]
   ·exact b.Um u s D d f
  crew:=b.crew
  own:=b.own.mono (by omega)
  Vd:=λo v r j=>(b.Vd o v r j).keep (λe=>by have:=pD (show o∈h.Fd from v) j;rw [e,C] at this;omega) _
  Ut:=λu s d=>by
   rcases jS d with ⟨rfl,rfl,_⟩|⟨_,d⟩
   ·show k'.Tf=((bQ h.Fd u+gE h u:Nat):Int)
    grind
   ·exact b.Ut u s d
  UC:=b.UC
  call:=b.call
  Tb:=b.Tb
  UD:=b.UD
  Uu:=b.Uu
  UB:=b.UB
  UE:=by
   show (h.Tr++es++[Qb i k']).length<=_;have:=b.UE
   grind
  Va:=by have:=b.Va;show h.SX.length<=_;omega
  hel:=by have:=b.hel;show h.held.length<=_;omega}
theorem D2(a:HI c ss n h)(D:n+1<=100000000)(C:h.or[i]? =some K)(N:ss[i]? =some B)(E:K.Tf=0)(O:rB B k'){os:List zc}{l:List zx}
  (F:wJ c (16*n+16) os) (j:∀o∈os,o.SZ=true->h.closed=true/\∀w∈h.LE,w.SZ=true) (k:∀o∈os,∀r∈o.SX,(∃o'∈h.Fd,r∈o'.SX)\/(r.Ud=i/\0<=r.UI/\(r.Up=true->r.UI<k'.parts.length)/\(r.Up=false->r.UI<k'.Id.TD.length)))
  (d:∀u:Int,bQ os u=bQ h.Fd u+(if u=i then bQ os i else 0)) (m:∀u:Int,bV l u=bV h.SX u+(if u=i then bV l i else 0)) (p:k'.Tf=((bQ os i+bV l i:Nat):Int)) (G:bV l i=0\/(bV l i=1/\bQ os i=0))
  (f:∀y∈l,(∃i:Nat,y.Tn=i/\i<ss.length)/\y.cmd.Tu.length<=140737488355328/\4<=y.cmd.SV/\y.cmd.SV<=10) (hl:l.length<=n+1):HI c ss (n+1) (Kc h i K k' os l):=by
 obtain ⟨P,Q⟩:=a.idle C E
 have I:bV h.held i+(if h.closed=true/\h.over=false/\h.Tb=i then 1 else 0)=0:=by
  grind [gE]
 have b:∀u:Nat,gE (Kc h i K k' os l) u=if u=i then bV l i else gE h u:=by
  intro u;have s:=m u;unfold gE;show bV l u+bV h.held u+(if h.closed=true/\h.over=false/\h.Tb=u then 1 else 0)=_
  grind
 exact
 {TU:=D
  Tm:=a.Tm
  cl:=by show (h.or.set i _).length=_;rw [k7];exact a.cl
  cr:=a.cr
  rg:=a.rg
  TT:=a.TT.mono (by omega) (by omega)
  Uj:=a.Uj
  Um:=λu t J g v=>by
   rcases jS g with ⟨rfl,rfl,_⟩|⟨_,g⟩
   ·grind
   ·exact a.Um u t J g v
  crew:=a.crew
  own:=F.mono (by omega)
  Vd:=λo x r L=>by
   rcases k o x r L with ⟨o',s,z⟩|⟨e,s,z,M⟩
   ·exact (a.Vd o' s r z).keep (λe=>by grind [pD]) _
   ·exact .inl ⟨i,k',e,iN C,s,z,M⟩
  Ut:=λu t g=>by
   rw [b u];rcases jS g with ⟨rfl,rfl,_⟩|⟨A,g⟩
   ·rw [d7 rfl];exact p
   ·rw [d8 A];show t.Tf=((bQ os u+gE h u:Nat):Int)
    have:=d u;rw [d8 (by omega)] at this;rw [this];exact a.Ut u t g
  UC:=λu=>by
   rw [b u];show _\/_/\bQ os u=0;by_cases e:u=i
   ·grind
   ·rw [d8 e];have:=d u;rw [d8 (by omega)] at this;rw [this];exact a.UC u
  call:=λy q=>by
   rcases g8.1 q with q|q
   ·exact f y q
   ·exact a.call y (zar _ q)
  Tb:=a.Tb
  UD:=a.UD
  Uu:=j
  UB:=a.UB
  UE:=by
   show (h.Tr++[mf i K]).length<=_;have:=a.UE
   grind
  Va:=hl
  hel:=by have:=a.hel;show h.held.length<=_;omega}
theorem rB.withA(h:rB B k')(E N:Int):rB B (withA k' ⟨E,N,k'.Id.TD,k'.Id.Pairs⟩):=
 ⟨h.Tj,h.Ve,h.Vj,h.Vx,h.UX,h.done,h.res,h.Vo,h.Vc,h.part,h.UM⟩
theorem K4(g:aq c ss)(a:HI c ss n h)(j:n+1<=100000000)(b:h.or[i]? =some k')(k:k'.waits=true)(d:k'.Tf=0):HI c ss (n+1) (Dh h i k' [] h.rings h.TF):=by
 obtain ⟨s,e,f⟩:=a.at b;exact D1 a j b e d f d (f.Vx k) (g.sl s (zmg e)) (by simp) ⟨a.rg,a.Uj⟩ _
theorem NU(V:aq c ss)(m:HI c ss n h)(Q:n+1<=100000000)(L:h.or[a]? =some K)(hw:K.waits=false)(Z:K.Tt<K.Tj.length)(hc:K.Tj[K.Tt.toNat]? =some cmd)(hv:CMv h a K cmd F):HI c ss (n+1) F:=by
 obtain ⟨s,G,b⟩:=m.at L;have I:=V.sl s (zmg G);have J:=b.UM hw;have t:K.Tt<s.length:=by rw [<- b.Tj];exact Z
 have htl:a<ss.length:=(zes.1 G).1;have A:Fit cmd:=V.fit s (zmg G) cmd (by rw [<- b.Tj];exact zmg hc)
 obtain ⟨W,i2⟩:=m.idle L J;have B:bV h.SX a=0:=by grind [gE]
 have hO4:h.Fd.length<=4:=by have:=m.own.len;have:=V.sh;omega
 have C:∀l,∀o∈puts h.Fd l,o.SZ=true->h.closed=true/\∀w∈h.LE,w.SZ=true:=λl o M e=>by
  obtain ⟨j,hj⟩:=p6 M;obtain ⟨o2,O,e2⟩:=ep hj;exact m.Uu o2 (zmg O) (by rw [e2];exact e)
 cases hv with
 |told E hE=>exact D1 m Q L G J (b.withA E K.Id.N) J t I (by simp) ⟨m.rg,m.Uj⟩ _
 |fire i r r' n2 E g h1 O X R h5=>
  refine D1 m Q L G J (k':=withA K ⟨E,if E=0 then n2 else K.Id.N,K.Id.TD,K.Id.Pairs⟩) (b.withA _ _) J t I (rs:=h.rings.set i r') (es:=[mf a K]++if E=0 then [QX a K n2 i] else []) (by grind) ⟨by rw [k7];exact m.rg,λq P=> ?_⟩ _
  rcases r7 P with P|rfl
  ·exact m.Uj q P
  ·obtain ⟨a1,a2⟩:=m.Uj r (zmg R);obtain ⟨q1,q2,q3,q4,P,b1,b2,b3⟩:=kh a1 cmd.Tq h.TF;rw [h5] at P;cases P;refine ⟨b1,λx d=> ?_⟩;rcases b3 with ⟨_,_,e⟩|⟨_,e⟩
   ·rw [e] at d;rcases g8.1 d with d|d
    ·exact a2 x d
    ·rw [i6.1 d];exact A.ev
   grind
 |items h1 O X R h5=>
  have S:∀x∈vG (a:Int) h.Fd.length (bf cmd),x.1<h.Fd.length:=λx d=>by
   obtain ⟨i,y,T,rfl⟩:=et d;obtain ⟨p,hp,S⟩:=Av (k:=y.TQ) (n:=(h.Fd.length:Int)) (by rw [m.own.len];exact V.sh.1) (by grind)
   grind [io]
  have v:=B8 (l:=vG (a:Int) h.Fd.length (bf cmd)) (f:=(a:Int)) (λx d=>by grind [et]) h.Fd S;rw [fW] at v;have z:=v a;rw [d7 rfl,W] at z
  refine D2 m Q L G J (k':=Ax K (bf cmd).length (List.replicate (bf cmd).length uk) K.parts) (os:=puts h.Fd (vG a h.Fd.length (bf cmd))) (l:=h.SX) ⟨b.Tj,b.Ve,b.Vj,λ_=>t,b.UX,b.done,by show (List.replicate _ _).length<=16;rw [SH];exact R,b.Vo,b.Vc,b.part,λe=>by cases e⟩
   ((m.own.puts (l:=vG (a:Int) h.Fd.length (bf cmd)) (λx d=> ?_)).mono (by grind [fW])) (C _) (λo M r U=> ?_) (λu=> ?_) (λu=> ?_) ?_ ?_ ?_ (by have:=m.Va;omega)
  ·obtain ⟨i,y,T,rfl⟩:=et d;have Y:=h5 y (zmg T);rw [m.Tm] at Y;refine ⟨Y.1,Y.2.1,.inr Y.2.2,?_⟩;show u64 y.TL;have D:=zmg T;unfold bf at D;split at D
   ·rw [i6.1 D];exact A.it
   ·exact A.its y D
  ·rcases Aw M U with h6|⟨x,d,rfl⟩
   ·exact .inl h6
   ·obtain ⟨i,y,T,rfl⟩:=et d;have hil:=(zes.1 T).1;exact .inr ⟨rfl,by grind,(λe=>by cases e),λ_=>by show (i:Int)<(List.replicate _ _).length;rw [SH];omega⟩
  ·grind
  ·rw [B];simp
  ·rw [z,B];show ((bf cmd).length:Int)=_;omega
  ·exact .inl B
  ·exact λx d=>m.call x (zal _ d)
 |walk h1 O X R=>
  have v:=B8 (l:=aB (a:Int) h.Fd.length cmd.TB) (f:=(a:Int)) (λx d=>by grind [ez]) h.Fd (λx d=>by grind [ez]);rw [iM] at v;have z:=v a;rw [d7 rfl,W] at z
  refine D2 m Q L G J (k':=Ax K h.Fd.length K.Id.TD (List.replicate h.Fd.length [])) (os:=puts h.Fd (aB a h.Fd.length cmd.TB)) (l:=h.SX) ⟨b.Tj,b.Ve,b.Vj,λ_=>t,b.UX,b.done,b.res,b.Vo,by show (List.replicate _ _).length<=4;rw [SH];exact hO4,λp hp=>by rw [z8 (show p∈List.replicate _ _ from hp)];simp,λe=>by cases e⟩
   ((m.own.puts (l:=aB (a:Int) h.Fd.length cmd.TB) (λx d=> ?_)).mono (by grind [iM])) (C _) (λo M r U=> ?_) (λu=> ?_) (λu=> ?_) ?_ ?_ ?_ (by have:=m.Va;omega)
  ·obtain ⟨i,hi,rfl⟩:=ez d;rw [m.Tm] at R
   grind [z64]
  ·rcases Aw M U with h6|⟨x,d,rfl⟩
   ·exact .inl h6
   ·obtain ⟨i,hi,rfl⟩:=ez d;exact .inr ⟨rfl,by grind,λ_=>(by show (i:Int)<(List.replicate _ _).length;rw [SH];omega),λe=>by cases e⟩
  ·grind
  ·rw [B];simp
  ·rw [z,B];show (h.Fd.length:Int)=_;omega
  ·exact .inl B
  ·exact λx d=>m.call x (zal _ d)
 |call h1 O X=>
  have z:bV (h.SX++[⟨a,cmd,0⟩]) a=1:=by grind [gD,nC]
  refine D2 m Q L G J (k':=Ax K 1 K.Id.TD K.parts) (os:=h.Fd) (l:=h.SX++[⟨a,cmd,0⟩]) ⟨b.Tj,b.Ve,b.Vj,λ_=>t,b.UX,b.done,b.res,b.Vo,b.Vc,b.part,λe=>by cases e⟩
   (m.own.mono (by omega)) m.Uu (λo M r U=>.inl ⟨o,M,U⟩) (λu=> ?_) (λu=> ?_) ?_ ?_ ?_ (by have:=m.Va;rw [q7];simp only [u5,y9];omega)
  ·rw [W];simp
  ·grind [gD,nC,bV]
  ·rw [z,W];rfl
  ·grind
  ·intro x d;rcases g8.1 d with d|d
   ·exact m.call x (zal _ d)
   ·rw [i6.1 d];exact ⟨⟨a,rfl,htl⟩,A.UV,O,X⟩
open Go.Sx
def K5(k:zn)(t:Nat)(x:ql):zn:=⟨k.SU.set t ⟨2,x.Uk⟩,k.LT⟩
def IG(t:Int):ze:=⟨15,t,0,0,0,0,0,0,0,0,kj,uk,0,0⟩
def Qc(t:Int)(q:aH)(cmd e:Int):ze:=⟨3,t,q.To,cmd,q.UI,e,0,0,0,0,q.Item,q.TD,0,0⟩
def Rq(w:zB)(r:zk):zB:={w with TV:=some r}
def QY(k:zd)(r:List zk)(p:List (List zt)):zd:={k with Tf:=k.Tf-1,Id:=⟨k.Id.E,k.Id.N,r,k.Id.Pairs⟩,parts:=p}
def FC(h:za)(c:List zd)(b:List zB)(os:List zc)(es:List ze):za:=
 {h with or:=c,LE:=b,Fd:=os,Tr:=h.Tr++es}
structure sj (fu:Nat) (o:zc) (q:aH) (o':zc) (x:zq) (xs:List zq):Prop where
 step:jI fu o=some (q,true,o')
 SX:o.SX=x::xs
 UY:o'.SX=xs
 to:q.To=x.Ud
 tag:q.UI=x.UI
 walk:q.Up=x.Up
 item:q.Item=x.Item
 Ta:q.Pairs.length<=16
 val:u64 q.TD.TL
 ok:ko o'
 ou:GF o'
 sh:o'.Uo=o.Uo/\o'.TR=o.TR/\o'.SZ=o.SZ/\o'.maps.length=o.maps.length
inductive SMv (fu:Nat) (h:za) (i:Nat) (o:zc):za->Prop
 | ends (t : Nat) (x : ql) : t = h.or.length + h.LE.length + i -> o.SX = [] -> h.Td.SU[t]? = some x -> x.SY ≠ 2 ->
   SMv fu h i o {h with Td:=K5 h.Td t x,Fd:=h.Fd.set i {o with SZ:=true},Tr:=h.Tr++[IG t]}
 | crew (t : Nat) (q : aH) (o' : zc) (x : zq) (xs : List zq) (j : Nat) (w : zB) : t = h.or.length + h.LE.length + i -> sj fu o q o' x xs -> x.Ud = (h.or.length : Int) + j -> h.LE[j]? = some w ->
   SMv fu h i o (FC h h.or (h.LE.set j (Rq w q.TD)) (h.Fd.set i o') [Qc t q 0 w.SQ.Tz.TE.N])
 | walk (q : aH) (o' : zc) (x : zq) (xs : List zq) (u : Nat) (k : zd) : sj fu o q o' x xs -> x.Ud = (u : Int) -> h.or[u]? = some k -> x.Up = true -> 0 <= x.UI -> x.UI < k.parts.length ->
   SMv fu h i o (FC h (h.or.set u (QY k k.Id.TD (k.parts.set x.UI.toNat q.Pairs))) h.LE (h.Fd.set i o') [])
 | item (t : Nat) (q : aH) (o' : zc) (x : zq) (xs : List zq) (u : Nat) (k : zd) : t = h.or.length + h.LE.length + i -> sj fu o q o' x xs -> x.Ud = (u : Int) -> h.or[u]? = some k -> x.Up = false -> 0 <= x.UI -> x.UI < k.Id.TD.length ->
   SMv fu h i o (FC h (h.or.set u (QY k (k.Id.TD.set x.UI.toNat q.TD) k.parts)) h.LE (h.Fd.set i o') [Qc t q k.Tt 0])
theorem AA:Pst (jI n o) (λq=>q.2.2.Uo=o.Uo/\q.2.2.TR=o.TR/\q.2.2.SZ=o.SZ/\q.2.2.maps.length=o.maps.length):=by
 unfold jI;refine k8 (i9 ⟨rfl,rfl,rfl,rfl⟩) (j5 λx=>j5 λy=>k8 (j5 λs=>j5 λp=>i9 ⟨rfl,rfl,rfl,rfl⟩) (j5 λs=>j5 λq=>i9 ⟨rfl,rfl,rfl,by grind⟩))
theorem Qd(c:101<n)(h:ko o)(f:GF o)(hl:o.SX=L::xs):∃q o',sj n o q o' L xs:=by
 obtain ⟨⟨q,b,o'⟩,d,i,w,j⟩:=pH c h;have g:=Cl f _ d;have k:=AA _ d;rcases j with ⟨e,_⟩|⟨y,x,e,rfl,a,l,m,p,s,t⟩
 ·grind
 ·have u:=hl.symm.trans e;cases u;refine ⟨q,o',d,hl,a,l,m,p,s,t,g.1,i,⟨g.2,λr v=> ?_⟩,k⟩;have a:o'.SX=xs:=a;rw [a] at v;exact f.SX r (by grind)
theorem NV{os:List zc}{b:Nat}(h:∀o∈os,o.SX.length<=b)(f:Int):bQ os f<=os.length*b:=by
 unfold bQ
 induction os with
 |nil=>simp
 |cons o os i=>
  have c:=h o zcs;have d:=i λp a=>h p (zcm _ a)
  have e:sL o.SX f<=o.SX.length:=List.countP_le_length;rw [t6,ym,u5,v9];omega
theorem HI.cnt_small(d:aq c ss)(a:HI c ss n h)(f:Int):bQ h.Fd f<=6400000000:=by
 have i:=NV (os:=h.Fd) (b:=16*n) (λo e=>by
  obtain ⟨j,g⟩:=p6 e;exact (a.own.all j o g).2.2.2.2.2) f
 have k:=a.own.len;have l:=d.sh;have m:=a.TU;have p:h.Fd.length*(16*n)<=4*(16*n):=p7 _ (by omega);omega
theorem HI.crn(a:aq c ss)(b:HI c ss n h):h.LE.length=c.SS.toNat:=by have:=b.cr;have:=a.wk;omega
theorem HI.own4(a:aq c ss)(b:HI c ss n h):h.Fd.length<=4/\h.Fd.length=c.SR.toNat:=by have:=b.own.len;have:=a.sh;omega
theorem K6{fu:Nat}(t:101<fu)(v:aq c ss)(f:HI c ss n h)(z:h.Fd[i]? =some o)(C:a=h.or.length+h.LE.length+i){x:ql}(J:h.Td.SU[a]? =some x)(K:x.SY≠2):
  OK (cC fu h (a:Int)) (SMv fu h i o):=by
 have S:=(zes.1 z).1;have T:=f.cl;have U:=f.crn v;have V:=v.cl;have W:=v.wk;have X:=(f.own4 v).1;have L:=f.logb;obtain ⟨M,Y,a3,a4,a5,a6⟩:=f.own.all i o z;unfold cC qE zW;simp only [zbs];have Z:w64 ((h.or.length:Int)+(h.LE.length:Int))=(h.or.length:Int)+(h.LE.length:Int):=qe (by omega) (by omega);have e2:w64 ((a:Int)-((h.or.length:Int)+(h.LE.length:Int)))=(i:Int):=by grind [qe]
 rw [Z,e2,zV z];simp only [zbs,l8];cases hl:o.SX with
 |nil=>
  obtain ⟨⟨q,b,o'⟩,h1,h2,h3,h4⟩:=pH t M;rcases h4 with ⟨_,D,E⟩|⟨y,ys,e,_⟩
  ·have D:b=false:=D;have E:o'=o:=E;subst D E;rw [h1];simp only [zbs];refine o8 rfl ?_
   have e5:cB o'=some (0,{o' with SZ:=true}):=by
    grind [cB,hl]
   rw [e5];simp only [zbs];rw [xJ (m:=h.Tr.length+_) (b:=176) (by grind)];simp only [zbs];rw [oG J K];simp only [zbs];exact b9 (.ends a x C hl J K)
  grind
 |cons r F=>
  obtain ⟨q,o',d⟩:=Qd t M Y hl;rw [d.step];simp only [zbs];refine j8 rfl ?_;rw [d.to,d.tag];have w:=f.Vd o (zmg z) r (by grind);rcases w with ⟨u,k,A,l,B,N,O⟩|⟨j,ej,hj,hjw⟩
  ·have hul:=(zes.1 l).1;refine j8 (by grind) ?_;rw [A,zV l];simp only [zbs,l8];obtain ⟨s,hs,hck⟩:=f.at l;have P:=f.Ut u k l;have hcs:=f.cnt_small v u;have hex:=f.UC u;have Q:w64 (k.Tf-1)=k.Tf-1:=qe (by omega) (by omega);rw [d.walk];refine d5 (λg=> ?_) (λg=> ?_)
   ·obtain ⟨p,G,_⟩:=pA (xs:=k.parts) B (N g);rw [G];simp only [zbs];rw [Q];have:=SMv.walk (fu:=fu) (h:=h) (i:=i) (o:=o) q o' r F u k d A l g B (N g);unfold FC at this;rw [j7] at this;exact b9 this
   ·obtain ⟨p,G,_⟩:=pA (xs:=k.Id.TD) B (O g);rw [G];simp only [zbs];rw [Q,xJ (m:=h.Tr.length+_) (b:=176) (by grind)];have:=SMv.item (fu:=fu) (h:=h) (i:=i) (o:=o) a q o' r F u k C d A l g B (O g);unfold FC Qc at this;rw [d.to,d.tag,A] at this;exact b9 this
  ·have I:j<h.LE.length:=hj;have R:=zeg I;refine o8 (by grind) ?_;have e7:w64 (r.Ud-(h.or.length:Int))=(j:Int):=by grind [qe]
   rw [e7,zV R];simp only [zbs,l8];unfold xq;simp only [zbs];rw [xJ (m:=h.Tr.length+_) (b:=176) (by grind)];have:=SMv.crew (fu:=fu) (h:=h) (i:=i) (o:=o) a q o' r F j h.LE[j] C d ej R;unfold FC Qc at this;rw [d.to,d.tag] at this;exact b9 this
theorem wJ.set(h:wJ c n e)(b:e[i]? =some o)(d:ko o')(f:GF o')(g:o'.Uo=o.Uo/\o'.TR=o.TR/\o'.maps.length=o.maps.length)(k:o'.SX.length<=n):wJ c n (e.set i o'):=by
 refine ⟨by rw [k7];exact h.len,λj p a=> ?_⟩
 rcases jS a with ⟨rfl,rfl,_⟩|⟨_,a⟩
 ·obtain ⟨l,m,q,r,s,t⟩:=h.all _ _ b
  grind
 ·exact h.all j p a
theorem D3(U:aq c ss)(d:HI c ss n h)(R:n+1<=100000000)(v:h.Fd[i]? =some o){xs:List zq}(g:sj a o q o' L xs) (V:es.length<=2) (x:J.length=h.or.length) (y:b.length=h.LE.length) (S:∀w∈b,Ca c.Ti.toNat c.Maps.length w) (C:∀w∈b,∃D∈h.LE,w.SZ=D.SZ)
  (O:∀(t:Nat) k',J[t]? =some k'->∃k,h.or[t]? =some k/\k'.parts.length=k.parts.length/\k'.Id.TD.length=k.Id.TD.length/\k'.Tf=k.Tf-(if L.Ud=t then 1 else 0)/\∀s,ss[t]? =some s->rB s k->rB s k'):HI c ss (n+1) (FC h J b (h.Fd.set i o') es):=by
 obtain ⟨W,X,Y,Z,a5,a6⟩:=d.own.all i o v
 have z:∀f:Int,bQ (h.Fd.set i o') f+(if L.Ud=f then 1 else 0)=bQ h.Fd f:=λf=>by
  have A:=gC v o' f;rw [g.SX,g.UY,ui] at A;omega
 have j:(h.closed=true/\∀w∈h.LE,w.SZ=true)->h.closed=true/\∀w∈b,w.SZ=true:=λe=>⟨e.1,λw B=>by
  grind⟩
 have P:o'.SX.length+1=o.SX.length:=by rw [g.SX,g.UY];rfl
 have l:∀(t:Nat) k,h.or[t]? =some k->∃k',J[t]? =some k'/\k'.parts.length=k.parts.length/\k'.Id.TD.length=k.Id.TD.length:=λt k hk=>by
  grind
 exact
 {TU:=R
  Tm:=d.Tm
  cl:=x.trans d.cl
  cr:=by show (b.length:Int)=_;rw [y];exact d.cr
  rg:=d.rg
  TT:=d.TT.mono (by omega) (by omega)
  Uj:=d.Uj
  Um:=λt k' s m Q=>by
   obtain ⟨k,E,_,_,_,T⟩:=O t k' m;exact T s Q (d.Um t k s E Q)
  crew:=S
  own:=(d.own.set v g.ok g.ou ⟨g.sh.1,g.sh.2.1,g.sh.2.2.2⟩ (by omega)).mono (by omega)
  Vd:=λp u r F=>by
   have G:∃I∈h.Fd,r∈I.SX:=by
    rcases r7 (show p∈h.Fd.set i o' from u) with u|rfl
    ·exact ⟨p,u,F⟩
    ·exact ⟨o,zmg v,by rw [g.SX];rw [g.UY] at F;exact zcm _ F⟩
   obtain ⟨I,K,M⟩:=G;show Ay J b.length r;rw [y];exact (d.Vd I K r M).same x l
  Ut:=λt k' m=>by
   obtain ⟨k,E,_,_,e4,_⟩:=O t k' m;have A:=d.Ut t k E;have N:=z t;show k'.Tf=((bQ (h.Fd.set i o') t+gE h t:Nat):Int)
   grind
  UC:=λt=>by
   have A:=d.UC t;have N:=z t;show gE h t=0\/gE h t=1/\bQ (h.Fd.set i o') t=0
   grind
  call:=d.call
  Tb:=d.Tb
  UD:=d.UD
  Uu:=λp u e=>by
   rcases r7 (show p∈h.Fd.set i o' from u) with u|rfl
   ·exact j (d.Uu p u e)
   ·exact j (d.Uu o (zmg v) (by rw [<- g.sh.2.2.1];exact e))
  UB:=λw B e=>by
   obtain ⟨D,A,N⟩:=C w B;exact d.UB D A (by rw [<- N];exact e)
  UE:=by
   show (h.Tr++es).length<=_;have:=d.UE
   grind
  Va:=by have:=d.Va;show h.SX.length<=_;omega
  hel:=by have:=d.hel;show h.held.length<=_;omega}
theorem NW(J:aq c ss)(b:HI c ss n h)(G:n+1<=100000000)(m:h.Fd[i]? =some o)(K:o.SX=[]->h.closed=true/\∀w∈h.LE,w.SZ=true)(g:SMv a h i o F):HI c ss (n+1) F:=by
 obtain ⟨C,O,X,Y,Z,R⟩:=b.own.all i o m;cases g with
 |ends t x P hl I hm=>
  have D:∀f:Int,bQ (h.Fd.set i {o with SZ:=true}) f=bQ h.Fd f:=λf=>by
   have Q:bQ (h.Fd.set i {o with SZ:=true}) f+sL o.SX f=bQ h.Fd f+sL o.SX f:=gC m {o with SZ:=true} f;omega
  exact
  {TU:=G
   Tm:=b.Tm
   cl:=b.cl
   cr:=b.cr
   rg:=b.rg
   TT:=b.TT.mono (by omega) (by omega)
   Uj:=b.Uj
   Um:=b.Um
   crew:=b.crew
   own:=(b.own.set m (o':={o with SZ:=true}) ⟨C.s1,C.s4,C.m4,C.all,C.UL⟩ ⟨O.maps,O.SX⟩ ⟨rfl,rfl,rfl⟩ R).mono (by omega)
   Vd:=λp y r S=>by
    rcases r7 (show p∈h.Fd.set i _ from y) with y|rfl
    ·exact b.Vd p y r S
    grind
   Ut:=λu k I=>by
    show k.Tf=((bQ (h.Fd.set i _) u+gE h u:Nat):Int)
    rw [D];exact b.Ut u k I
   UC:=λu=>by
    show gE h u=0\/gE h u=1/\bQ (h.Fd.set i _) u=0;rw [D];exact b.UC u
   call:=b.call
   Tb:=b.Tb
   UD:=by show (h.Td.SU.set t _).length=_;rw [k7];exact b.UD
   Uu:=λp y e=>K hl
   UB:=b.UB
   UE:=by
    show (h.Tr++[IG t]).length<=_;have:=b.UE
    grind
   Va:=by have:=b.Va;show h.SX.length<=_;omega
   hel:=by have:=b.hel;show h.held.length<=_;omega}
 |crew t q o' x xs j w P l B z=>
  refine D3 J b G m l (by simp) rfl (by grind) (λv g=> ?_) (λv g=> ?_) (λu k I=>⟨k,I,rfl,rfl,?_,λs _ e=>e⟩)
  ·rcases r7 g with g|rfl
   ·exact b.crew v g
   ·have A:=b.crew w (zmg z);exact ⟨A.Tz,A.cur,λr e=>by cases e;exact l.val,A.over⟩
  ·rcases r7 g with g|rfl
   ·exact ⟨v,g,rfl⟩
   ·exact ⟨w,zmg z,rfl⟩
  grind
 |walk q o' x xs u k l B E z T U=>
  refine D3 J b G m l (by simp) (by grind) rfl b.crew (λw z=>⟨w,z,rfl⟩) (λv k' d=> ?_);rcases jS d with ⟨rfl,rfl,_⟩|⟨L,d⟩
  ·refine ⟨k,E,by show (k.parts.set _ _).length=_;rw [k7],rfl,by rw [d7 B];rfl,λs V e=>⟨e.Tj,e.Ve,e.Vj,e.Vx,e.UX,e.done,e.res,e.Vo,by show (k.parts.set _ _).length<=4;rw [k7];exact e.Vc,λp y=> ?_,λM=> ?_⟩⟩
   ·rcases r7 (show p∈k.parts.set _ _ from y) with y|rfl
    ·exact e.part p y
    ·exact l.Ta
   ·have W:=e.UM M;have Q:=b.Ut v k E;have N:=pD (zmg m) (r:=x) (by rw [l.SX];exact zcs)
    rw [B] at N;omega
  grind
 |item t q o' x xs u k P l B E z T U=>
  refine D3 J b G m l (by simp) (by grind) rfl b.crew (λw z=>⟨w,z,rfl⟩) (λv k' d=> ?_);rcases jS d with ⟨rfl,rfl,_⟩|⟨L,d⟩
  ·refine ⟨k,E,rfl,by show (k.Id.TD.set _ _).length=_;rw [k7],by rw [d7 B];rfl,λs V e=>⟨e.Tj,e.Ve,e.Vj,e.Vx,e.UX,e.done,by show (k.Id.TD.set _ _).length<=16;rw [k7];exact e.res,e.Vo,e.Vc,e.part,λM=> ?_⟩⟩
   have W:=e.UM M;have Q:=b.Ut v k E;have N:=pD (zmg m) (r:=x) (by rw [l.SX];exact zcs)
   rw [B] at N;omega
  grind
end Go.Proofs.YtplmgfkghomelaaGreatDoor.KH
