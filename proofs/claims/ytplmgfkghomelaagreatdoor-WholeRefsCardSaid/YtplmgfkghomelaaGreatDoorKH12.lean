/- Lemmas. -/
import Derived.Test.YtplmgfkghomelaaGreatDoorKReg3
set_option linter.all false
namespace Go.Proofs.YtplmgfkghomelaaGreatDoor.KH
open Go.Sx
variable {c:zH}{n i a j W:Nat}{h F:za}{ss:List (List zF)}{o o':zc}{x:Nat×zq}{r L:zq}{α:Type}{l:List (Nat×zq)}{es:List ze}{m f:Int}{y I:α}{k' K:zd}{xs:List zq}{d:List Nat}{e A:List zc}{v:List zx}{z:zx}{B:List zF}{C:List zg}{D:zg}{E cmd:zF}{G:List α}{J g:List zd}{q:vw}{b:List zA}
def KI(o:zc)(r:zq):zc:={o with TZ:=o.TZ++[r]}
def oG(os:List zc)(x:Nat×zq):List zc:=match os[x.1]? with
 |some o=>os.set x.1 (KI o x.2)
 |none=>os
def puts(os:List zc)(l:List (Nat×zq)):List zc:=l.foldl oG os
theorem pN(os:List zc)(x:Nat×zq):(oG os x).length=os.length:=by
 grind [oG]
theorem pO(l:List (Nat×zq)):∀os:List zc,(puts os l).length=os.length:=by
 induction l with
 |nil=>exact λos=>rfl
 |cons x l i=>exact λos=>(i (oG os x)).trans (pN os x)
def th(l:List zq)(f:Int):Nat:=l.countP (λr=>r.Vf==f)
def bS(os:List zc)(f:Int):Nat:=(os.map (λo=>th o.TZ f)).sum
def bX(l:List zx)(t:Int):Nat:=l.countP (λx=>x.Ut==t)
theorem Ei(h:d[i]? =some a)(b:Nat):(d.set i b).sum+a=d.sum+b:=by
 induction d generalizing i with
 |nil=>simp at h
 |cons x d c=>
  cases i with
  |zero=>simp at h;subst h;simp;omega
  |succ i=>
   grind
theorem gL(h:e[i]? =some o)(o':zc)(f:Int):bS (e.set i o') f+th o.TZ f=bS e f+th o'.TZ f:=by
 unfold bS;rw [yo];exact Ei (by grind) _
theorem uu(l:List zq)(r:zq)(f:Int):th (l++[r]) f=th l f+if r.Vf=f then 1 else 0:=by
 grind [th]
theorem uv(l:List zq)(r:zq)(f:Int):th (r::l) f=th l f+if r.Vf=f then 1 else 0:=by
 grind [th]
theorem iC(l:List zx)(x:zx)(f:Int):bX (x::l) f=bX l f+if x.Ut=f then 1 else 0:=by
 grind [bX]
theorem gM(l a:List zx)(f:Int):bX (l++a) f=bX l f+bX a f:=by
 grind [bX]
theorem nT(x:zx)(f:Int):bX [x] f=if x.Ut=f then 1 else 0:=by
 grind [iC,bX]
theorem uw{os:List zc}(h:x.1<os.length)(f:Int):bS (oG os x) f=bS os f+if x.2.Vf=f then 1 else 0:=by
 unfold oG;rw [zeg h];have:=gL (zeg h) (KI os[x.1] x.2) f
 grind [th,KI,uu,bS]
theorem Ce(a:∀x∈l,x.2.Vf=f):∀os:List zc,(∀x∈l,x.1<os.length)->∀g,bS (puts os l) g=bS os g+if f=g then l.length else 0:=by
 induction l with
 |nil=>intro os h g;simp [puts]
 |cons x l i=>
  intro os h g;have b:=uw (h x zcs) g
  grind [oG,pN,bS,puts]
theorem GY(h:a∈d):a<=d.sum:=by
 induction d with
 |nil=>cases h
 |cons x d i=>
  grind
theorem LG(h:r∈xs):1<=th xs r.Vf:=by
 grind [th]
theorem nU(a:o∈e)(h:r∈o.TZ):1<=bS e r.Vf:=by
 have b:=LG h
 have c:th o.TZ r.Vf<=bS e r.Vf:=by
  unfold bS;exact GY (x2.2 ⟨o,a,rfl⟩)
 omega
theorem tK(h:z∈v):1<=bX v z.Ut:=by
 unfold bX;exact List.countP_pos_iff.2 ⟨z,h,by simp⟩
structure wS (c:zH) (b:Nat) (os:List zc):Prop where
 len:(os.length:Int)=c.Ui
 all:∀(i:Nat)(o:zc),os[i]? =some o->kF o/\G6 o/\o.Vu=i/\o.UX=c.Ui/\o.maps.length=c.Maps.length/\o.TZ.length<=b
theorem wS.mono(h:wS c n e)(l:n<=a):wS c a e:=
 ⟨h.len,λi o b=>by obtain ⟨d,f,g,j,k,m⟩:=h.all i o b;exact ⟨d,f,g,j,k,by omega⟩⟩
theorem wS.put(h:wS c n A)(g:0<=x.2.Item.UI)(j:x.2.Item.UI<c.Maps.length)(q:x.2.Vw=true\/(0<=x.2.Item.Op/\x.2.Item.Op<5))(t:u64 x.2.Item.UQ):wS c (n+1) (oG A x):=by
 refine ⟨by rw [pN];exact h.len,λi o a=> ?_⟩
 unfold oG at a;split at a
 ·rename_i m s
  rw [y7] at a;split at a
  ·rename_i e
   subst e;split at a
   ·obtain rfl:=i8 a;obtain ⟨b,d,k,l,f,p⟩:=h.all _ _ s;refine ⟨{b with VR:=λr hr=> ?_},⟨d.maps,λr hr=> ?_⟩,k,l,f,?_⟩
    ·rcases f8.1 hr with hr|hr
     ·exact b.VR r hr
     ·rw [g8.1 hr];exact ⟨g,by show _<((m.maps.length:Nat):Int);rw [f];exact j,q⟩
    ·rcases f8.1 hr with hr|hr
     ·exact d.TZ r hr
     grind
    ·show (m.TZ++[x.2]).length<=_
     grind
   ·cases a
  ·obtain ⟨b,d,k,l,f,p⟩:=h.all _ _ a
   grind
 ·obtain ⟨b,d,k,l,f,p⟩:=h.all _ _ a
  grind
theorem wS.puts:∀{b:Nat} {os:List zc} (h:wS c b os) (hl:∀x∈l,0<=x.2.Item.UI/\x.2.Item.UI<c.Maps.length/\(x.2.Vw=true\/(0<=x.2.Item.Op/\x.2.Item.Op<5))/\u64 x.2.Item.UQ),wS c (b+l.length) (KH.puts os l):=by
 induction l with
 |nil=>exact λh _=>h
 |cons x l i=>
  intro b os h hl;obtain ⟨a,d,e,f⟩:=hl x zcs;have:=i (h.put a d e f) (λy g=>hl y (zcm _ g));exact this.mono (by grind)
theorem AJ:∀{os:List zc} {o:zc} {r:zq},o∈KH.puts os l->r∈o.TZ->(∃o'∈os,r∈o'.TZ)\/∃x∈l,x.2=r:=by
 induction l with
 |nil=>exact λb c=>.inl ⟨_,b,c⟩
 |cons x l i=>
  intro os o r b c;rcases i (os:=oG os x) b c with ⟨o',h,a⟩|⟨y,h,a⟩
  ·unfold oG at h;split at h
   ·rename_i d e
    rcases r9 h with h|rfl
    ·grind
    ·rcases f8.1 (show r∈d.TZ++[x.2] from a) with a|a
     ·grind
     grind
   grind
  grind
theorem pP(h:(oG A x)[i]? =some o):∃o',A[i]? =some o'/\o'.Ue=o.Ue:=by
 unfold oG at h;split at h
 ·rename_i a b
  rw [y7] at h;split at h
  ·rename_i e
   subst e;split at h
   ·obtain rfl:=i8 h;exact ⟨a,b,rfl⟩
   ·cases h
  ·exact ⟨o,h,rfl⟩
 ·exact ⟨o,h,rfl⟩
theorem eA:∀{os:List zc} {i:Nat} {o:zc},(KH.puts os l)[i]? =some o->∃o',os[i]? =some o'/\o'.Ue=o.Ue:=by
 induction l with
 |nil=>exact λh=>⟨_,h,rfl⟩
 |cons x l a=>
  intro os i o h;obtain ⟨b,c,e⟩:=a (os:=oG os x) h
  grind [pP]
def iD(k:Int)(n:Nat):Nat:=((aA k (n:Int)).getD 0).toNat
theorem Ej(h:wS c i e)(j:1<=c.Ui/\c.Ui<=4)(d:∀o∈e,o.Ue=false)(f:0<=r.Item.UI)(g:r.Item.UI<c.Maps.length)(b:0<=r.Item.Op/\r.Item.Op<5)(t:(i+1)*56<=140737488355328):
  ∃(p:Nat)(o:zc),iD r.Item.UV e.length=p/\aA r.Item.UV (e.length:Int)=some (p:Int)/\p<e.length/\Go.Sx.idx e (p:Int)=some o/\e[p]? =some o/\jI o [r]=some (0,KI o r):=by
 obtain ⟨p,l,q⟩:=AG (k:=r.Item.UV) (n:=(e.length:Int)) (by rw [h.len];exact j.1) (by rw [h.len];exact j.2)
 have a:p<e.length:=by omega
 have m:=zeg a;obtain ⟨u,v,w,x,s,y⟩:=h.all _ _ m;refine ⟨p,e[p],by grind [iD],l,a,oE a,m,?_⟩;rw [h.len] at l;exact I9 (d _ (yi a)) f (by rw [s];exact g) (.inr ⟨b.1,b.2,by grind⟩) (by omega)
def kE:zg:=⟨0,0,0,0⟩
def uz:zk:=⟨0,false,0,false,0,0⟩
def H6(k:zd):zy:=⟨k.Id.E,k.Id.N,k.Id.UJ,k.Id.Pairs++k.parts.flatten⟩
def DB(k:zd):zd:=⟨k.Uf,w64 (k.Uw+1),false,k.Ul,RN,[],k.Ud++[H6 k]⟩
def Nn(t:Int)(k:zd):ze:=⟨2,t,0,k.Uw,0,0,0,0,0,0,kE,uz,vc k.Id.N,k.Id.E⟩
def iO(t:Int)(k:zd):ze:=⟨1,t,0,k.Uw,0,0,0,0,0,0,kE,uz,0,0⟩
def P7(t:Int)(k:zd)(n h:Int):ze:=⟨4,t,0,k.Uw,0,n,h,0,0,0,kE,uz,0,0⟩
def withA(k:zd)(a:zy):zd:={k with Id:=a}
def Cf(h:za)(t:Nat)(k:zd)(es:List ze)(r:List zp)(g:zL):za:=
 {h with or:=h.or.set t (DB k),rings:=r,Un:=h.Un++es++[Nn t k],UL:=g}
def bv(cmd:zF):List zg:=if cmd.TY=0 then [cmd.Item] else cmd.UC
def vI(t:Int)(n:Nat)(l:List zg):List (Nat×zq):=l.mapIdx (λi x=>(iD x.UV n,⟨t,(i:Int),false,x⟩))
def aD(t:Int)(n:Nat)(m:Int):List (Nat×zq):=(List.range n).map (λs=>(s,⟨t,(s:Int),true,⟨m,0,0,0⟩⟩))
def uA(k:zd)(n:Int)(r:List zk)(p:List (List zr)):zd:=⟨k.Uf,k.Uw,true,n,⟨0,k.Id.N,r,k.Id.Pairs⟩,p,k.Ud⟩
def Ja(h:za)(t:Nat)(k k':zd)(os:List zc)(l:List zx):za:=
 {h with or:=h.or.set t k',Fn:=os,TZ:=l,Un:=h.Un++[iO t k]}
def Cg(c:zH)(i:zg):Prop:=0<=i.UI/\i.UI<c.Maps.length/\0<=i.Op/\i.Op<5
def SR(h:za)(x:zF)(E:Int):Prop:=E≠0/\(x.TY=3->(h.closed=true/\E=43)\/(h.closed=false/\E=2/\¬ (0<=x.UF/\x.UF<h.rings.length)))
inductive CMv (h:za) (t:Nat) (k:zd) (cmd:zF):za->Prop
 |told (E:Int):SR h cmd E->CMv h t k cmd (Cf h t (withA k ⟨E,k.Id.N,k.Id.UJ,k.Id.Pairs⟩) [iO t k] h.rings h.UL)
 | fire (i : Nat) (r r' : zp) (n E : Int) (g : zL) : h.closed = false -> cmd.TY = 3 -> cmd.UF = i -> h.rings[i]? = some r -> xo r cmd.Uv h.UL = some (n, E, r', g) ->
   CMv h t k cmd (Cf h t (withA k ⟨E,if E=0 then n else k.Id.N,k.Id.UJ,k.Id.Pairs⟩) ([iO t k]++if E=0 then [P7 t k n i] else []) (h.rings.set i r') g)
 | items : h.closed = false -> (cmd.TY = 0 \/ cmd.TY = 1) -> 1 <= (bv cmd).length -> (bv cmd).length <= 16 -> (∀ i ∈ bv cmd, Cg h.Ur i) ->
   CMv h t k cmd (Ja h t k (uA k (bv cmd).length (List.replicate (bv cmd).length uz) k.parts) (puts h.Fn (vI t h.Fn.length (bv cmd))) h.TZ)
 | walk : h.closed = false -> cmd.TY = 2 -> 0 <= cmd.UI -> cmd.UI < h.Ur.Maps.length ->
   CMv h t k cmd (Ja h t k (uA k h.Fn.length k.Id.UJ (List.replicate h.Fn.length [])) (puts h.Fn (aD t h.Fn.length cmd.UI)) h.TZ)
 |call:h.closed=false->4<=cmd.TY->cmd.TY<=10->CMv h t k cmd (Ja h t k (uA k 1 k.Id.UJ k.parts) h.Fn (h.TZ++[⟨t,cmd,0⟩]))
open Go.Sx
theorem zX{α:Type}{xs:List α}{x:α}(h:xs[i]? =some x):Go.Sx.idx xs (i:Int)=some x:=by
 grind [oE]
theorem xi{m b:Nat}(h:m*b<=140737488355328):room m b=some ():=by
 grind [room]
structure pQ (s:List zF) (k:zd):Prop where
 Uf:k.Uf=s
 Wi:0<=k.Uw
 Wr:k.Uw<=s.length
 WD:k.waits=true->k.Uw<s.length
 ans:(k.Ud.length:Int)=k.Uw
 done:∀a∈k.Ud,a.UJ.length<=16/\a.Pairs.length<=64
 res:k.Id.UJ.length<=16
 Ww:k.Id.Pairs=[]
 We:k.parts.length<=4
 part:∀p∈k.parts,p.length<=16
 VO:k.waits=false->k.Ul=0
structure Ch (H K:Nat) (w:zA):Prop where
 UE:WJ H K w.TX
 cur:0<=w.UH/\w.UH<H
 rep:∀r,w.Va=some r->u64 r.UQ
 over:w.Ue=true->w.TX.Ua=0
def AK(c:List zd)(W:Nat)(r:zq):Prop:=
 (∃(t:Nat)(k:zd),r.Vf=t/\c[t]? =some k/\0<=r.VN/\(r.Vw=true->r.VN<k.parts.length)/\(r.Vw=false->r.VN<k.Id.UJ.length))\/
 ∃j:Nat,r.Vf=(c.length:Int)+j/\j<W/\r.Vw=false
def gr(h:za)(t:Int):Nat:=bX h.TZ t+bX h.held t+(if h.closed=true/\h.over=false/\h.Uh=t then 1 else 0)
structure aQ (c:zH) (ss:List (List zF)):Prop where
 hk:1<=c.Up/\c.Up<=4
 wk:1<=c.Uc/\c.Uc<=4
 sh:1<=c.Ui/\c.Ui<=4
 mp:c.Maps.length<=4
 cl:1<=ss.length/\ss.length<=4
 sl:∀s∈ss,s.length<=64
 fit:∀s∈ss,∀c∈s,Fit c
structure HI (c:zH) (ss:List (List zF)) (n:Nat) (h:za):Prop where
 UZ:n<=100000000
 Ur:h.Ur=c
 cl:h.or.length=ss.length
 cr:(h.LE.length:Int)=c.Uc
 rg:(h.rings.length:Int)=c.Up
 UO:fK c.Up.toNat c.Maps.length c.Uc.toNat n h.Fd
 Vn:∀r∈h.rings,lB r/\∀q∈r.waiting,u64 q.Uv.A/\u64 q.Uv.B
 Vq:∀(t:Nat) k s,h.or[t]? =some k->ss[t]? =some s->pQ s k
 crew:∀w∈h.LE,Ch c.Up.toNat c.Maps.length w
 own:wS c (16*n) h.Fn
 Wg:∀o∈h.Fn,∀r∈o.TZ,AK h.or h.LE.length r
 Vv:∀(t:Nat) k,h.or[t]? =some k->k.Ul=((bS h.Fn t+gr h t:Nat):Int)
 VF:∀t:Nat,gr h t=0\/(gr h t=1/\bS h.Fn t=0)
 call:∀x∈h.TZ++h.held,(∃t:Nat,x.Ut=t/\t<ss.length)/\x.cmd.Uq.length<=140737488355328/\4<=x.cmd.TY/\x.cmd.TY<=10
 Uh:∃t:Nat,h.Uh=t/\t<ss.length
 VG:h.Um.Ub.length=ss.length+c.Uc.toNat+c.Ui.toNat+1
 VB:∀o∈h.Fn,o.Ue=true->h.closed=true/\∀w∈h.LE,w.Ue=true
 VH:∀w∈h.LE,w.Ue=true->h.closed=true
 VI:h.Un.length<=200*n
 Wd:h.TZ.length<=n
 hel:h.held.length<=n
theorem FW{l:List (List zr)}{b:Nat}(h:∀p∈l,p.length<=b):l.flatten.length<=l.length*b:=by
 induction l with
 |nil=>simp
 |cons p l i=>
  have c:=h p zcs;have d:=i λq a=>h q (zcm _ a)
  rw [yb,l8,u4,w8];omega
theorem LI(h:pQ B k'):(H6 k').UJ.length<=16/\(H6 k').Pairs.length<=64:=by
 refine ⟨h.res,?_⟩;show (k'.Id.Pairs++k'.parts.flatten).length<=64;have a:=FW h.part;have b:=h.We;rw [h.Ww,Tr];omega
theorem Jb{k:zd}{s:List zF}(j:h.or[n]? =some k)(c:pQ s k)(w:s.length<=64)(hl:h.Un.length<=500000000000):jc h (n:Int)=some (Cf h n k [] h.rings h.UL):=by
 unfold jc;rw [zX j,zbs]
 have a:jN (fm k) (λ(d:(List zr))=>{k with Id:=(zy.mk k.Id.E k.Id.N k.Id.UJ d)}) (k.parts).length 0 k.Id.Pairs=some {k with Id:=(H6 k)}:=by
  refine OK.is (i5 (λi l=>l=k.Id.Pairs++(k.parts.take i).flatten) (by simp) (λi l e o r t=> ?_) (λl hl=> ?_))
  ·subst r;unfold fm;refine g9 (i9 o λp f=>g9 (OK.hasRoom ?_ (t _ ?_)))
   ·have g:=FW (l:=k.parts.take i) (b:=16) λq u=>c.part q (Tz u)
    have v:=c.part p (zmg f);have x:=c.We;rw [yw] at g;rw [c.Ww,Tr];omega
   ·rw [iN f,yx,u6];simp
  ·subst hl;rw [TF];rfl
 rw [a];simp only [zbs];have g:=c.ans;have v:=c.Wr;rw [xi (m:=h.Un.length+_) (b:=176) (by grind)];simp only [zbs];rw [xi (m:=k.Ud.length+_) (b:=64) (by grind)];simp only [zbs,l6,i6];unfold Cf;rw [i4];rfl
theorem Jc{k:zd}(b:h.or[n]? =some k)(a:pQ B k)(c:B.length<=64)(hl:h.Un.length<=400000000000)(E N:Int){es:List ze}(e:es.length<=2)(r:List zp)(g:zL):
  jc {h with or:=h.or.set n (withA k ⟨E,N,k.Id.UJ,k.Id.Pairs⟩),rings:=r,Un:=h.Un++es,UL:=g} (n:Int)=some (Cf h n (withA k ⟨E,N,k.Id.UJ,k.Id.Pairs⟩) es r g):=by
 have d:=(zes.1 b).1;rw [Jb (k:=withA k ⟨E,N,k.Id.UJ,k.Id.Pairs⟩) (s:=B) (by grind) ⟨a.Uf,a.Wi,a.Wr,a.WD,a.ans,a.done,a.res,a.Ww,a.We,a.part,a.VO⟩ c (by grind)];unfold Cf;simp only [Tt,i4]
theorem FX(g:h.Ur=c)(l:List zg):∃b,xK h l=some b/\(b=false->∀i∈l,Cg c i):=by
 subst g;unfold xK qf ql
 obtain ⟨o,j,k⟩:OK (jN (qC l h) (λ(d:Unit)=>(.inl ())) l.length 0 ()) (λo=>match o with|.inl _=>∀i∈l,Cg h.Ur i|.inr r=>0<=r):=by
  refine i5 (λi _=>∀x∈l.take i,Cg h.Ur x) (by simp) (λi s a m A n=> ?_) (λs B=>by grind);unfold qC;refine g9 (i9 m λx p=> ?_);refine d6 (R:=λb=>b=false->Cg h.Ur x) ?_ (λb f=>d5 (λe=>b9 (by grind)) (λe=>n _ (λy q=> ?_)))
  ·unfold cO;refine d6 (R:=λb=>b=false->Cg h.Ur x) ?_ (λb f=>b9 f);refine d5 (λe=>b9 λz=>by cases z) (λt=>d5 (λe=>b9 λz=>by cases z) (λu=>d5 (λe=>b9 λz=>by cases z) (λv=>b9 λw=> ?_)));simp only [decide_eq_false_iff_not] at t u v w;exact ⟨by omega,by omega,by omega,by omega⟩
  ·rw [iN p] at q
   grind
 rw [j];cases o with
 |inl _=>exact ⟨_,rfl,λ_=>k⟩
 |inr r=>
  refine ⟨_,rfl,λe=> ?_⟩
  grind
theorem uB{t:Int}(h:C[i]? =some D):(vI t n C)[i]? =some (iD D.UV n,⟨t,(i:Int),false,D⟩):=by
 grind [vI]
theorem gj:(vI m n C).length=C.length:=by
 grind [vI]
theorem Ci(os:List zc)(l:List (Nat×zq))(x:Nat×zq):puts os (l++[x])=oG (puts os l) x:=by
 grind [puts]
theorem eB(h:x∈vI m n C):∃(i:Nat)(y:zg),C[i]? =some y/\x=(iD y.UV n,⟨m,(i:Int),false,y⟩):=by
 obtain ⟨i,a⟩:=q8 h;have hl:=(zes.1 a).1;rw [gj] at hl;rw [uB (zeg hl)] at a
 grind
theorem wT{l:List zg}(h:wS c a e)(k:1<=c.Ui/\c.Ui<=4)(w:∀o∈e,o.Ue=false){t:Int}(m:∀i∈l,Cg c i/\u64 i.UQ)(N:(a+l.length+1)*56<=140737488355328)
  {body:Nat->(List zc->Option (List zc))->List zc->Option (List zc)}
  (d:∀i b (s:List zc),body i b s=(Go.Sx.idx l (i:Int)).bind λx=>(aA x.UV (s.length:Int)).bind λp=>(Go.Sx.idx s p).bind λo=>(jI o [⟨t,(i:Int),false,x⟩]).bind λr=>b (s.set (Int.toNat p) r.2)):
  jN body (λs=>s) l.length 0 e=some (puts e (vI t e.length l)):=by
 refine OK.is (i5 (λi s=>s=puts e ((vI t e.length l).take i)) rfl (λi s b A B C=> ?_) (λs k=>by grind [gj]));subst B;rw [d];refine g9 (i9 A λx q=> ?_);have D:=uB (t:=t) (n:=e.length) q;have u:(puts e ((vI t e.length l).take i)).length=e.length:=pO _ _;have f:=m x (zmg q)
 have E:wS c (a+l.length) (puts e ((vI t e.length l).take i)):=by
  refine (h.puts (l:=(vI t e.length l).take i) (λy F=> ?_)).mono (by grind);obtain ⟨j,z,G,rfl⟩:=eB (Tz F);obtain ⟨g,I⟩:=m z (zmg G);exact ⟨g.1,g.2.1,.inr g.2.2,I⟩
 obtain ⟨p,o,v,J,O,K,P,L⟩:=Ej E k (λo M=>by
  obtain ⟨j,Q⟩:=q8 M
  grind [eA]) (r:=⟨t,(i:Int),false,x⟩) f.1.1 f.1.2.1 f.1.2.2 (by omega)
 have v:iD x.UV (puts e ((vI t e.length l).take i)).length=p:=v;rw [show aA x.UV ((puts e ((vI t e.length l).take i)).length:Int)=some (p:Int) from J];simp only [zbs];rw [K];simp only [zbs];rw [L];simp only [zbs,l6];refine C _ ?_;rw [iN D,Ci]
 grind [oG]
theorem Ek{t:Int}(h:i<n):(aD t n m)[i]? =some (i,⟨t,(i:Int),true,⟨m,0,0,0⟩⟩):=by
 grind [aD]
theorem ka:(aD f n m).length=n:=by
 grind [aD]
theorem eC(h:x∈aD f n m):∃i:Nat,i<n/\x=(i,⟨f,(i:Int),true,⟨m,0,0,0⟩⟩):=by
 grind [aD]
theorem Je(h:wS c n e)(k:1<=c.Ui/\c.Ui<=4)(p:∀o∈e,o.Ue=false)(q:0<=E.UI)(u:E.UI<c.Maps.length)(B:(n+6)*56<=140737488355328):
  jN (dV f E) (λs=>s) e.length 0 e=some (puts e (aD f e.length E.UI)):=by
 refine OK.is (i5 (λi s=>s=puts e ((aD f e.length E.UI).take i)) rfl (λi s d g v w=> ?_) (λs k=>by grind [ka]));subst v;unfold dV;have a:(puts e ((aD f e.length E.UI).take i)).length=e.length:=pO _ _;have x:e.length<=4:=by have:=h.len;omega
 have z:wS c (n+4) (puts e ((aD f e.length E.UI).take i)):=by
  refine (h.puts (l:=(aD f e.length E.UI).take i) (λy C=> ?_)).mono (by grind)
  grind [eC,z64]
 refine g9 (i9 (by rw [a];exact g) λo j=> ?_)
 obtain ⟨D,F,G,I,A,J⟩:=z.all _ _ j
 have b:o.Ue=false:=by
  grind [eA]
 rw [I9 b (r:=⟨f,(i:Int),true,⟨E.UI,0,0,0⟩⟩) q (by rw [A];exact u) (.inl rfl) (by omega)]
 simp only [zbs,l6];refine w _ ?_;rw [iN (Ek (t:=f) (m:=E.UI) g),Ci];unfold oG;simp only [j];rfl
open Go.Sx
theorem HI.logb(a:HI c ss n h):h.Un.length<=20000000000:=by
 have:=a.VI;have:=a.UZ;omega
theorem HI.at{h:za}(b:HI c ss n h)(d:h.or[i]? =some k'):∃s,ss[i]? =some s/\pQ s k':=by
 have a:=(zes.1 d).1;rw [b.cl] at a;exact ⟨_,zeg a,b.Vq i k' _ d (zeg a)⟩
theorem El(d:aQ c ss)(b:HI c ss n h)(a:h.or[i]? =some k')(e:k'.waits=true):
  xV h (i:Int)=some (Cf h i k' [] h.rings h.UL):=by
 obtain ⟨s,f,g⟩:=b.at a;unfold xV;rw [zX a,zbs,d7 e,Jb a g (d.sl s (zmg f)) (by have:=b.logb;omega)];rfl
theorem GZ(J:aQ c ss)(y:HI c ss n h){t:Nat}{k:zd}(K:h.or[t]? =some k)(hw:k.waits=false)(V:k.Uw<k.Uf.length):
  ∃cmd,k.Uf[k.Uw.toNat]? =some cmd/\OK (xV h (t:Int)) (CMv h t k cmd):=by
 obtain ⟨s,hs,L⟩:=y.at K;have p:=J.sl s (zmg hs);have hlog:=y.logb;have W:=y.Ur;have j:=y.own;have X:=L.Wi;obtain ⟨cmd,hx,hg⟩:=pM (xs:=k.Uf) X V;have A:Fit cmd:=J.fit s (zmg hs) cmd (by rw [<- L.Uf];exact zmg hg)
 refine ⟨cmd,hg,?_⟩;have hb:=y.UZ;have hln:=y.Wd;unfold xV;rw [zX K,zbs,d8 (by simp [hw])];rw [xi (m:=h.Un.length+_) (b:=176) (by grind)];simp only [zbs];rw [hx];simp only [zbs,l6]
 have told:∀E:Int,SR h cmd E->OK (jc {h with or:=h.or.set t (withA k ⟨E,k.Id.N,k.Id.UJ,k.Id.Pairs⟩),Un:=h.Un++[iO t k]} (t:Int)) (CMv h t k cmd):=λE hE=>
  OK.eq (Jc K L p (by omega) E k.Id.N (by simp) h.rings h.UL) (.told E hE)
 refine d5 (λa=>d6 (told 43 ⟨by decide,λ_=>.inl ⟨a,rfl⟩⟩) λr d=>b9 d) (λa=> ?_)
 have B:∀o∈h.Fn,o.Ue=false:=λo S=>by
  cases u:o.Ue with
  |false=>rfl
  |true=>rw [(y.VB o S u).1] at a;cases a
 have hO4:h.Fn.length<=4:=by have:=j.len;have:=J.sh;omega
 refine d6 (R:=λo=>match o with
  |.inl q=>CMv h t k cmd {h with or:=h.or.set t ⟨q.1.Uf,q.1.Uw,true,q.1.Ul,⟨0,q.1.Id.N,q.1.Id.UJ,q.1.Id.Pairs⟩,q.1.parts,q.1.Ud⟩,Fn:=q.2.1,TZ:=q.2.2,Un:=h.Un++[iO t k]}
  |.inr r=>CMv h t k cmd r) ?_ (λo S=> ?_)
 rotate_left
 ·cases o with
  |inl q=>exact b9 S
  |inr r=>exact b9 S
 refine d6 (R:=λb=>b=decide (cmd.TY=0\/cmd.TY=1)) (d5 (λe=>b9 (by grind)) (λe=>b9 (by grind))) (λb Y=> ?_);subst Y;refine d5 (λf=> ?_) (λf=> ?_)
 ·have f:=yq f;refine d5 (λM=> ?_) (λM=> ?_)
  ·have M:cmd.TY=0:=by simpa using M
   obtain ⟨b,v,w⟩:=FX (h:=za.mk h.Fd h.Um h.Ur h.or h.LE h.Fn h.rings h.TZ h.held h.Uh h.closed h.over (h.Un++[iO t k]) h.UL) (c:=c) W [cmd.Item];rw [show xK {h with Un:=(h.Un++[(ze.mk 1 (t:Int) 0 k.Uw 0 0 0 0 0 0 (zg.mk 0 0 0 0) (zk.mk 0 false 0 false 0 0) 0 0)])} ([cmd.Item])=some b from v,zbs];refine d5 (λ_=>d6 (told 2 ⟨by decide,λz=>by omega⟩) λr d=>b9 d) (λC=> ?_);have g:=w C;have D:mkLen 1 48=some 1:=by grind [mkLen]
   have hit:bv cmd=[cmd.Item]:=by grind [bv]
   have hl:=wT j J.sh B (t:=(t:Int)) (l:=[cmd.Item]) (λi F=>⟨g i F,by rw [g8.1 F];exact A.it⟩) (by grind) (body:=dU (t:Int) cmd) (λi G s=>rfl)
   rw [D,zbs,show jN (dU (t:Int) cmd) (λ(I:(List zc))=>I) 1 0 h.Fn=_ from hl,zbs];have:=CMv.items (h:=h) (t:=t) (k:=k) (cmd:=cmd) a f (by rw [hit];simp) (by rw [hit];simp) (λi F=>by grind);rw [hit] at this;exact b9 this
  ·have M:cmd.TY≠0:=by simpa using M
   have h1:cmd.TY=1:=by omega
   have hit:bv cmd=cmd.UC:=by grind [bv]
   refine d6 (R:=λb=>b=false->1<=cmd.UC.length/\cmd.UC.length<=16/\∀i∈cmd.UC,Cg c i) ?_ (λb w=> ?_)
   ·refine d5 (λ_=>b9 λz=>by cases z) (λe1=>d5 (λ_=>b9 λz=>by cases z) (λe2=> ?_));obtain ⟨b,v,w⟩:=FX (h:=za.mk h.Fd h.Um h.Ur h.or h.LE h.Fn h.rings h.TZ h.held h.Uh h.closed h.over (h.Un++[iO t k]) h.UL) (c:=c) W cmd.UC;rw [show xK {h with Un:=(h.Un++[(ze.mk 1 (t:Int) 0 k.Uw 0 0 0 0 0 0 (zg.mk 0 0 0 0) (zk.mk 0 false 0 false 0 0) 0 0)])} cmd.UC=some b from v,zbs]
    grind [b9]
   refine d5 (λ_=>d6 (told 2 ⟨by decide,λz=>by omega⟩) λr d=>b9 d) (λC=> ?_);obtain ⟨l1,Z,g⟩:=w C;have D:mkLen (cmd.UC.length:Int) 48=some cmd.UC.length:=by grind [mkLen]
   have hl:=wT j J.sh B (t:=(t:Int)) (l:=cmd.UC) (λi F=>⟨g i F,A.its i F⟩) (by omega) (body:=ij (t:Int) cmd) (λi G s=>rfl);rw [D,zbs,xi (by omega),zbs,hl,zbs];have:=CMv.items (h:=h) (t:=t) (k:=k) (cmd:=cmd) a f (by rw [hit];exact l1) (by rw [hit];exact Z) (λi F=>by grind)
   rw [hit] at this;exact b9 this
 have f:=z8 f;refine d5 (λT=> ?_) (λT=> ?_)
 ·have T:cmd.TY=2:=by simpa using T
  refine d5 (λ_=>d6 (told 2 ⟨by decide,λz=>by omega⟩) λr d=>b9 d) (λD=> ?_);simp only [Bool.or_eq_false_iff,decide_eq_false_iff_not] at D;have hm1:mkLen (h.Fn.length:Int) 24=some h.Fn.length:=by grind [mkLen]
  rw [hm1,zbs,Je j J.sh B (by omega) (by rw [<- W];omega) (by omega),zbs];exact b9 (.walk a T (by omega) (by omega))
 refine d5 (λO=> ?_) (λO=> ?_)
 ·have O:cmd.TY=3:=by simpa using O
  refine d5 (λhbad=>d6 (told 2 ⟨by decide,λ_=>.inr ⟨a,rfl,by grind⟩⟩) λr d=>b9 d) (λD=> ?_);simp only [Bool.or_eq_false_iff,decide_eq_false_iff_not] at D;obtain ⟨r,d,P⟩:=pM (xs:=h.rings) (t:=cmd.UF) (by omega) (by omega);rw [d,zbs];obtain ⟨q1,U,q3,q4,hq,_⟩:=kD (y.Vn r (zmg P)).1 cmd.Uv h.UL;rw [hq,zbs];have Q:(cmd.UF.toNat:Int)=cmd.UF:=by omega
  have x:=CMv.fire (h:=h) (t:=t) (k:=k) (cmd:=cmd) cmd.UF.toNat r q3 q1 U q4 a O Q.symm P hq;simp only;refine d5 (λu=> ?_) (λu=> ?_)
  ·have u:U=0:=by simpa using u
   subst u;rw [xi (m:=(h.Un++_).length+_) (b:=176) (by grind)];simp only [zbs];rw [d7 (by simp [hw])];rw [d7 rfl,d7 rfl,Q] at x;have:=Jc K L p (by omega) 0 q1 (es:=[iO t k]++[P7 t k q1 cmd.UF]) (by simp) (h.rings.set cmd.UF.toNat q3) q4;rw [<- u6] at this;refine d6 (OK.eq this x) (λr d=>b9 d)
  ·have u:U≠0:=by simpa using u
   rw [d7 (by simp [u])];rw [d8 u,d8 u,i4] at x;exact d6 (OK.eq (Jc K L p (by omega) U k.Id.N (es:=[iO t k]) (by simp) (h.rings.set cmd.UF.toNat q3) q4) x) (λr d=>b9 d)
 refine d6 (R:=λb=>b=true->4<=cmd.TY/\cmd.TY<=10) ?_ (λb v=> ?_)
 ·refine d5 (λe=>b9 λz=> ?_) (λ_=>d5 (λe=>b9 λz=> ?_) (λ_=>d5 (λe=>b9 λz=> ?_) (λ_=>d5 (λe=>b9 λz=> ?_) (λ_=>d5 (λe=>b9 λz=> ?_) (λ_=>d5 (λe=>b9 λz=> ?_) (λ_=>b9 λz=> ?_))))))
  all_goals (have z:=eq_of_beq z;omega)
 refine d5 (λe=> ?_) (λ_=>d6 (told 2 ⟨by decide,λz=>by simp [z] at O⟩) λr d=>b9 d);obtain ⟨k4,k10⟩:=v e;rw [xi (m:=h.TZ.length+_) (b:=144) (by grind)];exact b9 (.call a k4 k10)
open Go.Sx
theorem jW(h:(G.set i I)[j]? =some y):(j=i/\y=I/\i<G.length)\/(j≠i/\G[j]? =some y):=by
 rw [y7] at h;split at h
 ·rename_i e
  split at h
  ·exact .inl ⟨e.symm,(i8 h).symm,by assumption⟩
  ·cases h
 ·exact .inr ⟨λe=> ‹¬_› e.symm,h⟩
theorem ve(h:G[j]? =some y)(a:j≠i):(G.set i I)[j]? =some y:=by
 grind
theorem kb(h:G[i]? =some y):(G.set i I)[i]? =some I:=by
 grind
theorem HI.idle(a:HI c ss n h){k:zd}(b:h.or[i]? =some k)(d:k.Ul=0):bS h.Fn i=0/\gr h i=0:=by
 have:=a.Vv i k b;omega
theorem AK.keep(h:AK J W r)(c:r.Vf≠n)(k':zd):AK (J.set n k') W r:=by
 rcases h with ⟨u,k,e,d,a⟩|⟨j,e,b⟩
 ·refine .inl ⟨u,k,e,ve d (λz=>c (by rw [e,z])),a⟩
 ·exact .inr ⟨j,by grind,b⟩
theorem AK.same(h:AK J W r)(hl:g.length=J.length)(a:∀(t:Nat) k,J[t]? =some k->∃k',g[t]? =some k'/\k'.parts.length=k.parts.length/\k'.Id.UJ.length=k.Id.UJ.length):AK g W r:=by
 rcases h with ⟨u,k,e,c,d,f,i⟩|⟨j,e,b⟩
 ·obtain ⟨k',l,m,n⟩:=a u k c;exact .inl ⟨u,k',e,l,d,by rw [m];exact f,by rw [n];exact i⟩
 ·exact .inr ⟨j,by rw [hl];exact e,b⟩
def AL(c:zH)(a:List zp):Prop:=(a.length:Int)=c.Up/\∀r∈a,lB r/\∀q∈r.waiting,u64 q.Uv.A/\u64 q.Uv.B
theorem Em(b:HI c ss n h)(w:n+1<=100000000){k:zd}(x:h.or[i]? =some k)(y:ss[i]? =some B)(z:k.Ul=0)(l:pQ B k')(q:k'.Ul=0)(A:k'.Uw<B.length)(t:B.length<=64)(F:es.length<=2){rs:List zp}(j:AL c rs)(g:zL):
  HI c ss (n+1) (Cf h i k' es rs g):=by
 obtain ⟨C,G⟩:=b.idle x z;exact
 {UZ:=w
  Ur:=b.Ur
  cl:=by show (h.or.set i _).length=_;rw [j8];exact b.cl
  cr:=b.cr
  rg:=j.1
  UO:=b.UO.mono (by omega) (by omega)
  Vn:=j.2
  Vq:=λu s D d f=>by
   rcases jW d with ⟨rfl,rfl,_⟩|⟨_,d⟩
   ·rw [y] at f;obtain rfl:=i8 f;have I:=l.Wi;have J:=l.ans;refine ⟨l.Uf,?_,?_,(λe=>by cases e),?_,λa m=> ?_,by simp [DB,RN],rfl,by simp [DB],(λp E=>by simp [DB] at E),λ_=>q⟩
    ·show 0<=w64 (k'.Uw+1);rw [qq (by omega) (by omega)];omega
    ·show w64 (k'.Uw+1)<=_;rw [qq (by omega) (by omega)];omega
    ·show ((k'.Ud++[H6 k']).length:Int)=w64 (k'.Uw+1)
     grind [qq]
    ·rcases f8.1 m with m|m
     ·exact l.done a m
     grind [LI]
   ·exact b.Vq u s D d f
  crew:=b.crew
  own:=b.own.mono (by omega)
  Wg:=λo v r j=>(b.Wg o v r j).keep (λe=>by have:=nU (show o∈h.Fn from v) j;rw [e,C] at this;omega) _
  Vv:=λu s d=>by
   rcases jW d with ⟨rfl,rfl,_⟩|⟨_,d⟩
   ·show k'.Ul=((bS h.Fn u+gr h u:Nat):Int)
    grind
   ·exact b.Vv u s d
  VF:=b.VF
  call:=b.call
  Uh:=b.Uh
  VG:=b.VG
  VB:=b.VB
  VH:=b.VH
  VI:=by
   show (h.Un++es++[Nn i k']).length<=_;have:=b.VI
   grind
  Wd:=by have:=b.Wd;show h.TZ.length<=_;omega
  hel:=by have:=b.hel;show h.held.length<=_;omega}
theorem Eo(a:HI c ss n h)(D:n+1<=100000000)(C:h.or[i]? =some K)(N:ss[i]? =some B)(E:K.Ul=0)(O:pQ B k'){os:List zc}{l:List zx}
  (F:wS c (16*n+16) os) (j:∀o∈os,o.Ue=true->h.closed=true/\∀w∈h.LE,w.Ue=true) (k:∀o∈os,∀r∈o.TZ,(∃o'∈h.Fn,r∈o'.TZ)\/(r.Vf=i/\0<=r.VN/\(r.Vw=true->r.VN<k'.parts.length)/\(r.Vw=false->r.VN<k'.Id.UJ.length)))
  (d:∀u:Int,bS os u=bS h.Fn u+(if u=i then bS os i else 0)) (m:∀u:Int,bX l u=bX h.TZ u+(if u=i then bX l i else 0)) (p:k'.Ul=((bS os i+bX l i:Nat):Int)) (G:bX l i=0\/(bX l i=1/\bS os i=0))
  (f:∀y∈l,(∃i:Nat,y.Ut=i/\i<ss.length)/\y.cmd.Uq.length<=140737488355328/\4<=y.cmd.TY/\y.cmd.TY<=10) (hl:l.length<=n+1):HI c ss (n+1) (Ja h i K k' os l):=by
 obtain ⟨P,Q⟩:=a.idle C E
 have I:bX h.held i+(if h.closed=true/\h.over=false/\h.Uh=i then 1 else 0)=0:=by
  grind [gr]
 have b:∀u:Nat,gr (Ja h i K k' os l) u=if u=i then bX l i else gr h u:=by
  intro u;have s:=m u;unfold gr;show bX l u+bX h.held u+(if h.closed=true/\h.over=false/\h.Uh=u then 1 else 0)=_
  grind
 exact
 {UZ:=D
  Ur:=a.Ur
  cl:=by show (h.or.set i _).length=_;rw [j8];exact a.cl
  cr:=a.cr
  rg:=a.rg
  UO:=a.UO.mono (by omega) (by omega)
  Vn:=a.Vn
  Vq:=λu t J g v=>by
   rcases jW g with ⟨rfl,rfl,_⟩|⟨_,g⟩
   ·grind
   ·exact a.Vq u t J g v
  crew:=a.crew
  own:=F.mono (by omega)
  Wg:=λo x r L=>by
   rcases k o x r L with ⟨o',s,z⟩|⟨e,s,z,M⟩
   ·exact (a.Wg o' s r z).keep (λe=>by grind [nU]) _
   ·exact .inl ⟨i,k',e,kb C,s,z,M⟩
  Vv:=λu t g=>by
   rw [b u];rcases jW g with ⟨rfl,rfl,_⟩|⟨A,g⟩
   ·rw [d7 rfl];exact p
   ·rw [d8 A];show t.Ul=((bS os u+gr h u:Nat):Int)
    have:=d u;rw [d8 (by omega)] at this;rw [this];exact a.Vv u t g
  VF:=λu=>by
   rw [b u];show _\/_/\bS os u=0;by_cases e:u=i
   ·grind
   ·rw [d8 e];have:=d u;rw [d8 (by omega)] at this;rw [this];exact a.VF u
  call:=λy q=>by
   rcases f8.1 q with q|q
   ·exact f y q
   ·exact a.call y (zar _ q)
  Uh:=a.Uh
  VG:=a.VG
  VB:=j
  VH:=a.VH
  VI:=by
   show (h.Un++[iO i K]).length<=_;have:=a.VI
   grind
  Wd:=hl
  hel:=by have:=a.hel;show h.held.length<=_;omega}
theorem pQ.withA(h:pQ B k')(E N:Int):pQ B (withA k' ⟨E,N,k'.Id.UJ,k'.Id.Pairs⟩):=
 ⟨h.Uf,h.Wi,h.Wr,h.WD,h.ans,h.done,h.res,h.Ww,h.We,h.part,h.VO⟩
theorem LJ(g:aQ c ss)(a:HI c ss n h)(j:n+1<=100000000)(b:h.or[i]? =some k')(k:k'.waits=true)(d:k'.Ul=0):HI c ss (n+1) (Cf h i k' [] h.rings h.UL):=by
 obtain ⟨s,e,f⟩:=a.at b;exact Em a j b e d f d (f.WD k) (g.sl s (zmg e)) (by simp) ⟨a.rg,a.Vn⟩ _
theorem OC(V:aQ c ss)(m:HI c ss n h)(Q:n+1<=100000000)(L:h.or[a]? =some K)(hw:K.waits=false)(Z:K.Uw<K.Uf.length)(hc:K.Uf[K.Uw.toNat]? =some cmd)(hv:CMv h a K cmd F):HI c ss (n+1) F:=by
 obtain ⟨s,G,b⟩:=m.at L;have I:=V.sl s (zmg G);have J:=b.VO hw;have t:K.Uw<s.length:=by rw [<- b.Uf];exact Z
 have htl:a<ss.length:=(zes.1 G).1;have A:Fit cmd:=V.fit s (zmg G) cmd (by rw [<- b.Uf];exact zmg hc)
 obtain ⟨W,i2⟩:=m.idle L J;have B:bX h.TZ a=0:=by grind [gr]
 have hO4:h.Fn.length<=4:=by have:=m.own.len;have:=V.sh;omega
 have C:∀l,∀o∈puts h.Fn l,o.Ue=true->h.closed=true/\∀w∈h.LE,w.Ue=true:=λl o M e=>by
  obtain ⟨j,hj⟩:=q8 M;obtain ⟨o2,O,e2⟩:=eA hj;exact m.VB o2 (zmg O) (by rw [e2];exact e)
 cases hv with
 |told E hE=>exact Em m Q L G J (b.withA E K.Id.N) J t I (by simp) ⟨m.rg,m.Vn⟩ _
 |fire i r r' n2 E g h1 O X R h5=>
  refine Em m Q L G J (k':=withA K ⟨E,if E=0 then n2 else K.Id.N,K.Id.UJ,K.Id.Pairs⟩) (b.withA _ _) J t I (rs:=h.rings.set i r') (es:=[iO a K]++if E=0 then [P7 a K n2 i] else []) (by grind) ⟨by rw [j8];exact m.rg,λq P=> ?_⟩ _
  rcases r9 P with P|rfl
  ·exact m.Vn q P
  ·obtain ⟨a1,a2⟩:=m.Vn r (zmg R);obtain ⟨q1,q2,q3,q4,P,b1,b2,b3⟩:=kD a1 cmd.Uv h.UL;rw [h5] at P;cases P;refine ⟨b1,λx d=> ?_⟩;rcases b3 with ⟨_,_,e⟩|⟨_,e⟩
   ·rw [e] at d;rcases f8.1 d with d|d
    ·exact a2 x d
    ·rw [g8.1 d];exact A.ev
   grind
 |items h1 O X R h5=>
  have S:∀x∈vI (a:Int) h.Fn.length (bv cmd),x.1<h.Fn.length:=λx d=>by
   obtain ⟨i,y,T,rfl⟩:=eB d;obtain ⟨p,hp,S⟩:=AG (k:=y.UV) (n:=(h.Fn.length:Int)) (by rw [m.own.len];exact V.sh.1) (by grind)
   grind [iD]
  have v:=Ce (l:=vI (a:Int) h.Fn.length (bv cmd)) (f:=(a:Int)) (λx d=>by grind [eB]) h.Fn S;rw [gj] at v;have z:=v a;rw [d7 rfl,W] at z
  refine Eo m Q L G J (k':=uA K (bv cmd).length (List.replicate (bv cmd).length uz) K.parts) (os:=puts h.Fn (vI a h.Fn.length (bv cmd))) (l:=h.TZ) ⟨b.Uf,b.Wi,b.Wr,λ_=>t,b.ans,b.done,by show (List.replicate _ _).length<=16;rw [TU];exact R,b.Ww,b.We,b.part,λe=>by cases e⟩
   ((m.own.puts (l:=vI (a:Int) h.Fn.length (bv cmd)) (λx d=> ?_)).mono (by grind [gj])) (C _) (λo M r U=> ?_) (λu=> ?_) (λu=> ?_) ?_ ?_ ?_ (by have:=m.Wd;omega)
  ·obtain ⟨i,y,T,rfl⟩:=eB d;have Y:=h5 y (zmg T);rw [m.Ur] at Y;refine ⟨Y.1,Y.2.1,.inr Y.2.2,?_⟩;show u64 y.UQ;have D:=zmg T;unfold bv at D;split at D
   ·rw [g8.1 D];exact A.it
   ·exact A.its y D
  ·rcases AJ M U with h6|⟨x,d,rfl⟩
   ·exact .inl h6
   ·obtain ⟨i,y,T,rfl⟩:=eB d;have hil:=(zes.1 T).1;exact .inr ⟨rfl,by grind,(λe=>by cases e),λ_=>by show (i:Int)<(List.replicate _ _).length;rw [TU];omega⟩
  ·grind
  ·rw [B];simp
  ·rw [z,B];show ((bv cmd).length:Int)=_;omega
  ·exact .inl B
  ·exact λx d=>m.call x (zal _ d)
 |walk h1 O X R=>
  have v:=Ce (l:=aD (a:Int) h.Fn.length cmd.UI) (f:=(a:Int)) (λx d=>by grind [eC]) h.Fn (λx d=>by grind [eC]);rw [ka] at v;have z:=v a;rw [d7 rfl,W] at z
  refine Eo m Q L G J (k':=uA K h.Fn.length K.Id.UJ (List.replicate h.Fn.length [])) (os:=puts h.Fn (aD a h.Fn.length cmd.UI)) (l:=h.TZ) ⟨b.Uf,b.Wi,b.Wr,λ_=>t,b.ans,b.done,b.res,b.Ww,by show (List.replicate _ _).length<=4;rw [TU];exact hO4,λp hp=>by rw [TB (show p∈List.replicate _ _ from hp)];simp,λe=>by cases e⟩
   ((m.own.puts (l:=aD (a:Int) h.Fn.length cmd.UI) (λx d=> ?_)).mono (by grind [ka])) (C _) (λo M r U=> ?_) (λu=> ?_) (λu=> ?_) ?_ ?_ ?_ (by have:=m.Wd;omega)
  ·obtain ⟨i,hi,rfl⟩:=eC d;rw [m.Ur] at R
   grind [z64]
  ·rcases AJ M U with h6|⟨x,d,rfl⟩
   ·exact .inl h6
   ·obtain ⟨i,hi,rfl⟩:=eC d;exact .inr ⟨rfl,by grind,λ_=>(by show (i:Int)<(List.replicate _ _).length;rw [TU];omega),λe=>by cases e⟩
  ·grind
  ·rw [B];simp
  ·rw [z,B];show (h.Fn.length:Int)=_;omega
  ·exact .inl B
  ·exact λx d=>m.call x (zal _ d)
 |call h1 O X=>
  have z:bX (h.TZ++[⟨a,cmd,0⟩]) a=1:=by grind [gM,nT]
  refine Eo m Q L G J (k':=uA K 1 K.Id.UJ K.parts) (os:=h.Fn) (l:=h.TZ++[⟨a,cmd,0⟩]) ⟨b.Uf,b.Wi,b.Wr,λ_=>t,b.ans,b.done,b.res,b.Ww,b.We,b.part,λe=>by cases e⟩
   (m.own.mono (by omega)) m.VB (λo M r U=>.inl ⟨o,M,U⟩) (λu=> ?_) (λu=> ?_) ?_ ?_ ?_ (by have:=m.Wd;rw [l8];simp only [u4,yj];omega)
  ·rw [W];simp
  ·grind [gM,nT,bX]
  ·rw [z,W];rfl
  ·grind
  ·intro x d;rcases f8.1 d with d|d
   ·exact m.call x (zal _ d)
   ·rw [g8.1 d];exact ⟨⟨a,rfl,htl⟩,A.VY,O,X⟩
open Go.Sx
def LK(k:zn)(t:Nat)(x:qn):zn:=⟨k.Ub.set t ⟨2,x.Vo⟩,k.LT⟩
def AM(t:Int):ze:=⟨15,t,0,0,0,0,0,0,0,0,kE,uz,0,0⟩
def Np(t:Int)(q:vw)(cmd e:Int):ze:=⟨3,t,q.To,cmd,q.VN,e,0,0,0,0,q.Item,q.UJ,0,0⟩
def Sm(w:zA)(r:zk):zA:={w with Va:=some r}
def Jf(k:zd)(r:List zk)(p:List (List zr)):zd:={k with Ul:=k.Ul-1,Id:=⟨k.Id.E,k.Id.N,r,k.Id.Pairs⟩,parts:=p}
def Ep(h:za)(c:List zd)(b:List zA)(os:List zc)(es:List ze):za:=
 {h with or:=c,LE:=b,Fn:=os,Un:=h.Un++es}
structure pR (fu:Nat) (o:zc) (q:vw) (o':zc) (x:zq) (xs:List zq):Prop where
 step:jJ fu o=some (q,true,o')
 TZ:o.TZ=x::xs
 Wc:o'.TZ=xs
 to:q.To=x.Vf
 tag:q.VN=x.VN
 walk:q.Vw=x.Vw
 item:q.Item=x.Item
 Ug:q.Pairs.length<=16
 val:u64 q.UJ.UQ
 ok:kF o'
 ou:G6 o'
 sh:o'.Vu=o.Vu/\o'.UX=o.UX/\o'.Ue=o.Ue/\o'.maps.length=o.maps.length
inductive SMv (fu:Nat) (h:za) (i:Nat) (o:zc):za->Prop
 | ends (t : Nat) (x : qn) : t = h.or.length + h.LE.length + i -> o.TZ = [] -> h.Um.Ub[t]? = some x -> x.Ua ≠ 2 ->
   SMv fu h i o {h with Um:=LK h.Um t x,Fn:=h.Fn.set i {o with Ue:=true},Un:=h.Un++[AM t]}
 | crew (t : Nat) (q : vw) (o' : zc) (x : zq) (xs : List zq) (j : Nat) (w : zA) : t = h.or.length + h.LE.length + i -> pR fu o q o' x xs -> x.Vf = (h.or.length : Int) + j -> h.LE[j]? = some w ->
   SMv fu h i o (Ep h h.or (h.LE.set j (Sm w q.UJ)) (h.Fn.set i o') [Np t q 0 w.TX.UE.UK.N])
 | walk (q : vw) (o' : zc) (x : zq) (xs : List zq) (u : Nat) (k : zd) : pR fu o q o' x xs -> x.Vf = (u : Int) -> h.or[u]? = some k -> x.Vw = true -> 0 <= x.VN -> x.VN < k.parts.length ->
   SMv fu h i o (Ep h (h.or.set u (Jf k k.Id.UJ (k.parts.set x.VN.toNat q.Pairs))) h.LE (h.Fn.set i o') [])
 | item (t : Nat) (q : vw) (o' : zc) (x : zq) (xs : List zq) (u : Nat) (k : zd) : t = h.or.length + h.LE.length + i -> pR fu o q o' x xs -> x.Vf = (u : Int) -> h.or[u]? = some k -> x.Vw = false -> 0 <= x.VN -> x.VN < k.Id.UJ.length ->
   SMv fu h i o (Ep h (h.or.set u (Jf k (k.Id.UJ.set x.VN.toNat q.UJ) k.parts)) h.LE (h.Fn.set i o') [Np t q k.Uw 0])
theorem AN:Pst (jJ n o) (λq=>q.2.2.Vu=o.Vu/\q.2.2.UX=o.UX/\q.2.2.Ue=o.Ue/\q.2.2.maps.length=o.maps.length):=by
 unfold jJ;refine k7 (i7 ⟨rfl,rfl,rfl,rfl⟩) (j4 λx=>j4 λy=>k7 (j4 λs=>j4 λp=>i7 ⟨rfl,rfl,rfl,rfl⟩) (j4 λs=>j4 λq=>i7 ⟨rfl,rfl,rfl,by grind⟩))
theorem QT(c:101<n)(h:kF o)(f:G6 o)(hl:o.TZ=L::xs):∃q o',pR n o q o' L xs:=by
 obtain ⟨⟨q,b,o'⟩,d,i,w,j⟩:=pW c h;have g:=Cu f _ d;have k:=AN _ d;rcases j with ⟨e,_⟩|⟨y,x,e,rfl,a,l,m,p,s,t⟩
 ·grind
 ·have u:=hl.symm.trans e;cases u;refine ⟨q,o',d,hl,a,l,m,p,s,t,g.1,i,⟨g.2,λr v=> ?_⟩,k⟩;have a:o'.TZ=xs:=a;rw [a] at v;exact f.TZ r (by grind)
theorem OD{os:List zc}{b:Nat}(h:∀o∈os,o.TZ.length<=b)(f:Int):bS os f<=os.length*b:=by
 unfold bS
 induction os with
 |nil=>simp
 |cons o os i=>
  have c:=h o zcs;have d:=i λp a=>h p (zcm _ a)
  have e:th o.TZ f<=o.TZ.length:=List.countP_le_length;rw [p9,y5,u4,w8];omega
theorem HI.cnt_small(d:aQ c ss)(a:HI c ss n h)(f:Int):bS h.Fn f<=6400000000:=by
 have i:=OD (os:=h.Fn) (b:=16*n) (λo e=>by
  obtain ⟨j,g⟩:=q8 e;exact (a.own.all j o g).2.2.2.2.2) f
 have k:=a.own.len;have l:=d.sh;have m:=a.UZ;have p:h.Fn.length*(16*n)<=4*(16*n):=r6 _ (by omega);omega
theorem HI.crn(a:aQ c ss)(b:HI c ss n h):h.LE.length=c.Uc.toNat:=by have:=b.cr;have:=a.wk;omega
theorem HI.own4(a:aQ c ss)(b:HI c ss n h):h.Fn.length<=4/\h.Fn.length=c.Ui.toNat:=by have:=b.own.len;have:=a.sh;omega
theorem LL{fu:Nat}(t:101<fu)(v:aQ c ss)(f:HI c ss n h)(z:h.Fn[i]? =some o)(C:a=h.or.length+h.LE.length+i){x:qn}(J:h.Um.Ub[a]? =some x)(K:x.Ua≠2):
  OK (cF fu h (a:Int)) (SMv fu h i o):=by
 have S:=(zes.1 z).1;have T:=f.cl;have U:=f.crn v;have V:=v.cl;have W:=v.wk;have X:=(f.own4 v).1;have L:=f.logb;obtain ⟨M,Y,a3,a4,a5,a6⟩:=f.own.all i o z;unfold cF qF zZ;simp only [zbs];have Z:w64 ((h.or.length:Int)+(h.LE.length:Int))=(h.or.length:Int)+(h.LE.length:Int):=qq (by omega) (by omega);have e2:w64 ((a:Int)-((h.or.length:Int)+(h.LE.length:Int)))=(i:Int):=by grind [qq]
 rw [Z,e2,zX z];simp only [zbs,l6];cases hl:o.TZ with
 |nil=>
  obtain ⟨⟨q,b,o'⟩,h1,h2,h3,h4⟩:=pW t M;rcases h4 with ⟨_,D,E⟩|⟨y,ys,e,_⟩
  ·have D:b=false:=D;have E:o'=o:=E;subst D E;rw [h1];simp only [zbs];refine o9 rfl ?_
   have e5:cD o'=some (0,{o' with Ue:=true}):=by
    grind [cD,hl]
   rw [e5];simp only [zbs];rw [xi (m:=h.Un.length+_) (b:=176) (by grind)];simp only [zbs];rw [oX J K];simp only [zbs];exact b9 (.ends a x C hl J K)
  grind
 |cons r F=>
  obtain ⟨q,o',d⟩:=QT t M Y hl;rw [d.step];simp only [zbs];refine j7 rfl ?_;rw [d.to,d.tag];have w:=f.Wg o (zmg z) r (by grind);rcases w with ⟨u,k,A,l,B,N,O⟩|⟨j,ej,hj,hjw⟩
  ·have hul:=(zes.1 l).1;refine j7 (by grind) ?_;rw [A,zX l];simp only [zbs,l6];obtain ⟨s,hs,hck⟩:=f.at l;have P:=f.Vv u k l;have hcs:=f.cnt_small v u;have hex:=f.VF u;have Q:w64 (k.Ul-1)=k.Ul-1:=qq (by omega) (by omega);rw [d.walk];refine d5 (λg=> ?_) (λg=> ?_)
   ·obtain ⟨p,G,_⟩:=pM (xs:=k.parts) B (N g);rw [G];simp only [zbs];rw [Q];have:=SMv.walk (fu:=fu) (h:=h) (i:=i) (o:=o) q o' r F u k d A l g B (N g);unfold Ep at this;rw [i4] at this;exact b9 this
   ·obtain ⟨p,G,_⟩:=pM (xs:=k.Id.UJ) B (O g);rw [G];simp only [zbs];rw [Q,xi (m:=h.Un.length+_) (b:=176) (by grind)];have:=SMv.item (fu:=fu) (h:=h) (i:=i) (o:=o) a q o' r F u k C d A l g B (O g);unfold Ep Np at this;rw [d.to,d.tag,A] at this;exact b9 this
  ·have I:j<h.LE.length:=hj;have R:=zeg I;refine o9 (by grind) ?_;have e7:w64 (r.Vf-(h.or.length:Int))=(j:Int):=by grind [qq]
   rw [e7,zX R];simp only [zbs,l6];unfold xw;simp only [zbs];rw [xi (m:=h.Un.length+_) (b:=176) (by grind)];have:=SMv.crew (fu:=fu) (h:=h) (i:=i) (o:=o) a q o' r F j h.LE[j] C d ej R;unfold Ep Np at this;rw [d.to,d.tag] at this;exact b9 this
theorem wS.set(h:wS c n e)(b:e[i]? =some o)(d:kF o')(f:G6 o')(g:o'.Vu=o.Vu/\o'.UX=o.UX/\o'.maps.length=o.maps.length)(k:o'.TZ.length<=n):wS c n (e.set i o'):=by
 refine ⟨by rw [j8];exact h.len,λj p a=> ?_⟩
 rcases jW a with ⟨rfl,rfl,_⟩|⟨_,a⟩
 ·obtain ⟨l,m,q,r,s,t⟩:=h.all _ _ b
  grind
 ·exact h.all j p a
theorem Er(U:aQ c ss)(d:HI c ss n h)(R:n+1<=100000000)(v:h.Fn[i]? =some o){xs:List zq}(g:pR a o q o' L xs) (V:es.length<=2) (x:J.length=h.or.length) (y:b.length=h.LE.length) (S:∀w∈b,Ch c.Up.toNat c.Maps.length w) (C:∀w∈b,∃D∈h.LE,w.Ue=D.Ue)
  (O:∀(t:Nat) k',J[t]? =some k'->∃k,h.or[t]? =some k/\k'.parts.length=k.parts.length/\k'.Id.UJ.length=k.Id.UJ.length/\k'.Ul=k.Ul-(if L.Vf=t then 1 else 0)/\∀s,ss[t]? =some s->pQ s k->pQ s k'):HI c ss (n+1) (Ep h J b (h.Fn.set i o') es):=by
 obtain ⟨W,X,Y,Z,a5,a6⟩:=d.own.all i o v
 have z:∀f:Int,bS (h.Fn.set i o') f+(if L.Vf=f then 1 else 0)=bS h.Fn f:=λf=>by
  have A:=gL v o' f;rw [g.TZ,g.Wc,uv] at A;omega
 have j:(h.closed=true/\∀w∈h.LE,w.Ue=true)->h.closed=true/\∀w∈b,w.Ue=true:=λe=>⟨e.1,λw B=>by
  grind⟩
 have P:o'.TZ.length+1=o.TZ.length:=by rw [g.TZ,g.Wc];rfl
 have l:∀(t:Nat) k,h.or[t]? =some k->∃k',J[t]? =some k'/\k'.parts.length=k.parts.length/\k'.Id.UJ.length=k.Id.UJ.length:=λt k hk=>by
  grind
 exact
 {UZ:=R
  Ur:=d.Ur
  cl:=x.trans d.cl
  cr:=by show (b.length:Int)=_;rw [y];exact d.cr
  rg:=d.rg
  UO:=d.UO.mono (by omega) (by omega)
  Vn:=d.Vn
  Vq:=λt k' s m Q=>by
   obtain ⟨k,E,_,_,_,T⟩:=O t k' m;exact T s Q (d.Vq t k s E Q)
  crew:=S
  own:=(d.own.set v g.ok g.ou ⟨g.sh.1,g.sh.2.1,g.sh.2.2.2⟩ (by omega)).mono (by omega)
  Wg:=λp u r F=>by
   have G:∃I∈h.Fn,r∈I.TZ:=by
    rcases r9 (show p∈h.Fn.set i o' from u) with u|rfl
    ·exact ⟨p,u,F⟩
    ·exact ⟨o,zmg v,by rw [g.TZ];rw [g.Wc] at F;exact zcm _ F⟩
   obtain ⟨I,K,M⟩:=G;show AK J b.length r;rw [y];exact (d.Wg I K r M).same x l
  Vv:=λt k' m=>by
   obtain ⟨k,E,_,_,e4,_⟩:=O t k' m;have A:=d.Vv t k E;have N:=z t;show k'.Ul=((bS (h.Fn.set i o') t+gr h t:Nat):Int)
   grind
  VF:=λt=>by
   have A:=d.VF t;have N:=z t;show gr h t=0\/gr h t=1/\bS (h.Fn.set i o') t=0
   grind
  call:=d.call
  Uh:=d.Uh
  VG:=d.VG
  VB:=λp u e=>by
   rcases r9 (show p∈h.Fn.set i o' from u) with u|rfl
   ·exact j (d.VB p u e)
   ·exact j (d.VB o (zmg v) (by rw [<- g.sh.2.2.1];exact e))
  VH:=λw B e=>by
   obtain ⟨D,A,N⟩:=C w B;exact d.VH D A (by rw [<- N];exact e)
  VI:=by
   show (h.Un++es).length<=_;have:=d.VI
   grind
  Wd:=by have:=d.Wd;show h.TZ.length<=_;omega
  hel:=by have:=d.hel;show h.held.length<=_;omega}
theorem OE(J:aQ c ss)(b:HI c ss n h)(G:n+1<=100000000)(m:h.Fn[i]? =some o)(K:o.TZ=[]->h.closed=true/\∀w∈h.LE,w.Ue=true)(g:SMv a h i o F):HI c ss (n+1) F:=by
 obtain ⟨C,O,X,Y,Z,R⟩:=b.own.all i o m;cases g with
 |ends t x P hl I hm=>
  have D:∀f:Int,bS (h.Fn.set i {o with Ue:=true}) f=bS h.Fn f:=λf=>by
   have Q:bS (h.Fn.set i {o with Ue:=true}) f+th o.TZ f=bS h.Fn f+th o.TZ f:=gL m {o with Ue:=true} f;omega
  exact
  {UZ:=G
   Ur:=b.Ur
   cl:=b.cl
   cr:=b.cr
   rg:=b.rg
   UO:=b.UO.mono (by omega) (by omega)
   Vn:=b.Vn
   Vq:=b.Vq
   crew:=b.crew
   own:=(b.own.set m (o':={o with Ue:=true}) ⟨C.s1,C.s4,C.m4,C.all,C.VR⟩ ⟨O.maps,O.TZ⟩ ⟨rfl,rfl,rfl⟩ R).mono (by omega)
   Wg:=λp y r S=>by
    rcases r9 (show p∈h.Fn.set i _ from y) with y|rfl
    ·exact b.Wg p y r S
    grind
   Vv:=λu k I=>by
    show k.Ul=((bS (h.Fn.set i _) u+gr h u:Nat):Int)
    rw [D];exact b.Vv u k I
   VF:=λu=>by
    show gr h u=0\/gr h u=1/\bS (h.Fn.set i _) u=0;rw [D];exact b.VF u
   call:=b.call
   Uh:=b.Uh
   VG:=by show (h.Um.Ub.set t _).length=_;rw [j8];exact b.VG
   VB:=λp y e=>K hl
   VH:=b.VH
   VI:=by
    show (h.Un++[AM t]).length<=_;have:=b.VI
    grind
   Wd:=by have:=b.Wd;show h.TZ.length<=_;omega
   hel:=by have:=b.hel;show h.held.length<=_;omega}
 |crew t q o' x xs j w P l B z=>
  refine Er J b G m l (by simp) rfl (by grind) (λv g=> ?_) (λv g=> ?_) (λu k I=>⟨k,I,rfl,rfl,?_,λs _ e=>e⟩)
  ·rcases r9 g with g|rfl
   ·exact b.crew v g
   ·have A:=b.crew w (zmg z);exact ⟨A.UE,A.cur,λr e=>by cases e;exact l.val,A.over⟩
  ·rcases r9 g with g|rfl
   ·exact ⟨v,g,rfl⟩
   ·exact ⟨w,zmg z,rfl⟩
  grind
 |walk q o' x xs u k l B E z T U=>
  refine Er J b G m l (by simp) (by grind) rfl b.crew (λw z=>⟨w,z,rfl⟩) (λv k' d=> ?_);rcases jW d with ⟨rfl,rfl,_⟩|⟨L,d⟩
  ·refine ⟨k,E,by show (k.parts.set _ _).length=_;rw [j8],rfl,by rw [d7 B];rfl,λs V e=>⟨e.Uf,e.Wi,e.Wr,e.WD,e.ans,e.done,e.res,e.Ww,by show (k.parts.set _ _).length<=4;rw [j8];exact e.We,λp y=> ?_,λM=> ?_⟩⟩
   ·rcases r9 (show p∈k.parts.set _ _ from y) with y|rfl
    ·exact e.part p y
    ·exact l.Ug
   ·have W:=e.VO M;have Q:=b.Vv v k E;have N:=nU (zmg m) (r:=x) (by rw [l.TZ];exact zcs)
    rw [B] at N;omega
  grind
 |item t q o' x xs u k P l B E z T U=>
  refine Er J b G m l (by simp) (by grind) rfl b.crew (λw z=>⟨w,z,rfl⟩) (λv k' d=> ?_);rcases jW d with ⟨rfl,rfl,_⟩|⟨L,d⟩
  ·refine ⟨k,E,rfl,by show (k.Id.UJ.set _ _).length=_;rw [j8],by rw [d7 B];rfl,λs V e=>⟨e.Uf,e.Wi,e.Wr,e.WD,e.ans,e.done,by show (k.Id.UJ.set _ _).length<=16;rw [j8];exact e.res,e.Ww,e.We,e.part,λM=> ?_⟩⟩
   have W:=e.VO M;have Q:=b.Vv v k E;have N:=nU (zmg m) (r:=x) (by rw [l.TZ];exact zcs)
   rw [B] at N;omega
  grind
end Go.Proofs.YtplmgfkghomelaaGreatDoor.KH
