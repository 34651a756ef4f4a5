/- Texts KUpR, KWidR, KJoinR, KComeR of this proof. -/
import Derived.Test.YtbmknhpfkpmigaaGreatDoorKSpanR
set_option linter.unusedVariables false
set_option linter.unusedSimpArgs false
namespace Go.Proofs.YtbmknhpfkpmigaaGreatDoor
open Go.Sx
structure Up {α:Type} (o o':Option α):Prop where
 h: ∀ r,o=some r->o'=some r
theorem Up.same {α:Type} (o:Option α):Up o o:=⟨fun _ h=>h⟩
theorem Up.bind {α β:Type} {o o':Option α} {f f':α->Option β} (h1:Up o o') (h2: ∀ x,Up (f x) (f' x)):Up (o.bind f) (o'.bind f'):=⟨fun r h=>by
 cases o with
 | none=>cases h
 | some x=>rw [h1.h x rfl];exact (h2 x).h r h⟩
theorem Up.ite {α:Type} {c:Bool} {A A' B B':Option α} (h1:Up A A') (h2:Up B B'):Up (if c then A else B) (if c then A' else B'):=by
 cases c with
 | true=>exact h1
 | false=>exact h2
theorem Up.oc {α β:Type} {o:Option α} {A A':Option β} {B B':α->Option β} (h1:Up A A') (h2: ∀ x,Up (B x) (B' x)):Up (zdV o A B) (zdV o A' B'):=by
 cases o with
 | none=>exact h1
 | some x=>exact h2 x
theorem Up.lp {σ ρ:Type} {b b':(σ->Option ρ)->σ->Option ρ} (hb: ∀ ag ag',(∀ s,Up (ag s) (ag' s))-> ∀ s,Up (b ag s) (b' ag' s)): ∀ {fu fu':Nat},fu<=fu'-> ∀ s,Up (loop b fu s) (loop b' fu' s):=by
 intro fu
 induction fu with
 | zero=>intro fu' _ s;exact ⟨fun r h=>by cases h⟩
 | succ n ih=>
  intro fu' hu s
  obtain ⟨k,rfl⟩: ∃ k,fu'=k+1:=⟨fu'-1,by omega⟩
  exact hb _ _ (ih (by omega)) s
theorem Up.fo {σ ρ:Type} {b b':Nat->(σ->Option ρ)->σ->Option ρ} {out:σ->ρ} (hb: ∀ i ag ag',(∀ s,Up (ag s) (ag' s))-> ∀ s,Up (b i ag s) (b' i ag' s)): ∀ (n i:Nat) (s:σ),Up (qf b out n i s) (qf b' out n i s):=by
 intro n
 induction n with
 | zero=>intro i s;exact Up.same _
 | succ n ih=>intro i s;exact hb i _ _ (ih (i+1)) s
theorem zeH {ag ag':zk->Option zk} (hag: ∀ s,Up (ag s) (ag' s)) (s673:zk):Up (zJ ag s673) (zJ ag' s673):=by
 unfold zJ
 repeat' (first | with_reducible exact Up.same _ | intro _ | with_reducible apply Up.bind | with_reducible apply Up.ite | with_reducible apply Up.oc | with_reducible apply hag | split)
theorem zfD {fu fu':Nat} (hu:fu<=fu') (p0:zk):Up (qE fu p0) (qE fu' p0):=by
 unfold qE
 repeat' (first | with_reducible exact Up.same _ | intro _ | with_reducible apply Up.bind | with_reducible apply Up.ite | with_reducible apply Up.oc | exact Up.lp (fun ag ag' h s=>zeH h s) hu _ | split)
theorem zgT (r33:Int×zk) {ag ag':(zk×(List Int)×Int)->Option (zk×(List Int))} (hag: ∀ s,Up (ag s) (ag' s)) (s452:zk×(List Int)×Int):Up (jT r33 ag s452) (jT r33 ag' s452):=by
 unfold jT
 repeat' (first | with_reducible exact Up.same _ | intro _ | with_reducible apply Up.bind | with_reducible apply Up.ite | with_reducible apply Up.oc | with_reducible apply hag | split)
theorem zgU (r544:Int×zk) {ag ag':(zk×(List ze)×Int)->Option (zk×(List ze))} (hag: ∀ s,Up (ag s) (ag' s)) (s847:zk×(List ze)×Int):Up (qF r544 ag s847) (qF r544 ag' s847):=by
 unfold qF
 repeat' (first | with_reducible exact Up.same _ | intro _ | with_reducible apply Up.bind | with_reducible apply Up.ite | with_reducible apply Up.oc | with_reducible apply hag | split)
theorem zil {fu fu':Nat} (hu:fu<=fu') (p0:List Int):Up (xF fu p0) (xF fu' p0):=by
 unfold xF
 repeat' (first | with_reducible exact Up.same _ | intro _ | with_reducible apply Up.bind | with_reducible apply Up.ite | with_reducible apply Up.oc | exact zfD hu _ | exact Up.lp (fun ag ag' h s=>zgT _ h s) hu _ | exact Up.lp (fun ag ag' h s=>zgU _ h s) hu _ | split)
theorem zh1 (r8:zas×Bool) {ag ag':((List zb)×Nat)->Option (List zb)} (hag: ∀ s,Up (ag s) (ag' s)) (s427:(List zb)×Nat):Up (zd0 r8 ag s427) (zd0 r8 ag' s427):=by
 unfold zd0
 repeat' (first | with_reducible exact Up.same _ | intro _ | with_reducible apply Up.bind | with_reducible apply Up.ite | with_reducible apply Up.oc | with_reducible apply hag | split)
theorem zg9 {fu fu':Nat} (hu:fu<=fu') (p0:Int):Up (vW fu p0) (vW fu' p0):=by
 unfold vW
 repeat' (first | with_reducible exact Up.same _ | intro _ | with_reducible apply Up.bind | with_reducible apply Up.ite | with_reducible apply Up.oc | exact Up.lp (fun ag ag' h s=>zh1 _ h s) hu _ | split)
theorem zhi (p1:List zb) (r27:(List zb)) (i365:Nat) {ag ag':Unit->Option (Unit ⊕ Int)} (hag: ∀ s,Up (ag s) (ag' s)) (s364:Unit):Up (zau p1 r27 i365 ag s364) (zau p1 r27 i365 ag' s364):=by
 unfold zau
 repeat' (first | with_reducible exact Up.same _ | intro _ | with_reducible apply Up.bind | with_reducible apply Up.ite | with_reducible apply Up.oc | with_reducible apply hag | split)
theorem zjf {fu fu':Nat} (hu:fu<=fu') (p0:Int) (p1:List zb):Up (zaQ fu p0 p1) (zaQ fu' p0 p1):=by
 unfold zaQ
 repeat' (first | with_reducible exact Up.same _ | intro _ | with_reducible apply Up.bind | with_reducible apply Up.ite | with_reducible apply Up.oc | exact zg9 hu _ | exact Up.fo (fun i ag ag' h s=>zhi _ _ i h s) _ _ _ | split)
theorem zfc (p0:zf) (p1:Int) (o81:ze×(Nat->zb)) (i730:Nat) {ag ag':Unit->Option (Unit ⊕ ((Nat->zb)×Int))} (hag: ∀ s,Up (ag s) (ag' s)) (s728:Unit):Up (qw p0 p1 o81 i730 ag s728) (qw p0 p1 o81 i730 ag' s728):=by
 unfold qw
 repeat' (first | with_reducible exact Up.same _ | intro _ | with_reducible apply Up.bind | with_reducible apply Up.ite | with_reducible apply Up.oc | with_reducible apply hag | split)
theorem zgw {fu fu':Nat} (hu:fu<=fu') (p0:zf) (p1:Int):Up (ju fu p0 p1) (ju fu' p0 p1):=by
 unfold ju
 repeat' (first | with_reducible exact Up.same _ | intro _ | with_reducible apply Up.bind | with_reducible apply Up.ite | with_reducible apply Up.oc | exact Up.fo (fun i ag ag' h s=>zfc _ _ _ i h s) _ _ _ | exact zg9 hu _ | exact zjf hu _ _ | split)
theorem zgx {fu fu':Nat} (hu:fu<=fu') (i580:Nat) {ag ag':zf->Option (zf ⊕ ((Option zf)×Int×Int))} (hag: ∀ s,Up (ag s) (ag' s)) (s578:zf):Up (qc fu i580 ag s578) (qc fu' i580 ag' s578):=by
 unfold qc
 repeat' (first | with_reducible exact Up.same _ | intro _ | with_reducible apply Up.bind | with_reducible apply Up.ite | with_reducible apply Up.oc | with_reducible apply hag | exact zgw hu _ _ | split)
theorem zh2 {fu fu':Nat} (hu:fu<=fu') (p0:zg):Up (xV fu p0) (xV fu' p0):=by
 unfold xV
 repeat' (first | with_reducible exact Up.same _ | intro _ | with_reducible apply Up.bind | with_reducible apply Up.ite | with_reducible apply Up.oc | exact Up.fo (fun i ag ag' h s=>zgx hu i h s) _ _ _ | split)
theorem zim {fu fu':Nat} (hu:fu<=fu') (p0:zg):Up (xI fu p0) (xI fu' p0):=by
 unfold xI
 repeat' (first | with_reducible exact Up.same _ | intro _ | with_reducible apply Up.bind | with_reducible apply Up.ite | with_reducible apply Up.oc | exact zh2 hu _ | split)
theorem zdb (p0:za) (r38:zg×Int×Int) (i266:Nat) {ag ag':Unit->Option (Unit ⊕ (Int×Int×za))} (hag: ∀ s,Up (ag s) (ag' s)) (s264:Unit):Up (qG p0 r38 i266 ag s264) (qG p0 r38 i266 ag' s264):=by
 unfold qG
 repeat' (first | with_reducible exact Up.same _ | intro _ | with_reducible apply Up.bind | with_reducible apply Up.ite | with_reducible apply Up.oc | with_reducible apply hag | split)
theorem zbC {fu fu':Nat} (hu:fu<=fu') (p0:za) (p1:List Int):Up (zM fu p0 p1) (zM fu' p0 p1):=by
 unfold zM
 repeat' (first | with_reducible exact Up.same _ | intro _ | with_reducible apply Up.bind | with_reducible apply Up.ite | with_reducible apply Up.oc | exact zil hu _ | exact zim hu _ | exact Up.fo (fun i ag ag' h s=>zdb _ _ i h s) _ _ _ | split)
theorem zfE {fu fu':Nat} (hu:fu<=fu') :Up (jI fu) (jI fu'):=by
 unfold jI
 repeat' (first | with_reducible exact Up.same _ | intro _ | with_reducible apply Up.bind | with_reducible apply Up.ite | with_reducible apply Up.oc | exact zbC hu _ _ | split)
theorem zbN (p1:List Int) {ag ag':((List Int)×Int×Int)->Option ((List Int)×Int)} (hag: ∀ s,Up (ag s) (ag' s)) (s226:(List Int)×Int×Int):Up (zK p1 ag s226) (zK p1 ag' s226):=by
 unfold zK
 repeat' (first | with_reducible exact Up.same _ | intro _ | with_reducible apply Up.bind | with_reducible apply Up.ite | with_reducible apply Up.oc | with_reducible apply hag | split)
theorem zcj {fu fu':Nat} (hu:fu<=fu') (p0:List Int) (p1:List Int):Up (zS fu p0 p1) (zS fu' p0 p1):=by
 unfold zS
 repeat' (first | with_reducible exact Up.same _ | intro _ | with_reducible apply Up.bind | with_reducible apply Up.ite | with_reducible apply Up.oc | exact Up.lp (fun ag ag' h s=>zbN _ h s) hu _ | split)
theorem zcS (p0:za) (p1:Int) (i397:Nat) {ag ag':(List Int)->Option (List Int)} (hag: ∀ s,Up (ag s) (ag' s)) (s394:(List Int)):Up (qd p0 p1 i397 ag s394) (qd p0 p1 i397 ag' s394):=by
 unfold qd
 repeat' (first | with_reducible exact Up.same _ | intro _ | with_reducible apply Up.bind | with_reducible apply Up.ite | with_reducible apply Up.oc | with_reducible apply hag | split)
theorem zcT (o246:(List Int)) (i738:Nat) {ag ag':za->Option za} (hag: ∀ s,Up (ag s) (ag' s)) (s736:za):Up (qe o246 i738 ag s736) (qe o246 i738 ag' s736):=by
 unfold qe
 repeat' (first | with_reducible exact Up.same _ | intro _ | with_reducible apply Up.bind | with_reducible apply Up.ite | with_reducible apply Up.oc | with_reducible apply hag | split)
theorem zdK {fu fu':Nat} (hu:fu<=fu') (p0:za) (p1:Int):Up (zL fu p0 p1) (zL fu' p0 p1):=by
 unfold zL
 repeat' (first | with_reducible exact Up.same _ | intro _ | with_reducible apply Up.bind | with_reducible apply Up.ite | with_reducible apply Up.oc | exact Up.fo (fun i ag ag' h s=>zcS _ _ i h s) _ _ _ | exact Up.fo (fun i ag ag' h s=>zcT _ i h s) _ _ _ | exact zcj hu _ _ | split)
end Go.Proofs.YtbmknhpfkpmigaaGreatDoor
namespace Go.Proofs.YtbmknhpfkpmigaaGreatDoor
open Go.Sx
theorem ziL {σ ρ α:Type} {body:Nat->(σ->Option ρ)->σ->Option ρ} {out:σ->ρ} (xs:List α) (f:σ->α->σ) (I:σ->Prop) (h: ∀ i again s x,xs[i]? =some x->I s->body i again s=again (f s x)/\I (f s x)):
  ∀ (n i:Nat) (s:σ),i+n=xs.length->I s->qf body out n i s=some (out ((xs.drop i).foldl f s)):=by
 intro n
 induction n with
 | zero=>
  intro i s hi hI
  rw [List.drop_of_length_le (by omega)];rfl
 | succ n ih=>
  intro i s hi hI
  have hx:xs[i]? =some xs[i]:=zeg (by omega)
  show body i (qf body out n (i+1)) s=_
  obtain ⟨h1,h2⟩:=h i (qf body out n (i+1)) s _ hx hI
  rw [h1,ih (i+1) _ (by omega) h2,List.drop_eq_getElem_cons (by omega:i<xs.length)]
  rfl
def zmA:zb:=⟨1,⟨0,18446744073709551615⟩,0⟩
def zhv (x:Nat->zb) (i:ze):Nat->zb:=if (wrB i).2 then zcg x (wrB i).1.toNat (if (x (wrB i).1.toNat).Ki==1 then zmA else zci) else x
theorem zpV {i:ze} (h:(wrB i).2=true):0<=(wrB i).1/\(wrB i).1<8:=by
 by_cases hr:qj i=true
 ·obtain ⟨r,e,hq⟩:=zjU hr
  rw [zpU] at e
  obtain rfl:=Option.some.inj e
  exact hq h
 ·have:qj i=false:=by simpa using hr
  unfold wrB at h
  rw [this] at h
  cases h
theorem WT.full {n:Nat}:WT n zmA:= .inr (.inl ⟨rfl,SW.full,rfl⟩)
theorem zn0 {n:Nat} {x:Nat->zb} (hx: ∀ r,r<8->WT n (x r)) (i:ze): ∀ r,r<8->WT n (zhv x i r):=by
 unfold zhv
 split
 ·refine zfX hx ?_
  split
  ·exact WT.full
  ·exact WT.zero
 ·exact hx
def zjg (code:List ze) (p:Nat) (x:Nat->zb):Nat->(Nat->zb)
 | 0=>x
 | k+1=>match code[k]? with
  | some i=>if i.Op==20&&((k:Int)-i.D==(p:Int)) then ((code.take (k+1)).drop p).foldl zhv (zjg code p x k) else zjg code p x k
  | none=>zjg code p x k
theorem zlM {n:Nat}: ∀ (l:List ze) {x:Nat->zb},(∀ r,r<8->WT n (x r))-> ∀ r,r<8->WT n (l.foldl zhv x r)
 | [],_,h=>h
 | i::l,_,h=>zlM l (zn0 h i)
theorem zka {code:List ze} {p k:Nat} {x:Nat->zb} {i:ze} (h:code[k]? =some i):
 zjg code p x (k+1)=if i.Op==20&&((k:Int)-i.D==(p:Int)) then ((code.take (k+1)).drop p).foldl zhv (zjg code p x k) else zjg code p x k:=by rw [zjg,h]
theorem zn1 {n:Nat} {code:List ze} {p:Nat} {x:Nat->zb} (hx: ∀ r,r<8->WT n (x r)): ∀ k r,r<8->WT n (zjg code p x k r):=by
 intro k
 induction k with
 | zero=>exact hx
 | succ k ih=>
  cases h:code[k]? with
  | none=>
   have:zjg code p x (k+1)=zjg code p x k:=by rw [zjg,h]
   rw [this];exact ih
  | some i=>
   rw [zka h]
   by_cases hc:(i.Op==20&&((k:Int)-i.D==(p:Int)))=true
   ·rw [if_pos hc];exact zlM _ ih
   ·rw [if_neg hc];exact ih
theorem zrO {code:List ze} {p:Nat} (ys:List ze) {A:List (Nat->zb)} {x:Nat->zb} (hx:A[p]? =some x):
  qf (xQ p ys) (fun (s:List (Nat->zb))=>s) ys.length 0 A=some (A.set p (ys.foldl zhv x)):=by
 have hp:p<A.length:=(zes.1 hx).1
 have:=ziL (body:=xQ p ys) (out:=fun (s:List (Nat->zb))=>s) ys (fun s i=>match s[p]? with | some y=>s.set p (zhv y i) | none=>s) (fun s=>s.length=A.length) (fun i again s z hz hI=> ?_) ys.length 0 A (by omega) rfl
 ·rw [this]
  congr 1
  rw [List.drop_zero]
  clear this
  induction ys generalizing A x with
  | nil=>
   show A=A.set p x
   rw [<- (zes.1 hx).2,List.set_getElem_self]
  | cons y ys ih=>
   rw [List.foldl_cons,List.foldl_cons,hx]
   show ys.foldl _ (A.set p (zhv x y))=_
   have hl:p<(A.set p (zhv x y)).length:=by rw [List.length_set];exact hp
   rw [ih (A:=A.set p (zhv x y)) (x:=zhv x y) (List.getElem?_set_self hp) hl,List.set_set]
 ·have hl:p<s.length:=by omega
  have hsp:s[p]? =some s[p]:=zeg hl
  refine ⟨?_,by rw [hsp];exact (List.length_set ..).trans hI⟩
  unfold xQ
  have hi:i<ys.length:=(zes.1 hz).1
  rw [zgl hi,(zes.1 hz).2]
  simp only [zbs,zpU,hsp]
  by_cases hw:(wrB z).2=true
  ·have hr:=zpV hw
   have e:idx s (p:Int)=some s[p]:=zgl hl
   simp only [hw,Bool.not_true,zfe,if_false,e,zbs,zmd hr.1 hr.2,zeG,zcQ,Int.toNat_natCast,zhv,if_true]
   split<;>rfl
  ·have hw':(wrB z).2=false:=by simpa using hw
   simp only [hw',Bool.not_false,if_true,zhv,zfe,if_false]
   rw [List.set_getElem_self]
theorem zpl {m:zg} {j:zf} (h:JI m j) (hg:zii m.Co) {p:Nat} (hp:p<m.Co.length) {x:Nat->zb} (hx:j.ca[p]? =some x):
  xk j p=some ⟨j.Module,j.ca.set p (zjg m.Co p x m.Co.length),j.any,j.loops⟩:=by
 have hpc:p<j.ca.length:=(zes.1 hx).1
 unfold xk
 have:=ziL (body:=vP j p) (out:=fun (s:List (Nat->zb))=>(zf.mk j.Module s j.any j.loops)) j.loops
  (fun s l=>if l.Head==(p:Int) then (match s[p]? with | some y=>s.set p (((m.Co.take (l.At+1).toNat).drop p).foldl zhv y) | none=>s) else s) (fun s=>s.length=j.ca.length) (fun i again s l hl hI=> ?_) j.loops.length 0 j.ca (by omega) rfl
 ·rw [this,zbs,List.drop_zero]
  congr 2
  rw [h.lps]
  clear this
  have: ∀ k,k<=m.Co.length->(lps m.Co k).foldl (fun s l=>if l.Head==(p:Int) then (match s[p]? with | some y=>s.set p (((m.Co.take (l.At+1).toNat).drop p).foldl zhv y) | none=>s) else s) j.ca=j.ca.set p (zjg m.Co p x k):=by
   intro k
   induction k with
   | zero=>
    intro _
    show j.ca=j.ca.set p x
    rw [<- (zes.1 hx).2,List.set_getElem_self]
   | succ k ih=>
    intro hk
    have ih:=ih (by omega)
    have hck:m.Co[k]? =some m.Co[k]:=zeg (by omega)
    unfold lps zjg
    rw [hck]
    simp only
    by_cases h20:(m.Co[k].Op==20)=true
    ·simp only [h20,if_true,Bool.true_and]
     rw [List.foldl_append,ih,List.foldl_cons,List.foldl_nil]
     have hh:(qp m.Co[k] k).Head=(k:Int)-m.Co[k].D:=rfl
     have ha:(qp m.Co[k] k).At=(k:Int):=rfl
     rw [hh,ha]
     by_cases he:((k:Int)-m.Co[k].D==(p:Int))=true
     ·simp only [he,if_true]
      rw [List.getElem?_set_self hpc]
      have:((k:Int)+1).toNat=k+1:=by omega
      simp only [this,List.set_set]
     ·simp only [he,zfe,if_false]
    ·simp only [h20,zfe,if_false,Bool.false_and]
     exact ih
  exact this _ (Nat.le_refl _)
 ·have hlm:l∈lps m.Co m.Co.length:=by rw [<- h.lps];exact zmg hl
  obtain ⟨q,iq,hq,hcq,h20,rfl⟩:=zfV.1 hlm
  have hi:i<j.loops.length:=(zes.1 hl).1
  have hlo:=hg.fine.loop hcq h20
  have hlen:(if ((qp iq q).Head==(p:Int))=true then (match s[p]? with | some y=>s.set p (((m.Co.take ((qp iq q).At+1).toNat).drop p).foldl zhv y) | none=>s) else s).length=j.ca.length:=by
   split
   ·split
    ·rw [List.length_set];exact hI
    ·exact hI
   ·exact hI
  refine ⟨?_,hlen⟩
  unfold vP
  rw [zgl hi,(zes.1 hl).2]
  simp only [zbs,h.mod]
  by_cases he:(qp iq q).Head=(p:Int)
  ·have e1:((qp iq q).Head != (p:Int))=false:=by simpa using he
   have e2:((qp iq q).Head==(p:Int))=true:=by simpa using he
   simp only [e1,e2,zfe,if_false,if_true]
   have hAt:(qp iq q).At=(q:Int):=rfl
   have hHd:(qp iq q).Head=(q:Int)-iq.D:=rfl
   have n64:=hg.n64
   rw [he,hAt,qN (by omega) (by omega),show (q:Int)+1=((q+1:Nat):Int) by push_cast;rfl,zjX (by omega) (by omega)]
   have hl:p<s.length:=by omega
   have hsp:s[p]? =some s[p]:=zeg hl
   simp only [zbs,Int.toNat_natCast]
   rw [zrO (code:=m.Co) _ hsp,hsp]
   rfl
  ·have e1:((qp iq q).Head != (p:Int))=true:=by simpa using he
   have e2:((qp iq q).Head==(p:Int))=false:=by simpa using he
   simp only [e1,e2,zfe,if_false,if_true]
theorem zrP {n:Nat} {m:zg} {l:Nat} (hl:l<m.Co.length) (hn:m.Co.length<=64): ∀ (c q f:Nat) (x:Nat->zb),q+c=l+1->c<f->(∀ r,r<8->WT n (x r))->
  loop (zbk m l) f (vp 8 x,(q:Int))=some (vp 8 (((m.Co.take (l+1)).drop q).foldl zhv x)):=by
 intro c
 induction c with
 | zero=>
  intro q f x hq hf hx
  obtain ⟨f,rfl⟩: ∃ k,f=k+1:=⟨f-1,by omega⟩
  rw [loop,zbk,if_neg (by simp;omega),List.drop_of_length_le (by rw [List.length_take];omega)]
  rfl
 | succ c ih=>
  intro q f x hq hf hx
  obtain ⟨f,rfl⟩: ∃ k,f=k+1:=⟨f-1,by omega⟩
  have hql:q<(m.Co.take (l+1)).length:=by rw [List.length_take];omega
  rw [List.drop_eq_getElem_cons hql,List.foldl_cons,List.getElem_take]
  have hcode:idx m.Co (q:Int)=some (m.Co[q]'(by omega)):=zgl (by omega)
  generalize hz:m.Co[q]'(by omega)=z at hcode
  rw [loop,zbk,if_pos (by simp;omega)]
  simp only [hcode,zbs,zrL]
  have hnext:w64 ((q:Int)+1)=((q+1:Nat):Int):=by rw [qN (by omega) (by omega)];push_cast;rfl
  have goal:=ih (q+1) f (zhv x z) (by omega) (by omega) (zn0 hx z)
  rw [hnext]
  by_cases hw:(wrB z).2=true
  ·have hr:=zpV hw
   have hxr:=hx (wrB z).1.toNat (by omega)
   simp only [hw,if_true,vR x hr.1 hr.2,zbs,zkG,zcB]
   by_cases h1:((x (wrB z).1.toNat).Ki==1)=true
   ·simp only [h1,if_true,zbs]
    have e:zhv x z=zcg x (wrB z).1.toNat zmA:=by unfold zhv;rw [hw,if_pos rfl,h1,if_pos rfl]
    rw [e] at goal
    rw [vR _ hr.1 hr.2]
    have:(zcg x (wrB z).1.toNat ⟨1,⟨0,18446744073709551615⟩,0⟩ (wrB z).1.toNat)=zmA:=by simp [zcg,zmA]
    have f2:(zmA.Ki==2)=false:=rfl
    simp only [zbs,this,f2,zfe,if_false,e]
    exact goal
   ·have h1':((x (wrB z).1.toNat).Ki==1)=false:=by simpa using h1
    have e:zhv x z=zcg x (wrB z).1.toNat zci:=by unfold zhv;rw [hw,if_pos rfl,h1',if_neg (by decide)]
    rw [e] at goal
    simp only [h1',zfe,if_false,zbs,vR x hr.1 hr.2,zcB]
    by_cases h2:((x (wrB z).1.toNat).Ki==2)=true
    ·simp only [h2,if_true,e]
     exact goal
    ·simp only [h2,zfe,if_false]
     have hz0:x (wrB z).1.toNat=zci:=by
      rcases hxr with h | h | h
      ·exact h
      ·rw [h.1] at h1';cases h1'
      ·rw [h.1] at h2;exact absurd rfl h2
     have:vp 8 x=vp 8 (zcg x (wrB z).1.toNat zci):=ziX (fun r _=>by
      unfold zcg;split
      ·rename_i h;rw [h,hz0]
      ·rfl)
     rw [this,e]
     exact goal
  ·have hw':(wrB z).2=false:=by simpa using hw
   have e:zhv x z=x:=by unfold zhv;rw [hw'];rfl
   rw [e] at goal
   simp only [hw',zfe,if_false,zbs]
   rw [e]
   exact goal
theorem zrQ {n fu:Nat} (hf:70<=fu) {m:zg} (hg:zii m.Co) {p:Nat} {x:Nat->zb} (hx: ∀ r,r<8->WT n (x r)): ∀ (c k:Nat),k+c=m.Co.length->
  qf (ve fu m p) (fun (s:List zb)=>s) c k (vp 8 (zjg m.Co p x k))=some (vp 8 (zjg m.Co p x m.Co.length)):=by
 intro c
 induction c with
 | zero=>
  intro k hk
  have:k=m.Co.length:=by omega
  subst this
  rfl
 | succ c ih=>
  intro k hk
  have hck:m.Co[k]? =some (m.Co[k]'(by omega)):=zeg (by omega)
  have n64:=hg.n64
  show ve fu m p k (qf (ve fu m p) (fun (s:List zb)=>s) c (k+1)) _=_
  have goal:=ih (k+1) (by omega)
  generalize qf (ve fu m p) (fun (s:List zb)=>s) c (k+1)=again at goal |-
  rw [zka hck] at goal
  unfold ve
  rw [zgl (by omega:k<m.Co.length)]
  simp only [zbs]
  by_cases h20:(m.Co[k]'(by omega)).Op=20
  ·have hlo:=hg.fine.loop hck h20
   have e1:((m.Co[k]'(by omega)).Op != 20)=false:=by simpa using h20
   have e2:((m.Co[k]'(by omega)).Op==20)=true:=by simpa using h20
   rw [e2] at goal
   simp only [e1,zfe,if_false,zbs]
   rw [qN (by omega) (by omega)]
   by_cases he:(k:Int)-(m.Co[k]'(by omega)).D=(p:Int)
   ·have e3:((k:Int)-(m.Co[k]'(by omega)).D != (p:Int))=false:=by simpa using he
    have e4:((k:Int)-(m.Co[k]'(by omega)).D==(p:Int))=true:=by simpa using he
    rw [e4] at goal
    simp only [Bool.and_self,if_true] at goal
    simp only [e3,zfe,if_false]
    rw [zrP (n:=n) (by omega) n64 (k+1-p) p fu _ (by omega) (by omega) (zn1 hx k)]
    exact goal
   ·have e3:((k:Int)-(m.Co[k]'(by omega)).D != (p:Int))=true:=by simpa using he
    have e4:((k:Int)-(m.Co[k]'(by omega)).D==(p:Int))=false:=by simpa using he
    rw [e4] at goal
    simp only [Bool.and_false,zfe,if_false] at goal
    simp only [e3,if_true]
    exact goal
  ·have e1:((m.Co[k]'(by omega)).Op != 20)=true:=by simpa using h20
   have e2:((m.Co[k]'(by omega)).Op==20)=false:=by simpa using h20
   rw [e2] at goal
   simp only [Bool.false_and,zfe,if_false] at goal
   simp only [e1,if_true,zbs]
   exact goal
end Go.Proofs.YtbmknhpfkpmigaaGreatDoor
namespace Go.Proofs.YtbmknhpfkpmigaaGreatDoor
open Go.Sx
def jS (a b:zc):zc:=⟨if b.Lo<a.Lo then b.Lo else a.Lo,if b.Hi>a.Hi then b.Hi else a.Hi⟩
theorem znf (L:List zc) (hw: ∀ s∈L,SW s): ∀ (rest:List zc) (i:Nat) (s:zc),L.drop i=rest->0<i->i+rest.length=L.length->
  qf (qo L) (fun (s:zc)=>(.inl s)) rest.length i s=some (.inl (rest.foldl jS s)):=by
 intro rest
 induction rest with
 | nil=>intro i s _ _ _;rfl
 | cons x rest ih=>
  intro i s hd hi hl
  simp only [List.length_cons] at hl
  have hx:L[i]? =some x:=by
   have:=congrArg (fun l=>l[0]?) hd
   simpa using this
  have hd2:L.drop (i+1)=rest:=by
   have:=congrArg (fun l=>l.drop 1) hd
   simpa [List.drop_drop,Nat.add_comm] using this
  have hxs:=hw x (zmg hx)
  show qo L i (qf (qo L) (fun (s:zc)=>(.inl s)) rest.length (i+1)) s=_
  have ihx:=ih (i+1) (jS s x) hd2 (by omega) (by omega)
  generalize qf (qo L) (fun (s:zc)=>(.inl s)) rest.length (i+1)=again at ihx |-
  unfold qo
  have e:idx L (i:Int)=some x:=by unfold Go.Sx.idx;rw [if_pos (by omega)];exact hx
  have e0:((i:Int)==0)=false:=by simp;omega
  rw [e]
  simp only [zbs,zd4 hxs,Bool.not_true,zfe,if_false,e0]
  rw [List.foldl_cons,<- ihx]
  unfold jS
  by_cases h1:x.Lo<s.Lo
  ·by_cases h2:x.Hi>s.Hi
   ·simp only [h1,h2,decide_true,if_true,zbs]
   ·simp only [h1,h2,decide_true,decide_false,if_true,if_false,zbs,zfe]
  ·by_cases h2:x.Hi>s.Hi
   ·simp only [h1,h2,decide_true,decide_false,if_true,if_false,zbs,zfe]
   ·simp only [h1,h2,decide_false,if_false,zbs,zfe]
theorem zqr {x0:zc} {l:List zc} (hw: ∀ s∈x0::l,SW s):zaK (x0::l)=some (l.foldl jS x0,true):=by
 have hx:=hw x0 zcs
 unfold zaK
 show (qo (x0::l) 0 (qf (qo (x0::l)) (fun (s:zc)=>(.inl s)) l.length 1) ⟨0,0⟩).bind _=_
 have ihx:=znf (x0::l) hw l 1 x0 rfl (by omega) (by simp;omega)
 generalize qf (qo (x0::l)) (fun (s:zc)=>(.inl s)) l.length 1=again at ihx |-
 unfold qo
 have e:idx (x0::l) ((0:Nat):Int)=some x0:=rfl
 have e0:(((0:Nat):Int)==0)=true:=rfl
 rw [e]
 simp only [zbs,zd4 hx,Bool.not_true,zfe,if_false,e0,if_true]
 show (again x0).bind _=_
 rw [ihx]
 show some (_,decide _)=_
 rw [decide_eq_true (by simp only [List.length_cons];omega)]
def okT (x0 x:zb):Prop:=x.Ki=x0.Ki/\x.Map=x0.Map
instance (x0 x:zb):Decidable (okT x0 x):=inferInstanceAs (Decidable (_/\_))
theorem zly {n:Nat} {a b:zb} (ha:WT n a) (hb:WT n b) (h:okT a b):zcR a b=if a.Ki==1 then ⟨1,jS a.Sp b.Sp,0⟩ else a:=by
 obtain ⟨a0,a1,a2⟩:=ha.span
 obtain ⟨b0,b1,b2⟩:=hb.span
 unfold zcR jS zeR zeU
 have e1:(a.Ki != b.Ki)=false:=by simp [h.1]
 have e2:(a.Map != b.Map)=false:=by simp [h.2]
 rw [e1,e2]
 simp only [Bool.or_self,zfe,if_false]
 split
 ·congr 2<;>(repeat' split)<;>omega
 ·rfl
theorem zjP {a b:zb} (h: ¬ okT a b):zcR a b=zci:=by
 unfold zcR
 rw [if_pos]
 rw [Bool.or_eq_true]
 by_cases e:a.Ki=b.Ki
 ·right;simp only [bne_iff_ne,ne_eq];intro e2;exact h ⟨e.symm,e2.symm⟩
 ·left;simp only [bne_iff_ne,ne_eq];exact e
theorem zmb {n:Nat} {b:zb} (hb:WT n b):zcR zci b=zci:=by
 by_cases h:okT zci b
 ·rcases hb with rfl | hb | hb
  ·rfl
  ·have:=h.1;rw [hb.1] at this;cases this
  ·have:=h.1;rw [hb.1] at this;cases this
 ·exact zjP h
theorem zjQ {n:Nat}: ∀ (l:List zb),(∀ x∈l,WT n x)->l.foldl zcR zci=zci
 | [],_=>rfl
 | x::l,h=>by
  rw [List.foldl_cons,zmb (h x zcs)]
  exact zjQ l (fun y hy=>h y (zcm _ hy))
theorem zkN {n:Nat}: ∀ (l:List zb) {a:zb},WT n a->(∀ x∈l,WT n x)->(∀ x∈l,okT a x)->l.foldl zcR a=if a.Ki==1 then ⟨1,(l.map (·.Sp)).foldl jS a.Sp,0⟩ else a
 | [],a,ha,_,_=>by
  by_cases h:(a.Ki==1)=true
  ·rw [if_pos h]
   have hk:a.Ki=1:=by simpa using h
   rcases ha with rfl | ha | ha
   ·cases hk
   ·obtain ⟨k,s,q⟩:=a
    simp only at hk ha |-
    obtain ⟨_,_,rfl⟩:=ha
    subst hk;rfl
   ·rw [hk] at ha;exact absurd ha.1 (by decide)
  ·rw [if_neg h];rfl
 | x::l,a,ha,hw,hk=>by
  have hx:=hw x zcs
  have h1:=zly ha hx (hk x zcs)
  rw [List.foldl_cons]
  have hj:WT n (zcR a x):=ha.join hx
  by_cases h:(a.Ki==1)=true
  ·have hk1:a.Ki=1:=by simpa using h
   rw [if_pos h] at h1 |-
   have hm:a.Map=0:=by
    rcases ha with rfl | ha | ha
    ·rfl
    ·exact ha.2.2
    ·rw [hk1] at ha;exact absurd ha.1 (by decide)
   rw [zkN l hj (fun y hy=>hw y (zcm _ hy)) (fun y hy=>by
    have:=hk y (zcm _ hy)
    rw [h1]
    exact ⟨by rw [this.1,hk1],by rw [this.2,hm]⟩),h1]
   rfl
  ·rw [if_neg h] at h1 |-
   rw [h1,zkN l ha (fun y hy=>hw y (zcm _ hy)) (fun y hy=>hk y (zcm _ hy)),if_neg h]
theorem zlz {n:Nat}: ∀ (l:List zb) {a:zb},WT n a->(∀ x∈l,WT n x)->(∃ x∈l,¬ okT a x)->l.foldl zcR a=zci
 | [],_,_,_,h=>by obtain ⟨x,hx,_⟩:=h;cases hx
 | x::l,a,ha,hw,h=>by
  have hx:=hw x zcs
  have hl:=fun y hy=>hw y (zcm _ hy)
  rw [List.foldl_cons]
  by_cases hk:okT a x
  ·have h1:=zly ha hx hk
   have hsame:(zcR a x).Ki=a.Ki/\(zcR a x).Map=a.Map:=by
    rw [h1]
    split
    ·rename_i h
     have hk1:a.Ki=1:=by simpa using h
     refine ⟨hk1.symm,?_⟩
     rcases ha with rfl | ha | ha
     ·rfl
     ·exact ha.2.2.symm
     ·rw [hk1] at ha;exact absurd ha.1 (by decide)
    ·exact ⟨rfl,rfl⟩
   obtain ⟨y,hy,hb⟩:=h
   rcases List.mem_cons.1 hy with rfl | hy
   ·exact absurd hk hb
   ·exact zlz l (ha.join hx) hl ⟨y,hy,fun e=>hb ⟨by rw [e.1,hsame.1],by rw [e.2,hsame.2]⟩⟩
  ·rw [zjP hk]
   exact zjQ l hl
theorem zkO {n:Nat} (x0:zb) (L:List zb) (h0:L[0]? =some x0) (hw: ∀ x∈L,WT n x) (hlen:L.length<=1000): ∀ (rest:List zb) (i:Nat) (ss:List zc),L.drop i=rest->i+rest.length=L.length->ss.length=i->
  qf (jK L) (fun (s:List zc)=>(.inl s)) rest.length i ss=some (if ∀ x∈rest,okT x0 x then .inl (ss++rest.map (·.Sp)) else .inr zci):=by
 intro rest
 induction rest with
 | nil=>intro i ss _ _ _;simp [qf]
 | cons x rest ih=>
  intro i ss hd hl hs
  simp only [List.length_cons] at hl
  have hx:L[i]? =some x:=by
   have:=congrArg (fun l=>l[0]?) hd
   simpa using this
  have hd2:L.drop (i+1)=rest:=by
   have:=congrArg (fun l=>l.drop 1) hd
   simpa [List.drop_drop,Nat.add_comm] using this
  have wx:=hw x (zmg hx)
  have w0:=hw x0 (zmg h0)
  show jK L i (qf (jK L) (fun (s:List zc)=>(.inl s)) rest.length (i+1)) ss=_
  have ihx:=ih (i+1) (ss++ [x.Sp]) hd2 (by omega) (by simp;omega)
  generalize qf (jK L) (fun (s:List zc)=>(.inl s)) rest.length (i+1)=again at ihx |-
  unfold jK
  have e:idx L (i:Int)=some x:=by unfold Go.Sx.idx;rw [if_pos (by omega)];exact hx
  have e0:idx L 0=some x0:=by unfold Go.Sx.idx;rw [if_pos (by omega)];exact h0
  rw [e,e0]
  simp only [zbs]
  have hq:(if (x.Ki != x0.Ki)=true then some true else if (x.Ki==2)=true then some (x.Map != x0.Map) else some false:Option Bool)=some (!decide (okT x0 x)):=by
   by_cases h1:x.Ki=x0.Ki
   ·have b1:(x.Ki != x0.Ki)=false:=by simpa using h1
    rw [b1,if_neg (by decide)]
    by_cases h2:x.Ki=2
    ·have b2:(x.Ki==2)=true:=by simpa using h2
     rw [b2,if_pos rfl]
     congr 1
     by_cases h3:x.Map=x0.Map
     ·have:okT x0 x:=⟨h1,h3⟩
      simp [h3,this]
     ·have: ¬ okT x0 x:=fun h=>h3 h.2
      simp [h3,this]
    ·have b2:(x.Ki==2)=false:=by simpa using h2
     rw [b2,if_neg (by decide)]
     have:okT x0 x:=by
      refine ⟨h1,?_⟩
      have f (y:zb) (hy:WT n y) (hk:y.Ki ≠ 2):y.Map=0:=by
       rcases hy with rfl | hy | hy
       ·rfl
       ·exact hy.2.2
       ·exact absurd hy.1 hk
      rw [f x wx h2,f x0 w0 (by rw [<- h1];exact h2)]
     simp [this]
   ·have b1:(x.Ki != x0.Ki)=true:=by simpa using h1
    have: ¬ okT x0 x:=fun h=>h1 h.1
    rw [b1,if_pos rfl];simp [this]
  rw [hq]
  simp only [zbs]
  by_cases hk:okT x0 x
  ·have hroom:room (ss.length+ [x.Sp].length) 16=some ():=by unfold Go.Sx.room;rw [if_pos];simp;omega
   simp only [hk,decide_true,Bool.not_true,zfe,if_false,hroom,zbs]
   rw [ihx]
   simp [hk]
  ·simp only [hk,decide_false,Bool.not_false,if_true]
   rw [if_neg]
   ·rfl
   ·intro h;exact hk (h x zcs)
theorem zng {n:Nat} {x0:zb} {l:List zb} (hw: ∀ x∈x0::l,WT n x) (hlen:l.length<=900):vG (x0::l)=some (l.foldl zcR x0):=by
 have w0:=hw x0 zcs
 have wl:=fun y hy=>hw y (zcm _ hy)
 unfold vG
 have:=zkO x0 (x0::l) rfl hw (by simp;omega) (x0::l) 0 [] rfl (by simp) rfl
 rw [this,zbs]
 by_cases h: ∀ x∈x0::l,okT x0 x
 ·rw [if_pos h]
  have e0:idx (x0::l) 0=some x0:=rfl
  simp only [e0,zbs]
  rw [zkN l w0 wl (fun y hy=>h y (zcm _ hy))]
  split
  ·have:([]++(x0::l).map (·.Sp))=x0.Sp::l.map (·.Sp):=rfl
   rw [this,zqr]
   ·rfl
   ·intro s hs
    rcases List.mem_cons.1 hs with rfl | hs
    ·exact w0.span
    ·obtain ⟨y,hy,rfl⟩:=List.mem_map.1 hs
     exact (wl y hy).span
  ·rfl
 ·rw [if_neg h]
  have: ∃ x∈l,¬ okT x0 x:=by
   simp only [Classical.not_forall] at h
   obtain ⟨y,hy,hb⟩:=h
   rcases List.mem_cons.1 hy with rfl | hy
   ·exact absurd ⟨rfl,rfl⟩ hb
   ·exact ⟨y,hy,hb⟩
  rw [zlz l w0 wl this]
end Go.Proofs.YtbmknhpfkpmigaaGreatDoor
namespace Go.Proofs.YtbmknhpfkpmigaaGreatDoor
open Go.Sx
abbrev zfU:=Nat->zb
structure zjC (m:zg) (j:zf) (q:Nat) (cs:List zfU):Prop where
 any:j.any[q]? =some (!cs.isEmpty)
 wt: ∀ c∈cs,∀ r,r<8->WT m.Ms.length (c r)
 val: ∀ c rest,cs=c::rest-> ∃ x,j.ca[q]? =some x/\ ∀ r,r<8->x r=(rest.map (· r)).foldl zcR (c r)
theorem zm4 {m:zg} {j:zf} (h:JI m j) {p:Nat} {x k:zfU} (hx:j.ca[p]? =some x) (hk: ∀ r,r<8->WT m.Ms.length (k r)): ∀ (c r:Nat),r+c=8->
    qf (jD p k) (fun (s:zf)=>s) c r ⟨j.Module,j.ca.set p (fun q=>if q<r then zcR (x q) (k q) else x q),j.any,j.loops⟩=some ⟨j.Module,j.ca.set p (fun q=>if q<8 then zcR (x q) (k q) else x q),j.any,j.loops⟩:=by
  have hp:p<j.ca.length:=(zes.1 hx).1
  have hxw:=h.wt p x hx
  intro c
  induction c with
  | zero => intro r hr; have : r = 8 := by omega
            subst this;rfl
  | succ c ih =>
    intro r hr
    have ihx:=ih (r+1) (by omega)
    show jD p k r (qf (jD p k) (fun (s:zf)=>s) c (r+1)) _=_
    generalize qf (jD p k) (fun (s:zf)=>s) c (r+1)=again at ihx |-
    unfold jD
    have e:idx (j.ca.set p (fun q=>if q<r then zcR (x q) (k q) else x q)) (p:Int)=some (fun q=>if q<r then zcR (x q) (k q) else x q):=by
      unfold Go.Sx.idx;rw [if_pos (by omega)];exact List.getElem?_set_self hp
    simp only [e,zbs,zr4 (show r<8 by omega),Nat.lt_irrefl,if_false,zjR (hxw r (by omega)).span (hk r (by omega)).span,Int.toNat_natCast,List.set_set]
    rw [<- ihx]
    congr 3
    funext q
    unfold zcg
    by_cases h1:q=r
    · subst h1;rw [if_pos rfl,if_pos (by omega)]
    · rw [if_neg h1]
      show (if q<r then zcR (x q) (k q) else x q)=_
      by_cases h2:q<r
      · rw [if_pos h2,if_pos (by omega)]
      · rw [if_neg h2,if_neg (by omega)]
theorem ziY {m:zg} {j:zf} (h:JI m j) {p:Nat} (hp:p<m.Co.length) {k:zfU} (hk: ∀ r,r<8->WT m.Ms.length (k r)):
  ∃ j',qb j p k=some j'/\JI m j'/\(∀ q cs,zjC m j q cs->zjC m j' q (if q=p then cs++ [k] else cs))/\ ∀ q,q ≠ p->j'.ca[q]? =j.ca[q]? /\j'.any[q]? =j.any[q]? :=by
 have hpc:p<j.ca.length:=by rw [h.lenC];exact hp
 have hpa:p<j.any.length:=by rw [h.lenA];exact hp
 have hx:j.ca[p]? =some j.ca[p]:=zeg hpc
 have ha:j.any[p]? =some j.any[p]:=zeg hpa
 have e1:idx j.any (p:Int)=some j.any[p]:=zgl hpa
 have e2:idx j.ca (p:Int)=some j.ca[p]:=zgl hpc
 by_cases hb:j.any[p]=true
 ·have hl:=zm4 h hx hk 8 0 rfl
  have h0:(⟨j.Module,j.ca.set p (fun q=>if q<0 then zcR (j.ca[p] q) (k q) else j.ca[p] q),j.any,j.loops⟩:zf)=j:=by
   have:(fun q=>if q<0 then zcR (j.ca[p] q) (k q) else j.ca[p] q)=j.ca[p]:=by funext q;rw [if_neg (by omega)]
   rw [this,List.set_getElem_self]
  rw [h0] at hl
  refine ⟨_,?_,h.put (p:=p) (x:=fun q=>if q<8 then zcR (j.ca[p] q) (k q) else j.ca[p] q) (fun r hr=> ?_) j.any h.lenA,?_,?_⟩
  ·unfold qb
   rw [e1]
   simp only [zbs,hb,Bool.not_true,zfe,if_false]
   rw [hl];rfl
  ·simp only [hr,if_true]
   exact (h.wt p _ hx r hr).join (hk r hr)
  ·intro q cs hc
   by_cases e:q=p
   ·subst e
    rw [if_pos rfl]
    have hne:cs ≠ []:=by
     intro e;subst e
     have:=hc.any
     rw [ha,hb] at this
     cases this
    obtain ⟨c,rest,rfl⟩:=List.exists_cons_of_ne_nil hne
    obtain ⟨x,hx',hv⟩:=hc.val c rest rfl
    rw [hx] at hx'
    obtain rfl:=Option.some.inj hx'
    refine ⟨?_,?_,?_⟩
    ·show j.any[q]? =_
     rw [ha,hb];rfl
    ·intro c' hc' r hr
     rcases List.mem_append.1 hc' with h1 | h1
     ·exact hc.wt c' h1 r hr
     ·simp only [List.mem_singleton] at h1;subst h1;exact hk r hr
    ·intro c' rest' heq
     simp only [List.cons_append,List.cons.injEq] at heq
     obtain ⟨rfl,rfl⟩:=heq
     refine ⟨_,List.getElem?_set_self hpc,fun r hr=> ?_⟩
     simp only [hr,if_true]
     rw [hv r hr,List.map_append,List.foldl_append]
     rfl
   ·rw [if_neg e]
    refine ⟨hc.any,hc.wt,fun c rest heq=> ?_⟩
    obtain ⟨x,hx',hv⟩:=hc.val c rest heq
    exact ⟨x,by show (j.ca.set p _)[q]? =_;rw [zc5 e];exact hx',hv⟩
  ·intro q hq
   exact ⟨zc5 hq,rfl⟩
 ·have hb':j.any[p]=false:=by simpa using hb
  refine ⟨_,?_,h.put (p:=p) (x:=k) hk (j.any.set p true) (by rw [List.length_set];exact h.lenA),?_,?_⟩
  ·unfold qb
   rw [e1]
   simp only [zbs,hb',Bool.not_false,if_true,e2,Int.toNat_natCast]
  ·intro q cs hc
   by_cases e:q=p
   ·subst e
    rw [if_pos rfl]
    have hnil:cs= []:=by
     have:=hc.any
     rw [ha,hb'] at this
     cases cs with
     | nil=>rfl
     | cons c r=>cases this
    subst hnil
    refine ⟨List.getElem?_set_self hpa,?_,?_⟩
    ·intro c' hc' r hr
     simp only [List.nil_append,List.mem_singleton] at hc'
     subst hc';exact hk r hr
    ·intro c' rest' heq
     simp only [List.nil_append,List.cons.injEq] at heq
     obtain ⟨rfl,rfl⟩:=heq
     exact ⟨_,List.getElem?_set_self hpc,fun r hr=>rfl⟩
   ·rw [if_neg e]
    refine ⟨by show (j.any.set p true)[q]? =_;rw [zc5 e];exact hc.any,hc.wt,fun c rest heq=> ?_⟩
    obtain ⟨x,hx',hv⟩:=hc.val c rest heq
    exact ⟨x,by show (j.ca.set p _)[q]? =_;rw [zc5 e];exact hx',hv⟩
  ·intro q hq
   exact ⟨zc5 hq,zc5 hq⟩
def ctr (i:ze) (p q:Nat) (lv:Bool->Option zfU):List zfU:=
 (if (zF i).2.1&&((p:Int)+(zF i).1==(q:Int)) then (lv true).toList else [])++(if (zF i).2.2&&(p+1==q) then (lv false).toList else [])
def ziZ (i:ze) (k k':zfU) (b:Bool):Option zfU:=
 if 16<=i.Op/\i.Op<=19 then (match xG i.Op (k i.A.toNat).Sp (zhg i k).Sp b with | some (s,true)=>some (zcg k i.A.toNat ⟨1,s,0⟩) | _=>none) else some k'
theorem zhq {i:ze} {k k':zfU} (h: ¬ (16<=i.Op/\i.Op<=19)) (b:Bool):ziZ i k k' b=some k':=if_neg h
theorem zqh {m:zg} {j:zf} (h:JI m j) (hg:zii m.Co) {p:Nat} (hp:p<m.Co.length) {i:ze} (hi:m.Co[p]? =some i) {k k':zfU} (hk: ∀ r,r<8->WT m.Ms.length (k r)) (hk': ∀ r,r<8->WT m.Ms.length (k' r))
    (hsame:15<=i.Op->i.Op<=20->k'=k):
    ∃ j',xH j p k'=some j'/\JI m j'/\(∀ q cs,p<q->zjC m j q cs->zjC m j' q (cs++ctr i p q (ziZ i k k')))/\ ∀ q,q<=p->j'.ca[q]? =j.ca[q]? /\j'.any[q]? =j.any[q]? :=by
  have hr:qj i=true:=hg.fine.right hi
  have ho:=zfr hr
  have n64:=hg.n64
  have eidx:idx m.Co (p:Int)=some i:=by unfold Go.Sx.idx;rw [if_pos (by omega)];exact hi
  unfold xH
  rw [h.mod,eidx]
  simp only [zbs,zfu]
  have wp:w64 ((p:Int)+1)=((p+1:Nat):Int):=by rw [qN (by omega) (by omega)];push_cast;rfl
  by_cases hl:(zF i).2.1=true
  · rcases znk hl with ⟨d0, o1, o2, hon⟩ | ⟨d0, o1, hon⟩
    · have hld := hg.fine.leads hi hl
      obtain ⟨t,ht⟩: ∃ t:Nat,(p:Int)+(zF i).1=(t:Int):=⟨((p:Int)+(zF i).1).toNat,by omega⟩
      have hpt:p<t:=by omega
      have htl:t<m.Co.length:=by omega
      have c1:(!(zF i).2.1||decide ((zF i).1<0))=false:=by rw [hl,decide_eq_false (by omega)];rfl
      simp only [c1,zfe,if_false,ht,wp]
      have wt':w64 (t:Int)=(t:Int):=qN (by omega) (by omega)
      simp only [wt']
      by_cases h15:i.Op=15
      · have hon' : (zF i).2.2 = false := by rw [hon, h15]; rfl
        simp only [hon',Bool.not_false,if_true]
        obtain ⟨j',e,hJ,hc,hs⟩:=ziY h htl hk'
        rw [e]
        refine ⟨j',rfl,hJ,fun q cs hq hcs=> ?_,fun q hq=>hs q (by omega)⟩
        have:=hc q cs hcs
        have hct:ctr i p q (ziZ i k k')=if q=t then [k'] else []:=by
          unfold ctr
          rw [hl,hon',ht]
          simp only [zhq (show ¬ (16<=i.Op/\i.Op<=19) by omega)]
          by_cases e:q=t
          · subst e;simp
          · have : ((t : Int) == (q : Int)) = false := by simp; omega
            simp [this,e]
        rw [hct]
        by_cases e:q=t
        · rw [if_pos e] at this |-;exact this
        · rw [if_neg e] at this |-;rw [List.append_nil];exact this
      · have hon' : (zF i).2.2 = true := by rw [hon]; simpa using h15
        have hsrc:=ze8 hr (.inr (by omega))
        obtain rfl:k=k':=(hsame (by omega) (by omega)).symm
        have hA:=zhH hr
        have hpn:p+1<m.Co.length:=hg.fine.on hi hon'
        simp only [hon',Bool.not_true,zfe,if_false,zg5 hsrc,zbs]
        have hw:=ze9 hsrc hk
        have way: ∀ (b:Bool) (jj:zf),JI m jj-> ∃ jj',(∀ again:zf->Option zf,((if (!b)=true then some (((p+1:Nat):Int)) else some (t:Int):Option Int).bind fun o665=>
              ((ain 8 i.A).bind fun i695=>(xG i.Op (k i695).Sp (zhg i k).Sp b).bind fun r697=>some (r697.1,r697.2)).bind fun o691=>
              if o691.2=true then (jH o691.1).bind fun r723=>(ain 8 i.A).bind fun i727=>(qb jj o665 (zcg k i727 r723)).bind fun r735=>again r735 else again jj)=again jj')/\JI m jj'/\
            (∀ q cs,p<q->zjC m jj q cs->zjC m jj' q (cs++(if (if b then t else p+1)=q then (ziZ i k k b).toList else [])))/\ ∀ q,q<=p->jj'.ca[q]? =jj.ca[q]? /\jj'.any[q]? =jj.any[q]? :=by
          intro b jj hJ
          obtain ⟨r,hR,hsw⟩:=zjS (op:=i.Op) (h:=b) (hk i.A.toNat (by omega)).span hw.span
          have hto:(if (!b)=true then some (((p+1:Nat):Int)) else some (t:Int):Option Int)=some (((if b then t else p+1:Nat)):Int):=by cases b<;>rfl
          simp only [hto,zbs,zmd hA.1 hA.2,hR,zcQ]
          have hlv:ziZ i k k b=if r.2 then some (zcg k i.A.toNat ⟨1,r.1,0⟩) else none:=by
            unfold ziZ
            rw [if_pos (show 16<=i.Op/\i.Op<=19 by omega),hR]
            obtain ⟨s,ok⟩:=r
            cases ok<;>rfl
          by_cases hok:r.2=true
          · have hto2 : (if b then t else p + 1) < m.Co.length := by cases b <;> simp <;> omega
            have htp:p<(if b then t else p+1):=by cases b<;>simp<;>omega
            obtain ⟨j',e,hJ',hc,hs⟩:=ziY hJ hto2 (k:=zcg k i.A.toNat ⟨1,r.1,0⟩) (zfX hk (WT.num hsw))
            refine ⟨j',fun again=> ?_,hJ',fun q cs hq hcs=> ?_,fun q hq=>hs q (by omega)⟩
            · simp only [hok,if_true,e,zbs]
            · have := hc q cs hcs
              have e2:(ziZ i k k b).toList= [zcg k i.A.toNat ⟨1,r.1,0⟩]:=by rw [hlv,if_pos hok];rfl
              rw [e2]
              by_cases e:q=(if b then t else p+1)
              · rw [if_pos e] at this;rw [if_pos e.symm];exact this
              · rw [if_neg e] at this;rw [if_neg (fun h=>e h.symm),List.append_nil];exact this
          · have hok' : r.2 = false := by simpa using hok
            refine ⟨jj,fun again=> ?_,hJ,fun q cs hq hcs=> ?_,fun q hq=>⟨rfl,rfl⟩⟩
            · simp only [hok',zfe,if_false]
            · have e2 : (ziZ i k k b).toList = [] := by rw [hlv, hok']; rfl
              rw [e2]
              have:(if (if b then t else p+1)=q then ([]:List zfU) else [])= []:=ite_self _
              rw [this,List.append_nil];exact hcs
        obtain ⟨j1,e1,hJ1,hc1,hs1⟩:=way true j h
        obtain ⟨j2,e2,hJ2,hc2,hs2⟩:=way false j1 hJ1
        refine ⟨j2,?_,hJ2,fun q cs hq hcs=> ?_,fun q hq=>⟨(hs2 q hq).1.trans (hs1 q hq).1,(hs2 q hq).2.trans (hs1 q hq).2⟩⟩
        · have l1: ∀ (again:zf->Option zf) (s:zf),qX p k i (zF i) (zhg i k) 0 again s=((if (!true)=true then some (((p+1:Nat):Int)) else some (t:Int):Option Int).bind fun o665=>
              ((ain 8 i.A).bind fun i695=>(xG i.Op (k i695).Sp (zhg i k).Sp true).bind fun r697=>some (r697.1,r697.2)).bind fun o691=>
              if o691.2=true then (jH o691.1).bind fun r723=>(ain 8 i.A).bind fun i727=>(qb s o665 (zcg k i727 r723)).bind fun r735=>again r735 else again s):=by
            intro again s
            unfold qX
            have:idx [true,false] ((0:Nat):Int)=some true:=rfl
            rw [this]
            simp only [zbs,ht,wt',wp]
          have l2: ∀ (again:zf->Option zf) (s:zf),qX p k i (zF i) (zhg i k) 1 again s=((if (!false)=true then some (((p+1:Nat):Int)) else some (t:Int):Option Int).bind fun o665=>
              ((ain 8 i.A).bind fun i695=>(xG i.Op (k i695).Sp (zhg i k).Sp false).bind fun r697=>some (r697.1,r697.2)).bind fun o691=>
              if o691.2=true then (jH o691.1).bind fun r723=>(ain 8 i.A).bind fun i727=>(qb s o665 (zcg k i727 r723)).bind fun r735=>again r735 else again s):=by
            intro again s
            unfold qX
            have:idx [true,false] ((1:Nat):Int)=some false:=rfl
            rw [this]
            simp only [zbs,ht,wt',wp]
          show (qX p k i (zF i) (zhg i k) 0 (fun s=>qX p k i (zF i) (zhg i k) 1 (fun s=>some s) s) j).bind _=_
          rw [l1,e1,l2,e2];rfl
        · have := hc2 q _ hq (hc1 q cs hq hcs)
          have hct:ctr i p q (ziZ i k k)=(if t=q then (ziZ i k k true).toList else [])++(if p+1=q then (ziZ i k k false).toList else []):=by
            unfold ctr
            rw [hl,hon',ht]
            have e3:((t:Int)==(q:Int))=decide (t=q):=by
              by_cases e:t=q
              · subst e;simp
              · simp [e];omega
            have e4:(p+1==q)=decide (p+1=q):=by
              by_cases e:p+1=q
              · subst e;simp
              · simp [e]
            simp only [e3,e4,Bool.true_and,zdq]
          rw [hct,<- List.append_assoc]
          exact this
    ·
      have hpn:p+1<m.Co.length:=hg.fine.on hi hon
      have c1:(!(zF i).2.1||decide ((zF i).1<0))=true:=by rw [decide_eq_true d0,Bool.or_true]
      simp only [c1,hon,if_true,wp]
      obtain ⟨j',e,hJ,hc,hs⟩:=ziY h hpn hk'
      rw [e]
      refine ⟨j',rfl,hJ,fun q cs hq hcs=> ?_,fun q hq=>hs q (by omega)⟩
      have:=hc q cs hcs
      have hct:ctr i p q (ziZ i k k')=if q=p+1 then [k'] else []:=by
        unfold ctr
        have:((p:Int)+(zF i).1==(q:Int))=false:=by simp;omega
        rw [this,hon]
        simp only [zhq (show ¬ (16<=i.Op/\i.Op<=19) by omega)]
        by_cases e:q=p+1
        · subst e;simp
        · have : (p + 1 == q) = false := by simp; omega
          simp [this,e]
      rw [hct]
      by_cases e:q=p+1
      · rw [if_pos e] at this |-;exact this
      · rw [if_neg e] at this |-;rw [List.append_nil];exact this
  · have hl' : (zF i).2.1 = false := by simpa using hl
    have c1:(!(zF i).2.1||decide ((zF i).1<0))=true:=by rw [hl'];rfl
    simp only [c1,if_true,wp]
    have hop: ¬ (16<=i.Op/\i.Op<=19):=by
      intro hx
      have:=znS hr (by omega) (by omega)
      rw [this] at hl';cases hl'
    by_cases hon:(zF i).2.2=true
    · have hpn : p + 1 < m.Co.length := hg.fine.on hi hon
      simp only [hon,if_true]
      obtain ⟨j',e,hJ,hc,hs⟩:=ziY h hpn hk'
      rw [e]
      refine ⟨j',rfl,hJ,fun q cs hq hcs=> ?_,fun q hq=>hs q (by omega)⟩
      have:=hc q cs hcs
      have hct:ctr i p q (ziZ i k k')=if q=p+1 then [k'] else []:=by
        unfold ctr
        rw [hl',hon]
        simp only [zhq hop]
        by_cases e:q=p+1
        · subst e;simp
        · have : (p + 1 == q) = false := by simp; omega
          simp [this,e]
      rw [hct]
      by_cases e:q=p+1
      · rw [if_pos e] at this |-;exact this
      · rw [if_neg e] at this |-;rw [List.append_nil];exact this
    · have hon' : (zF i).2.2 = false := by simpa using hon
      simp only [hon',zfe,if_false]
      refine ⟨j,rfl,h,fun q cs hq hcs=> ?_,fun q hq=>⟨rfl,rfl⟩⟩
      have hct:ctr i p q (ziZ i k k')= []:=by unfold ctr;rw [hl',hon'];rfl
      rw [hct,List.append_nil];exact hcs
end Go.Proofs.YtbmknhpfkpmigaaGreatDoor
