/- Texts KReg2, KReg3, KReg4, KReg5, KGetR, KDecR of this proof. -/
import Derived.Test.YtbmknhpfkpmigaaGreatDoorKAllR
set_option linter.unusedVariables false
set_option linter.unusedSimpArgs false
namespace Go.Proofs.YtbmknhpfkpmigaaGreatDoor
open Go.Sx
variable {H M W n:Nat} {r:za}
def zhL (maps:Int) (b:List Int):Option (zg×Int):=(xF 1000 b).bind fun d=>if d.2.2 != 0 then some (d.1,d.2.2) else
 (xI 1000 d.1).bind fun j=>if j.2 != 0 then some (d.1,j.2) else some (d.1,if d.1.Ms.any (fun x=>decide (maps<=x)) then 41 else 0)
theorem zmh (maps:Int) {b:List Int} (hb:b.length<=140737488355328):OK (zhL maps b) (fun v=>v.2=0->zhJ v.1.Ms/\(∀ x∈v.1.Ms,x<maps)/\v.1.Co.length<=64):=by
 unfold zhL
 refine OK.bind2 (zn4 hb) (fun d hd=>OK.ite (fun he=>OK.ret (fun e=>absurd e (by simpa using he))) (fun he=> ?_))
 have hg:=hd (by simpa using he)
 refine OK.bind2 (zoZ d.1) (fun j _=>OK.ite (fun he=>OK.ret (fun e=>absurd e (by simpa using he))) (fun _=>OK.ret (fun e=>⟨hg.1,fun x hx=> ?_,hg.2⟩)))
 apply Classical.byContradiction
 intro hc
 have:d.1.Ms.any (fun x=>decide (maps<=x))=true:=List.any_eq_true.2 ⟨x,hx,by simp;omega⟩
 rw [this] at e
 simp at e
def zgq (r:za) (m:zg):za:=⟨r.Table,⟨r.Refs.maps,mput r.Refs.held (r.given+1) m.Ms⟩,r.Clock,r.hooks,r.maps,r.given+1,mput r.progs (r.given+1) ⟨m,0⟩,r.waiting⟩
theorem zhM (h:zeQ H M W n r):qO r.progs (r.given+1)=none:=by
 cases hg:qO r.progs (r.given+1) with
 | none=>rfl
 | some x=>have:=(h.prog _ _ hg).2.1;omega
theorem zlF (h:zeQ H M W n r) (p:Int):qO r.Refs.held p=(qO r.progs p).map (·.mo.Ms):=by rw [h.held];exact zo5 (fun (x:zr)=>x.mo.Ms) _ _
theorem zqD (r:za) (d:zg×Int×Int):OK (qf (qG r d) (fun (s:Unit)=>(.inl ())) d.1.Ms.length 0 ()) (fun o=>match o with | .inl _=> ∀ x∈d.1.Ms,x<r.maps | .inr q=>q=(0,41,r)/\ ¬ ∀ x∈d.1.Ms,x<r.maps):=by
 refine OK.count (fun i _=> ∀ x∈d.1.Ms.take i,x<r.maps) (by simp) ?_ ?_
 ·intro i s again hi hI k
  unfold qG
  refine OK.bind (OK.getN hi (fun x hx=>OK.ite (fun hc=>OK.ret ⟨rfl,fun hall=> ?_⟩) (fun hc=>k _ ?_)))
  ·have:=hall x (zmg hx)
   simp at hc
   omega
  ·intro y hy
   rw [zcc hx] at hy
   rcases List.mem_append.1 hy with hy | hy
   ·exact hI y hy
   ·simp at hy hc;omega
 ·intro s hI
  rw [List.take_length] at hI
  exact hI
theorem zqE (h:zeQ H M W n r) {b:List Int} {v:zg×Int} (hv:zhL r.maps b=some v) (hok:v.2=0->zhJ v.1.Ms/\(∀ x∈v.1.Ms,x<r.maps)/\v.1.Co.length<=64):
  zM 1000 r b=some (if v.2 ≠ 0 then (0,v.2,r) else if 16<=r.progs.length then (0,40,r) else (r.given+1,0,zgq r v.1)):=by
 unfold zhL at hv
 unfold zM
 cases hd:xF 1000 b with
 | none=>rw [hd] at hv;simp at hv
 | some d=>
  rw [hd] at hv
  simp only [zbs] at hv |-
  by_cases he:d.2.2=0
  ·rw [if_neg (by simp [he])] at hv |-
   cases hj:xI 1000 d.1 with
   | none=>rw [hj] at hv;simp at hv
   | some j=>
    rw [hj] at hv
    simp only [zbs] at hv |-
    by_cases hje:j.2=0
    ·rw [if_neg (by simp [hje])] at hv |-
     simp only [Option.some.injEq] at hv
     obtain ⟨o,h1,h2⟩:=zqD r d
     rw [h1]
     simp only [zbs]
     cases o with
     | inr q=>
      obtain ⟨rfl,hn⟩:=h2
      have:d.1.Ms.any (fun x=>decide (r.maps<=x))=true:=by
       apply Classical.byContradiction
       intro hc
       refine hn (fun x hx=> ?_)
       apply Classical.byContradiction
       intro hlt
       exact hc (List.any_eq_true.2 ⟨x,hx,by simp;omega⟩)
      rw [this] at hv
      subst hv
      simp
     | inl u=>
      have:d.1.Ms.any (fun x=>decide (r.maps<=x))=false:=by
       rw [Bool.eq_false_iff]
       intro hc
       obtain ⟨x,hx,hx2⟩:=List.any_eq_true.1 hc
       have:=h2 x hx
       simp at hx2
       omega
      rw [this] at hv
      subst hv
      have hgood:=hok rfl
      simp only
      by_cases hl:16<=r.progs.length
      ·rw [if_pos (by simp;omega)]
       simp [hl]
      ·rw [if_neg (by simp;omega)]
       have hg0:=h.given0
       have hg1:=h.given
       have hb:=h.bound
       have hw:w64 (r.given+1)=r.given+1:=zH (by omega) (by omega)
       have hgm:zhh r.Refs.maps d.1.Ms:=⟨hgood.1.2.1,fun m hm=>⟨(hgood.1.1 m hm).1,by rw [h.rmaps,<- h.maps];exact hgood.2.1 m hm⟩⟩
       have hnone:qO r.Refs.held (r.given+1)=none:=by rw [zlF h,zhM h];rfl
       rw [hw,zqy _ _ _ (by have:d.1.Ms.length<=4:=hgood.1.2.2;omega),if_pos hgm,hnone]
       simp [hl,zgq]
    ·rw [if_pos (by simp [hje])] at hv |-
     simp only [Option.some.injEq] at hv
     subst hv
     simp [hje]
  ·rw [if_pos (by simp [he])] at hv |-
   simp only [Option.some.injEq] at hv
   subst hv
   simp [he]
theorem znx (h:zeQ H M W n r) (hb:n+1<=1000) {m:zg} (hl: ¬ 16<=r.progs.length) (hok:zhJ m.Ms/\(∀ x∈m.Ms,x<M)/\m.Co.length<=64):zeQ H M W (n+1) (zgq r m):=by
 have hf:=zhM h
 have hg0:=h.given0
 have hg1:=h.given
 refine {hooks:=h.hooks,hl:=h.hl,maps:=h.maps,rmaps:=h.rmaps,wk:=h.wk,small:=h.small,bound:=hb,given0:=by simp [zgq];omega,given:=by simp [zgq];omega,last0:=h.last0,last:=by have:=h.last;simp [zgq];omega,now1:=h.now1,now:=by have:=h.now;simp [zgq];omega,cin:=h.cin,keys:=h.keys.mput hf,len:= ?_,prog:= ?_,held:= ?_,wnd:=h.wnd,wait:= ?_}
 ·have:=zo2 r.progs (r.given+1) ⟨m,0⟩
  simp only [zgq];omega
 ·intro p x hx
  simp only [zgq,zhK] at hx |-
  split at hx
  ·rename_i e
   cases hx
   exact ⟨by omega,by omega,hok.1,hok.2.1,hok.2.2,by simp,by have:=h.now1;simp;omega⟩
  ·have:=h.prog p x hx
   exact ⟨this.1,by omega,this.2.2⟩
 ·simp only [zgq]
  have e2:qO r.Refs.held (r.given+1)=none:=by rw [zlF h,hf];rfl
  rw [zi9 hf,zi9 e2,h.held]
  simp
 ·intro p
  rw [show (zgq r m).waiting=r.waiting from rfl,h.wait p]
  simp only [zgq,zhK]
  constructor
  ·rintro ⟨x,hx,h0⟩
   refine ⟨x,?_,h0⟩
   rw [if_neg (fun e=>by subst e;rw [hf] at hx;cases hx)]
   exact hx
  ·rintro ⟨x,hx,h0⟩
   split at hx
   ·cases hx;simp at h0
   ·exact ⟨x,hx,h0⟩
def zgR (r:za) (t:zo):za:=⟨t,r.Refs,r.Clock,r.hooks,r.maps,r.given,r.progs,r.waiting⟩
theorem zj4 (h:zeQ H M W n r) (hb:n+1<=1000) {t:zo} (h1:t.hooks.length=H) (h2:0<=t.Versions.last) (h3:t.Versions.last<=n+1):zeQ H M W (n+1) (zgR r t):=
 {h.mono (n':=n+1) (by omega) hb with hl:=h1,last0:=h2,last:=by simp [zgR];omega}
theorem zkS {α:Type} {l:List α} {t:Int} (h0:0<=t) (h1:t<l.length): ∃ x,idx l t=some x/\l[t.toNat]? =some x:=by
 have hl:t.toNat<l.length:=by omega
 refine ⟨l[t.toNat],?_,zeg hl⟩
 unfold idx
 rw [if_pos h0,zeg hl]
theorem zmi (h:zeQ H M W n r) {k p:Int} (h0:0<=k) (h1:k<H):xm r.Table k p=some (r.Table.Versions.last+1,0,⟨⟨r.Table.Versions.last+1⟩,r.Table.hooks.set k.toNat ⟨r.Table.Versions.last+1,p⟩⟩):=by
 have hb:=h.bound
 have hl0:=h.last0
 have hl1:=h.last
 unfold xm vQ xl
 rw [zH (by omega) (by omega)]
 obtain ⟨x,hx,_⟩:=zkS (l:=r.Table.hooks) h0 (by rw [h.hl];omega)
 simp [hx]
structure zrJ (r:za) (k p:Int) (q:Int×Int×za):Prop where
 no:q.2.1 ≠ 0->q.1=0/\q.2.2=r
 yes:q.2.1=0->q.1=r.Table.Versions.last+1/\(∃ x,qO r.progs p=some x/\x.retiring=0)/\ ∃ l,l.length=r.Table.hooks.length/\q.2.2=zgR r ⟨⟨r.Table.Versions.last+1⟩,l⟩
 gone:0<=k->k<r.hooks->qO r.progs p=none->q.1=0/\q.2.1=41
end Go.Proofs.YtbmknhpfkpmigaaGreatDoor
namespace Go.Proofs.YtbmknhpfkpmigaaGreatDoor
open Go.Sx
variable {H M W n:Nat} {r:za}
def zfY (r:za) (c:zt):za:=⟨r.Table,r.Refs,c,r.hooks,r.maps,r.given,r.progs,r.waiting⟩
theorem zhN (h:zeQ H M W n r) (hb:n+1<=1000) {c:zt} (h1:c.in_.length=W) (h2:r.Clock.now<=c.now) (h3:c.now<=r.Clock.now+1) (h4: ∀ e∈c.in_,0<=e/\e<=c.now):zeQ H M W (n+1) (zfY r c):=
 {h.mono (n':=n+1) (by omega) hb with wk:=h1,now1:=by have:=h.now1;simp [zfY];omega,now:=by have:=h.now;simp [zfY];omega,cin:=h4,prog:=fun p x hx=>by have:=h.prog p x hx;exact ⟨this.1,this.2.1,this.2.2.1,this.2.2.2.1,this.2.2.2.2.1,this.2.2.2.2.2.1,by simp [zfY];omega⟩}
theorem zny (h:zeQ H M W n r) (hb:n+1<=1000) (k:Int):zeQ H M W (n+1) (zfY r ⟨r.Clock.now,r.Clock.in_.set k.toNat r.Clock.now⟩):=by
 refine zhN h hb (by simp [h.wk]) (Int.le_refl _) (by simp;omega) (fun e he=> ?_)
 have h1:=h.now1
 rcases List.mem_or_eq_of_mem_set he with h2 | h2
 ·exact h.cin e h2
 ·subst h2;exact ⟨by omega,Int.le_refl _⟩
theorem znz (h:zeQ H M W n r) (hb:n+1<=1000) (k:Int):zeQ H M W (n+1) (zfY r ⟨r.Clock.now,r.Clock.in_.set k.toNat 0⟩):=by
 refine zhN h hb (by simp [h.wk]) (Int.le_refl _) (by simp;omega) (fun e he=> ?_)
 have h1:=h.now1
 rcases List.mem_or_eq_of_mem_set he with h2 | h2
 ·exact h.cin e h2
 ·subst h2;exact ⟨by omega,by simp;omega⟩
theorem ziG (h:zeQ H M W n r):xp r.Clock=some (r.Clock.now+1,⟨r.Clock.now+1,r.Clock.in_⟩):=by
 have h1:=h.now1
 have h2:=h.now
 have h3:=h.bound
 unfold xp
 rw [zH (by omega) (by omega)]
theorem zkT (h:zeQ H M W n r) (hb:n+1<=1000):zeQ H M W (n+1) (zfY r ⟨r.Clock.now+1,r.Clock.in_⟩):=
 zhN h hb h.wk (by simp;omega) (Int.le_refl _) (fun e he=>by have:=h.cin e he;exact ⟨this.1,by simp;omega⟩)
theorem zqF (c:zt) (e:Int):vw c e=some (decide (∀ x∈c.in_,x=0\/e<=x)):=by
 unfold vw
 refine OK.is (OK.bind2 (OK.count (Q:=fun o=>match o with | .inl _=> ∀ x∈c.in_,x=0\/e<=x | .inr q=>q=false/\ ¬ ∀ x∈c.in_,x=0\/e<=x) (fun i _=> ∀ x∈c.in_.take i,x=0\/e<=x) (by simp) (fun i s again hi hI k=> ?_) (fun s hI=>by rw [List.take_length] at hI;exact hI)) (fun o ho=> ?_))
 ·unfold zdz
  refine OK.bind (OK.getN hi (fun x hx=>OK.ite (fun hc=>OK.ret ⟨rfl,fun hall=> ?_⟩) (fun hc=>k _ ?_)))
  ·have:=hall x (zmg hx)
   simp at hc
   omega
  ·intro y hy
   rw [List.take_add_one,hx] at hy
   rcases List.mem_append.1 hy with hy | hy
   ·exact hI y hy
   ·simp at hy hc
    subst hy
    by_cases h0:y=0
    ·exact .inl h0
    ·exact .inr (by have:=hc h0;omega)
 ·cases o with
  | inl _=>exact OK.ret (by simp;exact ho)
  | inr q=>exact OK.ret (by rw [ho.1];simp only [false_eq_decide_iff];exact ho.2)
end Go.Proofs.YtbmknhpfkpmigaaGreatDoor
namespace Go.Proofs.YtbmknhpfkpmigaaGreatDoor
open Go.Sx
variable {H M W n:Nat} {r:za}
def zbv (r:za) (p:Int) (x:zr):za:=
 ⟨r.Table,r.Refs,⟨r.Clock.now+1,r.Clock.in_⟩,r.hooks,r.maps,r.given,zf7 r.progs p ⟨x.mo,r.Clock.now+1⟩,r.waiting++ [p]⟩
theorem zkU (h:zeQ H M W n r) (hb:n+1<=1000) {p:Int} {x:zr} (hx:qO r.progs p=some x) (h0:x.retiring=0):zeQ H M W (n+1) (zbv r p x):=by
 have hn:=h.now
 have hn1:=h.now1
 have hget: ∀ q,qO (zbv r p x).progs q=if p=q then some ⟨x.mo,r.Clock.now+1⟩ else qO r.progs q:=by
  intro q
  simp [zbv,zj3,hx]
 refine {h.mono (n':=n+1) (by omega) hb with now1:=by simp [zbv];omega,now:=by simp [zbv];omega,cin:=fun e he=> ?_,keys:= ?_,len:= ?_,prog:= ?_,held:= ?_,wnd:= ?_,wait:= ?_}
 ·have:=h.cin e he
  simp [zbv];omega
 ·unfold zkt
  rw [show (zbv r p x).progs.map (·.1)=r.progs.map (·.1) from zlD _ _ _]
  exact h.keys
 ·rw [show (zbv r p x).progs.length=r.progs.length from zo3 _ _ _]
  exact h.len
 ·intro q y hy
  rw [hget] at hy
  split at hy
  ·rename_i e
   subst e
   cases hy
   have:=h.prog p x hx
   exact ⟨this.1,this.2.1,this.2.2.1,this.2.2.2.1,this.2.2.2.2.1,by simp;omega,by simp [zbv]⟩
  ·have:=h.prog q y hy
   exact ⟨this.1,this.2.1,this.2.2.1,this.2.2.2.1,this.2.2.2.2.1,this.2.2.2.2.2.1,by simp [zbv];omega⟩
 ·show r.Refs.held=_
  rw [h.held]
  exact (znv (fun (z:zr)=>z.mo.Ms) r.progs p ⟨x.mo,r.Clock.now+1⟩ x hx rfl).symm
 ·refine List.nodup_append.2 ⟨h.wnd,by simp,fun a ha b hb e=> ?_⟩
  simp at hb
  subst hb;subst e
  obtain ⟨y,hy,hy0⟩:=(h.wait a).1 ha
  rw [hx] at hy
  cases hy
  omega
 ·intro q
  rw [hget]
  show q∈r.waiting++ [p]↔_
  simp only [List.mem_append,List.mem_singleton]
  by_cases e:p=q
  ·subst e
   simp
   omega
  ·have e2: ¬ q=p:=fun e2=>e e2.symm
   simp only [e2,or_false,if_neg e]
   exact h.wait q
def zb5 (r:za) (p:Int):Bool:=match qO r.progs p with
 | some x=>decide (∀ e∈r.Clock.in_,e=0\/x.retiring<=e)
 | none=>false
def zbl (P:Int->Bool) (k:Int):List Int->List Int
 | []=> []
 | x::l=>if 0<k/\P x=true then x::zbl P (k-1) l else zbl P k l
theorem zgr (P:Int->Bool): ∀ (l:List Int) (k:Int),(zbl P k l).Sublist l
 | [],_=>List.Sublist.refl _
 | x::l,k=>by
  unfold zbl
  split
  ·exact (zgr P l _).cons_cons x
  ·exact (zgr P l _).cons x
theorem zfv (P:Int->Bool) (x:Int): ∀ (l:List Int) (k:Int),zbl P k (l++ [x])=zbl P k l++(if ((zbl P k l).length:Int)<k/\P x=true then [x] else [])
 | [],k=>by
  by_cases h:0<k/\P x=true<;>simp [zbl,h]
 | y::l,k=>by
  simp only [List.cons_append,zbl]
  split
  ·rename_i hc
   rw [zfv P x l (k-1)]
   simp only [List.cons_append,List.length_cons]
   congr 2
   have:((zbl P (k-1) l).length:Int)<k-1↔(((zbl P (k-1) l).length+1:Nat):Int)<k:=by omega
   simp only [this]
  ·exact zfv P x l k
def zdH (r:za) (most:Int):List Int:=zbl (zb5 r) most r.waiting
theorem znA (h:zeQ H M W n r) (most:Int):OK (qf (qd r most) (fun (s:List Int)=>s) r.waiting.length 0 []) (fun l=>l=zdH r most):=by
 have hw:=h.wlen
 have hl:=h.len
 refine OK.count (fun i s=>s=zbl (zb5 r) most (r.waiting.take i)/\s.length<=i) ⟨by simp [zbl],by simp⟩ (fun i s again hi hI k=> ?_) (fun s hI=> ?_)
 ·obtain ⟨rfl,hsl⟩:=hI
  unfold qd
  refine OK.bind (OK.getN hi (fun x hx=> ?_))
  obtain ⟨y,hy,_⟩:=(h.wait x).1 (zmg hx)
  have hs:zb5 r x=decide (∀ e∈r.Clock.in_,e=0\/y.retiring<=e):=by unfold zb5;rw [hy]
  have e1:zbl (zb5 r) most (r.waiting.take (i+1))=zbl (zb5 r) most (r.waiting.take i)++(if ((zbl (zb5 r) most (r.waiting.take i)).length:Int)<most/\zb5 r x=true then [x] else []):=by
   rw [zcc hx,zfv]
  simp only [hy,zbs,zqF]
  refine OK.bind2 (R:=fun o=>o=decide (((zbl (zb5 r) most (r.waiting.take i)).length:Int)<most/\zb5 r x=true)) (OK.ite (fun hc=>OK.ret ?_) (fun hc=>OK.ret ?_)) (fun o ho=> ?_)
  ·rw [hs]
   have:((zbl (zb5 r) most (r.waiting.take i)).length:Int)<most:=by simpa using hc
   simp [this]
  ·have: ¬ ((zbl (zb5 r) most (r.waiting.take i)).length:Int)<most:=by simpa using hc
   simp [this]
  ·subst ho
   refine OK.ite (fun hc=>OK.bind (OK.hasRoom (by simp;omega) (k _ ?_))) (fun hc=>k _ ?_)
   ·rw [e1,if_pos (by simpa using hc)]
    exact ⟨rfl,by simp;omega⟩
   ·rw [e1,if_neg (by simpa using hc)]
    exact ⟨by simp,by omega⟩
 ·rw [List.take_length] at hI
  exact hI.1
theorem zhO (l:List Int) (x:Int):ql x l=some (decide (x∈l)):=by
 unfold ql
 rw [zaF]
 rfl
theorem zo7 (g:List Int) (p0:List Int) (hp:p0.length<=16) (r11:Nat) (hr:r11<p0.length) (hx: ∃ x,p0[r11]? =some x/\x∈g) (hpre: ∀ j,j<r11-> ∀ x,p0[j]? =some x->x ∉ g):
  OK (loop (zK g) 1000 (p0,(r11:Int),((r11:Int)+1))) (fun o=>o.1.length=p0.length/\ ∃ k:Nat,o.2=(k:Int)/\k<=p0.length/\o.1.take k=p0.filter (fun x=>decide (x ∉ g))):=by
 refine OK.rounds (fun s=>s.1.length=p0.length/\ ∃ k j:Nat,s.2.1=(k:Int)/\s.2.2=(j:Int)/\k<j/\j<=p0.length/\s.1.take k=(p0.take j).filter (fun x=>decide (x ∉ g))/\s.1.drop j=p0.drop j) (fun s=>p0.length-s.2.2.toNat) ?_ 1000 _ ?_ (by simp;omega)
 ·rintro ⟨s,k0,j0⟩ again ⟨h1,k,j,e1,e2,h3,h4,h5,h6⟩ kk
  simp only at e1 e2 h1 h5 h6
  subst e1;subst e2
  unfold zK
  simp only [h1]
  by_cases hj:j<p0.length
  ·refine OK.ite_true (by simp;omega) ?_
   refine OK.bind (OK.getN (by omega) (fun x hx=> ?_))
   have hxp:p0[j]? =some x:=by
    have e:=congrArg (fun l=>l[0]?) h6
    simp only [List.getElem?_drop,Nat.add_zero] at e
    rw [<- e];exact hx
   rw [zhO]
   simp only [zbs]
   have hw:w64 ((j:Int)+1)=((j+1:Nat):Int):=by rw [zH (by omega) (by omega)];simp
   have hwk:w64 ((k:Int)+1)=((k+1:Nat):Int):=by rw [zH (by omega) (by omega)];simp
   have hd:s.drop (j+1)=p0.drop (j+1):=by
    have e:=congrArg (List.drop 1) h6
    simpa [List.drop_drop] using e
   have htk:p0.take (j+1)=p0.take j++ [x]:=zcc hxp
   rw [hw]
   refine OK.ite (fun hc=> ?_) (fun hc=> ?_)
   ·have hng:x ∉ g:=by simpa using hc
    refine OK.bind (OK.getN (by omega) (fun y hy=> ?_))
    rw [hwk]
    refine kk _ ⟨by simpa using h1,k+1,j+1,rfl,rfl,by omega,by omega,?_,?_⟩ (by simp;omega)
    ·simp only [Int.toNat_natCast]
     rw [htk,List.filter_append,<- h5]
     have:(s.set k x)[k]? =some x:=by rw [List.getElem?_set,if_pos rfl,if_pos (by omega)]
     rw [List.take_add_one,this]
     simp only [Option.toList_some,List.filter_cons,hng,not_false_eq_true,decide_true,if_true,List.filter_nil]
     congr 1
     exact List.take_set_of_le (by omega)
    ·simp only [Int.toNat_natCast]
     rw [List.drop_set_of_lt (by omega)]
     exact hd
   ·have hg:x∈g:=by simpa using hc
    refine kk _ ⟨h1,k,j+1,rfl,rfl,by omega,by omega,?_,hd⟩ (by simp;omega)
    simp only
    rw [htk,List.filter_append,<- h5]
    simp [hg]
  ·refine OK.ite_false (by simp;omega) (OK.ret ⟨h1,k,rfl,by omega,?_⟩)
   have:j=p0.length:=by omega
   subst this
   rw [List.take_length] at h5
   exact h5
 ·obtain ⟨x,hx,hxg⟩:=hx
  refine ⟨rfl,r11,r11+1,rfl,by simp,by omega,by omega,?_,rfl⟩
  simp only
  rw [zcc hx,List.filter_append]
  have e1:(p0.take r11).filter (fun x=>decide (x ∉ g))=p0.take r11:=by
   refine List.filter_eq_self.2 (fun y hy=> ?_)
   obtain ⟨j,hj,e⟩:=List.mem_iff_getElem.1 hy
   rw [List.length_take] at hj
   have:=hpre j (by omega) y (by rw [<- e,List.getElem_take];exact zeg _)
   simpa using this
  rw [e1]
  simp [hxg]
theorem znB (p0 g:List Int) (hp:p0.length<=16):zS 1000 p0 g=some (p0.filter (fun x=>decide (x ∉ g))):=by
 refine OK.is ?_
 unfold zS
 have hix:OK (jQ p0 g) (fun i=>(i= -1/\ ∀ x∈p0,x ∉ g)\/ ∃ j:Nat,i=(j:Int)/\j<p0.length/\(∃ x,p0[j]? =some x/\x∈g)/\ ∀ q,q<j-> ∀ x,p0[q]? =some x->x ∉ g):=by
  unfold jQ
  refine OK.bind2 (OK.count (Q:=fun o=>match o with | .inl _=> ∀ x∈p0,x ∉ g | .inr i=> ∃ j:Nat,i=(j:Int)/\j<p0.length/\(∃ x,p0[j]? =some x/\x∈g)/\ ∀ q,q<j-> ∀ x,p0[q]? =some x->x ∉ g) (fun i _=> ∀ q,q<i-> ∀ x,p0[q]? =some x->x ∉ g) (fun q hq=>by omega) (fun i s again hi hI k=> ?_) (fun s hI=> ?_)) (fun o ho=> ?_)
  ·unfold xq
   refine OK.bind (OK.getN hi (fun x hx=> ?_))
   rw [zhO]
   simp only [zbs]
   refine OK.ite (fun hc=>OK.ret ⟨i,rfl,hi,⟨x,hx,by simpa using hc⟩,hI⟩) (fun hc=>k _ (fun q hq y hy=> ?_))
   by_cases e:q=i
   ·subst e
    rw [hx] at hy
    cases hy
    simpa using hc
   ·exact hI q (by omega) y hy
  ·intro x hx
   obtain ⟨j,hj,e⟩:=List.mem_iff_getElem.1 hx
   exact hI j hj x (by rw [<- e];exact zeg _)
  ·cases o with
   | inl _=>exact OK.ret (.inl ⟨rfl,ho⟩)
   | inr i=>exact OK.ret (.inr ho)
 refine OK.bind2 hix (fun i hi=> ?_)
 rcases hi with ⟨rfl,hall⟩ | ⟨j,rfl,hj,hx,hpre⟩
 ·refine OK.ite_true (by simp) (OK.ret ?_)
  exact (List.filter_eq_self.2 (fun x hx=>by simpa using hall x hx)).symm
 ·refine OK.ite_false (by simp) ?_
  rw [zH (by omega) (by omega)]
  refine OK.bind2 (zo7 g p0 hp j hj hx hpre) (fun o ho=> ?_)
  obtain ⟨h1,k,e,hk,h2⟩:=ho
  rw [e]
  have c1:cut o.1 (k:Int) (o.1.length:Int)=some (o.1.drop k):=by
   unfold cut
   rw [if_pos ⟨by omega,by omega,by omega⟩]
   simp
  rw [c1]
  simp only [zbs,Int.toNat_natCast]
  have c2:cut (o.1.take k++List.replicate (o.1.drop k).length 0) 0 (k:Int)=some (o.1.take k):=by
   unfold cut
   rw [if_pos ⟨by omega,by omega,by simp;omega⟩]
   simp only [Int.toNat_natCast,Int.toNat_zero,List.drop_zero]
   rw [List.take_append_of_le_length (by simp;omega),List.take_take,Nat.min_self]
  rw [c2]
  simp only [zbs]
  exact OK.ret h2
end Go.Proofs.YtbmknhpfkpmigaaGreatDoor
namespace Go.Proofs.YtbmknhpfkpmigaaGreatDoor
open Go.Sx
variable {H M W n:Nat} {r:za}
theorem zkt.mdels {α:Type} {m:List (Int×α)} (h:zkt m) (g:List Int):zkt (mdels m g):=by
 induction g generalizing m with
 | nil=>exact h
 | cons x g ih=>exact ih (h.mdel x)
theorem zmj {α:Type} {m:List (Int×α)} (h:zkt m) (g:List Int) (q:Int):qO (mdels m g) q=if q∈g then none else qO m q:=by
 induction g generalizing m with
 | nil=>simp [mdels]
 | cons x g ih=>
  simp only [mdels]
  rw [ih (h.mdel x),znu h]
  by_cases h1:q∈g
  ·simp [h1]
  ·by_cases h2:x=q
   ·subst h2;simp
   ·have: ¬ q=x:=fun e=>h2 e.symm
    simp [h1,h2,this]
theorem znC {α β:Type} (f:α->β) (g:List Int) (m:List (Int×α)):(mdels m g).map (fun p=>(p.1,f p.2))=mdels (m.map (fun p=>(p.1,f p.2))) g:=by
 induction g generalizing m with
 | nil=>rfl
 | cons x g ih=>simp only [mdels];rw [ih,zo4]
def zfb (r:za) (g:List Int):za:=
 ⟨r.Table,⟨r.Refs.maps,mdels r.Refs.held g⟩,r.Clock,r.hooks,r.maps,r.given,mdels r.progs g,r.waiting.filter (fun x=>decide (x ∉ g))⟩
theorem zo8 (p:zw) (x:Int): ∃ e,vL p [x]=some (e,⟨p.maps,mdel p.held x⟩):=by
 rw [zqC,if_pos (by simp)]
 by_cases h:(qO p.held x).isSome=true
 ·rw [if_pos (by simpa using h)]
  exact ⟨_,rfl⟩
 ·rw [if_neg (by simpa using h)]
  have:qO p.held x=none:=by cases hh:qO p.held x with
   | none=>rfl
   | some v=>rw [hh] at h;simp at h
  rw [zgA this]
  exact ⟨_,rfl⟩
theorem znD (r:za) (g:List Int):qf (qe g) (fun (s:za)=>s) g.length 0 r=some ⟨r.Table,⟨r.Refs.maps,mdels r.Refs.held g⟩,r.Clock,r.hooks,r.maps,r.given,mdels r.progs g,r.waiting⟩:=by
 refine OK.is (OK.count (fun i s=>s=⟨r.Table,⟨r.Refs.maps,mdels r.Refs.held (g.take i)⟩,r.Clock,r.hooks,r.maps,r.given,mdels r.progs (g.take i),r.waiting⟩) rfl (fun i s again hi hI k=> ?_) (fun s hI=> ?_))
 ·subst hI
  unfold qe
  refine OK.bind (OK.getN hi (fun x hx=> ?_))
  obtain ⟨e,he⟩:=zo8 ⟨r.Refs.maps,mdels r.Refs.held (g.take i)⟩ x
  simp only [he,zbs]
  refine k _ ?_
  rw [zcc hx,zgQ,zgQ]
 ·rw [List.take_length] at hI
  exact hI
theorem znE (h:zeQ H M W n r) (most:Int):zL 1000 r most=some (zdH r most,zfb r (zdH r most)):=by
 refine OK.is ?_
 unfold zL
 refine OK.bind2 (znA h most) (fun g hg=> ?_)
 rw [znD]
 simp only [zbs]
 have hw:=h.wlen
 have hl:=h.len
 rw [znB _ _ (by omega)]
 simp only [zbs]
 exact OK.ret (by rw [hg];rfl)
theorem zfZ (h:zeQ H M W n r) (g:List Int) (q:Int):qO (zfb r g).progs q=if q∈g then none else qO r.progs q:=zmj h.keys g q
theorem zkV (h:zeQ H M W n r) (hb:n+1<=1000) (most:Int):zeQ H M W (n+1) (zfb r (zdH r most)):=by
 have h':=h.mono (n':=n+1) (by omega) hb
 refine {hooks:=h'.hooks,hl:=h'.hl,maps:=h'.maps,rmaps:=h'.rmaps,wk:=h'.wk,small:=h'.small,bound:=hb,given0:=h'.given0,given:=h'.given,last0:=h'.last0,last:=h'.last,now1:=h'.now1,now:=h'.now,cin:=h'.cin,keys:=h.keys.mdels _,len:= ?_,prog:=fun p x hx=> ?_,held:= ?_,wnd:=h.wnd.sublist List.filter_sublist,wait:=fun p=> ?_}
 ·have:=zns (zdH r most) r.progs
  have h2:=h.len
  simp only [zfb];omega
 ·rw [zfZ h] at hx
  split at hx
  ·cases hx
  ·exact h.prog p x hx
 ·simp only [zfb]
  rw [h.held]
  exact (znC (fun (z:zr)=>z.mo.Ms) _ _).symm
 ·rw [zfZ h]
  simp only [zfb,List.mem_filter,zdq,h.wait p]
  by_cases hp:p∈zdH r most
  ·simp [hp]
  ·simp [hp]
inductive zsI (r:za) (W:Nat) (o:qD) (q:Int×Int×za):Prop
 | loadNo (hk:o.Ki=0) (h1:q.2.1 ≠ 0) (h2:q.1=0) (h3:q.2.2=r)
 | load (m:zg) (hk:o.Ki=0) (h1:q.2.1=0) (h2:q.1=r.given+1) (h3:q.2.2=zgq r m)
 | place (hk:o.Ki=1\/o.Ki=2) (h:zrJ r o.A o.B q)
 | detach (t:zo) (hk:o.Ki=3) (h1:q.1=0) (h2:t.Versions=r.Table.Versions) (h3:q.2.2=zgR r t)
 | retireNo (hk:o.Ki=4) (h1:q.2.1 ≠ 0) (h2:q.1=0) (h3:q.2.2=r)
 | retire (x:zr) (hk:o.Ki=4) (h1:q.2.1=0) (hx:qO r.progs o.B=some x) (h0:x.retiring=0) (h3:q.2.2=zbv r o.B x)
 | settle (hk:o.Ki=5) (h1:q.2.1=0) (h3:q.2.2=zfb r (zdH r o.A))
 | enterNo (hk:o.Ki=6) (h1:q.2.1 ≠ 0) (h2:q.1=0) (h3:q.2.2=r)
 | enter (hk:o.Ki=6) (h1:q.2.1=0) (h4:0<=o.A) (h5:o.A<W) (h6:r.Clock.in_[o.A.toNat]? =some 0) (h3:q.2.2=zfY r ⟨r.Clock.now,r.Clock.in_.set o.A.toNat r.Clock.now⟩)
 | leaveNo (hk:o.Ki=7) (h1:q.2.1 ≠ 0) (h2:q.1=0) (h3:q.2.2=r)
 | leave (hk:o.Ki=7) (h1:q.2.1=0) (h2:q.1=0) (h3:q.2.2=zfY r ⟨r.Clock.now,r.Clock.in_.set o.A.toNat 0⟩)
 | advance (hk:o.Ki ≠ 0/\o.Ki ≠ 1/\o.Ki ≠ 2/\o.Ki ≠ 3/\o.Ki ≠ 4/\o.Ki ≠ 5/\o.Ki ≠ 6/\o.Ki ≠ 7) (h1:q.2.1=0) (h3:q.2.2=zfY r ⟨r.Clock.now+1,r.Clock.in_⟩)
theorem zkW (h:zeQ H M W n r):(zde r.progs).Nodup:=by
 unfold zde
 exact h.keys.sublist (List.filter_sublist.map _)
theorem zqG (h:zeQ H M W n r):qP r=some ((zde r.progs).mergeSort fun x y=>decide (x<=y)):=by
 have hl:(zde r.progs).length<=r.progs.length:=by
  unfold zde
  rw [List.length_map]
  exact List.length_filter_le _ _
 have hl2:=h.len
 unfold qP
 rw [zlR,if_pos (.inr (by simp only [List.length_nil,Nat.zero_add];omega))]
 unfold zX qA
 simp only [List.nil_append]
 rw [if_pos (by omega)]
 rfl
theorem znF {a b:List Int} (ha:a.Nodup) (hb:b.Nodup) (hs:b.Pairwise (fun x y=>x<=y)) (hm: ∀ x,x∈a↔x∈b):a.mergeSort (fun x y=>decide (x<=y))=b:=by
 have tr: ∀ x y z:Int,decide (x<=y)=true->decide (y<=z)=true->decide (x<=z)=true:=by intro x y z;simp;omega
 have to: ∀ x y:Int,(decide (x<=y)||decide (y<=x))=true:=by intro x y;simp;omega
 have h1:=List.pairwise_mergeSort tr to a
 have hp:(a.mergeSort (fun x y=>decide (x<=y))).Perm b:=(List.mergeSort_perm a _).trans ((List.perm_ext_iff_of_nodup ha hb).2 hm)
 exact List.Perm.eq_of_pairwise (fun x y _ _ hx hy=>by simp at hx hy;omega) h1 (hs.imp (fun h=>by simpa using h)) hp
theorem zkX (h:zeQ H M W n r):jh r=some r.waiting:=by
 have hw:=h.wlen
 have hl:=h.len
 unfold jh
 rw [zi8 _ (by omega)]
 rfl
theorem znG (h:zeQ H M W n r) (p:Int):jN r p=some (match qO r.progs p with | some x=>(x.mo,true) | none=>(⟨[],[]⟩,false)):=by
 unfold jN
 cases hg:qO r.progs p with
 | none=>rfl
 | some x=>
  have hx:=h.prog p x hg
  have h4:x.mo.Ms.length<=4:=hx.2.2.1.2.2
  have h64:=hx.2.2.2.2.1
  rw [if_neg (by simp)]
  simp only [zbs]
  rw [zi8 _ (by omega)]
  unfold zU room
  rw [if_pos (by simp;omega)]
  rfl
end Go.Proofs.YtbmknhpfkpmigaaGreatDoor
namespace Go.Proofs.YtbmknhpfkpmigaaGreatDoor
open Go.Sx
def zfq (x:Int):Prop:=0<=x/\x<256
def zhf (b:List Int):Nat->Int
 | 0=>0
 | k+1=>zhf b k+(b.getD k 0 % 128)*2 ^ (7*k)
theorem zbZ (b:List Int): ∀ k,0<=zhf b k/\zhf b k<2 ^ (7*k)
 | 0=>by simp [zhf]
 | k+1=>by
  obtain ⟨h1,h2⟩:=zbZ b k
  have hx:0<=b.getD k 0 % 128/\b.getD k 0 % 128<=127:=by omega
  have hp:(0:Int)<2 ^ (7*k):=Int.pow_pos (by omega)
  have e:(2:Int) ^ (7*(k+1))=2 ^ (7*k)*128:=by rw [show 7*(k+1)=7*k+7 by omega,Int.pow_add];rfl
  unfold zhf
  rw [e]
  have h3:(b.getD k 0 % 128)*2 ^ (7*k)<=127*2 ^ (7*k):=Int.mul_le_mul_of_nonneg_right hx.2 (by omega)
  have h4:0<=(b.getD k 0 % 128)*2 ^ (7*k):=Int.mul_nonneg hx.1 (by omega)
  generalize (b.getD k 0 % 128)*2 ^ (7*k)=z at*
  generalize (2:Int) ^ (7*k)=y at*
  omega
def gs (b:List Int):List Int->Nat->Int×Int×Int
 | [],_=>(0,0,10)
 | x::r,i=>if (i=9/\1<x)\/(0<i/\x=0) then (0,0,12) else if x<128 then (zhf b (i+1),((i+1:Nat):Int),0) else gs b r (i+1)
def ziD (b:List Int):Int×Int×Int:=gs b b 0
theorem zsM {x:Int} (h:zfq x):zex .u8 x 127=x % 128:=by
 obtain ⟨h0,h1⟩:=h
 have: ∀ n:Fin 256,zex .u8 ((n.val:Nat):Int) 127=((n.val:Nat):Int) % 128:=by decide+kernel
 have h2:=this ⟨x.toNat,by omega⟩
 have e:((x.toNat:Nat):Int)=x:=by omega
 simp only [e] at h2
 exact h2
theorem zma (i:Nat) (h:i<=9):(2:Int) ^ (7*i)<=9223372036854775808:=by
 have:(2:Int) ^ (7*i)=((2 ^ (7*i):Nat):Int):=by simp
 rw [this]
 have:=Nat.pow_le_pow_right (n:=2) (by omega) (show 7*i<=63 by omega)
 have e:(2:Nat) ^ 63=9223372036854775808:=by decide
 omega
theorem zr3 {x:Int} (h:zfq x) {i:Nat} (hi:i<=9) (h9:i=9->x<=1):zgJ .u64 (jy (zex .u8 x 127)) (7*(i:Int))=(x % 128)*2 ^ (7*i):=by
 rw [zsM h]
 have hx:0<=x % 128/\x % 128<=127:=by omega
 have e1:jy (x % 128)=x % 128:=zaT (by omega) (by omega)
 rw [e1,zfw]
 have e2:(7*(i:Int)).toNat=7*i:=by omega
 rw [e2,Nat.min_eq_left (by omega)]
 have hp:(0:Int)<2 ^ (7*i):=Int.pow_pos (by omega)
 have h0:0<=(x % 128)*2 ^ (7*i):=Int.mul_nonneg hx.1 (by omega)
 have h1:(x % 128)*2 ^ (7*i)<18446744073709551616:=by
  rcases Nat.lt_or_ge i 9 with hl | hg
  ·have h3:(x % 128)*2 ^ (7*i)<=127*2 ^ (7*i):=Int.mul_le_mul_of_nonneg_right hx.2 (by omega)
   have h4:(2:Int) ^ (7*i)<=72057594037927936:=by
    have:(2:Int) ^ (7*i)=((2 ^ (7*i):Nat):Int):=by simp
    rw [this]
    have:=Nat.pow_le_pow_right (n:=2) (by omega) (show 7*i<=56 by omega)
    have e:(2:Nat) ^ 56=72057594037927936:=by decide
    omega
   omega
  ·have e:i=9:=by omega
   have hx1:=h9 e
   have h3:(x % 128)*2 ^ (7*i)<=1*2 ^ (7*i):=Int.mul_le_mul_of_nonneg_right (by have:=h.1;omega) (by omega)
   have:=zma i hi
   omega
 exact Int.emod_eq_of_lt h0 h1
theorem zqq {a y:Int} {i:Nat} (hi:i<=9) (a0:0<=a) (a1:a<2 ^ (7*i)) (y0:0<=y) (hy:y*2 ^ (7*i)<18446744073709551616):bOr .u64 a (y*2 ^ (7*i))=a+y*2 ^ (7*i):=by
 have hp:(0:Int)<2 ^ (7*i):=Int.pow_pos (by omega)
 have hu:=zma i hi
 rw [zhX a0 (by omega) (Int.mul_nonneg y0 (by omega)) hy]
 have e3:((y.toNat*2 ^ (7*i):Nat):Int)=y*2 ^ (7*i):=by
  rw [Int.natCast_mul,Int.toNat_of_nonneg y0];simp
 have e1:(y*2 ^ (7*i)).toNat=y.toNat <<< (7*i):=by
  rw [Nat.shiftLeft_eq,<- e3,Int.toNat_natCast]
 have h2:a.toNat<2 ^ (7*i):=by
  have:(2:Int) ^ (7*i)=((2 ^ (7*i):Nat):Int):=by simp
  rw [this] at a1
  omega
 rw [e1,Nat.or_comm,<- Nat.shiftLeft_add_eq_or_of_lt h2,Nat.shiftLeft_eq]
 rw [Int.natCast_add,e3]
 omega
theorem znd {σ ρ:Type} {body:Nat->(σ->Option ρ)->σ->Option ρ} {out:σ->ρ} {n i:Nat} {s:σ}:qf body out (n+1) i s=body i (qf body out n (i+1)) s:=rfl
theorem zhs {α:Type} {b:List α} {i:Nat} {x:α} {r:List α} (h:b.drop i=x::r):b[i]? =some x/\b.drop (i+1)=r:=by
 constructor
 ·have:(b.drop i)[0]? =some x:=by rw [h];rfl
  simpa using this
 ·have:(b.drop i).drop 1=r:=by rw [h];rfl
  simpa [Nat.add_comm] using this
theorem zdG {α:Type} {b:List α} {i:Nat} {x:α} (h:b[i]? =some x):idx b (i:Int)=some x:=by
 unfold Go.Sx.idx
 rw [if_pos (by omega)]
 simpa using h
theorem zlx {b:List Int} (hb: ∀ x∈b,zfq x): ∀ (rest:List Int) (i:Nat),b.drop i=rest->i<=9->
  (qf (zfn b) (fun (s113:Int)=>(.inl ())) rest.length i (zhf b i)).bind (fun o=>match o with
   | .inl t=>some (0,0,10)
   | .inr r=>some r)=some (gs b rest i)
 | [],i,h,hi=>rfl
 | x::r,i,h,hi=>by
  obtain ⟨hx,hr⟩:=zhs h
  have hB:zfq x:=hb x (zmg hx)
  have h0:=hB.1
  rw [List.length_cons,znd]
  unfold zfn
  rw [zdG hx]
  simp only [zbs]
  have h7:w64 (7*(i:Int))=7*(i:Int):=qN (by omega) (by omega)
  have hs:zhf b (i+1)=zhf b i+(x % 128)*2 ^ (7*i):=by
   show zhf b i+(b.getD i 0 % 128)*2 ^ (7*i)=_
   rw [List.getD_eq_getElem?_getD,hx];rfl
  by_cases hc:(i=9/\1<x)\/(0<i/\x=0)
  ·rw [if_pos (by simp;omega),gs,if_pos hc]
   rfl
  ·rw [if_neg (by simp;omega),gs,if_neg hc,h7,zdJ (by omega)]
   simp only [zbs]
   have h9:i=9->x<=1:=fun e=>by omega
   have hsh:=zr3 hB hi h9
   have hbd:=zbZ b i
   have hlt:(x % 128)*2 ^ (7*i)<18446744073709551616:=by
    rw [<- hsh];exact (zk7 _ _).2
   rw [hsh,zqq hi hbd.1 hbd.2 (by omega) hlt,<- hs]
   by_cases hl:x<128
   ·rw [if_pos (by simpa using hl),if_pos hl]
    have:w64 ((i:Int)+1)=((i+1:Nat):Int):=by rw [qN (by omega) (by omega)];omega
    rw [this]
    rfl
   ·rw [if_neg (by simpa using hl),if_neg hl]
    exact zlx hb r (i+1) hr (by omega)
theorem zne {b:List Int} (hb: ∀ x∈b,zfq x):zeY b=some (ziD b):=by
 unfold zeY
 exact zlx hb b 0 rfl (by omega)
theorem zE {σ R:Type} {body:(σ->Option R)->σ->Option R} {n:Nat} {s:σ}:loop body (n+1) s=body (loop body n) s:=rfl
theorem zpQ {b:List Int} (hb: ∀ x∈b,zfq x): ∀ (k:Nat) (n:Int) (f:Nat),k<=20->k<=b.length->k<f->0<=n->n*2 ^ (7*k)+zhf b k<18446744073709551616->loop (vD b) f (n,(k:Int)-1)=some (n*2 ^ (7*k)+zhf b k)
 | 0,n,f+1,hq,hk,hf,h0,h1=>by
  rw [zE]
  rw [vD]
  rw [if_neg (by simp)]
  simp [zhf]
 | k+1,n,f+1,hq,hk,hf,h0,h1=>by
  rw [zE]
  rw [vD]
  have hlt:k<b.length:=by omega
  have hx:b[k]? =some b[k]:=zeg hlt
  have hB:zfq b[k]:=hb _ (List.getElem_mem hlt)
  rw [if_pos (by simp)]
  have e1:((((k+1:Nat):Int)-1))=(k:Int):=by omega
  simp only [e1]
  rw [zdG hx]
  simp only [zbs]
  have hs:zhf b (k+1)=zhf b k+(b[k] % 128)*2 ^ (7*k):=by
   show zhf b k+(b.getD k 0 % 128)*2 ^ (7*k)=_
   rw [List.getD_eq_getElem?_getD,hx];rfl
  have hm:b[k].tmod 128=b[k] % 128:=Int.tmod_eq_emod_of_nonneg hB.1
  have e:(2:Int) ^ (7*(k+1))=128*2 ^ (7*k):=by rw [show 7*(k+1)=7+7*k by omega,Int.pow_add];rfl
  have hp:(0:Int)<2 ^ (7*k):=Int.pow_pos (by omega)
  have hsb:=zbZ b k
  have tot:(128*n+b[k] % 128)*2 ^ (7*k)+zhf b k=n*2 ^ (7*(k+1))+zhf b (k+1):=by
   rw [hs,e,Int.add_mul,<- Int.mul_assoc,Int.mul_comm n 128];omega
  have hn:128*n+b[k] % 128<=(128*n+b[k] % 128)*2 ^ (7*k):=by
   have:=Int.mul_le_mul_of_nonneg_left (show (1:Int)<=2 ^ (7*k) by omega) (show 0<=128*n+b[k] % 128 by omega)
   omega
  have u1:jy (128*n)=128*n:=zaT (by omega) (by omega)
  have u2:jy (b[k] % 128)=b[k] % 128:=zaT (by omega) (by omega)
  rw [hm,u1,u2,zaT (by omega) (by omega)]
  have w:w64 ((k:Int)-1)=(k:Int)-1:=zH (by omega) (by omega)
  rw [w,zpQ hb k _ f (by omega) (by omega) (by omega) (by omega) (by omega),tot]
theorem zoX {b:List Int} (hb: ∀ x∈b,zfq x) (hl:b.length<=140737488355328) {fu:Nat} (hfu:12<=fu): ∀ (rest:List Int) (i f:Nat),b.drop i=rest->i<=9->10-i<f->i<=b.length->(∀ j,j<i-> ∀ x,b[j]? =some x->128<=x)->
  (loop (zaW b) f (i:Int)).bind (fun o61=>match o61 with
  | .inl t63=>
   if (t63==((b).length:Int)) then
    some (0,0,10)
   else
    (if (t63==9) then
     (idx b 9).bind fun x147=>
     if decide (x147>1) then
      some true
     else
      if decide (t63>0) then
       (idx b t63).bind fun x155=>
       some (x155==0)
      else
       some false
    else
     if decide (t63>0) then
      (idx b t63).bind fun x162=>
      some (x162==0)
     else
      some false).bind fun o144=>
    if o144 then
     some (0,0,12)
    else
     (loop (vD b) fu (0,t63)).bind fun o212=>
     some (o212,w64 (t63+1),0)
  | .inr r=>some r)=some (gs b rest i):=by
 intro rest
 induction rest with
 | nil=>
  intro i f h hi hf hle hj
  obtain ⟨f,rfl⟩: ∃ g,f=g+1:=⟨f-1,by omega⟩
  have hlen:b.length<=i:=by simpa using h
  have e:i=b.length:=by omega
  subst e
  rw [zE,zaW,if_neg (by simp)]
  simp [gs]
 | cons x r ih=>
  intro i f h hi hf hle hj
  obtain ⟨f,rfl⟩: ∃ g,f=g+1:=⟨f-1,by omega⟩
  obtain ⟨hx,hr⟩:=zhs h
  have hB:zfq x:=hb x (zmg hx)
  have h0:=hB.1
  have hlt:i<b.length:=(zes.1 hx).1
  rw [zE,zaW,if_pos (by simp;omega),zdG hx]
  simp only [zbs]
  by_cases hg:x>=128
  ·rw [if_pos (by simpa using hg)]
   by_cases h9:i=9
   ·rw [if_pos (by simp;omega),gs,if_pos (by omega)]
    rfl
   ·rw [if_neg (by simp;omega),gs,if_neg (by omega),if_neg (by omega)]
    have e:w64 ((i:Int)+1)=((i+1:Nat):Int):=by rw [zH (by omega) (by omega)];omega
    rw [e]
    refine ih (i+1) f hr (by omega) (by omega) (by omega) (fun j hji y hy=> ?_)
    rcases Nat.lt_or_ge j i with hl | hl
    ·exact hj j hl y hy
    ·have:j=i:=by omega
     subst this
     rw [hx] at hy;cases hy;exact hg
  ·rw [if_neg (by simpa using hg)]
   simp only [zbs]
   rw [if_neg (by simp;omega)]
   have hform:(if ((i:Int)==9)=true then (idx b 9).bind fun x147=>if decide (x147>1)=true then some true else if decide ((i:Int)>0)=true then (idx b (i:Int)).bind fun x155=>some (x155==0) else some false
     else if decide ((i:Int)>0)=true then (idx b (i:Int)).bind fun x162=>some (x162==0) else some false)=some (decide ((i=9/\1<x)\/(0<i/\x=0))):=by
    rw [zdG hx]
    by_cases h9:i=9
    ·subst h9
     have e9:idx b (9:Int)=some x:=zdG hx
     rw [if_pos (by simp),e9]
     simp only [zbs]
     by_cases h1:1<x
     ·rw [if_pos (by simpa using h1)];simp [h1]
     ·rw [if_neg (by simpa using h1),if_pos (by simp)];by_cases hz:x=0<;>simp [h1,hz]
    ·rw [if_neg (by simp;omega)]
     simp only [zbs]
     by_cases hi0:0<i
     ·rw [if_pos (by simpa using hi0)];by_cases hz:x=0<;>simp [h9,hi0,hz]
     ·rw [if_neg (by simpa using hi0)];simp [h9,hi0]
   rw [hform]
   simp only [zbs]
   by_cases hc:(i=9/\1<x)\/(0<i/\x=0)
   ·rw [if_pos (by simpa using hc),gs,if_pos hc]
   ·rw [if_neg (by simpa using hc),gs,if_neg hc,if_pos (by omega)]
    have hs:zhf b (i+1)=zhf b i+(x % 128)*2 ^ (7*i):=by
     show zhf b i+(b.getD i 0 % 128)*2 ^ (7*i)=_
     rw [List.getD_eq_getElem?_getD,hx];rfl
    have hbd:=zbZ b i
    have hp:=zma i hi
    have htot:zhf b (i+1)<18446744073709551616:=by
     have h9:i=9->x<=1:=fun e=>by omega
     rw [hs,<- zr3 hB hi h9]
     rcases Nat.lt_or_ge i 9 with hl | hl
     ·rw [zr3 hB hi h9]
      have hq:=zma (i+1) (by omega)
      have:=(zbZ b (i+1)).2
      rw [hs] at this
      omega
     ·have e:i=9:=by omega
      rw [zr3 hB hi h9]
      have h3:(x % 128)*2 ^ (7*i)<=1*2 ^ (7*i):=Int.mul_le_mul_of_nonneg_right (by have:=h9 e;omega) (by have:(0:Int)<2 ^ (7*i):=Int.pow_pos (by omega);omega)
      omega
    have hz:=zpQ hb (i+1) 0 fu (by omega) (by omega) (by omega) (by omega) (by rw [Int.zero_mul];omega)
    have e1:(((i+1:Nat):Int)-1)=(i:Int):=by omega
    rw [e1] at hz
    rw [hz]
    simp only [zbs,Int.zero_mul,Int.zero_add]
    rw [zH (by omega) (by omega)]
    rfl
theorem ze7 {b:List Int} (hb: ∀ x∈b,zfq x) (hl:b.length<=140737488355328) {fu:Nat} (hfu:12<=fu):za6 fu b=some (ziD b):=by
 have:=zoX hb hl hfu b 0 fu rfl (by omega) (by omega) (by omega) (fun j hj=>by omega)
 unfold za6
 exact this
end Go.Proofs.YtbmknhpfkpmigaaGreatDoor
namespace Go.Proofs.YtbmknhpfkpmigaaGreatDoor
open Go.Sx
theorem zlv {b:List Int} (hb: ∀ x∈b,zfq x): ∀ (rest:List Int) (i:Nat),b.drop i=rest->i<=9->
  (∃ e,gs b rest i=(0,0,e)/\e ≠ 0)\/ ∃ (v:Int) (w:Nat),gs b rest i=(v,(w:Int),0)/\1<=w/\w<=b.length/\0<=v/\v<18446744073709551616
 | [],i,h,hi=> .inl ⟨10,rfl,by decide⟩
 | x::r,i,h,hi=>by
  obtain ⟨hx,hr⟩:=zhs h
  have hB:zfq x:=hb x (zmg hx)
  have h0:=hB.1
  have hlt:i<b.length:=(zes.1 hx).1
  rw [gs]
  by_cases hc:(i=9/\1<x)\/(0<i/\x=0)
  ·rw [if_pos hc];exact .inl ⟨12,rfl,by decide⟩
  ·rw [if_neg hc]
   by_cases hl:x<128
   ·rw [if_pos hl]
    refine .inr ⟨_,i+1,rfl,by omega,by omega,(zbZ b (i+1)).1,?_⟩
    have hs:zhf b (i+1)=zhf b i+(x % 128)*2 ^ (7*i):=by
     show zhf b i+(b.getD i 0 % 128)*2 ^ (7*i)=_
     rw [List.getD_eq_getElem?_getD,hx];rfl
    rcases Nat.lt_or_ge i 9 with h9 | h9
    ·have:=(zbZ b (i+1)).2
     have:=zma (i+1) (by omega)
     omega
    ·have e:i=9:=by omega
     have hbd:=zbZ b i
     have hp:=zma i hi
     have h3:(x % 128)*2 ^ (7*i)<=1*2 ^ (7*i):=Int.mul_le_mul_of_nonneg_right (by omega) (by have:(0:Int)<2 ^ (7*i):=Int.pow_pos (by omega);omega)
     omega
   ·rw [if_neg hl]
    exact zlv hb r (i+1) hr (by omega)
theorem zba {c:List Int} (hc: ∀ x∈c,zfq x):(∃ e,ziD c=(0,0,e)/\e ≠ 0)\/ ∃ (v:Int) (w:Nat),ziD c=(v,(w:Int),0)/\1<=w/\w<=c.length/\0<=v/\v<18446744073709551616:=
 zlv hc c 0 rfl (by omega)
def fld (b:List Int) (a:Nat) (most e0:Int):Except Int (Int×Nat):=
 if (ziD (b.drop a)).2.2 ≠ 0 then .error (ziD (b.drop a)).2.2 else if (ziD (b.drop a)).1>most then .error e0 else .ok ((ziD (b.drop a)).1,a+(ziD (b.drop a)).2.1.toNat)
section
variable {b:List Int} (hb: ∀ x∈b,zfq x) (hl:b.length<=140737488355328)
include hb hl
theorem ze5 {a:Nat} (ha:a<=b.length) {most e0:Int} (he:e0 ≠ 0):(∃ e,fld b a most e0= .error e/\e ≠ 0)\/ ∃ v a',fld b a most e0= .ok (v,a')/\a<a'/\a'<=b.length/\0<=v/\v<=most/\v<18446744073709551616:=by
 have _:=hl
 unfold fld
 rcases zba (c:=b.drop a) (fun x hx=>hb x (List.mem_of_mem_drop hx)) with ⟨e,h,h0⟩ | ⟨v,w,h,h1,h2,h3,h4⟩
 ·rw [h];simp only [h0,ne_eq,not_false_eq_true,if_true];exact .inl ⟨e,rfl,h0⟩
 ·rw [h];simp only [ne_eq,not_true_eq_false,if_false]
  rw [List.length_drop] at h2
  by_cases hm:v>most
  ·rw [if_pos hm];exact .inl ⟨_,rfl,he⟩
  ·rw [if_neg hm];exact .inr ⟨v,a+w,by simp,by omega,by omega,h3,by omega,h4⟩
theorem jA {a:Nat} (ha:a<=b.length):cut b (a:Int) (b.length:Int)=some (b.drop a):=by
 have _:=hb
 have _:=hl
 unfold Go.Sx.cut
 rw [if_pos (by omega)]
 simp
theorem zdD {a:Nat} (ha:a<=b.length) (fd:Int) {most e0:Int} (h0:0<=most) (hm:most<1000) (he:e0 ≠ 0):
  (∃ e x,fld b a most e0= .error e/\e ≠ 0/\zy ⟨b,a,fd,0⟩ most e0=some (0,⟨b,x,a,e⟩))\/
  ∃ v a',fld b a most e0= .ok (v,a')/\a<a'/\a'<=b.length/\0<=v/\v<=most/\zy ⟨b,a,fd,0⟩ most e0=some (v,⟨b,a',a,0⟩):=by
 have hd: ∀ x∈b.drop a,zfq x:=fun x hx=>hb x (List.mem_of_mem_drop hx)
 have hn:zy ⟨b,a,fd,0⟩ most e0=(if (ziD (b.drop a)).2.2 != 0 then (zu ⟨b,w64 (a+(ziD (b.drop a)).2.1),a,0⟩ (ziD (b.drop a)).2.2).bind fun r43=>some (0,r43)
   else if decide ((ziD (b.drop a)).1>most) then (zu ⟨b,w64 (a+(ziD (b.drop a)).2.1),a,0⟩ e0).bind fun r56=>some (0,r56) else some (w64 (ziD (b.drop a)).1,⟨b,w64 (a+(ziD (b.drop a)).2.1),a,0⟩)):=by
  unfold zy
  rw [if_neg (by simp)]
  simp only [jA hb hl ha,zne hd,zbs]
 rw [hn]
 unfold fld
 rcases zba hd with ⟨e,h,h0'⟩ | ⟨v,w,h,h1,h2,h3,h4⟩
 ·left
  rw [h]
  refine ⟨e,w64 ((a:Int)+0),?_,h0',?_⟩
  ·simp [h0']
  ·simp [h0',zu]
 ·rw [h]
  rw [List.length_drop] at h2
  by_cases hm':v>most
  ·left
   refine ⟨e0,w64 ((a:Int)+w),?_,he,?_⟩
   ·simp [hm']
   ·simp [hm',zu]
  ·right
   refine ⟨v,a+w,?_,by omega,by omega,h3,by omega,?_⟩
   ·simp [hm']
   ·have e1:w64 ((a:Int)+w)=((a+w:Nat):Int):=by rw [zH (by omega) (by omega)];omega
    have e2:w64 v=v:=zH (by omega) (by omega)
    simp [hm',e1,e2]
end
theorem zaA {r:zk} (h:r.e ≠ 0) (m e:Int):zy r m e=some (0,r):=by
 unfold zy
 rw [if_pos (by simpa using h)]
theorem zjD {r:zk} (h:r.e ≠ 0) (e:Int):zu r e=some r:=by
 unfold zu
 rw [if_neg (by simpa using h)]
def zeC (n:Int):Int:=if n % 2=0 then n / 2 else -(n / 2)-1
theorem zoU {n:Int} (h0:0<=n) (h1:n<18446744073709551616):zaH n=some (zeC n):=by
 unfold zaH zeC
 have e1:n.tmod 2=n % 2:=Int.tmod_eq_emod_of_nonneg h0
 have e2:n.tdiv 2=n / 2:=Int.tdiv_eq_ediv_of_nonneg h0
 rw [e1,e2,zaT (by omega) (by omega),qN (by omega) (by omega)]
 by_cases hp:n % 2=0
 ·rw [if_pos (by simpa using hp),if_pos hp]
 ·rw [if_neg (by simpa using hp),if_neg hp,zH (x:=0-n / 2) (by omega) (by omega),zH (by omega) (by omega)]
  congr 1;omega
theorem zoV (x:Int):w64 x=if 9223372036854775808<=x % 18446744073709551616 then x % 18446744073709551616-18446744073709551616 else x % 18446744073709551616:=by
 have e1:(2 ^ IntKind.i64.bits:Int)=18446744073709551616:=rfl
 have e2:(2 ^ (IntKind.i64.bits-1):Int)=9223372036854775808:=rfl
 unfold w64 IntKind.wrap
 simp only [e1,e2,show IntKind.i64.signed=true from rfl,Bool.true_and,zdq,ge_iff_le]
theorem zjE {x:Int} (h0:0<=x) (h1:x<9223372036854775808):(BitVec.ofInt 64 x).toNat=x.toNat:=by
 rw [BitVec.toNat_ofInt]
 omega
theorem zqi (x:Int) (h0:0<=x) (h1:x<9223372036854775808):zio .i64 x (-1)= -x-1:=by
 have e:zio .i64 x (-1)=w64 ((BitVec.ofInt 64 x ^^^ BitVec.ofInt 64 (-1)).toNat:Int):=rfl
 have e2:BitVec.ofInt 64 (-1)=BitVec.allOnes 64:=by decide
 rw [e,e2,BitVec.xor_allOnes,BitVec.toNat_not,zjE h0 h1,zoV]
 have:(2:Nat) ^ 64=18446744073709551616:=by decide
 rw [this]
 split<;>omega
theorem xor_zero (x:Int) (h0:0<=x) (h1:x<9223372036854775808):zio .i64 x 0=x:=by
 have e:zio .i64 x 0=w64 ((BitVec.ofInt 64 x ^^^ BitVec.ofInt 64 0).toNat:Int):=rfl
 have e2:BitVec.ofInt 64 0=0#64:=by decide
 rw [e,e2,BitVec.xor_zero,zjE h0 h1,zH (by omega) (by omega)]
 omega
theorem zm5 {n:Int} (h0:0<=n) (h1:n<18446744073709551616):zio .i64 (w64 (zb4 .u64 n 1)) (w64 (0-(w64 (zex .u64 n 1))))=zeC n:=by
 obtain ⟨k,rfl⟩: ∃ k:Nat,n=(k:Int):=⟨n.toNat,by omega⟩
 have e1:zb4 .u64 (k:Int) 1=((k / 2:Nat):Int):=by simpa using zg8 (n:=k) 1 (by omega)
 have e2:zex .u64 (k:Int) 1=((k % 2:Nat):Int):=zrd k (by omega)
 rw [e1,e2,zH (x:=((k / 2:Nat):Int)) (by omega) (by omega),zH (x:=((k % 2:Nat):Int)) (by omega) (by omega),zH (by omega) (by omega)]
 unfold zeC
 by_cases hp:(k:Int) % 2=0
 ·rw [if_pos hp,show (0:Int)-((k % 2:Nat):Int)=0 by omega,xor_zero _ (by omega) (by omega)];omega
 ·rw [if_neg hp,show (0:Int)-((k % 2:Nat):Int)= -1 by omega,zqi _ (by omega) (by omega)];omega
def zfC (b:List Int) (a:Nat):Except Int (ze×Nat):=
 (fld b a 22 12).bind fun o=>(fld b o.2 63 12).bind fun d=>(fld b d.2 63 12).bind fun x=>(fld b x.2 63 12).bind fun y=>
 (fld b y.2 18446744073709551615 12).bind fun n=>if qj ⟨o.1,d.1,x.1,y.1,zeC n.1⟩ then .ok (⟨o.1,d.1,x.1,y.1,zeC n.1⟩,n.2) else .error 12
theorem zm6 (i:ze):zby [i]=some (qj i):=by
 unfold zby
 show (zcJ [i] 0 (qf _ _ 0 1) ()).bind _=_
 unfold zcJ
 rcases zft (qj i) with h | h<;>simp [Go.Sx.idx,zaD,h,qf]
section
variable {b:List Int} (hb: ∀ x∈b,zfq x) (hl:b.length<=140737488355328)
include hb hl
theorem zqj {a:Nat} (ha:a<=b.length) (fd:Int):
  (∃ e,zfC b a= .error e/\e ≠ 0/\OK (jc ⟨b,a,fd,0⟩) (fun p=>p.2.e=e))\/
  ∃ i a' fd',zfC b a= .ok (i,a')/\a'<=b.length/\jc ⟨b,a,fd,0⟩=some (i,⟨b,a',fd',0⟩):=by
 unfold jc zfC
 rcases zdD hb hl ha fd (most:=22) (e0:=12) (by omega) (by omega) (by omega) with ⟨e,x,h1,h2,h3⟩ | ⟨v1,a1,h1,l1,u1,_,_,h3⟩
 ·left
  refine ⟨e,by rw [h1];rfl,h2,?_⟩
  rw [h3]
  ·simp only [zbs]
   rw [zaA h2,zbs,zaA h2,zbs,zaA h2,zbs,if_pos (by simpa using h2)]
   exact OK.ret rfl
 rw [h1,h3]
 rcases zdD hb hl u1 a (most:=63) (e0:=12) (by omega) (by omega) (by omega) with ⟨e,x,h1,h2,h3⟩ | ⟨v2,a2,h1,l2,u2,_,_,h3⟩
 ·left
  refine ⟨e,by simp only [Except.bind];rw [h1],h2,?_⟩
  ·simp only [zbs]
   rw [h3]
   simp only [zbs]
   rw [zaA h2,zbs,zaA h2,zbs,if_pos (by simpa using h2)]
   exact OK.ret rfl
 simp only [Except.bind,zbs]
 rw [h1,h3]
 rcases zdD hb hl u2 a1 (most:=63) (e0:=12) (by omega) (by omega) (by omega) with ⟨e,x,h1,h2,h3⟩ | ⟨v3,a3,h1,l3,u3,_,_,h3⟩
 ·left
  refine ⟨e,by simp only [Except.bind];rw [h1],h2,?_⟩
  ·simp only [zbs]
   rw [h3]
   simp only [zbs]
   rw [zaA h2,zbs,if_pos (by simpa using h2)]
   exact OK.ret rfl
 simp only [Except.bind,zbs]
 rw [h1,h3]
 rcases zdD hb hl u3 a2 (most:=63) (e0:=12) (by omega) (by omega) (by omega) with ⟨e,x,h1,h2,h3⟩ | ⟨v4,a4,h1,l4,u4,_,_,h3⟩
 ·left
  refine ⟨e,by simp only [Except.bind];rw [h1],h2,?_⟩
  ·simp only [zbs]
   rw [h3]
   simp only [zbs]
   rw [if_pos (by simpa using h2)]
   exact OK.ret rfl
 simp only [Except.bind,zbs]
 rw [h1,h3]
 simp only [Except.bind,zbs]
 rw [if_neg (by simp),jA hb hl u4]
 have hd: ∀ x∈b.drop a4,zfq x:=fun x hx=>hb x (List.mem_of_mem_drop hx)
 have hg:zcp (b.drop a4)=some (zio .i64 (w64 (zb4 .u64 (ziD (b.drop a4)).1 1)) (w64 (0-(w64 (zex .u64 (ziD (b.drop a4)).1 1)))),(ziD (b.drop a4)).2.1,(ziD (b.drop a4)).2.2):=by
  unfold zcp
  rw [zne hd];rfl
 simp only [zbs]
 rw [hg]
 simp only [zbs]
 unfold fld
 rcases zba hd with ⟨e,h,h0'⟩ | ⟨v,w,h,p1,p2,p3,p4⟩
 ·left
  rw [h]
  simp only [ne_eq,h0',not_false_eq_true,if_true]
  rw [if_pos (by simpa using h0')]
  exact ⟨e,rfl,h0',by simp [zu,OK]⟩
 ·rw [h]
  rw [List.length_drop] at p2
  simp only [ne_eq,not_true_eq_false,if_false]
  have hbk:=zm5 p3 p4
  have hno: ¬ v>18446744073709551615:=by omega
  simp only [hno,if_false]
  rw [if_neg (show ¬ (((0:Int) != 0)=true) by decide),hbk,zm6]
  simp only [zbs]
  have e1:w64 ((a4:Int)+w)=((a4+w:Nat):Int):=by rw [zH (by omega) (by omega)];omega
  rcases zft (qj ⟨v1,v2,v3,v4,zeC v⟩) with hr | hr
  ·right
   rw [hr]
   refine ⟨⟨v1,v2,v3,v4,zeC v⟩,a4+w,(a4:Int),by simp,by omega,?_⟩
   simp [e1]
  ·left
   rw [hr]
   exact ⟨12,by first | rfl | exact if_neg (by simp),by decide,by first | (simp [zu,e1,OK];done) | exact OK.ret rfl⟩
end
end Go.Proofs.YtbmknhpfkpmigaaGreatDoor
