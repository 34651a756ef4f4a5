import Derived.Test.YtgmmfjpmahcocaaGreatDoorKSem
set_option linter.unusedVariables false
set_option linter.unusedSimpArgs false
namespace Go.Proofs.YtgmmfjpmahcocaaGreatDoor
open Go.Sx
theorem znD {α : Type} {o : Option α} {x : α} {Q : α -> Prop} (h : OK o Q) (e : o = some x) : Q x := by
 obtain ⟨y, h1, h2⟩ := h
 rw [e] at h1
 cases h1
 exact h2
theorem zjn {α : Type} {o : Option α} {Q R : α -> Prop} (h : OK o Q) (k : OK o R) : OK o (fun x => Q x /\ R x) := by
 obtain ⟨y, h1, h2⟩ := h
 exact ⟨y, h1, h2, znD k h1⟩
def zhr (k : Nat -> za) (regs : Nat -> Int) : Prop := ∀ r, r < 8 -> sem (k r) (regs r)
def zgv (regs : Nat -> Int) : Prop := ∀ r, r < 8 -> u64 (regs r)
def zb7 (x x' : Nat -> za) : Prop := ∀ r n, r < 8 -> u64 n -> sem (x r) n -> sem (x' r) n
theorem zb7.refl (x : Nat -> za) : zb7 x x := fun _ _ _ _ h => h
theorem zb7.trans {x y z : Nat -> za} (h : zb7 x y) (k : zb7 y z) : zb7 x z := fun r n hr hn hs => k r n hr hn (h r n hr hn hs)
theorem zb7.sems {x y : Nat -> za} {regs : Nat -> Int} (h : zb7 x y) (hu : zgv regs) (hs : zhr x regs) : zhr y regs := fun r hr => h r _ hr (hu r hr) (hs r hr)
theorem zcN {k : Nat -> za} {regs : Nat -> Int} (h : zhr k regs) {t : Nat} {x : za} {v : Int} (hv : sem x v) : zhr (zW k t x) (zW regs t v) := by
 intro r hr
 unfold zW
 split
 ·exact hv
 ·exact h r hr
theorem zmF {m : zi} {j : ze} (h : JI m j) {p : Nat} (hp : p < m.Co.length) {k : Nat -> za} (hk : ∀ r, r < 8 -> WT m.Ms.length (k r)) :
  OK (zD j (p : Int) k) (fun j' => ∃ x', j'.ca[p]? = some x' /\ zb7 k x' /\ ∀ x, j.any[p]? = some true -> j.ca[p]? = some x -> zb7 x x') := by
 unfold zD
 obtain ⟨a, ha, ha2⟩ := xG (xs := j.any) (p := p) (by rw [h.lenA]; exact hp)
 obtain ⟨c, hc, hc2⟩ := xG (xs := j.ca) (p := p) (by rw [h.lenC]; exact hp)
 simp only [ha2, hc2, zbs, Int.toNat_natCast]
 refine OK.ite (fun hf => OK.ret ⟨k, ?_, zb7.refl _, fun x hx => ?_⟩) (fun hn => ?_)
 ·show (j.ca.set p k)[p]? = _
  rw [List.getElem?_set, if_pos rfl, if_pos (by rw [h.lenC]; exact hp)]
 ·have hf : a = false := by simpa using hf
  rw [ha, hf] at hx; cases hx
 refine OK.bind2 (OK.count (fun i s => JI m s /\ ∃ x', s.ca[p]? = some x' /\ (∀ r, i <= r -> x' r = c r) /\ ∀ r, r < i -> ∀ n, (sem (k r) n \/ sem (c r) n) -> sem (x' r) n) ⟨h, c, hc, fun _ _ => rfl, fun r hr => by omega⟩ (fun i s again hi hI kk => ?_) (fun s hI => hI)) (fun o ho => OK.ret ?_)
 ·unfold qf
  obtain ⟨hj, x', hx', h1, h2⟩ := hI
  obtain ⟨c', hc', hc2'⟩ := xG (xs := s.ca) (p := p) (by rw [hj.lenC]; exact hp)
  rw [hx'] at hc'; cases hc'
  have w1 := hj.wt p x' hx' i hi
  simp only [hc2', zl3 hi, zbs, zgq w1.span (hk i hi).span, Int.toNat_natCast]
  refine kk _ ⟨hj.put (zcv (hj.wt p x' hx') (w1.join (hk i hi))) _ hj.lenA, zW x' i (za3 (x' i) (k i)), ?_, fun r hr => ?_, fun r hr n hn => ?_⟩
  ·show (s.ca.set p _)[p]? = _
   rw [List.getElem?_set, if_pos rfl, if_pos (by rw [hj.lenC]; exact hp)]
  ·unfold zW
   rw [if_neg (by omega)]
   exact h1 r (by omega)
  ·unfold zW
   by_cases e : r = i
   ·subst e
    rw [if_pos rfl]
    refine zlu w1 (hk r hi) ?_
    rw [h1 r (Nat.le_refl _)]
    exact hn.symm
   ·rw [if_neg e]
    exact h2 r (by omega) n hn
 ·obtain ⟨_, x', hx', _, h2⟩ := ho
  refine ⟨x', hx', fun r n hr _ hs => h2 r hr n (.inl hs), fun x _ hx r n hr _ hs => ?_⟩
  rw [hc] at hx; cases hx
  exact h2 r hr n (.inr hs)
theorem zlw {m : zi} {j : ze} (h : JI m j) (hg : zen m.Co) {p : Nat} (hp : p < m.Co.length) :
  OK (qL j (p : Int)) (fun j' => ∀ x, j.ca[p]? = some x -> ∃ x', j'.ca[p]? = some x' /\ zb7 x x') := by
 unfold qL
 have upd : ∀ {c : Nat -> za} {t : Nat} {v : za}, (∀ n, u64 n -> sem v n) -> zb7 c (zW c t v) := by
  intro c t v hv r n hr hn hs
  unfold zW
  split
  ·exact hv n hn
  ·exact hs
 refine OK.bind2 (OK.count (Q := fun j' => ∀ x, j.ca[p]? = some x -> ∃ x', j'.ca[p]? = some x' /\ zb7 x x') (fun _ s => JI m ⟨j.Module, s, j.any, j.loops⟩ /\ ∀ x, j.ca[p]? = some x -> ∃ x', s[p]? = some x' /\ zb7 x x') ⟨⟨h.mod, h.lenC, h.lenA, h.lps, h.wt⟩, fun x hx => ⟨x, hx, zb7.refl x⟩⟩ (fun i s again hi hI k => ?_) (fun s hI => hI.2)) (fun o ho => OK.ret ho)
 unfold qZ
 refine OK.bind (OK.getN hi (fun l hl => OK.ite (fun _ => k _ hI) (fun hh => ?_)))
 rw [h.lps] at hl
 obtain ⟨a, ia, ha, hia, hop, rfl⟩ := zdM.1 (zmg hl)
 have hlp := hg.fine.loop hia hop
 have hn := hg.n64
 have e1 : (zU ia a).Head = (((a : Int) - ia.D).toNat : Int) := by show (a : Int) - ia.D = _; omega
 have e2 : w64 ((zU ia a).At + 1) = ((a + 1 : Nat) : Int) := by show w64 ((a : Int) + 1) = _; rw [zI (by omega) (by omega)]; simp
 rw [e1, e2, h.mod, zg3 (by omega) (by omega)]
 simp only [zbs]
 refine OK.bind2 (OK.count (fun _ s => JI m ⟨j.Module, s, j.any, j.loops⟩ /\ ∀ x, j.ca[p]? = some x -> ∃ x', s[p]? = some x' /\ zb7 x x') hI (fun i s again hi hI k => ?_) (fun s hI => hI)) (fun o ho => k _ ho)
 unfold qx
 refine OK.bind (OK.getN hi (fun x hx => ?_))
 have hr : OK (vd x) (fun r => r.2 = true -> 0 <= r.1 /\ r.1 < 8) := by
  rcases zft (zO x) with e | e
  ·exact zgs e
  ·exact zfY e
 refine OK.bind2 hr (fun r hr => OK.ite (fun _ => k _ hI) (fun hw => ?_))
 have hr := hr (by simpa using hw)
 obtain ⟨c', hc', hc2'⟩ := xG (xs := s) (p := p) (by rw [show s.length = m.Co.length from hI.1.lenC]; exact hp)
 simp only [hc2', zf0 hr.1 hr.2, zbs, za6, vQ, Int.toNat_natCast]
 have go : ∀ {v : za}, WT m.Ms.length v -> (∀ n, u64 n -> sem v n) -> JI m ⟨j.Module, s.set p (zW c' r.1.toNat v), j.any, j.loops⟩ /\ ∀ x, j.ca[p]? = some x -> ∃ x', (s.set p (zW c' r.1.toNat v))[p]? = some x' /\ zb7 x x' := by
  intro v hv hs
  refine ⟨hI.1.put (zcv (hI.1.wt p c' hc') hv) _ hI.1.lenA, fun x hx => ?_⟩
  obtain ⟨x', hx', hw⟩ := hI.2 x hx
  rw [hc'] at hx'; cases hx'
  refine ⟨_, by rw [List.getElem?_set, if_pos rfl, if_pos (by rw [show s.length = m.Co.length from hI.1.lenC]; exact hp)], hw.trans (upd hs)⟩
 exact OK.ite (fun _ => k _ (go (WT.num SW.full) (fun n hn => zdQ (zde hn)))) (fun _ => k _ (go WT.zero (fun n _ => zhq n)))
structure zdy (j j' : ze) : Prop where
 grow : ∀ (q : Nat) (x : Nat -> za), j.any[q]? = some true -> j.ca[q]? = some x -> ∃ x', j'.ca[q]? = some x' /\ zb7 x x'
 keep : ∀ q : Nat, j.any[q]? = some true -> j'.any[q]? = some true
theorem zdy.refl (j : ze) : zdy j j := ⟨fun q x _ hx => ⟨x, hx, zb7.refl x⟩, fun _ h => h⟩
theorem zdy.trans {a b c : ze} (h : zdy a b) (k : zdy b c) : zdy a c :=
 ⟨fun q x ha hx => by
  obtain ⟨x', h1, h2⟩ := h.grow q x ha hx
  obtain ⟨x'', h3, h4⟩ := k.grow q x' (h.keep q ha) h1
  exact ⟨x'', h3, h2.trans h4⟩, fun q ha => k.keep q (h.keep q ha)⟩
theorem zlx {m : zi} {j : ze} (h : JI m j) {p : Nat} (hp : p < m.Co.length) {k : Nat -> za} (hk : ∀ r, r < 8 -> WT m.Ms.length (k r)) :
  OK (zD j (p : Int) k) (fun j' => JI m j' /\ j'.any = j.any.set p true /\ (∀ q, q ≠ p -> j'.ca[q]? = j.ca[q]?) /\ zdy j j' /\ j'.any[p]? = some true /\ ∃ x', j'.ca[p]? = some x' /\ zb7 k x') := by
 refine (zjn (zks h hp hk) (zmF h hp hk)).mono (fun j' hj' => ?_)
 obtain ⟨⟨h1, h2, h3⟩, x', h4, h5, h6⟩ := hj'
 have hat : j'.any[p]? = some true := by
  rw [h2, List.getElem?_set, if_pos rfl, if_pos (by rw [h.lenA]; exact hp)]
 refine ⟨h1, h2, h3, ⟨fun q x ha hx => ?_, fun q ha => ?_⟩, hat, x', h4, h5⟩
 ·by_cases e : q = p
  ·subst e; exact ⟨x', h4, h6 x ha hx⟩
  ·exact ⟨x, by rw [h3 q e]; exact hx, zb7.refl x⟩
 ·by_cases e : q = p
  ·subst e; exact hat
  ·rw [h2, zbM e]; exact ha
def zgw (i : zc) (regs : Nat -> Int) : Int := if i.B == 8 then zp i.Imm else regs i.B.toNat
inductive Stp (i : zc) (p : Nat) (regs : Nat -> Int) : Nat -> (Nat -> Int) -> Prop
 | set : i.Op = 0 -> Stp i p regs (p + 1) (zW regs i.D.toNat (zgw i regs))
 | arith : 1 <= i.Op -> i.Op <= 10 -> Stp i p regs (p + 1) (zW regs i.D.toNat (ar i.Op (regs i.A.toNat) (zgw i regs)))
 | any (v : Int) : i.Op = 11 \/ i.Op = 13 -> u64 v -> Stp i p regs (p + 1) (zW regs i.D.toNat v)
 | store : i.Op = 12 -> Stp i p regs (p + 1) regs
 | map : i.Op = 14 -> Stp i p regs (p + 1) (zW regs i.D.toNat i.Imm)
 | jump (q : Nat) : i.Op = 15 -> (q : Int) = p + (i.D + 1) -> Stp i p regs q regs
 | yes (q : Nat) : 16 <= i.Op -> i.Op <= 19 -> hl i.Op (regs i.A.toNat) (zgw i regs) = true -> (q : Int) = p + (i.D + 1) -> Stp i p regs q regs
 | no : 16 <= i.Op -> i.Op <= 19 -> hl i.Op (regs i.A.toNat) (zgw i regs) = false -> Stp i p regs (p + 1) regs
 | back (q : Nat) : i.Op = 20 -> (q : Int) = p - i.D -> Stp i p regs q regs
 | on : i.Op = 20 -> Stp i p regs (p + 1) regs
 | call (v : Int) : i.Op = 21 -> (∀ s, xH i.Imm = some (s, true) -> 0 <= v /\ v <= s.most) -> Stp i p regs (p + 1) (zW regs 0 v)
structure zg5 (m : zi) (i : zc) (k k' : Nat -> za) : Prop where
 same : 15 <= i.Op -> i.Op <= 20 -> k' = k
 plain : ∀ (p : Nat) regs q regs', ¬ (15 <= i.Op /\ i.Op <= 20) -> zgv regs -> zhr k regs -> Stp i p regs q regs' -> zhr k' regs'
 nums : 16 <= i.Op -> i.Op <= 19 -> (k i.A.toNat).Ki = 1 /\ (zfh i k).Ki = 1
 handle : i.Op = 21 -> i.Imm <= 4 -> (k 1).Ki = 2
theorem zkE (l : List za) : OK (xn l) (fun r => r = 0 -> ∀ x ∈ l, x.Ki = 1) := by
 unfold xn
 refine OK.bind2 (OK.count (Q := fun o => match o with | .inl _ => ∀ x ∈ l, x.Ki = 1 | .inr r => r ≠ 0) (fun i _ => ∀ (q : Nat) (x : za), q < i -> l[q]? = some x -> x.Ki = 1) (fun q x h => by omega) (fun i s again hi hI k => ?_) (fun _ hI => ?_)) (fun o ho => ?_)
 ·unfold zF
  refine OK.bind (OK.getN hi (fun x hx => OK.ite (fun h => OK.ret (by simp)) (fun h => k _ (fun q y hq hy => ?_))))
  by_cases hqi : q < i
  ·exact hI q y hqi hy
  ·obtain rfl : q = i := by omega
   rw [hx] at hy; cases hy
   simpa using h
 ·intro x hx
  obtain ⟨q, hq⟩ := List.mem_iff_getElem?.1 hx
  exact hI q x (zes.1 hq).1 hq
 ·cases o with
  | inl _ => exact OK.ret (fun _ => ho)
  | inr r => exact OK.ret (fun h => absurd h ho)
theorem zkF (k : Fin 7) {l : List za} (ha : qV 1000 ((k : Nat) : Int) = some l) (ys : List za) : OK (zaR 1000 ((k : Nat) : Int) ys) (fun r => r = 0 -> ∀ (q : Nat) (x y : za), l[q]? = some x -> ys[q]? = some y -> x.Ki = y.Ki) := by
 obtain ⟨s, h1, _⟩ := zgu k
 unfold zaR
 simp only [h1, ha, zbs]
 refine OK.ite (fun h => by cases h) (fun _ => OK.ite (fun _ => OK.ret (by simp)) (fun hl => ?_))
 have hl : l.length = ys.length := by
  have : (l.length : Int) = ys.length := by simpa using hl
  omega
 refine OK.bind2 (OK.count (Q := fun o => match o with | .inl _ => ∀ (q : Nat) (x y : za), l[q]? = some x -> ys[q]? = some y -> x.Ki = y.Ki | .inr r => r ≠ 0) (fun i _ => ∀ (q : Nat) (x y : za), q < i -> l[q]? = some x -> ys[q]? = some y -> x.Ki = y.Ki) (fun q x y h => by omega) (fun i s again hi hI kk => ?_) (fun _ hI => ?_)) (fun o ho => ?_)
 ·unfold vW
  refine OK.bind (OK.getN hi (fun x hx => OK.bind (OK.getN (by omega) (fun y hy => ?_))))
  refine OK.ite (fun _ => OK.ret (by simp)) (fun hk => OK.bind2 (R := fun _ => True) ?_ (fun o _ => OK.ite (fun _ => OK.ret (by simp)) (fun _ => kk _ (fun q a b hq ha hb => ?_))))
  ·exact OK.ite (fun _ => OK.bind2 (zfg _ _) (fun x _ => OK.ret trivial)) (fun _ => OK.ret trivial)
  ·by_cases hqi : q < i
   ·exact hI q a b hqi ha hb
   ·obtain rfl : q = i := by omega
    rw [hx] at ha; rw [hy] at hb; cases ha; cases hb
    simpa using hk
 ·intro q x y hx hy
  exact hI q x y (zes.1 hx).1 hx hy
 ·cases o with
  | inl _ => exact OK.ret (fun _ => ho)
  | inr r => exact OK.ret (fun h => absurd h ho)
theorem zjL : ∀ k : Fin 7, (k : Nat) <= 4 -> ∃ l x, qV 1000 ((k : Nat) : Int) = some l /\ l[0]? = some x /\ x.Ki = 2 := by
 intro k hk
 have h : ∀ k : Fin 7, (k : Nat) <= 4 -> (qV 1000 ((k : Nat) : Int)).bind (fun l => (l[0]?).map (·.Ki)) = some 2 := by decide +kernel
 obtain ⟨l, h1, h2⟩ := Option.bind_eq_some_iff.1 (h k hk)
 obtain ⟨x, h3, h4⟩ := Option.map_eq_some_iff.1 h2
 exact ⟨l, x, h1, h3, h4⟩
theorem znq {m : zi} {j : ze} (h : JI m j) (hg : zen m.Co) {p : Nat} (hp : p < m.Co.length) :
  OK (jV 1000 j (p : Int)) (fun r => r.2 = 0 -> ∀ i k, m.Co[p]? = some i -> j.ca[p]? = some k -> zg5 m i k r.1) := by
 have hn := hg.n64
 obtain ⟨i, hi, hi2⟩ := xG hp
 obtain ⟨k, hk1, hk2⟩ := xG (xs := j.ca) (p := p) (by rw [h.lenC]; exact hp)
 have hk := h.wt p k hk1
 have hr := hg.fine.right hi
 have hop := za4 hr
 have hA := zbl hr
 have fin : ∀ {r : (Nat -> za) × Int}, (r.2 = 0 -> zg5 m i k r.1) -> r.2 = 0 -> ∀ i' k', m.Co[p]? = some i' -> j.ca[p]? = some k' -> zg5 m i' k' r.1 := by
  intro r hl h0 i' k' hi' hk'
  rw [hi] at hi'; rw [hk1] at hk'; cases hi'; cases hk'
  exact hl h0
 unfold jV
 rw [h.mod, hi2, hk2]
 simp only [zbs, zgt hr]
 refine OK.bind2 (R := fun t => (i.Op <= 12 \/ (16 <= i.Op /\ i.Op <= 19)) -> t = zfh i k) ?_ (fun s hs => ?_)
 ·refine OK.ite (fun hsrc => ?_) (fun hns => OK.ret (fun h => ?_))
  ·have hb := qP hr (by simp at hsrc; omega)
   rw [zeF hb]
   exact OK.ret (fun _ => rfl)
  ·simp at hns; omega
 rw [zf0 hA.1 hA.2]
 simp only [zbs, za6, vQ]
 have hD : ¬ (15 <= i.Op /\ i.Op <= 20) -> ain 8 i.D = some i.D.toNat := fun h => zf0 (zdd hr h).1 (zdd hr h).2
 have mk : ∀ {k' : Nat -> za}, ¬ (15 <= i.Op /\ i.Op <= 20) -> i.Op ≠ 21 -> (∀ (p : Nat) regs q regs', zgv regs -> zhr k regs -> Stp i p regs q regs' -> zhr k' regs') -> zg5 m i k k' :=
  fun h1 h2 h3 => ⟨fun a b => absurd ⟨a, b⟩ h1, fun p regs q regs' _ hu hs hst => h3 p regs q regs' hu hs hst, fun a b => absurd ⟨by omega, by omega⟩ h1, fun a => absurd a h2⟩
 refine OK.ite (fun e => ?_) (fun e0 => ?_)
 ·have e : i.Op = 0 := by simpa using e
  refine OK.ite (fun _ => OK.ret (fin (fun h => by simp at h))) (fun _ => ?_)
  rw [hD (by omega)]
  refine OK.ret (fin (fun _ => mk (by omega) (by omega) (fun p regs q regs' hu hsm hst => ?_)))
  rw [hs (.inl (by omega))]
  cases hst with
  | set _ => exact zcN hsm (ziP (qP hr (.inl (by omega))) hsm)
  | _ => omega
 refine OK.ite (fun e => ?_) (fun e11 => ?_)
 ·have e : i.Op = 11 := by simpa using e
  rw [hD (by omega)]
  simp only [zbs]
  refine OK.bind2 (zct _) (fun a _ => OK.bind2 (zhm _) (fun b _ => OK.bind2 (zf9 _) (fun c _ => OK.ret (fin (fun _ => mk (by omega) (by omega) (fun p regs q regs' hu hsm hst => ?_))))))
  cases hst with
  | any v _ hv => exact zcN hsm (zdQ (zde hv))
  | _ => omega
 refine OK.ite (fun e => ?_) (fun e12 => ?_)
 ·have e : i.Op = 12 := by simpa using e
  refine OK.bind2 (zct _) (fun a _ => OK.bind2 (zhm _) (fun b _ => OK.bind2 (zf9 _) (fun c _ => OK.ret (fin (fun _ => mk (by omega) (by omega) (fun p regs q regs' hu hsm hst => ?_))))))
  cases hst with
  | store _ => exact hsm
  | _ => omega
 refine OK.ite (fun e => ?_) (fun e13 => ?_)
 ·have e : i.Op = 13 := by simpa using e
  rw [hD (by omega)]
  refine OK.ret (fin (fun _ => mk (by omega) (by omega) (fun p regs q regs' hu hsm hst => ?_)))
  cases hst with
  | any v _ hv => exact zcN hsm (zdQ (zde hv))
  | _ => omega
 refine OK.ite (fun e => ?_) (fun e14 => ?_)
 ·have e : i.Op = 14 := by simpa using e
  rw [hD (by omega)]
  simp only [zbs]
  refine OK.ite (fun _ => OK.ret (fin (fun h => by simp at h))) (fun hlt => OK.ret (fin (fun _ => mk (by omega) (by omega) (fun p regs q regs' hu hsm hst => ?_))))
  cases hst with
  | map _ => exact zcN hsm ⟨fun e => by simp at e, fun _ => rfl⟩
  | _ => omega
 refine OK.ite (fun e => ?_) (fun e15 => ?_)
 ·have e : i.Op = 15 := by simpa using e
  exact OK.ret (fin (fun _ => ⟨fun _ _ => rfl, fun p regs q regs' hne => absurd ⟨by omega, by omega⟩ hne, fun a => by omega, fun a => by omega⟩))
 refine OK.bind2 (R := fun o => o = inB i.Op 16 19) ?_ (fun o ho => ?_)
 ·refine OK.ite (fun e => OK.ret ?_) (fun e => OK.ite (fun e => OK.ret ?_) (fun e2 => OK.ite (fun e => OK.ret ?_) (fun e3 => OK.ret ?_)))
  ·have e : i.Op = 16 := by simpa using e
   simp [e, inB]
  ·have e : i.Op = 17 := by simpa using e
   simp [e, inB]
  ·have e : i.Op = 18 := by simpa using e
   simp [e, inB]
  ·simp only [beq_eq_false_iff_ne, ne_eq] at e e2 e3
   rcases zft (i.Op == 19) with e4 | e4
   ·have e5 : i.Op = 19 := by simpa using e4
    simp [e5, inB]
   ·have e5 : i.Op ≠ 19 := by simpa using e4
    rw [e4, Eq.comm, inB, Bool.and_eq_false_iff]
    simp only [decide_eq_false_iff_not]
    omega
 refine OK.ite (fun e => ?_) (fun e16 => ?_)
 ·rw [ho] at e
  have e : 16 <= i.Op /\ i.Op <= 19 := by simpa [inB] using e
  refine OK.bind2 (zkE _) (fun a ha => OK.ret (fin (fun h0 => ⟨fun _ _ => rfl, fun p regs q regs' hne => absurd ⟨by omega, by omega⟩ hne, fun _ _ => ?_, fun a => by omega⟩)))
  have := ha h0
  exact ⟨this _ (by simp), by rw [<- hs (.inr e)]; exact this _ (by simp)⟩
 refine OK.ite (fun e => ?_) (fun e20 => ?_)
 ·have e : i.Op = 20 := by simpa using e
  have lv : zg5 m i k k := ⟨fun _ _ => rfl, fun p regs q regs' hne => absurd ⟨by omega, by omega⟩ hne, fun a => by omega, fun a => by omega⟩
  refine OK.bind2 (zct _) (fun a _ => OK.ite (fun ha => OK.ret (fin (fun _ => lv))) (fun _ => ?_))
  have hlp := hg.fine.loop hi e
  have ew : w64 ((p : Int) - i.D) = (((p : Int) - i.D).toNat : Int) := by rw [zI (by omega) (by omega)]; omega
  obtain ⟨hd, hd1, hd2⟩ := xG (xs := j.ca) (p := ((p : Int) - i.D).toNat) (by rw [h.lenC]; omega)
  refine OK.bind2 (OK.count (Q := fun o => match o with | .inl _ => True | .inr r => r.2 ≠ 0) (fun t _ => True) trivial (fun t s again ht hI kk => ?_) (fun _ hI => trivial)) (fun o ho => ?_)
  ·unfold ql
   simp only [zl3 ht, ew, hd2, zbs]
   exact OK.bind2 (zkr _ _) (fun r hr => OK.ite (fun _ => OK.ret (by simp)) (fun hn => kk _ trivial))
  ·cases o with
   | inl _ => exact OK.ret (fin (fun _ => lv))
   | inr r => exact OK.ret (fun h0 => absurd h0 ho)
 refine OK.ite (fun e => ?_) (fun e21 => ?_)
 ·have e : i.Op = 21 := by simpa using e
  have him := zbL hr e
  obtain ⟨n, hn⟩ := zof him.1
  rw [hn]
  obtain ⟨l, hl, hl3⟩ := zho ⟨n, by omega⟩
  obtain ⟨sg, hs1, hs2, hs3⟩ := zgu ⟨n, by omega⟩
  have hl' : qV 1000 (n : Int) = some l := hl
  have hs1' : xH (n : Int) = some (sg, true) := hs1
  simp only [hl', zbs]
  have ec : w64 (1 + (l.length : Int)) = ((1 + l.length : Nat) : Int) := by rw [zI (by omega) (by omega)]; simp
  have hcut : cut (jY 8 k) 1 (w64 (1 + (l.length : Int))) = some (((jY 8 k).take (1 + l.length)).drop 1) := by
   rw [ec]
   exact zg3 (lo := 1) (by omega) (by rw [vU]; omega)
  rw [hcut]
  simp only [zbs]
  refine OK.bind2 (zkF ⟨n, by omega⟩ hl _) (fun r hrk => ?_)
  unfold zaG
  simp only [hs1', zbs]
  refine OK.ret (fin (fun h0 => ⟨fun a b => by omega, fun p regs q regs' _ hu hsm hst => ?_, fun a b => by omega, fun _ h4 => ?_⟩))
  ·cases hst with
   | call v _ hv =>
    have := hv sg (by rw [hn]; exact hs1')
    exact zcN hsm (zdQ ⟨this.1, this.2⟩)
   | _ => omega
  ·obtain ⟨l2, x, h1, h2, h3⟩ := zjL ⟨n, by omega⟩ (by show n <= 4; omega)
   have h1' : qV 1000 (n : Int) = some l2 := h1
   rw [hl'] at h1'; cases h1'
   have hll := (zes.1 h2).1
   have hy : (((jY 8 k).take (1 + l.length)).drop 1)[0]? = some (k 1) := by
    rw [List.getElem?_drop, List.getElem?_take, if_pos (by omega)]
    rfl
   rw [<- hrk h0 0 x (k 1) h2 hy]
   exact h3
 refine OK.ite (fun e => ?_) (fun e22 => ?_)
 ·have e : i.Op = 22 := by simpa using e
  refine OK.bind2 (zct _) (fun a _ => OK.ret (fin (fun _ => mk (by omega) (by omega) (fun p regs q regs' hu hsm hst => ?_))))
  cases hst <;> omega
 simp only [beq_eq_false_iff_ne, ne_eq] at e0 e11 e12 e13 e14 e15 e20 e21 e22
 have e16' : ¬ (16 <= i.Op /\ i.Op <= 19) := by
  rw [ho] at e16
  intro h
  simp [inB, h] at e16
 have o1 : 1 <= i.Op := by omega
 have o2 : i.Op <= 10 := by omega
 have hsb := qP hr (.inl (by omega))
 have hse := hs (.inl (by omega))
 have hws : WT m.Ms.length s := by rw [hse]; exact zcu hsb hk
 obtain ⟨d, hd1, hd2⟩ := zns (op := i.Op) (hk i.A.toNat (by omega)).span hws.span
 rw [hd1]
 simp only [zbs]
 rw [hD (by omega)]
 simp only [zbs]
 refine OK.bind2 (zkE _) (fun a ha => OK.ret (fin (fun h0 => mk (by omega) (by omega) (fun p regs q regs' hu hsm hst => ?_))))
 have hkinds := ha h0
 cases hst with
 | arith _ _ =>
  refine zcN hsm (zdQ ?_)
  have hx := (hsm i.A.toNat (by omega)).1 (hkinds _ (by simp))
  have hy := (ziP hsb hsm).1 (by rw [<- hse]; exact hkinds _ (by simp))
  rw [<- hse] at hy
  have hdi := znD (znV (hk i.A.toNat (by omega)).span hws.span hx hy o1 o2) hd1
  exact hdi
 | _ => omega
end Go.Proofs.YtgmmfjpmahcocaaGreatDoor
