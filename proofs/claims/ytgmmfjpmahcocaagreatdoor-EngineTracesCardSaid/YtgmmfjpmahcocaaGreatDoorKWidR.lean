import Derived.Test.YtgmmfjpmahcocaaGreatDoorKAskR
set_option linter.unusedVariables false
set_option linter.unusedSimpArgs false
namespace Go.Proofs.YtgmmfjpmahcocaaGreatDoor
open Go.Sx
theorem zg6 {σ ρ α : Type} {body : Nat -> (σ -> Option ρ) -> σ -> Option ρ} {out : σ -> ρ} (xs : List α) (f : σ -> α -> σ) (I : σ -> Prop) (h : ∀ i again s x, xs[i]? = some x -> I s -> body i again s = again (f s x) /\ I (f s x)) :
  ∀ (n i : Nat) (s : σ), i + n = xs.length -> I s -> zQ body out n i s = some (out ((xs.drop i).foldl f s)) := by
 intro n
 induction n with
 | zero =>
  intro i s hi hI
  rw [List.drop_of_length_le (by omega)]; rfl
 | succ n ih =>
  intro i s hi hI
  have hx : xs[i]? = some xs[i] := zeg (by omega)
  show body i (zQ body out n (i + 1)) s = _
  obtain ⟨h1, h2⟩ := h i (zQ body out n (i + 1)) s _ hx hI
  rw [h1, ih (i + 1) _ (by omega) h2, List.drop_eq_getElem_cons (by omega : i < xs.length)]
  rfl
def zjU : za := ⟨1, ⟨0, 18446744073709551615⟩, 0⟩
def zgc (x : Nat -> za) (i : zc) : Nat -> za := if (wrB i).2 then zW x (wrB i).1.toNat (if (x (wrB i).1.toNat).Ki == 1 then zjU else vI) else x
theorem zl6 {i : zc} (h : (wrB i).2 = true) : 0 <= (wrB i).1 /\ (wrB i).1 < 8 := by
 by_cases hr : zO i = true
 ·obtain ⟨r, e, hq⟩ := zgs hr
  rw [zl5] at e
  obtain rfl := Option.some.inj e
  exact hq h
 ·have : zO i = false := by simpa using hr
  unfold wrB at h
  rw [this] at h
  cases h
theorem WT.full {n : Nat} : WT n zjU := .inr (.inl ⟨rfl, SW.full, rfl⟩)
theorem zkW {n : Nat} {x : Nat -> za} (hx : ∀ r, r < 8 -> WT n (x r)) (i : zc) : ∀ r, r < 8 -> WT n (zgc x i r) := by
 unfold zgc
 split
 ·refine zcv hx ?_
  split
  ·exact WT.full
  ·exact WT.zero
 ·exact hx
def zhv (code : List zc) (p : Nat) (x : Nat -> za) : Nat -> (Nat -> za)
 | 0 => x
 | k + 1 => match code[k]? with
  | some i => if i.Op == 20 && ((k : Int) - i.D == (p : Int)) then ((code.take (k + 1)).drop p).foldl zgc (zhv code p x k) else zhv code p x k
  | none => zhv code p x k
theorem zjr {n : Nat} : ∀ (l : List zc) {x : Nat -> za}, (∀ r, r < 8 -> WT n (x r)) -> ∀ r, r < 8 -> WT n (l.foldl zgc x r)
 | [], _, h => h
 | i :: l, _, h => zjr l (zkW h i)
theorem zia {code : List zc} {p k : Nat} {x : Nat -> za} {i : zc} (h : code[k]? = some i) :
  zhv code p x (k + 1) = if i.Op == 20 && ((k : Int) - i.D == (p : Int)) then ((code.take (k + 1)).drop p).foldl zgc (zhv code p x k) else zhv code p x k := by rw [zhv, h]
theorem zkX {n : Nat} {code : List zc} {p : Nat} {x : Nat -> za} (hx : ∀ r, r < 8 -> WT n (x r)) : ∀ k r, r < 8 -> WT n (zhv code p x k r) := by
 intro k
 induction k with
 | zero => exact hx
 | succ k ih =>
  cases h : code[k]? with
  | none =>
   have : zhv code p x (k + 1) = zhv code p x k := by rw [zhv, h]
   rw [this]; exact ih
  | some i =>
   rw [zia h]
   by_cases hc : (i.Op == 20 && ((k : Int) - i.D == (p : Int))) = true
   ·rw [if_pos hc]; exact zjr _ ih
   ·rw [if_neg hc]; exact ih
theorem znt {code : List zc} {p : Nat} (ys : List zc) {A : List (Nat -> za)} {x : Nat -> za} (hx : A[p]? = some x) :
  zQ (qx p ys) (fun (s : List (Nat -> za)) => s) ys.length 0 A = some (A.set p (ys.foldl zgc x)) := by
 have hp : p < A.length := (zes.1 hx).1
 have := zg6 (body := qx p ys) (out := fun (s : List (Nat -> za)) => s) ys (fun s i => match s[p]? with | some y => s.set p (zgc y i) | none => s) (fun s => s.length = A.length) (fun i again s z hz hI => ?_) ys.length 0 A (by omega) rfl
 ·rw [this]
  congr 1
  rw [List.drop_zero]
  clear this
  induction ys generalizing A x with
  | nil =>
   show A = A.set p x
   rw [<- (zes.1 hx).2, List.set_getElem_self]
  | cons y ys ih =>
   rw [List.foldl_cons, List.foldl_cons, hx]
   show ys.foldl _ (A.set p (zgc x y)) = _
   have hl : p < (A.set p (zgc x y)).length := by rw [List.length_set]; exact hp
   rw [ih (A := A.set p (zgc x y)) (x := zgc x y) (List.getElem?_set_self hp) hl, List.set_set]
 ·have hl : p < s.length := by omega
  have hsp : s[p]? = some s[p] := zeg hl
  refine ⟨?_, by rw [hsp]; exact (List.length_set ..).trans hI⟩
  unfold qx
  have hi : i < ys.length := (zes.1 hz).1
  rw [zdL hi, (zes.1 hz).2]
  simp only [zbs, zl5, hsp]
  by_cases hw : (wrB z).2 = true
  ·have hr := zl6 hw
   have e : idx s (p : Int) = some s[p] := zdL hl
   simp only [hw, Bool.not_true, zfe, if_false, e, zbs, zf0 hr.1 hr.2, za6, vQ, Int.toNat_natCast, zgc, if_true]
   split <;> rfl
  ·have hw' : (wrB z).2 = false := by simpa using hw
   simp only [hw', Bool.not_false, if_true, zgc, zfe, if_false]
   rw [List.set_getElem_self]
theorem zlI {m : zi} {j : ze} (h : JI m j) (hg : zen m.Co) {p : Nat} (hp : p < m.Co.length) {x : Nat -> za} (hx : j.ca[p]? = some x) :
  qL j p = some ⟨j.Module, j.ca.set p (zhv m.Co p x m.Co.length), j.any, j.loops⟩ := by
 have hpc : p < j.ca.length := (zes.1 hx).1
 unfold qL
 have := zg6 (body := qZ j p) (out := fun (s : List (Nat -> za)) => (ze.mk j.Module s j.any j.loops)) j.loops
  (fun s l => if l.Head == (p : Int) then (match s[p]? with | some y => s.set p (((m.Co.take (l.At + 1).toNat).drop p).foldl zgc y) | none => s) else s) (fun s => s.length = j.ca.length) (fun i again s l hl hI => ?_) j.loops.length 0 j.ca (by omega) rfl
 ·rw [this, zbs, List.drop_zero]
  congr 2
  rw [h.lps]
  clear this
  have : ∀ k, k <= m.Co.length -> (lps m.Co k).foldl (fun s l => if l.Head == (p : Int) then (match s[p]? with | some y => s.set p (((m.Co.take (l.At + 1).toNat).drop p).foldl zgc y) | none => s) else s) j.ca = j.ca.set p (zhv m.Co p x k) := by
   intro k
   induction k with
   | zero =>
    intro _
    show j.ca = j.ca.set p x
    rw [<- (zes.1 hx).2, List.set_getElem_self]
   | succ k ih =>
    intro hk
    have ih := ih (by omega)
    have hck : m.Co[k]? = some m.Co[k] := zeg (by omega)
    unfold lps zhv
    rw [hck]
    simp only
    by_cases h20 : (m.Co[k].Op == 20) = true
    ·simp only [h20, if_true, Bool.true_and]
     rw [List.foldl_append, ih, List.foldl_cons, List.foldl_nil]
     have hh : (zU m.Co[k] k).Head = (k : Int) - m.Co[k].D := rfl
     have ha : (zU m.Co[k] k).At = (k : Int) := rfl
     rw [hh, ha]
     by_cases he : ((k : Int) - m.Co[k].D == (p : Int)) = true
     ·simp only [he, if_true]
      rw [List.getElem?_set_self hpc]
      have : ((k : Int) + 1).toNat = k + 1 := by omega
      simp only [this, List.set_set]
     ·simp only [he, zfe, if_false]
    ·simp only [h20, zfe, if_false, Bool.false_and]
     exact ih
  exact this _ (Nat.le_refl _)
 ·have hlm : l ∈ lps m.Co m.Co.length := by rw [<- h.lps]; exact zmg hl
  obtain ⟨q, iq, hq, hcq, h20, rfl⟩ := zdM.1 hlm
  have hi : i < j.loops.length := (zes.1 hl).1
  have hlo := hg.fine.loop hcq h20
  have hlen : (if ((zU iq q).Head == (p : Int)) = true then (match s[p]? with | some y => s.set p (((m.Co.take ((zU iq q).At + 1).toNat).drop p).foldl zgc y) | none => s) else s).length = j.ca.length := by
   split
   ·split
    ·rw [List.length_set]; exact hI
    ·exact hI
   ·exact hI
  refine ⟨?_, hlen⟩
  unfold qZ
  rw [zdL hi, (zes.1 hl).2]
  simp only [zbs, h.mod]
  by_cases he : (zU iq q).Head = (p : Int)
  ·have e1 : ((zU iq q).Head != (p : Int)) = false := by simpa using he
   have e2 : ((zU iq q).Head == (p : Int)) = true := by simpa using he
   simp only [e1, e2, zfe, if_false, if_true]
   have hAt : (zU iq q).At = (q : Int) := rfl
   have hHd : (zU iq q).Head = (q : Int) - iq.D := rfl
   have n64 := hg.n64
   rw [he, hAt, zI (by omega) (by omega), show (q : Int) + 1 = ((q + 1 : Nat) : Int) by push_cast; rfl, zg3 (by omega) (by omega)]
   have hl : p < s.length := by omega
   have hsp : s[p]? = some s[p] := zeg hl
   simp only [zbs, Int.toNat_natCast]
   rw [znt (code := m.Co) _ hsp, hsp]
   rfl
  ·have e1 : ((zU iq q).Head != (p : Int)) = true := by simpa using he
   have e2 : ((zU iq q).Head == (p : Int)) = false := by simpa using he
   simp only [e1, e2, zfe, if_false, if_true]
theorem znu {n : Nat} {m : zi} {l : Nat} (hl : l < m.Co.length) (hn : m.Co.length <= 64) : ∀ (c q f : Nat) (x : Nat -> za), q + c = l + 1 -> c < f -> (∀ r, r < 8 -> WT n (x r)) ->
  loop (vh m l) f (jY 8 x, (q : Int)) = some (jY 8 (((m.Co.take (l + 1)).drop q).foldl zgc x)) := by
 intro c
 induction c with
 | zero =>
  intro q f x hq hf hx
  obtain ⟨f, rfl⟩ : ∃ k, f = k + 1 := ⟨f - 1, by omega⟩
  rw [loop, vh, if_neg (by simp; omega), List.drop_of_length_le (by rw [List.length_take]; omega)]
  rfl
 | succ c ih =>
  intro q f x hq hf hx
  obtain ⟨f, rfl⟩ : ∃ k, f = k + 1 := ⟨f - 1, by omega⟩
  have hql : q < (m.Co.take (l + 1)).length := by rw [List.length_take]; omega
  rw [List.drop_eq_getElem_cons hql, List.foldl_cons, List.getElem_take]
  have hcode : idx m.Co (q : Int) = some (m.Co[q]'(by omega)) := zdL (by omega)
  generalize hz : m.Co[q]'(by omega) = z at hcode
  rw [loop, vh, if_pos (by simp; omega)]
  simp only [hcode, zbs, znp]
  have hnext : w64 ((q : Int) + 1) = ((q + 1 : Nat) : Int) := by rw [zI (by omega) (by omega)]; push_cast; rfl
  have goal := ih (q + 1) f (zgc x z) (by omega) (by omega) (zkW hx z)
  rw [hnext]
  by_cases hw : (wrB z).2 = true
  ·have hr := zl6 hw
   have hxr := hx (wrB z).1.toNat (by omega)
   simp only [hw, if_true, qw x hr.1 hr.2, zbs, zix, vF]
   by_cases h1 : ((x (wrB z).1.toNat).Ki == 1) = true
   ·simp only [h1, if_true, zbs]
    have e : zgc x z = zW x (wrB z).1.toNat zjU := by unfold zgc; rw [hw, if_pos rfl, h1, if_pos rfl]
    rw [e] at goal
    rw [qw _ hr.1 hr.2]
    have : (zW x (wrB z).1.toNat ⟨1, ⟨0, 18446744073709551615⟩, 0⟩ (wrB z).1.toNat) = zjU := by simp [zW, zjU]
    have f2 : (zjU.Ki == 2) = false := rfl
    simp only [zbs, this, f2, zfe, if_false, e]
    exact goal
   ·have h1' : ((x (wrB z).1.toNat).Ki == 1) = false := by simpa using h1
    have e : zgc x z = zW x (wrB z).1.toNat vI := by unfold zgc; rw [hw, if_pos rfl, h1', if_neg (by decide)]
    rw [e] at goal
    simp only [h1', zfe, if_false, zbs, qw x hr.1 hr.2, vF]
    by_cases h2 : ((x (wrB z).1.toNat).Ki == 2) = true
    ·simp only [h2, if_true, e]
     exact goal
    ·simp only [h2, zfe, if_false]
     have hz0 : x (wrB z).1.toNat = vI := by
      rcases hxr with h | h | h
      ·exact h
      ·rw [h.1] at h1'; cases h1'
      ·rw [h.1] at h2; exact absurd rfl h2
     have : jY 8 x = jY 8 (zW x (wrB z).1.toNat vI) := zhd (fun r _ => by
      unfold zW; split
      ·rename_i h; rw [h, hz0]
      ·rfl)
     rw [this, e]
     exact goal
  ·have hw' : (wrB z).2 = false := by simpa using hw
   have e : zgc x z = x := by unfold zgc; rw [hw']; rfl
   rw [e] at goal
   simp only [hw', zfe, if_false, zbs]
   rw [e]
   exact goal
theorem znv {n fu : Nat} (hf : 70 <= fu) {m : zi} (hg : zen m.Co) {p : Nat} {x : Nat -> za} (hx : ∀ r, r < 8 -> WT n (x r)) : ∀ (c k : Nat), k + c = m.Co.length ->
  zQ (jP fu m p) (fun (s : List za) => s) c k (jY 8 (zhv m.Co p x k)) = some (jY 8 (zhv m.Co p x m.Co.length)) := by
 intro c
 induction c with
 | zero =>
  intro k hk
  have : k = m.Co.length := by omega
  subst this
  rfl
 | succ c ih =>
  intro k hk
  have hck : m.Co[k]? = some (m.Co[k]'(by omega)) := zeg (by omega)
  have n64 := hg.n64
  show jP fu m p k (zQ (jP fu m p) (fun (s : List za) => s) c (k + 1)) _ = _
  have goal := ih (k + 1) (by omega)
  generalize zQ (jP fu m p) (fun (s : List za) => s) c (k + 1) = again at goal |-
  rw [zia hck] at goal
  unfold jP
  rw [zdL (by omega : k < m.Co.length)]
  simp only [zbs]
  by_cases h20 : (m.Co[k]'(by omega)).Op = 20
  ·have hlo := hg.fine.loop hck h20
   have e1 : ((m.Co[k]'(by omega)).Op != 20) = false := by simpa using h20
   have e2 : ((m.Co[k]'(by omega)).Op == 20) = true := by simpa using h20
   rw [e2] at goal
   simp only [e1, zfe, if_false, zbs]
   rw [zI (by omega) (by omega)]
   by_cases he : (k : Int) - (m.Co[k]'(by omega)).D = (p : Int)
   ·have e3 : ((k : Int) - (m.Co[k]'(by omega)).D != (p : Int)) = false := by simpa using he
    have e4 : ((k : Int) - (m.Co[k]'(by omega)).D == (p : Int)) = true := by simpa using he
    rw [e4] at goal
    simp only [Bool.and_self, if_true] at goal
    simp only [e3, zfe, if_false]
    rw [znu (n := n) (by omega) n64 (k + 1 - p) p fu _ (by omega) (by omega) (zkX hx k)]
    exact goal
   ·have e3 : ((k : Int) - (m.Co[k]'(by omega)).D != (p : Int)) = true := by simpa using he
    have e4 : ((k : Int) - (m.Co[k]'(by omega)).D == (p : Int)) = false := by simpa using he
    rw [e4] at goal
    simp only [Bool.and_false, zfe, if_false] at goal
    simp only [e3, if_true]
    exact goal
  ·have e1 : ((m.Co[k]'(by omega)).Op != 20) = true := by simpa using h20
   have e2 : ((m.Co[k]'(by omega)).Op == 20) = false := by simpa using h20
   rw [e2] at goal
   simp only [Bool.false_and, zfe, if_false] at goal
   simp only [e1, if_true, zbs]
   exact goal
end Go.Proofs.YtgmmfjpmahcocaaGreatDoor
