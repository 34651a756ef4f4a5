/- Texts KWidR, KJoinR, KComeR of this proof. -/
import Derived.Test.YtgmmfjpmahcocaaGreatDoorKSpanR
import Derived.Test.YtgmmfjpmahcocaaGreatDoorKSound2
set_option linter.unusedVariables false
set_option linter.unusedSimpArgs false
namespace Go.Proofs.YtgmmfjpmahcocaaGreatDoor
open Go.Sx
theorem forN_foldl {σ ρ α : Type} {body : Nat -> (σ -> Option ρ) -> σ -> Option ρ} {out : σ -> ρ} (xs : List α) (f : σ -> α -> σ) (I : σ -> Prop) (h : ∀ i again s x, xs[i]? = some x -> I s -> body i again s = again (f s x) /\ I (f s x)) :
  ∀ (n i : Nat) (s : σ), i + n = xs.length -> I s -> forN body out n i s = some (out ((xs.drop i).foldl f s)) := by
 intro n
 induction n with
 | zero =>
  intro i s hi hI
  rw [List.drop_of_length_le (by omega)]; rfl
 | succ n ih =>
  intro i s hi hI
  have hx : xs[i]? = some xs[i] := List.getElem?_eq_getElem (by omega)
  show body i (forN body out n (i + 1)) s = _
  obtain ⟨h1, h2⟩ := h i (forN body out n (i + 1)) s _ hx hI
  rw [h1, ih (i + 1) _ (by omega) h2, List.drop_eq_getElem_cons (by omega : i < xs.length)]
  rfl
def fullT : api_Type := ⟨1, ⟨0, 18446744073709551615⟩, 0⟩
def wid1 (x : Nat -> api_Type) (i : api_Inst) : Nat -> api_Type := if (wrB i).2 then aset x (wrB i).1.toNat (if (x (wrB i).1.toNat).Kind == 1 then fullT else zeroT) else x
theorem wr_rng {i : api_Inst} (h : (wrB i).2 = true) : 0 <= (wrB i).1 /\ (wrB i).1 < 8 := by
 by_cases hr : rightB i = true
 ·obtain ⟨r, e, hq⟩ := writes_ok hr
  rw [wr_ops] at e
  obtain rfl := Option.some.inj e
  exact hq h
 ·have : rightB i = false := by simpa using hr
  unfold wrB at h
  rw [this] at h
  cases h
theorem WT.full {n : Nat} : WT n fullT := .inr (.inl ⟨rfl, SW.full, rfl⟩)
theorem wid1_wt {n : Nat} {x : Nat -> api_Type} (hx : ∀ r, r < 8 -> WT n (x r)) (i : api_Inst) : ∀ r, r < 8 -> WT n (wid1 x i r) := by
 unfold wid1
 split
 ·refine aset_wt hx ?_
  split
  ·exact WT.full
  ·exact WT.zero
 ·exact hx
def widT (code : List api_Inst) (p : Nat) (x : Nat -> api_Type) : Nat -> (Nat -> api_Type)
 | 0 => x
 | k + 1 => match code[k]? with
  | some i => if i.Op == 20 && ((k : Int) - i.D == (p : Int)) then ((code.take (k + 1)).drop p).foldl wid1 (widT code p x k) else widT code p x k
  | none => widT code p x k
theorem foldl_wt {n : Nat} : ∀ (l : List api_Inst) {x : Nat -> api_Type}, (∀ r, r < 8 -> WT n (x r)) -> ∀ r, r < 8 -> WT n (l.foldl wid1 x r)
 | [], _, h => h
 | i :: l, _, h => foldl_wt l (wid1_wt h i)
theorem widT_some {code : List api_Inst} {p k : Nat} {x : Nat -> api_Type} {i : api_Inst} (h : code[k]? = some i) :
  widT code p x (k + 1) = if i.Op == 20 && ((k : Int) - i.D == (p : Int)) then ((code.take (k + 1)).drop p).foldl wid1 (widT code p x k) else widT code p x k := by rw [widT, h]
theorem widT_wt {n : Nat} {code : List api_Inst} {p : Nat} {x : Nat -> api_Type} (hx : ∀ r, r < 8 -> WT n (x r)) : ∀ k r, r < 8 -> WT n (widT code p x k r) := by
 intro k
 induction k with
 | zero => exact hx
 | succ k ih =>
  cases h : code[k]? with
  | none =>
   have : widT code p x (k + 1) = widT code p x k := by rw [widT, h]
   rw [this]; exact ih
  | some i =>
   rw [widT_some h]
   by_cases hc : (i.Op == 20 && ((k : Int) - i.D == (p : Int))) = true
   ·rw [if_pos hc]; exact foldl_wt _ ih
   ·rw [if_neg hc]; exact ih
theorem wid_l2 {code : List api_Inst} {p : Nat} (ys : List api_Inst) {A : List (Nat -> api_Type)} {x : Nat -> api_Type} (hx : A[p]? = some x) :
  forN (judge_judge_widen_l2 p ys) (fun (s : List (Nat -> api_Type)) => s) ys.length 0 A = some (A.set p (ys.foldl wid1 x)) := by
 have hp : p < A.length := (List.getElem?_eq_some_iff.1 hx).1
 have := forN_foldl (body := judge_judge_widen_l2 p ys) (out := fun (s : List (Nat -> api_Type)) => s) ys (fun s i => match s[p]? with | some y => s.set p (wid1 y i) | none => s) (fun s => s.length = A.length) (fun i again s z hz hI => ?_) ys.length 0 A (by omega) rfl
 ·rw [this]
  congr 1
  rw [List.drop_zero]
  clear this
  induction ys generalizing A x with
  | nil =>
   show A = A.set p x
   rw [<- (List.getElem?_eq_some_iff.1 hx).2, List.set_getElem_self]
  | cons y ys ih =>
   rw [List.foldl_cons, List.foldl_cons, hx]
   show ys.foldl _ (A.set p (wid1 x y)) = _
   have hl : p < (A.set p (wid1 x y)).length := by rw [List.length_set]; exact hp
   rw [ih (A := A.set p (wid1 x y)) (x := wid1 x y) (List.getElem?_set_self hp) hl, List.set_set]
 ·have hl : p < s.length := by omega
  have hsp : s[p]? = some s[p] := List.getElem?_eq_getElem hl
  refine ⟨?_, by rw [hsp]; exact (List.length_set ..).trans hI⟩
  unfold judge_judge_widen_l2
  have hi : i < ys.length := (List.getElem?_eq_some_iff.1 hz).1
  rw [idxN hi, (List.getElem?_eq_some_iff.1 hz).2]
  simp only [Option.bind_some, wr_ops, hsp]
  by_cases hw : (wrB z).2 = true
  ·have hr := wr_rng hw
   have e : idx s (p : Int) = some s[p] := idxN hl
   simp only [hw, Bool.not_true, Bool.false_eq_true, if_false, e, Option.bind_some, ain8 hr.1 hr.2, full_eq, number_eq, Int.toNat_natCast, wid1, if_true]
   split <;> rfl
  ·have hw' : (wrB z).2 = false := by simpa using hw
   simp only [hw', Bool.not_false, if_true, wid1, Bool.false_eq_true, if_false]
   rw [List.set_getElem_self]
theorem widen_eq {m : api_Module} {j : judge_judge} (h : JI m j) (hg : Good m.Code) {p : Nat} (hp : p < m.Code.length) {x : Nat -> api_Type} (hx : j.came[p]? = some x) :
  judge_judge_widen j p = some ⟨j.Module, j.came.set p (widT m.Code p x m.Code.length), j.any, j.loops⟩ := by
 have hpc : p < j.came.length := (List.getElem?_eq_some_iff.1 hx).1
 unfold judge_judge_widen
 have := forN_foldl (body := judge_judge_widen_l1 j p) (out := fun (s : List (Nat -> api_Type)) => (judge_judge.mk j.Module s j.any j.loops)) j.loops
  (fun s l => if l.Head == (p : Int) then (match s[p]? with | some y => s.set p (((m.Code.take (l.At + 1).toNat).drop p).foldl wid1 y) | none => s) else s) (fun s => s.length = j.came.length) (fun i again s l hl hI => ?_) j.loops.length 0 j.came (by omega) rfl
 ·rw [this, Option.bind_some, List.drop_zero]
  congr 2
  rw [h.lps]
  clear this
  have : ∀ k, k <= m.Code.length -> (lps m.Code k).foldl (fun s l => if l.Head == (p : Int) then (match s[p]? with | some y => s.set p (((m.Code.take (l.At + 1).toNat).drop p).foldl wid1 y) | none => s) else s) j.came = j.came.set p (widT m.Code p x k) := by
   intro k
   induction k with
   | zero =>
    intro _
    show j.came = j.came.set p x
    rw [<- (List.getElem?_eq_some_iff.1 hx).2, List.set_getElem_self]
   | succ k ih =>
    intro hk
    have ih := ih (by omega)
    have hck : m.Code[k]? = some m.Code[k] := List.getElem?_eq_getElem (by omega)
    unfold lps widT
    rw [hck]
    simp only
    by_cases h20 : (m.Code[k].Op == 20) = true
    ·simp only [h20, if_true, Bool.true_and]
     rw [List.foldl_append, ih, List.foldl_cons, List.foldl_nil]
     have hh : (loopAt m.Code[k] k).Head = (k : Int) - m.Code[k].D := rfl
     have ha : (loopAt m.Code[k] k).At = (k : Int) := rfl
     rw [hh, ha]
     by_cases he : ((k : Int) - m.Code[k].D == (p : Int)) = true
     ·simp only [he, if_true]
      rw [List.getElem?_set_self hpc]
      have : ((k : Int) + 1).toNat = k + 1 := by omega
      simp only [this, List.set_set]
     ·simp only [he, Bool.false_eq_true, if_false]
    ·simp only [h20, Bool.false_eq_true, if_false, Bool.false_and]
     exact ih
  exact this _ (Nat.le_refl _)
 ·have hlm : l ∈ lps m.Code m.Code.length := by rw [<- h.lps]; exact List.mem_of_getElem? hl
  obtain ⟨q, iq, hq, hcq, h20, rfl⟩ := mem_lps.1 hlm
  have hi : i < j.loops.length := (List.getElem?_eq_some_iff.1 hl).1
  have hlo := hg.fine.loop hcq h20
  have hlen : (if ((loopAt iq q).Head == (p : Int)) = true then (match s[p]? with | some y => s.set p (((m.Code.take ((loopAt iq q).At + 1).toNat).drop p).foldl wid1 y) | none => s) else s).length = j.came.length := by
   split
   ·split
    ·rw [List.length_set]; exact hI
    ·exact hI
   ·exact hI
  refine ⟨?_, hlen⟩
  unfold judge_judge_widen_l1
  rw [idxN hi, (List.getElem?_eq_some_iff.1 hl).2]
  simp only [Option.bind_some, h.mod]
  by_cases he : (loopAt iq q).Head = (p : Int)
  ·have e1 : ((loopAt iq q).Head != (p : Int)) = false := by simpa using he
   have e2 : ((loopAt iq q).Head == (p : Int)) = true := by simpa using he
   simp only [e1, e2, Bool.false_eq_true, if_false, if_true]
   have hAt : (loopAt iq q).At = (q : Int) := rfl
   have hHd : (loopAt iq q).Head = (q : Int) - iq.D := rfl
   have n64 := hg.n64
   rw [he, hAt, w64_eq (by omega) (by omega), show (q : Int) + 1 = ((q + 1 : Nat) : Int) by push_cast; rfl, cut_ok (by omega) (by omega)]
   have hl : p < s.length := by omega
   have hsp : s[p]? = some s[p] := List.getElem?_eq_getElem hl
   simp only [Option.bind_some, Int.toNat_natCast]
   rw [wid_l2 (code := m.Code) _ hsp, hsp]
   rfl
  ·have e1 : ((loopAt iq q).Head != (p : Int)) = true := by simpa using he
   have e2 : ((loopAt iq q).Head == (p : Int)) = false := by simpa using he
   simp only [e1, e2, Bool.false_eq_true, if_false, if_true]
theorem ref_l4 {n : Nat} {m : api_Module} {l : Nat} (hl : l < m.Code.length) (hn : m.Code.length <= 64) : ∀ (c q f : Nat) (x : Nat -> api_Type), q + c = l + 1 -> c < f -> (∀ r, r < 8 -> WT n (x r)) ->
  loop (tappetref09_at_l4 m l) f (arrL 8 x, (q : Int)) = some (arrL 8 (((m.Code.take (l + 1)).drop q).foldl wid1 x)) := by
 intro c
 induction c with
 | zero =>
  intro q f x hq hf hx
  obtain ⟨f, rfl⟩ : ∃ k, f = k + 1 := ⟨f - 1, by omega⟩
  rw [loop, tappetref09_at_l4, if_neg (by simp; omega), List.drop_of_length_le (by rw [List.length_take]; omega)]
  rfl
 | succ c ih =>
  intro q f x hq hf hx
  obtain ⟨f, rfl⟩ : ∃ k, f = k + 1 := ⟨f - 1, by omega⟩
  have hql : q < (m.Code.take (l + 1)).length := by rw [List.length_take]; omega
  rw [List.drop_eq_getElem_cons hql, List.foldl_cons, List.getElem_take]
  have hcode : idx m.Code (q : Int) = some (m.Code[q]'(by omega)) := idxN (by omega)
  generalize hz : m.Code[q]'(by omega) = z at hcode
  rw [loop, tappetref09_at_l4, if_pos (by simp; omega)]
  simp only [hcode, Option.bind_some, wr_ref]
  have hnext : w64 ((q : Int) + 1) = ((q + 1 : Nat) : Int) := by rw [w64_eq (by omega) (by omega)]; push_cast; rfl
  have goal := ih (q + 1) f (wid1 x z) (by omega) (by omega) (wid1_wt hx z)
  rw [hnext]
  by_cases hw : (wrB z).2 = true
  ·have hr := wr_rng hw
   have hxr := hx (wrB z).1.toNat (by omega)
   simp only [hw, if_true, arrL_get x hr.1 hr.2, Option.bind_some, fullref, arrL_set]
   by_cases h1 : ((x (wrB z).1.toNat).Kind == 1) = true
   ·simp only [h1, if_true, Option.bind_some]
    have e : wid1 x z = aset x (wrB z).1.toNat fullT := by unfold wid1; rw [hw, if_pos rfl, h1, if_pos rfl]
    rw [e] at goal
    rw [arrL_get _ hr.1 hr.2]
    have : (aset x (wrB z).1.toNat ⟨1, ⟨0, 18446744073709551615⟩, 0⟩ (wrB z).1.toNat) = fullT := by simp [aset, fullT]
    have f2 : (fullT.Kind == 2) = false := rfl
    simp only [Option.bind_some, this, f2, Bool.false_eq_true, if_false, e]
    exact goal
   ·have h1' : ((x (wrB z).1.toNat).Kind == 1) = false := by simpa using h1
    have e : wid1 x z = aset x (wrB z).1.toNat zeroT := by unfold wid1; rw [hw, if_pos rfl, h1', if_neg (by decide)]
    rw [e] at goal
    simp only [h1', Bool.false_eq_true, if_false, Option.bind_some, arrL_get x hr.1 hr.2, arrL_set]
    by_cases h2 : ((x (wrB z).1.toNat).Kind == 2) = true
    ·simp only [h2, if_true, e]
     exact goal
    ·simp only [h2, Bool.false_eq_true, if_false]
     have hz0 : x (wrB z).1.toNat = zeroT := by
      rcases hxr with h | h | h
      ·exact h
      ·rw [h.1] at h1'; cases h1'
      ·rw [h.1] at h2; exact absurd rfl h2
     have : arrL 8 x = arrL 8 (aset x (wrB z).1.toNat zeroT) := arrL_ext (fun r _ => by
      unfold aset; split
      ·rename_i h; rw [h, hz0]
      ·rfl)
     rw [this, e]
     exact goal
  ·have hw' : (wrB z).2 = false := by simpa using hw
   have e : wid1 x z = x := by unfold wid1; rw [hw']; rfl
   rw [e] at goal
   simp only [hw', Bool.false_eq_true, if_false, Option.bind_some]
   rw [e]
   exact goal
theorem ref_l3 {n fu : Nat} (hf : 70 <= fu) {m : api_Module} (hg : Good m.Code) {p : Nat} {x : Nat -> api_Type} (hx : ∀ r, r < 8 -> WT n (x r)) : ∀ (c k : Nat), k + c = m.Code.length ->
  forN (tappetref09_at_l3 fu m p) (fun (s : List api_Type) => s) c k (arrL 8 (widT m.Code p x k)) = some (arrL 8 (widT m.Code p x m.Code.length)) := by
 intro c
 induction c with
 | zero =>
  intro k hk
  have : k = m.Code.length := by omega
  subst this
  rfl
 | succ c ih =>
  intro k hk
  have hck : m.Code[k]? = some (m.Code[k]'(by omega)) := List.getElem?_eq_getElem (by omega)
  have n64 := hg.n64
  show tappetref09_at_l3 fu m p k (forN (tappetref09_at_l3 fu m p) (fun (s : List api_Type) => s) c (k + 1)) _ = _
  have goal := ih (k + 1) (by omega)
  generalize forN (tappetref09_at_l3 fu m p) (fun (s : List api_Type) => s) c (k + 1) = again at goal |-
  rw [widT_some hck] at goal
  unfold tappetref09_at_l3
  rw [idxN (by omega : k < m.Code.length)]
  simp only [Option.bind_some]
  by_cases h20 : (m.Code[k]'(by omega)).Op = 20
  ·have hlo := hg.fine.loop hck h20
   have e1 : ((m.Code[k]'(by omega)).Op != 20) = false := by simpa using h20
   have e2 : ((m.Code[k]'(by omega)).Op == 20) = true := by simpa using h20
   rw [e2] at goal
   simp only [e1, Bool.false_eq_true, if_false, Option.bind_some]
   rw [w64_eq (by omega) (by omega)]
   by_cases he : (k : Int) - (m.Code[k]'(by omega)).D = (p : Int)
   ·have e3 : ((k : Int) - (m.Code[k]'(by omega)).D != (p : Int)) = false := by simpa using he
    have e4 : ((k : Int) - (m.Code[k]'(by omega)).D == (p : Int)) = true := by simpa using he
    rw [e4] at goal
    simp only [Bool.and_self, if_true] at goal
    simp only [e3, Bool.false_eq_true, if_false]
    rw [ref_l4 (n := n) (by omega) n64 (k + 1 - p) p fu _ (by omega) (by omega) (widT_wt hx k)]
    exact goal
   ·have e3 : ((k : Int) - (m.Code[k]'(by omega)).D != (p : Int)) = true := by simpa using he
    have e4 : ((k : Int) - (m.Code[k]'(by omega)).D == (p : Int)) = false := by simpa using he
    rw [e4] at goal
    simp only [Bool.and_false, Bool.false_eq_true, if_false] at goal
    simp only [e3, if_true]
    exact goal
  ·have e1 : ((m.Code[k]'(by omega)).Op != 20) = true := by simpa using h20
   have e2 : ((m.Code[k]'(by omega)).Op == 20) = false := by simpa using h20
   rw [e2] at goal
   simp only [Bool.false_and, Bool.false_eq_true, if_false] at goal
   simp only [e1, if_true, Option.bind_some]
   exact goal
end Go.Proofs.YtgmmfjpmahcocaaGreatDoor
set_option linter.unusedVariables false
set_option linter.unusedSimpArgs false
namespace Go.Proofs.YtgmmfjpmahcocaaGreatDoor
open Go.Sx
def jS (a b : api_Span) : api_Span := ⟨if b.Lo < a.Lo then b.Lo else a.Lo, if b.Hi > a.Hi then b.Hi else a.Hi⟩
theorem join_loop (L : List api_Span) (hw : ∀ s ∈ L, SW s) : ∀ (rest : List api_Span) (i : Nat) (s : api_Span), L.drop i = rest -> 0 < i -> i + rest.length = L.length ->
  forN (tappetref06_Join_l1 L) (fun (s : api_Span) => (.inl s)) rest.length i s = some (.inl (rest.foldl jS s)) := by
 intro rest
 induction rest with
 | nil => intro i s _ _ _; rfl
 | cons x rest ih =>
  intro i s hd hi hl
  simp only [List.length_cons] at hl
  have hx : L[i]? = some x := by
   have := congrArg (fun l => l[0]?) hd
   simpa using this
  have hd2 : L.drop (i + 1) = rest := by
   have := congrArg (fun l => l.drop 1) hd
   simpa [List.drop_drop, Nat.add_comm] using this
  have hxs := hw x (List.mem_of_getElem? hx)
  show tappetref06_Join_l1 L i (forN (tappetref06_Join_l1 L) (fun (s : api_Span) => (.inl s)) rest.length (i + 1)) s = _
  have ihx := ih (i + 1) (jS s x) hd2 (by omega) (by omega)
  generalize forN (tappetref06_Join_l1 L) (fun (s : api_Span) => (.inl s)) rest.length (i + 1) = again at ihx |-
  unfold tappetref06_Join_l1
  have e : idx L (i : Int) = some x := by unfold Go.Sx.idx; rw [if_pos (by omega)]; exact hx
  have e0 : ((i : Int) == 0) = false := by simp; omega
  rw [e]
  simp only [Option.bind_some, refright hxs, Bool.not_true, Bool.false_eq_true, if_false, e0]
  rw [List.foldl_cons, <- ihx]
  unfold jS
  by_cases h1 : x.Lo < s.Lo
  ·by_cases h2 : x.Hi > s.Hi
   ·simp only [h1, h2, decide_true, if_true, Option.bind_some]
   ·simp only [h1, h2, decide_true, decide_false, if_true, if_false, Option.bind_some, Bool.false_eq_true]
  ·by_cases h2 : x.Hi > s.Hi
   ·simp only [h1, h2, decide_true, decide_false, if_true, if_false, Option.bind_some, Bool.false_eq_true]
   ·simp only [h1, h2, decide_false, if_false, Option.bind_some, Bool.false_eq_true]
theorem refjoin {x0 : api_Span} {l : List api_Span} (hw : ∀ s ∈ x0 :: l, SW s) : tappetref06_Join (x0 :: l) = some (l.foldl jS x0, true) := by
 have hx := hw x0 List.mem_cons_self
 unfold tappetref06_Join
 show (tappetref06_Join_l1 (x0 :: l) 0 (forN (tappetref06_Join_l1 (x0 :: l)) (fun (s : api_Span) => (.inl s)) l.length 1) ⟨0, 0⟩).bind _ = _
 have ihx := join_loop (x0 :: l) hw l 1 x0 rfl (by omega) (by simp; omega)
 generalize forN (tappetref06_Join_l1 (x0 :: l)) (fun (s : api_Span) => (.inl s)) l.length 1 = again at ihx |-
 unfold tappetref06_Join_l1
 have e : idx (x0 :: l) ((0 : Nat) : Int) = some x0 := rfl
 have e0 : (((0 : Nat) : Int) == 0) = true := rfl
 rw [e]
 simp only [Option.bind_some, refright hx, Bool.not_true, Bool.false_eq_true, if_false, e0, if_true]
 show (again x0).bind _ = _
 rw [ihx]
 show some (_, decide _) = _
 rw [decide_eq_true (by simp only [List.length_cons]; omega)]
def okT (x0 x : api_Type) : Prop := x.Kind = x0.Kind /\ x.Map = x0.Map
instance (x0 x : api_Type) : Decidable (okT x0 x) := inferInstanceAs (Decidable (_ /\ _))
theorem joinT_ok {n : Nat} {a b : api_Type} (ha : WT n a) (hb : WT n b) (h : okT a b) : joinT a b = if a.Kind == 1 then ⟨1, jS a.Span b.Span, 0⟩ else a := by
 obtain ⟨a0, a1, a2⟩ := ha.span
 obtain ⟨b0, b1, b2⟩ := hb.span
 unfold joinT jS imin imax
 have e1 : (a.Kind != b.Kind) = false := by simp [h.1]
 have e2 : (a.Map != b.Map) = false := by simp [h.2]
 rw [e1, e2]
 simp only [Bool.or_self, Bool.false_eq_true, if_false]
 split
 ·congr 2 <;> (repeat' split) <;> omega
 ·rfl
theorem joinT_bad {a b : api_Type} (h : ¬ okT a b) : joinT a b = zeroT := by
 unfold joinT
 rw [if_pos]
 rw [Bool.or_eq_true]
 by_cases e : a.Kind = b.Kind
 ·right; simp only [bne_iff_ne, ne_eq]; intro e2; exact h ⟨e.symm, e2.symm⟩
 ·left; simp only [bne_iff_ne, ne_eq]; exact e
theorem joinT_zero {n : Nat} {b : api_Type} (hb : WT n b) : joinT zeroT b = zeroT := by
 by_cases h : okT zeroT b
 ·rcases hb with rfl | hb | hb
  ·rfl
  ·have := h.1; rw [hb.1] at this; cases this
  ·have := h.1; rw [hb.1] at this; cases this
 ·exact joinT_bad h
theorem fold_zero {n : Nat} : ∀ (l : List api_Type), (∀ x ∈ l, WT n x) -> l.foldl joinT zeroT = zeroT
 | [], _ => rfl
 | x :: l, h => by
  rw [List.foldl_cons, joinT_zero (h x List.mem_cons_self)]
  exact fold_zero l (fun y hy => h y (List.mem_cons_of_mem _ hy))
theorem fold_ok {n : Nat} : ∀ (l : List api_Type) {a : api_Type}, WT n a -> (∀ x ∈ l, WT n x) -> (∀ x ∈ l, okT a x) -> l.foldl joinT a = if a.Kind == 1 then ⟨1, (l.map (·.Span)).foldl jS a.Span, 0⟩ else a
 | [], a, ha, _, _ => by
  by_cases h : (a.Kind == 1) = true
  ·rw [if_pos h]
   have hk : a.Kind = 1 := by simpa using h
   rcases ha with rfl | ha | ha
   ·cases hk
   ·obtain ⟨k, s, q⟩ := a
    simp only at hk ha |-
    obtain ⟨_, _, rfl⟩ := ha
    subst hk; rfl
   ·rw [hk] at ha; exact absurd ha.1 (by decide)
  ·rw [if_neg h]; rfl
 | x :: l, a, ha, hw, hk => by
  have hx := hw x List.mem_cons_self
  have h1 := joinT_ok ha hx (hk x List.mem_cons_self)
  rw [List.foldl_cons]
  have hj : WT n (joinT a x) := ha.join hx
  by_cases h : (a.Kind == 1) = true
  ·have hk1 : a.Kind = 1 := by simpa using h
   rw [if_pos h] at h1 |-
   have hm : a.Map = 0 := by
    rcases ha with rfl | ha | ha
    ·rfl
    ·exact ha.2.2
    ·rw [hk1] at ha; exact absurd ha.1 (by decide)
   rw [fold_ok l hj (fun y hy => hw y (List.mem_cons_of_mem _ hy)) (fun y hy => by
    have := hk y (List.mem_cons_of_mem _ hy)
    rw [h1]
    exact ⟨by rw [this.1, hk1], by rw [this.2, hm]⟩), h1]
   rfl
  ·rw [if_neg h] at h1 |-
   rw [h1, fold_ok l ha (fun y hy => hw y (List.mem_cons_of_mem _ hy)) (fun y hy => hk y (List.mem_cons_of_mem _ hy)), if_neg h]
theorem fold_bad {n : Nat} : ∀ (l : List api_Type) {a : api_Type}, WT n a -> (∀ x ∈ l, WT n x) -> (∃ x ∈ l, ¬ okT a x) -> l.foldl joinT a = zeroT
 | [], _, _, _, h => by obtain ⟨x, hx, _⟩ := h; cases hx
 | x :: l, a, ha, hw, h => by
  have hx := hw x List.mem_cons_self
  have hl := fun y hy => hw y (List.mem_cons_of_mem _ hy)
  rw [List.foldl_cons]
  by_cases hk : okT a x
  ·have h1 := joinT_ok ha hx hk
   have hsame : (joinT a x).Kind = a.Kind /\ (joinT a x).Map = a.Map := by
    rw [h1]
    split
    ·rename_i h
     have hk1 : a.Kind = 1 := by simpa using h
     refine ⟨hk1.symm, ?_⟩
     rcases ha with rfl | ha | ha
     ·rfl
     ·exact ha.2.2.symm
     ·rw [hk1] at ha; exact absurd ha.1 (by decide)
    ·exact ⟨rfl, rfl⟩
   obtain ⟨y, hy, hb⟩ := h
   rcases List.mem_cons.1 hy with rfl | hy
   ·exact absurd hk hb
   ·exact fold_bad l (ha.join hx) hl ⟨y, hy, fun e => hb ⟨by rw [e.1, hsame.1], by rw [e.2, hsame.2]⟩⟩
  ·rw [joinT_bad hk]
   exact fold_zero l hl
theorem joined_loop {n : Nat} (x0 : api_Type) (L : List api_Type) (h0 : L[0]? = some x0) (hw : ∀ x ∈ L, WT n x) (hlen : L.length <= 1000) : ∀ (rest : List api_Type) (i : Nat) (ss : List api_Span), L.drop i = rest -> i + rest.length = L.length -> ss.length = i ->
  forN (tappetref09_joined_l1 L) (fun (s : List api_Span) => (.inl s)) rest.length i ss = some (if ∀ x ∈ rest, okT x0 x then .inl (ss ++ rest.map (·.Span)) else .inr zeroT) := by
 intro rest
 induction rest with
 | nil => intro i ss _ _ _; simp [forN]
 | cons x rest ih =>
  intro i ss hd hl hs
  simp only [List.length_cons] at hl
  have hx : L[i]? = some x := by
   have := congrArg (fun l => l[0]?) hd
   simpa using this
  have hd2 : L.drop (i + 1) = rest := by
   have := congrArg (fun l => l.drop 1) hd
   simpa [List.drop_drop, Nat.add_comm] using this
  have wx := hw x (List.mem_of_getElem? hx)
  have w0 := hw x0 (List.mem_of_getElem? h0)
  show tappetref09_joined_l1 L i (forN (tappetref09_joined_l1 L) (fun (s : List api_Span) => (.inl s)) rest.length (i + 1)) ss = _
  have ihx := ih (i + 1) (ss ++ [x.Span]) hd2 (by omega) (by simp; omega)
  generalize forN (tappetref09_joined_l1 L) (fun (s : List api_Span) => (.inl s)) rest.length (i + 1) = again at ihx |-
  unfold tappetref09_joined_l1
  have e : idx L (i : Int) = some x := by unfold Go.Sx.idx; rw [if_pos (by omega)]; exact hx
  have e0 : idx L 0 = some x0 := by unfold Go.Sx.idx; rw [if_pos (by omega)]; exact h0
  rw [e, e0]
  simp only [Option.bind_some]
  have hq : (if (x.Kind != x0.Kind) = true then some true else if (x.Kind == 2) = true then some (x.Map != x0.Map) else some false : Option Bool) = some (!decide (okT x0 x)) := by
   by_cases h1 : x.Kind = x0.Kind
   ·have b1 : (x.Kind != x0.Kind) = false := by simpa using h1
    rw [b1, if_neg (by decide)]
    by_cases h2 : x.Kind = 2
    ·have b2 : (x.Kind == 2) = true := by simpa using h2
     rw [b2, if_pos rfl]
     congr 1
     by_cases h3 : x.Map = x0.Map
     ·have : okT x0 x := ⟨h1, h3⟩
      simp [h3, this]
     ·have : ¬ okT x0 x := fun h => h3 h.2
      simp [h3, this]
    ·have b2 : (x.Kind == 2) = false := by simpa using h2
     rw [b2, if_neg (by decide)]
     have : okT x0 x := by
      refine ⟨h1, ?_⟩
      have f (y : api_Type) (hy : WT n y) (hk : y.Kind ≠ 2) : y.Map = 0 := by
       rcases hy with rfl | hy | hy
       ·rfl
       ·exact hy.2.2
       ·exact absurd hy.1 hk
      rw [f x wx h2, f x0 w0 (by rw [<- h1]; exact h2)]
     simp [this]
   ·have b1 : (x.Kind != x0.Kind) = true := by simpa using h1
    have : ¬ okT x0 x := fun h => h1 h.1
    rw [b1, if_pos rfl]; simp [this]
  rw [hq]
  simp only [Option.bind_some]
  by_cases hk : okT x0 x
  ·have hroom : room (ss.length + [x.Span].length) 16 = some () := by unfold Go.Sx.room; rw [if_pos]; simp; omega
   simp only [hk, decide_true, Bool.not_true, Bool.false_eq_true, if_false, hroom, Option.bind_some]
   rw [ihx]
   simp [hk]
  ·simp only [hk, decide_false, Bool.not_false, if_true]
   rw [if_neg]
   ·rfl
   ·intro h; exact hk (h x List.mem_cons_self)
theorem refjoined {n : Nat} {x0 : api_Type} {l : List api_Type} (hw : ∀ x ∈ x0 :: l, WT n x) (hlen : l.length <= 900) : tappetref09_joined (x0 :: l) = some (l.foldl joinT x0) := by
 have w0 := hw x0 List.mem_cons_self
 have wl := fun y hy => hw y (List.mem_cons_of_mem _ hy)
 unfold tappetref09_joined
 have := joined_loop x0 (x0 :: l) rfl hw (by simp; omega) (x0 :: l) 0 [] rfl (by simp) rfl
 rw [this, Option.bind_some]
 by_cases h : ∀ x ∈ x0 :: l, okT x0 x
 ·rw [if_pos h]
  have e0 : idx (x0 :: l) 0 = some x0 := rfl
  simp only [e0, Option.bind_some]
  rw [fold_ok l w0 wl (fun y hy => h y (List.mem_cons_of_mem _ hy))]
  split
  ·have : ([] ++ (x0 :: l).map (·.Span)) = x0.Span :: l.map (·.Span) := rfl
   rw [this, refjoin]
   ·rfl
   ·intro s hs
    rcases List.mem_cons.1 hs with rfl | hs
    ·exact w0.span
    ·obtain ⟨y, hy, rfl⟩ := List.mem_map.1 hs
     exact (wl y hy).span
  ·rfl
 ·rw [if_neg h]
  have : ∃ x ∈ l, ¬ okT x0 x := by
   simp only [Classical.not_forall] at h
   obtain ⟨y, hy, hb⟩ := h
   rcases List.mem_cons.1 hy with rfl | hy
   ·exact absurd ⟨rfl, rfl⟩ hb
   ·exact ⟨y, hy, hb⟩
  rw [fold_bad l w0 wl this]
end Go.Proofs.YtgmmfjpmahcocaaGreatDoor
set_option linter.unusedVariables false
set_option linter.unusedSimpArgs false
namespace Go.Proofs.YtgmmfjpmahcocaaGreatDoor
open Go.Sx
abbrev Regs := Nat -> api_Type
structure CameR (m : api_Module) (j : judge_judge) (q : Nat) (cs : List Regs) : Prop where
 any : j.any[q]? = some (!cs.isEmpty)
 wt : ∀ c ∈ cs, ∀ r, r < 8 -> WT m.Maps.length (c r)
 val : ∀ c rest, cs = c :: rest -> ∃ x, j.came[q]? = some x /\ ∀ r, r < 8 -> x r = (rest.map (· r)).foldl joinT (c r)
theorem come_loop {m : api_Module} {j : judge_judge} (h : JI m j) {p : Nat} {x k : Regs} (hx : j.came[p]? = some x) (hk : ∀ r, r < 8 -> WT m.Maps.length (k r)) : ∀ (c r : Nat), r + c = 8 ->
    forN (judge_judge_come_l1 p k) (fun (s : judge_judge) => s) c r ⟨j.Module, j.came.set p (fun q => if q < r then joinT (x q) (k q) else x q), j.any, j.loops⟩ = some ⟨j.Module, j.came.set p (fun q => if q < 8 then joinT (x q) (k q) else x q), j.any, j.loops⟩ := by
  have hp : p < j.came.length := (List.getElem?_eq_some_iff.1 hx).1
  have hxw := h.wt p x hx
  intro c
  induction c with
  | zero => intro r hr; have : r = 8 := by omega
            subst this; rfl
  | succ c ih =>
    intro r hr
    have ihx := ih (r + 1) (by omega)
    show judge_judge_come_l1 p k r (forN (judge_judge_come_l1 p k) (fun (s : judge_judge) => s) c (r + 1)) _ = _
    generalize forN (judge_judge_come_l1 p k) (fun (s : judge_judge) => s) c (r + 1) = again at ihx |-
    unfold judge_judge_come_l1
    have e : idx (j.came.set p (fun q => if q < r then joinT (x q) (k q) else x q)) (p : Int) = some (fun q => if q < r then joinT (x q) (k q) else x q) := by
      unfold Go.Sx.idx; rw [if_pos (by omega)]; exact List.getElem?_set_self hp
    simp only [e, Option.bind_some, ainN (show r < 8 by omega), Nat.lt_irrefl, if_false, joined_eq (hxw r (by omega)).span (hk r (by omega)).span, Int.toNat_natCast, List.set_set]
    rw [<- ihx]
    congr 3
    funext q
    unfold aset
    by_cases h1 : q = r
    · subst h1; rw [if_pos rfl, if_pos (by omega)]
    · rw [if_neg h1]
      show (if q < r then joinT (x q) (k q) else x q) = _
      by_cases h2 : q < r
      · rw [if_pos h2, if_pos (by omega)]
      · rw [if_neg h2, if_neg (by omega)]
theorem come_st {m : api_Module} {j : judge_judge} (h : JI m j) {p : Nat} (hp : p < m.Code.length) {k : Regs} (hk : ∀ r, r < 8 -> WT m.Maps.length (k r)) :
  ∃ j', judge_judge_come j p k = some j' /\ JI m j' /\ (∀ q cs, CameR m j q cs -> CameR m j' q (if q = p then cs ++ [k] else cs)) /\ ∀ q, q ≠ p -> j'.came[q]? = j.came[q]? /\ j'.any[q]? = j.any[q]? := by
 have hpc : p < j.came.length := by rw [h.lenC]; exact hp
 have hpa : p < j.any.length := by rw [h.lenA]; exact hp
 have hx : j.came[p]? = some j.came[p] := List.getElem?_eq_getElem hpc
 have ha : j.any[p]? = some j.any[p] := List.getElem?_eq_getElem hpa
 have e1 : idx j.any (p : Int) = some j.any[p] := idxN hpa
 have e2 : idx j.came (p : Int) = some j.came[p] := idxN hpc
 by_cases hb : j.any[p] = true
 ·have hl := come_loop h hx hk 8 0 rfl
  have h0 : (⟨j.Module, j.came.set p (fun q => if q < 0 then joinT (j.came[p] q) (k q) else j.came[p] q), j.any, j.loops⟩ : judge_judge) = j := by
   have : (fun q => if q < 0 then joinT (j.came[p] q) (k q) else j.came[p] q) = j.came[p] := by funext q; rw [if_neg (by omega)]
   rw [this, List.set_getElem_self]
  rw [h0] at hl
  refine ⟨_, ?_, h.put (p := p) (x := fun q => if q < 8 then joinT (j.came[p] q) (k q) else j.came[p] q) (fun r hr => ?_) j.any h.lenA, ?_, ?_⟩
  ·unfold judge_judge_come
   rw [e1]
   simp only [Option.bind_some, hb, Bool.not_true, Bool.false_eq_true, if_false]
   rw [hl]; rfl
  ·simp only [hr, if_true]
   exact (h.wt p _ hx r hr).join (hk r hr)
  ·intro q cs hc
   by_cases e : q = p
   ·subst e
    rw [if_pos rfl]
    have hne : cs ≠ [] := by
     intro e; subst e
     have := hc.any
     rw [ha, hb] at this
     cases this
    obtain ⟨c, rest, rfl⟩ := List.exists_cons_of_ne_nil hne
    obtain ⟨x, hx', hv⟩ := hc.val c rest rfl
    rw [hx] at hx'
    obtain rfl := Option.some.inj hx'
    refine ⟨?_, ?_, ?_⟩
    ·show j.any[q]? = _
     rw [ha, hb]; rfl
    ·intro c' hc' r hr
     rcases List.mem_append.1 hc' with h1 | h1
     ·exact hc.wt c' h1 r hr
     ·simp only [List.mem_singleton] at h1; subst h1; exact hk r hr
    ·intro c' rest' heq
     simp only [List.cons_append, List.cons.injEq] at heq
     obtain ⟨rfl, rfl⟩ := heq
     refine ⟨_, List.getElem?_set_self hpc, fun r hr => ?_⟩
     simp only [hr, if_true]
     rw [hv r hr, List.map_append, List.foldl_append]
     rfl
   ·rw [if_neg e]
    refine ⟨hc.any, hc.wt, fun c rest heq => ?_⟩
    obtain ⟨x, hx', hv⟩ := hc.val c rest heq
    exact ⟨x, by show (j.came.set p _)[q]? = _; rw [set_ne e]; exact hx', hv⟩
  ·intro q hq
   exact ⟨set_ne hq, rfl⟩
 ·have hb' : j.any[p] = false := by simpa using hb
  refine ⟨_, ?_, h.put (p := p) (x := k) hk (j.any.set p true) (by rw [List.length_set]; exact h.lenA), ?_, ?_⟩
  ·unfold judge_judge_come
   rw [e1]
   simp only [Option.bind_some, hb', Bool.not_false, if_true, e2, Int.toNat_natCast]
  ·intro q cs hc
   by_cases e : q = p
   ·subst e
    rw [if_pos rfl]
    have hnil : cs = [] := by
     have := hc.any
     rw [ha, hb'] at this
     cases cs with
     | nil => rfl
     | cons c r => cases this
    subst hnil
    refine ⟨List.getElem?_set_self hpa, ?_, ?_⟩
    ·intro c' hc' r hr
     simp only [List.nil_append, List.mem_singleton] at hc'
     subst hc'; exact hk r hr
    ·intro c' rest' heq
     simp only [List.nil_append, List.cons.injEq] at heq
     obtain ⟨rfl, rfl⟩ := heq
     exact ⟨_, List.getElem?_set_self hpc, fun r hr => rfl⟩
   ·rw [if_neg e]
    refine ⟨by show (j.any.set p true)[q]? = _; rw [set_ne e]; exact hc.any, hc.wt, fun c rest heq => ?_⟩
    obtain ⟨x, hx', hv⟩ := hc.val c rest heq
    exact ⟨x, by show (j.came.set p _)[q]? = _; rw [set_ne e]; exact hx', hv⟩
  ·intro q hq
   exact ⟨set_ne hq, set_ne hq⟩
def ctr (i : api_Inst) (p q : Nat) (lv : Bool -> Option Regs) : List Regs :=
 (if (goesB i).2.1 && ((p : Int) + (goesB i).1 == (q : Int)) then (lv true).toList else []) ++ (if (goesB i).2.2 && (p + 1 == q) then (lv false).toList else [])
def lvOf (i : api_Inst) (k k' : Regs) (b : Bool) : Option Regs :=
 if 16 <= i.Op /\ i.Op <= 19 then (match span_Refine i.Op (k i.A.toNat).Span (srcT i k).Span b with | some (s, true) => some (aset k i.A.toNat ⟨1, s, 0⟩) | _ => none) else some k'
theorem lv_other {i : api_Inst} {k k' : Regs} (h : ¬ (16 <= i.Op /\ i.Op <= 19)) (b : Bool) : lvOf i k k' b = some k' := if_neg h
theorem ways_st {m : api_Module} {j : judge_judge} (h : JI m j) (hg : Good m.Code) {p : Nat} (hp : p < m.Code.length) {i : api_Inst} (hi : m.Code[p]? = some i) {k k' : Regs} (hk : ∀ r, r < 8 -> WT m.Maps.length (k r)) (hk' : ∀ r, r < 8 -> WT m.Maps.length (k' r))
    (hsame : 15 <= i.Op -> i.Op <= 20 -> k' = k) :
    ∃ j', judge_judge_ways j p k' = some j' /\ JI m j' /\ (∀ q cs, p < q -> CameR m j q cs -> CameR m j' q (cs ++ ctr i p q (lvOf i k k'))) /\ ∀ q, q <= p -> j'.came[q]? = j.came[q]? /\ j'.any[q]? = j.any[q]? := by
  have hr : rightB i = true := hg.fine.right hi
  have ho := right_op hr
  have n64 := hg.n64
  have eidx : idx m.Code (p : Int) = some i := by unfold Go.Sx.idx; rw [if_pos (by omega)]; exact hi
  unfold judge_judge_ways
  rw [h.mod, eidx]
  simp only [Option.bind_some, opsGoes_eq]
  have wp : w64 ((p : Int) + 1) = ((p + 1 : Nat) : Int) := by rw [w64_eq (by omega) (by omega)]; push_cast; rfl
  by_cases hl : (goesB i).2.1 = true
  · rcases goes_D hl with ⟨d0, o1, o2, hon⟩ | ⟨d0, o1, hon⟩
    · have hld := hg.fine.leads hi hl
      obtain ⟨t, ht⟩ : ∃ t : Nat, (p : Int) + (goesB i).1 = (t : Int) := ⟨((p : Int) + (goesB i).1).toNat, by omega⟩
      have hpt : p < t := by omega
      have htl : t < m.Code.length := by omega
      have c1 : (!(goesB i).2.1 || decide ((goesB i).1 < 0)) = false := by rw [hl, decide_eq_false (by omega)]; rfl
      simp only [c1, Bool.false_eq_true, if_false, ht, wp]
      have wt' : w64 (t : Int) = (t : Int) := w64_eq (by omega) (by omega)
      simp only [wt']
      by_cases h15 : i.Op = 15
      · have hon' : (goesB i).2.2 = false := by rw [hon, h15]; rfl
        simp only [hon', Bool.not_false, if_true]
        obtain ⟨j', e, hJ, hc, hs⟩ := come_st h htl hk'
        rw [e]
        refine ⟨j', rfl, hJ, fun q cs hq hcs => ?_, fun q hq => hs q (by omega)⟩
        have := hc q cs hcs
        have hct : ctr i p q (lvOf i k k') = if q = t then [k'] else [] := by
          unfold ctr
          rw [hl, hon', ht]
          simp only [lv_other (show ¬ (16 <= i.Op /\ i.Op <= 19) by omega)]
          by_cases e : q = t
          · subst e; simp
          · have : ((t : Int) == (q : Int)) = false := by simp; omega
            simp [this, e]
        rw [hct]
        by_cases e : q = t
        · rw [if_pos e] at this |-; exact this
        · rw [if_neg e] at this |-; rw [List.append_nil]; exact this
      · have hon' : (goesB i).2.2 = true := by rw [hon]; simpa using h15
        have hsrc := right_src hr (.inr (by omega))
        obtain rfl : k = k' := (hsame (by omega) (by omega)).symm
        have hA := right_A hr
        have hpn : p + 1 < m.Code.length := hg.fine.on hi hon'
        simp only [hon', Bool.not_true, Bool.false_eq_true, if_false, src_eq hsrc, Option.bind_some]
        have hw := srcT_ok hsrc hk
        have way : ∀ (b : Bool) (jj : judge_judge), JI m jj -> ∃ jj', (∀ again : judge_judge -> Option judge_judge, ((if (!b) = true then some (((p + 1 : Nat) : Int)) else some (t : Int) : Option Int).bind fun o665 =>
              ((ain 8 i.A).bind fun i695 => (span_Refine i.Op (k i695).Span (srcT i k).Span b).bind fun r697 => some (r697.1, r697.2)).bind fun o691 =>
              if o691.2 = true then (judge_number o691.1).bind fun r723 => (ain 8 i.A).bind fun i727 => (judge_judge_come jj o665 (aset k i727 r723)).bind fun r735 => again r735 else again jj) = again jj') /\ JI m jj' /\
            (∀ q cs, p < q -> CameR m jj q cs -> CameR m jj' q (cs ++ (if (if b then t else p + 1) = q then (lvOf i k k b).toList else []))) /\ ∀ q, q <= p -> jj'.came[q]? = jj.came[q]? /\ jj'.any[q]? = jj.any[q]? := by
          intro b jj hJ
          obtain ⟨r, hR, hsw⟩ := refine_ok (op := i.Op) (h := b) (hk i.A.toNat (by omega)).span hw.span
          have hto : (if (!b) = true then some (((p + 1 : Nat) : Int)) else some (t : Int) : Option Int) = some (((if b then t else p + 1 : Nat)) : Int) := by cases b <;> rfl
          simp only [hto, Option.bind_some, ain8 hA.1 hA.2, hR, number_eq]
          have hlv : lvOf i k k b = if r.2 then some (aset k i.A.toNat ⟨1, r.1, 0⟩) else none := by
            unfold lvOf
            rw [if_pos (show 16 <= i.Op /\ i.Op <= 19 by omega), hR]
            obtain ⟨s, ok⟩ := r
            cases ok <;> rfl
          by_cases hok : r.2 = true
          · have hto2 : (if b then t else p + 1) < m.Code.length := by cases b <;> simp <;> omega
            have htp : p < (if b then t else p + 1) := by cases b <;> simp <;> omega
            obtain ⟨j', e, hJ', hc, hs⟩ := come_st hJ hto2 (k := aset k i.A.toNat ⟨1, r.1, 0⟩) (aset_wt hk (WT.num hsw))
            refine ⟨j', fun again => ?_, hJ', fun q cs hq hcs => ?_, fun q hq => hs q (by omega)⟩
            · simp only [hok, if_true, e, Option.bind_some]
            · have := hc q cs hcs
              have e2 : (lvOf i k k b).toList = [aset k i.A.toNat ⟨1, r.1, 0⟩] := by rw [hlv, if_pos hok]; rfl
              rw [e2]
              by_cases e : q = (if b then t else p + 1)
              · rw [if_pos e] at this; rw [if_pos e.symm]; exact this
              · rw [if_neg e] at this; rw [if_neg (fun h => e h.symm), List.append_nil]; exact this
          · have hok' : r.2 = false := by simpa using hok
            refine ⟨jj, fun again => ?_, hJ, fun q cs hq hcs => ?_, fun q hq => ⟨rfl, rfl⟩⟩
            · simp only [hok', Bool.false_eq_true, if_false]
            · have e2 : (lvOf i k k b).toList = [] := by rw [hlv, hok']; rfl
              rw [e2]
              have : (if (if b then t else p + 1) = q then ([] : List Regs) else []) = [] := ite_self _
              rw [this, List.append_nil]; exact hcs
        obtain ⟨j1, e1, hJ1, hc1, hs1⟩ := way true j h
        obtain ⟨j2, e2, hJ2, hc2, hs2⟩ := way false j1 hJ1
        refine ⟨j2, ?_, hJ2, fun q cs hq hcs => ?_, fun q hq => ⟨(hs2 q hq).1.trans (hs1 q hq).1, (hs2 q hq).2.trans (hs1 q hq).2⟩⟩
        · have l1 : ∀ (again : judge_judge -> Option judge_judge) (s : judge_judge), judge_judge_ways_l1 p k i (goesB i) (srcT i k) 0 again s = ((if (!true) = true then some (((p + 1 : Nat) : Int)) else some (t : Int) : Option Int).bind fun o665 =>
              ((ain 8 i.A).bind fun i695 => (span_Refine i.Op (k i695).Span (srcT i k).Span true).bind fun r697 => some (r697.1, r697.2)).bind fun o691 =>
              if o691.2 = true then (judge_number o691.1).bind fun r723 => (ain 8 i.A).bind fun i727 => (judge_judge_come s o665 (aset k i727 r723)).bind fun r735 => again r735 else again s) := by
            intro again s
            unfold judge_judge_ways_l1
            have : idx [true, false] ((0 : Nat) : Int) = some true := rfl
            rw [this]
            simp only [Option.bind_some, ht, wt', wp]
          have l2 : ∀ (again : judge_judge -> Option judge_judge) (s : judge_judge), judge_judge_ways_l1 p k i (goesB i) (srcT i k) 1 again s = ((if (!false) = true then some (((p + 1 : Nat) : Int)) else some (t : Int) : Option Int).bind fun o665 =>
              ((ain 8 i.A).bind fun i695 => (span_Refine i.Op (k i695).Span (srcT i k).Span false).bind fun r697 => some (r697.1, r697.2)).bind fun o691 =>
              if o691.2 = true then (judge_number o691.1).bind fun r723 => (ain 8 i.A).bind fun i727 => (judge_judge_come s o665 (aset k i727 r723)).bind fun r735 => again r735 else again s) := by
            intro again s
            unfold judge_judge_ways_l1
            have : idx [true, false] ((1 : Nat) : Int) = some false := rfl
            rw [this]
            simp only [Option.bind_some, ht, wt', wp]
          show (judge_judge_ways_l1 p k i (goesB i) (srcT i k) 0 (fun s => judge_judge_ways_l1 p k i (goesB i) (srcT i k) 1 (fun s => some s) s) j).bind _ = _
          rw [l1, e1, l2, e2]; rfl
        · have := hc2 q _ hq (hc1 q cs hq hcs)
          have hct : ctr i p q (lvOf i k k) = (if t = q then (lvOf i k k true).toList else []) ++ (if p + 1 = q then (lvOf i k k false).toList else []) := by
            unfold ctr
            rw [hl, hon', ht]
            have e3 : ((t : Int) == (q : Int)) = decide (t = q) := by
              by_cases e : t = q
              · subst e; simp
              · simp [e]; omega
            have e4 : (p + 1 == q) = decide (p + 1 = q) := by
              by_cases e : p + 1 = q
              · subst e; simp
              · simp [e]
            simp only [e3, e4, Bool.true_and, decide_eq_true_eq]
          rw [hct, <- List.append_assoc]
          exact this
    ·
      have hpn : p + 1 < m.Code.length := hg.fine.on hi hon
      have c1 : (!(goesB i).2.1 || decide ((goesB i).1 < 0)) = true := by rw [decide_eq_true d0, Bool.or_true]
      simp only [c1, hon, if_true, wp]
      obtain ⟨j', e, hJ, hc, hs⟩ := come_st h hpn hk'
      rw [e]
      refine ⟨j', rfl, hJ, fun q cs hq hcs => ?_, fun q hq => hs q (by omega)⟩
      have := hc q cs hcs
      have hct : ctr i p q (lvOf i k k') = if q = p + 1 then [k'] else [] := by
        unfold ctr
        have : ((p : Int) + (goesB i).1 == (q : Int)) = false := by simp; omega
        rw [this, hon]
        simp only [lv_other (show ¬ (16 <= i.Op /\ i.Op <= 19) by omega)]
        by_cases e : q = p + 1
        · subst e; simp
        · have : (p + 1 == q) = false := by simp; omega
          simp [this, e]
      rw [hct]
      by_cases e : q = p + 1
      · rw [if_pos e] at this |-; exact this
      · rw [if_neg e] at this |-; rw [List.append_nil]; exact this
  · have hl' : (goesB i).2.1 = false := by simpa using hl
    have c1 : (!(goesB i).2.1 || decide ((goesB i).1 < 0)) = true := by rw [hl']; rfl
    simp only [c1, if_true, wp]
    have hop : ¬ (16 <= i.Op /\ i.Op <= 19) := by
      intro hx
      have := goes_jump hr (by omega) (by omega)
      rw [this] at hl'; cases hl'
    by_cases hon : (goesB i).2.2 = true
    · have hpn : p + 1 < m.Code.length := hg.fine.on hi hon
      simp only [hon, if_true]
      obtain ⟨j', e, hJ, hc, hs⟩ := come_st h hpn hk'
      rw [e]
      refine ⟨j', rfl, hJ, fun q cs hq hcs => ?_, fun q hq => hs q (by omega)⟩
      have := hc q cs hcs
      have hct : ctr i p q (lvOf i k k') = if q = p + 1 then [k'] else [] := by
        unfold ctr
        rw [hl', hon]
        simp only [lv_other hop]
        by_cases e : q = p + 1
        · subst e; simp
        · have : (p + 1 == q) = false := by simp; omega
          simp [this, e]
      rw [hct]
      by_cases e : q = p + 1
      · rw [if_pos e] at this |-; exact this
      · rw [if_neg e] at this |-; rw [List.append_nil]; exact this
    · have hon' : (goesB i).2.2 = false := by simpa using hon
      simp only [hon', Bool.false_eq_true, if_false]
      refine ⟨j, rfl, h, fun q cs hq hcs => ?_, fun q hq => ⟨rfl, rfl⟩⟩
      have hct : ctr i p q (lvOf i k k') = [] := by unfold ctr; rw [hl', hon']; rfl
      rw [hct, List.append_nil]; exact hcs
end Go.Proofs.YtgmmfjpmahcocaaGreatDoor
