import Derived.Test.YtgmmfjpmahcocaaGreatDoorLib
set_option linter.unusedSimpArgs false
set_option linter.unusedVariables false
namespace Go.Sx
def OK {α : Type} (o : Option α) (Q : α -> Prop) : Prop := ∃ r, o = some r /\ Q r
theorem OK.ret {α : Type} {x : α} {Q : α -> Prop} (h : Q x) : OK (some x) Q := ⟨x, rfl, h⟩
theorem OK.bind {α β : Type} {o : Option α} {f : α -> Option β} {Q : β -> Prop} (h : OK o (fun x => OK (f x) Q)) : OK (o.bind f) Q := by
 obtain ⟨x, rfl, h⟩ := h
 exact h
theorem OK.mono {α : Type} {o : Option α} {Q R : α -> Prop} (h : OK o Q) (k : ∀ x, Q x -> R x) : OK o R := by
 obtain ⟨x, rfl, h⟩ := h
 exact ⟨x, rfl, k x h⟩
theorem OK.bind2 {α β : Type} {o : Option α} {f : α -> Option β} {R : α -> Prop} {Q : β -> Prop} (h : OK o R) (k : ∀ x, R x -> OK (f x) Q) : OK (o.bind f) Q :=
 OK.bind (h.mono k)
theorem OK.ite {α : Type} {c : Bool} {A B : Option α} {Q : α -> Prop} (h1 : c = true -> OK A Q) (h2 : c = false -> OK B Q) :
  OK (if c then A else B) Q := by
 cases c with
 | true => exact h1 rfl
 | false => exact h2 rfl
theorem OK.ite_false {α : Type} {c : Bool} {A B : Option α} {Q : α -> Prop} (h : c = false) (h1 : OK B Q) : OK (if c then A else B) Q := by
 subst h; exact h1
theorem OK.get {α : Type} {xs : List α} {t : Int} {Q : α -> Prop} (h0 : 0 <= t) (h1 : t < xs.length)
  (h : ∀ x, xs[t.toNat]? = some x -> Q x) : OK (idx xs t) Q := by
 have hl : t.toNat < xs.length := by omega
 refine ⟨xs[t.toNat], ?_, h _ (zeg hl)⟩
 unfold Go.Sx.idx
 rw [if_pos h0, zeg hl]
theorem OK.getN {α : Type} {xs : List α} {i : Nat} {Q : α -> Prop} (h1 : i < xs.length)
  (h : ∀ x, xs[i]? = some x -> Q x) : OK (Go.Sx.idx xs (i : Int)) Q :=
 OK.get (by omega) (by omega) (fun x hx => h x (by simpa using hx))
theorem OK.hasRoom {m b : Nat} {Q : Unit -> Prop} (h : m * b <= 140737488355328) (k : Q ()) : OK (room m b) Q :=
 ⟨(), by unfold Go.Sx.room; rw [if_pos h], k⟩
theorem OK.mkl {n : Int} {b : Nat} {Q : Nat -> Prop} (h0 : 0 <= n) (h : n.toNat * b <= 140737488355328) (k : Q n.toNat) : OK (mkLen n b) Q :=
 ⟨n.toNat, by unfold Go.Sx.mkLen; rw [if_pos ⟨h0, h⟩], k⟩
theorem OK.count_from {σ ρ : Type} {body : Nat -> (σ -> Option ρ) -> σ -> Option ρ} {out : σ -> ρ} {N : Nat} {Q : ρ -> Prop} (I : Nat -> σ -> Prop)
    (hb : ∀ i s again, i < N -> I i s -> (∀ s', I (i + 1) s' -> OK (again s') Q) -> OK (body i again s) Q)
    (ho : ∀ s, I N s -> Q (out s)) : ∀ (n i : Nat) (s : σ), i + n = N -> I i s -> OK (zQ body out n i s) Q := by
  intro n
  induction n with
  | zero => intro i s hi h; have e : i = N := by omega
            subst e; exact OK.ret (ho s h)
  | succ n ih => intro i s hi h; exact hb i s _ (by omega) h (fun s' h' => ih (i + 1) s' (by omega) h')
theorem OK.count {σ ρ : Type} {body : Nat -> (σ -> Option ρ) -> σ -> Option ρ} {out : σ -> ρ} {N : Nat} {Q : ρ -> Prop} (I : Nat -> σ -> Prop) {s : σ}
  (h0 : I 0 s)
  (hb : ∀ i s again, i < N -> I i s -> (∀ s', I (i + 1) s' -> OK (again s') Q) -> OK (body i again s) Q)
  (ho : ∀ s, I N s -> Q (out s)) : OK (zQ body out N 0 s) Q := OK.count_from I hb ho N 0 s (by omega) h0
theorem OK.rounds {σ R : Type} {body : (σ -> Option R) -> σ -> Option R} {Q : R -> Prop} (I : σ -> Prop) (m : σ -> Nat)
  (hb : ∀ s again, I s -> (∀ s', I s' -> m s' < m s -> OK (again s') Q) -> OK (body again s) Q) :
  ∀ (fu : Nat) (s : σ), I s -> m s < fu -> OK (loop body fu s) Q := by
 intro fu
 induction fu with
 | zero => intro s _ h; omega
 | succ n ih => intro s h hm; exact hb s _ h (fun s' h' hm' => ih s' h' (by omega))
theorem OK.eq {α : Type} {o : Option α} {x : α} (h : o = some x) {Q : α -> Prop} (k : Q x) : OK o Q := ⟨x, h, k⟩
theorem OK.is {α : Type} {o : Option α} {x : α} (h : OK o (fun y => y = x)) : o = some x := by
 obtain ⟨y, rfl, rfl⟩ := h
 rfl
theorem zm1 {α : Type} {xs : List α} {i j : Nat} {x : α} : (xs.set i x)[j]? = if i = j then (if i < xs.length then some x else none) else xs[j]? := by
 rw [List.getElem?_set]
end Go.Sx
