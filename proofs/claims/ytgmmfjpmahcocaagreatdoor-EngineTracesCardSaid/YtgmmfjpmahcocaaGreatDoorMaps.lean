import Derived.Test.YtgmmfjpmahcocaaGreatDoorOpen
import Derived.Maps.RangeRun
set_option linter.unusedVariables false
set_option linter.unusedSimpArgs false
namespace Go.Sx
open Go.RowKit
def zld {α : Type} : List (Int × α) -> Int -> Option α
 | [], _ => none
 | p :: r, k => if p.1 == k then some p.2 else zld r k
def zjY {α : Type} : List (Int × α) -> Int -> Option Nat
 | [], _ => none
 | p :: r, k => if p.1 == k then some 0 else (zjY r k).map (· + 1)
def znx {α : Type} (val : α -> Value) (p : Int × α) : Value × Value := (.int .i64 p.1, val p.2)
structure zle {α : Type} (val : α -> Value) (m : List (Int × α)) (A : List MapEntry) (clock : Nat) : Prop where
 eq : A.map (fun e => (e.key, e.val)) = m.map (znx val)
 born : A.Pairwise (fun a b => a.born < b.born)
 lt : ∀ e ∈ A, e.born < clock
section
variable {α : Type} {val : α -> Value}
theorem zle.cons {p : Int × α} {m : List (Int × α)} {A : List MapEntry} {clock : Nat} (h : zle val (p :: m) A clock) : ∃ e B, A = e :: B /\ e.key = .int .i64 p.1 /\ e.val = val p.2 /\ zle val m B clock := by
 obtain ⟨h1, h2, h3⟩ := h
 cases A with
 | nil => simp at h1
 | cons e B =>
  simp only [List.map_cons, List.cons.injEq, znx, Prod.mk.injEq] at h1
  exact ⟨e, B, rfl, h1.1.1, h1.1.2, h1.2, (List.pairwise_cons.1 h2).2, fun x hx => h3 x (zcm _ hx)⟩
theorem zk3 {m : List (Int × α)} {k : Int} : (zjY m k = none ↔ zld m k = none) := by
 induction m with
 | nil => simp [zjY, zld]
 | cons p m ih =>
  unfold zjY zld
  split
  ·simp
  ·simp [ih]
theorem zjt {m : List (Int × α)} {k : Int} {x : α} (h : zld m k = some x) : ∃ j, zjY m k = some j /\ m[j]? = some (k, x) := by
 induction m with
 | nil => cases h
 | cons p m ih =>
  unfold zld at h
  unfold zjY
  split at h
  ·rename_i hp
   cases h
   refine ⟨0, by simp [hp], ?_⟩
   have : p.1 = k := by simpa using hp
   subst this
   rfl
  ·rename_i hp
   obtain ⟨j, h1, h2⟩ := ih h
   exact ⟨j + 1, by simp [hp, h1], by simpa using h2⟩
theorem zle.len {m : List (Int × α)} {A : List MapEntry} {clock : Nat} (h : zle val m A clock) : A.length = m.length := by
 have := congrArg List.length h.eq
 simpa using this
theorem zle.set {m : List (Int × α)} {A : List MapEntry} {clock j : Nat} {k : Int} {x : α} {e : MapEntry} (h : zle val m A clock) (he : A[j]? = some e) : zle val (m.set j (k, x)) (A.set j { e with key := .int .i64 k, val := val x }) clock := by
 refine ⟨?_, ?_, fun y hy => ?_⟩
 ·rw [List.map_set, List.map_set, h.eq]; rfl
 ·have hb := h.born
  rw [List.pairwise_iff_getElem] at hb |-
  intro a b ha hb2 hab
  rw [List.length_set] at ha hb2
  have hj := (zes.1 he).2
  have := hb a b ha hb2 hab
  rw [List.getElem_set, List.getElem_set]
  split <;> split
  ·omega
  ·rename_i h1 h2; subst h1; rw [hj] at this; exact this
  ·rename_i h1 h2; subst h2; rw [hj] at this; exact this
  ·exact this
 ·rcases List.mem_or_eq_of_mem_set hy with hy | rfl
  ·exact h.lt y hy
  ·exact h.lt e (zmg he)
end
section
variable {P : Program} {N : Nat} {fr : List (Nat × Value)} {w w0 : World} {S0 : List Nat} {L : List Item} {α : Type} {val : α -> Value}
end
section
variable {P : Program} {N : Nat} {Q : Exit -> Act -> World -> Prop} {fr fr' : List (Nat × Value)} {w w0 : World} {l : List Oper} {i : Nat} {o : Oper} {S0 : List Nat} {L : List Item} {α : Type} {val : α -> Value}
end
structure zj2 {α : Type} (w : World) (r : Nat) (R : Rp α) (S : List Nat) (m : List (Int × α)) (ho : Option (Int × Value)) (mv : List (Int × Value)) (Ss : List (List Nat)) : Prop where
 map : ∃ A clock, w.heap[r]? = some (.map A clock) /\ zle (fun v : Value => v) mv A.toList clock
 keys : mv.map (·.1) = m.map (·.1)
 ls : Ss.length = m.length
 hS : S = r :: Ss.flatten
 nd : S.Nodup
 out : ∀ (k : Int) (v : Value) (i : Nat), ho = some (k, v) -> zjY m k = some i -> mv[i]? = some (k, v) /\ Ss[i]? = some []
 own : ∀ (i : Nat) (q : Int × Value) (S' : List Nat) (p : Int × α), (∀ k u, ho = some (k, u) -> zjY m k ≠ some i) -> mv[i]? = some q -> Ss[i]? = some S' -> m[i]? = some p -> R.own w [q.2] S' p.2
section
variable {α β : Type}
theorem zk4 {m : List (Int × α)} {n : List (Int × β)} (h : n.map (·.1) = m.map (·.1)) (k : Int) : zjY n k = zjY m k := by
 induction m generalizing n with
 | nil => simp at h; subst h; rfl
 | cons p m ih =>
  cases n with
  | nil => cases h
  | cons q n =>
   simp only [List.map_cons, List.cons.injEq] at h
   simp only [zjY, h.1, ih h.2]
theorem zmV {m : List (Int × α)} {k : Int} {i : Nat} (h : zjY m k = some i) : ∃ x, zld m k = some x /\ m[i]? = some (k, x) := by
 cases hg : zld m k with
 | none => rw [zk3.2 hg] at h; cases h
 | some x =>
  obtain ⟨j, h1, h2⟩ := zjt hg
  rw [h1] at h
  cases h
  exact ⟨x, rfl, h2⟩
end
section
variable {α : Type} {w w' : World} {r : Nat} {R : Rp α} {S : List Nat} {m : List (Int × α)} {ho : Option (Int × Value)} {mv : List (Int × Value)} {Ss : List (List Nat)}
theorem zj2.len (h : zj2 w r R S m ho mv Ss) : mv.length = m.length := by
 have := congrArg List.length h.keys
 simpa using this
theorem zj2.lt (h : zj2 w r R S m ho mv Ss) : ∀ b ∈ S, b < w.heap.size := by
 intro b hb
 rw [h.hS] at hb
 rcases List.mem_cons.1 hb with rfl | hb
 ·obtain ⟨A, c, h1, _⟩ := h.map
  exact (Array.getElem?_eq_some_iff.1 h1).1
 ·obtain ⟨S', hS', hb⟩ := List.mem_flatten.1 hb
  obtain ⟨i, hi, rfl⟩ := List.mem_iff_getElem.1 hS'
  have h1 : i < mv.length := by rw [h.len, <- h.ls]; exact hi
  have h2 : i < m.length := by rw [<- h.ls]; exact hi
  by_cases hq : ∃ k u, ho = some (k, u) /\ zjY m k = some i
  ·obtain ⟨k, u, hc, hp⟩ := hq
   have := (h.out k u i hc hp).2
   rw [zeg hi] at this
   rw [Option.some.inj this] at hb
   exact absurd hb znm
  ·exact R.lt _ _ _ _ (h.own i _ _ _ (fun k u hc hp => hq ⟨k, u, hc, hp⟩) (zeg h1) (zeg hi) (zeg h2)) b hb
theorem zj2.loc (h : zj2 w r R S m ho mv Ss) (hb : ∀ b ∈ S, w'.heap[b]? = w.heap[b]?) : zj2 w' r R S m ho mv Ss := by
 have hS := h.hS
 obtain ⟨A, c, h1, h2⟩ := h.map
 refine ⟨⟨A, c, by rw [hb r (by rw [hS]; exact zcs)]; exact h1, h2⟩, h.keys, h.ls, h.hS, h.nd, h.out, fun i q S' p g1 g2 g3 g4 => R.loc w w' _ S' _ (fun b hbs => hb b ?_) (h.own i q S' p g1 g2 g3 g4)⟩
 rw [hS]
 exact zcm _ (List.mem_flatten.2 ⟨S', zmg g3, hbs⟩)
end
def mN {α : Type} (r : Nat) (R : Rp α) (S : List Nat) (m : List (Int × α)) (ho : Option (Int × Value)) : Item where
 S := S
 Φ w := ∃ mv Ss, zj2 w r R S m ho mv Ss
 loc w w' hb h := by obtain ⟨mv, Ss, h⟩ := h; exact ⟨mv, Ss, h.loc hb⟩
 lt w h := by obtain ⟨mv, Ss, h⟩ := h; exact h.lt
section
variable {α : Type} {w w' : World} {r : Nat} {R : Rp α} {S : List Nat} {m : List (Int × α)} {ho : Option (Int × Value)} {mv : List (Int × Value)} {Ss : List (List Nat)}
theorem zj2.take (h : zj2 w r R S m none mv Ss) {k : Int} {x : α} (hx : zld m k = some x) :
  ∃ v S1 S2 Ss', zld mv k = some v /\ R.own w [v] S2 x /\ zj2 w r R S1 m (some (k, v)) mv Ss' /\ (∀ b ∈ S2, b ∈ S) /\ (∀ b ∈ S1, b ∈ S) /\ ∀ b ∈ S1, b ∉ S2 := by
 obtain ⟨i, hp, hi⟩ := zjt hx
 have hl := (zes.1 hi).1
 obtain ⟨v, hv, hvi⟩ := zmV ((zk4 h.keys k).trans hp)
 have a2 : i < Ss.length := by rw [h.ls]; exact hl
 have hn := h.nd
 rw [h.hS] at hn
 obtain ⟨n1, n2⟩ := List.nodup_cons.1 hn
 have hown := h.own i (k, v) Ss[i] (k, x) (fun _ _ e => (by cases e)) hvi (zeg a2) hi
 have hsub : ∀ b ∈ (Ss.set i []).flatten, b ∈ Ss.flatten := fun b hb => by
  rcases vR hb with hb | hb
  ·exact absurd hb znm
  ·exact hb
 have n2' : (Ss.set i []).flatten.Nodup := zbp n2 List.nodup_nil (fun _ _ _ _ b hb => absurd hb znm)
 refine ⟨v, r :: (Ss.set i []).flatten, Ss[i], Ss.set i [], hv, hown, ⟨h.map, h.keys, by rw [List.length_set]; exact h.ls, rfl, ?_, fun k' v' i' e hp' => ?_, fun i' q S' p g1 g2 g3 g4 => ?_⟩, fun b hb => ?_, fun b hb => ?_, fun b hb hb2 => ?_⟩
 ·exact List.nodup_cons.2 ⟨fun hb => n1 (hsub r hb), n2'⟩
 ·simp only [Option.some.injEq, Prod.mk.injEq] at e
  obtain ⟨rfl, rfl⟩ := e
  rw [hp] at hp'
  cases hp'
  exact ⟨hvi, by rw [List.getElem?_set_self a2]⟩
 ·rcases zcw g3 with ⟨rfl, rfl⟩ | ⟨hne, g3⟩
  ·exact absurd hp (g1 k v rfl)
  ·exact h.own i' q S' p (fun _ _ e => (by cases e)) g2 g3 g4
 ·rw [h.hS]; exact zcm _ (List.mem_flatten.2 ⟨Ss[i], List.getElem_mem a2, hb⟩)
 ·rw [h.hS]
  rcases List.mem_cons.1 hb with rfl | hb
  ·exact zcs
  ·exact zcm _ (hsub b hb)
 ·rcases List.mem_cons.1 hb with rfl | hb
  ·exact n1 (List.mem_flatten.2 ⟨Ss[i], List.getElem_mem a2, hb2⟩)
  ·obtain ⟨S', hS', hb⟩ := List.mem_flatten.1 hb
   obtain ⟨i', hi', rfl⟩ := List.mem_iff_getElem.1 hS'
   rcases zcw (zeg hi') with ⟨_, e⟩ | ⟨hne, hi2⟩
   ·rw [e] at hb; exact absurd hb znm
   ·exact zfu n2 hne hi2 (zeg a2) b hb hb2
end
section
variable {P : Program} {N : Nat} {Q : Exit -> Act -> World -> Prop} {fr fr' : List (Nat × Value)} {w w0 : World} {l : List Oper} {i : Nat} {o : Oper} {S0 : List Nat} {L : List Item} {α : Type} {R : Rp α} {r : Nat} {S : List Nat} {m : List (Int × α)} {ho : Option (Int × Value)}
end
section
variable {w w0 : World} {S0 : List Nat} {L : List Item} {α : Type} {R : Rp α}
end
end Go.Sx
