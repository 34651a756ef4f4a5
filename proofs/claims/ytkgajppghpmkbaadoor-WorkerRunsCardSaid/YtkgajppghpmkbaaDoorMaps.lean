/- Maps with integer keys: what they hold is a list of pairs, in the order of coming in. -/
import Derived.Test.YtkgajppghpmkbaaDoorOpen
import Derived.Maps.RangeRun
set_option linter.unusedVariables false
set_option linter.unusedSimpArgs false
namespace Go.Sx
open Go.RowKit

def mget {α : Type} : List (Int × α) → Int → Option α
  | [], _ => none
  | p :: r, k => if p.1 == k then some p.2 else mget r k
def mpos {α : Type} : List (Int × α) → Int → Option Nat
  | [], _ => none
  | p :: r, k => if p.1 == k then some 0 else (mpos r k).map (· + 1)

def entOf {α : Type} (val : α → Value) (p : Int × α) : Value × Value := (.int .i64 p.1, val p.2)
structure Ents {α : Type} (val : α → Value) (m : List (Int × α)) (A : List MapEntry) (clock : Nat) : Prop where
  eq : A.map (fun e => (e.key, e.val)) = m.map (entOf val)
  born : A.Pairwise (fun a b => a.born < b.born)
  lt : ∀ e ∈ A, e.born < clock
section
variable {α : Type} {val : α → Value}
theorem Ents.cons {p : Int × α} {m : List (Int × α)} {A : List MapEntry} {clock : Nat} (h : Ents val (p :: m) A clock) : ∃ e B, A = e :: B ∧ e.key = .int .i64 p.1 ∧ e.val = val p.2 ∧ Ents val m B clock := by
  obtain ⟨h1, h2, h3⟩ := h
  cases A with
  | nil => simp at h1
  | cons e B =>
    simp only [List.map_cons, List.cons.injEq, entOf, Prod.mk.injEq] at h1
    exact ⟨e, B, rfl, h1.1.1, h1.1.2, h1.2, (List.pairwise_cons.1 h2).2, fun x hx => h3 x (List.mem_cons_of_mem _ hx)⟩
theorem Ents.nil {A : List MapEntry} {clock : Nat} (h : Ents val ([] : List (Int × α)) A clock) : A = [] := by
  have := h.eq
  simpa using this
theorem mpos_mget {m : List (Int × α)} {k : Int} : (mpos m k = none ↔ mget m k = none) := by
  induction m with
  | nil => simp [mpos, mget]
  | cons p m ih =>
    unfold mpos mget
    split
    · simp
    · simp [ih]
theorem mpos_get {m : List (Int × α)} {k : Int} {x : α} (h : mget m k = some x) : ∃ j, mpos m k = some j ∧ m[j]? = some (k, x) := by
  induction m with
  | nil => cases h
  | cons p m ih =>
    unfold mget at h
    unfold mpos
    split at h
    · rename_i hp
      cases h
      refine ⟨0, by simp [hp], ?_⟩
      have : p.1 = k := by simpa using hp
      subst this
      rfl
    · rename_i hp
      obtain ⟨j, h1, h2⟩ := ih h
      exact ⟨j + 1, by simp [hp, h1], by simpa using h2⟩
theorem Ents.len {m : List (Int × α)} {A : List MapEntry} {clock : Nat} (h : Ents val m A clock) : A.length = m.length := by
  have := congrArg List.length h.eq
  simpa using this
theorem Ents.set {m : List (Int × α)} {A : List MapEntry} {clock j : Nat} {k : Int} {x : α} {e : MapEntry} (h : Ents val m A clock) (he : A[j]? = some e) : Ents val (m.set j (k, x)) (A.set j { e with key := .int .i64 k, val := val x }) clock := by
  refine ⟨?_, ?_, fun y hy => ?_⟩
  · rw [List.map_set, List.map_set, h.eq]; rfl
  · have hb := h.born
    rw [List.pairwise_iff_getElem] at hb ⊢
    intro a b ha hb2 hab
    rw [List.length_set] at ha hb2
    have hj := (List.getElem?_eq_some_iff.1 he).2
    have := hb a b ha hb2 hab
    rw [List.getElem_set, List.getElem_set]
    split <;> split
    · omega
    · rename_i h1 h2; subst h1; rw [hj] at this; exact this
    · rename_i h1 h2; subst h2; rw [hj] at this; exact this
    · exact this
  · rcases List.mem_or_eq_of_mem_set hy with hy | rfl
    · exact h.lt y hy
    · exact h.lt e (List.mem_of_getElem? he)
theorem Ents.push {m : List (Int × α)} {A : List MapEntry} {clock : Nat} {k : Int} {x : α} (h : Ents val m A clock) : Ents val (m ++ [(k, x)]) (A ++ [{ key := .int .i64 k, val := val x, born := clock }]) (clock + 1) := by
  refine ⟨by rw [List.map_append, List.map_append, h.eq]; rfl, ?_, fun y hy => ?_⟩
  · refine List.pairwise_append.2 ⟨h.born, List.pairwise_singleton _ _, fun a ha b hb => ?_⟩
    simp at hb
    subst hb
    exact h.lt a ha
  · rcases List.mem_append.1 hy with hy | hy
    · have := h.lt y hy; omega
    · simp at hy; subst hy; simp
end

section
variable {P : Program} {N : Nat} {fr : List (Nat × Value)} {w w0 : World} {S0 : List Nat} {L : List Item} {α : Type} {val : α → Value}
end
section
variable {P : Program} {N : Nat} {Q : Exit → Act → World → Prop} {fr fr' : List (Nat × Value)} {w w0 : World} {l : List Oper} {i : Nat} {o : Oper} {S0 : List Nat} {L : List Item} {α : Type} {val : α → Value}
end
structure MRow {α : Type} (w : World) (r : Nat) (R : Rp α) (S : List Nat) (m : List (Int × α)) (ho : Option (Int × Value)) (mv : List (Int × Value)) (Ss : List (List Nat)) : Prop where
  map : ∃ A clock, w.heap[r]? = some (.map A clock) ∧ Ents (fun v : Value => v) mv A.toList clock
  keys : mv.map (·.1) = m.map (·.1)
  ls : Ss.length = m.length
  hS : S = r :: Ss.flatten
  nd : S.Nodup
  out : ∀ (k : Int) (v : Value) (i : Nat), ho = some (k, v) → mpos m k = some i → mv[i]? = some (k, v) ∧ Ss[i]? = some []
  own : ∀ (i : Nat) (q : Int × Value) (S' : List Nat) (p : Int × α), (∀ k u, ho = some (k, u) → mpos m k ≠ some i) → mv[i]? = some q → Ss[i]? = some S' → m[i]? = some p → R.own w [q.2] S' p.2
section
variable {α β : Type}
theorem mpos_keys {m : List (Int × α)} {n : List (Int × β)} (h : n.map (·.1) = m.map (·.1)) (k : Int) : mpos n k = mpos m k := by
  induction m generalizing n with
  | nil => simp at h; subst h; rfl
  | cons p m ih =>
    cases n with
    | nil => cases h
    | cons q n =>
      simp only [List.map_cons, List.cons.injEq] at h
      simp only [mpos, h.1, ih h.2]
theorem mpos_at {m : List (Int × α)} {k : Int} {i : Nat} (h : mpos m k = some i) : ∃ x, mget m k = some x ∧ m[i]? = some (k, x) := by
  cases hg : mget m k with
  | none => rw [mpos_mget.2 hg] at h; cases h
  | some x =>
    obtain ⟨j, h1, h2⟩ := mpos_get hg
    rw [h1] at h
    cases h
    exact ⟨x, rfl, h2⟩
end
section
variable {α : Type} {w w' : World} {r : Nat} {R : Rp α} {S : List Nat} {m : List (Int × α)} {ho : Option (Int × Value)} {mv : List (Int × Value)} {Ss : List (List Nat)}
theorem MRow.len (h : MRow w r R S m ho mv Ss) : mv.length = m.length := by
  have := congrArg List.length h.keys
  simpa using this
theorem MRow.lt (h : MRow w r R S m ho mv Ss) : ∀ b ∈ S, b < w.heap.size := by
  intro b hb
  rw [h.hS] at hb
  rcases List.mem_cons.1 hb with rfl | hb
  · obtain ⟨A, c, h1, _⟩ := h.map
    exact (Array.getElem?_eq_some_iff.1 h1).1
  · obtain ⟨S', hS', hb⟩ := List.mem_flatten.1 hb
    obtain ⟨i, hi, rfl⟩ := List.mem_iff_getElem.1 hS'
    have h1 : i < mv.length := by rw [h.len, ← h.ls]; exact hi
    have h2 : i < m.length := by rw [← h.ls]; exact hi
    by_cases hq : ∃ k u, ho = some (k, u) ∧ mpos m k = some i
    · obtain ⟨k, u, hc, hp⟩ := hq
      have := (h.out k u i hc hp).2
      rw [List.getElem?_eq_getElem hi] at this
      rw [Option.some.inj this] at hb
      exact absurd hb List.not_mem_nil
    · exact R.lt _ _ _ _ (h.own i _ _ _ (fun k u hc hp => hq ⟨k, u, hc, hp⟩) (List.getElem?_eq_getElem h1) (List.getElem?_eq_getElem hi) (List.getElem?_eq_getElem h2)) b hb
theorem MRow.loc (h : MRow w r R S m ho mv Ss) (hb : ∀ b ∈ S, w'.heap[b]? = w.heap[b]?) : MRow w' r R S m ho mv Ss := by
  have hS := h.hS
  obtain ⟨A, c, h1, h2⟩ := h.map
  refine ⟨⟨A, c, by rw [hb r (by rw [hS]; exact List.mem_cons_self)]; exact h1, h2⟩, h.keys, h.ls, h.hS, h.nd, h.out, fun i q S' p g1 g2 g3 g4 => R.loc w w' _ S' _ (fun b hbs => hb b ?_) (h.own i q S' p g1 g2 g3 g4)⟩
  rw [hS]
  exact List.mem_cons_of_mem _ (List.mem_flatten.2 ⟨S', List.mem_of_getElem? g3, hbs⟩)
end
def mN {α : Type} (r : Nat) (R : Rp α) (S : List Nat) (m : List (Int × α)) (ho : Option (Int × Value)) : Item where
  S := S
  Φ w := ∃ mv Ss, MRow w r R S m ho mv Ss
  loc w w' hb h := by obtain ⟨mv, Ss, h⟩ := h; exact ⟨mv, Ss, h.loc hb⟩
  lt w h := by obtain ⟨mv, Ss, h⟩ := h; exact h.lt
section
variable {α : Type} {w w' : World} {r : Nat} {R : Rp α} {S : List Nat} {m : List (Int × α)} {ho : Option (Int × Value)} {mv : List (Int × Value)} {Ss : List (List Nat)}
theorem MRow.take (h : MRow w r R S m none mv Ss) {k : Int} {x : α} (hx : mget m k = some x) :
    ∃ v S1 S2 Ss', mget mv k = some v ∧ R.own w [v] S2 x ∧ MRow w r R S1 m (some (k, v)) mv Ss' ∧ (∀ b ∈ S2, b ∈ S) ∧ (∀ b ∈ S1, b ∈ S) ∧ ∀ b ∈ S1, b ∉ S2 := by
  obtain ⟨i, hp, hi⟩ := mpos_get hx
  have hl := (List.getElem?_eq_some_iff.1 hi).1
  obtain ⟨v, hv, hvi⟩ := mpos_at ((mpos_keys h.keys k).trans hp)
  have a2 : i < Ss.length := by rw [h.ls]; exact hl
  have hn := h.nd
  rw [h.hS] at hn
  obtain ⟨n1, n2⟩ := List.nodup_cons.1 hn
  have hown := h.own i (k, v) Ss[i] (k, x) (fun _ _ e => (by cases e)) hvi (List.getElem?_eq_getElem a2) hi
  have hsub : ∀ b ∈ (Ss.set i []).flatten, b ∈ Ss.flatten := fun b hb => by
    rcases mem_flatten_set hb with hb | hb
    · exact absurd hb List.not_mem_nil
    · exact hb
  have n2' : (Ss.set i []).flatten.Nodup := nodup_flatten_set n2 List.nodup_nil (fun _ _ _ _ b hb => absurd hb List.not_mem_nil)
  refine ⟨v, r :: (Ss.set i []).flatten, Ss[i], Ss.set i [], hv, hown, ⟨h.map, h.keys, by rw [List.length_set]; exact h.ls, rfl, ?_, fun k' v' i' e hp' => ?_, fun i' q S' p g1 g2 g3 g4 => ?_⟩, fun b hb => ?_, fun b hb => ?_, fun b hb hb2 => ?_⟩
  · exact List.nodup_cons.2 ⟨fun hb => n1 (hsub r hb), n2'⟩
  · simp only [Option.some.injEq, Prod.mk.injEq] at e
    obtain ⟨rfl, rfl⟩ := e
    rw [hp] at hp'
    cases hp'
    exact ⟨hvi, by rw [List.getElem?_set_self a2]⟩
  · rcases set_get g3 with ⟨rfl, rfl⟩ | ⟨hne, g3⟩
    · exact absurd hp (g1 k v rfl)
    · exact h.own i' q S' p (fun _ _ e => (by cases e)) g2 g3 g4
  · rw [h.hS]; exact List.mem_cons_of_mem _ (List.mem_flatten.2 ⟨Ss[i], List.getElem_mem a2, hb⟩)
  · rw [h.hS]
    rcases List.mem_cons.1 hb with rfl | hb
    · exact List.mem_cons_self
    · exact List.mem_cons_of_mem _ (hsub b hb)
  · rcases List.mem_cons.1 hb with rfl | hb
    · exact n1 (List.mem_flatten.2 ⟨Ss[i], List.getElem_mem a2, hb2⟩)
    · obtain ⟨S', hS', hb⟩ := List.mem_flatten.1 hb
      obtain ⟨i', hi', rfl⟩ := List.mem_iff_getElem.1 hS'
      rcases set_get (List.getElem?_eq_getElem hi') with ⟨_, e⟩ | ⟨hne, hi2⟩
      · rw [e] at hb; exact absurd hb List.not_mem_nil
      · exact flatten_apart n2 hne hi2 (List.getElem?_eq_getElem a2) b hb hb2
theorem MRow.give (h : MRow w r R S m ho mv Ss) {k : Int} {v : Value} {S2 : List Nat} {x : α} {i : Nat} (hho : ∀ k' u, ho = some (k', u) → k' = k) (hp : mpos m k = some i) (hx : R.own w' [v] S2 x) (hd : ∀ b ∈ S, b ∉ S2)
    (hw : ∀ b ∈ Ss.flatten, w'.heap[b]? = w.heap[b]?) (hm : ∃ A clock, w'.heap[r]? = some (.map A clock) ∧ Ents (fun v : Value => v) (mv.set i (k, v)) A.toList clock) : MRow w' r R (r :: (Ss.set i S2).flatten) (m.set i (k, x)) none (mv.set i (k, v)) (Ss.set i S2) := by
  have hn := h.nd
  rw [h.hS] at hn
  obtain ⟨n1, n2⟩ := List.nodup_cons.1 hn
  have hS := h.hS
  refine ⟨hm, by rw [List.map_set, List.map_set, h.keys], by rw [List.length_set, List.length_set]; exact h.ls, rfl, ?_, fun _ _ _ e => (by cases e), fun i' q S' p _ g2 g3 g4 => ?_⟩
  · refine List.nodup_cons.2 ⟨fun hb => ?_, nodup_flatten_set n2 (R.nd _ _ _ _ hx) (fun k T' _ hT b hb hb2 => hd b (by rw [hS]; exact List.mem_cons_of_mem _ (List.mem_flatten.2 ⟨T', List.mem_of_getElem? hT, hb2⟩)) hb)⟩
    rcases mem_flatten_set hb with hb | hb
    · exact hd r (by rw [hS]; exact List.mem_cons_self) hb
    · exact n1 hb
  · rcases set_get g3 with ⟨rfl, rfl⟩ | ⟨hne, g3⟩
    · rcases set_get g2 with ⟨_, rfl⟩ | ⟨hne, _⟩
      · rcases set_get g4 with ⟨_, rfl⟩ | ⟨hne, _⟩
        · exact hx
        · exact absurd rfl hne
      · exact absurd rfl hne
    · rcases set_get g2 with ⟨e, _⟩ | ⟨_, g2⟩
      · exact absurd e hne
      · rcases set_get g4 with ⟨e, _⟩ | ⟨_, g4⟩
        · exact absurd e hne
        · refine R.loc w w' _ S' _ (fun b hb => hw b (List.mem_flatten.2 ⟨S', List.mem_of_getElem? g3, hb⟩)) (h.own i' q S' p (fun k' u e hp' => ?_) g2 g3 g4)
          rw [hho k' u e, hp] at hp'
          exact hne (Option.some.inj hp').symm
end
section
variable {P : Program} {N : Nat} {Q : Exit → Act → World → Prop} {fr fr' : List (Nat × Value)} {w w0 : World} {l : List Oper} {i : Nat} {o : Oper} {S0 : List Nat} {L : List Item} {α : Type} {R : Rp α} {r : Nat} {S : List Nat} {m : List (Int × α)} {ho : Option (Int × Value)}
end
section
variable {w w0 : World} {S0 : List Nat} {L : List Item} {α : Type} {R : Rp α}
end
end Go.Sx
