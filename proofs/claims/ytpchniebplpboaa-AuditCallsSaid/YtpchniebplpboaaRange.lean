/- Ranging over a map: the order is the world's; what is left is told. And folds whose order does not matter. -/
import Derived.Test.YtpchniebplpboaaMaps
set_option linter.unusedVariables false
set_option linter.unusedSimpArgs false
namespace Go.Sx
open Go.RowKit

def rangeF {ε σ ρ : Type} (body : ε → σ → Option (σ ⊕ ρ)) (fin : σ → Option ρ) : List ε → σ → Option ρ
  | [], s => fin s
  | e :: q, s => (body e s).bind fun t => match t with
    | .inl s' => rangeF body fin q s'
    | .inr r => some r
def AnyOrder {ε σ ρ : Type} (body : ε → σ → Option (σ ⊕ ρ)) (fin : σ → Option ρ) (m : List ε) (s : σ) : Prop := ∀ q, q.Perm m → ∀ r, rangeF body fin m s = some r → rangeF body fin q s = some r

theorem perm_strike {β γ : Type} [DecidableEq γ] (f : β → γ) (p : β → Bool) : ∀ {l : List β} {b : β}, l.Pairwise (fun x y => f x ≠ f y) → b ∈ l → p b = true → (l.filter p).Perm (b :: l.filter (fun q => p q && !decide (f q = f b))) := by
  intro l
  induction l with
  | nil => intro b _ hb; simp at hb
  | cons x r ih =>
    intro b hl hb hp
    obtain ⟨h1, h2⟩ := List.pairwise_cons.1 hl
    rcases List.mem_cons.1 hb with rfl | hb
    · have e : (b :: r).filter (fun q => p q && !decide (f q = f b)) = r.filter p := by
        rw [List.filter_cons, if_neg (by simp)]
        exact List.filter_congr (fun y hy => by simp [Ne.symm (h1 y hy)])
      rw [e, List.filter_cons, if_pos hp]
    · have hne : f x ≠ f b := h1 b hb
      rw [List.filter_cons, List.filter_cons]
      by_cases hx : p x = true
      · rw [if_pos hx, if_pos (by simp [hx, hne])]
        exact ((ih h2 hb hp).cons x).trans (List.Perm.swap _ _ _)
      · rw [if_neg hx, if_neg (by simp [hx])]
        exact ih h2 hb hp

structure Rng {α : Type} (w : World) (it r : Nat) (R : Rp α) (S : List Nat) (m rem : List (Int × α)) (last : Option (Int × Value × α)) (mv : List (Int × Value)) (Ss : List (List Nat)) (A : Array MapEntry) (clock since : Nat) (seen : Array Nat) (c0 : Nat) : Prop where
  row : MRow w r R S m none mv Ss
  map : w.heap[r]? = some (.map A clock)
  ents : Ents (fun v : Value => v) mv A.toList clock
  iter : w.heap[it]? = some (.mapIter (some r) since seen c0)
  apart : it ∉ S
  hold : ∀ x ∈ A.toList, x.born < since
  le : since ≤ c0
  le2 : since ≤ clock
  left : rem = ((A.toList.zip m).filter (fun p => !seen.contains p.1.born)).map (·.2)
  now : ∀ k v x, last = some (k, v, x) → c0 = clock ∧ ∃ (i : Nat) (e : MapEntry) (s' : Array Nat), A.toList[i]? = some e ∧ mv[i]? = some (k, v) ∧ m[i]? = some (k, x) ∧ seen = s'.push e.born
def rngI {α : Type} (it r : Nat) (R : Rp α) (S : List Nat) (m rem : List (Int × α)) (last : Option (Int × Value × α)) : Item where
  S := it :: S
  Φ w := ∃ mv Ss A clock since seen c0, Rng w it r R S m rem last mv Ss A clock since seen c0
  loc w w' hb h := by
    obtain ⟨mv, Ss, A, clock, since, seen, c0, h⟩ := h
    have hS := h.row.hS
    refine ⟨mv, Ss, A, clock, since, seen, c0, h.row.loc (fun b hbs => hb b (List.mem_cons_of_mem _ hbs)), ?_, h.ents, ?_, h.apart, h.hold, h.le, h.le2, h.left, h.now⟩
    · rw [hb r (List.mem_cons_of_mem _ (by rw [hS]; exact List.mem_cons_self))]; exact h.map
    · rw [hb it List.mem_cons_self]; exact h.iter
  lt w h b hb := by
    obtain ⟨mv, Ss, A, clock, since, seen, c0, h⟩ := h
    rcases List.mem_cons.1 hb with rfl | hb
    · exact (Array.getElem?_eq_some_iff.1 h.iter).1
    · exact h.row.lt b hb
section
variable {P : Program} {N : Nat} {Q : Exit → Act → World → Prop} {fr fr' : List (Nat × Value)} {w w0 : World} {l : List Oper} {i : Nat} {o : Oper} {S0 : List Nat} {L : List Item} {α : Type} {R : Rp α} {r it : Nat} {S : List Nat} {m rem : List (Int × α)} {last : Option (Int × Value × α)}
theorem OW.range {d : Nat} {t tk te : TypeId} {x : Operand} {ty : TypeId} {pos : String} {af : Array Edge} {gdd : Option (Nat × Bool)} (hst : St w0 S0 w L) (j : Nat) (hj : L[j]? = some (mN r R S m none))
    (hl : opAt l i = some ⟨some d, .range t x, ty, pos, af, gdd⟩) (hg : gd l fr ⟨some d, .range t x, ty, pos, af, gdd⟩ = some true) (hN : Nat.blt d N = true) (hx : look fr x = some (.map (some r))) (ht : P.underlying t = some (.map tk te))
    (h : ∀ it w', St w0 S0 w' (L.set j (rngI it r R S m m none)) → OW P l N Q (i + 1) ((d, .pointer (some ⟨it, 0, none⟩)) :: fr) w') : OW P l N Q i fr w := by
  obtain ⟨mv, Ss, hr⟩ := hst.all j _ hj
  obtain ⟨A, clock, hA, hE⟩ := hr.map
  have hlt := hr.lt
  refine OW.op hl hg rfl hN (w' := w.alloc (.mapIter (some r) clock #[] clock)) (fun a ha => ?_) (h w.heap.size _ ?_)
  · have := run_range_map (P := P) w t tk te r A clock ht hA
    simp [execOp, ha.look hx, this]
  · have hchg : Chg (mN r R S m none).S w (w.alloc (.mapIter (some r) clock #[] clock)) := Chg.alloc _ _
    have hold : ∀ b ∈ S, (w.alloc (.mapIter (some r) clock #[] clock)).heap[b]? = w.heap[b]? := fun b hb => Below.heap_alloc _ _ _ (hlt b hb)
    have hnin : w.heap.size ∉ S := fun hb => Nat.lt_irrefl _ (hlt _ hb)
    refine hst.upd j hj hchg ⟨mv, Ss, A, clock, clock, #[], clock, hr.loc hold, ?_, hE, heap_alloc_new _ _, hnin, hE.lt, Nat.le_refl _, Nat.le_refl _, ?_, fun _ _ _ e => (by cases e)⟩ (fun b hb => ?_) (List.nodup_cons.2 ⟨hnin, hr.nd⟩)
    · rw [Below.heap_alloc _ _ _ (Array.getElem?_eq_some_iff.1 hA).1]; exact hA
    · have e1 : (A.toList.zip m).filter (fun p => !(#[] : Array Nat).contains p.1.born) = A.toList.zip m := List.filter_eq_self.2 (fun x _ => by simp)
      rw [e1, List.map_snd_zip (by have := hE.len; have := hr.len; omega)]
    · rcases List.mem_cons.1 hb with rfl | hb
      · exact .inr (Nat.le_refl _)
      · exact .inl hb
theorem born_inj {mv : List (Int × Value)} {A : List MapEntry} {clock : Nat} (h : Ents (fun v : Value => v) mv A clock) : (A.map (·.born)).Nodup := by
  have := h.born
  rw [List.nodup_iff_pairwise_ne, List.pairwise_map]
  exact this.imp (fun h => Nat.ne_of_lt h)
theorem OW.rnext {d : Nat} {x : Operand} {ty : TypeId} {pos : String} {af : Array Edge} {gdd : Option (Nat × Bool)} (hst : St w0 S0 w L) (j : Nat) (hj : L[j]? = some (rngI it r R S m rem last))
    (hl : opAt l i = some ⟨some d, .next x false, ty, pos, af, gdd⟩) (hg : gd l fr ⟨some d, .next x false, ty, pos, af, gdd⟩ = some true) (hN : Nat.blt d N = true) (hx : look fr x = some (.pointer (some ⟨it, 0, none⟩)))
    (h0 : rem = [] → OW P l N Q (i + 1) ((d, .tuple #[.bool false]) :: fr) w)
    (h1 : ∀ k v x rem' w', rem.Perm ((k, x) :: rem') → St w0 S0 w' (L.set j (rngI it r R S m rem' (some (k, v, x)))) → OW P l N Q (i + 1) ((d, .tuple #[.bool true, .int .i64 k, v]) :: fr) w') : OW P l N Q i fr w := by
  obtain ⟨mv, Ss, A, clock, since, seen, c0, h⟩ := hst.all j _ hj
  have hml : A.toList.length = m.length := by rw [h.ents.len, h.row.len]
  rcases run_next_at (P := P) w ty it r since c0 seen A clock h.iter h.map h.hold h.le with ⟨hz, hrun⟩ | ⟨e, he, w1, hw1, hrun⟩
  · refine OW.op hl hg rfl hN (w' := w) (fun a ha => ?_) (h0 ?_)
    · simp [execOp, ha.look hx, hrun]
    · rw [h.left]
      have : leftOf A seen = #[] := Array.eq_empty_of_size_eq_zero hz
      have hf : ∀ x ∈ A.toList, seen.contains x.born = true := by
        intro x hx
        cases hc : seen.contains x.born with
        | true => rfl
        | false =>
          have : x ∈ (leftOf A seen).toList := by
            unfold leftOf
            simp only [Array.toList_filter, List.mem_filter]
            exact ⟨hx, by rw [hc]; rfl⟩
          rw [‹leftOf A seen = #[]›] at this
          simp at this
      have e1 : (A.toList.zip m).filter (fun p => !seen.contains p.1.born) = [] := by
        rw [List.filter_eq_nil_iff]
        rintro ⟨x, y⟩ hp
        have := hf x (List.of_mem_zip hp).1
        simpa using this
      rw [e1]
      rfl
  · have hem : e ∈ A.toList ∧ seen.contains e.born = false := by
      have : e ∈ (leftOf A seen).toList := he
      unfold leftOf at this
      simp only [Array.toList_filter, List.mem_filter] at this
      exact ⟨this.1, by simpa using this.2⟩
    obtain ⟨n, hn, hne⟩ := List.mem_iff_getElem.1 hem.1
    have n1 : n < m.length := by omega
    have n2 : n < mv.length := by rw [h.row.len]; omega
    have hmv : (e.key, e.val) = (.int .i64 mv[n].1, mv[n].2) := by
      have h1 : (A.toList.map (fun e => (e.key, e.val)))[n]? = (mv.map (entOf (fun v : Value => v)))[n]? := by rw [h.ents.eq]
      rw [List.getElem?_map, List.getElem?_map, List.getElem?_eq_getElem hn, List.getElem?_eq_getElem n2, hne] at h1
      simpa [entOf] using h1
    have hkeys : mv[n].1 = m[n].1 := by
      have h1 : (mv.map (·.1))[n]? = (m.map (·.1))[n]? := by rw [h.row.keys]
      rw [List.getElem?_map, List.getElem?_map, List.getElem?_eq_getElem n1, List.getElem?_eq_getElem n2] at h1
      simpa using h1
    simp only [Prod.mk.injEq] at hmv
    have hchg : Chg [it] w (ChangeMaps.setBlock w1 it (.mapIter (some r) since (seen.push e.born) clock)) := by
      rcases hw1 with rfl | rfl
      · exact ⟨rfl, rfl, rfl, by simp [ChangeMaps.setBlock], fun k hk hn => by
          have : it ≠ k := fun e => hn (by simp [e])
          simp [ChangeMaps.setBlock, Array.getElem?_setIfInBounds, this]⟩
      · exact ⟨rfl, rfl, rfl, by simp [ChangeMaps.setBlock], fun k hk hn => by
          have : it ≠ k := fun e => hn (by simp [e])
          simp [ChangeMaps.setBlock, Array.getElem?_setIfInBounds, this]
          rfl⟩
    have hlt := h.row.lt
    have hlit := (Array.getElem?_eq_some_iff.1 h.iter).1
    have hS := h.row.hS
    have hri : r ≠ it := fun e1 => h.apart (by rw [← e1, hS]; exact List.mem_cons_self)
    refine OW.op hl hg rfl hN (w' := ChangeMaps.setBlock w1 it (.mapIter (some r) since (seen.push e.born) clock)) (fun a ha => ?_) (h1 mv[n].1 mv[n].2 m[n].2 (((A.toList.zip m).filter (fun p => !(seen.push e.born).contains p.1.born)).map (·.2)) _ ?_ ?_)
    · simp [execOp, ha.look hx, hrun, hmv.1, hmv.2]
    · rw [h.left]
      have hz : (e, m[n]) ∈ A.toList.zip m := by
        rw [List.mem_iff_getElem]
        exact ⟨n, by rw [List.length_zip]; omega, by rw [List.getElem_zip, hne]⟩
      have hpw : (A.toList.zip m).Pairwise (fun x y => x.1.born ≠ y.1.born) := by
        have h1 := born_inj h.ents
        have h2 : (A.toList.zip m).map (fun p => p.1.born) = A.toList.map (·.born) := by
          have h3 : ((A.toList.zip m).map Prod.fst).map (fun e : MapEntry => e.born) = A.toList.map (·.born) := by rw [List.map_fst_zip (by omega)]
          rw [← h3, List.map_map]
          rfl
        rw [← h2, List.nodup_iff_pairwise_ne, List.pairwise_map] at h1
        exact h1
      have := perm_strike (fun p : MapEntry × (Int × α) => p.1.born) (fun p => !seen.contains p.1.born) hpw hz (by simp only [hem.2]; rfl)
      have hm := this.map (·.2)
      rw [List.map_cons] at hm
      have e2 : (A.toList.zip m).filter (fun p => !(seen.push e.born).contains p.1.born) = (A.toList.zip m).filter (fun q => (!seen.contains q.1.born) && !decide (q.1.born = e.born)) := by
        apply List.filter_congr
        rintro ⟨x, y⟩ _
        have : (seen.push e.born).contains x.born = (seen.contains x.born || decide (x.born = e.born)) := by
          rw [Bool.eq_iff_iff]
          simp only [Array.contains_iff_mem, Array.mem_push, Bool.or_eq_true, decide_eq_true_eq]
        simp only [this, Bool.not_or]
      rw [e2]
      have e3 : (mv[n].1, m[n].2) = m[n] := by rw [hkeys]
      rw [e3]
      exact hm
    · have hch := hchg
      refine hst.upd j hj (hchg.mono (fun b hb => by rw [List.mem_singleton.1 hb]; exact List.mem_cons_self)) ⟨mv, Ss, A, clock, since, seen.push e.born, clock, h.row.loc (fun b hb => hch.block b (hlt b hb) (by simp only [List.mem_singleton]; rintro rfl; exact h.apart hb)), ?_, h.ents, ?_, h.apart, h.hold, h.le2, h.le2, rfl, fun k v x e1 => ?_⟩ (fun b hb => .inl hb) (List.nodup_cons.2 ⟨h.apart, h.row.nd⟩)
      · rw [hch.block r (Array.getElem?_eq_some_iff.1 h.map).1 (by simpa using hri)]; exact h.map
      · have : it < w1.heap.size := by rcases hw1 with rfl | rfl <;> exact hlit
        simp [ChangeMaps.setBlock, this]
      · simp only [Option.some.injEq, Prod.mk.injEq] at e1
        obtain ⟨rfl, rfl, rfl⟩ := e1
        exact ⟨rfl, n, e, seen, by rw [List.getElem?_eq_getElem hn, hne], List.getElem?_eq_getElem n2, by rw [List.getElem?_eq_getElem n1, hkeys], rfl⟩
theorem OW.rentry {d : Nat} {x : Operand} {ty : TypeId} {pos : String} {af : Array Edge} {gdd : Option (Nat × Bool)} {k : Int} {v : Value} {u : α} (hst : St w0 S0 w L) (j : Nat) (hj : L[j]? = some (rngI it r R S m rem (some (k, v, u))))
    (hl : opAt l i = some ⟨some d, .entry x, ty, pos, af, gdd⟩) (hg : gd l fr ⟨some d, .entry x, ty, pos, af, gdd⟩ = some true) (hN : Nat.blt d N = true) (hx : look fr x = some (.pointer (some ⟨it, 0, none⟩)))
    (h : OW P l N Q (i + 1) ((d, .tuple #[.int .i64 k, v]) :: fr) w) : OW P l N Q i fr w := by
  obtain ⟨mv, Ss, A, clock, since, seen, c0, hr⟩ := hst.all j _ hj
  obtain ⟨rfl, n, e, s', he, hmv, hm, rfl⟩ := hr.now k v u rfl
  have hrun := run_entry_at (P := P) w it r since s' A c0 e hr.iter hr.map (List.mem_of_getElem? he) (born_inj hr.ents)
  have hk : (e.key, e.val) = (.int .i64 k, v) := by
    have h1 : (A.toList.map (fun e => (e.key, e.val)))[n]? = (mv.map (entOf (fun v : Value => v)))[n]? := by rw [hr.ents.eq]
    rw [List.getElem?_map, List.getElem?_map, he, hmv] at h1
    simpa [entOf] using h1
  simp only [Prod.mk.injEq] at hk
  refine OW.op hl hg rfl hN (fun a ha => ?_) h
  simp [execOp, ha.look hx, hrun, hk.1, hk.2]
theorem St.rsee {k : Int} {v : Value} {u : α} (hst : St w0 S0 w L) (j : Nat) (hj : L[j]? = some (rngI it r R S m rem (some (k, v, u)))) (ids : List Nat) (hn : mem? j ids = false) : R.rd w (fp (sel L ids)) u [v] := by
  obtain ⟨mv, Ss, A, clock, since, seen, c0, hr⟩ := hst.all j _ hj
  obtain ⟨_, n, e, s', he, hmv, hm, _⟩ := hr.now k v u rfl
  have hl := (List.getElem?_eq_some_iff.1 hm).1
  have l2 : n < Ss.length := by rw [hr.row.ls]; exact hl
  have hown := hr.row.own n (k, v) Ss[n] (k, u) (fun _ _ e => (by cases e)) hmv (List.getElem?_eq_getElem l2) hm
  refine R.see _ _ _ _ _ hown (fun b hb => hst.noin j hj ids hn b ?_)
  show b ∈ it :: S
  rw [hr.row.hS]
  exact List.mem_cons_of_mem _ (List.mem_cons_of_mem _ (List.mem_flatten.2 ⟨Ss[n], List.getElem_mem l2, hb⟩))
theorem St.unrng (hst : St w0 S0 w L) (j : Nat) (hj : L[j]? = some (rngI it r R S m rem last)) : St w0 S0 w (L.set j (mN r R S m none)) := by
  obtain ⟨mv, Ss, A, clock, since, seen, c0, hr⟩ := hst.all j _ hj
  exact hst.upd j hj (Chg.refl _ _) ⟨mv, Ss, hr.row⟩ (fun b hb => .inl (List.mem_cons_of_mem _ hb)) hr.row.nd
end
theorem rangeF_step {ε σ ρ : Type} {body : ε → σ → Option (σ ⊕ ρ)} {fin : σ → Option ρ} {e : ε} {q : List ε} {s s' : σ} {o : Option ρ} (h : rangeF body fin (e :: q) s = o) (hb : body e s = some (.inl s')) : rangeF body fin q s' = o := by
  simpa [rangeF, hb] using h
theorem rng_lt {ε : Type} {rem rem' : List ε} {e : ε} {n : Nat} (hn : n = rem.length) (hp : rem.Perm (e :: rem')) : rem'.length < n := by
  have := hp.length_eq
  simp at this
  omega
end Go.Sx
