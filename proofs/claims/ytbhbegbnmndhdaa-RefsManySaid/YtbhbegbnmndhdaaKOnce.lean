/- RefsOnce, in plain words. -/
import Derived.Test.YtbhbegbnmndhdaaKRefs
namespace Go.Proofs.Ytbhbegbnmndhdaa
open Go.Sx
set_option linter.unusedVariables false

theorem new_is (k : Int) (h0 : 0 ≤ k) (h1 : k ≤ 4) : refs_New k = some (some ⟨k, []⟩, 0) := by
  unfold refs_New
  rw [if_neg (by simp; omega)]
theorem new_bad (k : Int) (h : ¬ (0 ≤ k ∧ k ≤ 4)) : refs_New k = some (none, 2) := by
  unfold refs_New
  rw [if_pos (by simp; omega)]
theorem awake_true : tappetlaw18_awake = some true := by
  have g1 : goodM 3 [2, 0] := ⟨by decide, by decide⟩
  have g2 : goodM 3 [] := ⟨by simp, by simp⟩
  have e1 := new_is 3 (by omega) (by omega)
  have e2 := hold_is ⟨3, []⟩ 7 [2, 0] (by decide)
  rw [if_pos g1] at e2
  have e2 : refs_Refs_Hold ⟨3, []⟩ 7 [2, 0] = some (0, ⟨3, [(7, [2, 0])]⟩) := e2
  have e3 := count_is ⟨3, [(7, [2, 0])]⟩ 2 (by decide) (by omega) (by decide)
  have e3 : refs_Refs_Count ⟨3, [(7, [2, 0])]⟩ 2 = some (1, 0) := e3
  have e4 := held_is ⟨3, [(7, [2, 0])]⟩ 7 (by decide)
  have e4 : refs_Refs_Held ⟨3, [(7, [2, 0])]⟩ 7 = some ([2, 0], true) := e4
  have e5 := hold_is ⟨3, [(7, [2, 0])]⟩ 7 [] (by decide)
  rw [if_pos g2] at e5
  have e5 : refs_Refs_Hold ⟨3, [(7, [2, 0])]⟩ 7 [] = some (42, ⟨3, [(7, [2, 0])]⟩) := e5
  unfold tappetlaw18_awake
  rw [e1]
  simp only [Option.bind_some, ocase]
  rw [e2]
  simp only [Option.bind_some, bne_self_eq_false, Bool.false_eq_true, if_false]
  rw [e3, e4]
  simp only [Option.bind_some]
  rw [show idx ([2, 0] : List Int) 0 = some 2 from rfl]
  simp only [Option.bind_some, e5]
  rfl
/-- a state that calls lead to -/
structure Inv (k : Int) (n : Nat) (r : refs_Refs) : Prop where
  maps : r.maps = k
  keys : Keys r.held
  len : r.held.length ≤ n
  good : ∀ e ∈ r.held, goodM k e.2
theorem Inv.mono {k : Int} {n m : Nat} {r : refs_Refs} (h : Inv k n r) (hm : n ≤ m) : Inv k m r := ⟨h.maps, h.keys, Nat.le_trans h.len hm, h.good⟩
theorem Inv.hold {k : Int} {n : Nat} {r : refs_Refs} (h : Inv k n r) (p : Int) (ms : List Int) (hl : ms.length * 8 ≤ 140737488355328) : OK (refs_Refs_Hold r p ms) (fun q => Inv k (n + 1) q.2) := by
  classical
  rw [hold_is r p ms hl]
  refine OK.ret ?_
  split
  · rename_i hg
    split
    · exact h.mono (by omega)
    · rename_i hm
      have hn : mget r.held p = none := by
        cases hq : mget r.held p with
        | none => rfl
        | some x => rw [hq] at hm; exact absurd rfl hm
      refine ⟨h.maps, h.keys.mput hn, ?_, fun e he => ?_⟩
      · have := mput_len r.held p ms
        have := h.len
        simp only
        omega
      · rw [show (refs_Refs.mk r.maps (Sx.mput r.held p ms)).held = r.held ++ [(p, ms)] from mput_new hn] at he
        rcases List.mem_append.1 he with he | he
        · exact h.good e he
        · simp at he; subst he; rw [← h.maps]; exact hg
  · exact h.mono (by omega)
theorem mdels_sub {α : Type} (ps : List Int) (m : List (Int × α)) : (mdels m ps).Sublist m := by
  induction ps generalizing m with
  | nil => exact List.Sublist.refl _
  | cons p r ih => exact (ih _).trans (mdel_keys _ _)
theorem Inv.drop {k : Int} {n : Nat} {r : refs_Refs} (h : Inv k n r) (ps : List Int) : OK (refs_Refs_Drop r ps) (fun q => Inv k n q.2) := by
  classical
  rw [drop_is]
  refine OK.ret ?_
  split
  · split
    · have hs := mdels_sub ps r.held
      exact ⟨h.maps, h.keys.sublist (hs.map _), Nat.le_trans hs.length_le h.len, fun e he => h.good e (hs.subset he)⟩
    · exact h
  · exact h
theorem w64_small {i : Int} (h0 : 0 ≤ i) (h1 : i < 1000000) : w64 (i + 1) = i + 1 := w64_eq (by omega) (by omega)
theorem script_loop (p1 : List tappetlaw18_Op) (hm : ∀ o ∈ p1, o.Maps.length * 8 ≤ 140737488355328) (k : Int) (r0 : refs_Refs) (h0 : Inv k 0 r0) : OK (loop (tappetlaw18_RefsOnce_l1 p1) 1000 (r0, 0)) (fun r => Inv k 300 r) := by
  refine OK.rounds (fun s => ∃ i : Nat, s.2 = (i : Int) ∧ i ≤ 300 ∧ Inv k i s.1) (fun s => 300 - s.2.toNat) ?_ 1000 (r0, 0) ⟨0, rfl, by omega, h0⟩ (by simp)
  rintro ⟨r, j⟩ again ⟨i, hi, hl, hI⟩ kk
  simp only at hi hI
  subst hi
  unfold tappetlaw18_RefsOnce_l1
  refine OK.ite (fun hc => ?_) (fun hc => OK.ret (hI.mono hl))
  simp only [Bool.and_eq_true, decide_eq_true_eq] at hc
  refine OK.bind (OK.getN (by omega) (fun x hx => ?_))
  have hmx := hm x (List.mem_of_getElem? hx)
  refine OK.ite (fun _ => OK.bind2 (hI.hold _ _ hmx) (fun q hq => ?_)) (fun _ => OK.bind2 (hI.drop _) (fun q hq => ?_))
  · refine kk _ ⟨i + 1, ?_, by omega, hq⟩ ?_
    · simp only; rw [w64_small (by omega) (by omega)]; omega
    · simp only; rw [w64_small (by omega) (by omega)]; omega
  · refine kk _ ⟨i + 1, ?_, by omega, hq.mono (by omega)⟩ ?_
    · simp only; rw [w64_small (by omega) (by omega)]; omega
    · simp only; rw [w64_small (by omega) (by omega)]; omega
/-- the maps that are held in the law: all below k but q -/
def allBut (q : Int) (n : Nat) : List Int := ((List.range n).map (fun m : Nat => (m : Int))).filter (fun m => m != q)
theorem allBut_succ (q : Int) (n : Nat) : allBut q (n + 1) = if (n : Int) != q then allBut q n ++ [(n : Int)] else allBut q n := by
  unfold allBut
  rw [List.range_succ, List.map_append, List.filter_append]
  by_cases h : ((n : Int) != q) = true
  · rw [if_pos h]; simp [List.filter_cons, h]
  · rw [if_neg h]; simp [List.filter_cons, h]
theorem allBut_good (q : Int) (n : Nat) : goodM (n : Int) (allBut q n) := by
  unfold allBut
  refine ⟨List.Nodup.sublist List.filter_sublist ?_, fun m hm => ?_⟩
  · rw [List.nodup_iff_pairwise_ne, List.pairwise_map]
    exact (List.nodup_iff_pairwise_ne.1 List.nodup_range).imp (fun h e => h (by omega))
  · obtain ⟨a, ha, rfl⟩ := List.mem_map.1 (List.mem_filter.1 hm).1
    have := List.mem_range.1 ha
    omega
theorem allBut_len (q : Int) (n : Nat) : (allBut q n).length ≤ n := by
  unfold allBut
  exact Nat.le_trans (List.length_filter_le _ _) (by simp)
theorem allBut_mem (q : Int) (n m : Nat) (h : m < n) : ((m : Int) ∈ allBut q n) ↔ (m : Int) ≠ q := by
  unfold allBut
  rw [List.mem_filter]
  constructor
  · rintro ⟨_, h2⟩; simpa using h2
  · intro h2
    exact ⟨List.mem_map.2 ⟨m, List.mem_range.2 h, rfl⟩, by simpa using h2⟩
def counts (h : List (Int × List Int)) (n : Nat) : List Int := (List.range n).map (fun m : Nat => ((holds (m : Int) h).length : Int))
theorem counts_succ (h : List (Int × List Int)) (n : Nat) : counts h (n + 1) = counts h n ++ [((holds (n : Int) h).length : Int)] := by
  unfold counts
  rw [List.range_succ, List.map_append]
  rfl
theorem counts_at (h : List (Int × List Int)) (n m : Nat) (hm : m < n) : idx (counts h n) (m : Int) = some ((holds (m : Int) h).length : Int) := by
  unfold idx counts
  rw [if_pos (by omega)]
  simp [hm]
theorem counts_len (h : List (Int × List Int)) (n : Nat) : (counts h n).length = n := by simp [counts]
theorem gather_loop (k : Nat) (hk : k ≤ 4) (p2 : Int) (c : Int) (r : refs_Refs) (h : Inv (k : Int) 300 r) :
    loop (tappetlaw18_RefsOnce_l2 (k : Int) p2 (c, r)) 1000 (([] : List Int), ([] : List Int), 0) = some (allBut (p2.tmod 4) k, counts r.held k) := by
  refine OK.is (OK.rounds (fun s => ∃ i : Nat, s.2.2 = (i : Int) ∧ i ≤ k ∧ s.1 = allBut (p2.tmod 4) i ∧ s.2.1 = counts r.held i) (fun s => 4 - s.2.2.toNat) ?_ 1000 _ ⟨0, rfl, by omega, rfl, rfl⟩ (by simp))
  rintro ⟨a, w, j⟩ again ⟨i, hi, hl, ha, hw⟩ kk
  simp only at hi ha hw
  subst hi; subst ha; subst hw
  unfold tappetlaw18_RefsOnce_l2
  have hlen := h.len
  refine OK.ite (fun hc => ?_) (fun hc => ?_)
  · simp only [decide_eq_true_eq] at hc
    rw [count_is r i (by omega) (by omega) (by rw [h.maps]; exact hc)]
    have l1 := counts_len r.held i
    have l2 := allBut_len (p2.tmod 4) i
    simp only [Option.bind_some]
    refine OK.bind (OK.hasRoom (by simp only [List.length_cons, List.length_nil]; omega) ?_)
    refine OK.ite (fun hq => OK.bind (OK.hasRoom (by simp only [List.length_cons, List.length_nil]; omega) ?_)) (fun hq => ?_)
    · refine kk _ ⟨i + 1, ?_, by omega, ?_, ?_⟩ ?_
      · simp only; rw [w64_small (by omega) (by omega)]; omega
      · simp only; rw [allBut_succ, if_pos hq]
      · simp only; rw [counts_succ]
      · simp only; rw [w64_small (by omega) (by omega)]; omega
    · refine kk _ ⟨i + 1, ?_, by omega, ?_, ?_⟩ ?_
      · simp only; rw [w64_small (by omega) (by omega)]; omega
      · simp only; rw [allBut_succ, if_neg (by rw [hq]; simp)]
      · simp only; rw [counts_succ]
      · simp only; rw [w64_small (by omega) (by omega)]; omega
  · simp only [decide_eq_false_iff_not] at hc
    have : i = k := by omega
    subst this
    exact OK.ret rfl
theorem holds_snoc (m : Int) (h : List (Int × List Int)) (p : Int) (l : List Int) : (holds m (h ++ [(p, l)])).length = (holds m h).length + (if m ∈ l then 1 else 0) := by
  unfold holds
  rw [List.filter_append, List.map_append, List.length_append]
  by_cases hm : m ∈ l
  · simp [List.filter_cons, hm]
  · simp [List.filter_cons, hm]
theorem holds_le (m : Int) (h : List (Int × List Int)) : (holds m h).length ≤ h.length := by
  unfold holds
  rw [List.length_map]
  exact List.length_filter_le _ _
theorem more_loop (k : Nat) (hk : k ≤ 4) (p2 : Int) (a : List Int) (r : refs_Refs) (h : Inv (k : Int) 300 r) (b : Bool) :
    loop (tappetlaw18_RefsOnce_l3 (k : Int) p2 (a, counts r.held k) (⟨(k : Int), r.held ++ [(p2, allBut (p2.tmod 4) k)]⟩, b)) 1000 0 = some (.inl ()) := by
  refine OK.is (OK.rounds (fun s => ∃ i : Nat, s = (i : Int) ∧ i ≤ k) (fun s => 4 - s.toNat) ?_ 1000 _ ⟨0, rfl, by omega⟩ (by simp))
  rintro j again ⟨i, rfl, hl⟩ kk
  unfold tappetlaw18_RefsOnce_l3
  have hlen := h.len
  refine OK.ite (fun hc => ?_) (fun hc => OK.ret rfl)
  simp only [decide_eq_true_eq] at hc
  have hb : (r.held ++ [(p2, allBut (p2.tmod 4) k)]).length * 8 ≤ 140737488355328 := by simp; omega
  rw [count_is ⟨(k : Int), r.held ++ [(p2, allBut (p2.tmod 4) k)]⟩ i hb (by omega) hc]
  simp only [Option.bind_some, counts_at r.held k i (by omega), holds_snoc]
  rw [holders_is _ _ hb]
  have hle := holds_le (i : Int) r.held
  by_cases hq : (i : Int) = p2.tmod 4
  · have hn : ¬ ((i : Int) ∈ allBut (p2.tmod 4) k) := fun hx => (allBut_mem _ k i (by omega)).1 hx hq
    simp only [show ((i : Int) == p2.tmod 4) = true by simpa using hq, if_true, Option.bind_some, if_neg hn, Nat.add_zero, Int.add_zero]
    rw [w64_eq (by omega) (by omega)]
    simp only [bne_self_eq_false, Bool.false_eq_true, if_false, Option.bind_some, List.length_mergeSort, holds_snoc, if_neg hn, Nat.add_zero]
    refine kk _ ⟨i + 1, ?_, by omega⟩ ?_
    · rw [w64_small (by omega) (by omega)]; omega
    · rw [w64_small (by omega) (by omega)]; omega
  · have hn : (i : Int) ∈ allBut (p2.tmod 4) k := (allBut_mem _ k i (by omega)).2 hq
    simp only [show ((i : Int) == p2.tmod 4) = false by simpa using hq, Bool.false_eq_true, if_false, Option.bind_some, if_pos hn]
    rw [w64_eq (by omega) (by omega)]
    have e1 : (((holds (i : Int) r.held).length + 1 : Nat) : Int) = ((holds (i : Int) r.held).length : Int) + 1 := by omega
    simp only [e1, bne_self_eq_false, Bool.false_eq_true, if_false, Option.bind_some, List.length_mergeSort, holds_snoc, if_pos hn]
    refine kk _ ⟨i + 1, ?_, by omega⟩ ?_
    · rw [w64_small (by omega) (by omega)]; omega
    · rw [w64_small (by omega) (by omega)]; omega
theorem less_loop (k : Nat) (hk : k ≤ 4) (a : List Int) (r : refs_Refs) (h : Inv (k : Int) 300 r) (b : Bool) : loop (tappetlaw18_RefsOnce_l4 (k : Int) (a, counts r.held k) (r, b)) 1000 0 = some (.inl ()) := by
  refine OK.is (OK.rounds (fun s => ∃ i : Nat, s = (i : Int) ∧ i ≤ k) (fun s => 4 - s.toNat) ?_ 1000 _ ⟨0, rfl, by omega⟩ (by simp))
  rintro j again ⟨i, rfl, hl⟩ kk
  unfold tappetlaw18_RefsOnce_l4
  have hlen := h.len
  refine OK.ite (fun hc => ?_) (fun hc => OK.ret rfl)
  simp only [decide_eq_true_eq] at hc
  rw [count_is r i (by omega) (by omega) (by rw [h.maps]; exact hc)]
  simp only [Option.bind_some, counts_at r.held k i (by omega), bne_self_eq_false, Bool.false_eq_true, if_false]
  refine kk _ ⟨i + 1, ?_, by omega⟩ ?_
  · rw [w64_small (by omega) (by omega)]; omega
  · rw [w64_small (by omega) (by omega)]; omega
theorem once_true (p0 : Int) (p1 : List tappetlaw18_Op) (p2 : Int) (hm : ∀ o ∈ p1, o.Maps.length * 8 ≤ 140737488355328) : tappetlaw18_RefsOnce 1000 p0 p1 p2 = some true := by
  classical
  unfold tappetlaw18_RefsOnce
  rw [awake_true]
  simp only [Option.bind_some, Bool.not_true, Bool.false_eq_true, if_false]
  by_cases hk : 0 ≤ p0 ∧ p0 ≤ 4
  · obtain ⟨k, rfl⟩ := Int.eq_ofNat_of_zero_le hk.1
    have hk4 : k ≤ 4 := by omega
    rw [new_is _ hk.1 hk.2]
    simp only [Option.bind_some, ocase, bne_self_eq_false, Bool.false_eq_true, if_false]
    obtain ⟨r, h1, hI⟩ := script_loop p1 hm (k : Int) ⟨(k : Int), []⟩ ⟨rfl, by simp [Keys], by simp, by simp⟩
    rw [h1]
    simp only [Option.bind_some]
    -- the program holds nothing
    obtain ⟨c, r1, h2, hI1, hn⟩ : ∃ c r1, refs_Refs_Drop r [p2] = some (c, r1) ∧ Inv (k : Int) 300 r1 ∧ mget r1.held p2 = none := by
      obtain ⟨q, hq, hqI⟩ := hI.drop [p2]
      refine ⟨q.1, q.2, hq, hqI, ?_⟩
      rw [drop_is, if_pos (by simp)] at hq
      split at hq
      · cases hq
        show mget (mdel r.held p2) p2 = none
        rw [mget_mdel hI.keys, if_pos rfl]
      · rename_i hh
        cases hq
        cases hx : mget r.held p2 with
        | none => rfl
        | some x => exact absurd (fun p hp => by simp at hp; subst hp; rw [hx]; rfl) hh
    rw [h2]
    simp only [Option.bind_some]
    rw [gather_loop k hk4 p2 c r1 hI1]
    simp only [Option.bind_some]
    have hl := allBut_len (p2.tmod 4) k
    have hg := allBut_good (p2.tmod 4) k
    have hg1 : goodM r1.maps (allBut (p2.tmod 4) k) := by rw [hI1.maps]; exact hg
    have e1 : refs_Refs_Hold r1 p2 (allBut (p2.tmod 4) k) = some (0, ⟨(k : Int), r1.held ++ [(p2, allBut (p2.tmod 4) k)]⟩) := by
      rw [hold_is _ _ _ (by omega), if_pos hg1, if_neg (by rw [hn]; simp), mput_new hn, hI1.maps]
    have hs : mget (r1.held ++ [(p2, allBut (p2.tmod 4) k)]) p2 = some (allBut (p2.tmod 4) k) := by
      rw [← mput_new hn, mget_mput, if_pos rfl]
    have e2 : refs_Refs_Hold ⟨(k : Int), r1.held ++ [(p2, allBut (p2.tmod 4) k)]⟩ p2 (allBut (p2.tmod 4) k) = some (42, ⟨(k : Int), r1.held ++ [(p2, allBut (p2.tmod 4) k)]⟩) := by
      rw [hold_is _ _ _ (by omega), if_pos hg, if_pos (by simp only [hs]; rfl)]
    have e3 : refs_Refs_Drop ⟨(k : Int), r1.held ++ [(p2, allBut (p2.tmod 4) k)]⟩ [p2] = some (0, r1) := by
      rw [drop_is, if_pos (by simp), if_pos (by intro p hp; simp at hp; subst hp; simp only [hs]; rfl)]
      have : mdels (r1.held ++ [(p2, allBut (p2.tmod 4) k)]) [p2] = r1.held := mdel_snoc hn
      simp only [this, ← hI1.maps]
    have e4 : refs_Refs_Drop r1 [p2] = some (41, r1) := by
      rw [drop_is, if_pos (by simp), if_neg (by intro hh; have := hh p2 (by simp); rw [hn] at this; cases this)]
    have e5 : refs_Refs_Drop r1 [p2, p2] = some (2, r1) := by rw [drop_is, if_neg (by simp)]
    have e6 : refs_Refs_Drop r1 [] = some (0, r1) := by
      rw [drop_is, if_pos (by simp), if_pos (by simp)]
      rfl
    simp only [e1, Option.bind_some, bne_self_eq_false, Bool.false_eq_true, if_false, e2]
    rw [more_loop k hk4 p2 _ r1 hI1 false]
    simp only [Option.bind_some, e3, bne_self_eq_false, Bool.false_eq_true, if_false, e4, e5, e6]
    rw [less_loop k hk4 _ r1 hI1 false]
    rfl
  · rw [new_bad p0 hk]
    rfl
end Go.Proofs.Ytbhbegbnmndhdaa
