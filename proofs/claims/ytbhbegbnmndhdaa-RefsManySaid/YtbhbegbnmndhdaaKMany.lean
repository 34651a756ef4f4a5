/- RefsMany, in plain words. -/
import Derived.Test.YtbhbegbnmndhdaaKOnce
namespace Go.Proofs.Ytbhbegbnmndhdaa
open Go.Sx
set_option linter.unusedVariables false

/-- what programs hold is not long -/
def Small (r : refs_Refs) : Prop := ∀ e ∈ r.held, e.2.length * 8 ≤ 140737488355328
theorem Small.hold {r : refs_Refs} (h : Small r) (p : Int) (ms : List Int) (hl : ms.length * 8 ≤ 140737488355328) {q : Int × refs_Refs} (hq : refs_Refs_Hold r p ms = some q) : Small q.2 := by
  classical
  rw [hold_is r p ms hl] at hq
  split at hq
  · split at hq
    · cases hq; exact h
    · rename_i hm
      cases hq
      have hn : mget r.held p = none := by
        cases hx : mget r.held p with
        | none => rfl
        | some x => rw [hx] at hm; exact absurd rfl hm
      intro e he
      rw [show (refs_Refs.mk r.maps (Sx.mput r.held p ms)).held = r.held ++ [(p, ms)] from mput_new hn] at he
      rcases List.mem_append.1 he with he | he
      · exact h e he
      · simp at he; subst he; exact hl
  · cases hq; exact h
theorem mget_mem {α : Type} {m : List (Int × α)} {k : Int} {x : α} (h : mget m k = some x) : (k, x) ∈ m := by
  obtain ⟨j, _, h2⟩ := mpos_get h
  exact List.mem_of_getElem? h2
theorem mem_mget {α : Type} {m : List (Int × α)} (hk : Keys m) {k : Int} {x : α} (h : (k, x) ∈ m) : mget m k = some x := by
  induction m with
  | nil => simp at h
  | cons p m ih =>
    have hn := List.nodup_cons.1 (show (p.1 :: m.map (·.1)).Nodup from hk)
    unfold mget
    rcases List.mem_cons.1 h with rfl | h
    · simp
    · have : p.1 ≠ k := fun e => hn.1 (by rw [e]; exact List.mem_map.2 ⟨(k, x), h, rfl⟩)
      rw [if_neg (by simpa using this)]
      exact ih hn.2 h
theorem Small.held {r : refs_Refs} (h : Small r) (p : Int) : ((mget r.held p).getD []).length * 8 ≤ 140737488355328 := by
  cases hx : mget r.held p with
  | none => simp
  | some x => exact h _ (mget_mem hx)
theorem Keys.mdels {m : List (Int × List Int)} (h : Keys m) (ps : List Int) : Keys (mdels m ps) := h.sublist ((mdels_sub ps m).map _)
theorem mget_mdels {m : List (Int × List Int)} (h : Keys m) (ps : List Int) (q : Int) : mget (mdels m ps) q = if q ∈ ps then none else mget m q := by
  induction ps generalizing m with
  | nil => simp [mdels]
  | cons p r ih =>
    show mget (mdels (mdel m p) r) q = _
    rw [ih (h.mdel p), mget_mdel h]
    by_cases h1 : q ∈ r
    · simp [h1]
    · by_cases h2 : p = q
      · simp [h2]
      · simp [h1, h2, Ne.symm h2]
theorem both_loop (p0 : List tappetlaw18_Op) (hm : ∀ o ∈ p0, o.Maps.length * 8 ≤ 140737488355328) : OK (loop (tappetlaw18_RefsMany_l1 p0) 1000 ((⟨4, []⟩ : refs_Refs), (⟨4, []⟩ : refs_Refs), 0)) (fun o => ∃ r, o = .inl (r, r) ∧ Inv 4 300 r ∧ Small r) := by
  refine OK.rounds (fun s => ∃ (i : Nat) (r : refs_Refs), s = (r, r, (i : Int)) ∧ i ≤ 300 ∧ Inv 4 i r ∧ Small r) (fun s => 300 - s.2.2.toNat) ?_ 1000 _ ⟨0, ⟨4, []⟩, rfl, by omega, ⟨rfl, by simp [Keys], by simp, by simp⟩, by simp [Small]⟩ (by simp)
  rintro s again ⟨i, r, rfl, hl, hI, hS⟩ kk
  unfold tappetlaw18_RefsMany_l1
  refine OK.ite (fun hc => ?_) (fun hc => OK.ret ⟨r, rfl, hI.mono hl, hS⟩)
  simp only [Bool.and_eq_true, decide_eq_true_eq] at hc
  refine OK.bind (OK.getN (by omega) (fun x hx => ?_))
  have hmx := hm x (List.mem_of_getElem? hx)
  obtain ⟨q, h1, h2⟩ := hI.hold x.Prog x.Maps hmx
  have h3 := hS.hold x.Prog x.Maps hmx h1
  simp only [h1, Option.bind_some, bne_self_eq_false, Bool.false_eq_true, if_false]
  refine kk _ ⟨i + 1, q.2, ?_, by omega, h2, h3⟩ ?_
  · rw [w64_small (by omega) (by omega)]; simp
  · simp only; rw [w64_small (by omega) (by omega)]; omega
/-- are all held, and no two alike? -/
def fine (r : refs_Refs) (ps : List Int) : Prop := (∀ p ∈ ps, (mget r.held p).isSome = true) ∧ ps.Nodup
open Classical in
theorem inner_loop (p1 : List Int) (b : Bool) (i : Nat) (x : Int) (hi : p1[i]? = some x) (hl : i ≤ 100) (b0 : Bool) : loop (tappetlaw18_RefsMany_l3 p1 (b0, (i : Int))) 1000 (b, 0) = some (b && decide (x ∉ p1.take i)) := by
  have hil := (List.getElem?_eq_some_iff.1 hi).1
  refine OK.is (OK.rounds (fun s => ∃ k : Nat, s = (b && decide (x ∉ p1.take k), (k : Int)) ∧ k ≤ i) (fun s => 100 - s.2.toNat) ?_ 1000 _ ⟨0, by simp, by omega⟩ (by simp))
  rintro s again ⟨k, rfl, hk⟩ kk
  unfold tappetlaw18_RefsMany_l3
  refine OK.ite (fun hc => ?_) (fun hc => ?_)
  · simp only [decide_eq_true_eq] at hc
    have hki : k < i := by omega
    obtain ⟨y, hy⟩ : ∃ y, p1[k]? = some y := ⟨p1[k]'(by omega), List.getElem?_eq_getElem (by omega)⟩
    have ts := take_snoc hy
    refine OK.ite (fun hb => ?_) (fun hb => ?_)
    · rw [show idx p1 (k : Int) = some y by simp [idx, hy], show idx p1 (i : Int) = some x by simp [idx, hi]]
      simp only [Option.bind_some]
      simp only [Bool.and_eq_true, decide_eq_true_eq] at hb
      refine kk _ ⟨k + 1, ?_, by omega⟩ ?_
      · rw [w64_small (by omega) (by omega), ts]
        simp only [Prod.mk.injEq]
        refine ⟨?_, by omega⟩
        rw [hb.1]
        by_cases e : y = x
        · subst e; simp
        · have e2 : x ≠ y := fun h => e h.symm
          have := hb.2
          simp [e, e2, this]
      · simp only; rw [w64_small (by omega) (by omega)]; omega
    · refine kk _ ⟨k + 1, ?_, by omega⟩ ?_
      · rw [w64_small (by omega) (by omega), ts]
        simp only [Prod.mk.injEq]
        refine ⟨?_, by omega⟩
        cases b with
        | false => rfl
        | true =>
          have hb2 : x ∈ p1.take k := by simpa using hb
          simp [hb2]
      · simp only; rw [w64_small (by omega) (by omega)]; omega
  · simp only [decide_eq_false_iff_not] at hc
    have : k = i := by omega
    subst this
    exact OK.ret rfl
open Classical in
theorem fine_snoc {r : refs_Refs} {ps : List Int} {x : Int} : fine r (ps ++ [x]) ↔ fine r ps ∧ (mget r.held x).isSome = true ∧ x ∉ ps := by
  constructor
  · rintro ⟨h1, h2⟩
    have h3 := List.nodup_append.1 h2
    exact ⟨⟨fun p hp => h1 p (List.mem_append_left _ hp), h3.1⟩, h1 x (by simp), fun hx => h3.2.2 x hx x (by simp) rfl⟩
  · rintro ⟨⟨h1, h2⟩, h3, h4⟩
    refine ⟨fun p hp => ?_, List.nodup_append.2 ⟨h2, by simp, fun a ha b hb e => ?_⟩⟩
    · rcases List.mem_append.1 hp with hp | hp
      · exact h1 p hp
      · simp at hp; subst hp; exact h3
    · simp at hb; subst hb; subst e; exact h4 ha
open Classical in
theorem fine_loop (p1 : List Int) (r : refs_Refs) (hS : Small r) (t : refs_Refs) : OK (loop (tappetlaw18_RefsMany_l2 1000 p1 (r, t)) 1000 (true, 0)) (fun b => p1.length ≤ 100 → b = decide (fine r p1)) := by
  refine OK.rounds (fun s => ∃ i : Nat, s = (decide (fine r (p1.take i)), (i : Int)) ∧ i ≤ p1.length ∧ i ≤ 100) (fun s => 100 - s.2.toNat) ?_ 1000 _ ⟨0, by simp [fine], by omega, by omega⟩ (by simp)
  rintro s again ⟨i, rfl, hl, hl2⟩ kk
  unfold tappetlaw18_RefsMany_l2
  refine OK.ite (fun hc => ?_) (fun hc => OK.ret (fun h100 => ?_))
  · simp only [Bool.and_eq_true, decide_eq_true_eq] at hc
    refine OK.bind (OK.getN (by omega) (fun x hx => ?_))
    rw [held_is r x (hS.held x)]
    simp only [Option.bind_some]
    rw [inner_loop p1 _ i x hx (by omega)]
    simp only [Option.bind_some]
    refine kk _ ⟨i + 1, ?_, by omega, by omega⟩ ?_
    · rw [w64_small (by omega) (by omega), take_snoc hx]
      simp only [Prod.mk.injEq]
      refine ⟨?_, by omega⟩
      rw [Bool.eq_iff_iff]
      simp only [Bool.and_eq_true, decide_eq_true_eq, fine_snoc]
      constructor
      · rintro ⟨⟨a, b⟩, c⟩; exact ⟨a, b, c⟩
      · rintro ⟨a, b, c⟩; exact ⟨⟨a, b⟩, c⟩
    · simp only; rw [w64_small (by omega) (by omega)]; omega
  · have : i = p1.length := by
      simp only [Bool.and_eq_false_iff, decide_eq_false_iff_not] at hc
      omega
    subst this
    simp only [List.take_length]
open Classical in
theorem drops_loop (p1 : List Int) (h100 : p1.length ≤ 100) (r : refs_Refs) (hk : Keys r.held) : loop (tappetlaw18_RefsMany_l4 p1 (decide (fine r p1))) 1000 (r, 0) = some (.inl (if fine r p1 then ⟨r.maps, mdels r.held p1⟩ else r)) := by
  by_cases hf : fine r p1
  · rw [if_pos hf]
    simp only [hf, decide_true]
    refine OK.is (OK.rounds (fun s => ∃ i : Nat, s = (⟨r.maps, mdels r.held (p1.take i)⟩, (i : Int)) ∧ i ≤ p1.length) (fun s => 100 - s.2.toNat) ?_ 1000 _ ⟨0, rfl, by omega⟩ (by simp))
    rintro s again ⟨i, rfl, hl⟩ kk
    unfold tappetlaw18_RefsMany_l4
    refine OK.ite (fun hc => ?_) (fun hc => ?_)
    · simp only [Bool.and_true, decide_eq_true_eq] at hc
      refine OK.bind (OK.getN (by omega) (fun x hx => ?_))
      have ts := take_snoc hx
      have hfs : fine r (p1.take i ++ [x]) := by
        rw [← ts]
        exact ⟨fun p hp => hf.1 p (List.mem_of_mem_take hp), hf.2.sublist (List.take_sublist _ _)⟩
      obtain ⟨_, g1, g2⟩ := fine_snoc.1 hfs
      rw [drop_is, if_pos (by simp), if_pos (by
        intro p hp
        simp at hp
        subst hp
        show (mget (mdels r.held (p1.take i)) p).isSome = true
        rw [mget_mdels hk, if_neg g2]
        exact g1)]
      simp only [Option.bind_some, bne_self_eq_false, Bool.false_eq_true, if_false]
      refine kk _ ⟨i + 1, ?_, by omega⟩ ?_
      · rw [w64_small (by omega) (by omega), ts, mdels_snoc]
        rfl
      · simp only; rw [w64_small (by omega) (by omega)]; omega
    · have : i = p1.length := by
        simp only [Bool.and_true, decide_eq_false_iff_not] at hc
        omega
      subst this
      rw [List.take_length]
      exact OK.ret rfl
  · rw [if_neg hf]
    simp only [hf, decide_false]
    show tappetlaw18_RefsMany_l4 p1 false _ (r, 0) = _
    unfold tappetlaw18_RefsMany_l4
    rw [if_neg (by simp)]
theorem ints_true (xs : List Int) : tappetlaw18_ints xs xs = some true := by
  unfold tappetlaw18_ints
  rw [if_neg (by simp)]
  have : forN (tappetlaw18_ints_l1 xs xs) (fun (s : Unit) => (.inl ())) xs.length 0 () = some (.inl ()) := by
    refine OK.is (OK.count (fun _ _ => True) trivial ?_ (fun _ _ => rfl))
    intro i s again hi _ k
    unfold tappetlaw18_ints_l1
    refine OK.bind (OK.getN hi (fun x hx => OK.bind (OK.getN hi (fun y hy => ?_))))
    rw [hx] at hy
    cases hy
    rw [if_neg (by simp)]
    exact k _ trivial
  rw [this]
  rfl
theorem found_loop (i : Nat) (l : List Int) (b : Bool) : forN (tappetlaw18_RefsMany_l7 i (l, b)) (fun (s : Bool) => s) l.length 0 false = some (decide ((i : Int) ∈ l)) := by
  refine OK.is (OK.count (fun k s => s = decide ((i : Int) ∈ l.take k)) (by simp) ?_ ?_)
  · rintro k s again hk rfl kk
    unfold tappetlaw18_RefsMany_l7
    obtain ⟨x, hx⟩ : ∃ x, l[k]? = some x := ⟨l[k], List.getElem?_eq_getElem hk⟩
    have ts := take_snoc hx
    refine OK.ite (fun hb => kk _ ?_) (fun hb => ?_)
    · rw [ts]
      have : (i : Int) ∈ l.take k := by simpa using hb
      simp [this]
    · have hb2 : (i : Int) ∉ l.take k := by simpa using hb
      rw [show idx l (k : Int) = some x by simp [idx, hx]]
      refine kk _ ?_
      rw [ts]
      by_cases e : x = (i : Int)
      · simp [e]
      · have e2 : (i : Int) ≠ x := fun h => e h.symm
        simp [hb2, e, e2]
  · rintro s rfl
    rw [List.take_length]
theorem each_loop (z : refs_Refs) (c : Int) (hk : Keys z.held) (hS : Small z) (i : Nat) (hs : List Int) (hh : hs = (holds (i : Int) z.held).mergeSort fun x y => decide (x ≤ y)) (hlen : hs.length ≤ 1000000) : forN (tappetlaw18_RefsMany_l6 (c, z) i hs) (fun (s : Unit) => (.inl ())) hs.length 0 () = some (.inl ()) := by
  have tr : ∀ x y z : Int, decide (x ≤ y) = true → decide (y ≤ z) = true → decide (x ≤ z) = true := by intro x y z; simp; omega
  have to : ∀ x y : Int, (decide (x ≤ y) || decide (y ≤ x)) = true := by intro x y; simp; omega
  have hp : hs.Perm (holds (i : Int) z.held) := by rw [hh]; exact List.mergeSort_perm _ _
  have hsort : hs.Pairwise (fun x y => x ≤ y) := by
    have := List.pairwise_mergeSort tr to (holds (i : Int) z.held)
    rw [← hh] at this
    exact this.imp (fun h => by simpa using h)
  have hnd : hs.Nodup := by
    rw [hp.nodup_iff]
    exact hk.sublist (List.filter_sublist.map _)
  refine OK.is (OK.count (fun _ _ => True) trivial ?_ (fun _ _ => rfl))
  intro j s again hj _ k
  unfold tappetlaw18_RefsMany_l6
  refine OK.bind (OK.getN hj (fun x hx => ?_))
  have hmem : x ∈ holds (i : Int) z.held := hp.mem_iff.1 (List.mem_of_getElem? hx)
  obtain ⟨e, he, rfl⟩ := List.mem_map.1 hmem
  obtain ⟨he1, he2⟩ := List.mem_filter.1 he
  have hg : mget z.held e.1 = some e.2 := mem_mget hk he1
  have hin : (i : Int) ∈ e.2 := by simpa using he2
  rw [held_is z e.1 (hS.held e.1), hg]
  simp only [Option.bind_some, Option.getD_some, Option.isSome_some]
  rw [found_loop]
  simp only [Option.bind_some, hin, decide_true, Bool.not_true, Bool.false_eq_true, if_false]
  refine OK.bind (OK.ite (fun hpos => ?_) (fun _ => OK.ret ?_))
  · simp only [decide_eq_true_eq] at hpos
    have h1 : j - 1 < hs.length := by omega
    rw [w64_eq (by omega) (by omega), show (j : Int) - 1 = ((j - 1 : Nat) : Int) by omega]
    refine OK.bind (OK.getN h1 (fun y hy => OK.ret ?_))
    have hlt : y < e.1 := by
      have h2 := (List.getElem?_eq_some_iff.1 hy)
      have h3 := (List.getElem?_eq_some_iff.1 hx)
      have h4 := List.pairwise_iff_getElem.1 hsort (j - 1) j h2.1 h3.1 (by omega)
      have h5 := (List.pairwise_iff_getElem.1 (List.nodup_iff_pairwise_ne.1 hnd)) (j - 1) j h2.1 h3.1 (by omega)
      rw [h2.2, h3.2] at h4 h5
      omega
    rw [if_neg (by simp; omega)]
    exact k _ trivial
  · simp only [Bool.false_eq_true, if_false]
    exact k _ trivial
theorem last_loop (z : refs_Refs) (c : Int) (hk : Keys z.held) (hS : Small z) (hlen : z.held.length ≤ 300) : forN (tappetlaw18_RefsMany_l5 (c, z) z) (fun (s : Unit) => (.inl ())) 4 0 () = some (.inl ()) := by
  refine OK.is (OK.count (fun _ _ => True) trivial ?_ (fun _ _ => rfl))
  intro i s again hi _ k
  unfold tappetlaw18_RefsMany_l5
  rw [holders_is z i (by omega)]
  simp only [Option.bind_some]
  rw [ints_true]
  simp only [Option.bind_some, Bool.not_true, Bool.false_eq_true, if_false]
  rw [each_loop z c hk hS i _ rfl (by rw [List.length_mergeSort]; have := holds_le (i : Int) z.held; omega)]
  exact k _ trivial
theorem many_true (p0 : List tappetlaw18_Op) (p1 : List Int) (hm : ∀ o ∈ p0, o.Maps.length * 8 ≤ 140737488355328) (hl : p1.length * 8 ≤ 140737488355328) : tappetlaw18_RefsMany 1000 p0 p1 = some true := by
  classical
  unfold tappetlaw18_RefsMany
  rw [awake_true]
  simp only [Option.bind_some, Bool.not_true, Bool.false_eq_true, if_false]
  rw [new_is 4 (by omega) (by omega)]
  simp only [Option.bind_some, ocase, bne_self_eq_false, Bool.or_self, Bool.false_eq_true, if_false]
  obtain ⟨o, h1, r, rfl, hI, hS⟩ := both_loop p0 hm
  rw [h1]
  simp only [Option.bind_some]
  obtain ⟨b, h2, hb⟩ := fine_loop p1 r hS r
  rw [h2]
  simp only [Option.bind_some]
  by_cases h100 : p1.length ≤ 100
  · rw [if_neg (by simp; omega)]
    have hb := hb h100
    subst hb
    unfold room
    rw [if_pos (by simpa using hl)]
    simp only [Option.bind_some, List.nil_append]
    have hd : refs_Refs_Drop r p1 = some (if fine r p1 then 0 else if p1.Nodup then 41 else 2, if fine r p1 then ⟨r.maps, mdels r.held p1⟩ else r) := by
      rw [drop_is]
      by_cases hn : p1.Nodup
      · by_cases ha : ∀ p ∈ p1, (mget r.held p).isSome = true
        · rw [if_pos hn, if_pos ha, if_pos (show fine r p1 from ⟨ha, hn⟩), if_pos (show fine r p1 from ⟨ha, hn⟩)]
        · rw [if_pos hn, if_neg ha, if_neg (fun h : fine r p1 => ha h.1), if_neg (fun h : fine r p1 => ha h.1), if_pos hn]
      · rw [if_neg hn, if_neg (fun h : fine r p1 => hn h.2), if_neg (fun h : fine r p1 => hn h.2), if_neg hn]
    rw [hd]
    simp only [Option.bind_some]
    rw [if_neg (by
      by_cases hf : fine r p1
      · simp [hf]
      · by_cases hn : p1.Nodup <;> simp [hf, hn])]
    rw [drops_loop p1 h100 r hI.keys]
    simp only [Option.bind_some]
    have hz : Keys (if fine r p1 then (⟨r.maps, mdels r.held p1⟩ : refs_Refs) else r).held ∧ Small (if fine r p1 then (⟨r.maps, mdels r.held p1⟩ : refs_Refs) else r) ∧ (if fine r p1 then (⟨r.maps, mdels r.held p1⟩ : refs_Refs) else r).held.length ≤ 300 := by
      split
      · exact ⟨hI.keys.mdels p1, fun e he => hS e ((mdels_sub p1 r.held).subset he), Nat.le_trans (mdels_sub p1 r.held).length_le hI.len⟩
      · exact ⟨hI.keys, hS, hI.len⟩
    rw [last_loop _ _ hz.1 hz.2.1 hz.2.2]
    rfl
  · rw [if_pos (by simp; omega)]
end Go.Proofs.Ytbhbegbnmndhdaa
