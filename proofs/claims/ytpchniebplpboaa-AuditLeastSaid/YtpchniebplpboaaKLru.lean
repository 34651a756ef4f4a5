/- A bounded map: the program keeps the keys by their last touch, the document their times. -/
import Derived.Test.YtpchniebplpboaaKBook2
set_option linter.unusedVariables false
set_option linter.unusedSimpArgs false
namespace Go.Proofs.Ytpchniebplpboaa
open Go.Sx

theorem filter_take_next {l : List Int} {i : Nat} {x k : Int} (h : l[i]? = some x) : (l.take (i + 1)).filter (· != k) = (l.take i).filter (· != k) ++ if x != k then [x] else [] := by
  rw [List.take_add_one, h, List.filter_append]
  congr 1
  by_cases e : (x != k) = true
  · simp [e]
  · simp [e]
theorem index_first (l : List Int) (k : Int) (hl : l.length ≤ 100) : OK (slices_IndexFunc_uint64_uint64_94 l k) (fun i => (i = -1 ∧ k ∉ l) ∨ ∃ n : Nat, i = (n : Int) ∧ l[n]? = some k ∧ k ∉ l.take n) := by
  unfold slices_IndexFunc_uint64_uint64_94
  refine OK.bind2 (R := fun o => match o with | .inl _ => k ∉ l | .inr i => ∃ n : Nat, i = (n : Int) ∧ l[n]? = some k ∧ k ∉ l.take n) (OK.count (fun i _ => k ∉ l.take i) (by simp) ?_ ?_) ?_
  · intro i s again hi h kk
    unfold slices_IndexFunc_uint64_uint64_94_l1 lru_LRU_drop_1
    refine OK.bind (OK.getN hi (fun y hy => ?_))
    simp only [Option.bind_some]
    refine OK.ite (fun he => OK.ret ?_) (fun he => kk _ ?_)
    · have : y = k := by simpa using he
      subst this
      exact ⟨i, rfl, hy, h⟩
    · have hne : ¬ y = k := by simpa using he
      rw [List.take_add_one, hy]
      simp only [Option.toList_some, List.mem_append, List.mem_singleton, not_or]
      exact ⟨h, fun e => hne e.symm⟩
  · intro s h
    rw [List.take_length] at h
    exact h
  · rintro (u | r) h
    · exact OK.ret (.inl ⟨rfl, h⟩)
    · exact OK.ret (.inr h)
theorem not_mem_filter {l : List Int} {k : Int} (h : k ∉ l) : l.filter (· != k) = l := by
  refine List.filter_eq_self.2 (fun x hx => ?_)
  have : ¬ x = k := fun e => h (by rw [← e]; exact hx)
  simpa using this
theorem delete_is {fu : Nat} (hfu : 101 < fu) (l : List Int) (k : Int) (hl : l.length ≤ 100) : slices_DeleteFunc_uint64_uint64_94 fu l k = some (l.filter (· != k)) := by
  refine OK.is ?_
  unfold slices_DeleteFunc_uint64_uint64_94
  refine OK.bind2 (index_first l k hl) (fun i hi => ?_)
  refine OK.ite (fun c => ?_) (fun c => ?_)
  · rcases hi with ⟨_, hn⟩ | ⟨n, rfl, _⟩
    · exact OK.ret (not_mem_filter hn).symm
    · simp at c
  · rcases hi with ⟨rfl, hn⟩ | ⟨n, rfl, hk, hn⟩
    · simp at c
    have hlt := (List.getElem?_eq_some_iff.1 hk).1
    refine OK.bind2 (R := fun s => ∃ m : Nat, s.2 = (m : Int) ∧ m ≤ l.length ∧ s.1.length = l.length ∧ s.1.take m = l.filter (· != k))
      (OK.rounds (fun s => ∃ a b : Nat, s.2.1 = (a : Int) ∧ s.2.2 = (b : Int) ∧ a < b ∧ b ≤ l.length ∧ s.1.length = l.length ∧ s.1.take a = (l.take b).filter (· != k) ∧ s.1.drop b = l.drop b) (fun s => l.length - s.2.2.toNat) ?_ fu _ ?_ ?_) ?_
    · rintro ⟨s, s1, s2⟩ again ⟨a, b, e1, e2, hab, hb, hsl, ht, hd⟩ kk
      simp only at e1 e2 hsl ht hd
      subst e1; subst e2
      unfold slices_DeleteFunc_uint64_uint64_94_l1 lru_LRU_drop_1
      simp only
      refine OK.ite (fun h => ?_) (fun h => ?_)
      · have h : (b : Int) < s.length := by simpa using h
        refine OK.bind (OK.getN (by omega) (fun y hy => ?_))
        have hyl : l[b]? = some y := by
          have := congrArg (fun z => z[0]?) hd
          simp only [List.getElem?_drop, Nat.add_zero] at this
          rw [← this]; exact hy
        simp only [Option.bind_some]
        refine OK.ite (fun e => ?_) (fun e => ?_)
        · have e : ¬ y = k := by simpa using e
          refine OK.bind (OK.getN (by omega) (fun z hz => ?_))
          rw [w64_eq (by omega) (by omega), w64_eq (by omega) (by omega)]
          refine kk _ ⟨a + 1, b + 1, by simp, by simp, by omega, by omega, by simp [hsl], ?_, ?_⟩ (by simp; omega)
          · rw [filter_take_next hyl, if_pos (by simpa using e), ← ht]
            show (s.set a y).take (a + 1) = _
            rw [List.take_add_one, List.getElem?_set_self (by omega), List.take_set_of_le (by omega)]
            rfl
          · show (s.set a y).drop (b + 1) = _
            rw [List.drop_set_of_lt (by omega)]
            have := congrArg (List.drop 1) hd
            rw [List.drop_drop, List.drop_drop] at this
            rw [Nat.add_comm b 1] at *
            simpa [Nat.add_comm] using this
        · have e : y = k := by simpa using e
          rw [w64_eq (by omega) (by omega)]
          refine kk _ ⟨a, b + 1, rfl, by simp, by omega, by omega, hsl, ?_, ?_⟩ (by simp; omega)
          · rw [filter_take_next hyl, if_neg (by simpa using e), List.append_nil, ← ht]
          · have := congrArg (List.drop 1) hd
            rw [List.drop_drop, List.drop_drop] at this
            simpa [Nat.add_comm] using this
      · have h : ¬ (b : Int) < s.length := by simpa using h
        refine OK.ret ⟨a, rfl, by omega, hsl, ?_⟩
        rw [ht, List.take_of_length_le (by omega)]
    · refine ⟨n, n + 1, rfl, by rw [w64_eq (by omega) (by omega)]; simp, by omega, by omega, rfl, ?_, rfl⟩
      rw [filter_take_next hk]
      simp [not_mem_filter hn]
    · simp only; rw [w64_eq (by omega) (by omega)]; omega
    · rintro ⟨s, z⟩ ⟨m, e1, hm, hsl, ht⟩
      simp only at e1 hsl ht ⊢
      subst e1
      rw [cut_suf rfl (by omega)]
      simp only [Option.bind_some]
      rw [cut_prf rfl (by simp; omega)]
      simp only [Option.bind_some, Int.toNat_natCast]
      refine OK.ret ?_
      rw [← ht, List.take_append_of_le_length (by simp; omega), List.take_take, Nat.min_self]
structure KS (n : Nat) (o ks ws : List Int) (clk : Int) : Prop where
  order : o = ks.reverse
  wl : ws.length = ks.length
  inc : ws.Pairwise (· < ·)
  late : ∀ w ∈ ws, w ≤ clk
  c0 : 0 ≤ clk
  cn : clk ≤ n
  nd : ks.Nodup
theorem zip_filter (k : Int) : ∀ (ks ws : List Int), ws.length = ks.length → ((ks.zip ws).filter (fun p => p.1 != k)).map (·.1) = ks.filter (· != k) ∧ (((ks.zip ws).filter (fun p => p.1 != k)).map (·.2)).Sublist ws
  | [], [], _ => ⟨rfl, List.Sublist.refl _⟩
  | a :: ks, b :: ws, h => by
    obtain ⟨h1, h2⟩ := zip_filter k ks ws (by simpa using h)
    rw [List.zip_cons_cons]
    by_cases e : (a != k) = true
    · rw [List.filter_cons_of_pos (p := fun p : Int × Int => p.1 != k) (a := (a, b)) e, List.filter_cons_of_pos (p := fun x => x != k) (a := a) e]
      exact ⟨by rw [List.map_cons, h1], by rw [List.map_cons]; exact h2.cons_cons _⟩
    · rw [List.filter_cons_of_neg (p := fun p : Int × Int => p.1 != k) (a := (a, b)) e, List.filter_cons_of_neg (p := fun x => x != k) (a := a) e]
      exact ⟨h1, h2.trans (List.sublist_cons_self _ _)⟩
  | [], _ :: _, h => by simp at h
  | _ :: _, [], h => by simp at h
theorem ref14_forget {fu : Nat} (hfu : 101 < fu) (r : tappetref14_LRU) (hwl : r.When.length = r.Keys.length) (hl : r.Keys.length ≤ 100) (k : Int) :
    tappetref14_LRU_forget fu r k = some ⟨r.B, ((r.Keys.zip r.When).filter (fun p => p.1 != k)).map (·.1), ((r.Keys.zip r.When).filter (fun p => p.1 != k)).map (·.2), r.Clock⟩ := by
  refine OK.is ?_
  unfold tappetref14_LRU_forget
  refine OK.bind2 (R := fun s => s = (((r.Keys.zip r.When).filter (fun p => p.1 != k)).map (·.1), ((r.Keys.zip r.When).filter (fun p => p.1 != k)).map (·.2))) ?_ (fun s hs => by subst hs; exact OK.ret rfl)
  have hz : (r.Keys.zip r.When).length = r.Keys.length := by rw [List.length_zip]; omega
  refine OK.rounds (fun s => ∃ n : Nat, s.2.2 = (n : Int) ∧ n ≤ r.Keys.length ∧ s.1 = (((r.Keys.zip r.When).take n).filter (fun p => p.1 != k)).map (·.1) ∧ s.2.1 = (((r.Keys.zip r.When).take n).filter (fun p => p.1 != k)).map (·.2)) (fun s => r.Keys.length - s.2.2.toNat) ?_ fu _ ⟨0, rfl, by omega, by simp, by simp⟩ (by simp; omega)
  rintro ⟨s1, s2, s3⟩ again ⟨n, e1, hn, e2, e3⟩ kk
  simp only at e1 e2 e3
  subst e1
  unfold tappetref14_LRU_forget_l1
  simp only
  refine OK.ite (fun h => ?_) (fun h => ?_)
  · have h : (n : Int) < r.Keys.length := by simpa using h
    have hg : (r.Keys.zip r.When)[n]? = some (r.Keys[n]'(by omega), r.When[n]'(by omega)) := by
      rw [List.getElem?_eq_getElem (by omega)]
      simp
    have ht : (r.Keys.zip r.When).take (n + 1) = (r.Keys.zip r.When).take n ++ [(r.Keys[n]'(by omega), r.When[n]'(by omega))] := by rw [List.take_add_one, hg]; rfl
    have hb1 : s1.length ≤ 100 := by
      rw [e2, List.length_map]
      have := List.length_filter_le (fun p : Int × Int => p.1 != k) ((r.Keys.zip r.When).take n)
      simp only [List.length_take] at this
      omega
    have hb2 : s2.length ≤ 100 := by
      rw [e3, List.length_map]
      have := List.length_filter_le (fun p : Int × Int => p.1 != k) ((r.Keys.zip r.When).take n)
      simp only [List.length_take] at this
      omega
    refine OK.bind (OK.getN (by omega) (fun y hy => ?_))
    have ey : y = r.Keys[n]'(by omega) := by rw [List.getElem?_eq_getElem (by omega)] at hy; exact (Option.some.inj hy).symm
    refine OK.ite (fun e => ?_) (fun e => ?_)
    · refine OK.bind (OK.hasRoom (by simp; omega) (OK.bind (OK.getN (by omega) (fun z hz2 => OK.bind (OK.hasRoom (by simp; omega) ?_)))))
      have ez : z = r.When[n]'(by omega) := by rw [List.getElem?_eq_getElem (by omega)] at hz2; exact (Option.some.inj hz2).symm
      rw [w64_eq (by omega) (by omega)]
      refine kk _ ⟨n + 1, by simp, by omega, ?_, ?_⟩ (by simp; omega)
      · simp only
        rw [ht, List.filter_append, List.map_append, ← e2, List.filter_cons_of_pos (by rw [← ey]; exact e), ey]; rfl
      · simp only
        rw [ht, List.filter_append, List.map_append, ← e3, List.filter_cons_of_pos (by rw [← ey]; exact e), ez]; rfl
    · rw [w64_eq (by omega) (by omega)]
      have ee : ¬ ((r.Keys[n]'(by omega) != k) = true) := by rw [← ey]; simpa using e
      refine kk _ ⟨n + 1, by simp, by omega, ?_, ?_⟩ (by simp; omega)
      · simp only
        rw [ht, List.filter_append, List.map_append, ← e2, List.filter_cons_of_neg (p := fun p : Int × Int => p.1 != k) (a := (r.Keys[n]'(by omega), r.When[n]'(by omega))) ee]; simp
      · simp only
        rw [ht, List.filter_append, List.map_append, ← e3, List.filter_cons_of_neg (p := fun p : Int × Int => p.1 != k) (a := (r.Keys[n]'(by omega), r.When[n]'(by omega))) ee]; simp
  · have h : ¬ (n : Int) < r.Keys.length := by simpa using h
    refine OK.ret ?_
    rw [e2, e3, List.take_of_length_le (by omega)]
theorem KS.forget {fu : Nat} (hfu : 101 < fu) {n : Nat} {o : List Int} {r : tappetref14_LRU} (h : KS n o r.Keys r.When r.Clock) (hl : r.Keys.length ≤ 100) (b : book_Book) (k : Int) :
    ∃ ks ws, lru_LRU_drop fu ⟨b, o⟩ k = some ⟨b, o.filter (· != k)⟩ ∧ tappetref14_LRU_forget fu r k = some ⟨r.B, ks, ws, r.Clock⟩ ∧ ks = r.Keys.filter (· != k) ∧ KS n (o.filter (· != k)) ks ws r.Clock := by
  obtain ⟨h1, h2⟩ := zip_filter k r.Keys r.When h.wl
  refine ⟨_, _, ?_, ref14_forget hfu r h.wl hl k, h1, ?_⟩
  · unfold lru_LRU_drop
    rw [delete_is hfu _ _ (by rw [h.order]; simpa using hl)]; rfl
  · refine ⟨?_, by simp, h.inc.sublist h2, fun w hw => h.late w (h2.subset hw), h.c0, h.cn, ?_⟩
    · rw [h1, h.order, List.filter_reverse]
    · rw [h1]; exact h.nd.filter _
theorem KS.touch {n : Nat} {o ks ws : List Int} {clk : Int} (h : KS n o ks ws clk) {k : Int} (hk : k ∉ ks) : KS (n + 1) (k :: o) (ks ++ [k]) (ws ++ [clk + 1]) (clk + 1) := by
  have h0 := h.c0
  have hn := h.cn
  refine ⟨by rw [h.order]; simp, by simp [h.wl], List.pairwise_append.2 ⟨h.inc, by simp, fun a ha b hb => ?_⟩, fun w hw => ?_, by omega, by simp; omega, List.nodup_append.2 ⟨h.nd, by simp, fun a ha b hb e => ?_⟩⟩
  · simp at hb; subst hb; have := h.late a ha; omega
  · rcases List.mem_append.1 hw with hw | hw
    · have := h.late w hw; omega
    · simp at hw; omega
  · simp at hb; subst hb; subst e; exact hk ha
structure LR (n : Nat) (c : Int) (a : lru_LRU) (r : tappetref14_LRU) : Prop where
  book : BR c a.Book r.B
  ks : KS n a.order r.Keys r.When r.Clock
  keys : ∀ q, q ∈ r.Keys ↔ (pv r.B.List q).isSome = true
theorem LR.len {n : Nat} {c : Int} {a : lru_LRU} {r : tappetref14_LRU} (h : LR n c a r) : r.Keys.length = r.B.List.length := by
  have hp : r.Keys.Perm (pk r.B.List) := by
    refine (List.perm_ext_iff_of_nodup h.ks.nd h.book.rb.nd).2 (fun q => ?_)
    rw [h.keys]
    constructor
    · intro hs
      refine Classical.byContradiction (fun hn => ?_)
      rw [pv_none.2 hn] at hs; cases hs
    · intro hm
      cases hv : pv r.B.List q with
      | some x => rfl
      | none => exact absurd hm (pv_none.1 hv)
  have := hp.length_eq
  simpa [pk] using this
theorem ref13_has {fu : Nat} (hfu : 17 < fu) {cap : Int} {r : tappetref13_Book} (h : RB cap r) (k x : Int) : tappetref13_Book_Do fu r 1 k x = some (⟨0, (pv r.List k).isSome, 0, false, 0, 0⟩, r) := by
  have hl : r.List.length ≤ 16 := by have := h.len; have := h.c16; omega
  refine OK.is ?_
  unfold tappetref13_Book_Do
  refine OK.bind2 (ref13_place hfu r hl k) (fun i hi => ?_)
  refine OK.bind2 (R := fun _ => True) ?_ (fun v _ => ?_)
  · refine OK.ite (fun hc => ?_) (fun hc => OK.ret trivial)
    rcases hi with ⟨rfl, _⟩ | ⟨n, rfl, p, hp, rfl⟩
    · simp at hc
    · exact OK.bind (OK.getN (List.getElem?_eq_some_iff.1 hp).1 (fun y hy => OK.ret trivial))
  refine OK.ite_false (by rfl) (OK.ite_true (by rfl) (OK.ret ?_))
  have hsome : decide (i ≥ 0) = (pv r.List k).isSome := by
    rcases hi with ⟨rfl, hn⟩ | ⟨n, rfl, p, hp, rfl⟩
    · rw [hn]; rfl
    · rw [pv_at h.nd hp]; simp
  rw [hsome]
theorem oldest {fu : Nat} (hfu : 101 < fu) (p0 : tappetref14_LRU) (q : api_Res × tappetref13_Book) (hinc : p0.When.Pairwise (· < ·)) (hwl : p0.When.length = p0.Keys.length) (hl : p0.Keys.length ≤ 100) (h1 : 1 ≤ p0.Keys.length) :
    loop (tappetref14_LRU_Do_l1 p0 q) fu (0, 0) = some 0 := by
  refine OK.is ?_
  refine OK.rounds (fun s => s.1 = 0 ∧ ∃ n : Nat, s.2 = (n : Int) ∧ n ≤ p0.Keys.length) (fun s => p0.Keys.length - s.2.toNat) ?_ fu _ ⟨rfl, 0, rfl, by omega⟩ (by simp; omega)
  rintro ⟨s1, s2⟩ again ⟨e1, n, e2, hn⟩ kk
  simp only at e1 e2
  subst e1; subst e2
  unfold tappetref14_LRU_Do_l1
  simp only
  refine OK.ite (fun h => ?_) (fun h => OK.ret rfl)
  have h : (n : Int) < p0.Keys.length := by simpa using h
  refine OK.bind (OK.getN (by omega) (fun y hy => OK.bind (OK.get (by omega) (by omega) (fun z hz => ?_))))
  obtain ⟨l1, rfl⟩ := List.getElem?_eq_some_iff.1 hy
  obtain ⟨l2, rfl⟩ := List.getElem?_eq_some_iff.1 hz
  have hge : ¬ p0.When[n] < p0.When[Int.toNat 0] := by
    cases n with
    | zero => show ¬ p0.When[0] < p0.When[0]; omega
    | succ n =>
      have := List.pairwise_iff_getElem.1 hinc 0 (n + 1) (by omega) (by omega) (by omega)
      show ¬ p0.When[n + 1] < p0.When[0]
      omega
  refine OK.ite_false (by simpa using hge) ?_
  rw [w64_eq (by omega) (by omega)]
  exact kk _ ⟨rfl, n + 1, by simp, by omega⟩ (by simp; omega)
end Go.Proofs.Ytpchniebplpboaa
