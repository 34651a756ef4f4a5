/- The bounded maps do the same. -/
import Derived.Test.YtpchniebplpboaaKLru
set_option linter.unusedVariables false
set_option linter.unusedSimpArgs false
namespace Go.Proofs.Ytpchniebplpboaa
open Go.Sx

theorem KS.up {n : Nat} {o ks ws : List Int} {clk : Int} (h : KS n o ks ws clk) : KS (n + 1) o ks ws clk := ⟨h.order, h.wl, h.inc, h.late, h.c0, by have := h.cn; omega, h.nd⟩
def implTail (fu : Nat) (op k : Int) (L : lru_LRU) (v : api_Res) : Option (api_Res × lru_LRU) :=
  (if (op == 2) then
    some (op == 2)
  else
    if (op == 4) then
      some (op == 4)
    else
      if (op == 0) then
        some v.Found
      else
        some false).bind fun o141 =>
  if o141 then
    (lru_LRU_touch fu L k).bind fun r152 =>
    some (v, r152)
  else
    if (op == 3) then
      (lru_LRU_drop fu L k).bind fun r165 =>
      some (v, r165)
    else
      some (v, L)
def refTail (fu : Nat) (op k : Int) (found : Bool) (R : tappetref14_LRU) (w : api_Res) : Option (api_Res × tappetref14_LRU) :=
  (if (((op == 2) || (op == 4)) || ((op == 0) && found)) then
    (tappetref14_LRU_forget fu R k).bind fun r1084 =>
    (room (r1084.Keys.length + ([k]).length) 8).bind fun u1116 =>
    (room (r1084.When.length + ([w64 (r1084.Clock + 1)]).length) 8).bind fun u1140 =>
    some (tappetref14_LRU.mk r1084.B (r1084.Keys ++ [k]) (r1084.When ++ [w64 (r1084.Clock + 1)]) (w64 (r1084.Clock + 1)))
  else
    some R).bind fun o1074 =>
  if (op == 3) then
    (tappetref14_LRU_forget fu o1074 k).bind fun r1156 =>
    some (w, r1156)
  else
    some (w, o1074)
theorem mem_filter_ne {l : List Int} {k q : Int} : q ∈ l.filter (· != k) ↔ q ∈ l ∧ q ≠ k := by simp [List.mem_filter]
theorem tails {fu : Nat} (hfu : 101 < fu) {n : Nat} (hn : n < 1000000000000) {c : Int} {b2 : book_Book} {r1 : List api_Pair} {r2 : tappetref13_Book} (hb : BR c b2 r2) {o : List Int} {r : tappetref14_LRU} (hks : KS n o r.Keys r.When r.Clock) (hl : r.Keys.length ≤ 16)
    {op k x : Int} (h0 : 0 ≤ op) (h4 : op ≤ 4) (hkeys : ∀ q, q ∈ r.Keys ↔ (pv r1 q).isSome = true) (hvals : ∀ q, pv r2.List q = if q = k then bval (pv r1 k) r1.length c op x else pv r1 q)
    (hnf : ¬ ((op = 2 ∨ op = 4) ∧ pv r1 k = none ∧ (r1.length : Int) = c)) (v w : api_Res) (hv : op = 0 → v.Found = (pv r1 k).isSome) (found : Bool) (hf : op = 0 → found = (pv r1 k).isSome) (hrb : r.B = r2) :
    ∃ L' R', implTail fu op k ⟨b2, o⟩ v = some (v, L') ∧ refTail fu op k found r w = some (w, R') ∧ LR (n + 1) c L' R' := by
  obtain ⟨ks, ws, d1, d2, d3, d4⟩ := hks.forget hfu (by omega) b2 k
  have hkl : ks.length ≤ 16 := by rw [d3]; exact Nat.le_trans (List.length_filter_le _ _) hl
  have hwl : ws.length ≤ 16 := by have := d4.wl; omega
  have hc0 := hks.c0
  have hcn := hks.cn
  have hw1 : w64 (r.Clock + 1) = r.Clock + 1 := w64_eq (by omega) (by omega)
  have hold : o.length ≤ 16 := by rw [hks.order]; simpa using hl
  have hfl : (o.filter (· != k)).length ≤ 16 := Nat.le_trans (List.length_filter_le _ _) hold
  -- touched
  have T : bval (pv r1 k) r1.length c op x ≠ none → ∃ L' R', lru_LRU_touch fu ⟨b2, o⟩ k = some L' ∧ ((tappetref14_LRU_forget fu r k).bind fun r1084 =>
    (room (r1084.Keys.length + ([k]).length) 8).bind fun u1116 =>
    (room (r1084.When.length + ([w64 (r1084.Clock + 1)]).length) 8).bind fun u1140 =>
    some (tappetref14_LRU.mk r1084.B (r1084.Keys ++ [k]) (r1084.When ++ [w64 (r1084.Clock + 1)]) (w64 (r1084.Clock + 1)))) = some R' ∧ LR (n + 1) c L' R' := by
    intro hs
    refine ⟨⟨b2, k :: o.filter (· != k)⟩, ⟨r2, ks ++ [k], ws ++ [r.Clock + 1], r.Clock + 1⟩, ?_, ?_, hb, d4.touch (by rw [d3]; simp), fun q => ?_⟩
    · unfold lru_LRU_touch slices_Insert_uint64_uint64 insF
      rw [d1]
      simp only [Option.bind_some]
      rw [if_pos ⟨by omega, by omega, by simp; omega⟩]
      rfl
    · rw [d2]
      simp only [Option.bind_some, hw1, hrb]
      refine OK.is (OK.bind (OK.hasRoom (by simp; omega) (OK.bind (OK.hasRoom (by simp; omega) (OK.ret rfl)))))
    · show q ∈ ks ++ [k] ↔ (pv r2.List q).isSome = true
      rw [hvals, List.mem_append, d3, mem_filter_ne, hkeys, List.mem_singleton]
      by_cases e : q = k
      · subst e
        rw [if_pos rfl]
        cases hb : bval (pv r1 q) r1.length c op x with
        | none => exact absurd hb hs
        | some y => simp
      · rw [if_neg e]; simp [e]
  have none_ : (∀ q, pv r2.List q = pv r1 q) → LR (n + 1) c ⟨b2, o⟩ r := fun hs => ⟨by rw [hrb]; exact hb, hks.up, fun q => by rw [hrb, hs, hkeys]⟩
  have hop : op = 0 ∨ op = 1 ∨ op = 2 ∨ op = 3 ∨ op = 4 := by omega
  unfold implTail refTail
  rcases hop with rfl | rfl | rfl | rfl | rfl
  · rw [hf rfl, hv rfl]
    cases hp : pv r1 k with
    | some y =>
      obtain ⟨L', R', t1, t2, t3⟩ := T (by rw [hp]; simp [bval])
      refine ⟨L', R', ?_, ?_, t3⟩
      · show (lru_LRU_touch fu ⟨b2, o⟩ k).bind _ = _
        rw [t1]; rfl
      · show (((tappetref14_LRU_forget fu r k).bind _).bind _ : Option _) = _
        rw [t2]; rfl
    | none =>
      refine ⟨_, _, rfl, rfl, none_ (fun q => ?_)⟩
      rw [hvals]
      by_cases e : q = k
      · subst e; simp [bval, hp]
      · simp [e]
  · refine ⟨_, _, rfl, rfl, none_ (fun q => ?_)⟩
    rw [hvals]
    by_cases e : q = k
    · subst e; simp [bval]
    · simp [e]
  · obtain ⟨L', R', t1, t2, t3⟩ := T (by
      unfold bval
      rw [if_neg (by omega), if_pos (.inl rfl), if_neg (fun z => hnf ⟨.inl rfl, z⟩)]
      exact fun z => by cases z)
    refine ⟨L', R', ?_, ?_, t3⟩
    · show (lru_LRU_touch fu ⟨b2, o⟩ k).bind _ = _
      rw [t1]; rfl
    · show (((tappetref14_LRU_forget fu r k).bind _).bind _ : Option _) = _
      rw [t2]; rfl
  · refine ⟨⟨b2, o.filter (· != k)⟩, ⟨r.B, ks, ws, r.Clock⟩, ?_, ?_, by rw [hrb]; exact hb, d4.up, fun q => ?_⟩
    · show (lru_LRU_drop fu ⟨b2, o⟩ k).bind _ = _
      rw [d1]; rfl
    · show (tappetref14_LRU_forget fu r k).bind _ = _
      rw [d2]; rfl
    · show q ∈ ks ↔ (pv r.B.List q).isSome = true
      rw [hrb, hvals, d3, mem_filter_ne, hkeys]
      by_cases e : q = k
      · subst e; simp [bval]
      · simp [e]
  · obtain ⟨L', R', t1, t2, t3⟩ := T (by
      unfold bval
      rw [if_neg (by omega), if_pos (.inr rfl), if_neg (fun z => hnf ⟨.inr rfl, z⟩)]
      exact fun z => by cases z)
    refine ⟨L', R', ?_, ?_, t3⟩
    · show (lru_LRU_touch fu ⟨b2, o⟩ k).bind _ = _
      rw [t1]; rfl
    · show (((tappetref14_LRU_forget fu r k).bind _).bind _ : Option _) = _
      rw [t2]; rfl
theorem bres_E {v : Option Int} {n : Nat} {c op x : Int} (h : ¬ ((op = 2 ∨ op = 4) ∧ v = none ∧ (n : Int) = c)) (h0 : 0 ≤ op) (h4 : op ≤ 4) : (bres v n c op x).E = 0 := by
  unfold bres
  split
  · rfl
  · split
    · rfl
    · split
      · rfl
      · split
        · rename_i hc
          exact absurd ⟨by omega, hc⟩ h
        · rfl
theorem bres_found {v : Option Int} {n : Nat} {c op x : Int} (h : op = 0) : (bres v n c op x).Found = v.isSome := by subst h; rfl
theorem lru_both {fu : Nat} (hfu : 101 < fu) {n : Nat} (hn : n < 1000000000000) {c : Int} {a : lru_LRU} {r : tappetref14_LRU} (h : LR n c a r) {op : Int} (h0 : 0 ≤ op) (h4 : op ≤ 4) (k x : Int) :
    ∃ v a' r', lru_LRU_Do fu a op k x = some (v, a') ∧ tappetref14_LRU_Do fu r op k x = some (v, r') ∧ LR (n + 1) c a' r' := by
  have hlen := h.len
  have hl16 : r.Keys.length ≤ 16 := by have := h.book.rb.len; have := h.book.rb.c16; omega
  have hhas := ref13_has (fu := fu) (by omega) h.book.rb k 0
  have hcap := h.book.rb.cap
  by_cases full : (op = 2 ∨ op = 4) ∧ pv r.B.List k = none ∧ (r.B.List.length : Int) = c
  · obtain ⟨fop, fn, fl⟩ := full
    -- refused for want of room
    obtain ⟨⟨v1, b1⟩, e1, e2, l1, e3, e4, e5⟩ := book_do (fu := fu) (by omega) h.book.bb h0 h4 k x
    simp only at e2 e3
    subst e3
    have n0 : ¬ op = 0 := by omega
    have n1 : ¬ op = 1 := by omega
    have n3 : ¬ op = 3 := by omega
    have hv1 : v1 = ⟨40, false, 0, false, 0, 0⟩ := by
      rw [e2, h.book.vals, h.book.len, fn]
      simp [bres, n0, n1, n3, fl]
    have hb1 : BR c ⟨a.Book.cap, l1⟩ r.B := by
      refine ⟨h.book.bb.done e4 e5, h.book.rb, fun q => ?_, ?_⟩
      · show pv l1 q = _
        rw [e5.vals, h.book.vals, h.book.vals, h.book.len]
        by_cases e : q = k
        · subst e; rw [if_pos rfl, fn]; simp [bval, n3, fop, fl]
        · rw [if_neg e]
      · show l1.length = _
        rw [e5.len, h.book.vals, h.book.len, fn]
        simp [blen, n3, fl]
    have hpos : 1 ≤ r.Keys.length := by have := h.book.rb.c1; omega
    obtain ⟨g, hg⟩ : ∃ g, r.Keys[0]? = some g := ⟨_, List.getElem?_eq_getElem (by omega)⟩
    have hgl : idx a.order (w64 ((a.order.length : Int) - 1)) = some g := by
      rw [h.ks.order]
      have : (r.Keys.reverse.length : Int) - 1 = ((r.Keys.length - 1 : Nat) : Int) := by rw [List.length_reverse]; omega
      rw [this, w64_eq (by omega) (by omega)]
      unfold Go.Sx.idx
      rw [if_pos (by omega), Int.toNat_natCast, List.getElem?_reverse (by omega)]
      rw [show r.Keys.length - 1 - (r.Keys.length - 1) = 0 by omega]
      exact hg
    have hgr : idx r.Keys 0 = some g := by
      unfold Go.Sx.idx
      rw [if_pos (by omega)]
      exact hg
    have hgm : g ∈ r.Keys := List.mem_of_getElem? hg
    have hgs := (h.keys g).1 hgm
    have hgk : g ≠ k := fun e => by rw [e, fn] at hgs; cases hgs
    obtain ⟨v2, b2, r2, g1, g2, g3, g4, g5, g6, g7⟩ := both_do (fu := fu) (by omega) hb1 (op := 3) (by omega) (by omega) g 0
    obtain ⟨ks, ws, d1, d2, d3, d4⟩ := KS.forget hfu (r := ⟨r2, r.Keys, r.When, r.Clock⟩) h.ks (by simp only; omega) b2 g
    simp only at d2 d3 d4
    have hkeys2 : ∀ q, q ∈ ks ↔ (pv r2.List q).isSome = true := fun q => by
      rw [d3, mem_filter_ne, h.keys, g5]
      by_cases e : q = g
      · subst e; simp [bval]
      · simp [e]
    have hr2n : pv r2.List k = none := by rw [g5, if_neg (fun e => hgk e.symm)]; exact fn
    have hr2l : r2.List.length = r.B.List.length - 1 := by
      rw [g6]; simp [blen, hgs]
    have hpos2 : 1 ≤ r.B.List.length := by omega
    have hnf : ¬ ((op = 2 ∨ op = 4) ∧ pv r2.List k = none ∧ (r2.List.length : Int) = c) := by
      rintro ⟨_, _, z⟩; omega
    obtain ⟨v3, b3, r3, k1, k2, k3, k4, k5, k6, k7⟩ := both_do (fu := fu) (by omega) g3 h0 h4 k x
    have hE : v3.E = 0 := by rw [k4]; exact bres_E hnf h0 h4
    have hkl : ks.length ≤ 16 := by rw [d3]; exact Nat.le_trans (List.length_filter_le _ _) hl16
    obtain ⟨L', R', t1, t2, t3⟩ := tails hfu hn k3 (r := ⟨r3, ks, ws, r.Clock⟩) d4 hkl h0 h4 hkeys2 k5 hnf ⟨v3.E, v3.Found, v3.Val, true, g, v2.Val⟩ ⟨v3.E, v3.Found, v3.Val, true, g, v2.Val⟩ (fun e => absurd e n0) (pv r.B.List k).isSome (fun e => absurd e n0) rfl
    refine ⟨⟨v3.E, v3.Found, v3.Val, true, g, v2.Val⟩, L', R', ?_, ?_, t3⟩
    · unfold lru_LRU_Do
      rw [e1, hv1]
      simp only [Option.bind_some]
      rw [if_pos (show ((40 : Int) == 40) = true from rfl)]
      unfold lru_LRU_evict
      simp only [hgl, Option.bind_some, g1, d1, k1]
      rw [if_neg (by simp [hE])]
      exact t1
    · unfold tappetref14_LRU_Do
      rw [hhas]
      simp only [Option.bind_some]
      have ho : (if (op == 2) = true then (if (!(pv r.B.List k).isSome) = true then some ((r.B.List.length : Int) == r.B.Cap) else some false) else if (op == 4) = true then (if (!(pv r.B.List k).isSome) = true then some ((r.B.List.length : Int) == r.B.Cap) else some false) else some false) = some true := by
        have hc : ((r.B.List.length : Int) == r.B.Cap) = true := by simp; omega
        rw [fn, hc]
        rcases fop with rfl | rfl <;> rfl
      rw [ho]
      simp only [Option.bind_some, if_true]
      rw [oldest hfu r _ h.ks.inc h.ks.wl (by omega) hpos]
      simp only [Option.bind_some, hgr, g2, d2, k2]
      exact t2
  · obtain ⟨v, b2, r2, e1, e2, e3, e4, e5, e6, e7⟩ := both_do (fu := fu) (by omega) h.book h0 h4 k x
    have hE : v.E = 0 := by rw [e4]; exact bres_E full h0 h4
    have hOut : v = ⟨v.E, v.Found, v.Val, false, 0, 0⟩ := by
      rw [e4]; unfold bres; split
      · rfl
      · split
        · rfl
        · split
          · rfl
          · split <;> rfl
    obtain ⟨L', R', t1, t2, t3⟩ := tails hfu hn e3 (r := ⟨r2, r.Keys, r.When, r.Clock⟩) h.ks hl16 h0 h4 h.keys e5 full v v (fun e => by rw [e4]; exact bres_found e) (pv r.B.List k).isSome (fun _ => rfl) rfl
    refine ⟨v, L', R', ?_, ?_, t3⟩
    · unfold lru_LRU_Do
      rw [e1]
      simp only [Option.bind_some]
      rw [if_neg (by simp [hE])]
      simp only [Option.bind_some]
      rw [if_neg (by simp [hE])]
      exact t1
    · unfold tappetref14_LRU_Do
      rw [hhas]
      simp only [Option.bind_some]
      have ho : (if (op == 2) = true then (if (!(pv r.B.List k).isSome) = true then some ((r.B.List.length : Int) == r.B.Cap) else some false) else if (op == 4) = true then (if (!(pv r.B.List k).isSome) = true then some ((r.B.List.length : Int) == r.B.Cap) else some false) else some false) = some false := by
        by_cases e2 : op = 2
        · subst e2
          rw [if_pos (show ((2 : Int) == 2) = true from rfl)]
          cases hp : pv r.B.List k with
          | some y => rfl
          | none =>
            have : ((r.B.List.length : Int) == r.B.Cap) = false := by
              rw [hcap]; exact beq_eq_false_iff_ne.2 (fun z => full ⟨.inl rfl, hp, z⟩)
            rw [this]; rfl
        · rw [if_neg (by simpa using e2)]
          by_cases e4 : op = 4
          · subst e4
            rw [if_pos (show ((4 : Int) == 4) = true from rfl)]
            cases hp : pv r.B.List k with
            | some y => rfl
            | none =>
              have : ((r.B.List.length : Int) == r.B.Cap) = false := by
                rw [hcap]; exact beq_eq_false_iff_ne.2 (fun z => full ⟨.inr rfl, hp, z⟩)
              rw [this]; rfl
          · rw [if_neg (by simpa using e4)]
      rw [ho]
      simp only [Option.bind_some, Bool.false_eq_true, if_false, e2]
      rw [← hOut]
      exact t2
end Go.Proofs.Ytpchniebplpboaa
