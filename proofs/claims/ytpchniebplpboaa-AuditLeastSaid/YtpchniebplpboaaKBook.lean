/- A map's book: the program's keeps its pairs sorted, the document's in the order of their coming; both tell the same. -/
import Derived.Test.YtpchniebplpboaaF1
import Derived.Test.YtpchniebplpboaaPure
set_option linter.unusedVariables false
set_option linter.unusedSimpArgs false
namespace Go.Proofs.Ytpchniebplpboaa
open Go.Sx

theorem wu_is (x : Int) : wu64 x = x % 18446744073709551616 := by
  show IntKind.u64.wrap x = _
  simp [IntKind.wrap, IntKind.bits, IntKind.signed]
theorem half {x : Int} (h0 : 0 ≤ x) (h1 : x ≤ 1000) : w64 (bShr .u64 (wu64 (w64 x)) 1) = x / 2 := by
  rw [w64_eq (x := x) (by omega) (by omega), wu_is, Int.emod_eq_of_lt h0 (by omega)]
  have e : bShr .u64 x 1 = x / 2 := by
    show x.fdiv (2 ^ (min (Int.toNat 1) IntKind.u64.bits)) = _
    rw [Int.fdiv_eq_ediv_of_nonneg _ (by exact Int.le_of_lt (Int.pow_pos (by decide)))]
    rfl
  rw [e]
  exact w64_eq (by omega) (by omega)
def pv : List api_Pair → Int → Option Int
  | [], _ => none
  | p :: l, k => if p.Key = k then some p.Val else pv l k
def pk (l : List api_Pair) : List Int := l.map (·.Key)
theorem pv_none {l : List api_Pair} {k : Int} : pv l k = none ↔ k ∉ pk l := by
  induction l with
  | nil => simp [pv, pk]
  | cons p l ih =>
    by_cases h : p.Key = k
    · simp [pv, pk, h]
    · have : ¬ k = p.Key := fun e => h e.symm
      simp only [pv, h, if_false, ih, pk, List.map_cons, List.mem_cons, this, false_or]
theorem pv_at {l : List api_Pair} (hn : (pk l).Nodup) {i : Nat} {p : api_Pair} (h : l[i]? = some p) : pv l p.Key = some p.Val := by
  induction l generalizing i with
  | nil => simp at h
  | cons q l ih =>
    obtain ⟨n1, n2⟩ := List.nodup_cons.1 (show (q.Key :: pk l).Nodup from hn)
    cases i with
    | zero => simp at h; subst h; simp [pv]
    | succ i =>
      simp at h
      have hm : p.Key ∈ pk l := List.mem_map_of_mem (List.mem_of_getElem? h)
      have : ¬ q.Key = p.Key := fun e => n1 (by rw [e]; exact hm)
      simp [pv, this, ih n2 h]
theorem pv_app {a b : List api_Pair} {k : Int} : pv (a ++ b) k = (match pv a k with | some x => some x | none => pv b k) := by
  induction a with
  | nil => rfl
  | cons p a ih =>
    by_cases h : p.Key = k
    · simp [pv, h]
    · simp [pv, h, ih]
theorem pk_app {a b : List api_Pair} : pk (a ++ b) = pk a ++ pk b := List.map_append
theorem split_at {l : List api_Pair} {i : Nat} {p : api_Pair} (h : l[i]? = some p) : l = l.take i ++ p :: l.drop (i + 1) := by
  obtain ⟨hl, rfl⟩ := List.getElem?_eq_some_iff.1 h
  conv => lhs; rw [← List.take_append_drop i l, List.drop_eq_getElem_cons hl]
theorem pv_set {l : List api_Pair} (hn : (pk l).Nodup) {i : Nat} {p : api_Pair} (h : l[i]? = some p) (x : Int) (q : Int) : pv (l.set i ⟨p.Key, x⟩) q = if q = p.Key then some x else pv l q := by
  induction l generalizing i with
  | nil => simp at h
  | cons r l ih =>
    obtain ⟨n1, n2⟩ := List.nodup_cons.1 (show (r.Key :: pk l).Nodup from hn)
    cases i with
    | zero =>
      simp at h; subst h
      by_cases e : q = r.Key
      · subst e; simp [pv]
      · have : ¬ r.Key = q := fun z => e z.symm
        simp [pv, e, this]
    | succ i =>
      simp at h
      have hm : p.Key ∈ pk l := List.mem_map_of_mem (List.mem_of_getElem? h)
      have hne : ¬ r.Key = p.Key := fun e => n1 (by rw [e]; exact hm)
      simp only [List.set_cons_succ, pv]
      by_cases e : r.Key = q
      · subst e; simp [hne]
      · simp [e, ih n2 h]
theorem pk_set {l : List api_Pair} {i : Nat} {p : api_Pair} (h : l[i]? = some p) (x : Int) : pk (l.set i ⟨p.Key, x⟩) = pk l := by
  unfold pk
  rw [List.map_set]
  apply List.ext_getElem?
  intro j
  by_cases e : i = j
  · subst e
    obtain ⟨hl, rfl⟩ := List.getElem?_eq_some_iff.1 h
    rw [List.getElem?_set_self (by simpa using hl)]
    simp [hl]
  · rw [List.getElem?_set_ne e]
theorem pv_del {l : List api_Pair} (hn : (pk l).Nodup) {i : Nat} {p : api_Pair} (h : l[i]? = some p) (q : Int) : pv (l.take i ++ l.drop (i + 1)) q = if q = p.Key then none else pv l q := by
  have e := split_at h
  have hn2 := hn
  rw [e, pk_app] at hn2
  obtain ⟨n1, n2, n3⟩ := List.nodup_append.1 hn2
  obtain ⟨n4, n5⟩ := List.nodup_cons.1 (show (p.Key :: pk (l.drop (i + 1))).Nodup from n2)
  have hna : p.Key ∉ pk (l.take i) := fun hm => n3 _ hm p.Key (by simp [pk]) rfl
  by_cases hq : q = p.Key
  · subst hq
    rw [if_pos rfl, pv_app, pv_none.2 hna]
    exact pv_none.2 n4
  · rw [if_neg hq]
    conv => rhs; rw [e, pv_app]
    rw [pv_app]
    have : ¬ p.Key = q := fun z => hq z.symm
    simp only [pv, this, if_false]
theorem pk_del {l : List api_Pair} {i : Nat} : (pk (l.take i ++ l.drop (i + 1))).Sublist (pk l) := by
  have h : (l.take i ++ l.drop (i + 1)).Sublist l := by
    rw [← List.eraseIdx_eq_take_drop_succ]
    exact List.eraseIdx_sublist _ _
  exact h.map _

def bres (v : Option Int) (n : Nat) (cap op x : Int) : api_Res :=
  if op = 0 then ⟨0, v.isSome, v.getD 0, false, 0, 0⟩
  else if op = 1 then ⟨0, v.isSome, 0, false, 0, 0⟩
  else if op = 3 then ⟨0, v.isSome, v.getD 0, false, 0, 0⟩
  else if v = none ∧ (n : Int) = cap then ⟨40, false, 0, false, 0, 0⟩
  else ⟨0, v.isSome, if op = 4 then wu64 (v.getD 0 + x) else v.getD 0, false, 0, 0⟩
def bval (v : Option Int) (n : Nat) (cap op x : Int) : Option Int :=
  if op = 3 then none
  else if op = 2 ∨ op = 4 then (if v = none ∧ (n : Int) = cap then none else some (if op = 4 then wu64 (v.getD 0 + x) else x))
  else v
def blen (v : Option Int) (n : Nat) (cap op : Int) : Nat :=
  if op = 3 then (if v.isSome then n - 1 else n)
  else if (op = 2 ∨ op = 4) ∧ v = none ∧ (n : Int) ≠ cap then n + 1
  else n
structure Done (l l' : List api_Pair) (cap op k x : Int) : Prop where
  vals : ∀ q, pv l' q = if q = k then bval (pv l k) l.length cap op x else pv l q
  len : l'.length = blen (pv l k) l.length cap op
  nd : (pk l').Nodup

theorem ref13_place {fu : Nat} (hfu : 17 < fu) (r : tappetref13_Book) (hl : r.List.length ≤ 16) (k : Int) :
    OK (tappetref13_Book_place fu r k) (fun i => (i = -1 ∧ pv r.List k = none) ∨ ∃ n : Nat, i = (n : Int) ∧ ∃ p, r.List[n]? = some p ∧ p.Key = k) := by
  unfold tappetref13_Book_place
  refine OK.bind2 (R := fun o => match o with | .inl _ => k ∉ pk r.List | .inr i => ∃ n : Nat, i = (n : Int) ∧ ∃ p, r.List[n]? = some p ∧ p.Key = k)
    (OK.rounds (fun s => ∃ n : Nat, s = (n : Int) ∧ n ≤ r.List.length ∧ k ∉ pk (r.List.take n)) (fun s => r.List.length - s.toNat) ?_ fu 0 ⟨0, rfl, by omega, by simp [pk]⟩ (by omega)) ?_
  · rintro s again ⟨n, rfl, hn, hI⟩ kk
    unfold tappetref13_Book_place_l1
    refine OK.ite (fun h => ?_) (fun h => ?_)
    · have h : (n : Int) < r.List.length := by simpa using h
      refine OK.bind (OK.getN (by omega) (fun p hp => OK.ite (fun he => OK.ret ⟨n, rfl, p, hp, by simpa using he⟩) (fun he => ?_)))
      have he : ¬ p.Key = k := by simpa using he
      rw [w64_eq (by omega) (by omega)]
      refine kk _ ⟨n + 1, by omega, by omega, ?_⟩ (by omega)
      rw [List.take_add_one, hp]
      simp only [pk, List.map_append, Option.toList_some, List.map_cons, List.map_nil, List.mem_append, List.mem_singleton, not_or]
      exact ⟨hI, fun e => he e.symm⟩
    · have h : ¬ (n : Int) < r.List.length := by simpa using h
      rw [List.take_of_length_le (by omega)] at hI
      exact OK.ret hI
  · rintro (u | i) h
    · exact OK.ret (.inl ⟨rfl, pv_none.2 h⟩)
    · exact OK.ret (.inr h)
theorem ref13_copy {fu : Nat} (hfu : 17 < fu) (r : tappetref13_Book) (hl : r.List.length ≤ 16) (i : Int) :
    OK (loop (tappetref13_Book_Do_l1 r i) fu (([] : List api_Pair), 0)) (fun l => l = if 0 ≤ i ∧ i < r.List.length then r.List.take i.toNat ++ r.List.drop (i.toNat + 1) else r.List) := by
  refine OK.rounds (fun s => ∃ n : Nat, s.2 = (n : Int) ∧ n ≤ r.List.length ∧ s.1 = (if 0 ≤ i ∧ i < n then (r.List.take i.toNat ++ (r.List.take n).drop (i.toNat + 1)) else r.List.take n)) (fun s => r.List.length - s.2.toNat) ?_ fu _ ⟨0, rfl, by omega, by rw [if_neg (by omega)]; rfl⟩ (by simp; omega)
  rintro ⟨s, z⟩ again ⟨n, rfl, hn, hI⟩ kk
  unfold tappetref13_Book_Do_l1
  simp only at hI ⊢
  refine OK.ite (fun h => ?_) (fun h => ?_)
  · have h : (n : Int) < r.List.length := by simpa using h
    refine OK.ite (fun he => ?_) (fun he => ?_)
    · have he : ¬ (n : Int) = i := by simpa using he
      refine OK.bind (OK.getN (by omega) (fun p hp => OK.bind (OK.hasRoom ?_ ?_)))
      · have hs : s.length ≤ 16 := by
          rw [hI]
          split
          · simp only [List.length_append, List.length_take, List.length_drop]; omega
          · simp only [List.length_take]; omega
        simp only [List.length_cons, List.length_nil]; omega
      · rw [w64_eq (by omega) (by omega)]
        refine kk _ ⟨n + 1, by simp, by omega, ?_⟩ (by simp; omega)
        rw [hI]
        have e1 : r.List.take (n + 1) = r.List.take n ++ [p] := by rw [List.take_add_one, hp]; rfl
        by_cases hc : 0 ≤ i ∧ i < (n : Int)
        · have hc2 : 0 ≤ i ∧ i < ((n + 1 : Nat) : Int) := ⟨hc.1, by omega⟩
          rw [if_pos hc, if_pos hc2, e1, List.append_assoc, List.drop_append_of_le_length (by simp; omega)]
        · have hc2 : ¬ (0 ≤ i ∧ i < ((n + 1 : Nat) : Int)) := by omega
          rw [if_neg hc, if_neg hc2, e1]
    · have he : (n : Int) = i := by simpa using he
      subst he
      rw [w64_eq (by omega) (by omega)]
      refine kk _ ⟨n + 1, by simp, by omega, ?_⟩ (by simp; omega)
      rw [hI, if_neg (by omega), if_pos (by omega)]
      simp
  · have h : ¬ (n : Int) < r.List.length := by simpa using h
    refine OK.ret ?_
    rw [hI]
    have e : r.List.take n = r.List := List.take_of_length_le (by omega)
    rw [e]
    by_cases hc : 0 ≤ i ∧ i < (n : Int)
    · rw [if_pos hc, if_pos (by omega)]
    · rw [if_neg hc, if_neg (by omega)]
structure RB (c : Int) (r : tappetref13_Book) : Prop where
  cap : r.Cap = c
  c1 : 1 ≤ c
  c16 : c ≤ 16
  len : (r.List.length : Int) ≤ c
  nd : (pk r.List).Nodup
theorem RB.done {cap op k x : Int} {r : tappetref13_Book} {l : List api_Pair} (h : RB cap r) (hd : Done r.List l cap op k x) : RB cap ⟨r.Cap, l⟩ := by
  refine ⟨h.cap, h.c1, h.c16, ?_, hd.nd⟩
  have := hd.len
  have := h.len
  simp only
  rw [hd.len]
  unfold blen
  split
  · split <;> omega
  · split <;> omega
theorem ref13_do {fu : Nat} (hfu : 17 < fu) {cap : Int} {r : tappetref13_Book} (h : RB cap r) {op : Int} (h0 : 0 ≤ op) (h4 : op ≤ 4) (k x : Int) :
    OK (tappetref13_Book_Do fu r op k x) (fun o => o.1 = bres (pv r.List k) r.List.length cap op x ∧ ∃ l, o.2 = ⟨r.Cap, l⟩ ∧ Done r.List l cap op k x) := by
  have hl : r.List.length ≤ 16 := by have := h.len; have := h.c16; omega
  have same : ∀ (hop : op = 0 ∨ op = 1 ∨ ((op = 2 ∨ op = 4) ∧ pv r.List k = none ∧ (r.List.length : Int) = cap)), Done r.List r.List cap op k x := by
    intro hop
    refine ⟨fun q => ?_, ?_, h.nd⟩
    · by_cases e : q = k
      · subst e
        rw [if_pos rfl]
        rcases hop with rfl | rfl | ⟨hop, hn, hf⟩
        · simp [bval]
        · simp [bval]
        · have : ¬ op = 3 := by omega
          rw [hn]; simp [bval, this, hop, hf]
      · rw [if_neg e]
    · rcases hop with rfl | rfl | ⟨hop, hn, hf⟩
      · simp [blen]
      · simp [blen]
      · have : ¬ op = 3 := by omega
        simp [blen, this, hf]
  unfold tappetref13_Book_Do
  refine OK.bind2 (ref13_place hfu r hl k) (fun i hi => ?_)
  refine OK.bind2 (R := fun v => v = (pv r.List k).getD 0) ?_ (fun v hv => ?_)
  · refine OK.ite (fun hc => ?_) (fun hc => ?_)
    · rcases hi with ⟨rfl, _⟩ | ⟨n, rfl, p, hp, rfl⟩
      · simp at hc
      · refine OK.bind (OK.getN (List.getElem?_eq_some_iff.1 hp).1 (fun y hy => OK.ret ?_))
        rw [hp] at hy; cases hy
        rw [pv_at h.nd hp]; rfl
    · rcases hi with ⟨rfl, hn⟩ | ⟨n, rfl, _⟩
      · rw [hn]; exact OK.ret rfl
      · simp at hc
  subst hv
  have hsome : decide (i ≥ 0) = (pv r.List k).isSome := by
    rcases hi with ⟨rfl, hn⟩ | ⟨n, rfl, p, hp, rfl⟩
    · rw [hn]; rfl
    · rw [pv_at h.nd hp]; simp
  rw [hsome]
  refine OK.ite (fun e => ?_) (fun e => ?_)
  · have e : op = 0 := by simpa using e
    subst e
    exact OK.ret ⟨by simp [bres], _, rfl, same (.inl rfl)⟩
  refine OK.ite (fun e => ?_) (fun e1 => ?_)
  · have e : op = 1 := by simpa using e
    subst e
    exact OK.ret ⟨by simp [bres], _, rfl, same (.inr (.inl rfl))⟩
  have n0 : ¬ op = 0 := by simpa using e
  have n1 : ¬ op = 1 := by simpa using e1
  refine OK.bind2 (R := fun b => b = decide (op = 2 ∨ op = 4)) ?_ (fun b hb => ?_)
  · refine OK.ite (fun e => OK.ret ?_) (fun e => OK.ret ?_)
    · have e : op = 2 := by simpa using e
      simp [e]
    · have e : ¬ op = 2 := by simpa using e
      simp [e]
      by_cases h4 : op = 4 <;> simp [h4]
  subst hb
  refine OK.ite (fun e => ?_) (fun e => ?_)
  · have e : op = 2 ∨ op = 4 := by simpa using e
    have n3 : ¬ op = 3 := by omega
    have hneg : decide (i < 0) = (pv r.List k).isNone := by
      rcases hi with ⟨rfl, hn⟩ | ⟨n, rfl, p, hp, rfl⟩
      · rw [hn]; rfl
      · rw [pv_at h.nd hp]; simp
    rw [hneg]
    refine OK.ite (fun c => ?_) (fun c => ?_)
    · simp only [Bool.and_eq_true, Option.isNone_iff_eq_none, decide_eq_true_eq, ge_iff_le] at c
      have hf : (r.List.length : Int) = cap := by have := h.cap; have := h.len; omega
      refine OK.ret ⟨?_, _, rfl, same (.inr (.inr ⟨e, c.1, hf⟩))⟩
      rw [c.1]; simp [bres, n0, n1, n3, hf]
    · have hnf : ¬ (pv r.List k = none ∧ (r.List.length : Int) = cap) := by
        rintro ⟨a1, a2⟩
        have := h.cap
        simp [a1] at c
        omega
      refine OK.bind2 (R := fun o => o = ((if op = 4 then wu64 ((pv r.List k).getD 0 + x) else x), bres (pv r.List k) r.List.length cap op x)) ?_ (fun o ho => ?_)
      · refine OK.ite (fun e4 => OK.ret ?_) (fun e4 => OK.ret ?_)
        · have e4 : op = 4 := by simpa using e4
          subst e4
          simp [bres, hnf]
        · have e4 : ¬ op = 4 := by simpa using e4
          simp [bres, n0, n1, n3, e4, hnf]
      subst ho
      simp only
      have hbv : bval (pv r.List k) r.List.length cap op x = some (if op = 4 then wu64 ((pv r.List k).getD 0 + x) else x) := by
        unfold bval
        rw [if_neg n3, if_pos e, if_neg hnf]
      refine OK.ite (fun c2 => ?_) (fun c2 => ?_)
      · have hn : pv r.List k = none := by simpa using c2
        have hne : ¬ (r.List.length : Int) = cap := fun e => hnf ⟨hn, e⟩
        refine OK.bind (OK.hasRoom (by simp; omega) (OK.ret ⟨rfl, _, rfl, ⟨fun q => ?_, ?_, ?_⟩⟩))
        · rw [hbv, pv_app]
          by_cases hq : q = k
          · subst hq; simp [hn, pv]
          · have : ¬ k = q := fun z => hq z.symm
            rw [if_neg hq]
            cases pv r.List q <;> simp [pv, this]
        · rw [hn]; simp [blen, n3, e, hne]
        · rw [pk_app]
          refine List.nodup_append.2 ⟨h.nd, by simp [pk], fun a ha b hb e => ?_⟩
          simp [pk] at hb
          subst hb; subst e
          exact pv_none.1 hn ha
      · rcases hi with ⟨rfl, hn⟩ | ⟨n, rfl, p, hp, rfl⟩
        · rw [hn] at c2; simp at c2
        · refine OK.bind (OK.getN (List.getElem?_eq_some_iff.1 hp).1 (fun y hy => OK.ret ?_))
          rw [hp] at hy; cases hy
          refine ⟨rfl, _, rfl, ⟨fun q => ?_, ?_, ?_⟩⟩
          · rw [hbv]
            exact pv_set h.nd hp _ q
          · rw [pv_at h.nd hp]; simp [blen, n3]
          · have : pk (r.List.set (Int.toNat (n : Int)) ⟨p.Key, if op = 4 then wu64 ((pv r.List p.Key).getD 0 + x) else x⟩) = pk r.List := pk_set hp _
            rw [this]; exact h.nd
  · have e : ¬ (op = 2 ∨ op = 4) := by simpa using e
    have e3 : op = 3 := by omega
    subst e3
    refine OK.ite_true (by rfl) ?_
    refine OK.bind2 (ref13_copy hfu r hl i) (fun l hl2 => OK.ret ⟨by simp [bres], l, rfl, ?_⟩)
    rcases hi with ⟨rfl, hn⟩ | ⟨n, rfl, p, hp, rfl⟩
    · rw [if_neg (by omega)] at hl2
      subst hl2
      refine ⟨fun q => ?_, by rw [hn]; simp [blen], h.nd⟩
      by_cases e : q = k
      · subst e; simp [bval, hn]
      · simp [e]
    · have hlt := (List.getElem?_eq_some_iff.1 hp).1
      rw [if_pos (by omega)] at hl2
      have hl2 : l = r.List.take n ++ r.List.drop (n + 1) := hl2
      subst hl2
      refine ⟨fun q => ?_, ?_, h.nd.sublist pk_del⟩
      · rw [pv_del h.nd hp]; simp [bval]
      · rw [pv_at h.nd hp]
        simp [blen]
        omega
end Go.Proofs.Ytpchniebplpboaa
