/- The program's book: its pairs are sorted by their keys. -/
import Derived.Test.YtpchniebplpboaaKBook
set_option linter.unusedVariables false
set_option linter.unusedSimpArgs false
namespace Go.Proofs.Ytpchniebplpboaa
open Go.Sx

def Srt (l : List api_Pair) : Prop := (pk l).Pairwise (· < ·)
theorem Srt.nd {l : List api_Pair} (h : Srt l) : (pk l).Nodup := h.imp (fun a => by omega)
structure Found (l : List api_Pair) (k : Int) (i : Nat) : Prop where
  le : i ≤ l.length
  low : ∀ p ∈ l.take i, p.Key < k
  high : ∀ p ∈ l.drop i, k ≤ p.Key
theorem srt_get {l : List api_Pair} (h : Srt l) {i j : Nat} {p q : api_Pair} (hij : i < j) (hi : l[i]? = some p) (hj : l[j]? = some q) : p.Key < q.Key := by
  obtain ⟨hli, rfl⟩ := List.getElem?_eq_some_iff.1 hi
  obtain ⟨hlj, rfl⟩ := List.getElem?_eq_some_iff.1 hj
  have := List.pairwise_iff_getElem.1 h i j (by simpa [pk] using hli) (by simpa [pk] using hlj) hij
  simpa [pk] using this
theorem book_search {fu : Nat} (hfu : 17 < fu) {l : List api_Pair} (hs : Srt l) (hl : l.length ≤ 16) (k : Int) :
    OK (slices_BinarySearchFunc_tappet_api_Pair_tappet_api_Pair_uint64_83 fu l k) (fun r => ∃ i : Nat, r.1 = (i : Int) ∧ Found l k i ∧ r.2 = (pv l k).isSome ∧ (r.2 = true → ∃ p, l[i]? = some p ∧ p.Key = k)) := by
  unfold slices_BinarySearchFunc_tappet_api_Pair_tappet_api_Pair_uint64_83
  refine OK.bind2 (R := fun i => ∃ n : Nat, i = (n : Int) ∧ Found l k n)
    (OK.rounds (fun s => ∃ a b : Nat, s.1 = (a : Int) ∧ s.2 = (b : Int) ∧ a ≤ b ∧ b ≤ l.length ∧ (∀ p ∈ l.take a, p.Key < k) ∧ ∀ p ∈ l.drop b, k ≤ p.Key) (fun s => s.2.toNat - s.1.toNat) ?_ fu _ ⟨0, l.length, rfl, rfl, by omega, by omega, by simp, by simp⟩ (by simp; omega)) ?_
  · rintro ⟨s1, s2⟩ again ⟨a, b, e1, e2, hab, hb, hlo, hhi⟩ kk
    simp only at e1 e2
    subst e1; subst e2
    unfold slices_BinarySearchFunc_tappet_api_Pair_tappet_api_Pair_uint64_83_l1
    refine OK.ite (fun h => ?_) (fun h => ?_)
    · have h : (a : Int) < b := by simpa using h
      simp only
      rw [half (x := (a : Int) + b) (by omega) (by omega)]
      have em : ((a : Int) + b) / 2 = (((a + b) / 2 : Nat) : Int) := by omega
      rw [em]
      have hm1 : a ≤ (a + b) / 2 := by omega
      have hm2 : (a + b) / 2 < b := by omega
      refine OK.bind (OK.getN (by omega) (fun p hp => ?_))
      unfold book_Book_find_1
      by_cases c : p.Key < k
      · simp only [c, decide_true, if_true, Option.bind_some]
        refine OK.ite_true (by decide) ?_
        rw [w64_eq (by omega) (by omega)]
        refine kk _ ⟨(a + b) / 2 + 1, b, by simp, rfl, by omega, hb, fun q hq => ?_, hhi⟩ (by simp; omega)
        rw [List.take_add_one, hp] at hq
        rcases List.mem_append.1 hq with hq | hq
        · obtain ⟨j, hj, rfl⟩ := List.mem_iff_getElem.1 hq
          have hjl : j < (a + b) / 2 := by simp at hj; omega
          have := srt_get hs hjl (p := l[j]'(by omega)) (List.getElem?_eq_getElem (by omega)) hp
          rw [List.getElem_take]
          omega
        · simp at hq; subst hq; exact c
      · simp only [c, decide_false, Bool.false_eq_true, if_false]
        refine OK.bind2 (R := fun z => ¬ z < 0) ?_ (fun z hz => ?_)
        · refine OK.ite (fun _ => OK.ret (by decide)) (fun _ => OK.ret (by decide))
        · refine OK.ite_false (by simpa using hz) ?_
          refine kk _ ⟨a, (a + b) / 2, rfl, rfl, by omega, by omega, hlo, fun q hq => ?_⟩ (by simp; omega)
          obtain ⟨j, hj, rfl⟩ := List.mem_iff_getElem.1 hq
          rw [List.getElem_drop]
          have hjl : (a + b) / 2 + j < l.length := by simp at hj; omega
          cases j with
          | zero =>
            have : l[(a + b) / 2 + 0] = p := by
              obtain ⟨_, e⟩ := List.getElem?_eq_some_iff.1 hp
              exact e
            rw [this]; omega
          | succ j =>
            have := srt_get hs (show (a + b) / 2 < (a + b) / 2 + (j + 1) by omega) hp (List.getElem?_eq_getElem hjl)
            omega
    · have h : ¬ (a : Int) < b := by simpa using h
      have : a = b := by omega
      subst this
      exact OK.ret ⟨a, rfl, hb, hlo, hhi⟩
  · rintro i ⟨n, rfl, hf⟩
    have hlow : k ∉ pk (l.take n) := fun hm => by
      obtain ⟨p, hp, e⟩ := List.mem_map.1 hm
      have := hf.low p hp
      omega
    have hsp : pv l k = pv (l.drop n) k := by
      conv => lhs; rw [← List.take_append_drop n l, pv_app, pv_none.2 hlow]
    refine OK.bind2 (R := fun b => b = (pv l k).isSome ∧ (b = true → ∃ p, l[n]? = some p ∧ p.Key = k)) ?_ (fun b hb => OK.ret ⟨n, rfl, hf, hb.1, hb.2⟩)
    refine OK.ite (fun c => ?_) (fun c => ?_)
    · have c : (n : Int) < l.length := by simpa using c
      refine OK.bind (OK.getN (by omega) (fun p hp => ?_))
      have hd : l.drop n = p :: l.drop (n + 1) := by
        obtain ⟨hlt, rfl⟩ := List.getElem?_eq_some_iff.1 hp
        exact List.drop_eq_getElem_cons hlt
      have hk : k ≤ p.Key := hf.high p (by rw [hd]; exact List.mem_cons_self)
      unfold book_Book_find_1
      by_cases e : p.Key = k
      · subst e
        simp only [show ¬ p.Key < p.Key by omega, show ¬ p.Key > p.Key by omega, decide_false, Bool.false_eq_true, if_false, Option.bind_some]
        refine OK.ret ⟨?_, fun _ => ⟨p, hp, rfl⟩⟩
        rw [hsp, hd]; simp [pv]
      · have c1 : ¬ p.Key < k := by omega
        have c2 : p.Key > k := by omega
        simp only [c1, c2, decide_false, decide_true, Bool.false_eq_true, if_false, if_true, Option.bind_some]
        refine OK.ret ⟨?_, fun h => by simp at h⟩
        rw [hsp]
        have : k ∉ pk (l.drop n) := fun hm => by
          obtain ⟨q, hq, e2⟩ := List.mem_map.1 hm
          rw [hd] at hq
          rcases List.mem_cons.1 hq with rfl | hq
          · exact e e2
          · obtain ⟨j, hj, rfl⟩ := List.mem_iff_getElem.1 hq
            rw [List.getElem_drop] at e2
            have hjl : n + 1 + j < l.length := by simp at hj; omega
            have := srt_get hs (show n < n + 1 + j by omega) hp (List.getElem?_eq_getElem hjl)
            omega
        rw [pv_none.2 this]; rfl
    · have c : ¬ (n : Int) < l.length := by simpa using c
      refine OK.ret ⟨?_, fun h => by cases h⟩
      rw [hsp, List.drop_of_length_le (by omega)]; rfl
theorem srt_ins {l : List api_Pair} (hs : Srt l) {k : Int} {i : Nat} (hf : Found l k i) (hn : k ∉ pk l) (x : Int) : Srt (l.take i ++ [⟨k, x⟩] ++ l.drop i) := by
  unfold Srt
  rw [pk_app, pk_app]
  have h1 : (pk (l.take i)).Pairwise (· < ·) := List.Pairwise.sublist (List.Sublist.map _ (List.take_sublist _ _)) hs
  have h2 : (pk (l.drop i)).Pairwise (· < ·) := List.Pairwise.sublist (List.Sublist.map _ (List.drop_sublist _ _)) hs
  have hlow : ∀ a ∈ pk (l.take i), a < k := fun a ha => by
    obtain ⟨p, hp, rfl⟩ := List.mem_map.1 ha
    exact hf.low p hp
  have hhigh : ∀ a ∈ pk (l.drop i), k < a := fun a ha => by
    obtain ⟨p, hp, rfl⟩ := List.mem_map.1 ha
    have := hf.high p hp
    have : ¬ k = p.Key := fun e => hn (by rw [e]; exact List.mem_map_of_mem (List.mem_of_mem_drop hp))
    omega
  refine List.pairwise_append.2 ⟨List.pairwise_append.2 ⟨h1, by simp [pk], fun a ha b hb => ?_⟩, h2, fun a ha b hb => ?_⟩
  · simp [pk] at hb; subst hb; exact hlow a ha
  · rcases List.mem_append.1 ha with ha | ha
    · have := hlow a ha; have := hhigh b hb; omega
    · simp [pk] at ha; subst ha; exact hhigh b hb
structure BB (c : Int) (b : book_Book) : Prop where
  cap : b.cap = c
  c1 : 1 ≤ c
  c16 : c ≤ 16
  len : (b.pairs.length : Int) ≤ c
  srt : Srt b.pairs
theorem BB.done {c op k x : Int} {b : book_Book} {l : List api_Pair} (h : BB c b) (hs : Srt l) (hd : Done b.pairs l c op k x) : BB c ⟨b.cap, l⟩ := by
  refine ⟨h.cap, h.c1, h.c16, ?_, hs⟩
  have := hd.len
  have := h.len
  simp only
  rw [hd.len]
  unfold blen
  split
  · split <;> omega
  · split <;> omega
theorem book_do {fu : Nat} (hfu : 17 < fu) {cap : Int} {b : book_Book} (h : BB cap b) {op : Int} (h0 : 0 ≤ op) (h4 : op ≤ 4) (k x : Int) :
    OK (book_Book_Do fu b op k x) (fun o => o.1 = bres (pv b.pairs k) b.pairs.length cap op x ∧ ∃ l, o.2 = ⟨b.cap, l⟩ ∧ Srt l ∧ Done b.pairs l cap op k x) := by
  have hl : b.pairs.length ≤ 16 := by have := h.len; have := h.c16; omega
  have hnd := h.srt.nd
  have same : ∀ (hop : op = 0 ∨ op = 1 ∨ (op = 3 ∧ pv b.pairs k = none) ∨ ((op = 2 ∨ op = 4) ∧ pv b.pairs k = none ∧ (b.pairs.length : Int) = cap)), Done b.pairs b.pairs cap op k x := by
    intro hop
    refine ⟨fun q => ?_, ?_, hnd⟩
    · by_cases e : q = k
      · subst e
        rw [if_pos rfl]
        rcases hop with rfl | rfl | ⟨rfl, hn⟩ | ⟨hop, hn, hf⟩
        · simp [bval]
        · simp [bval]
        · simp [bval, hn]
        · have : ¬ op = 3 := by omega
          rw [hn]; simp [bval, this, hop, hf]
      · rw [if_neg e]
    · rcases hop with rfl | rfl | ⟨rfl, hn⟩ | ⟨hop, hn, hf⟩
      · simp [blen]
      · simp [blen]
      · simp [blen, hn]
      · have : ¬ op = 3 := by omega
        simp [blen, this, hf]
  unfold book_Book_Do
  refine OK.ite_false (by simp; omega) ?_
  unfold book_Book_find
  refine OK.bind2 (R := fun r => ∃ i : Nat, r.1 = (i : Int) ∧ Found b.pairs k i ∧ r.2 = (pv b.pairs k).isSome ∧ (r.2 = true → ∃ p, b.pairs[i]? = some p ∧ p.Key = k)) (OK.bind2 (book_search hfu h.srt hl k) (fun r hr => OK.ret hr)) ?_
  rintro ⟨r1, r2⟩ ⟨i, e1, hf, e2, hp⟩
  simp only at e1 e2 hp ⊢
  subst e1; subst e2
  have hval : ∀ p, b.pairs[i]? = some p → p.Key = k → pv b.pairs k = some p.Val := fun p hq e => by subst e; exact pv_at hnd hq
  refine OK.bind2 (R := fun o => o = ⟨0, (pv b.pairs k).isSome, if op = 1 then 0 else (pv b.pairs k).getD 0, false, 0, 0⟩) ?_ (fun o ho => ?_)
  · refine OK.ite (fun c => ?_) (fun c => ?_)
    · simp only [Bool.and_eq_true, bne_iff_ne, ne_eq] at c
      obtain ⟨p, hpi, hk⟩ := hp c.1
      refine OK.bind (OK.getN (List.getElem?_eq_some_iff.1 hpi).1 (fun y hy => OK.ret ?_))
      rw [hpi] at hy; cases hy
      rw [hval p hpi hk, if_neg c.2]; rfl
    · refine OK.ret ?_
      by_cases e : op = 1
      · simp [e]
      · have : (pv b.pairs k).isSome = false := by
          cases hq : (pv b.pairs k).isSome with
          | false => rfl
          | true => simp [hq, e] at c
        have hn : pv b.pairs k = none := by simpa using this
        simp [hn]
  subst ho
  refine OK.ite (fun e => ?_) (fun e3 => ?_)
  · have e : op = 3 := by simpa using e
    subst e
    refine OK.ite (fun c => ?_) (fun c => ?_)
    · obtain ⟨p, hpi, hk⟩ := hp c
      have hlt := (List.getElem?_eq_some_iff.1 hpi).1
      unfold slices_Delete_tappet_api_Pair_tappet_api_Pair delF
      rw [w64_eq (by omega) (by omega), if_pos ⟨by omega, by omega, by omega⟩]
      have e5 : ((i : Int) + 1).toNat = i + 1 := by omega
      simp only [Option.bind_some, Int.toNat_natCast, e5]
      refine OK.ret ⟨by simp [bres], _, rfl, ?_, fun q => ?_, ?_, hnd.sublist pk_del⟩
      · exact List.Pairwise.sublist pk_del h.srt
      · subst hk
        rw [pv_del hnd hpi]; simp [bval]
      · rw [hval p hpi hk]
        simp [blen]
        omega
    · have hn : pv b.pairs k = none := by simpa using c
      refine OK.ret ⟨by simp [bres], _, rfl, h.srt, same (.inr (.inr (.inl ⟨rfl, hn⟩)))⟩
  have n3 : ¬ op = 3 := by simpa using e3
  refine OK.bind2 (R := fun b => b = decide (op = 2 ∨ op = 4)) ?_ (fun z hz => ?_)
  · refine OK.ite (fun e => OK.ret ?_) (fun e => OK.ret ?_)
    · have e : op = 2 := by simpa using e
      simp [e]
    · have e : ¬ op = 2 := by simpa using e
      simp [e]
      by_cases h4 : op = 4 <;> simp [h4]
  subst hz
  refine OK.ite (fun e => ?_) (fun e => ?_)
  · have e : op = 2 ∨ op = 4 := by simpa using e
    have n0 : ¬ op = 0 := by omega
    have n1 : ¬ op = 1 := by omega
    refine OK.ite (fun c => ?_) (fun c => ?_)
    · have hn : pv b.pairs k = none := by simp at c; exact c.1
      have hfull : (b.pairs.length : Int) = cap := by simp at c; have := h.cap; omega
      refine OK.ret ⟨?_, _, rfl, h.srt, same (.inr (.inr (.inr ⟨e, hn, hfull⟩)))⟩
      simp [bres, n0, n1, n3, hn, hfull]
    · have hnf : ¬ (pv b.pairs k = none ∧ (b.pairs.length : Int) = cap) := by
        rintro ⟨a1, a2⟩
        have := h.cap
        simp [a1] at c
        omega
      have hbv : bval (pv b.pairs k) b.pairs.length cap op x = some (if op = 4 then wu64 ((pv b.pairs k).getD 0 + x) else x) := by
        unfold bval
        rw [if_neg n3, if_pos e, if_neg hnf]
      refine OK.bind2 (R := fun (m : book_Book) => m.cap = b.cap ∧ m.pairs.length = (if pv b.pairs k = none then b.pairs.length + 1 else b.pairs.length) ∧ Srt m.pairs ∧ (∃ p, m.pairs[i]? = some p ∧ p.Key = k) ∧ ∀ q, q ≠ k → pv m.pairs q = pv b.pairs q) ?_ (fun m hm => ?_)
      · refine OK.ite (fun c2 => ?_) (fun c2 => ?_)
        · have hn : pv b.pairs k = none := by simpa using c2
          have hfl := hf.le
          unfold slices_Insert_tappet_api_Pair_tappet_api_Pair insF
          rw [if_pos ⟨by omega, by omega, by simp; omega⟩]
          simp only [Option.bind_some, Int.toNat_natCast]
          refine OK.ret ⟨rfl, ?_, srt_ins h.srt hf (pv_none.1 hn) 0, ⟨⟨k, 0⟩, ?_, rfl⟩, fun q hq => ?_⟩
          · rw [if_pos hn]; simp; omega
          · rw [List.append_assoc, List.getElem?_append_right (by simp; omega)]
            have : i - (List.take i b.pairs).length = 0 := by simp; omega
            rw [this]; rfl
          · have hkq : ¬ k = q := fun z => hq z.symm
            conv => rhs; rw [← List.take_append_drop i b.pairs, pv_app]
            rw [List.append_assoc, pv_app]
            simp only [List.singleton_append, pv, hkq, if_false]
        · have hs : (pv b.pairs k).isSome = true := by simpa using c2
          have hn : ¬ pv b.pairs k = none := fun e => by rw [e] at hs; cases hs
          exact OK.ret ⟨rfl, by rw [if_neg hn], h.srt, hp hs, fun q _ => rfl⟩
      obtain ⟨m1, m2, m3, ⟨p, hpi, hk⟩, m5⟩ := hm
      refine OK.bind2 (R := fun o => o = ((if op = 4 then wu64 ((pv b.pairs k).getD 0 + x) else x), bres (pv b.pairs k) b.pairs.length cap op x)) ?_ (fun o ho => ?_)
      · refine OK.ite (fun e4 => OK.ret ?_) (fun e4 => OK.ret ?_)
        · have e4 : op = 4 := by simpa using e4
          subst e4
          simp [bres, hnf]
        · have e4 : ¬ op = 4 := by simpa using e4
          simp [bres, n0, n1, n3, e4, hnf]
      subst ho
      refine OK.bind (OK.getN (List.getElem?_eq_some_iff.1 hpi).1 (fun y hy => OK.ret ?_))
      rw [hpi] at hy; cases hy
      refine ⟨rfl, _, by rw [m1], ?_, fun q => ?_, ?_, ?_⟩
      · unfold Srt; rw [show pk (m.pairs.set (Int.toNat (i : Int)) ⟨p.Key, _⟩) = pk m.pairs from pk_set hpi _]; exact m3
      · rw [hbv]
        subst hk
        rw [show Int.toNat (i : Int) = i from rfl, pv_set m3.nd hpi]
        by_cases hq : q = p.Key
        · rw [if_pos hq, if_pos hq]
        · rw [if_neg hq, if_neg hq, m5 q hq]
      · rw [List.length_set, m2]
        unfold blen
        rw [if_neg n3]
        by_cases hn : pv b.pairs k = none
        · have : ¬ (b.pairs.length : Int) = cap := fun e => hnf ⟨hn, e⟩
          rw [if_pos hn, if_pos ⟨e, hn, this⟩]
        · rw [if_neg hn, if_neg (fun z => hn z.2.1)]
      · rw [show pk (m.pairs.set (Int.toNat (i : Int)) ⟨p.Key, _⟩) = pk m.pairs from pk_set hpi _]; exact m3.nd
  · have e : ¬ (op = 2 ∨ op = 4) := by simpa using e
    have e01 : op = 0 ∨ op = 1 := by omega
    refine OK.ret ⟨?_, _, rfl, h.srt, same (by rcases e01 with h | h; exact .inl h; exact .inr (.inl h))⟩
    rcases e01 with rfl | rfl <;> simp [bres]
structure BR (c : Int) (b : book_Book) (r : tappetref13_Book) : Prop where
  bb : BB c b
  rb : RB c r
  vals : ∀ q, pv b.pairs q = pv r.List q
  len : b.pairs.length = r.List.length
theorem both_do {fu : Nat} (hfu : 17 < fu) {c : Int} {b : book_Book} {r : tappetref13_Book} (h : BR c b r) {op : Int} (h0 : 0 ≤ op) (h4 : op ≤ 4) (k x : Int) :
    ∃ v b' r', book_Book_Do fu b op k x = some (v, b') ∧ tappetref13_Book_Do fu r op k x = some (v, r') ∧ BR c b' r' ∧ v = bres (pv r.List k) r.List.length c op x ∧ (∀ q, pv r'.List q = if q = k then bval (pv r.List k) r.List.length c op x else pv r.List q) ∧ r'.List.length = blen (pv r.List k) r.List.length c op ∧ r'.Cap = r.Cap := by
  obtain ⟨⟨v, b'⟩, e1, e2, l, e3, e4, e5⟩ := book_do hfu h.bb h0 h4 k x
  obtain ⟨⟨u, r'⟩, f1, f2, m, f3, f5⟩ := ref13_do hfu h.rb h0 h4 k x
  simp only at e2 e3 f2 f3
  subst e3; subst f3
  have : v = u := by rw [e2, f2, h.vals, h.len]
  subst this
  refine ⟨v, _, _, e1, f1, ⟨h.bb.done e4 e5, h.rb.done f5, fun q => ?_, ?_⟩, f2, f5.vals, f5.len, rfl⟩
  · show pv l q = pv m q
    rw [e5.vals, f5.vals, h.vals, h.vals, h.len]
  · show l.length = m.length
    rw [e5.len, f5.len, h.vals, h.len]
end Go.Proofs.Ytpchniebplpboaa
