/- Texts: cut at feeds, put together; what parts of a text are. -/
import Derived.Test.YtalllncanpcmfaaDoorPure
import Derived.Test.YtalllncanpcmfaaDoorF1
import Derived.Test.YtalllncanpcmfaaDoorKSplit
import Derived.Lib.ItoaLen
set_option linter.unusedVariables false
set_option linter.unusedSimpArgs false
namespace Go.Proofs.YtalllncanpcmfaaDoor
open Go.Sx

def nl : ByteArray := ⟨[10].toArray⟩
def catL (l : List ByteArray) : ByteArray := l.foldl (· ++ ·) ByteArray.empty
theorem catL_snoc (l : List ByteArray) (a : ByteArray) : catL (l ++ [a]) = catL l ++ a := by unfold catL; rw [List.foldl_append]; rfl
theorem catL_from (l : List ByteArray) : ∀ b : ByteArray, l.foldl (· ++ ·) b = b ++ catL l := by
  induction l with
  | nil => intro b; simp [catL]
  | cons a l ih =>
    intro b
    unfold catL
    rw [List.foldl_cons, List.foldl_cons, ih, ih (ByteArray.empty ++ a), ByteArray.empty_append, ByteArray.append_assoc]
theorem catL_cons (a : ByteArray) (l : List ByteArray) : catL (a :: l) = a ++ catL l := by
  conv => lhs; unfold catL
  rw [List.foldl_cons, catL_from, ByteArray.empty_append]
theorem catL_nil : catL [] = ByteArray.empty := rfl
theorem catL_app : ∀ (l m : List ByteArray), catL (l ++ m) = catL l ++ catL m
  | [], m => by rw [List.nil_append, catL_nil, ByteArray.empty_append]
  | a :: l, m => by rw [List.cons_append, catL_cons, catL_cons, catL_app l m, ByteArray.append_assoc]
theorem sEq_iff {a b : ByteArray} : sEq a b = true ↔ a = b := by
  unfold sEq
  rw [ByteArray.toList_eq, ByteArray.toList_eq, beq_iff_eq]
  exact ⟨ba_ext, fun h => by rw [h]⟩
theorem sNe_size {a : ByteArray} (h : 0 < a.size) : sNe a ByteArray.empty = true := by
  unfold sNe
  cases hs : sEq a ByteArray.empty with
  | false => rfl
  | true =>
    rw [sEq_iff.1 hs] at h
    exact absurd h (by decide)
theorem app_list (a b : ByteArray) : (a ++ b).data.toList = a.data.toList ++ b.data.toList := by rw [ByteArray.data_append, Array.toList_append]
theorem cut_hit {a r : ByteArray} (h : NoB 10 a.data.toList) (hz : (a ++ nl ++ r).size ≤ 9223372036854775806) : strings_Cut (a ++ nl ++ r) (⟨[10].toArray⟩) = some (a, r, true) := by
  have hd : (a ++ nl ++ r).data.toList = a.data.toList ++ 10 :: r.data.toList := by rw [app_list, app_list]; simp [nl]
  have hsz : (a ++ nl ++ r).size = a.size + 1 + r.size := by rw [ByteArray.size_append, ByteArray.size_append]; rfl
  have hi : stringslite_Index (a ++ nl ++ r) (⟨[10].toArray⟩) = some (a.size : Int) := by
    unfold stringslite_Index
    show some (Lib.indexByte (a ++ nl ++ r).data.toList 10) = _
    rw [hd, byte_hit h, Lib.size_eq]
  have e1 : scut (a ++ nl ++ r) 0 (a.size : Int) = some a := by
    unfold scut
    rw [if_pos (by omega)]
    refine congrArg some (ba_ext ?_)
    rw [Lib.extract_data, hd]
    show List.take ((a.size : Int).toNat - 0) (List.drop 0 (a.data.toList ++ 10 :: r.data.toList)) = a.data.toList
    rw [List.drop_zero, Nat.sub_zero, Int.toNat_natCast, Lib.size_eq, List.take_left]
  have e2 : scut (a ++ nl ++ r) (w64 ((a.size : Int) + ((⟨[10].toArray⟩ : ByteArray).size : Int))) ((a ++ nl ++ r).size : Int) = some r := by
    rw [show ((⟨[10].toArray⟩ : ByteArray).size : Int) = 1 from rfl, w64_eq (by omega) (by omega)]
    unfold scut
    rw [if_pos (by omega)]
    refine congrArg some (ba_ext ?_)
    rw [Lib.extract_data, hd, List.take_of_length_le (by rw [List.length_drop, ← hd, ← Lib.size_eq]; omega)]
    rw [show ((a.size : Int) + 1).toNat = a.data.toList.length + 1 by rw [← Lib.size_eq]; omega]
    exact drop_mid _ _ _
  unfold strings_Cut stringslite_Cut
  rw [hi]
  simp only [Option.bind_some]
  rw [if_pos (by simp), e1]
  simp only [Option.bind_some, e2]
theorem cut_miss {a : ByteArray} (h : NoB 10 a.data.toList) : strings_Cut a (⟨[10].toArray⟩) = some (a, ByteArray.empty, false) := by
  have hi : stringslite_Index a (⟨[10].toArray⟩) = some (-1) := by
    unfold stringslite_Index
    show some (Lib.indexByte a.data.toList 10) = _
    rw [byte_miss h]
  unfold strings_Cut stringslite_Cut
  rw [hi]
  rfl
theorem cat_ok {a b : ByteArray} {Q : ByteArray → Prop} (h : a.size + b.size ≤ 9223372036854775807) (k : Q (a ++ b)) : OK (catB a b) Q := ⟨a ++ b, by unfold catB; rw [if_pos h], k⟩
theorem sidx_eq {s : ByteArray} {i : Nat} {b : UInt8} (h : s.data.toList[i]? = some b) : sidx s (i : Int) = some (b.toNat : Int) := by
  have hi : i < s.size := by
    have := (List.getElem?_eq_some_iff.1 h).1
    rw [Array.length_toList] at this
    exact this
  have h2 : s[i]? = some b := by
    rw [getElem?_pos s i hi]
    have := (List.getElem?_eq_some_iff.1 h).2
    rw [← this]
    rfl
  unfold sidx
  simp [h2]
theorem sidx_some {s : ByteArray} {i : Nat} (h : i < s.size) : ∃ c, sidx s (i : Int) = some c := by
  rw [Lib.size_eq] at h
  exact ⟨_, sidx_eq (List.getElem?_eq_getElem h)⟩
theorem nob_app {c : UInt8} {a b : List UInt8} (ha : NoB c a) (hb : NoB c b) : NoB c (a ++ b) := fun x hx => (List.mem_append.1 hx).elim (ha x) (hb x)
theorem splitB_small (k : Nat) : ∀ (s : ByteArray) (w : ByteArray), w ∈ Lib.splitB sp 0 k s → w.size ≤ s.size := by
  induction k with
  | zero =>
    intro s w h
    rw [Lib.splitB_zero, List.mem_singleton] at h
    subst h
    exact Nat.le_refl _
  | succ k ih =>
    intro s w h
    have e0 : ∀ a b, (s.extract a b).size ≤ s.size := by
      intro a b
      rw [Lib.size_eq, Lib.extract_data, Lib.size_eq s, List.length_take, List.length_drop]
      omega
    unfold Lib.splitB at h
    split at h
    · rw [List.mem_singleton] at h
      subst h
      exact Nat.le_refl _
    · rcases List.mem_cons.1 h with h | h
      · subst h
        exact e0 _ _
      · exact Nat.le_trans (ih _ _ h) (e0 _ _)
def i64 (n : Int) : Prop := -9223372036854775808 ≤ n ∧ n ≤ 9223372036854775807
def u64 (n : Int) : Prop := 0 ≤ n ∧ n ≤ 18446744073709551615
theorem parseu_le {M : Nat} : ∀ (l : List UInt8) (acc u : Nat), acc ≤ M → Lib.parseUintM M acc l = .ok u → u ≤ M
  | [], acc, u, h, e => by
    simp only [Lib.parseUintM, Lib.NumEnd.ok.injEq] at e
    omega
  | c :: l, acc, u, h, e => by
    unfold Lib.parseUintM at e
    split at e
    · split at e
      · cases e
      · split at e
        · cases e
        · exact parseu_le l _ u (by omega) e
    · cases e
theorem parse_u (w : ByteArray) (h : w.size ≤ 281474976710656) : ∃ v b, strconv_ParseUint w 10 64 = some (v, b) ∧ (b = false → u64 v) := by
  unfold strconv_ParseUint
  rw [if_pos ⟨rfl, rfl, h⟩]
  split
  · rename_i u hu
    refine ⟨_, _, rfl, fun _ => ?_⟩
    unfold Lib.parseUintB at hu
    split at hu
    · cases hu
    · have := parseu_le _ _ _ (Nat.zero_le _) hu
      have e : 2 ^ 64 - 1 = 18446744073709551615 := rfl
      rw [e] at this
      exact ⟨by omega, by omega⟩
  · exact ⟨_, _, rfl, fun e => by cases e⟩
  · exact ⟨_, _, rfl, fun e => by cases e⟩
theorem parse_i (w : ByteArray) (h : w.size ≤ 281474976710656) : ∃ v b, strconv_ParseInt w 10 64 = some (v, b) ∧ (b = false → i64 v) := by
  unfold strconv_ParseInt
  rw [if_pos ⟨rfl, rfl, h⟩]
  split
  · rename_i v hv
    exact ⟨_, _, rfl, fun _ => parse_range hv⟩
  · exact ⟨_, _, rfl, fun e => by cases e⟩
  · exact ⟨_, _, rfl, fun e => by cases e⟩
theorem nonl_itoa (n : Int) : NoB 10 (Lib.itoa n) := by
  intro b hb e
  subst e
  rcases itoa_bytes n _ hb with h | h
  · simp at h
  · unfold digit at h; simp at h
theorem nonl_dec (n : Nat) : NoB 10 (Lib.decDigits n) := by
  intro b hb e
  subst e
  have := (dec_digits n).1 _ hb
  unfold digit at this; simp at this
theorem scut_tail {w : ByteArray} (h : 0 < w.size) : ∃ r, scut w 1 ((w).size : Int) = some r ∧ r.size ≤ w.size := by
  refine ⟨w.extract (1 : Int).toNat ((w.size : Int)).toNat, by unfold scut; rw [if_pos (by omega)], ?_⟩
  rw [Lib.size_eq, Lib.extract_data, Lib.size_eq w, List.length_take, List.length_drop]
  omega
end Go.Proofs.YtalllncanpcmfaaDoor
