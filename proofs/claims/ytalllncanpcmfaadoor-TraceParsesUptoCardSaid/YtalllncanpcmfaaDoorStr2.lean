/- More of strings and strconv by contracts: ReplaceAll, FormatUint, ParseUint; a letter as a text; pointers that may be nil. -/
import Derived.Test.YtalllncanpcmfaaDoorStrB
import Derived.Lib.Replace
set_option linter.unusedVariables false
set_option linter.unusedSimpArgs false
namespace Go.Sx
open Go.RowKit Go.Sort

/-- a pointer to a cell of block b, or nil -/
def optAt (b : Nat) : Option Nat → Value
  | some q => .pointer (some ⟨b, q, none⟩)
  | none => .pointer none
def ofRune (c : Int) : Option ByteArray := if 0 ≤ c ∧ c < 128 then some ⟨[UInt8.ofNat c.toNat].toArray⟩ else none
theorem encode_ascii (c : Int) (h : 0 ≤ c ∧ c < 128) : Utf8.encode c = ⟨[UInt8.ofNat c.toNat].toArray⟩ := by
  have hv : Utf8.valid c = true := by
    unfold Utf8.valid
    simp
    omega
  unfold Utf8.encode
  simp only [hv, if_true]
  rw [if_pos (by omega)]
section
variable {P : Program} {N : Nat} {fr : List (Nat × Value)}
theorem erreq_run {o : Oper} {t t2 : TypeId} {x y : Operand} {T : TypeId} {b : Bool} {p : Value} (ho : o.op = .binOp .eql t x y t2) (hx : look fr x = some (errV T b p)) (hy : y = .const .nilIface)
    (hm : P.isIface t = true) : ∀ a w, Rep N fr a → (execOp a.eval o).run P w = .ok (.value (.bool (!b))) w := by
  intro a w ha
  subst hy
  have e1 := ha.look hx
  have e2 : a.eval (.const .nilIface) = .nilIface := rfl
  cases b with
  | true =>
    have e1 : a.eval x = .iface T p := by simpa [errV] using e1
    simp [execOp, ho, e1, e2, run_eql_iface_nil w t hm, eqGuard]
  | false =>
    have e1 : a.eval x = .nilIface := by simpa [errV] using e1
    simp [execOp, ho, e1, e2, run_eql_nil_nil_at w t hm, eqGuard]
theorem rune_run {o : Oper} {src dst : TypeId} {x : Operand} {c : Int} {k : IntKind} {r : ByteArray} (ho : o.op = .convert src dst x) (hx : look fr x = some (.int k c)) (hs : (P.underlying src).isSome = true) (hd : P.underlying dst = some .string) (h : ofRune c = some r) :
    ∀ a w, Rep N fr a → (execOp a.eval o).run P w = .ok (.value (.string r)) w := by
  intro a w ha
  have e1 := ha.look hx
  unfold ofRune at h
  split at h
  · rename_i hc
    cases h
    rw [← encode_ascii c hc]
    simp [execOp, ho, e1, run_convert_int_string w src dst k c hs hd]
  · cases h
end
def strconv_FormatUint (n b : Int) : Option ByteArray := if b = 10 ∧ 0 ≤ n ∧ n < 18446744073709551616 then some ⟨(Lib.decDigits n.toNat).toArray⟩ else none
theorem formatu_ok {P : Program} {f : FuncId} {w : World} {n b : Int} {r : ByteArray}
    (hs : ∀ (u : Nat), u < 18446744073709551616 → ∀ (w : World), Lib.TabIs P w "internal/strconv.uint64pow10" .u64 Lib.pow10Tab →
      Calls P f #[.int .u64 u, .int .i64 10] w fun e w' => e = .returned (.string ⟨(Lib.decDigits u).toArray⟩) ∧ ∃ k os, w' = grow (w.drewN k) os)
    (hF : strconv_FormatUint n b = some r) (ht : Lib.TabIs P w "internal/strconv.uint64pow10" .u64 Lib.pow10Tab) :
    Calls P f [.int .u64 n, .int .i64 b].toArray w (fun e w' => e = .returned (.string r) ∧ St w (fp []) w' []) := by
  unfold strconv_FormatUint at hF
  split at hF
  · rename_i h
    obtain ⟨rfl, h1, h2⟩ := h
    cases hF
    obtain ⟨u, rfl⟩ := Int.eq_ofNat_of_zero_le h1
    refine (hs u (by omega) w ht).mono ?_
    rintro e w' ⟨rfl, k, os, rfl⟩
    exact ⟨rfl, St.zeroTo chg_grow⟩
  · cases hF
def strconv_ParseUint (s : ByteArray) (base bits : Int) : Option (Int × Bool) :=
  if base = 10 ∧ bits = 64 ∧ s.size ≤ 281474976710656 then (match Lib.parseUintB 64 s.data.toList with | .ok u => some ((u : Int), false) | .range => some (18446744073709551615, true) | _ => some (0, true)) else none
theorem parseu_ok {P : Program} {f : FuncId} {w : World} {s : ByteArray} {base bits : Int} {r : Int × Bool} {gs gr e5 T T2 : Nat} {nm : Value}
    (h1 : ∀ (s : ByteArray), s.size ≤ 9223372036854775806 → ∀ (u : Nat), Lib.parseUintB 64 s.data.toList = .ok u → ∀ (w : World),
      Calls P f #[.string s, .int .i64 10, .int .i64 64] w fun e w' => e = .returned (.tuple #[.int .u64 u, .nilIface]) ∧ (w' = w ∨ w' = Lib.bytesWorld w e5 s))
    (h2 : ∀ (s : ByteArray), s.size ≤ 281474976710656 → Lib.parseUintB 64 s.data.toList = Lib.parseUintB 64 [] → ∀ (ev : Value) (w : World), w.cell? ⟨gs, 0, none⟩ = some ev → (ev = .nilIface ∨ ∃ te pe, ev = .iface te pe) →
      Calls P f #[.string s, .int .i64 10, .int .i64 64] w fun e w' => ∃ N, e = .returned (.tuple #[.int .u64 0, .iface T (.pointer (some ⟨N, 0, none⟩))]) ∧ w.heap.size ≤ N ∧ w'.heap[N]? = some (.cells #[nm, .string s, ev] T2 (0, 0)) ∧ Below w.heap.size w w')
    (h3 : ∀ (s : ByteArray), s.size ≤ 281474976710656 → Lib.parseUintB 64 s.data.toList = .range → ∀ (ev : Value) (w : World), w.cell? ⟨gr, 0, none⟩ = some ev → (ev = .nilIface ∨ ∃ te pe, ev = .iface te pe) →
      Calls P f #[.string s, .int .i64 10, .int .i64 64] w fun e w' => ∃ N, e = .returned (.tuple #[.int .u64 18446744073709551615, .iface T (.pointer (some ⟨N, 0, none⟩))]) ∧ w.heap.size ≤ N ∧ w'.heap[N]? = some (.cells #[nm, .string s, ev] T2 (0, 0)) ∧ Below w.heap.size w w')
    (hF : strconv_ParseUint s base bits = some r) (hy : ∃ ev, w.cell? ⟨gs, 0, none⟩ = some ev ∧ (ev = .nilIface ∨ ∃ te pe, ev = .iface te pe)) (hz : ∃ ev, w.cell? ⟨gr, 0, none⟩ = some ev ∧ (ev = .nilIface ∨ ∃ te pe, ev = .iface te pe)) :
    Calls P f [.string s, .int .i64 base, .int .i64 bits].toArray w (fun e w' => ∃ x : Value, e = .returned (.tuple #[.int .u64 r.1, errV T r.2 x]) ∧ St w (fp []) w' []) := by
  unfold strconv_ParseUint at hF
  split at hF
  · rename_i h
    obtain ⟨rfl, rfl, hle⟩ := h
    cases hp : Lib.parseUintB 64 s.data.toList
    · rename_i v
      rw [hp] at hF; cases hF
      refine (h1 s (by omega) v hp w).mono ?_
      rintro e w' ⟨rfl, h | h⟩
      · subst h; exact ⟨.nilIface, rfl, St.zeroTo (Chg.refl _ _)⟩
      · subst h
        exact ⟨.nilIface, rfl, St.zeroTo (Chg.ofBelow (Lib.bytesWorld_below w e5 s))⟩
    · rw [hp] at hF; cases hF
      obtain ⟨ev, a, b⟩ := hy
      refine (h2 s hle hp ev w a b).mono ?_
      rintro e w' ⟨N, rfl, _, _, hB⟩
      exact ⟨_, rfl, St.zeroTo (Chg.ofBelow hB)⟩
    · rw [hp] at hF; cases hF
      obtain ⟨ev, a, b⟩ := hz
      refine (h3 s hle hp ev w a b).mono ?_
      rintro e w' ⟨N, rfl, _, _, hB⟩
      exact ⟨_, rfl, St.zeroTo (Chg.ofBelow hB)⟩
  · cases hF
def strings_ReplaceAll (s old new : ByteArray) : Option ByteArray :=
  if s.size < 4294967281 ∧ 1 ≤ old.size ∧ s.size + Lib.countB s old * new.size ≤ 140737488355328 then some ⟨(Lib.replaceAll s.data.toList old.data.toList new.data.toList).toArray⟩ else none
theorem replace_ok {P : Program} {f : FuncId} {w : World} {s old new r : ByteArray} {g : Nat} {m : Int}
    (hs : ∀ (s old new : ByteArray) (m : Int) (w : World), s.size < 4294967281 → w.cell? ⟨g, 0, none⟩ = some (.int .i64 m) → 1 ≤ old.size → s.size + Lib.countB s old * new.size ≤ 140737488355328 →
      Calls P f #[.string s, .string old, .string new] w fun e w' => e = .returned (.string ⟨(Lib.replaceAll s.data.toList old.data.toList new.data.toList).toArray⟩) ∧ Below w.heap.size w w')
    (hF : strings_ReplaceAll s old new = some r) (hm : w.cell? ⟨g, 0, none⟩ = some (.int .i64 m)) :
    Calls P f [.string s, .string old, .string new].toArray w (fun e w' => e = .returned (.string r) ∧ St w (fp []) w' []) := by
  unfold strings_ReplaceAll at hF
  split at hF
  · rename_i h
    cases hF
    refine (hs s old new m w h.1 hm h.2.1 h.2.2).mono ?_
    rintro e w' ⟨rfl, hB⟩
    exact ⟨rfl, St.zeroTo (Chg.ofBelow hB)⟩
  · cases hF
end Go.Sx
