/- A line that is written is read back. -/
import Derived.Test.YteaedkohbgediaaDoorKEach
import Derived.Test.YteaedkohbgediaaDoorKSplit
set_option linter.unusedVariables false
set_option linter.unusedSimpArgs false
namespace Go.Proofs.YteaedkohbgediaaDoor
open Go.Sx

/-- the words of the fields -/
def fws (x : api_Inst) (o : ByteArray) : List ByteArray := (List.range o.size).map fun i => (fieldW x (runeAt o i)).getD ByteArray.empty
theorem loop_words {x : api_Inst} {o : ByteArray} (ho : ∀ p, p < o.size → runeEnd o p = p + 1) :
    ∀ (l : List ByteArray) (fu : Nat) (ws : List ByteArray) (p : Nat), o.size = p + l.length → l.length < fu → ws.length + l.length ≤ 1000 → (∀ i w, l[i]? = some w → fieldW x (runeAt o (p + i)) = some w) →
      loop (lines_line_l1 x o) fu (ws, p) = some (ws ++ l) := by
  intro l
  induction l with
  | nil =>
    intro fu ws p hp hf hw hl
    obtain ⟨fu, rfl⟩ : ∃ f, fu = f + 1 := ⟨fu - 1, by simp at hf; omega⟩
    show lines_line_l1 x o (loop (lines_line_l1 x o) fu) (ws, p) = _
    rw [line_end (by simp at hp; omega), List.append_nil]
  | cons w l ih =>
    intro fu ws p hp hf hw hl
    simp only [List.length_cons] at hp hf hw
    obtain ⟨fu, rfl⟩ : ∃ f, fu = f + 1 := ⟨fu - 1, by omega⟩
    show lines_line_l1 x o (loop (lines_line_l1 x o) fu) (ws, p) = _
    have h0 := hl 0 w rfl
    rw [Nat.add_zero] at h0
    rw [line_step (by omega), h0, ho p (by omega)]
    simp only [Option.bind_some]
    rw [show room (ws.length + 1) 16 = some () from by unfold room; rw [if_pos (by omega)]]
    simp only [Option.bind_some]
    rw [ih fu (ws ++ [w]) (p + 1) (by omega) (by omega) (by simp; omega) (fun i v hv => by rw [show p + 1 + i = p + (i + 1) by omega]; exact hl (i + 1) v (by simpa using hv))]
    simp
/-- what the orders are -/
def chk2 (k : Int) : Bool := match ops_Name k, lines_order k with
  | some nm, some o => nm.data.toList.all (fun b => b != 32) && decide (o.size ≤ 3) && (List.range o.size).all (fun p => sidx o p == some (runeAt o p)) && (match ops_Find nm with | some r => r.1 == k && r.2 | none => false)
  | _, _ => false
theorem chk2_all : ∀ k : Fin 23, chk2 ((k : Nat) : Int) = true := by decide +kernel
theorem order2_ok {k : Int} (h0 : 0 ≤ k) (h1 : k ≤ 22) {nm o : ByteArray} (hn : ops_Name k = some nm) (ho : lines_order k = some o) : NoB 32 nm.data.toList ∧ (∀ p, p < o.size → sidx o p = some (runeAt o p)) ∧ ops_Find nm = some (k, true) := by
  obtain ⟨q, rfl⟩ := Int.eq_ofNat_of_zero_le h0
  have h := chk2_all ⟨q, by omega⟩
  unfold chk2 at h
  simp only [hn, ho, Bool.and_eq_true, decide_eq_true_eq, List.all_eq_true, List.mem_range, beq_iff_eq, bne_iff_ne] at h
  obtain ⟨⟨⟨a, b⟩, c⟩, d⟩ := h
  refine ⟨fun x hx => a x hx, fun p hp => c p hp, ?_⟩
  split at d
  · rename_i r hr
    obtain ⟨r1, r2⟩ := r
    simp only [Bool.and_eq_true, beq_iff_eq] at d
    rw [hr, d.1, d.2]
  · cases d
/-- a register's word -/
def regT (n : Int) : ByteArray := ⟨[114, UInt8.ofNat (48 + n.toNat)].toArray⟩
theorem reg_all : ∀ k : Fin 8, lines_reg ((k : Nat) : Int) = some (regT ((k : Nat) : Int)) ∧ lines_register (regT ((k : Nat) : Int)) = some (((k : Nat) : Int), true) := by decide +kernel
theorem reg_is {n : Int} (h0 : 0 ≤ n) (h1 : n < 8) : lines_reg n = some (regT n) ∧ lines_register (regT n) = some (n, true) ∧ (regT n).size = 2 ∧ NoB 32 (regT n).data.toList := by
  obtain ⟨k, rfl⟩ := Int.eq_ofNat_of_zero_le h0
  have h := reg_all ⟨k, by omega⟩
  refine ⟨h.1, h.2, rfl, fun b hb => ?_⟩
  have hb : b ∈ [114, UInt8.ofNat (48 + (k : Int).toNat)] := hb
  rcases List.mem_cons.1 hb with e | e
  · subst e; decide
  · rw [List.mem_singleton] at e
    subst e
    intro e
    have e2 := congrArg UInt8.toNat e
    rw [UInt8.toNat_ofNat', show (32 : UInt8).toNat = 32 from rfl] at e2
    omega
theorem parse_some {w : ByteArray} (h : w.size ≤ 281474976710656) : ∃ v b, strconv_ParseInt w 10 64 = some (v, b) := by
  unfold strconv_ParseInt
  rw [if_pos ⟨rfl, rfl, h⟩]
  split
  · exact ⟨_, _, rfl⟩
  · exact ⟨_, _, rfl⟩
  · exact ⟨_, _, rfl⟩
def numT (n : Int) : ByteArray := ⟨(Lib.itoa n).toArray⟩
theorem num_is {n : Int} (h0 : -9223372036854775808 ≤ n) (h1 : n ≤ 9223372036854775807) : strconv_Itoa n = some (numT n) ∧ strconv_FormatInt n 10 = some (numT n) ∧ strconv_ParseInt (numT n) 10 64 = some (n, false) ∧ lines_register (numT n) = some (0, false) ∧ (numT n).size ≤ 21 ∧ NoB 32 (numT n).data.toList := by
  have hs : (numT n).size = (Lib.itoa n).length := by simp [numT, ByteArray.size]
  have hl := Lib.itoa_length_le n h0 h1
  refine ⟨by unfold strconv_Itoa; rw [if_pos ⟨h0, h1⟩]; rfl, by unfold strconv_FormatInt; rw [if_pos ⟨rfl, h0, h1⟩]; rfl, ?_, ?_, by omega, ?_⟩
  · unfold strconv_ParseInt
    rw [if_pos ⟨rfl, rfl, by omega⟩, show (numT n).data.toList = Lib.itoa n from by simp [numT], parse_itoa h0 h1]
  · unfold lines_register
    by_cases h2 : (numT n).size = 2
    · cases hi : Lib.itoa n with
      | nil => exact absurd hi (itoa_ne n)
      | cons c r =>
        have hc := itoa_bytes n c (by rw [hi]; exact List.mem_cons_self ..)
        have e1 : sidx (numT n) 0 = some ((c.toNat : Int)) := sidx_eq (i := 0) (by simp [numT, hi])
        rw [h2, e1]
        have e3 : ¬ ((c.toNat : Int) = 114) := by
          unfold digit at hc
          omega
        simp [e3]
    · have : (((numT n).size : Int) != 2) = true := by rw [bne_iff_ne]; omega
      rw [this]
      rfl
  · intro b hb
    have hb : b ∈ Lib.itoa n := by simpa [numT] using hb
    intro e
    subst e
    rcases itoa_bytes n _ hb with h | h
    · simp at h
    · unfold digit at h; simp at h
/-- a field put into an instruction -/
def upd (x : api_Inst) (s : api_Inst) (c : Int) : api_Inst :=
  if c == 100 then ⟨s.Op, x.D, s.A, s.B, s.Imm⟩ else if c == 97 then ⟨s.Op, s.D, x.A, s.B, s.Imm⟩ else if c == 106 then ⟨s.Op, x.D, s.A, s.B, s.Imm⟩
  else if c == 115 then (if x.B == 8 then ⟨s.Op, s.D, s.A, 8, x.Imm⟩ else ⟨s.Op, s.D, s.A, x.B, s.Imm⟩) else ⟨s.Op, s.D, s.A, s.B, x.Imm⟩
/-- what a field's word is -/
theorem field_is {x : api_Inst} (hr : rightB x = true) (hI : immOk x) {c : Int} (hc : condP x.Op c) :
    ∃ w, fieldW x c = some w ∧ NoB 32 w.data.toList ∧ w.size ≤ 21 ∧ ∀ (o : ByteArray) (ys : List ByteArray) (i : Nat) again s, sidx o (i : Int) = some c → ys[i]? = some w → lines_read_l1 o ys i again s = again (upd x s c) := by
  have key : ∀ (w : ByteArray) (ys : List ByteArray) (i : Nat), ys[i]? = some w → idx ys (i : Int) = some w := by
    intro w ys i h
    unfold idx
    simp [h]
  have regs : ∀ n, 0 ≤ n → n < 8 → ∀ (o : ByteArray) (ys : List ByteArray) (i : Nat) again s, (c = 100 ∨ c = 97 ∨ c = 115) → sidx o (i : Int) = some c → ys[i]? = some (regT n) →
      lines_read_l1 o ys i again s = again (if c == 100 then ⟨s.Op, n, s.A, s.B, s.Imm⟩ else if c == 97 then ⟨s.Op, s.D, n, s.B, s.Imm⟩ else ⟨s.Op, s.D, s.A, n, s.Imm⟩) := by
    intro n h0 h1 o ys i again s hc2 hs hy
    obtain ⟨r1, r2, r3, r4⟩ := reg_is h0 h1
    obtain ⟨v, b, hv⟩ := parse_some (w := regT n) (by omega)
    unfold lines_read_l1
    rw [key _ _ _ hy]
    simp only [Option.bind_some, r2, hv, hs]
    rcases hc2 with rfl | rfl | rfl <;> rfl
  have nums : ∀ n, -9223372036854775808 ≤ n → n ≤ 9223372036854775807 → ∀ (o : ByteArray) (ys : List ByteArray) (i : Nat) again s, (c = 106 ∨ c = 110 ∨ c = 115) → sidx o (i : Int) = some c → ys[i]? = some (numT n) →
      lines_read_l1 o ys i again s = again (if c == 106 then ⟨s.Op, n, s.A, s.B, s.Imm⟩ else if c == 110 then ⟨s.Op, s.D, s.A, s.B, n⟩ else ⟨s.Op, s.D, s.A, 8, n⟩) := by
    intro n h0 h1 o ys i again s hc2 hs hy
    obtain ⟨r1, r2, r3, r4, r5⟩ := num_is h0 h1
    unfold lines_read_l1
    rw [key _ _ _ hy]
    simp only [Option.bind_some, r4, r3, hs]
    rcases hc2 with rfl | rfl | rfl <;> rfl
  rcases hc with ⟨rfl, h⟩ | rfl | ⟨rfl, h⟩ | ⟨rfl, h⟩ | rfl
  · have hD := right_D hr h
    obtain ⟨r1, r2, r3, r4⟩ := reg_is hD.1 hD.2
    exact ⟨regT x.D, r1, r4, by omega, fun o ys i again s hs hy => by rw [regs _ hD.1 hD.2 o ys i again s (.inl rfl) hs hy]; rfl⟩
  · have hA := right_A hr
    obtain ⟨r1, r2, r3, r4⟩ := reg_is hA.1 hA.2
    exact ⟨regT x.A, r1, r4, by omega, fun o ys i again s hs hy => by rw [regs _ hA.1 hA.2 o ys i again s (.inr (.inl rfl)) hs hy]; rfl⟩
  · have hD := right_j hr h
    obtain ⟨r1, r2, r3, r4, r5, r6⟩ := num_is (n := x.D) (by omega) (by omega)
    exact ⟨numT x.D, r1, r6, r5, fun o ys i again s hs hy => by rw [nums _ (by omega) (by omega) o ys i again s (.inl rfl) hs hy]; rfl⟩
  · by_cases hB : x.B = 8
    · obtain ⟨r1, r2, r3, r4, r5, r6⟩ := num_is hI.1 hI.2
      refine ⟨numT x.Imm, ?_, r6, r5, fun o ys i again s hs hy => ?_⟩
      · show (if ((115 : Int) == 115 && x.B != 8) = true then lines_reg x.B else strconv_FormatInt x.Imm 10) = _
        rw [hB]; exact r2
      · rw [nums _ hI.1 hI.2 o ys i again s (.inr (.inr rfl)) hs hy]
        unfold upd
        rw [hB]; rfl
    · have hB2 := (right_src hr h).resolve_left hB
      obtain ⟨r1, r2, r3, r4⟩ := reg_is hB2.1 hB2.2
      have e : (x.B == 8) = false := by simpa using hB
      refine ⟨regT x.B, ?_, r4, by omega, fun o ys i again s hs hy => ?_⟩
      · show (if ((115 : Int) == 115 && x.B != 8) = true then lines_reg x.B else strconv_FormatInt x.Imm 10) = _
        rw [if_pos (by simp [hB])]; exact r1
      · rw [regs _ hB2.1 hB2.2 o ys i again s (.inr (.inr rfl)) hs hy]
        unfold upd
        rw [e]; rfl
  · obtain ⟨r1, r2, r3, r4, r5, r6⟩ := num_is hI.1 hI.2
    exact ⟨numT x.Imm, r2, r6, r5, fun o ys i again s hs hy => by rw [nums _ hI.1 hI.2 o ys i again s (.inr (.inl rfl)) hs hy]; rfl⟩
/-- the fields of an order -/
def chs (k : Int) : List Int := match lines_order k with
  | some o => (List.range o.size).map fun p => runeAt o p
  | none => []
theorem chs_is : chs 0 = [100, 115] ∧ chs 11 = [100, 115] ∧ chs 12 = [97, 115] ∧ chs 13 = [100, 110] ∧ chs 14 = [100, 110] ∧ chs 15 = [106] ∧ chs 20 = [97, 106, 110] ∧ chs 21 = [110] ∧ chs 22 = [97] := by decide +kernel
theorem chs_das : ∀ k : Fin 10, chs (1 + (k : Nat) : Int) = [100, 97, 115] := by decide +kernel
theorem chs_asj : ∀ k : Fin 4, chs (16 + (k : Nat) : Int) = [97, 115, 106] := by decide +kernel
theorem upd_all {x : api_Inst} (hr : rightB x = true) : (chs x.Op).foldl (upd x) ⟨x.Op, 0, 0, 0, 0⟩ = x := by
  obtain ⟨op, d, a, b, m⟩ := x
  have ho := right_op hr
  simp only at ho
  obtain ⟨c1, c2, c3, c4, c5, c6, c7, c8, c9⟩ := chs_is
  have cases : op = 0 ∨ op = 11 ∨ op = 12 ∨ op = 13 ∨ op = 14 ∨ op = 15 ∨ op = 20 ∨ op = 21 ∨ op = 22 ∨ (1 ≤ op ∧ op ≤ 10) ∨ (16 ≤ op ∧ op ≤ 19) := by omega
  have das : 1 ≤ op → op ≤ 10 → chs op = [100, 97, 115] := by
    intro h1 h2
    have := chs_das ⟨(op - 1).toNat, by omega⟩
    rw [show (1 : Int) + ((op - 1).toNat : Nat) = op by omega] at this
    exact this
  have asj : 16 ≤ op → op ≤ 19 → chs op = [97, 115, 106] := by
    intro h1 h2
    have := chs_asj ⟨(op - 16).toNat, by omega⟩
    rw [show (16 : Int) + ((op - 16).toNat : Nat) = op by omega] at this
    exact this
  have fin : ∀ b : Int, b = 8 ∨ (b == 8) = false := fun b => by
    by_cases h : b = 8
    · exact .inl h
    · exact .inr (by simpa using h)
  rcases cases with rfl | rfl | rfl | rfl | rfl | rfl | rfl | rfl | rfl | h | h
  · simp [rightB, regB, srcB] at hr
    rw [c1]
    rcases fin b with rfl | e
    · simp [upd]; omega
    · simp [upd, e]; simp at e; omega
  · simp [rightB, regB, srcB] at hr
    rw [c2]
    rcases fin b with rfl | e
    · simp [upd]; omega
    · simp [upd, e]; simp at e; omega
  · simp [rightB, regB, srcB, inB] at hr
    rw [c3]
    rcases fin b with rfl | e
    · simp [upd]; omega
    · simp [upd, e]; simp at e; omega
  · simp [rightB, regB, srcB, inB] at hr
    rw [c4]
    simp [upd]; omega
  · simp [rightB, regB, srcB, inB] at hr
    rw [c5]
    simp [upd]; omega
  · simp [rightB, regB, srcB, inB] at hr
    rw [c6]
    simp [upd]; omega
  · simp [rightB, regB, srcB, inB] at hr
    rw [c7]
    simp [upd]; omega
  · simp [rightB, regB, srcB, inB] at hr
    rw [c8]
    simp [upd]; omega
  · simp [rightB, regB, srcB, inB] at hr
    rw [c9]
    simp [upd]; omega
  · have e0 : (op == 0) = false := by rw [beq_eq_false_iff_ne]; omega
    have e1 : (op == 11) = false := by rw [beq_eq_false_iff_ne]; omega
    have hs : rightB ⟨op, d, a, b, m⟩ = (regB d && regB a && srcB ⟨op, d, a, b, m⟩) := by
      unfold rightB
      simp only [e0, e1, Bool.or_self, Bool.false_eq_true, if_false]
      rw [if_pos (by simp [inB]; omega)]
    rw [hs] at hr
    simp [srcB] at hr
    rw [das h.1 h.2]
    rcases fin b with rfl | e
    · simp [upd]
    · simp [upd, e]; simp at e; omega
  · have e0 : (op == 0) = false := by rw [beq_eq_false_iff_ne]; omega
    have e1 : (op == 11) = false := by rw [beq_eq_false_iff_ne]; omega
    have e2 : (op == 12) = false := by rw [beq_eq_false_iff_ne]; omega
    have e3 : (op == 13) = false := by rw [beq_eq_false_iff_ne]; omega
    have e4 : (op == 14) = false := by rw [beq_eq_false_iff_ne]; omega
    have e5 : (op == 15) = false := by rw [beq_eq_false_iff_ne]; omega
    have e6 : inB op 1 10 = false := by simp [inB]; omega
    have hs : rightB ⟨op, d, a, b, m⟩ = (inB d 0 63 && regB a && srcB ⟨op, d, a, b, m⟩) := by
      unfold rightB
      simp only [e0, e1, e2, e3, e4, e5, e6, Bool.or_self, Bool.false_eq_true, if_false]
      rw [if_pos (by simp [inB]; omega)]
    rw [hs] at hr
    simp [srcB] at hr
    rw [asj h.1 h.2]
    rcases fin b with rfl | e
    · simp [upd]
    · simp [upd, e]; simp at e; omega
/-- WHAT IS WRITTEN IS READ -/
theorem read_line {x : api_Inst} (hr : rightB x = true) (hI : immOk x) {r : ByteArray} (hl : lines_line 1000 x = some r) : lines_read 1000 r = some (x, true) := by
  obtain ⟨nm, o, h1, h2, h3, h4, h5, h6⟩ := order_ok hr
  have hop := right_op hr
  obtain ⟨n1, n2, n3⟩ := order2_ok hop.1 hop.2 h1 h2
  have hf : ∀ i, i < o.size → ∃ w, (fws x o)[i]? = some w ∧ fieldW x (runeAt o i) = some w ∧ NoB 32 w.data.toList ∧ w.size ≤ 21 ∧ ∀ (o' : ByteArray) (ys : List ByteArray) (j : Nat) again s, sidx o' (j : Int) = some (runeAt o i) → ys[j]? = some w → lines_read_l1 o' ys j again s = again (upd x s (runeAt o i)) := by
    intro i hi
    obtain ⟨w, w1, w2, w3, w4⟩ := field_is hr hI (h5 i hi).2
    exact ⟨w, by simp [fws, hi, w1], w1, w2, w3, w4⟩
  have hfl : (fws x o).length = o.size := by simp [fws]
  have hnb : ∀ w ∈ fws x o, NoB 32 w.data.toList ∧ w.size ≤ 21 := by
    intro w hw
    obtain ⟨i, hi⟩ := List.mem_iff_getElem?.1 hw
    have hlt := (List.getElem?_eq_some_iff.1 hi).1
    obtain ⟨v, v1, _, v2, v3, _⟩ := hf i (by omega)
    rw [hi] at v1
    cases v1
    exact ⟨v2, v3⟩
  have hw : loop (lines_line_l1 x o) 1000 ([nm], 0) = some ([nm] ++ fws x o) := by
    refine loop_words (fun p hp => (h5 p hp).1) (fws x o) 1000 [nm] 0 (by omega) (by omega) (by simp; omega) (fun i w hi => ?_)
    have hlt := (List.getElem?_eq_some_iff.1 hi).1
    obtain ⟨v, v1, v2, _⟩ := hf i (by omega)
    rw [hi] at v1
    cases v1
    rw [Nat.zero_add]
    exact v2
  obtain ⟨r', hl2, hsz, hnl⟩ := line_ok hr hI
  rw [hl] at hl2
  cases hl2
  have hj : r.data.toList = nm.data.toList ++ rest32 (fws x o) := by
    unfold lines_line at hl
    rw [h1, h2] at hl
    simp only [Option.bind_some, hw] at hl
    unfold strings_Join at hl
    split at hl
    · simp only [Option.bind_some, Option.some.injEq] at hl
      rw [← hl, List.toList_toArray, List.singleton_append, List.map_cons, Lib.join_cons]
      rfl
    · simp at hl
  unfold lines_read
  have hsp : strings_Split r (⟨[32].toArray⟩) = some (nm :: fws x o) := by
    unfold strings_Split
    rw [if_pos ⟨by omega, by decide⟩]
    exact congrArg some (split_words hj n1 (fun w hw2 => (hnb w hw2).1))
  rw [hsp]
  simp only [Option.bind_some]
  rw [show idx (nm :: fws x o) 0 = some nm from rfl]
  simp only [Option.bind_some, n3, h2]
  have hlen : ((((nm :: fws x o).length : Nat) : Int) != w64 ((o.size : Int) + 1)) = false := by
    rw [List.length_cons, hfl, w64_eq (by omega) (by omega)]
    simp
  rw [hlen]
  simp only [Bool.not_true, Bool.or_self, Bool.false_eq_true, if_false]
  have hcut : cut (nm :: fws x o) 1 (((nm :: fws x o).length : Nat) : Int) = some (fws x o) := by
    unfold cut
    rw [if_pos (by simp; omega)]
    simp
  rw [hcut]
  simp only [Option.bind_some]
  have hloop : forN (lines_read_l1 o (fws x o)) (fun (s : api_Inst) => (.inl s : api_Inst ⊕ (api_Inst × Bool))) (fws x o).length 0 ⟨x.Op, 0, 0, 0, 0⟩ = some (.inl x) := by
    refine OK.is (OK.count (fun i s => s = ((chs x.Op).take i).foldl (upd x) ⟨x.Op, 0, 0, 0, 0⟩) rfl (fun i s again hi hs k => ?_) (fun s hs => ?_))
    · obtain ⟨w, w1, _, _, _, w4⟩ := hf i (by omega)
      rw [w4 o _ i again s (n2 i (by omega)) w1]
      refine k _ ?_
      have hc : (chs x.Op)[i]? = some (runeAt o i) := by
        unfold chs
        rw [h2]
        simp [show i < o.size by omega]
      rw [List.take_add_one, hc, List.foldl_append, ← hs]
      rfl
    · have : (chs x.Op).length = (fws x o).length := by
        unfold chs
        rw [h2, hfl]
        simp
      rw [hs, ← this, List.take_length, upd_all hr]
  rw [hloop]
  simp only [Option.bind_some]
  rw [opsRights_eq, hl]
  simp [hr, sEq]
end Go.Proofs.YteaedkohbgediaaDoor
