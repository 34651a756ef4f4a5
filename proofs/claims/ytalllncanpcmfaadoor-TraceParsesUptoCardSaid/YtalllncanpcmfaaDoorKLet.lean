/- Letters and fields: a line is its name and its words; the reference writes the same. -/
import Derived.Test.YtalllncanpcmfaaDoorKNum
import Derived.Test.YtalllncanpcmfaaDoorStrB
set_option linter.unusedVariables false
set_option linter.unusedSimpArgs false
namespace Go.Proofs.YtalllncanpcmfaaDoor
open Go.Sx

def fld (e : api_Entry) (c : Int) : Int :=
  if c = 116 then e.Task else if c = 102 then e.From else if c = 99 then e.Cmd else if c = 103 then e.Tag else if c = 101 then e.Event else if c = 104 then e.Hook else
  if c = 112 then e.Prog else if c = 118 then e.Version else if c = 97 then e.Pc else if c = 120 then e.E else if c = 109 then e.Item.Map else if c = 111 then e.Item.Op else
  if c = 121 then e.Res.E else if c = 98 then (if e.Res.Found then 1 else 0) else if c = 110 then e.Val else if c = 107 then e.Item.Key else if c = 119 then e.Item.Val else
  if c = 114 then e.Res.Val else if c = 79 then e.Res.OutKey else if c = 86 then e.Res.OutVal else 0
def wide (c : Int) : Bool := c == 110 || c == 107 || c == 119 || c == 114 || c == 79 || c == 86
def setf (e : api_Entry) (c v : Int) : api_Entry :=
  if c = 116 then { e with Task := v } else if c = 102 then { e with From := v } else if c = 99 then { e with Cmd := v } else if c = 103 then { e with Tag := v } else
  if c = 101 then { e with Event := v } else if c = 104 then { e with Hook := v } else if c = 112 then { e with Prog := v } else if c = 118 then { e with Version := v } else
  if c = 97 then { e with Pc := v } else if c = 120 then { e with E := v } else if c = 109 then { e with Item := { e.Item with Map := v } } else
  if c = 111 then { e with Item := { e.Item with Op := v } } else if c = 121 then { e with Res := { e.Res with E := v } } else
  if c = 98 then { e with Res := { e.Res with Found := v == 1 } } else if c = 110 then { e with Val := v } else if c = 107 then { e with Item := { e.Item with Key := v } } else
  if c = 119 then { e with Item := { e.Item with Val := v } } else if c = 114 then { e with Res := { e.Res with Val := v } } else
  if c = 79 then { e with Res := { e.Res with OutKey := v } } else if c = 86 then { e with Res := { e.Res with OutVal := v } } else e
def lets20 : List Int := [116, 102, 99, 103, 101, 104, 112, 118, 97, 120, 109, 111, 121, 98, 110, 107, 119, 114, 79, 86]
/-- a letter is one of the twenty -/
inductive Let20 : Int → Prop
  | c_t : Let20 116 | c_f : Let20 102 | c_c : Let20 99 | c_g : Let20 103 | c_e : Let20 101 | c_h : Let20 104 | c_p : Let20 112 | c_v : Let20 118 | c_a : Let20 97 | c_x : Let20 120
  | c_m : Let20 109 | c_o : Let20 111 | c_y : Let20 121 | c_b : Let20 98 | c_n : Let20 110 | c_k : Let20 107 | c_w : Let20 119 | c_r : Let20 114 | c_O : Let20 79 | c_V : Let20 86
theorem let_of {c : Int} (h : c ∈ lets20) : Let20 c := by
  unfold lets20 at h
  simp only [List.mem_cons, List.not_mem_nil, or_false] at h
  rcases h with rfl | rfl | rfl | rfl | rfl | rfl | rfl | rfl | rfl | rfl | rfl | rfl | rfl | rfl | rfl | rfl | rfl | rfl | rfl | rfl <;> constructor
theorem let_mem {c : Int} (h : Let20 c) : c ∈ lets20 := by cases h <;> decide
theorem let_range {c : Int} (h : Let20 c) : 33 ≤ c ∧ c < 128 := by cases h <;> decide
theorem fld_wide {x : api_Entry} (h : wfE x) {c : Int} (hc : Let20 c) (hw : wide c = true) : u64 (fld x c) := by
  obtain ⟨a0, a1, a2, a3, a4, a5, a6, a7, a8, a9, b0, b1, b2, b3, c0, c2, c4, c5, d0, d1⟩ := h
  cases hc <;> first | exact d0 | exact b2 | exact b3 | exact c2 | exact c4 | exact c5 | exact absurd hw (by decide)
theorem fld_int {x : api_Entry} (h : wfE x) {c : Int} (hc : Let20 c) (hw : wide c = false) : i64 (fld x c) := by
  obtain ⟨a0, a1, a2, a3, a4, a5, a6, a7, a8, a9, b0, b1, b2, b3, c0, c2, c4, c5, d0, d1⟩ := h
  have i1 : i64 1 := ⟨by decide, by decide⟩
  cases hc with
  | c_b => show i64 (if x.Res.Found then 1 else 0); split <;> first | exact i1 | exact i64_0
  | _ => first | exact a1 | exact a2 | exact a3 | exact a4 | exact a5 | exact a6 | exact a7 | exact a8 | exact a9 | exact b0 | exact b1 | exact c0 | exact d1 | exact absurd hw (by decide)
theorem setf_what {e : api_Entry} {c v : Int} (hc : Let20 c) : (setf e c v).What = e.What ∧ (setf e c v).Res.Out = e.Res.Out := by cases hc <;> exact ⟨rfl, rfl⟩
theorem setf_wf {x : api_Entry} (h : wfE x) {c v : Int} (hc : Let20 c) (h1 : wide c = true → u64 v) (h2 : wide c = false → i64 v) : wfE (setf x c v) := by
  obtain ⟨a0, a1, a2, a3, a4, a5, a6, a7, a8, a9, b0, b1, b2, b3, c0, c2, c4, c5, d0, d1⟩ := h
  cases hc
  · exact ⟨a0, h2 rfl, a2, a3, a4, a5, a6, a7, a8, a9, b0, b1, b2, b3, c0, c2, c4, c5, d0, d1⟩
  · exact ⟨a0, a1, h2 rfl, a3, a4, a5, a6, a7, a8, a9, b0, b1, b2, b3, c0, c2, c4, c5, d0, d1⟩
  · exact ⟨a0, a1, a2, h2 rfl, a4, a5, a6, a7, a8, a9, b0, b1, b2, b3, c0, c2, c4, c5, d0, d1⟩
  · exact ⟨a0, a1, a2, a3, h2 rfl, a5, a6, a7, a8, a9, b0, b1, b2, b3, c0, c2, c4, c5, d0, d1⟩
  · exact ⟨a0, a1, a2, a3, a4, h2 rfl, a6, a7, a8, a9, b0, b1, b2, b3, c0, c2, c4, c5, d0, d1⟩
  · exact ⟨a0, a1, a2, a3, a4, a5, h2 rfl, a7, a8, a9, b0, b1, b2, b3, c0, c2, c4, c5, d0, d1⟩
  · exact ⟨a0, a1, a2, a3, a4, a5, a6, h2 rfl, a8, a9, b0, b1, b2, b3, c0, c2, c4, c5, d0, d1⟩
  · exact ⟨a0, a1, a2, a3, a4, a5, a6, a7, h2 rfl, a9, b0, b1, b2, b3, c0, c2, c4, c5, d0, d1⟩
  · exact ⟨a0, a1, a2, a3, a4, a5, a6, a7, a8, h2 rfl, b0, b1, b2, b3, c0, c2, c4, c5, d0, d1⟩
  · exact ⟨a0, a1, a2, a3, a4, a5, a6, a7, a8, a9, b0, b1, b2, b3, c0, c2, c4, c5, d0, h2 rfl⟩
  · exact ⟨a0, a1, a2, a3, a4, a5, a6, a7, a8, a9, h2 rfl, b1, b2, b3, c0, c2, c4, c5, d0, d1⟩
  · exact ⟨a0, a1, a2, a3, a4, a5, a6, a7, a8, a9, b0, h2 rfl, b2, b3, c0, c2, c4, c5, d0, d1⟩
  · exact ⟨a0, a1, a2, a3, a4, a5, a6, a7, a8, a9, b0, b1, b2, b3, h2 rfl, c2, c4, c5, d0, d1⟩
  · exact ⟨a0, a1, a2, a3, a4, a5, a6, a7, a8, a9, b0, b1, b2, b3, c0, c2, c4, c5, d0, d1⟩
  · exact ⟨a0, a1, a2, a3, a4, a5, a6, a7, a8, a9, b0, b1, b2, b3, c0, c2, c4, c5, h1 rfl, d1⟩
  · exact ⟨a0, a1, a2, a3, a4, a5, a6, a7, a8, a9, b0, b1, h1 rfl, b3, c0, c2, c4, c5, d0, d1⟩
  · exact ⟨a0, a1, a2, a3, a4, a5, a6, a7, a8, a9, b0, b1, b2, h1 rfl, c0, c2, c4, c5, d0, d1⟩
  · exact ⟨a0, a1, a2, a3, a4, a5, a6, a7, a8, a9, b0, b1, b2, b3, c0, h1 rfl, c4, c5, d0, d1⟩
  · exact ⟨a0, a1, a2, a3, a4, a5, a6, a7, a8, a9, b0, b1, b2, b3, c0, c2, h1 rfl, c5, d0, d1⟩
  · exact ⟨a0, a1, a2, a3, a4, a5, a6, a7, a8, a9, b0, b1, b2, b3, c0, c2, c4, h1 rfl, d0, d1⟩
theorem fld_set {e : api_Entry} {c d v : Int} (hc : Let20 c) (hd : Let20 d) (hv : c = 98 → v = 0 ∨ v = 1) : fld (setf e c v) d = if d = c then v else fld e d := by
  cases hc with
  | c_b =>
    rcases hv rfl with rfl | rfl <;> cases hd <;> rfl
  | _ => cases hd <;> rfl
theorem fld_other {e : api_Entry} {c d v : Int} (hc : Let20 c) (hd : Let20 d) (h : d ≠ c) : fld (setf e c v) d = fld e d := by
  cases hc <;> cases hd <;> first | rfl | exact absurd rfl h
theorem fld_ext {a b : api_Entry} (h0 : a.What = b.What) (h1 : a.Res.Out = b.Res.Out) (h : ∀ c, Let20 c → fld a c = fld b c) : a = b := by
  have t := h _ .c_t; have f := h _ .c_f; have c := h _ .c_c; have g := h _ .c_g; have e := h _ .c_e; have hh := h _ .c_h; have p := h _ .c_p; have v := h _ .c_v; have aa := h _ .c_a; have x := h _ .c_x
  have m := h _ .c_m; have o := h _ .c_o; have y := h _ .c_y; have bb := h _ .c_b; have n := h _ .c_n; have k := h _ .c_k; have w := h _ .c_w; have r := h _ .c_r; have O := h _ .c_O; have V := h _ .c_V
  clear h
  obtain ⟨a0, a1, a2, a3, a4, a5, a6, a7, a8, a9, ⟨i0, i1, i2, i3⟩, ⟨r0, r1, r2, r3, r4, r5⟩, va, ea⟩ := a
  obtain ⟨b0, b1, b2, b3, b4, b5, b6, b7, b8, b9, ⟨j0, j1, j2, j3⟩, ⟨s0, s1, s2, s3, s4, s5⟩, vb, eb⟩ := b
  have t : a1 = b1 := t
  have f : a2 = b2 := f
  have c : a3 = b3 := c
  have g : a4 = b4 := g
  have e : a5 = b5 := e
  have hh : a6 = b6 := hh
  have p : a7 = b7 := p
  have v : a8 = b8 := v
  have aa : a9 = b9 := aa
  have x : ea = eb := x
  have m : i0 = j0 := m
  have o : i1 = j1 := o
  have y : r0 = s0 := y
  have bb : (if r1 then (1 : Int) else 0) = if s1 then 1 else 0 := bb
  have n : va = vb := n
  have k : i2 = j2 := k
  have w : i3 = j3 := w
  have r : r2 = s2 := r
  have O : r4 = s4 := O
  have V : r5 = s5 := V
  have h0 : a0 = b0 := h0
  have h1 : r3 = s3 := h1
  have h2 : r1 = s1 := by cases r1 <;> cases s1 <;> first | rfl | (simp at bb)
  subst t f c g e hh p v aa x m o y n k w r O V h0 h1 h2
  rfl
/-! ### Words -/
def fTxt (e : api_Entry) (c : Int) : List UInt8 := UInt8.ofNat c.toNat :: (if wide c then Lib.decDigits (fld e c).toNat else Lib.itoa (fld e c))
def fW (e : api_Entry) (c : Int) : ByteArray := ⟨(fTxt e c).toArray⟩
theorem numW {c n : Int} (hc : 33 ≤ c ∧ c < 128) (hn : i64 n) : ((ofRune c).bind fun x => (strconv_Itoa n).bind fun r => (catB x r).bind fun y => some y) = some ⟨(UInt8.ofNat c.toNat :: Lib.itoa n).toArray⟩ := by
  have hl := Lib.itoa_length_le n hn.1 hn.2
  have hs : (⟨(Lib.itoa n).toArray⟩ : ByteArray).size = (Lib.itoa n).length := by rw [Lib.size_eq]
  rw [show ofRune c = some ⟨[UInt8.ofNat c.toNat].toArray⟩ by unfold ofRune; rw [if_pos (by omega)]]
  rw [show strconv_Itoa n = some ⟨(Lib.itoa n).toArray⟩ from by unfold strconv_Itoa; exact if_pos hn]
  simp only [Option.bind_some]
  have h1 : (⟨[UInt8.ofNat c.toNat].toArray⟩ : ByteArray).size = 1 := rfl
  rw [show catB ⟨[UInt8.ofNat c.toNat].toArray⟩ ⟨(Lib.itoa n).toArray⟩ = some (⟨[UInt8.ofNat c.toNat].toArray⟩ ++ ⟨(Lib.itoa n).toArray⟩) by unfold catB; rw [if_pos (by omega)]]
  refine congrArg some (ba_ext ?_)
  rw [app_list]; rfl
theorem wideW {c n : Int} (hc : 33 ≤ c ∧ c < 128) (hn : u64 n) : ((ofRune c).bind fun x => (strconv_FormatUint n 10).bind fun r => (catB x r).bind fun y => some y) = some ⟨(UInt8.ofNat c.toNat :: Lib.decDigits n.toNat).toArray⟩ := by
  have h20 := Lib.nDigits_le20 n.toNat (by have := hn.2; have := hn.1; omega)
  have hl : (Lib.decDigits n.toNat).length ≤ 20 := by rw [Lib.decDigits_length]; exact h20
  have hs : (⟨(Lib.decDigits n.toNat).toArray⟩ : ByteArray).size = (Lib.decDigits n.toNat).length := by rw [Lib.size_eq]
  rw [show ofRune c = some ⟨[UInt8.ofNat c.toNat].toArray⟩ by unfold ofRune; rw [if_pos (by omega)]]
  rw [show strconv_FormatUint n 10 = some ⟨(Lib.decDigits n.toNat).toArray⟩ from by unfold strconv_FormatUint; rw [if_pos ⟨rfl, hn.1, by have := hn.2; omega⟩]]
  simp only [Option.bind_some]
  have h1 : (⟨[UInt8.ofNat c.toNat].toArray⟩ : ByteArray).size = 1 := rfl
  rw [show catB ⟨[UInt8.ofNat c.toNat].toArray⟩ ⟨(Lib.decDigits n.toNat).toArray⟩ = some (⟨[UInt8.ofNat c.toNat].toArray⟩ ++ ⟨(Lib.decDigits n.toNat).toArray⟩) by unfold catB; rw [if_pos (by omega)]]
  refine congrArg some (ba_ext ?_)
  rw [app_list]; rfl
theorem word_eq {x : api_Entry} (h : wfE x) {c : Int} (hc : Let20 c) : trace_word x c = some (fW x c) := by
  have hr := let_range hc
  unfold fW fTxt
  cases hw : wide c with
  | true =>
    have hu := fld_wide h hc hw
    have := wideW hr hu
    simp only [if_true]
    cases hc <;> first | exact this | exact absurd hw (by decide)
  | false =>
    have hi := fld_int h hc hw
    have := numW hr hi
    cases hc with
    | c_b =>
      cases hf : x.Res.Found with
      | true =>
        have e : fld x 98 = 1 := by show (if x.Res.Found then (1 : Int) else 0) = 1; rw [hf]; rfl
        rw [e] at this ⊢
        simp only [Bool.false_eq_true, if_false]
        rw [← this]
        unfold trace_word
        rw [hf]
        rfl
      | false =>
        have e : fld x 98 = 0 := by show (if x.Res.Found then (1 : Int) else 0) = 0; rw [hf]; rfl
        rw [e] at this ⊢
        simp only [Bool.false_eq_true, if_false]
        rw [← this]
        unfold trace_word
        rw [hf]
        rfl
    | _ => first | exact this | exact absurd hw (by decide)
theorem fTxt_bytes {x : api_Entry} {c : Int} (hc : Let20 c) : ∀ b ∈ (fW x c).data.toList, 33 ≤ b.toNat ∧ b.toNat < 128 := by
  intro b hb
  have hr := let_range hc
  have hb : b ∈ fTxt x c := hb
  unfold fTxt at hb
  rcases List.mem_cons.1 hb with rfl | hb
  · rw [UInt8.toNat_ofNat']; omega
  · have dg : ∀ n, b ∈ Lib.decDigits n → 33 ≤ b.toNat ∧ b.toNat < 128 := fun n h => by
      have := (dec_digits n).1 _ h
      unfold digit at this
      omega
    cases hw : wide c with
    | true => rw [hw] at hb; exact dg _ hb
    | false =>
      rw [hw] at hb
      rcases itoa_bytes (fld x c) _ hb with h | h
      · omega
      · unfold digit at h; omega
theorem fW_size {x : api_Entry} (h : wfE x) {c : Int} (hc : Let20 c) : (fW x c).size ≤ 22 ∧ 2 ≤ (fW x c).size := by
  rw [Lib.size_eq]
  show (fTxt x c).length ≤ 22 ∧ 2 ≤ (fTxt x c).length
  unfold fTxt
  rw [List.length_cons]
  cases hw : wide c with
  | true =>
    have hu := fld_wide h hc hw
    have h20 := Lib.nDigits_le20 (fld x c).toNat (by have := hu.2; have := hu.1; omega)
    have h1 := (dec_digits (fld x c).toNat).2.2
    have h2 : 0 < (Lib.decDigits (fld x c).toNat).length := List.length_pos_iff.2 h1
    simp only [if_true]
    rw [Lib.decDigits_length] at *
    omega
  | false =>
    have hi := fld_int h hc hw
    have := Lib.itoa_length_le (fld x c) hi.1 hi.2
    have h2 : 0 < (Lib.itoa (fld x c)).length := List.length_pos_iff.2 (itoa_ne _)
    simp only [Bool.false_eq_true, if_false]
    omega
end Go.Proofs.YtalllncanpcmfaaDoor
