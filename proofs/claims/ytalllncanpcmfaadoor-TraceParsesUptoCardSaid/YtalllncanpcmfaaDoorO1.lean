/- Pointers into an entry that may be nil: where they lead, and the walks of the two functions that give them. -/
import Derived.Test.YtalllncanpcmfaaDoorF1
import Derived.Test.YtalllncanpcmfaaDoorFmt
import Derived.WalkKit
set_option linter.unusedVariables false
set_option linter.unusedSimpArgs false
namespace Go.Proofs.YtalllncanpcmfaaDoor
open Go.Sx
theorem whK_cases {c : Int} {q : Nat} (h : whK c = some q) : 1 ≤ q ∧ q ≤ 10 := by
  unfold whK at h
  repeat' (split at h)
  all_goals first | (cases h; decide) | cases h
theorem whK_cell {c : Int} {q : Nat} (h : whK c = some q) (x : api_Entry) : (enc_api_Entry x)[q]? = some (.int .i64 (geto_api_Entry x q)) := by
  have h := whK_cases h
  match q, h with
  | 1, _ | 2, _ | 3, _ | 4, _ | 5, _ | 6, _ | 7, _ | 8, _ | 9, _ | 10, _ => rfl
  | 0, h => omega
  | n + 11, h => omega
theorem whK_le {c : Int} {q : Nat} (h : whK c = some q) (x : api_Entry) : Nat.ble (q + 1) (enc_api_Entry x).length = true := by
  have h := whK_cases h
  match q, h with
  | 1, _ | 2, _ | 3, _ | 4, _ | 5, _ | 6, _ | 7, _ | 8, _ | 9, _ | 10, _ => rfl
  | 0, h => omega
  | n + 11, h => omega
theorem whK_put {c : Int} {q : Nat} (h : whK c = some q) (x : api_Entry) (v : Int) : splice (enc_api_Entry x) [.int .i64 v] q = enc_api_Entry (puto_api_Entry x q v) := by
  have h := whK_cases h
  match q, h with
  | 1, _ | 2, _ | 3, _ | 4, _ | 5, _ | 6, _ | 7, _ | 8, _ | 9, _ | 10, _ => rfl
  | 0, h => omega
  | n + 11, h => omega
theorem wdK_cases {c : Int} {q : Nat} (h : wdK c = some q) : q = 20 ∨ q = 12 ∨ q = 13 ∨ q = 16 ∨ q = 18 ∨ q = 19 := by
  unfold wdK at h
  repeat' (split at h)
  all_goals first | (cases h; decide) | cases h
theorem wdK_cell {c : Int} {q : Nat} (h : wdK c = some q) (x : api_Entry) : (enc_api_Entry x)[q]? = some (.int .u64 (geto_api_Entry x q)) := by
  rcases wdK_cases h with rfl | rfl | rfl | rfl | rfl | rfl <;> rfl
theorem wdK_le {c : Int} {q : Nat} (h : wdK c = some q) (x : api_Entry) : Nat.ble (q + 1) (enc_api_Entry x).length = true := by
  rcases wdK_cases h with rfl | rfl | rfl | rfl | rfl | rfl <;> rfl
theorem wdK_put {c : Int} {q : Nat} (h : wdK c = some q) (x : api_Entry) (v : Int) : splice (enc_api_Entry x) [.int .u64 v] q = enc_api_Entry (puto_api_Entry x q v) := by
  rcases wdK_cases h with rfl | rfl | rfl | rfl | rfl | rfl <;> rfl
end Go.Proofs.YtalllncanpcmfaaDoor
namespace Go.Proofs
open Go.Shelf Go.RowKit Go.Lib Go.Sx Go.Proofs.YtalllncanpcmfaaDoor
set_option maxHeartbeats 4000000 in
set_option maxRecDepth 100000 in
theorem Tryd.whK_walk (w : World) (b : Nat) (c : Int) : Calls Tryd.prog 58 #[.pointer (some ⟨b, 0, none⟩), .int .i32 c] w fun e w' => e = .returned (optAt b (whK c)) ∧ w' = w := by
  have mixed := Tryd.laysM246.mixed
  have u88 := Tryd.underlying88; have a88 := Tryd.isAgg88; have z88 := Tryd.sizeOf88; have v88 := Tryd.zeroValue88
  have u21 := Tryd.underlying21; have a21 := Tryd.isAgg21; have z21 := Tryd.sizeOf21; have v21 := Tryd.zeroValue21
  have u4 := Tryd.underlying4; have a4 := Tryd.isAgg4; have z4 := Tryd.sizeOf4; have v4 := Tryd.zeroValue4
  have u105 := Tryd.underlying105; have a105 := Tryd.isAgg105; have z105 := Tryd.sizeOf105; have v105 := Tryd.zeroValue105
  have u46 := Tryd.underlying46; have a46 := Tryd.isAgg46; have z46 := Tryd.sizeOf46; have v46 := Tryd.zeroValue46
  have u42 := Tryd.underlying42; have a42 := Tryd.isAgg42; have z42 := Tryd.sizeOf42; have v42 := Tryd.zeroValue42
  have u44 := Tryd.underlying44; have a44 := Tryd.isAgg44; have z44 := Tryd.sizeOf44; have v44 := Tryd.zeroValue44
  have u0 := Tryd.underlying0; have a0 := Tryd.isAgg0; have z0 := Tryd.sizeOf0; have v0 := Tryd.zeroValue0
  by_cases h0 : c = 116
  · subst h0
    go_enter Tryd.func58, (show Tryd.f58.ntmps = 57 from rfl)
    go_wp2
    go_ret
    exact ⟨rfl, rfl⟩
  have e0 : (c == 116) = false := beq_eq_false_iff_ne.2 h0
  by_cases h1 : c = 102
  · subst h1
    go_enter Tryd.func58, (show Tryd.f58.ntmps = 57 from rfl)
    go_wp2
    go_ret
    exact ⟨rfl, rfl⟩
  have e1 : (c == 102) = false := beq_eq_false_iff_ne.2 h1
  by_cases h2 : c = 99
  · subst h2
    go_enter Tryd.func58, (show Tryd.f58.ntmps = 57 from rfl)
    go_wp2
    go_ret
    exact ⟨rfl, rfl⟩
  have e2 : (c == 99) = false := beq_eq_false_iff_ne.2 h2
  by_cases h3 : c = 103
  · subst h3
    go_enter Tryd.func58, (show Tryd.f58.ntmps = 57 from rfl)
    go_wp2
    go_ret
    exact ⟨rfl, rfl⟩
  have e3 : (c == 103) = false := beq_eq_false_iff_ne.2 h3
  by_cases h4 : c = 101
  · subst h4
    go_enter Tryd.func58, (show Tryd.f58.ntmps = 57 from rfl)
    go_wp2
    go_ret
    exact ⟨rfl, rfl⟩
  have e4 : (c == 101) = false := beq_eq_false_iff_ne.2 h4
  by_cases h5 : c = 104
  · subst h5
    go_enter Tryd.func58, (show Tryd.f58.ntmps = 57 from rfl)
    go_wp2
    go_ret
    exact ⟨rfl, rfl⟩
  have e5 : (c == 104) = false := beq_eq_false_iff_ne.2 h5
  by_cases h6 : c = 112
  · subst h6
    go_enter Tryd.func58, (show Tryd.f58.ntmps = 57 from rfl)
    go_wp2
    go_ret
    exact ⟨rfl, rfl⟩
  have e6 : (c == 112) = false := beq_eq_false_iff_ne.2 h6
  by_cases h7 : c = 118
  · subst h7
    go_enter Tryd.func58, (show Tryd.f58.ntmps = 57 from rfl)
    go_wp2
    go_ret
    exact ⟨rfl, rfl⟩
  have e7 : (c == 118) = false := beq_eq_false_iff_ne.2 h7
  by_cases h8 : c = 97
  · subst h8
    go_enter Tryd.func58, (show Tryd.f58.ntmps = 57 from rfl)
    go_wp2
    go_ret
    exact ⟨rfl, rfl⟩
  have e8 : (c == 97) = false := beq_eq_false_iff_ne.2 h8
  by_cases h9 : c = 109
  · subst h9
    go_enter Tryd.func58, (show Tryd.f58.ntmps = 57 from rfl)
    go_wp2
    go_ret
    exact ⟨rfl, rfl⟩
  have e9 : (c == 109) = false := beq_eq_false_iff_ne.2 h9
  have ek : whK c = none := by unfold whK; simp only [h0, h1, h2, h3, h4, h5, h6, h7, h8, h9, if_false]
  rw [ek]
  go_enter Tryd.func58, (show Tryd.f58.ntmps = 57 from rfl)
  go_wp2
  go_ret
  exact ⟨rfl, rfl⟩
theorem Tryd.whK_ok {w0 w : World} {S0 : List Nat} {L : List Sx.Item} (hst : St w0 S0 w L) (b : Nat) (c : Int) : Calls Tryd.prog 58 [.pointer (some ⟨b, 0, none⟩), .int .i32 c].toArray w (fun e w' => e = .returned (optAt b (whK c)) ∧ St w0 S0 w' L) := by
  refine (Tryd.whK_walk w b c).mono ?_
  rintro e w' ⟨rfl, rfl⟩
  exact ⟨rfl, hst⟩
set_option maxHeartbeats 4000000 in
set_option maxRecDepth 100000 in
theorem Tryd.wdK_walk (w : World) (b : Nat) (c : Int) : Calls Tryd.prog 55 #[.pointer (some ⟨b, 0, none⟩), .int .i32 c] w fun e w' => e = .returned (optAt b (wdK c)) ∧ w' = w := by
  have mixed := Tryd.laysM246.mixed
  have u88 := Tryd.underlying88; have a88 := Tryd.isAgg88; have z88 := Tryd.sizeOf88; have v88 := Tryd.zeroValue88
  have u21 := Tryd.underlying21; have a21 := Tryd.isAgg21; have z21 := Tryd.sizeOf21; have v21 := Tryd.zeroValue21
  have u4 := Tryd.underlying4; have a4 := Tryd.isAgg4; have z4 := Tryd.sizeOf4; have v4 := Tryd.zeroValue4
  have u99 := Tryd.underlying99; have a99 := Tryd.isAgg99; have z99 := Tryd.sizeOf99; have v99 := Tryd.zeroValue99
  have u46 := Tryd.underlying46; have a46 := Tryd.isAgg46; have z46 := Tryd.sizeOf46; have v46 := Tryd.zeroValue46
  have u42 := Tryd.underlying42; have a42 := Tryd.isAgg42; have z42 := Tryd.sizeOf42; have v42 := Tryd.zeroValue42
  have u44 := Tryd.underlying44; have a44 := Tryd.isAgg44; have z44 := Tryd.sizeOf44; have v44 := Tryd.zeroValue44
  have u0 := Tryd.underlying0; have a0 := Tryd.isAgg0; have z0 := Tryd.sizeOf0; have v0 := Tryd.zeroValue0
  by_cases h0 : c = 110
  · subst h0
    go_enter Tryd.func55, (show Tryd.f55.ntmps = 41 from rfl)
    go_wp2
    go_ret
    exact ⟨rfl, rfl⟩
  have e0 : (c == 110) = false := beq_eq_false_iff_ne.2 h0
  by_cases h1 : c = 107
  · subst h1
    go_enter Tryd.func55, (show Tryd.f55.ntmps = 41 from rfl)
    go_wp2
    go_ret
    exact ⟨rfl, rfl⟩
  have e1 : (c == 107) = false := beq_eq_false_iff_ne.2 h1
  by_cases h2 : c = 119
  · subst h2
    go_enter Tryd.func55, (show Tryd.f55.ntmps = 41 from rfl)
    go_wp2
    go_ret
    exact ⟨rfl, rfl⟩
  have e2 : (c == 119) = false := beq_eq_false_iff_ne.2 h2
  by_cases h3 : c = 114
  · subst h3
    go_enter Tryd.func55, (show Tryd.f55.ntmps = 41 from rfl)
    go_wp2
    go_ret
    exact ⟨rfl, rfl⟩
  have e3 : (c == 114) = false := beq_eq_false_iff_ne.2 h3
  by_cases h4 : c = 79
  · subst h4
    go_enter Tryd.func55, (show Tryd.f55.ntmps = 41 from rfl)
    go_wp2
    go_ret
    exact ⟨rfl, rfl⟩
  have e4 : (c == 79) = false := beq_eq_false_iff_ne.2 h4
  by_cases h5 : c = 86
  · subst h5
    go_enter Tryd.func55, (show Tryd.f55.ntmps = 41 from rfl)
    go_wp2
    go_ret
    exact ⟨rfl, rfl⟩
  have e5 : (c == 86) = false := beq_eq_false_iff_ne.2 h5
  have ek : wdK c = none := by unfold wdK; simp only [h0, h1, h2, h3, h4, h5, if_false]
  rw [ek]
  go_enter Tryd.func55, (show Tryd.f55.ntmps = 41 from rfl)
  go_wp2
  go_ret
  exact ⟨rfl, rfl⟩
theorem Tryd.wdK_ok {w0 w : World} {S0 : List Nat} {L : List Sx.Item} (hst : St w0 S0 w L) (b : Nat) (c : Int) : Calls Tryd.prog 55 [.pointer (some ⟨b, 0, none⟩), .int .i32 c].toArray w (fun e w' => e = .returned (optAt b (wdK c)) ∧ St w0 S0 w' L) := by
  refine (Tryd.wdK_walk w b c).mono ?_
  rintro e w' ⟨rfl, rfl⟩
  exact ⟨rfl, hst⟩

end Go.Proofs
