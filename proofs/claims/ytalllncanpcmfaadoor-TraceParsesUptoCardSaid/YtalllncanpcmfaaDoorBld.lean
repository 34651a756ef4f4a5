/- strings.Builder's copyCheck and WriteString, walked here (the shelf's do not lay: this cut has a refusal where the library panics). -/
import Derived.Test.YtalllncanpcmfaaDoorSh
import Derived.Test.YtalllncanpcmfaaDoorProg
import Derived.Test.YtalllncanpcmfaaDoorStr
set_option linter.unusedVariables false
set_option linter.unusedSimpArgs false
namespace Go.Proofs
open Go.Shelf Go.RowKit Go.Lib

set_option maxHeartbeats 1000000 in
set_option maxRecDepth 100000 in
theorem Tryd.copyCheck_used (b : Nat) (w : World) (h0 : w.cell? ⟨b, 0, none⟩ = some (.pointer (some ⟨b, 0, none⟩))) :
    Calls Tryd.prog 45 #[.pointer (some ⟨b, 0, none⟩)] w fun e w' => e = .returned (.tuple #[]) ∧ w' = w := by
  obtain ⟨j, hj, _⟩ := Option.map_eq_some_iff.1 Tryd.Builder_Extra_169.sizeBuilder
  have mixed := Tryd.lays169.mixed
  have t72 := Tryd.underlying62; have a72 := Tryd.isAgg62; have z72 := Tryd.sizeOf62; have v72 := Tryd.zeroValue62; have u72 := run_underlying Tryd.underlying62
  have t70 := Tryd.underlying59; have a70 := Tryd.isAgg59; have z70 := Tryd.sizeOf59; have v70 := Tryd.zeroValue59; have u70 := run_underlying Tryd.underlying59
  have t4 := Tryd.underlying4; have a4 := Tryd.isAgg4; have z4 := Tryd.sizeOf4; have v4 := Tryd.zeroValue4; have u4 := run_underlying Tryd.underlying4
  have t164 := Tryd.underlying108; have a164 := Tryd.isAgg108; have z164 := Tryd.sizeOf108; have v164 := Tryd.zeroValue108; have u164 := run_underlying Tryd.underlying108
  go_enter Tryd.func45, (show Tryd.f45.ntmps = 20 from rfl)
  go_wp2
  rw [Lib.run_neq_ptr_same w _ Tryd.underlying59 hj]
  go_wp2
  go_end0
  exact ⟨rfl, rfl⟩

set_option maxHeartbeats 1000000 in
set_option maxRecDepth 100000 in
theorem Tryd.copyCheck_fresh (b : Nat) (w : World) (h0 : w.cell? ⟨b, 0, none⟩ = some (.pointer none)) (hsh : w.shape? b = some (62, 2)) (hfz : w.frozen? ⟨b, 0, none⟩ = false) :
    Calls Tryd.prog 45 #[.pointer (some ⟨b, 0, none⟩)] w fun e w' => e = .returned (.tuple #[]) ∧ w' = w.setCell ⟨b, 0, none⟩ (.pointer (some ⟨b, 0, none⟩)) := by
  obtain ⟨j, hj, hjs⟩ := Option.map_eq_some_iff.1 Tryd.Builder_Extra_169.sizeBuilder
  have mixed := Tryd.lays169.mixed
  have t72 := Tryd.underlying62; have a72 := Tryd.isAgg62; have z72 := Tryd.sizeOf62; have v72 := Tryd.zeroValue62; have u72 := run_underlying Tryd.underlying62
  have t70 := Tryd.underlying59; have a70 := Tryd.isAgg59; have z70 := Tryd.sizeOf59; have v70 := Tryd.zeroValue59; have u70 := run_underlying Tryd.underlying59
  have t4 := Tryd.underlying4; have a4 := Tryd.isAgg4; have z4 := Tryd.sizeOf4; have v4 := Tryd.zeroValue4; have u4 := run_underlying Tryd.underlying4
  have t164 := Tryd.underlying108; have a164 := Tryd.isAgg108; have z164 := Tryd.sizeOf108; have v164 := Tryd.zeroValue108; have u164 := run_underlying Tryd.underlying108
  go_enter Tryd.func45, (show Tryd.f45.ntmps = 20 from rfl)
  go_wp2
  rw [Lib.run_to_unsafe w ⟨b, 0, none⟩ Tryd.underlying59 Tryd.underlying108 hj (by rw [hjs]; decide) hsh (Nat.zero_lt_succ 1)]
  simp only [Result.andThen]
  rw [Oper.upon_value]
  go_wp2
  rw [run_callFunc_extern Tryd.func60 (by kernel_rfl) (by kernel_rfl) (by kernel_rfl) (e := Extern.AbiNoEscape.same) (by kernel_rfl)]
  rw [Lib.run_noEscape]
  simp only [Result.andThen]
  rw [Oper.upon_value]
  go_wp2
  rw [Lib.run_from_unsafe w ⟨b, 0, none⟩ Tryd.underlying108 Tryd.underlying59 hj hsh Tryd.Builder_Extra_169.liesBuilder]
  simp only [Result.andThen]
  rw [Oper.upon_value]
  go_wp2
  go_end0
  exact ⟨rfl, rfl⟩
theorem Tryd.copyCheck (B b : Nat) (bs : List Value) (w : World) (h : Lib.IsBuilderF 62 5 B b bs w) :
    Calls Tryd.prog 45 #[.pointer (some ⟨b, 0, none⟩)] w fun e w' => e = .returned (.tuple #[]) ∧ (Lib.BuilderAtF 62 5 B b (.pointer (some ⟨b, 0, none⟩)) bs w' ∧ Below B w w') := by
  rcases h with h | h
  · refine (Tryd.copyCheck_fresh b w h.cell0 h.shape h.frozen0).mono ?_
    rintro e w' ⟨rfl, rfl⟩
    exact ⟨rfl, h.used _, (Below.refl B w).setCell (p := ⟨b, 0, none⟩) h.1 _⟩
  · refine (Tryd.copyCheck_used b w h.cell0).mono ?_
    rintro e w' ⟨rfl, rfl⟩
    exact ⟨rfl, h, Below.refl B _⟩

set_option maxHeartbeats 2000000 in
set_option maxRecDepth 100000 in
theorem Tryd.bwrite_core (B b : Nat) (hB : B ≤ b) (v : Value) (bs : List Value) (s : ByteArray) (w w1 : World) (hcc : Calls Tryd.prog 45 #[.pointer (some ⟨b, 0, none⟩)] w fun e w' => e = .returned (.tuple #[]) ∧ w' = w1)
    (hbk : w1.heap[b]? = some (.cells #[.pointer (some ⟨b, 0, none⟩), v] 62 (0, 0))) (hBw : B ≤ w1.heap.size) (hown : w1.ownsRowF B 5 1 v bs.length bs) (hne : v.ownBlock ≠ some b) (hlen : bs.length + s.size ≤ 140737488355328) :
    Calls Tryd.prog 23 #[.pointer (some ⟨b, 0, none⟩), .string s] w fun e w' => e = .returned (.tuple #[.int .i64 s.size, .nilIface]) ∧
      Lib.BuilderAtF 62 5 B b (.pointer (some ⟨b, 0, none⟩)) (bs ++ Lib.strCells s) w' ∧ Go.Sx.Chg (b :: v.ownBlock.toList) w1 w' := by
  obtain ⟨i0, hi, hz0, hz1, hz2⟩ := info_parts Tryd.Builder_Extra_169.infoByte
  have mixed := Tryd.lays169.mixed
  have t72 := Tryd.underlying62; have a72 := Tryd.isAgg62; have z72 := Tryd.sizeOf62; have v72 := Tryd.zeroValue62; have u72 := run_underlying Tryd.underlying62
  have t70 := Tryd.underlying59; have a70 := Tryd.isAgg59; have z70 := Tryd.sizeOf59; have v70 := Tryd.zeroValue59; have u70 := run_underlying Tryd.underlying59
  have t37 := Tryd.underlying60; have a37 := Tryd.isAgg60; have z37 := Tryd.sizeOf60; have v37 := Tryd.zeroValue60; have u37 := run_underlying Tryd.underlying60
  have t3 := Tryd.underlying3; have a3 := Tryd.isAgg3; have z3 := Tryd.sizeOf3; have v3 := Tryd.zeroValue3; have u3 := run_underlying Tryd.underlying3
  have t9 := Tryd.underlying9; have a9 := Tryd.isAgg9; have z9 := Tryd.sizeOf9; have v9 := Tryd.zeroValue9; have u9 := run_underlying Tryd.underlying9
  have t4 := Tryd.underlying4; have a4 := Tryd.isAgg4; have z4 := Tryd.sizeOf4; have v4 := Tryd.zeroValue4; have u4 := run_underlying Tryd.underlying4
  have t5 := Tryd.underlying5; have a5 := Tryd.isAgg5; have z5 := Tryd.sizeOf5; have v5 := Tryd.zeroValue5; have u5 := run_underlying Tryd.underlying5
  have e240 : ∀ args w, (callFunc 45 args).run Tryd.prog w = .ok (.enter 45 args) w := enters_of Tryd.func45 (by kernel_rfl) rfl
  have c0 : w1.cell? ⟨b, 0, none⟩ = some (.pointer (some ⟨b, 0, none⟩)) := by rw [Lib.cell_of_heap hbk]; rfl
  have c1 : w1.cell? ⟨b, 1, none⟩ = some v := by rw [Lib.cell_of_heap hbk]; rfl
  go_enter Tryd.func23, (show Tryd.f23.ntmps = 19 from rfl)
  go_wp2_with (go_at_fn 45; refine hcc.mono ?_)
  rintro e w1' ⟨rfl, rfl⟩
  go_wp2_with (at_builtin; refine Lib.wpList_append_own_stringF _ rfl _ _ 60 9 rfl B 5 i0 Tryd.underlying60 Tryd.underlying9 hi hz0 hz1 hz2 _ _ _ rfl hown s rfl ?c3 ?c4 ?c5 ?_)
  case c3 => unfold maxLen; omega
  case c4 => omega
  case c5 => omega
  intro v' w2 hown' hgrow _
  have hlt : b < w1'.heap.size := (Array.getElem?_eq_some_iff.1 hbk).1
  have hb2 : w2.heap[b]? = some (.cells #[.pointer (some ⟨b, 0, none⟩), v] 62 (0, 0)) := by
    rw [hgrow.block b hlt (fun e => hne e.symm)]
    exact hbk
  have d0 : w2.cell? ⟨b, 0, none⟩ = some (.pointer (some ⟨b, 0, none⟩)) := by rw [Lib.cell_of_heap hb2]; rfl
  have d1 : w2.cell? ⟨b, 1, none⟩ = some v := by rw [Lib.cell_of_heap hb2]; rfl
  have f1 : w2.frozen? ⟨b, 1, none⟩ = false := Lib.frozen_of_heap hb2 1
  obtain ⟨ao, n', cap, rfl⟩ : ∃ ao n' cap, v' = .slice ao n' cap := by
    rcases hown'.2 with ⟨hv, _⟩ | ⟨g, cap, cur, fz, hv, _⟩
    · exact ⟨_, _, _, hv⟩
    · exact ⟨_, _, _, hv⟩
  go_wp2
  go_ret2
  refine ⟨rfl, Lib.BuilderAtF.put (T := 62) (e := 5) hB hb2 (bs' := bs ++ Lib.strCells s) (by simpa [Lib.strCells_length] using hown') Tryd.Builder_Extra_169.neB5, ?_⟩
  exact (Go.Sx.Chg.grown hgrow (fun q hq => by rw [hq]; simp)).trans (Go.Sx.Chg.setCell _ (by simp) _)
open Go.Sx in
theorem Tryd.bwrite_st {w0 w : World} {L : List Sx.Item} (hst : St w0 [] w L) (j : Nat) {v : Value} {S : List Nat} {x s r : ByteArray} (hj : L[j]? = some (itI (bldP 62 5) [v] S x))
    (hO : ∀ (i : Nat) (it : Sx.Item), i ≠ j → L[i]? = some it → ∃ b T cs, it = blkI b T cs ∧ T ≠ 5) (hF : strings_Builder_WriteString x s = some r) :
    Calls Tryd.prog 23 [v, .string s].toArray w (fun e' w' => ∃ S', e' = .returned (.tuple #[.int .i64 s.size, .nilIface]) ∧ St w0 [] w' (L.set j (itI (bldP 62 5) [v] S' r))) := by
  unfold strings_Builder_WriteString at hF
  split at hF
  case isFalse => cases hF
  rename_i hle
  cases hF
  obtain ⟨b, p, u, hv, hS, hb, hp, hu, hne⟩ := hst.all j _ hj
  cases hv
  subst hS
  have hjl : j < L.length := (List.getElem?_eq_some_iff.1 hj).1
  have ho : ∀ q ∈ b :: u.ownBlock.toList, w0.heap.size ≤ q := fun q hq => (hst.own j _ hj q hq).resolve_left (by simp)
  have hB : w0.heap.size ≤ b := ho b (by simp)
  have hlen : (Lib.byteCells x.data.toList).length = x.size := by simp [Lib.byteCells]
  have hu2 : w.ownsRowF w0.heap.size 5 1 u (Lib.byteCells x.data.toList).length (Lib.byteCells x.data.toList) := by
    rw [hlen]
    refine ⟨hu.1, ?_⟩
    rcases hu.2 with h1 | ⟨g, cap, cur, fz, rfl, h2, h3, h4⟩
    · exact .inl h1
    · exact .inr ⟨g, cap, cur, fz, rfl, ho g (by simp [Value.ownBlock]), h3, h4⟩
  have hA : Lib.BuilderAtF 62 5 w0.heap.size b p (Lib.byteCells x.data.toList) w := ⟨hB, u, hb, hu2, hne⟩
  have fin : ∀ w1, w1.heap[b]? = some (.cells #[.pointer (some ⟨b, 0, none⟩), u] 62 (0, 0)) → w1.ownsRowF w0.heap.size 5 1 u (Lib.byteCells x.data.toList).length (Lib.byteCells x.data.toList) → Chg [b] w w1 →
      (Calls Tryd.prog 45 #[.pointer (some ⟨b, 0, none⟩)] w fun e w' => e = .returned (.tuple #[]) ∧ w' = w1) →
      Calls Tryd.prog 23 [.pointer (some ⟨b, 0, none⟩), .string s].toArray w (fun e' w' => ∃ S', e' = .returned (.tuple #[.int .i64 s.size, .nilIface]) ∧ St w0 [] w' (L.set j (itI (bldP 62 5) [.pointer (some ⟨b, 0, none⟩)] S' (x ++ s)))) := by
    intro w1 hb1 hu1 hc1 hcc
    refine (Tryd.bwrite_core w0.heap.size b hB u (Lib.byteCells x.data.toList) s w w1 hcc hb1 (Nat.le_trans hst.chg.size hc1.size) hu1 hne (by rw [hlen]; exact hle)).mono ?_
    rintro e' w' ⟨rfl, hAt, hc2⟩
    have hc : Chg (b :: u.ownBlock.toList) w w' := (hc1.mono (by simp)).trans hc2
    have e1 : Lib.byteCells x.data.toList ++ Lib.strCells s = Lib.byteCells (x ++ s).data.toList := by simp [Lib.byteCells, Lib.strCells]
    rw [e1] at hAt
    have hn2 : (Lib.byteCells (x ++ s).data.toList).length = (x ++ s).size := by simp [Lib.byteCells]
    obtain ⟨h1, u', h2, h3, h4⟩ := hAt
    rw [hn2] at h3
    have hg : ∀ q ∈ u'.ownBlock.toList, w0.heap.size ≤ q ∧ ∃ cur fz, w'.heap[q]? = some (.cells cur 5 fz) := by
      intro q hq
      rcases h3.2 with h | ⟨g, cap, cur, fz, rfl, x1, x2, _⟩
      · rw [h.1] at hq; simp [Value.ownBlock] at hq
      · simp [Value.ownBlock] at hq
        subst hq; exact ⟨x1, cur, fz, x2⟩
    have same : ∀ (i : Nat) (it : Sx.Item), i ≠ j → L[i]? = some it → ∀ q ∈ it.S, w'.heap[q]? = w.heap[q]? := by
      intro i it hi hit q hq
      exact hc.block q (it.lt w (hst.all i it hit) q hq) (fun hm => hst.apart i j it _ hi hit hj q hq hm)
    have clash : ∀ (i : Nat) (it : Sx.Item), i ≠ j → L[i]? = some it → ∀ q ∈ it.S, q ∉ b :: u'.ownBlock.toList := by
      intro i it hi hit q hq hm
      rcases List.mem_cons.1 hm with rfl | hm
      · exact hst.apart i j it _ hi hit hj q hq List.mem_cons_self
      · obtain ⟨c, T, cs, rfl, hT⟩ := hO i it hi hit
        obtain ⟨_, cur, fz, hcur⟩ := hg q hm
        have hs := same i _ hi hit q hq
        have hq2 : q = c := by simpa [blkI] using hq
        subst hq2
        have hcell : w.heap[q]? = some (.cells cs.toArray T (0, 0)) := hst.all i _ hit
        rw [hs, hcell] at hcur
        cases hcur
        exact hT rfl
    have hset : ∀ (i : Nat) (y : Sx.Item), (L.set j (itI (bldP 62 5) [.pointer (some ⟨b, 0, none⟩)] (b :: u'.ownBlock.toList) (x ++ s)))[i]? = some y → (i = j ∧ y = itI (bldP 62 5) [.pointer (some ⟨b, 0, none⟩)] (b :: u'.ownBlock.toList) (x ++ s)) ∨ (i ≠ j ∧ L[i]? = some y) := by
      intro i y hi
      by_cases e : j = i
      · subst e; rw [List.getElem?_set_self hjl] at hi; exact .inl ⟨rfl, (Option.some.inj hi).symm⟩
      · rw [List.getElem?_set_ne e] at hi; exact .inr ⟨fun x => e x.symm, hi⟩
    refine ⟨b :: u'.ownBlock.toList, rfl, ⟨⟨hc.os.trans hst.chg.os, hc.tape.trans hst.chg.tape, hc.output.trans hst.chg.output, Nat.le_trans hst.chg.size hc.size, fun k hk _ => ?_⟩, ?_, ?_, ?_, ?_⟩⟩
    · rw [hc.block k (Nat.lt_of_lt_of_le hk hst.chg.size) (fun hm => by have := ho k hm; omega)]
      exact hst.chg.block k hk (by simp)
    · intro i y hi
      rcases hset i y hi with ⟨rfl, rfl⟩ | ⟨hne2, hi⟩
      · refine ⟨b, _, u', rfl, rfl, h2, .inr rfl, ⟨h3.1, ?_⟩, h4⟩
        rcases h3.2 with h | ⟨g, cap, cur, fz, rfl, x1, x2⟩
        · exact .inl h
        · exact .inr ⟨g, cap, cur, fz, rfl, Nat.zero_le _, x2⟩
      · exact y.loc w w' (same i y hne2 hi) (hst.all i y hi)
    · intro i y hi
      rcases hset i y hi with ⟨rfl, rfl⟩ | ⟨hne2, hi⟩
      · show (b :: u'.ownBlock.toList).Nodup
        cases h : u'.ownBlock with
        | none => simp
        | some g => rw [h] at h4; simp; intro e; exact h4 (by rw [e])
      · exact hst.nd i y hi
    · intro i k y z hik hi hk q hq
      rcases hset i y hi with ⟨rfl, rfl⟩ | ⟨hne2, hi2⟩
      · rcases hset k z hk with ⟨rfl, rfl⟩ | ⟨hne3, hk⟩
        · exact absurd rfl hik
        · exact fun hz => clash k z hne3 hk q hz hq
      · rcases hset k z hk with ⟨rfl, rfl⟩ | ⟨hne3, hk2⟩
        · exact clash i y hne2 hi2 q hq
        · exact hst.apart i k y z hik hi2 hk2 q hq
    · intro i y hi q hq
      rcases hset i y hi with ⟨rfl, rfl⟩ | ⟨hne2, hi⟩
      · rcases List.mem_cons.1 (show q ∈ b :: u'.ownBlock.toList from hq) with rfl | hq
        · exact .inr h1
        · exact .inr (hg q hq).1
      · exact hst.own i y hi q hq
  rcases hp with rfl | rfl
  · have k0 : (w.setCell ⟨b, 0, none⟩ (.pointer (some ⟨b, 0, none⟩))).heap[b]? = some (.cells #[.pointer (some ⟨b, 0, none⟩), u] 62 (0, 0)) := by
      simp [World.setCell, Array.getElem?_modify, hb]
    refine fin (w.setCell ⟨b, 0, none⟩ (.pointer (some ⟨b, 0, none⟩))) k0 ?_ (Chg.setCell _ (by simp) _) (Tryd.copyCheck_fresh b w hA.cell0 hA.shape hA.frozen0)
    obtain ⟨_, u2, k1, k2, k3⟩ := hA.used (p := .pointer none) (.pointer (some ⟨b, 0, none⟩))
    rw [k0] at k1
    cases k1
    exact k2
  · exact fin w hb hu2 (Chg.refl _ _) (Tryd.copyCheck_used b w hA.cell0)
end Go.Proofs
