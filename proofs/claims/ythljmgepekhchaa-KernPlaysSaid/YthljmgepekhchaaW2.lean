/- Written by a program (wip/gen): the walks: each Go function returns what its plain function computes. -/
import Derived.Test.YthljmgepekhchaaProg
import Derived.Test.YthljmgepekhchaaF2
import Derived.Test.YthljmgepekhchaaPlan
namespace Go.Proofs.Ythljmgepekhchaa
open Go.Sx
set_option linter.unusedVariables false

theorem el55 : Elem Try.prog 55 2 16 := Elem.of (i := Try.t55) (by kernel_rfl) (by kernel_rfl) (by kernel_rfl) (by kernel_rfl) (by kernel_rfl) (by decide) (by decide)

theorem el3 : Elem Try.prog 3 1 8 := Elem.of (i := Try.t3) (by kernel_rfl) (by kernel_rfl) (by kernel_rfl) (by kernel_rfl) (by kernel_rfl) (by decide) (by decide)

theorem el4 : Elem Try.prog 4 1 1 := Elem.of (i := Try.t4) (by kernel_rfl) (by kernel_rfl) (by kernel_rfl) (by kernel_rfl) (by kernel_rfl) (by decide) (by decide)

set_option maxRecDepth 10000 in
theorem kern_New_ok (w : World) (p0 : Int) (r : (Option kern_Kern) × Int) (hF : kern_New p0 = some r)
    (hst : St w (fp []) w []) :
    Calls Try.prog 8 [.int .i64 p0].toArray w (fun e w' => (∃ (k0 : kern_Kern) (y0 : Nat) (x0_0 : Value), r.1 = some k0 ∧ e = .returned (.tuple #[.pointer (some ⟨y0, 0, none⟩), .int .i64 r.2]) ∧ St w (fp []) w' [blkI y0 51 [x0_0, .int .i64 k0.turns], rowI x0_0 55 enc_kern_task 2 k0.tasks]) ∨ (r.1 = none ∧ e = .returned (.tuple #[.pointer none, .int .i64 r.2]) ∧ St w (fp []) w' [])) := by
  refine CW.start (N := 14) Try.func8 rfl rfl rfl ?_
  refine CW.seq ?_
  refine CW.region ?_
  refine OW.pure 2 [] (by kernel_rfl) ?_
  refine OW.nil rfl ?_
  refine QW.next ?_
  refine CW.seq ?_
  refine CW.seq ?_
  refine CW.cutK (fun a w1 => Rep 14 [(0, .int .i64 p0), (9, .bool (decide (p0 < 1) || decide (p0 > 64)))] a ∧ St w (fp []) w1 []) ?_ ?_
  · refine CW.region ?_
    refine OW.pure 3 [(6, .bool (decide (p0 < 1)))] (by kernel_rfl) ?_
    refine OW.split 6 rfl (fun hc1 => ?_) (fun hc1 => ?_)
    · refine OW.pure 3 [(9, .bool true)] (by kernel_rfl) ?_
      refine OW.nil rfl ?_
      refine QW.say 9 (v := .bool (decide (p0 < 1) || decide (p0 > 64))) rfl (by first | (rw [hc1]; done) | (rw [hc1]; rfl) | simp [hc1]) ?_
      exact QW.meet (fun a ha => ⟨ha.agrees (by kernel_rfl), hst.keep [] rfl⟩)
    · refine OW.pure 3 [(9, .bool (decide (p0 > 64)))] (by kernel_rfl) ?_
      refine OW.nil rfl ?_
      refine QW.say 9 (v := .bool (decide (p0 < 1) || decide (p0 > 64))) rfl (by first | (rw [hc1]; done) | (rw [hc1]; rfl) | simp [hc1]) ?_
      exact QW.meet (fun a ha => ⟨ha.agrees (by kernel_rfl), hst.keep [] rfl⟩)
  · rintro a w1 ⟨ha, hst⟩
    refine CW.go ?_ ha
    rcases Bool.eq_false_or_eq_true ((decide (p0 < 1) || decide (p0 > 64))) with hc2 | hc2
    · have hF := ite_t hF hc2
      refine CW.cond_t rfl hc2 ?_
      refine CW.seq ?_
      refine CW.region ?_
      refine OW.pure 2 [(2, .pointer none), (3, .int .i64 2)] (by kernel_rfl) ?_
      refine OW.nil rfl ?_
      refine QW.next ?_
      refine CW.ret ?_
      refine QW.then_ret ?_
      obtain rfl := Option.some.inj hF
      refine QW.ret2 rfl rfl rfl ?_
      exact .inr ⟨rfl, rfl, hst.keep [] rfl⟩
    · have hF := ite_f hF hc2
      refine CW.cond_f rfl hc2 ?_
      refine CW.skip ?_
      refine QW.next ?_
      refine CW.seq ?_
      refine CW.region ?_
      refine OW.pure 1 [(10, .int .i64 p0)] (by kernel_rfl) ?_
      obtain ⟨m9, hm10, hF⟩ := bind_some' hF
      refine OW.make (enc := enc_kern_task) (sz := 2) hst rfl rfl rfl rfl rfl (by kernel_rfl) el55 (kern_task.mk 0 0) (by kernel_rfl) (fun _ => rfl) hm10 ?_
      intro g11 w12 hst
      refine OW.pure 1 [(12, .agg [.slice (some ⟨g11, 0, none⟩) m9 m9, .int .i64 0].toArray)] (by kernel_rfl) ?_
      refine OW.box hst rfl rfl rfl rfl [.slice (some ⟨g11, 0, none⟩) m9 m9, .int .i64 0] rfl ?_
      intro b13 w14 hst
      refine OW.pure 2 [(2, .pointer (some ⟨b13, 0, none⟩)), (3, .int .i64 0)] (by kernel_rfl) ?_
      refine OW.nil rfl ?_
      refine QW.next ?_
      refine CW.ret ?_
      obtain rfl := Option.some.inj hF
      refine QW.ret2 rfl rfl rfl ?_
      exact .inl ⟨_, b13, (.slice (some ⟨g11, 0, none⟩) m9 m9), rfl, rfl, hst.keep [1, 0] rfl⟩

set_option maxRecDepth 10000 in
theorem kern_Kern_turn_ok (w : World) (b0 : Nat) (v0_0 : Value) (p0 : kern_Kern) (p1 : Int) (v2 : Value) (p2 : List Int) (r : Int × kern_Kern) (hF : kern_Kern_turn p0 p1 p2 = some r)
    (hst : St w (fp [blkI b0 51 [v0_0, .int .i64 p0.turns], rowI v0_0 55 enc_kern_task 2 p0.tasks]) w [blkI b0 51 [v0_0, .int .i64 p0.turns], rowI v0_0 55 enc_kern_task 2 p0.tasks]) (h2 : Rd w (fp [blkI b0 51 [v0_0, .int .i64 p0.turns], rowI v0_0 55 enc_kern_task 2 p0.tasks]) v2 (encI .i64) 1 p2) :
    Calls Try.prog 24 [.pointer (some ⟨b0, 0, none⟩), .int .i64 p1, v2].toArray w (fun e w' => ∃ (u0_0 : Value), e = .returned (.int .i64 r.1) ∧ St w (fp [blkI b0 51 [v0_0, .int .i64 p0.turns], rowI v0_0 55 enc_kern_task 2 p0.tasks]) w' [blkI b0 51 [u0_0, .int .i64 r.2.turns], rowI u0_0 55 enc_kern_task 2 r.2.tasks]) := by
  refine CW.start (N := 62) Try.func24 rfl rfl rfl ?_
  obtain ⟨l1, a2, c3, rfl⟩ := h2.len
  obtain ⟨l4, a5, c6, rfl⟩ := hst.len 1 rfl
  refine CW.seq ?_
  refine CW.region ?_
  refine OW.pure 1 [] (by kernel_rfl) ?_
  refine OW.nil rfl ?_
  refine QW.next ?_
  refine CW.seq ?_
  refine CW.seq ?_
  refine CW.region ?_
  refine OW.pure 3 [(13, .slice a2 (p2).length c3), (14, .int .i64 (((p2).length) : Int)), (15, .int .i64 0)] (by kernel_rfl) ?_
  refine OW.nil rfl ?_
  refine QW.next ?_
  obtain ⟨o58, ho59, hF⟩ := bind_some' hF
  refine CW.cutK (fun a w1 => ∃ (t60 : Unit), o58 = .inl t60 ∧ Rep 62 [(0, .pointer (some ⟨b0, 0, none⟩)), (1, .int .i64 p1), (2, .slice a2 (p2).length c3)] a ∧ St w (fp [blkI b0 51 [.slice a5 (p0.tasks).length c6, .int .i64 p0.turns], rowI (.slice a5 (p0.tasks).length c6) 55 enc_kern_task 2 p0.tasks]) w1 [blkI b0 51 [.slice a5 (p0.tasks).length c6, .int .i64 p0.turns], rowI (.slice a5 (p0.tasks).length c6) 55 enc_kern_task 2 p0.tasks]) ?_ ?_
  · refine CW.block ?_
    refine CW.loop (fun n a w1 => ∃ (i95 : Nat) (s94 : Unit), i95 + n = (p2).length ∧ Rep 62 [(0, .pointer (some ⟨b0, 0, none⟩)), (1, .int .i64 p1), (2, .slice a2 (p2).length c3), (13, .slice a2 (p2).length c3), (14, .int .i64 (((p2).length) : Int)), (15, .int .i64 (i95 : Int))] a ∧ St w (fp [blkI b0 51 [.slice a5 (p0.tasks).length c6, .int .i64 p0.turns], rowI (.slice a5 (p0.tasks).length c6) 55 enc_kern_task 2 p0.tasks]) w1 [blkI b0 51 [.slice a5 (p0.tasks).length c6, .int .i64 p0.turns], rowI (.slice a5 (p0.tasks).length c6) 55 enc_kern_task 2 p0.tasks] ∧ forN (kern_Kern_turn_l1 p0 p2) (fun (s94 : Unit) => (.inl ())) n i95 s94 = some o58) ((p2).length) (fun a ha => ⟨0, (), Nat.zero_add _, ha.agrees (by kernel_rfl), hst.keep [0, 1] rfl, ho59⟩) ?_
    rintro n92 a w1 ⟨i95, s94, hi96, ha, hst, hl93⟩
    refine CW.go ?_ ha
    refine CW.seq ?_
    refine CW.region ?_
    refine OW.pure 1 [(16, .bool (decide ((i95 : Int) < (((p2).length) : Int))))] (by kernel_rfl) ?_
    refine OW.nil rfl ?_
    refine QW.next ?_
    refine CW.seq ?_
    rcases Bool.eq_false_or_eq_true (decide ((i95 : Int) < (((p2).length) : Int))) with hc97 | hc97
    · rcases n92 with _ | n92
      · exact (cnt0 hi96 hc97).elim
      refine CW.cond_t rfl hc97 ?_
      refine CW.skip ?_
      refine QW.next ?_
      refine CW.seq ?_
      refine CW.block ?_
      refine CW.seq ?_
      refine CW.region ?_
      obtain ⟨x104, hx105, hl93⟩ := bind_some' hl93
      obtain ⟨g107, o108, c109, hv106⟩ := h2.formv (fun _ => ⟨_, rfl⟩) hx105
      refine OW.idx 3 1 rfl rfl rfl rfl hv106 rfl (idx_some hx105).1 (idx_some hx105).2.1 (by kernel_rfl) (by kernel_rfl) ?_
      refine OW.ld rfl rfl rfl rfl (by kernel_rfl) (h2.cellv hst hx105 hv106 0 _ rfl) ?_
      refine OW.pure 1 [(8, .int .i64 x104)] (by kernel_rfl) ?_
      refine OW.nil rfl ?_
      refine QW.next ?_
      refine CW.seq ?_
      refine CW.cutK (fun a w1 => Rep 62 [(0, .pointer (some ⟨b0, 0, none⟩)), (1, .int .i64 p1), (2, .slice a2 (p2).length c3), (13, .slice a2 (p2).length c3), (14, .int .i64 (((p2).length) : Int)), (15, .int .i64 (i95 : Int)), (29, .bool (decide (x104 < 0) || decide (x104 ≥ (((p0.tasks).length) : Int))))] a ∧ St w (fp [blkI b0 51 [.slice a5 (p0.tasks).length c6, .int .i64 p0.turns], rowI (.slice a5 (p0.tasks).length c6) 55 enc_kern_task 2 p0.tasks]) w1 [blkI b0 51 [.slice a5 (p0.tasks).length c6, .int .i64 p0.turns], rowI (.slice a5 (p0.tasks).length c6) 55 enc_kern_task 2 p0.tasks]) ?_ ?_
      · refine CW.region ?_
        refine OW.pure 3 [(21, .bool (decide (x104 < 0)))] (by kernel_rfl) ?_
        refine OW.split 21 rfl (fun hc110 => ?_) (fun hc110 => ?_)
        · refine OW.pure 8 [(29, .bool true)] (by kernel_rfl) ?_
          refine OW.nil rfl ?_
          refine QW.say 29 (v := .bool (decide (x104 < 0) || decide (x104 ≥ (((p0.tasks).length) : Int)))) rfl (by first | (rw [hc110]; done) | (rw [hc110]; rfl) | simp [hc110]) ?_
          exact QW.meet (fun a ha => ⟨ha.agrees (by kernel_rfl), hst.keep [0, 1] rfl⟩)
        · refine OW.pure 4 [(22, .int .i64 x104), (25, .pointer (some ⟨b0, 0, none⟩))] (by kernel_rfl) ?_
          refine OW.ld rfl rfl rfl rfl (by kernel_rfl) (hst.blk 0 rfl rfl) ?_
          refine OW.pure 3 [(29, .bool (decide (x104 ≥ (((p0.tasks).length) : Int))))] (by kernel_rfl) ?_
          refine OW.nil rfl ?_
          refine QW.say 29 (v := .bool (decide (x104 < 0) || decide (x104 ≥ (((p0.tasks).length) : Int)))) rfl (by first | (rw [hc110]; done) | (rw [hc110]; rfl) | simp [hc110]) ?_
          exact QW.meet (fun a ha => ⟨ha.agrees (by kernel_rfl), hst.keep [0, 1] rfl⟩)
      · rintro a w1 ⟨ha, hst⟩
        refine CW.go ?_ ha
        rcases Bool.eq_false_or_eq_true ((decide (x104 < 0) || decide (x104 ≥ (((p0.tasks).length) : Int)))) with hc111 | hc111
        · have hl93 := ite_t hl93 hc111
          refine CW.cond_t rfl hc111 ?_
          refine CW.seq ?_
          refine CW.region ?_
          refine OW.pure 1 [(6, .int .i64 2)] (by kernel_rfl) ?_
          refine OW.nil rfl ?_
          refine QW.next ?_
          refine CW.ret ?_
          refine QW.block_ret ?_
          refine QW.then_ret ?_
          refine QW.then_ret ?_
          refine QW.block_ret ?_
          refine QW.then_ret ?_
          obtain rfl := Option.some.inj hl93
          obtain rfl := Option.some.inj hF
          refine QW.ret1 rfl rfl ?_
          exact ⟨(.slice a5 (p0.tasks).length c6), rfl, hst.keep [0, 1] rfl⟩
        · have hl93 := ite_f hl93 hc111
          refine CW.cond_f rfl hc111 ?_
          refine CW.skip ?_
          refine QW.block_normal ?_
          refine QW.next ?_
          refine CW.region ?_
          refine OW.pure 2 [(15, .int .i64 (w64 ((i95 : Int) + 1)))] (by kernel_rfl) ?_
          refine OW.nil rfl ?_
          refine QW.say 15 rfl (congrArg (Value.int .i64) (w64_cnt hc97 l1)) ?_
          exact QW.meet (fun a ha => ⟨n92, Nat.lt_succ_self _, i95 + 1, (), cnt_next hi96, ha.agrees (by kernel_rfl), hst.keep [0, 1] rfl, hl93⟩)
    · rcases n92 with _ | n92
      · refine CW.cond_f rfl hc97 ?_
        refine CW.exit ?_
        refine QW.then_exit ?_
        refine QW.then_exit ?_
        refine QW.block_here ?_
        obtain rfl := Option.some.inj hl93
        exact QW.meet (fun a ha => ⟨(), rfl, ha.agrees (by kernel_rfl), hst.keep [0, 1] rfl⟩)
      · exact (cnt1 hi96 hc97).elim
  · rintro a w1 ⟨t60, rfl, ha, hst⟩
    refine CW.go ?_ ha
    refine CW.seq ?_
    refine CW.seq ?_
    refine CW.region ?_
    refine OW.pure 3 [(31, .slice a2 (p2).length c3), (32, .int .i64 (((p2).length) : Int)), (33, .int .i64 0)] (by kernel_rfl) ?_
    refine OW.nil rfl ?_
    refine QW.next ?_
    obtain ⟨o190, ho191, hF⟩ := bind_some' hF
    refine CW.cutK (fun a w1 => ∃ (t192 : Unit), o190 = .inl t192 ∧ Rep 62 [(0, .pointer (some ⟨b0, 0, none⟩)), (1, .int .i64 p1), (2, .slice a2 (p2).length c3)] a ∧ St w (fp [blkI b0 51 [.slice a5 (p0.tasks).length c6, .int .i64 p0.turns], rowI (.slice a5 (p0.tasks).length c6) 55 enc_kern_task 2 p0.tasks]) w1 [blkI b0 51 [.slice a5 (p0.tasks).length c6, .int .i64 p0.turns], rowI (.slice a5 (p0.tasks).length c6) 55 enc_kern_task 2 p0.tasks]) ?_ ?_
    · refine CW.block ?_
      refine CW.loop (fun n a w1 => ∃ (i245 : Nat) (s244 : Unit), i245 + n = (p2).length ∧ Rep 62 [(0, .pointer (some ⟨b0, 0, none⟩)), (1, .int .i64 p1), (2, .slice a2 (p2).length c3), (31, .slice a2 (p2).length c3), (32, .int .i64 (((p2).length) : Int)), (33, .int .i64 (i245 : Int))] a ∧ St w (fp [blkI b0 51 [.slice a5 (p0.tasks).length c6, .int .i64 p0.turns], rowI (.slice a5 (p0.tasks).length c6) 55 enc_kern_task 2 p0.tasks]) w1 [blkI b0 51 [.slice a5 (p0.tasks).length c6, .int .i64 p0.turns], rowI (.slice a5 (p0.tasks).length c6) 55 enc_kern_task 2 p0.tasks] ∧ forN (kern_Kern_turn_l2 p0 p2) (fun (s244 : Unit) => (.inl ())) n i245 s244 = some o190) ((p2).length) (fun a ha => ⟨0, (), Nat.zero_add _, ha.agrees (by kernel_rfl), hst.keep [0, 1] rfl, ho191⟩) ?_
      rintro n242 a w1 ⟨i245, s244, hi246, ha, hst, hl243⟩
      refine CW.go ?_ ha
      refine CW.seq ?_
      refine CW.region ?_
      refine OW.pure 1 [(34, .bool (decide ((i245 : Int) < (((p2).length) : Int))))] (by kernel_rfl) ?_
      refine OW.nil rfl ?_
      refine QW.next ?_
      refine CW.seq ?_
      rcases Bool.eq_false_or_eq_true (decide ((i245 : Int) < (((p2).length) : Int))) with hc247 | hc247
      · rcases n242 with _ | n242
        · exact (cnt0 hi246 hc247).elim
        refine CW.cond_t rfl hc247 ?_
        refine CW.skip ?_
        refine QW.next ?_
        refine CW.seq ?_
        refine CW.block ?_
        refine CW.seq ?_
        refine CW.region ?_
        obtain ⟨x254, hx255, hl243⟩ := bind_some' hl243
        obtain ⟨g257, o258, c259, hv256⟩ := h2.formv (fun _ => ⟨_, rfl⟩) hx255
        refine OW.idx 3 1 rfl rfl rfl rfl hv256 rfl (idx_some hx255).1 (idx_some hx255).2.1 (by kernel_rfl) (by kernel_rfl) ?_
        refine OW.ld rfl rfl rfl rfl (by kernel_rfl) (h2.cellv hst hx255 hv256 0 _ rfl) ?_
        refine OW.pure 1 [(10, .int .i64 x254)] (by kernel_rfl) ?_
        refine OW.nil rfl ?_
        refine QW.next ?_
        refine CW.seq ?_
        refine CW.region ?_
        refine OW.pure 3 [(39, .pointer (some ⟨b0, 0, none⟩))] (by kernel_rfl) ?_
        refine OW.ld rfl rfl rfl rfl (by kernel_rfl) (hst.blk 0 rfl rfl) ?_
        refine OW.pure 1 [(41, .int .i64 x254)] (by kernel_rfl) ?_
        obtain ⟨x265, hx266, hl243⟩ := bind_some' hl243
        obtain ⟨g268, c269, hv267⟩ := hst.rowv 1 rfl hx266
        refine OW.idx 55 2 rfl rfl rfl rfl hv267 rfl (idx_some hx266).1 (idx_some hx266).2.1 (by kernel_rfl) (by kernel_rfl) ?_
        refine OW.pure 1 [(43, .pointer (some ⟨g268, 0 + Int.toNat x254 * 2, none⟩))] (by kernel_rfl) ?_
        refine OW.ld rfl rfl rfl rfl (by kernel_rfl) (hst.rowc 1 rfl (fun _ => rfl) hx266 hv267 0 _ rfl) ?_
        refine OW.pure 1 [(45, .bool (x265.mode_ == 2))] (by kernel_rfl) ?_
        refine OW.nil rfl ?_
        refine QW.next ?_
        rcases Bool.eq_false_or_eq_true ((x265.mode_ == 2)) with hc270 | hc270
        · have hl243 := ite_t hl243 hc270
          refine CW.cond_t rfl hc270 ?_
          refine CW.seq ?_
          refine CW.region ?_
          refine OW.pure 1 [(6, .int .i64 43)] (by kernel_rfl) ?_
          refine OW.nil rfl ?_
          refine QW.next ?_
          refine CW.ret ?_
          refine QW.block_ret ?_
          refine QW.then_ret ?_
          refine QW.then_ret ?_
          refine QW.block_ret ?_
          refine QW.then_ret ?_
          obtain rfl := Option.some.inj hl243
          obtain rfl := Option.some.inj hF
          refine QW.ret1 rfl rfl ?_
          exact ⟨(.slice a5 (p0.tasks).length c6), rfl, hst.keep [0, 1] rfl⟩
        · have hl243 := ite_f hl243 hc270
          refine CW.cond_f rfl hc270 ?_
          refine CW.skip ?_
          refine QW.block_normal ?_
          refine QW.next ?_
          refine CW.region ?_
          refine OW.pure 2 [(33, .int .i64 (w64 ((i245 : Int) + 1)))] (by kernel_rfl) ?_
          refine OW.nil rfl ?_
          refine QW.say 33 rfl (congrArg (Value.int .i64) (w64_cnt hc247 l1)) ?_
          exact QW.meet (fun a ha => ⟨n242, Nat.lt_succ_self _, i245 + 1, (), cnt_next hi246, ha.agrees (by kernel_rfl), hst.keep [0, 1] rfl, hl243⟩)
      · rcases n242 with _ | n242
        · refine CW.cond_f rfl hc247 ?_
          refine CW.exit ?_
          refine QW.then_exit ?_
          refine QW.then_exit ?_
          refine QW.block_here ?_
          obtain rfl := Option.some.inj hl243
          exact QW.meet (fun a ha => ⟨(), rfl, ha.agrees (by kernel_rfl), hst.keep [0, 1] rfl⟩)
        · exact (cnt1 hi246 hc247).elim
    · rintro a w1 ⟨t192, rfl, ha, hst⟩
      refine CW.go ?_ ha
      refine CW.seq ?_
      refine CW.seq ?_
      refine CW.region ?_
      refine OW.pure 3 [(47, .slice a2 (p2).length c3), (48, .int .i64 (((p2).length) : Int)), (49, .int .i64 0)] (by kernel_rfl) ?_
      refine OW.nil rfl ?_
      refine QW.next ?_
      obtain ⟨o367, ho368, hF⟩ := bind_some' hF
      refine CW.cutK (fun a w1 => ∃ (v366 : Value), Rep 62 [] a ∧ St w (fp [blkI b0 51 [.slice a5 (p0.tasks).length c6, .int .i64 p0.turns], rowI (.slice a5 (p0.tasks).length c6) 55 enc_kern_task 2 p0.tasks]) w1 [blkI b0 51 [v366, .int .i64 p0.turns], rowI v366 55 enc_kern_task 2 o367]) ?_ ?_
      · refine CW.block ?_
        refine CW.loop (fun n a w1 => ∃ (i434 : Nat) (s432 : (List kern_task)) (v433 : Value), i434 + n = (p2).length ∧ Rep 62 [(0, .pointer (some ⟨b0, 0, none⟩)), (1, .int .i64 p1), (47, .slice a2 (p2).length c3), (48, .int .i64 (((p2).length) : Int)), (49, .int .i64 (i434 : Int))] a ∧ St w (fp [blkI b0 51 [.slice a5 (p0.tasks).length c6, .int .i64 p0.turns], rowI (.slice a5 (p0.tasks).length c6) 55 enc_kern_task 2 p0.tasks]) w1 [blkI b0 51 [v433, .int .i64 p0.turns], rowI v433 55 enc_kern_task 2 s432] ∧ forN (kern_Kern_turn_l3 p1 p2) (fun (s432 : (List kern_task)) => s432) n i434 s432 = some o367) ((p2).length) (fun a ha => ⟨0, p0.tasks, (.slice a5 (p0.tasks).length c6), Nat.zero_add _, ha.agrees (by kernel_rfl), hst.keep [0, 1] rfl, ho368⟩) ?_
        rintro n430 a w1 ⟨i434, s432, v433, hi435, ha, hst, hl431⟩
        refine CW.go ?_ ha
        obtain ⟨l436, a437, c438, rfl⟩ := hst.len 1 rfl
        refine CW.seq ?_
        refine CW.region ?_
        refine OW.pure 1 [(50, .bool (decide ((i434 : Int) < (((p2).length) : Int))))] (by kernel_rfl) ?_
        refine OW.nil rfl ?_
        refine QW.next ?_
        refine CW.seq ?_
        rcases Bool.eq_false_or_eq_true (decide ((i434 : Int) < (((p2).length) : Int))) with hc439 | hc439
        · rcases n430 with _ | n430
          · exact (cnt0 hi435 hc439).elim
          refine CW.cond_t rfl hc439 ?_
          refine CW.skip ?_
          refine QW.next ?_
          refine CW.seq ?_
          refine CW.block ?_
          refine CW.seq ?_
          refine CW.region ?_
          obtain ⟨x446, hx447, hl431⟩ := bind_some' hl431
          obtain ⟨g449, o450, c451, hv448⟩ := h2.formv (fun _ => ⟨_, rfl⟩) hx447
          refine OW.idx 3 1 rfl rfl rfl rfl hv448 rfl (idx_some hx447).1 (idx_some hx447).2.1 (by kernel_rfl) (by kernel_rfl) ?_
          refine OW.ld rfl rfl rfl rfl (by kernel_rfl) (h2.cellv hst hx447 hv448 0 _ rfl) ?_
          refine OW.pure 1 [(12, .int .i64 x446)] (by kernel_rfl) ?_
          refine OW.nil rfl ?_
          refine QW.next ?_
          refine CW.region ?_
          refine OW.pure 3 [(55, .pointer (some ⟨b0, 0, none⟩))] (by kernel_rfl) ?_
          refine OW.ld rfl rfl rfl rfl (by kernel_rfl) (hst.blk 0 rfl rfl) ?_
          refine OW.pure 2 [(57, .int .i64 x446), (58, .int .i64 p1)] (by kernel_rfl) ?_
          obtain ⟨x458, hx459, hl431⟩ := bind_some' hl431
          obtain ⟨g461, c462, hv460⟩ := hst.rowv 1 rfl hx459
          refine OW.idx 55 2 rfl rfl rfl rfl hv460 rfl (idx_some hx459).1 (idx_some hx459).2.1 (by kernel_rfl) (by kernel_rfl) ?_
          refine OW.pure 1 [(60, .pointer (some ⟨g461, 0 + Int.toNat x446 * 2, none⟩))] (by kernel_rfl) ?_
          refine OW.stR hst 1 rfl hv460 (fun _ => rfl) rfl rfl hx459 0 rfl rfl rfl (by kernel_rfl) rfl rfl (kern_task.mk p1 x458.picked) rfl ?_
          intro w463 hst
          refine OW.nil rfl ?_
          refine QW.block_normal ?_
          refine QW.next ?_
          refine CW.region ?_
          refine OW.pure 2 [(49, .int .i64 (w64 ((i434 : Int) + 1)))] (by kernel_rfl) ?_
          refine OW.nil rfl ?_
          refine QW.say 49 rfl (congrArg (Value.int .i64) (w64_cnt hc439 l1)) ?_
          exact QW.meet (fun a ha => ⟨n430, Nat.lt_succ_self _, i434 + 1, (s432.set (Int.toNat x446) (kern_task.mk p1 x458.picked)), (.slice a437 (s432).length c438), cnt_next hi435, ha.agrees (by kernel_rfl), hst.keep [0, 1] rfl, hl431⟩)
        · rcases n430 with _ | n430
          · refine CW.cond_f rfl hc439 ?_
            refine CW.exit ?_
            refine QW.then_exit ?_
            refine QW.then_exit ?_
            refine QW.block_here ?_
            obtain rfl := Option.some.inj hl431
            exact QW.meet (fun a ha => ⟨(.slice a437 (s432).length c438), ha.agrees (by kernel_rfl), hst.keep [0, 1] rfl⟩)
          · exact (cnt1 hi435 hc439).elim
      · rintro a w1 ⟨v366, ha, hst⟩
        refine CW.go ?_ ha
        obtain ⟨l467, a468, c469, rfl⟩ := hst.len 1 rfl
        refine CW.seq ?_
        refine CW.region ?_
        refine OW.pure 1 [(6, .int .i64 0)] (by kernel_rfl) ?_
        refine OW.nil rfl ?_
        refine QW.next ?_
        refine CW.ret ?_
        obtain rfl := Option.some.inj hF
        refine QW.ret1 rfl rfl ?_
        exact ⟨(.slice a468 (o367).length c469), rfl, hst.keep [0, 1] rfl⟩

set_option maxRecDepth 10000 in
theorem kern_Kern_Wake_ok (w : World) (b0 : Nat) (v0_0 : Value) (p0 : kern_Kern) (v1 : Value) (p1 : List Int) (r : Int × kern_Kern) (hF : kern_Kern_Wake p0 p1 = some r)
    (hst : St w (fp [blkI b0 51 [v0_0, .int .i64 p0.turns], rowI v0_0 55 enc_kern_task 2 p0.tasks]) w [blkI b0 51 [v0_0, .int .i64 p0.turns], rowI v0_0 55 enc_kern_task 2 p0.tasks]) (h1 : Rd w (fp [blkI b0 51 [v0_0, .int .i64 p0.turns], rowI v0_0 55 enc_kern_task 2 p0.tasks]) v1 (encI .i64) 1 p1) :
    Calls Try.prog 9 [.pointer (some ⟨b0, 0, none⟩), v1].toArray w (fun e w' => ∃ (u0_0 : Value), e = .returned (.int .i64 r.1) ∧ St w (fp [blkI b0 51 [v0_0, .int .i64 p0.turns], rowI v0_0 55 enc_kern_task 2 p0.tasks]) w' [blkI b0 51 [u0_0, .int .i64 r.2.turns], rowI u0_0 55 enc_kern_task 2 r.2.tasks]) := by
  refine CW.start (N := 8) Try.func9 rfl rfl rfl ?_
  obtain ⟨l1, a2, c3, rfl⟩ := h1.len
  obtain ⟨l4, a5, c6, rfl⟩ := hst.len 1 rfl
  refine CW.seq ?_
  refine CW.region ?_
  refine OW.pure 1 [] (by kernel_rfl) ?_
  refine OW.nil rfl ?_
  refine QW.next ?_
  refine CW.seq ?_
  refine CW.region ?_
  refine OW.pure 2 [(5, .pointer (some ⟨b0, 0, none⟩)), (6, .slice a2 (p1).length c3)] (by kernel_rfl) ?_
  obtain ⟨r15, hr16, hF⟩ := bind_some' hF
  refine OW.fn rfl rfl rfl rfl (by kernel_rfl) (kern_Kern_turn_ok _ b0 (.slice a5 (p0.tasks).length c6) p0 1 (.slice a2 (p1).length c3) p1 r15 hr16 (hst.part [0, 1] rfl) (h1.give hst [0, 1])) ?_
  rintro e w17 ⟨u19, rfl, hst18⟩
  refine ⟨_, rfl, ?_⟩
  have hst := hst.join (idx := [0, 1]) (rest := []) rfl hst18
  obtain ⟨l20, a21, c22, rfl⟩ := hst.len 1 rfl
  refine OW.pure 1 [(4, .int .i64 r15.1)] (by kernel_rfl) ?_
  refine OW.nil rfl ?_
  refine QW.next ?_
  refine CW.ret ?_
  obtain rfl := Option.some.inj hF
  refine QW.ret1 rfl rfl ?_
  exact ⟨(.slice a21 (r15.2.tasks).length c22), rfl, hst.keep [0, 1] rfl⟩

set_option maxRecDepth 10000 in
theorem kern_Kern_in_ok (w : World) (b0 : Nat) (v0_0 : Value) (p0 : kern_Kern) (p1 : Int) (r : (List Int)) (hF : kern_Kern_in p0 p1 = some r)
    (hst : St w (fp [blkI b0 51 [v0_0, .int .i64 p0.turns], rowI v0_0 55 enc_kern_task 2 p0.tasks]) w [blkI b0 51 [v0_0, .int .i64 p0.turns], rowI v0_0 55 enc_kern_task 2 p0.tasks]) :
    Calls Try.prog 26 [.pointer (some ⟨b0, 0, none⟩), .int .i64 p1].toArray w (fun e w' => ∃ (x0 : Value), e = .returned (x0) ∧ St w (fp [blkI b0 51 [v0_0, .int .i64 p0.turns], rowI v0_0 55 enc_kern_task 2 p0.tasks]) w' [blkI b0 51 [v0_0, .int .i64 p0.turns], rowI v0_0 55 enc_kern_task 2 p0.tasks, rowI x0 3 (encI .i64) 1 r]) := by
  refine CW.start (N := 28) Try.func26 rfl rfl rfl ?_
  obtain ⟨l1, a2, c3, rfl⟩ := hst.len 1 rfl
  refine CW.seq ?_
  refine CW.region ?_
  refine OW.pure 1 [] (by kernel_rfl) ?_
  refine OW.nil rfl ?_
  refine QW.next ?_
  refine CW.seq ?_
  refine CW.region ?_
  refine OW.pure 1 [(5, .slice none 0 0)] (by kernel_rfl) ?_
  refine OW.nil rfl ?_
  refine QW.next ?_
  refine CW.seq ?_
  refine CW.seq ?_
  refine CW.region ?_
  refine OW.pure 3 [(10, .pointer (some ⟨b0, 0, none⟩))] (by kernel_rfl) ?_
  refine OW.ld rfl rfl rfl rfl (by kernel_rfl) (hst.blk 0 rfl rfl) ?_
  refine OW.pure 2 [(12, .int .i64 (((p0.tasks).length) : Int)), (13, .int .i64 0)] (by kernel_rfl) ?_
  refine OW.nil rfl ?_
  refine QW.next ?_
  obtain ⟨o133, ho134, hF⟩ := bind_some' hF
  refine CW.cutK (fun a w1 => ∃ (v132 : Value), Rep 28 [(5, v132)] a ∧ St w (fp [blkI b0 51 [.slice a2 (p0.tasks).length c3, .int .i64 p0.turns], rowI (.slice a2 (p0.tasks).length c3) 55 enc_kern_task 2 p0.tasks]) w1 [rowI v132 3 (encI .i64) 1 o133, blkI b0 51 [.slice a2 (p0.tasks).length c3, .int .i64 p0.turns], rowI (.slice a2 (p0.tasks).length c3) 55 enc_kern_task 2 p0.tasks]) ?_ ?_
  · refine CW.block ?_
    have hst := hst.nilRow Int 3 (encI .i64) 1
    refine CW.loop (fun n a w1 => ∃ (i221 : Nat) (s219 : (List Int)) (v220 : Value), i221 + n = (p0.tasks).length ∧ Rep 28 [(1, .int .i64 p1), (5, v220), (11, .slice a2 (p0.tasks).length c3), (12, .int .i64 (((p0.tasks).length) : Int)), (13, .int .i64 (i221 : Int))] a ∧ St w (fp [blkI b0 51 [.slice a2 (p0.tasks).length c3, .int .i64 p0.turns], rowI (.slice a2 (p0.tasks).length c3) 55 enc_kern_task 2 p0.tasks]) w1 [rowI v220 3 (encI .i64) 1 s219, rowI (.slice a2 (p0.tasks).length c3) 55 enc_kern_task 2 p0.tasks, blkI b0 51 [.slice a2 (p0.tasks).length c3, .int .i64 p0.turns]] ∧ forN (kern_Kern_in_l1 p0 p1) (fun (s219 : (List Int)) => s219) n i221 s219 = some o133) ((p0.tasks).length) (fun a ha => ⟨0, ([] : List Int), (.slice none 0 0), Nat.zero_add _, ha.agrees (by kernel_rfl), hst.keep [2, 1, 0] rfl, ho134⟩) ?_
    rintro n217 a w1 ⟨i221, s219, v220, hi222, ha, hst, hl218⟩
    refine CW.go ?_ ha
    obtain ⟨l223, a224, c225, rfl⟩ := hst.len 0 rfl
    refine CW.seq ?_
    refine CW.region ?_
    refine OW.pure 1 [(14, .bool (decide ((i221 : Int) < (((p0.tasks).length) : Int))))] (by kernel_rfl) ?_
    refine OW.nil rfl ?_
    refine QW.next ?_
    refine CW.seq ?_
    rcases Bool.eq_false_or_eq_true (decide ((i221 : Int) < (((p0.tasks).length) : Int))) with hc226 | hc226
    · rcases n217 with _ | n217
      · exact (cnt0 hi222 hc226).elim
      refine CW.cond_t rfl hc226 ?_
      refine CW.skip ?_
      refine QW.next ?_
      refine CW.seq ?_
      refine CW.block ?_
      refine CW.seq ?_
      refine CW.region ?_
      refine OW.pure 1 [(15, .int .i64 (i221 : Int))] (by kernel_rfl) ?_
      obtain ⟨x235, hx236, hl218⟩ := bind_some' hl218
      obtain ⟨g238, c239, hv237⟩ := hst.rowv 1 rfl hx236
      refine OW.idx 55 2 rfl rfl rfl rfl hv237 rfl (idx_some hx236).1 (idx_some hx236).2.1 (by kernel_rfl) (by kernel_rfl) ?_
      refine OW.ldN (cs := enc_kern_task x235) rfl rfl rfl rfl (by kernel_rfl) (by kernel_rfl) (hst.rowc 1 rfl (fun _ => rfl) hx236 hv237) ?_
      refine OW.alloc hst rfl rfl rfl [.int .i64 0, .int .i64 0] (by kernel_rfl) ?_
      intro b240 w241 hst
      refine OW.pure 1 [(6, .int .i64 (i221 : Int))] (by kernel_rfl) ?_
      refine OW.stB hst 3 rfl rfl rfl rfl rfl (by kernel_rfl) rfl rfl [.int .i64 x235.mode_, .int .i64 x235.picked] rfl ?_
      intro w242 hst
      refine OW.nil rfl ?_
      refine QW.next ?_
      refine CW.seq ?_
      refine CW.region ?_
      refine OW.pure 1 [(18, .pointer (some ⟨b240, 0, none⟩))] (by kernel_rfl) ?_
      refine OW.ld rfl rfl rfl rfl (by kernel_rfl) (hst.blk 3 rfl rfl) ?_
      refine OW.pure 2 [(21, .bool (x235.mode_ == p1))] (by kernel_rfl) ?_
      refine OW.nil rfl ?_
      refine QW.next ?_
      rcases Bool.eq_false_or_eq_true ((x235.mode_ == p1)) with hc243 | hc243
      · have hl218 := ite_t hl218 hc243
        refine CW.cond_t rfl hc243 ?_
        refine CW.region ?_
        refine OW.pure 2 [(22, .slice a224 (s219).length c225), (23, .int .i64 (i221 : Int))] (by kernel_rfl) ?_
        refine OW.row (α := Int) (e := 3) (enc := encI .i64) (sz := 1) hst rfl rfl rfl [(i221 : Int)] rfl (fun _ => rfl) rfl rfl (fun _ => by kernel_rfl) ?_
        intro g253 w254 hst
        obtain ⟨u255, hr256, hl218⟩ := bind_some' hl218
        refine OW.app hst 0 rfl (fun _ => rfl) (fun _ => rfl) rfl rfl rfl rfl rfl rfl (by kernel_rfl) el3 (hst.rd 4 rfl (fun _ => rfl) [] rfl (hst.len 4 rfl).1) (room_le hr256) ?_
        intro v257 w258 hst
        obtain ⟨l259, a260, c261, rfl⟩ := hst.len 0 rfl
        refine OW.pure 1 [(5, .slice a260 ((s219 ++ [(i221 : Int)])).length c261)] (by kernel_rfl) ?_
        refine OW.nil rfl ?_
        refine QW.block_normal ?_
        refine QW.next ?_
        refine CW.region ?_
        refine OW.pure 2 [(13, .int .i64 (w64 ((i221 : Int) + 1)))] (by kernel_rfl) ?_
        refine OW.nil rfl ?_
        refine QW.say 13 rfl (congrArg (Value.int .i64) (w64_cnt hc226 l1)) ?_
        exact QW.meet (fun a ha => ⟨n217, Nat.lt_succ_self _, i221 + 1, (s219 ++ [(i221 : Int)]), (.slice a260 ((s219 ++ [(i221 : Int)])).length c261), cnt_next hi222, ha.agrees (by kernel_rfl), hst.keep [0, 1, 2] rfl, hl218⟩)
      · have hl218 := ite_f hl218 hc243
        refine CW.cond_f rfl hc243 ?_
        refine CW.skip ?_
        refine QW.block_normal ?_
        refine QW.next ?_
        refine CW.region ?_
        refine OW.pure 2 [(13, .int .i64 (w64 ((i221 : Int) + 1)))] (by kernel_rfl) ?_
        refine OW.nil rfl ?_
        refine QW.say 13 rfl (congrArg (Value.int .i64) (w64_cnt hc226 l1)) ?_
        exact QW.meet (fun a ha => ⟨n217, Nat.lt_succ_self _, i221 + 1, s219, (.slice a224 (s219).length c225), cnt_next hi222, ha.agrees (by kernel_rfl), hst.keep [0, 1, 2] rfl, hl218⟩)
    · rcases n217 with _ | n217
      · refine CW.cond_f rfl hc226 ?_
        refine CW.exit ?_
        refine QW.then_exit ?_
        refine QW.then_exit ?_
        refine QW.block_here ?_
        obtain rfl := Option.some.inj hl218
        exact QW.meet (fun a ha => ⟨(.slice a224 (s219).length c225), ha.agrees (by kernel_rfl), hst.keep [0, 2, 1] rfl⟩)
      · exact (cnt1 hi222 hc226).elim
  · rintro a w1 ⟨v132, ha, hst⟩
    refine CW.go ?_ ha
    obtain ⟨l265, a266, c267, rfl⟩ := hst.len 0 rfl
    refine CW.seq ?_
    refine CW.region ?_
    refine OW.pure 2 [(4, .slice a266 (o133).length c267)] (by kernel_rfl) ?_
    refine OW.nil rfl ?_
    refine QW.next ?_
    refine CW.ret ?_
    obtain rfl := Option.some.inj hF
    refine QW.ret1 rfl rfl ?_
    exact ⟨(.slice a266 (o133).length c267), rfl, hst.keep [1, 2, 0] rfl⟩

set_option maxRecDepth 10000 in
theorem kern_Kern_Ready_ok (w : World) (b0 : Nat) (v0_0 : Value) (p0 : kern_Kern) (r : (List Int)) (hF : kern_Kern_Ready p0 = some r)
    (hst : St w (fp [blkI b0 51 [v0_0, .int .i64 p0.turns], rowI v0_0 55 enc_kern_task 2 p0.tasks]) w [blkI b0 51 [v0_0, .int .i64 p0.turns], rowI v0_0 55 enc_kern_task 2 p0.tasks]) :
    Calls Try.prog 15 [.pointer (some ⟨b0, 0, none⟩)].toArray w (fun e w' => ∃ (x0 : Value), e = .returned (x0) ∧ St w (fp [blkI b0 51 [v0_0, .int .i64 p0.turns], rowI v0_0 55 enc_kern_task 2 p0.tasks]) w' [blkI b0 51 [v0_0, .int .i64 p0.turns], rowI v0_0 55 enc_kern_task 2 p0.tasks, rowI x0 3 (encI .i64) 1 r]) := by
  refine CW.start (N := 5) Try.func15 rfl rfl rfl ?_
  obtain ⟨l1, a2, c3, rfl⟩ := hst.len 1 rfl
  refine CW.seq ?_
  refine CW.region ?_
  refine OW.pure 1 [] (by kernel_rfl) ?_
  refine OW.nil rfl ?_
  refine QW.next ?_
  refine CW.seq ?_
  refine CW.region ?_
  refine OW.pure 1 [(3, .pointer (some ⟨b0, 0, none⟩))] (by kernel_rfl) ?_
  obtain ⟨r12, hr13, hF⟩ := bind_some' hF
  refine OW.fn rfl rfl rfl rfl (by kernel_rfl) (kern_Kern_in_ok _ b0 (.slice a2 (p0.tasks).length c3) p0 1 r12 hr13 (hst.part [0, 1] rfl)) ?_
  rintro e w14 ⟨v16, rfl, hst15⟩
  refine ⟨_, rfl, ?_⟩
  have hst := hst.join (idx := [0, 1]) (rest := []) rfl hst15
  obtain ⟨l17, a18, c19, rfl⟩ := hst.len 2 rfl
  refine OW.pure 1 [(2, .slice a18 (r12).length c19)] (by kernel_rfl) ?_
  refine OW.nil rfl ?_
  refine QW.next ?_
  refine CW.ret ?_
  obtain rfl := Option.some.inj hF
  refine QW.ret1 rfl rfl ?_
  exact ⟨(.slice a18 (r12).length c19), rfl, hst.keep [0, 1, 2] rfl⟩

set_option maxRecDepth 10000 in
theorem kern_Kern_take_ok (w : World) (b0 : Nat) (v0_0 : Value) (p0 : kern_Kern) (p1 : Int) (r : Int × Bool × kern_Kern) (hF : kern_Kern_take p0 p1 = some r)
    (hst : St w (fp [blkI b0 51 [v0_0, .int .i64 p0.turns], rowI v0_0 55 enc_kern_task 2 p0.tasks]) w [blkI b0 51 [v0_0, .int .i64 p0.turns], rowI v0_0 55 enc_kern_task 2 p0.tasks]) :
    Calls Try.prog 25 [.pointer (some ⟨b0, 0, none⟩), .int .i64 p1].toArray w (fun e w' => ∃ (u0_0 : Value), e = .returned (.tuple #[.int .i64 r.1, .bool r.2.1]) ∧ St w (fp [blkI b0 51 [v0_0, .int .i64 p0.turns], rowI v0_0 55 enc_kern_task 2 p0.tasks]) w' [blkI b0 51 [u0_0, .int .i64 r.2.2.turns], rowI u0_0 55 enc_kern_task 2 r.2.2.tasks]) := by
  refine CW.start (N := 25) Try.func25 rfl rfl rfl ?_
  obtain ⟨l1, a2, c3, rfl⟩ := hst.len 1 rfl
  refine CW.seq ?_
  refine CW.region ?_
  refine OW.pure 2 [] (by kernel_rfl) ?_
  refine OW.nil rfl ?_
  refine QW.next ?_
  refine CW.seq ?_
  refine CW.region ?_
  refine OW.pure 3 [(6, .pointer (some ⟨b0, 0, none⟩)), (8, .pointer (some ⟨b0, 1, none⟩))] (by kernel_rfl) ?_
  refine OW.ld rfl rfl rfl rfl (by kernel_rfl) (hst.blk 0 rfl rfl) ?_
  refine OW.pure 3 [(10, .int .i64 (w64 (p0.turns + 1))), (12, .pointer (some ⟨b0, 1, none⟩))] (by kernel_rfl) ?_
  refine OW.stB hst 0 rfl rfl rfl rfl rfl (by kernel_rfl) rfl rfl [.slice a2 (p0.tasks).length c3, .int .i64 (w64 (p0.turns + 1))] rfl ?_
  intro w5 hst
  refine OW.nil rfl ?_
  refine QW.next ?_
  refine CW.seq ?_
  refine CW.tail 11 (by kernel_rfl) (by kernel_rfl) ?_
  intro w14 hch15
  have hst := hst.same hch15
  refine OS.pure 3 [(15, .pointer (some ⟨b0, 0, none⟩))] rfl (by kernel_rfl) ?_
  refine OS.ld rfl rfl rfl rfl rfl (by kernel_rfl) (hst.blk 0 rfl rfl) ?_
  refine OS.pure 4 [(17, .int .i64 p1), (20, .pointer (some ⟨b0, 1, none⟩))] rfl (by kernel_rfl) ?_
  refine OS.ld rfl rfl rfl rfl rfl (by kernel_rfl) (hst.blk 0 rfl rfl) ?_
  obtain ⟨x16, hx17, hF⟩ := bind_some' hF
  obtain ⟨g19, c20, hv18⟩ := hst.rowv 1 rfl hx17
  refine OS.idx 55 2 rfl rfl rfl rfl rfl hv18 rfl (idx_some hx17).1 (idx_some hx17).2.1 (by kernel_rfl) (by kernel_rfl) ?_
  refine OS.pure 1 [(23, .pointer (some ⟨g19, 0 + Int.toNat p1 * 2 + 1, none⟩))] rfl (by kernel_rfl) ?_
  refine OS.on ?_
  refine OW.stR hst 1 rfl hv18 (fun _ => rfl) rfl rfl hx17 1 rfl rfl rfl (by kernel_rfl) rfl rfl (kern_task.mk x16.mode_ (w64 (p0.turns + 1))) rfl ?_
  intro w21 hst
  refine OW.nil rfl ?_
  refine QW.next ?_
  refine CW.seq ?_
  refine CW.region ?_
  refine OW.pure 3 [(4, .int .i64 p1), (5, .bool true)] (by kernel_rfl) ?_
  refine OW.nil rfl ?_
  refine QW.next ?_
  refine CW.ret ?_
  obtain rfl := Option.some.inj hF
  refine QW.ret2 rfl rfl rfl ?_
  exact ⟨(.slice a2 (p0.tasks).length c3), rfl, hst.keep [0, 1] rfl⟩

set_option maxRecDepth 10000 in
theorem kern_Kern_Pick_ok (w : World) (b0 : Nat) (v0_0 : Value) (p0 : kern_Kern) (p1 : Int) (r : Int × Bool × kern_Kern) (hF : kern_Kern_Pick p0 p1 = some r)
    (hst : St w (fp [blkI b0 51 [v0_0, .int .i64 p0.turns], rowI v0_0 55 enc_kern_task 2 p0.tasks]) w [blkI b0 51 [v0_0, .int .i64 p0.turns], rowI v0_0 55 enc_kern_task 2 p0.tasks]) :
    Calls Try.prog 12 [.pointer (some ⟨b0, 0, none⟩), .int .i64 p1].toArray w (fun e w' => ∃ (u0_0 : Value), e = .returned (.tuple #[.int .i64 r.1, .bool r.2.1]) ∧ St w (fp [blkI b0 51 [v0_0, .int .i64 p0.turns], rowI v0_0 55 enc_kern_task 2 p0.tasks]) w' [blkI b0 51 [u0_0, .int .i64 r.2.2.turns], rowI u0_0 55 enc_kern_task 2 r.2.2.tasks]) := by
  refine CW.start (N := 31) Try.func12 rfl rfl rfl ?_
  obtain ⟨l1, a2, c3, rfl⟩ := hst.len 1 rfl
  refine CW.seq ?_
  refine CW.region ?_
  refine OW.pure 2 [] (by kernel_rfl) ?_
  refine OW.nil rfl ?_
  refine QW.next ?_
  refine CW.seq ?_
  refine CW.region ?_
  refine OW.pure 1 [(8, .pointer (some ⟨b0, 0, none⟩))] (by kernel_rfl) ?_
  obtain ⟨r12, hr13, hF⟩ := bind_some' hF
  refine OW.fn rfl rfl rfl rfl (by kernel_rfl) (kern_Kern_Ready_ok _ b0 (.slice a2 (p0.tasks).length c3) p0 r12 hr13 (hst.part [0, 1] rfl)) ?_
  rintro e w14 ⟨v16, rfl, hst15⟩
  refine ⟨_, rfl, ?_⟩
  have hst := hst.join (idx := [0, 1]) (rest := []) rfl hst15
  obtain ⟨l17, a18, c19, rfl⟩ := hst.len 2 rfl
  refine OW.pure 1 [(6, .slice a18 (r12).length c19)] (by kernel_rfl) ?_
  refine OW.nil rfl ?_
  refine QW.next ?_
  refine CW.seq ?_
  refine CW.seq ?_
  refine CW.region ?_
  refine OW.pure 3 [(12, .bool ((((r12).length) : Int) == 0))] (by kernel_rfl) ?_
  refine OW.nil rfl ?_
  refine QW.next ?_
  rcases Bool.eq_false_or_eq_true (((((r12).length) : Int) == 0)) with hc20 | hc20
  · have hF := ite_t hF hc20
    refine CW.cond_t rfl hc20 ?_
    refine CW.seq ?_
    refine CW.region ?_
    refine OW.pure 2 [(4, .int .i64 0), (5, .bool false)] (by kernel_rfl) ?_
    refine OW.nil rfl ?_
    refine QW.next ?_
    refine CW.ret ?_
    refine QW.then_ret ?_
    obtain rfl := Option.some.inj hF
    refine QW.ret2 rfl rfl rfl ?_
    exact ⟨(.slice a2 (p0.tasks).length c3), rfl, hst.keep [0, 1] rfl⟩
  · have hF := ite_f hF hc20
    refine CW.cond_f rfl hc20 ?_
    refine CW.skip ?_
    refine QW.next ?_
    refine CW.seq ?_
    refine CW.region ?_
    refine OW.pure 3 [(13, .int .i64 p1), (15, .int .i64 (((r12).length) : Int))] (by kernel_rfl) ?_
    obtain ⟨u23, hz24, hF⟩ := bind_some' hF
    refine OW.rem rfl rfl rfl rfl rfl (nz_ne hz24) ?_
    refine OW.pure 1 [(7, .int .i64 (p1.tmod (((r12).length) : Int)))] (by kernel_rfl) ?_
    refine OW.nil rfl ?_
    refine QW.next ?_
    refine CW.seq ?_
    refine CW.seq ?_
    refine CW.region ?_
    refine OW.pure 2 [(18, .bool (decide ((p1.tmod (((r12).length) : Int)) < 0)))] (by kernel_rfl) ?_
    refine OW.nil rfl ?_
    refine QW.next ?_
    obtain ⟨o26, ho27, hF⟩ := bind_some' hF
    refine CW.cutK (fun a w1 => Rep 31 [(0, .pointer (some ⟨b0, 0, none⟩)), (6, .slice a18 (r12).length c19), (7, .int .i64 o26)] a ∧ St w (fp [blkI b0 51 [.slice a2 (p0.tasks).length c3, .int .i64 p0.turns], rowI (.slice a2 (p0.tasks).length c3) 55 enc_kern_task 2 p0.tasks]) w1 [blkI b0 51 [.slice a2 (p0.tasks).length c3, .int .i64 p0.turns], rowI (.slice a2 (p0.tasks).length c3) 55 enc_kern_task 2 p0.tasks, rowI (.slice a18 (r12).length c19) 3 (encI .i64) 1 r12]) ?_ ?_
    · rcases Bool.eq_false_or_eq_true (decide ((p1.tmod (((r12).length) : Int)) < 0)) with hc28 | hc28
      · have ho27 := ite_t ho27 hc28
        refine CW.cond_t rfl hc28 ?_
        refine CW.region ?_
        refine OW.pure 5 [(7, .int .i64 (w64 ((p1.tmod (((r12).length) : Int)) + (((r12).length) : Int))))] (by kernel_rfl) ?_
        refine OW.nil rfl ?_
        obtain rfl := Option.some.inj ho27
        exact QW.meet (fun a ha => ⟨ha.agrees (by kernel_rfl), hst.keep [0, 1, 2] rfl⟩)
      · have ho27 := ite_f ho27 hc28
        refine CW.cond_f rfl hc28 ?_
        refine CW.skip ?_
        obtain rfl := Option.some.inj ho27
        exact QW.meet (fun a ha => ⟨ha.agrees (by kernel_rfl), hst.keep [0, 1, 2] rfl⟩)
    · rintro a w1 ⟨ha, hst⟩
      refine CW.go ?_ ha
      refine CW.seq ?_
      refine CW.region ?_
      refine OW.pure 3 [(23, .pointer (some ⟨b0, 0, none⟩)), (24, .slice a18 (r12).length c19), (25, .int .i64 o26)] (by kernel_rfl) ?_
      obtain ⟨x42, hx43, hF⟩ := bind_some' hF
      obtain ⟨g45, c46, hv44⟩ := hst.rowv 2 rfl hx43
      refine OW.idx 3 1 rfl rfl rfl rfl hv44 rfl (idx_some hx43).1 (idx_some hx43).2.1 (by kernel_rfl) (by kernel_rfl) ?_
      refine OW.ld rfl rfl rfl rfl (by kernel_rfl) (hst.rowc 2 rfl (fun _ => rfl) hx43 hv44 0 _ rfl) ?_
      obtain ⟨r47, hr48, hF⟩ := bind_some' hF
      refine OW.fn rfl rfl rfl rfl (by kernel_rfl) (kern_Kern_take_ok _ b0 (.slice a2 (p0.tasks).length c3) p0 x42 r47 hr48 (hst.part [0, 1] rfl)) ?_
      rintro e w49 ⟨u51, rfl, hst50⟩
      refine ⟨_, rfl, ?_⟩
      have hst := hst.join (idx := [0, 1]) (rest := [2]) rfl hst50
      obtain ⟨l52, a53, c54, rfl⟩ := hst.len 1 rfl
      refine OW.pure 4 [(4, .int .i64 r47.1), (5, .bool r47.2.1)] (by kernel_rfl) ?_
      refine OW.nil rfl ?_
      refine QW.next ?_
      refine CW.ret ?_
      obtain rfl := Option.some.inj hF
      refine QW.ret2 rfl rfl rfl ?_
      exact ⟨(.slice a53 (r47.2.2.tasks).length c54), rfl, hst.keep [0, 1] rfl⟩

set_option maxRecDepth 10000 in
theorem kern_Kern_Fair_ok (w : World) (b0 : Nat) (v0_0 : Value) (p0 : kern_Kern) (r : Int × Bool × kern_Kern) (hF : kern_Kern_Fair p0 = some r)
    (hst : St w (fp [blkI b0 51 [v0_0, .int .i64 p0.turns], rowI v0_0 55 enc_kern_task 2 p0.tasks]) w [blkI b0 51 [v0_0, .int .i64 p0.turns], rowI v0_0 55 enc_kern_task 2 p0.tasks]) :
    Calls Try.prog 13 [.pointer (some ⟨b0, 0, none⟩)].toArray w (fun e w' => ∃ (u0_0 : Value), e = .returned (.tuple #[.int .i64 r.1, .bool r.2.1]) ∧ St w (fp [blkI b0 51 [v0_0, .int .i64 p0.turns], rowI v0_0 55 enc_kern_task 2 p0.tasks]) w' [blkI b0 51 [u0_0, .int .i64 r.2.2.turns], rowI u0_0 55 enc_kern_task 2 r.2.2.tasks]) := by
  refine CW.start (N := 45) Try.func13 rfl rfl rfl ?_
  obtain ⟨l1, a2, c3, rfl⟩ := hst.len 1 rfl
  refine CW.seq ?_
  refine CW.region ?_
  refine OW.pure 2 [] (by kernel_rfl) ?_
  refine OW.nil rfl ?_
  refine QW.next ?_
  refine CW.seq ?_
  refine CW.region ?_
  refine OW.pure 2 [(4, .int .i64 0), (5, .bool false)] (by kernel_rfl) ?_
  refine OW.nil rfl ?_
  refine QW.next ?_
  refine CW.seq ?_
  refine CW.seq ?_
  refine CW.region ?_
  refine OW.pure 1 [(8, .pointer (some ⟨b0, 0, none⟩))] (by kernel_rfl) ?_
  obtain ⟨r12, hr13, hF⟩ := bind_some' hF
  refine OW.fn rfl rfl rfl rfl (by kernel_rfl) (kern_Kern_Ready_ok _ b0 (.slice a2 (p0.tasks).length c3) p0 r12 hr13 (hst.part [0, 1] rfl)) ?_
  rintro e w14 ⟨v16, rfl, hst15⟩
  refine ⟨_, rfl, ?_⟩
  have hst := hst.join (idx := [0, 1]) (rest := []) rfl hst15
  obtain ⟨l17, a18, c19, rfl⟩ := hst.len 2 rfl
  refine OW.pure 2 [(10, .int .i64 (((r12).length) : Int)), (11, .int .i64 0)] (by kernel_rfl) ?_
  refine OW.nil rfl ?_
  refine QW.next ?_
  obtain ⟨o125, ho126, hF⟩ := bind_some' hF
  refine CW.cutK (fun a w1 => Rep 45 [(0, .pointer (some ⟨b0, 0, none⟩)), (4, .int .i64 o125.1), (5, .bool o125.2)] a ∧ St w (fp [blkI b0 51 [.slice a2 (p0.tasks).length c3, .int .i64 p0.turns], rowI (.slice a2 (p0.tasks).length c3) 55 enc_kern_task 2 p0.tasks]) w1 [blkI b0 51 [.slice a2 (p0.tasks).length c3, .int .i64 p0.turns], rowI (.slice a2 (p0.tasks).length c3) 55 enc_kern_task 2 p0.tasks]) ?_ ?_
  · refine CW.block ?_
    refine CW.loop (fun n a w1 => ∃ (i188 : Nat) (s187 : Int × Bool), i188 + n = (r12).length ∧ Rep 45 [(0, .pointer (some ⟨b0, 0, none⟩)), (4, .int .i64 s187.1), (5, .bool s187.2), (9, .slice a18 (r12).length c19), (10, .int .i64 (((r12).length) : Int)), (11, .int .i64 (i188 : Int))] a ∧ St w (fp [blkI b0 51 [.slice a2 (p0.tasks).length c3, .int .i64 p0.turns], rowI (.slice a2 (p0.tasks).length c3) 55 enc_kern_task 2 p0.tasks]) w1 [blkI b0 51 [.slice a2 (p0.tasks).length c3, .int .i64 p0.turns], rowI (.slice a2 (p0.tasks).length c3) 55 enc_kern_task 2 p0.tasks, rowI (.slice a18 (r12).length c19) 3 (encI .i64) 1 r12] ∧ forN (kern_Kern_Fair_l1 p0 r12) (fun (s187 : Int × Bool) => (s187.1, s187.2)) n i188 s187 = some o125) ((r12).length) (fun a ha => ⟨0, (0, false), Nat.zero_add _, ha.agrees (by kernel_rfl), hst.keep [0, 1, 2] rfl, ho126⟩) ?_
    rintro n185 a w1 ⟨i188, s187, hi189, ha, hst, hl186⟩
    refine CW.go ?_ ha
    refine CW.seq ?_
    refine CW.region ?_
    refine OW.pure 1 [(12, .bool (decide ((i188 : Int) < (((r12).length) : Int))))] (by kernel_rfl) ?_
    refine OW.nil rfl ?_
    refine QW.next ?_
    refine CW.seq ?_
    rcases Bool.eq_false_or_eq_true (decide ((i188 : Int) < (((r12).length) : Int))) with hc190 | hc190
    · rcases n185 with _ | n185
      · exact (cnt0 hi189 hc190).elim
      refine CW.cond_t rfl hc190 ?_
      refine CW.skip ?_
      refine QW.next ?_
      refine CW.seq ?_
      refine CW.block ?_
      refine CW.seq ?_
      refine CW.region ?_
      obtain ⟨x196, hx197, hl186⟩ := bind_some' hl186
      obtain ⟨g199, c200, hv198⟩ := hst.rowv 2 rfl hx197
      refine OW.idx 3 1 rfl rfl rfl rfl hv198 rfl (idx_some hx197).1 (idx_some hx197).2.1 (by kernel_rfl) (by kernel_rfl) ?_
      refine OW.ld rfl rfl rfl rfl (by kernel_rfl) (hst.rowc 2 rfl (fun _ => rfl) hx197 hv198 0 _ rfl) ?_
      refine OW.pure 1 [(7, .int .i64 x196)] (by kernel_rfl) ?_
      refine OW.nil rfl ?_
      refine QW.next ?_
      refine CW.seq ?_
      obtain ⟨o216, ho217, hl186⟩ := bind_some' hl186
      refine CW.cutK (fun a w1 => Rep 45 [(0, .pointer (some ⟨b0, 0, none⟩)), (4, .int .i64 s187.1), (5, .bool s187.2), (7, .int .i64 x196), (9, .slice a18 (r12).length c19), (10, .int .i64 (((r12).length) : Int)), (11, .int .i64 (i188 : Int)), (35, .bool o216)] a ∧ St w (fp [blkI b0 51 [.slice a2 (p0.tasks).length c3, .int .i64 p0.turns], rowI (.slice a2 (p0.tasks).length c3) 55 enc_kern_task 2 p0.tasks]) w1 [blkI b0 51 [.slice a2 (p0.tasks).length c3, .int .i64 p0.turns], rowI (.slice a2 (p0.tasks).length c3) 55 enc_kern_task 2 p0.tasks, rowI (.slice a18 (r12).length c19) 3 (encI .i64) 1 r12]) ?_ ?_
      · refine CW.still (by kernel_rfl) (by kernel_rfl) ?_
        intro w218 hch219
        have hst := hst.same hch219
        refine OS.pure 3 [(17, .bool (!s187.2))] rfl (by kernel_rfl) ?_
        refine OS.split 17 rfl (fun hc220 => ?_) (fun hc220 => ?_)
        · have ho217 := ite_t ho217 hc220
          refine OS.pure 18 [(35, .bool true)] rfl (by kernel_rfl) ?_
          refine OS.fin rfl ?_
          obtain rfl := Option.some.inj ho217
          exact QW.meet (fun a ha => ⟨ha.agrees (by kernel_rfl), hst.keep [0, 1, 2] rfl⟩)
        · have ho217 := ite_f ho217 hc220
          refine OS.pure 3 [(20, .pointer (some ⟨b0, 0, none⟩))] rfl (by kernel_rfl) ?_
          refine OS.ld rfl rfl rfl rfl rfl (by kernel_rfl) (hst.blk 0 rfl rfl) ?_
          refine OS.pure 1 [(22, .int .i64 x196)] rfl (by kernel_rfl) ?_
          obtain ⟨x221, hx222, ho217⟩ := bind_some' ho217
          obtain ⟨g224, c225, hv223⟩ := hst.rowv 1 rfl hx222
          refine OS.idx 55 2 rfl rfl rfl rfl rfl hv223 rfl (idx_some hx222).1 (idx_some hx222).2.1 (by kernel_rfl) (by kernel_rfl) ?_
          refine OS.pure 1 [(24, .pointer (some ⟨g224, 0 + Int.toNat x196 * 2 + 1, none⟩))] rfl (by kernel_rfl) ?_
          refine OS.ld rfl rfl rfl rfl rfl (by kernel_rfl) (hst.rowc 1 rfl (fun _ => rfl) hx222 hv223 1 _ rfl) ?_
          refine OS.pure 3 [(28, .pointer (some ⟨b0, 0, none⟩))] rfl (by kernel_rfl) ?_
          refine OS.ld rfl rfl rfl rfl rfl (by kernel_rfl) (hst.blk 0 rfl rfl) ?_
          refine OS.pure 1 [(30, .int .i64 s187.1)] rfl (by kernel_rfl) ?_
          obtain ⟨x226, hx227, ho217⟩ := bind_some' ho217
          obtain ⟨g229, c230, hv228⟩ := hst.rowv 1 rfl hx227
          refine OS.idx 55 2 rfl rfl rfl rfl rfl hv228 rfl (idx_some hx227).1 (idx_some hx227).2.1 (by kernel_rfl) (by kernel_rfl) ?_
          refine OS.pure 1 [(32, .pointer (some ⟨g229, 0 + Int.toNat s187.1 * 2 + 1, none⟩))] rfl (by kernel_rfl) ?_
          refine OS.ld rfl rfl rfl rfl rfl (by kernel_rfl) (hst.rowc 1 rfl (fun _ => rfl) hx227 hv228 1 _ rfl) ?_
          refine OS.pure 2 [(35, .bool (decide (x221.picked < x226.picked)))] rfl (by kernel_rfl) ?_
          refine OS.fin rfl ?_
          obtain rfl := Option.some.inj ho217
          exact QW.meet (fun a ha => ⟨ha.agrees (by kernel_rfl), hst.keep [0, 1, 2] rfl⟩)
      · rintro a w1 ⟨ha, hst⟩
        refine CW.go ?_ ha
        rcases Bool.eq_false_or_eq_true (o216) with hc231 | hc231
        · have hl186 := ite_t hl186 hc231
          refine CW.cond_t rfl hc231 ?_
          refine CW.region ?_
          refine OW.pure 3 [(4, .int .i64 x196), (5, .bool true)] (by kernel_rfl) ?_
          refine OW.nil rfl ?_
          refine QW.block_normal ?_
          refine QW.next ?_
          refine CW.region ?_
          refine OW.pure 2 [(11, .int .i64 (w64 ((i188 : Int) + 1)))] (by kernel_rfl) ?_
          refine OW.nil rfl ?_
          refine QW.say 11 rfl (congrArg (Value.int .i64) (w64_cnt hc190 l17)) ?_
          exact QW.meet (fun a ha => ⟨n185, Nat.lt_succ_self _, i188 + 1, (x196, true), cnt_next hi189, ha.agrees (by kernel_rfl), hst.keep [0, 1, 2] rfl, hl186⟩)
        · have hl186 := ite_f hl186 hc231
          refine CW.cond_f rfl hc231 ?_
          refine CW.skip ?_
          refine QW.block_normal ?_
          refine QW.next ?_
          refine CW.region ?_
          refine OW.pure 2 [(11, .int .i64 (w64 ((i188 : Int) + 1)))] (by kernel_rfl) ?_
          refine OW.nil rfl ?_
          refine QW.say 11 rfl (congrArg (Value.int .i64) (w64_cnt hc190 l17)) ?_
          exact QW.meet (fun a ha => ⟨n185, Nat.lt_succ_self _, i188 + 1, (s187.1, s187.2), cnt_next hi189, ha.agrees (by kernel_rfl), hst.keep [0, 1, 2] rfl, hl186⟩)
    · rcases n185 with _ | n185
      · refine CW.cond_f rfl hc190 ?_
        refine CW.exit ?_
        refine QW.then_exit ?_
        refine QW.then_exit ?_
        refine QW.block_here ?_
        obtain rfl := Option.some.inj hl186
        exact QW.meet (fun a ha => ⟨ha.agrees (by kernel_rfl), hst.keep [0, 1] rfl⟩)
      · exact (cnt1 hi189 hc190).elim
  · rintro a w1 ⟨ha, hst⟩
    refine CW.go ?_ ha
    refine CW.seq ?_
    refine CW.seq ?_
    refine CW.region ?_
    refine OW.pure 2 [(39, .bool (!o125.2))] (by kernel_rfl) ?_
    refine OW.nil rfl ?_
    refine QW.next ?_
    rcases Bool.eq_false_or_eq_true ((!o125.2)) with hc232 | hc232
    · have hF := ite_t hF hc232
      refine CW.cond_t rfl hc232 ?_
      refine CW.seq ?_
      refine CW.region ?_
      refine OW.pure 2 [(2, .int .i64 0), (3, .bool false)] (by kernel_rfl) ?_
      refine OW.nil rfl ?_
      refine QW.next ?_
      refine CW.ret ?_
      refine QW.then_ret ?_
      obtain rfl := Option.some.inj hF
      refine QW.ret2 rfl rfl rfl ?_
      exact ⟨(.slice a2 (p0.tasks).length c3), rfl, hst.keep [0, 1] rfl⟩
    · have hF := ite_f hF hc232
      refine CW.cond_f rfl hc232 ?_
      refine CW.skip ?_
      refine QW.next ?_
      refine CW.seq ?_
      refine CW.region ?_
      refine OW.pure 2 [(40, .pointer (some ⟨b0, 0, none⟩)), (41, .int .i64 o125.1)] (by kernel_rfl) ?_
      obtain ⟨r241, hr242, hF⟩ := bind_some' hF
      refine OW.fn rfl rfl rfl rfl (by kernel_rfl) (kern_Kern_take_ok _ b0 (.slice a2 (p0.tasks).length c3) p0 o125.1 r241 hr242 (hst.part [0, 1] rfl)) ?_
      rintro e w243 ⟨u245, rfl, hst244⟩
      refine ⟨_, rfl, ?_⟩
      have hst := hst.join (idx := [0, 1]) (rest := []) rfl hst244
      obtain ⟨l246, a247, c248, rfl⟩ := hst.len 1 rfl
      refine OW.pure 4 [(2, .int .i64 r241.1), (3, .bool r241.2.1)] (by kernel_rfl) ?_
      refine OW.nil rfl ?_
      refine QW.next ?_
      refine CW.ret ?_
      obtain rfl := Option.some.inj hF
      refine QW.ret2 rfl rfl rfl ?_
      exact ⟨(.slice a247 (r241.2.2.tasks).length c248), rfl, hst.keep [0, 1] rfl⟩

set_option maxRecDepth 10000 in
theorem kern_Kern_Turns_ok (w : World) (b0 : Nat) (v0_0 : Value) (p0 : kern_Kern) (r : Int) (hF : kern_Kern_Turns p0 = some r)
    (hst : St w (fp [blkI b0 51 [v0_0, .int .i64 p0.turns], rowI v0_0 55 enc_kern_task 2 p0.tasks]) w [blkI b0 51 [v0_0, .int .i64 p0.turns], rowI v0_0 55 enc_kern_task 2 p0.tasks]) :
    Calls Try.prog 17 [.pointer (some ⟨b0, 0, none⟩)].toArray w (fun e w' => e = .returned (.int .i64 r) ∧ St w (fp [blkI b0 51 [v0_0, .int .i64 p0.turns], rowI v0_0 55 enc_kern_task 2 p0.tasks]) w' [blkI b0 51 [v0_0, .int .i64 p0.turns], rowI v0_0 55 enc_kern_task 2 p0.tasks]) := by
  refine CW.start (N := 7) Try.func17 rfl rfl rfl ?_
  obtain ⟨l1, a2, c3, rfl⟩ := hst.len 1 rfl
  refine CW.seq ?_
  refine CW.region ?_
  refine OW.pure 1 [] (by kernel_rfl) ?_
  refine OW.nil rfl ?_
  refine QW.next ?_
  refine CW.seq ?_
  refine CW.region ?_
  refine OW.pure 3 [(5, .pointer (some ⟨b0, 1, none⟩))] (by kernel_rfl) ?_
  refine OW.ld rfl rfl rfl rfl (by kernel_rfl) (hst.blk 0 rfl rfl) ?_
  refine OW.pure 1 [(2, .int .i64 p0.turns)] (by kernel_rfl) ?_
  refine OW.nil rfl ?_
  refine QW.next ?_
  refine CW.ret ?_
  obtain rfl := Option.some.inj hF
  refine QW.ret1 rfl rfl ?_
  exact ⟨rfl, hst.keep [0, 1] rfl⟩

set_option maxRecDepth 10000 in
theorem tappetlaw21_awake_ok (w : World)  (r : Bool) (hF : tappetlaw21_awake  = some r)
    (hst : St w (fp []) w []) :
    Calls Try.prog 7 [].toArray w (fun e w' => e = .returned (.bool r) ∧ St w (fp []) w' []) := by
  refine CW.start (N := 50) Try.func7 rfl rfl rfl ?_
  refine CW.seq ?_
  refine CW.region ?_
  refine OW.pure 1 [] (by kernel_rfl) ?_
  refine OW.nil rfl ?_
  refine QW.next ?_
  refine CW.seq ?_
  refine CW.region ?_
  obtain ⟨r32, hr33, hF⟩ := bind_some' hF
  refine OW.fn rfl rfl rfl rfl (by kernel_rfl) (kern_New_ok _ 3 r32 hr33 (hst.part [] rfl)) ?_
  rintro e w34 (⟨k36, b38, v39, he37, rfl, hst35⟩ | ⟨he59, rfl, hst35⟩)
  · have hF := ocase_some hF he37
    refine ⟨_, rfl, ?_⟩
    have hst := hst.join (idx := []) (rest := []) rfl hst35
    obtain ⟨l60, a61, c62, rfl⟩ := hst.len 1 rfl
    refine OW.pure 5 [(1, .pointer (some ⟨b38, 0, none⟩)), (2, .int .i64 r32.2)] (by kernel_rfl) ?_
    refine OW.nil rfl ?_
    refine QW.next ?_
    refine CW.seq ?_
    refine CW.seq ?_
    obtain ⟨o75, ho76, hF⟩ := bind_some' hF
    refine CW.cutK (fun a w1 => ∃ (v74 : Value), Rep 50 [(1, .pointer (some ⟨b38, 0, none⟩)), (22, .bool o75.2)] a ∧ St w (fp []) w1 [blkI b38 51 [v74, .int .i64 o75.1.turns], rowI v74 55 enc_kern_task 2 o75.1.tasks]) ?_ ?_
    · refine CW.region ?_
      refine OW.pure 7 [(17, .bool (r32.2 != 0))] (by kernel_rfl) ?_
      refine OW.split 17 rfl (fun hc77 => ?_) (fun hc77 => ?_)
      · have ho76 := ite_t ho76 hc77
        refine OW.pure 5 [(22, .bool true)] (by kernel_rfl) ?_
        refine OW.nil rfl ?_
        obtain rfl := Option.some.inj ho76
        exact QW.meet (fun a ha => ⟨(.slice a61 (k36.tasks).length c62), ha.agrees (by kernel_rfl), hst.keep [0, 1] rfl⟩)
      · have ho76 := ite_f ho76 hc77
        refine OW.pure 1 [(18, .pointer (some ⟨b38, 0, none⟩))] (by kernel_rfl) ?_
        refine OW.row (α := Int) (e := 3) (enc := encI .i64) (sz := 1) hst rfl rfl rfl [2, 0] rfl (fun _ => rfl) rfl rfl (fun _ => by kernel_rfl) ?_
        intro g79 w80 hst
        obtain ⟨r81, hr82, ho76⟩ := bind_some' ho76
        refine OW.fn rfl rfl rfl rfl (by kernel_rfl) (kern_Kern_Wake_ok _ b38 (.slice a61 (k36.tasks).length c62) k36 (.slice (some ⟨g79, 0, none⟩) 2 2) ([2, 0]) r81 hr82 (hst.part [0, 1] rfl) (hst.rd 2 rfl (fun _ => rfl) [0, 1] rfl (hst.len 2 rfl).1)) ?_
        rintro e w83 ⟨u85, rfl, hst84⟩
        refine ⟨_, rfl, ?_⟩
        have hst := hst.join (idx := [0, 1]) (rest := [2]) rfl hst84
        obtain ⟨l86, a87, c88, rfl⟩ := hst.len 1 rfl
        refine OW.pure 2 [(22, .bool (r81.1 != 0))] (by kernel_rfl) ?_
        refine OW.nil rfl ?_
        obtain rfl := Option.some.inj ho76
        exact QW.meet (fun a ha => ⟨(.slice a87 (r81.2.tasks).length c88), ha.agrees (by kernel_rfl), hst.keep [0, 1] rfl⟩)
    · rintro a w1 ⟨v74, ha, hst⟩
      refine CW.go ?_ ha
      obtain ⟨l90, a91, c92, rfl⟩ := hst.len 1 rfl
      rcases Bool.eq_false_or_eq_true (o75.2) with hc93 | hc93
      · have hF := ite_t hF hc93
        refine CW.cond_t rfl hc93 ?_
        refine CW.seq ?_
        refine CW.region ?_
        refine OW.pure 1 [(0, .bool false)] (by kernel_rfl) ?_
        refine OW.nil rfl ?_
        refine QW.next ?_
        refine CW.ret ?_
        refine QW.then_ret ?_
        obtain rfl := Option.some.inj hF
        refine QW.ret1 rfl rfl ?_
        exact ⟨rfl, hst.keep [] rfl⟩
      · have hF := ite_f hF hc93
        refine CW.cond_f rfl hc93 ?_
        refine CW.skip ?_
        refine QW.next ?_
        refine CW.seq ?_
        refine CW.region ?_
        refine OW.pure 1 [(24, .pointer (some ⟨b38, 0, none⟩))] (by kernel_rfl) ?_
        obtain ⟨r102, hr103, hF⟩ := bind_some' hF
        refine OW.fn rfl rfl rfl rfl (by kernel_rfl) (kern_Kern_Pick_ok _ b38 (.slice a91 (o75.1.tasks).length c92) o75.1 5 r102 hr103 (hst.part [0, 1] rfl)) ?_
        rintro e w104 ⟨u106, rfl, hst105⟩
        refine ⟨_, rfl, ?_⟩
        have hst := hst.join (idx := [0, 1]) (rest := []) rfl hst105
        obtain ⟨l107, a108, c109, rfl⟩ := hst.len 1 rfl
        refine OW.pure 5 [(3, .int .i64 r102.1), (4, .bool r102.2.1)] (by kernel_rfl) ?_
        refine OW.nil rfl ?_
        refine QW.next ?_
        refine CW.seq ?_
        refine CW.region ?_
        refine OW.pure 1 [(29, .pointer (some ⟨b38, 0, none⟩))] (by kernel_rfl) ?_
        obtain ⟨r118, hr119, hF⟩ := bind_some' hF
        refine OW.fn rfl rfl rfl rfl (by kernel_rfl) (kern_Kern_Fair_ok _ b38 (.slice a108 (r102.2.2.tasks).length c109) r102.2.2 r118 hr119 (hst.part [0, 1] rfl)) ?_
        rintro e w120 ⟨u122, rfl, hst121⟩
        refine ⟨_, rfl, ?_⟩
        have hst := hst.join (idx := [0, 1]) (rest := []) rfl hst121
        obtain ⟨l123, a124, c125, rfl⟩ := hst.len 1 rfl
        refine OW.pure 5 [(5, .int .i64 r118.1), (6, .bool r118.2.1)] (by kernel_rfl) ?_
        refine OW.nil rfl ?_
        refine QW.next ?_
        refine CW.seq ?_
        obtain ⟨o134, ho135, hF⟩ := bind_some' hF
        refine CW.cutK (fun a w1 => Rep 50 [(0, .bool o134)] a ∧ St w (fp []) w1 []) ?_ ?_
        · refine CW.region ?_
          refine OW.pure 3 [(35, .bool (r102.1 == 2))] (by kernel_rfl) ?_
          refine OW.split 35 rfl (fun hc136 => ?_) (fun hc136 => ?_)
          · have ho135 := ite_t ho135 hc136
            refine OW.pure 3 [(38, .bool r102.2.1)] (by kernel_rfl) ?_
            refine OW.split 38 rfl (fun hc137 => ?_) (fun hc137 => ?_)
            · have ho135 := ite_t ho135 hc137
              refine OW.pure 4 [(42, .bool (r118.1 == 0))] (by kernel_rfl) ?_
              refine OW.split 42 rfl (fun hc138 => ?_) (fun hc138 => ?_)
              · have ho135 := ite_t ho135 hc138
                refine OW.pure 3 [(45, .bool r118.2.1)] (by kernel_rfl) ?_
                refine OW.split 45 rfl (fun hc139 => ?_) (fun hc139 => ?_)
                · have ho135 := ite_t ho135 hc139
                  refine OW.pure 1 [(46, .pointer (some ⟨b38, 0, none⟩))] (by kernel_rfl) ?_
                  obtain ⟨r140, hr141, ho135⟩ := bind_some' ho135
                  refine OW.fn rfl rfl rfl rfl (by kernel_rfl) (kern_Kern_Turns_ok _ b38 (.slice a124 (r118.2.2.tasks).length c125) r118.2.2 r140 hr141 (hst.part [0, 1] rfl)) ?_
                  rintro e w142 ⟨rfl, hst143⟩
                  refine ⟨_, rfl, ?_⟩
                  have hst := hst.join (idx := [0, 1]) (rest := []) rfl hst143
                  refine OW.pure 3 [(0, .bool (r140 == 2))] (by kernel_rfl) ?_
                  refine OW.nil rfl ?_
                  obtain rfl := Option.some.inj ho135
                  exact QW.meet (fun a ha => ⟨ha.agrees (by kernel_rfl), hst.keep [] rfl⟩)
                · have ho135 := ite_f ho135 hc139
                  refine OW.pure 5 [(0, .bool false)] (by kernel_rfl) ?_
                  refine OW.nil rfl ?_
                  obtain rfl := Option.some.inj ho135
                  exact QW.meet (fun a ha => ⟨ha.agrees (by kernel_rfl), hst.keep [] rfl⟩)
              · have ho135 := ite_f ho135 hc138
                refine OW.pure 8 [(0, .bool false)] (by kernel_rfl) ?_
                refine OW.nil rfl ?_
                obtain rfl := Option.some.inj ho135
                exact QW.meet (fun a ha => ⟨ha.agrees (by kernel_rfl), hst.keep [] rfl⟩)
            · have ho135 := ite_f ho135 hc137
              refine OW.pure 12 [(0, .bool false)] (by kernel_rfl) ?_
              refine OW.nil rfl ?_
              obtain rfl := Option.some.inj ho135
              exact QW.meet (fun a ha => ⟨ha.agrees (by kernel_rfl), hst.keep [] rfl⟩)
          · have ho135 := ite_f ho135 hc136
            refine OW.pure 15 [(0, .bool false)] (by kernel_rfl) ?_
            refine OW.nil rfl ?_
            obtain rfl := Option.some.inj ho135
            exact QW.meet (fun a ha => ⟨ha.agrees (by kernel_rfl), hst.keep [] rfl⟩)
        · rintro a w1 ⟨ha, hst⟩
          refine CW.go ?_ ha
          refine CW.ret ?_
          obtain rfl := Option.some.inj hF
          refine QW.ret1 rfl rfl ?_
          exact ⟨rfl, hst.keep [] rfl⟩
  · have hF := ocase_none hF he59
    refine ⟨_, rfl, ?_⟩
    have hst := hst.join (idx := []) (rest := []) rfl hst35
    refine OW.pure 5 [(1, .pointer none), (2, .int .i64 r32.2)] (by kernel_rfl) ?_
    refine OW.nil rfl ?_
    refine QW.next ?_
    refine CW.seq ?_
    refine CW.seq ?_
    refine CW.region ?_
    refine OW.pure 12 [(22, .bool true)] (by kernel_rfl) ?_
    refine OW.nil rfl ?_
    refine QW.next ?_
    refine CW.cond_t rfl rfl ?_
    refine CW.seq ?_
    refine CW.region ?_
    refine OW.pure 1 [(0, .bool false)] (by kernel_rfl) ?_
    refine OW.nil rfl ?_
    refine QW.next ?_
    refine CW.ret ?_
    refine QW.then_ret ?_
    obtain rfl := Option.some.inj hF
    refine QW.ret1 rfl rfl ?_
    exact ⟨rfl, hst.keep [] rfl⟩

set_option maxRecDepth 10000 in
theorem tappetref21_Kern_Turn_ok (w : World) (b0 : Nat) (v0_0 : Value) (v0_1 : Value) (p0 : tappetref21_Kern) (p1 : Int) (v2 : Value) (p2 : List Int) (r : Int × tappetref21_Kern) (hF : tappetref21_Kern_Turn p0 p1 p2 = some r)
    (hst : St w (fp [blkI b0 43 [v0_0, v0_1], rowI v0_0 3 (encI .i64) 1 p0.Mode, rowI v0_1 3 (encI .i64) 1 p0.Picks]) w [blkI b0 43 [v0_0, v0_1], rowI v0_0 3 (encI .i64) 1 p0.Mode, rowI v0_1 3 (encI .i64) 1 p0.Picks]) (h2 : Rd w (fp [blkI b0 43 [v0_0, v0_1], rowI v0_0 3 (encI .i64) 1 p0.Mode, rowI v0_1 3 (encI .i64) 1 p0.Picks]) v2 (encI .i64) 1 p2) :
    Calls Try.prog 18 [.pointer (some ⟨b0, 0, none⟩), .int .i64 p1, v2].toArray w (fun e w' => ∃ (u0_0 : Value) (u0_1 : Value), e = .returned (.int .i64 r.1) ∧ St w (fp [blkI b0 43 [v0_0, v0_1], rowI v0_0 3 (encI .i64) 1 p0.Mode, rowI v0_1 3 (encI .i64) 1 p0.Picks]) w' [blkI b0 43 [u0_0, u0_1], rowI u0_0 3 (encI .i64) 1 r.2.Mode, rowI u0_1 3 (encI .i64) 1 r.2.Picks]) := by
  refine CW.start (N := 66) Try.func18 rfl rfl rfl ?_
  obtain ⟨l1, a2, c3, rfl⟩ := h2.len
  obtain ⟨l4, a5, c6, rfl⟩ := hst.len 1 rfl
  obtain ⟨l7, a8, c9, rfl⟩ := hst.len 2 rfl
  refine CW.seq ?_
  refine CW.region ?_
  refine OW.pure 1 [] (by kernel_rfl) ?_
  refine OW.nil rfl ?_
  refine QW.next ?_
  refine CW.seq ?_
  refine CW.seq ?_
  refine CW.region ?_
  refine OW.pure 1 [(7, .int .i64 0)] (by kernel_rfl) ?_
  refine OW.nil rfl ?_
  refine QW.next ?_
  obtain ⟨o130, ho131, hF⟩ := bind_some' hF
  refine CW.cutK (fun a w1 => ∃ (t132 : Unit), o130 = .inl t132 ∧ Rep 66 [(0, .pointer (some ⟨b0, 0, none⟩)), (1, .int .i64 p1), (2, .slice a2 (p2).length c3)] a ∧ St w (fp [blkI b0 43 [.slice a5 (p0.Mode).length c6, .slice a8 (p0.Picks).length c9], rowI (.slice a5 (p0.Mode).length c6) 3 (encI .i64) 1 p0.Mode, rowI (.slice a8 (p0.Picks).length c9) 3 (encI .i64) 1 p0.Picks]) w1 [blkI b0 43 [.slice a5 (p0.Mode).length c6, .slice a8 (p0.Picks).length c9], rowI (.slice a5 (p0.Mode).length c6) 3 (encI .i64) 1 p0.Mode, rowI (.slice a8 (p0.Picks).length c9) 3 (encI .i64) 1 p0.Picks]) ?_ ?_
  · refine CW.block ?_
    refine CW.loop (fun n a w1 => ∃ (i213 : Nat) (s212 : Unit), i213 + n = (p2).length ∧ Rep 66 [(0, .pointer (some ⟨b0, 0, none⟩)), (1, .int .i64 p1), (2, .slice a2 (p2).length c3), (7, .int .i64 (i213 : Int))] a ∧ St w (fp [blkI b0 43 [.slice a5 (p0.Mode).length c6, .slice a8 (p0.Picks).length c9], rowI (.slice a5 (p0.Mode).length c6) 3 (encI .i64) 1 p0.Mode, rowI (.slice a8 (p0.Picks).length c9) 3 (encI .i64) 1 p0.Picks]) w1 [blkI b0 43 [.slice a5 (p0.Mode).length c6, .slice a8 (p0.Picks).length c9], rowI (.slice a5 (p0.Mode).length c6) 3 (encI .i64) 1 p0.Mode, rowI (.slice a8 (p0.Picks).length c9) 3 (encI .i64) 1 p0.Picks] ∧ forN (tappetref21_Kern_Turn_l1 p0 p2) (fun (s212 : Unit) => (.inl ())) n i213 s212 = some o130) ((p2).length) (fun a ha => ⟨0, (), Nat.zero_add _, ha.agrees (by kernel_rfl), hst.keep [0, 1, 2] rfl, ho131⟩) ?_
    rintro n210 a w1 ⟨i213, s212, hi214, ha, hst, hl211⟩
    refine CW.go ?_ ha
    refine CW.seq ?_
    refine CW.seq ?_
    refine CW.region ?_
    refine OW.pure 4 [(13, .bool (decide ((i213 : Int) < (((p2).length) : Int))))] (by kernel_rfl) ?_
    refine OW.nil rfl ?_
    refine QW.next ?_
    rcases Bool.eq_false_or_eq_true (decide ((i213 : Int) < (((p2).length) : Int))) with hc215 | hc215
    · rcases n210 with _ | n210
      · exact (cnt0 hi214 hc215).elim
      refine CW.cond_t rfl hc215 ?_
      refine CW.skip ?_
      refine QW.next ?_
      refine CW.seq ?_
      refine CW.block ?_
      refine CW.seq ?_
      obtain ⟨o237, ho238, hl211⟩ := bind_some' hl211
      refine CW.cutK (fun a w1 => Rep 66 [(0, .pointer (some ⟨b0, 0, none⟩)), (1, .int .i64 p1), (2, .slice a2 (p2).length c3), (7, .int .i64 (i213 : Int)), (32, .bool o237)] a ∧ St w (fp [blkI b0 43 [.slice a5 (p0.Mode).length c6, .slice a8 (p0.Picks).length c9], rowI (.slice a5 (p0.Mode).length c6) 3 (encI .i64) 1 p0.Mode, rowI (.slice a8 (p0.Picks).length c9) 3 (encI .i64) 1 p0.Picks]) w1 [blkI b0 43 [.slice a5 (p0.Mode).length c6, .slice a8 (p0.Picks).length c9], rowI (.slice a5 (p0.Mode).length c6) 3 (encI .i64) 1 p0.Mode, rowI (.slice a8 (p0.Picks).length c9) 3 (encI .i64) 1 p0.Picks]) ?_ ?_
      · refine CW.still (by kernel_rfl) (by kernel_rfl) ?_
        intro w239 hch240
        have hst := hst.same hch240
        refine OS.pure 2 [(16, .slice a2 (p2).length c3), (17, .int .i64 (i213 : Int))] rfl (by kernel_rfl) ?_
        obtain ⟨x241, hx242, ho238⟩ := bind_some' ho238
        obtain ⟨g244, o245, c246, hv243⟩ := h2.formv (fun _ => ⟨_, rfl⟩) hx242
        refine OS.idx 3 1 rfl rfl rfl rfl rfl hv243 rfl (idx_some hx242).1 (idx_some hx242).2.1 (by kernel_rfl) (by kernel_rfl) ?_
        refine OS.ld rfl rfl rfl rfl rfl (by kernel_rfl) (h2.cellv hst hx242 hv243 0 _ rfl) ?_
        refine OS.pure 2 [(21, .bool (decide (x241 < 0)))] rfl (by kernel_rfl) ?_
        refine OS.split 21 rfl (fun hc247 => ?_) (fun hc247 => ?_)
        · have ho238 := ite_t ho238 hc247
          refine OS.pure 11 [(32, .bool true)] rfl (by kernel_rfl) ?_
          refine OS.fin rfl ?_
          obtain rfl := Option.some.inj ho238
          exact QW.meet (fun a ha => ⟨ha.agrees (by kernel_rfl), hst.keep [0, 1, 2] rfl⟩)
        · have ho238 := ite_f ho238 hc247
          refine OS.pure 2 [(22, .slice a2 (p2).length c3), (23, .int .i64 (i213 : Int))] rfl (by kernel_rfl) ?_
          obtain ⟨g249, o250, c251, hv248⟩ := h2.formv (fun _ => ⟨_, rfl⟩) hx242
          refine OS.idx 3 1 rfl rfl rfl rfl rfl hv248 rfl (idx_some hx242).1 (idx_some hx242).2.1 (by kernel_rfl) (by kernel_rfl) ?_
          refine OS.ld rfl rfl rfl rfl rfl (by kernel_rfl) (h2.cellv hst hx242 hv248 0 _ rfl) ?_
          refine OS.pure 3 [(28, .pointer (some ⟨b0, 0, none⟩))] rfl (by kernel_rfl) ?_
          refine OS.ld rfl rfl rfl rfl rfl (by kernel_rfl) (hst.blk 0 rfl rfl) ?_
          refine OS.pure 3 [(32, .bool (decide (x241 ≥ (((p0.Mode).length) : Int))))] rfl (by kernel_rfl) ?_
          refine OS.fin rfl ?_
          obtain rfl := Option.some.inj ho238
          exact QW.meet (fun a ha => ⟨ha.agrees (by kernel_rfl), hst.keep [0, 1, 2] rfl⟩)
      · rintro a w1 ⟨ha, hst⟩
        refine CW.go ?_ ha
        rcases Bool.eq_false_or_eq_true (o237) with hc252 | hc252
        · have hl211 := ite_t hl211 hc252
          refine CW.cond_t rfl hc252 ?_
          refine CW.seq ?_
          refine CW.region ?_
          refine OW.pure 1 [(6, .int .i64 2)] (by kernel_rfl) ?_
          refine OW.nil rfl ?_
          refine QW.next ?_
          refine CW.ret ?_
          refine QW.block_ret ?_
          refine QW.then_ret ?_
          refine QW.then_ret ?_
          refine QW.block_ret ?_
          refine QW.then_ret ?_
          obtain rfl := Option.some.inj hl211
          obtain rfl := Option.some.inj hF
          refine QW.ret1 rfl rfl ?_
          exact ⟨(.slice a5 (p0.Mode).length c6), (.slice a8 (p0.Picks).length c9), rfl, hst.keep [0, 1, 2] rfl⟩
        · have hl211 := ite_f hl211 hc252
          refine CW.cond_f rfl hc252 ?_
          refine CW.skip ?_
          refine QW.block_normal ?_
          refine QW.next ?_
          refine CW.region ?_
          refine OW.pure 3 [(7, .int .i64 (w64 ((i213 : Int) + 1)))] (by kernel_rfl) ?_
          refine OW.nil rfl ?_
          refine QW.say 7 rfl (congrArg (Value.int .i64) (w64_cnt hc215 l1)) ?_
          exact QW.meet (fun a ha => ⟨n210, Nat.lt_succ_self _, i213 + 1, (), cnt_next hi214, ha.agrees (by kernel_rfl), hst.keep [0, 1, 2] rfl, hl211⟩)
    · rcases n210 with _ | n210
      · refine CW.cond_f rfl hc215 ?_
        refine CW.exit ?_
        refine QW.then_exit ?_
        refine QW.then_exit ?_
        refine QW.block_here ?_
        obtain rfl := Option.some.inj hl211
        exact QW.meet (fun a ha => ⟨(), rfl, ha.agrees (by kernel_rfl), hst.keep [0, 1, 2] rfl⟩)
      · exact (cnt1 hi214 hc215).elim
  · rintro a w1 ⟨t132, rfl, ha, hst⟩
    refine CW.go ?_ ha
    refine CW.seq ?_
    refine CW.seq ?_
    refine CW.region ?_
    refine OW.pure 1 [(8, .int .i64 0)] (by kernel_rfl) ?_
    refine OW.nil rfl ?_
    refine QW.next ?_
    obtain ⟨o343, ho344, hF⟩ := bind_some' hF
    refine CW.cutK (fun a w1 => ∃ (t345 : Unit), o343 = .inl t345 ∧ Rep 66 [(0, .pointer (some ⟨b0, 0, none⟩)), (1, .int .i64 p1), (2, .slice a2 (p2).length c3)] a ∧ St w (fp [blkI b0 43 [.slice a5 (p0.Mode).length c6, .slice a8 (p0.Picks).length c9], rowI (.slice a5 (p0.Mode).length c6) 3 (encI .i64) 1 p0.Mode, rowI (.slice a8 (p0.Picks).length c9) 3 (encI .i64) 1 p0.Picks]) w1 [blkI b0 43 [.slice a5 (p0.Mode).length c6, .slice a8 (p0.Picks).length c9], rowI (.slice a5 (p0.Mode).length c6) 3 (encI .i64) 1 p0.Mode, rowI (.slice a8 (p0.Picks).length c9) 3 (encI .i64) 1 p0.Picks]) ?_ ?_
    · refine CW.block ?_
      refine CW.loop (fun n a w1 => ∃ (i406 : Nat) (s405 : Unit), i406 + n = (p2).length ∧ Rep 66 [(0, .pointer (some ⟨b0, 0, none⟩)), (1, .int .i64 p1), (2, .slice a2 (p2).length c3), (8, .int .i64 (i406 : Int))] a ∧ St w (fp [blkI b0 43 [.slice a5 (p0.Mode).length c6, .slice a8 (p0.Picks).length c9], rowI (.slice a5 (p0.Mode).length c6) 3 (encI .i64) 1 p0.Mode, rowI (.slice a8 (p0.Picks).length c9) 3 (encI .i64) 1 p0.Picks]) w1 [blkI b0 43 [.slice a5 (p0.Mode).length c6, .slice a8 (p0.Picks).length c9], rowI (.slice a5 (p0.Mode).length c6) 3 (encI .i64) 1 p0.Mode, rowI (.slice a8 (p0.Picks).length c9) 3 (encI .i64) 1 p0.Picks] ∧ forN (tappetref21_Kern_Turn_l2 p0 p2) (fun (s405 : Unit) => (.inl ())) n i406 s405 = some o343) ((p2).length) (fun a ha => ⟨0, (), Nat.zero_add _, ha.agrees (by kernel_rfl), hst.keep [0, 1, 2] rfl, ho344⟩) ?_
      rintro n403 a w1 ⟨i406, s405, hi407, ha, hst, hl404⟩
      refine CW.go ?_ ha
      refine CW.seq ?_
      refine CW.seq ?_
      refine CW.region ?_
      refine OW.pure 4 [(36, .bool (decide ((i406 : Int) < (((p2).length) : Int))))] (by kernel_rfl) ?_
      refine OW.nil rfl ?_
      refine QW.next ?_
      rcases Bool.eq_false_or_eq_true (decide ((i406 : Int) < (((p2).length) : Int))) with hc408 | hc408
      · rcases n403 with _ | n403
        · exact (cnt0 hi407 hc408).elim
        refine CW.cond_t rfl hc408 ?_
        refine CW.skip ?_
        refine QW.next ?_
        refine CW.seq ?_
        refine CW.block ?_
        refine CW.seq ?_
        refine CW.still (by kernel_rfl) (by kernel_rfl) ?_
        intro w422 hch423
        have hst := hst.same hch423
        refine OS.pure 3 [(41, .pointer (some ⟨b0, 0, none⟩))] rfl (by kernel_rfl) ?_
        refine OS.ld rfl rfl rfl rfl rfl (by kernel_rfl) (hst.blk 0 rfl rfl) ?_
        refine OS.pure 2 [(43, .slice a2 (p2).length c3), (44, .int .i64 (i406 : Int))] rfl (by kernel_rfl) ?_
        obtain ⟨x424, hx425, hl404⟩ := bind_some' hl404
        obtain ⟨g427, o428, c429, hv426⟩ := h2.formv (fun _ => ⟨_, rfl⟩) hx425
        refine OS.idx 3 1 rfl rfl rfl rfl rfl hv426 rfl (idx_some hx425).1 (idx_some hx425).2.1 (by kernel_rfl) (by kernel_rfl) ?_
        refine OS.ld rfl rfl rfl rfl rfl (by kernel_rfl) (h2.cellv hst hx425 hv426 0 _ rfl) ?_
        obtain ⟨x430, hx431, hl404⟩ := bind_some' hl404
        obtain ⟨g433, c434, hv432⟩ := hst.rowv 1 rfl hx431
        refine OS.idx 3 1 rfl rfl rfl rfl rfl hv432 rfl (idx_some hx431).1 (idx_some hx431).2.1 (by kernel_rfl) (by kernel_rfl) ?_
        refine OS.ld rfl rfl rfl rfl rfl (by kernel_rfl) (hst.rowc 1 rfl (fun _ => rfl) hx431 hv432 0 _ rfl) ?_
        refine OS.pure 1 [(49, .bool (x430 == 2))] rfl (by kernel_rfl) ?_
        refine OS.fin rfl ?_
        refine QW.next ?_
        rcases Bool.eq_false_or_eq_true ((x430 == 2)) with hc435 | hc435
        · have hl404 := ite_t hl404 hc435
          refine CW.cond_t rfl hc435 ?_
          refine CW.seq ?_
          refine CW.region ?_
          refine OW.pure 1 [(6, .int .i64 43)] (by kernel_rfl) ?_
          refine OW.nil rfl ?_
          refine QW.next ?_
          refine CW.ret ?_
          refine QW.block_ret ?_
          refine QW.then_ret ?_
          refine QW.then_ret ?_
          refine QW.block_ret ?_
          refine QW.then_ret ?_
          obtain rfl := Option.some.inj hl404
          obtain rfl := Option.some.inj hF
          refine QW.ret1 rfl rfl ?_
          exact ⟨(.slice a5 (p0.Mode).length c6), (.slice a8 (p0.Picks).length c9), rfl, hst.keep [0, 1, 2] rfl⟩
        · have hl404 := ite_f hl404 hc435
          refine CW.cond_f rfl hc435 ?_
          refine CW.skip ?_
          refine QW.block_normal ?_
          refine QW.next ?_
          refine CW.region ?_
          refine OW.pure 3 [(8, .int .i64 (w64 ((i406 : Int) + 1)))] (by kernel_rfl) ?_
          refine OW.nil rfl ?_
          refine QW.say 8 rfl (congrArg (Value.int .i64) (w64_cnt hc408 l1)) ?_
          exact QW.meet (fun a ha => ⟨n403, Nat.lt_succ_self _, i406 + 1, (), cnt_next hi407, ha.agrees (by kernel_rfl), hst.keep [0, 1, 2] rfl, hl404⟩)
      · rcases n403 with _ | n403
        · refine CW.cond_f rfl hc408 ?_
          refine CW.exit ?_
          refine QW.then_exit ?_
          refine QW.then_exit ?_
          refine QW.block_here ?_
          obtain rfl := Option.some.inj hl404
          exact QW.meet (fun a ha => ⟨(), rfl, ha.agrees (by kernel_rfl), hst.keep [0, 1, 2] rfl⟩)
        · exact (cnt1 hi407 hc408).elim
    · rintro a w1 ⟨t345, rfl, ha, hst⟩
      refine CW.go ?_ ha
      refine CW.seq ?_
      refine CW.seq ?_
      refine CW.region ?_
      refine OW.pure 1 [(9, .int .i64 0)] (by kernel_rfl) ?_
      refine OW.nil rfl ?_
      refine QW.next ?_
      obtain ⟨o544, ho545, hF⟩ := bind_some' hF
      refine CW.cutK (fun a w1 => ∃ (v543 : Value), Rep 66 [] a ∧ St w (fp [blkI b0 43 [.slice a5 (p0.Mode).length c6, .slice a8 (p0.Picks).length c9], rowI (.slice a5 (p0.Mode).length c6) 3 (encI .i64) 1 p0.Mode, rowI (.slice a8 (p0.Picks).length c9) 3 (encI .i64) 1 p0.Picks]) w1 [blkI b0 43 [v543, .slice a8 (p0.Picks).length c9], rowI v543 3 (encI .i64) 1 o544, rowI (.slice a8 (p0.Picks).length c9) 3 (encI .i64) 1 p0.Picks]) ?_ ?_
      · refine CW.block ?_
        refine CW.loop (fun n a w1 => ∃ (i619 : Nat) (s617 : (List Int)) (v618 : Value), i619 + n = (p2).length ∧ Rep 66 [(0, .pointer (some ⟨b0, 0, none⟩)), (1, .int .i64 p1), (2, .slice a2 (p2).length c3), (9, .int .i64 (i619 : Int))] a ∧ St w (fp [blkI b0 43 [.slice a5 (p0.Mode).length c6, .slice a8 (p0.Picks).length c9], rowI (.slice a5 (p0.Mode).length c6) 3 (encI .i64) 1 p0.Mode, rowI (.slice a8 (p0.Picks).length c9) 3 (encI .i64) 1 p0.Picks]) w1 [blkI b0 43 [v618, .slice a8 (p0.Picks).length c9], rowI v618 3 (encI .i64) 1 s617, rowI (.slice a8 (p0.Picks).length c9) 3 (encI .i64) 1 p0.Picks] ∧ forN (tappetref21_Kern_Turn_l3 p1 p2) (fun (s617 : (List Int)) => s617) n i619 s617 = some o544) ((p2).length) (fun a ha => ⟨0, p0.Mode, (.slice a5 (p0.Mode).length c6), Nat.zero_add _, ha.agrees (by kernel_rfl), hst.keep [0, 1, 2] rfl, ho545⟩) ?_
        rintro n615 a w1 ⟨i619, s617, v618, hi620, ha, hst, hl616⟩
        refine CW.go ?_ ha
        obtain ⟨l621, a622, c623, rfl⟩ := hst.len 1 rfl
        refine CW.seq ?_
        refine CW.seq ?_
        refine CW.region ?_
        refine OW.pure 4 [(53, .bool (decide ((i619 : Int) < (((p2).length) : Int))))] (by kernel_rfl) ?_
        refine OW.nil rfl ?_
        refine QW.next ?_
        rcases Bool.eq_false_or_eq_true (decide ((i619 : Int) < (((p2).length) : Int))) with hc624 | hc624
        · rcases n615 with _ | n615
          · exact (cnt0 hi620 hc624).elim
          refine CW.cond_t rfl hc624 ?_
          refine CW.skip ?_
          refine QW.next ?_
          refine CW.seq ?_
          refine CW.block ?_
          refine CW.tail 10 (by kernel_rfl) (by kernel_rfl) ?_
          intro w639 hch640
          have hst := hst.same hch640
          refine OS.pure 3 [(58, .pointer (some ⟨b0, 0, none⟩))] rfl (by kernel_rfl) ?_
          refine OS.ld rfl rfl rfl rfl rfl (by kernel_rfl) (hst.blk 0 rfl rfl) ?_
          refine OS.pure 2 [(60, .slice a2 (p2).length c3), (61, .int .i64 (i619 : Int))] rfl (by kernel_rfl) ?_
          obtain ⟨x641, hx642, hl616⟩ := bind_some' hl616
          obtain ⟨g644, o645, c646, hv643⟩ := h2.formv (fun _ => ⟨_, rfl⟩) hx642
          refine OS.idx 3 1 rfl rfl rfl rfl rfl hv643 rfl (idx_some hx642).1 (idx_some hx642).2.1 (by kernel_rfl) (by kernel_rfl) ?_
          refine OS.ld rfl rfl rfl rfl rfl (by kernel_rfl) (h2.cellv hst hx642 hv643 0 _ rfl) ?_
          refine OS.pure 1 [(64, .int .i64 p1)] rfl (by kernel_rfl) ?_
          obtain ⟨x647, hx648, hl616⟩ := bind_some' hl616
          obtain ⟨g650, c651, hv649⟩ := hst.rowv 1 rfl hx648
          refine OS.idx 3 1 rfl rfl rfl rfl rfl hv649 rfl (idx_some hx648).1 (idx_some hx648).2.1 (by kernel_rfl) (by kernel_rfl) ?_
          refine OS.on ?_
          refine OW.stR hst 1 rfl hv649 (fun _ => rfl) rfl rfl hx648 0 rfl rfl rfl (by kernel_rfl) rfl rfl p1 rfl ?_
          intro w652 hst
          refine OW.nil rfl ?_
          refine QW.block_normal ?_
          refine QW.next ?_
          refine CW.region ?_
          refine OW.pure 3 [(9, .int .i64 (w64 ((i619 : Int) + 1)))] (by kernel_rfl) ?_
          refine OW.nil rfl ?_
          refine QW.say 9 rfl (congrArg (Value.int .i64) (w64_cnt hc624 l1)) ?_
          exact QW.meet (fun a ha => ⟨n615, Nat.lt_succ_self _, i619 + 1, (s617.set (Int.toNat x641) p1), (.slice a622 (s617).length c623), cnt_next hi620, ha.agrees (by kernel_rfl), hst.keep [0, 1, 2] rfl, hl616⟩)
        · rcases n615 with _ | n615
          · refine CW.cond_f rfl hc624 ?_
            refine CW.exit ?_
            refine QW.then_exit ?_
            refine QW.then_exit ?_
            refine QW.block_here ?_
            obtain rfl := Option.some.inj hl616
            exact QW.meet (fun a ha => ⟨(.slice a622 (s617).length c623), ha.agrees (by kernel_rfl), hst.keep [0, 1, 2] rfl⟩)
          · exact (cnt1 hi620 hc624).elim
      · rintro a w1 ⟨v543, ha, hst⟩
        refine CW.go ?_ ha
        obtain ⟨l656, a657, c658, rfl⟩ := hst.len 1 rfl
        refine CW.seq ?_
        refine CW.region ?_
        refine OW.pure 1 [(6, .int .i64 0)] (by kernel_rfl) ?_
        refine OW.nil rfl ?_
        refine QW.next ?_
        refine CW.ret ?_
        obtain rfl := Option.some.inj hF
        refine QW.ret1 rfl rfl ?_
        exact ⟨(.slice a657 (o544).length c658), (.slice a8 (p0.Picks).length c9), rfl, hst.keep [0, 1, 2] rfl⟩

set_option maxRecDepth 10000 in
theorem kern_Kern_Sleep_ok (w : World) (b0 : Nat) (v0_0 : Value) (p0 : kern_Kern) (v1 : Value) (p1 : List Int) (r : Int × kern_Kern) (hF : kern_Kern_Sleep p0 p1 = some r)
    (hst : St w (fp [blkI b0 51 [v0_0, .int .i64 p0.turns], rowI v0_0 55 enc_kern_task 2 p0.tasks]) w [blkI b0 51 [v0_0, .int .i64 p0.turns], rowI v0_0 55 enc_kern_task 2 p0.tasks]) (h1 : Rd w (fp [blkI b0 51 [v0_0, .int .i64 p0.turns], rowI v0_0 55 enc_kern_task 2 p0.tasks]) v1 (encI .i64) 1 p1) :
    Calls Try.prog 10 [.pointer (some ⟨b0, 0, none⟩), v1].toArray w (fun e w' => ∃ (u0_0 : Value), e = .returned (.int .i64 r.1) ∧ St w (fp [blkI b0 51 [v0_0, .int .i64 p0.turns], rowI v0_0 55 enc_kern_task 2 p0.tasks]) w' [blkI b0 51 [u0_0, .int .i64 r.2.turns], rowI u0_0 55 enc_kern_task 2 r.2.tasks]) := by
  refine CW.start (N := 8) Try.func10 rfl rfl rfl ?_
  obtain ⟨l1, a2, c3, rfl⟩ := h1.len
  obtain ⟨l4, a5, c6, rfl⟩ := hst.len 1 rfl
  refine CW.seq ?_
  refine CW.region ?_
  refine OW.pure 1 [] (by kernel_rfl) ?_
  refine OW.nil rfl ?_
  refine QW.next ?_
  refine CW.seq ?_
  refine CW.region ?_
  refine OW.pure 2 [(5, .pointer (some ⟨b0, 0, none⟩)), (6, .slice a2 (p1).length c3)] (by kernel_rfl) ?_
  obtain ⟨r15, hr16, hF⟩ := bind_some' hF
  refine OW.fn rfl rfl rfl rfl (by kernel_rfl) (kern_Kern_turn_ok _ b0 (.slice a5 (p0.tasks).length c6) p0 0 (.slice a2 (p1).length c3) p1 r15 hr16 (hst.part [0, 1] rfl) (h1.give hst [0, 1])) ?_
  rintro e w17 ⟨u19, rfl, hst18⟩
  refine ⟨_, rfl, ?_⟩
  have hst := hst.join (idx := [0, 1]) (rest := []) rfl hst18
  obtain ⟨l20, a21, c22, rfl⟩ := hst.len 1 rfl
  refine OW.pure 1 [(4, .int .i64 r15.1)] (by kernel_rfl) ?_
  refine OW.nil rfl ?_
  refine QW.next ?_
  refine CW.ret ?_
  obtain rfl := Option.some.inj hF
  refine QW.ret1 rfl rfl ?_
  exact ⟨(.slice a21 (r15.2.tasks).length c22), rfl, hst.keep [0, 1] rfl⟩

set_option maxRecDepth 10000 in
theorem kern_Kern_End_ok (w : World) (b0 : Nat) (v0_0 : Value) (p0 : kern_Kern) (v1 : Value) (p1 : List Int) (r : Int × kern_Kern) (hF : kern_Kern_End p0 p1 = some r)
    (hst : St w (fp [blkI b0 51 [v0_0, .int .i64 p0.turns], rowI v0_0 55 enc_kern_task 2 p0.tasks]) w [blkI b0 51 [v0_0, .int .i64 p0.turns], rowI v0_0 55 enc_kern_task 2 p0.tasks]) (h1 : Rd w (fp [blkI b0 51 [v0_0, .int .i64 p0.turns], rowI v0_0 55 enc_kern_task 2 p0.tasks]) v1 (encI .i64) 1 p1) :
    Calls Try.prog 11 [.pointer (some ⟨b0, 0, none⟩), v1].toArray w (fun e w' => ∃ (u0_0 : Value), e = .returned (.int .i64 r.1) ∧ St w (fp [blkI b0 51 [v0_0, .int .i64 p0.turns], rowI v0_0 55 enc_kern_task 2 p0.tasks]) w' [blkI b0 51 [u0_0, .int .i64 r.2.turns], rowI u0_0 55 enc_kern_task 2 r.2.tasks]) := by
  refine CW.start (N := 8) Try.func11 rfl rfl rfl ?_
  obtain ⟨l1, a2, c3, rfl⟩ := h1.len
  obtain ⟨l4, a5, c6, rfl⟩ := hst.len 1 rfl
  refine CW.seq ?_
  refine CW.region ?_
  refine OW.pure 1 [] (by kernel_rfl) ?_
  refine OW.nil rfl ?_
  refine QW.next ?_
  refine CW.seq ?_
  refine CW.region ?_
  refine OW.pure 2 [(5, .pointer (some ⟨b0, 0, none⟩)), (6, .slice a2 (p1).length c3)] (by kernel_rfl) ?_
  obtain ⟨r15, hr16, hF⟩ := bind_some' hF
  refine OW.fn rfl rfl rfl rfl (by kernel_rfl) (kern_Kern_turn_ok _ b0 (.slice a5 (p0.tasks).length c6) p0 2 (.slice a2 (p1).length c3) p1 r15 hr16 (hst.part [0, 1] rfl) (h1.give hst [0, 1])) ?_
  rintro e w17 ⟨u19, rfl, hst18⟩
  refine ⟨_, rfl, ?_⟩
  have hst := hst.join (idx := [0, 1]) (rest := []) rfl hst18
  obtain ⟨l20, a21, c22, rfl⟩ := hst.len 1 rfl
  refine OW.pure 1 [(4, .int .i64 r15.1)] (by kernel_rfl) ?_
  refine OW.nil rfl ?_
  refine QW.next ?_
  refine CW.ret ?_
  obtain rfl := Option.some.inj hF
  refine QW.ret1 rfl rfl ?_
  exact ⟨(.slice a21 (r15.2.tasks).length c22), rfl, hst.keep [0, 1] rfl⟩

set_option maxRecDepth 10000 in
theorem kern_Kern_Set_ok (w : World) (b0 : Nat) (v0_0 : Value) (p0 : kern_Kern) (v1 : Value) (p1 : List Bool) (r : Int × kern_Kern) (hF : kern_Kern_Set p0 p1 = some r)
    (hst : St w (fp [blkI b0 51 [v0_0, .int .i64 p0.turns], rowI v0_0 55 enc_kern_task 2 p0.tasks]) w [blkI b0 51 [v0_0, .int .i64 p0.turns], rowI v0_0 55 enc_kern_task 2 p0.tasks]) (h1 : Rd w (fp [blkI b0 51 [v0_0, .int .i64 p0.turns], rowI v0_0 55 enc_kern_task 2 p0.tasks]) v1 encB 1 p1) :
    Calls Try.prog 16 [.pointer (some ⟨b0, 0, none⟩), v1].toArray w (fun e w' => ∃ (u0_0 : Value), e = .returned (.int .i64 r.1) ∧ St w (fp [blkI b0 51 [v0_0, .int .i64 p0.turns], rowI v0_0 55 enc_kern_task 2 p0.tasks]) w' [blkI b0 51 [u0_0, .int .i64 r.2.turns], rowI u0_0 55 enc_kern_task 2 r.2.tasks]) := by
  refine CW.start (N := 49) Try.func16 rfl rfl rfl ?_
  obtain ⟨l1, a2, c3, rfl⟩ := h1.len
  obtain ⟨l4, a5, c6, rfl⟩ := hst.len 1 rfl
  refine CW.seq ?_
  refine CW.region ?_
  refine OW.pure 1 [] (by kernel_rfl) ?_
  refine OW.nil rfl ?_
  refine QW.next ?_
  refine CW.seq ?_
  refine CW.seq ?_
  refine CW.region ?_
  refine OW.pure 5 [(8, .int .i64 (((p1).length) : Int)), (11, .pointer (some ⟨b0, 0, none⟩))] (by kernel_rfl) ?_
  refine OW.ld rfl rfl rfl rfl (by kernel_rfl) (hst.blk 0 rfl rfl) ?_
  refine OW.pure 2 [(14, .bool ((((p1).length) : Int) != (((p0.tasks).length) : Int)))] (by kernel_rfl) ?_
  refine OW.nil rfl ?_
  refine QW.next ?_
  rcases Bool.eq_false_or_eq_true (((((p1).length) : Int) != (((p0.tasks).length) : Int))) with hc7 | hc7
  · have hF := ite_t hF hc7
    refine CW.cond_t rfl hc7 ?_
    refine CW.seq ?_
    refine CW.region ?_
    refine OW.pure 1 [(4, .int .i64 2)] (by kernel_rfl) ?_
    refine OW.nil rfl ?_
    refine QW.next ?_
    refine CW.ret ?_
    refine QW.then_ret ?_
    obtain rfl := Option.some.inj hF
    refine QW.ret1 rfl rfl ?_
    exact ⟨(.slice a5 (p0.tasks).length c6), rfl, hst.keep [0, 1] rfl⟩
  · have hF := ite_f hF hc7
    refine CW.cond_f rfl hc7 ?_
    refine CW.skip ?_
    refine QW.next ?_
    refine CW.seq ?_
    refine CW.seq ?_
    refine CW.region ?_
    refine OW.pure 3 [(15, .slice a2 (p1).length c3), (16, .int .i64 (((p1).length) : Int)), (17, .int .i64 0)] (by kernel_rfl) ?_
    refine OW.nil rfl ?_
    refine QW.next ?_
    obtain ⟨o154, ho155, hF⟩ := bind_some' hF
    refine CW.cutK (fun a w1 => ∃ (v153 : Value), Rep 49 [] a ∧ St w (fp [blkI b0 51 [.slice a5 (p0.tasks).length c6, .int .i64 p0.turns], rowI (.slice a5 (p0.tasks).length c6) 55 enc_kern_task 2 p0.tasks]) w1 [blkI b0 51 [v153, .int .i64 p0.turns], rowI v153 55 enc_kern_task 2 o154]) ?_ ?_
    · refine CW.block ?_
      refine CW.loop (fun n a w1 => ∃ (i253 : Nat) (s251 : (List kern_task)) (v252 : Value), i253 + n = (p1).length ∧ Rep 49 [(0, .pointer (some ⟨b0, 0, none⟩)), (15, .slice a2 (p1).length c3), (16, .int .i64 (((p1).length) : Int)), (17, .int .i64 (i253 : Int))] a ∧ St w (fp [blkI b0 51 [.slice a5 (p0.tasks).length c6, .int .i64 p0.turns], rowI (.slice a5 (p0.tasks).length c6) 55 enc_kern_task 2 p0.tasks]) w1 [blkI b0 51 [v252, .int .i64 p0.turns], rowI v252 55 enc_kern_task 2 s251] ∧ forN (kern_Kern_Set_l1 p1) (fun (s251 : (List kern_task)) => s251) n i253 s251 = some o154) ((p1).length) (fun a ha => ⟨0, p0.tasks, (.slice a5 (p0.tasks).length c6), Nat.zero_add _, ha.agrees (by kernel_rfl), hst.keep [0, 1] rfl, ho155⟩) ?_
      rintro n249 a w1 ⟨i253, s251, v252, hi254, ha, hst, hl250⟩
      refine CW.go ?_ ha
      obtain ⟨l255, a256, c257, rfl⟩ := hst.len 1 rfl
      refine CW.seq ?_
      refine CW.region ?_
      refine OW.pure 1 [(18, .bool (decide ((i253 : Int) < (((p1).length) : Int))))] (by kernel_rfl) ?_
      refine OW.nil rfl ?_
      refine QW.next ?_
      refine CW.seq ?_
      rcases Bool.eq_false_or_eq_true (decide ((i253 : Int) < (((p1).length) : Int))) with hc258 | hc258
      · rcases n249 with _ | n249
        · exact (cnt0 hi254 hc258).elim
        refine CW.cond_t rfl hc258 ?_
        refine CW.skip ?_
        refine QW.next ?_
        refine CW.seq ?_
        refine CW.block ?_
        refine CW.seq ?_
        refine CW.region ?_
        refine OW.pure 1 [(19, .int .i64 (i253 : Int))] (by kernel_rfl) ?_
        obtain ⟨x265, hx266, hl250⟩ := bind_some' hl250
        obtain ⟨g268, o269, c270, hv267⟩ := h1.formv (fun _ => ⟨_, rfl⟩) hx266
        refine OW.idx 4 1 rfl rfl rfl rfl hv267 rfl (idx_some hx266).1 (idx_some hx266).2.1 (by kernel_rfl) (by kernel_rfl) ?_
        refine OW.ld rfl rfl rfl rfl (by kernel_rfl) (h1.cellv hst hx266 hv267 0 _ rfl) ?_
        refine OW.pure 2 [(5, .int .i64 (i253 : Int)), (6, .bool x265)] (by kernel_rfl) ?_
        refine OW.nil rfl ?_
        refine QW.next ?_
        refine CW.block ?_
        refine CW.seq ?_
        refine CW.region ?_
        refine OW.pure 3 [(32, .pointer (some ⟨b0, 0, none⟩))] (by kernel_rfl) ?_
        refine OW.ld rfl rfl rfl rfl (by kernel_rfl) (hst.blk 0 rfl rfl) ?_
        refine OW.pure 1 [(34, .int .i64 (i253 : Int))] (by kernel_rfl) ?_
        obtain ⟨x276, hx277, hl250⟩ := bind_some' hl250
        obtain ⟨g279, c280, hv278⟩ := hst.rowv 1 rfl hx277
        refine OW.idx 55 2 rfl rfl rfl rfl hv278 rfl (idx_some hx277).1 (idx_some hx277).2.1 (by kernel_rfl) (by kernel_rfl) ?_
        refine OW.pure 1 [(36, .pointer (some ⟨g279, 0 + Int.toNat (i253 : Int) * 2, none⟩))] (by kernel_rfl) ?_
        refine OW.ld rfl rfl rfl rfl (by kernel_rfl) (hst.rowc 1 rfl (fun _ => rfl) hx277 hv278 0 _ rfl) ?_
        refine OW.pure 2 [(29, .bool (x276.mode_ == 2))] (by kernel_rfl) ?_
        refine OW.nil rfl ?_
        refine QW.next ?_
        rcases Bool.eq_false_or_eq_true ((x276.mode_ == 2)) with hc281 | hc281
        · have hl250 := ite_t hl250 hc281
          refine CW.cond_t rfl hc281 ?_
          refine CW.skip ?_
          refine QW.block_normal ?_
          refine QW.block_normal ?_
          refine QW.next ?_
          refine CW.region ?_
          refine OW.pure 2 [(17, .int .i64 (w64 ((i253 : Int) + 1)))] (by kernel_rfl) ?_
          refine OW.nil rfl ?_
          refine QW.say 17 rfl (congrArg (Value.int .i64) (w64_cnt hc258 l1)) ?_
          exact QW.meet (fun a ha => ⟨n249, Nat.lt_succ_self _, i253 + 1, s251, (.slice a256 (s251).length c257), cnt_next hi254, ha.agrees (by kernel_rfl), hst.keep [0, 1] rfl, hl250⟩)
        · have hl250 := ite_f hl250 hc281
          refine CW.cond_f rfl hc281 ?_
          refine CW.seq ?_
          refine CW.region ?_
          refine OW.pure 2 [(39, .bool x265)] (by kernel_rfl) ?_
          refine OW.nil rfl ?_
          refine QW.next ?_
          rcases Bool.eq_false_or_eq_true (x265) with hc283 | hc283
          · have hl250 := ite_t hl250 hc283
            refine CW.cond_t rfl hc283 ?_
            refine CW.region ?_
            refine OW.pure 3 [(43, .pointer (some ⟨b0, 0, none⟩))] (by kernel_rfl) ?_
            refine OW.ld rfl rfl rfl rfl (by kernel_rfl) (hst.blk 0 rfl rfl) ?_
            refine OW.pure 1 [(45, .int .i64 (i253 : Int))] (by kernel_rfl) ?_
            obtain ⟨g289, c290, hv288⟩ := hst.rowv 1 rfl hx277
            refine OW.idx 55 2 rfl rfl rfl rfl hv288 rfl (idx_some hx277).1 (idx_some hx277).2.1 (by kernel_rfl) (by kernel_rfl) ?_
            refine OW.pure 1 [(47, .pointer (some ⟨g289, 0 + Int.toNat (i253 : Int) * 2, none⟩))] (by kernel_rfl) ?_
            refine OW.stR hst 1 rfl hv288 (fun _ => rfl) rfl rfl hx277 0 rfl rfl rfl (by kernel_rfl) rfl rfl (kern_task.mk 1 x276.picked) rfl ?_
            intro w291 hst
            refine OW.nil rfl ?_
            refine QW.block_normal ?_
            refine QW.block_normal ?_
            refine QW.next ?_
            refine CW.region ?_
            refine OW.pure 2 [(17, .int .i64 (w64 ((i253 : Int) + 1)))] (by kernel_rfl) ?_
            refine OW.nil rfl ?_
            refine QW.say 17 rfl (congrArg (Value.int .i64) (w64_cnt hc258 l1)) ?_
            exact QW.meet (fun a ha => ⟨n249, Nat.lt_succ_self _, i253 + 1, (s251.set (Int.toNat (i253 : Int)) (kern_task.mk 1 x276.picked)), (.slice a256 (s251).length c257), cnt_next hi254, ha.agrees (by kernel_rfl), hst.keep [0, 1] rfl, hl250⟩)
          · have hl250 := ite_f hl250 hc283
            refine CW.cond_f rfl hc283 ?_
            refine CW.region ?_
            refine OW.pure 3 [(24, .pointer (some ⟨b0, 0, none⟩))] (by kernel_rfl) ?_
            refine OW.ld rfl rfl rfl rfl (by kernel_rfl) (hst.blk 0 rfl rfl) ?_
            refine OW.pure 1 [(26, .int .i64 (i253 : Int))] (by kernel_rfl) ?_
            obtain ⟨g298, c299, hv297⟩ := hst.rowv 1 rfl hx277
            refine OW.idx 55 2 rfl rfl rfl rfl hv297 rfl (idx_some hx277).1 (idx_some hx277).2.1 (by kernel_rfl) (by kernel_rfl) ?_
            refine OW.pure 1 [(28, .pointer (some ⟨g298, 0 + Int.toNat (i253 : Int) * 2, none⟩))] (by kernel_rfl) ?_
            refine OW.stR hst 1 rfl hv297 (fun _ => rfl) rfl rfl hx277 0 rfl rfl rfl (by kernel_rfl) rfl rfl (kern_task.mk 0 x276.picked) rfl ?_
            intro w300 hst
            refine OW.nil rfl ?_
            refine QW.block_normal ?_
            refine QW.block_normal ?_
            refine QW.next ?_
            refine CW.region ?_
            refine OW.pure 2 [(17, .int .i64 (w64 ((i253 : Int) + 1)))] (by kernel_rfl) ?_
            refine OW.nil rfl ?_
            refine QW.say 17 rfl (congrArg (Value.int .i64) (w64_cnt hc258 l1)) ?_
            exact QW.meet (fun a ha => ⟨n249, Nat.lt_succ_self _, i253 + 1, (s251.set (Int.toNat (i253 : Int)) (kern_task.mk 0 x276.picked)), (.slice a256 (s251).length c257), cnt_next hi254, ha.agrees (by kernel_rfl), hst.keep [0, 1] rfl, hl250⟩)
      · rcases n249 with _ | n249
        · refine CW.cond_f rfl hc258 ?_
          refine CW.exit ?_
          refine QW.then_exit ?_
          refine QW.then_exit ?_
          refine QW.block_here ?_
          obtain rfl := Option.some.inj hl250
          exact QW.meet (fun a ha => ⟨(.slice a256 (s251).length c257), ha.agrees (by kernel_rfl), hst.keep [0, 1] rfl⟩)
        · exact (cnt1 hi254 hc258).elim
    · rintro a w1 ⟨v153, ha, hst⟩
      refine CW.go ?_ ha
      obtain ⟨l304, a305, c306, rfl⟩ := hst.len 1 rfl
      refine CW.seq ?_
      refine CW.region ?_
      refine OW.pure 1 [(4, .int .i64 0)] (by kernel_rfl) ?_
      refine OW.nil rfl ?_
      refine QW.next ?_
      refine CW.ret ?_
      obtain rfl := Option.some.inj hF
      refine QW.ret1 rfl rfl ?_
      exact ⟨(.slice a305 (o154).length c306), rfl, hst.keep [0, 1] rfl⟩

set_option maxRecDepth 10000 in
theorem tappetref21_Kern_Set_ok (w : World) (b0 : Nat) (v0_0 : Value) (v0_1 : Value) (p0 : tappetref21_Kern) (v1 : Value) (p1 : List Bool) (r : Int × tappetref21_Kern) (hF : tappetref21_Kern_Set p0 p1 = some r)
    (hst : St w (fp [blkI b0 43 [v0_0, v0_1], rowI v0_0 3 (encI .i64) 1 p0.Mode, rowI v0_1 3 (encI .i64) 1 p0.Picks]) w [blkI b0 43 [v0_0, v0_1], rowI v0_0 3 (encI .i64) 1 p0.Mode, rowI v0_1 3 (encI .i64) 1 p0.Picks]) (h1 : Rd w (fp [blkI b0 43 [v0_0, v0_1], rowI v0_0 3 (encI .i64) 1 p0.Mode, rowI v0_1 3 (encI .i64) 1 p0.Picks]) v1 encB 1 p1) :
    Calls Try.prog 19 [.pointer (some ⟨b0, 0, none⟩), v1].toArray w (fun e w' => ∃ (u0_0 : Value) (u0_1 : Value), e = .returned (.int .i64 r.1) ∧ St w (fp [blkI b0 43 [v0_0, v0_1], rowI v0_0 3 (encI .i64) 1 p0.Mode, rowI v0_1 3 (encI .i64) 1 p0.Picks]) w' [blkI b0 43 [u0_0, u0_1], rowI u0_0 3 (encI .i64) 1 r.2.Mode, rowI u0_1 3 (encI .i64) 1 r.2.Picks]) := by
  refine CW.start (N := 44) Try.func19 rfl rfl rfl ?_
  obtain ⟨l1, a2, c3, rfl⟩ := h1.len
  obtain ⟨l4, a5, c6, rfl⟩ := hst.len 1 rfl
  obtain ⟨l7, a8, c9, rfl⟩ := hst.len 2 rfl
  refine CW.seq ?_
  refine CW.region ?_
  refine OW.pure 1 [] (by kernel_rfl) ?_
  refine OW.nil rfl ?_
  refine QW.next ?_
  refine CW.seq ?_
  refine CW.seq ?_
  refine CW.region ?_
  refine OW.pure 5 [(7, .int .i64 (((p1).length) : Int)), (10, .pointer (some ⟨b0, 0, none⟩))] (by kernel_rfl) ?_
  refine OW.ld rfl rfl rfl rfl (by kernel_rfl) (hst.blk 0 rfl rfl) ?_
  refine OW.pure 2 [(13, .bool ((((p1).length) : Int) != (((p0.Mode).length) : Int)))] (by kernel_rfl) ?_
  refine OW.nil rfl ?_
  refine QW.next ?_
  rcases Bool.eq_false_or_eq_true (((((p1).length) : Int) != (((p0.Mode).length) : Int))) with hc10 | hc10
  · have hF := ite_t hF hc10
    refine CW.cond_t rfl hc10 ?_
    refine CW.seq ?_
    refine CW.region ?_
    refine OW.pure 1 [(4, .int .i64 2)] (by kernel_rfl) ?_
    refine OW.nil rfl ?_
    refine QW.next ?_
    refine CW.ret ?_
    refine QW.then_ret ?_
    obtain rfl := Option.some.inj hF
    refine QW.ret1 rfl rfl ?_
    exact ⟨(.slice a5 (p0.Mode).length c6), (.slice a8 (p0.Picks).length c9), rfl, hst.keep [0, 1, 2] rfl⟩
  · have hF := ite_f hF hc10
    refine CW.cond_f rfl hc10 ?_
    refine CW.skip ?_
    refine QW.next ?_
    refine CW.seq ?_
    refine CW.seq ?_
    refine CW.region ?_
    refine OW.pure 1 [(5, .int .i64 0)] (by kernel_rfl) ?_
    refine OW.nil rfl ?_
    refine QW.next ?_
    obtain ⟨o169, ho170, hF⟩ := bind_some' hF
    refine CW.cutK (fun a w1 => ∃ (v168 : Value), Rep 44 [] a ∧ St w (fp [blkI b0 43 [.slice a5 (p0.Mode).length c6, .slice a8 (p0.Picks).length c9], rowI (.slice a5 (p0.Mode).length c6) 3 (encI .i64) 1 p0.Mode, rowI (.slice a8 (p0.Picks).length c9) 3 (encI .i64) 1 p0.Picks]) w1 [blkI b0 43 [v168, .slice a8 (p0.Picks).length c9], rowI v168 3 (encI .i64) 1 o169, rowI (.slice a8 (p0.Picks).length c9) 3 (encI .i64) 1 p0.Picks]) ?_ ?_
    · refine CW.block ?_
      refine CW.loop (fun n a w1 => ∃ (i276 : Nat) (s274 : (List Int)) (v275 : Value), i276 + n = (p1).length ∧ Rep 44 [(0, .pointer (some ⟨b0, 0, none⟩)), (1, .slice a2 (p1).length c3), (5, .int .i64 (i276 : Int))] a ∧ St w (fp [blkI b0 43 [.slice a5 (p0.Mode).length c6, .slice a8 (p0.Picks).length c9], rowI (.slice a5 (p0.Mode).length c6) 3 (encI .i64) 1 p0.Mode, rowI (.slice a8 (p0.Picks).length c9) 3 (encI .i64) 1 p0.Picks]) w1 [blkI b0 43 [v275, .slice a8 (p0.Picks).length c9], rowI v275 3 (encI .i64) 1 s274, rowI (.slice a8 (p0.Picks).length c9) 3 (encI .i64) 1 p0.Picks] ∧ forN (tappetref21_Kern_Set_l1 p1) (fun (s274 : (List Int)) => s274) n i276 s274 = some o169) ((p1).length) (fun a ha => ⟨0, p0.Mode, (.slice a5 (p0.Mode).length c6), Nat.zero_add _, ha.agrees (by kernel_rfl), hst.keep [0, 1, 2] rfl, ho170⟩) ?_
      rintro n272 a w1 ⟨i276, s274, v275, hi277, ha, hst, hl273⟩
      refine CW.go ?_ ha
      obtain ⟨l278, a279, c280, rfl⟩ := hst.len 1 rfl
      refine CW.seq ?_
      refine CW.seq ?_
      refine CW.region ?_
      refine OW.pure 4 [(17, .bool (decide ((i276 : Int) < (((p1).length) : Int))))] (by kernel_rfl) ?_
      refine OW.nil rfl ?_
      refine QW.next ?_
      rcases Bool.eq_false_or_eq_true (decide ((i276 : Int) < (((p1).length) : Int))) with hc281 | hc281
      · rcases n272 with _ | n272
        · exact (cnt0 hi277 hc281).elim
        refine CW.cond_t rfl hc281 ?_
        refine CW.skip ?_
        refine QW.next ?_
        refine CW.seq ?_
        refine CW.block ?_
        refine CW.seq ?_
        refine CW.seq ?_
        refine CW.region ?_
        refine OW.pure 3 [(22, .pointer (some ⟨b0, 0, none⟩))] (by kernel_rfl) ?_
        refine OW.ld rfl rfl rfl rfl (by kernel_rfl) (hst.blk 0 rfl rfl) ?_
        refine OW.pure 1 [(24, .int .i64 (i276 : Int))] (by kernel_rfl) ?_
        obtain ⟨x287, hx288, hl273⟩ := bind_some' hl273
        obtain ⟨g290, c291, hv289⟩ := hst.rowv 1 rfl hx288
        refine OW.idx 3 1 rfl rfl rfl rfl hv289 rfl (idx_some hx288).1 (idx_some hx288).2.1 (by kernel_rfl) (by kernel_rfl) ?_
        refine OW.ld rfl rfl rfl rfl (by kernel_rfl) (hst.rowc 1 rfl (fun _ => rfl) hx288 hv289 0 _ rfl) ?_
        refine OW.pure 1 [(27, .bool (x287 == 2))] (by kernel_rfl) ?_
        refine OW.nil rfl ?_
        refine QW.next ?_
        rcases Bool.eq_false_or_eq_true ((x287 == 2)) with hc292 | hc292
        · have hl273 := ite_t hl273 hc292
          refine CW.cond_t rfl hc292 ?_
          refine CW.exit ?_
          refine QW.then_exit ?_
          refine QW.block_here ?_
          refine QW.next ?_
          refine CW.region ?_
          refine OW.pure 3 [(5, .int .i64 (w64 ((i276 : Int) + 1)))] (by kernel_rfl) ?_
          refine OW.nil rfl ?_
          refine QW.say 5 rfl (congrArg (Value.int .i64) (w64_cnt hc281 l1)) ?_
          exact QW.meet (fun a ha => ⟨n272, Nat.lt_succ_self _, i276 + 1, s274, (.slice a279 (s274).length c280), cnt_next hi277, ha.agrees (by kernel_rfl), hst.keep [0, 1, 2] rfl, hl273⟩)
        · have hl273 := ite_f hl273 hc292
          refine CW.cond_f rfl hc292 ?_
          refine CW.skip ?_
          refine QW.next ?_
          refine CW.seq ?_
          refine CW.region ?_
          refine OW.pure 3 [(30, .pointer (some ⟨b0, 0, none⟩))] (by kernel_rfl) ?_
          refine OW.ld rfl rfl rfl rfl (by kernel_rfl) (hst.blk 0 rfl rfl) ?_
          refine OW.pure 1 [(32, .int .i64 (i276 : Int))] (by kernel_rfl) ?_
          obtain ⟨g299, c300, hv298⟩ := hst.rowv 1 rfl hx288
          refine OW.idx 3 1 rfl rfl rfl rfl hv298 rfl (idx_some hx288).1 (idx_some hx288).2.1 (by kernel_rfl) (by kernel_rfl) ?_
          refine OW.stR hst 1 rfl hv298 (fun _ => rfl) rfl rfl hx288 0 rfl rfl rfl (by kernel_rfl) rfl rfl 0 rfl ?_
          intro w301 hst
          refine OW.nil rfl ?_
          refine QW.next ?_
          refine CW.seq ?_
          refine CW.region ?_
          refine OW.pure 2 [(34, .slice a2 (p1).length c3), (35, .int .i64 (i276 : Int))] (by kernel_rfl) ?_
          obtain ⟨x308, hx309, hl273⟩ := bind_some' hl273
          obtain ⟨g311, o312, c313, hv310⟩ := h1.formv (fun _ => ⟨_, rfl⟩) hx309
          refine OW.idx 4 1 rfl rfl rfl rfl hv310 rfl (idx_some hx309).1 (idx_some hx309).2.1 (by kernel_rfl) (by kernel_rfl) ?_
          refine OW.ld rfl rfl rfl rfl (by kernel_rfl) (h1.cellv hst hx309 hv310 0 _ rfl) ?_
          refine OW.nil rfl ?_
          refine QW.next ?_
          rcases Bool.eq_false_or_eq_true (x308) with hc314 | hc314
          · have hl273 := ite_t hl273 hc314
            refine CW.cond_t rfl hc314 ?_
            refine CW.region ?_
            refine OW.pure 3 [(40, .pointer (some ⟨b0, 0, none⟩))] (by kernel_rfl) ?_
            refine OW.ld rfl rfl rfl rfl (by kernel_rfl) (hst.blk 0 rfl rfl) ?_
            refine OW.pure 1 [(42, .int .i64 (i276 : Int))] (by kernel_rfl) ?_
            obtain ⟨x321, hx322, hl273⟩ := bind_some' hl273
            obtain ⟨g324, c325, hv323⟩ := hst.rowv 1 rfl hx322
            refine OW.idx 3 1 rfl rfl rfl rfl hv323 rfl (idx_some hx322).1 (idx_some hx322).2.1 (by kernel_rfl) (by kernel_rfl) ?_
            refine OW.stR hst 1 rfl hv323 (fun _ => rfl) rfl rfl hx322 0 rfl rfl rfl (by kernel_rfl) rfl rfl 1 rfl ?_
            intro w326 hst
            refine OW.nil rfl ?_
            refine QW.block_normal ?_
            refine QW.next ?_
            refine CW.region ?_
            refine OW.pure 3 [(5, .int .i64 (w64 ((i276 : Int) + 1)))] (by kernel_rfl) ?_
            refine OW.nil rfl ?_
            refine QW.say 5 rfl (congrArg (Value.int .i64) (w64_cnt hc281 l1)) ?_
            exact QW.meet (fun a ha => ⟨n272, Nat.lt_succ_self _, i276 + 1, ((s274.set (Int.toNat (i276 : Int)) 0).set (Int.toNat (i276 : Int)) 1), (.slice a279 (s274).length c280), cnt_next hi277, ha.agrees (by kernel_rfl), hst.keep [0, 1, 2] rfl, hl273⟩)
          · have hl273 := ite_f hl273 hc314
            refine CW.cond_f rfl hc314 ?_
            refine CW.skip ?_
            refine QW.block_normal ?_
            refine QW.next ?_
            refine CW.region ?_
            refine OW.pure 3 [(5, .int .i64 (w64 ((i276 : Int) + 1)))] (by kernel_rfl) ?_
            refine OW.nil rfl ?_
            refine QW.say 5 rfl (congrArg (Value.int .i64) (w64_cnt hc281 l1)) ?_
            exact QW.meet (fun a ha => ⟨n272, Nat.lt_succ_self _, i276 + 1, (s274.set (Int.toNat (i276 : Int)) 0), (.slice a279 (s274).length c280), cnt_next hi277, ha.agrees (by kernel_rfl), hst.keep [0, 1, 2] rfl, hl273⟩)
      · rcases n272 with _ | n272
        · refine CW.cond_f rfl hc281 ?_
          refine CW.exit ?_
          refine QW.then_exit ?_
          refine QW.then_exit ?_
          refine QW.block_here ?_
          obtain rfl := Option.some.inj hl273
          exact QW.meet (fun a ha => ⟨(.slice a279 (s274).length c280), ha.agrees (by kernel_rfl), hst.keep [0, 1, 2] rfl⟩)
        · exact (cnt1 hi277 hc281).elim
    · rintro a w1 ⟨v168, ha, hst⟩
      refine CW.go ?_ ha
      obtain ⟨l331, a332, c333, rfl⟩ := hst.len 1 rfl
      refine CW.seq ?_
      refine CW.region ?_
      refine OW.pure 1 [(4, .int .i64 0)] (by kernel_rfl) ?_
      refine OW.nil rfl ?_
      refine QW.next ?_
      refine CW.ret ?_
      obtain rfl := Option.some.inj hF
      refine QW.ret1 rfl rfl ?_
      exact ⟨(.slice a332 (o169).length c333), (.slice a8 (p0.Picks).length c9), rfl, hst.keep [0, 1, 2] rfl⟩

set_option maxRecDepth 10000 in
theorem tappetref21_Kern_In_ok (w : World) (b0 : Nat) (v0_0 : Value) (v0_1 : Value) (p0 : tappetref21_Kern) (p1 : Int) (r : (List Int)) (hF : tappetref21_Kern_In p0 p1 = some r)
    (hst : St w (fp [blkI b0 43 [v0_0, v0_1], rowI v0_0 3 (encI .i64) 1 p0.Mode, rowI v0_1 3 (encI .i64) 1 p0.Picks]) w [blkI b0 43 [v0_0, v0_1], rowI v0_0 3 (encI .i64) 1 p0.Mode, rowI v0_1 3 (encI .i64) 1 p0.Picks]) :
    Calls Try.prog 23 [.pointer (some ⟨b0, 0, none⟩), .int .i64 p1].toArray w (fun e w' => ∃ (x0 : Value), e = .returned (x0) ∧ St w (fp [blkI b0 43 [v0_0, v0_1], rowI v0_0 3 (encI .i64) 1 p0.Mode, rowI v0_1 3 (encI .i64) 1 p0.Picks]) w' [blkI b0 43 [v0_0, v0_1], rowI v0_0 3 (encI .i64) 1 p0.Mode, rowI v0_1 3 (encI .i64) 1 p0.Picks, rowI x0 3 (encI .i64) 1 r]) := by
  refine CW.start (N := 30) Try.func23 rfl rfl rfl ?_
  obtain ⟨l1, a2, c3, rfl⟩ := hst.len 1 rfl
  obtain ⟨l4, a5, c6, rfl⟩ := hst.len 2 rfl
  refine CW.seq ?_
  refine CW.region ?_
  refine OW.pure 1 [] (by kernel_rfl) ?_
  refine OW.nil rfl ?_
  refine QW.next ?_
  refine CW.seq ?_
  refine CW.region ?_
  refine OW.pure 1 [(5, .slice none 0 0)] (by kernel_rfl) ?_
  refine OW.nil rfl ?_
  refine QW.next ?_
  refine CW.seq ?_
  refine CW.seq ?_
  refine CW.region ?_
  refine OW.pure 1 [(6, .int .i64 0)] (by kernel_rfl) ?_
  refine OW.nil rfl ?_
  refine QW.next ?_
  obtain ⟨o118, ho119, hF⟩ := bind_some' hF
  refine CW.cutK (fun a w1 => ∃ (v117 : Value), Rep 30 [(5, v117)] a ∧ St w (fp [blkI b0 43 [.slice a2 (p0.Mode).length c3, .slice a5 (p0.Picks).length c6], rowI (.slice a2 (p0.Mode).length c3) 3 (encI .i64) 1 p0.Mode, rowI (.slice a5 (p0.Picks).length c6) 3 (encI .i64) 1 p0.Picks]) w1 [rowI v117 3 (encI .i64) 1 o118, blkI b0 43 [.slice a2 (p0.Mode).length c3, .slice a5 (p0.Picks).length c6], rowI (.slice a2 (p0.Mode).length c3) 3 (encI .i64) 1 p0.Mode, rowI (.slice a5 (p0.Picks).length c6) 3 (encI .i64) 1 p0.Picks]) ?_ ?_
  · refine CW.block ?_
    have hst := hst.nilRow Int 3 (encI .i64) 1
    refine CW.loop (fun n a w1 => ∃ (i194 : Nat) (s192 : (List Int)) (v193 : Value), i194 + n = (p0.Mode).length ∧ Rep 30 [(0, .pointer (some ⟨b0, 0, none⟩)), (1, .int .i64 p1), (5, v193), (6, .int .i64 (i194 : Int))] a ∧ St w (fp [blkI b0 43 [.slice a2 (p0.Mode).length c3, .slice a5 (p0.Picks).length c6], rowI (.slice a2 (p0.Mode).length c3) 3 (encI .i64) 1 p0.Mode, rowI (.slice a5 (p0.Picks).length c6) 3 (encI .i64) 1 p0.Picks]) w1 [blkI b0 43 [.slice a2 (p0.Mode).length c3, .slice a5 (p0.Picks).length c6], rowI (.slice a2 (p0.Mode).length c3) 3 (encI .i64) 1 p0.Mode, rowI (.slice a5 (p0.Picks).length c6) 3 (encI .i64) 1 p0.Picks, rowI v193 3 (encI .i64) 1 s192] ∧ forN (tappetref21_Kern_In_l1 p0 p1) (fun (s192 : (List Int)) => s192) n i194 s192 = some o118) ((p0.Mode).length) (fun a ha => ⟨0, ([] : List Int), (.slice none 0 0), Nat.zero_add _, ha.agrees (by kernel_rfl), hst.keep [0, 1, 2, 3] rfl, ho119⟩) ?_
    rintro n190 a w1 ⟨i194, s192, v193, hi195, ha, hst, hl191⟩
    refine CW.go ?_ ha
    obtain ⟨l196, a197, c198, rfl⟩ := hst.len 3 rfl
    refine CW.seq ?_
    refine CW.seq ?_
    refine CW.region ?_
    refine OW.pure 4 [(7, .int .i64 (i194 : Int)), (10, .pointer (some ⟨b0, 0, none⟩))] (by kernel_rfl) ?_
    refine OW.ld rfl rfl rfl rfl (by kernel_rfl) (hst.blk 0 rfl rfl) ?_
    refine OW.pure 2 [(13, .bool (decide ((i194 : Int) < (((p0.Mode).length) : Int))))] (by kernel_rfl) ?_
    refine OW.nil rfl ?_
    refine QW.next ?_
    rcases Bool.eq_false_or_eq_true (decide ((i194 : Int) < (((p0.Mode).length) : Int))) with hc199 | hc199
    · rcases n190 with _ | n190
      · exact (cnt0 hi195 hc199).elim
      refine CW.cond_t rfl hc199 ?_
      refine CW.skip ?_
      refine QW.next ?_
      refine CW.seq ?_
      refine CW.block ?_
      refine CW.seq ?_
      refine CW.region ?_
      refine OW.pure 3 [(18, .pointer (some ⟨b0, 0, none⟩))] (by kernel_rfl) ?_
      refine OW.ld rfl rfl rfl rfl (by kernel_rfl) (hst.blk 0 rfl rfl) ?_
      refine OW.pure 1 [(20, .int .i64 (i194 : Int))] (by kernel_rfl) ?_
      obtain ⟨x205, hx206, hl191⟩ := bind_some' hl191
      obtain ⟨g208, c209, hv207⟩ := hst.rowv 1 rfl hx206
      refine OW.idx 3 1 rfl rfl rfl rfl hv207 rfl (idx_some hx206).1 (idx_some hx206).2.1 (by kernel_rfl) (by kernel_rfl) ?_
      refine OW.ld rfl rfl rfl rfl (by kernel_rfl) (hst.rowc 1 rfl (fun _ => rfl) hx206 hv207 0 _ rfl) ?_
      refine OW.pure 2 [(24, .bool (x205 == p1))] (by kernel_rfl) ?_
      refine OW.nil rfl ?_
      refine QW.next ?_
      rcases Bool.eq_false_or_eq_true ((x205 == p1)) with hc210 | hc210
      · have hl191 := ite_t hl191 hc210
        refine CW.cond_t rfl hc210 ?_
        refine CW.region ?_
        refine OW.pure 2 [(25, .slice a197 (s192).length c198), (26, .int .i64 (i194 : Int))] (by kernel_rfl) ?_
        refine OW.row (α := Int) (e := 3) (enc := encI .i64) (sz := 1) hst rfl rfl rfl [(i194 : Int)] rfl (fun _ => rfl) rfl rfl (fun _ => by kernel_rfl) ?_
        intro g220 w221 hst
        obtain ⟨u222, hr223, hl191⟩ := bind_some' hl191
        refine OW.app hst 3 rfl (fun _ => rfl) (fun _ => rfl) rfl rfl rfl rfl rfl rfl (by kernel_rfl) el3 (hst.rd 4 rfl (fun _ => rfl) [] rfl (hst.len 4 rfl).1) (room_le hr223) ?_
        intro v224 w225 hst
        obtain ⟨l226, a227, c228, rfl⟩ := hst.len 3 rfl
        refine OW.pure 1 [(5, .slice a227 ((s192 ++ [(i194 : Int)])).length c228)] (by kernel_rfl) ?_
        refine OW.nil rfl ?_
        refine QW.block_normal ?_
        refine QW.next ?_
        refine CW.region ?_
        refine OW.pure 3 [(6, .int .i64 (w64 ((i194 : Int) + 1)))] (by kernel_rfl) ?_
        refine OW.nil rfl ?_
        refine QW.say 6 rfl (congrArg (Value.int .i64) (w64_cnt hc199 l1)) ?_
        exact QW.meet (fun a ha => ⟨n190, Nat.lt_succ_self _, i194 + 1, (s192 ++ [(i194 : Int)]), (.slice a227 ((s192 ++ [(i194 : Int)])).length c228), cnt_next hi195, ha.agrees (by kernel_rfl), hst.keep [0, 1, 2, 3] rfl, hl191⟩)
      · have hl191 := ite_f hl191 hc210
        refine CW.cond_f rfl hc210 ?_
        refine CW.skip ?_
        refine QW.block_normal ?_
        refine QW.next ?_
        refine CW.region ?_
        refine OW.pure 3 [(6, .int .i64 (w64 ((i194 : Int) + 1)))] (by kernel_rfl) ?_
        refine OW.nil rfl ?_
        refine QW.say 6 rfl (congrArg (Value.int .i64) (w64_cnt hc199 l1)) ?_
        exact QW.meet (fun a ha => ⟨n190, Nat.lt_succ_self _, i194 + 1, s192, (.slice a197 (s192).length c198), cnt_next hi195, ha.agrees (by kernel_rfl), hst.keep [0, 1, 2, 3] rfl, hl191⟩)
    · rcases n190 with _ | n190
      · refine CW.cond_f rfl hc199 ?_
        refine CW.exit ?_
        refine QW.then_exit ?_
        refine QW.then_exit ?_
        refine QW.block_here ?_
        obtain rfl := Option.some.inj hl191
        exact QW.meet (fun a ha => ⟨(.slice a197 (s192).length c198), ha.agrees (by kernel_rfl), hst.keep [3, 0, 1, 2] rfl⟩)
      · exact (cnt1 hi195 hc199).elim
  · rintro a w1 ⟨v117, ha, hst⟩
    refine CW.go ?_ ha
    obtain ⟨l232, a233, c234, rfl⟩ := hst.len 0 rfl
    refine CW.seq ?_
    refine CW.region ?_
    refine OW.pure 2 [(4, .slice a233 (o118).length c234)] (by kernel_rfl) ?_
    refine OW.nil rfl ?_
    refine QW.next ?_
    refine CW.ret ?_
    obtain rfl := Option.some.inj hF
    refine QW.ret1 rfl rfl ?_
    exact ⟨(.slice a233 (o118).length c234), rfl, hst.keep [1, 2, 3, 0] rfl⟩

set_option maxRecDepth 10000 in
theorem tappetref21_Kern_Pick_ok (w : World) (b0 : Nat) (v0_0 : Value) (v0_1 : Value) (p0 : tappetref21_Kern) (p1 : Int) (r : Int × Bool × tappetref21_Kern) (hF : tappetref21_Kern_Pick p0 p1 = some r)
    (hst : St w (fp [blkI b0 43 [v0_0, v0_1], rowI v0_0 3 (encI .i64) 1 p0.Mode, rowI v0_1 3 (encI .i64) 1 p0.Picks]) w [blkI b0 43 [v0_0, v0_1], rowI v0_0 3 (encI .i64) 1 p0.Mode, rowI v0_1 3 (encI .i64) 1 p0.Picks]) :
    Calls Try.prog 20 [.pointer (some ⟨b0, 0, none⟩), .int .i64 p1].toArray w (fun e w' => ∃ (u0_0 : Value) (u0_1 : Value), e = .returned (.tuple #[.int .i64 r.1, .bool r.2.1]) ∧ St w (fp [blkI b0 43 [v0_0, v0_1], rowI v0_0 3 (encI .i64) 1 p0.Mode, rowI v0_1 3 (encI .i64) 1 p0.Picks]) w' [blkI b0 43 [u0_0, u0_1], rowI u0_0 3 (encI .i64) 1 r.2.2.Mode, rowI u0_1 3 (encI .i64) 1 r.2.2.Picks]) := by
  refine CW.start (N := 40) Try.func20 rfl rfl rfl ?_
  obtain ⟨l1, a2, c3, rfl⟩ := hst.len 1 rfl
  obtain ⟨l4, a5, c6, rfl⟩ := hst.len 2 rfl
  refine CW.seq ?_
  refine CW.region ?_
  refine OW.pure 2 [] (by kernel_rfl) ?_
  refine OW.nil rfl ?_
  refine QW.next ?_
  refine CW.seq ?_
  refine CW.region ?_
  refine OW.pure 1 [(8, .pointer (some ⟨b0, 0, none⟩))] (by kernel_rfl) ?_
  obtain ⟨r15, hr16, hF⟩ := bind_some' hF
  refine OW.fn rfl rfl rfl rfl (by kernel_rfl) (tappetref21_Kern_In_ok _ b0 (.slice a2 (p0.Mode).length c3) (.slice a5 (p0.Picks).length c6) p0 1 r15 hr16 (hst.part [0, 1, 2] rfl)) ?_
  rintro e w17 ⟨v19, rfl, hst18⟩
  refine ⟨_, rfl, ?_⟩
  have hst := hst.join (idx := [0, 1, 2]) (rest := []) rfl hst18
  obtain ⟨l20, a21, c22, rfl⟩ := hst.len 3 rfl
  refine OW.pure 1 [(6, .slice a21 (r15).length c22)] (by kernel_rfl) ?_
  refine OW.nil rfl ?_
  refine QW.next ?_
  refine CW.seq ?_
  refine CW.seq ?_
  refine CW.region ?_
  refine OW.pure 3 [(12, .bool ((((r15).length) : Int) == 0))] (by kernel_rfl) ?_
  refine OW.nil rfl ?_
  refine QW.next ?_
  rcases Bool.eq_false_or_eq_true (((((r15).length) : Int) == 0)) with hc23 | hc23
  · have hF := ite_t hF hc23
    refine CW.cond_t rfl hc23 ?_
    refine CW.seq ?_
    refine CW.region ?_
    refine OW.pure 2 [(4, .int .i64 0), (5, .bool false)] (by kernel_rfl) ?_
    refine OW.nil rfl ?_
    refine QW.next ?_
    refine CW.ret ?_
    refine QW.then_ret ?_
    obtain rfl := Option.some.inj hF
    refine QW.ret2 rfl rfl rfl ?_
    exact ⟨(.slice a2 (p0.Mode).length c3), (.slice a5 (p0.Picks).length c6), rfl, hst.keep [0, 1, 2] rfl⟩
  · have hF := ite_f hF hc23
    refine CW.cond_f rfl hc23 ?_
    refine CW.skip ?_
    refine QW.next ?_
    refine CW.seq ?_
    refine CW.region ?_
    refine OW.pure 3 [(13, .int .i64 p1), (15, .int .i64 (((r15).length) : Int))] (by kernel_rfl) ?_
    obtain ⟨u26, hz27, hF⟩ := bind_some' hF
    refine OW.rem rfl rfl rfl rfl rfl (nz_ne hz27) ?_
    refine OW.pure 1 [(7, .int .i64 (p1.tmod (((r15).length) : Int)))] (by kernel_rfl) ?_
    refine OW.nil rfl ?_
    refine QW.next ?_
    refine CW.seq ?_
    refine CW.seq ?_
    refine CW.region ?_
    refine OW.pure 2 [(18, .bool (decide ((p1.tmod (((r15).length) : Int)) < 0)))] (by kernel_rfl) ?_
    refine OW.nil rfl ?_
    refine QW.next ?_
    obtain ⟨o29, ho30, hF⟩ := bind_some' hF
    refine CW.cutK (fun a w1 => Rep 40 [(0, .pointer (some ⟨b0, 0, none⟩)), (6, .slice a21 (r15).length c22), (7, .int .i64 o29)] a ∧ St w (fp [blkI b0 43 [.slice a2 (p0.Mode).length c3, .slice a5 (p0.Picks).length c6], rowI (.slice a2 (p0.Mode).length c3) 3 (encI .i64) 1 p0.Mode, rowI (.slice a5 (p0.Picks).length c6) 3 (encI .i64) 1 p0.Picks]) w1 [blkI b0 43 [.slice a2 (p0.Mode).length c3, .slice a5 (p0.Picks).length c6], rowI (.slice a2 (p0.Mode).length c3) 3 (encI .i64) 1 p0.Mode, rowI (.slice a5 (p0.Picks).length c6) 3 (encI .i64) 1 p0.Picks, rowI (.slice a21 (r15).length c22) 3 (encI .i64) 1 r15]) ?_ ?_
    · rcases Bool.eq_false_or_eq_true (decide ((p1.tmod (((r15).length) : Int)) < 0)) with hc31 | hc31
      · have ho30 := ite_t ho30 hc31
        refine CW.cond_t rfl hc31 ?_
        refine CW.region ?_
        refine OW.pure 5 [(7, .int .i64 (w64 ((p1.tmod (((r15).length) : Int)) + (((r15).length) : Int))))] (by kernel_rfl) ?_
        refine OW.nil rfl ?_
        obtain rfl := Option.some.inj ho30
        exact QW.meet (fun a ha => ⟨ha.agrees (by kernel_rfl), hst.keep [0, 1, 2, 3] rfl⟩)
      · have ho30 := ite_f ho30 hc31
        refine CW.cond_f rfl hc31 ?_
        refine CW.skip ?_
        obtain rfl := Option.some.inj ho30
        exact QW.meet (fun a ha => ⟨ha.agrees (by kernel_rfl), hst.keep [0, 1, 2, 3] rfl⟩)
    · rintro a w1 ⟨ha, hst⟩
      refine CW.go ?_ ha
      refine CW.seq ?_
      refine CW.plan (by kernel_rfl) ?_
      intro w49 hch50
      have hst := hst.same hch50
      refine OA.pure [0, 1, 2, 3] [(23, .pointer (some ⟨b0, 0, none⟩)), (26, .pointer (some ⟨b0, 1, none⟩))] (by kernel_rfl) ?_
      refine OA.ld (i := 4) rfl (by kernel_rfl) rfl rfl rfl (by kernel_rfl) (hst.blk 0 rfl rfl) ?_
      refine OA.pure [5, 6] [(28, .slice a21 (r15).length c22), (29, .int .i64 o29)] (by kernel_rfl) ?_
      obtain ⟨x51, hx52, hF⟩ := bind_some' hF
      obtain ⟨g54, c55, hv53⟩ := hst.rowv 3 rfl hx52
      refine OA.idx (i := 7) 3 1 rfl (by kernel_rfl) rfl rfl rfl hv53 rfl (idx_some hx52).1 (idx_some hx52).2.1 (by kernel_rfl) (by kernel_rfl) ?_
      refine OA.ld (i := 8) rfl (by kernel_rfl) rfl rfl rfl (by kernel_rfl) (hst.rowc 3 rfl (fun _ => rfl) hx52 hv53 0 _ rfl) ?_
      refine OA.act (i := 9) [4] (by kernel_rfl) rfl rfl (by kernel_rfl) (by kernel_rfl) ?_
      refine OW.row (α := Int) (e := 3) (enc := encI .i64) (sz := 1) hst rfl rfl rfl [x51] rfl (fun _ => rfl) rfl rfl (fun _ => by kernel_rfl) ?_
      intro g56 w57 hst
      refine OA.next ⟨(hst.blk 0 rfl rfl), trivial⟩ ?_
      refine OA.act (i := 10) [] (by kernel_rfl) rfl rfl (by kernel_rfl) (by kernel_rfl) ?_
      obtain ⟨u58, hr59, hF⟩ := bind_some' hF
      refine OW.app hst 2 rfl (fun _ => rfl) (fun _ => rfl) rfl rfl rfl rfl rfl rfl (by kernel_rfl) el3 (hst.rd 4 rfl (fun _ => rfl) [] rfl (hst.len 4 rfl).1) (room_le hr59) ?_
      intro v60 w61 hst
      obtain ⟨l62, a63, c64, rfl⟩ := hst.len 2 rfl
      refine OA.next trivial ?_
      refine OA.pure [11, 12] [(35, .pointer (some ⟨b0, 1, none⟩))] (by kernel_rfl) ?_
      refine OA.act (i := 13) [] (by kernel_rfl) rfl rfl (by kernel_rfl) (by kernel_rfl) ?_
      refine OW.stB hst 0 rfl rfl rfl rfl rfl (by kernel_rfl) rfl rfl [.slice a2 (p0.Mode).length c3, .slice a63 ((p0.Picks ++ [x51])).length c64] rfl ?_
      intro w65 hst
      refine OA.next trivial ?_
      refine OA.fin (by kernel_rfl) (by kernel_rfl) ?_
      refine QW.next ?_
      refine CW.seq ?_
      refine CW.region ?_
      refine OW.pure 2 [(36, .slice a21 (r15).length c22), (37, .int .i64 o29)] (by kernel_rfl) ?_
      obtain ⟨g70, c71, hv69⟩ := hst.rowv 3 rfl hx52
      refine OW.idx 3 1 rfl rfl rfl rfl hv69 rfl (idx_some hx52).1 (idx_some hx52).2.1 (by kernel_rfl) (by kernel_rfl) ?_
      refine OW.ld rfl rfl rfl rfl (by kernel_rfl) (hst.rowc 3 rfl (fun _ => rfl) hx52 hv69 0 _ rfl) ?_
      refine OW.pure 2 [(4, .int .i64 x51), (5, .bool true)] (by kernel_rfl) ?_
      refine OW.nil rfl ?_
      refine QW.next ?_
      refine CW.ret ?_
      obtain rfl := Option.some.inj hF
      refine QW.ret2 rfl rfl rfl ?_
      exact ⟨(.slice a2 (p0.Mode).length c3), (.slice a63 ((p0.Picks ++ [x51])).length c64), rfl, hst.keep [0, 1, 2] rfl⟩

set_option maxRecDepth 10000 in
theorem tappetref21_Kern_Fair_ok (w : World) (fu : Nat) (b0 : Nat) (v0_0 : Value) (v0_1 : Value) (p0 : tappetref21_Kern) (r : Int × Bool × tappetref21_Kern) (hF : tappetref21_Kern_Fair fu p0 = some r)
    (hst : St w (fp [blkI b0 43 [v0_0, v0_1], rowI v0_0 3 (encI .i64) 1 p0.Mode, rowI v0_1 3 (encI .i64) 1 p0.Picks]) w [blkI b0 43 [v0_0, v0_1], rowI v0_0 3 (encI .i64) 1 p0.Mode, rowI v0_1 3 (encI .i64) 1 p0.Picks]) :
    Calls Try.prog 21 [.pointer (some ⟨b0, 0, none⟩)].toArray w (fun e w' => ∃ (u0_0 : Value) (u0_1 : Value), e = .returned (.tuple #[.int .i64 r.1, .bool r.2.1]) ∧ St w (fp [blkI b0 43 [v0_0, v0_1], rowI v0_0 3 (encI .i64) 1 p0.Mode, rowI v0_1 3 (encI .i64) 1 p0.Picks]) w' [blkI b0 43 [u0_0, u0_1], rowI u0_0 3 (encI .i64) 1 r.2.2.Mode, rowI u0_1 3 (encI .i64) 1 r.2.2.Picks]) := by
  refine CW.start (N := 71) Try.func21 rfl rfl rfl ?_
  obtain ⟨l1, a2, c3, rfl⟩ := hst.len 1 rfl
  obtain ⟨l4, a5, c6, rfl⟩ := hst.len 2 rfl
  refine CW.seq ?_
  refine CW.region ?_
  refine OW.pure 2 [] (by kernel_rfl) ?_
  refine OW.nil rfl ?_
  refine QW.next ?_
  refine CW.seq ?_
  refine CW.region ?_
  refine OW.pure 1 [(10, .pointer (some ⟨b0, 0, none⟩))] (by kernel_rfl) ?_
  obtain ⟨r15, hr16, hF⟩ := bind_some' hF
  refine OW.fn rfl rfl rfl rfl (by kernel_rfl) (tappetref21_Kern_In_ok _ b0 (.slice a2 (p0.Mode).length c3) (.slice a5 (p0.Picks).length c6) p0 1 r15 hr16 (hst.part [0, 1, 2] rfl)) ?_
  rintro e w17 ⟨v19, rfl, hst18⟩
  refine ⟨_, rfl, ?_⟩
  have hst := hst.join (idx := [0, 1, 2]) (rest := []) rfl hst18
  obtain ⟨l20, a21, c22, rfl⟩ := hst.len 3 rfl
  refine OW.pure 1 [(4, .slice a21 (r15).length c22)] (by kernel_rfl) ?_
  refine OW.nil rfl ?_
  refine QW.next ?_
  refine CW.seq ?_
  refine CW.seq ?_
  refine CW.region ?_
  refine OW.pure 3 [(14, .bool ((((r15).length) : Int) == 0))] (by kernel_rfl) ?_
  refine OW.nil rfl ?_
  refine QW.next ?_
  rcases Bool.eq_false_or_eq_true (((((r15).length) : Int) == 0)) with hc23 | hc23
  · have hF := ite_t hF hc23
    refine CW.cond_t rfl hc23 ?_
    refine CW.seq ?_
    refine CW.region ?_
    refine OW.pure 2 [(2, .int .i64 0), (3, .bool false)] (by kernel_rfl) ?_
    refine OW.nil rfl ?_
    refine QW.next ?_
    refine CW.ret ?_
    refine QW.then_ret ?_
    obtain rfl := Option.some.inj hF
    refine QW.ret2 rfl rfl rfl ?_
    exact ⟨(.slice a2 (p0.Mode).length c3), (.slice a5 (p0.Picks).length c6), rfl, hst.keep [0, 1, 2] rfl⟩
  · have hF := ite_f hF hc23
    refine CW.cond_f rfl hc23 ?_
    refine CW.skip ?_
    refine QW.next ?_
    refine CW.seq ?_
    refine CW.region ?_
    refine OW.pure 2 [(5, .int .i64 0), (6, .int .i64 0)] (by kernel_rfl) ?_
    refine OW.nil rfl ?_
    refine QW.next ?_
    refine CW.seq ?_
    refine CW.seq ?_
    refine CW.region ?_
    refine OW.pure 1 [(7, .int .i64 0)] (by kernel_rfl) ?_
    refine OW.nil rfl ?_
    refine QW.next ?_
    obtain ⟨o583, ho584, hF⟩ := bind_some' hF
    refine CW.cutK (fun a w1 => Rep 71 [(0, .pointer (some ⟨b0, 0, none⟩)), (5, .int .i64 o583)] a ∧ St w (fp [blkI b0 43 [.slice a2 (p0.Mode).length c3, .slice a5 (p0.Picks).length c6], rowI (.slice a2 (p0.Mode).length c3) 3 (encI .i64) 1 p0.Mode, rowI (.slice a5 (p0.Picks).length c6) 3 (encI .i64) 1 p0.Picks]) w1 [blkI b0 43 [.slice a2 (p0.Mode).length c3, .slice a5 (p0.Picks).length c6], rowI (.slice a2 (p0.Mode).length c3) 3 (encI .i64) 1 p0.Mode, rowI (.slice a5 (p0.Picks).length c6) 3 (encI .i64) 1 p0.Picks]) ?_ ?_
    · refine CW.block ?_
      refine CW.loop (fun n a w1 => ∃ (i957 : Nat) (s956 : Int × Int), i957 + n = (r15).length ∧ Rep 71 [(0, .pointer (some ⟨b0, 0, none⟩)), (4, .slice a21 (r15).length c22), (5, .int .i64 s956.1), (6, .int .i64 s956.2), (7, .int .i64 (i957 : Int))] a ∧ St w (fp [blkI b0 43 [.slice a2 (p0.Mode).length c3, .slice a5 (p0.Picks).length c6], rowI (.slice a2 (p0.Mode).length c3) 3 (encI .i64) 1 p0.Mode, rowI (.slice a5 (p0.Picks).length c6) 3 (encI .i64) 1 p0.Picks]) w1 [blkI b0 43 [.slice a2 (p0.Mode).length c3, .slice a5 (p0.Picks).length c6], rowI (.slice a2 (p0.Mode).length c3) 3 (encI .i64) 1 p0.Mode, rowI (.slice a5 (p0.Picks).length c6) 3 (encI .i64) 1 p0.Picks, rowI (.slice a21 (r15).length c22) 3 (encI .i64) 1 r15] ∧ forN (tappetref21_Kern_Fair_l1 fu p0 r15) (fun (s956 : Int × Int) => s956.1) n i957 s956 = some o583) ((r15).length) (fun a ha => ⟨0, (0, 0), Nat.zero_add _, ha.agrees (by kernel_rfl), hst.keep [0, 1, 2, 3] rfl, ho584⟩) ?_
      rintro n954 a w1 ⟨i957, s956, hi958, ha, hst, hl955⟩
      refine CW.go ?_ ha
      refine CW.seq ?_
      refine CW.seq ?_
      refine CW.region ?_
      refine OW.pure 4 [(18, .bool (decide ((i957 : Int) < (((r15).length) : Int))))] (by kernel_rfl) ?_
      refine OW.nil rfl ?_
      refine QW.next ?_
      rcases Bool.eq_false_or_eq_true (decide ((i957 : Int) < (((r15).length) : Int))) with hc959 | hc959
      · rcases n954 with _ | n954
        · exact (cnt0 hi958 hc959).elim
        refine CW.cond_t rfl hc959 ?_
        refine CW.skip ?_
        refine QW.next ?_
        refine CW.seq ?_
        refine CW.block ?_
        refine CW.seq ?_
        refine CW.region ?_
        refine OW.pure 1 [(8, .int .i64 0)] (by kernel_rfl) ?_
        refine OW.nil rfl ?_
        refine QW.next ?_
        refine CW.seq ?_
        refine CW.seq ?_
        refine CW.region ?_
        refine OW.pure 3 [(23, .pointer (some ⟨b0, 1, none⟩))] (by kernel_rfl) ?_
        refine OW.ld rfl rfl rfl rfl (by kernel_rfl) (hst.blk 0 rfl rfl) ?_
        refine OW.pure 2 [(9, .int .i64 (((p0.Picks).length) : Int))] (by kernel_rfl) ?_
        refine OW.nil rfl ?_
        refine QW.next ?_
        obtain ⟨o1045, ho1046, hl955⟩ := bind_some' hl955
        refine CW.cutK (fun a w1 => Rep 71 [(0, .pointer (some ⟨b0, 0, none⟩)), (4, .slice a21 (r15).length c22), (5, .int .i64 s956.1), (6, .int .i64 s956.2), (7, .int .i64 (i957 : Int)), (8, .int .i64 o1045)] a ∧ St w (fp [blkI b0 43 [.slice a2 (p0.Mode).length c3, .slice a5 (p0.Picks).length c6], rowI (.slice a2 (p0.Mode).length c3) 3 (encI .i64) 1 p0.Mode, rowI (.slice a5 (p0.Picks).length c6) 3 (encI .i64) 1 p0.Picks]) w1 [blkI b0 43 [.slice a2 (p0.Mode).length c3, .slice a5 (p0.Picks).length c6], rowI (.slice a2 (p0.Mode).length c3) 3 (encI .i64) 1 p0.Mode, rowI (.slice a5 (p0.Picks).length c6) 3 (encI .i64) 1 p0.Picks, rowI (.slice a21 (r15).length c22) 3 (encI .i64) 1 r15]) ?_ ?_
        · refine CW.block ?_
          refine CW.loop (fun n a w1 => ∃ (s1104 : Int × Int), Rep 71 [(0, .pointer (some ⟨b0, 0, none⟩)), (4, .slice a21 (r15).length c22), (5, .int .i64 s956.1), (6, .int .i64 s956.2), (7, .int .i64 (i957 : Int)), (8, .int .i64 s1104.1), (9, .int .i64 s1104.2)] a ∧ St w (fp [blkI b0 43 [.slice a2 (p0.Mode).length c3, .slice a5 (p0.Picks).length c6], rowI (.slice a2 (p0.Mode).length c3) 3 (encI .i64) 1 p0.Mode, rowI (.slice a5 (p0.Picks).length c6) 3 (encI .i64) 1 p0.Picks]) w1 [blkI b0 43 [.slice a2 (p0.Mode).length c3, .slice a5 (p0.Picks).length c6], rowI (.slice a2 (p0.Mode).length c3) 3 (encI .i64) 1 p0.Mode, rowI (.slice a5 (p0.Picks).length c6) 3 (encI .i64) 1 p0.Picks, rowI (.slice a21 (r15).length c22) 3 (encI .i64) 1 r15] ∧ loop (tappetref21_Kern_Fair_l2 p0 r15 i957) n s1104 = some o1045) fu (fun a ha => ⟨(0, (((p0.Picks).length) : Int)), ha.agrees (by kernel_rfl), hst.keep [0, 1, 2, 3] rfl, ho1046⟩) ?_
          rintro n1102 a w1 ⟨s1104, ha, hst, hl1103⟩
          rcases n1102 with _ | n1102
          · exact (loop_zero hl1103).elim
          refine CW.go ?_ ha
          refine CW.seq ?_
          refine CW.seq ?_
          refine CW.cutK (fun a w1 => Rep 71 [(0, .pointer (some ⟨b0, 0, none⟩)), (4, .slice a21 (r15).length c22), (5, .int .i64 s956.1), (6, .int .i64 s956.2), (7, .int .i64 (i957 : Int)), (8, .int .i64 s1104.1), (9, .int .i64 s1104.2), (31, .bool (decide (s1104.2 > 0) && (s1104.1 == 0)))] a ∧ St w (fp [blkI b0 43 [.slice a2 (p0.Mode).length c3, .slice a5 (p0.Picks).length c6], rowI (.slice a2 (p0.Mode).length c3) 3 (encI .i64) 1 p0.Mode, rowI (.slice a5 (p0.Picks).length c6) 3 (encI .i64) 1 p0.Picks]) w1 [blkI b0 43 [.slice a2 (p0.Mode).length c3, .slice a5 (p0.Picks).length c6], rowI (.slice a2 (p0.Mode).length c3) 3 (encI .i64) 1 p0.Mode, rowI (.slice a5 (p0.Picks).length c6) 3 (encI .i64) 1 p0.Picks, rowI (.slice a21 (r15).length c22) 3 (encI .i64) 1 r15]) ?_ ?_
          · refine CW.region ?_
            refine OW.pure 3 [(28, .bool (decide (s1104.2 > 0)))] (by kernel_rfl) ?_
            refine OW.split 28 rfl (fun hc1105 => ?_) (fun hc1105 => ?_)
            · refine OW.pure 3 [(31, .bool (s1104.1 == 0))] (by kernel_rfl) ?_
              refine OW.nil rfl ?_
              refine QW.say 31 (v := .bool (decide (s1104.2 > 0) && (s1104.1 == 0))) rfl (by first | (rw [hc1105]; done) | (rw [hc1105]; rfl) | simp [hc1105]) ?_
              exact QW.meet (fun a ha => ⟨ha.agrees (by kernel_rfl), hst.keep [0, 1, 2, 3] rfl⟩)
            · refine OW.pure 3 [(31, .bool false)] (by kernel_rfl) ?_
              refine OW.nil rfl ?_
              refine QW.say 31 (v := .bool (decide (s1104.2 > 0) && (s1104.1 == 0))) rfl (by first | (rw [hc1105]; done) | (rw [hc1105]; rfl) | simp [hc1105]) ?_
              exact QW.meet (fun a ha => ⟨ha.agrees (by kernel_rfl), hst.keep [0, 1, 2, 3] rfl⟩)
          · rintro a w1 ⟨ha, hst⟩
            refine CW.go ?_ ha
            rcases Bool.eq_false_or_eq_true ((decide (s1104.2 > 0) && (s1104.1 == 0))) with hc1106 | hc1106
            · have hl1103 := ite_t hl1103 hc1106
              refine CW.cond_t rfl hc1106 ?_
              refine CW.skip ?_
              refine QW.next ?_
              refine CW.seq ?_
              refine CW.block ?_
              refine CW.seq ?_
              refine CW.still (by kernel_rfl) (by kernel_rfl) ?_
              intro w1119 hch1120
              have hst := hst.same hch1120
              refine OS.pure 3 [(36, .pointer (some ⟨b0, 1, none⟩))] rfl (by kernel_rfl) ?_
              refine OS.ld rfl rfl rfl rfl rfl (by kernel_rfl) (hst.blk 0 rfl rfl) ?_
              refine OS.pure 2 [(39, .int .i64 (w64 (s1104.2 - 1)))] rfl (by kernel_rfl) ?_
              obtain ⟨x1121, hx1122, hl1103⟩ := bind_some' hl1103
              obtain ⟨g1124, c1125, hv1123⟩ := hst.rowv 2 rfl hx1122
              refine OS.idx 3 1 rfl rfl rfl rfl rfl hv1123 rfl (idx_some hx1122).1 (idx_some hx1122).2.1 (by kernel_rfl) (by kernel_rfl) ?_
              refine OS.ld rfl rfl rfl rfl rfl (by kernel_rfl) (hst.rowc 2 rfl (fun _ => rfl) hx1122 hv1123 0 _ rfl) ?_
              refine OS.pure 2 [(42, .slice a21 (r15).length c22), (43, .int .i64 (i957 : Int))] rfl (by kernel_rfl) ?_
              obtain ⟨x1126, hx1127, hl1103⟩ := bind_some' hl1103
              obtain ⟨g1129, c1130, hv1128⟩ := hst.rowv 3 rfl hx1127
              refine OS.idx 3 1 rfl rfl rfl rfl rfl hv1128 rfl (idx_some hx1127).1 (idx_some hx1127).2.1 (by kernel_rfl) (by kernel_rfl) ?_
              refine OS.ld rfl rfl rfl rfl rfl (by kernel_rfl) (hst.rowc 3 rfl (fun _ => rfl) hx1127 hv1128 0 _ rfl) ?_
              refine OS.pure 1 [(46, .bool (x1121 == x1126))] rfl (by kernel_rfl) ?_
              refine OS.fin rfl ?_
              refine QW.next ?_
              rcases Bool.eq_false_or_eq_true ((x1121 == x1126)) with hc1131 | hc1131
              · have hl1103 := ite_t hl1103 hc1131
                refine CW.cond_t rfl hc1131 ?_
                refine CW.region ?_
                refine OW.pure 2 [(8, .int .i64 s1104.2)] (by kernel_rfl) ?_
                refine OW.nil rfl ?_
                refine QW.block_normal ?_
                refine QW.next ?_
                refine CW.region ?_
                refine OW.pure 3 [(9, .int .i64 (w64 (s1104.2 - 1)))] (by kernel_rfl) ?_
                refine OW.nil rfl ?_
                exact QW.meet (fun a ha => ⟨n1102, Nat.lt_succ_self _, (s1104.2, w64 (s1104.2 - 1)), ha.agrees (by kernel_rfl), hst.keep [0, 1, 2, 3] rfl, hl1103⟩)
              · have hl1103 := ite_f hl1103 hc1131
                refine CW.cond_f rfl hc1131 ?_
                refine CW.skip ?_
                refine QW.block_normal ?_
                refine QW.next ?_
                refine CW.region ?_
                refine OW.pure 3 [(9, .int .i64 (w64 (s1104.2 - 1)))] (by kernel_rfl) ?_
                refine OW.nil rfl ?_
                exact QW.meet (fun a ha => ⟨n1102, Nat.lt_succ_self _, (s1104.1, w64 (s1104.2 - 1)), ha.agrees (by kernel_rfl), hst.keep [0, 1, 2, 3] rfl, hl1103⟩)
            · have hl1103 := ite_f hl1103 hc1106
              refine CW.cond_f rfl hc1106 ?_
              refine CW.exit ?_
              refine QW.then_exit ?_
              refine QW.then_exit ?_
              refine QW.block_here ?_
              obtain rfl := Option.some.inj hl1103
              exact QW.meet (fun a ha => ⟨ha.agrees (by kernel_rfl), hst.keep [0, 1, 2, 3] rfl⟩)
        · rintro a w1 ⟨ha, hst⟩
          refine CW.go ?_ ha
          refine CW.seq ?_
          refine CW.cutK (fun a w1 => Rep 71 [(0, .pointer (some ⟨b0, 0, none⟩)), (4, .slice a21 (r15).length c22), (5, .int .i64 s956.1), (6, .int .i64 s956.2), (7, .int .i64 (i957 : Int)), (8, .int .i64 o1045), (54, .bool (((i957 : Int) == 0) || decide (o1045 < s956.2)))] a ∧ St w (fp [blkI b0 43 [.slice a2 (p0.Mode).length c3, .slice a5 (p0.Picks).length c6], rowI (.slice a2 (p0.Mode).length c3) 3 (encI .i64) 1 p0.Mode, rowI (.slice a5 (p0.Picks).length c6) 3 (encI .i64) 1 p0.Picks]) w1 [blkI b0 43 [.slice a2 (p0.Mode).length c3, .slice a5 (p0.Picks).length c6], rowI (.slice a2 (p0.Mode).length c3) 3 (encI .i64) 1 p0.Mode, rowI (.slice a5 (p0.Picks).length c6) 3 (encI .i64) 1 p0.Picks, rowI (.slice a21 (r15).length c22) 3 (encI .i64) 1 r15]) ?_ ?_
          · refine CW.region ?_
            refine OW.pure 3 [(50, .bool ((i957 : Int) == 0))] (by kernel_rfl) ?_
            refine OW.split 50 rfl (fun hc1132 => ?_) (fun hc1132 => ?_)
            · refine OW.pure 4 [(54, .bool true)] (by kernel_rfl) ?_
              refine OW.nil rfl ?_
              refine QW.say 54 (v := .bool (((i957 : Int) == 0) || decide (o1045 < s956.2))) rfl (by first | (rw [hc1132]; done) | (rw [hc1132]; rfl) | simp [hc1132]) ?_
              exact QW.meet (fun a ha => ⟨ha.agrees (by kernel_rfl), hst.keep [0, 1, 2, 3] rfl⟩)
            · refine OW.pure 4 [(54, .bool (decide (o1045 < s956.2)))] (by kernel_rfl) ?_
              refine OW.nil rfl ?_
              refine QW.say 54 (v := .bool (((i957 : Int) == 0) || decide (o1045 < s956.2))) rfl (by first | (rw [hc1132]; done) | (rw [hc1132]; rfl) | simp [hc1132]) ?_
              exact QW.meet (fun a ha => ⟨ha.agrees (by kernel_rfl), hst.keep [0, 1, 2, 3] rfl⟩)
          · rintro a w1 ⟨ha, hst⟩
            refine CW.go ?_ ha
            rcases Bool.eq_false_or_eq_true ((((i957 : Int) == 0) || decide (o1045 < s956.2))) with hc1133 | hc1133
            · have hl955 := ite_t hl955 hc1133
              refine CW.cond_t rfl hc1133 ?_
              refine CW.seq ?_
              refine CW.region ?_
              refine OW.pure 2 [(55, .slice a21 (r15).length c22), (56, .int .i64 (i957 : Int))] (by kernel_rfl) ?_
              obtain ⟨x1139, hx1140, hl955⟩ := bind_some' hl955
              obtain ⟨g1142, c1143, hv1141⟩ := hst.rowv 3 rfl hx1140
              refine OW.idx 3 1 rfl rfl rfl rfl hv1141 rfl (idx_some hx1140).1 (idx_some hx1140).2.1 (by kernel_rfl) (by kernel_rfl) ?_
              refine OW.ld rfl rfl rfl rfl (by kernel_rfl) (hst.rowc 3 rfl (fun _ => rfl) hx1140 hv1141 0 _ rfl) ?_
              refine OW.pure 1 [(5, .int .i64 x1139)] (by kernel_rfl) ?_
              refine OW.nil rfl ?_
              refine QW.next ?_
              refine CW.region ?_
              refine OW.pure 2 [(6, .int .i64 o1045)] (by kernel_rfl) ?_
              refine OW.nil rfl ?_
              refine QW.block_normal ?_
              refine QW.next ?_
              refine CW.region ?_
              refine OW.pure 3 [(7, .int .i64 (w64 ((i957 : Int) + 1)))] (by kernel_rfl) ?_
              refine OW.nil rfl ?_
              refine QW.say 7 rfl (congrArg (Value.int .i64) (w64_cnt hc959 l20)) ?_
              exact QW.meet (fun a ha => ⟨n954, Nat.lt_succ_self _, i957 + 1, (x1139, o1045), cnt_next hi958, ha.agrees (by kernel_rfl), hst.keep [0, 1, 2, 3] rfl, hl955⟩)
            · have hl955 := ite_f hl955 hc1133
              refine CW.cond_f rfl hc1133 ?_
              refine CW.skip ?_
              refine QW.block_normal ?_
              refine QW.next ?_
              refine CW.region ?_
              refine OW.pure 3 [(7, .int .i64 (w64 ((i957 : Int) + 1)))] (by kernel_rfl) ?_
              refine OW.nil rfl ?_
              refine QW.say 7 rfl (congrArg (Value.int .i64) (w64_cnt hc959 l20)) ?_
              exact QW.meet (fun a ha => ⟨n954, Nat.lt_succ_self _, i957 + 1, (s956.1, s956.2), cnt_next hi958, ha.agrees (by kernel_rfl), hst.keep [0, 1, 2, 3] rfl, hl955⟩)
      · rcases n954 with _ | n954
        · refine CW.cond_f rfl hc959 ?_
          refine CW.exit ?_
          refine QW.then_exit ?_
          refine QW.then_exit ?_
          refine QW.block_here ?_
          obtain rfl := Option.some.inj hl955
          exact QW.meet (fun a ha => ⟨ha.agrees (by kernel_rfl), hst.keep [0, 1, 2] rfl⟩)
        · exact (cnt1 hi958 hc959).elim
    · rintro a w1 ⟨ha, hst⟩
      refine CW.go ?_ ha
      refine CW.seq ?_
      refine CW.region ?_
      refine OW.pure 4 [(60, .pointer (some ⟨b0, 0, none⟩)), (63, .pointer (some ⟨b0, 1, none⟩))] (by kernel_rfl) ?_
      refine OW.ld rfl rfl rfl rfl (by kernel_rfl) (hst.blk 0 rfl rfl) ?_
      refine OW.pure 1 [(65, .int .i64 o583)] (by kernel_rfl) ?_
      refine OW.row (α := Int) (e := 3) (enc := encI .i64) (sz := 1) hst rfl rfl rfl [o583] rfl (fun _ => rfl) rfl rfl (fun _ => by kernel_rfl) ?_
      intro g1154 w1155 hst
      obtain ⟨u1156, hr1157, hF⟩ := bind_some' hF
      refine OW.app hst 2 rfl (fun _ => rfl) (fun _ => rfl) rfl rfl rfl rfl rfl rfl (by kernel_rfl) el3 (hst.rd 3 rfl (fun _ => rfl) [] rfl (hst.len 3 rfl).1) (room_le hr1157) ?_
      intro v1158 w1159 hst
      obtain ⟨l1160, a1161, c1162, rfl⟩ := hst.len 2 rfl
      refine OW.pure 2 [(69, .pointer (some ⟨b0, 1, none⟩))] (by kernel_rfl) ?_
      refine OW.stB hst 0 rfl rfl rfl rfl rfl (by kernel_rfl) rfl rfl [.slice a2 (p0.Mode).length c3, .slice a1161 ((p0.Picks ++ [o583])).length c1162] rfl ?_
      intro w1163 hst
      refine OW.nil rfl ?_
      refine QW.next ?_
      refine CW.seq ?_
      refine CW.region ?_
      refine OW.pure 3 [(2, .int .i64 o583), (3, .bool true)] (by kernel_rfl) ?_
      refine OW.nil rfl ?_
      refine QW.next ?_
      refine CW.ret ?_
      obtain rfl := Option.some.inj hF
      refine QW.ret2 rfl rfl rfl ?_
      exact ⟨(.slice a2 (p0.Mode).length c3), (.slice a1161 ((p0.Picks ++ [o583])).length c1162), rfl, hst.keep [0, 1, 2] rfl⟩

set_option maxRecDepth 10000 in
theorem tappetlaw21_ints_ok (w : World) (v0 : Value) (p0 : List Int) (v1 : Value) (p1 : List Int) (r : Bool) (hF : tappetlaw21_ints p0 p1 = some r)
    (hst : St w (fp []) w []) (h0 : Rd w (fp []) v0 (encI .i64) 1 p0) (h1 : Rd w (fp []) v1 (encI .i64) 1 p1) :
    Calls Try.prog 22 [v0, v1].toArray w (fun e w' => e = .returned (.bool r) ∧ St w (fp []) w' []) := by
  refine CW.start (N := 26) Try.func22 rfl rfl rfl ?_
  obtain ⟨l1, a2, c3, rfl⟩ := h0.len
  obtain ⟨l4, a5, c6, rfl⟩ := h1.len
  refine CW.seq ?_
  refine CW.region ?_
  refine OW.pure 1 [] (by kernel_rfl) ?_
  refine OW.nil rfl ?_
  refine QW.next ?_
  refine CW.seq ?_
  refine CW.seq ?_
  refine CW.region ?_
  refine OW.pure 5 [(10, .bool ((((p0).length) : Int) != (((p1).length) : Int)))] (by kernel_rfl) ?_
  refine OW.nil rfl ?_
  refine QW.next ?_
  rcases Bool.eq_false_or_eq_true (((((p0).length) : Int) != (((p1).length) : Int))) with hc7 | hc7
  · have hF := ite_t hF hc7
    refine CW.cond_t rfl hc7 ?_
    refine CW.seq ?_
    refine CW.region ?_
    refine OW.pure 1 [(4, .bool false)] (by kernel_rfl) ?_
    refine OW.nil rfl ?_
    refine QW.next ?_
    refine CW.ret ?_
    refine QW.then_ret ?_
    obtain rfl := Option.some.inj hF
    refine QW.ret1 rfl rfl ?_
    exact ⟨rfl, hst.keep [] rfl⟩
  · have hF := ite_f hF hc7
    refine CW.cond_f rfl hc7 ?_
    refine CW.skip ?_
    refine QW.next ?_
    refine CW.seq ?_
    refine CW.seq ?_
    refine CW.region ?_
    refine OW.pure 1 [(5, .int .i64 0)] (by kernel_rfl) ?_
    refine OW.nil rfl ?_
    refine QW.next ?_
    obtain ⟨o104, ho105, hF⟩ := bind_some' hF
    refine CW.cutK (fun a w1 => ∃ (t106 : Unit), o104 = .inl t106 ∧ Rep 26 [] a ∧ St w (fp []) w1 []) ?_ ?_
    · refine CW.block ?_
      refine CW.loop (fun n a w1 => ∃ (i171 : Nat) (s170 : Unit), i171 + n = (p0).length ∧ Rep 26 [(0, .slice a2 (p0).length c3), (1, .slice a5 (p1).length c6), (5, .int .i64 (i171 : Int))] a ∧ St w (fp []) w1 [] ∧ forN (tappetlaw21_ints_l1 p0 p1) (fun (s170 : Unit) => (.inl ())) n i171 s170 = some o104) ((p0).length) (fun a ha => ⟨0, (), Nat.zero_add _, ha.agrees (by kernel_rfl), hst.keep [] rfl, ho105⟩) ?_
      rintro n168 a w1 ⟨i171, s170, hi172, ha, hst, hl169⟩
      refine CW.go ?_ ha
      refine CW.seq ?_
      refine CW.seq ?_
      refine CW.region ?_
      refine OW.pure 4 [(14, .bool (decide ((i171 : Int) < (((p0).length) : Int))))] (by kernel_rfl) ?_
      refine OW.nil rfl ?_
      refine QW.next ?_
      rcases Bool.eq_false_or_eq_true (decide ((i171 : Int) < (((p0).length) : Int))) with hc173 | hc173
      · rcases n168 with _ | n168
        · exact (cnt0 hi172 hc173).elim
        refine CW.cond_t rfl hc173 ?_
        refine CW.skip ?_
        refine QW.next ?_
        refine CW.seq ?_
        refine CW.block ?_
        refine CW.seq ?_
        refine CW.still (by kernel_rfl) (by kernel_rfl) ?_
        intro w188 hch189
        have hst := hst.same hch189
        refine OS.pure 2 [(17, .slice a2 (p0).length c3), (18, .int .i64 (i171 : Int))] rfl (by kernel_rfl) ?_
        obtain ⟨x190, hx191, hl169⟩ := bind_some' hl169
        obtain ⟨g193, o194, c195, hv192⟩ := h0.formv (fun _ => ⟨_, rfl⟩) hx191
        refine OS.idx 3 1 rfl rfl rfl rfl rfl hv192 rfl (idx_some hx191).1 (idx_some hx191).2.1 (by kernel_rfl) (by kernel_rfl) ?_
        refine OS.ld rfl rfl rfl rfl rfl (by kernel_rfl) (h0.cellv hst hx191 hv192 0 _ rfl) ?_
        refine OS.pure 2 [(21, .slice a5 (p1).length c6), (22, .int .i64 (i171 : Int))] rfl (by kernel_rfl) ?_
        obtain ⟨x196, hx197, hl169⟩ := bind_some' hl169
        obtain ⟨g199, o200, c201, hv198⟩ := h1.formv (fun _ => ⟨_, rfl⟩) hx197
        refine OS.idx 3 1 rfl rfl rfl rfl rfl hv198 rfl (idx_some hx197).1 (idx_some hx197).2.1 (by kernel_rfl) (by kernel_rfl) ?_
        refine OS.ld rfl rfl rfl rfl rfl (by kernel_rfl) (h1.cellv hst hx197 hv198 0 _ rfl) ?_
        refine OS.pure 1 [(25, .bool (x190 != x196))] rfl (by kernel_rfl) ?_
        refine OS.fin rfl ?_
        refine QW.next ?_
        rcases Bool.eq_false_or_eq_true ((x190 != x196)) with hc202 | hc202
        · have hl169 := ite_t hl169 hc202
          refine CW.cond_t rfl hc202 ?_
          refine CW.seq ?_
          refine CW.region ?_
          refine OW.pure 1 [(4, .bool false)] (by kernel_rfl) ?_
          refine OW.nil rfl ?_
          refine QW.next ?_
          refine CW.ret ?_
          refine QW.block_ret ?_
          refine QW.then_ret ?_
          refine QW.then_ret ?_
          refine QW.block_ret ?_
          refine QW.then_ret ?_
          obtain rfl := Option.some.inj hl169
          obtain rfl := Option.some.inj hF
          refine QW.ret1 rfl rfl ?_
          exact ⟨rfl, hst.keep [] rfl⟩
        · have hl169 := ite_f hl169 hc202
          refine CW.cond_f rfl hc202 ?_
          refine CW.skip ?_
          refine QW.block_normal ?_
          refine QW.next ?_
          refine CW.region ?_
          refine OW.pure 3 [(5, .int .i64 (w64 ((i171 : Int) + 1)))] (by kernel_rfl) ?_
          refine OW.nil rfl ?_
          refine QW.say 5 rfl (congrArg (Value.int .i64) (w64_cnt hc173 l1)) ?_
          exact QW.meet (fun a ha => ⟨n168, Nat.lt_succ_self _, i171 + 1, (), cnt_next hi172, ha.agrees (by kernel_rfl), hst.keep [] rfl, hl169⟩)
      · rcases n168 with _ | n168
        · refine CW.cond_f rfl hc173 ?_
          refine CW.exit ?_
          refine QW.then_exit ?_
          refine QW.then_exit ?_
          refine QW.block_here ?_
          obtain rfl := Option.some.inj hl169
          exact QW.meet (fun a ha => ⟨(), rfl, ha.agrees (by kernel_rfl), hst.keep [] rfl⟩)
        · exact (cnt1 hi172 hc173).elim
    · rintro a w1 ⟨t106, rfl, ha, hst⟩
      refine CW.go ?_ ha
      refine CW.seq ?_
      refine CW.region ?_
      refine OW.pure 1 [(4, .bool true)] (by kernel_rfl) ?_
      refine OW.nil rfl ?_
      refine QW.next ?_
      refine CW.ret ?_
      obtain rfl := Option.some.inj hF
      refine QW.ret1 rfl rfl ?_
      exact ⟨rfl, hst.keep [] rfl⟩

set_option maxRecDepth 10000 in
theorem kern_Kern_Ended_ok (w : World) (b0 : Nat) (v0_0 : Value) (p0 : kern_Kern) (r : (List Int)) (hF : kern_Kern_Ended p0 = some r)
    (hst : St w (fp [blkI b0 51 [v0_0, .int .i64 p0.turns], rowI v0_0 55 enc_kern_task 2 p0.tasks]) w [blkI b0 51 [v0_0, .int .i64 p0.turns], rowI v0_0 55 enc_kern_task 2 p0.tasks]) :
    Calls Try.prog 14 [.pointer (some ⟨b0, 0, none⟩)].toArray w (fun e w' => ∃ (x0 : Value), e = .returned (x0) ∧ St w (fp [blkI b0 51 [v0_0, .int .i64 p0.turns], rowI v0_0 55 enc_kern_task 2 p0.tasks]) w' [blkI b0 51 [v0_0, .int .i64 p0.turns], rowI v0_0 55 enc_kern_task 2 p0.tasks, rowI x0 3 (encI .i64) 1 r]) := by
  refine CW.start (N := 5) Try.func14 rfl rfl rfl ?_
  obtain ⟨l1, a2, c3, rfl⟩ := hst.len 1 rfl
  refine CW.seq ?_
  refine CW.region ?_
  refine OW.pure 1 [] (by kernel_rfl) ?_
  refine OW.nil rfl ?_
  refine QW.next ?_
  refine CW.seq ?_
  refine CW.region ?_
  refine OW.pure 1 [(3, .pointer (some ⟨b0, 0, none⟩))] (by kernel_rfl) ?_
  obtain ⟨r12, hr13, hF⟩ := bind_some' hF
  refine OW.fn rfl rfl rfl rfl (by kernel_rfl) (kern_Kern_in_ok _ b0 (.slice a2 (p0.tasks).length c3) p0 2 r12 hr13 (hst.part [0, 1] rfl)) ?_
  rintro e w14 ⟨v16, rfl, hst15⟩
  refine ⟨_, rfl, ?_⟩
  have hst := hst.join (idx := [0, 1]) (rest := []) rfl hst15
  obtain ⟨l17, a18, c19, rfl⟩ := hst.len 2 rfl
  refine OW.pure 1 [(2, .slice a18 (r12).length c19)] (by kernel_rfl) ?_
  refine OW.nil rfl ?_
  refine QW.next ?_
  refine CW.ret ?_
  obtain rfl := Option.some.inj hF
  refine QW.ret1 rfl rfl ?_
  exact ⟨(.slice a18 (r12).length c19), rfl, hst.keep [0, 1, 2] rfl⟩

set_option maxRecDepth 10000 in
theorem tappetlaw21_KernPlays_ok (w : World) (fu : Nat) (p0 : Int) (v1 : Value) (p1 : List tappetlaw21_Op) (r : Bool) (hF : tappetlaw21_KernPlays fu p0 p1 = some r)
    (hst : St w (fp []) w []) (h1 : RdN w (fp []) v1 D_tappetlaw21_Op 4 p1) :
    Calls Try.prog 6 [.int .i64 p0, v1].toArray w (fun e w' => e = .returned (.bool r) ∧ St w (fp []) w' []) := by
  refine CW.start (N := 189) Try.func6 rfl rfl rfl ?_
  obtain ⟨l1, a2, c3, rfl⟩ := h1.len
  refine CW.seq ?_
  refine CW.region ?_
  refine OW.pure 1 [] (by kernel_rfl) ?_
  refine OW.nil rfl ?_
  refine QW.next ?_
  refine CW.seq ?_
  refine CW.seq ?_
  refine CW.region ?_
  obtain ⟨r8, hr9, hF⟩ := bind_some' hF
  refine OW.fn rfl rfl rfl rfl (by kernel_rfl) (tappetlaw21_awake_ok _ r8 hr9 (hst.part [] rfl)) ?_
  rintro e w10 ⟨rfl, hst11⟩
  refine ⟨_, rfl, ?_⟩
  have hst := hst.join (idx := []) (rest := []) rfl hst11
  refine OW.pure 1 [(21, .bool (!r8))] (by kernel_rfl) ?_
  refine OW.nil rfl ?_
  refine QW.next ?_
  rcases Bool.eq_false_or_eq_true ((!r8)) with hc12 | hc12
  · have hF := ite_t hF hc12
    refine CW.cond_t rfl hc12 ?_
    refine CW.seq ?_
    refine CW.region ?_
    refine OW.pure 1 [(4, .bool false)] (by kernel_rfl) ?_
    refine OW.nil rfl ?_
    refine QW.next ?_
    refine CW.ret ?_
    refine QW.then_ret ?_
    obtain rfl := Option.some.inj hF
    refine QW.ret1 rfl rfl ?_
    exact ⟨rfl, hst.keep [] rfl⟩
  · have hF := ite_f hF hc12
    refine CW.cond_f rfl hc12 ?_
    refine CW.skip ?_
    refine QW.next ?_
    refine CW.seq ?_
    refine CW.region ?_
    refine OW.pure 1 [(23, .int .i64 p0)] (by kernel_rfl) ?_
    obtain ⟨r44, hr45, hF⟩ := bind_some' hF
    refine OW.fn rfl rfl rfl rfl (by kernel_rfl) (kern_New_ok _ p0 r44 hr45 (hst.part [] rfl)) ?_
    rintro e w46 (⟨k48, b50, v51, he49, rfl, hst47⟩ | ⟨he71, rfl, hst47⟩)
    · have hF := ocase_some hF he49
      refine ⟨_, rfl, ?_⟩
      have hst := hst.join (idx := []) (rest := []) rfl hst47
      obtain ⟨l72, a73, c74, rfl⟩ := hst.len 1 rfl
      refine OW.pure 5 [(5, .pointer (some ⟨b50, 0, none⟩)), (6, .int .i64 r44.2)] (by kernel_rfl) ?_
      refine OW.nil rfl ?_
      refine QW.next ?_
      refine CW.seq ?_
      refine CW.seq ?_
      refine CW.cutK (fun a w1 => Rep 189 [(0, .int .i64 p0), (1, .slice a2 (p1).length c3), (5, .pointer (some ⟨b50, 0, none⟩)), (6, .int .i64 r44.2), (32, .bool (decide (p0 < 1) || decide (p0 > 64)))] a ∧ St w (fp []) w1 [blkI b50 51 [.slice a73 (k48.tasks).length c74, .int .i64 k48.turns], rowI (.slice a73 (k48.tasks).length c74) 55 enc_kern_task 2 k48.tasks]) ?_ ?_
      · refine CW.region ?_
        refine OW.pure 3 [(29, .bool (decide (p0 < 1)))] (by kernel_rfl) ?_
        refine OW.split 29 rfl (fun hc75 => ?_) (fun hc75 => ?_)
        · refine OW.pure 3 [(32, .bool true)] (by kernel_rfl) ?_
          refine OW.nil rfl ?_
          refine QW.say 32 (v := .bool (decide (p0 < 1) || decide (p0 > 64))) rfl (by first | (rw [hc75]; done) | (rw [hc75]; rfl) | simp [hc75]) ?_
          exact QW.meet (fun a ha => ⟨ha.agrees (by kernel_rfl), hst.keep [0, 1] rfl⟩)
        · refine OW.pure 3 [(32, .bool (decide (p0 > 64)))] (by kernel_rfl) ?_
          refine OW.nil rfl ?_
          refine QW.say 32 (v := .bool (decide (p0 < 1) || decide (p0 > 64))) rfl (by first | (rw [hc75]; done) | (rw [hc75]; rfl) | simp [hc75]) ?_
          exact QW.meet (fun a ha => ⟨ha.agrees (by kernel_rfl), hst.keep [0, 1] rfl⟩)
      · rintro a w1 ⟨ha, hst⟩
        refine CW.go ?_ ha
        rcases Bool.eq_false_or_eq_true ((decide (p0 < 1) || decide (p0 > 64))) with hc76 | hc76
        · have hF := ite_t hF hc76
          refine CW.cond_t rfl hc76 ?_
          refine CW.seq ?_
          refine CW.region ?_
          refine OW.pure 7 [(4, .bool false)] (by kernel_rfl) ?_
          refine OW.nil rfl ?_
          refine QW.next ?_
          refine CW.ret ?_
          refine QW.then_ret ?_
          obtain rfl := Option.some.inj hF
          refine QW.ret1 rfl rfl ?_
          exact ⟨rfl, hst.keep [] rfl⟩
        · have hF := ite_f hF hc76
          refine CW.cond_f rfl hc76 ?_
          refine CW.skip ?_
          refine QW.next ?_
          refine CW.seq ?_
          refine CW.seq ?_
          refine CW.region ?_
          refine OW.pure 6 [(44, .bool (r44.2 != 0))] (by kernel_rfl) ?_
          refine OW.nil rfl ?_
          refine QW.next ?_
          rcases Bool.eq_false_or_eq_true ((r44.2 != 0)) with hc77 | hc77
          · have hF := ite_t hF hc77
            refine CW.cond_t rfl hc77 ?_
            refine CW.seq ?_
            refine CW.region ?_
            refine OW.pure 1 [(4, .bool false)] (by kernel_rfl) ?_
            refine OW.nil rfl ?_
            refine QW.next ?_
            refine CW.ret ?_
            refine QW.then_ret ?_
            obtain rfl := Option.some.inj hF
            refine QW.ret1 rfl rfl ?_
            exact ⟨rfl, hst.keep [] rfl⟩
          · have hF := ite_f hF hc77
            refine CW.cond_f rfl hc77 ?_
            refine CW.skip ?_
            refine QW.next ?_
            refine CW.seq ?_
            refine CW.region ?_
            refine OW.pure 1 [(45, .int .i64 p0)] (by kernel_rfl) ?_
            obtain ⟨m84, hm85, hF⟩ := bind_some' hF
            refine OW.make (enc := encI .i64) (sz := 1) hst rfl rfl rfl rfl rfl (by kernel_rfl) el3 0 (by kernel_rfl) (fun _ => rfl) hm85 ?_
            intro g86 w87 hst
            refine OW.pure 1 [(47, .agg [.slice (some ⟨g86, 0, none⟩) m84 m84, .slice none 0 0].toArray)] (by kernel_rfl) ?_
            refine OW.box hst rfl rfl rfl rfl [.slice (some ⟨g86, 0, none⟩) m84 m84, .slice none 0 0] rfl ?_
            intro b88 w89 hst
            refine OW.pure 1 [(7, .pointer (some ⟨b88, 0, none⟩))] (by kernel_rfl) ?_
            refine OW.nil rfl ?_
            refine QW.next ?_
            refine CW.seq ?_
            refine CW.seq ?_
            refine CW.region ?_
            refine OW.pure 1 [(8, .int .i64 0)] (by kernel_rfl) ?_
            refine OW.nil rfl ?_
            refine QW.next ?_
            obtain ⟨o2573, ho2574, hF⟩ := bind_some' hF
            refine CW.cutK (fun a w1 => ∃ (t2575 : Unit), o2573 = .inl t2575 ∧ Rep 189 [] a ∧ St w (fp []) w1 []) ?_ ?_
            · refine CW.block ?_
              have hst := hst.nilRow Int 3 (encI .i64) 1
              refine CW.loop (fun n a w1 => ∃ (s4229 : kern_Kern × tappetref21_Kern × Int) (v4230 : Value) (v4231 : Value) (v4232 : Value), Rep 189 [(1, .slice a2 (p1).length c3), (5, .pointer (some ⟨b50, 0, none⟩)), (7, .pointer (some ⟨b88, 0, none⟩)), (8, .int .i64 s4229.2.2)] a ∧ St w (fp []) w1 [blkI b50 51 [v4230, .int .i64 s4229.1.turns], rowI v4230 55 enc_kern_task 2 s4229.1.tasks, blkI b88 43 [v4231, v4232], rowI v4231 3 (encI .i64) 1 s4229.2.1.Mode, rowI v4232 3 (encI .i64) 1 s4229.2.1.Picks] ∧ loop (tappetlaw21_KernPlays_l1 fu p1) n s4229 = some o2573) fu (fun a ha => ⟨(k48, (tappetref21_Kern.mk (List.replicate m84 0) ([] : List Int)), 0), (.slice a73 (k48.tasks).length c74), (.slice (some ⟨g86, 0, none⟩) m84 m84), (.slice none 0 0), ha.agrees (by kernel_rfl), hst.keep [0, 1, 3, 2, 4] rfl, ho2574⟩) ?_
              rintro n4227 a w1 ⟨s4229, v4230, v4231, v4232, ha, hst, hl4228⟩
              rcases n4227 with _ | n4227
              · exact (loop_zero hl4228).elim
              refine CW.go ?_ ha
              obtain ⟨l4233, a4234, c4235, rfl⟩ := hst.len 1 rfl
              obtain ⟨l4236, a4237, c4238, rfl⟩ := hst.len 3 rfl
              obtain ⟨l4239, a4240, c4241, rfl⟩ := hst.len 4 rfl
              refine CW.seq ?_
              refine CW.seq ?_
              refine CW.cutK (fun a w1 => Rep 189 [(1, .slice a2 (p1).length c3), (5, .pointer (some ⟨b50, 0, none⟩)), (7, .pointer (some ⟨b88, 0, none⟩)), (8, .int .i64 s4229.2.2), (56, .bool (decide (s4229.2.2 < (((p1).length) : Int)) && decide (s4229.2.2 < 300)))] a ∧ St w (fp []) w1 [blkI b50 51 [.slice a4234 (s4229.1.tasks).length c4235, .int .i64 s4229.1.turns], rowI (.slice a4234 (s4229.1.tasks).length c4235) 55 enc_kern_task 2 s4229.1.tasks, blkI b88 43 [.slice a4237 (s4229.2.1.Mode).length c4238, .slice a4240 (s4229.2.1.Picks).length c4241], rowI (.slice a4237 (s4229.2.1.Mode).length c4238) 3 (encI .i64) 1 s4229.2.1.Mode, rowI (.slice a4240 (s4229.2.1.Picks).length c4241) 3 (encI .i64) 1 s4229.2.1.Picks]) ?_ ?_
              · refine CW.region ?_
                refine OW.pure 5 [(53, .bool (decide (s4229.2.2 < (((p1).length) : Int))))] (by kernel_rfl) ?_
                refine OW.split 53 rfl (fun hc4242 => ?_) (fun hc4242 => ?_)
                · refine OW.pure 3 [(56, .bool (decide (s4229.2.2 < 300)))] (by kernel_rfl) ?_
                  refine OW.nil rfl ?_
                  refine QW.say 56 (v := .bool (decide (s4229.2.2 < (((p1).length) : Int)) && decide (s4229.2.2 < 300))) rfl (by first | (rw [hc4242]; done) | (rw [hc4242]; rfl) | simp [hc4242]) ?_
                  exact QW.meet (fun a ha => ⟨ha.agrees (by kernel_rfl), hst.keep [0, 1, 2, 3, 4] rfl⟩)
                · refine OW.pure 3 [(56, .bool false)] (by kernel_rfl) ?_
                  refine OW.nil rfl ?_
                  refine QW.say 56 (v := .bool (decide (s4229.2.2 < (((p1).length) : Int)) && decide (s4229.2.2 < 300))) rfl (by first | (rw [hc4242]; done) | (rw [hc4242]; rfl) | simp [hc4242]) ?_
                  exact QW.meet (fun a ha => ⟨ha.agrees (by kernel_rfl), hst.keep [0, 1, 2, 3, 4] rfl⟩)
              · rintro a w1 ⟨ha, hst⟩
                refine CW.go ?_ ha
                rcases Bool.eq_false_or_eq_true ((decide (s4229.2.2 < (((p1).length) : Int)) && decide (s4229.2.2 < 300))) with hc4243 | hc4243
                · have hl4228 := ite_t hl4228 hc4243
                  refine CW.cond_t rfl hc4243 ?_
                  refine CW.skip ?_
                  refine QW.next ?_
                  refine CW.seq ?_
                  refine CW.block ?_
                  refine CW.seq ?_
                  refine CW.region ?_
                  refine OW.pure 2 [(59, .slice a2 (p1).length c3), (60, .int .i64 s4229.2.2)] (by kernel_rfl) ?_
                  obtain ⟨x4284, hx4285, hl4228⟩ := bind_some' hl4228
                  obtain ⟨g4287, o4288, c4289, cs4290, hv4286, hd4291, hl4292⟩ := h1.formv hx4285
                  obtain ⟨v4293, v4294, rfl, h4313, h4314⟩ := hd4291
                  obtain ⟨l4315, a4316, c4317, rfl⟩ := h4313.len
                  obtain ⟨l4318, a4319, c4320, rfl⟩ := h4314.len
                  refine OW.idx 31 4 rfl rfl rfl rfl hv4286 rfl (idx_some hx4285).1 (idx_some hx4285).2.1 (by kernel_rfl) (by kernel_rfl) ?_
                  refine OW.ldN (cs := [.int .i64 x4284.Kind, .int .i64 x4284.Choice, .slice a4316 (x4284.Tasks).length c4317, .slice a4319 (x4284.Ready).length c4320]) rfl rfl rfl rfl (by kernel_rfl) (by kernel_rfl) (fun q u hu => hl4292 q u hu _ _ hst) ?_
                  refine OW.alloc hst rfl rfl rfl [.int .i64 0, .int .i64 0, .slice none 0 0, .slice none 0 0] (by kernel_rfl) ?_
                  intro b4321 w4322 hst
                  refine OW.stB hst 5 rfl rfl rfl rfl rfl (by kernel_rfl) rfl rfl [.int .i64 x4284.Kind, .int .i64 x4284.Choice, .slice a4316 (x4284.Tasks).length c4317, .slice a4319 (x4284.Ready).length c4320] rfl ?_
                  intro w4323 hst
                  refine OW.nil rfl ?_
                  refine QW.next ?_
                  refine CW.seq ?_
                  refine CW.region ?_
                  refine OW.row (α := Int) (e := 3) (enc := encI .i64) (sz := 1) hst rfl rfl rfl [] rfl (fun _ => rfl) rfl rfl (fun _ => by kernel_rfl) ?_
                  intro g4333 w4334 hst
                  refine OW.pure 1 [(64, .pointer (some ⟨b4321, 2, none⟩))] (by kernel_rfl) ?_
                  refine OW.ld rfl rfl rfl rfl (by kernel_rfl) (hst.blk 5 rfl rfl) ?_
                  obtain ⟨u4335, hr4336, hl4228⟩ := bind_some' hl4228
                  refine OW.app hst 6 rfl (fun _ => rfl) (fun _ => rfl) rfl rfl rfl rfl rfl rfl (by kernel_rfl) el3 (h4313.on hst) (room_le hr4336) ?_
                  intro v4337 w4338 hst
                  obtain ⟨l4339, a4340, c4341, rfl⟩ := hst.len 6 rfl
                  refine OW.pure 1 [(10, .slice a4340 ((([] : List Int) ++ x4284.Tasks)).length c4341)] (by kernel_rfl) ?_
                  refine OW.nil rfl ?_
                  refine QW.next ?_
                  refine CW.seq ?_
                  refine CW.region ?_
                  refine OW.pure 1 [] (by kernel_rfl) ?_
                  refine OW.nil rfl ?_
                  refine QW.next ?_
                  refine CW.seq ?_
                  refine CW.seq ?_
                  refine CW.region ?_
                  refine OW.pure 1 [(67, .pointer (some ⟨b4321, 0, none⟩))] (by kernel_rfl) ?_
                  refine OW.ld rfl rfl rfl rfl (by kernel_rfl) (hst.blk 5 rfl rfl) ?_
                  refine OW.nil rfl ?_
                  refine QW.next ?_
                  obtain ⟨o4626, ho4627, hl4228⟩ := bind_some' hl4228
                  refine CW.cutK (fun a w1 => ∃ (v4623 : Value) (v4624 : Value) (v4625 : Value), Rep 189 [(1, .slice a2 (p1).length c3), (5, .pointer (some ⟨b50, 0, none⟩)), (7, .pointer (some ⟨b88, 0, none⟩)), (8, .int .i64 s4229.2.2), (9, .pointer (some ⟨b4321, 0, none⟩)), (10, .slice a4340 ((([] : List Int) ++ x4284.Tasks)).length c4341), (11, .bool o4626.2.2)] a ∧ St w (fp []) w1 [blkI b50 51 [v4623, .int .i64 o4626.1.turns], rowI v4623 55 enc_kern_task 2 o4626.1.tasks, blkI b88 43 [v4624, v4625], rowI v4624 3 (encI .i64) 1 o4626.2.1.Mode, rowI v4625 3 (encI .i64) 1 o4626.2.1.Picks, blkI b4321 31 [.int .i64 x4284.Kind, .int .i64 x4284.Choice, .slice a4316 (x4284.Tasks).length c4317, .slice a4319 (x4284.Ready).length c4320], rowI (.slice a4340 ((([] : List Int) ++ x4284.Tasks)).length c4341) 3 (encI .i64) 1 (([] : List Int) ++ x4284.Tasks)]) ?_ ?_
                  · refine CW.block ?_
                    refine CW.seq ?_
                    refine CW.region ?_
                    refine OW.pure 2 [(87, .bool (x4284.Kind == 0))] (by kernel_rfl) ?_
                    refine OW.nil rfl ?_
                    refine QW.next ?_
                    rcases Bool.eq_false_or_eq_true ((x4284.Kind == 0)) with hc4628 | hc4628
                    · have ho4627 := ite_t ho4627 hc4628
                      refine CW.cond_t rfl hc4628 ?_
                      refine CW.plan (by kernel_rfl) ?_
                      intro w4651 hch4652
                      have hst := hst.same hch4652
                      refine OA.pure [0, 1, 3, 4] [(89, .pointer (some ⟨b50, 0, none⟩)), (90, .slice a4340 ((([] : List Int) ++ x4284.Tasks)).length c4341), (92, .pointer (some ⟨b88, 0, none⟩)), (93, .pointer (some ⟨b4321, 2, none⟩))] (by kernel_rfl) ?_
                      refine OA.ld (i := 5) rfl (by kernel_rfl) rfl rfl rfl (by kernel_rfl) (hst.blk 5 rfl rfl) ?_
                      refine OA.act (i := 2) [5] (by kernel_rfl) rfl rfl (by kernel_rfl) (by kernel_rfl) ?_
                      obtain ⟨r4653, hr4654, ho4627⟩ := bind_some' ho4627
                      refine OW.fn rfl rfl rfl rfl (by kernel_rfl) (kern_Kern_Wake_ok _ b50 (.slice a4234 (s4229.1.tasks).length c4235) s4229.1 (.slice a4340 ((([] : List Int) ++ x4284.Tasks)).length c4341) (([] : List Int) ++ x4284.Tasks) r4653 hr4654 (hst.part [0, 1] rfl) (hst.rd 6 rfl (fun _ => rfl) [0, 1] rfl (hst.len 6 rfl).1)) ?_
                      rintro e w4655 ⟨u4657, rfl, hst4656⟩
                      refine ⟨_, rfl, ?_⟩
                      have hst := hst.join (idx := [0, 1]) (rest := [2, 3, 4, 5, 6]) rfl hst4656
                      obtain ⟨l4658, a4659, c4660, rfl⟩ := hst.len 1 rfl
                      refine OA.next ⟨(hst.blk 5 rfl rfl), trivial⟩ ?_
                      refine OA.act (i := 6) [] (by kernel_rfl) rfl rfl (by kernel_rfl) (by kernel_rfl) ?_
                      obtain ⟨r4661, hr4662, ho4627⟩ := bind_some' ho4627
                      refine OW.fn rfl rfl rfl rfl (by kernel_rfl) (tappetref21_Kern_Turn_ok _ b88 (.slice a4237 (s4229.2.1.Mode).length c4238) (.slice a4240 (s4229.2.1.Picks).length c4241) s4229.2.1 1 (.slice a4316 (x4284.Tasks).length c4317) x4284.Tasks r4661 hr4662 (hst.part [2, 3, 4] rfl) (h4313.give hst [2, 3, 4])) ?_
                      rintro e w4663 ⟨u4665, u4666, rfl, hst4664⟩
                      refine ⟨_, rfl, ?_⟩
                      have hst := hst.join (idx := [2, 3, 4]) (rest := [0, 1, 5, 6]) rfl hst4664
                      obtain ⟨l4667, a4668, c4669, rfl⟩ := hst.len 1 rfl
                      obtain ⟨l4670, a4671, c4672, rfl⟩ := hst.len 2 rfl
                      refine OA.next trivial ?_
                      refine OA.pure [7] [(96, .bool (r4653.1 == r4661.1))] (by kernel_rfl) ?_
                      refine OA.act (i := 8) [] (by kernel_rfl) rfl rfl (by kernel_rfl) (by kernel_rfl) ?_
                      refine OW.pure 1 [(11, .bool (r4653.1 == r4661.1))] (by kernel_rfl) ?_
                      refine OA.next trivial ?_
                      refine OA.fin (by kernel_rfl) (by kernel_rfl) ?_
                      refine QW.block_normal ?_
                      obtain rfl := Option.some.inj ho4627
                      exact QW.meet (fun a ha => ⟨(.slice a4659 (r4653.2.tasks).length c4660), (.slice a4668 (r4661.2.Mode).length c4669), (.slice a4671 (r4661.2.Picks).length c4672), ha.agrees (by kernel_rfl), hst.keep [3, 4, 0, 1, 2, 5, 6] rfl⟩)
                    · have ho4627 := ite_f ho4627 hc4628
                      refine CW.cond_f rfl hc4628 ?_
                      refine CW.seq ?_
                      refine CW.region ?_
                      refine OW.pure 2 [(97, .bool (x4284.Kind == 1))] (by kernel_rfl) ?_
                      refine OW.nil rfl ?_
                      refine QW.next ?_
                      rcases Bool.eq_false_or_eq_true ((x4284.Kind == 1)) with hc4676 | hc4676
                      · have ho4627 := ite_t ho4627 hc4676
                        refine CW.cond_t rfl hc4676 ?_
                        refine CW.plan (by kernel_rfl) ?_
                        intro w4699 hch4700
                        have hst := hst.same hch4700
                        refine OA.pure [0, 1, 3, 4] [(99, .pointer (some ⟨b50, 0, none⟩)), (100, .slice a4340 ((([] : List Int) ++ x4284.Tasks)).length c4341), (102, .pointer (some ⟨b88, 0, none⟩)), (103, .pointer (some ⟨b4321, 2, none⟩))] (by kernel_rfl) ?_
                        refine OA.ld (i := 5) rfl (by kernel_rfl) rfl rfl rfl (by kernel_rfl) (hst.blk 5 rfl rfl) ?_
                        refine OA.act (i := 2) [5] (by kernel_rfl) rfl rfl (by kernel_rfl) (by kernel_rfl) ?_
                        obtain ⟨r4701, hr4702, ho4627⟩ := bind_some' ho4627
                        refine OW.fn rfl rfl rfl rfl (by kernel_rfl) (kern_Kern_Sleep_ok _ b50 (.slice a4234 (s4229.1.tasks).length c4235) s4229.1 (.slice a4340 ((([] : List Int) ++ x4284.Tasks)).length c4341) (([] : List Int) ++ x4284.Tasks) r4701 hr4702 (hst.part [0, 1] rfl) (hst.rd 6 rfl (fun _ => rfl) [0, 1] rfl (hst.len 6 rfl).1)) ?_
                        rintro e w4703 ⟨u4705, rfl, hst4704⟩
                        refine ⟨_, rfl, ?_⟩
                        have hst := hst.join (idx := [0, 1]) (rest := [2, 3, 4, 5, 6]) rfl hst4704
                        obtain ⟨l4706, a4707, c4708, rfl⟩ := hst.len 1 rfl
                        refine OA.next ⟨(hst.blk 5 rfl rfl), trivial⟩ ?_
                        refine OA.act (i := 6) [] (by kernel_rfl) rfl rfl (by kernel_rfl) (by kernel_rfl) ?_
                        obtain ⟨r4709, hr4710, ho4627⟩ := bind_some' ho4627
                        refine OW.fn rfl rfl rfl rfl (by kernel_rfl) (tappetref21_Kern_Turn_ok _ b88 (.slice a4237 (s4229.2.1.Mode).length c4238) (.slice a4240 (s4229.2.1.Picks).length c4241) s4229.2.1 0 (.slice a4316 (x4284.Tasks).length c4317) x4284.Tasks r4709 hr4710 (hst.part [2, 3, 4] rfl) (h4313.give hst [2, 3, 4])) ?_
                        rintro e w4711 ⟨u4713, u4714, rfl, hst4712⟩
                        refine ⟨_, rfl, ?_⟩
                        have hst := hst.join (idx := [2, 3, 4]) (rest := [0, 1, 5, 6]) rfl hst4712
                        obtain ⟨l4715, a4716, c4717, rfl⟩ := hst.len 1 rfl
                        obtain ⟨l4718, a4719, c4720, rfl⟩ := hst.len 2 rfl
                        refine OA.next trivial ?_
                        refine OA.pure [7] [(106, .bool (r4701.1 == r4709.1))] (by kernel_rfl) ?_
                        refine OA.act (i := 8) [] (by kernel_rfl) rfl rfl (by kernel_rfl) (by kernel_rfl) ?_
                        refine OW.pure 1 [(11, .bool (r4701.1 == r4709.1))] (by kernel_rfl) ?_
                        refine OA.next trivial ?_
                        refine OA.fin (by kernel_rfl) (by kernel_rfl) ?_
                        refine QW.block_normal ?_
                        obtain rfl := Option.some.inj ho4627
                        exact QW.meet (fun a ha => ⟨(.slice a4707 (r4701.2.tasks).length c4708), (.slice a4716 (r4709.2.Mode).length c4717), (.slice a4719 (r4709.2.Picks).length c4720), ha.agrees (by kernel_rfl), hst.keep [3, 4, 0, 1, 2, 5, 6] rfl⟩)
                      · have ho4627 := ite_f ho4627 hc4676
                        refine CW.cond_f rfl hc4676 ?_
                        refine CW.seq ?_
                        refine CW.region ?_
                        refine OW.pure 2 [(107, .bool (x4284.Kind == 2))] (by kernel_rfl) ?_
                        refine OW.nil rfl ?_
                        refine QW.next ?_
                        rcases Bool.eq_false_or_eq_true ((x4284.Kind == 2)) with hc4724 | hc4724
                        · have ho4627 := ite_t ho4627 hc4724
                          refine CW.cond_t rfl hc4724 ?_
                          refine CW.plan (by kernel_rfl) ?_
                          intro w4747 hch4748
                          have hst := hst.same hch4748
                          refine OA.pure [0, 1, 3, 4] [(109, .pointer (some ⟨b50, 0, none⟩)), (110, .slice a4340 ((([] : List Int) ++ x4284.Tasks)).length c4341), (112, .pointer (some ⟨b88, 0, none⟩)), (113, .pointer (some ⟨b4321, 2, none⟩))] (by kernel_rfl) ?_
                          refine OA.ld (i := 5) rfl (by kernel_rfl) rfl rfl rfl (by kernel_rfl) (hst.blk 5 rfl rfl) ?_
                          refine OA.act (i := 2) [5] (by kernel_rfl) rfl rfl (by kernel_rfl) (by kernel_rfl) ?_
                          obtain ⟨r4749, hr4750, ho4627⟩ := bind_some' ho4627
                          refine OW.fn rfl rfl rfl rfl (by kernel_rfl) (kern_Kern_End_ok _ b50 (.slice a4234 (s4229.1.tasks).length c4235) s4229.1 (.slice a4340 ((([] : List Int) ++ x4284.Tasks)).length c4341) (([] : List Int) ++ x4284.Tasks) r4749 hr4750 (hst.part [0, 1] rfl) (hst.rd 6 rfl (fun _ => rfl) [0, 1] rfl (hst.len 6 rfl).1)) ?_
                          rintro e w4751 ⟨u4753, rfl, hst4752⟩
                          refine ⟨_, rfl, ?_⟩
                          have hst := hst.join (idx := [0, 1]) (rest := [2, 3, 4, 5, 6]) rfl hst4752
                          obtain ⟨l4754, a4755, c4756, rfl⟩ := hst.len 1 rfl
                          refine OA.next ⟨(hst.blk 5 rfl rfl), trivial⟩ ?_
                          refine OA.act (i := 6) [] (by kernel_rfl) rfl rfl (by kernel_rfl) (by kernel_rfl) ?_
                          obtain ⟨r4757, hr4758, ho4627⟩ := bind_some' ho4627
                          refine OW.fn rfl rfl rfl rfl (by kernel_rfl) (tappetref21_Kern_Turn_ok _ b88 (.slice a4237 (s4229.2.1.Mode).length c4238) (.slice a4240 (s4229.2.1.Picks).length c4241) s4229.2.1 2 (.slice a4316 (x4284.Tasks).length c4317) x4284.Tasks r4757 hr4758 (hst.part [2, 3, 4] rfl) (h4313.give hst [2, 3, 4])) ?_
                          rintro e w4759 ⟨u4761, u4762, rfl, hst4760⟩
                          refine ⟨_, rfl, ?_⟩
                          have hst := hst.join (idx := [2, 3, 4]) (rest := [0, 1, 5, 6]) rfl hst4760
                          obtain ⟨l4763, a4764, c4765, rfl⟩ := hst.len 1 rfl
                          obtain ⟨l4766, a4767, c4768, rfl⟩ := hst.len 2 rfl
                          refine OA.next trivial ?_
                          refine OA.pure [7] [(116, .bool (r4749.1 == r4757.1))] (by kernel_rfl) ?_
                          refine OA.act (i := 8) [] (by kernel_rfl) rfl rfl (by kernel_rfl) (by kernel_rfl) ?_
                          refine OW.pure 1 [(11, .bool (r4749.1 == r4757.1))] (by kernel_rfl) ?_
                          refine OA.next trivial ?_
                          refine OA.fin (by kernel_rfl) (by kernel_rfl) ?_
                          refine QW.block_normal ?_
                          obtain rfl := Option.some.inj ho4627
                          exact QW.meet (fun a ha => ⟨(.slice a4755 (r4749.2.tasks).length c4756), (.slice a4764 (r4757.2.Mode).length c4765), (.slice a4767 (r4757.2.Picks).length c4768), ha.agrees (by kernel_rfl), hst.keep [3, 4, 0, 1, 2, 5, 6] rfl⟩)
                        · have ho4627 := ite_f ho4627 hc4724
                          refine CW.cond_f rfl hc4724 ?_
                          refine CW.seq ?_
                          refine CW.region ?_
                          refine OW.pure 2 [(117, .bool (x4284.Kind == 3))] (by kernel_rfl) ?_
                          refine OW.nil rfl ?_
                          refine QW.next ?_
                          rcases Bool.eq_false_or_eq_true ((x4284.Kind == 3)) with hc4772 | hc4772
                          · have ho4627 := ite_t ho4627 hc4772
                            refine CW.cond_t rfl hc4772 ?_
                            refine CW.plan (by kernel_rfl) ?_
                            intro w4804 hch4805
                            have hst := hst.same hch4805
                            refine OA.pure [0, 2] [(119, .pointer (some ⟨b50, 0, none⟩)), (121, .pointer (some ⟨b4321, 3, none⟩))] (by kernel_rfl) ?_
                            refine OA.ld (i := 3) rfl (by kernel_rfl) rfl rfl rfl (by kernel_rfl) (hst.blk 5 rfl rfl) ?_
                            refine OA.pure [6, 7] [(125, .pointer (some ⟨b88, 0, none⟩)), (126, .pointer (some ⟨b4321, 3, none⟩))] (by kernel_rfl) ?_
                            refine OA.ld (i := 8) rfl (by kernel_rfl) rfl rfl rfl (by kernel_rfl) (hst.blk 5 rfl rfl) ?_
                            refine OA.act (i := 1) [8, 3] (by kernel_rfl) rfl rfl (by kernel_rfl) (by kernel_rfl) ?_
                            refine OW.row (α := Bool) (e := 4) (enc := encB) (sz := 1) hst rfl rfl rfl [] rfl (fun _ => rfl) rfl rfl (fun _ => by kernel_rfl) ?_
                            intro g4806 w4807 hst
                            refine OA.next ⟨(hst.blk 5 rfl rfl), (hst.blk 5 rfl rfl), trivial⟩ ?_
                            refine OA.act (i := 4) [8] (by kernel_rfl) rfl rfl (by kernel_rfl) (by kernel_rfl) ?_
                            obtain ⟨u4808, hr4809, ho4627⟩ := bind_some' ho4627
                            refine OW.app hst 7 rfl (fun _ => rfl) (fun _ => rfl) rfl rfl rfl rfl rfl rfl (by kernel_rfl) el4 (h4314.on hst) (room_le hr4809) ?_
                            intro v4810 w4811 hst
                            obtain ⟨l4812, a4813, c4814, rfl⟩ := hst.len 7 rfl
                            refine OA.next ⟨(hst.blk 5 rfl rfl), trivial⟩ ?_
                            refine OA.act (i := 5) [8] (by kernel_rfl) rfl rfl (by kernel_rfl) (by kernel_rfl) ?_
                            obtain ⟨r4815, hr4816, ho4627⟩ := bind_some' ho4627
                            refine OW.fn rfl rfl rfl rfl (by kernel_rfl) (kern_Kern_Set_ok _ b50 (.slice a4234 (s4229.1.tasks).length c4235) s4229.1 (.slice a4813 ((([] : List Bool) ++ x4284.Ready)).length c4814) (([] : List Bool) ++ x4284.Ready) r4815 hr4816 (hst.part [0, 1] rfl) (hst.rd 7 rfl (fun _ => rfl) [0, 1] rfl (hst.len 7 rfl).1)) ?_
                            rintro e w4817 ⟨u4819, rfl, hst4818⟩
                            refine ⟨_, rfl, ?_⟩
                            have hst := hst.join (idx := [0, 1]) (rest := [2, 3, 4, 5, 6, 7]) rfl hst4818
                            obtain ⟨l4820, a4821, c4822, rfl⟩ := hst.len 1 rfl
                            refine OA.next ⟨(hst.blk 5 rfl rfl), trivial⟩ ?_
                            refine OA.act (i := 9) [] (by kernel_rfl) rfl rfl (by kernel_rfl) (by kernel_rfl) ?_
                            obtain ⟨r4823, hr4824, ho4627⟩ := bind_some' ho4627
                            refine OW.fn rfl rfl rfl rfl (by kernel_rfl) (tappetref21_Kern_Set_ok _ b88 (.slice a4237 (s4229.2.1.Mode).length c4238) (.slice a4240 (s4229.2.1.Picks).length c4241) s4229.2.1 (.slice a4319 (x4284.Ready).length c4320) x4284.Ready r4823 hr4824 (hst.part [2, 3, 4] rfl) (h4314.give hst [2, 3, 4])) ?_
                            rintro e w4825 ⟨u4827, u4828, rfl, hst4826⟩
                            refine ⟨_, rfl, ?_⟩
                            have hst := hst.join (idx := [2, 3, 4]) (rest := [0, 1, 5, 6, 7]) rfl hst4826
                            obtain ⟨l4829, a4830, c4831, rfl⟩ := hst.len 1 rfl
                            obtain ⟨l4832, a4833, c4834, rfl⟩ := hst.len 2 rfl
                            refine OA.next trivial ?_
                            refine OA.pure [10] [(129, .bool (r4815.1 == r4823.1))] (by kernel_rfl) ?_
                            refine OA.act (i := 11) [] (by kernel_rfl) rfl rfl (by kernel_rfl) (by kernel_rfl) ?_
                            refine OW.pure 1 [(11, .bool (r4815.1 == r4823.1))] (by kernel_rfl) ?_
                            refine OA.next trivial ?_
                            refine OA.fin (by kernel_rfl) (by kernel_rfl) ?_
                            refine QW.block_normal ?_
                            obtain rfl := Option.some.inj ho4627
                            exact QW.meet (fun a ha => ⟨(.slice a4821 (r4815.2.tasks).length c4822), (.slice a4830 (r4823.2.Mode).length c4831), (.slice a4833 (r4823.2.Picks).length c4834), ha.agrees (by kernel_rfl), hst.keep [3, 4, 0, 1, 2, 5, 6] rfl⟩)
                          · have ho4627 := ite_f ho4627 hc4772
                            refine CW.cond_f rfl hc4772 ?_
                            refine CW.seq ?_
                            refine CW.region ?_
                            refine OW.pure 2 [(130, .bool (x4284.Kind == 4))] (by kernel_rfl) ?_
                            refine OW.nil rfl ?_
                            refine QW.next ?_
                            rcases Bool.eq_false_or_eq_true ((x4284.Kind == 4)) with hc4838 | hc4838
                            · have ho4627 := ite_t ho4627 hc4838
                              refine CW.cond_t rfl hc4838 ?_
                              refine CW.seq ?_
                              refine CW.region ?_
                              refine OW.pure 2 [(133, .pointer (some ⟨b50, 0, none⟩)), (134, .pointer (some ⟨b4321, 1, none⟩))] (by kernel_rfl) ?_
                              refine OW.ld rfl rfl rfl rfl (by kernel_rfl) (hst.blk 5 rfl rfl) ?_
                              obtain ⟨r4847, hr4848, ho4627⟩ := bind_some' ho4627
                              refine OW.fn rfl rfl rfl rfl (by kernel_rfl) (kern_Kern_Pick_ok _ b50 (.slice a4234 (s4229.1.tasks).length c4235) s4229.1 x4284.Choice r4847 hr4848 (hst.part [0, 1] rfl)) ?_
                              rintro e w4849 ⟨u4851, rfl, hst4850⟩
                              refine ⟨_, rfl, ?_⟩
                              have hst := hst.join (idx := [0, 1]) (rest := [2, 3, 4, 5, 6]) rfl hst4850
                              obtain ⟨l4852, a4853, c4854, rfl⟩ := hst.len 1 rfl
                              refine OW.pure 5 [(12, .int .i64 r4847.1), (13, .bool r4847.2.1)] (by kernel_rfl) ?_
                              refine OW.nil rfl ?_
                              refine QW.next ?_
                              refine CW.seq ?_
                              refine CW.region ?_
                              refine OW.pure 2 [(140, .pointer (some ⟨b88, 0, none⟩)), (141, .pointer (some ⟨b4321, 1, none⟩))] (by kernel_rfl) ?_
                              refine OW.ld rfl rfl rfl rfl (by kernel_rfl) (hst.blk 5 rfl rfl) ?_
                              obtain ⟨r4867, hr4868, ho4627⟩ := bind_some' ho4627
                              refine OW.fn rfl rfl rfl rfl (by kernel_rfl) (tappetref21_Kern_Pick_ok _ b88 (.slice a4237 (s4229.2.1.Mode).length c4238) (.slice a4240 (s4229.2.1.Picks).length c4241) s4229.2.1 x4284.Choice r4867 hr4868 (hst.part [2, 3, 4] rfl)) ?_
                              rintro e w4869 ⟨u4871, u4872, rfl, hst4870⟩
                              refine ⟨_, rfl, ?_⟩
                              have hst := hst.join (idx := [2, 3, 4]) (rest := [0, 1, 5, 6]) rfl hst4870
                              obtain ⟨l4873, a4874, c4875, rfl⟩ := hst.len 1 rfl
                              obtain ⟨l4876, a4877, c4878, rfl⟩ := hst.len 2 rfl
                              refine OW.pure 5 [(14, .int .i64 r4867.1), (15, .bool r4867.2.1)] (by kernel_rfl) ?_
                              refine OW.nil rfl ?_
                              refine QW.next ?_
                              refine CW.region ?_
                              refine OW.pure 4 [(149, .bool (r4847.1 == r4867.1))] (by kernel_rfl) ?_
                              refine OW.split 149 rfl (fun hc4879 => ?_) (fun hc4879 => ?_)
                              · have ho4627 := ite_t ho4627 hc4879
                                refine OW.pure 5 [(11, .bool (r4847.2.1 == r4867.2.1))] (by kernel_rfl) ?_
                                refine OW.nil rfl ?_
                                refine QW.block_normal ?_
                                obtain rfl := Option.some.inj ho4627
                                exact QW.meet (fun a ha => ⟨(.slice a4853 (r4847.2.2.tasks).length c4854), (.slice a4874 (r4867.2.2.Mode).length c4875), (.slice a4877 (r4867.2.2.Picks).length c4878), ha.agrees (by kernel_rfl), hst.keep [3, 4, 0, 1, 2, 5, 6] rfl⟩)
                              · have ho4627 := ite_f ho4627 hc4879
                                refine OW.pure 5 [(11, .bool false)] (by kernel_rfl) ?_
                                refine OW.nil rfl ?_
                                refine QW.block_normal ?_
                                obtain rfl := Option.some.inj ho4627
                                exact QW.meet (fun a ha => ⟨(.slice a4853 (r4847.2.2.tasks).length c4854), (.slice a4874 (r4867.2.2.Mode).length c4875), (.slice a4877 (r4867.2.2.Picks).length c4878), ha.agrees (by kernel_rfl), hst.keep [3, 4, 0, 1, 2, 5, 6] rfl⟩)
                            · have ho4627 := ite_f ho4627 hc4838
                              refine CW.cond_f rfl hc4838 ?_
                              refine CW.seq ?_
                              refine CW.region ?_
                              refine OW.pure 1 [(70, .pointer (some ⟨b50, 0, none⟩))] (by kernel_rfl) ?_
                              obtain ⟨r4894, hr4895, ho4627⟩ := bind_some' ho4627
                              refine OW.fn rfl rfl rfl rfl (by kernel_rfl) (kern_Kern_Fair_ok _ b50 (.slice a4234 (s4229.1.tasks).length c4235) s4229.1 r4894 hr4895 (hst.part [0, 1] rfl)) ?_
                              rintro e w4896 ⟨u4898, rfl, hst4897⟩
                              refine ⟨_, rfl, ?_⟩
                              have hst := hst.join (idx := [0, 1]) (rest := [2, 3, 4, 5, 6]) rfl hst4897
                              obtain ⟨l4899, a4900, c4901, rfl⟩ := hst.len 1 rfl
                              refine OW.pure 5 [(16, .int .i64 r4894.1), (17, .bool r4894.2.1)] (by kernel_rfl) ?_
                              refine OW.nil rfl ?_
                              refine QW.next ?_
                              refine CW.seq ?_
                              refine CW.region ?_
                              refine OW.pure 1 [(75, .pointer (some ⟨b88, 0, none⟩))] (by kernel_rfl) ?_
                              obtain ⟨r4914, hr4915, ho4627⟩ := bind_some' ho4627
                              refine OW.fn rfl rfl rfl rfl (by kernel_rfl) (tappetref21_Kern_Fair_ok _ fu b88 (.slice a4237 (s4229.2.1.Mode).length c4238) (.slice a4240 (s4229.2.1.Picks).length c4241) s4229.2.1 r4914 hr4915 (hst.part [2, 3, 4] rfl)) ?_
                              rintro e w4916 ⟨u4918, u4919, rfl, hst4917⟩
                              refine ⟨_, rfl, ?_⟩
                              have hst := hst.join (idx := [2, 3, 4]) (rest := [0, 1, 5, 6]) rfl hst4917
                              obtain ⟨l4920, a4921, c4922, rfl⟩ := hst.len 1 rfl
                              obtain ⟨l4923, a4924, c4925, rfl⟩ := hst.len 2 rfl
                              refine OW.pure 5 [(18, .int .i64 r4914.1), (19, .bool r4914.2.1)] (by kernel_rfl) ?_
                              refine OW.nil rfl ?_
                              refine QW.next ?_
                              refine CW.region ?_
                              refine OW.pure 4 [(82, .bool (r4894.1 == r4914.1))] (by kernel_rfl) ?_
                              refine OW.split 82 rfl (fun hc4926 => ?_) (fun hc4926 => ?_)
                              · have ho4627 := ite_t ho4627 hc4926
                                refine OW.pure 5 [(11, .bool (r4894.2.1 == r4914.2.1))] (by kernel_rfl) ?_
                                refine OW.nil rfl ?_
                                refine QW.block_normal ?_
                                obtain rfl := Option.some.inj ho4627
                                exact QW.meet (fun a ha => ⟨(.slice a4900 (r4894.2.2.tasks).length c4901), (.slice a4921 (r4914.2.2.Mode).length c4922), (.slice a4924 (r4914.2.2.Picks).length c4925), ha.agrees (by kernel_rfl), hst.keep [3, 4, 0, 1, 2, 5, 6] rfl⟩)
                              · have ho4627 := ite_f ho4627 hc4926
                                refine OW.pure 5 [(11, .bool false)] (by kernel_rfl) ?_
                                refine OW.nil rfl ?_
                                refine QW.block_normal ?_
                                obtain rfl := Option.some.inj ho4627
                                exact QW.meet (fun a ha => ⟨(.slice a4900 (r4894.2.2.tasks).length c4901), (.slice a4921 (r4914.2.2.Mode).length c4922), (.slice a4924 (r4914.2.2.Picks).length c4925), ha.agrees (by kernel_rfl), hst.keep [3, 4, 0, 1, 2, 5, 6] rfl⟩)
                  · rintro a w1 ⟨v4623, v4624, v4625, ha, hst⟩
                    refine CW.go ?_ ha
                    obtain ⟨l4933, a4934, c4935, rfl⟩ := hst.len 1 rfl
                    obtain ⟨l4936, a4937, c4938, rfl⟩ := hst.len 3 rfl
                    obtain ⟨l4939, a4940, c4941, rfl⟩ := hst.len 4 rfl
                    refine CW.seq ?_
                    obtain ⟨o4998, ho4999, hl4228⟩ := bind_some' hl4228
                    refine CW.cutK (fun a w1 => Rep 189 [(1, .slice a2 (p1).length c3), (5, .pointer (some ⟨b50, 0, none⟩)), (7, .pointer (some ⟨b88, 0, none⟩)), (8, .int .i64 s4229.2.2), (188, .bool o4998)] a ∧ St w (fp []) w1 [blkI b50 51 [.slice a4934 (o4626.1.tasks).length c4935, .int .i64 o4626.1.turns], rowI (.slice a4934 (o4626.1.tasks).length c4935) 55 enc_kern_task 2 o4626.1.tasks, blkI b88 43 [.slice a4937 (o4626.2.1.Mode).length c4938, .slice a4940 (o4626.2.1.Picks).length c4941], rowI (.slice a4937 (o4626.2.1.Mode).length c4938) 3 (encI .i64) 1 o4626.2.1.Mode, rowI (.slice a4940 (o4626.2.1.Picks).length c4941) 3 (encI .i64) 1 o4626.2.1.Picks]) ?_ ?_
                    · refine CW.plan (by kernel_rfl) ?_
                      intro w5000 hch5001
                      have hst := hst.same hch5001
                      refine OA.pure [0, 1, 2] [(156, .bool (!o4626.2.2))] (by kernel_rfl) ?_
                      refine OA.split 156 rfl (fun hc5002 => ?_) (fun hc5002 => ?_)
                      · have ho4999 := ite_t ho4999 hc5002
                        refine OA.pure [3, 4, 5, 6, 7, 8, 9, 10, 11, 12, 13, 14, 15, 16, 17, 18, 19, 20, 21, 22, 23, 24, 25, 26, 27, 28, 29, 30, 31, 32, 33, 34] [(188, .bool true)] (by kernel_rfl) ?_
                        refine OA.fin (by kernel_rfl) (by kernel_rfl) ?_
                        obtain rfl := Option.some.inj ho4999
                        exact QW.meet (fun a ha => ⟨ha.agrees (by kernel_rfl), hst.keep [0, 1, 2, 3, 4] rfl⟩)
                      · have ho4999 := ite_f ho4999 hc5002
                        refine OA.pure [3, 4] [(157, .slice a4340 ((([] : List Int) ++ x4284.Tasks)).length c4341), (158, .pointer (some ⟨b4321, 2, none⟩))] (by kernel_rfl) ?_
                        refine OA.ld (i := 5) rfl (by kernel_rfl) rfl rfl rfl (by kernel_rfl) (hst.blk 5 rfl rfl) ?_
                        refine OA.act (i := 6) [] (by kernel_rfl) rfl rfl (by kernel_rfl) (by kernel_rfl) ?_
                        obtain ⟨r5003, hr5004, ho4999⟩ := bind_some' ho4999
                        refine OW.fn rfl rfl rfl rfl (by kernel_rfl) (tappetlaw21_ints_ok _ (.slice a4340 ((([] : List Int) ++ x4284.Tasks)).length c4341) (([] : List Int) ++ x4284.Tasks) (.slice a4316 (x4284.Tasks).length c4317) x4284.Tasks r5003 hr5004 (hst.part [] rfl) (hst.rd 6 rfl (fun _ => rfl) [] rfl (hst.len 6 rfl).1) (h4313.give hst [])) ?_
                        rintro e w5005 ⟨rfl, hst5006⟩
                        refine ⟨_, rfl, ?_⟩
                        have hst := hst.join (idx := []) (rest := [0, 1, 2, 3, 4, 5, 6]) rfl hst5006
                        refine OA.next trivial ?_
                        refine OA.pure [7, 8, 9] [(163, .bool (!r5003))] (by kernel_rfl) ?_
                        refine OA.split 163 rfl (fun hc5007 => ?_) (fun hc5007 => ?_)
                        · have ho4999 := ite_t ho4999 hc5007
                          refine OA.pure [10, 11, 12, 13, 14, 15, 16, 17, 18, 19, 20, 21, 22, 23, 24, 25, 26, 27, 28, 29, 30, 31, 32, 33, 34] [(188, .bool true)] (by kernel_rfl) ?_
                          refine OA.fin (by kernel_rfl) (by kernel_rfl) ?_
                          obtain rfl := Option.some.inj ho4999
                          exact QW.meet (fun a ha => ⟨ha.agrees (by kernel_rfl), hst.keep [0, 1, 2, 3, 4] rfl⟩)
                        · have ho4999 := ite_f ho4999 hc5007
                          refine OA.pure [10, 12] [(164, .pointer (some ⟨b50, 0, none⟩)), (166, .pointer (some ⟨b88, 0, none⟩))] (by kernel_rfl) ?_
                          refine OA.act (i := 11) [] (by kernel_rfl) rfl rfl (by kernel_rfl) (by kernel_rfl) ?_
                          obtain ⟨r5008, hr5009, ho4999⟩ := bind_some' ho4999
                          refine OW.fn rfl rfl rfl rfl (by kernel_rfl) (kern_Kern_Ready_ok _ b50 (.slice a4934 (o4626.1.tasks).length c4935) o4626.1 r5008 hr5009 (hst.part [0, 1] rfl)) ?_
                          rintro e w5010 ⟨v5012, rfl, hst5011⟩
                          refine ⟨_, rfl, ?_⟩
                          have hst := hst.join (idx := [0, 1]) (rest := [2, 3, 4, 5, 6]) rfl hst5011
                          obtain ⟨l5013, a5014, c5015, rfl⟩ := hst.len 2 rfl
                          refine OA.next trivial ?_
                          refine OA.act (i := 13) [] (by kernel_rfl) rfl rfl (by kernel_rfl) (by kernel_rfl) ?_
                          obtain ⟨r5016, hr5017, ho4999⟩ := bind_some' ho4999
                          refine OW.fn rfl rfl rfl rfl (by kernel_rfl) (tappetref21_Kern_In_ok _ b88 (.slice a4937 (o4626.2.1.Mode).length c4938) (.slice a4940 (o4626.2.1.Picks).length c4941) o4626.2.1 1 r5016 hr5017 (hst.part [3, 4, 5] rfl)) ?_
                          rintro e w5018 ⟨v5020, rfl, hst5019⟩
                          refine ⟨_, rfl, ?_⟩
                          have hst := hst.join (idx := [3, 4, 5]) (rest := [0, 1, 2, 6, 7]) rfl hst5019
                          obtain ⟨l5021, a5022, c5023, rfl⟩ := hst.len 3 rfl
                          refine OA.next trivial ?_
                          refine OA.act (i := 14) [] (by kernel_rfl) rfl rfl (by kernel_rfl) (by kernel_rfl) ?_
                          obtain ⟨r5024, hr5025, ho4999⟩ := bind_some' ho4999
                          refine OW.fn rfl rfl rfl rfl (by kernel_rfl) (tappetlaw21_ints_ok _ (.slice a5014 (r5008).length c5015) r5008 (.slice a5022 (r5016).length c5023) r5016 r5024 hr5025 (hst.part [] rfl) (hst.rd 6 rfl (fun _ => rfl) [] rfl (hst.len 6 rfl).1) (hst.rd 3 rfl (fun _ => rfl) [] rfl (hst.len 3 rfl).1)) ?_
                          rintro e w5026 ⟨rfl, hst5027⟩
                          refine ⟨_, rfl, ?_⟩
                          have hst := hst.join (idx := []) (rest := [0, 1, 2, 3, 4, 5, 6, 7, 8]) rfl hst5027
                          refine OA.next trivial ?_
                          refine OA.pure [15, 16, 17] [(171, .bool (!r5024))] (by kernel_rfl) ?_
                          refine OA.split 171 rfl (fun hc5028 => ?_) (fun hc5028 => ?_)
                          · have ho4999 := ite_t ho4999 hc5028
                            refine OA.pure [18, 19, 20, 21, 22, 23, 24, 25, 26, 27, 28, 29, 30, 31, 32, 33, 34] [(188, .bool true)] (by kernel_rfl) ?_
                            refine OA.fin (by kernel_rfl) (by kernel_rfl) ?_
                            obtain rfl := Option.some.inj ho4999
                            exact QW.meet (fun a ha => ⟨ha.agrees (by kernel_rfl), hst.keep [4, 5, 0, 1, 2] rfl⟩)
                          · have ho4999 := ite_f ho4999 hc5028
                            refine OA.pure [18, 20] [(172, .pointer (some ⟨b50, 0, none⟩)), (174, .pointer (some ⟨b88, 0, none⟩))] (by kernel_rfl) ?_
                            refine OA.act (i := 19) [] (by kernel_rfl) rfl rfl (by kernel_rfl) (by kernel_rfl) ?_
                            obtain ⟨r5029, hr5030, ho4999⟩ := bind_some' ho4999
                            refine OW.fn rfl rfl rfl rfl (by kernel_rfl) (kern_Kern_Ended_ok _ b50 (.slice a4934 (o4626.1.tasks).length c4935) o4626.1 r5029 hr5030 (hst.part [4, 5] rfl)) ?_
                            rintro e w5031 ⟨v5033, rfl, hst5032⟩
                            refine ⟨_, rfl, ?_⟩
                            have hst := hst.join (idx := [4, 5]) (rest := [0, 1, 2, 3, 6, 7, 8]) rfl hst5032
                            obtain ⟨l5034, a5035, c5036, rfl⟩ := hst.len 2 rfl
                            refine OA.next trivial ?_
                            refine OA.act (i := 21) [] (by kernel_rfl) rfl rfl (by kernel_rfl) (by kernel_rfl) ?_
                            obtain ⟨r5037, hr5038, ho4999⟩ := bind_some' ho4999
                            refine OW.fn rfl rfl rfl rfl (by kernel_rfl) (tappetref21_Kern_In_ok _ b88 (.slice a4937 (o4626.2.1.Mode).length c4938) (.slice a4940 (o4626.2.1.Picks).length c4941) o4626.2.1 2 r5037 hr5038 (hst.part [3, 4, 5] rfl)) ?_
                            rintro e w5039 ⟨v5041, rfl, hst5040⟩
                            refine ⟨_, rfl, ?_⟩
                            have hst := hst.join (idx := [3, 4, 5]) (rest := [0, 1, 2, 6, 7, 8, 9]) rfl hst5040
                            obtain ⟨l5042, a5043, c5044, rfl⟩ := hst.len 3 rfl
                            refine OA.next trivial ?_
                            refine OA.act (i := 22) [] (by kernel_rfl) rfl rfl (by kernel_rfl) (by kernel_rfl) ?_
                            obtain ⟨r5045, hr5046, ho4999⟩ := bind_some' ho4999
                            refine OW.fn rfl rfl rfl rfl (by kernel_rfl) (tappetlaw21_ints_ok _ (.slice a5035 (r5029).length c5036) r5029 (.slice a5043 (r5037).length c5044) r5037 r5045 hr5046 (hst.part [] rfl) (hst.rd 6 rfl (fun _ => rfl) [] rfl (hst.len 6 rfl).1) (hst.rd 3 rfl (fun _ => rfl) [] rfl (hst.len 3 rfl).1)) ?_
                            rintro e w5047 ⟨rfl, hst5048⟩
                            refine ⟨_, rfl, ?_⟩
                            have hst := hst.join (idx := []) (rest := [0, 1, 2, 3, 4, 5, 6, 7, 8, 9, 10]) rfl hst5048
                            refine OA.next trivial ?_
                            refine OA.pure [23, 24, 25] [(179, .bool (!r5045))] (by kernel_rfl) ?_
                            refine OA.split 179 rfl (fun hc5049 => ?_) (fun hc5049 => ?_)
                            · have ho4999 := ite_t ho4999 hc5049
                              refine OA.pure [26, 27, 28, 29, 30, 31, 32, 33, 34] [(188, .bool true)] (by kernel_rfl) ?_
                              refine OA.fin (by kernel_rfl) (by kernel_rfl) ?_
                              obtain rfl := Option.some.inj ho4999
                              exact QW.meet (fun a ha => ⟨ha.agrees (by kernel_rfl), hst.keep [4, 5, 0, 1, 2] rfl⟩)
                            · have ho4999 := ite_f ho4999 hc5049
                              refine OA.pure [26, 28, 29, 30] [(180, .pointer (some ⟨b50, 0, none⟩)), (184, .pointer (some ⟨b88, 1, none⟩))] (by kernel_rfl) ?_
                              refine OA.ld (i := 31) rfl (by kernel_rfl) rfl rfl rfl (by kernel_rfl) (hst.blk 0 rfl rfl) ?_
                              refine OA.pure [32] [(186, .int .i64 (((o4626.2.1.Picks).length) : Int))] (by kernel_rfl) ?_
                              refine OA.act (i := 27) [31] (by kernel_rfl) rfl rfl (by kernel_rfl) (by kernel_rfl) ?_
                              obtain ⟨r5050, hr5051, ho4999⟩ := bind_some' ho4999
                              refine OW.fn rfl rfl rfl rfl (by kernel_rfl) (kern_Kern_Turns_ok _ b50 (.slice a4934 (o4626.1.tasks).length c4935) o4626.1 r5050 hr5051 (hst.part [4, 5] rfl)) ?_
                              rintro e w5052 ⟨rfl, hst5053⟩
                              refine ⟨_, rfl, ?_⟩
                              have hst := hst.join (idx := [4, 5]) (rest := [0, 1, 2, 3, 6, 7, 8, 9, 10]) rfl hst5053
                              refine OA.next ⟨(hst.blk 2 rfl rfl), trivial⟩ ?_
                              refine OA.pure [33, 34] [(188, .bool (r5050 != (((o4626.2.1.Picks).length) : Int)))] (by kernel_rfl) ?_
                              refine OA.fin (by kernel_rfl) (by kernel_rfl) ?_
                              obtain rfl := Option.some.inj ho4999
                              exact QW.meet (fun a ha => ⟨ha.agrees (by kernel_rfl), hst.keep [0, 1, 2, 3, 4] rfl⟩)
                    · rintro a w1 ⟨ha, hst⟩
                      refine CW.go ?_ ha
                      rcases Bool.eq_false_or_eq_true (o4998) with hc5054 | hc5054
                      · have hl4228 := ite_t hl4228 hc5054
                        refine CW.cond_t rfl hc5054 ?_
                        refine CW.seq ?_
                        refine CW.region ?_
                        refine OW.pure 1 [(4, .bool false)] (by kernel_rfl) ?_
                        refine OW.nil rfl ?_
                        refine QW.next ?_
                        refine CW.ret ?_
                        refine QW.block_ret ?_
                        refine QW.then_ret ?_
                        refine QW.then_ret ?_
                        refine QW.block_ret ?_
                        refine QW.then_ret ?_
                        obtain rfl := Option.some.inj hl4228
                        obtain rfl := Option.some.inj hF
                        refine QW.ret1 rfl rfl ?_
                        exact ⟨rfl, hst.keep [] rfl⟩
                      · have hl4228 := ite_f hl4228 hc5054
                        refine CW.cond_f rfl hc5054 ?_
                        refine CW.skip ?_
                        refine QW.block_normal ?_
                        refine QW.next ?_
                        refine CW.region ?_
                        refine OW.pure 3 [(8, .int .i64 (w64 (s4229.2.2 + 1)))] (by kernel_rfl) ?_
                        refine OW.nil rfl ?_
                        exact QW.meet (fun a ha => ⟨n4227, Nat.lt_succ_self _, (o4626.1, o4626.2.1, w64 (s4229.2.2 + 1)), (.slice a4934 (o4626.1.tasks).length c4935), (.slice a4937 (o4626.2.1.Mode).length c4938), (.slice a4940 (o4626.2.1.Picks).length c4941), ha.agrees (by kernel_rfl), hst.keep [0, 1, 2, 3, 4] rfl, hl4228⟩)
                · have hl4228 := ite_f hl4228 hc4243
                  refine CW.cond_f rfl hc4243 ?_
                  refine CW.exit ?_
                  refine QW.then_exit ?_
                  refine QW.then_exit ?_
                  refine QW.block_here ?_
                  obtain rfl := Option.some.inj hl4228
                  exact QW.meet (fun a ha => ⟨(), rfl, ha.agrees (by kernel_rfl), hst.keep [] rfl⟩)
            · rintro a w1 ⟨t2575, rfl, ha, hst⟩
              refine CW.go ?_ ha
              refine CW.seq ?_
              refine CW.region ?_
              refine OW.pure 1 [(4, .bool true)] (by kernel_rfl) ?_
              refine OW.nil rfl ?_
              refine QW.next ?_
              refine CW.ret ?_
              obtain rfl := Option.some.inj hF
              refine QW.ret1 rfl rfl ?_
              exact ⟨rfl, hst.keep [] rfl⟩
    · have hF := ocase_none hF he71
      refine ⟨_, rfl, ?_⟩
      have hst := hst.join (idx := []) (rest := []) rfl hst47
      refine OW.pure 5 [(5, .pointer none), (6, .int .i64 r44.2)] (by kernel_rfl) ?_
      refine OW.nil rfl ?_
      refine QW.next ?_
      refine CW.seq ?_
      refine CW.seq ?_
      refine CW.cutK (fun a w1 => Rep 189 [(0, .int .i64 p0), (1, .slice a2 (p1).length c3), (5, .pointer none), (6, .int .i64 r44.2), (32, .bool (decide (p0 < 1) || decide (p0 > 64)))] a ∧ St w (fp []) w1 []) ?_ ?_
      · refine CW.region ?_
        refine OW.pure 3 [(29, .bool (decide (p0 < 1)))] (by kernel_rfl) ?_
        refine OW.split 29 rfl (fun hc5059 => ?_) (fun hc5059 => ?_)
        · refine OW.pure 3 [(32, .bool true)] (by kernel_rfl) ?_
          refine OW.nil rfl ?_
          refine QW.say 32 (v := .bool (decide (p0 < 1) || decide (p0 > 64))) rfl (by first | (rw [hc5059]; done) | (rw [hc5059]; rfl) | simp [hc5059]) ?_
          exact QW.meet (fun a ha => ⟨ha.agrees (by kernel_rfl), hst.keep [] rfl⟩)
        · refine OW.pure 3 [(32, .bool (decide (p0 > 64)))] (by kernel_rfl) ?_
          refine OW.nil rfl ?_
          refine QW.say 32 (v := .bool (decide (p0 < 1) || decide (p0 > 64))) rfl (by first | (rw [hc5059]; done) | (rw [hc5059]; rfl) | simp [hc5059]) ?_
          exact QW.meet (fun a ha => ⟨ha.agrees (by kernel_rfl), hst.keep [] rfl⟩)
      · rintro a w1 ⟨ha, hst⟩
        refine CW.go ?_ ha
        rcases Bool.eq_false_or_eq_true ((decide (p0 < 1) || decide (p0 > 64))) with hc5060 | hc5060
        · have hF := ite_t hF hc5060
          refine CW.cond_t rfl hc5060 ?_
          refine CW.seq ?_
          refine CW.region ?_
          refine OW.pure 7 [(4, .bool (r44.2 == 2))] (by kernel_rfl) ?_
          refine OW.nil rfl ?_
          refine QW.next ?_
          refine CW.ret ?_
          refine QW.then_ret ?_
          obtain rfl := Option.some.inj hF
          refine QW.ret1 rfl rfl ?_
          exact ⟨rfl, hst.keep [] rfl⟩
        · have hF := ite_f hF hc5060
          refine CW.cond_f rfl hc5060 ?_
          refine CW.skip ?_
          refine QW.next ?_
          refine CW.seq ?_
          refine CW.seq ?_
          refine CW.region ?_
          refine OW.pure 6 [(44, .bool true)] (by kernel_rfl) ?_
          refine OW.nil rfl ?_
          refine QW.next ?_
          refine CW.cond_t rfl rfl ?_
          refine CW.seq ?_
          refine CW.region ?_
          refine OW.pure 1 [(4, .bool false)] (by kernel_rfl) ?_
          refine OW.nil rfl ?_
          refine QW.next ?_
          refine CW.ret ?_
          refine QW.then_ret ?_
          obtain rfl := Option.some.inj hF
          refine QW.ret1 rfl rfl ?_
          exact ⟨rfl, hst.keep [] rfl⟩

end Go.Proofs.Ythljmgepekhchaa
