/- The judge is sound: what is known at a place is so behind each step that leads there. -/
import Derived.Test.YtkgajppghpmkbaaDoorKSem
set_option linter.unusedVariables false
set_option linter.unusedSimpArgs false
namespace Go.Proofs.YtkgajppghpmkbaaDoor
open Go.Sx

theorem okAt {α : Type} {o : Option α} {x : α} {Q : α → Prop} (h : OK o Q) (e : o = some x) : Q x := by
  obtain ⟨y, h1, h2⟩ := h
  rw [e] at h1
  cases h1
  exact h2
theorem okBoth {α : Type} {o : Option α} {Q R : α → Prop} (h : OK o Q) (k : OK o R) : OK o (fun x => Q x ∧ R x) := by
  obtain ⟨y, h1, h2⟩ := h
  exact ⟨y, h1, h2, okAt k h1⟩
def Sems (k : Nat → api_Type) (regs : Nat → Int) : Prop := ∀ r, r < 8 → sem (k r) (regs r)
def U64s (regs : Nat → Int) : Prop := ∀ r, r < 8 → u64 (regs r)
def Wider (x x' : Nat → api_Type) : Prop := ∀ r n, r < 8 → u64 n → sem (x r) n → sem (x' r) n
theorem Wider.refl (x : Nat → api_Type) : Wider x x := fun _ _ _ _ h => h
theorem Wider.trans {x y z : Nat → api_Type} (h : Wider x y) (k : Wider y z) : Wider x z := fun r n hr hn hs => k r n hr hn (h r n hr hn hs)
theorem Wider.sems {x y : Nat → api_Type} {regs : Nat → Int} (h : Wider x y) (hu : U64s regs) (hs : Sems x regs) : Sems y regs := fun r hr => h r _ hr (hu r hr) (hs r hr)
theorem aset_sems {k : Nat → api_Type} {regs : Nat → Int} (h : Sems k regs) {t : Nat} {x : api_Type} {v : Int} (hv : sem x v) : Sems (aset k t x) (aset regs t v) := by
  intro r hr
  unfold aset
  split
  · exact hv
  · exact h r hr
theorem come_in {m : api_Module} {j : judge_judge} (h : JI m j) {p : Nat} (hp : p < m.Code.length) {k : Nat → api_Type} (hk : ∀ r, r < 8 → WT m.Maps.length (k r)) :
    OK (judge_judge_come j (p : Int) k) (fun j' => ∃ x', j'.came[p]? = some x' ∧ Wider k x' ∧ ∀ x, j.any[p]? = some true → j.came[p]? = some x → Wider x x') := by
  unfold judge_judge_come
  obtain ⟨a, ha, ha2⟩ := idx_lt (xs := j.any) (p := p) (by rw [h.lenA]; exact hp)
  obtain ⟨c, hc, hc2⟩ := idx_lt (xs := j.came) (p := p) (by rw [h.lenC]; exact hp)
  simp only [ha2, hc2, Option.bind_some, Int.toNat_natCast]
  refine OK.ite (fun hf => OK.ret ⟨k, ?_, Wider.refl _, fun x hx => ?_⟩) (fun hn => ?_)
  · show (j.came.set p k)[p]? = _
    rw [List.getElem?_set, if_pos rfl, if_pos (by rw [h.lenC]; exact hp)]
  · have hf : a = false := by simpa using hf
    rw [ha, hf] at hx; cases hx
  refine OK.bind2 (OK.count (fun i s => JI m s ∧ ∃ x', s.came[p]? = some x' ∧ (∀ r, i ≤ r → x' r = c r) ∧ ∀ r, r < i → ∀ n, (sem (k r) n ∨ sem (c r) n) → sem (x' r) n) ⟨h, c, hc, fun _ _ => rfl, fun r hr => by omega⟩ (fun i s again hi hI kk => ?_) (fun s hI => hI)) (fun o ho => OK.ret ?_)
  · unfold judge_judge_come_l1
    obtain ⟨hj, x', hx', h1, h2⟩ := hI
    obtain ⟨c', hc', hc2'⟩ := idx_lt (xs := s.came) (p := p) (by rw [hj.lenC]; exact hp)
    rw [hx'] at hc'; cases hc'
    have w1 := hj.wt p x' hx' i hi
    simp only [hc2', ainN hi, Option.bind_some, joined_eq w1.span (hk i hi).span, Int.toNat_natCast]
    refine kk _ ⟨hj.put (aset_wt (hj.wt p x' hx') (w1.join (hk i hi))) _ hj.lenA, aset x' i (joinT (x' i) (k i)), ?_, fun r hr => ?_, fun r hr n hn => ?_⟩
    · show (s.came.set p _)[p]? = _
      rw [List.getElem?_set, if_pos rfl, if_pos (by rw [hj.lenC]; exact hp)]
    · unfold aset
      rw [if_neg (by omega)]
      exact h1 r (by omega)
    · unfold aset
      by_cases e : r = i
      · subst e
        rw [if_pos rfl]
        refine sem_join w1 (hk r hi) ?_
        rw [h1 r (Nat.le_refl _)]
        exact hn.symm
      · rw [if_neg e]
        exact h2 r (by omega) n hn
  · obtain ⟨_, x', hx', _, h2⟩ := ho
    refine ⟨x', hx', fun r n hr _ hs => h2 r hr n (.inl hs), fun x _ hx r n hr _ hs => ?_⟩
    rw [hc] at hx; cases hx
    exact h2 r hr n (.inr hs)
theorem widen_in {m : api_Module} {j : judge_judge} (h : JI m j) (hg : Good m.Code) {p : Nat} (hp : p < m.Code.length) :
    OK (judge_judge_widen j (p : Int)) (fun j' => ∀ x, j.came[p]? = some x → ∃ x', j'.came[p]? = some x' ∧ Wider x x') := by
  unfold judge_judge_widen
  have upd : ∀ {c : Nat → api_Type} {t : Nat} {v : api_Type}, (∀ n, u64 n → sem v n) → Wider c (aset c t v) := by
    intro c t v hv r n hr hn hs
    unfold aset
    split
    · exact hv n hn
    · exact hs
  refine OK.bind2 (OK.count (Q := fun j' => ∀ x, j.came[p]? = some x → ∃ x', j'.came[p]? = some x' ∧ Wider x x') (fun _ s => JI m ⟨j.Module, s, j.any, j.loops⟩ ∧ ∀ x, j.came[p]? = some x → ∃ x', s[p]? = some x' ∧ Wider x x') ⟨⟨h.mod, h.lenC, h.lenA, h.lps, h.wt⟩, fun x hx => ⟨x, hx, Wider.refl x⟩⟩ (fun i s again hi hI k => ?_) (fun s hI => hI.2)) (fun o ho => OK.ret ho)
  unfold judge_judge_widen_l1
  refine OK.bind (OK.getN hi (fun l hl => OK.ite (fun _ => k _ hI) (fun hh => ?_)))
  rw [h.lps] at hl
  obtain ⟨a, ia, ha, hia, hop, rfl⟩ := mem_lps.1 (List.mem_of_getElem? hl)
  have hlp := hg.fine.loop hia hop
  have hn := hg.n64
  have e1 : (loopAt ia a).Head = (((a : Int) - ia.D).toNat : Int) := by show (a : Int) - ia.D = _; omega
  have e2 : w64 ((loopAt ia a).At + 1) = ((a + 1 : Nat) : Int) := by show w64 ((a : Int) + 1) = _; rw [w64_eq (by omega) (by omega)]; simp
  rw [e1, e2, h.mod, cut_ok (by omega) (by omega)]
  simp only [Option.bind_some]
  refine OK.bind2 (OK.count (fun _ s => JI m ⟨j.Module, s, j.any, j.loops⟩ ∧ ∀ x, j.came[p]? = some x → ∃ x', s[p]? = some x' ∧ Wider x x') hI (fun i s again hi hI k => ?_) (fun s hI => hI)) (fun o ho => k _ ho)
  unfold judge_judge_widen_l2
  refine OK.bind (OK.getN hi (fun x hx => ?_))
  have hr : OK (ops_Writes x) (fun r => r.2 = true → 0 ≤ r.1 ∧ r.1 < 8) := by
    rcases Bool.eq_false_or_eq_true (rightB x) with e | e
    · exact writes_ok e
    · exact writes_false e
  refine OK.bind2 hr (fun r hr => OK.ite (fun _ => k _ hI) (fun hw => ?_))
  have hr := hr (by simpa using hw)
  obtain ⟨c', hc', hc2'⟩ := idx_lt (xs := s) (p := p) (by rw [show s.length = m.Code.length from hI.1.lenC]; exact hp)
  simp only [hc2', ain8 hr.1 hr.2, Option.bind_some, full_eq, number_eq, Int.toNat_natCast]
  have go : ∀ {v : api_Type}, WT m.Maps.length v → (∀ n, u64 n → sem v n) → JI m ⟨j.Module, s.set p (aset c' r.1.toNat v), j.any, j.loops⟩ ∧ ∀ x, j.came[p]? = some x → ∃ x', (s.set p (aset c' r.1.toNat v))[p]? = some x' ∧ Wider x x' := by
    intro v hv hs
    refine ⟨hI.1.put (aset_wt (hI.1.wt p c' hc') hv) _ hI.1.lenA, fun x hx => ?_⟩
    obtain ⟨x', hx', hw⟩ := hI.2 x hx
    rw [hc'] at hx'; cases hx'
    refine ⟨_, by rw [List.getElem?_set, if_pos rfl, if_pos (by rw [show s.length = m.Code.length from hI.1.lenC]; exact hp)], hw.trans (upd hs)⟩
  exact OK.ite (fun _ => k _ (go (WT.num SW.full) (fun n hn => sem_num (inS_full hn)))) (fun _ => k _ (go WT.zero (fun n _ => sem_zero n)))
structure Grows (j j' : judge_judge) : Prop where
  grow : ∀ (q : Nat) (x : Nat → api_Type), j.any[q]? = some true → j.came[q]? = some x → ∃ x', j'.came[q]? = some x' ∧ Wider x x'
  keep : ∀ q : Nat, j.any[q]? = some true → j'.any[q]? = some true
theorem Grows.refl (j : judge_judge) : Grows j j := ⟨fun q x _ hx => ⟨x, hx, Wider.refl x⟩, fun _ h => h⟩
theorem Grows.trans {a b c : judge_judge} (h : Grows a b) (k : Grows b c) : Grows a c :=
  ⟨fun q x ha hx => by
    obtain ⟨x', h1, h2⟩ := h.grow q x ha hx
    obtain ⟨x'', h3, h4⟩ := k.grow q x' (h.keep q ha) h1
    exact ⟨x'', h3, h2.trans h4⟩, fun q ha => k.keep q (h.keep q ha)⟩
theorem come_all {m : api_Module} {j : judge_judge} (h : JI m j) {p : Nat} (hp : p < m.Code.length) {k : Nat → api_Type} (hk : ∀ r, r < 8 → WT m.Maps.length (k r)) :
    OK (judge_judge_come j (p : Int) k) (fun j' => JI m j' ∧ j'.any = j.any.set p true ∧ (∀ q, q ≠ p → j'.came[q]? = j.came[q]?) ∧ Grows j j' ∧ j'.any[p]? = some true ∧ ∃ x', j'.came[p]? = some x' ∧ Wider k x') := by
  refine (okBoth (come_ok h hp hk) (come_in h hp hk)).mono (fun j' hj' => ?_)
  obtain ⟨⟨h1, h2, h3⟩, x', h4, h5, h6⟩ := hj'
  have hat : j'.any[p]? = some true := by
    rw [h2, List.getElem?_set, if_pos rfl, if_pos (by rw [h.lenA]; exact hp)]
  refine ⟨h1, h2, h3, ⟨fun q x ha hx => ?_, fun q ha => ?_⟩, hat, x', h4, h5⟩
  · by_cases e : q = p
    · subst e; exact ⟨x', h4, h6 x ha hx⟩
    · exact ⟨x, by rw [h3 q e]; exact hx, Wider.refl x⟩
  · by_cases e : q = p
    · subst e; exact hat
    · rw [h2, set_ne e]; exact ha
def srcV (i : api_Inst) (regs : Nat → Int) : Int := if i.B == 8 then wu64 i.Imm else regs i.B.toNat
inductive Stp (i : api_Inst) (p : Nat) (regs : Nat → Int) : Nat → (Nat → Int) → Prop
  | set : i.Op = 0 → Stp i p regs (p + 1) (aset regs i.D.toNat (srcV i regs))
  | arith : 1 ≤ i.Op → i.Op ≤ 10 → Stp i p regs (p + 1) (aset regs i.D.toNat (ar i.Op (regs i.A.toNat) (srcV i regs)))
  | any (v : Int) : i.Op = 11 ∨ i.Op = 13 → u64 v → Stp i p regs (p + 1) (aset regs i.D.toNat v)
  | store : i.Op = 12 → Stp i p regs (p + 1) regs
  | map : i.Op = 14 → Stp i p regs (p + 1) (aset regs i.D.toNat i.Imm)
  | jump (q : Nat) : i.Op = 15 → (q : Int) = p + (i.D + 1) → Stp i p regs q regs
  | yes (q : Nat) : 16 ≤ i.Op → i.Op ≤ 19 → hl i.Op (regs i.A.toNat) (srcV i regs) = true → (q : Int) = p + (i.D + 1) → Stp i p regs q regs
  | no : 16 ≤ i.Op → i.Op ≤ 19 → hl i.Op (regs i.A.toNat) (srcV i regs) = false → Stp i p regs (p + 1) regs
  | back (q : Nat) : i.Op = 20 → (q : Int) = p - i.D → Stp i p regs q regs
  | on : i.Op = 20 → Stp i p regs (p + 1) regs
  | call (v : Int) : i.Op = 21 → (∀ s, sigs_of i.Imm = some (s, true) → 0 ≤ v ∧ v ≤ s.most) → Stp i p regs (p + 1) (aset regs 0 v)
structure Leaves (m : api_Module) (i : api_Inst) (k k' : Nat → api_Type) : Prop where
  same : 15 ≤ i.Op → i.Op ≤ 20 → k' = k
  plain : ∀ (p : Nat) regs q regs', ¬ (15 ≤ i.Op ∧ i.Op ≤ 20) → U64s regs → Sems k regs → Stp i p regs q regs' → Sems k' regs'
  nums : 16 ≤ i.Op → i.Op ≤ 19 → (k i.A.toNat).Kind = 1 ∧ (srcT i k).Kind = 1
  handle : i.Op = 21 → i.Imm ≤ 4 → (k 1).Kind = 2
theorem nums_in (l : List api_Type) : OK (judge_nums l) (fun r => r = 0 → ∀ x ∈ l, x.Kind = 1) := by
  unfold judge_nums
  refine OK.bind2 (OK.count (Q := fun o => match o with | .inl _ => ∀ x ∈ l, x.Kind = 1 | .inr r => r ≠ 0) (fun i _ => ∀ (q : Nat) (x : api_Type), q < i → l[q]? = some x → x.Kind = 1) (fun q x h => by omega) (fun i s again hi hI k => ?_) (fun _ hI => ?_)) (fun o ho => ?_)
  · unfold judge_nums_l1
    refine OK.bind (OK.getN hi (fun x hx => OK.ite (fun h => OK.ret (by simp)) (fun h => k _ (fun q y hq hy => ?_))))
    by_cases hqi : q < i
    · exact hI q y hqi hy
    · obtain rfl : q = i := by omega
      rw [hx] at hy; cases hy
      simpa using h
  · intro x hx
    obtain ⟨q, hq⟩ := List.mem_iff_getElem?.1 hx
    exact hI q x (List.getElem?_eq_some_iff.1 hq).1 hq
  · cases o with
    | inl _ => exact OK.ret (fun _ => ho)
    | inr r => exact OK.ret (fun h => absurd h ho)
theorem checkS_in (k : Fin 7) {l : List api_Type} (ha : sigs_Args 1000 ((k : Nat) : Int) = some l) (ys : List api_Type) : OK (sigs_Check 1000 ((k : Nat) : Int) ys) (fun r => r = 0 → ∀ (q : Nat) (x y : api_Type), l[q]? = some x → ys[q]? = some y → x.Kind = y.Kind) := by
  obtain ⟨s, h1, _⟩ := sig_ok k
  unfold sigs_Check
  simp only [h1, ha, Option.bind_some]
  refine OK.ite (fun h => by cases h) (fun _ => OK.ite (fun _ => OK.ret (by simp)) (fun hl => ?_))
  have hl : l.length = ys.length := by
    have : (l.length : Int) = ys.length := by simpa using hl
    omega
  refine OK.bind2 (OK.count (Q := fun o => match o with | .inl _ => ∀ (q : Nat) (x y : api_Type), l[q]? = some x → ys[q]? = some y → x.Kind = y.Kind | .inr r => r ≠ 0) (fun i _ => ∀ (q : Nat) (x y : api_Type), q < i → l[q]? = some x → ys[q]? = some y → x.Kind = y.Kind) (fun q x y h => by omega) (fun i s again hi hI kk => ?_) (fun _ hI => ?_)) (fun o ho => ?_)
  · unfold sigs_Check_l1
    refine OK.bind (OK.getN hi (fun x hx => OK.bind (OK.getN (by omega) (fun y hy => ?_))))
    refine OK.ite (fun _ => OK.ret (by simp)) (fun hk => OK.bind2 (R := fun _ => True) ?_ (fun o _ => OK.ite (fun _ => OK.ret (by simp)) (fun _ => kk _ (fun q a b hq ha hb => ?_))))
    · exact OK.ite (fun _ => OK.bind2 (within_ok _ _) (fun x _ => OK.ret trivial)) (fun _ => OK.ret trivial)
    · by_cases hqi : q < i
      · exact hI q a b hqi ha hb
      · obtain rfl : q = i := by omega
        rw [hx] at ha; rw [hy] at hb; cases ha; cases hb
        simpa using hk
  · intro q x y hx hy
    exact hI q x y (List.getElem?_eq_some_iff.1 hx).1 hx hy
  · cases o with
    | inl _ => exact OK.ret (fun _ => ho)
    | inr r => exact OK.ret (fun h => absurd h ho)
theorem args_first : ∀ k : Fin 7, (k : Nat) ≤ 4 → ∃ l x, sigs_Args 1000 ((k : Nat) : Int) = some l ∧ l[0]? = some x ∧ x.Kind = 2 := by
  intro k hk
  have h : ∀ k : Fin 7, (k : Nat) ≤ 4 → (sigs_Args 1000 ((k : Nat) : Int)).bind (fun l => (l[0]?).map (·.Kind)) = some 2 := by decide +kernel
  obtain ⟨l, h1, h2⟩ := Option.bind_eq_some_iff.1 (h k hk)
  obtain ⟨x, h3, h4⟩ := Option.map_eq_some_iff.1 h2
  exact ⟨l, x, h1, h3, h4⟩
theorem one_in {m : api_Module} {j : judge_judge} (h : JI m j) (hg : Good m.Code) {p : Nat} (hp : p < m.Code.length) :
    OK (judge_judge_one 1000 j (p : Int)) (fun r => r.2 = 0 → ∀ i k, m.Code[p]? = some i → j.came[p]? = some k → Leaves m i k r.1) := by
  have hn := hg.n64
  obtain ⟨i, hi, hi2⟩ := idx_lt hp
  obtain ⟨k, hk1, hk2⟩ := idx_lt (xs := j.came) (p := p) (by rw [h.lenC]; exact hp)
  have hk := h.wt p k hk1
  have hr := hg.fine.right hi
  have hop := right_op hr
  have hA := right_A hr
  have fin : ∀ {r : (Nat → api_Type) × Int}, (r.2 = 0 → Leaves m i k r.1) → r.2 = 0 → ∀ i' k', m.Code[p]? = some i' → j.came[p]? = some k' → Leaves m i' k' r.1 := by
    intro r hl h0 i' k' hi' hk'
    rw [hi] at hi'; rw [hk1] at hk'; cases hi'; cases hk'
    exact hl h0
  unfold judge_judge_one
  rw [h.mod, hi2, hk2]
  simp only [Option.bind_some, source_eq hr]
  refine OK.bind2 (R := fun t => (i.Op ≤ 12 ∨ (16 ≤ i.Op ∧ i.Op ≤ 19)) → t = srcT i k) ?_ (fun s hs => ?_)
  · refine OK.ite (fun hsrc => ?_) (fun hns => OK.ret (fun h => ?_))
    · have hb := right_src hr (by simp at hsrc; omega)
      rw [src_eq hb]
      exact OK.ret (fun _ => rfl)
    · simp at hns; omega
  rw [ain8 hA.1 hA.2]
  simp only [Option.bind_some, full_eq, number_eq]
  have hD : ¬ (15 ≤ i.Op ∧ i.Op ≤ 20) → ain 8 i.D = some i.D.toNat := fun h => ain8 (right_D hr h).1 (right_D hr h).2
  -- what is not a branch, a call or a test
  have mk : ∀ {k' : Nat → api_Type}, ¬ (15 ≤ i.Op ∧ i.Op ≤ 20) → i.Op ≠ 21 → (∀ (p : Nat) regs q regs', U64s regs → Sems k regs → Stp i p regs q regs' → Sems k' regs') → Leaves m i k k' :=
    fun h1 h2 h3 => ⟨fun a b => absurd ⟨a, b⟩ h1, fun p regs q regs' _ hu hs hst => h3 p regs q regs' hu hs hst, fun a b => absurd ⟨by omega, by omega⟩ h1, fun a => absurd a h2⟩
  refine OK.ite (fun e => ?_) (fun e0 => ?_)
  · have e : i.Op = 0 := by simpa using e
    refine OK.ite (fun _ => OK.ret (fin (fun h => by simp at h))) (fun _ => ?_)
    rw [hD (by omega)]
    refine OK.ret (fin (fun _ => mk (by omega) (by omega) (fun p regs q regs' hu hsm hst => ?_)))
    rw [hs (.inl (by omega))]
    cases hst with
    | set _ => exact aset_sems hsm (sem_src (right_src hr (.inl (by omega))) hsm)
    | _ => omega
  refine OK.ite (fun e => ?_) (fun e11 => ?_)
  · have e : i.Op = 11 := by simpa using e
    rw [hD (by omega)]
    simp only [Option.bind_some]
    refine OK.bind2 (nums_ok _) (fun a _ => OK.bind2 (word_ok _) (fun b _ => OK.bind2 (first_ok _) (fun c _ => OK.ret (fin (fun _ => mk (by omega) (by omega) (fun p regs q regs' hu hsm hst => ?_))))))
    cases hst with
    | any v _ hv => exact aset_sems hsm (sem_num (inS_full hv))
    | _ => omega
  refine OK.ite (fun e => ?_) (fun e12 => ?_)
  · have e : i.Op = 12 := by simpa using e
    refine OK.bind2 (nums_ok _) (fun a _ => OK.bind2 (word_ok _) (fun b _ => OK.bind2 (first_ok _) (fun c _ => OK.ret (fin (fun _ => mk (by omega) (by omega) (fun p regs q regs' hu hsm hst => ?_))))))
    cases hst with
    | store _ => exact hsm
    | _ => omega
  refine OK.ite (fun e => ?_) (fun e13 => ?_)
  · have e : i.Op = 13 := by simpa using e
    rw [hD (by omega)]
    refine OK.ret (fin (fun _ => mk (by omega) (by omega) (fun p regs q regs' hu hsm hst => ?_)))
    cases hst with
    | any v _ hv => exact aset_sems hsm (sem_num (inS_full hv))
    | _ => omega
  refine OK.ite (fun e => ?_) (fun e14 => ?_)
  · have e : i.Op = 14 := by simpa using e
    rw [hD (by omega)]
    simp only [Option.bind_some]
    refine OK.ite (fun _ => OK.ret (fin (fun h => by simp at h))) (fun hlt => OK.ret (fin (fun _ => mk (by omega) (by omega) (fun p regs q regs' hu hsm hst => ?_))))
    cases hst with
    | map _ => exact aset_sems hsm ⟨fun e => by simp at e, fun _ => rfl⟩
    | _ => omega
  refine OK.ite (fun e => ?_) (fun e15 => ?_)
  · have e : i.Op = 15 := by simpa using e
    exact OK.ret (fin (fun _ => ⟨fun _ _ => rfl, fun p regs q regs' hne => absurd ⟨by omega, by omega⟩ hne, fun a => by omega, fun a => by omega⟩))
  refine OK.bind2 (R := fun o => o = inB i.Op 16 19) ?_ (fun o ho => ?_)
  · refine OK.ite (fun e => OK.ret ?_) (fun e => OK.ite (fun e => OK.ret ?_) (fun e2 => OK.ite (fun e => OK.ret ?_) (fun e3 => OK.ret ?_)))
    · have e : i.Op = 16 := by simpa using e
      simp [e, inB]
    · have e : i.Op = 17 := by simpa using e
      simp [e, inB]
    · have e : i.Op = 18 := by simpa using e
      simp [e, inB]
    · simp only [beq_eq_false_iff_ne, ne_eq] at e e2 e3
      rcases Bool.eq_false_or_eq_true (i.Op == 19) with e4 | e4
      · have e5 : i.Op = 19 := by simpa using e4
        simp [e5, inB]
      · have e5 : i.Op ≠ 19 := by simpa using e4
        rw [e4, Eq.comm, inB, Bool.and_eq_false_iff]
        simp only [decide_eq_false_iff_not]
        omega
  refine OK.ite (fun e => ?_) (fun e16 => ?_)
  · rw [ho] at e
    have e : 16 ≤ i.Op ∧ i.Op ≤ 19 := by simpa [inB] using e
    refine OK.bind2 (nums_in _) (fun a ha => OK.ret (fin (fun h0 => ⟨fun _ _ => rfl, fun p regs q regs' hne => absurd ⟨by omega, by omega⟩ hne, fun _ _ => ?_, fun a => by omega⟩)))
    have := ha h0
    exact ⟨this _ (by simp), by rw [← hs (.inr e)]; exact this _ (by simp)⟩
  refine OK.ite (fun e => ?_) (fun e20 => ?_)
  · have e : i.Op = 20 := by simpa using e
    have lv : Leaves m i k k := ⟨fun _ _ => rfl, fun p regs q regs' hne => absurd ⟨by omega, by omega⟩ hne, fun a => by omega, fun a => by omega⟩
    refine OK.bind2 (nums_ok _) (fun a _ => OK.ite (fun ha => OK.ret (fin (fun _ => lv))) (fun _ => ?_))
    have hlp := hg.fine.loop hi e
    have ew : w64 ((p : Int) - i.D) = (((p : Int) - i.D).toNat : Int) := by rw [w64_eq (by omega) (by omega)]; omega
    obtain ⟨hd, hd1, hd2⟩ := idx_lt (xs := j.came) (p := ((p : Int) - i.D).toNat) (by rw [h.lenC]; omega)
    refine OK.bind2 (OK.count (Q := fun o => match o with | .inl _ => True | .inr r => r.2 ≠ 0) (fun t _ => True) trivial (fun t s again ht hI kk => ?_) (fun _ hI => trivial)) (fun o ho => ?_)
    · unfold judge_judge_one_l1
      simp only [ainN ht, ew, hd2, Option.bind_some]
      exact OK.bind2 (fits_ok _ _) (fun r hr => OK.ite (fun _ => OK.ret (by simp)) (fun hn => kk _ trivial))
    · cases o with
      | inl _ => exact OK.ret (fin (fun _ => lv))
      | inr r => exact OK.ret (fun h0 => absurd h0 ho)
  refine OK.ite (fun e => ?_) (fun e21 => ?_)
  · have e : i.Op = 21 := by simpa using e
    have him := right_imm hr e
    obtain ⟨n, hn⟩ := Int.eq_ofNat_of_zero_le him.1
    rw [hn]
    obtain ⟨l, hl, hl3⟩ := args_ok ⟨n, by omega⟩
    obtain ⟨sg, hs1, hs2, hs3⟩ := sig_ok ⟨n, by omega⟩
    have hl' : sigs_Args 1000 (n : Int) = some l := hl
    have hs1' : sigs_of (n : Int) = some (sg, true) := hs1
    simp only [hl', Option.bind_some]
    have ec : w64 (1 + (l.length : Int)) = ((1 + l.length : Nat) : Int) := by rw [w64_eq (by omega) (by omega)]; simp
    have hcut : cut (arrL 8 k) 1 (w64 (1 + (l.length : Int))) = some (((arrL 8 k).take (1 + l.length)).drop 1) := by
      rw [ec]
      exact cut_ok (lo := 1) (by omega) (by rw [arrL_len]; omega)
    rw [hcut]
    simp only [Option.bind_some]
    refine OK.bind2 (checkS_in ⟨n, by omega⟩ hl _) (fun r hrk => ?_)
    unfold sigs_Result
    simp only [hs1', Option.bind_some]
    refine OK.ret (fin (fun h0 => ⟨fun a b => by omega, fun p regs q regs' _ hu hsm hst => ?_, fun a b => by omega, fun _ h4 => ?_⟩))
    · cases hst with
      | call v _ hv =>
        have := hv sg (by rw [hn]; exact hs1')
        exact aset_sems hsm (sem_num ⟨this.1, this.2⟩)
      | _ => omega
    · obtain ⟨l2, x, h1, h2, h3⟩ := args_first ⟨n, by omega⟩ (by show n ≤ 4; omega)
      have h1' : sigs_Args 1000 (n : Int) = some l2 := h1
      rw [hl'] at h1'; cases h1'
      have hll := (List.getElem?_eq_some_iff.1 h2).1
      have hy : (((arrL 8 k).take (1 + l.length)).drop 1)[0]? = some (k 1) := by
        rw [List.getElem?_drop, List.getElem?_take, if_pos (by omega)]
        rfl
      rw [← hrk h0 0 x (k 1) h2 hy]
      exact h3
  refine OK.ite (fun e => ?_) (fun e22 => ?_)
  · have e : i.Op = 22 := by simpa using e
    refine OK.bind2 (nums_ok _) (fun a _ => OK.ret (fin (fun _ => mk (by omega) (by omega) (fun p regs q regs' hu hsm hst => ?_))))
    cases hst <;> omega
  simp only [beq_eq_false_iff_ne, ne_eq] at e0 e11 e12 e13 e14 e15 e20 e21 e22
  have e16' : ¬ (16 ≤ i.Op ∧ i.Op ≤ 19) := by
    rw [ho] at e16
    intro h
    simp [inB, h] at e16
  have o1 : 1 ≤ i.Op := by omega
  have o2 : i.Op ≤ 10 := by omega
  have hsb := right_src hr (.inl (by omega))
  have hse := hs (.inl (by omega))
  have hws : WT m.Maps.length s := by rw [hse]; exact srcT_ok hsb hk
  obtain ⟨d, hd1, hd2⟩ := do_ok (op := i.Op) (hk i.A.toNat (by omega)).span hws.span
  rw [hd1]
  simp only [Option.bind_some]
  rw [hD (by omega)]
  simp only [Option.bind_some]
  refine OK.bind2 (nums_in _) (fun a ha => OK.ret (fin (fun h0 => mk (by omega) (by omega) (fun p regs q regs' hu hsm hst => ?_))))
  have hkinds := ha h0
  cases hst with
  | arith _ _ =>
    refine aset_sems hsm (sem_num ?_)
    have hx := (hsm i.A.toNat (by omega)).1 (hkinds _ (by simp))
    have hy := (sem_src hsb hsm).1 (by rw [← hse]; exact hkinds _ (by simp))
    rw [← hse] at hy
    have hdi := okAt (do_in (hk i.A.toNat (by omega)).span hws.span hx hy o1 o2) hd1
    exact hdi
  | _ => omega
end Go.Proofs.YtkgajppghpmkbaaDoor
