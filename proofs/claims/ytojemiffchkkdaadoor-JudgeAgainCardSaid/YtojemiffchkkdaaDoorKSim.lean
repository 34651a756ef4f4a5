/- Two runs side by side: what the one answers the other answers too. The judge over a module and over a greater one. -/
import Derived.Test.YtojemiffchkkdaaDoorKLoops
set_option linter.unusedVariables false
set_option linter.unusedSimpArgs false
namespace Go.Proofs.YtojemiffchkkdaaDoor
open Go.Sx

/-- where o gives a value that is good, o' gives one that stands to it as R says -/
def Sim {α β : Type} (o : Option α) (o' : Option β) (G : α → Prop) (R : α → β → Prop) : Prop := ∀ r, o = some r → G r → ∃ r', o' = some r' ∧ R r r'
section
variable {α β α' β' : Type}
theorem Sim.same {o : Option α} {G : α → Prop} : Sim o o G (fun x y => y = x) := fun r h _ => ⟨r, h, rfl⟩
theorem Sim.ret {x : α} {y : β} {G : α → Prop} {R : α → β → Prop} (h : G x → R x y) : Sim (some x) (some y) G R := fun r hr hG => by cases hr; exact ⟨y, rfl, h hG⟩
theorem Sim.bind {o : Option α} {o' : Option α'} {f : α → Option β} {f' : α' → Option β'} {R1 : α → α' → Prop} {G : β → Prop} {R : β → β' → Prop} (h : Sim o o' (fun _ => True) R1) (k : ∀ x x', R1 x x' → Sim (f x) (f' x') G R) : Sim (o.bind f) (o'.bind f') G R := by
  intro r hr hG
  obtain ⟨x, hx, hf⟩ := bind_some' hr
  obtain ⟨x', hx', hR⟩ := h x hx trivial
  obtain ⟨r', h1, h2⟩ := k x x' hR r hf hG
  exact ⟨r', by rw [hx']; exact h1, h2⟩
theorem Sim.bindG {o : Option α} {o' : Option α'} {f : α → Option β} {f' : α' → Option β'} {G1 : α → Prop} {R1 : α → α' → Prop} {G : β → Prop} {R : β → β' → Prop} (h : Sim o o' G1 R1) (hg : ∀ x r, f x = some r → G r → G1 x) (k : ∀ x x', R1 x x' → Sim (f x) (f' x') G R) : Sim (o.bind f) (o'.bind f') G R := by
  intro r hr hG
  obtain ⟨x, hx, hf⟩ := bind_some' hr
  obtain ⟨x', hx', hR⟩ := h x hx (hg x r hf hG)
  obtain ⟨r', h1, h2⟩ := k x x' hR r hf hG
  exact ⟨r', by rw [hx']; exact h1, h2⟩
/-- the same first part on both sides -/
theorem Sim.both {o : Option α} {f : α → Option β} {f' : α → Option β'} {G : β → Prop} {R : β → β' → Prop} (k : ∀ x, Sim (f x) (f' x) G R) : Sim (o.bind f) (o.bind f') G R :=
  Sim.bind Sim.same (fun x x' e => by subst e; exact k _)
theorem Sim.ite {c : Bool} {A B : Option α} {A' B' : Option β} {G : α → Prop} {R : α → β → Prop} (h1 : c = true → Sim A A' G R) (h2 : c = false → Sim B B' G R) : Sim (if c then A else B) (if c then A' else B') G R := by
  cases c with
  | true => exact h1 rfl
  | false => exact h2 rfl
theorem Sim.mono {o : Option α} {o' : Option β} {G G' : α → Prop} {R R' : α → β → Prop} (h : Sim o o' G R) (hG : ∀ x, G' x → G x) (hR : ∀ x y, R x y → R' x y) : Sim o o' G' R' := fun r hr hg => by
  obtain ⟨r', h1, h2⟩ := h r hr (hG r hg)
  exact ⟨r', h1, hR _ _ h2⟩
theorem Sim.forN {σ σ' ρ ρ' : Type} {body : Nat → (σ → Option ρ) → σ → Option ρ} {body' : Nat → (σ' → Option ρ') → σ' → Option ρ'} {out : σ → ρ} {out' : σ' → ρ'} {G : ρ → Prop} {R : ρ → ρ' → Prop} (I : σ → σ' → Prop) (k N : Nat)
    (hb : ∀ i s s' again again', i < N → I s s' → (∀ t t', I t t' → Sim (again t) (again' t') G R) → Sim (body i again s) (body' i again' s') G R)
    (ho : ∀ s s', I s s' → Sim (some (out s)) (Sx.forN body' out' k N s') G R) : ∀ (n i : Nat) (s : σ) (s' : σ'), i + n = N → I s s' → Sim (Sx.forN body out n i s) (Sx.forN body' out' (n + k) i s') G R := by
  intro n
  induction n with
  | zero => intro i s s' hi hI; rw [Nat.zero_add]; have : i = N := by omega
            subst this; exact ho s s' hI
  | succ n ih =>
    intro i s s' hi hI
    rw [show n + 1 + k = (n + k) + 1 by omega]
    exact hb i s s' _ _ (by omega) hI (fun t t' hT => ih (i + 1) t t' (by omega) hT)
theorem Sim.forN0 {σ σ' ρ ρ' : Type} {body : Nat → (σ → Option ρ) → σ → Option ρ} {body' : Nat → (σ' → Option ρ') → σ' → Option ρ'} {out : σ → ρ} {out' : σ' → ρ'} {G : ρ → Prop} {R : ρ → ρ' → Prop} (I : σ → σ' → Prop) {N : Nat} {s : σ} {s' : σ'}
    (h0 : I s s') (hb : ∀ i s s' again again', i < N → I s s' → (∀ t t', I t t' → Sim (again t) (again' t') G R) → Sim (body i again s) (body' i again' s') G R)
    (ho : ∀ s s', I s s' → G (out s) → R (out s) (out' s')) : Sim (Sx.forN body out N 0 s) (Sx.forN body' out' N 0 s') G R :=
  Sim.forN I 0 N hb (fun s s' hI => Sim.ret (ho s s' hI)) N 0 s s' (by omega) h0
end
theorem sim_idx {α : Type} {xs X : List α} {p : Int} : Sim (idx xs p) (idx (xs ++ X) p) (fun _ => True) (fun x y => y = x ∧ p.toNat < xs.length) := by
  intro r hr _
  obtain ⟨h0, h1, h2⟩ := idx_some hr
  have h3 : p.toNat < xs.length := by omega
  refine ⟨r, ?_, rfl, h3⟩
  unfold idx
  rw [if_pos h0, List.getElem?_append_left h3, h2]
theorem sim_cut {α : Type} {xs X : List α} {lo hi : Int} : Sim (cut xs lo hi) (cut (xs ++ X) lo hi) (fun _ => True) (fun x y => y = x) := by
  intro r hr _
  obtain ⟨h0, h1, h2, rfl⟩ := cut_some hr
  refine ⟨_, ?_, rfl⟩
  unfold cut
  rw [if_pos ⟨h0, h1, by rw [List.length_append]; omega⟩, List.take_append_of_le_length (by omega)]

/-- j' is j over the greater module -/
structure Ext (m m' : api_Module) (X : List (Nat → api_Type)) (F : List Bool) (j j' : judge_judge) : Prop where
  mod : j.Module = m
  mod' : j'.Module = m'
  came : j'.came = j.came ++ X
  any : j'.any = j.any ++ F
  loops : j'.loops = j.loops
/-- m' is m, with more maps, and more code behind -/
structure More (m m' : api_Module) (T : List api_Inst) : Prop where
  code : m'.Code = m.Code ++ T
  maps : m.Maps.length ≤ m'.Maps.length
section
variable {m m' : api_Module} {T : List api_Inst} {X : List (Nat → api_Type)} {F : List Bool} {j j' : judge_judge}
theorem set_app {α : Type} {xs X : List α} {p : Nat} {v : α} (h : p < xs.length) : (xs ++ X).set p v = xs.set p v ++ X := by
  rw [List.set_append, if_pos h]
theorem sim_widen (hM : More m m' T) (h : Ext m m' X F j j') (p : Int) : Sim (judge_judge_widen j p) (judge_judge_widen j' p) (fun _ => True) (Ext m m' X F) := by
  unfold judge_judge_widen
  rw [h.loops]
  refine Sim.bind (R1 := Ext m m' X F) (Sim.forN0 (fun s s' => s' = s ++ X) h.came (fun i s s' again again' _ hI k => ?_) (fun s s' hI _ => ⟨h.mod, h.mod', hI, h.any, rfl⟩)) (fun x x' hx => Sim.ret (fun _ => hx))
  unfold judge_judge_widen_l1
  rw [h.loops, h.mod, h.mod', hM.code]
  refine Sim.both (fun l => Sim.ite (fun _ => k _ _ hI) (fun _ => ?_))
  refine Sim.bind sim_cut (fun ys ys' e => ?_)
  subst e
  refine Sim.bind (R1 := fun s s' => s' = s ++ X) (Sim.forN0 (fun s s' => s' = s ++ X) hI (fun i s s' again again' _ hI k => ?_) (fun s s' hI _ => hI)) (fun x x' hx => k _ _ hx)
  unfold judge_judge_widen_l2
  subst hI
  refine Sim.both (fun x => Sim.both (fun r => Sim.ite (fun _ => k _ _ rfl) (fun _ => ?_)))
  refine Sim.bind sim_idx (fun c c' e => ?_)
  obtain ⟨rfl, hl⟩ := e
  refine Sim.both (fun a => Sim.ite (fun _ => Sim.both (fun _ => Sim.both (fun _ => k _ _ (set_app hl)))) (fun _ => k _ _ (set_app hl)))
theorem sim_come (h : Ext m m' X F j j') (p : Int) (kn : Nat → api_Type) : Sim (judge_judge_come j p kn) (judge_judge_come j' p kn) (fun _ => True) (Ext m m' X F) := by
  unfold judge_judge_come
  rw [h.any, h.came]
  refine Sim.bind sim_idx (fun a a' e => ?_)
  obtain ⟨rfl, hla⟩ := e
  refine Sim.ite (fun _ => ?_) (fun _ => ?_)
  · refine Sim.bind sim_idx (fun c c' e => ?_)
    obtain ⟨rfl, hl⟩ := e
    exact Sim.ret (fun _ => ⟨h.mod, h.mod', set_app hl, set_app hla, h.loops⟩)
  · refine Sim.bind (R1 := Ext m m' X F) (Sim.forN0 (Ext m m' X F) h (fun i s s' again again' _ hI k => ?_) (fun s s' hI _ => hI)) (fun x x' hx => Sim.ret (fun _ => hx))
    unfold judge_judge_come_l1
    rw [hI.came]
    refine Sim.bind sim_idx (fun c c' e => ?_)
    obtain ⟨rfl, hl⟩ := e
    exact Sim.both (fun a => Sim.both (fun r => k _ _ ⟨hI.mod, hI.mod', set_app hl, hI.any, hI.loops⟩))
theorem sim_ways (hM : More m m' T) (h : Ext m m' X F j j') (p : Int) (kn : Nat → api_Type) : Sim (judge_judge_ways j p kn) (judge_judge_ways j' p kn) (fun _ => True) (Ext m m' X F) := by
  unfold judge_judge_ways
  rw [h.mod, h.mod', hM.code]
  have fwd : ∀ {o o' : Option judge_judge}, Sim o o' (fun _ => True) (Ext m m' X F) → Sim (o.bind fun r => some r) (o'.bind fun r => some r) (fun _ => True) (Ext m m' X F) := fun h => Sim.bind h (fun x x' hx => Sim.ret (fun _ => hx))
  refine Sim.bind sim_idx (fun i i' e => ?_)
  obtain ⟨rfl, _⟩ := e
  refine Sim.both (fun g => Sim.ite (fun _ => fwd (Sim.ite (fun _ => fwd (sim_come h _ _)) (fun _ => Sim.ret (fun _ => h)))) (fun _ => Sim.ite (fun _ => fwd (sim_come h _ _)) (fun _ => ?_)))
  refine Sim.both (fun sr => fwd (Sim.forN0 (Ext m m' X F) h (fun t s s' again again' _ hI k => ?_) (fun s s' hI _ => hI)))
  unfold judge_judge_ways_l1
  exact Sim.both (fun x => Sim.both (fun o => Sim.both (fun r => Sim.ite (fun _ => Sim.both (fun u => Sim.both (fun a => Sim.bind (sim_come hI _ _) (fun y y' hy => k _ _ hy)))) (fun _ => k _ _ hI))))
theorem sim_one (hM : More m m' T) (h : Ext m m' X F j j') (p : Int) : Sim (judge_judge_one 100 j p) (judge_judge_one 100 j' p) (fun r => r.2 = 0) (fun r r' => r' = r) := by
  unfold judge_judge_one
  rw [h.mod, h.mod', hM.code, h.came]
  refine Sim.bind (R1 := fun x y => y = x) (Sim.bind sim_idx (fun i i' e => Sim.bind sim_idx (fun c c' e2 => Sim.ret (fun _ => by rw [e.1, e2.1])))) (fun o o' e => ?_)
  subst e
  refine Sim.both (fun s => Sim.both (fun src => Sim.both (fun a => ?_)))
  refine Sim.ite (fun _ => Sim.same) (fun _ => Sim.ite (fun _ => Sim.same) (fun _ => Sim.ite (fun _ => Sim.same) (fun _ => Sim.ite (fun _ => Sim.same) (fun _ => Sim.ite (fun _ => ?_) (fun _ => Sim.ite (fun _ => Sim.same) (fun _ => ?_))))))
  · refine Sim.both (fun d => ?_)
    intro r hr hG
    by_cases hc : decide (o'.1.Imm ≥ ((m.Maps).length : Int)) = true
    · rw [if_pos hc] at hr
      cases hr
      cases hG
    · have h1 := of_decide_eq_false (Bool.eq_false_iff.2 hc)
      have h2 := hM.maps
      rw [if_neg hc] at hr
      have hc' : decide (o'.1.Imm ≥ ((m'.Maps).length : Int)) = false := by simp; omega
      exact ⟨r, by rw [hc']; exact hr, rfl⟩
  refine Sim.both (fun o6 => Sim.ite (fun _ => Sim.same) (fun _ => Sim.ite (fun _ => ?_) (fun _ => Sim.same)))
  refine Sim.both (fun r => Sim.ite (fun _ => Sim.same) (fun _ => ?_))
  refine Sim.bind (R1 := fun x y => y = x) (Sim.forN0 (fun _ _ => True) trivial (fun i s s' again again' _ _ k => ?_) (fun s s' _ _ => rfl)) (fun x x' e => by subst e; exact Sim.same)
  unfold judge_judge_one_l1
  rw [h.came]
  refine Sim.both (fun a => ?_)
  refine Sim.bind sim_idx (fun c c' e => ?_)
  obtain ⟨rfl, _⟩ := e
  exact Sim.both (fun f => Sim.ite (fun _ => Sim.ret (fun _ => rfl)) (fun _ => k _ _ trivial))
theorem Sim.bindE {α β α' β' : Type} {o : Option α} {o' : Option α'} {f : α → Option β} {f' : α' → Option β'} {R1 : α → α' → Prop} {G : β → Prop} {R : β → β' → Prop} (h : Sim o o' (fun _ => True) R1) (k : ∀ x x', o = some x → R1 x x' → Sim (f x) (f' x') G R) : Sim (o.bind f) (o'.bind f') G R := by
  intro r hr hG
  obtain ⟨x, hx, hf⟩ := bind_some' hr
  obtain ⟨x', hx', hR⟩ := h x hx trivial
  obtain ⟨r', h1, h2⟩ := k x x' hx hR r hf hG
  exact ⟨r', by rw [hx']; exact h1, h2⟩
theorem Sim.bindGE {α β α' β' : Type} {o : Option α} {o' : Option α'} {f : α → Option β} {f' : α' → Option β'} {G1 : α → Prop} {R1 : α → α' → Prop} {G : β → Prop} {R : β → β' → Prop} (h : Sim o o' G1 R1) (hg : ∀ x r, f x = some r → G r → G1 x) (k : ∀ x x', o = some x → G1 x → R1 x x' → Sim (f x) (f' x') G R) : Sim (o.bind f) (o'.bind f') G R := by
  intro r hr hG
  obtain ⟨x, hx, hf⟩ := bind_some' hr
  obtain ⟨x', hx', hR⟩ := h x hx (hg x r hf hG)
  obtain ⟨r', h1, h2⟩ := k x x' hx (hg x r hf hG) hR r hf hG
  exact ⟨r', by rw [hx']; exact h1, h2⟩
theorem okAt {α : Type} {o : Option α} {x : α} {Q : α → Prop} (h : OK o Q) (e : o = some x) : Q x := by
  obtain ⟨y, h1, h2⟩ := h
  rw [e] at h1
  cases h1
  exact h2
theorem skip : ∀ (k i : Nat) (s : judge_judge), (∀ q, i ≤ q → q < i + k → s.any[q]? = some false) → Sx.forN (judge_judged_l1 100) (fun (s : judge_judge) => (.inl s)) k i s = some (.inl s) := by
  intro k
  induction k with
  | zero => intro i s _; rfl
  | succ k ih =>
    intro i s h
    show judge_judged_l1 100 i (Sx.forN _ _ k (i + 1)) s = _
    unfold judge_judged_l1
    have h1 := h i (Nat.le_refl _) (by omega)
    have h2 : idx s.any (i : Int) = some false := by
      unfold idx
      rw [if_pos (by omega)]
      simpa using h1
    rw [h2]
    simp only [Option.bind_some, Bool.not_false, if_true]
    exact ih (i + 1) s (fun q h3 h4 => h q (by omega) (by omega))
/-- the loop over the places, and over those behind -/
theorem sim_core (hM : More m m' T) (hg : Good m.Code) {k : Nat} {s s' : judge_judge} (h : Ext m m' X (List.replicate k false) s s') (hs : JI m s) :
    Sim (Sx.forN (judge_judged_l1 100) (fun (s : judge_judge) => (.inl s)) m.Code.length 0 s) (Sx.forN (judge_judged_l1 100) (fun (s : judge_judge) => (.inl s)) (m.Code.length + k) 0 s')
      (fun r => ∃ j, r = .inl j) (fun r r' => ∃ j j', r = .inl j ∧ r' = .inl j' ∧ Ext m m' X (List.replicate k false) j j') := by
  refine Sim.forN (fun s s' => Ext m m' X (List.replicate k false) s s' ∧ JI m s) k m.Code.length (fun i s s' again again' hi hI kk => ?_) (fun s s' hI => ?_) m.Code.length 0 s s' (by omega) ⟨h, hs⟩
  · unfold judge_judged_l1
    rw [hI.1.any]
    refine Sim.bind sim_idx (fun a a' e => ?_)
    obtain ⟨rfl, _⟩ := e
    refine Sim.ite (fun _ => kk _ _ hI) (fun _ => Sim.bindE (sim_widen hM hI.1 _) (fun w w' hw0 hw => ?_))
    have jw := okAt (widen_ok hI.2 hg hi) hw0
    refine Sim.bindGE (sim_one hM hw _) (fun x r hx hG => ?_) (fun x x' hx0 hx1 e => ?_)
    · obtain ⟨j, rfl⟩ := hG
      by_cases hc : (x.2 != 0) = true
      · rw [if_pos hc] at hx; cases hx
      · simpa using hc
    · subst e
      have ho := okAt (one_ok jw.1 hg hi) hx0
      refine Sim.ite (fun hc => ?_) (fun _ => Sim.bindE (sim_ways hM hw _ _) (fun y y' hy0 hy => kk _ _ ⟨hy, ?_⟩))
      · exact absurd hx1 (by simpa using hc)
      · exact (okAt (ways_ok jw.1 hg hi (ho hx1).1) hy0).1
  · have hl := hI.2.lenA
    rw [skip k m.Code.length s' (fun q h1 h2 => ?_)]
    · exact Sim.ret (fun _ => ⟨s, s', rfl, rfl, hI.1⟩)
    · rw [hI.1.any, List.getElem?_append_right (by omega), List.getElem?_replicate]
      simp; omega
def init (m : api_Module) : judge_judge := ⟨m, List.replicate m.Code.length (fun _ => zeroT), (List.replicate m.Code.length false).set 0 true, lps m.Code m.Code.length⟩
theorem judged_eq {m : api_Module} (hg : Good m.Code) (hgm : GoodM m.Maps) : judge_judged 100 m = (Sx.forN (judge_judged_l1 100) (fun (s : judge_judge) => (.inl s)) m.Code.length 0 (init m)).bind fun o => match o with
    | .inl t => some (some t, 0, 0)
    | .inr r => some r := by
  have hn := hg.n64
  have hn1 := hg.n1
  obtain ⟨g, hg1, hg2⟩ := good_ok m.Maps
  have : g = true := hg2.2 hgm
  subst this
  have hm : ∀ b : Nat, b ≤ 256 → mkLen ((m.Code).length : Int) b = some m.Code.length := by
    intro b hb
    unfold mkLen
    rw [if_pos ⟨by omega, by
      have : m.Code.length * b ≤ 64 * 256 := Nat.mul_le_mul hn hb
      simp only [Int.toNat_natCast]; omega⟩]
    simp
  have e0 : idx (List.replicate m.Code.length false) 0 = some false := by
    have := idxN (xs := List.replicate m.Code.length false) (i := 0) (by simp; omega)
    simpa using this
  unfold judge_judged
  simp only [hg1, check_good hg, good_loops hg, hm 256 (by omega), hm 1 (by omega), Option.bind_some, e0]
  rfl
theorem lps_app {code T : List api_Inst} (hT : ∀ t ∈ T, t.Op ≠ 20) : ∀ k, lps (code ++ T) k = lps code k
  | 0 => rfl
  | k + 1 => by
    unfold lps
    rw [lps_app hT k]
    rcases Nat.lt_or_ge k code.length with h | h
    · rw [List.getElem?_append_left h]
    · rw [List.getElem?_append_right h, List.getElem?_eq_none h]
      cases he : T[k - code.length]? with
      | none => rfl
      | some t =>
        have := hT t (List.mem_of_getElem? he)
        simp [this]
theorem lps_end {code : List api_Inst} : ∀ k, lps code (code.length + k) = lps code code.length
  | 0 => rfl
  | k + 1 => by
    show lps code ((code.length + k) + 1) = _
    rw [lps, List.getElem?_eq_none (by omega)]
    exact lps_end k
theorem judged_more (hM : More m m' T) (hg : Good m.Code) (hgm : GoodM m.Maps) (hg' : Good m'.Code) (hgm' : GoodM m'.Maps) (hT : ∀ t ∈ T, t.Op ≠ 20) {p e : Int} (h : judge_judged 100 m = some (some j, p, e)) :
    ∃ j', judge_judged 100 m' = some (some j', 0, 0) ∧ Ext m m' (List.replicate T.length (fun _ => zeroT)) (List.replicate T.length false) j j' := by
  have hn1 := hg.n1
  have hl : m'.Code.length = m.Code.length + T.length := by rw [hM.code, List.length_append]
  have hinit : Ext m m' (List.replicate T.length (fun _ => zeroT)) (List.replicate T.length false) (init m) (init m') := by
    refine ⟨rfl, rfl, ?_, ?_, ?_⟩
    · show List.replicate _ _ = List.replicate _ _ ++ _
      rw [hl, ← List.replicate_append_replicate]
    · show (List.replicate _ _).set 0 true = (List.replicate _ _).set 0 true ++ _
      rw [hl, ← List.replicate_append_replicate, set_app (by rw [List.length_replicate]; omega)]
    · show lps _ _ = lps _ _
      rw [hM.code, lps_app hT, List.length_append, lps_end]
  rw [judged_eq hg hgm] at h
  obtain ⟨o, ho, h2⟩ := bind_some' h
  have hji : JI m (init m) := (upto0 hg).ji
  rw [judged_eq hg' hgm', hl]
  cases o with
  | inl t =>
    simp only [Option.some.injEq, Prod.mk.injEq] at h2
    obtain ⟨rfl, _⟩ := h2
    obtain ⟨r', h3, j1, j2, h4, h5, h6⟩ := sim_core hM hg hinit hji _ ho ⟨_, rfl⟩
    cases h4
    subst h5
    rw [h3]
    exact ⟨j2, rfl, h6⟩
  | inr r =>
    exfalso
    have hh := okAt (judged_ok m) (x := r) (by rw [judged_eq hg hgm, ho]; rfl)
    simp only [Option.some.injEq] at h2
    subst h2
    -- the loop's own end gives no object
    have hq : OK (Sx.forN (judge_judged_l1 100) (fun (s : judge_judge) => (.inl s)) m.Code.length 0 (init m)) (fun o => match o with | .inl _ => True | .inr r => r.1 = none) :=
      OK.count (fun i s => Upto m i s) (upto0 hg) (fun i s again hi hI k => step_ok hI hg hi again k (fun e he => rfl)) (fun s hI => trivial)
    have := okAt hq ho
    cases this
end
end Go.Proofs.YtojemiffchkkdaaDoor
