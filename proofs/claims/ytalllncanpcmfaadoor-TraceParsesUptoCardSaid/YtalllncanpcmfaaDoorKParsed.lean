/- Any line is read, or told to be none; what is plain; texts. -/
import Derived.Test.YtalllncanpcmfaaDoorKLine
set_option linter.unusedVariables false
set_option linter.unusedSimpArgs false
namespace Go.Proofs.YtalllncanpcmfaaDoor
open Go.Sx

theorem find_ok (w : ByteArray) : ∃ n, trace_find w = some n ∧ 0 ≤ n ∧ n ≤ 17 := by
  have : OK (trace_find w) (fun n => 0 ≤ n ∧ n ≤ 17) := by
    unfold trace_find
    refine OK.bind2 (OK.count (Q := fun o => match o with | .inl _ => True | .inr n => 0 ≤ n ∧ n ≤ 17) (fun i _ => True) trivial (fun i s again hi _ k => ?_) (fun s _ => trivial)) (fun o ho => ?_)
    · unfold trace_find_l1
      refine OK.bind (OK.getN (xs := tab_g0) (by rw [show tab_g0.length = 18 from rfl]; exact hi) (fun x hx => ?_))
      exact OK.ite (fun _ => OK.ret ⟨by omega, by omega⟩) (fun _ => k _ trivial)
    · cases o with
      | inl _ => exact OK.ret ⟨by decide, by decide⟩
      | inr r => exact OK.ret ho
  obtain ⟨n, h, a, b⟩ := this
  exact ⟨n, h, a, b⟩
theorem parsedL_fu (r : List ByteArray) (o : api_Entry × ByteArray) (ho : ∀ p, p < o.2.size → runeEnd o.2 p = p + 1) : ∀ (n fu fv : Nat) (s : api_Entry) (p : Nat), o.2.size = p + n → n < fu → n < fv → loop (trace_parsed_l1 r o) fu (s, p) = loop (trace_parsed_l1 r o) fv (s, p) := by
  intro n
  induction n with
  | zero =>
    intro fu fv s p hp h1 h2
    obtain ⟨fu, rfl⟩ : ∃ f, fu = f + 1 := ⟨fu - 1, by omega⟩
    obtain ⟨fv, rfl⟩ : ∃ f, fv = f + 1 := ⟨fv - 1, by omega⟩
    show trace_parsed_l1 r o (loop (trace_parsed_l1 r o) fu) (s, p) = trace_parsed_l1 r o (loop (trace_parsed_l1 r o) fv) (s, p)
    unfold trace_parsed_l1
    rw [if_neg (by simp; omega), if_neg (by simp; omega)]
  | succ n ih =>
    intro fu fv s p hp h1 h2
    obtain ⟨fu, rfl⟩ : ∃ f, fu = f + 1 := ⟨fu - 1, by omega⟩
    obtain ⟨fv, rfl⟩ : ∃ f, fv = f + 1 := ⟨fv - 1, by omega⟩
    have step : ∀ again, trace_parsed_l1 r o again (s, p) = (idx r (w64 ((p : Int) + 1))).bind fun x => (trace_read s (runeAt o.2 p) x).bind fun q => if (!q.1) then some (.inr (⟨0, 0, 0, 0, 0, 0, 0, 0, 0, 0, ⟨0, 0, 0, 0⟩, ⟨0, false, 0, false, 0, 0⟩, 0, 0⟩, false)) else again (q.2, runeEnd o.2 p) := by
      intro again
      unfold trace_parsed_l1
      rw [if_pos (by simp; omega)]
    show trace_parsed_l1 r o (loop (trace_parsed_l1 r o) fu) (s, p) = trace_parsed_l1 r o (loop (trace_parsed_l1 r o) fv) (s, p)
    rw [step, step, ho p (by omega)]
    cases idx r (w64 ((p : Int) + 1)) with
    | none => rfl
    | some x =>
      simp only [Option.bind_some]
      cases trace_read s (runeAt o.2 p) x with
      | none => rfl
      | some q =>
        simp only [Option.bind_some]
        cases q.1 with
        | false => rfl
        | true => exact ih fu fv _ _ (by omega) (by omega) (by omega)
/-- the letters of a mark -/
theorem lets {m : Int} (h0 : 1 ≤ m) (h1 : m ≤ 17) : ∃ f, idx tab_g0 m = some f ∧ tab_g0[m.toNat]? = some f ∧ Letters f := by
  obtain ⟨f, hf, hL, _⟩ := letters_at (k := m.toNat) (by omega)
  exact ⟨f, by unfold idx; rw [if_pos (by omega)]; exact hf, hf, hL⟩
theorem parsed_fu {fu : Nat} (h : 30 ≤ fu) (s : ByteArray) : trace_parsed fu s = trace_parsed 1000 s := by
  unfold trace_parsed
  cases strings_Split s (⟨[32].toArray⟩) with
  | none => rfl
  | some r =>
    simp only [Option.bind_some]
    cases idx r 0 with
    | none => rfl
    | some w =>
      simp only [Option.bind_some]
      obtain ⟨m, hm, m0, m1⟩ := find_ok w
      rw [hm]
      simp only [Option.bind_some]
      by_cases h1 : m < 1
      · rw [if_pos (by simpa using h1), if_pos (by simpa using h1)]
      · rw [if_neg (by simpa using h1), if_neg (by simpa using h1)]
        obtain ⟨f, hf, _, hL⟩ := lets (m := m) (by omega) m1
        rw [hf]
        simp only [Option.bind_some]
        obtain ⟨a, ha, ha2, ha3, _⟩ := hL.let_ false
        obtain ⟨b, hb, hb2, hb3, _⟩ := hL.let_ true
        obtain ⟨sf, hsf⟩ := hL.suf
        rw [ha, hb, hsf]
        simp only [Option.bind_some]
        have key : ∀ (o : api_Entry × ByteArray), (o.2.size ≤ 20 ∧ ∀ p, p < o.2.size → runeEnd o.2 p = p + 1) → ∀ (k : api_Entry ⊕ (api_Entry × Bool) → Option (api_Entry × Bool)) (k2 : api_Entry ⊕ (api_Entry × Bool) → Option (api_Entry × Bool)), (∀ q, k q = k2 q) → (loop (trace_parsed_l1 r o) fu (o.1, 0)).bind k = (loop (trace_parsed_l1 r o) 1000 (o.1, 0)).bind k2 := by
          intro o ho k k2 hk
          rw [parsedL_fu r o ho.2 o.2.size fu 1000 o.1 0 (by omega) (by omega) (by omega)]
          exact congrArg _ (funext hk)
        have kk : ∀ q : api_Entry ⊕ (api_Entry × Bool), (match q with | .inl t => (trace_line fu t).bind fun r306 => some (t, sEq r306 s) | .inr r => some r) = (match q with | .inl t => (trace_line 1000 t).bind fun r306 => some (t, sEq r306 s) | .inr r => some r) := by
          intro q
          cases q with
          | inl t => simp only [line_fu h]
          | inr t => rfl
        generalize (if ((r.length : Int) == (w64 ((a.size : Int) + 3))) then some sf else some false : Option Bool) = c1
        cases c1 with
        | none => rfl
        | some c1 =>
          simp only [Option.bind_some]
          cases c1 with
          | true =>
            simp only [if_true, Option.bind_some]
            split
            · rfl
            · exact key _ ⟨hb2, hb3⟩ _ _ kk
          | false =>
            simp only [Bool.false_eq_true, if_false, Option.bind_some]
            split
            · rfl
            · exact key _ ⟨ha2, ha3⟩ _ _ kk
/-- ANY LINE -/
theorem parsed_total {s : ByteArray} (hs : s.size ≤ 1048576) : ∃ e b, trace_parsed 1000 s = some (e, b) ∧ (b = true → wfE e ∧ 1 ≤ e.What ∧ e.What ≤ 17 ∧ trace_line 1000 e = some s) := by
  have goal : OK (trace_parsed 1000 s) (fun r => r.2 = true → wfE r.1 ∧ 1 ≤ r.1.What ∧ r.1.What ≤ 17 ∧ trace_line 1000 r.1 = some s) := by
    unfold trace_parsed
    have hsp : strings_Split s (⟨[32].toArray⟩) = some (Lib.splitB sp 0 (Lib.countB s sp) s) := by
      unfold strings_Split
      rw [if_pos ⟨by omega, by decide⟩]
      rfl
    have hlen := Lib.splitB_all sp (by decide) 0 _ s rfl
    have hsm := splitB_small (Lib.countB s sp) s
    have hcl := Lib.countB_le sp (by decide) s.size s (Nat.le_refl _)
    rw [hsp]
    simp only [Option.bind_some]
    generalize Lib.splitB sp 0 (Lib.countB s sp) s = ws at hlen hsm
    cases ws with
    | nil => simp at hlen
    | cons w r =>
      rw [show idx (w :: r) 0 = some w from rfl]
      simp only [Option.bind_some]
      obtain ⟨m, hm, m0, m1⟩ := find_ok w
      rw [hm]
      simp only [Option.bind_some]
      refine OK.ite (fun _ => OK.ret (fun e => by cases e)) (fun h1 => ?_)
      have h1 : 1 ≤ m := by simp at h1; omega
      obtain ⟨f, hf, _, hL⟩ := lets h1 m1
      rw [hf]
      simp only [Option.bind_some]
      obtain ⟨a, ha, ha2, ha3, ha4⟩ := hL.let_ false
      obtain ⟨b, hb, hb2, hb3, hb4⟩ := hL.let_ true
      obtain ⟨sf, hsf⟩ := hL.suf
      rw [ha, hb, hsf]
      simp only [Option.bind_some]
      have z0 : ∀ out, wfE ⟨m, 0, 0, 0, 0, 0, 0, 0, 0, 0, ⟨0, 0, 0, 0⟩, ⟨0, false, 0, out, 0, 0⟩, 0, 0⟩ := fun out =>
        ⟨⟨by show _ ≤ m; omega, by show m ≤ _; omega⟩, i64_0, i64_0, i64_0, i64_0, i64_0, i64_0, i64_0, i64_0, i64_0, i64_0, i64_0, u64_0, u64_0, i64_0, u64_0, u64_0, u64_0, u64_0, i64_0⟩
      refine OK.bind2 (R := fun _ => True) (OK.ite (fun _ => OK.ret trivial) (fun _ => OK.ret trivial)) (fun c _ => ?_)
      refine OK.bind2 (R := fun o => wfE o.1 ∧ o.1.What = m ∧ o.2.size ≤ 20 ∧ (∀ p, p < o.2.size → runeEnd o.2 p = p + 1) ∧ (∀ p, p < o.2.size → 33 ≤ runeAt o.2 p ∧ runeAt o.2 p < 128)) ?_ (fun o ho => ?_)
      · exact OK.ite (fun _ => OK.ret ⟨z0 true, rfl, hb2, hb3, hb4⟩) (fun _ => OK.ret ⟨z0 false, rfl, ha2, ha3, ha4⟩)
      obtain ⟨o1, o2, o3, o4, o5⟩ := ho
      refine OK.ite (fun _ => OK.ret (fun e => by cases e)) (fun e => ?_)
      have e2 : (w :: r).length = o.2.size + 1 := by
        rw [w64_eq (by omega) (by omega)] at e
        have : (((w :: r).length : Nat) : Int) = (o.2.size : Int) + 1 := by simpa using e
        omega
      refine OK.bind2 (R := fun q => match q with | .inl t => wfE t ∧ t.What = m | .inr q => q.2 = false) ?_ (fun q hq => ?_)
      · refine OK.rounds (fun (t : api_Entry × Nat) => wfE t.1 ∧ t.1.What = m ∧ t.2 ≤ o.2.size) (fun t => o.2.size - t.2) (fun t again hI k => ?_) 1000 (o.1, 0) ⟨o1, o2, Nat.zero_le _⟩ (by show o.2.size - 0 < 1000; omega)
        obtain ⟨t1, p⟩ := t
        obtain ⟨k1, k2, k3⟩ := hI
        simp only at k1 k2 k3
        unfold trace_parsed_l1
        refine OK.ite (fun hp => ?_) (fun _ => OK.ret ⟨k1, k2⟩)
        have hp : p < o.2.size := by simpa using hp
        simp only
        rw [w64_eq (by omega) (by omega)]
        refine OK.bind (OK.get (by omega) (by omega) (fun x hx => ?_))
        refine OK.bind2 (read_ok k1 (c := runeAt o.2 p) (w := x) (Nat.le_trans (hsm x (List.mem_of_getElem? hx)) hs)) (fun q hq => ?_)
        refine OK.ite (fun _ => OK.ret rfl) (fun e => ?_)
        have hq1 : q.1 = true := by cases h : q.1 <;> rw [h] at e <;> simp at e ⊢
        obtain ⟨g1, g2⟩ := hq hq1
        rw [o4 p hp]
        exact k _ ⟨g1, g2.trans k2, by show p + 1 ≤ o.2.size; omega⟩ (by show o.2.size - (p + 1) < o.2.size - p; omega)
      · cases q with
        | inr q => exact OK.ret (fun e => by rw [show q.2 = false from hq] at e; cases e)
        | inl t =>
          obtain ⟨t1, t2⟩ := hq
          obtain ⟨l, hl, _⟩ := line_ok t1
          simp only [hl, Option.bind_some]
          exact OK.ret (fun e => ⟨t1, by rw [t2]; exact h1, by rw [t2]; exact m1, hl.trans (congrArg some (sEq_iff.1 e))⟩)
  obtain ⟨⟨e, b⟩, h1, h2⟩ := goal
  exact ⟨e, b, h1, h2⟩
/-! ### Plain -/
theorem ent_eq {a b : api_Entry} (h : ((a.What == b.What) && ((a.Task == b.Task) && ((a.From == b.From) && ((a.Cmd == b.Cmd) && ((a.Tag == b.Tag) && ((a.Event == b.Event) && ((a.Hook == b.Hook) && ((a.Prog == b.Prog) && ((a.Version == b.Version) && ((a.Pc == b.Pc) && (((a.Item.Map == b.Item.Map) && ((a.Item.Op == b.Item.Op) && ((a.Item.Key == b.Item.Key) && ((a.Item.Val == b.Item.Val) && true)))) && (((a.Res.E == b.Res.E) && ((a.Res.Found == b.Res.Found) && ((a.Res.Val == b.Res.Val) && ((a.Res.Out == b.Res.Out) && ((a.Res.OutKey == b.Res.OutKey) && ((a.Res.OutVal == b.Res.OutVal) && true)))))) && ((a.Val == b.Val) && ((a.E == b.E) && true)))))))))))))) = true) : a = b := by
  obtain ⟨a0, a1, a2, a3, a4, a5, a6, a7, a8, a9, ⟨i0, i1, i2, i3⟩, ⟨r0, r1, r2, r3, r4, r5⟩, v, e⟩ := a
  obtain ⟨b0, b1, b2, b3, b4, b5, b6, b7, b8, b9, ⟨j0, j1, j2, j3⟩, ⟨s0, s1, s2, s3, s4, s5⟩, u, f⟩ := b
  simp only [Bool.and_eq_true, beq_iff_eq, Bool.and_true] at h
  obtain ⟨rfl, rfl, rfl, rfl, rfl, rfl, rfl, rfl, rfl, rfl, ⟨rfl, rfl, rfl, rfl⟩, ⟨rfl, rfl, rfl, rfl, rfl, rfl⟩, rfl, rfl⟩ := h
  rfl
theorem ent_refl (a : api_Entry) : ((a.What == a.What) && ((a.Task == a.Task) && ((a.From == a.From) && ((a.Cmd == a.Cmd) && ((a.Tag == a.Tag) && ((a.Event == a.Event) && ((a.Hook == a.Hook) && ((a.Prog == a.Prog) && ((a.Version == a.Version) && ((a.Pc == a.Pc) && (((a.Item.Map == a.Item.Map) && ((a.Item.Op == a.Item.Op) && ((a.Item.Key == a.Item.Key) && ((a.Item.Val == a.Item.Val) && true)))) && (((a.Res.E == a.Res.E) && ((a.Res.Found == a.Res.Found) && ((a.Res.Val == a.Res.Val) && ((a.Res.Out == a.Res.Out) && ((a.Res.OutKey == a.Res.OutKey) && ((a.Res.OutVal == a.Res.OutVal) && true)))))) && ((a.Val == a.Val) && ((a.E == a.E) && true)))))))))))))) = true := by simp
def plainB (x : api_Entry) : Bool := (trace_plain 1000 x).getD false
theorem plain_fu {fu : Nat} (h : 30 ≤ fu) (x : api_Entry) : trace_plain fu x = trace_plain 1000 x := by
  unfold trace_plain
  simp only [line_fu h, parsed_fu h]
theorem plain_eq {x : api_Entry} (hx : wfE x) : trace_plain 1000 x = some (plainB x) ∧ (plainB x = true → ∃ l, trace_line 1000 x = some l ∧ l.size ≤ 500 ∧ NoB 10 l.data.toList ∧ trace_parsed 1000 l = some (x, true)) := by
  have goal : OK (trace_plain 1000 x) (fun b => b = true → ∃ l, trace_line 1000 x = some l ∧ l.size ≤ 500 ∧ NoB 10 l.data.toList ∧ trace_parsed 1000 l = some (x, true)) := by
    unfold trace_plain
    obtain ⟨f, b, h1, h2, h3, h4⟩ := of_ok x.What
    rw [h1]
    simp only [Option.bind_some]
    refine OK.ite (fun _ => OK.ret (fun e => by cases e)) (fun _ => ?_)
    obtain ⟨l, hl, hz, hn⟩ := line_ok hx
    obtain ⟨e, c, hp, _⟩ := parsed_total (s := l) (by omega)
    rw [hl]
    simp only [Option.bind_some, hp]
    refine OK.bind2 (R := fun b => b = true → c = true ∧ e = x) ?_ (fun b hb => OK.ret (fun hb2 => ?_))
    · refine OK.ite (fun hc => ?_) (fun _ => OK.ret (fun e => by cases e))
      refine OK.ite (fun he => OK.ret (fun _ => ⟨hc, ?_⟩)) (fun _ => OK.ret (fun e => by cases e))
      exact ent_eq he
    · obtain ⟨rfl, rfl⟩ := hb hb2
      exact ⟨l, rfl, hz, hn, hp⟩
  obtain ⟨b, h1, h2⟩ := goal
  have : plainB x = b := by unfold plainB; rw [h1]; rfl
  rw [this]
  exact ⟨h1, h2⟩
/-- what a line is read as is plain -/
theorem plain_of {x : api_Entry} {l : ByteArray} (hz : l.size ≤ 1048576) (h : trace_parsed 1000 l = some (x, true)) : wfE x ∧ plainB x = true ∧ trace_line 1000 x = some l := by
  obtain ⟨e, b, h1, h2⟩ := parsed_total hz
  rw [h] at h1
  cases h1
  obtain ⟨w, m0, m1, hl⟩ := h2 rfl
  refine ⟨w, ?_, hl⟩
  have goal : trace_plain 1000 x = some true := by
    unfold trace_plain
    obtain ⟨f, b, o1, o2, o3, o4⟩ := of_ok x.What
    cases b with
    | false => exact absurd (o4 rfl) (by omega)
    | true =>
      obtain ⟨_, _, hf⟩ := o3 rfl
      obtain ⟨f2, hf2, _, hne⟩ := letters_at (k := x.What.toNat) (by omega)
      rw [hf] at hf2
      cases hf2
      rw [o1]
      simp only [Option.bind_some, Bool.not_true, Bool.false_eq_true, if_false, hl, h, if_true]
      rw [if_pos (ent_refl x)]
      rw [hne (by omega)]
      rfl
  unfold plainB
  rw [goal]
  rfl
end Go.Proofs.YtalllncanpcmfaaDoor
