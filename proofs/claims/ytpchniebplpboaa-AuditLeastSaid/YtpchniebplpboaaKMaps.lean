/- The maps of a config: the program's and the document's do the same. -/
import Derived.Test.YtpchniebplpboaaKLru2
import Derived.Test.YtpchniebplpboaaKFirst
set_option linter.unusedVariables false
set_option linter.unusedSimpArgs false
namespace Go.Proofs.Ytpchniebplpboaa
open Go.Sx

def SR (n : Nat) (x : I_cmap_Shard) (s : tappetref15_Shard) : Prop := match x with
  | .inl b => ∃ c r, s = ⟨some r, none⟩ ∧ BR c b r
  | .inr a => ∃ c r, s = ⟨none, some r⟩ ∧ LR n c a r
theorem SR.up {n : Nat} {x : I_cmap_Shard} {s : tappetref15_Shard} (h : SR n x s) : SR (n + 1) x s := by
  cases x with
  | inl b => exact h
  | inr a =>
    obtain ⟨c, r, e, h⟩ := h
    exact ⟨c, r, e, h.book, h.ks.up, h.keys⟩
theorem shard_both {fu : Nat} (hfu : 101 < fu) {n : Nat} (hn : n < 1000000000000) {x : I_cmap_Shard} {s : tappetref15_Shard} (h : SR n x s) {op : Int} (h0 : 0 ≤ op) (h4 : op ≤ 4) (k z : Int) :
    ∃ v x' s', I_cmap_Shard_Do fu x op k z = some (v, x') ∧ tappetref15_Shard_Do fu s op k z = some (v, s') ∧ SR (n + 1) x' s' := by
  cases x with
  | inl b =>
    obtain ⟨c, r, rfl, h⟩ := h
    obtain ⟨v, b', r', e1, e2, e3, _⟩ := both_do (fu := fu) (by omega) h h0 h4 k z
    refine ⟨v, .inl b', ⟨some r', none⟩, ?_, ?_, c, r', rfl, e3⟩
    · unfold I_cmap_Shard_Do; simp only [e1, Option.bind_some]
    · unfold tappetref15_Shard_Do ocase; simp only [e2, Option.bind_some]
  | inr a =>
    obtain ⟨c, r, rfl, h⟩ := h
    obtain ⟨v, a', r', e1, e2, e3⟩ := lru_both hfu hn h h0 h4 k z
    refine ⟨v, .inr a', ⟨none, some r'⟩, ?_, ?_, c, r', rfl, e3⟩
    · unfold I_cmap_Shard_Do; simp only [e1, Option.bind_some]
    · unfold tappetref15_Shard_Do ocase; simp only [e2, Option.bind_some]
theorem place_both {k : Int} (h0 : 0 ≤ k) (h1 : k < 18446744073709551616) {m : Nat} (hm : 1 ≤ m) (h4 : m ≤ 4) : ∃ i : Nat, place_Of k (m : Int) = some (i : Int) ∧ tappetref12_Of k (m : Int) = some (i : Int) ∧ i < m := by
  have hw : wu64 (m : Int) = m := by rw [wu_is]; omega
  have hnz : nz (m : Int) = some () := by unfold nz; rw [if_neg (by omega)]
  obtain ⟨q, hq⟩ := Int.eq_ofNat_of_zero_le h0
  subst hq
  have hsh : ∀ z : Int, bShr .u64 z 32 = z / 4294967296 := by
    intro z
    show z.fdiv (2 ^ (min (Int.toNat 32) IntKind.u64.bits)) = _
    rw [Int.fdiv_eq_ediv_of_nonneg _ (by exact Int.le_of_lt (Int.pow_pos (by decide)))]
    rfl
  have td : ((q : Nat) : Int).tdiv 4294967296 = ((q / 4294967296 : Nat) : Int) := by
    rw [Int.tdiv_eq_ediv_of_nonneg (by omega)]; rfl
  have tm : ((q : Nat) : Int).tmod 4294967296 = ((q % 4294967296 : Nat) : Int) := by
    rw [Int.tmod_eq_emod_of_nonneg (by omega)]; rfl
  obtain ⟨a, ha⟩ : ∃ a, a = q / 4294967296 := ⟨_, rfl⟩
  obtain ⟨b, hb⟩ : ∃ b, b = q % 4294967296 := ⟨_, rfl⟩
  have hqab : q = a * 4294967296 + b := by omega
  have hbl : b < 4294967296 := by omega
  have hal : a < 4294967296 := by omega
  have e1 : wu64 ((q : Int) * 11400714819323198485) / 4294967296 = (((a * 2135587861 + b * 2654435769 + b * 2135587861 / 4294967296) % 4294967296 : Nat) : Int) := by
    have h1 : wu64 ((q : Int) * 11400714819323198485) / 4294967296 = ((q * 11400714819323198485 % (4294967296 * 4294967296) / 4294967296 : Nat) : Int) := by
      rw [wu_is]; omega
    rw [h1, Nat.mod_mul_right_div_self]
    have h2 : q * 11400714819323198485 / 4294967296 = a * 2654435769 * 4294967296 + (a * 2135587861 + b * 2654435769 + b * 2135587861 / 4294967296) := by omega
    rw [h2, Nat.mul_add_mod_self_right]
  have e2 : ((wu64 ((wu64 ((wu64 ((wu64 (a : Int)) * 2135587861)) + (wu64 ((b : Int) * 2654435769)))) + (wu64 ((wu64 ((b : Int) * 2135587861)).tdiv 4294967296)))).tmod 4294967296) = (((a * 2135587861 + b * 2654435769 + b * 2135587861 / 4294967296) % 4294967296 : Nat) : Int) := by
    have w0 : wu64 (a : Int) = a := by rw [wu_is]; omega
    have w1 : wu64 ((a : Int) * 2135587861) = (a : Int) * 2135587861 := by rw [wu_is]; omega
    have w2 : wu64 ((b : Int) * 2654435769) = (b : Int) * 2654435769 := by rw [wu_is]; omega
    have w3 : wu64 ((b : Int) * 2135587861) = (b : Int) * 2135587861 := by rw [wu_is]; omega
    rw [w0, w1, w2, w3, Int.tdiv_eq_ediv_of_nonneg (by omega)]
    have w4 : wu64 ((b : Int) * 2135587861 / 4294967296) = (b : Int) * 2135587861 / 4294967296 := by rw [wu_is]; omega
    have m64 : ∀ x : Int, (x % 18446744073709551616) % 4294967296 = x % 4294967296 := fun x => Int.emod_emod_of_dvd x ⟨4294967296, by decide⟩
    rw [w4, wu_is, wu_is, Int.tmod_eq_emod_of_nonneg (by omega), m64, Int.add_emod, m64, ← Int.add_emod]
    rw [Int.natCast_emod, Int.natCast_add, Int.natCast_add, Int.natCast_ediv, Int.natCast_mul, Int.natCast_mul, Int.natCast_mul]
    rfl
  obtain ⟨s, hs⟩ : ∃ s, s = (a * 2135587861 + b * 2654435769 + b * 2135587861 / 4294967296) % 4294967296 := ⟨_, rfl⟩
  rw [← hs] at e1 e2
  have hsm : ((s : Nat) : Int).tmod (m : Int) = ((s % m : Nat) : Int) := by
    rw [Int.tmod_eq_emod_of_nonneg (by omega)]; rfl
  have hlt : s % m < m := Nat.mod_lt _ (by omega)
  refine ⟨s % m, ?_, ?_, hlt⟩
  · unfold place_Of
    rw [if_neg (by simp; omega), hw, hnz]
    simp only [Option.bind_some]
    rw [hsh, e1, hsm, w64_eq (by omega) (by omega)]
  · unfold tappetref12_Of
    rw [if_neg (by simp; omega), hw, hnz]
    simp only [Option.bind_some]
    rw [td, tm, ← ha, ← hb, e2, hsm, w64_eq (by omega) (by omega)]
structure MR (n : Nat) (m : cmap_Map) (r : tappetref15_Map) : Prop where
  len : m.shards.length = r.S.length
  l1 : 1 ≤ r.S.length
  l4 : r.S.length ≤ 4
  sr : ∀ (i : Nat) x s, m.shards[i]? = some x → r.S[i]? = some s → SR n x s
theorem MR.up {n : Nat} {m : cmap_Map} {r : tappetref15_Map} (h : MR n m r) : MR (n + 1) m r := ⟨h.len, h.l1, h.l4, fun i x s h1 h2 => (h.sr i x s h1 h2).up⟩
theorem map_both {fu : Nat} (hfu : 101 < fu) {n : Nat} (hn : n < 1000000000000) {m : cmap_Map} {r : tappetref15_Map} (h : MR n m r) {op : Int} (h0 : 0 ≤ op) (h4 : op ≤ 4) {k : Int} (k0 : 0 ≤ k) (k1 : k < 18446744073709551616) (z : Int) :
    ∃ v m' r', cmap_Map_Do fu m op k z = some (v, m') ∧ tappetref15_Map_Do fu r op k z = some (v, r') ∧ MR (n + 1) m' r' := by
  obtain ⟨i, p1, p2, hi⟩ := place_both k0 k1 h.l1 h.l4
  have hi2 : i < m.shards.length := by rw [h.len]; exact hi
  have g1 : Go.Sx.idx m.shards (i : Int) = some m.shards[i] := by
    unfold Go.Sx.idx; rw [if_pos (by omega), Int.toNat_natCast, List.getElem?_eq_getElem hi2]
  have g2 : Go.Sx.idx r.S (i : Int) = some r.S[i] := by
    unfold Go.Sx.idx; rw [if_pos (by omega), Int.toNat_natCast, List.getElem?_eq_getElem hi]
  obtain ⟨v, x', s', e1, e2, e3⟩ := shard_both hfu hn (h.sr i _ _ (List.getElem?_eq_getElem hi2) (List.getElem?_eq_getElem hi)) h0 h4 k z
  refine ⟨v, ⟨m.def_, m.shards.set i x'⟩, ⟨r.S.set i s'⟩, ?_, ?_, by simp [h.len], by simpa using h.l1, by simpa using h.l4, fun j x s hx hs => ?_⟩
  · unfold cmap_Map_Do
    rw [h.len, p1]
    simp only [Option.bind_some, g1, e1, Int.toNat_natCast]
  · unfold tappetref15_Map_Do
    rw [p2]
    simp only [Option.bind_some, g2, e2, Int.toNat_natCast]
  · have hx : (m.shards.set i x')[j]? = some x := hx
    have hs : (r.S.set i s')[j]? = some s := hs
    by_cases e : i = j
    · subst e
      rw [List.getElem?_set_self hi2] at hx
      rw [List.getElem?_set_self hi] at hs
      cases hx; cases hs
      exact e3
    · rw [List.getElem?_set_ne e] at hx hs
      exact (h.sr j x s hx hs).up
def valid (d : api_MapDef) : Bool := (d.Kind == 0 || d.Kind == 1) && decide (1 ≤ d.Cap) && decide (d.Cap ≤ 16)
def shard0 (d : api_MapDef) : I_cmap_Shard := if d.Kind = 0 then .inl ⟨d.Cap, []⟩ else .inr ⟨⟨d.Cap, []⟩, []⟩
def ref0 (d : api_MapDef) : tappetref15_Shard := if d.Kind = 0 then ⟨some ⟨d.Cap, []⟩, none⟩ else ⟨none, some ⟨⟨d.Cap, []⟩, [], [], 0⟩⟩
theorem make_is (d : api_MapDef) : cmap_Make d = some (if valid d then (some (shard0 d), 0) else (none, 2)) := by
  unfold cmap_Make valid shard0 lru_New book_New
  by_cases k0 : d.Kind = 0
  · by_cases c1 : d.Cap < 1
    · have : ¬ 1 ≤ d.Cap := by omega
      simp [k0, c1, this, ocase]
    · by_cases c2 : d.Cap > 16
      · have : ¬ d.Cap ≤ 16 := by omega
        have c2' : 16 < d.Cap := c2
        simp [k0, c1, c2', this, ocase]
      · have h1 : 1 ≤ d.Cap := by omega
        have h2 : d.Cap ≤ 16 := by omega
        have c2' : ¬ 16 < d.Cap := c2
        simp [k0, c1, c2', h1, h2, ocase]
  · by_cases k1 : d.Kind = 1
    · by_cases c1 : d.Cap < 1
      · have : ¬ 1 ≤ d.Cap := by omega
        simp [k0, k1, c1, this, ocase]
      · by_cases c2 : d.Cap > 16
        · have : ¬ d.Cap ≤ 16 := by omega
          have c2' : 16 < d.Cap := c2
          simp [k0, k1, c1, c2', this, ocase]
        · have h1 : 1 ≤ d.Cap := by omega
          have h2 : d.Cap ≤ 16 := by omega
          have c2' : ¬ 16 < d.Cap := c2
          simp [k0, k1, c1, c2', h1, h2, ocase]
    · simp [k0, k1]
theorem br0 {c : Int} (h1 : 1 ≤ c) (h2 : c ≤ 16) : BR c ⟨c, []⟩ ⟨c, []⟩ := ⟨⟨rfl, h1, h2, by simp; omega, List.Pairwise.nil⟩, ⟨rfl, h1, h2, by simp; omega, List.nodup_nil⟩, fun q => rfl, rfl⟩
theorem sr0 {d : api_MapDef} (h : valid d = true) : SR 0 (shard0 d) (ref0 d) := by
  simp only [valid, Bool.and_eq_true, decide_eq_true_eq] at h
  unfold shard0 ref0
  by_cases k0 : d.Kind = 0
  · rw [if_pos k0, if_pos k0]
    exact ⟨_, _, rfl, br0 h.1.2 h.2⟩
  · rw [if_neg k0, if_neg k0]
    exact ⟨_, _, rfl, br0 h.1.2 h.2, ⟨rfl, rfl, List.Pairwise.nil, by simp, Int.le_refl 0, Int.le_refl 0, List.nodup_nil⟩, fun q => by simp [pv]⟩
theorem new_is {fu : Nat} (hfu : 101 < fu) (d : api_MapDef) (m : Nat) (hm : 1 ≤ m) (h4 : m ≤ 4) : cmap_New fu d (m : Int) = some (if valid d then (some ⟨d, List.replicate m (shard0 d)⟩, 0) else (none, 2)) := by
  refine OK.is ?_
  unfold cmap_New
  refine OK.ite_false (by simp; omega) ?_
  refine OK.bind2 (R := fun o => o = if valid d then .inl ⟨d, List.replicate m (shard0 d)⟩ else .inr (none, 2)) ?_ (fun o ho => ?_)
  · refine OK.rounds (fun s => ∃ n : Nat, s.2 = (n : Int) ∧ n ≤ m ∧ s.1 = ⟨d, List.replicate n (shard0 d)⟩ ∧ (valid d = false → n = 0)) (fun s => m - s.2.toNat) ?_ fu _ ⟨0, rfl, by omega, rfl, fun _ => rfl⟩ (by simp; omega)
    rintro ⟨s1, s2⟩ again ⟨n, e1, hn, e2, e3⟩ kk
    simp only at e1 e2
    subst e1; subst e2
    unfold cmap_New_l1
    simp only
    refine OK.ite (fun h => ?_) (fun h => ?_)
    · have h : (n : Int) < m := by simpa using h
      rw [make_is]
      simp only [Option.bind_some]
      by_cases hv : valid d = true
      · rw [if_pos hv]
        refine OK.some_ (OK.ite_false (by rfl) (OK.bind (OK.hasRoom (by simp; omega) ?_)))
        rw [w64_eq (by omega) (by omega)]
        refine kk _ ⟨n + 1, by simp, by omega, ?_, fun z => by rw [hv] at z; cases z⟩ (by simp; omega)
        simp only [List.replicate_succ']
      · rw [if_neg hv]
        refine OK.none_ (OK.ite_true (by rfl) (OK.ret ?_))
        rw [if_neg hv]
    · have h : ¬ (n : Int) < m := by simpa using h
      have hv : valid d = true := by
        cases hv : valid d with
        | true => rfl
        | false => have := e3 hv; omega
      refine OK.ret ?_
      rw [if_pos hv, show n = m by omega]
  · subst ho
    by_cases hv : valid d = true
    · rw [if_pos hv, if_pos hv]; exact OK.ret rfl
    · rw [if_neg hv, if_neg hv]; exact OK.ret rfl
theorem mr0 {d : api_MapDef} (h : valid d = true) {m : Nat} (h1 : 1 ≤ m) (h4 : m ≤ 4) : MR 0 ⟨d, List.replicate m (shard0 d)⟩ ⟨List.replicate m (ref0 d)⟩ := by
  refine ⟨by simp, by simpa using h1, by simpa using h4, fun i x s hx hs => ?_⟩
  simp only [List.getElem?_replicate] at hx hs
  split at hx
  · rename_i hi
    rw [if_pos hi] at hs
    cases hx; cases hs
    exact sr0 h
  · cases hx
def okC (c : api_Config) : Bool := decide (1 ≤ c.Shards) && decide (c.Shards ≤ 4) && decide (c.Maps.length ≤ 4) && c.Maps.all valid
def maps0 (c : api_Config) : List cmap_Map := c.Maps.map (fun d => ⟨d, List.replicate c.Shards.toNat (shard0 d)⟩)
def refs0 (c : api_Config) : List tappetref15_Map := c.Maps.map (fun d => ⟨List.replicate c.Shards.toNat (ref0 d)⟩)
theorem newMaps_is {fu : Nat} (hfu : 101 < fu) (c : api_Config) : audit_newMaps fu c = some (if okC c then (maps0 c, 0) else ([], 2)) := by
  unfold audit_newMaps
  by_cases bad : (decide (c.Shards < 1) || decide (c.Shards > 4)) || decide ((c.Maps.length : Int) > 4)
  · rw [if_pos bad]
    have : okC c = false := by
      simp only [Bool.or_eq_true, decide_eq_true_eq] at bad
      unfold okC
      rcases bad with (h | h) | h
      · simp [show ¬ 1 ≤ c.Shards by omega]
      · simp [show ¬ c.Shards ≤ 4 by omega]
      · simp [show ¬ c.Maps.length ≤ 4 by omega]
    rw [this]; rfl
  · rw [if_neg bad]
    simp only [Bool.or_eq_true, decide_eq_true_eq, not_or] at bad
    obtain ⟨m, hm⟩ := Int.eq_ofNat_of_zero_le (show 0 ≤ c.Shards by omega)
    have hmt : c.Shards.toNat = m := by omega
    have hl : c.Maps.length ≤ 4 := by omega
    rw [forN_each (b := audit_newMaps_l1 fu c) (fun _ _ _ => rfl)]
    have H : ∀ (B : Nat → api_MapDef → (List cmap_Map → Option (List cmap_Map ⊕ (List cmap_Map × Int))) → List cmap_Map → Option (List cmap_Map ⊕ (List cmap_Map × Int))), (∀ i x again s, B i x again s = (cmap_New fu x c.Shards).bind fun r404 => ocase r404.1
        (if (r404.2 != 0) then some (.inr (([] : List cmap_Map), r404.2)) else none)
        (fun k408 => if (r404.2 != 0) then some (.inr (([] : List cmap_Map), r404.2)) else (room (s.length + ([k408]).length) 8).bind fun u429 => again (s ++ [k408]))) →
        ∀ (ds : List api_MapDef) (i : Nat) (s : List cmap_Map), s.length + ds.length ≤ 4 → each B (fun s => .inl s) i ds s =
        some (if ds.all valid then .inl (s ++ ds.map (fun d => ⟨d, List.replicate m (shard0 d)⟩)) else .inr ([], 2)) := by
      intro B hB ds
      induction ds with
      | nil => intro i s _; simp [each]
      | cons d ds ih =>
        intro i s hs
        simp only [List.length_cons] at hs
        simp only [each, hB]
        rw [hm, new_is hfu d m (by omega) (by omega)]
        simp only [Option.bind_some]
        by_cases hv : valid d = true
        · rw [if_pos hv]
          have hr : room (s.length + 1) 8 = some () := by unfold room; rw [if_pos (by omega)]
          simp only [ocase, List.length_cons, List.length_nil, Nat.zero_add, hr, Option.bind_some]
          rw [if_neg (by decide), ih (i + 1) (s ++ [(⟨d, List.replicate m (shard0 d)⟩ : cmap_Map)]) (by simp; omega)]
          simp [hv]
        · rw [if_neg hv]
          simp [ocase, hv]
    have h := H _ (fun _ _ _ _ => rfl) c.Maps 0 [] (by simpa using hl)
    rw [h]
    have hok : okC c = c.Maps.all valid := by
      unfold okC
      simp [show 1 ≤ c.Shards by omega, show c.Shards ≤ 4 by omega, hl]
    rw [hok]
    by_cases hv : c.Maps.all valid = true
    · rw [if_pos hv, if_pos hv]
      simp only [Option.bind_some, List.nil_append]
      unfold maps0
      rw [hmt]
    · rw [if_neg hv, if_neg hv]; rfl
structure MRs (n : Nat) (ms : List cmap_Map) (rs : List tappetref15_Map) : Prop where
  len : ms.length = rs.length
  l4 : rs.length ≤ 4
  mr : ∀ (i : Nat) m r, ms[i]? = some m → rs[i]? = some r → MR n m r
theorem mrs0 {c : api_Config} (h : okC c = true) : MRs 0 (maps0 c) (refs0 c) := by
  simp only [okC, Bool.and_eq_true, decide_eq_true_eq, List.all_eq_true] at h
  refine ⟨by simp [maps0, refs0], by simpa [refs0] using h.1.2, fun i m r hm hr => ?_⟩
  simp only [maps0, refs0, List.getElem?_map, Option.map_eq_some_iff] at hm hr
  obtain ⟨d, hd, rfl⟩ := hm
  obtain ⟨d', hd', rfl⟩ := hr
  rw [hd] at hd'
  cases hd'
  exact mr0 (h.2 d (List.mem_of_getElem? hd)) (by omega) (by omega)
def KeyOK (e : api_Entry) : Prop := 0 ≤ e.Item.Key ∧ e.Item.Key < 18446744073709551616
theorem right_both {fu : Nat} (hfu : 101 < fu) {n : Nat} (hn : n < 1000000000000) {ms : List cmap_Map} {rs : List tappetref15_Map} (h : MRs n ms rs) {e : api_Entry} (he : KeyOK e) :
    ∃ b ms' rs', audit_maps_right fu ms e = some (b, ms') ∧ (∀ (i : Nat) (again : List tappetref15_Map → Option (Unit ⊕ (Int × Int))), (if (e.What != 3) then again rs else
      (if decide (e.Item.Map < 0) then some (rs, true) else
        if decide (e.Item.Map ≥ ((rs).length : Int)) then some (rs, true) else
          if decide (e.Item.Op < 0) then some (rs, true) else
            if decide (e.Item.Op > 4) then some (rs, true) else
              (Go.Sx.idx rs e.Item.Map).bind fun x1039 =>
              (tappetref15_Map_Do fu x1039 e.Item.Op e.Item.Key e.Item.Val).bind fun r1054 =>
              some ((rs.set (Int.toNat e.Item.Map) r1054.2), (!((r1054.1.E == e.Res.E) && ((r1054.1.Found == e.Res.Found) && ((r1054.1.Val == e.Res.Val) && ((r1054.1.Out == e.Res.Out) && ((r1054.1.OutKey == e.Res.OutKey) && ((r1054.1.OutVal == e.Res.OutVal) && true))))))))).bind fun o1027 =>
      if o1027.2 then some (.inr ((i : Int), 0)) else again o1027.1) = if b then again rs' else some (.inr ((i : Int), 0))) ∧ MRs (n + 1) ms' rs' := by
  have up : MRs (n + 1) ms rs := ⟨h.len, h.l4, fun i m r h1 h2 => (h.mr i m r h1 h2).up⟩
  unfold audit_maps_right
  by_cases w : e.What = 3
  · by_cases c1 : e.Item.Map < 0
    · exact ⟨false, ms, rs, by simp [w, c1], fun i again => by simp [w, c1], up⟩
    · by_cases c2 : e.Item.Map ≥ (rs.length : Int)
      · exact ⟨false, ms, rs, by simp [w, c1, h.len, c2], fun i again => by simp [w, c1, c2], up⟩
      · by_cases c3 : e.Item.Op < 0
        · exact ⟨false, ms, rs, by simp [w, c1, h.len, c2, c3], fun i again => by simp [w, c1, c2, c3], up⟩
        · by_cases c4 : e.Item.Op > 4
          · have c5 : e.Item.Op ≥ 5 := by omega
            exact ⟨false, ms, rs, by simp [w, c1, h.len, c2, c3, c5], fun i again => by simp [w, c1, c2, c3, c4], up⟩
          · have c5 : ¬ e.Item.Op ≥ 5 := by omega
            obtain ⟨j, hj⟩ := Int.eq_ofNat_of_zero_le (show 0 ≤ e.Item.Map by omega)
            have hjr : j < rs.length := by omega
            have hjm : j < ms.length := by rw [h.len]; exact hjr
            have g1 : Go.Sx.idx ms (j : Int) = some ms[j] := by
              unfold Go.Sx.idx; rw [if_pos (by omega), Int.toNat_natCast, List.getElem?_eq_getElem hjm]
            have g2 : Go.Sx.idx rs (j : Int) = some rs[j] := by
              unfold Go.Sx.idx; rw [if_pos (by omega), Int.toNat_natCast, List.getElem?_eq_getElem hjr]
            obtain ⟨v, m', r', d1, d2, d3⟩ := map_both hfu hn (h.mr j _ _ (List.getElem?_eq_getElem hjm) (List.getElem?_eq_getElem hjr)) (show 0 ≤ e.Item.Op by omega) (by omega) he.1 he.2 e.Item.Val
            refine ⟨((v.E == e.Res.E) && ((v.Found == e.Res.Found) && ((v.Val == e.Res.Val) && ((v.Out == e.Res.Out) && ((v.OutKey == e.Res.OutKey) && ((v.OutVal == e.Res.OutVal) && true)))))), ms.set j m', rs.set j r', ?_, fun i again => ?_, by simp [h.len], by simpa using h.l4, fun i m r hm hr => ?_⟩
            · rw [if_neg (by simp [w]), if_neg (by simp only [Bool.or_eq_true, decide_eq_true_eq]; rw [h.len]; omega), hj, g1]
              simp only [Option.bind_some, d1, Int.toNat_natCast]
            · rw [if_neg (by simp [w]), if_neg (by simpa using c1), if_neg (by simpa using c2), if_neg (by simpa using c3), if_neg (by simpa using c4), hj, g2]
              simp only [Option.bind_some, d2, Int.toNat_natCast]
              generalize ((v.E == e.Res.E) && ((v.Found == e.Res.Found) && ((v.Val == e.Res.Val) && ((v.Out == e.Res.Out) && ((v.OutKey == e.Res.OutKey) && ((v.OutVal == e.Res.OutVal) && true)))))) = z
              cases z <;> rfl
            · by_cases ej : j = i
              · subst ej
                rw [List.getElem?_set_self hjm] at hm
                rw [List.getElem?_set_self hjr] at hr
                cases hm; cases hr
                exact d3
              · rw [List.getElem?_set_ne ej] at hm hr
                exact (h.mr i m r hm hr).up
  · exact ⟨true, ms, rs, by simp [w], fun i again => by simp [w], up⟩
end Go.Proofs.Ytpchniebplpboaa
