import Derived.Test.YtgmmfjpmahcocaaGreatDoorKJudge2
set_option linter.unusedVariables false
set_option linter.unusedSimpArgs false
namespace Go.Proofs.YtgmmfjpmahcocaaGreatDoor
open Go.Sx
theorem ziK (l : List Int) (m : Int) : xg l m = some (l.contains m) := by
 unfold xg zap
 rw [zb4 (fun i => if (l[i]? == some m) then some (i : Int) else none) (N := l.length)]
 ·simp only [zbs]
  cases hf : vP (fun i => if (l[i]? == some m) then some (i : Int) else none) l.length 0 with
  | some v =>
   obtain ⟨j, _, h2, h3, _⟩ := zaS hf
   split at h3
   ·rename_i h
    cases h3
    have : m ∈ l := zmg (by simpa using h)
    simp [zdx, this]
   ·cases h3
  | none =>
   have := zbk hf
   have hm : m ∉ l := by
    intro hm
    obtain ⟨j, hj, rfl⟩ := List.mem_iff_getElem.1 hm
    have := this j (by omega) (by omega)
    simp [hj] at this
   simp [zdx, hm]
 ·intro j again hj
  unfold vk
  simp only [zdL hj, zbs, zeg hj]
  rcases zft (m == l[j]) with h | h
  ·have e : m = l[j] := by simpa using h
   simp [e]
  ·have e : ¬ m = l[j] := by simpa using h
   have e2 : ¬ l[j] = m := fun x => e x.symm
   simp [e, e2]
def ziL (l : List Int) : Prop := (∀ x ∈ l, 0 <= x /\ x < 4) /\ l.Nodup /\ l.length <= 4
theorem zeb {l : List Int} {i : Nat} (h : i < l.length) : (l.take (i + 1)).Nodup ↔ (l.take i).Nodup /\ l[i] ∉ l.take i := by
 rw [List.take_add_one, zeg h]
 simp only [Option.toList_some]
 rw [List.nodup_append]
 constructor
 ·rintro ⟨h1, _, h3⟩
  exact ⟨h1, fun hm => h3 _ hm _ (by simp) rfl⟩
 ·rintro ⟨h1, h2⟩
  refine ⟨h1, by simp, fun a ha b hb e => ?_⟩
  simp at hb
  subst hb; subst e
  exact h2 ha
theorem ziM (l : List Int) : OK (zcG l) (fun r => r = true ↔ ziL l) := by
 unfold zcG
 refine OK.bind2 (OK.count (Q := fun o => match o with | .inl _ => (∀ x ∈ l, 0 <= x /\ x < 4) /\ l.Nodup | .inr r => r = false /\ ¬ ziL l) (fun i _ => (∀ x ∈ l.take i, 0 <= x /\ x < 4) /\ (l.take i).Nodup) (by simp) (fun i s again hi hI k => ?_) (fun s hI => ?_)) (fun o ho => ?_)
 ·unfold zc2
  simp only [zdL hi, zbs, zki (show i <= l.length by omega), ziK]
  refine OK.bind2 (R := fun o => o = true ↔ ¬ (0 <= l[i] /\ l[i] < 4 /\ l[i] ∉ l.take i)) ?_ (fun o ho => ?_)
  ·refine OK.ite (fun h => OK.ret ?_) (fun h => OK.ite (fun h2 => OK.ret ?_) (fun h2 => OK.ret ?_))
   ·simp at h; simp; omega
   ·simp at h h2; simp; omega
   ·simp at h h2
    have h3 : 0 <= l[i] := by omega
    have h4 : l[i] < 4 := by omega
    simp [h3, h4]
  refine OK.ite (fun h => OK.ret ⟨rfl, fun hg => ?_⟩) (fun h => k _ ?_)
  ·have := (zeb hi).1 (hg.2.1.sublist (List.take_sublist _ _))
   have hm := hg.1 l[i] (List.getElem_mem _)
   exact (ho.1 h) ⟨hm.1, hm.2, this.2⟩
  ·have hh : 0 <= l[i] /\ l[i] < 4 /\ l[i] ∉ l.take i := Classical.byContradiction (fun hc => by rw [ho.2 hc] at h; cases h)
   refine ⟨fun x hx => ?_, (zeb hi).2 ⟨hI.2, hh.2.2⟩⟩
   rw [List.take_add_one, zeg hi] at hx
   rcases List.mem_append.1 hx with hx | hx
   ·exact hI.1 x hx
   ·simp at hx; subst hx; exact ⟨hh.1, hh.2.1⟩
 ·simpa using hI
 ·cases o with
  | inl _ =>
   refine OK.ret ?_
   simp only [zdq]
   exact ⟨fun h => ⟨ho.1, ho.2, by omega⟩, fun h => by have := h.2.2; omega⟩
  | inr r => exact OK.ret ⟨fun h => (by rw [ho.1] at h; cases h), fun h => absurd h ho.2⟩
def zm5 (code : List zc) (j : ze) : Prop := ∀ (q a : Nat) (ia : zc), j.any[q]? = some true -> code[a]? = some ia -> ia.Op = 20 -> (a : Int) - ia.D < q -> q <= a -> j.any[((a : Int) - ia.D).toNat]? = some true
theorem zm5.ways {code : List zc} (hg : zen code) {p : Nat} {j j' : ze} (h : zm5 code j) (hp : j.any[p]? = some true) (hw : zjG code p j j') : zm5 code j' := by
 intro q a ia hq ha ho h1 h2
 have hlp := hg.fine.loop ha ho
 rcases hw.new q hq with h3 | ⟨i, hi, hway⟩
 ·exact hw.keep _ (h q a ia h3 ha ho h1 h2)
 ·
  by_cases hin : (a : Int) - ia.D <= p /\ p <= a
  ·by_cases hh : (p : Int) = a - ia.D
   ·rw [<- hh]
    exact hw.keep _ (by simpa using hp)
   ·exact hw.keep _ (h p a ia hp ha ho (by omega) hin.2)
  ·exfalso
   rcases hway with ⟨hon, rfl⟩ | ⟨hl, hd, hqd⟩
   ·omega
   ·refine hg.en p (zes.1 hi).1 ⟨i, hi, hl, hd, a, ia, q, (zes.1 ha).1, ha, ho, hqd, (zZ ha ho).2 ⟨by omega, by omega⟩, ?_, by omega⟩
    rcases zft (zw code p a) with hc | hc
    ·exact absurd ((zZ ha ho).1 hc) (fun hc => hin ⟨hc.1, by omega⟩)
    ·exact hc
structure zh3 (m : zi) (n : Nat) (j : ze) : Prop where
 ji : JI m j
 zero : j.any[0]? = some true
 clos : zm5 m.Co j
 fits : ∀ (p : Nat) (i : zc), p < n -> m.Co[p]? = some i -> i.Op = 20 -> j.any[p]? = some true -> ∀ q, q < 8 -> ∀ x h, j.ca[p]? = some x -> j.ca[((p : Int) - i.D).toNat]? = some h -> ziJ (x q) (h q)
theorem zkv {m : zi} {j : ze} {n : Nat} (h : zh3 m n j) (hg : zen m.Co) (hn : n < m.Co.length) (again : ze -> Option (ze ⊕ ((Option ze) × Int × Int)))
  {Q : (ze ⊕ ((Option ze) × Int × Int)) -> Prop} (hk : ∀ j', zh3 m (n + 1) j' -> OK (again j') Q) (he : ∀ e, e ≠ 0 -> Q (.inr (none, (n : Int), e))) : OK (zL 1000 n again j) Q := by
 unfold zL
 obtain ⟨a, ha, ha2⟩ := xG (xs := j.any) (p := n) (by rw [h.ji.lenA]; exact hn)
 simp only [ha2, zbs]
 refine OK.ite (fun hf => ?_) (fun hf => ?_)
 ·have hf : a = false := by simpa using hf
  refine hk j ⟨h.ji, h.zero, h.clos, fun p i hp hi ho hany => ?_⟩
  by_cases e : p = n
  ·subst e; rw [ha, hf] at hany; cases hany
  ·exact h.fits p i (by omega) hi ho hany
 have hat : j.any[n]? = some true := by rw [ha]; simpa using hf
 refine OK.bind2 (zjk h.ji hg hn) (fun j1 ⟨hj1, ha1, hc1⟩ => ?_)
 refine OK.bind2 (zku hj1 hg hn) (fun r hr => ?_)
 refine OK.ite (fun e => OK.ret (he _ (by simpa using e))) (fun e => ?_)
 have hr := hr (by simpa using e)
 refine OK.bind2 (zkt hj1 hg hn hr.1) (fun j2 ⟨hj2, hw⟩ => hk j2 ?_)
 have hcl : zm5 m.Co j1 := by intro q a ia; rw [ha1]; exact h.clos q a ia
 refine ⟨hj2, hw.keep _ (by rw [ha1]; exact h.zero), hcl.ways hg (by rw [ha1]; exact hat) hw, fun p i hp hi ho hany q hq x hh hx hhd => ?_⟩
 have hlp := hg.fine.loop hi ho
 rw [(hw.same p (by omega)).1] at hx
 rw [(hw.same _ (by omega)).1] at hhd
 rw [(hw.same p (by omega)).2, ha1] at hany
 by_cases e : p = n
 ·subst e
  exact hr.2 i hi ho q hq x hh hx hhd
 ·rw [hc1 p e] at hx
  rw [hc1 _ (by omega)] at hhd
  exact h.fits p i (by omega) hi ho hany q hq x hh hx hhd
structure znl (m : zi) (r : (Option ze) × Int × Int) : Prop where
 place : r.2.1 = 0 \/ 0 <= r.2.1 /\ r.2.1 < m.Co.length
 good : r.2.2 = 0 -> r.2.1 = 0 /\ zen m.Co /\ ziL m.Ms /\ ∃ j, r.1 = some j /\ zh3 m m.Co.length j
 bad : r.2.2 ≠ 0 -> r.1 = none
theorem zmy {m : zi} (hg : zen m.Co) : zh3 m 0 ⟨m, List.replicate m.Co.length (fun _ => vI), (List.replicate m.Co.length false).set 0 true, lps m.Co m.Co.length⟩ := by
 have hn := hg.n1
 refine ⟨⟨rfl, by simp, by simp, rfl, fun q x hx r _ => ?_⟩, by show (List.set _ _ _)[0]? = _; rw [List.getElem?_set, if_pos rfl, if_pos (by rw [List.length_replicate]; omega)], fun q a ia hq ha ho h1 h2 => ?_, fun p i hp => by omega⟩
 ·obtain ⟨_, rfl⟩ := zgJ hx
  exact WT.zero
 ·have hlp := hg.fine.loop ha ho
  simp only at hq
  by_cases e : q = 0
  ·subst e; omega
  ·rw [zbM e] at hq
   obtain ⟨_, h⟩ := zgJ hq
   cases h
theorem zh4 (m : zi) : OK (jC 1000 m) (znl m) := by
 unfold jC
 refine OK.bind2 (ziM _) (fun g hgm => ?_)
 refine OK.ite (fun _ => OK.ret ⟨.inl rfl, fun h => by simp at h, fun _ => rfl⟩) (fun hgt => ?_)
 have hgm := hgm.1 (by simpa using hgt)
 obtain ⟨r, h1, h2, h3, h4⟩ := zgj m.Co
 simp only [h1, zbs]
 refine OK.ite (fun hr => OK.ret ⟨h2, fun h => absurd h (by simpa using hr), fun _ => rfl⟩) (fun hr => ?_)
 have hg := (h3 (by simpa using hr)).2
 have hn := hg.n64
 have hn1 := hg.n1
 refine OK.bind2 (R := fun o => o = ze.mk m (List.replicate m.Co.length (fun _ => vI)) (List.replicate m.Co.length false) []) ?_ (fun o ho => ?_)
 ·refine OK.bind (OK.mkl (by omega) (by simp; omega) ?_)
  refine OK.bind (OK.mkl (by omega) (by simp; omega) (OK.ret ?_))
  simp [vI]
 subst ho
 simp only [zfJ hg, zbs]
 have e0 : idx (List.replicate m.Co.length false) 0 = some false := by
  have := zdL (xs := List.replicate m.Co.length false) (i := 0) (by simp; omega)
  simpa using this
 rw [e0]
 simp only [zbs]
 refine OK.bind2 (OK.count (Q := fun o => match o with | .inl j => zh3 m m.Co.length j | .inr r => r.1 = none /\ r.2.2 ≠ 0 /\ 0 <= r.2.1 /\ r.2.1 < m.Co.length) (fun i s => zh3 m i s) ?_ (fun i s again hi hI k => zkv hI hg hi again k (fun e he => ⟨rfl, he, by simp, by simpa using hi⟩)) (fun s hI => hI)) (fun o ho => ?_)
 ·simpa using zmy hg
 ·cases o with
  | inl j => exact OK.ret ⟨.inl rfl, fun _ => ⟨rfl, hg, hgm, j, rfl, ho⟩, fun h => absurd rfl h⟩
  | inr r => exact OK.ret ⟨.inr ho.2.2, fun h => absurd h ho.2.1, fun _ => ho.1⟩
def known (j : ze) (p : Nat) : List za := match j.any[p]?, j.ca[p]? with
 | some true, some c => jY 8 c
 | _, _ => []
end Go.Proofs.YtgmmfjpmahcocaaGreatDoor
