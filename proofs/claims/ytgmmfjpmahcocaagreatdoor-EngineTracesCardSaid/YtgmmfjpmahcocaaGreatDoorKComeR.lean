import Derived.Test.YtgmmfjpmahcocaaGreatDoorKJoinR
import Derived.Test.YtgmmfjpmahcocaaGreatDoorKSound2
set_option linter.unusedVariables false
set_option linter.unusedSimpArgs false
namespace Go.Proofs.YtgmmfjpmahcocaaGreatDoor
open Go.Sx
abbrev Regs := Nat -> za
structure zhT (m : zi) (j : ze) (q : Nat) (cs : List Regs) : Prop where
 any : j.any[q]? = some (!cs.isEmpty)
 wt : ∀ c ∈ cs, ∀ r, r < 8 -> WT m.Ms.length (c r)
 val : ∀ c rest, cs = c :: rest -> ∃ x, j.ca[q]? = some x /\ ∀ r, r < 8 -> x r = (rest.map (· r)).foldl za3 (c r)
theorem zkc {m : zi} {j : ze} (h : JI m j) {p : Nat} {x k : Regs} (hx : j.ca[p]? = some x) (hk : ∀ r, r < 8 -> WT m.Ms.length (k r)) : ∀ (c r : Nat), r + c = 8 ->
    zQ (qf p k) (fun (s : ze) => s) c r ⟨j.Module, j.ca.set p (fun q => if q < r then za3 (x q) (k q) else x q), j.any, j.loops⟩ = some ⟨j.Module, j.ca.set p (fun q => if q < 8 then za3 (x q) (k q) else x q), j.any, j.loops⟩ := by
  have hp : p < j.ca.length := (zes.1 hx).1
  have hxw := h.wt p x hx
  intro c
  induction c with
  | zero => intro r hr; have : r = 8 := by omega
            subst this; rfl
  | succ c ih =>
    intro r hr
    have ihx := ih (r + 1) (by omega)
    show qf p k r (zQ (qf p k) (fun (s : ze) => s) c (r + 1)) _ = _
    generalize zQ (qf p k) (fun (s : ze) => s) c (r + 1) = again at ihx |-
    unfold qf
    have e : idx (j.ca.set p (fun q => if q < r then za3 (x q) (k q) else x q)) (p : Int) = some (fun q => if q < r then za3 (x q) (k q) else x q) := by
      unfold Go.Sx.idx; rw [if_pos (by omega)]; exact List.getElem?_set_self hp
    simp only [e, zbs, zl3 (show r < 8 by omega), Nat.lt_irrefl, if_false, zgq (hxw r (by omega)).span (hk r (by omega)).span, Int.toNat_natCast, List.set_set]
    rw [<- ihx]
    congr 3
    funext q
    unfold zW
    by_cases h1 : q = r
    · subst h1; rw [if_pos rfl, if_pos (by omega)]
    · rw [if_neg h1]
      show (if q < r then za3 (x q) (k q) else x q) = _
      by_cases h2 : q < r
      · rw [if_pos h2, if_pos (by omega)]
      · rw [if_neg h2, if_neg (by omega)]
theorem zhe {m : zi} {j : ze} (h : JI m j) {p : Nat} (hp : p < m.Co.length) {k : Regs} (hk : ∀ r, r < 8 -> WT m.Ms.length (k r)) :
  ∃ j', zD j p k = some j' /\ JI m j' /\ (∀ q cs, zhT m j q cs -> zhT m j' q (if q = p then cs ++ [k] else cs)) /\ ∀ q, q ≠ p -> j'.ca[q]? = j.ca[q]? /\ j'.any[q]? = j.any[q]? := by
 have hpc : p < j.ca.length := by rw [h.lenC]; exact hp
 have hpa : p < j.any.length := by rw [h.lenA]; exact hp
 have hx : j.ca[p]? = some j.ca[p] := zeg hpc
 have ha : j.any[p]? = some j.any[p] := zeg hpa
 have e1 : idx j.any (p : Int) = some j.any[p] := zdL hpa
 have e2 : idx j.ca (p : Int) = some j.ca[p] := zdL hpc
 by_cases hb : j.any[p] = true
 ·have hl := zkc h hx hk 8 0 rfl
  have h0 : (⟨j.Module, j.ca.set p (fun q => if q < 0 then za3 (j.ca[p] q) (k q) else j.ca[p] q), j.any, j.loops⟩ : ze) = j := by
   have : (fun q => if q < 0 then za3 (j.ca[p] q) (k q) else j.ca[p] q) = j.ca[p] := by funext q; rw [if_neg (by omega)]
   rw [this, List.set_getElem_self]
  rw [h0] at hl
  refine ⟨_, ?_, h.put (p := p) (x := fun q => if q < 8 then za3 (j.ca[p] q) (k q) else j.ca[p] q) (fun r hr => ?_) j.any h.lenA, ?_, ?_⟩
  ·unfold zD
   rw [e1]
   simp only [zbs, hb, Bool.not_true, zfe, if_false]
   rw [hl]; rfl
  ·simp only [hr, if_true]
   exact (h.wt p _ hx r hr).join (hk r hr)
  ·intro q cs hc
   by_cases e : q = p
   ·subst e
    rw [if_pos rfl]
    have hne : cs ≠ [] := by
     intro e; subst e
     have := hc.any
     rw [ha, hb] at this
     cases this
    obtain ⟨c, rest, rfl⟩ := List.exists_cons_of_ne_nil hne
    obtain ⟨x, hx', hv⟩ := hc.val c rest rfl
    rw [hx] at hx'
    obtain rfl := Option.some.inj hx'
    refine ⟨?_, ?_, ?_⟩
    ·show j.any[q]? = _
     rw [ha, hb]; rfl
    ·intro c' hc' r hr
     rcases List.mem_append.1 hc' with h1 | h1
     ·exact hc.wt c' h1 r hr
     ·simp only [List.mem_singleton] at h1; subst h1; exact hk r hr
    ·intro c' rest' heq
     simp only [List.cons_append, List.cons.injEq] at heq
     obtain ⟨rfl, rfl⟩ := heq
     refine ⟨_, List.getElem?_set_self hpc, fun r hr => ?_⟩
     simp only [hr, if_true]
     rw [hv r hr, List.map_append, List.foldl_append]
     rfl
   ·rw [if_neg e]
    refine ⟨hc.any, hc.wt, fun c rest heq => ?_⟩
    obtain ⟨x, hx', hv⟩ := hc.val c rest heq
    exact ⟨x, by show (j.ca.set p _)[q]? = _; rw [zbM e]; exact hx', hv⟩
  ·intro q hq
   exact ⟨zbM hq, rfl⟩
 ·have hb' : j.any[p] = false := by simpa using hb
  refine ⟨_, ?_, h.put (p := p) (x := k) hk (j.any.set p true) (by rw [List.length_set]; exact h.lenA), ?_, ?_⟩
  ·unfold zD
   rw [e1]
   simp only [zbs, hb', Bool.not_false, if_true, e2, Int.toNat_natCast]
  ·intro q cs hc
   by_cases e : q = p
   ·subst e
    rw [if_pos rfl]
    have hnil : cs = [] := by
     have := hc.any
     rw [ha, hb'] at this
     cases cs with
     | nil => rfl
     | cons c r => cases this
    subst hnil
    refine ⟨List.getElem?_set_self hpa, ?_, ?_⟩
    ·intro c' hc' r hr
     simp only [List.nil_append, List.mem_singleton] at hc'
     subst hc'; exact hk r hr
    ·intro c' rest' heq
     simp only [List.nil_append, List.cons.injEq] at heq
     obtain ⟨rfl, rfl⟩ := heq
     exact ⟨_, List.getElem?_set_self hpc, fun r hr => rfl⟩
   ·rw [if_neg e]
    refine ⟨by show (j.any.set p true)[q]? = _; rw [zbM e]; exact hc.any, hc.wt, fun c rest heq => ?_⟩
    obtain ⟨x, hx', hv⟩ := hc.val c rest heq
    exact ⟨x, by show (j.ca.set p _)[q]? = _; rw [zbM e]; exact hx', hv⟩
  ·intro q hq
   exact ⟨zbM hq, zbM hq⟩
def ctr (i : zc) (p q : Nat) (lv : Bool -> Option Regs) : List Regs :=
 (if (zr i).2.1 && ((p : Int) + (zr i).1 == (q : Int)) then (lv true).toList else []) ++ (if (zr i).2.2 && (p + 1 == q) then (lv false).toList else [])
def zhf (i : zc) (k k' : Regs) (b : Bool) : Option Regs :=
 if 16 <= i.Op /\ i.Op <= 19 then (match jI i.Op (k i.A.toNat).Sp (zfh i k).Sp b with | some (s, true) => some (zW k i.A.toNat ⟨1, s, 0⟩) | _ => none) else some k'
theorem zf7 {i : zc} {k k' : Regs} (h : ¬ (16 <= i.Op /\ i.Op <= 19)) (b : Bool) : zhf i k k' b = some k' := if_neg h
theorem zmj {m : zi} {j : ze} (h : JI m j) (hg : zen m.Co) {p : Nat} (hp : p < m.Co.length) {i : zc} (hi : m.Co[p]? = some i) {k k' : Regs} (hk : ∀ r, r < 8 -> WT m.Ms.length (k r)) (hk' : ∀ r, r < 8 -> WT m.Ms.length (k' r))
    (hsame : 15 <= i.Op -> i.Op <= 20 -> k' = k) :
    ∃ j', jB j p k' = some j' /\ JI m j' /\ (∀ q cs, p < q -> zhT m j q cs -> zhT m j' q (cs ++ ctr i p q (zhf i k k'))) /\ ∀ q, q <= p -> j'.ca[q]? = j.ca[q]? /\ j'.any[q]? = j.any[q]? := by
  have hr : zO i = true := hg.fine.right hi
  have ho := za4 hr
  have n64 := hg.n64
  have eidx : idx m.Co (p : Int) = some i := by unfold Go.Sx.idx; rw [if_pos (by omega)]; exact hi
  unfold jB
  rw [h.mod, eidx]
  simp only [zbs, zcL]
  have wp : w64 ((p : Int) + 1) = ((p + 1 : Nat) : Int) := by rw [zI (by omega) (by omega)]; push_cast; rfl
  by_cases hl : (zr i).2.1 = true
  · rcases zjl hl with ⟨d0, o1, o2, hon⟩ | ⟨d0, o1, hon⟩
    · have hld := hg.fine.leads hi hl
      obtain ⟨t, ht⟩ : ∃ t : Nat, (p : Int) + (zr i).1 = (t : Int) := ⟨((p : Int) + (zr i).1).toNat, by omega⟩
      have hpt : p < t := by omega
      have htl : t < m.Co.length := by omega
      have c1 : (!(zr i).2.1 || decide ((zr i).1 < 0)) = false := by rw [hl, decide_eq_false (by omega)]; rfl
      simp only [c1, zfe, if_false, ht, wp]
      have wt' : w64 (t : Int) = (t : Int) := zI (by omega) (by omega)
      simp only [wt']
      by_cases h15 : i.Op = 15
      · have hon' : (zr i).2.2 = false := by rw [hon, h15]; rfl
        simp only [hon', Bool.not_false, if_true]
        obtain ⟨j', e, hJ, hc, hs⟩ := zhe h htl hk'
        rw [e]
        refine ⟨j', rfl, hJ, fun q cs hq hcs => ?_, fun q hq => hs q (by omega)⟩
        have := hc q cs hcs
        have hct : ctr i p q (zhf i k k') = if q = t then [k'] else [] := by
          unfold ctr
          rw [hl, hon', ht]
          simp only [zf7 (show ¬ (16 <= i.Op /\ i.Op <= 19) by omega)]
          by_cases e : q = t
          · subst e; simp
          · have : ((t : Int) == (q : Int)) = false := by simp; omega
            simp [this, e]
        rw [hct]
        by_cases e : q = t
        · rw [if_pos e] at this |-; exact this
        · rw [if_neg e] at this |-; rw [List.append_nil]; exact this
      · have hon' : (zr i).2.2 = true := by rw [hon]; simpa using h15
        have hsrc := qP hr (.inr (by omega))
        obtain rfl : k = k' := (hsame (by omega) (by omega)).symm
        have hA := zbl hr
        have hpn : p + 1 < m.Co.length := hg.fine.on hi hon'
        simp only [hon', Bool.not_true, zfe, if_false, zeF hsrc, zbs]
        have hw := zcu hsrc hk
        have way : ∀ (b : Bool) (jj : ze), JI m jj -> ∃ jj', (∀ again : ze -> Option ze, ((if (!b) = true then some (((p + 1 : Nat) : Int)) else some (t : Int) : Option Int).bind fun o665 =>
              ((ain 8 i.A).bind fun i695 => (jI i.Op (k i695).Sp (zfh i k).Sp b).bind fun r697 => some (r697.1, r697.2)).bind fun o691 =>
              if o691.2 = true then (jA o691.1).bind fun r723 => (ain 8 i.A).bind fun i727 => (zD jj o665 (zW k i727 r723)).bind fun r735 => again r735 else again jj) = again jj') /\ JI m jj' /\
            (∀ q cs, p < q -> zhT m jj q cs -> zhT m jj' q (cs ++ (if (if b then t else p + 1) = q then (zhf i k k b).toList else []))) /\ ∀ q, q <= p -> jj'.ca[q]? = jj.ca[q]? /\ jj'.any[q]? = jj.any[q]? := by
          intro b jj hJ
          obtain ⟨r, hR, hsw⟩ := zgr (op := i.Op) (h := b) (hk i.A.toNat (by omega)).span hw.span
          have hto : (if (!b) = true then some (((p + 1 : Nat) : Int)) else some (t : Int) : Option Int) = some (((if b then t else p + 1 : Nat)) : Int) := by cases b <;> rfl
          simp only [hto, zbs, zf0 hA.1 hA.2, hR, vQ]
          have hlv : zhf i k k b = if r.2 then some (zW k i.A.toNat ⟨1, r.1, 0⟩) else none := by
            unfold zhf
            rw [if_pos (show 16 <= i.Op /\ i.Op <= 19 by omega), hR]
            obtain ⟨s, ok⟩ := r
            cases ok <;> rfl
          by_cases hok : r.2 = true
          · have hto2 : (if b then t else p + 1) < m.Co.length := by cases b <;> simp <;> omega
            have htp : p < (if b then t else p + 1) := by cases b <;> simp <;> omega
            obtain ⟨j', e, hJ', hc, hs⟩ := zhe hJ hto2 (k := zW k i.A.toNat ⟨1, r.1, 0⟩) (zcv hk (WT.num hsw))
            refine ⟨j', fun again => ?_, hJ', fun q cs hq hcs => ?_, fun q hq => hs q (by omega)⟩
            · simp only [hok, if_true, e, zbs]
            · have := hc q cs hcs
              have e2 : (zhf i k k b).toList = [zW k i.A.toNat ⟨1, r.1, 0⟩] := by rw [hlv, if_pos hok]; rfl
              rw [e2]
              by_cases e : q = (if b then t else p + 1)
              · rw [if_pos e] at this; rw [if_pos e.symm]; exact this
              · rw [if_neg e] at this; rw [if_neg (fun h => e h.symm), List.append_nil]; exact this
          · have hok' : r.2 = false := by simpa using hok
            refine ⟨jj, fun again => ?_, hJ, fun q cs hq hcs => ?_, fun q hq => ⟨rfl, rfl⟩⟩
            · simp only [hok', zfe, if_false]
            · have e2 : (zhf i k k b).toList = [] := by rw [hlv, hok']; rfl
              rw [e2]
              have : (if (if b then t else p + 1) = q then ([] : List Regs) else []) = [] := ite_self _
              rw [this, List.append_nil]; exact hcs
        obtain ⟨j1, e1, hJ1, hc1, hs1⟩ := way true j h
        obtain ⟨j2, e2, hJ2, hc2, hs2⟩ := way false j1 hJ1
        refine ⟨j2, ?_, hJ2, fun q cs hq hcs => ?_, fun q hq => ⟨(hs2 q hq).1.trans (hs1 q hq).1, (hs2 q hq).2.trans (hs1 q hq).2⟩⟩
        · have l1 : ∀ (again : ze -> Option ze) (s : ze), zV p k i (zr i) (zfh i k) 0 again s = ((if (!true) = true then some (((p + 1 : Nat) : Int)) else some (t : Int) : Option Int).bind fun o665 =>
              ((ain 8 i.A).bind fun i695 => (jI i.Op (k i695).Sp (zfh i k).Sp true).bind fun r697 => some (r697.1, r697.2)).bind fun o691 =>
              if o691.2 = true then (jA o691.1).bind fun r723 => (ain 8 i.A).bind fun i727 => (zD s o665 (zW k i727 r723)).bind fun r735 => again r735 else again s) := by
            intro again s
            unfold zV
            have : idx [true, false] ((0 : Nat) : Int) = some true := rfl
            rw [this]
            simp only [zbs, ht, wt', wp]
          have l2 : ∀ (again : ze -> Option ze) (s : ze), zV p k i (zr i) (zfh i k) 1 again s = ((if (!false) = true then some (((p + 1 : Nat) : Int)) else some (t : Int) : Option Int).bind fun o665 =>
              ((ain 8 i.A).bind fun i695 => (jI i.Op (k i695).Sp (zfh i k).Sp false).bind fun r697 => some (r697.1, r697.2)).bind fun o691 =>
              if o691.2 = true then (jA o691.1).bind fun r723 => (ain 8 i.A).bind fun i727 => (zD s o665 (zW k i727 r723)).bind fun r735 => again r735 else again s) := by
            intro again s
            unfold zV
            have : idx [true, false] ((1 : Nat) : Int) = some false := rfl
            rw [this]
            simp only [zbs, ht, wt', wp]
          show (zV p k i (zr i) (zfh i k) 0 (fun s => zV p k i (zr i) (zfh i k) 1 (fun s => some s) s) j).bind _ = _
          rw [l1, e1, l2, e2]; rfl
        · have := hc2 q _ hq (hc1 q cs hq hcs)
          have hct : ctr i p q (zhf i k k) = (if t = q then (zhf i k k true).toList else []) ++ (if p + 1 = q then (zhf i k k false).toList else []) := by
            unfold ctr
            rw [hl, hon', ht]
            have e3 : ((t : Int) == (q : Int)) = decide (t = q) := by
              by_cases e : t = q
              · subst e; simp
              · simp [e]; omega
            have e4 : (p + 1 == q) = decide (p + 1 = q) := by
              by_cases e : p + 1 = q
              · subst e; simp
              · simp [e]
            simp only [e3, e4, Bool.true_and, zdq]
          rw [hct, <- List.append_assoc]
          exact this
    ·
      have hpn : p + 1 < m.Co.length := hg.fine.on hi hon
      have c1 : (!(zr i).2.1 || decide ((zr i).1 < 0)) = true := by rw [decide_eq_true d0, Bool.or_true]
      simp only [c1, hon, if_true, wp]
      obtain ⟨j', e, hJ, hc, hs⟩ := zhe h hpn hk'
      rw [e]
      refine ⟨j', rfl, hJ, fun q cs hq hcs => ?_, fun q hq => hs q (by omega)⟩
      have := hc q cs hcs
      have hct : ctr i p q (zhf i k k') = if q = p + 1 then [k'] else [] := by
        unfold ctr
        have : ((p : Int) + (zr i).1 == (q : Int)) = false := by simp; omega
        rw [this, hon]
        simp only [zf7 (show ¬ (16 <= i.Op /\ i.Op <= 19) by omega)]
        by_cases e : q = p + 1
        · subst e; simp
        · have : (p + 1 == q) = false := by simp; omega
          simp [this, e]
      rw [hct]
      by_cases e : q = p + 1
      · rw [if_pos e] at this |-; exact this
      · rw [if_neg e] at this |-; rw [List.append_nil]; exact this
  · have hl' : (zr i).2.1 = false := by simpa using hl
    have c1 : (!(zr i).2.1 || decide ((zr i).1 < 0)) = true := by rw [hl']; rfl
    simp only [c1, if_true, wp]
    have hop : ¬ (16 <= i.Op /\ i.Op <= 19) := by
      intro hx
      have := xx hr (by omega) (by omega)
      rw [this] at hl'; cases hl'
    by_cases hon : (zr i).2.2 = true
    · have hpn : p + 1 < m.Co.length := hg.fine.on hi hon
      simp only [hon, if_true]
      obtain ⟨j', e, hJ, hc, hs⟩ := zhe h hpn hk'
      rw [e]
      refine ⟨j', rfl, hJ, fun q cs hq hcs => ?_, fun q hq => hs q (by omega)⟩
      have := hc q cs hcs
      have hct : ctr i p q (zhf i k k') = if q = p + 1 then [k'] else [] := by
        unfold ctr
        rw [hl', hon]
        simp only [zf7 hop]
        by_cases e : q = p + 1
        · subst e; simp
        · have : (p + 1 == q) = false := by simp; omega
          simp [this, e]
      rw [hct]
      by_cases e : q = p + 1
      · rw [if_pos e] at this |-; exact this
      · rw [if_neg e] at this |-; rw [List.append_nil]; exact this
    · have hon' : (zr i).2.2 = false := by simpa using hon
      simp only [hon', zfe, if_false]
      refine ⟨j, rfl, h, fun q cs hq hcs => ?_, fun q hq => ⟨rfl, rfl⟩⟩
      have hct : ctr i p q (zhf i k k') = [] := by unfold ctr; rw [hl', hon']; rfl
      rw [hct, List.append_nil]; exact hcs
end Go.Proofs.YtgmmfjpmahcocaaGreatDoor
