/- Texts KComeR, KAllR, KTr, KTr2 of this proof. -/
import Derived.Test.YtbmknhpfkpmigaaGreatDoorKUp
import Derived.Test.YtbmknhpfkpmigaaGreatDoorKSound2
set_option linter.unusedVariables false
set_option linter.unusedSimpArgs false
namespace Go.Proofs.YtbmknhpfkpmigaaGreatDoor
open Go.Sx
abbrev Regs := Nat -> za
structure ziA (m : zj) (j : zf) (q : Nat) (cs : List Regs) : Prop where
 any : j.any[q]? = some (!cs.isEmpty)
 wt : ∀ c ∈ cs, ∀ r, r < 8 -> WT m.Ms.length (c r)
 val : ∀ c rest, cs = c :: rest -> ∃ x, j.ca[q]? = some x /\ ∀ r, r < 8 -> x r = (rest.map (· r)).foldl zbq (c r)
theorem zlu {m : zj} {j : zf} (h : JI m j) {p : Nat} {x k : Regs} (hx : j.ca[p]? = some x) (hk : ∀ r, r < 8 -> WT m.Ms.length (k r)) : ∀ (c r : Nat), r + c = 8 ->
    qQ (qT p k) (fun (s : zf) => s) c r ⟨j.Module, j.ca.set p (fun q => if q < r then zbq (x q) (k q) else x q), j.any, j.loops⟩ = some ⟨j.Module, j.ca.set p (fun q => if q < 8 then zbq (x q) (k q) else x q), j.any, j.loops⟩ := by
  have hp : p < j.ca.length := (zes.1 hx).1
  have hxw := h.wt p x hx
  intro c
  induction c with
  | zero => intro r hr; have : r = 8 := by omega
            subst this; rfl
  | succ c ih =>
    intro r hr
    have ihx := ih (r + 1) (by omega)
    show qT p k r (qQ (qT p k) (fun (s : zf) => s) c (r + 1)) _ = _
    generalize qQ (qT p k) (fun (s : zf) => s) c (r + 1) = again at ihx |-
    unfold qT
    have e : idx (j.ca.set p (fun q => if q < r then zbq (x q) (k q) else x q)) (p : Int) = some (fun q => if q < r then zbq (x q) (k q) else x q) := by
      unfold Go.Sx.idx; rw [if_pos (by omega)]; exact List.getElem?_set_self hp
    simp only [e, zbs, znM (show r < 8 by omega), Nat.lt_irrefl, if_false, zgP (hxw r (by omega)).span (hk r (by omega)).span, Int.toNat_natCast, List.set_set]
    rw [<- ihx]
    congr 3
    funext q
    unfold jf
    by_cases h1 : q = r
    · subst h1; rw [if_pos rfl, if_pos (by omega)]
    · rw [if_neg h1]
      show (if q < r then zbq (x q) (k q) else x q) = _
      by_cases h2 : q < r
      · rw [if_pos h2, if_pos (by omega)]
      · rw [if_neg h2, if_neg (by omega)]
theorem zhP {m : zj} {j : zf} (h : JI m j) {p : Nat} (hp : p < m.Co.length) {k : Regs} (hk : ∀ r, r < 8 -> WT m.Ms.length (k r)) :
  ∃ j', zG j p k = some j' /\ JI m j' /\ (∀ q cs, ziA m j q cs -> ziA m j' q (if q = p then cs ++ [k] else cs)) /\ ∀ q, q ≠ p -> j'.ca[q]? = j.ca[q]? /\ j'.any[q]? = j.any[q]? := by
 have hpc : p < j.ca.length := by rw [h.lenC]; exact hp
 have hpa : p < j.any.length := by rw [h.lenA]; exact hp
 have hx : j.ca[p]? = some j.ca[p] := zeg hpc
 have ha : j.any[p]? = some j.any[p] := zeg hpa
 have e1 : idx j.any (p : Int) = some j.any[p] := ze8 hpa
 have e2 : idx j.ca (p : Int) = some j.ca[p] := ze8 hpc
 by_cases hb : j.any[p] = true
 ·have hl := zlu h hx hk 8 0 rfl
  have h0 : (⟨j.Module, j.ca.set p (fun q => if q < 0 then zbq (j.ca[p] q) (k q) else j.ca[p] q), j.any, j.loops⟩ : zf) = j := by
   have : (fun q => if q < 0 then zbq (j.ca[p] q) (k q) else j.ca[p] q) = j.ca[p] := by funext q; rw [if_neg (by omega)]
   rw [this, List.set_getElem_self]
  rw [h0] at hl
  refine ⟨_, ?_, h.put (p := p) (x := fun q => if q < 8 then zbq (j.ca[p] q) (k q) else j.ca[p] q) (fun r hr => ?_) j.any h.lenA, ?_, ?_⟩
  ·unfold zG
   rw [e1]
   simp only [zbs, hb, Bool.not_true, zfe, if_false]
   rw [hl]; rfl
  ·simp only [hr, if_true]
   exact (h.wt p _ hx r hr).join (hk r hr)
  ·intro q cs hc
   by_cases e : q = p
   ·subst e
    rw [if_pos rfl]
    have hne : cs ≠ [] := by
     intro e; subst e
     have := hc.any
     rw [ha, hb] at this
     cases this
    obtain ⟨c, rest, rfl⟩ := List.exists_cons_of_ne_nil hne
    obtain ⟨x, hx', hv⟩ := hc.val c rest rfl
    rw [hx] at hx'
    obtain rfl := Option.some.inj hx'
    refine ⟨?_, ?_, ?_⟩
    ·show j.any[q]? = _
     rw [ha, hb]; rfl
    ·intro c' hc' r hr
     rcases List.mem_append.1 hc' with h1 | h1
     ·exact hc.wt c' h1 r hr
     ·simp only [List.mem_singleton] at h1; subst h1; exact hk r hr
    ·intro c' rest' heq
     simp only [List.cons_append, List.cons.injEq] at heq
     obtain ⟨rfl, rfl⟩ := heq
     refine ⟨_, List.getElem?_set_self hpc, fun r hr => ?_⟩
     simp only [hr, if_true]
     rw [hv r hr, List.map_append, List.foldl_append]
     rfl
   ·rw [if_neg e]
    refine ⟨hc.any, hc.wt, fun c rest heq => ?_⟩
    obtain ⟨x, hx', hv⟩ := hc.val c rest heq
    exact ⟨x, by show (j.ca.set p _)[q]? = _; rw [zbY e]; exact hx', hv⟩
  ·intro q hq
   exact ⟨zbY hq, rfl⟩
 ·have hb' : j.any[p] = false := by simpa using hb
  refine ⟨_, ?_, h.put (p := p) (x := k) hk (j.any.set p true) (by rw [List.length_set]; exact h.lenA), ?_, ?_⟩
  ·unfold zG
   rw [e1]
   simp only [zbs, hb', Bool.not_false, if_true, e2, Int.toNat_natCast]
  ·intro q cs hc
   by_cases e : q = p
   ·subst e
    rw [if_pos rfl]
    have hnil : cs = [] := by
     have := hc.any
     rw [ha, hb'] at this
     cases cs with
     | nil => rfl
     | cons c r => cases this
    subst hnil
    refine ⟨List.getElem?_set_self hpa, ?_, ?_⟩
    ·intro c' hc' r hr
     simp only [List.nil_append, List.mem_singleton] at hc'
     subst hc'; exact hk r hr
    ·intro c' rest' heq
     simp only [List.nil_append, List.cons.injEq] at heq
     obtain ⟨rfl, rfl⟩ := heq
     exact ⟨_, List.getElem?_set_self hpc, fun r hr => rfl⟩
   ·rw [if_neg e]
    refine ⟨by show (j.any.set p true)[q]? = _; rw [zbY e]; exact hc.any, hc.wt, fun c rest heq => ?_⟩
    obtain ⟨x, hx', hv⟩ := hc.val c rest heq
    exact ⟨x, by show (j.ca.set p _)[q]? = _; rw [zbY e]; exact hx', hv⟩
  ·intro q hq
   exact ⟨zbY hq, zbY hq⟩
def ctr (i : zc) (p q : Nat) (lv : Bool -> Option Regs) : List Regs :=
 (if (zr i).2.1 && ((p : Int) + (zr i).1 == (q : Int)) then (lv true).toList else []) ++ (if (zr i).2.2 && (p + 1 == q) then (lv false).toList else [])
def zhQ (i : zc) (k k' : Regs) (b : Bool) : Option Regs :=
 if 16 <= i.Op /\ i.Op <= 19 then (match xa i.Op (k i.A.toNat).Sp (zfz i k).Sp b with | some (s, true) => some (jf k i.A.toNat ⟨1, s, 0⟩) | _ => none) else some k'
theorem zgr {i : zc} {k k' : Regs} (h : ¬ (16 <= i.Op /\ i.Op <= 19)) (b : Bool) : zhQ i k k' b = some k' := if_neg h
theorem zn4 {m : zj} {j : zf} (h : JI m j) (hg : ze7 m.Co) {p : Nat} (hp : p < m.Co.length) {i : zc} (hi : m.Co[p]? = some i) {k k' : Regs} (hk : ∀ r, r < 8 -> WT m.Ms.length (k r)) (hk' : ∀ r, r < 8 -> WT m.Ms.length (k' r))
    (hsame : 15 <= i.Op -> i.Op <= 20 -> k' = k) :
    ∃ j', jE j p k' = some j' /\ JI m j' /\ (∀ q cs, p < q -> ziA m j q cs -> ziA m j' q (cs ++ ctr i p q (zhQ i k k'))) /\ ∀ q, q <= p -> j'.ca[q]? = j.ca[q]? /\ j'.any[q]? = j.any[q]? := by
  have hr : qe i = true := hg.fine.right hi
  have ho := zbr hr
  have n64 := hg.n64
  have eidx : idx m.Co (p : Int) = some i := by unfold Go.Sx.idx; rw [if_pos (by omega)]; exact hi
  unfold jE
  rw [h.mod, eidx]
  simp only [zbs, zdh]
  have wp : w64 ((p : Int) + 1) = ((p + 1 : Nat) : Int) := by rw [zO (by omega) (by omega)]; push_cast; rfl
  by_cases hl : (zr i).2.1 = true
  · rcases zkd hl with ⟨d0, o1, o2, hon⟩ | ⟨d0, o1, hon⟩
    · have hld := hg.fine.leads hi hl
      obtain ⟨t, ht⟩ : ∃ t : Nat, (p : Int) + (zr i).1 = (t : Int) := ⟨((p : Int) + (zr i).1).toNat, by omega⟩
      have hpt : p < t := by omega
      have htl : t < m.Co.length := by omega
      have c1 : (!(zr i).2.1 || decide ((zr i).1 < 0)) = false := by rw [hl, decide_eq_false (by omega)]; rfl
      simp only [c1, zfe, if_false, ht, wp]
      have wt' : w64 (t : Int) = (t : Int) := zO (by omega) (by omega)
      simp only [wt']
      by_cases h15 : i.Op = 15
      · have hon' : (zr i).2.2 = false := by rw [hon, h15]; rfl
        simp only [hon', Bool.not_false, if_true]
        obtain ⟨j', e, hJ, hc, hs⟩ := zhP h htl hk'
        rw [e]
        refine ⟨j', rfl, hJ, fun q cs hq hcs => ?_, fun q hq => hs q (by omega)⟩
        have := hc q cs hcs
        have hct : ctr i p q (zhQ i k k') = if q = t then [k'] else [] := by
          unfold ctr
          rw [hl, hon', ht]
          simp only [zgr (show ¬ (16 <= i.Op /\ i.Op <= 19) by omega)]
          by_cases e : q = t
          · subst e; simp
          · have : ((t : Int) == (q : Int)) = false := by simp; omega
            simp [this, e]
        rw [hct]
        by_cases e : q = t
        · rw [if_pos e] at this |-; exact this
        · rw [if_neg e] at this |-; rw [List.append_nil]; exact this
      · have hon' : (zr i).2.2 = true := by rw [hon]; simpa using h15
        have hsrc := jU hr (.inr (by omega))
        obtain rfl : k = k' := (hsame (by omega) (by omega)).symm
        have hA := zbH hr
        have hpn : p + 1 < m.Co.length := hg.fine.on hi hon'
        simp only [hon', Bool.not_true, zfe, if_false, ze1 hsrc, zbs]
        have hw := zcZ hsrc hk
        have way : ∀ (b : Bool) (jj : zf), JI m jj -> ∃ jj', (∀ again : zf -> Option zf, ((if (!b) = true then some (((p + 1 : Nat) : Int)) else some (t : Int) : Option Int).bind fun o665 =>
              ((ain 8 i.A).bind fun i695 => (xa i.Op (k i695).Sp (zfz i k).Sp b).bind fun r697 => some (r697.1, r697.2)).bind fun o691 =>
              if o691.2 = true then (jL o691.1).bind fun r723 => (ain 8 i.A).bind fun i727 => (zG jj o665 (jf k i727 r723)).bind fun r735 => again r735 else again jj) = again jj') /\ JI m jj' /\
            (∀ q cs, p < q -> ziA m jj q cs -> ziA m jj' q (cs ++ (if (if b then t else p + 1) = q then (zhQ i k k b).toList else []))) /\ ∀ q, q <= p -> jj'.ca[q]? = jj.ca[q]? /\ jj'.any[q]? = jj.any[q]? := by
          intro b jj hJ
          obtain ⟨r, hR, hsw⟩ := zgQ (op := i.Op) (h := b) (hk i.A.toNat (by omega)).span hw.span
          have hto : (if (!b) = true then some (((p + 1 : Nat) : Int)) else some (t : Int) : Option Int) = some (((if b then t else p + 1 : Nat)) : Int) := by cases b <;> rfl
          simp only [hto, zbs, zgi hA.1 hA.2, hR, zaD]
          have hlv : zhQ i k k b = if r.2 then some (jf k i.A.toNat ⟨1, r.1, 0⟩) else none := by
            unfold zhQ
            rw [if_pos (show 16 <= i.Op /\ i.Op <= 19 by omega), hR]
            obtain ⟨s, ok⟩ := r
            cases ok <;> rfl
          by_cases hok : r.2 = true
          · have hto2 : (if b then t else p + 1) < m.Co.length := by cases b <;> simp <;> omega
            have htp : p < (if b then t else p + 1) := by cases b <;> simp <;> omega
            obtain ⟨j', e, hJ', hc, hs⟩ := zhP hJ hto2 (k := jf k i.A.toNat ⟨1, r.1, 0⟩) (zc0 hk (WT.num hsw))
            refine ⟨j', fun again => ?_, hJ', fun q cs hq hcs => ?_, fun q hq => hs q (by omega)⟩
            · simp only [hok, if_true, e, zbs]
            · have := hc q cs hcs
              have e2 : (zhQ i k k b).toList = [jf k i.A.toNat ⟨1, r.1, 0⟩] := by rw [hlv, if_pos hok]; rfl
              rw [e2]
              by_cases e : q = (if b then t else p + 1)
              · rw [if_pos e] at this; rw [if_pos e.symm]; exact this
              · rw [if_neg e] at this; rw [if_neg (fun h => e h.symm), List.append_nil]; exact this
          · have hok' : r.2 = false := by simpa using hok
            refine ⟨jj, fun again => ?_, hJ, fun q cs hq hcs => ?_, fun q hq => ⟨rfl, rfl⟩⟩
            · simp only [hok', zfe, if_false]
            · have e2 : (zhQ i k k b).toList = [] := by rw [hlv, hok']; rfl
              rw [e2]
              have : (if (if b then t else p + 1) = q then ([] : List Regs) else []) = [] := ite_self _
              rw [this, List.append_nil]; exact hcs
        obtain ⟨j1, e1, hJ1, hc1, hs1⟩ := way true j h
        obtain ⟨j2, e2, hJ2, hc2, hs2⟩ := way false j1 hJ1
        refine ⟨j2, ?_, hJ2, fun q cs hq hcs => ?_, fun q hq => ⟨(hs2 q hq).1.trans (hs1 q hq).1, (hs2 q hq).2.trans (hs1 q hq).2⟩⟩
        · have l1 : ∀ (again : zf -> Option zf) (s : zf), qC p k i (zr i) (zfz i k) 0 again s = ((if (!true) = true then some (((p + 1 : Nat) : Int)) else some (t : Int) : Option Int).bind fun o665 =>
              ((ain 8 i.A).bind fun i695 => (xa i.Op (k i695).Sp (zfz i k).Sp true).bind fun r697 => some (r697.1, r697.2)).bind fun o691 =>
              if o691.2 = true then (jL o691.1).bind fun r723 => (ain 8 i.A).bind fun i727 => (zG s o665 (jf k i727 r723)).bind fun r735 => again r735 else again s) := by
            intro again s
            unfold qC
            have : idx [true, false] ((0 : Nat) : Int) = some true := rfl
            rw [this]
            simp only [zbs, ht, wt', wp]
          have l2 : ∀ (again : zf -> Option zf) (s : zf), qC p k i (zr i) (zfz i k) 1 again s = ((if (!false) = true then some (((p + 1 : Nat) : Int)) else some (t : Int) : Option Int).bind fun o665 =>
              ((ain 8 i.A).bind fun i695 => (xa i.Op (k i695).Sp (zfz i k).Sp false).bind fun r697 => some (r697.1, r697.2)).bind fun o691 =>
              if o691.2 = true then (jL o691.1).bind fun r723 => (ain 8 i.A).bind fun i727 => (zG s o665 (jf k i727 r723)).bind fun r735 => again r735 else again s) := by
            intro again s
            unfold qC
            have : idx [true, false] ((1 : Nat) : Int) = some false := rfl
            rw [this]
            simp only [zbs, ht, wt', wp]
          show (qC p k i (zr i) (zfz i k) 0 (fun s => qC p k i (zr i) (zfz i k) 1 (fun s => some s) s) j).bind _ = _
          rw [l1, e1, l2, e2]; rfl
        · have := hc2 q _ hq (hc1 q cs hq hcs)
          have hct : ctr i p q (zhQ i k k) = (if t = q then (zhQ i k k true).toList else []) ++ (if p + 1 = q then (zhQ i k k false).toList else []) := by
            unfold ctr
            rw [hl, hon', ht]
            have e3 : ((t : Int) == (q : Int)) = decide (t = q) := by
              by_cases e : t = q
              · subst e; simp
              · simp [e]; omega
            have e4 : (p + 1 == q) = decide (p + 1 = q) := by
              by_cases e : p + 1 = q
              · subst e; simp
              · simp [e]
            simp only [e3, e4, Bool.true_and, zdq]
          rw [hct, <- List.append_assoc]
          exact this
    ·
      have hpn : p + 1 < m.Co.length := hg.fine.on hi hon
      have c1 : (!(zr i).2.1 || decide ((zr i).1 < 0)) = true := by rw [decide_eq_true d0, Bool.or_true]
      simp only [c1, hon, if_true, wp]
      obtain ⟨j', e, hJ, hc, hs⟩ := zhP h hpn hk'
      rw [e]
      refine ⟨j', rfl, hJ, fun q cs hq hcs => ?_, fun q hq => hs q (by omega)⟩
      have := hc q cs hcs
      have hct : ctr i p q (zhQ i k k') = if q = p + 1 then [k'] else [] := by
        unfold ctr
        have : ((p : Int) + (zr i).1 == (q : Int)) = false := by simp; omega
        rw [this, hon]
        simp only [zgr (show ¬ (16 <= i.Op /\ i.Op <= 19) by omega)]
        by_cases e : q = p + 1
        · subst e; simp
        · have : (p + 1 == q) = false := by simp; omega
          simp [this, e]
      rw [hct]
      by_cases e : q = p + 1
      · rw [if_pos e] at this |-; exact this
      · rw [if_neg e] at this |-; rw [List.append_nil]; exact this
  · have hl' : (zr i).2.1 = false := by simpa using hl
    have c1 : (!(zr i).2.1 || decide ((zr i).1 < 0)) = true := by rw [hl']; rfl
    simp only [c1, if_true, wp]
    have hop : ¬ (16 <= i.Op /\ i.Op <= 19) := by
      intro hx
      have := vg hr (by omega) (by omega)
      rw [this] at hl'; cases hl'
    by_cases hon : (zr i).2.2 = true
    · have hpn : p + 1 < m.Co.length := hg.fine.on hi hon
      simp only [hon, if_true]
      obtain ⟨j', e, hJ, hc, hs⟩ := zhP h hpn hk'
      rw [e]
      refine ⟨j', rfl, hJ, fun q cs hq hcs => ?_, fun q hq => hs q (by omega)⟩
      have := hc q cs hcs
      have hct : ctr i p q (zhQ i k k') = if q = p + 1 then [k'] else [] := by
        unfold ctr
        rw [hl', hon]
        simp only [zgr hop]
        by_cases e : q = p + 1
        · subst e; simp
        · have : (p + 1 == q) = false := by simp; omega
          simp [this, e]
      rw [hct]
      by_cases e : q = p + 1
      · rw [if_pos e] at this |-; exact this
      · rw [if_neg e] at this |-; rw [List.append_nil]; exact this
    · have hon' : (zr i).2.2 = false := by simpa using hon
      simp only [hon', zfe, if_false]
      refine ⟨j, rfl, h, fun q cs hq hcs => ?_, fun q hq => ⟨rfl, rfl⟩⟩
      have hct : ctr i p q (zhQ i k k') = [] := by unfold ctr; rw [hl', hon']; rfl
      rw [hct, List.append_nil]; exact hcs
end Go.Proofs.YtbmknhpfkpmigaaGreatDoor
namespace Go.Proofs.YtbmknhpfkpmigaaGreatDoor
open Go.Sx
def zo6 : Regs := fun _ => zax
def cons (code : List zc) (lv : Nat -> Bool -> Option Regs) : Nat -> Nat -> List Regs
 | 0, q => if q = 0 then [zo6] else []
 | n + 1, q => cons code lv n q ++ (match code[n]? with | some i => ctr i n q (lv n) | none => [])
theorem zj3 (code : List zc) (lv : Nat -> Bool -> Option Regs) (q : Nat) : ∀ n, (cons code lv n q).length <= 1 + 2 * n := by
 intro n
 induction n with
 | zero => unfold cons; split <;> simp
 | succ n ih =>
  unfold cons
  rw [List.length_append]
  have : (match code[n]? with | some i => ctr i n q (lv n) | none => []).length <= 2 := by
   split
   ·rename_i i _
    unfold ctr
    rw [List.length_append]
    have a : ∀ (c : Bool) (o : Option Regs), (if c = true then o.toList else []).length <= 1 := by
     intro c o
     cases c <;> cases o <;> simp
    have := a ((zr i).2.1 && ((n : Int) + (zr i).1 == (q : Int))) (lv n true)
    have := a ((zr i).2.2 && (n + 1 == q)) (lv n false)
    omega
   ·simp
  omega
structure zjj (fu : Nat) (m : zj) (n : Nat) (j : zf) (known : List (List za)) (lv : Nat -> Bool -> Option Regs) : Prop where
 len : known.length = n
 past : ∀ p, p < n -> ∃ x b, j.ca[p]? = some x /\ j.any[p]? = some b /\ known[p]? = some (if b then xE 8 x else [])
 none_ : ∀ p, p < n -> j.any[p]? = some false -> ∀ b, lv p b = none
 leaves : ∀ p x, p < n -> j.any[p]? = some true -> j.ca[p]? = some x -> ∀ b, zZ fu m p (xE 8 x) b = some (match lv p b with | some s => (xE 8 s, true) | none => ([], false))
 fut : ∀ q, n <= q -> q < m.Co.length -> ziA m j q (cons m.Co lv n q)
theorem zkw {fu : Nat} {m : zj} (hg : ze7 m.Co) {n : Nat} (hn : n < m.Co.length) {j : zf} {known : List (List za)} {lv : Nat -> Bool -> Option Regs} (hK : zjj fu m n j known lv) : ∀ (c p f : Nat), p + c = n -> c < f ->
  loop (qv fu m n known) f ((cons m.Co lv p n).map (xE 8), (p : Int)) = some ((cons m.Co lv n n).map (xE 8)) := by
 have n64 := hg.n64
 intro c
 induction c with
 | zero =>
  intro p f hp hf
  obtain ⟨f, rfl⟩ : ∃ k, f = k + 1 := ⟨f - 1, by omega⟩
  have : p = n := by omega
  subst this
  rw [loop, qv, if_neg (by simp)]
 | succ c ih =>
  intro p f hp hf
  obtain ⟨f, rfl⟩ : ∃ k, f = k + 1 := ⟨f - 1, by omega⟩
  have ihx := ih (p + 1) f (by omega) (by omega)
  have hci : m.Co[p]? = some (m.Co[p]'(by omega)) := zeg (by omega)
  have eidx : idx m.Co (p : Int) = some (m.Co[p]'(by omega)) := ze8 (by omega)
  generalize hz : m.Co[p]'(by omega) = i at hci eidx
  obtain ⟨x, b, hx, hb, hk⟩ := hK.past p (by omega)
  have ek : idx known (p : Int) = some (if b then xE 8 x else []) := by unfold Go.Sx.idx; rw [if_pos (by omega)]; exact hk
  have hnext : w64 ((p : Int) + 1) = ((p + 1 : Nat) : Int) := by rw [zO (by omega) (by omega)]; push_cast; rfl
  have hcons : cons m.Co lv (p + 1) n = cons m.Co lv p n ++ ctr i p n (lv p) := by rw [cons, hci]
  have hl1 := zj3 m.Co lv n p
  rw [loop, qv, if_pos (by simp; omega)]
  simp only [ek, zbs, hnext]
  cases b with
  | false =>
   have hn := hK.none_ p (by omega) hb
   have : ctr i p n (lv p) = [] := by unfold ctr; rw [hn, hn]; simp
   rw [hcons, this, List.append_nil] at ihx
   simp only [zfe, if_false]
   rw [if_pos (show ((([] : List za).length : Int) == 0) = true from rfl)]
   exact ihx
  | true =>
   have hlv := hK.leaves p x (by omega) hb hx
   have gs := zde i
   have wd : w64 ((p : Int) + (zr i).1) = (p : Int) + (zr i).1 := zO (by omega) (by omega)
   simp only [if_true, zaI]
   rw [if_neg (by decide)]
   simp only [eidx, zbs, zeE, wd, hlv]
   have h1 : (if ((zr i).2.1 && ((p : Int) + (zr i).1 == (n : Int))) = true then
     (if (match lv p true with | some s => (xE 8 s, true) | none => ([], false)).2 = true then (room (((cons m.Co lv p n).map (xE 8)).length + [(match lv p true with | some s => (xE 8 s, true) | none => (([] : List za), false)).1].length) 24).bind fun u => some ((cons m.Co lv p n).map (xE 8) ++ [(match lv p true with | some s => (xE 8 s, true) | none => (([] : List za), false)).1]) else some ((cons m.Co lv p n).map (xE 8)))
     else some ((cons m.Co lv p n).map (xE 8)) : Option (List (List za))) = some ((cons m.Co lv p n ++ (if (zr i).2.1 && ((p : Int) + (zr i).1 == (n : Int)) then (lv p true).toList else [])).map (xE 8)) := by
    by_cases hc : ((zr i).2.1 && ((p : Int) + (zr i).1 == (n : Int))) = true
    ·rw [if_pos hc, if_pos hc]
     cases hv : lv p true with
     | none => simp
     | some s =>
      have hroom : room (((cons m.Co lv p n).map (xE 8)).length + [xE 8 s].length) 24 = some () := by unfold Go.Sx.room; rw [if_pos]; simp; omega
      simp only [if_true, hroom, zbs]
      simp
    ·rw [if_neg hc, if_neg hc, List.append_nil]
   rw [h1]
   simp only [zbs]
   have e4 : ((((p + 1 : Nat) : Int)) == (n : Int)) = (p + 1 == n) := by
    by_cases e : p + 1 = n
    ·subst e; simp
    ·have : (((p + 1 : Nat) : Int) == (n : Int)) = false := by simp; omega
     rw [this]; simp [e]
   rw [e4]
   have hcs : cons m.Co lv (p + 1) n = cons m.Co lv p n ++ (if (zr i).2.1 && ((p : Int) + (zr i).1 == (n : Int)) then (lv p true).toList else []) ++ (if (zr i).2.2 && (p + 1 == n) then (lv p false).toList else []) := by
    rw [hcons]; unfold ctr; rw [List.append_assoc]
   generalize hA : cons m.Co lv p n ++ (if (zr i).2.1 && ((p : Int) + (zr i).1 == (n : Int)) then (lv p true).toList else []) = A at hcs |-
   have hAl : A.length <= 2 + 2 * p := by
    rw [<- hA, List.length_append]
    have : (if ((zr i).2.1 && ((p : Int) + (zr i).1 == (n : Int))) = true then (lv p true).toList else []).length <= 1 := by
     split
     ·cases lv p true <;> simp
     ·simp
    omega
   by_cases hc : ((zr i).2.2 && (p + 1 == n)) = true
   ·rw [if_pos hc]
    rw [hcs, if_pos hc] at ihx
    cases hv : lv p false with
    | none =>
     rw [hv] at ihx
     simp only [Option.toList_none, List.append_nil] at ihx
     simp only [zfe, if_false]
     exact ihx
    | some s =>
     rw [hv] at ihx
     have hroom : room ((A.map (xE 8)).length + [xE 8 s].length) 24 = some () := by unfold Go.Sx.room; rw [if_pos]; simp; omega
     simp only [if_true, hroom, zbs]
     simp only [Option.toList_some, List.map_append, List.map_cons, List.map_nil] at ihx
     exact ihx
   ·rw [if_neg hc]
    rw [hcs, if_neg hc, List.append_nil] at ihx
    exact ihx
theorem zm0 {fu : Nat} (hf : 100 <= fu) {m : zj} (hg : ze7 m.Co) {n : Nat} (hn : n < m.Co.length) {j : zf} {known : List (List za)} {lv : Nat -> Bool -> Option Regs} (hK : zjj fu m n j known lv) :
  jO fu m n known = some ((cons m.Co lv n n).map (xE 8)) := by
 have n64 := hg.n64
 have hl := zkw hg hn hK n 0 fu (by omega) (by omega)
 unfold jO
 by_cases h : n = 0
 ·subst h
  have e1 : mkLen 8 32 = some 8 := rfl
  have : (if (((0 : Nat) : Int) == 0) = true then (mkLen 8 32).bind fun m65 => (room (([] : List (List za)).length + ([(List.replicate m65 (za.mk 0 (zb.mk 0 0) 0))]).length) 24).bind fun u72 =>
    some (([] : List (List za)) ++ [(List.replicate m65 (za.mk 0 (zb.mk 0 0) 0))]) else some ([] : List (List za))) = some ((cons m.Co lv 0 0).map (xE 8)) := rfl
  rw [this, zbs]
  show (loop (qv fu m ((0 : Nat) : Int) known) fu (_, ((0 : Nat) : Int))).bind _ = _
  rw [hl]; rfl
 ·have e : ((n : Int) == 0) = false := by simp; omega
  rw [e]
  have : cons m.Co lv 0 n = [] := by unfold cons; rw [if_neg h]
  rw [this] at hl
  simp only [zfe, if_false, zbs]
  show (loop (qv fu m n known) fu (([] : List Regs).map (xE 8), ((0 : Nat) : Int))).bind _ = _
  rw [hl]; rfl
theorem zpZ (cs : List Regs) (hc : cs.length <= 200) {r : Nat} (hr : r < 8) : ∀ (rest : List Regs) (i : Nat) (acc : List za), cs.drop i = rest -> i + rest.length = cs.length -> acc.length = i ->
  qQ (xU (cs.map (xE 8)) r) (fun (s : List za) => s) rest.length i acc = some (acc ++ rest.map (· r)) := by
 intro rest
 induction rest with
 | nil => intro i acc _ _ _; simp [qQ]
 | cons x rest ih =>
  intro i acc hd hl ha
  simp only [List.length_cons] at hl
  have hx : cs[i]? = some x := by
   have := congrArg (fun l => l[0]?) hd
   simpa using this
  have hd2 : cs.drop (i + 1) = rest := by
   have := congrArg (fun l => l.drop 1) hd
   simpa [List.drop_drop, Nat.add_comm] using this
  have ihx := ih (i + 1) (acc ++ [x r]) hd2 (by omega) (by simp; omega)
  show xU (cs.map (xE 8)) r i (qQ (xU (cs.map (xE 8)) r) (fun (s : List za) => s) rest.length (i + 1)) acc = _
  generalize qQ (xU (cs.map (xE 8)) r) (fun (s : List za) => s) rest.length (i + 1) = again at ihx |-
  unfold xU
  have e : idx (cs.map (xE 8)) (i : Int) = some (xE 8 x) := by unfold Go.Sx.idx; rw [if_pos (by omega)]; simp [hx]
  have hroom : room (acc.length + [x r].length) 32 = some () := by unfold Go.Sx.room; rw [if_pos]; simp; omega
  simp only [e, zbs, jv x (show (0 : Int) <= (r : Int) by omega) (show (r : Int) < (8 : Nat) by omega), Int.toNat_natCast, hroom]
  rw [ihx]; simp
theorem zp0 {n : Nat} {c0 : Regs} {rest : List Regs} (hc : rest.length <= 190) (hw : ∀ c ∈ c0 :: rest, ∀ r, r < 8 -> WT n (c r)) {x : Regs} (hx : ∀ r, r < 8 -> x r = (rest.map (· r)).foldl zbq (c0 r)) : ∀ (c r : Nat), r + c = 8 ->
  qQ (jq ((c0 :: rest).map (xE 8))) (fun (s : List za) => s) c r (xE 8 (fun q => if q < r then x q else zax)) = some (xE 8 x) := by
 intro c
 induction c with
 | zero =>
  intro r hr
  have : r = 8 := by omega
  subst this
  exact congrArg some (zhO (fun q hq => if_pos hq))
 | succ c ih =>
  intro r hr
  have ihx := ih (r + 1) (by omega)
  show jq ((c0 :: rest).map (xE 8)) r (qQ (jq ((c0 :: rest).map (xE 8))) (fun (s : List za) => s) c (r + 1)) _ = _
  generalize qQ (jq ((c0 :: rest).map (xE 8))) (fun (s : List za) => s) c (r + 1) = again at ihx |-
  unfold jq
  have e1 := zpZ (c0 :: rest) (by simp; omega) (r := r) (by omega) (c0 :: rest) 0 [] rfl (by simp) rfl
  have el : ((c0 :: rest).map (xE 8)).length = (c0 :: rest).length := List.length_map _
  rw [el, e1]
  simp only [zbs, List.nil_append, List.map_cons]
  rw [zlH (n := n) (x0 := c0 r) (l := rest.map (· r)) (fun y hy => ?_) (by simp; omega)]
  ·simp only [zbs, jv (fun q => if q < r then x q else zax) (show (0 : Int) <= (r : Int) by omega) (show (r : Int) < (8 : Nat) by omega), Int.toNat_natCast, zau]
   rw [<- ihx]
   congr 1
   refine zhO (fun q hq => ?_)
   unfold jf
   by_cases h1 : q = r
   ·subst h1; rw [if_pos rfl, if_pos (by omega), hx q hq]
   ·rw [if_neg h1]
    show (if q < r then x q else zax) = _
    by_cases h2 : q < r
    ·rw [if_pos h2, if_pos (by omega)]
    ·rw [if_neg h2, if_neg (by omega)]
  ·rcases List.mem_cons.1 hy with rfl | hy
   ·exact hw c0 zcs r (by omega)
   ·obtain ⟨c', hc', rfl⟩ := List.mem_map.1 hy
    exact hw c' (zcm _ hc') r (by omega)
theorem zp1 {fu : Nat} (hf : 100 <= fu) {m : zj} (hg : ze7 m.Co) {n : Nat} (hn : n < m.Co.length) {j : zf} (hJ : JI m j) {known : List (List za)} {lv : Nat -> Bool -> Option Regs} (hK : zjj fu m n j known lv) :
  ∃ x b, j.ca[n]? = some x /\ j.any[n]? = some b /\ xw fu m n known = some (if b then xE 8 (zh9 m.Co n x m.Co.length) else []) := by
 have hC := hK.fut n (Nat.le_refl _) hn
 have hcl := zj3 m.Co lv n n
 have n64 := hg.n64
 have hlen : n < j.ca.length := by rw [hJ.lenC]; exact hn
 unfold xw
 rw [zm0 hf hg hn hK]
 simp only [zbs]
 cases hcs : cons m.Co lv n n with
 | nil =>
  rw [hcs] at hC
  exact ⟨j.ca[n], false, zeg hlen, hC.any, rfl⟩
 | cons c0 rest =>
  rw [hcs] at hC hcl
  obtain ⟨x, hx, hv⟩ := hC.val c0 rest rfl
  refine ⟨x, true, hx, hC.any, ?_⟩
  have ne : ((((c0 :: rest).map (xE 8)).length : Int) == 0) = false := by simp; omega
  rw [ne]
  simp only [zfe, if_false, if_true]
  have e1 : mkLen 8 32 = some 8 := rfl
  rw [e1]
  simp only [zbs]
  have h1 := zp0 (n := m.Ms.length) (by simp at hcl; omega) hC.wt hv 8 0 rfl
  have e0 : xE 8 (fun q => if q < 0 then x q else zax) = List.replicate 8 (za.mk 0 (zb.mk 0 0) 0) := rfl
  rw [e0] at h1
  rw [h1, zbs]
  have h3 := zpw (n := m.Ms.length) (fu := fu) (by omega) hg (p := n) (hJ.wt n x hx) m.Co.length 0 (by omega)
  have e2 : zh9 m.Co n x 0 = x := rfl
  rw [e2] at h3
  rw [h3]; rfl
theorem zm1 {fu : Nat} (hf : 100 <= fu) {m : zj} (hg : ze7 m.Co) {n : Nat} (hn : n < m.Co.length) {j : zf} (hU : ziK m n j) {known : List (List za)} {lv : Nat -> Bool -> Option Regs} (hK : zjj fu m n j known lv) :
  (∃ e, e ≠ 0 /\ (∀ again, zN 5000 n again j = some (.inr (none, (n : Int), e))) /\ ∀ again, qa fu m n again known = some (.inr ([], (n : Int), e))) \/
  ∃ j' s lv', (∀ again, zN 5000 n again j = again j') /\ (∀ again, qa fu m n again known = again (known ++ [s])) /\ zjj fu m (n + 1) j' (known ++ [s]) lv' := by
 have n64 := hg.n64
 obtain ⟨x, b, hx, hb, hat⟩ := zp1 hf hg hn hU.ji hK
 have hroomK : ∀ s : List za, room (known.length + [s].length) 24 = some () := by
  intro s; unfold Go.Sx.room; rw [if_pos]; simp [hK.len]; omega
 have hia : idx j.any (n : Int) = some b := by unfold Go.Sx.idx; rw [if_pos (by omega)]; exact hb
 have hci : m.Co[n]? = some m.Co[n] := zeg hn
 have eidx : idx m.Co (n : Int) = some m.Co[n] := ze8 hn
 generalize hz : m.Co[n] = i at hci eidx
 have hx8 := hU.ji.wt n x hx
 cases b with
 | false =>
  right
  refine ⟨j, [], fun p => if p = n then (fun _ => none) else lv p, fun again => ?_, fun again => ?_, ?_⟩
  ·unfold zN
   rw [hia]; rfl
  ·unfold qa
   rw [hat]
   simp only [zbs, hroomK, zfe, if_false]
   rfl
  ·refine ⟨by simp [hK.len], fun p hp => ?_, fun p hp ha b => ?_, fun p y hp ha hy b => ?_, fun q hq hql => ?_⟩
   ·by_cases e : p = n
    ·subst e
     exact ⟨x, false, hx, hb, by rw [List.getElem?_append_right (by rw [hK.len]; exact Nat.le_refl _)]; simp [hK.len]⟩
    ·obtain ⟨y, c, h1, h2, h3⟩ := hK.past p (by omega)
     exact ⟨y, c, h1, h2, by rw [List.getElem?_append_left (by rw [hK.len]; omega)]; exact h3⟩
   ·by_cases e : p = n
    ·simp only [e, if_true]
    ·simp only [e, if_false]; exact hK.none_ p (by omega) ha b
   ·by_cases e : p = n
    ·subst e; rw [hb] at ha; cases ha
    ·simp only [e, if_false]; exact hK.leaves p y (by omega) ha hy b
   ·have hc := hK.fut q (by omega) hql
    have hsame : ∀ k, k <= n -> cons m.Co (fun p => if p = n then (fun _ => none) else lv p) k q = cons m.Co lv k q := by
     intro k
     induction k with
     | zero => intro _; rfl
     | succ k ih =>
      intro hk
      unfold cons
      rw [ih (by omega), if_neg (by omega)]
    have : cons m.Co (fun p => if p = n then (fun _ => none) else lv p) (n + 1) q = cons m.Co lv n q := by
     rw [cons, hsame n (Nat.le_refl _), hci]
     simp only [if_true]
     have : ctr i n q (fun _ => none) = [] := by unfold ctr; simp
     rw [this, List.append_nil]
    rw [this]; exact hc
 | true =>
  have hw := zno hU.ji hg hn hx
  generalize hk : zh9 m.Co n x m.Co.length = k at hw hat
  have hk8 : ∀ r, r < 8 -> WT m.Ms.length (k r) := by rw [<- hk]; exact zmo hx8 _
  have hnc : n < j.ca.length := by rw [hU.ji.lenC]; exact hn
  have hJ1 : JI m ⟨j.Module, j.ca.set n k, j.any, j.loops⟩ := hU.ji.put hk8 j.any hU.ji.lenA
  have hk1 : (j.ca.set n k)[n]? = some k := List.getElem?_set_self hnc
  have hhead : ∃ kh : Regs, (∀ r, r < 8 -> WT m.Ms.length (kh r)) /\ (i.Op = 20 -> idx (j.ca.set n k) (w64 ((n : Int) - i.D)) = some kh /\ idx (known ++ [xE 8 k]) (w64 ((n : Int) - i.D)) = some (xE 8 kh)) := by
   by_cases h20 : i.Op = 20
   ·have hlo := hg.fine.loop hci h20
    obtain ⟨t, ht⟩ : ∃ t : Nat, (n : Int) - i.D = (t : Int) := ⟨((n : Int) - i.D).toNat, by omega⟩
    have hcl := hU.clos n n i hb hci h20 (by omega) (Nat.le_refl _)
    rw [ht, Int.toNat_natCast] at hcl
    obtain ⟨y, c, h1, h2, h3⟩ := hK.past t (by omega)
    rw [hcl] at h2
    obtain rfl := Option.some.inj h2
    refine ⟨y, hU.ji.wt t y h1, fun _ => ?_⟩
    rw [zO (by omega) (by omega), ht]
    constructor
    ·unfold Go.Sx.idx; rw [if_pos (by omega), Int.toNat_natCast, List.getElem?_set_ne (by omega)]; exact h1
    ·unfold Go.Sx.idx; rw [if_pos (by omega), Int.toNat_natCast, List.getElem?_append_left (by rw [hK.len]; omega)]; exact h3
   ·exact ⟨zo6, fun r _ => WT.zero, fun h => absurd h h20⟩
  obtain ⟨kh, hkh8, hkh⟩ := hhead
  obtain ⟨k', e, hone, hask, hsame, hleave⟩ := zj5 (fu := fu) (by omega) hJ1 hg hn hci hk1 hkh8 (fun h20 => (hkh h20).1)
  have hne : (((xE 8 k).length : Int) == 0) = false := by rw [zaI]; rfl
  have hdoc : ∀ again, qa fu m n again known = if (e != 0) = true then some (.inr (([] : List (List za)), (n : Int), e)) else again (known ++ [xE 8 k]) := by
   intro again
   unfold qa
   rw [hat]
   simp only [zbs, if_true, hroomK, hne, zfe, if_false, eidx]
   by_cases h20 : i.Op = 20
   ·have b20 : (i.Op == 20) = true := by simpa using h20
    have hlo := hg.fine.loop hci h20
    have hap : apart (w64 ((n : Int) - i.D)) (known.length : Int) = some () := by
     unfold apart
     rw [if_neg]
     rw [zO (by omega) (by omega), hK.len]; omega
    simp only [b20, if_true, (hkh h20).2, hap, zbs, hask]
   ·have b20 : (i.Op == 20) = false := by simpa using h20
    have hask2 : xl m n (xE 8 k) (xE 8 k) = some e := by
     obtain ⟨k2, e2, hone2, hask2, _, _⟩ := zj5 (fu := fu) (by omega) hJ1 hg hn hci hk1 hk8 (fun h => absurd h h20)
     rw [hone] at hone2
     obtain ⟨rfl, rfl⟩ := Prod.mk.inj (Option.some.inj hone2)
     exact hask2
    simp only [b20, zfe, if_false, hask2, zbs]
  by_cases he : e = 0
  ·right
   subst he
   obtain ⟨r1, hr1, hOne⟩ := zlM hJ1 hg hn
   rw [hone] at hr1
   obtain rfl := Option.some.inj hr1
   have hk'8 := (hOne rfl).1
   obtain ⟨j', hways, hJ', hcame, hold⟩ := zn4 hJ1 hg hn hci hk8 hk'8 hsame
   refine ⟨j', xE 8 k, fun p => if p = n then zhQ i k k' else lv p, fun again => ?_, fun again => ?_, ?_⟩
   ·unfold zN
    rw [hia]
    simp only [zbs, Bool.not_true, zfe, if_false, hw, hone, hways]
    rfl
   ·rw [hdoc]; rfl
   ·refine ⟨by simp [hK.len], fun p hp => ?_, fun p hp ha b => ?_, fun p y hp ha hy b => ?_, fun q hq hql => ?_⟩
    ·have ho := hold p (by omega)
     by_cases e : p = n
     ·subst e
      exact ⟨k, true, ho.1.trans hk1, ho.2.trans hb, by rw [List.getElem?_append_right (by rw [hK.len]; exact Nat.le_refl _)]; simp [hK.len]⟩
     ·obtain ⟨y, c, h1, h2, h3⟩ := hK.past p (by omega)
      refine ⟨y, c, ho.1.trans ?_, ho.2.trans h2, by rw [List.getElem?_append_left (by rw [hK.len]; omega)]; exact h3⟩
      show (j.ca.set n k)[p]? = _
      rw [List.getElem?_set_ne (by omega)]; exact h1
    ·have ho := hold p (by omega)
     have ha' : j.any[p]? = some false := ho.2.symm.trans ha
     by_cases e : p = n
     ·subst e; rw [hb] at ha'; cases ha'
     ·simp only [e, if_false]; exact hK.none_ p (by omega) ha' b
    ·have ho := hold p (by omega)
     have ha' : j.any[p]? = some true := ho.2.symm.trans ha
     have hy' : (j.ca.set n k)[p]? = some y := ho.1.symm.trans hy
     by_cases e : p = n
     ·subst e
      rw [hk1] at hy'
      obtain rfl := Option.some.inj hy'
      simp only [if_true]
      have hr : qe i = true := hg.fine.right hci
      by_cases hj : 16 <= i.Op /\ i.Op <= 19
      ·obtain ⟨s, ok, e1, e2⟩ := zjn (fu := fu) hci hr hk8 hj b
       rw [e2]
       unfold zhQ
       rw [if_pos hj, e1]
       cases ok <;> rfl
      ·rw [hleave rfl b hj, zgr hj]
     ·simp only [e, if_false]
      rw [List.getElem?_set_ne (by omega)] at hy'
      exact hK.leaves p y (by omega) ha' hy' b
    ·have hc := hK.fut q (by omega) hql
     have hc1 : ziA m ⟨j.Module, j.ca.set n k, j.any, j.loops⟩ q (cons m.Co lv n q) := by
      refine ⟨hc.any, hc.wt, fun c rest heq => ?_⟩
      obtain ⟨y, h1, h2⟩ := hc.val c rest heq
      exact ⟨y, by show (j.ca.set n k)[q]? = _; rw [List.getElem?_set_ne (by omega)]; exact h1, h2⟩
     have hc2 := hcame q _ (by omega) hc1
     have hsm : ∀ t, t <= n -> cons m.Co (fun p => if p = n then zhQ i k k' else lv p) t q = cons m.Co lv t q := by
      intro t
      induction t with
      | zero => intro _; rfl
      | succ t ih =>
       intro ht
       unfold cons
       rw [ih (by omega), if_neg (by omega)]
     have : cons m.Co (fun p => if p = n then zhQ i k k' else lv p) (n + 1) q = cons m.Co lv n q ++ ctr i n q (zhQ i k k') := by
      rw [cons, hsm n (Nat.le_refl _), hci]
      simp only [if_true]
     rw [this]; exact hc2
  ·left
   have b0 : (e != 0) = true := by simpa using he
   refine ⟨e, he, fun again => ?_, fun again => by rw [hdoc, b0]; rfl⟩
   unfold zN
   rw [hia]
   simp only [zbs, Bool.not_true, zfe, if_false, hw, hone, b0, if_true]
theorem zlm {σ ρ : Type} (body : Nat -> (σ -> Option ρ) -> σ -> Option ρ) (out : σ -> ρ) (n i : Nat) (s : σ) : qQ body out (n + 1) i s = body i (qQ body out n (i + 1)) s := rfl
theorem zm2 {fu : Nat} (hf : 100 <= fu) {m : zj} (hg : ze7 m.Co) : ∀ (c n : Nat) (j : zf) (known : List (List za)) (lv : Nat -> Bool -> Option Regs), n + c = m.Co.length -> ziK m n j -> zjj fu m n j known lv ->
  (∃ p e, qQ (zN 5000) (fun (s : zf) => (.inl s)) c n j = some (.inr (none, p, e)) /\ qQ (qa fu m) (fun (s : List (List za)) => (.inl s)) c n known = some (.inr ([], p, e))) \/
  ∃ j' k', qQ (zN 5000) (fun (s : zf) => (.inl s)) c n j = some (.inl j') /\ qQ (qa fu m) (fun (s : List (List za)) => (.inl s)) c n known = some (.inl k') := by
 intro c
 induction c with
 | zero => intro n j known lv _ _ _; exact .inr ⟨j, known, rfl, rfl⟩
 | succ c ih =>
  intro n j known lv hn hU hK
  simp only [zlm]
  rcases zm1 hf hg (by omega) hU hK with ⟨e, _, h1, h2⟩ | ⟨j', s, lv', h1, h2, hK'⟩
  ·exact .inl ⟨n, e, h1 _, h2 _⟩
  ·have hU' : ziK m (n + 1) j' := by
    have := zlN hU hg (by omega) (fun j => some (.inl j)) (Q := fun o => match o with | .inl j' => ziK m (n + 1) j' | .inr _ => True) (fun j' h => OK.ret h) (fun e _ => trivial)
    obtain ⟨r, hr, hq⟩ := this
    rw [h1] at hr
    obtain rfl := Option.some.inj hr
    exact hq
   rw [h1, h2]
   exact ih (n + 1) j' _ lv' (by omega) hU' hK'
theorem zm3 {fu : Nat} (hf : 100 <= fu) (m : zj) : ∃ o known p e, qJ 5000 m = some (o, p, e) /\ ja fu m = some (known, p, e) := by
 obtain ⟨b, hb1, hb2⟩ := zl0 fu m.Ms
 unfold qJ ja
 rw [hb1, hb2]
 simp only [zbs]
 cases b with
 | false => exact ⟨_, _, _, _, rfl, rfl⟩
 | true =>
  simp only [Bool.not_true, zfe, if_false]
  obtain ⟨r, hc1, hc2, hg, _⟩ := zkD m.Co fu hf
  rw [hc1, hc2]
  simp only [zbs]
  by_cases he : r.2 = 0
  ·obtain ⟨_, hg⟩ := hg he
   have b0 : (r.2 != 0) = false := by simpa using he
   simp only [b0, zfe, if_false]
   have hJ := ziL m
   have n64 := hg.n64
   have n1 := hg.n1
   have e1 : mkLen (m.Co.length : Int) 256 = some m.Co.length := by
    unfold mkLen
    rw [if_pos (show 0 <= (m.Co.length : Int) /\ (m.Co.length : Int).toNat * 256 <= 140737488355328 from ⟨Int.natCast_nonneg _, by rw [Int.toNat_natCast]; omega⟩), Int.toNat_natCast]
   have e2 : mkLen (m.Co.length : Int) 1 = some m.Co.length := by
    unfold mkLen
    rw [if_pos (show 0 <= (m.Co.length : Int) /\ (m.Co.length : Int).toNat * 1 <= 140737488355328 from ⟨Int.natCast_nonneg _, by rw [Int.toNat_natCast]; omega⟩), Int.toNat_natCast]
   have e3 : idx (List.replicate m.Co.length false) 0 = some false := by
    unfold Go.Sx.idx
    rw [if_pos (by omega), show Int.toNat 0 = 0 from rfl, List.getElem?_replicate, if_pos (by omega)]
   simp only [e1, e2, zbs, zfV hg, e3, show Int.toNat 0 = 0 from rfl]
   have hU := zok (m := m) hg
   have hK : zjj fu m 0 ⟨m, List.replicate m.Co.length (fun _ => zax), (List.replicate m.Co.length false).set 0 true, lps m.Co m.Co.length⟩ [] (fun _ _ => none) := by
    refine ⟨rfl, fun p hp => by omega, fun p hp => by omega, fun p x hp => by omega, fun q _ hq => ?_⟩
    unfold cons
    by_cases h0 : q = 0
    ·subst h0
     rw [if_pos rfl]
     refine ⟨?_, fun c hc r _ => ?_, fun c rest heq => ?_⟩
     ·show ((List.replicate m.Co.length false).set 0 true)[0]? = _
      rw [List.getElem?_set_self (by simp; omega)]; rfl
     ·simp only [List.mem_singleton] at hc; subst hc; exact WT.zero
     ·simp only [List.cons.injEq] at heq
      obtain ⟨rfl, rfl⟩ := heq
      exact ⟨fun _ => zax, (by show (List.replicate m.Co.length (fun _ => zax : Regs))[0]? = _; rw [List.getElem?_replicate, if_pos (by omega)]), fun r _ => rfl⟩
    ·rw [if_neg h0]
     refine ⟨?_, fun c hc => (by cases hc), fun c rest heq => (by cases heq)⟩
     show ((List.replicate m.Co.length false).set 0 true)[q]? = _
     rw [List.getElem?_set_ne (by omega)]; simp [hq]
   rcases zm2 hf hg m.Co.length 0 _ _ _ (by omega) hU hK with ⟨p, e, h1, h2⟩ | ⟨j', k', h1, h2⟩
   ·refine ⟨none, [], p, e, ?_, ?_⟩
    ·show (qQ (zN 5000) _ _ _ _).bind _ = _
     rw [show (fun _ => za.mk 0 (zb.mk 0 0) 0 : Regs) = (fun _ => zax) from rfl, h1]; rfl
    ·rw [h2]; rfl
   ·refine ⟨some j', k', 0, 0, ?_, ?_⟩
    ·show (qQ (zN 5000) _ _ _ _).bind _ = _
     rw [show (fun _ => za.mk 0 (zb.mk 0 0) 0 : Regs) = (fun _ => zax) from rfl, h1]; rfl
    ·rw [h2]; rfl
  ·have b0 : (r.2 != 0) = true := by simpa using he
   simp only [b0, if_true]
   exact ⟨_, _, _, _, rfl, rfl⟩
theorem ziz {fu : Nat} (hf : 100 <= fu) (m : zj) : ∃ known p e, va 5000 m = some (p, e) /\ ja fu m = some (known, p, e) := by
 obtain ⟨o, known, p, e, h1, h2⟩ := zm3 hf m
 refine ⟨known, p, e, ?_, h2⟩
 unfold va
 rw [h1]
 cases o <;> rfl
end Go.Proofs.YtbmknhpfkpmigaaGreatDoor
namespace Go.Proofs.YtbmknhpfkpmigaaGreatDoor
open Go.Sx
theorem zg6 {n b : Nat} (h : n * b <= 140737488355328) : room n b = some () := by
 unfold room
 rw [if_pos h]
def bwR : List zp -> Int -> Int
 | [], _ => 0
 | a :: l, t => if (a.Ki == 2) then 0 else if (a.Ki == 1) && (a.At == t) then a.N else bwR l t
def cs1 (t : Int) (acc : Int) (a : zp) : Int := if (a.Ki == 3) && (a.At == t) then qf (acc + a.N) else acc
def cs (l : List zp) (t : Int) : Int := l.foldl (cs1 t) 0
theorem zmc (b : zi) (t : Int) : ∀ (k fu : Nat), k <= b.Ak.length -> b.Ak.length <= 9000000 -> k < fu -> ∃ o, loop (zE b t) fu (w64 ((k : Int) - 1)) = some o /\ (match o with | .inl _ => ((0 : Int), (0 : Int)) | .inr r => r) = (bwR (b.Ak.take k).reverse t, 0) := by
 intro k
 induction k with
 | zero =>
  intro fu _ hb hf
  obtain ⟨fu, rfl⟩ : ∃ f, fu = f + 1 := ⟨fu - 1, by omega⟩
  refine ⟨.inl (), ?_, rfl⟩
  show zE b t _ _ = _
  unfold zE
  rw [zO (by omega) (by omega), if_neg (by simp)]
 | succ k ih =>
  intro fu hk hb hf
  obtain ⟨fu, rfl⟩ : ∃ f, fu = f + 1 := ⟨fu - 1, by omega⟩
  obtain ⟨a, ha, hi⟩ := vz (xs := b.Ak) (p := k) (by omega)
  have hl : (b.Ak.take (k + 1)).reverse = a :: (b.Ak.take k).reverse := by
   rw [List.take_add_one, ha]
   simp
  have e1 : w64 (((k + 1 : Nat) : Int) - 1) = (k : Int) := by rw [zO (by omega) (by omega)]; omega
  rw [hl]
  show ∃ o, zE b t (loop (zE b t) fu) (w64 (((k + 1 : Nat) : Int) - 1)) = some o /\ _
  have ih' := ih fu (by omega) hb (by omega)
  rw [e1]
  generalize loop (zE b t) fu = again at ih' |-
  unfold zE
  rw [if_pos (by simp), hi]
  simp only [zbs, bwR]
  rcases zft (a.Ki == 2) with e | e
  ·simp only [e, if_true]; exact ⟨_, rfl, rfl⟩
  rcases zft (a.Ki == 1) with e2 | e2
  ·rcases zft (a.At == t) with e3 | e3
   ·simp only [e, e2, e3, zfe, if_false, if_true, zbs, Bool.true_and]; exact ⟨_, rfl, rfl⟩
   ·simp only [e, e2, e3, zfe, if_false, if_true, zbs, Bool.true_and]; exact ih'
  ·simp only [e, e2, zfe, if_false, zbs, Bool.false_and]; exact ih'
theorem zmd (b : zi) (t : Int) (hb : b.Ak.length <= 4900) : zF 5000 b t = some (if t < 0 \/ t > 15 then (0, 35) else (bwR b.Ak.reverse t, 0)) := by
 unfold zF
 by_cases h : t < 0 \/ t > 15
 ·rw [if_pos (by simpa using h), if_pos h]
 ·rw [if_neg (by simpa using h), if_neg h]
  obtain ⟨o, h1, h2⟩ := zmc b t b.Ak.length 5000 (Nat.le_refl _) (by omega) (by omega)
  rw [List.take_length] at h2
  rw [h1, <- h2]
  cases o <;> rfl
theorem zkV (b : zi) (t : Int) : ∀ (n k fu : Nat) (acc : Int), k + n = b.Ak.length -> b.Ak.length <= 9000000 -> n < fu -> loop (zz b t) fu (acc, (k : Int)) = some ((b.Ak.drop k).foldl (cs1 t) acc) := by
 intro n
 induction n with
 | zero =>
  intro k fu acc hk hb hf
  obtain ⟨fu, rfl⟩ : ∃ f, fu = f + 1 := ⟨fu - 1, by omega⟩
  show zz b t _ _ = _
  unfold zz
  rw [if_neg (by simp; omega), List.drop_eq_nil_of_le (by omega)]
  rfl
 | succ n ih =>
  intro k fu acc hk hb hf
  obtain ⟨fu, rfl⟩ : ∃ f, fu = f + 1 := ⟨fu - 1, by omega⟩
  obtain ⟨a, ha, hi⟩ := vz (xs := b.Ak) (p := k) (by omega)
  have hd : b.Ak.drop k = a :: b.Ak.drop (k + 1) := by
   have hk2 : k < b.Ak.length := by omega
   rw [List.drop_eq_getElem_cons hk2]
   rw [zeg hk2] at ha
   cases ha; rfl
  have e1 : w64 ((k : Int) + 1) = ((k + 1 : Nat) : Int) := by rw [zO (by omega) (by omega)]; omega
  have ih' := fun acc => ih (k + 1) fu acc (by omega) hb (by omega)
  show zz b t (loop (zz b t) fu) (acc, (k : Int)) = _
  generalize loop (zz b t) fu = again at ih' |-
  unfold zz
  rw [hd, List.foldl_cons, <- ih']
  simp only
  rw [if_pos (by simp; omega), hi]
  simp only [zbs, e1]
  unfold cs1
  rcases zft (a.Ki == 3) with e2 | e2
  ·rcases zft (a.At == t) with e3 | e3
   ·simp only [e2, e3, if_true, zbs, Bool.true_and]
   ·simp only [e2, e3, zfe, if_false, if_true, zbs, Bool.true_and]
  ·simp only [e2, zfe, if_false, zbs, Bool.false_and]
theorem zkk (b : zi) (t : Int) (hb : b.Ak.length <= 4900) : zS 5000 b t = some (if t < 0 \/ t > 15 then (0, 35) else (cs b.Ak t, 0)) := by
 unfold zS
 by_cases h : t < 0 \/ t > 15
 ·rw [if_pos (by simpa using h), if_pos h]
 ·rw [if_neg (by simpa using h), if_neg h]
  have := zkV b t b.Ak.length 0 5000 0 (by omega) (by omega) (by omega)
  rw [show loop (zz b t) 5000 (0, 0) = some (cs b.Ak t) from this]
  rfl
theorem zkl (l : List zp) (a : zp) (t : Int) : cs (l ++ [a]) t = cs1 t (cs l t) a := by
 unfold cs
 rw [List.foldl_append]
 rfl
theorem zme (l : List zp) (a : zp) (t : Int) : bwR (l ++ [a]).reverse t = if (a.Ki == 2) then 0 else if (a.Ki == 1) && (a.At == t) then a.N else bwR l.reverse t := by
 rw [List.reverse_append]
 rfl
structure Bk (S : zk) (b : zi) : Prop where
 w : ∀ t : Int, 0 <= t -> t <= 15 -> bwR b.Ak.reverse t = S.Wo.wo t.toNat
 c : ∀ t : Int, 0 <= t -> t <= 15 -> cs b.Ak t = S.Ct.cn t.toNat
theorem zmf {S : zk} {b : zi} (h : Bk S b) (hb : b.Ak.length <= 4900) (t : Int) : ∃ r, qh S.Wo t = some r /\ zF 5000 b t = some r := by
 rw [zmd b t hb]
 unfold qh
 by_cases e : t < 0 \/ t > 15
 ·rw [if_pos (by simp; omega), if_pos e]; exact ⟨_, rfl, rfl⟩
 ·rw [if_neg (by simp; omega), if_neg e, h.w t (by omega) (by omega)]
  have : ain 16 t = some t.toNat := by unfold ain; rw [if_pos ⟨by omega, by omega⟩]
  rw [this]; exact ⟨_, rfl, rfl⟩
theorem zkW {S : zk} {b : zi} (h : Bk S b) (hb : b.Ak.length <= 4900) (t v : Int) : ∃ e W b', qW S.Wo t v = some (e, W) /\ qM b t v = some (e, b') /\ Bk ⟨W, S.Ct⟩ b' /\ b'.Ak.length <= b.Ak.length + 1 := by
 unfold qW qM
 by_cases e : t < 0 \/ t > 15
 ·rw [if_pos (by simp; omega), if_pos (by simpa using e)]; exact ⟨_, _, _, rfl, rfl, ⟨h.w, h.c⟩, by omega⟩
 ·rw [if_neg (by simp; omega), if_neg (by simpa using e)]
  have : ain 16 t = some t.toNat := by unfold ain; rw [if_pos ⟨by omega, by omega⟩]
  rw [this, zg6 (by simp; omega)]
  refine ⟨_, _, _, rfl, rfl, ⟨fun u h0 h1 => ?_, fun u h0 h1 => ?_⟩, by simp⟩
  ·show bwR (b.Ak ++ [zp.mk 1 t v]).reverse u = jf S.Wo.wo t.toNat v u.toNat
   rw [zme]
   unfold jf
   by_cases e2 : t = u
   ·subst e2; simp
   ·rw [if_neg (by simp), if_neg (by simpa using e2), if_neg (by omega), h.w u h0 h1]
  ·show cs (b.Ak ++ [zp.mk 1 t v]) u = _
   rw [zkl]
   exact h.c u h0 h1
theorem ziT {S : zk} {b : zi} (h : Bk S b) (hb : b.Ak.length <= 4800) (t : Int) : ∃ v e C b', zW S.Ct t = some (v, e, C) /\ zI 5000 b t = some (v, e, b') /\ Bk ⟨S.Wo, C⟩ b' /\ b'.Ak.length <= b.Ak.length + 1 := by
 unfold zW zI
 by_cases e : t < 0 \/ t > 15
 ·rw [if_pos (by simp; omega), if_pos (by simpa using e)]; exact ⟨_, _, _, _, rfl, rfl, ⟨h.w, h.c⟩, by omega⟩
 ·rw [if_neg (by simp; omega), if_neg (by simpa using e)]
  have : ain 16 t = some t.toNat := by unfold ain; rw [if_pos ⟨by omega, by omega⟩]
  rw [this, zg6 (by simp; omega)]
  simp only [zbs]
  rw [zkk _ t (by simp; omega), if_neg e]
  have hc : cs (b.Ak ++ [zp.mk 3 t 1]) t = qf (S.Ct.cn t.toNat + 1) := by
   rw [zkl, h.c t (by omega) (by omega)]
   simp [cs1]
  refine ⟨_, _, _, ⟨b.Ak ++ [zp.mk 3 t 1]⟩, rfl, ?_, ⟨fun u h0 h1 => ?_, fun u h0 h1 => ?_⟩, ?_⟩
  ·show some (cs (b.Ak ++ [zp.mk 3 t 1]) t, 0, _) = _
   rw [hc]
   simp [jf]
  ·show bwR (b.Ak ++ [zp.mk 3 t 1]).reverse u = _
   rw [zme]
   exact h.w u h0 h1
  ·show cs (b.Ak ++ [zp.mk 3 t 1]) u = jf S.Ct.cn t.toNat _ u.toNat
   unfold jf
   by_cases e2 : t = u
   ·subst e2; rw [hc]; simp
   ·rw [zkl, if_neg (by omega), h.c u h0 h1]
    simp [cs1, e2]
  ·simp
theorem zmh {S : zk} {b : zi} (h : Bk S b) (hb : b.Ak.length <= 4800) : ∃ b', jQ b = some b' /\ Bk ⟨⟨fun _ => 0⟩, S.Ct⟩ b' /\ b'.Ak.length <= b.Ak.length + 1 := by
 unfold jQ
 rw [zg6 (by simp; omega)]
 refine ⟨_, rfl, ⟨fun u h0 h1 => ?_, fun u h0 h1 => ?_⟩, by simp⟩
 ·show bwR (b.Ak ++ [zp.mk 2 0 0]).reverse u = _
  rw [zme]; rfl
 ·show cs (b.Ak ++ [zp.mk 2 0 0]) u = _
  rw [zkl]
  exact h.c u h0 h1
end Go.Proofs.YtbmknhpfkpmigaaGreatDoor
namespace Go.Proofs.YtbmknhpfkpmigaaGreatDoor
open Go.Sx
def st (m : zj) (M : EM) (b : zi) : SM := ⟨m, M.Ev, b, xE 8 M.rg, xE 64 M.tu, M.at_, M.sp, M.sa⟩
theorem zbZ {m : zj} {M : EM} {b : zi} {i : zc} (hb : i.B = 8 \/ (0 <= i.B /\ i.B < 8)) : zcr (st m M b) i = some (zg0 i M.rg) := by
 unfold zcr zg0
 rcases zft (i.B == 8) with e | e
 ·rw [if_pos e, if_pos e]
 ·have : i.B ≠ 8 := by simpa using e
  rw [if_neg (by simp [e]), if_neg (by simp [e])]
  show (idx (xE 8 M.rg) i.B).bind _ = _
  rw [jv _ (by omega) (by omega)]; rfl
theorem zjP (op x y : Int) : ∃ b, xV op x y = some (hl op x y, b) := by
 unfold xV hl
 rcases zft (op == 16) with e | e
 ·simp only [e, if_true]; exact ⟨_, rfl⟩
 rcases zft (op == 17) with e2 | e2
 ·simp only [e, e2, zfe, if_false, if_true]; exact ⟨_, by first | rfl | simp [bne]⟩
 rcases zft (op == 18) with e3 | e3
 ·simp only [e, e2, e3, zfe, if_false, if_true]; exact ⟨_, rfl⟩
 rcases zft (op == 19) with e4 | e4
 ·simp only [e, e2, e3, e4, zfe, if_false, if_true]
  refine ⟨true, ?_⟩
  congr 2
  rw [Bool.eq_iff_iff]; simp
 ·simp only [e, e2, e3, e4, zfe, if_false]; exact ⟨_, rfl⟩
theorem zjQ {i : zc} (h : qe i = true) (ho : i.Op = 13) : i.Imm = 0 \/ i.Imm = 1 := by
 unfold qe at h
 simp only [inB, zfW] at h
 simp only [ho] at h
 simp at h
 omega
theorem zmi {m : zj} {M : EM} {b : zi} (hB : Bk M.sc b) (hb : b.Ak.length <= 4800) (hu : zgZ M.rg) {i : zc} (hr : qe i = true) (ho : i.Op <= 14) :
  ∃ M1 b', zfA M i = some (1, M1) /\ M1.at_ = M.at_ /\ M1.mo = M.mo /\ zgW 5000 (st m M b) i = some (st m M1 b') /\ Bk M1.sc b' /\ b'.Ak.length <= b.Ak.length + 1 := by
 have hop := zbr hr
 have hA := zbH hr
 have hDD := zdC hr (by omega)
 have hA8 : ain 8 i.A = some i.A.toNat := zgi hA.1 hA.2
 have hD : ain 8 i.D = some i.D.toNat := zgi hDD.1 hDD.2
 have gA : idx (st m M b).Rg i.A = some (M.rg i.A.toNat) := jv _ hA.1 hA.2
 have gD : idx (st m M b).Rg i.D = some (M.rg i.D.toNat) := jv _ hDD.1 hDD.2
 have set1 : ∀ v, (st m M b).Rg.set i.D.toNat v = xE 8 (jf M.rg i.D.toNat v) := fun v => zau _ _ _
 have c15 : (i.Op == 15) = false := by simp; omega
 have c20 : (i.Op == 20) = false := by simp; omega
 unfold zfA zgW
 rcases zft (i.Op == 0) with e0 | e0
 ·have e : i.Op = 0 := by simpa using e0
  have hs := jU hr (.inl (by omega))
  simp only [e0, if_true, zdA hs, zbZ hs, zbs, hD, gD, set1]
  exact ⟨_, b, rfl, rfl, rfl, rfl, hB, by omega⟩
 rcases zft (i.Op == 11) with e11 | e11
 ·have e : i.Op = 11 := by simpa using e11
  have hs := jU hr (.inl (by omega))
  obtain ⟨v, v1, v2⟩ := zmf hB (by omega) (w64 (zg0 i M.rg))
  have v2' : zF 5000 (st m M b).S (w64 (zg0 i M.rg)) = some v := v2
  have c3 : zX i.Op = some false := by rw [zdE, e]; rfl
  simp only [e0, e11, c3, zfe, if_false, if_true, zdA hs, zbZ hs, zbs, hD, gD, set1, v1, v2']
  exact ⟨_, b, rfl, rfl, rfl, rfl, hB, by omega⟩
 rcases zft (i.Op == 12) with e12 | e12
 ·have e : i.Op = 12 := by simpa using e12
  have hs := jU hr (.inl (by omega))
  obtain ⟨x, W, b', v1, v2, v3, v4⟩ := zkW hB (by omega) (w64 (zg0 i M.rg)) (M.rg i.A.toNat)
  have v2' : qM (st m M b).S (w64 (zg0 i M.rg)) (M.rg i.A.toNat) = some (x, b') := v2
  have c3 : zX i.Op = some false := by rw [zdE, e]; rfl
  simp only [e0, e11, e12, c3, zfe, if_false, if_true, zdA hs, zbZ hs, zbs, hA8, gA, v1, v2']
  exact ⟨_, b', rfl, rfl, rfl, rfl, v3, v4⟩
 rcases zft (i.Op == 13) with e13 | e13
 ·have e : i.Op = 13 := by simpa using e13
  have c3 : zX i.Op = some false := by rw [zdE, e]; rfl
  have ab : jf (jf M.rg i.D.toNat M.Ev.A) i.D.toNat M.Ev.B = jf M.rg i.D.toNat M.Ev.B := by
   funext t
   unfold jf
   split <;> rfl
  rcases zjQ hr e with hi | hi
  ·have i0 : (i.Imm == 0) = true := by simp [hi]
   have i1 : (i.Imm == 1) = false := by simp [hi]
   simp only [e0, e11, e12, e13, c3, i0, i1, zfe, if_false, if_true, zbs, hD, gD, set1, Bool.and_self]
   exact ⟨_, b, rfl, rfl, rfl, rfl, hB, by omega⟩
  ·have i0 : (i.Imm == 0) = false := by simp [hi]
   have i1 : (i.Imm == 1) = true := by simp [hi]
   simp only [e0, e11, e12, e13, c3, i0, i1, zfe, if_false, if_true, zbs, hD, gD, set1, Bool.and_false, ab]
   exact ⟨_, b, rfl, rfl, rfl, rfl, hB, by omega⟩
 rcases zft (i.Op == 14) with e14 | e14
 ·have e : i.Op = 14 := by simpa using e14
  have c3 : zX i.Op = some false := by rw [zdE, e]; rfl
  simp only [e0, e11, e12, e13, e14, c3, zfe, if_false, if_true, zbs, hD, gD, set1, Bool.false_and]
  exact ⟨_, b, rfl, rfl, rfl, rfl, hB, by omega⟩
 have o1 : 1 <= i.Op /\ i.Op <= 10 := by
  simp at e0 e11 e12 e13 e14
  omega
 have hs := jU hr (.inl (by omega))
 have hus := zfC hu hs
 have hua := hu i.A.toNat (by omega)
 have c3 : zX i.Op = some true := by rw [zdE]; simp [inB, o1.1, o1.2]
 have c10 : (decide (1 <= i.Op) && decide (i.Op <= 10)) = true := by simp [o1.1, o1.2]
 have hra := zj4 (fu := 5000) (by decide) (op := i.Op) hua hus o1.1 o1.2
 simp only [e0, e11, e12, e13, e14, c15, c20, c3, zfe, if_false, if_true, zbs, hA8, gA, zdA hs, zbZ hs, zeH hua hus, c10, hD, gD, hra, set1]
 exact ⟨_, b, rfl, rfl, rfl, rfl, hB, by omega⟩
theorem zmj {m : zj} {M : EM} {b : zi} {p : Nat} (hp : p < 64) (hat : M.at_ = p) (hu : zgZ M.rg) {i : zc} (hr : qe i = true) (h15 : 15 <= i.Op) (h20 : i.Op <= 20) (hld : i.Op = 20 -> 0 <= i.D /\ i.D <= 64) :
  ∃ d M1 g, zfA M i = some (d, M1) /\ M1.at_ = M.at_ /\ M1.mo = M.mo /\ M1.sc = M.sc /\ zgV (st m M b) i = some (g, st m M1 b) /\ w64 (M.at_ + d) = (if g then w64 (M.at_ + (zr i).1) else w64 (M.at_ + 1)) := by
 have hA := zbH hr
 have hA8 : ain 8 i.A = some i.A.toNat := zgi hA.1 hA.2
 have gA : idx (st m M b).Rg i.A = some (M.rg i.A.toNat) := jv _ hA.1 hA.2
 have c0 : (i.Op == 0) = false := by simp; omega
 have c11 : (i.Op == 11) = false := by simp; omega
 have c12 : (i.Op == 12) = false := by simp; omega
 have c13 : (i.Op == 13) = false := by simp; omega
 have c14 : (i.Op == 14) = false := by simp; omega
 unfold zfA zgV
 rcases zft (i.Op == 15) with e15 | e15
 ·have e : i.Op = 15 := by simpa using e15
  have hJ := zdg (i := i) (by simp [vf, hr, inB]; omega)
  simp only [c0, c11, c12, c13, c14, e15, zfe, if_false, if_true]
  refine ⟨_, _, _, rfl, rfl, rfl, rfl, rfl, ?_⟩
  rw [if_pos rfl, vg hr (by omega) (by omega), zO (x := i.D + 1) (by omega) (by omega)]
 rcases zft (i.Op == 20) with e20 | e20
 ·have e : i.Op = 20 := by simpa using e20
  have ha64 : ain 64 M.at_ = some p := by rw [hat]; exact znM hp
  have gT : idx (st m M b).Tu (st m M b).At = some (M.tu p) := by
   show idx (xE 64 M.tu) M.at_ = _
   rw [hat, jv _ (by omega) (by omega)]; simp
  have hpos := hu i.A.toNat (by omega)
  have cpos : decide (M.rg i.A.toNat > 0) = (M.rg i.A.toNat != 0) := by
   rw [Bool.eq_iff_iff]; simp [bne_iff_ne]
   have := hpos.1
   omega
  have setT : ∀ v, (st m M b).Tu.set (Int.toNat (st m M b).At) v = xE 64 (jf M.tu p v) := by
   intro v
   have : Int.toNat (st m M b).At = p := by show Int.toNat M.at_ = p; rw [hat]; simp
   rw [this]
   exact zau _ _ _
  have hD := hld e
  simp only [c0, c11, c12, c13, c14, e15, e20, zfe, if_false, if_true, hA8, gA, gT, ha64, zbs, cpos, setT]
  have key : ∀ g : Bool, ∃ (d : Int) (M1 : EM) (g' : Bool), (if g = true then some (w64 (0 - i.D), EM.mk M.Ev M.mo M.sc M.rg (jf M.tu p (w64 (M.tu p + 1))) M.at_ M.sp M.sa) else some (1, EM.mk M.Ev M.mo M.sc M.rg (jf M.tu p 0) M.at_ M.sp M.sa)) = some (d, M1) /\ M1.at_ = M.at_ /\ M1.mo = M.mo /\ M1.sc = M.sc /\
    (if g = true then some (true, SM.mk (st m M b).M (st m M b).E (st m M b).S (st m M b).Rg (xE 64 (jf M.tu p (w64 (M.tu p + 1)))) (st m M b).At (st m M b).Steps (st m M b).Mode) else some (false, SM.mk (st m M b).M (st m M b).E (st m M b).S (st m M b).Rg (xE 64 (jf M.tu p 0)) (st m M b).At (st m M b).Steps (st m M b).Mode)) = some (g', st m M1 b) /\ w64 (M.at_ + d) = (if g' then w64 (M.at_ + (zr i).1) else w64 (M.at_ + 1)) := by
   intro g
   cases g with
   | true =>
    refine ⟨_, _, _, rfl, rfl, rfl, rfl, rfl, ?_⟩
    rw [if_pos rfl, zdk hr e, zO (x := 0 - i.D) (by omega) (by omega), Int.zero_sub]
   | false => exact ⟨_, _, _, rfl, rfl, rfl, rfl, rfl, rfl⟩
  rcases zft (M.rg i.A.toNat != 0) with e1 | e1
  ·simp only [e1, if_true, zbs]
   exact key _
  ·simp only [e1, zfe, if_false, zbs]
   exact key false
 have o1 : 16 <= i.Op /\ i.Op <= 19 := by
  simp at e15 e20
  omega
 have hs := jU hr (.inr o1)
 have hus := zfC hu hs
 have hua := hu i.A.toNat (by omega)
 have c10 : (decide (1 <= i.Op) && decide (i.Op <= 10)) = false := by simp; omega
 obtain ⟨q, hq⟩ := zjP i.Op (M.rg i.A.toNat) (zg0 i M.rg)
 have hJ := zdg (i := i) (by simp [vf, hr, inB]; omega)
 simp only [c0, c11, c12, c13, c14, e15, e20, zfe, if_false, if_true, hA8, gA, zbs, zdA hs, zbZ hs, zeH hua hus, c10, zgv, hq]
 rcases zft (hl i.Op (M.rg i.A.toNat) (zg0 i M.rg)) with e1 | e1
 ·simp only [e1, if_true]
  refine ⟨_, _, _, rfl, rfl, rfl, rfl, rfl, ?_⟩
  rw [if_pos rfl, vg hr (by omega) (by omega), zO (x := i.D + 1) (by omega) (by omega)]
 ·simp only [e1, zfe, if_false]
  exact ⟨_, _, _, rfl, rfl, rfl, rfl, rfl, rfl⟩
end Go.Proofs.YtbmknhpfkpmigaaGreatDoor
