/- Texts Eng4, Eng5, Eng6, Pure, Range, Reg, Cuts, Ins, Ifc, Hole, Elem, Eng7 of this proof. -/
import Derived.Test.YtbmknhpfkpmigaaGreatDoorEng
import Derived.Lib.Overlaps
import Derived.Lib.AppendZerosOnto
set_option linter.unusedVariables false
set_option linter.unusedSimpArgs false
namespace Go.Sx
open Go.RowKit
abbrev SpS := List (Nat × Value × List (Nat × Bool))
def zgp : SpS -> Nat -> Option (Value × List (Nat × Bool))
 | [], _ => none
 | p :: r, n => match Nat.beq p.1 n with
  | true => some p.2
  | false => zgp r n
def slk (S : SpS) (fr : Fr) : Operand -> Option (Value × List (Nat × Bool))
 | .tmp t => match zgp S t with
  | some e => some e
  | none => match zc5 fr t with
   | some v => some (v, [])
   | none => none
 | .const v => some (v, [])
 | .global g => some (.pointer (some ⟨g, 0, none⟩), [])
 | .func f => some (.func (.func f) #[] #[], [])
def zmN (p : Nat × Bool) : List (Nat × Bool) -> Bool
 | [] => false
 | q :: r => match Nat.beq q.1 p.1, q.2 == p.2 with
  | true, true => true
  | _, _ => zmN p r
def zcN : List (Nat × Bool) -> List (Nat × Bool) -> Bool
 | [], _ => true
 | p :: r, B => match zmN p B with
  | true => zcN r B
  | false => false
theorem zis {p : Nat × Bool} : ∀ {B : List (Nat × Bool)}, zmN p B = true -> p ∈ B
 | [], h => by cases h
 | q :: r, h => by
  unfold zmN at h
  split at h
  ·rename_i h1 h2
   have e1 := Nat.eq_of_beq_eq_true h1
   have e2 := eq_of_beq h2
   have : q = p := Prod.ext e1 e2
   rw [this]; exact zcs
  ·exact zcm _ (zis h)
theorem zcc : ∀ {A B : List (Nat × Bool)}, zcN A B = true -> ∀ p ∈ A, p ∈ B
 | [], _, _, p, hp => by cases hp
 | q :: r, B, h, p, hp => by
  unfold zcN at h
  split at h
  ·rename_i h1
   rcases List.mem_cons.1 hp with rfl | hp
   ·exact zis h1
   ·exact zcc h p hp
  ·cases h
def zlg (l : List Oper) (S : SpS) (o : Oper) : Option (List (Nat × Bool)) := match o.guard with
 | none => some []
 | some (j, b) => match (vU l j).bind (·.dst) with
  | some d => match zgp S d with
   | some (.bool _, ls) => some ((d, b) :: ls)
   | _ => none
  | none => none
def zpP (S : SpS) (fr : Fr) (x : Operand) : Value := match slk S fr x with
 | some e => e.1
 | none => undef
def zmO (S : SpS) (fr : Fr) (Ls : List (Nat × Bool)) : List Operand -> Bool
 | [] => true
 | x :: r => match slk S fr x with
  | some e => match zcN e.2 Ls with
   | true => zmO S fr Ls r
   | false => false
  | none => false
def zje {α : Type} : List (Nat × α) -> Nat -> Option α
 | [], _ => none
 | p :: r, n => match Nat.beq p.1 n with
  | true => some p.2
  | false => zje r n
def zpQ (P : Program) (lv : List (Nat × Pn)) (pk : List (Nat × Bool)) (i : Nat) (S : SpS) (fr : Fr) (Ls : List (Nat × Bool)) (o : Oper) : Option (Value × List (Value × Value)) := match o.op with
 | .pick (.tmp c) x y => match zje pk i with
  | some true => match slk S fr (.tmp c), slk S fr x, slk S fr y with
   | some (.bool g, lc), some (.bool true, la), some (.bool b, lb) => match zcN lc Ls, zcN la ((c, true) :: Ls), zcN lb ((c, false) :: Ls) with
    | true, true, true => some (.bool (g || b), [])
    | _, _, _ => none
   | _, _, _ => none
  | some false => match slk S fr (.tmp c), slk S fr x, slk S fr y with
   | some (.bool g, lc), some (.bool a, la), some (.bool false, lb) => match zcN lc Ls, zcN la ((c, true) :: Ls), zcN lb ((c, false) :: Ls) with
    | true, true, true => some (.bool (g && a), [])
    | _, _, _ => none
   | _, _, _ => none
  | none => none
 | .load t x => match zje lv i, slk S fr x with
  | some (.c a v), some (p, la) => match zcN la Ls, zbk P (isAgg t) with
   | true, some false => some (v, [(p, .pointer (some a))])
   | _, _ => none
  | some (.n b k cs), some (p, la) => match zcN la Ls, zbk P (isAgg t), zbk P (sizeOf t) with
   | true, some true, some m => match Nat.beq m cs.length with
    | true => some (.agg cs.toArray, [(p, .pointer (some ⟨b, k, none⟩))])
    | false => none
   | _, _, _ => none
  | _, _ => none
 | _ => match vH o.op, zmO S fr Ls o.op.operands.toList with
  | true, true => match zbk P (execOp (zpP S fr) o) with
   | some (.value v) => some (v, [])
   | _ => none
  | _, _ => none
def zho (P : Program) (l : List Oper) (N : Nat) (lv : List (Nat × Pn)) (pk : List (Nat × Bool)) (fr : Fr) : Nat -> Nat -> SpS -> List (Value × Value) -> Option (SpS × List (Value × Value))
 | 0, _, S, E => some (S, E)
 | n + 1, i, S, E => match vU l i with
  | none => none
  | some o => match o.dst, zlg l S o with
   | some d, some Ls => match Nat.blt d N, zgp S d with
    | true, none => match zpQ P lv pk i S fr Ls o with
     | some (v, e) => zho P l N lv pk fr n (i + 1) ((d, v, Ls) :: S) (e ++ E)
     | none => none
    | _, _ => none
   | _, _ => none
def Hd (S : SpS) (Ls : List (Nat × Bool)) : Prop := ∀ p ∈ Ls, ∃ ls, zgp S p.1 = some (.bool p.2, ls)
structure SpI (N : Nat) (S : SpS) (fr : Fr) (a : Act) : Prop where
 size : a.tmps.size = N
 defers : a.defers = []
 on : ∀ t v Ls, zgp S t = some (v, Ls) -> (Hd S Ls -> a.tmps[t]? = some v) /\ (¬ Hd S Ls -> a.tmps[t]? = some undef)
 off : ∀ t v, zgp S t = none -> zc5 fr t = some v -> a.tmps[t]? = some v
 closed : ∀ t v Ls, zgp S t = some (v, Ls) -> ∀ p ∈ Ls, ∃ u, zgp S p.1 = some u
theorem Hd.sub {S : SpS} {A B : List (Nat × Bool)} (h : Hd S B) (hs : zcN A B = true) : Hd S A := fun p hp => h p (zcc hs p hp)
section
variable {P : Program} {l : List Oper} {N : Nat} {lv : List (Nat × Pn)} {pk : List (Nat × Bool)} {fr : Fr} {S : SpS} {Ls : List (Nat × Bool)} {a : Act} {o : Oper} {i : Nat} {w : World}
theorem SpI.lk (h : SpI N S fr a) {x : Operand} {v : Value} {la : List (Nat × Bool)} (hx : slk S fr x = some (v, la)) (hl : Hd S la) : a.eval x = v := by
 cases x with
 | tmp t =>
  simp only [slk] at hx
  have : a.tmps[t]? = some v := by
   split at hx
   ·rename_i e he
    cases hx
    exact (h.on t v la he).1 hl
   ·rename_i he
    split at hx
    ·rename_i u hu; cases hx; exact h.off t v he hu
    ·cases hx
  simp [Act.eval, Array.getD_eq_getD_getElem?, this]
 | const u => simp only [slk] at hx; cases hx; rfl
 | global g => simp only [slk] at hx; cases hx; rfl
 | func f => simp only [slk] at hx; cases hx; rfl
theorem zit : ∀ {xs : List Operand}, zmO S fr Ls xs = true -> ∀ x ∈ xs, ∃ e, slk S fr x = some e /\ zcN e.2 Ls = true
 | [], _, x, hx => by cases hx
 | y :: r, h, x, hx => by
  unfold zmO at h
  split at h
  ·rename_i e he
   split at h
   ·rename_i hs
    rcases List.mem_cons.1 hx with rfl | hx
    ·exact ⟨e, he, hs⟩
    ·exact zit h x hx
   ·cases h
  ·cases h
theorem SpI.want (h : SpI N S fr a) (hg : zlg l S o = some Ls) : (Hd S Ls -> Region.wanted o (yielded l.toArray a.tmps) = true) /\ (¬ Hd S Ls -> Region.wanted o (yielded l.toArray a.tmps) = false) := by
 unfold zlg at hg
 unfold Region.wanted
 split at hg
 ·rename_i hn
  cases hg
  rw [hn]
  exact ⟨fun _ => rfl, fun k => absurd (fun p hp => by cases hp) k⟩
 ·rename_i j b hn
  rw [hn]
  split at hg
  ·rename_i d hd
   split at hg
   ·rename_i g ls hs
    cases hg
    have hon := h.on d _ _ hs
    constructor
    ·intro k
     have k2 : Hd S ls := fun p hp => k p (zcm _ hp)
     obtain ⟨ls', h1⟩ := k (d, b) zcs
     rw [hs] at h1
     cases h1
     simp only [yielded, zaO, hd, zbs, hon.1 k2]
     cases b <;> rfl
    ·intro k
     by_cases k2 : Hd S ls
     ·have hgb : g ≠ b := fun e => k (fun p hp => by
       rcases List.mem_cons.1 hp with rfl | hp
       ·exact ⟨ls, by rw [hs, e]⟩
       ·exact k2 p hp)
      simp only [yielded, zaO, hd, zbs, hon.1 k2]
      cases g <;> cases b <;> first | rfl | exact absurd rfl hgb
     ·simp only [yielded, zaO, hd, zbs, hon.2 k2]
      cases b <;> rfl
   ·cases hg
  ·cases hg
theorem SpI.val (h : SpI N S fr a) {v : Value} {E : List (Value × Value)} (hv : zpQ P lv pk i S fr Ls o = some (v, E)) (hE : ∀ p ∈ E, p.1 = p.2) (hl : ∀ i e, zje lv i = some e -> e.Φ w) (hk : Hd S Ls) : (execOp a.eval o).run P w = .ok (.value v) w := by
 unfold zpQ at hv
 split at hv
 ·rename_i c x y ho
  split at hv
  split at hv
  ·rename_i g lc la b lb h1 h2 h3
   split at hv
   ·rename_i s1 s2 s3
    cases hv
    have e1 := h.lk h1 (hk.sub s1)
    simp only [execOp, ho, e1, asBool]
    cases g with
    | true =>
     have hc : Hd S ((c, true) :: Ls) \/ Hd S la := .inr (fun p hp => by
      rcases List.mem_cons.1 (zcc s2 p hp) with rfl | hp2
      ·cases hsc : zgp S c with
       | none =>
        exfalso
        cases x with
        | tmp t =>
         simp only [slk] at h2
         split at h2
         ·rename_i e he; cases h2; obtain ⟨u, hu⟩ := h.closed t _ _ he _ hp; rw [hsc] at hu; cases hu
         ·split at h2 <;> cases h2; cases hp
        | const u => simp only [slk] at h2; cases h2; cases hp
        | global g => simp only [slk] at h2; cases h2
        | func f => simp only [slk] at h2; cases h2
       | some u =>
        simp only [slk, hsc] at h1
        cases h1
        exact ⟨_, rfl⟩
      ·exact hk p hp2)
     have e2 := h.lk h2 (hc.elim (fun k => k.sub s2) id)
     simp [e2]
    | false =>
     have e3 := h.lk h3 (fun p hp => by
      rcases List.mem_cons.1 (zcc s3 p hp) with rfl | hp2
      ·cases hsc : zgp S c with
       | none =>
        exfalso
        cases y with
        | tmp t =>
         simp only [slk] at h3
         split at h3
         ·rename_i e he; cases h3; obtain ⟨u, hu⟩ := h.closed t _ _ he _ hp; rw [hsc] at hu; cases hu
         ·split at h3 <;> cases h3; cases hp
        | const u => simp only [slk] at h3; cases h3; cases hp
        | global g => simp only [slk] at h3; cases h3
        | func f => simp only [slk] at h3; cases h3
       | some u =>
        simp only [slk, hsc] at h1
        cases h1
        exact ⟨_, rfl⟩
      ·exact hk p hp2)
     simp [e3]
   ·cases hv
  ·cases hv
  split at hv
  ·rename_i g lc a' la lb h1 h2 h3
   split at hv
   ·rename_i s1 s2 s3
    cases hv
    have e1 := h.lk h1 (hk.sub s1)
    simp only [execOp, ho, e1, asBool]
    cases g with
    | true =>
     have e2 := h.lk h2 (fun p hp => by
      rcases List.mem_cons.1 (zcc s2 p hp) with rfl | hp2
      ·cases hsc : zgp S c with
       | none =>
        exfalso
        cases x with
        | tmp t =>
         simp only [slk] at h2
         split at h2
         ·rename_i e he; cases h2; obtain ⟨u, hu⟩ := h.closed t _ _ he _ hp; rw [hsc] at hu; cases hu
         ·split at h2 <;> cases h2; cases hp
        | const u => simp only [slk] at h2; cases h2; cases hp
        | global g => simp only [slk] at h2; cases h2
        | func f => simp only [slk] at h2; cases h2
       | some u =>
        simp only [slk, hsc] at h1
        cases h1
        exact ⟨_, rfl⟩
      ·exact hk p hp2)
     simp [e2]
    | false =>
     have e3 := h.lk h3 (fun p hp => by
      rcases List.mem_cons.1 (zcc s3 p hp) with rfl | hp2
      ·cases hsc : zgp S c with
       | none =>
        exfalso
        cases y with
        | tmp t =>
         simp only [slk] at h3
         split at h3
         ·rename_i e he; cases h3; obtain ⟨u, hu⟩ := h.closed t _ _ he _ hp; rw [hsc] at hu; cases hu
         ·split at h3 <;> cases h3; cases hp
        | const u => simp only [slk] at h3; cases h3; cases hp
        | global g => simp only [slk] at h3; cases h3
        | func f => simp only [slk] at h3; cases h3
       | some u =>
        simp only [slk, hsc] at h1
        cases h1
        exact ⟨_, rfl⟩
      ·exact hk p hp2)
     simp [e3]
   ·cases hv
  ·cases hv
  cases hv
 ·rename_i t x ho
  split at hv
  ·rename_i ad u p la h1 h2
   split at hv
   ·rename_i s1 hA
    cases hv
    have e1 := h.lk h2 (hk.sub s1)
    have e2 := hE _ zcs
    simp only at e2
    have h3 := zfM (P := P) (w := w) hA (hl i _ h1)
    simp only [execOp, ho]
    rw [e1, e2]
    simp [h3]
   ·cases hv
  ·rename_i b k cs p la h1 h2
   split at hv
   ·rename_i m s1 hA hz
    split at hv
    ·rename_i hm
     cases hv
     have hm := Nat.eq_of_beq_eq_true hm
     subst hm
     have e1 := h.lk h2 (hk.sub s1)
     have e2 := hE _ zcs
     simp only at e2
     have h3 := zan (P := P) (w := w) hA hz (hl i _ h1)
     simp only [execOp, ho]
     rw [e1, e2]
     simp [h3]
    ·cases hv
   ·cases hv
  ·cases hv
 ·split at hv
  ·rename_i hs ho
   split at hv
   ·rename_i u hu
    cases hv
    rw [zcT (ρ' := zpP S fr) hs (fun x hx => ?_)]
    ·exact xo hu w
    ·obtain ⟨e, he, hs2⟩ := zit ho x hx
     rw [h.lk (v := e.1) (la := e.2) he (hk.sub hs2)]
     simp [zpP, he]
   ·cases hv
  ·cases hv
theorem zd8 {d t : Nat} {e : Value × List (Nat × Bool)} : zgp ((d, e) :: S) t = if d = t then some e else zgp S t := by
 simp only [zgp]
 cases h : Nat.beq d t with
 | true => rw [if_pos (Nat.eq_of_beq_eq_true h)]
 | false => rw [if_neg (Nat.ne_of_beq_eq_false h)]
theorem SpI.put (h : SpI N S fr a) {d : Nat} {v u : Value} (hd : Nat.blt d N = true) (hn : zgp S d = none) (hg : zlg l S o = some Ls) (h1 : Hd S Ls -> u = v) (h2 : ¬ Hd S Ls -> u = undef) : SpI N ((d, v, Ls) :: S) fr (a.put (some d) u) := by
 have hd' : d < N := by simpa [Nat.blt_eq] using hd
 have hcl : ∀ p ∈ Ls, ∃ z, zgp S p.1 = some z := by
  unfold zlg at hg
  split at hg
  ·cases hg; intro p hp; cases hp
  ·split at hg
   ·split at hg
    ·rename_i d' _ g ls hs
     cases hg
     intro p hp
     rcases List.mem_cons.1 hp with rfl | hp
     ·exact ⟨_, hs⟩
     ·exact h.closed _ _ _ hs p hp
    ·cases hg
   ·cases hg
 have hH : ∀ Ls', (∀ p ∈ Ls', ∃ z, zgp S p.1 = some z) -> (Hd ((d, v, Ls) :: S) Ls' ↔ Hd S Ls') := by
  intro Ls' hc
  have : ∀ p ∈ Ls', zgp ((d, v, Ls) :: S) p.1 = zgp S p.1 := by
   intro p hp
   rw [zd8, if_neg]
   rintro rfl
   obtain ⟨z, hz⟩ := hc p hp
   rw [hn] at hz; cases hz
  exact ⟨fun k p hp => by rw [<- this p hp]; exact k p hp, fun k p hp => by rw [this p hp]; exact k p hp⟩
 refine ⟨by simp [Act.put, h.size], by simp [Act.put, h.defers], fun t v' Ls' ht => ?_, fun t v' ht hf => ?_, fun t v' Ls' ht p hp => ?_⟩
 ·rw [zd8] at ht
  by_cases e : d = t
  ·subst e
   rw [if_pos rfl] at ht
   cases ht
   have hx : (a.put (some d) u).tmps[d]? = some u := by simp [Act.put, h.size, hd']
   rw [hx]
   exact ⟨fun k => by rw [h1 ((hH Ls hcl).1 k)], fun k => by rw [h2 (fun q => k ((hH Ls hcl).2 q))]⟩
  ·rw [if_neg e] at ht
   have hx : (a.put (some d) u).tmps[t]? = a.tmps[t]? := by simp only [Act.put]; exact Array.getElem?_setIfInBounds_ne e
   rw [hx]
   have hc := h.closed t v' Ls' ht
   exact ⟨fun k => (h.on t v' Ls' ht).1 ((hH Ls' hc).1 k), fun k => (h.on t v' Ls' ht).2 (fun q => k ((hH Ls' hc).2 q))⟩
 ·rw [zd8] at ht
  by_cases e : d = t
  ·rw [if_pos e] at ht; cases ht
  ·rw [if_neg e] at ht
   have hx : (a.put (some d) u).tmps[t]? = a.tmps[t]? := by simp only [Act.put]; exact Array.getElem?_setIfInBounds_ne e
   rw [hx]; exact h.off t v' ht hf
 ·have hex : ∃ z, zgp S p.1 = some z := by
   rw [zd8] at ht
   by_cases e : d = t
   ·rw [if_pos e] at ht; cases ht; exact hcl p hp
   ·rw [if_neg e] at ht; exact h.closed t v' Ls' ht p hp
  obtain ⟨z, hz⟩ := hex
  refine ⟨z, ?_⟩
  rw [zd8, if_neg]
  ·exact hz
  ·rintro rfl; rw [hn] at hz; cases hz
theorem zpR (G : Nat -> Act -> Prop) (hl : ∀ i e, zje lv i = some e -> e.Φ w)
  (step : ∀ i a o, vU l i = some o -> (Region.wanted o (yielded l.toArray a.tmps) = true -> ∀ v d, o.dst = some d -> (execOp a.eval o).run P w = .ok (.value v) w -> G (i + 1) (a.put (some d) v) -> G i a) /\
   (Region.wanted o (yielded l.toArray a.tmps) = false -> ∀ d, o.dst = some d -> G (i + 1) (a.put (some d) undef) -> G i a)) :
  ∀ (n i : Nat) (S : SpS) (E : List (Value × Value)) {S2 : SpS} {E2 : List (Value × Value)} {a : Act}, zho P l N lv pk fr n i S E = some (S2, E2) -> (∀ p ∈ E2, p.1 = p.2) -> SpI N S fr a -> (∀ a', SpI N S2 fr a' -> G (i + n) a') -> G i a := by
 have hmono : ∀ (n i : Nat) (S : SpS) (E : List (Value × Value)) {S2 : SpS} {E2 : List (Value × Value)}, zho P l N lv pk fr n i S E = some (S2, E2) -> ∀ p ∈ E, p ∈ E2 := by
  intro n
  induction n with
  | zero => intro i S E S2 E2 h p hp; simp only [zho, Option.some.injEq, Prod.mk.injEq] at h; rw [<- h.2]; exact hp
  | succ n ih =>
   intro i S E S2 E2 h p hp
   unfold zho at h
   split at h
   ·cases h
   ·split at h
    ·split at h
     ·split at h
      ·exact ih _ _ _ h p (zar _ hp)
      ·cases h
     ·cases h
    ·cases h
 intro n
 induction n with
 | zero => intro i S E S2 E2 a h _ hI k; simp only [zho, Option.some.injEq, Prod.mk.injEq] at h; exact k a (by rw [<- h.1]; exact hI)
 | succ n ih =>
  intro i S E S2 E2 a h hE hI k
  have h0 := h
  unfold zho at h
  split at h
  ·cases h
  ·rename_i o ho
   split at h
   ·rename_i d Ls hd hg
    split at h
    ·rename_i hN hn
     split at h
     ·rename_i v e hv
      have hEe : ∀ p ∈ e, p.1 = p.2 := fun p hp => hE p (hmono _ _ _ _ h p (zal _ hp))
      obtain ⟨s1, s2⟩ := step i a o ho
      by_cases hk : Hd S Ls
      ·refine s1 ((hI.want hg).1 hk) v d hd (hI.val hv hEe hl hk) (ih _ _ _ h hE (hI.put hN hn hg (fun _ => rfl) (fun q => absurd hk q)) ?_)
       intro a' hI'
       have := k a' hI'
       rwa [Nat.add_assoc, Nat.add_comm 1 n]
      ·refine s2 ((hI.want hg).2 hk) d hd (ih _ _ _ h hE (hI.put hN hn hg (fun q => absurd q hk) (fun _ => rfl)) ?_)
       intro a' hI'
       have := k a' hI'
       rwa [Nat.add_assoc, Nat.add_comm 1 n]
     ·cases h
    ·cases h
   ·cases h
def ziu (S : SpS) (fr : Fr) : List Nat -> Bool
 | [] => true
 | q :: r => (match zgp S q with
  | some (_, []) => true
  | some _ => false
  | none => match zc5 fr q with
   | some _ => true
   | none => false) && ziu S fr r
def zoS (S : SpS) (fr : Fr) : List Nat -> Fr
 | [] => []
 | q :: r => (q, match zgp S q with
  | some (v, _) => v
  | none => (zc5 fr q).getD undef) :: zoS S fr r
theorem SpI.rep (h : SpI N S fr a) : ∀ {live : List Nat}, ziu S fr live = true -> Rep N (zoS S fr live) a
 | [], _ => ⟨h.size, h.defers, fun i v hi => by cases hi⟩
 | q :: r, hl => by
  unfold ziu at hl
  rw [zae] at hl
  have ih := h.rep hl.2
  refine ⟨h.size, h.defers, fun i v hi => ?_⟩
  simp only [zoS] at hi
  rw [zam] at hi
  split at hi
  ·rename_i e
   subst e
   have h1 := hl.1
   split at h1
   ·rename_i u he
    rw [he] at hi
    cases hi
    exact (h.on q _ _ he).1 (fun p hp => by cases hp)
   ·cases h1
   ·rename_i he
    split at h1
    ·rename_i u hu
     rw [he, hu] at hi
     cases hi
     exact h.off q _ he hu
    ·cases h1
  ·exact ih.get i v hi
theorem SpI.init (ha : Rep N fr a) : SpI N [] fr a := ⟨ha.size, ha.defers, fun t v Ls h => (by cases h), fun t v _ hf => ha.get t v hf, fun t v Ls h => (by cases h)⟩
end
structure LvR (one many : List (Nat × LH)) (Fs : List Fa) (L : List Item) (w0 : World) (Z : List Nat) (lv : List (Nat × Pn)) : Prop where
 o : ∀ w, zbi w0 Z Fs -> St w0 Z w L -> ∀ p ∈ lv, p.2.Φ w
section
variable {ρ : Type} {h : LH} {hs hs' : List H} {f : Option ρ} {r : ρ} {Fs Fs' : List Fa} {L L' : List Item} {fr : Fr} {P : Program} {B : Func} {N : Nat} {w0 : World} {Z : List Nat} {c x y : Code} {Q : Exit -> Act -> World -> Prop} {l : List Oper} {i : Nat} {e : Exit} {v : Value} {one many : List (Nat × LH)} {lv : List (Nat × Pn)}
theorem LvR.nil : LvR [] [] Fs L w0 Z [] := ⟨fun _ _ _ p hp => by cases hp⟩
theorem LvR.c1 {j : Nat} {a : Addr} (h1 : Cel Fs L w0 Z h a v) (n : LvR one many Fs L w0 Z lv) : LvR ((j, h) :: one) many Fs L w0 Z ((j, .c a v) :: lv) := ⟨fun w al s p hp => by
 rcases List.mem_cons.1 hp with rfl | hp
 ·exact h1.o w al s
 ·exact n.o w al s p hp⟩
theorem ziv {α : Type} : ∀ {xs : List (Nat × α)} {n : Nat} {x : α}, zje xs n = some x -> ∃ p ∈ xs, p.2 = x
 | [], _, _, h => by cases h
 | p :: r, n, x, h => by
  unfold zje at h
  split at h
  ·cases h; exact ⟨p, zcs, rfl⟩
  ·obtain ⟨q, hq, e⟩ := ziv h; exact ⟨q, zcm _ hq, e⟩
def spS (P : Program) (l : List Oper) (N : Nat) (lv : List (Nat × Pn)) (pk : List (Nat × Bool)) (fr : Fr) : SpS := match zho P l N lv pk fr l.length 0 [] [] with
 | some p => p.1
 | none => []
def spE (P : Program) (l : List Oper) (N : Nat) (lv : List (Nat × Pn)) (pk : List (Nat × Bool)) (fr : Fr) : Option (List (Value × Value)) := match zho P l N lv pk fr l.length 0 [] [] with
 | some p => some p.2
 | none => none
theorem ziw : ∀ {E : List (Value × Value)}, E.map (·.1) = E.map (·.2) -> ∀ p ∈ E, p.1 = p.2
 | [], _, p, hp => by cases hp
 | q :: r, h, p, hp => by
  simp only [List.map_cons, List.cons.injEq] at h
  rcases List.mem_cons.1 hp with rfl | hp
  ·exact h.1
  ·exact ziw h.2 p hp
theorem GC.sc {id : Nat} {live : List Nat} {pk : List (Nat × Bool)} (hl : LvR one many Fs L w0 Z lv) (he : KR (spE P l N lv pk fr).isSome true) (hE : KR (((spE P l N lv pk fr).getD []).map (·.1)) (((spE P l N lv pk fr).getD []).map (·.2))) (hv : KR (ziu (spS P l N lv pk fr) fr live) true)
  (n : GQ hs f r Fs L (zoS (spS P l N lv pk fr) fr live) P B N w0 Z .normal Q) : GC (.sc live one many pk :: hs) f r Fs L fr P B N w0 Z (.region id l.toArray false) Q := ⟨fun w a s e => by
 refine CW.region fun b hb => ?_
 have h1 := he.h
 have h2 := ziw hE.h
 have h3 := hv.h
 have h4 := n.o w a s e
 unfold spE at h1 h2
 unfold spS at h3 h4
 cases hr : zho P l N lv pk fr l.length 0 [] [] with
 | none => rw [hr] at h1; cases h1
 | some p =>
  rw [hr] at h2 h3 h4
  have key := zpR (P := P) (l := l) (N := N) (lv := lv) (pk := pk) (fr := fr) (w := w) (fun i a => wpList P l.toArray Q (l.drop i) a w)
   (fun i e hi => by obtain ⟨q, hq, rfl⟩ := ziv hi; exact hl.o w a s q hq)
   (fun i a o ho => ⟨fun hw v d hd hrun k => by
     show wpList P l.toArray Q (l.drop i) a w
     rw [vV ho]
     refine wpList_step (fun K hK => ?_)
     rw [if_pos hw]
     unfold Oper.wp
     rw [hrun, Oper.upon_value, hd]
     exact hK _ _ k,
    fun hw d hd k => by
     show wpList P l.toArray Q (l.drop i) a w
     rw [vV ho]
     refine wpList_step (fun K hK => ?_)
     rw [hw, hd]
     exact hK _ _ k⟩) l.length 0 [] [] (a := b) hr h2 (SpI.init hb) (fun a' hI => by
    have h5 := h4 a' (hI.rep h3)
    have h6 := OW.nil (P := P) (l := l) (N := N) (Q := Q) (i := l.length) (fr := zoS p.1 fr live) (w := w) (by
     cases hh : vU l l.length with
     | none => rfl
     | some o => exact absurd (zih hh) (by omega)) h4 a' (hI.rep h3)
    simpa using h6)
  exact key⟩
theorem GC.scB {id : Nat} {arr : Array Oper} {live : List Nat} {pk : List (Nat × Bool)} (hR : KR arr (zip B id).toArray) (hl : LvR one many Fs L w0 Z lv) (he : KR (spE P (zip B id) N lv pk fr).isSome true) (hE : KR (((spE P (zip B id) N lv pk fr).getD []).map (·.1)) (((spE P (zip B id) N lv pk fr).getD []).map (·.2))) (hv : KR (ziu (spS P (zip B id) N lv pk fr) fr live) true)
 (n : GQ hs f r Fs L (zoS (spS P (zip B id) N lv pk fr) fr live) P B N w0 Z .normal Q) : GC (.sc live one many pk :: hs) f r Fs L fr P B N w0 Z (.region id arr false) Q := by have := hR.h; subst this; exact GC.sc hl he hE hv n
end
end Go.Sx
namespace Go.Sx
open Go.RowKit
section
variable {h : LH} {Fs Fs' : List Fa} {L L' : List Item} {fr : Fr} {P : Program} {B : Func} {N : Nat} {w0 : World} {Z : List Nat} {l : List Oper} {i : Nat} {v : Value}
theorem LkV.of {o : Oper} (ho : okO l N fr i = some o) (hs : vH o.op = true) (hr : zbi w0 Z Fs -> ∀ a w, Rep N fr a -> (execOp a.eval o).run P w = .ok (.value v) w) : LkV Fs fr P B N w0 Z h l i v := by
 obtain ⟨d, hl, hg, hd, hN⟩ := xm ho
 exact ⟨o, d, hl, hg, hd, hN, hs, fun a w b hb => hr a b w hb⟩
def zmP : BinOp -> Bool | .quo => true | _ => false
def zmQ : BinOp -> Bool | .rem => true | _ => false
def zjf : BinOp -> Bool | .shl => true | _ => false
def zjg : BinOp -> Bool | .shr => true | _ => false
theorem zmR {o : BinOp} (h : zmP o = true) : o = .quo := by cases o <;> first | rfl | cases h
theorem zmS {o : BinOp} (h : zmQ o = true) : o = .rem := by cases o <;> first | rfl | cases h
theorem zjX {o : BinOp} (h : zjf o = true) : o = .shl := by cases o <;> first | rfl | cases h
theorem zjY {o : BinOp} (h : zjg o = true) : o = .shr := by cases o <;> first | rfl | cases h
def biC (sel : BinOp -> Bool) (l : List Oper) (N : Nat) (fr : Fr) (i : Nat) : Option (IntKind × Int × IntKind × Int) := match okO l N fr i with
 | some ⟨_, .binOp op _ x y _, _, _, _, _⟩ => match sel op, look fr x, look fr y with
  | true, some (.int k a), some (.int k2 b) => some (k, a, k2, b)
  | _, _, _ => none
 | _ => none
theorem zeC {sel : BinOp -> Bool} {p : IntKind × Int × IntKind × Int} (h : biC sel l N fr i = some p) : ∃ d op t x y t2 ty pos af g, okO l N fr i = some ⟨d, .binOp op t x y t2, ty, pos, af, g⟩ /\ sel op = true /\ look fr x = some (.int p.1 p.2.1) /\ look fr y = some (.int p.2.2.1 p.2.2.2) := by
 unfold biC at h
 split at h
 ·rename_i ho
  split at h
  ·rename_i h1 h2 h3
   cases h
   exact ⟨_, _, _, _, _, _, _, _, _, _, ho, h1, h2, h3⟩
  ·cases h
 ·cases h
def biV (p : Option (IntKind × Int × IntKind × Int)) (g : IntKind -> Int -> Int -> Int) : Value := match p with
 | some (k, a, _, b) => .int k (g k a b)
 | none => undef
theorem LkV.qu {q : Nat} {b : Int} {u : Unit} (hq : nth Fs q = some (.oe (nz b) u)) (hc : KR ((biC zmP l N fr i).map fun p => (p.2.2.2, decide (p.1 = p.2.2.1))) (some (b, true))) : LkV Fs fr P B N w0 Z (.qu q) l i (biV (biC zmP l N fr i) fun k a b => k.wrap (a.tdiv b)) := by
 have hc := hc.h
 cases hb : biC zmP l N fr i with
 | none => rw [hb] at hc; cases hc
 | some p =>
  obtain ⟨k, a, k2, b'⟩ := p
  rw [hb] at hc
  simp only [Option.map_some, Option.some.injEq, Prod.mk.injEq, zdq] at hc
  obtain ⟨rfl, rfl⟩ := hc
  obtain ⟨d, op, t, x, y, t2, ty, pos, af, g, ho, hs, hx, hy⟩ := zeC hb
  have := zmR hs
  subst this
  refine LkV.of ho rfl fun al r w hr => ?_
  have hz : b' ≠ 0 := zpy (zq al hq)
  have e1 := hr.look hx
  have e2 := hr.look hy
  simp only at e1 e2
  simp [execOp, eqGuard, binOp, e1, e2, Op.intDiv, hz, biV]
theorem LkV.re {q : Nat} {b : Int} {u : Unit} (hq : nth Fs q = some (.oe (nz b) u)) (hc : KR ((biC zmQ l N fr i).map fun p => (p.2.2.2, decide (p.1 = p.2.2.1))) (some (b, true))) : LkV Fs fr P B N w0 Z (.re q) l i (biV (biC zmQ l N fr i) fun k a b => a.tmod b) := by
 have hc := hc.h
 cases hb : biC zmQ l N fr i with
 | none => rw [hb] at hc; cases hc
 | some p =>
  obtain ⟨k, a, k2, b'⟩ := p
  rw [hb] at hc
  simp only [Option.map_some, Option.some.injEq, Prod.mk.injEq, zdq] at hc
  obtain ⟨rfl, rfl⟩ := hc
  obtain ⟨d, op, t, x, y, t2, ty, pos, af, g, ho, hs, hx, hy⟩ := zeC hb
  have := zmS hs
  subst this
  refine LkV.of ho rfl fun al r w hr => ?_
  have hz : b' ≠ 0 := zpy (zq al hq)
  have e1 := hr.look hx
  have e2 := hr.look hy
  simp only at e1 e2
  simp [execOp, eqGuard, binOp, e1, e2, Op.intDiv, hz, biV]
theorem LkV.hl {q : Nat} {b : Int} {u : Unit} (hq : nth Fs q = some (.oe (nn b) u)) (hc : KR ((biC zjf l N fr i).map fun p => p.2.2.2) (some b)) : LkV Fs fr P B N w0 Z (.hl q) l i (biV (biC zjf l N fr i) fun k a b => zfS k a b) := by
 have hc := hc.h
 cases hb : biC zjf l N fr i with
 | none => rw [hb] at hc; cases hc
 | some p =>
  obtain ⟨k, a, k2, b'⟩ := p
  rw [hb] at hc
  simp only [Option.map_some, Option.some.injEq] at hc
  subst hc
  obtain ⟨d, op, t, x, y, t2, ty, pos, af, g, ho, hs, hx, hy⟩ := zeC hb
  have := zjX hs
  subst this
  exact LkV.of ho rfl fun al r w hr => zmz rfl hx hy (zpB (zq al hq)) r w hr
theorem LkV.hr {q : Nat} {b : Int} {u : Unit} (hq : nth Fs q = some (.oe (nn b) u)) (hc : KR ((biC zjg l N fr i).map fun p => p.2.2.2) (some b)) : LkV Fs fr P B N w0 Z (.hr q) l i (biV (biC zjg l N fr i) fun k a b => zbx k a b) := by
 have hc := hc.h
 cases hb : biC zjg l N fr i with
 | none => rw [hb] at hc; cases hc
 | some p =>
  obtain ⟨k, a, k2, b'⟩ := p
  rw [hb] at hc
  simp only [Option.map_some, Option.some.injEq] at hc
  subst hc
  obtain ⟨d, op, t, x, y, t2, ty, pos, af, g, ho, hs, hx, hy⟩ := zeC hb
  have := zjY hs
  subst this
  exact LkV.of ho rfl fun al r w hr => zmA rfl hx hy (zpB (zq al hq)) r w hr
theorem LkV.hc {e k m n : Nat} (hq : nth Fs e = some (.ct k m n)) (hc : KR ((biC zjf l N fr i).map fun p => p.2.2.2) (some (qf ((k : Nat) : Int)))) : LkV Fs fr P B N w0 Z (.hc e) l i (biV (biC zjf l N fr i) fun k a b => zfS k a b) := by
 have hc := hc.h
 cases hb : biC zjf l N fr i with
 | none => rw [hb] at hc; cases hc
 | some p =>
  obtain ⟨kk, a, k2, b'⟩ := p
  rw [hb] at hc
  simp only [Option.map_some, Option.some.injEq] at hc
  subst hc
  obtain ⟨d, op, t, x, y, t2, ty, pos, af, g, ho, hs, hx, hy⟩ := zeC hb
  have := zjX hs
  subst this
  exact LkV.of ho rfl fun al r w hr => zmz rfl hx hy (zmy _) r w hr
theorem LkV.hd {e k m n : Nat} (hq : nth Fs e = some (.ct k m n)) (hc : KR ((biC zjg l N fr i).map fun p => p.2.2.2) (some (qf ((k : Nat) : Int)))) : LkV Fs fr P B N w0 Z (.hd e) l i (biV (biC zjg l N fr i) fun k a b => zbx k a b) := by
 have hc := hc.h
 cases hb : biC zjg l N fr i with
 | none => rw [hb] at hc; cases hc
 | some p =>
  obtain ⟨kk, a, k2, b'⟩ := p
  rw [hb] at hc
  simp only [Option.map_some, Option.some.injEq] at hc
  subst hc
  obtain ⟨d, op, t, x, y, t2, ty, pos, af, g, ho, hs, hx, hy⟩ := zeC hb
  have := zjY hs
  subst this
  exact LkV.of ho rfl fun al r w hr => zmA rfl hx hy (zmy _) r w hr
def siC (P : Program) (l : List Oper) (N : Nat) (fr : Fr) (i : Nat) : Option (ByteArray × Int) := match okO l N fr i with
 | some ⟨_, .index t x y, _, _, _, _⟩ => match P.underlying t, look fr x, look fr y with
  | some .string, some (.string s), some (.int _ q) => some (s, q)
  | _, _, _ => none
 | _ => none
theorem LkV.si {q : Nat} {s : ByteArray} {t c : Int} (hq : nth Fs q = some (.oe (zhG s t) c)) (hc : KR (siC P l N fr i) (some (s, t))) : LkV Fs fr P B N w0 Z (.si q) l i (.int .u8 c) := by
 have hc := hc.h
 unfold siC at hc
 split at hc
 ·rename_i ho
  split at hc
  ·rename_i h1 h2 h3
   cases hc
   exact LkV.of ho rfl fun al r w hr => znu rfl h2 h3 h1 (zq al hq) r w hr
  ·cases hc
 ·cases hc
def zmT : BinOp -> Bool | .eql => true | _ => false
def zmU : BinOp -> Bool | .neq => true | _ => false
theorem zmV {o : BinOp} (h : zmT o = true) : o = .eql := by cases o <;> first | rfl | cases h
theorem zmW {o : BinOp} (h : zmU o = true) : o = .neq := by cases o <;> first | rfl | cases h
def seC (sel : BinOp -> Bool) (P : Program) (l : List Oper) (N : Nat) (fr : Fr) (i : Nat) : Option Bool := match okO l N fr i with
 | some ⟨_, .binOp op t x y _, _, _, _, _⟩ => match sel op, look fr x, look fr y, P.eqGuardType P.depth t with
  | true, some (.agg xs), some (.agg ys), false => zk6 P 9 t (.agg xs) (.agg ys)
  | _, _, _, _ => none
 | _ => none
theorem LkV.sq (hc : KR (seC zmT P l N fr i).isSome true) : LkV Fs fr P B N w0 Z .sq l i (.bool ((seC zmT P l N fr i).getD false)) := by
 have hc := hc.h
 cases hb : seC zmT P l N fr i with
 | none => rw [hb] at hc; cases hc
 | some r =>
  unfold seC at hb
  split at hb
  ·rename_i ho
   split at hb
   ·rename_i h1 h2 h3 h4
    have := zmV h1
    subst this
    exact LkV.of ho rfl fun al a w hr => zoM rfl h2 h3 h4 hb a w hr
   ·cases hb
  ·cases hb
theorem LkV.sn (hc : KR (seC zmU P l N fr i).isSome true) : LkV Fs fr P B N w0 Z .sn l i (.bool (!(seC zmU P l N fr i).getD false)) := by
 have hc := hc.h
 cases hb : seC zmU P l N fr i with
 | none => rw [hb] at hc; cases hc
 | some r =>
  unfold seC at hb
  split at hb
  ·rename_i ho
   split at hb
   ·rename_i h1 h2 h3 h4
    have := zmW h1
    subst this
    exact LkV.of ho rfl fun al a w hr => znw rfl h2 h3 h4 hb a w hr
   ·cases hb
  ·cases hb
def adC (l : List Oper) (N : Nat) (fr : Fr) (i : Nat) : Option (FuncId × Int × Int × Int) := match okO l N fr i with
 | some ⟨_, .call ⟨.value (.func f), ⟨[x, y, z]⟩, ⟨_⟩⟩, _, _, _, _⟩ => match look fr x, look fr y, look fr z with
  | some (.int .u64 p), some (.int .u64 q), some (.int .u64 c) => some (f, p, q, c)
  | _, _, _ => none
 | _ => none
def adF (P : Program) (p : Option (FuncId × Int × Int × Int)) : Option Func := match p with
 | some (f, _) => P.funcs[f]?
 | none => none
theorem LkV.ad {q : Nat} {p1 p2 p3 : Int} {x : Int × Int} (hq : nth Fs q = some (.oe (zi9 p1 p2 p3) x)) (hc : KR ((adC l N fr i).map (·.2)) (some (p1, p2, p3))) (h1 : KR ((adF P (adC l N fr i)).map fun fn => (fn.name == "runtime.NumGoroutine", fn.body.isNone)) (some (false, true)))
  (h3 : KR ((adF P (adC l N fr i)).bind fun fn => some (Extern.findNext fn)) (some none)) (h4 : KR ((adF P (adC l N fr i)).bind fun fn => Extern.find fn) (some add64Entry)) : LkV Fs fr P B N w0 Z (.ad q) l i (.tuple [.int .u64 x.1, .int .u64 x.2].toArray) := by
 have hc := hc.h
 have h1 := h1.h
 have h3 := h3.h
 have h4 := h4.h
 cases hb : adC l N fr i with
 | none => rw [hb] at hc; cases hc
 | some p =>
  obtain ⟨f, a, b, c⟩ := p
  rw [hb] at hc h1 h3 h4
  simp only [Option.map_some, Option.some.injEq, Prod.mk.injEq] at hc
  obtain ⟨rfl, rfl, rfl⟩ := hc
  simp only [adF] at h1 h3 h4
  cases hf : P.funcs[f]? with
  | none => rw [hf] at h1; cases h1
  | some fn =>
   rw [hf] at h1 h3 h4
   simp only [Option.map_some, Option.some.injEq, Prod.mk.injEq] at h1
   simp only [zbs, Option.some.injEq] at h3 h4
   unfold adC at hb
   split at hb
   ·rename_i ho
    split at hb
    ·rename_i g1 g2 g3
     cases hb
     exact LkV.of ho rfl fun al r w hr => zld (u := x.1) (v := x.2) rfl g1 g2 g3 hf h1.1 h1.2 h3 h4 (zq al hq) r w hr
    ·cases hb
   ·cases hb
def cpC (P : Program) (l : List Oper) (N : Nat) (fr : Fr) (i : Nat) : Option (Value × Option Int × Option Int × Nat) := match okO l N fr i with
 | some ⟨_, .slice t x lo hi none, _, _, _, _⟩ => match P.underlying t, look fr x with
  | some (.slice e), some v => match zbk P (sizeOf e) with
   | some sz => match lo, hi with
    | none, some y => match look fr y with
     | some (.int _ q) => some (v, none, some q, sz)
     | _ => none
    | some y, none => match look fr y with
     | some (.int _ q) => some (v, some q, none, sz)
     | _ => none
    | some y, some z => match look fr y, look fr z with
     | some (.int _ q), some (.int _ r) => some (v, some q, some r, sz)
     | _, _ => none
    | none, none => none
   | none => none
  | _, _ => none
 | _ => none
theorem LkV.cp {α : Type} {e q sz n c : Nat} {a : Option Addr} {enc : α -> List Value} {xs ys : List α} {hi : Int} (he : nth Fs e = some (.rd (.slice a n c) enc sz xs)) (hq : nth Fs q = some (.oe (cut xs 0 hi) ys)) (hc : KR (cpC P l N fr i) (some (.slice a n c, none, some hi, sz))) :
  LkV Fs fr P B N w0 Z (.cp e q) l i (.slice a ys.length c) := by
 have hc := hc.h
 unfold cpC at hc
 split at hc
 ·rename_i ho
  split at hc
  ·rename_i h1 h2
   split at hc
   ·rename_i hz
    split at hc
    ·split at hc
     ·rename_i h3
      cases hc
      exact LkV.of ho rfl fun al r w hr => zmx sz rfl h2 h3 (zq al hq) (Rd.cap (zq al he)) h1 hz r w hr
     ·cases hc
    ·split at hc <;> cases hc
    ·split at hc <;> cases hc
    ·cases hc
   ·cases hc
  ·cases hc
 ·cases hc
theorem LkV.cu {α : Type} {e q sz n c : Nat} {a : Option Addr} {enc : α -> List Value} {xs ys : List α} {lo hi : Int} (he : nth Fs e = some (.rd (.slice a n c) enc sz xs)) (hq : nth Fs q = some (.oe (cut xs lo hi) ys)) (hc : KR (cpC P l N fr i) (some (.slice a n c, some lo, some hi, sz))) :
  LkV Fs fr P B N w0 Z (.cu e q) l i (.slice (shd a c lo.toNat sz) ys.length (c - lo.toNat)) := by
 have hc := hc.h
 unfold cpC at hc
 split at hc
 ·rename_i ho
  split at hc
  ·rename_i h1 h2
   split at hc
   ·rename_i hz
    split at hc
    ·split at hc <;> cases hc
    ·split at hc <;> cases hc
    ·split at hc
     ·rename_i h3 h4
      cases hc
      exact LkV.of ho rfl fun al r w hr => zoL sz rfl h2 h3 h4 (zq al hq) (Rd.cap (zq al he)) h1 hz r w hr
     ·cases hc
    ·cases hc
   ·cases hc
  ·cases hc
 ·cases hc
theorem Adm.fp {α : Type} {e q sz n c : Nat} {a : Option Addr} {enc : α -> List Value} {xs ys : List α} {hi : Int} {Fs1 : List Fa} (he : nth Fs e = some (.rd (.slice a n c) enc sz xs)) (hq : nth Fs q = some (.oe (cut xs 0 hi) ys)) (hF : zaw Fs (.rd (.slice a ys.length c) enc sz ys) = some Fs1) :
 Adm (.fp e q) Fs L (fun _ : Unit => L) (fun _ => Fs1) := ⟨fun w0 Z w al s => ⟨(), s, jX (F := .rd (.slice a ys.length c) enc sz ys) al (Rd.pre (zq al he) (zq al hq)) hF⟩⟩
theorem Adm.fu {α : Type} {e q sz n c : Nat} {a : Option Addr} {enc : α -> List Value} {xs ys : List α} {lo hi : Int} {Fs1 : List Fa} (he : nth Fs e = some (.rd (.slice a n c) enc sz xs)) (hq : nth Fs q = some (.oe (cut xs lo hi) ys)) (hF : zaw Fs (.rd (.slice (shd a c lo.toNat sz) ys.length (c - lo.toNat)) enc sz ys) = some Fs1) :
 Adm (.fu e q) Fs L (fun _ : Unit => L) (fun _ => Fs1) := ⟨fun w0 Z w al s => ⟨(), s, jX (F := .rd (.slice (shd a c lo.toNat sz) ys.length (c - lo.toNat)) enc sz ys) al (Rd.part (zq al he) (zq al hq)) hF⟩⟩
end
end Go.Sx
namespace Go.Sx
open Go.RowKit
section
variable {ρ : Type} {h : LH} {hs hs' : List H} {f : Option ρ} {r : ρ} {Fs Fs' : List Fa} {L L' : List Item} {fr : Fr} {P : Program} {B : Func} {N : Nat} {w0 : World} {Z : List Nat} {l : List Oper} {i : Nat} {v : Value} {Q : Exit -> Act -> World -> Prop}
def aiC (P : Program) (l : List Oper) (N : Nat) (fr : Fr) (i : Nat) : Option (Addr × Int × Nat × Nat) := match okO l N fr i with
 | some ⟨_, .indexAddr t x y, _, _, _, _⟩ => match P.underlying t, look fr x, look fr y with
  | some (.array n e), some (.pointer (some a)), some (.int _ q) => match zbk P (sizeOf e) with
   | some sz => some (a, q, n, sz)
   | none => none
  | _, _, _ => none
 | _ => none
def aiV (p : Option (Addr × Int × Nat × Nat)) : Value := match p with
 | some (⟨b, k, none⟩, q, _, sz) => .pointer (some ⟨b, k + q.toNat * sz, none⟩)
 | _ => undef
def aiN (p : Option (Addr × Int × Nat × Nat)) : Option (Int × Nat) := match p with
 | some (⟨_, _, none⟩, q, n, _) => some (q, n)
 | _ => none
def inB (p : Option (Int × Nat)) : Bool := match p with
 | some (q, n) => decide (0 <= q /\ q < (n : Int))
 | none => false
theorem zmX {a : Addr} {q : Int} {n sz : Nat} (h : aiC P l N fr i = some (a, q, n, sz)) : ∃ d t x y ty pos af g e kd, okO l N fr i = some ⟨d, .indexAddr t x y, ty, pos, af, g⟩ /\ P.underlying t = some (.array n e) /\ look fr x = some (.pointer (some a)) /\ look fr y = some (.int kd q) /\ zbk P (sizeOf e) = some sz := by
 unfold aiC at h
 split at h
 ·rename_i ho
  split at h
  ·rename_i h1 h2 h3
   split at h
   ·rename_i h4
    cases h
    exact ⟨_, _, _, _, _, _, _, _, _, _, ho, h1, h2, h3, h4⟩
   ·cases h
  ·cases h
 ·cases h
theorem LkV.aiG (hh : zbi w0 Z Fs -> inB (aiN (aiC P l N fr i)) = true) (hn : ∃ p, aiN (aiC P l N fr i) = some p) : LkV Fs fr P B N w0 Z h l i (aiV (aiC P l N fr i)) := by
 obtain ⟨p, hp⟩ := hn
 cases hb : aiC P l N fr i with
 | none => rw [hb] at hp; cases hp
 | some w =>
  obtain ⟨⟨b, k, s⟩, q, n, sz⟩ := w
  rw [hb] at hh hp
  cases s with
  | some _ => cases hp
  | none =>
   obtain ⟨d, t, x, y, ty, pos, af, g, e, kd, ho, h1, h2, h3, h4⟩ := zmX hb
   refine LkV.of ho rfl fun al => ?_
   have hi := hh al
   simp only [aiN, inB, zdq] at hi
   exact znv _ _ rfl h2 h3 hi.1 hi.2 h1 h4
theorem LkV.al (hc : KR (inB (aiN (aiC P l N fr i))) true) : LkV Fs fr P B N w0 Z .al l i (aiV (aiC P l N fr i)) := LkV.aiG (fun _ => hc.h) (by
 have := hc.h
 cases e : aiN (aiC P l N fr i) with
 | none => rw [e] at this; cases this
 | some p => exact ⟨p, rfl⟩)
theorem LkV.af {q n x : Nat} {t : Int} (hq : nth Fs q = some (.oe (ain n t) x)) (hc : KR (aiN (aiC P l N fr i)) (some (t, n))) : LkV Fs fr P B N w0 Z (.af q) l i (aiV (aiC P l N fr i)) := LkV.aiG (fun al => by
 rw [hc.h]
 obtain ⟨h1, h2, _⟩ := zhI (zq al hq)
 simp [inB, h1, h2]) ⟨_, hc.h⟩
theorem LkV.at {α : Type} {q g o : Nat} {v' : Value} {xs : List α} {t : Int} {x : α} (hq : nth Fs q = some (.el v' g o t xs x)) (hc : KR (aiN (aiC P l N fr i)) (some (t, xs.length))) : LkV Fs fr P B N w0 Z (.at q) l i (aiV (aiC P l N fr i)) := LkV.aiG (fun al => by
 rw [hc.h]
 obtain ⟨h1, _⟩ := zq al hq
 obtain ⟨h1, h2, _⟩ := qS h1
 simp [inB, h1, h2]) ⟨_, hc.h⟩
theorem zpS {α : Type} {w : World} {Z : List Nat} {b o m c sz : Nat} {enc : α -> List Value} {xs : List α} {t : Int} {x : α} (h : Rd w Z (.slice (some ⟨b, o, none⟩) m c) enc sz xs) (hx : idx xs t = some x) : (Fa.el (.slice (some ⟨b, o, none⟩) m c) b o t xs x).ok w Z := by
 refine ⟨hx, c, ?_⟩
 obtain ⟨_, a, c', e⟩ := Rd.len h
 cases e
 rfl
theorem GO.bt {α : Type} {e b o m c sz : Nat} {enc : α -> List Value} {xs : List α} {t : Int} {k : α -> Option ρ} {Fs1 : α -> List Fa} (he : nth Fs e = some (.rd (.slice (some ⟨b, o, none⟩) m c) enc sz xs)) (hF : ∀ x, zaw Fs (.el (.slice (some ⟨b, o, none⟩) m c) b o t xs x) = some (Fs1 x))
  (n : ∀ x, GO hs (k x) r (Fs1 x) L fr P B N w0 Z l i Q) : GO (.bt e :: hs) ((idx xs t).bind k) r Fs L fr P B N w0 Z l i Q := ⟨fun w a s q => by
 obtain ⟨x, hx, hk⟩ := zn q
 exact (n x).o w (jX (F := .el (.slice (some ⟨b, o, none⟩) m c) b o t xs x) a (zpS (zq a he) hx) (hF x)) s hk⟩
def nzC (P : Program) (l : List Oper) (N : Nat) (fr : Fr) (i : Nat) : Option (Option Addr) := match okO l N fr i with
 | some ⟨_, .binOp .eql t x y _, _, _, _, _⟩ => match P.underlying t, look fr x, look fr y with
  | some (.slice _), some (.slice a _ _), some (.slice none 0 0) => some a
  | _, _, _ => none
 | _ => none
def nzV (p : Option (Option Addr)) : Value := match p with
 | some a => .bool a.isNone
 | none => undef
theorem LkV.nz (hc : KR (nzC P l N fr i).isSome true) : LkV Fs fr P B N w0 Z .nz l i (nzV (nzC P l N fr i)) := by
 have hc := hc.h
 cases hb : nzC P l N fr i with
 | none => rw [hb] at hc; cases hc
 | some a =>
  unfold nzC at hb
  split at hb
  ·rename_i ho
   split at hb
   ·rename_i h1 h2 h3
    cases hb
    exact LkV.of ho rfl fun al => znx rfl h2 h3 h1
   ·cases hb
  ·cases hb
theorem GC.nb {α : Type} {e m c sz : Nat} {a : Option Addr} {enc : α -> List Value} {xs : List α} {φ : List α -> Option ρ} {q : Operand} {x y : Code} {hs1 hs2 : List H} (he : nth Fs e = some (.rd (.slice a m c) enc sz xs)) (hφ : f = φ xs) (hp : KR (Nat.blt 0 sz) true) (hz : ∀ x, KR (enc x).length sz)
  (hc : KR (look fr q) (some (.bool a.isNone))) (n1 : GC hs1 (φ []) r Fs L fr P B N w0 Z x Q) (n2 : GC hs2 f r Fs L fr P B N w0 Z y Q) : GC (.nb e hs1 hs2 :: hs) f r Fs L fr P B N w0 Z (.cond q x y) Q := ⟨fun w al s g => by
 rcases zft a.isNone with h | h
 ·have hn : xs = [] := Rd.isnil (zq al he) (fun x => by
   have h1 := (hz x).h
   have h2 : 0 < sz := by have := hp.h; simpa [Nat.blt_eq] using this
   exact ⟨(enc x)[0]'(by omega), by simp⟩) h
  rw [hφ, hn] at g
  exact CW.cond_t hc.h h (n1.o w al s g)
 ·exact CW.cond_f hc.h h (n2.o w al s g)⟩
def asC (P : Program) (l : List Oper) (N : Nat) (fr : Fr) (i : Nat) : Option (Nat × Nat × Nat × Option Int × Option Int × Nat) := match okO l N fr i with
 | some ⟨_, .slice t x lo hi none, _, _, _, _⟩ => match P.underlying t, look fr x with
  | some (.array n e), some (.pointer (some ⟨b, k, none⟩)) => match zbk P (sizeOf e) with
   | some sz => match lo, hi with
    | none, none => some (b, k, n, none, none, sz)
    | none, some y => match look fr y with
     | some (.int _ q) => some (b, k, n, none, some q, sz)
     | _ => none
    | some y, some z => match look fr y, look fr z with
     | some (.int _ q), some (.int _ r) => some (b, k, n, some q, some r, sz)
     | _, _ => none
    | some _, none => none
   | none => none
  | _, _ => none
 | _ => none
def asB (p : Option (Nat × Nat × Nat × Option Int × Option Int × Nat)) : Option (Nat × Option Int × Option Int) := p.map fun q => (q.2.2.1, q.2.2.2.1, q.2.2.2.2.1)
def asV (p : Option (Nat × Nat × Nat × Option Int × Option Int × Nat)) (m : Nat) : Value := match p with
 | some (b, k, n, none, none, _) => .slice (some ⟨b, k, none⟩) n n
 | some (b, k, n, none, some _, _) => .slice (some ⟨b, k, none⟩) m n
 | some (b, k, n, some lo, some _, sz) => .slice (shd (some ⟨b, k, none⟩) n lo.toNat sz) m (n - lo.toNat)
 | _ => undef
theorem LkV.sG {p : Nat × Nat × Nat × Option Int × Option Int × Nat} {m : Nat} (hp : asC P l N fr i = some p)
  (hh : zbi w0 Z Fs -> p.2.2.2.2.1 ≠ none -> ∃ (α : Type) (xs ys : List α), xs.length = p.2.2.1 /\ cut xs (p.2.2.2.1.getD 0) (p.2.2.2.2.1.getD 0) = some ys /\ ys.length = m) : LkV Fs fr P B N w0 Z h l i (asV (some p) m) := by
 unfold asC at hp
 split at hp
 ·rename_i ho
  split at hp
  ·rename_i h1 h2
   split at hp
   ·rename_i hz
    split at hp
    ·cases hp
     exact LkV.of ho rfl fun al => znS _ rfl h2 h1 hz
    ·split at hp
     ·rename_i h3
      cases hp
      refine LkV.of ho rfl fun al => ?_
      obtain ⟨α, xs, ys, e1, e2, rfl⟩ := hh al (by simp)
      exact znU _ rfl h2 h3 e1 e2 h1 hz
     ·cases hp
    ·split at hp
     ·rename_i h3 h4
      cases hp
      refine LkV.of ho rfl fun al => ?_
      obtain ⟨α, xs, ys, e1, e2, rfl⟩ := hh al (by simp)
      exact znT _ rfl h2 h3 h4 e1 e2 h1 hz
     ·cases hp
    ·cases hp
   ·cases hp
  ·cases hp
 ·cases hp
theorem zjZ {p : Option (Nat × Nat × Nat × Option Int × Option Int × Nat)} {a : Nat × Option Int × Option Int} (h : asB p = some a) : ∃ q, p = some q /\ q.2.2.1 = a.1 /\ q.2.2.2.1 = a.2.1 /\ q.2.2.2.2.1 = a.2.2 := by
 cases p with
 | none => cases h
 | some q => cases h; exact ⟨q, rfl, rfl, rfl, rfl⟩
theorem LkV.sA (hc : KR ((asB (asC P l N fr i)).map (·.2)) (some (none, none))) : LkV Fs fr P B N w0 Z .sA l i (asV (asC P l N fr i) 0) := by
 have hc := hc.h
 cases hb : asB (asC P l N fr i) with
 | none => rw [hb] at hc; cases hc
 | some a =>
  rw [hb] at hc
  obtain ⟨q, e1, e2, e3, e4⟩ := zjZ hb
  simp only [Option.map_some, Option.some.injEq] at hc
  rw [e1]
  exact LkV.sG e1 fun _ hn => absurd (by rw [e4, hc]) hn
theorem LkV.sU {α : Type} {q : Nat} {xs ys : List α} {lo hi : Int} (hq : nth Fs q = some (.oe (cut xs lo hi) ys)) (hc : KR (asB (asC P l N fr i)) (some (xs.length, some lo, some hi))) : LkV Fs fr P B N w0 Z (.sU q) l i (asV (asC P l N fr i) ys.length) := by
 obtain ⟨p, e1, e2, e3, e4⟩ := zjZ hc.h
 rw [e1]
 exact LkV.sG e1 fun al _ => ⟨α, xs, ys, e2.symm, by rw [e3, e4]; exact zq al hq, rfl⟩
theorem Giv.ru {α : Type} {j k0 n b q sz : Nat} {T : TypeId} {cs : List Value} {enc : α -> List Value} {a : Nat -> α} {lo hi : Int} {ys : List α} {js : List Nat} {src : List Src} {Fin : List Fa} (hq : nth Fs q = some (.oe (cut (xE n a) lo hi) ys)) (hj : nth L j = some (jD b T cs)) (hcs : KR cs (cs.take k0 ++ (zby enc n a ++ cs.drop (k0 + n * sz)))) (hk : KR (Nat.ble k0 cs.length) true)
  (hz : ∀ x, KR (enc x).length sz) (hn : KR (Nat.ble n 9223372036854775807) true) (hm : KR (mem? j js) false) (m : Giv src Fs L js Fin) : Giv (.ru j k0 q :: src) Fs L js (.rd (.slice (shd (some ⟨b, k0, none⟩) n lo.toNat sz) ys.length (n - lo.toNat)) enc sz ys :: Fin) :=
 ⟨fun w0 Z w al s => ⟨Rd.part (s.arrRd j (by rw [<- zD]; exact hj) enc (fun x => (hz x).h) n a k0 hcs.h hk.h hn.h js hm.h) (zq al hq), m.g w0 Z w al s⟩⟩
structure CF (Fs : List Fa) (L : List Item) (w0 : World) (Z : List Nat) (c : Cs) (b o : Nat) (cs : List Value) : Prop where
 o : ∀ w, zbi w0 Z Fs -> St w0 Z w L -> ∀ k u, cs[k]? = some u -> w.cell? ⟨b, o + k, none⟩ = some u
theorem CF.o1 {j b : Nat} {T : TypeId} {cs : List Value} (hj : nth L j = some (jD b T cs)) : CF Fs L w0 Z (.o j) b 0 cs := ⟨fun w _ s k u hu => by
 rw [Nat.zero_add]; exact s.blk j (by rw [<- zD]; exact hj) hu⟩
theorem CF.p1 {j b : Nat} {T : TypeId} {A cs C : List Value} (hj : nth L j = some (zcb b T A cs C)) : CF Fs L w0 Z (.p j) b A.length cs := ⟨fun w _ s k u hu => s.prt j (by rw [<- zD]; exact hj) k hu⟩
theorem CF.r1 {α : Type} {j q g o sz : Nat} {T : TypeId} {v' : Value} {enc : α -> List Value} {xs xs' : List α} {t : Int} {x : α} (he : nth L j = some (jW v' T enc sz xs')) (hq : nth Fs q = some (.el v' g o t xs x)) (hxx : KR xs' xs) (hz : ∀ x, KR (enc x).length sz) : CF Fs L w0 Z (.r j q) g (o + t.toNat * sz) (enc x) :=
 ⟨fun w a s k u hu => by
  have he := he
  rw [hxx.h] at he
  obtain ⟨h1, c, h2⟩ := zq a hq
  exact s.rowc j (by rw [<- zD]; exact he) (fun x => (hz x).h) h1 h2 k u hu⟩
theorem CF.b1 {e b : Nat} {cs : List Value} (he : nth Fs e = some (.pb b cs)) : CF Fs L w0 Z (.b e) b 0 cs := ⟨fun w a s k u hu => by
 rw [Nat.zero_add]; exact RdB.cell (zq a he) s k hu⟩
structure zlh (A B : List Value) : Prop where
 e : A = B
theorem zlh.nil : zlh [] [] := ⟨rfl⟩
theorem zlh.u {A B : List Value} {u : Value} (n : zlh A B) : zlh (u :: A) (u :: B) := ⟨by rw [n.e]⟩
theorem zlh.k {A B : List Value} {u v : Value} (h : KR u v) (n : zlh A B) : zlh (u :: A) (v :: B) := ⟨by rw [h.h, n.e]⟩
theorem Giv.bj {j b : Nat} {T : TypeId} {cs cs' : List Value} {js : List Nat} {src : List Src} {Fin : List Fa} (hj : nth L j = some (jD b T cs)) (hV : zlh cs cs') (hm : KR (mem? j js) false) (m : Giv src Fs L js Fin) : Giv (.bj j :: src) Fs L js (.pb b cs' :: Fin) :=
 ⟨fun w0 Z w al s => ⟨by
  rw [<- hV.e]
  exact s.rdB j (by rw [<- zD]; exact hj) js hm.h, m.g w0 Z w al s⟩⟩
theorem Cel.cc {c : Cs} {b o k : Nat} {cs : List Value} (hC : CF Fs L w0 Z c b o cs) (hv : nth cs k = some v) : Cel Fs L w0 Z (.cc c k) ⟨b, o + k, none⟩ v := ⟨fun w a s => hC.o w a s k v (by rw [<- zD]; exact hv)⟩
theorem CF.arr {α : Type} {c : Cs} {b o e k0 n sz x : Nat} {enc : α -> List Value} {cs : List Value} {a : Nat -> α} {t : Int} (hC : CF Fs L w0 Z c b o cs) (hq : nth Fs e = some (.oe (ain n t) x))
  (hcs : KR cs (cs.take k0 ++ (zby enc n a ++ cs.drop (k0 + n * sz)))) (hk : KR (Nat.ble k0 cs.length) true) (hz : ∀ x, KR (enc x).length sz) : CF Fs L w0 Z c b (o + k0 + t.toNat * sz) (enc (a x)) :=
 ⟨fun w al s k u hu => zjV (fun f u hf => hC.o w al s f u hf) enc (fun x => (hz x).h) n a k0 hcs.h hk.h (zq al hq) k u hu⟩
theorem Cel.ca {α : Type} {c : Cs} {b o e k0 ff n sz x : Nat} {enc : α -> List Value} {cs : List Value} {a : Nat -> α} {t : Int} {u : Value} (hC : CF Fs L w0 Z c b o cs) (hq : nth Fs e = some (.oe (ain n t) x)) (hu : nth cs k0 = some u) (ha : nth (enc (a 0)) 0 = some u)
  (hcs : KR cs (cs.take k0 ++ (zby enc n a ++ cs.drop (k0 + n * sz)))) (hk : KR (Nat.ble k0 cs.length) true) (hz : ∀ x, KR (enc x).length sz) (hv : nth (enc (a x)) ff = some v) : Cel Fs L w0 Z (.ca c e k0 ff sz enc) ⟨b, o + k0 + t.toNat * sz + ff, none⟩ v :=
 ⟨fun w al s => (CF.arr hC hq hcs hk hz).o w al s ff v (by rw [<- zD]; exact hv)⟩
theorem ziq.cA {α : Type} {c : Cs} {b o e k0 ff n m sz x : Nat} {enc : α -> List Value} {cs us : List Value} {a : Nat -> α} {t : Int} {u : Value} (hC : CF Fs L w0 Z c b o cs) (hq : nth Fs e = some (.oe (ain n t) x)) (hu : nth cs k0 = some u) (ha : nth (enc (a 0)) 0 = some u)
  (hcs : KR cs (cs.take k0 ++ (zby enc n a ++ cs.drop (k0 + n * sz)))) (hk : KR (Nat.ble k0 cs.length) true) (hz : ∀ x, KR (enc x).length sz) (hv : znA (enc (a x)) ff m = some us) : ziq Fs L w0 Z (.cA c e k0 ff m sz enc) b (o + k0 + t.toNat * sz + ff) us :=
 ⟨fun w al s j u hj => by
  rw [Nat.add_assoc]; exact (CF.arr hC hq hcs hk hz).o w al s (ff + j) u ((zeB hv).2 j u hj)⟩
def zoX {α : Type} (enc : α -> List Value) : Nat -> (Nat -> α) -> List Value -> Option (List Value)
 | 0, _, C => some C
 | n + 1, a, C => match zoX enc n (fun i => a (i + 1)) C with
  | some q => zga (enc (a 0)) q
  | none => none
theorem zjh {α : Type} {enc : α -> List Value} : ∀ {n : Nat} {a : Nat -> α} {C q : List Value}, zoX enc n a C = some q -> q = zby enc n a ++ C
 | 0, _, _, _, h => by cases h; rfl
 | n + 1, a, C, q, h => by
  unfold zoX at h
  split at h
  ·rename_i e
   rw [zbC h, zjh e, zby, List.append_assoc]
  ·cases h
def zli {α : Type} : List α -> Nat -> Option (List α)
 | l, 0 => some l
 | [], _ + 1 => none
 | _ :: r, n + 1 => zli r n
theorem zhM {α : Type} : ∀ {l q : List α} {n : Nat}, zli l n = some q -> q = l.drop n
 | l, q, 0, h => by cases l <;> (cases h; rfl)
 | [], _, _ + 1, h => by cases h
 | _ :: r, q, n + 1, h => by rw [List.drop_succ_cons]; exact zhM h
theorem zhN {α : Type} : ∀ {l q : List α} {n : Nat}, zhn l n = some q -> q = l.take n
 | l, q, 0, h => by cases l <;> (cases h; rfl)
 | [], _, _ + 1, h => by cases h
 | x :: r, q, n + 1, h => by
  unfold zhn at h
  split at h
  ·rename_i e; cases h; rw [List.take_succ_cons, zhN e]
  ·cases h
theorem zeD {k m : Nat} {b : Nat} {us : List Value} (hc : stC P l fr i m = some ⟨b, k, none⟩) (hw : zcg (stV l fr i) = some us) (hm : us.length = m) :
  ∃ t x y ty pos af g u, vU l i = some ⟨none, .store t x y, ty, pos, af, g⟩ /\ gd l fr ⟨none, .store t x y, ty, pos, af, g⟩ = some true /\ look fr x = some (.pointer (some ⟨b, k, none⟩)) /\ look fr y = some u /\ u.cells.toList = us /\ zbk P (sizeOf t) = some u.cells.toList.length := by
 obtain ⟨u, hu, hcs⟩ := zd7 hw
 unfold stC at hc
 unfold stV at hu
 split at hc
 ·rename_i t x' y' ty pos af g hl
  rw [hl] at hu
  simp only at hu
  split at hc
  ·rename_i a' m' hg hx hz
   split at hc
   ·rename_i hb
    have e1 := Nat.eq_of_beq_eq_true hb
    cases hc
    exact ⟨_, _, _, _, _, _, _, u, hl, hg, hx, hu, hcs, by rw [hcs, hz, e1, hm]⟩
   ·cases hc
  ·cases hc
 ·cases hc
theorem GO.sa {α : Type} {j e k0 ff m n sz b x : Nat} {enc : α -> List Value} {dec : List Value -> α} {T : TypeId} {cs us cs1 A C q cs' : List Value} {a : Nat -> α} {t : Int} {u : Value} {L1 : List Item} (hj : nth L j = some (jD b T cs)) (hq : nth Fs e = some (.oe (ain n t) x))
  (hu : nth cs k0 = some u) (ha : nth (enc (a 0)) 0 = some u) (hcs : KR cs (cs.take k0 ++ (zby enc n a ++ cs.drop (k0 + n * sz)))) (hk : KR (Nat.ble k0 cs.length) true) (hz : ∀ x, KR (enc x).length sz)
  (hv : zir (stV l fr i) 0 m = some us) (hw : KR (zcg (stV l fr i)) (some us)) (hs' : zb2 (enc (a x)) us ff = some cs1) (hd : KR (enc (dec cs1)) cs1) (hc : KR (stC P l fr i m) (some ⟨b, k0 + t.toNat * sz + ff, none⟩))
  (hm : KR us.length m) (h1 : KR (zfi us) true) (h0 : KR (zla us) true) (hA : zhn cs k0 = some A) (hC : zli cs (k0 + n * sz) = some C) (hN : zoX enc n (jf a x (dec cs1)) C = some q) (hQ : zga A q = some cs')
  (hL : zdw L j (jD b T cs') = some L1) (n : GO hs f r Fs L1 fr P B N w0 Z l (i + 1) Q) : GO (.sa j e k0 ff m sz enc dec :: hs) f r Fs L fr P B N w0 Z l i Q := ⟨fun w al s e => by
 obtain ⟨t, x', y', ty, pos, af, g, v, hl, hg, hx, hy, hcv, hsz⟩ := zeD hc.h hw.h hm.h
 obtain ⟨e3, e4⟩ := zaJ hs' (by intro e5; have := h0.h; rw [e5] at this; cases this)
 rw [<- hcv] at e3 e4
 refine OW.stA s j (by rw [<- zD]; exact hj) hl hg hx hy hsz (by rw [hcv]; exact h1.h) enc (fun x => (hz x).h) _ a k0 hcs.h hk.h (zq al hq) ff rfl (Nat.ble_eq_true_of_le (by rw [<- (hz (a _)).h]; exact e4)) (dec cs1) (by rw [e3, hd.h]) cs'
  (by rw [zbC hQ, zjh hN, zhN hA, zhM hC]) fun w' s' => ?_
 exact n.o w' al (by rw [xP hL]; exact s') e⟩
theorem GO.sra {α : Type} {j q e ff m cn sz sze g o x : Nat} {enc : α -> List Value} {dec : List Value -> α} {ence : (Nat -> α) -> List Value} {T : TypeId} {v' : Value} {xs xs' : List (Nat -> α)} {tt t : Int} {z : Nat -> α} {us cs1 : List Value} {L1 : List Item}
  (he : nth L j = some (jW v' T ence sze xs')) (hq : nth Fs q = some (.el v' g o tt xs z)) (hxx : KR xs' xs) (hi : nth Fs e = some (.oe (ain cn t) x)) (hE : ∀ y, KR (ence y) (zby enc cn y)) (hze : ∀ y, KR (ence y).length sze) (hz : ∀ x, KR (enc x).length sz)
  (hv : zir (stV l fr i) 0 m = some us) (hw : KR (zcg (stV l fr i)) (some us)) (hs' : zb2 (enc (z x)) us ff = some cs1) (hd : KR (enc (dec cs1)) cs1) (hc : KR (stC P l fr i m) (some ⟨g, o + tt.toNat * sze + 0 + t.toNat * sz + ff, none⟩))
  (hm : KR us.length m) (h1 : KR (zfi us) true) (h0 : KR (zla us) true) (hL : zdw L j (jW v' T ence sze (xs'.set tt.toNat (jf z x (dec cs1)))) = some L1)
  (n : GO hs f r Fs L1 fr P B N w0 Z l (i + 1) Q) : GO (.sra j q e ff m sz enc dec :: hs) f r Fs L fr P B N w0 Z l i Q := ⟨fun w al s hf => by
 obtain ⟨t', x', y', ty, pos, af, g', v, hl, hg, hx, hy, hcv, hsz⟩ := zeD hc.h hw.h hm.h
 obtain ⟨e3, e4⟩ := zaJ hs' (by intro e5; have := h0.h; rw [e5] at this; cases this)
 rw [<- hcv] at e3 e4
 have hxx := hxx.h
 subst hxx
 obtain ⟨hx1, cp, hx2⟩ := zq al hq
 have hA : ∀ y : Nat -> α, ence y = (ence z).take 0 ++ (zby enc cn y ++ (ence z).drop (0 + cn * sz)) := fun y => by
  have h5 : (ence z).drop (0 + cn * sz) = [] := List.drop_of_length_le (by rw [(hE z).h, zhJ (fun x => (hz x).h)]; omega)
  rw [h5, (hE y).h]
  simp
 refine OW.stRA s j (by rw [<- zD]; exact he) hx2 (fun x => (hze x).h) hl hg hx1 hx hy hsz (by rw [hcv]; exact h1.h) enc (fun x => (hz x).h) cn z 0 (hA z) (by cases h9 : ence z <;> rfl) (zq al hi) ff rfl (Nat.ble_eq_true_of_le (by rw [<- (hz (z x)).h]; exact e4)) (dec cs1) (by rw [e3, hd.h]) (jf z x (dec cs1)) (hA (jf z x (dec cs1))) fun w' s' => ?_
 exact n.o w' al (by rw [xP hL]; exact s') hf⟩
theorem zks {A B : List Value} (h : A.length = B.length) : qI A B 0 = B := by
 unfold qI
 rw [List.drop_of_length_le (by omega)]
 simp
theorem GO.srw {α : Type} {j q m cn sze g o : Nat} {enc : α -> List Value} {ence : (Nat -> α) -> List Value} {T : TypeId} {v' u : Value} {xs xs' : List (Nat -> α)} {tt : Int} {z a : Nat -> α} {us : List Value} {L1 : List Item}
  (he : nth L j = some (jW v' T ence sze xs')) (hq : nth Fs q = some (.el v' g o tt xs z)) (hxx : KR xs' xs) (hze : ∀ y, KR (ence y).length sze)
  (hv : zir (stV l fr i) 0 m = some us) (hu : nth us 0 = some u) (ha : nth (enc (a 0)) 0 = some u) (hcs : KR (ence a) us) (hw : KR (zcg (stV l fr i)) (some us)) (hc : KR (stC P l fr i m) (some ⟨g, o + tt.toNat * sze + 0, none⟩))
  (hm : KR us.length m) (h1 : KR (zfi us) true) (hL : zdw L j (jW v' T ence sze (xs'.set tt.toNat a)) = some L1)
  (n : GO hs f r Fs L1 fr P B N w0 Z l (i + 1) Q) : GO (.srw j q m cn enc :: hs) f r Fs L fr P B N w0 Z l i Q := ⟨fun w al s hf => by
 obtain ⟨t', x', y', ty, pos, af, g', v, hl, hg, hx, hy, hcv, hsz⟩ := zeD hc.h hw.h hm.h
 have hxx := hxx.h
 subst hxx
 obtain ⟨hx1, cp, hx2⟩ := zq al hq
 have hl1 : us.length = sze := by rw [<- hcs.h]; exact (hze a).h
 refine OW.stR s j (by rw [<- zD]; exact he) hx2 (fun x => (hze x).h) hl hg hx1 0 hx rfl hy hsz (by rw [hcv]; exact h1.h) (Nat.ble_eq_true_of_le (by rw [hcv]; omega)) a (by rw [hcv, zks (by rw [hl1]; exact (hze z).h), hcs.h]) fun w' s' => ?_
 exact n.o w' al (by rw [xP hL]; exact s') hf⟩
theorem GO.spa {α : Type} {j e k0 ff m n sz b x : Nat} {enc : α -> List Value} {dec : List Value -> α} {T : TypeId} {A' C' cs us cs1 A C q cs' : List Value} {a : Nat -> α} {t : Int} {u : Value} {L1 : List Item} (hj : nth L j = some (zcb b T A' cs C')) (hq : nth Fs e = some (.oe (ain n t) x))
  (hu : nth cs k0 = some u) (ha : nth (enc (a 0)) 0 = some u) (hcs : KR cs (cs.take k0 ++ (zby enc n a ++ cs.drop (k0 + n * sz)))) (hk : KR (Nat.ble k0 cs.length) true) (hz : ∀ x, KR (enc x).length sz)
  (hv : zir (stV l fr i) 0 m = some us) (hw : KR (zcg (stV l fr i)) (some us)) (hs' : zb2 (enc (a x)) us ff = some cs1) (hd : KR (enc (dec cs1)) cs1) (hc : KR (stC P l fr i m) (some ⟨b, A'.length + k0 + t.toNat * sz + ff, none⟩))
  (hm : KR us.length m) (h1 : KR (zfi us) true) (h0 : KR (zla us) true) (hA : zhn cs k0 = some A) (hC : zli cs (k0 + n * sz) = some C) (hN : zoX enc n (jf a x (dec cs1)) C = some q) (hQ : zga A q = some cs')
  (hL : zdw L j (zcb b T A' cs' C') = some L1) (n : GO hs f r Fs L1 fr P B N w0 Z l (i + 1) Q) : GO (.spa j e k0 ff m sz enc dec :: hs) f r Fs L fr P B N w0 Z l i Q := ⟨fun w al s e => by
 obtain ⟨t, x', y', ty, pos, af, g, v, hl, hg, hx, hy, hcv, hsz⟩ := zeD hc.h hw.h hm.h
 obtain ⟨e3, e4⟩ := zaJ hs' (by intro e5; have := h0.h; rw [e5] at this; cases this)
 rw [<- hcv] at e3 e4
 refine OW.stPA s j (by rw [<- zD]; exact hj) hl hg hx hy hsz (by rw [hcv]; exact h1.h) enc (fun x => (hz x).h) _ a k0 hcs.h hk.h (zq al hq) ff rfl (Nat.ble_eq_true_of_le (by rw [<- (hz (a _)).h]; exact e4)) (dec cs1) (by rw [e3, hd.h]) cs'
  (by rw [zbC hQ, zjh hN, zhN hA, zhM hC]) fun w' s' => ?_
 exact n.o w' al (by rw [xP hL]; exact s') e⟩
theorem Sim.part {A B : List Item} {b : Nat} {T : TypeId} {X C cs cs' : List Value} (h2 : KR cs cs') (n : Sim A B) : Sim (zcb b T X cs C :: A) (zcb b T X cs' C :: B) := ⟨by rw [h2.h, n.e]⟩
theorem Adm.pt {j k m b : Nat} {T : TypeId} {cs A M C : List Value} {L1 : List Item} (hj : nth L j = some (jD b T cs)) (hA : zhn cs k = some A) (hM : znA cs k m = some M) (hC : zli cs (k + m) = some C) (he : KR cs (A ++ (M ++ C))) (hL : zdw L j (zcb b T A M C) = some L1) :
  Adm (.pt j k m) Fs L (fun _ : Unit => L1) (fun _ => Fs) := ⟨fun w0 Z w al s => ⟨(), by
 have e : L1 = L := by
  rw [xP hL]
  unfold zcb
  rw [<- he.h]
  apply List.ext_getElem?
  intro q
  rw [List.getElem?_set]
  rw [zD] at hj
  split
  ·rename_i h1
   subst h1
   rw [hj]
   simp [(zes.1 hj).1]
  ·rfl
 rw [e]; exact s, al⟩⟩
end
end Go.Sx
namespace Go.Sx
def OK {α : Type} (o : Option α) (Q : α -> Prop) : Prop := ∃ r, o = some r /\ Q r
theorem OK.ret {α : Type} {x : α} {Q : α -> Prop} (h : Q x) : OK (some x) Q := ⟨x, rfl, h⟩
theorem OK.bind {α β : Type} {o : Option α} {f : α -> Option β} {Q : β -> Prop} (h : OK o (fun x => OK (f x) Q)) : OK (o.bind f) Q := by
 obtain ⟨x, rfl, h⟩ := h
 exact h
theorem OK.mono {α : Type} {o : Option α} {Q R : α -> Prop} (h : OK o Q) (k : ∀ x, Q x -> R x) : OK o R := by
 obtain ⟨x, rfl, h⟩ := h
 exact ⟨x, rfl, k x h⟩
theorem OK.bind2 {α β : Type} {o : Option α} {f : α -> Option β} {R : α -> Prop} {Q : β -> Prop} (h : OK o R) (k : ∀ x, R x -> OK (f x) Q) : OK (o.bind f) Q :=
 OK.bind (h.mono k)
theorem OK.ite {α : Type} {c : Bool} {A B : Option α} {Q : α -> Prop} (h1 : c = true -> OK A Q) (h2 : c = false -> OK B Q) :
  OK (if c then A else B) Q := by
 cases c with
 | true => exact h1 rfl
 | false => exact h2 rfl
theorem OK.ite_false {α : Type} {c : Bool} {A B : Option α} {Q : α -> Prop} (h : c = false) (h1 : OK B Q) : OK (if c then A else B) Q := by
 subst h; exact h1
theorem OK.get {α : Type} {xs : List α} {t : Int} {Q : α -> Prop} (h0 : 0 <= t) (h1 : t < xs.length)
  (h : ∀ x, xs[t.toNat]? = some x -> Q x) : OK (idx xs t) Q := by
 have hl : t.toNat < xs.length := by omega
 refine ⟨xs[t.toNat], ?_, h _ (zeg hl)⟩
 unfold Go.Sx.idx
 rw [if_pos h0, zeg hl]
theorem OK.getN {α : Type} {xs : List α} {i : Nat} {Q : α -> Prop} (h1 : i < xs.length)
  (h : ∀ x, xs[i]? = some x -> Q x) : OK (Go.Sx.idx xs (i : Int)) Q :=
 OK.get (by omega) (by omega) (fun x hx => h x (by simpa using hx))
theorem OK.hasRoom {m b : Nat} {Q : Unit -> Prop} (h : m * b <= 140737488355328) (k : Q ()) : OK (room m b) Q :=
 ⟨(), by unfold Go.Sx.room; rw [if_pos h], k⟩
theorem OK.mkl {n : Int} {b : Nat} {Q : Nat -> Prop} (h0 : 0 <= n) (h : n.toNat * b <= 140737488355328) (k : Q n.toNat) : OK (mkLen n b) Q :=
 ⟨n.toNat, by unfold Go.Sx.mkLen; rw [if_pos ⟨h0, h⟩], k⟩
theorem OK.count_from {σ ρ : Type} {body : Nat -> (σ -> Option ρ) -> σ -> Option ρ} {out : σ -> ρ} {N : Nat} {Q : ρ -> Prop} (I : Nat -> σ -> Prop)
    (hb : ∀ i s again, i < N -> I i s -> (∀ s', I (i + 1) s' -> OK (again s') Q) -> OK (body i again s) Q)
    (ho : ∀ s, I N s -> Q (out s)) : ∀ (n i : Nat) (s : σ), i + n = N -> I i s -> OK (qQ body out n i s) Q := by
  intro n
  induction n with
  | zero => intro i s hi h; have e : i = N := by omega
            subst e; exact OK.ret (ho s h)
  | succ n ih => intro i s hi h; exact hb i s _ (by omega) h (fun s' h' => ih (i + 1) s' (by omega) h')
theorem OK.count {σ ρ : Type} {body : Nat -> (σ -> Option ρ) -> σ -> Option ρ} {out : σ -> ρ} {N : Nat} {Q : ρ -> Prop} (I : Nat -> σ -> Prop) {s : σ}
 (h0 : I 0 s)
 (hb : ∀ i s again, i < N -> I i s -> (∀ s', I (i + 1) s' -> OK (again s') Q) -> OK (body i again s) Q)
 (ho : ∀ s, I N s -> Q (out s)) : OK (qQ body out N 0 s) Q := OK.count_from I hb ho N 0 s (by omega) h0
theorem OK.rounds {σ R : Type} {body : (σ -> Option R) -> σ -> Option R} {Q : R -> Prop} (I : σ -> Prop) (m : σ -> Nat)
  (hb : ∀ s again, I s -> (∀ s', I s' -> m s' < m s -> OK (again s') Q) -> OK (body again s) Q) :
  ∀ (fu : Nat) (s : σ), I s -> m s < fu -> OK (loop body fu s) Q := by
 intro fu
 induction fu with
 | zero => intro s _ h; omega
 | succ n ih => intro s h hm; exact hb s _ h (fun s' h' hm' => ih s' h' (by omega))
theorem OK.eq {α : Type} {o : Option α} {x : α} (h : o = some x) {Q : α -> Prop} (k : Q x) : OK o Q := ⟨x, h, k⟩
theorem OK.is {α : Type} {o : Option α} {x : α} (h : OK o (fun y => y = x)) : o = some x := by
 obtain ⟨y, rfl, rfl⟩ := h
 rfl
theorem zoP {α : Type} {xs : List α} {i j : Nat} {x : α} : (xs.set i x)[j]? = if i = j then (if i < xs.length then some x else none) else xs[j]? := by
 rw [List.getElem?_set]
end Go.Sx
namespace Go.Sx
open Go.RowKit
section
variable {P : Program} {N : Nat} {Q : Exit -> Act -> World -> Prop} {fr fr' : List (Nat × Value)} {w w0 : World} {l : List Oper} {i : Nat} {o : Oper} {S0 : List Nat} {L : List Item} {α : Type} {R : Rp α} {r it : Nat} {S : List Nat} {m rem : List (Int × α)} {last : Option (Int × Value × α)}
end
end Go.Sx
namespace Go.Sx
open Go.RowKit
section
variable {P : Program} {N : Nat} {Q : Exit -> Act -> World -> Prop} {fr fr' : List (Nat × Value)} {w w0 : World} {l : List Oper} {i : Nat} {o : Oper} {S0 : List Nat} {L : List Item} {α : Type}
theorem St.toOpt {R : Rp α} {U : TypeId} {u : Value} {S : List Nat} {y : α} (h : St w0 S0 w L) (j : Nat) (hj : L[j]? = some (itI (zbl U R) [u] S y)) : St w0 S0 w (L.set j (itI (zlc U R) [u] S (some y))) := h.turn j hj (h.all j _ hj) rfl
end
section
variable {α : Type} {w w' : World} {r : Nat} {R : Rp α} {S : List Nat} {m : List (Int × α)} {ho : Option (Int × Value)} {mv : List (Int × Value)} {Ss : List (List Nat)}
end
section
variable {P : Program} {N : Nat} {Q : Exit -> Act -> World -> Prop} {fr fr' : List (Nat × Value)} {w w0 : World} {l : List Oper} {i : Nat} {o : Oper} {S0 : List Nat} {L : List Item} {α : Type} {R : Rp α} {r : Nat} {S : List Nat} {m : List (Int × α)} {ho : Option (Int × Value)}
end
end Go.Sx
namespace Go.Sx
open Go.RowKit
section
variable {α : Type} {enc : α -> List Value} {sz : Nat}
end
section
variable {P : Program} {N : Nat} {Q : Exit -> Act -> World -> Prop} {fr fr' : List (Nat × Value)} {w w0 : World} {l : List Oper} {i : Nat} {o : Oper} {S0 : List Nat} {L : List Item} {α : Type} {enc : α -> List Value} {sz : Nat}
end
end Go.Sx
namespace Go.Sx
open Go.RowKit
section
variable {P : Program} {N : Nat} {Q : Exit -> Act -> World -> Prop} {fr fr' : List (Nat × Value)} {w w0 : World} {l : List Oper} {i : Nat} {o : Oper} {S0 : List Nat} {L : List Item} {α : Type} {enc : α -> List Value} {sz : Nat}
end
end Go.Sx
namespace Go.Sx
open Go.RowKit
def zo5 {α : Type} (R : Rp α) (css : List (List Value)) (Ss : List (List Nat)) (xs : List α) : Item where
 S := Ss.flatten
 Φ w := css.length = xs.length /\ Ss.length = xs.length /\ ∀ (i : Nat) (cs : List Value) (S : List Nat) (x : α), css[i]? = some cs -> Ss[i]? = some S -> xs[i]? = some x -> R.own w cs S x
 loc w w' h hr := by
  obtain ⟨h1, h2, h5⟩ := hr
  exact ⟨h1, h2, fun i cs S x hc hS hx => R.loc w w' cs S x (fun b hb => h b (List.mem_flatten.2 ⟨S, zmg hS, hb⟩)) (h5 i cs S x hc hS hx)⟩
 lt w hr b hb := by
  obtain ⟨h1, h2, h5⟩ := hr
  obtain ⟨S, hS, hbS⟩ := List.mem_flatten.1 hb
  obtain ⟨i, hi, rfl⟩ := List.mem_iff_getElem.1 hS
  exact R.lt _ _ _ _ (h5 i css[i] Ss[i] xs[i] (zeg (by omega)) (zeg hi) (zeg (by omega))) b hbS
section
variable {P : Program} {N : Nat} {Q : Exit -> Act -> World -> Prop} {fr fr' : List (Nat × Value)} {w w0 : World} {l : List Oper} {i : Nat} {o : Oper} {S0 : List Nat} {L : List Item} {α β : Type} {A : Rp α} {B : Rp β} {hA : A.sz = 1} {hB : B.sz = 1} {v u : Value} {S : List Nat}
def looks (fr : List (Nat × Value)) : List Operand -> Option (List Value)
 | [] => some []
 | x :: r => match look fr x, looks fr r with
  | some v, some vs => some (v :: vs)
  | _, _ => none
theorem St.nOf {T : TypeId} {R : Rp α} {v : Value} {sz : Nat} {css : List (List Value)} {Ss : List (List Nat)} {xs : List α} (h : St w0 S0 w L) (k j : Nat) (hkj : Nat.beq k j = false) (hs : sz = R.sz) (hk : L[k]? = some (jW v T (fit sz) sz css)) (hj : L[j]? = some (zo5 R css Ss xs)) : ∃ S', St w0 S0 w ((L.set k (nI T R v S' xs none)).set j zdr) := by
 subst hs
 obtain ⟨b1, b2, b5⟩ := h.all j _ hj
 have hrow := h.all k _ hk
 have hd : ∀ b ∈ (za0 v).toList, b ∉ Ss.flatten := h.apart k j _ _ (Nat.ne_of_beq_eq_false hkj) hk hj
 have hn : Ss.flatten.Nodup := h.nd j _ hj
 have hnd : ((za0 v).toList ++ Ss.flatten).Nodup := List.nodup_append.2 ⟨zbh, hn, fun a ha b hb e => by subst e; exact hd a ha hb⟩
 refine ⟨_, h.fuse k j hkj hk hj (C := nI T R v ((za0 v).toList ++ Ss.flatten) xs none) ⟨css, Ss, ⟨?_, b1, b2, rfl, hnd, (fun _ _ e => by cases e), fun i c S' z _ hc hS hz => b5 i c S' z hc hS hz⟩⟩ hnd (fun b hb => List.mem_append.1 hb)⟩
 rw [<- b1]
 exact hrow
end
end Go.Sx
namespace Go.Sx
open Go.RowKit
section
variable {α : Type} {w w' : World} {T : TypeId} {R : Rp α} {v : Value} {S : List Nat} {xs : List α} {ho : Option (Nat × List Value)} {css : List (List Value)} {Ss : List (List Nat)}
theorem zgz.appH {v' : Value} {v2 : Value} {S2 : List Nat} {ys : List α} {css2 : List (List Value)} {Ss2 : List (List Nat)} {t : Nat} {cs0 : List Value} (h : zgz w T R v S xs none css Ss) (h2 : zgz w T R v2 S2 ys (some (t, cs0)) css2 Ss2) (hd : ∀ b ∈ S, b ∉ S2)
  (hw : ∀ b ∈ Ss.flatten ++ Ss2.flatten, w'.heap[b]? = w.heap[b]?) (hat : za0 v' = za0 v \/ za0 v' = some w.heap.size) (hrow : zev w' T R.sz v' (xs.length + ys.length) (za3 (fit R.sz) css ++ za3 (fit R.sz) css2)) :
  zgz w' T R v' ((za0 v').toList ++ (Ss ++ Ss2).flatten) (xs ++ ys) (some (xs.length + t, cs0)) (css ++ css2) (Ss ++ Ss2) := by
 have hn := h.nd
 rw [h.hS] at hn
 obtain ⟨n1, n2, n3⟩ := List.nodup_append.1 hn
 have hn2 := h2.nd
 rw [h2.hS] at hn2
 obtain ⟨m1, m2, m3⟩ := List.nodup_append.1 hn2
 have lc := h.lc
 have ls := h.ls
 have lc2 := h2.lc
 have ls2 := h2.ls
 refine ⟨by rw [zfh, List.length_append]; exact hrow, by simp; omega, by simp; omega, rfl, ?_, (fun t' cs' e => ?_), fun i c S' z gho g2 g3 g4 => ?_⟩
 ·rw [List.flatten_append]
  refine List.nodup_append.2 ⟨zbh, List.nodup_append.2 ⟨n2, m2, fun a ha b hb e => ?_⟩, fun a ha b hb e => ?_⟩
  ·subst e; exact hd a (by rw [h.hS]; exact zar _ ha) (by rw [h2.hS]; exact zar _ hb)
  ·subst e
   rcases hat with hat | hat
   ·rw [hat] at ha
    rcases List.mem_append.1 hb with hb | hb
    ·exact n3 a ha a hb rfl
    ·exact hd a (by rw [h.hS]; exact zal _ ha) (by rw [h2.hS]; exact zar _ hb)
   ·rw [hat] at ha
    simp at ha
    have hlt : a < w.heap.size := by
     rcases List.mem_append.1 hb with hb | hb
     ·exact h.lt a (by rw [h.hS]; exact zar _ hb)
     ·exact h2.lt a (by rw [h2.hS]; exact zar _ hb)
    omega
 ·simp only [Option.some.injEq, Prod.mk.injEq] at e
  obtain ⟨rfl, rfl⟩ := e
  obtain ⟨q1, q2, q3⟩ := h2.out t cs0 rfl
  refine ⟨q1, ?_, ?_⟩
  ·rw [List.getElem?_append_right (by omega), show xs.length + t - css.length = t by omega]; exact q2
  ·rw [List.getElem?_append_right (by omega), show xs.length + t - Ss.length = t by omega]; exact q3
 ·rcases vD g2 with ⟨l1, g2⟩ | ⟨l1, g2⟩
  ·rcases vD g3 with ⟨l2, g3⟩ | ⟨l2, g3⟩
   ·rcases vD g4 with ⟨l3, g4⟩ | ⟨l3, g4⟩
    ·exact R.loc w w' c S' z (fun b hb => hw b (zal _ (List.mem_flatten.2 ⟨S', zmg g3, hb⟩))) (h.own i c S' z (by simp) g2 g3 g4)
    ·omega
   ·omega
  ·rcases vD g3 with ⟨l2, g3⟩ | ⟨l2, g3⟩
   ·omega
   ·rcases vD g4 with ⟨l3, g4⟩ | ⟨l3, g4⟩
    ·omega
    ·rw [show i - Ss.length = i - css.length by omega] at g3
     rw [show i - xs.length = i - css.length by omega] at g4
     exact R.loc w w' c S' z (fun b hb => hw b (zar _ (List.mem_flatten.2 ⟨S', zmg g3, hb⟩))) (h2.own (i - css.length) c S' z (fun c' e => by simp only [Option.some.injEq, Prod.mk.injEq] at e; exact gho cs0 (by rw [e.1, show xs.length + (i - css.length) = i by omega])) g2 g3 g4)
end
section
variable {P : Program} {N : Nat} {Q : Exit -> Act -> World -> Prop} {fr fr' : List (Nat × Value)} {w w0 : World} {l : List Oper} {i : Nat} {o : Oper} {S0 : List Nat} {L : List Item} {α : Type} {R : Rp α}
theorem OW.appNH {d t e : Nat} {x y : Operand} {ty : TypeId} {pos : String} {af : Array Edge} {gdd : Option (Nat × Bool)} {ats : List Nat} (hst : St w0 S0 w L) (k j : Nat) (hkj : Nat.beq k j = false) {v v2 : Value} {S S2 : List Nat} {xs ys : List α} {bytes : Nat} {t0 : Nat} {cs0 : List Value}
  (hk : L[k]? = some (nI e R v S xs none)) (hj : L[j]? = some (nI e R v2 S2 ys (some (t0, cs0)))) (hcs0 : zfi cs0 = true)
  (hl : vU l i = some ⟨some d, .call ⟨.builtin .append, [x, y].toArray, ats.toArray⟩, ty, pos, af, gdd⟩) (ha : ats = [t, t]) (hg : gd l fr ⟨some d, .call ⟨.builtin .append, [x, y].toArray, ats.toArray⟩, ty, pos, af, gdd⟩ = some true)
  (hN : Nat.blt d N = true) (hx : look fr x = some v) (hy : look fr y = some v2) (ht : P.underlying t = some (.slice e)) (hel : zmG P e R.sz bytes) (hb : (xs.length + ys.length) * bytes <= 140737488355328) (hone : ∀ w cs S x, R.own w cs S x -> zfi cs = true)
  (h : ∀ v' S' w', St w0 S0 w' ((L.set k (nI e R v' S' (xs ++ ys) (some (xs.length + t0, cs0)))).set j zdr) -> OW P l N Q (i + 1) ((d, v') :: fr) w') : OW P l N Q i fr w := by
 subst ha
 obtain ⟨css, Ss, hr⟩ := hst.all k _ hk
 obtain ⟨css2, Ss2, hr2⟩ := hst.all j _ hj
 have hdis : ∀ b ∈ S, b ∉ S2 := hst.apart k j _ _ (Nat.ne_of_beq_eq_false hkj) hk hj
 obtain ⟨inf, z, hi, hz, hsz, hby, hzs⟩ := hel.info
 have exec : ∀ {v' : Value} {w' : World}, (Builtin.append_ #[t, t] ty #[v, v2]).run P w = .ok v' w' -> ∀ a, Rep N fr a ->
   (execOp a.eval ⟨some d, .call ⟨.builtin .append, [x, y].toArray, [t, t].toArray⟩, ty, pos, af, gdd⟩).run P w = .ok (.value v') w' := by
  intro v' w' hr a ha
  have e1 := ha.look hx
  have e2 := ha.look hy
  simp [execOp, resolve, invoke, builtin, e1, e2, hr]
 have hlk : k < L.length := (zes.1 hk).1
 have key : ∀ {v' : Value} {w' : World}, (Builtin.append_ #[t, t] ty #[v, v2]).run P w = .ok v' w' -> w.grownBy w' (za0 v) -> (za0 v' = za0 v \/ za0 v' = some w.heap.size) -> zev w' e R.sz v' (xs.length + ys.length) (za3 (fit R.sz) css ++ za3 (fit R.sz) css2) -> OW P l N Q i fr w := by
  intro v' w' hrun hgr hat hown
  have hn := hr.nd
  rw [hr.hS] at hn
  have hn3 := (List.nodup_append.1 hn).2.2
  have hchg : Chg (za0 v).toList w w' := Chg.grown hgr (fun b hb => by simp [hb])
  have happ := hr.appH (w' := w') hr2 hdis (fun b hb => hchg.block b (by
   rcases List.mem_append.1 hb with hb | hb
   ·exact hr.lt b (by rw [hr.hS]; exact zar _ hb)
   ·exact hr2.lt b (by rw [hr2.hS]; exact zar _ hb)) (fun hv => by
   rcases List.mem_append.1 hb with hb | hb
   ·exact hn3 b hv b hb rfl
   ·exact hdis b (by rw [hr.hS]; exact zal _ hv) (by rw [hr2.hS]; exact zar _ hb))) hat hown
  refine OW.op hl hg rfl hN (exec hrun) (h v' ((za0 v').toList ++ (Ss ++ Ss2).flatten) w' ?_)
  have hsub : ∀ b ∈ (za0 v).toList ++ (Ss ++ Ss2).flatten, b ∈ S \/ b ∈ S2 := fun b hb => by
   rw [List.flatten_append] at hb
   rcases List.mem_append.1 hb with hb | hb
   ·exact .inl (by rw [hr.hS]; exact zal _ hb)
   ·rcases List.mem_append.1 hb with hb | hb
    ·exact .inl (by rw [hr.hS]; exact zar _ hb)
    ·exact .inr (by rw [hr2.hS]; exact zar _ hb)
  have hnd : ((za0 v).toList ++ (Ss ++ Ss2).flatten).Nodup := by
   have hn2 := hr2.nd
   rw [hr2.hS] at hn2
   have m := List.nodup_append.1 hn2
   have n := List.nodup_append.1 hn
   rw [List.flatten_append]
   refine List.nodup_append.2 ⟨n.1, List.nodup_append.2 ⟨n.2.1, m.2.1, fun a ha b hb e => by subst e; exact hdis a (by rw [hr.hS]; exact zar _ ha) (by rw [hr2.hS]; exact zar _ hb)⟩, fun a ha b hb e => ?_⟩
   subst e
   rcases List.mem_append.1 hb with hb | hb
   ·exact hn3 a ha a hb rfl
   ·exact hdis a (by rw [hr.hS]; exact zal _ ha) (by rw [hr2.hS]; exact zar _ hb)
  let A : Item := ⟨(za0 v).toList ++ (Ss ++ Ss2).flatten, fun w1 => ∀ b ∈ (za0 v).toList ++ (Ss ++ Ss2).flatten, b < w1.heap.size, fun w1 w2 hb hh b hb2 => by
   have h1 := hh b hb2
   have h2 := hb b hb2
   rw [Array.getElem?_eq_getElem h1] at h2
   exact (Array.getElem?_eq_some_iff.1 h2).1, fun w1 hh => hh⟩
  have hA : St w0 S0 w ((L.set k A).set j zdr) := hst.fuse k j hkj hk hj (C := A) (fun b hb => by
   rcases hsub b hb with hb | hb
   ·exact hr.lt b hb
   ·exact hr2.lt b hb) hnd hsub
  have hkA : ((L.set k A).set j zdr)[k]? = some A := by
   rw [List.getElem?_set_ne (fun e => Nat.ne_of_beq_eq_false hkj e.symm), List.getElem?_set_self hlk]
  have := hA.upd k hkA (it' := nI e R v' ((za0 v').toList ++ (Ss ++ Ss2).flatten) (xs ++ ys) (some (xs.length + t0, cs0))) (hchg.mono (fun b hb => zal _ hb)) ⟨_, _, happ⟩ (fun b hb => by
   rcases List.mem_append.1 hb with hb | hb
   ·rcases hat with hat | hat
    ·exact .inl (zal _ (by rw [<- hat]; exact hb))
    ·rw [hat] at hb; simp at hb; exact .inr (by omega)
   ·exact .inl (zar _ hb)) happ.nd
  rw [List.set_comm _ _ (fun e => Nat.ne_of_beq_eq_false hkj e.symm), List.set_set] at this
  exact this
 have hlim := (hst.nlen k hk).1
 have hrow2 : Rd w [] v2 (fit R.sz) R.sz css2 := by
  have hrow := hr2.row
  rw [<- hr2.lc] at hrow
  exact zdu (fun x => zad _ x) hrow (by simp)
 obtain ⟨hn2, a2, c2, hv2, _, hc2⟩ := hrow2
 have hlc2 := hr2.lc
 rcases Nat.eq_zero_or_pos ys.length with h0 | h0
 ·have hys : ys = [] := List.eq_nil_of_length_eq_zero h0
  have hcs : css2 = [] := List.eq_nil_of_length_eq_zero (by omega)
  refine key (v' := v) (w' := w) ?_ ⟨rfl, rfl, rfl, Nat.le_refl _, fun _ _ _ => rfl⟩ (.inl rfl) ?_
  ·rw [hv2, hcs]
   exact zcz ht hel.size hr.row a2 c2
  ·rw [hcs, hys]
   simpa [za3] using hr.row
 ·obtain ⟨c0, hc0⟩ : ∃ c0, css2[0]? = some c0 := ⟨css2[0]'(by omega), zeg (by omega)⟩
  obtain ⟨u0, hu0⟩ : ∃ u0, (fit R.sz c0)[0]? = some u0 := ⟨(fit R.sz c0)[0]'(by rw [zad]; exact hel.pos), zeg (by rw [zad]; exact hel.pos)⟩
  obtain ⟨b, q, rfl, _, _⟩ := hc2 0 c0 0 u0 hc0 hu0
  have hcell : ∀ q' u, (za3 (fit R.sz) css2)[q']? = some u -> w.cell? ((⟨b, q, none⟩ : Addr).add q') = some u := by
   intro q' u hu
   rw [zbP]
   obtain ⟨t, f, x, hx, hf, hq⟩ := zdt (fun x => zad R.sz x) hel.pos hu
   obtain ⟨b', k', hb', _, hcell⟩ := hc2 t x f u hx hf
   simp only [Option.some.injEq, Addr.mk.injEq, and_true] at hb'
   obtain ⟨rfl, rfl⟩ := hb'
   rw [hq, <- Nat.add_assoc]
   exact hcell
  have hones : ∀ u ∈ za3 (fit R.sz) css2, u.oneCell' = true := by
   intro u hu
   obtain ⟨q', hq', rfl⟩ := List.mem_iff_getElem.1 hu
   obtain ⟨t, f, c, hx, hf, _⟩ := zdt (fun x => zad R.sz x) hel.pos (zeg hq')
   have ht := (zes.1 hx).1
   have l1 : t < Ss2.length := by rw [hr2.ls]; omega
   have l2 : t < ys.length := by omega
   by_cases e0 : t0 = t
   ·subst e0
    obtain ⟨q1, q2, _⟩ := hr2.out t0 cs0 rfl
    rw [q2] at hx
    cases hx
    rw [zhF q1] at hf
    exact zeK hcs0 _ (zmg hf)
   have hown := hr2.own t c Ss2[t] ys[t] (fun c' e => e0 (by simp only [Option.some.injEq, Prod.mk.injEq] at e; exact e.1)) hx (zeg l1) (zeg l2)
   rw [zhF (R.len _ _ _ _ hown)] at hf
   exact zeK (hone _ _ _ _ hown) _ (zmg hf)
  obtain ⟨v', w', hrun, hown, hgr, hat⟩ := zjT (P := P) w t ty e inf z R.sz bytes ht hi hz hsz hby hzs v xs.length (za3 (fit R.sz) css) hr.row ⟨b, q, none⟩ ys.length c2 h0 (za3 (fit R.sz) css2) (by rw [vC (fun x => zad R.sz x), hlc2]) hcell hones
   (by have := Nat.le_mul_of_pos_right (xs.length + ys.length) hel.bpos; simp only [maxLen]; omega) hb
  refine key ?_ hgr hat hown
  rw [hv2, hlc2]
  exact hrun
theorem St.nOneH {T : TypeId} {v : Value} {sz : Nat} {cs : List Value} (h : St w0 S0 w L) (k : Nat) (R : Rp α) (x : α) (hs : sz = R.sz) (hk : L[k]? = some (jW v T (fit sz) sz [cs])) (hl : cs.length = R.sz) : St w0 S0 w (L.set k (nI T R v (za0 v).toList [x] (some (0, cs)))) := by
 subst hs
 have hrow := h.all k _ hk
 refine h.turn k hk ⟨[cs], [[]], ⟨hrow, rfl, rfl, by simp, zbh, fun t c e => ?_, fun i c S' z hho hc hS hz => ?_⟩⟩ rfl
 ·simp only [Option.some.injEq, Prod.mk.injEq] at e
  obtain ⟨rfl, rfl⟩ := e
  exact ⟨hl, rfl, rfl⟩
 ·cases i with
  | zero => exact absurd (by simp at hc; rw [hc]) (hho cs)
  | succ i => simp at hc
theorem zfv (xs : List α) (x : α) : Sx.idx (xs ++ [x]) ((xs.length : Nat) : Int) = some x := by
 unfold Sx.idx
 rw [if_pos (by omega), Int.toNat_natCast, List.getElem?_append_right (by omega)]
 simp
end
def apart (a b : Int) : Option Unit := if a.toNat = b.toNat then none else some ()
theorem zmZ {a b : Int} {u : Unit} (h : apart a b = some u) : a.toNat ≠ b.toNat := by
 unfold apart at h
 split at h
 ·cases h
 ·assumption
section
variable {w w0 : World} {S0 : List Nat} {L : List Item} {β : Type}
theorem St.nview {T e : TypeId} {enc : β -> List Value} {sz : Nat} {he : ∀ x, (enc x).length = sz} {hp : 0 < sz} {S : List Nat} {xs : List (List β)} {ho : Option (Nat × List Value)} {hd : Value} (h : St w0 S0 w L) (j : Nat)
  (hj : L[j]? = some (nI T (zik e enc sz he hp) hd S xs ho)) {q : Int} {x : List β} (hx : Sx.idx xs q = some x) (hne : ∀ t c, ho = some (t, c) -> q.toNat ≠ t) {g o n cap : Nat} (hv : hd = .slice (some ⟨g, o, none⟩) n cap) :
  ∃ v, w.cell? ⟨g, o + q.toNat * 1, none⟩ = some v /\ ∀ F, (∀ b ∈ S, b ∉ F) -> Rd w F v enc sz x := by
 obtain ⟨css, Ss, hr⟩ := h.all j _ hj
 have hx2 := (qS hx).2.2
 have hl := (zes.1 hx2).1
 have a1 : q.toNat < css.length := by rw [hr.lc]; exact hl
 have a2 : q.toNat < Ss.length := by rw [hr.ls]; exact hl
 have hown := hr.own q.toNat css[q.toNat] Ss[q.toNat] x (fun c e => hne _ _ e rfl) (zeg a1) (zeg a2) hx2
 obtain ⟨v, hc, hS, hrow⟩ := hown
 refine ⟨v, ?_, fun F hF => ?_⟩
 ·have := hr.cells (zeg a1) (by rw [hc]; rfl) hv 0 v (by rw [hc]; rfl)
  exact this
 ·refine zdu he hrow (fun b hb => hF b ?_)
  rw [hr.hS]
  exact zar _ (List.mem_flatten.2 ⟨Ss[q.toNat], List.getElem_mem a2, by rw [hS]; exact hb⟩)
end
end Go.Sx
namespace Go.Sx
open Go.RowKit
section
variable {P : Program} {N : Nat} {Q : Exit -> Act -> World -> Prop} {fr fr' : List (Nat × Value)} {w w0 : World} {l : List Oper} {i : Nat} {o : Oper} {S0 : List Nat} {L : List Item} {α : Type} {R : Rp α}
end
end Go.Sx
namespace Go.Sx
open Go.RowKit
section
variable {ρ : Type} {h : LH} {hs hs' hs1 hs2 : List H} {f : Option ρ} {r : ρ} {Fs Fs' : List Fa} {L L' : List Item} {fr : Fr} {P : Program} {B : Func} {N : Nat} {w0 : World} {Z : List Nat} {c x y : Code} {Q : Exit -> Act -> World -> Prop} {l : List Oper} {i : Nat} {e : Exit} {v : Value}
theorem Giv.dn {α : Type} {e : Nat} {v' : Value} {R : Rp α} {xs : List α} {js : List Nat} {src : List Src} {Fin : List Fa} (he : nth Fs e = some (.rn v' R xs)) (hp : KR (Nat.blt 0 R.sz) true) (n : Giv src Fs L js Fin) : Giv (.dn e :: src) Fs L js (.rn v' R xs :: Fin) :=
 ⟨fun w0 Z w a s => ⟨RdN.give (by have := hp.h; simpa [Nat.blt_eq] using this) (zq a he) s js, n.g w0 Z w a s⟩⟩
theorem Giv.oN {α : Type} {j : Nat} {T : TypeId} {v' : Value} {R : Rp α} {S : List Nat} {xs xs' : List α} {js : List Nat} {src : List Src} {Fin : List Fa} (he : nth L j = some (nI T R v' S xs' none)) (hn : KR (mem? j js) false) (hxx : KR xs' xs) (n : Giv src Fs L js Fin) :
  Giv (.oN j :: src) Fs L js (.rn v' R xs :: Fin) :=
 ⟨fun w0 Z w a s => by
  have hj : L[j]? = some (nI T R v' S xs none) := by rw [<- zD, <- hxx.h]; exact he
  exact ⟨s.seeN j hj js hn.h, n.g w0 Z w a s⟩⟩
theorem GO.co {σ κ ι0 ι1 : Type} {S : Prop} {js rest : List Nat} {src : List Src} {kf : FuncId} {args : List Value} {o : Option σ} {sel : σ -> Option κ} {A : σ -> Option ρ} {Bk : σ -> κ -> Option ρ} {post0 : σ -> ι0 -> Value × List Item} {post1 : σ -> κ -> ι1 -> Value × List Item} {Fin : List Fa} {Lin Lq Bq : List Item} {L0 : σ -> ι0 -> List Item} {L1 : σ -> κ -> ι1 -> List Item} [C : HasC o S]
  (hS : S -> zoV P kf args Fin Lin o sel post0 post1) (hL : zeL L js [] = some Lq) (hM : Sim Lq Lin) (hg : Giv src Fs L js Fin) (hp : KR (pcC P l N fr i) (some (kf, args))) (hB : zeL L rest [] = some Bq) (hJ0 : ∀ x q, zga (post0 x q).2 Bq = some (L0 x q)) (hJ1 : ∀ x k q, zga (post1 x k q).2 Bq = some (L1 x k q))
  (hd : KR (zC (js ++ rest)) true) (n0 : ∀ x q, GO hs1 (A x) r Fs (L0 x q) ((dst l i, (post0 x q).1) :: fr) P B N w0 Z l (i + 1) Q) (n1 : ∀ x k q, GO hs2 (Bk x k) r Fs (L1 x k q) ((dst l i, (post1 x k q).1) :: fr) P B N w0 Z l (i + 1) Q) :
  GO (.co js src rest hs2 hs1 :: hs) (o.bind fun x => zhf (sel x) (A x) (Bk x)) r Fs L fr P B N w0 Z l i Q := ⟨fun w a s q => by
 obtain ⟨x, hx, hk⟩ := zn q
 have hp := hp.h
 unfold pcC at hp
 cases ho : okO l N fr i with
 | none => rw [ho] at hp; cases hp
 | some op =>
  rw [ho] at hp
  obtain ⟨d, hl, hg', hdd, hN⟩ := xm ho
  have e1 := xI hL
  have e2 := xI hB
  rw [hM.e] at e1
  rw [List.append_nil] at e1 e2
  subst e1 e2
  refine OW.fn hl hg' hdd hN hp ((hS C.c).h.c w x (hg.g w0 Z w a s) (s.part js (by have := hd.h; exact zbK this)) hx) ?_
  intro e w' hR
  unfold RO at hR
  cases hs : sel x with
  | none =>
   rw [hs] at hR
   obtain ⟨i', rfl, s'⟩ := hR
   refine ⟨_, rfl, ?_⟩
   have h3 := (n0 x i').o w' a (by rw [zbC (hJ0 x i')]; exact s.join hd.h s') (zk2 hk hs)
   rw [zay hl hdd] at h3
   exact h3
  | some k =>
   rw [hs] at hR
   obtain ⟨i', rfl, s'⟩ := hR
   refine ⟨_, rfl, ?_⟩
   have h3 := (n1 x k i').o w' a (by rw [zbC (hJ1 x k i')]; exact s.join hd.h s') (zk3 hk hs)
   rw [zay hl hdd] at h3
   exact h3⟩
structure zqi {σ ι : Type} (S : Prop) (P : Program) (k : FuncId) (args : List Value) (Fin : World -> List Nat -> List Fa) (L : List Item) (f : Option σ) (post : σ -> ι -> Value × List Item) : Prop where
 h : S -> ∀ wb Sb, Ctr P k args (Fin wb Sb) L f post
structure zi7 (src : List Src) (Fs : List Fa) (L : List Item) (js : List Nat) (Fin : World -> List Nat -> List Fa) : Prop where
 g : ∀ w0 Z w, zbi w0 Z Fs -> St w0 Z w L -> zbi w (fp (sel L js)) (Fin w (fp (sel L js)))
theorem zi7.nil {js : List Nat} : zi7 [] Fs L js (fun _ _ => []) := ⟨fun _ _ _ _ _ => trivial⟩
theorem zi7.b {e : Nat} {js : List Nat} {src : List Src} {Fin : World -> List Nat -> List Fa} (n : zi7 src Fs L js Fin) : zi7 (.b e :: src) Fs L js (fun wb Sb => .bo wb Sb :: Fin wb Sb) :=
 ⟨fun w0 Z w a s => ⟨Bor.refl _ _, n.g w0 Z w a s⟩⟩
theorem zi7.p {α : Type} {sr : Src} {sz : Nat} {v' : Value} {enc : α -> List Value} {xs : List α} {js : List Nat} {src : List Src} {Fin : World -> List Nat -> List Fa} (h1 : Giv [sr] Fs L js [.rd v' enc sz xs]) (n : zi7 src Fs L js Fin) :
  zi7 (sr :: src) Fs L js (fun wb Sb => .rb wb Sb v' enc sz xs :: .rd v' enc sz xs :: Fin wb Sb) :=
 ⟨fun w0 Z w a s => ⟨(h1.g w0 Z w a s).1, (h1.g w0 Z w a s).1, n.g w0 Z w a s⟩⟩
theorem zi7.t {α : Type} {e sz : Nat} {v' : Value} {enc : α -> List Value} {xs : List α} {js : List Nat} {src : List Src} {Fin : World -> List Nat -> List Fa} (h1 : Giv [.f e] Fs L js [.rd v' enc sz xs]) (n : zi7 src Fs L js Fin) :
  zi7 (.c e :: src) Fs L js (fun wb Sb => .rd v' enc sz xs :: Fin wb Sb) :=
 ⟨fun w0 Z w a s => ⟨(h1.g w0 Z w a s).1, n.g w0 Z w a s⟩⟩
theorem GO.cn {σ ι : Type} {S : Prop} {js rest : List Nat} {src : List Src} {kf : FuncId} {args : List Value} {o : Option σ} {k : σ -> Option ρ} {post : σ -> ι -> Value × List Item} {Fin : World -> List Nat -> List Fa} {Lin Lq Bq : List Item} {L1 : σ -> ι -> List Item} [C : HasC o S]
  (hS : zqi S P kf args Fin Lin o post) (hL : zeL L js [] = some Lq) (hM : Sim Lq Lin) (hg : zi7 src Fs L js Fin) (hp : KR (pcC P l N fr i) (some (kf, args))) (hB : zeL L rest [] = some Bq) (hJ : ∀ x q, zga (post x q).2 Bq = some (L1 x q))
  (hd : KR (zC (js ++ rest)) true) (n : ∀ x q, GO hs (k x) r Fs (L1 x q) ((dst l i, (post x q).1) :: fr) P B N w0 Z l (i + 1) Q) : GO (.cn js src rest :: hs) (o.bind k) r Fs L fr P B N w0 Z l i Q := ⟨fun w a s q => by
 obtain ⟨x, hx, hk⟩ := zn q
 have hp := hp.h
 unfold pcC at hp
 cases ho : okO l N fr i with
 | none => rw [ho] at hp; cases hp
 | some op =>
  rw [ho] at hp
  obtain ⟨d, hl, hg', hdd, hN⟩ := xm ho
  have e1 := xI hL
  have e2 := xI hB
  rw [hM.e] at e1
  rw [List.append_nil] at e1 e2
  subst e1 e2
  refine OW.fn hl hg' hdd hN hp ((hS.h C.c w (fp (sel L js))).c w x (hg.g w0 Z w a s) (s.part js (by have := hd.h; exact zbK this)) hx) ?_
  rintro e w' ⟨i', rfl, s'⟩
  refine ⟨_, rfl, ?_⟩
  have h3 := (n x i').o w' a (by rw [zbC (hJ x i')]; exact s.join hd.h s') hk
  rw [zay hl hdd] at h3
  exact h3⟩
end
section
variable {h : LH} {Fs Fs' : List Fa} {L L' : List Item} {w0 : World} {Z : List Nat} {v : Value}
theorem Cel.ce {e ff g o : Nat} {cs : List Value} {u : Value} (he : nth Fs e = some (.ce g o cs)) (hu : nth cs ff = some u) : Cel Fs L w0 Z (.ce e ff) ⟨g, o + ff, none⟩ u :=
 ⟨fun w a s => (zq a he : Fa.ok w0 Z (.ce g o cs)) w L s ff u (by rw [<- zD]; exact hu)⟩
theorem Cel.nh {α : Type} {j q ff n g o : Nat} {T : TypeId} {R : Rp α} {v' : Value} {S : List Nat} {xs xs' : List α} {cs : List Value} {t : Int} {x : α} {u : Value} (hj : nth L j = some (nI T R v' S xs' (some (n, cs)))) (hq : nth Fs q = some (.el v' g o t xs x)) (hn : KR n t.toNat) (hu : nth cs ff = some u) :
  Cel Fs L w0 Z (.nh j q ff) ⟨g, o + t.toNat * R.sz + ff, none⟩ u := ⟨fun w a s => by
 obtain ⟨_, c, h2⟩ := zq a hq
 have hj := hj
 rw [hn.h] at hj
 exact s.nhole j (by rw [<- zD]; exact hj) h2 ff u (by rw [<- zD]; exact hu)⟩
end
structure zlj {β ι : Type} (ks : List Nat) (A : Rp β) (vs : ι -> β -> List Value) (fcs : ι -> β -> List Fa) : Prop where
 o : ∀ w Z cs y, A.rd w Z y cs -> ∃ i, cs = vs i y /\ zbi w Z (fcs i y)
section
variable {β γ : Type}
theorem zlj.row {T : TypeId} {enc : β -> List Value} {sz : Nat} {he : ∀ x, (enc x).length = sz} {hp : 0 < sz} :
  zlj [1] (zik T enc sz he hp) (fun (i : Option Addr × Nat) y => [.slice i.1 y.length i.2]) (fun i y => [.rd (.slice i.1 y.length i.2) enc sz y]) := ⟨by
 rintro w Z cs y ⟨v, rfl, h⟩
 obtain ⟨_, a, c, rfl⟩ := Rd.len h
 exact ⟨(a, c), rfl, h, trivial⟩⟩
end
section
variable {ρ : Type} {h : LH} {hs hs' hs1 hs2 : List H} {f : Option ρ} {r : ρ} {Fs Fs' : List Fa} {L L' : List Item} {fr : Fr} {P : Program} {B : Func} {N : Nat} {w0 : World} {Z : List Nat} {c x y : Code} {Q : Exit -> Act -> World -> Prop} {l : List Oper} {i : Nat} {e : Exit} {v : Value}
theorem zpT {α ι : Type} {e : Nat} {v' : Value} {R : Rp α} {ks : List Nat} {vs : ι -> α -> List Value} {fcs : ι -> α -> List Fa} {xs : List α} {t : Int} {x : α} {Fs1 : α -> Nat -> Nat -> ι -> List Fa} (he : nth Fs e = some (.rn v' R xs)) (hO : zlj ks R vs fcs)
  (hF : ∀ x g o q, zga Fs (.el v' g o t xs x :: .ce g (o + t.toNat * R.sz) (vs q x) :: fcs q x) = some (Fs1 x g o q)) (a : zbi w0 Z Fs) (hx : idx xs t = some x) : ∃ g o q, zbi w0 Z (Fs1 x g o q) := by
 have hr : RdN w0 Z v' R.rd R.sz xs := zq a he
 obtain ⟨g, o, c, cs, hv, hd, hc⟩ := hr.formv hx
 obtain ⟨q, rfl, f1⟩ := hO.o w0 Z _ _ hd
 exact ⟨g, o, q, zgD (hF x g o q) a ⟨⟨hx, c, hv⟩, fun w' L' s' k u hu => hc k u hu w' L' s', f1⟩⟩
theorem GO.bd {α ι : Type} {e : Nat} {v' : Value} {R : Rp α} {ks : List Nat} {vs : ι -> α -> List Value} {fcs : ι -> α -> List Fa} {xs : List α} {t : Int} {k : α -> Option ρ} {Fs1 : α -> Nat -> Nat -> ι -> List Fa} (he : nth Fs e = some (.rn v' R xs)) (hO : zlj ks R vs fcs)
  (hF : ∀ x g o q, zga Fs (.el v' g o t xs x :: .ce g (o + t.toNat * R.sz) (vs q x) :: fcs q x) = some (Fs1 x g o q)) (n : ∀ x g o q, GO hs (k x) r (Fs1 x g o q) L fr P B N w0 Z l i Q) : GO (.bd e ks :: hs) ((idx xs t).bind k) r Fs L fr P B N w0 Z l i Q := ⟨fun w a s q => by
 obtain ⟨x, hx, hk⟩ := zn q
 obtain ⟨g, o, j, a'⟩ := zpT he hO hF a hx
 exact (n x g o j).o w a' s hk⟩
theorem zpU {α : Type} {w : World} {j : Nat} {T : TypeId} {R : Rp α} {S : List Nat} {ho : Option (Nat × List Value)} {v' : Value} {xs xs' : List α} {t : Int} {x : α} (he : nth L j = some (nI T R v' S xs' ho)) (hxx : KR xs' xs) (s : St w0 Z w L) (hx : idx xs t = some x) : ∃ g o, (Fa.el v' g o t xs x).ok w0 Z := by
 have he := he
 rw [hxx.h] at he
 obtain ⟨g, o, c, h1⟩ := s.nrowv j (by rw [<- zD]; exact he) hx
 exact ⟨g, o, hx, c, h1⟩
theorem GO.bn {α : Type} {j : Nat} {T : TypeId} {R : Rp α} {S : List Nat} {ho : Option (Nat × List Value)} {v' : Value} {xs xs' : List α} {t : Int} {k : α -> Option ρ} {Fs1 : α -> Nat -> Nat -> List Fa} (he : nth L j = some (nI T R v' S xs' ho)) (hxx : KR xs' xs)
  (hF : ∀ x g o, zaw Fs (.el v' g o t xs x) = some (Fs1 x g o)) (n : ∀ x g o, GO hs (k x) r (Fs1 x g o) L fr P B N w0 Z l i Q) : GO (.bn j :: hs) ((idx xs t).bind k) r Fs L fr P B N w0 Z l i Q := ⟨fun w a s q => by
 obtain ⟨x, hx, hk⟩ := zn q
 obtain ⟨g, o, h1⟩ := zpU he hxx s hx
 exact (n x g o).o w (jX a h1 (hF x g o)) s hk⟩
end
theorem St.spread {w0 w : World} {Z : List Nat} {L B : List Item} {A : Item} (h : St w0 Z w (L ++ [A])) (hB : vR w A.S B) : St w0 Z w (L ++ B) := by
 have hA : (L ++ [A])[L.length]? = some A := by simp
 refine h.repart (fun i it hi => ?_) (fun i j a b hij hi hj => ?_)
 ·rcases vD hi with ⟨h1, h2⟩ | ⟨h1, h2⟩
  ·have h3 : (L ++ [A])[i]? = some it := by rw [List.getElem?_append_left h1]; exact h2
   exact ⟨h.all i it h3, h.nd i it h3, fun x hx => vW.2 ⟨i, it, h3, hx⟩⟩
  ·obtain ⟨p, q, t⟩ := hB.1 _ _ h2
   exact ⟨p, q, fun x hx => vW.2 ⟨L.length, A, hA, t x hx⟩⟩
 ·have key : ∀ (i : Nat) (a : Item), i < L.length -> L[i]? = some a -> ∀ x ∈ a.S, x ∉ A.S := fun i a h1 h2 x hx => by
   have h3 : (L ++ [A])[i]? = some a := by rw [List.getElem?_append_left h1]; exact h2
   exact h.apart i L.length a A (by omega) h3 hA x hx
  intro x hx hy
  rcases vD hi with ⟨h1, h2⟩ | ⟨h1, h2⟩ <;> rcases vD hj with ⟨h3, h4⟩ | ⟨h3, h4⟩
  ·exact h.apart i j a b hij (by rw [List.getElem?_append_left h1]; exact h2) (by rw [List.getElem?_append_left h3]; exact h4) x hx hy
  ·exact key i a h1 h2 x hx ((hB.1 _ _ h4).2.2 x hy)
  ·exact key j b h3 h4 x hy ((hB.1 _ _ h2).2.2 x hx)
  ·exact hB.2 _ _ a b (by omega) h2 h4 x hx hy
section
variable {β γ : Type} {q : Nat} {Fs : List Fa} {L : List Item}
end
section
variable {ρ : Type} {h : LH} {hs hs' hs1 hs2 : List H} {f : Option ρ} {r : ρ} {Fs Fs' : List Fa} {L L' : List Item} {fr : Fr} {P : Program} {B : Func} {N : Nat} {w0 : World} {Z : List Nat} {c x y : Code} {Q : Exit -> Act -> World -> Prop} {l : List Oper} {i : Nat} {e : Exit} {v : Value}
theorem zpV {a b : Nat} (h : a ≠ b) : Nat.beq a b = false := by
 cases hb : Nat.beq a b with
 | false => rfl
 | true => exact absurd (Nat.eq_of_beq_eq_true hb) h
theorem zlk {α : Type} {L : List α} {j : Nat} {x y : α} {B : List α} (h : L[j]? = some y) : (L ++ B).set j x = L.set j x ++ B := by
 rw [List.set_append_left]
 exact (zes.1 h).1
theorem Adm.no {α ι : Type} {j q e g o : Nat} {ks : List Nat} {T : TypeId} {R : Rp α} {v' : Value} {S : List Nat} {xs xs' : List α} {t : Int} {x : α} {vs : ι -> α -> List Value} {its : ι -> α -> List Item} {fcs : ι -> α -> List Fa} {Lq L1 : ι × List Nat -> List Item} {Fs1 : ι × List Nat -> List Fa}
  (hq : nth Fs q = some (.el v' g o t xs x)) (hj : nth L j = some (nI T R v' S xs' none)) (hxx : KR xs' xs) (hO : zcD ks e Fs R vs its fcs) (hN : ∀ p, zdw L j (nI T R v' p.2 xs' (some (t.toNat, vs p.1 x))) = some (Lq p)) (hA : ∀ p, zga (Lq p) (its p.1 x) = some (L1 p)) (hF : ∀ p, zga Fs (fcs p.1 x) = some (Fs1 p)) :
  Adm (.no j q e ks) Fs L L1 Fs1 := ⟨fun w0 Z w a s => by
 obtain ⟨hx, c, hv⟩ := zq a hq
 have hxx := hxx.h
 subst hxx
 have hj' : L[j]? = some (nI T R v' S xs' none) := by rw [<- zD]; exact hj
 obtain ⟨cs, S1, S2, hl, hce, s2⟩ := s.nout j hj' hx hv
 have ho : R.own w cs S2 x := s2.all L.length (itI R cs S2 x) (by simp)
 obtain ⟨k, rfl, hp, hf⟩ := hO.o w0 Z w _ _ _ a ho
 refine ⟨(k, S1), ?_, zgD (hF (k, S1)) a hf⟩
 rw [zbC (hA (k, S1)), xP (hN (k, S1))]
 exact s2.spread hp⟩
theorem zhv {α : Type} {ks : List Pa} {js rest : List Nat} {R : Rp α} {vs : List Value} {y : α} {Lr : List Item} (hS : vE ks Fs L R js vs y) (hr : zeL L rest [] = some Lr) (hd : zC (js ++ rest) = true) {w : World} (a : zbi w0 Z Fs) (s : St w0 Z w L) : ∃ S, St w0 Z w (Lr ++ [itI R vs S y]) := by
 obtain ⟨S, o1, n1, f1⟩ := hS.o w0 Z w (zbK hd) a s
 have := xI hr
 rw [List.append_nil] at this
 subst this
 exact ⟨S, s.gather js rest hd (C := itI R vs S y) o1 n1 f1⟩
theorem zix {w : World} {A : Item} (h : St w0 Z w (L ++ [A])) : St w0 Z w L := by
 have := h.spread (B := []) vR.nil
 simpa using this
theorem Adm.nb0 {α : Type} {k q g o n : Nat} {rest js : List Nat} {ks : List Pa} {T : TypeId} {R : Rp α} {v' v'' : Value} {S : List Nat} {xs xs' : List α} {t : Int} {x y : α} {cs vs : List Value} {Lr : List Item} {L1 : List Nat -> List Item}
  (hq : nth Fs q = some (.el v'' g o t xs x)) (hr : zeL L rest [] = some Lr) (hk : nth Lr k = some (nI T R v' S xs' (some (n, cs)))) (hS : vE ks Fs L R js vs y) (hxx : KR xs' xs) (hn : KR n t.toNat) (hc : KR cs vs) (hy : KR y x) (hd : KR (zC (js ++ rest)) true)
  (hL : ∀ S', zdw Lr k (nI T R v' S' xs' none) = some (L1 S')) : Adm (.nb0 k q rest ks) Fs L L1 (fun _ => Fs) := ⟨fun w0 Z w a s => by
 obtain ⟨hx, _⟩ := zq a hq
 obtain ⟨S2, s2⟩ := zhv hS hr hd.h a s
 have hk' : Lr[k]? = some (nI T R v' S xs' (some (n, cs))) := by rw [<- zD]; exact hk
 have hlt : k < Lr.length := (zes.1 hk').1
 obtain ⟨S', s3⟩ := s2.nback0 k Lr.length (S2 := S2) (zpV (Nat.ne_of_lt hlt)) (t := t) (cs := vs) (x := y) (by rw [List.getElem?_append_left hlt, hk', hn.h, hc.h]) (by simp) (by rw [hxx.h, hy.h]; exact hx)
 refine ⟨S', ?_, a⟩
 rw [xP (hL S')]
 rw [zlk hk', List.set_append_right _ _ (by simp)] at s3
 simp at s3
 exact zix s3⟩
theorem GO.snG {α : Type} {hh : H} {k q m g o : Nat} {rest js : List Nat} {ks : List Pa} {T : TypeId} {R : Rp α} {v' : Value} {S : List Nat} {xs xs' : List α} {ho : Option (Nat × List Value)} {t : Int} {x y : α} {vs : List Value} {Lr : List Item} {L1 : List Nat -> List Item}
  (hho : ∀ i c, ho = some (i, c) -> i = t.toNat) (hq : nth Fs q = some (.el v' g o t xs x)) (hr : zeL L rest [] = some Lr) (hk : nth Lr k = some (nI T R v' S xs' ho)) (hS : vE ks Fs L R js vs y) (hxx : KR xs' xs) (hm : KR vs.length m) (h1 : KR (zfi vs) true)
  (hw : KR (zcg (stV l fr i)) (some vs)) (hc : KR (stC P l fr i m) (some ⟨g, o + t.toNat * R.sz, none⟩)) (hd : KR (zC (js ++ rest)) true) (hL : ∀ S', zdw Lr k (nI T R v' S' (xs'.set t.toNat y) none) = some (L1 S'))
  (n : ∀ S', GO hs f r Fs (L1 S') fr P B N w0 Z l (i + 1) Q) : GO (hh :: hs) f r Fs L fr P B N w0 Z l i Q := ⟨fun w a s e => by
 obtain ⟨hx, cp, hv⟩ := zq a hq
 have hxx := hxx.h
 subst hxx
 obtain ⟨S2, s2⟩ := zhv hS hr hd.h a s
 have hk' : Lr[k]? = some (nI T R v' S xs' ho) := by rw [<- zD]; exact hk
 have hlt : k < Lr.length := (zes.1 hk').1
 obtain ⟨t', x', y', ty, pos, af, g', u, hl, hg, hxl, hyl, hcv, hsz⟩ := zeD hc.h hw.h hm.h
 refine OW.stN (S2 := S2) (u := y) (cs := vs) s2 k Lr.length (zpV (Nat.ne_of_lt hlt)) (by rw [List.getElem?_append_left hlt, hk']) hho (by simp) hv hl hg hx hxl rfl hyl hcv hsz (by rw [hcv]; exact h1.h) fun S' w' s3 => ?_
 rw [zlk hk', List.set_append_right _ _ (by simp)] at s3
 simp at s3
 exact (n S').o w' a (by rw [xP (hL S')]; exact zix s3) e⟩
theorem GO.sm {α : Type} {k q m g o n' : Nat} {rest js : List Nat} {ks : List Pa} {T : TypeId} {R : Rp α} {v' : Value} {S : List Nat} {xs xs' : List α} {cs : List Value} {t : Int} {x y : α} {vs : List Value} {Lr : List Item} {L1 : List Nat -> List Item}
 (hq : nth Fs q = some (.el v' g o t xs x)) (hr : zeL L rest [] = some Lr) (hk : nth Lr k = some (nI T R v' S xs' (some (n', cs)))) (hn : KR n' t.toNat) (hS : vE ks Fs L R js vs y) (hxx : KR xs' xs) (hm : vs.length = m) (h1 : KR (zfi vs) true)
 (hw : KR (zcg (stV l fr i)) (some vs)) (hc : KR (stC P l fr i m) (some ⟨g, o + t.toNat * R.sz, none⟩)) (hd : KR (zC (js ++ rest)) true) (hL : ∀ S', zdw Lr k (nI T R v' S' (xs'.set t.toNat y) none) = some (L1 S'))
 (n : ∀ S', GO hs f r Fs (L1 S') fr P B N w0 Z l (i + 1) Q) : GO (.sm k q rest ks :: hs) f r Fs L fr P B N w0 Z l i Q := GO.snG (fun _ _ e => by cases e; exact hn.h) hq hr hk hS hxx ⟨hm⟩ h1 hw hc hd hL n
end
end Go.Sx
