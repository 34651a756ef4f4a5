/- Maps with integer keys: what they hold is a list of pairs, in the order of coming in. -/
import Derived.Test.YtpchniebplpboaaOpen
import Derived.Maps.RangeRun
set_option linter.unusedVariables false
set_option linter.unusedSimpArgs false
namespace Go.Sx
open Go.RowKit

def mget {α : Type} : List (Int × α) → Int → Option α
  | [], _ => none
  | p :: r, k => if p.1 == k then some p.2 else mget r k
def mput {α : Type} : List (Int × α) → Int → α → List (Int × α)
  | [], k, x => [(k, x)]
  | p :: r, k, x => if p.1 == k then (k, x) :: r else p :: mput r k x
def mdel {α : Type} : List (Int × α) → Int → List (Int × α)
  | [], _ => []
  | p :: r, k => if p.1 == k then r else p :: mdel r k
def mpos {α : Type} : List (Int × α) → Int → Option Nat
  | [], _ => none
  | p :: r, k => if p.1 == k then some 0 else (mpos r k).map (· + 1)

def entOf {α : Type} (val : α → Value) (p : Int × α) : Value × Value := (.int .i64 p.1, val p.2)
structure Ents {α : Type} (val : α → Value) (m : List (Int × α)) (A : List MapEntry) (clock : Nat) : Prop where
  eq : A.map (fun e => (e.key, e.val)) = m.map (entOf val)
  born : A.Pairwise (fun a b => a.born < b.born)
  lt : ∀ e ∈ A, e.born < clock
def mapI {α : Type} (r : Nat) (val : α → Value) (m : List (Int × α)) : Item where
  S := [r]
  Φ w := ∃ A clock, w.heap[r]? = some (.map A clock) ∧ Ents val m A.toList clock
  loc w w' h hb := by
    obtain ⟨A, c, h1, h2⟩ := hb
    exact ⟨A, c, by rw [h r (by simp)]; exact h1, h2⟩
  lt w h x hx := by
    obtain ⟨A, c, h1, h2⟩ := h
    simp only [List.mem_singleton] at hx
    subst hx
    exact (Array.getElem?_eq_some_iff.1 h1).1

section
variable {α : Type} {val : α → Value}
theorem Ents.cons {p : Int × α} {m : List (Int × α)} {A : List MapEntry} {clock : Nat} (h : Ents val (p :: m) A clock) : ∃ e B, A = e :: B ∧ e.key = .int .i64 p.1 ∧ e.val = val p.2 ∧ Ents val m B clock := by
  obtain ⟨h1, h2, h3⟩ := h
  cases A with
  | nil => simp at h1
  | cons e B =>
    simp only [List.map_cons, List.cons.injEq, entOf, Prod.mk.injEq] at h1
    exact ⟨e, B, rfl, h1.1.1, h1.1.2, h1.2, (List.pairwise_cons.1 h2).2, fun x hx => h3 x (List.mem_cons_of_mem _ hx)⟩
theorem Ents.nil {A : List MapEntry} {clock : Nat} (h : Ents val ([] : List (Int × α)) A clock) : A = [] := by
  have := h.eq
  simpa using this
theorem findNow_ents {kd : IntKind} {k : Int} : ∀ {m : List (Int × α)} {A : List MapEntry} {clock i : Nat}, Ents val m A clock → Instr.findNow (.int kd) (.int .i64 k) A i = some ((mpos m k).bind fun j => (mget m k).map fun x => (i + j, val x)) := by
  intro m
  induction m with
  | nil => intro A clock i h; rw [h.nil]; rfl
  | cons p m ih =>
    intro A clock i h
    obtain ⟨e, B, rfl, h1, h2, h3⟩ := h.cons
    unfold Instr.findNow
    rw [h1]
    have hs : Instr.sameNow (.int kd) (.int .i64 k) (.int .i64 p.1) = some (k == p.1) := by simp [Instr.sameNow]
    rw [hs]
    by_cases e1 : k = p.1
    · have e2 : (k == p.1) = true := by simpa using e1
      have e3 : (p.1 == k) = true := by simpa using e1.symm
      simp only [e2, mpos, mget, e3, if_true, h2]
      simp
    · have e2 : (k == p.1) = false := by simpa using e1
      have e3 : (p.1 == k) = false := by simpa using fun h => e1 h.symm
      simp only [e2, mpos, mget, e3, if_false, Bool.false_eq_true]
      rw [ih h3]
      congr 1
      cases mpos m k with
      | none => rfl
      | some j => cases mget m k with
        | none => rfl
        | some x => simp; omega
theorem mpos_mget {m : List (Int × α)} {k : Int} : (mpos m k = none ↔ mget m k = none) := by
  induction m with
  | nil => simp [mpos, mget]
  | cons p m ih =>
    unfold mpos mget
    split
    · simp
    · simp [ih]
theorem mpos_get {m : List (Int × α)} {k : Int} {x : α} (h : mget m k = some x) : ∃ j, mpos m k = some j ∧ m[j]? = some (k, x) := by
  induction m with
  | nil => cases h
  | cons p m ih =>
    unfold mget at h
    unfold mpos
    split at h
    · rename_i hp
      cases h
      refine ⟨0, by simp [hp], ?_⟩
      have : p.1 = k := by simpa using hp
      subst this
      rfl
    · rename_i hp
      obtain ⟨j, h1, h2⟩ := ih h
      exact ⟨j + 1, by simp [hp, h1], by simpa using h2⟩
theorem mput_none {m : List (Int × α)} {k : Int} {x : α} (h : mget m k = none) : mput m k x = m ++ [(k, x)] := by
  induction m with
  | nil => rfl
  | cons p m ih =>
    unfold mget at h
    unfold mput
    split at h
    · cases h
    · rename_i hp
      simp [hp, ih h]
theorem mput_some {m : List (Int × α)} {k : Int} {x : α} {j : Nat} (h : mpos m k = some j) : mput m k x = m.set j (k, x) := by
  induction m generalizing j with
  | nil => cases h
  | cons p m ih =>
    unfold mpos at h
    unfold mput
    split at h
    · rename_i hp; cases h; simp [hp]
    · rename_i hp
      cases hq : mpos m k with
      | none => rw [hq] at h; cases h
      | some q =>
        rw [hq] at h
        cases h
        simp [hp, ih hq]
theorem mdel_some {m : List (Int × α)} {k : Int} {j : Nat} (h : mpos m k = some j) : mdel m k = m.eraseIdx j := by
  induction m generalizing j with
  | nil => cases h
  | cons p m ih =>
    unfold mpos at h
    unfold mdel
    split at h
    · rename_i hp; cases h; simp [hp]
    · rename_i hp
      cases hq : mpos m k with
      | none => rw [hq] at h; cases h
      | some q =>
        rw [hq] at h
        cases h
        simp [hp, ih hq]
theorem mdel_none {m : List (Int × α)} {k : Int} (h : mget m k = none) : mdel m k = m := by
  induction m with
  | nil => rfl
  | cons p m ih =>
    unfold mget at h
    unfold mdel
    split at h
    · cases h
    · rename_i hp
      simp [hp, ih h]
theorem Ents.len {m : List (Int × α)} {A : List MapEntry} {clock : Nat} (h : Ents val m A clock) : A.length = m.length := by
  have := congrArg List.length h.eq
  simpa using this
theorem Ents.set {m : List (Int × α)} {A : List MapEntry} {clock j : Nat} {k : Int} {x : α} {e : MapEntry} (h : Ents val m A clock) (he : A[j]? = some e) : Ents val (m.set j (k, x)) (A.set j { e with key := .int .i64 k, val := val x }) clock := by
  refine ⟨?_, ?_, fun y hy => ?_⟩
  · rw [List.map_set, List.map_set, h.eq]; rfl
  · have hb := h.born
    rw [List.pairwise_iff_getElem] at hb ⊢
    intro a b ha hb2 hab
    rw [List.length_set] at ha hb2
    have hj := (List.getElem?_eq_some_iff.1 he).2
    have := hb a b ha hb2 hab
    rw [List.getElem_set, List.getElem_set]
    split <;> split
    · omega
    · rename_i h1 h2; subst h1; rw [hj] at this; exact this
    · rename_i h1 h2; subst h2; rw [hj] at this; exact this
    · exact this
  · rcases List.mem_or_eq_of_mem_set hy with hy | rfl
    · exact h.lt y hy
    · exact h.lt e (List.mem_of_getElem? he)
theorem Ents.push {m : List (Int × α)} {A : List MapEntry} {clock : Nat} {k : Int} {x : α} (h : Ents val m A clock) : Ents val (m ++ [(k, x)]) (A ++ [{ key := .int .i64 k, val := val x, born := clock }]) (clock + 1) := by
  refine ⟨by rw [List.map_append, List.map_append, h.eq]; rfl, ?_, fun y hy => ?_⟩
  · refine List.pairwise_append.2 ⟨h.born, List.pairwise_singleton _ _, fun a ha b hb => ?_⟩
    simp at hb
    subst hb
    exact h.lt a ha
  · rcases List.mem_append.1 hy with hy | hy
    · have := h.lt y hy; omega
    · simp at hy; subst hy; simp
theorem map_erase {β γ : Type} {f : β → γ} : ∀ {l : List β} {j : Nat}, (l.eraseIdx j).map f = (l.map f).eraseIdx j
  | [], _ => rfl
  | _ :: _, 0 => rfl
  | x :: r, j + 1 => by simp only [List.eraseIdx_cons_succ, List.map_cons, map_erase]
theorem Ents.erase {m : List (Int × α)} {A : List MapEntry} {clock j : Nat} (h : Ents val m A clock) : Ents val (m.eraseIdx j) (A.eraseIdx j) clock := by
  refine ⟨by rw [map_erase, map_erase, h.eq], h.born.sublist (List.eraseIdx_sublist _ _), fun y hy => h.lt y (List.mem_of_mem_eraseIdx hy)⟩
end

section
variable {P : Program} {N : Nat} {fr : List (Nat × Value)} {w w0 : World} {S0 : List Nat} {L : List Item} {α : Type} {val : α → Value}
def setB (w : World) (b : Nat) (o : Obj) : World := { w with heap := w.heap.setIfInBounds b o }
theorem run_getObj {P : Program} {w : World} {r : Nat} {A : Array MapEntry} {c : Nat} (h : w.heap[r]? = some (.map A c)) : (getObj r).run P w = .ok (.map A c) w := by simp [getObj, Sem.run, h]
theorem run_checkKey {P : Program} {w : World} {b : Bool} {t : TypeId} {kd : IntKind} {v : Value} (h : P.underlying t = some (.int kd)) : (Instr.checkKey b 10000 t v).run P w = .ok () w := by
  show (Instr.checkKey b (9999 + 1) t v).run P w = .ok () w
  unfold Instr.checkKey
  simp [run_underlying h]
theorem run_findKey {P : Program} {w : World} {t : TypeId} {kd : IntKind} {k : Int} {m : List (Int × α)} {A : Array MapEntry} {clock : Nat} (h : P.underlying t = some (.int kd)) (he : Ents val m A.toList clock) :
    (Instr.findKey t (.int .i64 k) A.toList).run P w = .ok ((mpos m k).bind fun j => (mget m k).map fun x => (j, val x)) w := by
  unfold Instr.findKey
  simp only [Sem.run_bind, run_underlying h, Result.andThen_ok, findNow_ents (kd := kd) (i := 0) he, Nat.zero_add, Sem.run_pure]
theorem lookup_cases {m : List (Int × α)} {k : Int} (z0 : α) : ((mpos m k).bind fun j => (mget m k).map fun x => (j, val x)) = none ∧ mget m k = none ∨ ∃ j x, ((mpos m k).bind fun j => (mget m k).map fun x => (j, val x)) = some (j, val x) ∧ mget m k = some x ∧ mpos m k = some j ∧ m[j]? = some (k, x) := by
  cases h : mget m k with
  | none => left; rw [mpos_mget.2 h]; exact ⟨rfl, rfl⟩
  | some x =>
    right
    obtain ⟨j, h1, h2⟩ := mpos_get h
    exact ⟨j, x, by rw [h1]; rfl, rfl, h1, h2⟩
theorem sameBits_int {n : Nat} {k : Int} : Instr.sameBits n (.int .i64 k) (.int .i64 k) = true := by
  unfold Instr.sameBits
  simp
theorem run_keyStays {P : Program} {w : World} {k : Int} : (Instr.keyThatStays (.int .i64 k) (.int .i64 k)).run P w = .ok (.int .i64 k) w := by
  unfold Instr.keyThatStays
  rw [sameBits_int]
  rfl
theorem run_setMap {P : Program} {w : World} {r : Nat} {A : Array MapEntry} {c : Nat} (h : w.heap[r]? = some (.map A c)) (o' : Obj) : (setObj r o').run P w = .ok () (setB w r o') := by
  simp [setObj, Sem.run, h, setB]
theorem setB_chg {w : World} {r : Nat} {o : Obj} : Chg [r] w (setB w r o) :=
  ⟨rfl, rfl, rfl, by simp [setB], fun k hk hn => by
    have : r ≠ k := fun e => hn (by simp [e])
    simp [setB, Array.getElem?_setIfInBounds, this]⟩
theorem setB_at {w : World} {r : Nat} {o o' : Obj} (h : w.heap[r]? = some o) : (setB w r o').heap[r]? = some o' := by
  have := (Array.getElem?_eq_some_iff.1 h).1
  simp [setB, this]
theorem St.setMap {r : Nat} {m : List (Int × α)} {β : Type} {val' : β → Value} {m' : List (Int × β)} {A A' : Array MapEntry} {c c' : Nat} (hst : St w0 S0 w L) (j : Nat) (hj : L[j]? = some (mapI r val m)) (hA : w.heap[r]? = some (.map A c)) (hE : Ents val' m' A'.toList c') :
    St w0 S0 (setB w r (.map A' c')) (L.set j (mapI r val' m')) :=
  hst.upd j hj setB_chg ⟨A', c', setB_at hA, hE⟩ (fun q hq => .inl hq) (by simp [mapI])
theorem ents_keyAt {m : List (Int × α)} {A : Array MapEntry} {c j : Nat} {k : Int} {x : α} (hE : Ents val m A.toList c) (hj : m[j]? = some (k, x)) : ∃ e, A[j]? = some e ∧ e.key = .int .i64 k ∧ e.val = val x := by
  have h1 : (A.toList.map (fun e => (e.key, e.val)))[j]? = (m.map (entOf val))[j]? := by rw [hE.eq]
  rw [List.getElem?_map, List.getElem?_map, hj] at h1
  cases he : A.toList[j]? with
  | none => rw [he] at h1; cases h1
  | some e =>
    rw [he] at h1
    simp only [Option.map_some, entOf, Option.some.injEq, Prod.mk.injEq] at h1
    exact ⟨e, by rw [← Array.getElem?_toList]; exact he, h1.1, h1.2⟩
theorem modify_list {A : Array MapEntry} {j : Nat} {e : MapEntry} {f : MapEntry → MapEntry} (h : A[j]? = some e) : (A.modify j f).toList = A.toList.set j (f e) := by
  apply List.ext_getElem?
  intro i
  rw [Array.getElem?_toList, Array.getElem?_modify, List.getElem?_set]
  split
  · rename_i hij
    subst hij
    have := (Array.getElem?_eq_some_iff.1 h).1
    rw [h]; simp [this]
  · simp
theorem update_run {P : Program} {t tk te : TypeId} {r : Nat} {k : Int} {x : α} {m : List (Int × α)} {kd : IntKind} (hst : St w0 S0 w L) (j : Nat) (hj : L[j]? = some (mapI r val m)) (ht : P.underlying t = some (.map tk te)) (hk : P.underlying tk = some (.int kd)) :
    ∃ w', (Instr.mapUpdate t (.map (some r)) (.int .i64 k) (val x)).run P w = .ok () w' ∧ St w0 S0 w' (L.set j (mapI r val (mput m k x))) := by
  obtain ⟨A, clock, hA, hE⟩ := hst.all j _ hj
  have hf := run_findKey (P := P) (w := w) (k := k) hk hE
  cases h : mget m k with
  | none =>
    rw [mpos_mget.2 h] at hf
    refine ⟨setB w r (.map (A.push { key := .int .i64 k, val := val x, born := clock }) (clock + 1)), ?_, ?_⟩
    · simp only [Instr.mapUpdate, Sem.run_bind, run_underlying ht, Result.andThen_ok, run_getObj hA, run_checkKey hk, hf, Option.bind_none]
      rw [run_setMap hA]
    · rw [mput_none h]
      exact hst.setMap j hj hA (by rw [Array.toList_push]; exact hE.push)
  | some y =>
    obtain ⟨q, h1, h2⟩ := mpos_get h
    rw [h1, h] at hf
    obtain ⟨e, he, hek, hev⟩ := ents_keyAt hE h2
    refine ⟨setB w r (.map (A.modify q fun e => { e with key := .int .i64 k, val := val x }) clock), ?_, ?_⟩
    · simp only [Instr.mapUpdate, Sem.run_bind, run_underlying ht, Result.andThen_ok, run_getObj hA, run_checkKey hk, hf, Option.bind_some, Option.map_some, he, Option.getD_some, hek, run_keyStays]
      rw [run_setMap hA]
    · rw [mput_some h1]
      exact hst.setMap j hj hA (by rw [modify_list he]; exact hE.set (by rw [Array.getElem?_toList]; exact he))
theorem delete_run {P : Program} {t tk te ty : TypeId} {ats : Array TypeId} {r : Nat} {k : Int} {m : List (Int × α)} {kd : IntKind} (hst : St w0 S0 w L) (j : Nat) (hj : L[j]? = some (mapI r val m)) (h0 : ats[0]? = some t) (ht : P.underlying t = some (.map tk te)) (hk : P.underlying tk = some (.int kd)) :
    ∃ w', (Builtin.delete_ ats ty #[.map (some r), .int .i64 k]).run P w = .ok (.tuple #[]) w' ∧ St w0 S0 w' (L.set j (mapI r val (mdel m k))) := by
  obtain ⟨A, clock, hA, hE⟩ := hst.all j _ hj
  have hf := run_findKey (P := P) (w := w) (k := k) hk hE
  cases h : mget m k with
  | none =>
    rw [mpos_mget.2 h] at hf
    refine ⟨setB w r (.map A clock), ?_, ?_⟩
    · simp [Builtin.delete_, h0, run_underlying ht, run_getObj hA, run_checkKey hk, hf, run_setMap hA]
    · rw [mdel_none h]
      exact hst.setMap j hj hA hE
  | some y =>
    obtain ⟨q, h1, h2⟩ := mpos_get h
    rw [h1, h] at hf
    refine ⟨setB w r (.map (A.eraseIdxIfInBounds q) clock), ?_, ?_⟩
    · simp [Builtin.delete_, h0, run_underlying ht, run_getObj hA, run_checkKey hk, hf, run_setMap hA]
    · rw [mdel_some h1]
      refine hst.setMap j hj hA ?_
      have hq : q < A.size := by
        have := (List.getElem?_eq_some_iff.1 h2).1
        have := hE.len
        simp at this
        omega
      have : (A.eraseIdxIfInBounds q).toList = A.toList.eraseIdx q := by rw [Array.eraseIdxIfInBounds, dif_pos hq]; simp
      rw [this]
      exact hE.erase
end
section
variable {P : Program} {N : Nat} {Q : Exit → Act → World → Prop} {fr fr' : List (Nat × Value)} {w w0 : World} {l : List Oper} {i : Nat} {o : Oper} {S0 : List Nat} {L : List Item} {α : Type} {val : α → Value}
theorem OW.mput {t tk te : TypeId} {x y z : Operand} {ty : TypeId} {pos : String} {af : Array Edge} {gdd : Option (Nat × Bool)} (hst : St w0 S0 w L) (j : Nat) {r : Nat} {m : List (Int × α)} {kd : IntKind} (hj : L[j]? = some (mapI r val m))
    (hl : opAt l i = some ⟨none, .mapUpdate t x y z, ty, pos, af, gdd⟩) (hg : gd l fr ⟨none, .mapUpdate t x y z, ty, pos, af, gdd⟩ = some true) (hx : look fr x = some (.map (some r))) {k : Int} (hy : look fr y = some (.int .i64 k)) (u : α) (hz : look fr z = some (val u))
    (ht : P.underlying t = some (.map tk te)) (hk : P.underlying tk = some (.int kd)) (h : ∀ w', St w0 S0 w' (L.set j (mapI r val (Sx.mput m k u))) → OW P l N Q (i + 1) fr w') : OW P l N Q i fr w := by
  obtain ⟨w', h1, h2⟩ := update_run (P := P) (k := k) (x := u) hst j hj ht hk
  refine OW.ops hl hg rfl (fun a ha => ?_) (h w' h2)
  simp [execOp, ha.look hx, ha.look hy, ha.look hz, h1]
theorem OW.mdel {t tk te : TypeId} {x y : Operand} {ty : TypeId} {pos : String} {ats : List Nat} {af : Array Edge} {gdd : Option (Nat × Bool)} (hst : St w0 S0 w L) (j : Nat) {r : Nat} {m : List (Int × α)} {kd : IntKind} (hj : L[j]? = some (mapI r val m))
    (hl : opAt l i = some ⟨none, .call ⟨.builtin .delete, [x, y].toArray, ats.toArray⟩, ty, pos, af, gdd⟩) (hg : gd l fr ⟨none, .call ⟨.builtin .delete, [x, y].toArray, ats.toArray⟩, ty, pos, af, gdd⟩ = some true) (ha0 : ats[0]? = some t)
    (hx : look fr x = some (.map (some r))) {k : Int} (hy : look fr y = some (.int .i64 k)) (ht : P.underlying t = some (.map tk te)) (hk : P.underlying tk = some (.int kd))
    (h : ∀ w', St w0 S0 w' (L.set j (mapI r val (Sx.mdel m k))) → OW P l N Q (i + 1) fr w') : OW P l N Q i fr w := by
  obtain ⟨w', h1, h2⟩ := delete_run (P := P) (ty := ty) (ats := ats.toArray) (k := k) hst j hj (by simpa using ha0) ht hk
  refine OW.opn (v := .tuple #[]) hl hg rfl (fun a ha => ?_) (h w' h2)
  simp [execOp, resolve, invoke, builtin, ha.look hx, ha.look hy, h1]
theorem OW.mnew {d : Nat} {t : TypeId} {ty : TypeId} {pos : String} {af : Array Edge} {gdd : Option (Nat × Bool)} (val : α → Value) (hst : St w0 S0 w L) (hl : opAt l i = some ⟨some d, .makeMap t none, ty, pos, af, gdd⟩) (hg : gd l fr ⟨some d, .makeMap t none, ty, pos, af, gdd⟩ = some true) (hN : Nat.blt d N = true)
    (h : ∀ r w', St w0 S0 w' (L ++ [mapI r val ([] : List (Int × α))]) → OW P l N Q (i + 1) ((d, .map (some r)) :: fr) w') : OW P l N Q i fr w := by
  refine OW.op hl hg rfl hN (w' := w.alloc (.map #[] 0)) (fun a _ => ?_) (h w.heap.size _ ?_)
  · simp [execOp, Instr.makeMap, newObj, Sem.run]
  · refine hst.push (Chg.alloc _ _) ⟨#[], 0, heap_alloc_new _ _, ⟨rfl, List.Pairwise.nil, by simp⟩⟩ (fun b hb => by simp [mapI] at hb; omega) (by simp [mapI])
end
structure MRow {α : Type} (w : World) (r : Nat) (R : Rp α) (S : List Nat) (m : List (Int × α)) (ho : Option (Int × Value)) (mv : List (Int × Value)) (Ss : List (List Nat)) : Prop where
  map : ∃ A clock, w.heap[r]? = some (.map A clock) ∧ Ents (fun v : Value => v) mv A.toList clock
  keys : mv.map (·.1) = m.map (·.1)
  ls : Ss.length = m.length
  hS : S = r :: Ss.flatten
  nd : S.Nodup
  out : ∀ (k : Int) (v : Value) (i : Nat), ho = some (k, v) → mpos m k = some i → mv[i]? = some (k, v) ∧ Ss[i]? = some []
  own : ∀ (i : Nat) (q : Int × Value) (S' : List Nat) (p : Int × α), (∀ k u, ho = some (k, u) → mpos m k ≠ some i) → mv[i]? = some q → Ss[i]? = some S' → m[i]? = some p → R.own w [q.2] S' p.2
theorem sub_flatten {β : Type} {a b : List (List β)} (h : a.Sublist b) : a.flatten.Sublist b.flatten := by
  induction h with
  | slnil => exact List.Sublist.refl _
  | cons x _ ih => exact ih.trans (List.sublist_append_right _ _)
  | cons_cons x _ ih => exact List.Sublist.append (List.Sublist.refl _) ih
section
variable {α β : Type}
theorem mpos_keys {m : List (Int × α)} {n : List (Int × β)} (h : n.map (·.1) = m.map (·.1)) (k : Int) : mpos n k = mpos m k := by
  induction m generalizing n with
  | nil => simp at h; subst h; rfl
  | cons p m ih =>
    cases n with
    | nil => cases h
    | cons q n =>
      simp only [List.map_cons, List.cons.injEq] at h
      simp only [mpos, h.1, ih h.2]
theorem mpos_at {m : List (Int × α)} {k : Int} {i : Nat} (h : mpos m k = some i) : ∃ x, mget m k = some x ∧ m[i]? = some (k, x) := by
  cases hg : mget m k with
  | none => rw [mpos_mget.2 hg] at h; cases h
  | some x =>
    obtain ⟨j, h1, h2⟩ := mpos_get hg
    rw [h1] at h
    cases h
    exact ⟨x, rfl, h2⟩
end
section
variable {α : Type} {w w' : World} {r : Nat} {R : Rp α} {S : List Nat} {m : List (Int × α)} {ho : Option (Int × Value)} {mv : List (Int × Value)} {Ss : List (List Nat)}
theorem MRow.len (h : MRow w r R S m ho mv Ss) : mv.length = m.length := by
  have := congrArg List.length h.keys
  simpa using this
theorem MRow.lt (h : MRow w r R S m ho mv Ss) : ∀ b ∈ S, b < w.heap.size := by
  intro b hb
  rw [h.hS] at hb
  rcases List.mem_cons.1 hb with rfl | hb
  · obtain ⟨A, c, h1, _⟩ := h.map
    exact (Array.getElem?_eq_some_iff.1 h1).1
  · obtain ⟨S', hS', hb⟩ := List.mem_flatten.1 hb
    obtain ⟨i, hi, rfl⟩ := List.mem_iff_getElem.1 hS'
    have h1 : i < mv.length := by rw [h.len, ← h.ls]; exact hi
    have h2 : i < m.length := by rw [← h.ls]; exact hi
    by_cases hq : ∃ k u, ho = some (k, u) ∧ mpos m k = some i
    · obtain ⟨k, u, hc, hp⟩ := hq
      have := (h.out k u i hc hp).2
      rw [List.getElem?_eq_getElem hi] at this
      rw [Option.some.inj this] at hb
      exact absurd hb List.not_mem_nil
    · exact R.lt _ _ _ _ (h.own i _ _ _ (fun k u hc hp => hq ⟨k, u, hc, hp⟩) (List.getElem?_eq_getElem h1) (List.getElem?_eq_getElem hi) (List.getElem?_eq_getElem h2)) b hb
theorem MRow.loc (h : MRow w r R S m ho mv Ss) (hb : ∀ b ∈ S, w'.heap[b]? = w.heap[b]?) : MRow w' r R S m ho mv Ss := by
  have hS := h.hS
  obtain ⟨A, c, h1, h2⟩ := h.map
  refine ⟨⟨A, c, by rw [hb r (by rw [hS]; exact List.mem_cons_self)]; exact h1, h2⟩, h.keys, h.ls, h.hS, h.nd, h.out, fun i q S' p g1 g2 g3 g4 => R.loc w w' _ S' _ (fun b hbs => hb b ?_) (h.own i q S' p g1 g2 g3 g4)⟩
  rw [hS]
  exact List.mem_cons_of_mem _ (List.mem_flatten.2 ⟨S', List.mem_of_getElem? g3, hbs⟩)
end
def mN {α : Type} (r : Nat) (R : Rp α) (S : List Nat) (m : List (Int × α)) (ho : Option (Int × Value)) : Item where
  S := S
  Φ w := ∃ mv Ss, MRow w r R S m ho mv Ss
  loc w w' hb h := by obtain ⟨mv, Ss, h⟩ := h; exact ⟨mv, Ss, h.loc hb⟩
  lt w h := by obtain ⟨mv, Ss, h⟩ := h; exact h.lt
section
variable {α : Type} {w w' : World} {r : Nat} {R : Rp α} {S : List Nat} {m : List (Int × α)} {ho : Option (Int × Value)} {mv : List (Int × Value)} {Ss : List (List Nat)}
theorem MRow.take (h : MRow w r R S m none mv Ss) {k : Int} {x : α} (hx : mget m k = some x) :
    ∃ v S1 S2 Ss', mget mv k = some v ∧ R.own w [v] S2 x ∧ MRow w r R S1 m (some (k, v)) mv Ss' ∧ (∀ b ∈ S2, b ∈ S) ∧ (∀ b ∈ S1, b ∈ S) ∧ ∀ b ∈ S1, b ∉ S2 := by
  obtain ⟨i, hp, hi⟩ := mpos_get hx
  have hl := (List.getElem?_eq_some_iff.1 hi).1
  obtain ⟨v, hv, hvi⟩ := mpos_at ((mpos_keys h.keys k).trans hp)
  have a2 : i < Ss.length := by rw [h.ls]; exact hl
  have hn := h.nd
  rw [h.hS] at hn
  obtain ⟨n1, n2⟩ := List.nodup_cons.1 hn
  have hown := h.own i (k, v) Ss[i] (k, x) (fun _ _ e => (by cases e)) hvi (List.getElem?_eq_getElem a2) hi
  have hsub : ∀ b ∈ (Ss.set i []).flatten, b ∈ Ss.flatten := fun b hb => by
    rcases mem_flatten_set hb with hb | hb
    · exact absurd hb List.not_mem_nil
    · exact hb
  have n2' : (Ss.set i []).flatten.Nodup := nodup_flatten_set n2 List.nodup_nil (fun _ _ _ _ b hb => absurd hb List.not_mem_nil)
  refine ⟨v, r :: (Ss.set i []).flatten, Ss[i], Ss.set i [], hv, hown, ⟨h.map, h.keys, by rw [List.length_set]; exact h.ls, rfl, ?_, fun k' v' i' e hp' => ?_, fun i' q S' p g1 g2 g3 g4 => ?_⟩, fun b hb => ?_, fun b hb => ?_, fun b hb hb2 => ?_⟩
  · exact List.nodup_cons.2 ⟨fun hb => n1 (hsub r hb), n2'⟩
  · simp only [Option.some.injEq, Prod.mk.injEq] at e
    obtain ⟨rfl, rfl⟩ := e
    rw [hp] at hp'
    cases hp'
    exact ⟨hvi, by rw [List.getElem?_set_self a2]⟩
  · rcases set_get g3 with ⟨rfl, rfl⟩ | ⟨hne, g3⟩
    · exact absurd hp (g1 k v rfl)
    · exact h.own i' q S' p (fun _ _ e => (by cases e)) g2 g3 g4
  · rw [h.hS]; exact List.mem_cons_of_mem _ (List.mem_flatten.2 ⟨Ss[i], List.getElem_mem a2, hb⟩)
  · rw [h.hS]
    rcases List.mem_cons.1 hb with rfl | hb
    · exact List.mem_cons_self
    · exact List.mem_cons_of_mem _ (hsub b hb)
  · rcases List.mem_cons.1 hb with rfl | hb
    · exact n1 (List.mem_flatten.2 ⟨Ss[i], List.getElem_mem a2, hb2⟩)
    · obtain ⟨S', hS', hb⟩ := List.mem_flatten.1 hb
      obtain ⟨i', hi', rfl⟩ := List.mem_iff_getElem.1 hS'
      rcases set_get (List.getElem?_eq_getElem hi') with ⟨_, e⟩ | ⟨hne, hi2⟩
      · rw [e] at hb; exact absurd hb List.not_mem_nil
      · exact flatten_apart n2 hne hi2 (List.getElem?_eq_getElem a2) b hb hb2
theorem MRow.give (h : MRow w r R S m ho mv Ss) {k : Int} {v : Value} {S2 : List Nat} {x : α} {i : Nat} (hho : ∀ k' u, ho = some (k', u) → k' = k) (hp : mpos m k = some i) (hx : R.own w' [v] S2 x) (hd : ∀ b ∈ S, b ∉ S2)
    (hw : ∀ b ∈ Ss.flatten, w'.heap[b]? = w.heap[b]?) (hm : ∃ A clock, w'.heap[r]? = some (.map A clock) ∧ Ents (fun v : Value => v) (mv.set i (k, v)) A.toList clock) : MRow w' r R (r :: (Ss.set i S2).flatten) (m.set i (k, x)) none (mv.set i (k, v)) (Ss.set i S2) := by
  have hn := h.nd
  rw [h.hS] at hn
  obtain ⟨n1, n2⟩ := List.nodup_cons.1 hn
  have hS := h.hS
  refine ⟨hm, by rw [List.map_set, List.map_set, h.keys], by rw [List.length_set, List.length_set]; exact h.ls, rfl, ?_, fun _ _ _ e => (by cases e), fun i' q S' p _ g2 g3 g4 => ?_⟩
  · refine List.nodup_cons.2 ⟨fun hb => ?_, nodup_flatten_set n2 (R.nd _ _ _ _ hx) (fun k T' _ hT b hb hb2 => hd b (by rw [hS]; exact List.mem_cons_of_mem _ (List.mem_flatten.2 ⟨T', List.mem_of_getElem? hT, hb2⟩)) hb)⟩
    rcases mem_flatten_set hb with hb | hb
    · exact hd r (by rw [hS]; exact List.mem_cons_self) hb
    · exact n1 hb
  · rcases set_get g3 with ⟨rfl, rfl⟩ | ⟨hne, g3⟩
    · rcases set_get g2 with ⟨_, rfl⟩ | ⟨hne, _⟩
      · rcases set_get g4 with ⟨_, rfl⟩ | ⟨hne, _⟩
        · exact hx
        · exact absurd rfl hne
      · exact absurd rfl hne
    · rcases set_get g2 with ⟨e, _⟩ | ⟨_, g2⟩
      · exact absurd e hne
      · rcases set_get g4 with ⟨e, _⟩ | ⟨_, g4⟩
        · exact absurd e hne
        · refine R.loc w w' _ S' _ (fun b hb => hw b (List.mem_flatten.2 ⟨S', List.mem_of_getElem? g3, hb⟩)) (h.own i' q S' p (fun k' u e hp' => ?_) g2 g3 g4)
          rw [hho k' u e, hp] at hp'
          exact hne (Option.some.inj hp').symm
theorem MRow.come (h : MRow w r R S m ho mv Ss) {k : Int} {v : Value} {S2 : List Nat} {x : α} (hho : ∀ k' u, ho = some (k', u) → k' = k) (hp : mpos m k = none) (hx : R.own w' [v] S2 x) (hd : ∀ b ∈ S, b ∉ S2)
    (hw : ∀ b ∈ Ss.flatten, w'.heap[b]? = w.heap[b]?) (hm : ∃ A clock, w'.heap[r]? = some (.map A clock) ∧ Ents (fun v : Value => v) (mv ++ [(k, v)]) A.toList clock) : MRow w' r R (r :: (Ss ++ [S2]).flatten) (m ++ [(k, x)]) none (mv ++ [(k, v)]) (Ss ++ [S2]) := by
  have hn := h.nd
  rw [h.hS] at hn
  obtain ⟨n1, n2⟩ := List.nodup_cons.1 hn
  have hS := h.hS
  have hl := h.len
  have hls := h.ls
  refine ⟨hm, by rw [List.map_append, List.map_append, h.keys]; rfl, by simp [h.ls], rfl, ?_, fun _ _ _ e => (by cases e), fun i' q S' p _ g2 g3 g4 => ?_⟩
  · rw [List.flatten_append]
    have e1 : [S2].flatten = S2 := by simp
    rw [e1]
    refine List.nodup_cons.2 ⟨fun hb => ?_, List.nodup_append.2 ⟨n2, R.nd _ _ _ _ hx, fun a ha b hb e => by subst e; exact hd a (by rw [hS]; exact List.mem_cons_of_mem _ ha) hb⟩⟩
    rcases List.mem_append.1 hb with hb | hb
    · exact n1 hb
    · exact hd r (by rw [hS]; exact List.mem_cons_self) hb
  · rcases app_get g2 with ⟨l1, g2⟩ | ⟨l1, g2⟩
    · rcases app_get g3 with ⟨l2, g3⟩ | ⟨l2, g3⟩
      · rcases app_get g4 with ⟨l3, g4⟩ | ⟨l3, g4⟩
        · refine R.loc w w' _ S' _ (fun b hb => hw b (List.mem_flatten.2 ⟨S', List.mem_of_getElem? g3, hb⟩)) (h.own i' q S' p (fun k' u e hp' => ?_) g2 g3 g4)
          rw [hho k' u e, hp] at hp'
          cases hp'
        · omega
      · omega
    · rcases app_get g3 with ⟨l2, g3⟩ | ⟨l2, g3⟩
      · omega
      · rcases app_get g4 with ⟨l3, g4⟩ | ⟨l3, g4⟩
        · omega
        · have k1 := (List.getElem?_eq_some_iff.1 g2).1
          have k2 := (List.getElem?_eq_some_iff.1 g3).1
          have k3 := (List.getElem?_eq_some_iff.1 g4).1
          simp at k1 k2 k3
          rw [show i' - mv.length = 0 by omega] at g2
          rw [show i' - Ss.length = 0 by omega] at g3
          rw [show i' - m.length = 0 by omega] at g4
          simp at g2 g3 g4
          subst g2; subst g3; subst g4
          exact hx
theorem MRow.strike (h : MRow w r R S m none mv Ss) {k : Int} {i : Nat} (hp : mpos m k = some i) (hw : ∀ b ∈ Ss.flatten, w'.heap[b]? = w.heap[b]?) (hm : ∃ A clock, w'.heap[r]? = some (.map A clock) ∧ Ents (fun v : Value => v) (mv.eraseIdx i) A.toList clock) :
    MRow w' r R (r :: (Ss.eraseIdx i).flatten) (m.eraseIdx i) none (mv.eraseIdx i) (Ss.eraseIdx i) := by
  have hn := h.nd
  rw [h.hS] at hn
  obtain ⟨n1, n2⟩ := List.nodup_cons.1 hn
  have hs : (Ss.eraseIdx i).flatten.Sublist Ss.flatten := sub_flatten (List.eraseIdx_sublist _ _)
  have hl := h.len
  have hls := h.ls
  refine ⟨hm, by rw [map_erase, map_erase, h.keys], ?_, rfl, List.nodup_cons.2 ⟨fun hb => n1 (hs.subset hb), n2.sublist hs⟩, fun _ _ _ e => (by cases e), fun i' q S' p _ g2 g3 g4 => ?_⟩
  · rw [List.length_eraseIdx, List.length_eraseIdx, hls]
  · rw [List.getElem?_eraseIdx] at g2 g3 g4
    split at g2
    · rename_i hlt
      rw [if_pos hlt] at g3 g4
      exact R.loc w w' _ S' _ (fun b hb => hw b (List.mem_flatten.2 ⟨S', List.mem_of_getElem? g3, hb⟩)) (h.own i' q S' p (fun _ _ e => (by cases e)) g2 g3 g4)
    · rename_i hlt
      rw [if_neg hlt] at g3 g4
      exact R.loc w w' _ S' _ (fun b hb => hw b (List.mem_flatten.2 ⟨S', List.mem_of_getElem? g3, hb⟩)) (h.own (i' + 1) q S' p (fun _ _ e => (by cases e)) g2 g3 g4)
end
def mset {α : Type} (m : List (Int × α)) (k : Int) (x : α) : List (Int × α) := match mpos m k with
  | none => m
  | some i => m.set i (k, x)
section
variable {P : Program} {N : Nat} {Q : Exit → Act → World → Prop} {fr fr' : List (Nat × Value)} {w w0 : World} {l : List Oper} {i : Nat} {o : Oper} {S0 : List Nat} {L : List Item} {α : Type} {R : Rp α} {r : Nat} {S : List Nat} {m : List (Int × α)} {ho : Option (Int × Value)}
theorem run_findKeyV {P : Program} {w : World} {t : TypeId} {kd : IntKind} {k : Int} {mv : List (Int × Value)} {A : Array MapEntry} {clock : Nat} (h : P.underlying t = some (.int kd)) (he : Ents (fun v : Value => v) mv A.toList clock) :
    (Instr.findKey t (.int .i64 k) A.toList).run P w = .ok ((mpos mv k).bind fun j => (mget mv k).map fun x => (j, x)) w := run_findKey h he
theorem mget_keys {β : Type} {m : List (Int × α)} {n : List (Int × β)} (h : n.map (·.1) = m.map (·.1)) (k : Int) : (mget n k).isSome = (mget m k).isSome := by
  have := mpos_keys h k
  cases h1 : mget n k with
  | none =>
    rw [mpos_mget.2 h1] at this
    rw [mpos_mget.1 this.symm]
    rfl
  | some x =>
    obtain ⟨j, h2, _⟩ := mpos_get h1
    rw [h2] at this
    obtain ⟨y, h3, _⟩ := mpos_at this.symm
    rw [h3]
    rfl
theorem look_core {β : Type} {R0 : Rp β} {f : Option α → β} {k : Int} (hst : St w0 S0 w L) (j : Nat) (hj : L[j]? = some (mN r R S m none)) (vz : Value) (hz : ∀ w, R0.own w [vz] [] (f none)) (hR : ∀ w cs S x, R.own w cs S x → R0.own w cs S (f (some x))) (hR2 : ∀ w cs S x, R0.own w cs S (f (some x)) → R.own w cs S x) :
    ∃ v S1 S2 mv Ss, St w0 S0 w (L.set j (mN r R S1 m (some (k, v))) ++ [itI R0 [v] S2 (f (mget m k))]) ∧ MRow w r R S m none mv Ss ∧ (mget mv k).getD vz = v := by
  obtain ⟨mv, Ss, hr⟩ := hst.all j _ hj
  cases hg : mget m k with
  | none =>
    have hv : mget mv k = none := by
      have := mget_keys hr.keys k
      rw [hg] at this
      cases hv : mget mv k with
      | none => rfl
      | some v => rw [hv] at this; cases this
    refine ⟨vz, S, [], mv, Ss, ?_, hr, by rw [hv]; rfl⟩
    have hr' : MRow w r R S m (some (k, vz)) mv Ss := ⟨hr.map, hr.keys, hr.ls, hr.hS, hr.nd, (fun k' v' i e hp => by
      simp only [Option.some.injEq, Prod.mk.injEq] at e
      obtain ⟨rfl, rfl⟩ := e
      rw [mpos_mget.2 hg] at hp
      cases hp), fun i q S' p _ g2 g3 g4 => hr.own i q S' p (fun _ _ e => (by cases e)) g2 g3 g4⟩
    exact hst.swap j hj ⟨mv, Ss, hr'⟩ hr'.nd (fun b hb => hb) (hz w) List.nodup_nil (fun b hb => absurd hb List.not_mem_nil) (fun b _ hb => absurd hb List.not_mem_nil)
  | some x =>
    obtain ⟨v, S1, S2, Ss', hv, hown, hr', h1, h2, h3⟩ := hr.take hg
    exact ⟨v, S1, S2, mv, Ss, hst.swap j hj ⟨mv, Ss', hr'⟩ hr'.nd h2 (hR _ _ _ _ hown) (R.nd _ _ _ _ hown) h1 h3, hr, by rw [hv]; rfl⟩
theorem mset_self {m : List (Int × α)} {k : Int} {x : α} (h : mget m k = some x) : mset m k x = m := by
  obtain ⟨i, hp, hi⟩ := mpos_get h
  unfold mset
  rw [hp]
  apply List.ext_getElem?
  intro q
  by_cases e : i = q
  · subst e; rw [List.getElem?_set_self (List.getElem?_eq_some_iff.1 hi).1, hi]
  · rw [List.getElem?_set_ne e]
theorem St.mback {β : Type} {R0 : Rp β} {f : Option α → β} (h : St w0 S0 w L) (q j : Nat) (hqj : Nat.beq q j = false) {k : Int} {v : Value} {S2 : List Nat} {y : β} (hq : L[q]? = some (mN r R S m (some (k, v)))) (hj : L[j]? = some (itI R0 [v] S2 y)) (hR2 : ∀ w cs S x, R0.own w cs S (f (some x)) → R.own w cs S x)
    (z : α) (hy : (mget m k).isSome = true → y = f (some z)) : ∃ S', St w0 S0 w ((L.set q (mN r R S' (mset m k z) none)).set j nilI) := by
  obtain ⟨mv, Ss, hr⟩ := h.all q _ hq
  have hd : ∀ b ∈ S, b ∉ S2 := h.apart q j _ _ (Nat.ne_of_beq_eq_false hqj) hq hj
  have hown : R0.own w [v] S2 y := h.all j _ hj
  have hS := hr.hS
  cases hg : mget m k with
  | none =>
    have hp := mpos_mget.2 hg
    refine ⟨S, h.fuse q j hqj hq hj (C := mN r R S (mset m k z) none) ?_ hr.nd (fun b hb => .inl hb)⟩
    unfold mset
    rw [hp]
    refine ⟨mv, Ss, hr.map, hr.keys, hr.ls, hr.hS, hr.nd, fun _ _ _ e => (by cases e), fun i u S' p _ g2 g3 g4 => hr.own i u S' p (fun k' u' e hp' => ?_) g2 g3 g4⟩
    simp only [Option.some.injEq, Prod.mk.injEq] at e
    rw [← e.1, hp] at hp'
    cases hp'
  | some x =>
    obtain ⟨i, hp, hi⟩ := mpos_get hg
    obtain ⟨hvi, _⟩ := hr.out k v i rfl hp
    have hset : mv.set i (k, v) = mv := by
      apply List.ext_getElem?
      intro q
      by_cases e : i = q
      · subst e; rw [List.getElem?_set_self (List.getElem?_eq_some_iff.1 hvi).1, hvi]
      · rw [List.getElem?_set_ne e]
    have hown' : R.own w [v] S2 z := hR2 _ _ _ _ (by rw [← hy (by rw [hg]; rfl)]; exact hown)
    have := hr.give (w' := w) (x := z) (fun k' u e => by simp only [Option.some.injEq, Prod.mk.injEq] at e; exact e.1.symm) hp hown' hd (fun _ _ => rfl) (by rw [hset]; exact hr.map)
    refine ⟨_, h.fuse q j hqj hq hj (C := mN r R (r :: (Ss.set i S2).flatten) (mset m k z) none) ?_ this.nd (fun b hb => ?_)⟩
    · unfold mset
      rw [hp]
      exact ⟨_, _, this⟩
    · rcases List.mem_cons.1 hb with rfl | hb
      · exact .inl (by show b ∈ S; rw [hS]; exact List.mem_cons_self)
      · rcases mem_flatten_set hb with hb | hb
        · exact .inr hb
        · exact .inl (by show b ∈ S; rw [hS]; exact List.mem_cons_of_mem _ hb)
theorem St.mback0 {β : Type} {R0 : Rp β} {f : Option α → β} (h : St w0 S0 w L) (q j : Nat) (hqj : Nat.beq q j = false) {k : Int} {v : Value} {S2 : List Nat} (hq : L[q]? = some (mN r R S m (some (k, v)))) (hj : L[j]? = some (itI R0 [v] S2 (f (mget m k)))) (hR2 : ∀ w cs S x, R0.own w cs S (f (some x)) → R.own w cs S x) :
    ∃ S', St w0 S0 w ((L.set q (mN r R S' m none)).set j nilI) := by
  cases hg : mget m k with
  | none =>
    obtain ⟨mv, Ss, hr⟩ := h.all q _ hq
    have hp := mpos_mget.2 hg
    refine ⟨S, h.fuse q j hqj hq hj (C := mN r R S m none) ?_ hr.nd (fun b hb => .inl hb)⟩
    refine ⟨mv, Ss, hr.map, hr.keys, hr.ls, hr.hS, hr.nd, fun _ _ _ e => (by cases e), fun i u S' p _ g2 g3 g4 => hr.own i u S' p (fun k' u' e hp' => ?_) g2 g3 g4⟩
    simp only [Option.some.injEq, Prod.mk.injEq] at e
    rw [← e.1, hp] at hp'
    cases hp'
  | some x =>
    obtain ⟨S', h2⟩ := h.mback (f := f) q j hqj hq hj hR2 x (fun _ => by rw [hg])
    rw [mset_self hg] at h2
    exact ⟨S', h2⟩
theorem OW.mputN {t tk te : TypeId} {x y z : Operand} {ty : TypeId} {pos : String} {af : Array Edge} {gdd : Option (Nat × Bool)} (hst : St w0 S0 w L) (q j : Nat) (hqj : Nat.beq q j = false) {kd : IntKind} {k : Int} {v : Value} {S2 : List Nat} {u : α} (hq : L[q]? = some (mN r R S m ho)) (hho : ∀ k' u, ho = some (k', u) → k' = k) (hj : L[j]? = some (itI R [v] S2 u))
    (hl : opAt l i = some ⟨none, .mapUpdate t x y z, ty, pos, af, gdd⟩) (hg : gd l fr ⟨none, .mapUpdate t x y z, ty, pos, af, gdd⟩ = some true) (hx : look fr x = some (.map (some r))) (hy : look fr y = some (.int .i64 k)) (hz : look fr z = some v)
    (ht : P.underlying t = some (.map tk te)) (hk : P.underlying tk = some (.int kd)) (h : ∀ S' w', St w0 S0 w' ((L.set q (mN r R S' (Sx.mput m k u) none)).set j nilI) → OW P l N Q (i + 1) fr w') : OW P l N Q i fr w := by
  obtain ⟨mv, Ss, hr⟩ := hst.all q _ hq
  have hd : ∀ b ∈ S, b ∉ S2 := hst.apart q j _ _ (Nat.ne_of_beq_eq_false hqj) hq hj
  have hown : R.own w [v] S2 u := hst.all j _ hj
  have hS := hr.hS
  have hn := hr.nd
  rw [hS] at hn
  obtain ⟨n1, _⟩ := List.nodup_cons.1 hn
  -- the map's own write, by the rule for plain values, on a state of one item
  have hI : St w [r] w [mapI r (fun v : Value => v) mv] := by
    refine ⟨Chg.refl _ _, fun n it hi => ?_, fun n it hi => ?_, fun n n' a b hne h1 h2 => ?_, fun n it hi y hy => ?_⟩
    · cases n with
      | zero => simp at hi; subst hi; exact hr.map
      | succ n => simp at hi
    · cases n with
      | zero => simp at hi; subst hi; simp [mapI]
      | succ n => simp at hi
    · cases n with
      | zero => cases n' with
        | zero => exact absurd rfl hne
        | succ n' => simp at h2
      | succ n => simp at h1
    · cases n with
      | zero => simp at hi; subst hi; exact .inl (by simpa [mapI] using hy)
      | succ n => simp at hi
  obtain ⟨w', hrun, hst'⟩ := update_run (P := P) (k := k) (x := v) hI 0 rfl ht hk
  have hchg : Chg [r] w w' := hst'.chg
  have hm' : ∃ A clock, w'.heap[r]? = some (.map A clock) ∧ Ents (fun v : Value => v) (Sx.mput mv k v) A.toList clock := hst'.all 0 _ rfl
  have hlt := hr.lt
  have hown' : R.own w' [v] S2 u := R.loc _ _ _ _ _ (fun b hb => hchg.block b (R.lt _ _ _ _ hown b hb) (by simp only [List.mem_singleton]; rintro rfl; exact hd b (by rw [hS]; exact List.mem_cons_self) hb)) hown
  have hw : ∀ b ∈ Ss.flatten, w'.heap[b]? = w.heap[b]? := fun b hb => hchg.block b (hlt b (by rw [hS]; exact List.mem_cons_of_mem _ hb)) (by simp only [List.mem_singleton]; rintro rfl; exact n1 hb)
  obtain ⟨Ss', mv', hfin, hsub⟩ : ∃ Ss' mv', MRow w' r R (r :: List.flatten Ss') (Sx.mput m k u) none mv' Ss' ∧ ∀ b ∈ List.flatten Ss', b ∈ Ss.flatten ∨ b ∈ S2 := by
    cases hp : mpos m k with
    | none =>
      have hp' : mpos mv k = none := (mpos_keys hr.keys k).trans hp
      rw [mput_none (mpos_mget.1 hp')] at hm'
      rw [mput_none (mpos_mget.1 hp)]
      refine ⟨_, _, hr.come hho hp hown' hd hw hm', fun b hb => ?_⟩
      rw [List.flatten_append] at hb
      rcases List.mem_append.1 hb with hb | hb
      · exact .inl hb
      · exact .inr (by simpa using hb)
    | some n =>
      have hp' : mpos mv k = some n := (mpos_keys hr.keys k).trans hp
      rw [mput_some hp'] at hm'
      rw [mput_some hp]
      exact ⟨_, _, hr.give hho hp hown' hd hw hm', fun b hb => (mem_flatten_set hb).symm⟩
  refine OW.ops hl hg rfl (fun a ha => ?_) (h (r :: List.flatten Ss') w' ?_)
  · simp [execOp, ha.look hx, ha.look hy, ha.look hz, hrun]
  · have hsub2 : ∀ b ∈ r :: List.flatten Ss', b ∈ S ∨ b ∈ S2 := fun b hb => by
      rcases List.mem_cons.1 hb with rfl | hb
      · exact .inl (by rw [hS]; exact List.mem_cons_self)
      · rcases hsub b hb with hb | hb
        · exact .inl (by rw [hS]; exact List.mem_cons_of_mem _ hb)
        · exact .inr hb
    let A : Item := ⟨r :: List.flatten Ss', fun w1 => ∀ b ∈ r :: List.flatten Ss', b < w1.heap.size, fun w1 w2 hb hh b hb2 => by
      have h1 := hh b hb2
      have h2 := hb b hb2
      rw [Array.getElem?_eq_getElem h1] at h2
      exact (Array.getElem?_eq_some_iff.1 h2).1, fun w1 hh => hh⟩
    have hA : St w0 S0 w ((L.set q A).set j nilI) := hst.fuse q j hqj hq hj (C := A) (fun b hb => by
      rcases hsub2 b hb with hb | hb
      · exact hlt b hb
      · exact R.lt _ _ _ _ hown b hb) hfin.nd hsub2
    have hlq : q < L.length := (List.getElem?_eq_some_iff.1 hq).1
    have hqA : ((L.set q A).set j nilI)[q]? = some A := by
      rw [List.getElem?_set_ne (fun e => Nat.ne_of_beq_eq_false hqj e.symm), List.getElem?_set_self hlq]
    have := hA.upd q hqA (it' := mN r R (r :: List.flatten Ss') (Sx.mput m k u) none) (hchg.mono (fun b hb => by simp only [List.mem_singleton] at hb; subst hb; exact List.mem_cons_self)) ⟨_, _, hfin⟩ (fun b hb => .inl hb) hfin.nd
    rw [List.set_comm _ _ (fun e => Nat.ne_of_beq_eq_false hqj e.symm), List.set_set] at this
    exact this
theorem OW.mdelN {t tk te : TypeId} {x y : Operand} {ty : TypeId} {pos : String} {ats : List Nat} {af : Array Edge} {gdd : Option (Nat × Bool)} (hst : St w0 S0 w L) (j : Nat) {kd : IntKind} (hj : L[j]? = some (mN r R S m none))
    (hl : opAt l i = some ⟨none, .call ⟨.builtin .delete, [x, y].toArray, ats.toArray⟩, ty, pos, af, gdd⟩) (hg : gd l fr ⟨none, .call ⟨.builtin .delete, [x, y].toArray, ats.toArray⟩, ty, pos, af, gdd⟩ = some true) (ha0 : ats[0]? = some t)
    (hx : look fr x = some (.map (some r))) {k : Int} (hy : look fr y = some (.int .i64 k)) (ht : P.underlying t = some (.map tk te)) (hk : P.underlying tk = some (.int kd))
    (h : ∀ S' w', St w0 S0 w' (L.set j (mN r R S' (Sx.mdel m k) none)) → OW P l N Q (i + 1) fr w') : OW P l N Q i fr w := by
  obtain ⟨mv, Ss, hr⟩ := hst.all j _ hj
  have hS := hr.hS
  have hn := hr.nd
  rw [hS] at hn
  obtain ⟨n1, n2⟩ := List.nodup_cons.1 hn
  have hI : St w [r] w [mapI r (fun v : Value => v) mv] := by
    refine ⟨Chg.refl _ _, fun n it hi => ?_, fun n it hi => ?_, fun n n' a b hne h1 h2 => ?_, fun n it hi y hy => ?_⟩
    · cases n with
      | zero => simp at hi; subst hi; exact hr.map
      | succ n => simp at hi
    · cases n with
      | zero => simp at hi; subst hi; simp [mapI]
      | succ n => simp at hi
    · cases n with
      | zero => cases n' with
        | zero => exact absurd rfl hne
        | succ n' => simp at h2
      | succ n => simp at h1
    · cases n with
      | zero => simp at hi; subst hi; exact .inl (by simpa [mapI] using hy)
      | succ n => simp at hi
  obtain ⟨w', hrun, hst'⟩ := delete_run (P := P) (ty := ty) (ats := ats.toArray) (k := k) hI 0 rfl (by simpa using ha0) ht hk
  have hchg : Chg [r] w w' := hst'.chg
  have hm' : ∃ A clock, w'.heap[r]? = some (.map A clock) ∧ Ents (fun v : Value => v) (Sx.mdel mv k) A.toList clock := hst'.all 0 _ rfl
  have hlt := hr.lt
  have hw : ∀ b ∈ Ss.flatten, w'.heap[b]? = w.heap[b]? := fun b hb => hchg.block b (hlt b (by rw [hS]; exact List.mem_cons_of_mem _ hb)) (by simp only [List.mem_singleton]; rintro rfl; exact n1 hb)
  obtain ⟨Ss', mv', hfin, hsub⟩ : ∃ Ss' mv', MRow w' r R (r :: List.flatten Ss') (Sx.mdel m k) none mv' Ss' ∧ ∀ b ∈ List.flatten Ss', b ∈ Ss.flatten := by
    cases hp : mpos m k with
    | none =>
      have hp' : mpos mv k = none := (mpos_keys hr.keys k).trans hp
      rw [mdel_none (mpos_mget.1 hp')] at hm'
      rw [mdel_none (mpos_mget.1 hp)]
      refine ⟨Ss, mv, ⟨hm', hr.keys, hr.ls, rfl, by rw [← hS]; exact hr.nd, fun _ _ _ e => (by cases e), fun i' q S' p _ g2 g3 g4 => ?_⟩, fun b hb => hb⟩
      exact R.loc w w' _ S' _ (fun b hb => hw b (List.mem_flatten.2 ⟨S', List.mem_of_getElem? g3, hb⟩)) (hr.own i' q S' p (fun _ _ e => (by cases e)) g2 g3 g4)
    | some n =>
      have hp' : mpos mv k = some n := (mpos_keys hr.keys k).trans hp
      rw [mdel_some hp'] at hm'
      rw [mdel_some hp]
      exact ⟨_, _, hr.strike hp hw hm', fun b hb => (sub_flatten (List.eraseIdx_sublist _ _)).subset hb⟩
  refine OW.opn (v := .tuple #[]) hl hg rfl (fun a ha => ?_) (h (r :: List.flatten Ss') w' ?_)
  · simp [execOp, resolve, invoke, builtin, ha.look hx, ha.look hy, hrun]
  · exact hst.upd j hj (it' := mN r R (r :: List.flatten Ss') (Sx.mdel m k) none) (hchg.mono (fun b hb => by rw [show (mN r R S m none).S = S from rfl, hS]; rw [List.mem_singleton.1 hb]; exact List.mem_cons_self)) ⟨_, _, hfin⟩ (fun b hb => .inl (by
      rw [show (mN r R S m none).S = S from rfl, hS]
      rcases List.mem_cons.1 hb with rfl | hb
      · exact List.mem_cons_self
      · exact List.mem_cons_of_mem _ (hsub b hb))) hfin.nd
theorem OW.mnewN {d : Nat} {t : TypeId} {ty : TypeId} {pos : String} {af : Array Edge} {gdd : Option (Nat × Bool)} (R : Rp α) (hst : St w0 S0 w L) (hl : opAt l i = some ⟨some d, .makeMap t none, ty, pos, af, gdd⟩) (hg : gd l fr ⟨some d, .makeMap t none, ty, pos, af, gdd⟩ = some true) (hN : Nat.blt d N = true)
    (h : ∀ r w', St w0 S0 w' (L ++ [mN r R [r] [] none]) → OW P l N Q (i + 1) ((d, .map (some r)) :: fr) w') : OW P l N Q i fr w := by
  refine OW.op hl hg rfl hN (w' := w.alloc (.map #[] 0)) (fun a _ => ?_) (h w.heap.size _ ?_)
  · simp [execOp, Instr.makeMap, newObj, Sem.run]
  · exact hst.push (Chg.alloc _ _) ⟨[], [], ⟨#[], 0, heap_alloc_new _ _, ⟨rfl, List.Pairwise.nil, by simp⟩⟩, rfl, rfl, rfl, by simp, fun _ _ _ e => (by cases e), fun i q S' p _ g => by simp at g⟩ (fun b hb => by simp [mN] at hb; omega) (by simp [mN])
end
def mapNP {α : Type} (R : Rp α) : Rp (List (Int × α)) where
  sz := 1
  own w cs S m := ∃ r, cs = [.map (some r)] ∧ ∃ mv Ss, MRow w r R S m none mv Ss
  rd w F m cs := True ∧ cs.length = 1
  len := by rintro w cs S m ⟨r, rfl, _⟩; rfl
  loc := by rintro w w' cs S m hb ⟨r, rfl, mv, Ss, h⟩; exact ⟨r, rfl, mv, Ss, h.loc hb⟩
  lt := by rintro w cs S m ⟨r, rfl, mv, Ss, h⟩; exact h.lt
  nd := by rintro w cs S m ⟨r, rfl, mv, Ss, h⟩; exact h.nd
  see := by rintro w cs S m F ⟨r, rfl, _⟩ _; exact ⟨trivial, rfl⟩
  rlen := by rintro w F m cs ⟨_, h⟩; exact h
  rloc := by rintro w w' F F' m cs _ _ h; exact h
def mapFP {α : Type} (val : α → Value) : Rp (List (Int × α)) where
  sz := 1
  own w cs S m := ∃ r, cs = [.map (some r)] ∧ S = [r] ∧ (mapI r val m).Φ w
  rd w F m cs := True ∧ cs.length = 1
  len := by rintro w cs S m ⟨r, rfl, _⟩; rfl
  loc := by rintro w w' cs S m hb ⟨r, rfl, rfl, h⟩; exact ⟨r, rfl, rfl, (mapI r val m).loc w w' hb h⟩
  lt := by rintro w cs S m ⟨r, rfl, rfl, h⟩; exact (mapI r val m).lt w h
  nd := by rintro w cs S m ⟨r, rfl, rfl, h⟩; simp
  see := by rintro w cs S m F ⟨r, rfl, _⟩ _; exact ⟨trivial, rfl⟩
  rlen := by rintro w F m cs ⟨_, h⟩; exact h
  rloc := by rintro w w' F F' m cs _ _ h; exact h
section
variable {w w0 : World} {S0 : List Nat} {L : List Item} {α : Type} {R : Rp α}
theorem St.toMN {cs : List Value} {S : List Nat} {m : List (Int × α)} (h : St w0 S0 w L) (j : Nat) (hj : L[j]? = some (itI (mapNP R) cs S m)) : ∃ r, cs = [.map (some r)] ∧ St w0 S0 w (L.set j (mN r R S m none)) := by
  obtain ⟨r, rfl, hr⟩ := h.all j _ hj
  exact ⟨r, rfl, h.turn j hj hr rfl⟩
theorem St.ofMN {r : Nat} {S : List Nat} {m : List (Int × α)} (h : St w0 S0 w L) (j : Nat) (hj : L[j]? = some (mN r R S m none)) : St w0 S0 w (L.set j (itI (mapNP R) [.map (some r)] S m)) := h.turn j hj ⟨r, rfl, h.all j _ hj⟩ rfl
theorem St.toMF {val : α → Value} {cs : List Value} {S : List Nat} {m : List (Int × α)} (h : St w0 S0 w L) (j : Nat) (hj : L[j]? = some (itI (mapFP val) cs S m)) : ∃ r, cs = [.map (some r)] ∧ St w0 S0 w (L.set j (mapI r val m)) := by
  obtain ⟨r, rfl, rfl, hr⟩ := h.all j _ hj
  exact ⟨r, rfl, h.turn j hj hr rfl⟩
theorem St.toMN1 {v : Value} {S : List Nat} {m : List (Int × α)} (h : St w0 S0 w L) (j : Nat) (hj : L[j]? = some (itI (mapNP R) [v] S m)) : ∃ r, v = .map (some r) ∧ St w0 S0 w (L.set j (mN r R S m none)) := by
  obtain ⟨r, hu, hst⟩ := h.toMN j hj
  cases hu
  exact ⟨r, rfl, hst⟩
theorem St.toMF1 {val : α → Value} {v : Value} {S : List Nat} {m : List (Int × α)} (h : St w0 S0 w L) (j : Nat) (hj : L[j]? = some (itI (mapFP val) [v] S m)) : ∃ r, v = .map (some r) ∧ St w0 S0 w (L.set j (mapI r val m)) := by
  obtain ⟨r, hu, hst⟩ := h.toMF j hj
  cases hu
  exact ⟨r, rfl, hst⟩
theorem St.ofMF {val : α → Value} {r : Nat} {m : List (Int × α)} (h : St w0 S0 w L) (j : Nat) (hj : L[j]? = some (mapI r val m)) : St w0 S0 w (L.set j (itI (mapFP val) [.map (some r)] [r] m)) := h.turn j hj ⟨r, rfl, rfl, h.all j _ hj⟩ rfl
end
end Go.Sx
