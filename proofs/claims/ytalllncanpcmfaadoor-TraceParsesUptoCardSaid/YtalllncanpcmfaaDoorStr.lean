/- strings and strconv, by the kit's contracts: plain functions, and rules. -/
import Derived.Test.YtalllncanpcmfaaDoorArr
import Derived.Below
import Derived.Deep.Draws
import Derived.Sort.Grow
import Derived.Lib.FrozenHead
import Derived.Lib.OthersKept
import Derived.Lib.Join
import Derived.Lib.ItoaNum
import Derived.Lib.LaidTab
import Derived.Lib.Split
import Derived.Lib.IndexMore
import Derived.Lib.ParseIntB
import Derived.Lib.SplitLaws
import Derived.Lib.ConvBytes
import Derived.Lib.AtoiErrMem
import Derived.Stop.IfaceNil
set_option linter.unusedVariables false
set_option linter.unusedSimpArgs false
namespace Go.Sx
open Go.RowKit Go.Sort

theorem Chg.ofBelow {w w' : World} (h : Below w.heap.size w w') : Chg [] w w' := ⟨h.os, h.tape, h.output, h.size, fun k hk _ => h.block k hk⟩
theorem St.zeroTo {w w' : World} (h : Chg [] w w') : St w (fp []) w' [] := ⟨h, fun i it hi => by simp at hi, fun i it hi => by simp at hi, fun i j a b _ hi => by simp at hi, fun i it hi => by simp at hi⟩
theorem chg_grow {w : World} {k : Nat} {os : Array Obj} : Chg [] w (grow (w.drewN k) os) := by
  refine ⟨rfl, rfl, rfl, by simp [grow], fun i hi _ => ?_⟩
  rw [heap_grow_old _ _ (by simpa using hi)]
  simp

def strconv_Itoa (n : Int) : Option ByteArray := if -9223372036854775808 ≤ n ∧ n ≤ 9223372036854775807 then some ⟨(Lib.itoa n).toArray⟩ else none
theorem itoa_ok {P : Program} {f : FuncId} {w : World} {n : Int} {r : ByteArray}
    (hs : ∀ (n : Int), -9223372036854775808 ≤ n → n ≤ 9223372036854775807 → ∀ (w : World), Lib.TabIs P w "internal/strconv.uint64pow10" .u64 Lib.pow10Tab →
      Calls P f #[.int .i64 n] w fun e w' => e = .returned (.string ⟨(Lib.itoa n).toArray⟩) ∧ ∃ k os, w' = grow (w.drewN k) os)
    (hF : strconv_Itoa n = some r) (ht : Lib.TabIs P w "internal/strconv.uint64pow10" .u64 Lib.pow10Tab) :
    Calls P f [.int .i64 n].toArray w (fun e w' => e = .returned (.string r) ∧ St w (fp []) w' []) := by
  unfold strconv_Itoa at hF
  split at hF
  · rename_i h
    cases hF
    refine (hs n h.1 h.2 w ht).mono ?_
    rintro e w' ⟨rfl, k, os, rfl⟩
    exact ⟨rfl, St.zeroTo chg_grow⟩
  · cases hF
def strconv_FormatInt (n b : Int) : Option ByteArray := if b = 10 ∧ -9223372036854775808 ≤ n ∧ n ≤ 9223372036854775807 then some ⟨(Lib.itoa n).toArray⟩ else none
theorem format_ok {P : Program} {f : FuncId} {w : World} {n b : Int} {r : ByteArray}
    (hs : ∀ (n : Int), -9223372036854775808 ≤ n → n ≤ 9223372036854775807 → ∀ (w : World), Lib.TabIs P w "internal/strconv.uint64pow10" .u64 Lib.pow10Tab →
      Calls P f #[.int .i64 n, .int .i64 10] w fun e w' => e = .returned (.string ⟨(Lib.itoa n).toArray⟩) ∧ ∃ k os, w' = grow (w.drewN k) os)
    (hF : strconv_FormatInt n b = some r) (ht : Lib.TabIs P w "internal/strconv.uint64pow10" .u64 Lib.pow10Tab) :
    Calls P f [.int .i64 n, .int .i64 b].toArray w (fun e w' => e = .returned (.string r) ∧ St w (fp []) w' []) := by
  unfold strconv_FormatInt at hF
  split at hF
  · rename_i h
    obtain ⟨rfl, h1, h2⟩ := h
    cases hF
    refine (hs n h1 h2 w ht).mono ?_
    rintro e w' ⟨rfl, k, os, rfl⟩
    exact ⟨rfl, St.zeroTo chg_grow⟩
  · cases hF
def strings_Cut (s sep : ByteArray) : Option (ByteArray × ByteArray × Bool) :=
  if s.size < 4294967281 then some (⟨(Lib.cut s.data.toList sep.data.toList).1.toArray⟩, ⟨(Lib.cut s.data.toList sep.data.toList).2.1.toArray⟩, (Lib.cut s.data.toList sep.data.toList).2.2) else none
theorem cut_ok {P : Program} {f : FuncId} {w : World} {s sep : ByteArray} {r : ByteArray × ByteArray × Bool} {g : Nat} {m : Int}
    (hs : ∀ (s sep : ByteArray) (m : Int) (w : World), s.size < 4294967281 → w.cell? ⟨g, 0, none⟩ = some (.int .i64 m) →
      Calls P f #[.string s, .string sep] w fun e w' => e = .returned (.tuple #[.string ⟨(Lib.cut s.data.toList sep.data.toList).1.toArray⟩, .string ⟨(Lib.cut s.data.toList sep.data.toList).2.1.toArray⟩, .bool (Lib.cut s.data.toList sep.data.toList).2.2]) ∧ ∃ n, w' = w.drewN n)
    (hF : strings_Cut s sep = some r) (hm : w.cell? ⟨g, 0, none⟩ = some (.int .i64 m)) :
    Calls P f [.string s, .string sep].toArray w (fun e w' => e = .returned (.tuple #[.string r.1, .string r.2.1, .bool r.2.2]) ∧ St w (fp []) w' []) := by
  unfold strings_Cut at hF
  split at hF
  · rename_i h
    cases hF
    refine (hs s sep m w h hm).mono ?_
    rintro e w' ⟨rfl, n, rfl⟩
    refine ⟨rfl, St.zeroTo ⟨rfl, rfl, rfl, by simp, fun k hk _ => by simp⟩⟩
  · cases hF
def strings_Join (xs : List ByteArray) (sep : ByteArray) : Option ByteArray :=
  if xs.length ≤ 140737488355328 ∧ (Lib.join (xs.map (·.data.toList)) sep.data.toList).length ≤ 140737488355328 then some ⟨(Lib.join (xs.map (·.data.toList)) sep.data.toList).toArray⟩ else none

def bldP (T e : TypeId) : Rp ByteArray where
  sz := 1
  own w cs S x := ∃ b p v, cs = [.pointer (some ⟨b, 0, none⟩)] ∧ S = b :: v.ownBlock.toList ∧ w.heap[b]? = some (.cells #[p, v] T (0, 0)) ∧ (p = .pointer none ∨ p = .pointer (some ⟨b, 0, none⟩)) ∧ w.ownsRowF 0 e 1 v x.size (Lib.byteCells x.data.toList) ∧ v.ownBlock ≠ some b
  rd w F x cs := cs.length = 1
  len := by rintro w cs S x ⟨b, p, v, rfl, _⟩; rfl
  loc := by
    rintro w w' cs S x h ⟨b, p, v, rfl, rfl, hb, hp, hv, hne⟩
    refine ⟨b, p, v, rfl, rfl, by rw [h b List.mem_cons_self]; exact hb, hp, ⟨hv.1, ?_⟩, hne⟩
    rcases hv.2 with h1 | ⟨g, cap, cur, fz, rfl, h2, h3, h4⟩
    · exact .inl h1
    · refine .inr ⟨g, cap, cur, fz, rfl, h2, ?_, h4⟩
      rw [h g (by simp [Value.ownBlock])]
      exact h3
  lt := by
    rintro w cs S x ⟨b, p, v, rfl, rfl, hb, hp, hv, hne⟩ c hc
    rcases List.mem_cons.1 hc with rfl | hc
    · exact (Array.getElem?_eq_some_iff.1 hb).1
    · rcases hv.2 with h1 | ⟨g, cap, cur, fz, rfl, h2, h3, h4⟩
      · rw [h1.1] at hc; simp [Value.ownBlock] at hc
      · simp [Value.ownBlock] at hc
        subst hc
        exact (Array.getElem?_eq_some_iff.1 h3).1
  nd := by
    rintro w cs S x ⟨b, p, v, rfl, rfl, hb, hp, hv, hne⟩
    cases h : v.ownBlock with
    | none => simp
    | some g => rw [h] at hne; simp; intro e; exact hne (by rw [e])
  see := by rintro w cs S x F ⟨b, p, v, rfl, _⟩ _; rfl
  rlen := by intro w F x cs h; exact h
  rloc := by intro w w' F F' x cs _ _ h; exact h
section
variable {w0 w w' : World} {S0 : List Nat} {L : List Item} {T e : TypeId}
theorem St.toBld (h : St w0 S0 w L) (e : TypeId) (j : Nat) {b : Nat} (hj : L[j]? = some (blkI b T [.pointer none, .slice none 0 0])) : St w0 S0 w (L.set j (itI (bldP T e) [.pointer (some ⟨b, 0, none⟩)] [b] ByteArray.empty)) := by
  refine h.upd (it := blkI b T [.pointer none, .slice none 0 0]) (it' := itI (bldP T e) [.pointer (some ⟨b, 0, none⟩)] [b] ByteArray.empty) j hj (Chg.refl _ _) ?_ (fun q hq => .inl hq) (by simp [itI])
  exact ⟨b, .pointer none, .slice none 0 0, rfl, rfl, h.all j _ hj, .inl rfl, ⟨rfl, .inl ⟨rfl, rfl⟩⟩, by simp [Value.ownBlock]⟩
theorem bld_is {b : Nat} {p v : Value} {x : ByteArray} (hst : St w0 [] w [itI (bldP T e) [.pointer (some ⟨b, 0, none⟩)] (b :: v.ownBlock.toList) x]) (hb : w.heap[b]? = some (.cells #[p, v] T (0, 0))) (hp : p = .pointer none ∨ p = .pointer (some ⟨b, 0, none⟩))
    (hv : w.ownsRowF 0 e 1 v x.size (Lib.byteCells x.data.toList)) (hne : v.ownBlock ≠ some b) : Lib.IsBuilderF T e w0.heap.size b (Lib.byteCells x.data.toList) w := by
  have ho := fun q hq => (hst.own 0 _ rfl q hq).resolve_left (by simp)
  have hB : w0.heap.size ≤ b := ho b (by simp [itI])
  have hn : (Lib.byteCells x.data.toList).length = x.size := by rw [hv.1]; simp
  have h2 : w.ownsRowF w0.heap.size e 1 v x.size (Lib.byteCells x.data.toList) := by
    refine ⟨hv.1, ?_⟩
    rcases hv.2 with h1 | ⟨g, cap, cur, fz, rfl, h2, h3, h4⟩
    · exact .inl h1
    · exact .inr ⟨g, cap, cur, fz, rfl, ho g (by simp [itI, Value.ownBlock]), h3, h4⟩
  rw [← hn] at h2
  rcases hp with rfl | rfl
  · exact .inl ⟨hB, v, hb, h2, hne⟩
  · exact .inr ⟨hB, v, hb, h2, hne⟩
theorem bld_st {b : Nat} {p : Value} {x y : ByteArray} {v : Value} {S : List Nat} (hst : St w0 [] w [itI (bldP T e) [v] S x]) (hp : p = .pointer none ∨ p = .pointer (some ⟨b, 0, none⟩)) (h : Lib.BuilderAtF T e w0.heap.size b p (Lib.byteCells y.data.toList) w') (hB : Below w0.heap.size w w')
    (hv : v = .pointer (some ⟨b, 0, none⟩)) : ∃ S', St w0 [] w' [itI (bldP T e) [v] S' y] := by
  obtain ⟨h1, u, h2, h3, h4⟩ := h
  have hn : (Lib.byteCells y.data.toList).length = y.size := by simp [Lib.byteCells]
  subst hv
  rw [hn] at h3
  refine ⟨b :: u.ownBlock.toList, ⟨⟨hB.os.trans hst.chg.os, hB.tape.trans hst.chg.tape, hB.output.trans hst.chg.output, Nat.le_trans hst.chg.size hB.size, fun k hk _ => (hB.block k hk).trans (hst.chg.block k hk (by simp))⟩, ?_, ?_, ?_, ?_⟩⟩
  · intro i it hi
    cases i with
    | succ i => simp at hi
    | zero =>
      simp at hi; subst hi
      refine ⟨b, p, u, rfl, rfl, h2, hp, ⟨h3.1, ?_⟩, h4⟩
      rcases h3.2 with h | ⟨g, cap, cur, fz, rfl, x1, x2⟩
      · exact .inl h
      · exact .inr ⟨g, cap, cur, fz, rfl, Nat.zero_le _, x2⟩
  · intro i it hi
    cases i with
    | succ i => simp at hi
    | zero =>
      simp at hi; subst hi
      show (b :: u.ownBlock.toList).Nodup
      cases h : u.ownBlock with
      | none => simp
      | some g => rw [h] at h4; simp; intro e; exact h4 (by rw [e])
  · intro i j a c hij hi hj
    cases i with
    | succ i => simp at hi
    | zero => cases j with
      | zero => exact absurd rfl hij
      | succ j => simp at hj
  · intro i it hi q hq
    cases i with
    | succ i => simp at hi
    | zero =>
      simp at hi; subst hi
      right
      rcases List.mem_cons.1 (show q ∈ b :: u.ownBlock.toList from hq) with rfl | hq
      · exact h1
      · rcases h3.2 with h | ⟨g, cap, cur, fz, rfl, x1, x2⟩
        · rw [h.1] at hq; simp [Value.ownBlock] at hq
        · simp [Value.ownBlock] at hq
          subst hq; exact x1
end
def strings_Builder_WriteString (x s : ByteArray) : Option ByteArray := if x.size + s.size ≤ 140737488355328 then some (x ++ s) else none
theorem bwrite_ok {P : Program} {f : FuncId} {w0 w : World} {T e : TypeId} {v : Value} {S : List Nat} {x s r : ByteArray}
    (hs : ∀ (B b : Nat) (bs : List Value) (s : ByteArray) (w : World), Lib.IsBuilderF T e B b bs w → bs.length + s.size ≤ 140737488355328 → B ≤ w.heap.size →
      Calls P f #[.pointer (some ⟨b, 0, none⟩), .string s] w fun e' w' => e' = .returned (.tuple #[.int .i64 s.size, .nilIface]) ∧ (Lib.BuilderAtF T e B b (.pointer (some ⟨b, 0, none⟩)) (bs ++ Lib.strCells s) w' ∧ Below B w w'))
    (hF : strings_Builder_WriteString x s = some r) (hst : St w0 [] w [itI (bldP T e) [v] S x]) :
    Calls P f [v, .string s].toArray w (fun e' w' => ∃ S', e' = .returned (.tuple #[.int .i64 s.size, .nilIface]) ∧ St w0 [] w' [itI (bldP T e) [v] S' r]) := by
  unfold strings_Builder_WriteString at hF
  split at hF
  · rename_i hle
    cases hF
    obtain ⟨b, p, u, hv, hS, hb, hp, hu, hne⟩ := hst.all 0 _ rfl
    cases hv
    subst hS
    have hI := bld_is hst hb hp hu hne
    refine (hs w0.heap.size b _ s w hI (by simp [Lib.byteCells]; exact hle) hst.chg.size).mono ?_
    rintro e' w' ⟨rfl, h1, h2⟩
    have e1 : Lib.byteCells x.data.toList ++ Lib.strCells s = Lib.byteCells (x ++ s).data.toList := by simp [Lib.byteCells, Lib.strCells]
    rw [e1] at h1
    obtain ⟨S', h3⟩ := bld_st hst (.inr rfl) h1 h2 rfl
    exact ⟨S', rfl, h3⟩
  · cases hF
theorem bstring_ok {P : Program} {f : FuncId} {w0 w : World} {T e : TypeId} {v : Value} {S : List Nat} {x : ByteArray}
    (hs : ∀ (B b : Nat) (l : List UInt8) (w : World), Lib.IsBuilderF T e B b (Lib.byteCells l) w → B ≤ w.heap.size →
      Calls P f #[.pointer (some ⟨b, 0, none⟩)] w fun e' w' => e' = .returned (.string ⟨l.toArray⟩) ∧ (Lib.IsBuilderF T e B b (Lib.byteCells l) w' ∧ Below B w w'))
    (hst : St w0 [] w [itI (bldP T e) [v] S x]) :
    Calls P f [v].toArray w (fun e' w' => ∃ S', e' = .returned (.string x) ∧ St w0 [] w' [itI (bldP T e) [v] S' x]) := by
  obtain ⟨b, p, u, hv, hS, hb, hp, hu, hne⟩ := hst.all 0 _ rfl
  cases hv
  subst hS
  refine (hs w0.heap.size b x.data.toList w (bld_is hst hb hp hu hne) hst.chg.size).mono ?_
  rintro e' w' ⟨rfl, h1, h2⟩
  rcases h1 with h1 | h1
  · obtain ⟨S', h3⟩ := bld_st hst (.inl rfl) h1 h2 rfl
    exact ⟨S', rfl, h3⟩
  · obtain ⟨S', h3⟩ := bld_st hst (.inr rfl) h1 h2 rfl
    exact ⟨S', rfl, h3⟩

def sEq (a b : ByteArray) : Bool := a.toList == b.toList
def sNe (a b : ByteArray) : Bool := !sEq a b
/-- an error, or none -/
def errV (T : TypeId) (b : Bool) (x : Value) : Value := if b then .iface T x else .nilIface
section
variable {P : Program} {N : Nat} {fr : List (Nat × Value)}
theorem errneq_run {o : Oper} {t t2 : TypeId} {x y : Operand} {T : TypeId} {b : Bool} {p : Value} (ho : o.op = .binOp .neq t x y t2) (hx : look fr x = some (errV T b p)) (hy : y = .const .nilIface)
    (hm : P.isIface t = true) : ∀ a w, Rep N fr a → (execOp a.eval o).run P w = .ok (.value (.bool b)) w := by
  intro a w ha
  subst hy
  have e1 := ha.look hx
  have e2 : a.eval (.const .nilIface) = .nilIface := rfl
  cases b with
  | true =>
    have e1 : a.eval x = .iface T p := by simpa [errV] using e1
    simp [execOp, ho, e1, e2, run_neq_iface_nil w t hm, eqGuard]
  | false =>
    have e1 : a.eval x = .nilIface := by simpa [errV] using e1
    simp [execOp, ho, e1, e2, run_neq_nil_nil_at w t hm, eqGuard]
def catB (a b : ByteArray) : Option ByteArray := if a.size + b.size ≤ 9223372036854775807 then some (a ++ b) else none
theorem cat_run {o : Oper} {t t2 : TypeId} {x y : Operand} {a b r : ByteArray} (ho : o.op = .binOp .add t x y t2) (hx : look fr x = some (.string a)) (hy : look fr y = some (.string b)) (hu : P.underlying t = some .string)
    (h : catB a b = some r) : ∀ q w, Rep N fr q → (execOp q.eval o).run P w = .ok (.value (.string r)) w := by
  intro q w ha
  have e1 := ha.look hx
  have e2 := ha.look hy
  unfold catB at h
  split at h
  · rename_i hle
    cases h
    have h1 : ¬ ((a.size + b.size : Nat) : Int) > IntKind.i64.max := by
      rw [show IntKind.i64.max = 9223372036854775807 from rfl]; omega
    simp [execOp, ho, e1, e2, eqGuard, binOp, run_underlying hu, Op.stringOp, h1]
    omega
  · cases h
end
/-- a part of a string -/
def scut (s : ByteArray) (lo hi : Int) : Option ByteArray := if 0 ≤ lo ∧ lo ≤ hi ∧ hi ≤ (s.size : Int) then some (s.extract lo.toNat hi.toNat) else none
theorem scut_some {s r : ByteArray} {lo hi : Int} (h : scut s lo hi = some r) : 0 ≤ lo ∧ lo ≤ hi ∧ hi ≤ (s.size : Int) ∧ r = s.extract lo.toNat hi.toNat := by
  unfold scut at h
  split at h
  · rename_i h1
    cases h
    exact ⟨h1.1, h1.2.1, h1.2.2, rfl⟩
  · cases h
section
variable {P : Program} {N : Nat} {fr : List (Nat × Value)}
theorem ssub_run {o : Oper} {t : TypeId} {x y z : Operand} {s r : ByteArray} {p q : Int} {kd ke : IntKind} (ho : o.op = .slice t x (some y) (some z) none) (hx : look fr x = some (.string s)) (hy : look fr y = some (.int kd p)) (hz : look fr z = some (.int ke q))
    (ht : P.underlying t = some .string) (h : scut s p q = some r) : ∀ a w, Rep N fr a → (execOp a.eval o).run P w = .ok (.value (.string r)) w := by
  intro a w ha
  have e1 := ha.look hx
  have e2 := ha.look hy
  have e4 := ha.look hz
  obtain ⟨h0, h1, h2, rfl⟩ := scut_some h
  have h3 : 0 ≤ q ∧ q ≤ (s.size : Int) := ⟨by omega, h2⟩
  have h5 : 0 ≤ p ∧ p ≤ q := ⟨h0, h1⟩
  have h6 : (q.toNat : Int) = q := by omega
  simp [execOp, ho, Instr.sliceAt, Instr.slice, Instr.sliceBounds, Instr.sliceBound, run_underlying ht, e1, e2, e4, asIntOf, h3, h5, h6]
theorem ssuf_run {o : Oper} {t : TypeId} {x y : Operand} {s r : ByteArray} {p : Int} {kd : IntKind} (ho : o.op = .slice t x (some y) none none) (hx : look fr x = some (.string s)) (hy : look fr y = some (.int kd p))
    (ht : P.underlying t = some .string) (h : scut s p (s.size : Int) = some r) : ∀ a w, Rep N fr a → (execOp a.eval o).run P w = .ok (.value (.string r)) w := by
  intro a w ha
  have e1 := ha.look hx
  have e2 := ha.look hy
  obtain ⟨h0, h1, h2, rfl⟩ := scut_some h
  have h5 : 0 ≤ p ∧ p ≤ (s.size : Int) := ⟨h0, h1⟩
  simp [execOp, ho, Instr.sliceAt, Instr.slice, Instr.sliceBounds, Instr.sliceBound, run_underlying ht, e1, e2, asIntOf, h5]
theorem spre_run {o : Oper} {t : TypeId} {x z : Operand} {s r : ByteArray} {q : Int} {ke : IntKind} (ho : o.op = .slice t x none (some z) none) (hx : look fr x = some (.string s)) (hz : look fr z = some (.int ke q))
    (ht : P.underlying t = some .string) (h : scut s 0 q = some r) : ∀ a w, Rep N fr a → (execOp a.eval o).run P w = .ok (.value (.string r)) w := by
  intro a w ha
  have e1 := ha.look hx
  have e4 := ha.look hz
  obtain ⟨h0, h1, h2, rfl⟩ := scut_some h
  have h3 : 0 ≤ q ∧ q ≤ (s.size : Int) := ⟨by omega, h2⟩
  simp [execOp, ho, Instr.sliceAt, Instr.slice, Instr.sliceBounds, Instr.sliceBound, run_underlying ht, e1, e4, asIntOf, h3]
end
/-- strings.Index at one byte -/
def stringslite_Index (s sep : ByteArray) : Option Int := match sep.data.toList with
  | [c] => some (Lib.indexByte s.data.toList c)
  | _ => none
theorem index_ok {P : Program} {f : FuncId} {w : World} {s sep : ByteArray} {r : Int}
    (hs : ∀ (s : ByteArray) (c : UInt8) (w : World), Calls P f #[.string s, .string ⟨#[c]⟩] w fun e w' => e = .returned (.int .i64 (Lib.indexByte s.data.toList c)) ∧ w' = w)
    (hF : stringslite_Index s sep = some r) : Calls P f [.string s, .string sep].toArray w (fun e w' => e = .returned (.int .i64 r) ∧ St w (fp []) w' []) := by
  unfold stringslite_Index at hF
  split at hF
  · rename_i c hc
    cases hF
    have : sep = ⟨#[c]⟩ := by
      have h2 : sep.data = #[c] := by rw [← hc]
      cases sep with
      | mk d => simp only at h2; rw [h2]
    subst this
    refine (hs s c w).mono ?_
    rintro e w' ⟨rfl, rfl⟩
    exact ⟨rfl, St.zeroTo (Chg.refl _ _)⟩
  · cases hF
/-- the library's variables that the contracts ask -/
structure LibG (P : Program) (gp gm gs gr : Nat) (w : World) (S : List Nat) : Prop where
  pow : ∃ T fz, w.heap[gp]? = some (.cells (Lib.pow10Tab.map fun z => Value.int .u64 z).toArray T fz)
  max : ∃ m, w.cell? ⟨gm, 0, none⟩ = some (.int .i64 m)
  syn : ∃ ev, w.cell? ⟨gs, 0, none⟩ = some ev ∧ (ev = .nilIface ∨ ∃ te pe, ev = .iface te pe)
  rng : ∃ ev, w.cell? ⟨gr, 0, none⟩ = some ev ∧ (ev = .nilIface ∨ ∃ te pe, ev = .iface te pe)
  far : gp ∉ S ∧ gm ∉ S ∧ gs ∉ S ∧ gr ∉ S
theorem cell_same {w w' : World} {b : Nat} {k : Nat} {v : Value} (h : w.cell? ⟨b, k, none⟩ = some v) (e : w'.heap[b]? = w.heap[b]?) : w'.cell? ⟨b, k, none⟩ = some v := by
  rw [← h]
  simp only [World.cell?, e]
theorem LibG.give {P : Program} {gp gm gs gr : Nat} {w0 w : World} {S0 : List Nat} {L : List Item} (h : LibG P gp gm gs gr w0 S0) (hst : St w0 S0 w L) (ids : List Nat) : LibG P gp gm gs gr w (fp (sel L ids)) := by
  obtain ⟨⟨T, fz, h1⟩, ⟨m, h2⟩, ⟨e1, h3, h3'⟩, ⟨e2, h4, h4'⟩, f1, f2, f3, f4⟩ := h
  have lt1 := (Array.getElem?_eq_some_iff.1 h1).1
  have lt2 := cell_lt h2
  have lt3 := cell_lt h3
  have lt4 := cell_lt h4
  have same : ∀ b, b < w0.heap.size → b ∉ S0 → w.heap[b]? = w0.heap[b]? := fun b hb hn => hst.chg.block b hb hn
  have out : ∀ b, b < w0.heap.size → b ∉ S0 → b ∉ fp (sel L ids) := by
    intro b hb hn hm
    obtain ⟨i, it, hi, hx⟩ := mem_fp.1 hm
    obtain ⟨q, _, hq⟩ := sel_get hi
    rcases getD_cases hq with hq | hq
    · rcases hst.own q it hq b hx with h | h
      · exact hn h
      · omega
    · rw [hq] at hx; cases hx
  exact ⟨⟨T, fz, by rw [same gp lt1 f1]; exact h1⟩, ⟨m, cell_same h2 (same gm lt2 f2)⟩, ⟨e1, cell_same h3 (same gs lt3 f3), h3'⟩, ⟨e2, cell_same h4 (same gr lt4 f4), h4'⟩, out gp lt1 f1, out gm lt2 f2, out gs lt3 f3, out gr lt4 f4⟩
theorem LibG.bor {P : Program} {gp gm gs gr : Nat} {wb w : World} {Sb S : List Nat} (h : LibG P gp gm gs gr wb Sb) (hb : Bor wb Sb w S) : LibG P gp gm gs gr w S := by
  obtain ⟨⟨T, fz, h1⟩, ⟨m, h2⟩, ⟨e1, h3, h3'⟩, ⟨e2, h4, h4'⟩, f1, f2, f3, f4⟩ := h
  have lt1 := (Array.getElem?_eq_some_iff.1 h1).1
  have lt2 := cell_lt h2
  have lt3 := cell_lt h3
  have lt4 := cell_lt h4
  have out : ∀ b, b < wb.heap.size → b ∉ Sb → b ∉ S := by
    intro b hl hn hm
    rcases hb.sub b hm with h | h
    · exact hn h
    · omega
  exact ⟨⟨T, fz, by rw [hb.same gp lt1 f1]; exact h1⟩, ⟨m, cell_same h2 (hb.same gm lt2 f2)⟩, ⟨e1, cell_same h3 (hb.same gs lt3 f3), h3'⟩, ⟨e2, cell_same h4 (hb.same gr lt4 f4), h4'⟩, out gp lt1 f1, out gm lt2 f2, out gs lt3 f3, out gr lt4 f4⟩
theorem LibG.tab {P : Program} {gp gm gs gr : Nat} {w : World} {S : List Nat} (h : LibG P gp gm gs gr w S) (hn : P.globalNamed "internal/strconv.uint64pow10" = some gp) : Lib.TabIs P w "internal/strconv.uint64pow10" .u64 Lib.pow10Tab := by
  obtain ⟨T, fz, h1⟩ := h.pow
  unfold Lib.TabIs World.var?
  rw [hn]
  simp [h1]
def strings_Split (s sep : ByteArray) : Option (List ByteArray) := if s.size < 4294967281 ∧ 1 ≤ sep.size then some (Lib.splitB sep 0 (Lib.countB s sep) s) else none
theorem flat_text (xs : List ByteArray) : flat encText xs = xs.map Value.string := by
  induction xs with
  | nil => rfl
  | cons x r ih => simp only [flat, encText, List.map_cons, ih]; rfl
theorem split_ok {P : Program} {f : FuncId} {T : TypeId} {w : World} {s sep : ByteArray} {r : List ByteArray} {g : Nat} {m : Int}
    (hs : ∀ (s sep : ByteArray) (m : Int) (w : World), s.size < 4294967281 → w.cell? ⟨g, 0, none⟩ = some (.int .i64 m) → 1 ≤ sep.size →
      Calls P f #[.string s, .string sep] w fun e w' => e = .returned (.slice (some ⟨w.heap.size, 0, none⟩) (Lib.countB s sep + 1) (Lib.countB s sep + 1)) ∧ w' = w.alloc (.cells ((Lib.splitB sep 0 (Lib.countB s sep) s).map Value.string).toArray T))
    (hF : strings_Split s sep = some r) (hm : w.cell? ⟨g, 0, none⟩ = some (.int .i64 m)) :
    Calls P f [.string s, .string sep].toArray w (fun e w' => ∃ x0 : Value, e = .returned x0 ∧ St w (fp []) w' [rowI x0 T encText 1 r]) := by
  unfold strings_Split at hF
  split at hF
  · rename_i h
    cases hF
    refine (hs s sep m w h.1 hm h.2).mono ?_
    rintro e w' ⟨rfl, rfl⟩
    have hl := Lib.splitB_all sep h.2 0 _ s rfl
    have hle := Lib.countB_le sep h.2 s.size s (Nat.le_refl _)
    refine ⟨_, rfl, ?_⟩
    have := (St.zeroTo (Chg.refl [] w)).push (it := rowI (.slice (some ⟨w.heap.size, 0, none⟩) (Lib.countB s sep + 1) (Lib.countB s sep + 1)) T encText 1 (Lib.splitB sep 0 (Lib.countB s sep) s)) (Chg.alloc w (.cells ((Lib.splitB sep 0 (Lib.countB s sep) s).map Value.string).toArray T)) ?_ ?_ ?_
    · simpa using this
    · show Owns _ T 1 _ _ _
      refine ⟨by rw [flat_text]; simp, .inr ⟨w.heap.size, 0, Lib.countB s sep + 1, ((Lib.splitB sep 0 (Lib.countB s sep) s).map Value.string).toArray, by rw [hl], by omega, (by unfold World.alloc; exact Array.getElem?_push_size), by omega, by simp only [maxLen]; omega, by rw [List.size_toArray, List.length_map, hl]; omega, ?_⟩⟩
      rw [flat_text]
      simp
      exact List.take_of_length_le (by simp)
    · intro b hb
      simp [rowI, ownB_pos] at hb
      omega
    · exact rowI_nodup
  · cases hF
theorem join_ok {P : Program} {f : FuncId} {w : World} {v : Value} {xs : List ByteArray} {sep r : ByteArray}
    (hs : ∀ (bk o c : Nat) (xs : List ByteArray) (sep : ByteArray) (w : World), (∀ (j : Nat) x, xs[j]? = some x → w.cell? ⟨bk, o + j, none⟩ = some (.string x)) → bk < w.heap.size → xs.length ≤ 140737488355328 → xs.length ≤ c → (Lib.join (xs.map (·.data.toList)) sep.data.toList).length ≤ 140737488355328 →
      Calls P f #[.slice (some ⟨bk, o, none⟩) xs.length c, .string sep] w fun e w' => e = .returned (.string ⟨(Lib.join (xs.map (·.data.toList)) sep.data.toList).toArray⟩) ∧ Below w.heap.size w w')
    (hn : ∀ (a : Option Addr) (c : Nat) (sep : ByteArray) (w : World), Calls P f #[.slice a 0 c, .string sep] w fun e w' => e = .returned (.string ⟨#[]⟩) ∧ w' = w)
    (hF : strings_Join xs sep = some r) (h0 : Rd w (fp []) v encText 1 xs) :
    Calls P f [v, .string sep].toArray w (fun e w' => e = .returned (.string r) ∧ St w (fp []) w' []) := by
  unfold strings_Join at hF
  split at hF
  · rename_i h
    cases hF
    obtain ⟨hl, a, c, rfl, hc, hx⟩ := h0
    cases xs with
    | nil =>
      refine (hn a c sep w).mono ?_
      rintro e w' ⟨rfl, rfl⟩
      exact ⟨rfl, St.zeroTo (Chg.refl _ _)⟩
    | cons x l =>
      obtain ⟨b, o, rfl, _, h2⟩ := hx 0 x 0 (.string x) rfl rfl
      refine (hs b o c (x :: l) sep w (fun j y hy => ?_) (cell_lt h2) h.1 hc h.2).mono ?_
      · obtain ⟨b', o', e, _, h3⟩ := hx j y 0 (.string y) hy rfl
        cases e
        simpa using h3
      · rintro e w' ⟨rfl, hB⟩
        exact ⟨rfl, St.zeroTo (Chg.ofBelow hB)⟩
  · cases hF
def strconv_ParseInt (s : ByteArray) (base bits : Int) : Option (Int × Bool) :=
  if base = 10 ∧ bits = 64 ∧ s.size ≤ 281474976710656 then (match Lib.parseIntB 64 s.data.toList with | .ok v => some (v, false) | .range => some (Lib.intSat 64 s.data.toList, true) | _ => some (0, true)) else none
theorem parse_ok {P : Program} {f : FuncId} {w : World} {s : ByteArray} {base bits : Int} {r : Int × Bool} {gs gr e5 T T2 : Nat} {nm : Value}
    (h1 : ∀ (s : ByteArray), s.size ≤ 9223372036854775806 → ∀ (v : Int), Lib.parseIntB 64 s.data.toList = .ok v → ∀ (w : World),
      Calls P f #[.string s, .int .i64 10, .int .i64 64] w fun e w' => e = .returned (.tuple #[.int .i64 v, .nilIface]) ∧ (w' = w ∨ ∃ t, w' = Lib.bytesWorld w e5 t))
    (h2 : ∀ (s : ByteArray), s.size ≤ 281474976710656 → Lib.parseIntB 64 s.data.toList = Lib.parseIntB 64 [] → ∀ (ev : Value) (w : World), w.cell? ⟨gs, 0, none⟩ = some ev → (ev = .nilIface ∨ ∃ te pe, ev = .iface te pe) →
      Calls P f #[.string s, .int .i64 10, .int .i64 64] w fun e w' => ∃ N, e = .returned (.tuple #[.int .i64 (0), .iface T (.pointer (some ⟨N, 0, none⟩))]) ∧ w.heap.size ≤ N ∧ w'.heap[N]? = some (.cells #[nm, .string s, ev] T2 (0, 0)) ∧ Below w.heap.size w w')
    (h3 : ∀ (s : ByteArray), s.size ≤ 281474976710656 → Lib.parseIntB 64 s.data.toList = .range → ∀ (ev : Value) (w : World), w.cell? ⟨gr, 0, none⟩ = some ev → (ev = .nilIface ∨ ∃ te pe, ev = .iface te pe) →
      Calls P f #[.string s, .int .i64 10, .int .i64 64] w fun e w' => ∃ N, e = .returned (.tuple #[.int .i64 (Lib.intSat 64 s.data.toList), .iface T (.pointer (some ⟨N, 0, none⟩))]) ∧ w.heap.size ≤ N ∧ w'.heap[N]? = some (.cells #[nm, .string s, ev] T2 (0, 0)) ∧ Below w.heap.size w w')
    (hF : strconv_ParseInt s base bits = some r) (hy : ∃ ev, w.cell? ⟨gs, 0, none⟩ = some ev ∧ (ev = .nilIface ∨ ∃ te pe, ev = .iface te pe)) (hz : ∃ ev, w.cell? ⟨gr, 0, none⟩ = some ev ∧ (ev = .nilIface ∨ ∃ te pe, ev = .iface te pe)) :
    Calls P f [.string s, .int .i64 base, .int .i64 bits].toArray w (fun e w' => ∃ x : Value, e = .returned (.tuple #[.int .i64 r.1, errV T r.2 x]) ∧ St w (fp []) w' []) := by
  unfold strconv_ParseInt at hF
  split at hF
  · rename_i h
    obtain ⟨rfl, rfl, hle⟩ := h
    cases hp : Lib.parseIntB 64 s.data.toList
    · rename_i v
      rw [hp] at hF; cases hF
      refine (h1 s (by omega) v hp w).mono ?_
      rintro e w' ⟨rfl, h | ⟨t, h⟩⟩
      · subst h; exact ⟨.nilIface, rfl, St.zeroTo (Chg.refl _ _)⟩
      · subst h
        exact ⟨.nilIface, rfl, St.zeroTo (Chg.ofBelow (Lib.bytesWorld_below w e5 t))⟩
    · rw [hp] at hF; cases hF
      obtain ⟨ev, a, b⟩ := hy
      refine (h2 s hle hp ev w a b).mono ?_
      rintro e w' ⟨N, rfl, _, _, hB⟩
      exact ⟨_, rfl, St.zeroTo (Chg.ofBelow hB)⟩
    · rw [hp] at hF; cases hF
      obtain ⟨ev, a, b⟩ := hz
      refine (h3 s hle hp ev w a b).mono ?_
      rintro e w' ⟨N, rfl, _, _, hB⟩
      exact ⟨_, rfl, St.zeroTo (Chg.ofBelow hB)⟩
  · cases hF
theorem flat_take {α : Type} {enc : α → List Value} {sz : Nat} (he : ∀ x, (enc x).length = sz) : ∀ {xs : List α} {t : Nat} {u : α}, xs[t]? = some u → ((flat enc xs).drop (t * sz)).take sz = enc u
  | [], t, u, h => by simp at h
  | x :: r, 0, u, h => by
    simp at h; subst h
    simp only [flat, Nat.zero_mul, List.drop_zero]
    rw [List.take_append_of_le_length (by rw [he]; omega), List.take_of_length_le (by rw [he]; omega)]
  | x :: r, t + 1, u, h => by
    have := flat_take he (xs := r) (t := t) (u := u) (by simpa using h)
    simp only [flat]
    have e : (enc x ++ flat enc r).drop ((t + 1) * sz) = (flat enc r).drop (t * sz) := by
      rw [show (t + 1) * sz = sz + t * sz by rw [Nat.add_mul]; omega, ← List.drop_drop, List.drop_left' (he x)]
    rw [e]
    exact this
section
variable {P : Program} {N : Nat} {fr : List (Nat × Value)} {w0 w : World} {S0 : List Nat} {L : List Item}
theorem vidx_run {α : Type} {enc : α → List Value} {xs : List α} {o : Oper} {t e n sz : Nat} {x y : Operand} {q : Int} {kd : IntKind} {u : α} (ho : o.op = .index t x y) (hx : look fr x = some (.agg (flat enc xs).toArray)) (hy : look fr y = some (.int kd q))
    (ht : P.underlying t = some (.array n e)) (hs : psem P (sizeOf e) = some sz) (hg : psem P (isAgg e) = some true) (he : ∀ x, (enc x).length = sz) (hn : xs.length = n) (h : idx xs q = some u) :
    ∀ a w, Rep N fr a → (execOp a.eval o).run P w = .ok (.value (.agg (enc u).toArray)) w := by
  intro a w ha
  have e1 := ha.look hx
  have e2 := ha.look hy
  unfold idx at h
  split at h
  case isFalse => cases h
  rename_i h0
  have hlt := (List.getElem?_eq_some_iff.1 h).1
  have h1 : q < (n : Int) := by omega
  have := flat_take he h
  have e3 : (flat enc xs).toArray.extract (q.toNat * sz) (q.toNat * sz + sz) = (enc u).toArray := by
    rw [← this]
    simp [List.take_drop]
  simp [execOp, ho, Instr.index, e1, e2, asIntOf, run_underlying ht, h0, h1, part, psem_run hs, psem_run hg, e3]
  exact this
theorem Rd.flatAll {α : Type} {b k n c sz : Nat} {enc : α → List Value} {xs : List α} (h : Rd w0 S0 (.slice (some ⟨b, k, none⟩) n c) enc sz xs) (hst : St w0 S0 w L) (he : ∀ x, (enc x).length = sz) (hp : 0 < sz) :
    ∀ q u, (flat enc xs)[q]? = some u → w.cell? ⟨b, k + q, none⟩ = some u := by
  intro q u hq
  obtain ⟨_, a', c', hv, _, hc⟩ := h.on hst
  obtain ⟨t, f, x, h1, h2, rfl⟩ := flat_split he hp hq
  obtain ⟨b', o', e, _, h3⟩ := hc t x f u h1 h2
  cases hv
  cases e
  rw [← Nat.add_assoc]
  exact h3
end
end Go.Sx
