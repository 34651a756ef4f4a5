import Derived.Test.YtgmmfjpmahcocaaGreatDoorPlan
import Derived.Laws.StructEq
import Derived.WalkSpells
set_option linter.unusedVariables false
set_option linter.unusedSimpArgs false
namespace Go.Sx
open Go.RowKit
section
variable {P : Program} {N : Nat} {fr : List (Nat × Value)} {w : World}
theorem zgK {ty : TypeId} {a : Addr} {v : Value} (h : (Instr.loadAt ty (.pointer (some a))).run P w = .ok v w) : (loadVar ty a).run P w = .ok v w := by
 simpa [Instr.loadAt, Instr.sureAddr] using h
theorem QW.ret_c {fn : Func} {R : Ending -> World -> Prop} {s0 : Nat} {v0 : Value} {y0 : TypeId} {a0 : Addr} (hr : fn.results = #[.cell s0 y0]) (h0 : zeR fr s0 = some (.pointer (some a0))) (l0 : (Instr.loadAt y0 (.pointer (some a0))).run P w = .ok v0 w)
  (h : R (.returned (v0)) w) : QW N (bodyPost P fn R) .ret fr w := fun x hx => ⟨hx.defers, _, by
 have e : (results fn x.tmps).run P w = .ok (v0) w := by
  simp [results, hr, Array.getD_eq_getD_getElem?, hx.get _ _ h0, zgK l0, asAddr, Sem.run_bind, Result.andThen]
 exact e, h⟩
theorem QW.ret_ct {fn : Func} {R : Ending -> World -> Prop} {s0 : Nat} {v0 : Value} {y0 : TypeId} {a0 : Addr} {s1 : Nat} {v1 : Value} (hr : fn.results = #[.cell s0 y0, .tmp s1]) (h0 : zeR fr s0 = some (.pointer (some a0))) (l0 : (Instr.loadAt y0 (.pointer (some a0))).run P w = .ok v0 w) (h1 : zeR fr s1 = some v1)
  (h : R (.returned (.tuple #[v0, v1])) w) : QW N (bodyPost P fn R) .ret fr w := fun x hx => ⟨hx.defers, _, by
 have e : (results fn x.tmps).run P w = .ok (.tuple #[v0, v1]) w := by
  simp [results, hr, Array.getD_eq_getD_getElem?, hx.get _ _ h0, hx.get _ _ h1, zgK l0, asAddr, Sem.run_bind, Result.andThen]
 exact e, h⟩
theorem xm {m : Nat} {u : Unit} (h : room m 1 = some u) : m <= 9223372036854775807 := by
 have := jR h
 omega
def vH (x y : Int) : Int := if y < x then y else x
def zay (x y : Int) : Int := if y > x then y else x
def zhA (s : ByteArray) (t : Int) : Option Int := match (if 0 <= t then s[t.toNat]? else none) with
 | some b => some (b.toNat : Int)
 | none => none
theorem zhB {o : Oper} {t : TypeId} {x y : Operand} {s : ByteArray} {q c : Int} {kd : IntKind} (ho : o.op = .index t x y) (hx : look fr x = some (.string s)) (hy : look fr y = some (.int kd q))
  (ht : P.underlying t = some .string) (h : zhA s q = some c) : ∀ a w, Rep N fr a -> (execOp a.eval o).run P w = .ok (.value (.int .u8 c)) w := by
 intro a w ha
 have e1 := ha.look hx
 have e2 := ha.look hy
 unfold zhA at h
 split at h
 ·rename_i b hb
  cases h
  simp [execOp, ho, Instr.index, e1, e2, asIntOf, run_underlying ht, hb]
 ·cases h
theorem zy {o : Oper} {t : TypeId} {x y : Operand} {n : Nat} (e sz : Nat) {b k : Nat} {q : Int} {kd : IntKind} (ho : o.op = .indexAddr t x y) (hx : look fr x = some (.pointer (some ⟨b, k, none⟩))) (hy : look fr y = some (.int kd q))
  (h0 : 0 <= q) (h1 : q < (n : Int)) (ht : P.underlying t = some (.array n e)) (hs : zbz P (sizeOf e) = some sz) : ∀ a w, Rep N fr a -> (execOp a.eval o).run P w = .ok (.value (.pointer (some ⟨b, k + q.toNat * sz, none⟩))) w := by
 intro a w ha
 have e1 := ha.look hx
 have e2 := ha.look hy
 simp [execOp, ho, Instr.indexAt, Instr.sureAddr, e1, e2, asIntOf, run_underlying ht, h0, h1, jE hs, za7]
end
def zgf (P : Program) (eqv : TypeId -> Value -> Value -> Option Bool) (xs ys : Array Value) : List Field -> Option Bool
 | [] => some true
 | f :: r => match f.name == "_", zbz P (part f.type xs f.offset), zbz P (part f.type ys f.offset) with
  | false, some x, some y => match eqv f.type x y, zgf P eqv xs ys r with
   | some b, some c => some (b && c)
   | _, _ => none
  | _, _, _ => none
def zk6 (P : Program) : Nat -> TypeId -> Value -> Value -> Option Bool
 | 0, _, _, _ => none
 | n + 1, t, x, y => match P.underlying t, x, y with
  | some (.int _), .int k a, .int k' b => if k = k' then some (a == b) else none
  | some .bool, .bool a, .bool b => some (a == b)
  | some .string, .string a, .string b => some (a == b)
  | some (.struct fs), .agg xs, .agg ys => match P.stoodInHeld t with
   | false => zgf P (zk6 P n) xs ys fs.toList
   | true => none
  | _, _, _ => none
theorem zj0 {P : Program} {eqv : TypeId -> Value -> Value -> Option Bool} {xs ys : Array Value} {d : Nat} {w : World} (he : ∀ t x y r, eqv t x y = some r -> (Op.equalIn d t x y).run P w = .ok r w) :
  ∀ {fs : List Field} {r : Bool}, zgf P eqv xs ys fs = some r -> (Op.eqFields d xs ys fs).run P w = .ok r w := by
 intro fs
 induction fs with
 | nil => intro r h; cases h; simp [Op.eqFields]
 | cons f fs ih =>
  intro r h
  unfold zgf at h
  split at h
  ·rename_i x y hn hx hy
   split at h
   ·rename_i b c hb hc
    cases h
    have hn' : f.name ≠ "_" := by simpa using hn
    have e1 := jE hx w
    have e2 := jE hy w
    have e3 := he _ _ _ _ hb
    have e4 := ih hc
    unfold Op.eqFields
    rw [if_pos hn']
    simp only [Sem.run_bind, e1, e2, e3, Result.andThen_ok]
    cases b with
    | true => simpa using e4
    | false => simp
   ·cases h
  ·cases h
theorem zif {P : Program} (w : World) : ∀ (n : Nat) {t : TypeId} {x y : Value} {r : Bool}, zk6 P n t x y = some r -> ∀ d, n <= d -> (Op.equalIn d t x y).run P w = .ok r w := by
 intro n
 induction n with
 | zero => intro t x y r h; cases h
 | succ n ih =>
  intro t x y r h d hd
  obtain ⟨d, rfl⟩ : ∃ e, d = e + 1 := ⟨d - 1, by omega⟩
  unfold zk6 at h
  split at h
  ·rename_i hu
   split at h
   ·rename_i hk
    cases h
    simp [Op.equalIn, run_underlying hu, hk]
   ·cases h
  ·rename_i hu
   cases h
   simp [Op.equalIn, run_underlying hu]
  ·rename_i hu
   cases h
   simp [Op.equalIn, run_underlying hu]
  ·rename_i fs xs ys hu
   split at h
   ·rename_i hp
    have hf : P.fieldsOf t = fs := by unfold Program.fieldsOf; rw [hu]
    rw [run_equalIn_struct w d t xs ys (by rw [hf]; exact hu) hp, hf]
    exact zj0 (fun t x y r h => ih h d (by omega)) h
   ·cases h
  ·cases h
section
variable {P : Program} {N : Nat} {fr : List (Nat × Value)}
theorem zgL {o : Oper} {t t2 : TypeId} {x y : Operand} {xs ys : Array Value} {r : Bool} (ho : o.op = .binOp .eql t x y t2) (hx : look fr x = some (.agg xs)) (hy : look fr y = some (.agg ys))
  (hm : P.eqGuardType P.depth t = false) (h : zk6 P 9 t (.agg xs) (.agg ys) = some r) : ∀ a w, Rep N fr a -> (execOp a.eval o).run P w = .ok (.value (.bool r)) w := by
 intro a w ha
 have e1 := ha.look hx
 have e2 := ha.look hy
 have e3 := run_eqGuard_agg (P := P) w .eql t x y xs ys hm
 have e4 := zif w 9 h 10000 (by omega)
 simp [execOp, ho, e1, e2, e3, run_eql_struct, e4]
theorem zhC {o : Oper} {t t2 : TypeId} {x y : Operand} {xs ys : Array Value} {r : Bool} (ho : o.op = .binOp .neq t x y t2) (hx : look fr x = some (.agg xs)) (hy : look fr y = some (.agg ys))
  (hm : P.eqGuardType P.depth t = false) (h : zk6 P 9 t (.agg xs) (.agg ys) = some r) : ∀ a w, Rep N fr a -> (execOp a.eval o).run P w = .ok (.value (.bool (!r))) w := by
 intro a w ha
 have e1 := ha.look hx
 have e2 := ha.look hy
 have e3 := run_eqGuard_agg (P := P) w .neq t x y xs ys hm
 have e4 := zif w 9 h 10000 (by omega)
 simp [execOp, ho, e1, e2, e3, run_neq_struct, e4]
end
def cut {α : Type} (xs : List α) (lo hi : Int) : Option (List α) := if 0 <= lo /\ lo <= hi /\ hi <= xs.length then some ((xs.take hi.toNat).drop lo.toNat) else none
theorem zbT {α : Type} {xs ys : List α} {lo hi : Int} (h : cut xs lo hi = some ys) : 0 <= lo /\ lo <= hi /\ hi <= xs.length /\ ys = (xs.take hi.toNat).drop lo.toNat := by
 unfold cut at h
 split at h
 ·rename_i hc
  cases h
  exact ⟨hc.1, hc.2.1, hc.2.2, rfl⟩
 ·cases h
theorem zgM {α : Type} {xs ys : List α} {lo hi : Int} (h : cut xs lo hi = some ys) : ys.length = hi.toNat - lo.toNat := by
 obtain ⟨h0, h1, h2, rfl⟩ := zbT h
 rw [List.length_drop, List.length_take]
 omega
theorem zju {α : Type} {xs ys : List α} {lo hi : Int} (h : cut xs lo hi = some ys) : ys.length <= xs.length := by
 obtain ⟨h0, h1, h2, rfl⟩ := zbT h
 rw [List.length_drop, List.length_take]
 omega
theorem zmY {α : Type} {xs ys : List α} {hi t : Int} {x : α} (h : cut xs 0 hi = some ys) (hx : idx ys t = some x) : idx xs t = some x := by
 obtain ⟨h0, h1, h2, rfl⟩ := zbT h
 obtain ⟨t0, t1, t2⟩ := zh hx
 unfold idx
 rw [if_pos t0]
 simp only [Int.toNat_zero, List.drop_zero] at t2 t1
 rw [List.getElem?_take] at t2
 split at t2
 ·exact t2
 ·cases t2
theorem zny {a b : Option Addr} {n m c n' c' : Nat} (h : Value.slice a n c = .slice b n' c') : Value.slice a m c = .slice b m c' := by
 cases h
 rfl
theorem St.cap {w0 w : World} {S0 : List Nat} {L : List Item} (h : St w0 S0 w L) (j : Nat) {α : Type} {a : Option Addr} {n c : Nat} {T : TypeId} {enc : α -> List Value} {sz : Nat} {xs : List α} (hj : L[j]? = some (qH (.slice a n c) T enc sz xs)) : xs.length <= c := by
 have hr := h.all j _ hj
 rcases hr.2 with ⟨hn, b, he⟩ | ⟨g, o, cap, cur, he, _, _, hnc, _⟩
 ·omega
 ·cases he
  exact hnc
section
variable {P : Program} {N : Nat} {fr : List (Nat × Value)}
theorem zk7 {α : Type} {o : Oper} {t e : TypeId} {x y : Operand} {a : Option Addr} {n c : Nat} {q : Int} {kd : IntKind} {xs ys : List α} (sz : Nat) (ho : o.op = .slice t x none (some y) none) (hx : look fr x = some (.slice a n c)) (hy : look fr y = some (.int kd q))
  (hc : cut xs 0 q = some ys) (hcap : xs.length <= c) (ht : P.underlying t = some (.slice e)) (hs : zbz P (sizeOf e) = some sz) : ∀ b w, Rep N fr b -> (execOp b.eval o).run P w = .ok (.value (.slice a ys.length c)) w := by
 intro b w hb
 have e1 := hb.look hx
 have e2 := hb.look hy
 obtain ⟨h0, h1, h2, _⟩ := zbT hc
 have hl := zgM hc
 have h3 : 0 <= q /\ q <= (c : Int) := ⟨h1, by omega⟩
 have e3 : q.toNat - 0 = ys.length := by simpa using hl.symm
 have e4 : (if c = 0 then a else a.map (fun x => x.add 0)) = a := by
  split
  ·rfl
  ·cases a with
   | none => rfl
   | some z => simp [Addr.add]
 simp [execOp, ho, Instr.sliceAt, Instr.slice, Instr.sliceBounds, Instr.sliceBound, run_underlying ht, e1, e2, asIntOf, h3, jE hs, hl, e4]
end
section
variable {P : Program} {N : Nat} {fr : List (Nat × Value)}
theorem zjv {o : Oper} {t t2 e : TypeId} {x y : Operand} {a : Option Addr} {n c : Nat} (ho : o.op = .binOp .eql t x y t2) (hx : look fr x = some (.slice a n c)) (hy : look fr y = some (.slice none 0 0)) (ht : P.underlying t = some (.slice e)) :
  ∀ b w, Rep N fr b -> (execOp b.eval o).run P w = .ok (.value (.bool a.isNone)) w := by
 intro b w hb
 have e1 := hb.look hx
 have e2 := hb.look hy
 have e3 : (binOp .eql t (.slice a n c) (.slice none 0 0)).run P w = .ok (.bool a.isNone) w := by
  exact Lib.run_eql_slice_nil w t e a n c 0 0 ht
 simp [execOp, ho, e1, e2, eqGuard, e3]
end
def xP (k : IntKind) (x y : Int) : Int := k.wrap (BitVec.ofInt k.bits x &&& BitVec.ofInt k.bits y).toNat
def bOr (k : IntKind) (x y : Int) : Int := k.wrap (BitVec.ofInt k.bits x ||| BitVec.ofInt k.bits y).toNat
def zgg (k : IntKind) (x y : Int) : Int := k.wrap (BitVec.ofInt k.bits x ^^^ BitVec.ofInt k.bits y).toNat
def zeU (k : IntKind) (x y : Int) : Int := k.wrap (BitVec.ofInt k.bits x &&& ~~~(BitVec.ofInt k.bits y)).toNat
def zbO (k : IntKind) (x y : Int) : Int := k.wrap (x * 2 ^ (min y.toNat k.bits))
def qQ (k : IntKind) (x y : Int) : Int := x.fdiv (2 ^ (min y.toNat k.bits))
def nn (y : Int) : Option Unit := if y < 0 then none else some ()
theorem zhD (x : Int) : ¬ zp x < 0 := by
 have e : zp x = x % 18446744073709551616 := rfl
 rw [e]; omega
theorem zhE {y : Int} {u : Unit} (h : nn y = some u) : ¬ y < 0 := by
 unfold nn at h
 split at h
 ·cases h
 ·assumption
section
variable {P : Program} {N : Nat} {fr : List (Nat × Value)}
theorem zfQ {o : Oper} {t t2 : TypeId} {x y : Operand} {k yk : IntKind} {a b : Int} (ho : o.op = .binOp .shl t x y t2) (hx : look fr x = some (.int k a)) (hy : look fr y = some (.int yk b)) (hb : ¬ b < 0) :
  ∀ r w, Rep N fr r -> (execOp r.eval o).run P w = .ok (.value (.int k (zbO k a b))) w := by
 intro r w hr
 have e1 := hr.look hx
 have e2 := hr.look hy
 simp [execOp, ho, e1, e2, eqGuard, binOp, Op.shift, hb, zbO]
theorem zeV {o : Oper} {t t2 : TypeId} {x y : Operand} {k yk : IntKind} {a b : Int} (ho : o.op = .binOp .shr t x y t2) (hx : look fr x = some (.int k a)) (hy : look fr y = some (.int yk b)) (hb : ¬ b < 0) :
  ∀ r w, Rep N fr r -> (execOp r.eval o).run P w = .ok (.value (.int k (qQ k a b))) w := by
 intro r w hr
 have e1 := hr.look hx
 have e2 := hr.look hy
 simp [execOp, ho, e1, e2, eqGuard, binOp, Op.shift, hb, qQ]
end
end Go.Sx
