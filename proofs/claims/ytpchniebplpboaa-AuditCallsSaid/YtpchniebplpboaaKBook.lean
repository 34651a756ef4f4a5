/- A map's book: the program's keeps its pairs sorted, the document's in the order of their coming; both tell the same. -/
import Derived.Test.YtpchniebplpboaaF1
import Derived.Test.YtpchniebplpboaaPure
set_option linter.unusedVariables false
set_option linter.unusedSimpArgs false
namespace Go.Proofs.Ytpchniebplpboaa
open Go.Sx

def pv : List api_Pair → Int → Option Int
  | [], _ => none
  | p :: l, k => if p.Key = k then some p.Val else pv l k
def pk (l : List api_Pair) : List Int := l.map (·.Key)
theorem pv_none {l : List api_Pair} {k : Int} : pv l k = none ↔ k ∉ pk l := by
  induction l with
  | nil => simp [pv, pk]
  | cons p l ih =>
    by_cases h : p.Key = k
    · simp [pv, pk, h]
    · have : ¬ k = p.Key := fun e => h e.symm
      simp only [pv, h, if_false, ih, pk, List.map_cons, List.mem_cons, this, false_or]
def bval (v : Option Int) (n : Nat) (cap op x : Int) : Option Int :=
  if op = 3 then none
  else if op = 2 ∨ op = 4 then (if v = none ∧ (n : Int) = cap then none else some (if op = 4 then wu64 (v.getD 0 + x) else x))
  else v
def blen (v : Option Int) (n : Nat) (cap op : Int) : Nat :=
  if op = 3 then (if v.isSome then n - 1 else n)
  else if (op = 2 ∨ op = 4) ∧ v = none ∧ (n : Int) ≠ cap then n + 1
  else n
structure Done (l l' : List api_Pair) (cap op k x : Int) : Prop where
  vals : ∀ q, pv l' q = if q = k then bval (pv l k) l.length cap op x else pv l q
  len : l'.length = blen (pv l k) l.length cap op
  nd : (pk l').Nodup

structure RB (c : Int) (r : tappetref13_Book) : Prop where
  cap : r.Cap = c
  c1 : 1 ≤ c
  c16 : c ≤ 16
  len : (r.List.length : Int) ≤ c
  nd : (pk r.List).Nodup
theorem RB.done {cap op k x : Int} {r : tappetref13_Book} {l : List api_Pair} (h : RB cap r) (hd : Done r.List l cap op k x) : RB cap ⟨r.Cap, l⟩ := by
  refine ⟨h.cap, h.c1, h.c16, ?_, hd.nd⟩
  have := hd.len
  have := h.len
  simp only
  rw [hd.len]
  unfold blen
  split
  · split <;> omega
  · split <;> omega
end Go.Proofs.Ytpchniebplpboaa
