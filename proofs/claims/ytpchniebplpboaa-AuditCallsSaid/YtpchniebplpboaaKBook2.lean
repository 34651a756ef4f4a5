/- The program's book: its pairs are sorted by their keys. -/
import Derived.Test.YtpchniebplpboaaKBook
set_option linter.unusedVariables false
set_option linter.unusedSimpArgs false
namespace Go.Proofs.Ytpchniebplpboaa
open Go.Sx

def Srt (l : List api_Pair) : Prop := (pk l).Pairwise (· < ·)
theorem Srt.nd {l : List api_Pair} (h : Srt l) : (pk l).Nodup := h.imp (fun a => by omega)
structure Found (l : List api_Pair) (k : Int) (i : Nat) : Prop where
  le : i ≤ l.length
  low : ∀ p ∈ l.take i, p.Key < k
  high : ∀ p ∈ l.drop i, k ≤ p.Key
structure BB (c : Int) (b : book_Book) : Prop where
  cap : b.cap = c
  c1 : 1 ≤ c
  c16 : c ≤ 16
  len : (b.pairs.length : Int) ≤ c
  srt : Srt b.pairs
theorem BB.done {c op k x : Int} {b : book_Book} {l : List api_Pair} (h : BB c b) (hs : Srt l) (hd : Done b.pairs l c op k x) : BB c ⟨b.cap, l⟩ := by
  refine ⟨h.cap, h.c1, h.c16, ?_, hs⟩
  have := hd.len
  have := h.len
  simp only
  rw [hd.len]
  unfold blen
  split
  · split <;> omega
  · split <;> omega
structure BR (c : Int) (b : book_Book) (r : tappetref13_Book) : Prop where
  bb : BB c b
  rb : RB c r
  vals : ∀ q, pv b.pairs q = pv r.List q
  len : b.pairs.length = r.List.length
end Go.Proofs.Ytpchniebplpboaa
