/- Texts KUp, KWidR, KJoinR of this proof. -/
import Derived.Test.YtbmknhpfkpmigaaGreatDoorKSpanR
set_option linter.unusedVariables false
set_option linter.unusedSimpArgs false
namespace Go.Proofs.YtbmknhpfkpmigaaGreatDoor
open Go.Sx
structure Up {α : Type} (o o' : Option α) : Prop where
 h : ∀ r, o = some r -> o' = some r
theorem Up.same {α : Type} (o : Option α) : Up o o := ⟨fun _ h => h⟩
theorem Up.bind {α β : Type} {o o' : Option α} {f f' : α -> Option β} (h1 : Up o o') (h2 : ∀ x, Up (f x) (f' x)) : Up (o.bind f) (o'.bind f') := ⟨fun r h => by
 cases o with
 | none => cases h
 | some x => rw [h1.h x rfl]; exact (h2 x).h r h⟩
theorem Up.ite {α : Type} {c : Bool} {A A' B B' : Option α} (h1 : Up A A') (h2 : Up B B') : Up (if c then A else B) (if c then A' else B') := by
 cases c with
 | true => exact h1
 | false => exact h2
theorem Up.oc {α β : Type} {o : Option α} {A A' : Option β} {B B' : α -> Option β} (h1 : Up A A') (h2 : ∀ x, Up (B x) (B' x)) : Up (zhf o A B) (zhf o A' B') := by
 cases o with
 | none => exact h1
 | some x => exact h2 x
theorem Up.lp {σ ρ : Type} {b b' : (σ -> Option ρ) -> σ -> Option ρ} (hb : ∀ ag ag', (∀ s, Up (ag s) (ag' s)) -> ∀ s, Up (b ag s) (b' ag' s)) : ∀ {fu fu' : Nat}, fu <= fu' -> ∀ s, Up (loop b fu s) (loop b' fu' s) := by
 intro fu
 induction fu with
 | zero => intro fu' _ s; exact ⟨fun r h => by cases h⟩
 | succ n ih =>
  intro fu' hu s
  obtain ⟨k, rfl⟩ : ∃ k, fu' = k + 1 := ⟨fu' - 1, by omega⟩
  exact hb _ _ (ih (by omega)) s
theorem Up.fo {σ ρ : Type} {b b' : Nat -> (σ -> Option ρ) -> σ -> Option ρ} {out : σ -> ρ} (hb : ∀ i ag ag', (∀ s, Up (ag s) (ag' s)) -> ∀ s, Up (b i ag s) (b' i ag' s)) : ∀ (n i : Nat) (s : σ), Up (qQ b out n i s) (qQ b' out n i s) := by
 intro n
 induction n with
 | zero => intro i s; exact Up.same _
 | succ n ih => intro i s; exact hb i _ _ (ih (i + 1)) s
theorem zg7 (r8 : vY × Bool) {ag ag' : ((List za) × Nat) -> Option (List za)} (hag : ∀ s, Up (ag s) (ag' s)) (s427 : (List za) × Nat) : Up (zcP r8 ag s427) (zcP r8 ag' s427) := by
 unfold zcP
 repeat' (first | with_reducible exact Up.same _ | intro _ | with_reducible apply Up.bind | with_reducible apply Up.ite | with_reducible apply Up.oc | with_reducible apply hag | split)
theorem zep {fu fu' : Nat} (hu : fu <= fu') (p0 : Int) : Up (qO fu p0) (qO fu' p0) := by
 unfold qO
 repeat' (first | with_reducible exact Up.same _ | intro _ | with_reducible apply Up.bind | with_reducible apply Up.ite | with_reducible apply Up.oc | exact Up.lp (fun ag ag' h s => zg7 _ h s) hu _ | split)
theorem zgj (p1 : List za) (r27 : (List za)) (i365 : Nat) {ag ag' : Unit -> Option (Unit ⊕ Int)} (hag : ∀ s, Up (ag s) (ag' s)) (s364 : Unit) : Up (vo p1 r27 i365 ag s364) (vo p1 r27 i365 ag' s364) := by
 unfold vo
 repeat' (first | with_reducible exact Up.same _ | intro _ | with_reducible apply Up.bind | with_reducible apply Up.ite | with_reducible apply Up.oc | with_reducible apply hag | split)
theorem zh7 {fu fu' : Nat} (hu : fu <= fu') (p0 : Int) (p1 : List za) : Up (vm fu p0 p1) (vm fu' p0 p1) := by
 unfold vm
 repeat' (first | with_reducible exact Up.same _ | intro _ | with_reducible apply Up.bind | with_reducible apply Up.ite | with_reducible apply Up.oc | exact zep hu _ | exact Up.fo (fun i ag ag' h s => zgj _ _ i h s) _ _ _ | split)
theorem zeq (p0 : zf) (p1 : Int) (o81 : zc × (Nat -> za)) (i730 : Nat) {ag ag' : Unit -> Option (Unit ⊕ ((Nat -> za) × Int))} (hag : ∀ s, Up (ag s) (ag' s)) (s728 : Unit) : Up (qg p0 p1 o81 i730 ag s728) (qg p0 p1 o81 i730 ag' s728) := by
 unfold qg
 repeat' (first | with_reducible exact Up.same _ | intro _ | with_reducible apply Up.bind | with_reducible apply Up.ite | with_reducible apply Up.oc | with_reducible apply hag | split)
theorem zfF {fu fu' : Nat} (hu : fu <= fu') (p0 : zf) (p1 : Int) : Up (qG fu p0 p1) (qG fu' p0 p1) := by
 unfold qG
 repeat' (first | with_reducible exact Up.same _ | intro _ | with_reducible apply Up.bind | with_reducible apply Up.ite | with_reducible apply Up.oc | exact Up.fo (fun i ag ag' h s => zeq _ _ _ i h s) _ _ _ | exact zep hu _ | exact zh7 hu _ _ | split)
theorem zfG {fu fu' : Nat} (hu : fu <= fu') (i580 : Nat) {ag ag' : zf -> Option (zf ⊕ ((Option zf) × Int × Int))} (hag : ∀ s, Up (ag s) (ag' s)) (s578 : zf) : Up (zN fu i580 ag s578) (zN fu' i580 ag' s578) := by
 unfold zN
 repeat' (first | with_reducible exact Up.same _ | intro _ | with_reducible apply Up.bind | with_reducible apply Up.ite | with_reducible apply Up.oc | with_reducible apply hag | exact zfF hu _ _ | split)
theorem zg8 {fu fu' : Nat} (hu : fu <= fu') (p0 : zj) : Up (qJ fu p0) (qJ fu' p0) := by
 unfold qJ
 repeat' (first | with_reducible exact Up.same _ | intro _ | with_reducible apply Up.bind | with_reducible apply Up.ite | with_reducible apply Up.oc | exact Up.fo (fun i ag ag' h s => zfG hu i h s) _ _ _ | split)
theorem zhp {fu fu' : Nat} (hu : fu <= fu') (p0 : zj) : Up (va fu p0) (va fu' p0) := by
 unfold va
 repeat' (first | with_reducible exact Up.same _ | intro _ | with_reducible apply Up.bind | with_reducible apply Up.ite | with_reducible apply Up.oc | exact zg8 hu _ | split)
theorem zh8 {fu fu' : Nat} (hu : fu <= fu') (p0 : zj) (p1 : qw) (p2 : zk) : Up (zao fu p0 p1 p2) (zao fu' p0 p1 p2) := by
 unfold zao
 repeat' (first | with_reducible exact Up.same _ | intro _ | with_reducible apply Up.bind | with_reducible apply Up.ite | with_reducible apply Up.oc | exact zhp hu _ | split)
theorem zbB {fu fu' : Nat} (hu : fu <= fu') (p0 : zg) (p1 : Int) (p2 : Int) (p3 : zj) : Up (ql fu p0 p1 p2 p3) (ql fu' p0 p1 p2 p3) := by
 unfold ql
 repeat' (first | with_reducible exact Up.same _ | intro _ | with_reducible apply Up.bind | with_reducible apply Up.ite | with_reducible apply Up.oc | exact zh8 hu _ _ _ | split)
theorem zdW {fu fu' : Nat} (hu : fu <= fu') (p0 : zh) (p1 : Int) (g0 : zk) : Up (qU fu p0 p1 g0) (qU fu' p0 p1 g0) := by
 unfold qU
 repeat' (first | with_reducible exact Up.same _ | intro _ | with_reducible apply Up.bind | with_reducible apply Up.ite | with_reducible apply Up.oc | exact zep hu _ | split)
theorem zdX {fu fu' : Nat} (hu : fu <= fu') (p0 : zh) (g0 : zk) : Up (qm fu p0 g0) (qm fu' p0 g0) := by
 unfold qm
 repeat' (first | with_reducible exact Up.same _ | intro _ | with_reducible apply Up.bind | with_reducible apply Up.ite | with_reducible apply Up.oc | exact zdW hu _ _ _ | split)
theorem zb0 {fu fu' : Nat} (hu : fu <= fu') (p0 : zg) : Up (qi fu p0) (qi fu' p0) := by
 unfold qi
 repeat' (first | with_reducible exact Up.same _ | intro _ | with_reducible apply Up.bind | with_reducible apply Up.ite | with_reducible apply Up.oc | exact zdX hu _ _ | split)
theorem zeM {fu fu' : Nat} (hu : fu <= fu')  : Up (xS fu) (xS fu') := by
 unfold xS
 repeat' (first | with_reducible exact Up.same _ | intro _ | with_reducible apply Up.bind | with_reducible apply Up.ite | with_reducible apply Up.oc | exact zbB hu _ _ _ _ | exact zb0 hu _ | split)
theorem zdY (p0 : List Int) (i781 : Nat) {ag ag' : Unit -> Option (Unit ⊕ Bool)} (hag : ∀ s, Up (ag s) (ag' s)) (s780 : Unit) : Up (vc p0 i781 ag s780) (vc p0 i781 ag' s780) := by
 unfold vc
 repeat' (first | with_reducible exact Up.same _ | intro _ | with_reducible apply Up.bind | with_reducible apply Up.ite | with_reducible apply Up.oc | with_reducible apply hag | exact Up.fo (fun i ag ag' h s => tappetref09_Maps_l2_up _ _ i h s) _ _ _ | split)
theorem zfb {fu fu' : Nat} (hu : fu <= fu') (p0 : List Int) : Up (jd fu p0) (jd fu' p0) := by
 unfold jd
 repeat' (first | with_reducible exact Up.same _ | intro _ | with_reducible apply Up.bind | with_reducible apply Up.ite | with_reducible apply Up.oc | exact Up.fo (fun i ag ag' h s => zdY _ i h s) _ _ _ | split)
theorem zdm (i1997 : Nat) {ag ag' : ((List (List Int)) × Int) -> Option (List (List Int))} (hag : ∀ s, Up (ag s) (ag' s)) (s2331 : (List (List Int)) × Int) : Up (xA i1997 ag s2331) (xA i1997 ag' s2331) := by
 unfold xA
 repeat' (first | with_reducible exact Up.same _ | intro _ | with_reducible apply Up.bind | with_reducible apply Up.ite | with_reducible apply Up.oc | with_reducible apply hag | split)
theorem zdn {fu fu' : Nat} (hu : fu <= fu') (p0 : List zc) (i1997 : Nat) {ag ag' : (List (List Int)) -> Option (List (List Int))} (hag : ∀ s, Up (ag s) (ag' s)) (s1995 : (List (List Int))) : Up (xB fu p0 i1997 ag s1995) (xB fu' p0 i1997 ag' s1995) := by
 unfold xB
 repeat' (first | with_reducible exact Up.same _ | intro _ | with_reducible apply Up.bind | with_reducible apply Up.ite | with_reducible apply Up.oc | with_reducible apply hag | exact Up.lp (fun ag ag' h s => zdm _ h s) hu _ | split)
theorem zer {fu fu' : Nat} (hu : fu <= fu') (p0 : List zc) : Up (jx fu p0) (jx fu' p0) := by
 unfold jx
 repeat' (first | with_reducible exact Up.same _ | intro _ | with_reducible apply Up.bind | with_reducible apply Up.ite | with_reducible apply Up.oc | exact Up.fo (fun i ag ag' h s => zdn hu _ i h s) _ _ _ | split)
theorem zcF (p0 : List zc) (p1 : List (List Int)) (i5985 : Nat) {ag ag' : Unit -> Option (Unit ⊕ (Int × Bool))} (hag : ∀ s, Up (ag s) (ag' s)) (s5984 : Unit) : Up (jl p0 p1 i5985 ag s5984) (jl p0 p1 i5985 ag' s5984) := by
 unfold jl
 repeat' (first | with_reducible exact Up.same _ | intro _ | with_reducible apply Up.bind | with_reducible apply Up.ite | with_reducible apply Up.oc | with_reducible apply hag | exact Up.fo (fun i ag ag' h s => tappetref07_crossing_l2_up _ _ _ i h s) _ _ _ | split)
theorem zdH {fu fu' : Nat} (hu : fu <= fu') (p0 : List zc) (p1 : List (List Int)) : Up (qK fu p0 p1) (qK fu' p0 p1) := by
 unfold qK
 repeat' (first | with_reducible exact Up.same _ | intro _ | with_reducible apply Up.bind | with_reducible apply Up.ite | with_reducible apply Up.oc | exact Up.fo (fun i ag ag' h s => zcF _ _ i h s) _ _ _ | split)
theorem zcG (p0 : List zc) (p1 : List (List Int)) (i3610 : Nat) (r3629 : Int × Bool × Bool) {ag ag' : Int -> Option (Unit ⊕ (Int × Bool))} (hag : ∀ s, Up (ag s) (ag' s)) (s4215 : Int) : Up (jn p0 p1 i3610 r3629 ag s4215) (jn p0 p1 i3610 r3629 ag' s4215) := by
 unfold jn
 repeat' (first | with_reducible exact Up.same _ | intro _ | with_reducible apply Up.bind | with_reducible apply Up.ite | with_reducible apply Up.oc | with_reducible apply hag | split)
theorem zcH {fu fu' : Nat} (hu : fu <= fu') (p0 : List zc) (p1 : List (List Int)) (i3610 : Nat) {ag ag' : Unit -> Option (Unit ⊕ (Int × Bool))} (hag : ∀ s, Up (ag s) (ag' s)) (s3609 : Unit) : Up (jo fu p0 p1 i3610 ag s3609) (jo fu' p0 p1 i3610 ag' s3609) := by
 unfold jo
 repeat' (first | with_reducible exact Up.same _ | intro _ | with_reducible apply Up.bind | with_reducible apply Up.ite | with_reducible apply Up.oc | with_reducible apply hag | exact Up.lp (fun ag ag' h s => zcG _ _ _ _ h s) hu _ | split)
theorem zdI {fu fu' : Nat} (hu : fu <= fu') (p0 : List zc) (p1 : List (List Int)) : Up (qL fu p0 p1) (qL fu' p0 p1) := by
 unfold qL
 repeat' (first | with_reducible exact Up.same _ | intro _ | with_reducible apply Up.bind | with_reducible apply Up.ite | with_reducible apply Up.oc | exact Up.fo (fun i ag ag' h s => zcH hu _ _ i h s) _ _ _ | split)
theorem zdZ (p0 : List zc) (p1 : List (List Int)) (i3044 : Nat) {ag ag' : (Int × Int) -> Option Int} (hag : ∀ s, Up (ag s) (ag' s)) (s3551 : Int × Int) : Up (xt p0 p1 i3044 ag s3551) (xt p0 p1 i3044 ag' s3551) := by
 unfold xt
 repeat' (first | with_reducible exact Up.same _ | intro _ | with_reducible apply Up.bind | with_reducible apply Up.ite | with_reducible apply Up.oc | with_reducible apply hag | split)
theorem zd0 {fu fu' : Nat} (hu : fu <= fu') (p0 : List zc) (p1 : List (List Int)) (i3044 : Nat) {ag ag' : Int -> Option Int} (hag : ∀ s, Up (ag s) (ag' s)) (s3043 : Int) : Up (ve fu p0 p1 i3044 ag s3043) (ve fu' p0 p1 i3044 ag' s3043) := by
 unfold ve
 repeat' (first | with_reducible exact Up.same _ | intro _ | with_reducible apply Up.bind | with_reducible apply Up.ite | with_reducible apply Up.oc | with_reducible apply hag | exact Up.lp (fun ag ag' h s => zdZ _ _ _ h s) hu _ | split)
theorem zfc {fu fu' : Nat} (hu : fu <= fu') (p0 : List zc) (p1 : List (List Int)) : Up (xk fu p0 p1) (xk fu' p0 p1) := by
 unfold xk
 repeat' (first | with_reducible exact Up.same _ | intro _ | with_reducible apply Up.bind | with_reducible apply Up.ite | with_reducible apply Up.oc | exact Up.fo (fun i ag ag' h s => zd0 hu _ _ i h s) _ _ _ | split)
theorem zdJ (p0 : List zc) (i234 : Nat) {ag ag' : Unit -> Option (Unit ⊕ (Int × Int))} (hag : ∀ s, Up (ag s) (ag' s)) (s233 : Unit) : Up (xg p0 i234 ag s233) (xg p0 i234 ag' s233) := by
 unfold xg
 repeat' (first | with_reducible exact Up.same _ | intro _ | with_reducible apply Up.bind | with_reducible apply Up.ite | with_reducible apply Up.oc | with_reducible apply hag | split)
theorem zeN {fu fu' : Nat} (hu : fu <= fu') (p0 : List zc) : Up (jp fu p0) (jp fu' p0) := by
 unfold jp
 repeat' (first | with_reducible exact Up.same _ | intro _ | with_reducible apply Up.bind | with_reducible apply Up.ite | with_reducible apply Up.oc | exact Up.fo (fun i ag ag' h s => zdJ _ i h s) _ _ _ | exact zer hu _ | exact zdH hu _ _ | exact zdI hu _ _ | exact zfc hu _ _ | split)
theorem zdK (p0 : Int) (p1 : Int) {ag ag' : (Int × Int × Int) -> Option (Int × Int)} (hag : ∀ s, Up (ag s) (ag' s)) (s88 : Int × Int × Int) : Up (qt p0 p1 ag s88) (qt p0 p1 ag' s88) := by
 unfold qt
 repeat' (first | with_reducible exact Up.same _ | intro _ | with_reducible apply Up.bind | with_reducible apply Up.ite | with_reducible apply Up.oc | with_reducible apply hag | split)
theorem zeO {fu fu' : Nat} (hu : fu <= fu') (p0 : Int) (p1 : Int) : Up (jN fu p0 p1) (jN fu' p0 p1) := by
 unfold jN
 repeat' (first | with_reducible exact Up.same _ | intro _ | with_reducible apply Up.bind | with_reducible apply Up.ite | with_reducible apply Up.oc | exact Up.lp (fun ag ag' h s => zdK _ _ h s) hu _ | split)
theorem zeP (p0 : Int) (p2 : Int) {ag ag' : (Int × Int) -> Option Int} (hag : ∀ s, Up (ag s) (ag' s)) (s126 : Int × Int) : Up (qx p0 p2 ag s126) (qx p0 p2 ag' s126) := by
 unfold qx
 repeat' (first | with_reducible exact Up.same _ | intro _ | with_reducible apply Up.bind | with_reducible apply Up.ite | with_reducible apply Up.oc | with_reducible apply hag | split)
theorem zdo {fu fu' : Nat} (hu : fu <= fu') (p0 : Int) (p1 : Int) (p2 : Int) : Up (zL fu p0 p1 p2) (zL fu' p0 p1 p2) := by
 unfold zL
 repeat' (first | with_reducible exact Up.same _ | intro _ | with_reducible apply Up.bind | with_reducible apply Up.ite | with_reducible apply Up.oc | exact zeO hu _ _ | exact Up.lp (fun ag ag' h s => zeP _ _ h s) hu _ | split)
theorem zd1 (p0 : Int) {ag ag' : Int -> Option Int} (hag : ∀ s, Up (ag s) (ag' s)) (s15 : Int) : Up (qY p0 ag s15) (qY p0 ag' s15) := by
 unfold qY
 repeat' (first | with_reducible exact Up.same _ | intro _ | with_reducible apply Up.bind | with_reducible apply Up.ite | with_reducible apply Up.oc | with_reducible apply hag | split)
theorem zfd {fu fu' : Nat} (hu : fu <= fu') (p0 : Int) : Up (je fu p0) (je fu' p0) := by
 unfold je
 repeat' (first | with_reducible exact Up.same _ | intro _ | with_reducible apply Up.bind | with_reducible apply Up.ite | with_reducible apply Up.oc | exact Up.lp (fun ag ag' h s => zd1 _ h s) hu _ | split)
theorem zc1 (p1 : Int) {ag ag' : (zb × Int) -> Option (zb ⊕ (zb × Bool))} (hag : ∀ s, Up (ag s) (ag' s)) (s64 : zb × Int) : Up (qo p1 ag s64) (qo p1 ag' s64) := by
 unfold qo
 repeat' (first | with_reducible exact Up.same _ | intro _ | with_reducible apply Up.bind | with_reducible apply Up.ite | with_reducible apply Up.oc | with_reducible apply hag | split)
theorem zd2 {fu fu' : Nat} (hu : fu <= fu') (p0 : zb) (p1 : Int) : Up (qD fu p0 p1) (qD fu' p0 p1) := by
 unfold qD
 repeat' (first | with_reducible exact Up.same _ | intro _ | with_reducible apply Up.bind | with_reducible apply Up.ite | with_reducible apply Up.oc | exact Up.lp (fun ag ag' h s => zc1 _ h s) hu _ | split)
theorem zd3 (p1 : Int) {ag ag' : (Int × Int) -> Option Int} (hag : ∀ s, Up (ag s) (ag' s)) (s20 : Int × Int) : Up (qZ p1 ag s20) (qZ p1 ag' s20) := by
 unfold qZ
 repeat' (first | with_reducible exact Up.same _ | intro _ | with_reducible apply Up.bind | with_reducible apply Up.ite | with_reducible apply Up.oc | with_reducible apply hag | split)
theorem zff {fu fu' : Nat} (hu : fu <= fu') (p0 : Int) (p1 : Int) : Up (jH fu p0 p1) (jH fu' p0 p1) := by
 unfold jH
 repeat' (first | with_reducible exact Up.same _ | intro _ | with_reducible apply Up.bind | with_reducible apply Up.ite | with_reducible apply Up.oc | exact Up.lp (fun ag ag' h s => zd3 _ h s) hu _ | split)
theorem zf0 {fu fu' : Nat} (hu : fu <= fu') (p0 : Int) (p1 : zb) (p2 : zb) : Up (xR fu p0 p1 p2) (xR fu' p0 p1 p2) := by
 unfold xR
 repeat' (first | with_reducible exact Up.same _ | intro _ | with_reducible apply Up.bind | with_reducible apply Up.ite | with_reducible apply Up.oc | exact zdo hu _ _ _ | exact zfd hu _ | exact zd2 hu _ _ | exact zff hu _ _ | split)
theorem zet {fu fu' : Nat} (hu : fu <= fu') (p0 : zj) (p1 : Int) (p2 : List za) (p3 : Bool) : Up (zZ fu p0 p1 p2 p3) (zZ fu' p0 p1 p2 p3) := by
 unfold zZ
 repeat' (first | with_reducible exact Up.same _ | intro _ | with_reducible apply Up.bind | with_reducible apply Up.ite | with_reducible apply Up.oc | exact zf0 hu _ _ _ | split)
theorem zdL {fu fu' : Nat} (hu : fu <= fu') (p0 : zj) (p1 : Int) (p2 : List (List za)) {ag ag' : ((List (List za)) × Int) -> Option (List (List za))} (hag : ∀ s, Up (ag s) (ag' s)) (s1127 : (List (List za)) × Int) : Up (qv fu p0 p1 p2 ag s1127) (qv fu' p0 p1 p2 ag' s1127) := by
 unfold qv
 repeat' (first | with_reducible exact Up.same _ | intro _ | with_reducible apply Up.bind | with_reducible apply Up.ite | with_reducible apply Up.oc | with_reducible apply hag | exact zet hu _ _ _ _ | split)
theorem zeQ {fu fu' : Nat} (hu : fu <= fu') (p0 : zj) (p1 : Int) (p2 : List (List za)) : Up (jO fu p0 p1 p2) (jO fu' p0 p1 p2) := by
 unfold jO
 repeat' (first | with_reducible exact Up.same _ | intro _ | with_reducible apply Up.bind | with_reducible apply Up.ite | with_reducible apply Up.oc | exact Up.lp (fun ag ag' h s => zdL hu _ _ _ h s) hu _ | split)
theorem zeR (r22 : (List (List za))) (i2175 : Nat) {ag ag' : (List za) -> Option (List za)} (hag : ∀ s, Up (ag s) (ag' s)) (s2173 : (List za)) : Up (jq r22 i2175 ag s2173) (jq r22 i2175 ag' s2173) := by
 unfold jq
 repeat' (first | with_reducible exact Up.same _ | intro _ | with_reducible apply Up.bind | with_reducible apply Up.ite | with_reducible apply Up.oc | with_reducible apply hag | exact Up.fo (fun i ag ag' h s => tappetref09_at_l2_up _ _ i h s) _ _ _ | split)
theorem zeS (p0 : zj) (i6303 : Nat) {ag ag' : ((List za) × Int) -> Option (List za)} (hag : ∀ s, Up (ag s) (ag' s)) (s6926 : (List za) × Int) : Up (xu p0 i6303 ag s6926) (xu p0 i6303 ag' s6926) := by
 unfold xu
 repeat' (first | with_reducible exact Up.same _ | intro _ | with_reducible apply Up.bind | with_reducible apply Up.ite | with_reducible apply Up.oc | with_reducible apply hag | split)
theorem zeT {fu fu' : Nat} (hu : fu <= fu') (p0 : zj) (p1 : Int) (i6303 : Nat) {ag ag' : (List za) -> Option (List za)} (hag : ∀ s, Up (ag s) (ag' s)) (s6302 : (List za)) : Up (jr fu p0 p1 i6303 ag s6302) (jr fu' p0 p1 i6303 ag' s6302) := by
 unfold jr
 repeat' (first | with_reducible exact Up.same _ | intro _ | with_reducible apply Up.bind | with_reducible apply Up.ite | with_reducible apply Up.oc | with_reducible apply hag | exact Up.lp (fun ag ag' h s => zeS _ _ h s) hu _ | split)
theorem zf1 {fu fu' : Nat} (hu : fu <= fu') (p0 : zj) (p1 : Int) (p2 : List (List za)) : Up (xw fu p0 p1 p2) (xw fu' p0 p1 p2) := by
 unfold xw
 repeat' (first | with_reducible exact Up.same _ | intro _ | with_reducible apply Up.bind | with_reducible apply Up.ite | with_reducible apply Up.oc | exact zeQ hu _ _ _ | exact Up.fo (fun i ag ag' h s => zeR _ i h s) _ _ _ | exact Up.fo (fun i ag ag' h s => zeT hu _ _ i h s) _ _ _ | split)
theorem zeu {fu fu' : Nat} (hu : fu <= fu') (p0 : zj) (i625 : Nat) {ag ag' : (List (List za)) -> Option ((List (List za)) ⊕ ((List (List za)) × Int × Int))} (hag : ∀ s, Up (ag s) (ag' s)) (s622 : (List (List za))) : Up (qa fu p0 i625 ag s622) (qa fu' p0 i625 ag' s622) := by
 unfold qa
 repeat' (first | with_reducible exact Up.same _ | intro _ | with_reducible apply Up.bind | with_reducible apply Up.ite | with_reducible apply Up.oc | with_reducible apply hag | exact zf1 hu _ _ _ | split)
theorem zfH {fu fu' : Nat} (hu : fu <= fu') (p0 : zj) : Up (ja fu p0) (ja fu' p0) := by
 unfold ja
 repeat' (first | with_reducible exact Up.same _ | intro _ | with_reducible apply Up.bind | with_reducible apply Up.ite | with_reducible apply Up.oc | exact zfb hu _ | exact zeN hu _ | exact Up.fo (fun i ag ag' h s => zeu hu _ i h s) _ _ _ | split)
theorem zfI {fu fu' : Nat} (hu : fu <= fu') (p0 : zj) (p1 : qw) (p2 : zi) : Up (jA fu p0 p1 p2) (jA fu' p0 p1 p2) := by
 unfold jA
 repeat' (first | with_reducible exact Up.same _ | intro _ | with_reducible apply Up.bind | with_reducible apply Up.ite | with_reducible apply Up.oc | exact zfH hu _ | split)
theorem zcw {fu fu' : Nat} (hu : fu <= fu') (p0 : zd) (p1 : Int) (p2 : Int) (p3 : zj) : Up (qd fu p0 p1 p2 p3) (qd fu' p0 p1 p2 p3) := by
 unfold qd
 repeat' (first | with_reducible exact Up.same _ | intro _ | with_reducible apply Up.bind | with_reducible apply Up.ite | with_reducible apply Up.oc | exact zfI hu _ _ _ | split)
theorem zb8 (p0 : zi) (p1 : Int) {ag ag' : (Int × Int) -> Option Int} (hag : ∀ s, Up (ag s) (ag' s)) (s324 : Int × Int) : Up (zz p0 p1 ag s324) (zz p0 p1 ag' s324) := by
 unfold zz
 repeat' (first | with_reducible exact Up.same _ | intro _ | with_reducible apply Up.bind | with_reducible apply Up.ite | with_reducible apply Up.oc | with_reducible apply hag | split)
theorem zaZ {fu fu' : Nat} (hu : fu <= fu') (p0 : zi) (p1 : Int) : Up (zS fu p0 p1) (zS fu' p0 p1) := by
 unfold zS
 repeat' (first | with_reducible exact Up.same _ | intro _ | with_reducible apply Up.bind | with_reducible apply Up.ite | with_reducible apply Up.oc | exact Up.lp (fun ag ag' h s => zb8 _ _ h s) hu _ | split)
theorem zbf {fu fu' : Nat} (hu : fu <= fu') (p0 : zi) (p1 : Int) : Up (zI fu p0 p1) (zI fu' p0 p1) := by
 unfold zI
 repeat' (first | with_reducible exact Up.same _ | intro _ | with_reducible apply Up.bind | with_reducible apply Up.ite | with_reducible apply Up.oc | exact zaZ hu _ _ | split)
theorem zc2 {fu fu' : Nat} (hu : fu <= fu') (p0 : ze) (p1 : zc) (p2 : zA) (g0 : zi) : Up (qp fu p0 p1 p2 g0) (qp fu' p0 p1 p2 g0) := by
 unfold qp
 repeat' (first | with_reducible exact Up.same _ | intro _ | with_reducible apply Up.bind | with_reducible apply Up.ite | with_reducible apply Up.oc | exact zbf hu _ _ | split)
theorem zcx (p0 : zi) (p1 : Int) {ag ag' : Int -> Option (Unit ⊕ (Int × Int))} (hag : ∀ s, Up (ag s) (ag' s)) (s347 : Int) : Up (zE p0 p1 ag s347) (zE p0 p1 ag' s347) := by
 unfold zE
 repeat' (first | with_reducible exact Up.same _ | intro _ | with_reducible apply Up.bind | with_reducible apply Up.ite | with_reducible apply Up.oc | with_reducible apply hag | split)
theorem zbg {fu fu' : Nat} (hu : fu <= fu') (p0 : zi) (p1 : Int) : Up (zF fu p0 p1) (zF fu' p0 p1) := by
 unfold zF
 repeat' (first | with_reducible exact Up.same _ | intro _ | with_reducible apply Up.bind | with_reducible apply Up.ite | with_reducible apply Up.oc | exact Up.lp (fun ag ag' h s => zcx _ _ h s) hu _ | split)
theorem zc3 {fu fu' : Nat} (hu : fu <= fu') (p0 : ze) (p1 : zc) (g0 : zi) : Up (qq fu p0 p1 g0) (qq fu' p0 p1 g0) := by
 unfold qq
 repeat' (first | with_reducible exact Up.same _ | intro _ | with_reducible apply Up.bind | with_reducible apply Up.ite | with_reducible apply Up.oc | exact zdo hu _ _ _ | exact zbg hu _ _ | split)
theorem zc4 {fu fu' : Nat} (hu : fu <= fu') (p0 : ze) (g0 : zi) : Up (zT fu p0 g0) (zT fu' p0 g0) := by
 unfold zT
 repeat' (first | with_reducible exact Up.same _ | intro _ | with_reducible apply Up.bind | with_reducible apply Up.ite | with_reducible apply Up.oc | exact zc2 hu _ _ _ _ | exact zc3 hu _ _ _ | split)
theorem zcI {fu fu' : Nat} (hu : fu <= fu') (p0 : zd) : Up (zV fu p0) (zV fu' p0) := by
 unfold zV
 repeat' (first | with_reducible exact Up.same _ | intro _ | with_reducible apply Up.bind | with_reducible apply Up.ite | with_reducible apply Up.oc | exact zc4 hu _ _ | split)
theorem zdM {fu fu' : Nat} (hu : fu <= fu') (p2 : Int) {ag ag' : (zg × zd × Int) -> Option ((zg × zd) ⊕ (Bool × zg × zd))} (hag : ∀ s, Up (ag s) (ag' s)) (s215 : zg × zd × Int) : Up (xL fu p2 ag s215) (xL fu' p2 ag' s215) := by
 unfold xL
 repeat' (first | with_reducible exact Up.same _ | intro _ | with_reducible apply Up.bind | with_reducible apply Up.ite | with_reducible apply Up.oc | with_reducible apply hag | exact zb0 hu _ | exact zcI hu _ | split)
theorem zb4 {fu fu' : Nat} (hu : fu <= fu') (p0 : zg) (p1 : zd) (p2 : Int) : Up (ju fu p0 p1 p2) (ju fu' p0 p1 p2) := by
 unfold ju
 repeat' (first | with_reducible exact Up.same _ | intro _ | with_reducible apply Up.bind | with_reducible apply Up.ite | with_reducible apply Up.oc | exact Up.lp (fun ag ag' h s => zdM hu _ h s) hu _ | split)
theorem zdN {fu fu' : Nat} (hu : fu <= fu') (p0 : zg) (p1 : zd) (i728 : Nat) {ag ag' : Unit -> Option (Unit ⊕ Bool)} (hag : ∀ s, Up (ag s) (ag' s)) (s725 : Unit) : Up (xN fu p0 p1 i728 ag s725) (xN fu' p0 p1 i728 ag' s725) := by
 unfold xN
 repeat' (first | with_reducible exact Up.same _ | intro _ | with_reducible apply Up.bind | with_reducible apply Up.ite | with_reducible apply Up.oc | with_reducible apply hag | exact zaZ hu _ _ | exact zbg hu _ _ | split)
theorem zb5 {fu fu' : Nat} (hu : fu <= fu') (p0 : zg) (p1 : zd) : Up (qz fu p0 p1) (qz fu' p0 p1) := by
 unfold qz
 repeat' (first | with_reducible exact Up.same _ | intro _ | with_reducible apply Up.bind | with_reducible apply Up.ite | with_reducible apply Up.oc | exact Up.fo (fun i ag ag' h s => zdN hu _ _ i h s) _ _ _ | split)
end Go.Proofs.YtbmknhpfkpmigaaGreatDoor
namespace Go.Proofs.YtbmknhpfkpmigaaGreatDoor
open Go.Sx
theorem zhD {σ ρ α : Type} {body : Nat -> (σ -> Option ρ) -> σ -> Option ρ} {out : σ -> ρ} (xs : List α) (f : σ -> α -> σ) (I : σ -> Prop) (h : ∀ i again s x, xs[i]? = some x -> I s -> body i again s = again (f s x) /\ I (f s x)) :
  ∀ (n i : Nat) (s : σ), i + n = xs.length -> I s -> qQ body out n i s = some (out ((xs.drop i).foldl f s)) := by
 intro n
 induction n with
 | zero =>
  intro i s hi hI
  rw [List.drop_of_length_le (by omega)]; rfl
 | succ n ih =>
  intro i s hi hI
  have hx : xs[i]? = some xs[i] := zeg (by omega)
  show body i (qQ body out n (i + 1)) s = _
  obtain ⟨h1, h2⟩ := h i (qQ body out n (i + 1)) s _ hx hI
  rw [h1, ih (i + 1) _ (by omega) h2, List.drop_eq_getElem_cons (by omega : i < xs.length)]
  rfl
def zkY : za := ⟨1, ⟨0, 18446744073709551615⟩, 0⟩
def zgx (x : Nat -> za) (i : zc) : Nat -> za := if (wrB i).2 then jf x (wrB i).1.toNat (if (x (wrB i).1.toNat).Ki == 1 then zkY else zax) else x
theorem znP {i : zc} (h : (wrB i).2 = true) : 0 <= (wrB i).1 /\ (wrB i).1 < 8 := by
 by_cases hr : qe i = true
 ·obtain ⟨r, e, hq⟩ := zgR hr
  rw [znO] at e
  obtain rfl := Option.some.inj e
  exact hq h
 ·have : qe i = false := by simpa using hr
  unfold wrB at h
  rw [this] at h
  cases h
theorem WT.full {n : Nat} : WT n zkY := .inr (.inl ⟨rfl, SW.full, rfl⟩)
theorem zmn {n : Nat} {x : Nat -> za} (hx : ∀ r, r < 8 -> WT n (x r)) (i : zc) : ∀ r, r < 8 -> WT n (zgx x i r) := by
 unfold zgx
 split
 ·refine zc0 hx ?_
  split
  ·exact WT.full
  ·exact WT.zero
 ·exact hx
def zh9 (code : List zc) (p : Nat) (x : Nat -> za) : Nat -> (Nat -> za)
 | 0 => x
 | k + 1 => match code[k]? with
  | some i => if i.Op == 20 && ((k : Int) - i.D == (p : Int)) then ((code.take (k + 1)).drop p).foldl zgx (zh9 code p x k) else zh9 code p x k
  | none => zh9 code p x k
theorem zkm {n : Nat} : ∀ (l : List zc) {x : Nat -> za}, (∀ r, r < 8 -> WT n (x r)) -> ∀ r, r < 8 -> WT n (l.foldl zgx x r)
 | [], _, h => h
 | i :: l, _, h => zkm l (zmn h i)
theorem ziU {code : List zc} {p k : Nat} {x : Nat -> za} {i : zc} (h : code[k]? = some i) :
 zh9 code p x (k + 1) = if i.Op == 20 && ((k : Int) - i.D == (p : Int)) then ((code.take (k + 1)).drop p).foldl zgx (zh9 code p x k) else zh9 code p x k := by rw [zh9, h]
theorem zmo {n : Nat} {code : List zc} {p : Nat} {x : Nat -> za} (hx : ∀ r, r < 8 -> WT n (x r)) : ∀ k r, r < 8 -> WT n (zh9 code p x k r) := by
 intro k
 induction k with
 | zero => exact hx
 | succ k ih =>
  cases h : code[k]? with
  | none =>
   have : zh9 code p x (k + 1) = zh9 code p x k := by rw [zh9, h]
   rw [this]; exact ih
  | some i =>
   rw [ziU h]
   by_cases hc : (i.Op == 20 && ((k : Int) - i.D == (p : Int))) = true
   ·rw [if_pos hc]; exact zkm _ ih
   ·rw [if_neg hc]; exact ih
theorem zpu {code : List zc} {p : Nat} (ys : List zc) {A : List (Nat -> za)} {x : Nat -> za} (hx : A[p]? = some x) :
  qQ (xe p ys) (fun (s : List (Nat -> za)) => s) ys.length 0 A = some (A.set p (ys.foldl zgx x)) := by
 have hp : p < A.length := (zes.1 hx).1
 have := zhD (body := xe p ys) (out := fun (s : List (Nat -> za)) => s) ys (fun s i => match s[p]? with | some y => s.set p (zgx y i) | none => s) (fun s => s.length = A.length) (fun i again s z hz hI => ?_) ys.length 0 A (by omega) rfl
 ·rw [this]
  congr 1
  rw [List.drop_zero]
  clear this
  induction ys generalizing A x with
  | nil =>
   show A = A.set p x
   rw [<- (zes.1 hx).2, List.set_getElem_self]
  | cons y ys ih =>
   rw [List.foldl_cons, List.foldl_cons, hx]
   show ys.foldl _ (A.set p (zgx x y)) = _
   have hl : p < (A.set p (zgx x y)).length := by rw [List.length_set]; exact hp
   rw [ih (A := A.set p (zgx x y)) (x := zgx x y) (List.getElem?_set_self hp) hl, List.set_set]
 ·have hl : p < s.length := by omega
  have hsp : s[p]? = some s[p] := zeg hl
  refine ⟨?_, by rw [hsp]; exact (List.length_set ..).trans hI⟩
  unfold xe
  have hi : i < ys.length := (zes.1 hz).1
  rw [ze8 hi, (zes.1 hz).2]
  simp only [zbs, znO, hsp]
  by_cases hw : (wrB z).2 = true
  ·have hr := znP hw
   have e : idx s (p : Int) = some s[p] := ze8 hl
   simp only [hw, Bool.not_true, zfe, if_false, e, zbs, zgi hr.1 hr.2, zbu, zaD, Int.toNat_natCast, zgx, if_true]
   split <;> rfl
  ·have hw' : (wrB z).2 = false := by simpa using hw
   simp only [hw', Bool.not_false, if_true, zgx, zfe, if_false]
   rw [List.set_getElem_self]
theorem zno {m : zj} {j : zf} (h : JI m j) (hg : ze7 m.Co) {p : Nat} (hp : p < m.Co.length) {x : Nat -> za} (hx : j.ca[p]? = some x) :
  jk j p = some ⟨j.Module, j.ca.set p (zh9 m.Co p x m.Co.length), j.any, j.loops⟩ := by
 have hpc : p < j.ca.length := (zes.1 hx).1
 unfold jk
 have := zhD (body := xJ j p) (out := fun (s : List (Nat -> za)) => (zf.mk j.Module s j.any j.loops)) j.loops
  (fun s l => if l.Head == (p : Int) then (match s[p]? with | some y => s.set p (((m.Co.take (l.At + 1).toNat).drop p).foldl zgx y) | none => s) else s) (fun s => s.length = j.ca.length) (fun i again s l hl hI => ?_) j.loops.length 0 j.ca (by omega) rfl
 ·rw [this, zbs, List.drop_zero]
  congr 2
  rw [h.lps]
  clear this
  have : ∀ k, k <= m.Co.length -> (lps m.Co k).foldl (fun s l => if l.Head == (p : Int) then (match s[p]? with | some y => s.set p (((m.Co.take (l.At + 1).toNat).drop p).foldl zgx y) | none => s) else s) j.ca = j.ca.set p (zh9 m.Co p x k) := by
   intro k
   induction k with
   | zero =>
    intro _
    show j.ca = j.ca.set p x
    rw [<- (zes.1 hx).2, List.set_getElem_self]
   | succ k ih =>
    intro hk
    have ih := ih (by omega)
    have hck : m.Co[k]? = some m.Co[k] := zeg (by omega)
    unfold lps zh9
    rw [hck]
    simp only
    by_cases h20 : (m.Co[k].Op == 20) = true
    ·simp only [h20, if_true, Bool.true_and]
     rw [List.foldl_append, ih, List.foldl_cons, List.foldl_nil]
     have hh : (qk m.Co[k] k).Head = (k : Int) - m.Co[k].D := rfl
     have ha : (qk m.Co[k] k).At = (k : Int) := rfl
     rw [hh, ha]
     by_cases he : ((k : Int) - m.Co[k].D == (p : Int)) = true
     ·simp only [he, if_true]
      rw [List.getElem?_set_self hpc]
      have : ((k : Int) + 1).toNat = k + 1 := by omega
      simp only [this, List.set_set]
     ·simp only [he, zfe, if_false]
    ·simp only [h20, zfe, if_false, Bool.false_and]
     exact ih
  exact this _ (Nat.le_refl _)
 ·have hlm : l ∈ lps m.Co m.Co.length := by rw [<- h.lps]; exact zmg hl
  obtain ⟨q, iq, hq, hcq, h20, rfl⟩ := zei.1 hlm
  have hi : i < j.loops.length := (zes.1 hl).1
  have hlo := hg.fine.loop hcq h20
  have hlen : (if ((qk iq q).Head == (p : Int)) = true then (match s[p]? with | some y => s.set p (((m.Co.take ((qk iq q).At + 1).toNat).drop p).foldl zgx y) | none => s) else s).length = j.ca.length := by
   split
   ·split
    ·rw [List.length_set]; exact hI
    ·exact hI
   ·exact hI
  refine ⟨?_, hlen⟩
  unfold xJ
  rw [ze8 hi, (zes.1 hl).2]
  simp only [zbs, h.mod]
  by_cases he : (qk iq q).Head = (p : Int)
  ·have e1 : ((qk iq q).Head != (p : Int)) = false := by simpa using he
   have e2 : ((qk iq q).Head == (p : Int)) = true := by simpa using he
   simp only [e1, e2, zfe, if_false, if_true]
   have hAt : (qk iq q).At = (q : Int) := rfl
   have hHd : (qk iq q).Head = (q : Int) - iq.D := rfl
   have n64 := hg.n64
   rw [he, hAt, zO (by omega) (by omega), show (q : Int) + 1 = ((q + 1 : Nat) : Int) by push_cast; rfl, zhz (by omega) (by omega)]
   have hl : p < s.length := by omega
   have hsp : s[p]? = some s[p] := zeg hl
   simp only [zbs, Int.toNat_natCast]
   rw [zpu (code := m.Co) _ hsp, hsp]
   rfl
  ·have e1 : ((qk iq q).Head != (p : Int)) = true := by simpa using he
   have e2 : ((qk iq q).Head == (p : Int)) = false := by simpa using he
   simp only [e1, e2, zfe, if_false, if_true]
theorem zpv {n : Nat} {m : zj} {l : Nat} (hl : l < m.Co.length) (hn : m.Co.length <= 64) : ∀ (c q f : Nat) (x : Nat -> za), q + c = l + 1 -> c < f -> (∀ r, r < 8 -> WT n (x r)) ->
  loop (xu m l) f (xE 8 x, (q : Int)) = some (xE 8 (((m.Co.take (l + 1)).drop q).foldl zgx x)) := by
 intro c
 induction c with
 | zero =>
  intro q f x hq hf hx
  obtain ⟨f, rfl⟩ : ∃ k, f = k + 1 := ⟨f - 1, by omega⟩
  rw [loop, xu, if_neg (by simp; omega), List.drop_of_length_le (by rw [List.length_take]; omega)]
  rfl
 | succ c ih =>
  intro q f x hq hf hx
  obtain ⟨f, rfl⟩ : ∃ k, f = k + 1 := ⟨f - 1, by omega⟩
  have hql : q < (m.Co.take (l + 1)).length := by rw [List.length_take]; omega
  rw [List.drop_eq_getElem_cons hql, List.foldl_cons, List.getElem_take]
  have hcode : idx m.Co (q : Int) = some (m.Co[q]'(by omega)) := ze8 (by omega)
  generalize hz : m.Co[q]'(by omega) = z at hcode
  rw [loop, xu, if_pos (by simp; omega)]
  simp only [hcode, zbs, zpn]
  have hnext : w64 ((q : Int) + 1) = ((q + 1 : Nat) : Int) := by rw [zO (by omega) (by omega)]; push_cast; rfl
  have goal := ih (q + 1) f (zgx x z) (by omega) (by omega) (zmn hx z)
  rw [hnext]
  by_cases hw : (wrB z).2 = true
  ·have hr := znP hw
   have hxr := hx (wrB z).1.toNat (by omega)
   simp only [hw, if_true, jv x hr.1 hr.2, zbs, zjm, zau]
   by_cases h1 : ((x (wrB z).1.toNat).Ki == 1) = true
   ·simp only [h1, if_true, zbs]
    have e : zgx x z = jf x (wrB z).1.toNat zkY := by unfold zgx; rw [hw, if_pos rfl, h1, if_pos rfl]
    rw [e] at goal
    rw [jv _ hr.1 hr.2]
    have : (jf x (wrB z).1.toNat ⟨1, ⟨0, 18446744073709551615⟩, 0⟩ (wrB z).1.toNat) = zkY := by simp [jf, zkY]
    have f2 : (zkY.Ki == 2) = false := rfl
    simp only [zbs, this, f2, zfe, if_false, e]
    exact goal
   ·have h1' : ((x (wrB z).1.toNat).Ki == 1) = false := by simpa using h1
    have e : zgx x z = jf x (wrB z).1.toNat zax := by unfold zgx; rw [hw, if_pos rfl, h1', if_neg (by decide)]
    rw [e] at goal
    simp only [h1', zfe, if_false, zbs, jv x hr.1 hr.2, zau]
    by_cases h2 : ((x (wrB z).1.toNat).Ki == 2) = true
    ·simp only [h2, if_true, e]
     exact goal
    ·simp only [h2, zfe, if_false]
     have hz0 : x (wrB z).1.toNat = zax := by
      rcases hxr with h | h | h
      ·exact h
      ·rw [h.1] at h1'; cases h1'
      ·rw [h.1] at h2; exact absurd rfl h2
     have : xE 8 x = xE 8 (jf x (wrB z).1.toNat zax) := zhO (fun r _ => by
      unfold jf; split
      ·rename_i h; rw [h, hz0]
      ·rfl)
     rw [this, e]
     exact goal
  ·have hw' : (wrB z).2 = false := by simpa using hw
   have e : zgx x z = x := by unfold zgx; rw [hw']; rfl
   rw [e] at goal
   simp only [hw', zfe, if_false, zbs]
   rw [e]
   exact goal
theorem zpw {n fu : Nat} (hf : 70 <= fu) {m : zj} (hg : ze7 m.Co) {p : Nat} {x : Nat -> za} (hx : ∀ r, r < 8 -> WT n (x r)) : ∀ (c k : Nat), k + c = m.Co.length ->
  qQ (jr fu m p) (fun (s : List za) => s) c k (xE 8 (zh9 m.Co p x k)) = some (xE 8 (zh9 m.Co p x m.Co.length)) := by
 intro c
 induction c with
 | zero =>
  intro k hk
  have : k = m.Co.length := by omega
  subst this
  rfl
 | succ c ih =>
  intro k hk
  have hck : m.Co[k]? = some (m.Co[k]'(by omega)) := zeg (by omega)
  have n64 := hg.n64
  show jr fu m p k (qQ (jr fu m p) (fun (s : List za) => s) c (k + 1)) _ = _
  have goal := ih (k + 1) (by omega)
  generalize qQ (jr fu m p) (fun (s : List za) => s) c (k + 1) = again at goal |-
  rw [ziU hck] at goal
  unfold jr
  rw [ze8 (by omega : k < m.Co.length)]
  simp only [zbs]
  by_cases h20 : (m.Co[k]'(by omega)).Op = 20
  ·have hlo := hg.fine.loop hck h20
   have e1 : ((m.Co[k]'(by omega)).Op != 20) = false := by simpa using h20
   have e2 : ((m.Co[k]'(by omega)).Op == 20) = true := by simpa using h20
   rw [e2] at goal
   simp only [e1, zfe, if_false, zbs]
   rw [zO (by omega) (by omega)]
   by_cases he : (k : Int) - (m.Co[k]'(by omega)).D = (p : Int)
   ·have e3 : ((k : Int) - (m.Co[k]'(by omega)).D != (p : Int)) = false := by simpa using he
    have e4 : ((k : Int) - (m.Co[k]'(by omega)).D == (p : Int)) = true := by simpa using he
    rw [e4] at goal
    simp only [Bool.and_self, if_true] at goal
    simp only [e3, zfe, if_false]
    rw [zpv (n := n) (by omega) n64 (k + 1 - p) p fu _ (by omega) (by omega) (zmo hx k)]
    exact goal
   ·have e3 : ((k : Int) - (m.Co[k]'(by omega)).D != (p : Int)) = true := by simpa using he
    have e4 : ((k : Int) - (m.Co[k]'(by omega)).D == (p : Int)) = false := by simpa using he
    rw [e4] at goal
    simp only [Bool.and_false, zfe, if_false] at goal
    simp only [e3, if_true]
    exact goal
  ·have e1 : ((m.Co[k]'(by omega)).Op != 20) = true := by simpa using h20
   have e2 : ((m.Co[k]'(by omega)).Op == 20) = false := by simpa using h20
   rw [e2] at goal
   simp only [Bool.false_and, zfe, if_false] at goal
   simp only [e1, if_true, zbs]
   exact goal
end Go.Proofs.YtbmknhpfkpmigaaGreatDoor
namespace Go.Proofs.YtbmknhpfkpmigaaGreatDoor
open Go.Sx
def jS (a b : zb) : zb := ⟨if b.Lo < a.Lo then b.Lo else a.Lo, if b.Hi > a.Hi then b.Hi else a.Hi⟩
theorem zlG (L : List zb) (hw : ∀ s ∈ L, SW s) : ∀ (rest : List zb) (i : Nat) (s : zb), L.drop i = rest -> 0 < i -> i + rest.length = L.length ->
  qQ (qn L) (fun (s : zb) => (.inl s)) rest.length i s = some (.inl (rest.foldl jS s)) := by
 intro rest
 induction rest with
 | nil => intro i s _ _ _; rfl
 | cons x rest ih =>
  intro i s hd hi hl
  simp only [List.length_cons] at hl
  have hx : L[i]? = some x := by
   have := congrArg (fun l => l[0]?) hd
   simpa using this
  have hd2 : L.drop (i + 1) = rest := by
   have := congrArg (fun l => l.drop 1) hd
   simpa [List.drop_drop, Nat.add_comm] using this
  have hxs := hw x (zmg hx)
  show qn L i (qQ (qn L) (fun (s : zb) => (.inl s)) rest.length (i + 1)) s = _
  have ihx := ih (i + 1) (jS s x) hd2 (by omega) (by omega)
  generalize qQ (qn L) (fun (s : zb) => (.inl s)) rest.length (i + 1) = again at ihx |-
  unfold qn
  have e : idx L (i : Int) = some x := by unfold Go.Sx.idx; rw [if_pos (by omega)]; exact hx
  have e0 : ((i : Int) == 0) = false := by simp; omega
  rw [e]
  simp only [zbs, zcS hxs, Bool.not_true, zfe, if_false, e0]
  rw [List.foldl_cons, <- ihx]
  unfold jS
  by_cases h1 : x.Lo < s.Lo
  ·by_cases h2 : x.Hi > s.Hi
   ·simp only [h1, h2, decide_true, if_true, zbs]
   ·simp only [h1, h2, decide_true, decide_false, if_true, if_false, zbs, zfe]
  ·by_cases h2 : x.Hi > s.Hi
   ·simp only [h1, h2, decide_true, decide_false, if_true, if_false, zbs, zfe]
   ·simp only [h1, h2, decide_false, if_false, zbs, zfe]
theorem zog {x0 : zb} {l : List zb} (hw : ∀ s ∈ x0 :: l, SW s) : zai (x0 :: l) = some (l.foldl jS x0, true) := by
 have hx := hw x0 zcs
 unfold zai
 show (qn (x0 :: l) 0 (qQ (qn (x0 :: l)) (fun (s : zb) => (.inl s)) l.length 1) ⟨0, 0⟩).bind _ = _
 have ihx := zlG (x0 :: l) hw l 1 x0 rfl (by omega) (by simp; omega)
 generalize qQ (qn (x0 :: l)) (fun (s : zb) => (.inl s)) l.length 1 = again at ihx |-
 unfold qn
 have e : idx (x0 :: l) ((0 : Nat) : Int) = some x0 := rfl
 have e0 : (((0 : Nat) : Int) == 0) = true := rfl
 rw [e]
 simp only [zbs, zcS hx, Bool.not_true, zfe, if_false, e0, if_true]
 show (again x0).bind _ = _
 rw [ihx]
 show some (_, decide _) = _
 rw [decide_eq_true (by simp only [List.length_cons]; omega)]
def okT (x0 x : za) : Prop := x.Ki = x0.Ki /\ x.Map = x0.Map
instance (x0 x : za) : Decidable (okT x0 x) := inferInstanceAs (Decidable (_ /\ _))
theorem zj9 {n : Nat} {a b : za} (ha : WT n a) (hb : WT n b) (h : okT a b) : zbq a b = if a.Ki == 1 then ⟨1, jS a.Sp b.Sp, 0⟩ else a := by
 obtain ⟨a0, a1, a2⟩ := ha.span
 obtain ⟨b0, b1, b2⟩ := hb.span
 unfold zbq jS zb3 zcC
 have e1 : (a.Ki != b.Ki) = false := by simp [h.1]
 have e2 : (a.Map != b.Map) = false := by simp [h.2]
 rw [e1, e2]
 simp only [Bool.or_self, zfe, if_false]
 split
 ·congr 2 <;> (repeat' split) <;> omega
 ·rfl
theorem ziH {a b : za} (h : ¬ okT a b) : zbq a b = zax := by
 unfold zbq
 rw [if_pos]
 rw [Bool.or_eq_true]
 by_cases e : a.Ki = b.Ki
 ·right; simp only [bne_iff_ne, ne_eq]; intro e2; exact h ⟨e.symm, e2.symm⟩
 ·left; simp only [bne_iff_ne, ne_eq]; exact e
theorem zkE {n : Nat} {b : za} (hb : WT n b) : zbq zax b = zax := by
 by_cases h : okT zax b
 ·rcases hb with rfl | hb | hb
  ·rfl
  ·have := h.1; rw [hb.1] at this; cases this
  ·have := h.1; rw [hb.1] at this; cases this
 ·exact ziH h
theorem ziI {n : Nat} : ∀ (l : List za), (∀ x ∈ l, WT n x) -> l.foldl zbq zax = zax
 | [], _ => rfl
 | x :: l, h => by
  rw [List.foldl_cons, zkE (h x zcs)]
  exact ziI l (fun y hy => h y (zcm _ hy))
theorem zjt {n : Nat} : ∀ (l : List za) {a : za}, WT n a -> (∀ x ∈ l, WT n x) -> (∀ x ∈ l, okT a x) -> l.foldl zbq a = if a.Ki == 1 then ⟨1, (l.map (·.Sp)).foldl jS a.Sp, 0⟩ else a
 | [], a, ha, _, _ => by
  by_cases h : (a.Ki == 1) = true
  ·rw [if_pos h]
   have hk : a.Ki = 1 := by simpa using h
   rcases ha with rfl | ha | ha
   ·cases hk
   ·obtain ⟨k, s, q⟩ := a
    simp only at hk ha |-
    obtain ⟨_, _, rfl⟩ := ha
    subst hk; rfl
   ·rw [hk] at ha; exact absurd ha.1 (by decide)
  ·rw [if_neg h]; rfl
 | x :: l, a, ha, hw, hk => by
  have hx := hw x zcs
  have h1 := zj9 ha hx (hk x zcs)
  rw [List.foldl_cons]
  have hj : WT n (zbq a x) := ha.join hx
  by_cases h : (a.Ki == 1) = true
  ·have hk1 : a.Ki = 1 := by simpa using h
   rw [if_pos h] at h1 |-
   have hm : a.Map = 0 := by
    rcases ha with rfl | ha | ha
    ·rfl
    ·exact ha.2.2
    ·rw [hk1] at ha; exact absurd ha.1 (by decide)
   rw [zjt l hj (fun y hy => hw y (zcm _ hy)) (fun y hy => by
    have := hk y (zcm _ hy)
    rw [h1]
    exact ⟨by rw [this.1, hk1], by rw [this.2, hm]⟩), h1]
   rfl
  ·rw [if_neg h] at h1 |-
   rw [h1, zjt l ha (fun y hy => hw y (zcm _ hy)) (fun y hy => hk y (zcm _ hy)), if_neg h]
theorem zka {n : Nat} : ∀ (l : List za) {a : za}, WT n a -> (∀ x ∈ l, WT n x) -> (∃ x ∈ l, ¬ okT a x) -> l.foldl zbq a = zax
 | [], _, _, _, h => by obtain ⟨x, hx, _⟩ := h; cases hx
 | x :: l, a, ha, hw, h => by
  have hx := hw x zcs
  have hl := fun y hy => hw y (zcm _ hy)
  rw [List.foldl_cons]
  by_cases hk : okT a x
  ·have h1 := zj9 ha hx hk
   have hsame : (zbq a x).Ki = a.Ki /\ (zbq a x).Map = a.Map := by
    rw [h1]
    split
    ·rename_i h
     have hk1 : a.Ki = 1 := by simpa using h
     refine ⟨hk1.symm, ?_⟩
     rcases ha with rfl | ha | ha
     ·rfl
     ·exact ha.2.2.symm
     ·rw [hk1] at ha; exact absurd ha.1 (by decide)
    ·exact ⟨rfl, rfl⟩
   obtain ⟨y, hy, hb⟩ := h
   rcases List.mem_cons.1 hy with rfl | hy
   ·exact absurd hk hb
   ·exact zka l (ha.join hx) hl ⟨y, hy, fun e => hb ⟨by rw [e.1, hsame.1], by rw [e.2, hsame.2]⟩⟩
  ·rw [ziH hk]
   exact ziI l hl
theorem zju {n : Nat} (x0 : za) (L : List za) (h0 : L[0]? = some x0) (hw : ∀ x ∈ L, WT n x) (hlen : L.length <= 5000) : ∀ (rest : List za) (i : Nat) (ss : List zb), L.drop i = rest -> i + rest.length = L.length -> ss.length = i ->
  qQ (jP L) (fun (s : List zb) => (.inl s)) rest.length i ss = some (if ∀ x ∈ rest, okT x0 x then .inl (ss ++ rest.map (·.Sp)) else .inr zax) := by
 intro rest
 induction rest with
 | nil => intro i ss _ _ _; simp [qQ]
 | cons x rest ih =>
  intro i ss hd hl hs
  simp only [List.length_cons] at hl
  have hx : L[i]? = some x := by
   have := congrArg (fun l => l[0]?) hd
   simpa using this
  have hd2 : L.drop (i + 1) = rest := by
   have := congrArg (fun l => l.drop 1) hd
   simpa [List.drop_drop, Nat.add_comm] using this
  have wx := hw x (zmg hx)
  have w0 := hw x0 (zmg h0)
  show jP L i (qQ (jP L) (fun (s : List zb) => (.inl s)) rest.length (i + 1)) ss = _
  have ihx := ih (i + 1) (ss ++ [x.Sp]) hd2 (by omega) (by simp; omega)
  generalize qQ (jP L) (fun (s : List zb) => (.inl s)) rest.length (i + 1) = again at ihx |-
  unfold jP
  have e : idx L (i : Int) = some x := by unfold Go.Sx.idx; rw [if_pos (by omega)]; exact hx
  have e0 : idx L 0 = some x0 := by unfold Go.Sx.idx; rw [if_pos (by omega)]; exact h0
  rw [e, e0]
  simp only [zbs]
  have hq : (if (x.Ki != x0.Ki) = true then some true else if (x.Ki == 2) = true then some (x.Map != x0.Map) else some false : Option Bool) = some (!decide (okT x0 x)) := by
   by_cases h1 : x.Ki = x0.Ki
   ·have b1 : (x.Ki != x0.Ki) = false := by simpa using h1
    rw [b1, if_neg (by decide)]
    by_cases h2 : x.Ki = 2
    ·have b2 : (x.Ki == 2) = true := by simpa using h2
     rw [b2, if_pos rfl]
     congr 1
     by_cases h3 : x.Map = x0.Map
     ·have : okT x0 x := ⟨h1, h3⟩
      simp [h3, this]
     ·have : ¬ okT x0 x := fun h => h3 h.2
      simp [h3, this]
    ·have b2 : (x.Ki == 2) = false := by simpa using h2
     rw [b2, if_neg (by decide)]
     have : okT x0 x := by
      refine ⟨h1, ?_⟩
      have f (y : za) (hy : WT n y) (hk : y.Ki ≠ 2) : y.Map = 0 := by
       rcases hy with rfl | hy | hy
       ·rfl
       ·exact hy.2.2
       ·exact absurd hy.1 hk
      rw [f x wx h2, f x0 w0 (by rw [<- h1]; exact h2)]
     simp [this]
   ·have b1 : (x.Ki != x0.Ki) = true := by simpa using h1
    have : ¬ okT x0 x := fun h => h1 h.1
    rw [b1, if_pos rfl]; simp [this]
  rw [hq]
  simp only [zbs]
  by_cases hk : okT x0 x
  ·have hroom : room (ss.length + [x.Sp].length) 16 = some () := by unfold Go.Sx.room; rw [if_pos]; simp; omega
   simp only [hk, decide_true, Bool.not_true, zfe, if_false, hroom, zbs]
   rw [ihx]
   simp [hk]
  ·simp only [hk, decide_false, Bool.not_false, if_true]
   rw [if_neg]
   ·rfl
   ·intro h; exact hk (h x zcs)
theorem zlH {n : Nat} {x0 : za} {l : List za} (hw : ∀ x ∈ x0 :: l, WT n x) (hlen : l.length <= 4900) : vt (x0 :: l) = some (l.foldl zbq x0) := by
 have w0 := hw x0 zcs
 have wl := fun y hy => hw y (zcm _ hy)
 unfold vt
 have := zju x0 (x0 :: l) rfl hw (by simp; omega) (x0 :: l) 0 [] rfl (by simp) rfl
 rw [this, zbs]
 by_cases h : ∀ x ∈ x0 :: l, okT x0 x
 ·rw [if_pos h]
  have e0 : idx (x0 :: l) 0 = some x0 := rfl
  simp only [e0, zbs]
  rw [zjt l w0 wl (fun y hy => h y (zcm _ hy))]
  split
  ·have : ([] ++ (x0 :: l).map (·.Sp)) = x0.Sp :: l.map (·.Sp) := rfl
   rw [this, zog]
   ·rfl
   ·intro s hs
    rcases List.mem_cons.1 hs with rfl | hs
    ·exact w0.span
    ·obtain ⟨y, hy, rfl⟩ := List.mem_map.1 hs
     exact (wl y hy).span
  ·rfl
 ·rw [if_neg h]
  have : ∃ x ∈ l, ¬ okT x0 x := by
   simp only [Classical.not_forall] at h
   obtain ⟨y, hy, hb⟩ := h
   rcases List.mem_cons.1 hy with rfl | hy
   ·exact absurd ⟨rfl, rfl⟩ hb
   ·exact ⟨y, hy, hb⟩
  rw [zka l w0 wl this]
end Go.Proofs.YtbmknhpfkpmigaaGreatDoor
