/- Texts KUp, KWidR, KJoinR of this proof. -/
import Derived.Test.YtbmknhpfkpmigaaGreatDoorF1
import Derived.Test.YtbmknhpfkpmigaaGreatDoorKSpanR
set_option linter.unusedVariables false
set_option linter.unusedSimpArgs false
namespace Go.Proofs.YtbmknhpfkpmigaaGreatDoor
open Go.Sx
structure Up {α : Type} (o o' : Option α) : Prop where
 h : ∀ r, o = some r -> o' = some r
theorem Up.same {α : Type} (o : Option α) : Up o o := ⟨fun _ h => h⟩
theorem Up.bind {α β : Type} {o o' : Option α} {f f' : α -> Option β} (h1 : Up o o') (h2 : ∀ x, Up (f x) (f' x)) : Up (o.bind f) (o'.bind f') := ⟨fun r h => by
 cases o with
 | none => cases h
 | some x => rw [h1.h x rfl]; exact (h2 x).h r h⟩
theorem Up.ite {α : Type} {c : Bool} {A A' B B' : Option α} (h1 : Up A A') (h2 : Up B B') : Up (if c then A else B) (if c then A' else B') := by
 cases c with
 | true => exact h1
 | false => exact h2
theorem Up.oc {α β : Type} {o : Option α} {A A' : Option β} {B B' : α -> Option β} (h1 : Up A A') (h2 : ∀ x, Up (B x) (B' x)) : Up (zhe o A B) (zhe o A' B') := by
 cases o with
 | none => exact h1
 | some x => exact h2 x
theorem Up.lp {σ ρ : Type} {b b' : (σ -> Option ρ) -> σ -> Option ρ} (hb : ∀ ag ag', (∀ s, Up (ag s) (ag' s)) -> ∀ s, Up (b ag s) (b' ag' s)) : ∀ {fu fu' : Nat}, fu <= fu' -> ∀ s, Up (loop b fu s) (loop b' fu' s) := by
 intro fu
 induction fu with
 | zero => intro fu' _ s; exact ⟨fun r h => by cases h⟩
 | succ n ih =>
  intro fu' hu s
  obtain ⟨k, rfl⟩ : ∃ k, fu' = k + 1 := ⟨fu' - 1, by omega⟩
  exact hb _ _ (ih (by omega)) s
theorem Up.fo {σ ρ : Type} {b b' : Nat -> (σ -> Option ρ) -> σ -> Option ρ} {out : σ -> ρ} (hb : ∀ i ag ag', (∀ s, Up (ag s) (ag' s)) -> ∀ s, Up (b i ag s) (b' i ag' s)) : ∀ (n i : Nat) (s : σ), Up (qO b out n i s) (qO b' out n i s) := by
 intro n
 induction n with
 | zero => intro i s; exact Up.same _
 | succ n ih => intro i s; exact hb i _ _ (ih (i + 1)) s
theorem zg6 (r8 : vX × Bool) {ag ag' : ((List za) × Nat) -> Option (List za)} (hag : ∀ s, Up (ag s) (ag' s)) (s427 : (List za) × Nat) : Up (zcL r8 ag s427) (zcL r8 ag' s427) := by
 unfold zcL
 repeat' (first | with_reducible exact Up.same _ | intro _ | with_reducible apply Up.bind | with_reducible apply Up.ite | with_reducible apply Up.oc | with_reducible apply hag | split)
theorem zej {fu fu' : Nat} (hu : fu <= fu') (p0 : Int) : Up (qM fu p0) (qM fu' p0) := by
 unfold qM
 repeat' (first | with_reducible exact Up.same _ | intro _ | with_reducible apply Up.bind | with_reducible apply Up.ite | with_reducible apply Up.oc | exact Up.lp (fun ag ag' h s => zg6 _ h s) hu _ | split)
theorem zgi (p1 : List za) (r27 : (List za)) (i365 : Nat) {ag ag' : Unit -> Option (Unit ⊕ Int)} (hag : ∀ s, Up (ag s) (ag' s)) (s364 : Unit) : Up (vo p1 r27 i365 ag s364) (vo p1 r27 i365 ag' s364) := by
 unfold vo
 repeat' (first | with_reducible exact Up.same _ | intro _ | with_reducible apply Up.bind | with_reducible apply Up.ite | with_reducible apply Up.oc | with_reducible apply hag | split)
theorem zh6 {fu fu' : Nat} (hu : fu <= fu') (p0 : Int) (p1 : List za) : Up (vm fu p0 p1) (vm fu' p0 p1) := by
 unfold vm
 repeat' (first | with_reducible exact Up.same _ | intro _ | with_reducible apply Up.bind | with_reducible apply Up.ite | with_reducible apply Up.oc | exact zej hu _ | exact Up.fo (fun i ag ag' h s => zgi _ _ i h s) _ _ _ | split)
theorem zek (p0 : zf) (p1 : Int) (o81 : zc × (Nat -> za)) (i730 : Nat) {ag ag' : Unit -> Option (Unit ⊕ ((Nat -> za) × Int))} (hag : ∀ s, Up (ag s) (ag' s)) (s728 : Unit) : Up (qf p0 p1 o81 i730 ag s728) (qf p0 p1 o81 i730 ag' s728) := by
 unfold qf
 repeat' (first | with_reducible exact Up.same _ | intro _ | with_reducible apply Up.bind | with_reducible apply Up.ite | with_reducible apply Up.oc | with_reducible apply hag | split)
theorem zfD {fu fu' : Nat} (hu : fu <= fu') (p0 : zf) (p1 : Int) : Up (qE fu p0 p1) (qE fu' p0 p1) := by
 unfold qE
 repeat' (first | with_reducible exact Up.same _ | intro _ | with_reducible apply Up.bind | with_reducible apply Up.ite | with_reducible apply Up.oc | exact Up.fo (fun i ag ag' h s => zek _ _ _ i h s) _ _ _ | exact zej hu _ | exact zh6 hu _ _ | split)
theorem zfE {fu fu' : Nat} (hu : fu <= fu') (i580 : Nat) {ag ag' : zf -> Option (zf ⊕ ((Option zf) × Int × Int))} (hag : ∀ s, Up (ag s) (ag' s)) (s578 : zf) : Up (zN fu i580 ag s578) (zN fu' i580 ag' s578) := by
 unfold zN
 repeat' (first | with_reducible exact Up.same _ | intro _ | with_reducible apply Up.bind | with_reducible apply Up.ite | with_reducible apply Up.oc | with_reducible apply hag | exact zfD hu _ _ | split)
theorem zg7 {fu fu' : Nat} (hu : fu <= fu') (p0 : zj) : Up (qH fu p0) (qH fu' p0) := by
 unfold qH
 repeat' (first | with_reducible exact Up.same _ | intro _ | with_reducible apply Up.bind | with_reducible apply Up.ite | with_reducible apply Up.oc | exact Up.fo (fun i ag ag' h s => zfE hu i h s) _ _ _ | split)
theorem zho {fu fu' : Nat} (hu : fu <= fu') (p0 : zj) : Up (va fu p0) (va fu' p0) := by
 unfold va
 repeat' (first | with_reducible exact Up.same _ | intro _ | with_reducible apply Up.bind | with_reducible apply Up.ite | with_reducible apply Up.oc | exact zg7 hu _ | split)
theorem zh7 {fu fu' : Nat} (hu : fu <= fu') (p0 : zj) (p1 : qv) (p2 : zk) : Up (zan fu p0 p1 p2) (zan fu' p0 p1 p2) := by
 unfold zan
 repeat' (first | with_reducible exact Up.same _ | intro _ | with_reducible apply Up.bind | with_reducible apply Up.ite | with_reducible apply Up.oc | exact zho hu _ | split)
theorem zbz {fu fu' : Nat} (hu : fu <= fu') (p0 : zi) (p1 : Int) (p2 : Int) (p3 : zj) : Up (qk fu p0 p1 p2 p3) (qk fu' p0 p1 p2 p3) := by
 unfold qk
 repeat' (first | with_reducible exact Up.same _ | intro _ | with_reducible apply Up.bind | with_reducible apply Up.ite | with_reducible apply Up.oc | exact zh7 hu _ _ _ | split)
theorem zdQ {fu fu' : Nat} (hu : fu <= fu') (p0 : zg) (p1 : Int) (g0 : zk) : Up (qS fu p0 p1 g0) (qS fu' p0 p1 g0) := by
 unfold qS
 repeat' (first | with_reducible exact Up.same _ | intro _ | with_reducible apply Up.bind | with_reducible apply Up.ite | with_reducible apply Up.oc | exact zej hu _ | split)
theorem zdR {fu fu' : Nat} (hu : fu <= fu') (p0 : zg) (g0 : zk) : Up (ql fu p0 g0) (ql fu' p0 g0) := by
 unfold ql
 repeat' (first | with_reducible exact Up.same _ | intro _ | with_reducible apply Up.bind | with_reducible apply Up.ite | with_reducible apply Up.oc | exact zdQ hu _ _ _ | split)
theorem zbX {fu fu' : Nat} (hu : fu <= fu') (p0 : zi) : Up (qh fu p0) (qh fu' p0) := by
 unfold qh
 repeat' (first | with_reducible exact Up.same _ | intro _ | with_reducible apply Up.bind | with_reducible apply Up.ite | with_reducible apply Up.oc | exact zdR hu _ _ | split)
theorem zeG {fu fu' : Nat} (hu : fu <= fu')  : Up (xR fu) (xR fu') := by
 unfold xR
 repeat' (first | with_reducible exact Up.same _ | intro _ | with_reducible apply Up.bind | with_reducible apply Up.ite | with_reducible apply Up.oc | exact zbz hu _ _ _ _ | exact zbX hu _ | split)
theorem zdS (p0 : List Int) (i781 : Nat) {ag ag' : Unit -> Option (Unit ⊕ Bool)} (hag : ∀ s, Up (ag s) (ag' s)) (s780 : Unit) : Up (vc p0 i781 ag s780) (vc p0 i781 ag' s780) := by
 unfold vc
 repeat' (first | with_reducible exact Up.same _ | intro _ | with_reducible apply Up.bind | with_reducible apply Up.ite | with_reducible apply Up.oc | with_reducible apply hag | exact Up.fo (fun i ag ag' h s => tappetref09_Maps_l2_up _ _ i h s) _ _ _ | split)
theorem ze8 {fu fu' : Nat} (hu : fu <= fu') (p0 : List Int) : Up (ja fu p0) (ja fu' p0) := by
 unfold ja
 repeat' (first | with_reducible exact Up.same _ | intro _ | with_reducible apply Up.bind | with_reducible apply Up.ite | with_reducible apply Up.oc | exact Up.fo (fun i ag ag' h s => zdS _ i h s) _ _ _ | split)
theorem zdh (i1997 : Nat) {ag ag' : ((List (List Int)) × Int) -> Option (List (List Int))} (hag : ∀ s, Up (ag s) (ag' s)) (s2331 : (List (List Int)) × Int) : Up (xz i1997 ag s2331) (xz i1997 ag' s2331) := by
 unfold xz
 repeat' (first | with_reducible exact Up.same _ | intro _ | with_reducible apply Up.bind | with_reducible apply Up.ite | with_reducible apply Up.oc | with_reducible apply hag | split)
theorem zdi {fu fu' : Nat} (hu : fu <= fu') (p0 : List zc) (i1997 : Nat) {ag ag' : (List (List Int)) -> Option (List (List Int))} (hag : ∀ s, Up (ag s) (ag' s)) (s1995 : (List (List Int))) : Up (xA fu p0 i1997 ag s1995) (xA fu' p0 i1997 ag' s1995) := by
 unfold xA
 repeat' (first | with_reducible exact Up.same _ | intro _ | with_reducible apply Up.bind | with_reducible apply Up.ite | with_reducible apply Up.oc | with_reducible apply hag | exact Up.lp (fun ag ag' h s => zdh _ h s) hu _ | split)
theorem zel {fu fu' : Nat} (hu : fu <= fu') (p0 : List zc) : Up (jw fu p0) (jw fu' p0) := by
 unfold jw
 repeat' (first | with_reducible exact Up.same _ | intro _ | with_reducible apply Up.bind | with_reducible apply Up.ite | with_reducible apply Up.oc | exact Up.fo (fun i ag ag' h s => zdi hu _ i h s) _ _ _ | split)
theorem zcC (p0 : List zc) (p1 : List (List Int)) (i5985 : Nat) {ag ag' : Unit -> Option (Unit ⊕ (Int × Bool))} (hag : ∀ s, Up (ag s) (ag' s)) (s5984 : Unit) : Up (jh p0 p1 i5985 ag s5984) (jh p0 p1 i5985 ag' s5984) := by
 unfold jh
 repeat' (first | with_reducible exact Up.same _ | intro _ | with_reducible apply Up.bind | with_reducible apply Up.ite | with_reducible apply Up.oc | with_reducible apply hag | exact Up.fo (fun i ag ag' h s => tappetref07_crossing_l2_up _ _ _ i h s) _ _ _ | split)
theorem zdC {fu fu' : Nat} (hu : fu <= fu') (p0 : List zc) (p1 : List (List Int)) : Up (qI fu p0 p1) (qI fu' p0 p1) := by
 unfold qI
 repeat' (first | with_reducible exact Up.same _ | intro _ | with_reducible apply Up.bind | with_reducible apply Up.ite | with_reducible apply Up.oc | exact Up.fo (fun i ag ag' h s => zcC _ _ i h s) _ _ _ | split)
theorem zcD (p0 : List zc) (p1 : List (List Int)) (i3610 : Nat) (r3629 : Int × Bool × Bool) {ag ag' : Int -> Option (Unit ⊕ (Int × Bool))} (hag : ∀ s, Up (ag s) (ag' s)) (s4215 : Int) : Up (jk p0 p1 i3610 r3629 ag s4215) (jk p0 p1 i3610 r3629 ag' s4215) := by
 unfold jk
 repeat' (first | with_reducible exact Up.same _ | intro _ | with_reducible apply Up.bind | with_reducible apply Up.ite | with_reducible apply Up.oc | with_reducible apply hag | split)
theorem zcE {fu fu' : Nat} (hu : fu <= fu') (p0 : List zc) (p1 : List (List Int)) (i3610 : Nat) {ag ag' : Unit -> Option (Unit ⊕ (Int × Bool))} (hag : ∀ s, Up (ag s) (ag' s)) (s3609 : Unit) : Up (jl fu p0 p1 i3610 ag s3609) (jl fu' p0 p1 i3610 ag' s3609) := by
 unfold jl
 repeat' (first | with_reducible exact Up.same _ | intro _ | with_reducible apply Up.bind | with_reducible apply Up.ite | with_reducible apply Up.oc | with_reducible apply hag | exact Up.lp (fun ag ag' h s => zcD _ _ _ _ h s) hu _ | split)
theorem zdD {fu fu' : Nat} (hu : fu <= fu') (p0 : List zc) (p1 : List (List Int)) : Up (qJ fu p0 p1) (qJ fu' p0 p1) := by
 unfold qJ
 repeat' (first | with_reducible exact Up.same _ | intro _ | with_reducible apply Up.bind | with_reducible apply Up.ite | with_reducible apply Up.oc | exact Up.fo (fun i ag ag' h s => zcE hu _ _ i h s) _ _ _ | split)
theorem zdT (p0 : List zc) (p1 : List (List Int)) (i3044 : Nat) {ag ag' : (Int × Int) -> Option Int} (hag : ∀ s, Up (ag s) (ag' s)) (s3551 : Int × Int) : Up (xq p0 p1 i3044 ag s3551) (xq p0 p1 i3044 ag' s3551) := by
 unfold xq
 repeat' (first | with_reducible exact Up.same _ | intro _ | with_reducible apply Up.bind | with_reducible apply Up.ite | with_reducible apply Up.oc | with_reducible apply hag | split)
theorem zdU {fu fu' : Nat} (hu : fu <= fu') (p0 : List zc) (p1 : List (List Int)) (i3044 : Nat) {ag ag' : Int -> Option Int} (hag : ∀ s, Up (ag s) (ag' s)) (s3043 : Int) : Up (ve fu p0 p1 i3044 ag s3043) (ve fu' p0 p1 i3044 ag' s3043) := by
 unfold ve
 repeat' (first | with_reducible exact Up.same _ | intro _ | with_reducible apply Up.bind | with_reducible apply Up.ite | with_reducible apply Up.oc | with_reducible apply hag | exact Up.lp (fun ag ag' h s => zdT _ _ _ h s) hu _ | split)
theorem ze9 {fu fu' : Nat} (hu : fu <= fu') (p0 : List zc) (p1 : List (List Int)) : Up (xi fu p0 p1) (xi fu' p0 p1) := by
 unfold xi
 repeat' (first | with_reducible exact Up.same _ | intro _ | with_reducible apply Up.bind | with_reducible apply Up.ite | with_reducible apply Up.oc | exact Up.fo (fun i ag ag' h s => zdU hu _ _ i h s) _ _ _ | split)
theorem zdE (p0 : List zc) (i234 : Nat) {ag ag' : Unit -> Option (Unit ⊕ (Int × Int))} (hag : ∀ s, Up (ag s) (ag' s)) (s233 : Unit) : Up (xf p0 i234 ag s233) (xf p0 i234 ag' s233) := by
 unfold xf
 repeat' (first | with_reducible exact Up.same _ | intro _ | with_reducible apply Up.bind | with_reducible apply Up.ite | with_reducible apply Up.oc | with_reducible apply hag | split)
theorem zeH {fu fu' : Nat} (hu : fu <= fu') (p0 : List zc) : Up (jn fu p0) (jn fu' p0) := by
 unfold jn
 repeat' (first | with_reducible exact Up.same _ | intro _ | with_reducible apply Up.bind | with_reducible apply Up.ite | with_reducible apply Up.oc | exact Up.fo (fun i ag ag' h s => zdE _ i h s) _ _ _ | exact zel hu _ | exact zdC hu _ _ | exact zdD hu _ _ | exact ze9 hu _ _ | split)
theorem zdF (p0 : Int) (p1 : Int) {ag ag' : (Int × Int × Int) -> Option (Int × Int)} (hag : ∀ s, Up (ag s) (ag' s)) (s88 : Int × Int × Int) : Up (qr p0 p1 ag s88) (qr p0 p1 ag' s88) := by
 unfold qr
 repeat' (first | with_reducible exact Up.same _ | intro _ | with_reducible apply Up.bind | with_reducible apply Up.ite | with_reducible apply Up.oc | with_reducible apply hag | split)
theorem zeI {fu fu' : Nat} (hu : fu <= fu') (p0 : Int) (p1 : Int) : Up (jM fu p0 p1) (jM fu' p0 p1) := by
 unfold jM
 repeat' (first | with_reducible exact Up.same _ | intro _ | with_reducible apply Up.bind | with_reducible apply Up.ite | with_reducible apply Up.oc | exact Up.lp (fun ag ag' h s => zdF _ _ h s) hu _ | split)
theorem zeJ (p0 : Int) (p2 : Int) {ag ag' : (Int × Int) -> Option Int} (hag : ∀ s, Up (ag s) (ag' s)) (s126 : Int × Int) : Up (qw p0 p2 ag s126) (qw p0 p2 ag' s126) := by
 unfold qw
 repeat' (first | with_reducible exact Up.same _ | intro _ | with_reducible apply Up.bind | with_reducible apply Up.ite | with_reducible apply Up.oc | with_reducible apply hag | split)
theorem zdj {fu fu' : Nat} (hu : fu <= fu') (p0 : Int) (p1 : Int) (p2 : Int) : Up (zL fu p0 p1 p2) (zL fu' p0 p1 p2) := by
 unfold zL
 repeat' (first | with_reducible exact Up.same _ | intro _ | with_reducible apply Up.bind | with_reducible apply Up.ite | with_reducible apply Up.oc | exact zeI hu _ _ | exact Up.lp (fun ag ag' h s => zeJ _ _ h s) hu _ | split)
theorem zdV (p0 : Int) {ag ag' : Int -> Option Int} (hag : ∀ s, Up (ag s) (ag' s)) (s15 : Int) : Up (qW p0 ag s15) (qW p0 ag' s15) := by
 unfold qW
 repeat' (first | with_reducible exact Up.same _ | intro _ | with_reducible apply Up.bind | with_reducible apply Up.ite | with_reducible apply Up.oc | with_reducible apply hag | split)
theorem zfa {fu fu' : Nat} (hu : fu <= fu') (p0 : Int) : Up (jc fu p0) (jc fu' p0) := by
 unfold jc
 repeat' (first | with_reducible exact Up.same _ | intro _ | with_reducible apply Up.bind | with_reducible apply Up.ite | with_reducible apply Up.oc | exact Up.lp (fun ag ag' h s => zdV _ h s) hu _ | split)
theorem zcW (p1 : Int) {ag ag' : (zb × Int) -> Option (zb ⊕ (zb × Bool))} (hag : ∀ s, Up (ag s) (ag' s)) (s64 : zb × Int) : Up (qn p1 ag s64) (qn p1 ag' s64) := by
 unfold qn
 repeat' (first | with_reducible exact Up.same _ | intro _ | with_reducible apply Up.bind | with_reducible apply Up.ite | with_reducible apply Up.oc | with_reducible apply hag | split)
theorem zdW {fu fu' : Nat} (hu : fu <= fu') (p0 : zb) (p1 : Int) : Up (qC fu p0 p1) (qC fu' p0 p1) := by
 unfold qC
 repeat' (first | with_reducible exact Up.same _ | intro _ | with_reducible apply Up.bind | with_reducible apply Up.ite | with_reducible apply Up.oc | exact Up.lp (fun ag ag' h s => zcW _ h s) hu _ | split)
theorem zdX (p1 : Int) {ag ag' : (Int × Int) -> Option Int} (hag : ∀ s, Up (ag s) (ag' s)) (s20 : Int × Int) : Up (qX p1 ag s20) (qX p1 ag' s20) := by
 unfold qX
 repeat' (first | with_reducible exact Up.same _ | intro _ | with_reducible apply Up.bind | with_reducible apply Up.ite | with_reducible apply Up.oc | with_reducible apply hag | split)
theorem zfb {fu fu' : Nat} (hu : fu <= fu') (p0 : Int) (p1 : Int) : Up (jG fu p0 p1) (jG fu' p0 p1) := by
 unfold jG
 repeat' (first | with_reducible exact Up.same _ | intro _ | with_reducible apply Up.bind | with_reducible apply Up.ite | with_reducible apply Up.oc | exact Up.lp (fun ag ag' h s => zdX _ h s) hu _ | split)
theorem zfZ {fu fu' : Nat} (hu : fu <= fu') (p0 : Int) (p1 : zb) (p2 : zb) : Up (xQ fu p0 p1 p2) (xQ fu' p0 p1 p2) := by
 unfold xQ
 repeat' (first | with_reducible exact Up.same _ | intro _ | with_reducible apply Up.bind | with_reducible apply Up.ite | with_reducible apply Up.oc | exact zdj hu _ _ _ | exact zfa hu _ | exact zdW hu _ _ | exact zfb hu _ _ | split)
theorem zem {fu fu' : Nat} (hu : fu <= fu') (p0 : zj) (p1 : Int) (p2 : List za) (p3 : Bool) : Up (zY fu p0 p1 p2 p3) (zY fu' p0 p1 p2 p3) := by
 unfold zY
 repeat' (first | with_reducible exact Up.same _ | intro _ | with_reducible apply Up.bind | with_reducible apply Up.ite | with_reducible apply Up.oc | exact zfZ hu _ _ _ | split)
theorem zdG {fu fu' : Nat} (hu : fu <= fu') (p0 : zj) (p1 : Int) (p2 : List (List za)) {ag ag' : ((List (List za)) × Int) -> Option (List (List za))} (hag : ∀ s, Up (ag s) (ag' s)) (s1127 : (List (List za)) × Int) : Up (qt fu p0 p1 p2 ag s1127) (qt fu' p0 p1 p2 ag' s1127) := by
 unfold qt
 repeat' (first | with_reducible exact Up.same _ | intro _ | with_reducible apply Up.bind | with_reducible apply Up.ite | with_reducible apply Up.oc | with_reducible apply hag | exact zem hu _ _ _ _ | split)
theorem zeK {fu fu' : Nat} (hu : fu <= fu') (p0 : zj) (p1 : Int) (p2 : List (List za)) : Up (jN fu p0 p1 p2) (jN fu' p0 p1 p2) := by
 unfold jN
 repeat' (first | with_reducible exact Up.same _ | intro _ | with_reducible apply Up.bind | with_reducible apply Up.ite | with_reducible apply Up.oc | exact Up.lp (fun ag ag' h s => zdG hu _ _ _ h s) hu _ | split)
theorem zeL (r22 : (List (List za))) (i2175 : Nat) {ag ag' : (List za) -> Option (List za)} (hag : ∀ s, Up (ag s) (ag' s)) (s2173 : (List za)) : Up (jo r22 i2175 ag s2173) (jo r22 i2175 ag' s2173) := by
 unfold jo
 repeat' (first | with_reducible exact Up.same _ | intro _ | with_reducible apply Up.bind | with_reducible apply Up.ite | with_reducible apply Up.oc | with_reducible apply hag | exact Up.fo (fun i ag ag' h s => tappetref09_at_l2_up _ _ i h s) _ _ _ | split)
theorem zeM (p0 : zj) (i6303 : Nat) {ag ag' : ((List za) × Int) -> Option (List za)} (hag : ∀ s, Up (ag s) (ag' s)) (s6926 : (List za) × Int) : Up (xr p0 i6303 ag s6926) (xr p0 i6303 ag' s6926) := by
 unfold xr
 repeat' (first | with_reducible exact Up.same _ | intro _ | with_reducible apply Up.bind | with_reducible apply Up.ite | with_reducible apply Up.oc | with_reducible apply hag | split)
theorem zeN {fu fu' : Nat} (hu : fu <= fu') (p0 : zj) (p1 : Int) (i6303 : Nat) {ag ag' : (List za) -> Option (List za)} (hag : ∀ s, Up (ag s) (ag' s)) (s6302 : (List za)) : Up (jp fu p0 p1 i6303 ag s6302) (jp fu' p0 p1 i6303 ag' s6302) := by
 unfold jp
 repeat' (first | with_reducible exact Up.same _ | intro _ | with_reducible apply Up.bind | with_reducible apply Up.ite | with_reducible apply Up.oc | with_reducible apply hag | exact Up.lp (fun ag ag' h s => zeM _ _ h s) hu _ | split)
theorem zf0 {fu fu' : Nat} (hu : fu <= fu') (p0 : zj) (p1 : Int) (p2 : List (List za)) : Up (xu fu p0 p1 p2) (xu fu' p0 p1 p2) := by
 unfold xu
 repeat' (first | with_reducible exact Up.same _ | intro _ | with_reducible apply Up.bind | with_reducible apply Up.ite | with_reducible apply Up.oc | exact zeK hu _ _ _ | exact Up.fo (fun i ag ag' h s => zeL _ i h s) _ _ _ | exact Up.fo (fun i ag ag' h s => zeN hu _ _ i h s) _ _ _ | split)
theorem zen {fu fu' : Nat} (hu : fu <= fu') (p0 : zj) (i625 : Nat) {ag ag' : (List (List za)) -> Option ((List (List za)) ⊕ ((List (List za)) × Int × Int))} (hag : ∀ s, Up (ag s) (ag' s)) (s622 : (List (List za))) : Up (zZ fu p0 i625 ag s622) (zZ fu' p0 i625 ag' s622) := by
 unfold zZ
 repeat' (first | with_reducible exact Up.same _ | intro _ | with_reducible apply Up.bind | with_reducible apply Up.ite | with_reducible apply Up.oc | with_reducible apply hag | exact zf0 hu _ _ _ | split)
theorem zfF {fu fu' : Nat} (hu : fu <= fu') (p0 : zj) : Up (qY fu p0) (qY fu' p0) := by
 unfold qY
 repeat' (first | with_reducible exact Up.same _ | intro _ | with_reducible apply Up.bind | with_reducible apply Up.ite | with_reducible apply Up.oc | exact ze8 hu _ | exact zeH hu _ | exact Up.fo (fun i ag ag' h s => zen hu _ i h s) _ _ _ | split)
theorem zfG {fu fu' : Nat} (hu : fu <= fu') (p0 : zj) (p1 : qv) (p2 : zh) : Up (jz fu p0 p1 p2) (jz fu' p0 p1 p2) := by
 unfold jz
 repeat' (first | with_reducible exact Up.same _ | intro _ | with_reducible apply Up.bind | with_reducible apply Up.ite | with_reducible apply Up.oc | exact zfF hu _ | split)
theorem zct {fu fu' : Nat} (hu : fu <= fu') (p0 : ze) (p1 : Int) (p2 : Int) (p3 : zj) : Up (qc fu p0 p1 p2 p3) (qc fu' p0 p1 p2 p3) := by
 unfold qc
 repeat' (first | with_reducible exact Up.same _ | intro _ | with_reducible apply Up.bind | with_reducible apply Up.ite | with_reducible apply Up.oc | exact zfG hu _ _ _ | split)
theorem zb4 (p0 : zh) (p1 : Int) {ag ag' : (Int × Int) -> Option Int} (hag : ∀ s, Up (ag s) (ag' s)) (s324 : Int × Int) : Up (zz p0 p1 ag s324) (zz p0 p1 ag' s324) := by
 unfold zz
 repeat' (first | with_reducible exact Up.same _ | intro _ | with_reducible apply Up.bind | with_reducible apply Up.ite | with_reducible apply Up.oc | with_reducible apply hag | split)
theorem zaW {fu fu' : Nat} (hu : fu <= fu') (p0 : zh) (p1 : Int) : Up (zR fu p0 p1) (zR fu' p0 p1) := by
 unfold zR
 repeat' (first | with_reducible exact Up.same _ | intro _ | with_reducible apply Up.bind | with_reducible apply Up.ite | with_reducible apply Up.oc | exact Up.lp (fun ag ag' h s => zb4 _ _ h s) hu _ | split)
theorem zbb {fu fu' : Nat} (hu : fu <= fu') (p0 : zh) (p1 : Int) : Up (zI fu p0 p1) (zI fu' p0 p1) := by
 unfold zI
 repeat' (first | with_reducible exact Up.same _ | intro _ | with_reducible apply Up.bind | with_reducible apply Up.ite | with_reducible apply Up.oc | exact zaW hu _ _ | split)
theorem zcX {fu fu' : Nat} (hu : fu <= fu') (p0 : zd) (p1 : zc) (p2 : zA) (g0 : zh) : Up (qo fu p0 p1 p2 g0) (qo fu' p0 p1 p2 g0) := by
 unfold qo
 repeat' (first | with_reducible exact Up.same _ | intro _ | with_reducible apply Up.bind | with_reducible apply Up.ite | with_reducible apply Up.oc | exact zbb hu _ _ | split)
theorem zcu (p0 : zh) (p1 : Int) {ag ag' : Int -> Option (Unit ⊕ (Int × Int))} (hag : ∀ s, Up (ag s) (ag' s)) (s347 : Int) : Up (zE p0 p1 ag s347) (zE p0 p1 ag' s347) := by
 unfold zE
 repeat' (first | with_reducible exact Up.same _ | intro _ | with_reducible apply Up.bind | with_reducible apply Up.ite | with_reducible apply Up.oc | with_reducible apply hag | split)
theorem zbc {fu fu' : Nat} (hu : fu <= fu') (p0 : zh) (p1 : Int) : Up (zF fu p0 p1) (zF fu' p0 p1) := by
 unfold zF
 repeat' (first | with_reducible exact Up.same _ | intro _ | with_reducible apply Up.bind | with_reducible apply Up.ite | with_reducible apply Up.oc | exact Up.lp (fun ag ag' h s => zcu _ _ h s) hu _ | split)
theorem zcY {fu fu' : Nat} (hu : fu <= fu') (p0 : zd) (p1 : zc) (g0 : zh) : Up (qp fu p0 p1 g0) (qp fu' p0 p1 g0) := by
 unfold qp
 repeat' (first | with_reducible exact Up.same _ | intro _ | with_reducible apply Up.bind | with_reducible apply Up.ite | with_reducible apply Up.oc | exact zdj hu _ _ _ | exact zbc hu _ _ | split)
theorem zcZ {fu fu' : Nat} (hu : fu <= fu') (p0 : zd) (g0 : zh) : Up (zS fu p0 g0) (zS fu' p0 g0) := by
 unfold zS
 repeat' (first | with_reducible exact Up.same _ | intro _ | with_reducible apply Up.bind | with_reducible apply Up.ite | with_reducible apply Up.oc | exact zcX hu _ _ _ _ | exact zcY hu _ _ _ | split)
theorem zcF {fu fu' : Nat} (hu : fu <= fu') (p0 : ze) : Up (zU fu p0) (zU fu' p0) := by
 unfold zU
 repeat' (first | with_reducible exact Up.same _ | intro _ | with_reducible apply Up.bind | with_reducible apply Up.ite | with_reducible apply Up.oc | exact zcZ hu _ _ | split)
theorem zdH {fu fu' : Nat} (hu : fu <= fu') (p2 : Int) {ag ag' : (zi × ze × Int) -> Option ((zi × ze) ⊕ (Bool × zi × ze))} (hag : ∀ s, Up (ag s) (ag' s)) (s215 : zi × ze × Int) : Up (xK fu p2 ag s215) (xK fu' p2 ag' s215) := by
 unfold xK
 repeat' (first | with_reducible exact Up.same _ | intro _ | with_reducible apply Up.bind | with_reducible apply Up.ite | with_reducible apply Up.oc | with_reducible apply hag | exact zbX hu _ | exact zcF hu _ | split)
theorem zb2 {fu fu' : Nat} (hu : fu <= fu') (p0 : zi) (p1 : ze) (p2 : Int) : Up (jq fu p0 p1 p2) (jq fu' p0 p1 p2) := by
 unfold jq
 repeat' (first | with_reducible exact Up.same _ | intro _ | with_reducible apply Up.bind | with_reducible apply Up.ite | with_reducible apply Up.oc | exact Up.lp (fun ag ag' h s => zdH hu _ h s) hu _ | split)
theorem zdI {fu fu' : Nat} (hu : fu <= fu') (p0 : zi) (p1 : ze) (i728 : Nat) {ag ag' : Unit -> Option (Unit ⊕ Bool)} (hag : ∀ s, Up (ag s) (ag' s)) (s725 : Unit) : Up (xM fu p0 p1 i728 ag s725) (xM fu' p0 p1 i728 ag' s725) := by
 unfold xM
 repeat' (first | with_reducible exact Up.same _ | intro _ | with_reducible apply Up.bind | with_reducible apply Up.ite | with_reducible apply Up.oc | with_reducible apply hag | exact zaW hu _ _ | exact zbc hu _ _ | split)
theorem zeO {fu fu' : Nat} (hu : fu <= fu') (p0 : zi) (p1 : ze) : Up (jr fu p0 p1) (jr fu' p0 p1) := by
 unfold jr
 repeat' (first | with_reducible exact Up.same _ | intro _ | with_reducible apply Up.bind | with_reducible apply Up.ite | with_reducible apply Up.oc | exact Up.fo (fun i ag ag' h s => zdI hu _ _ i h s) _ _ _ | split)
end Go.Proofs.YtbmknhpfkpmigaaGreatDoor
set_option linter.unusedVariables false
set_option linter.unusedSimpArgs false
namespace Go.Proofs.YtbmknhpfkpmigaaGreatDoor
open Go.Sx
theorem zhC {σ ρ α : Type} {body : Nat -> (σ -> Option ρ) -> σ -> Option ρ} {out : σ -> ρ} (xs : List α) (f : σ -> α -> σ) (I : σ -> Prop) (h : ∀ i again s x, xs[i]? = some x -> I s -> body i again s = again (f s x) /\ I (f s x)) :
  ∀ (n i : Nat) (s : σ), i + n = xs.length -> I s -> qO body out n i s = some (out ((xs.drop i).foldl f s)) := by
 intro n
 induction n with
 | zero =>
  intro i s hi hI
  rw [List.drop_of_length_le (by omega)]; rfl
 | succ n ih =>
  intro i s hi hI
  have hx : xs[i]? = some xs[i] := zeg (by omega)
  show body i (qO body out n (i + 1)) s = _
  obtain ⟨h1, h2⟩ := h i (qO body out n (i + 1)) s _ hx hI
  rw [h1, ih (i + 1) _ (by omega) h2, List.drop_eq_getElem_cons (by omega : i < xs.length)]
  rfl
def zkU : za := ⟨1, ⟨0, 18446744073709551615⟩, 0⟩
def zgw (x : Nat -> za) (i : zc) : Nat -> za := if (wrB i).2 then jd x (wrB i).1.toNat (if (x (wrB i).1.toNat).Ki == 1 then zkU else zaw) else x
theorem znL {i : zc} (h : (wrB i).2 = true) : 0 <= (wrB i).1 /\ (wrB i).1 < 8 := by
 by_cases hr : qd i = true
 ·obtain ⟨r, e, hq⟩ := zgQ hr
  rw [znK] at e
  obtain rfl := Option.some.inj e
  exact hq h
 ·have : qd i = false := by simpa using hr
  unfold wrB at h
  rw [this] at h
  cases h
theorem WT.full {n : Nat} : WT n zkU := .inr (.inl ⟨rfl, SW.full, rfl⟩)
theorem zmi {n : Nat} {x : Nat -> za} (hx : ∀ r, r < 8 -> WT n (x r)) (i : zc) : ∀ r, r < 8 -> WT n (zgw x i r) := by
 unfold zgw
 split
 ·refine zcV hx ?_
  split
  ·exact WT.full
  ·exact WT.zero
 ·exact hx
def zh8 (code : List zc) (p : Nat) (x : Nat -> za) : Nat -> (Nat -> za)
 | 0 => x
 | k + 1 => match code[k]? with
  | some i => if i.Op == 20 && ((k : Int) - i.D == (p : Int)) then ((code.take (k + 1)).drop p).foldl zgw (zh8 code p x k) else zh8 code p x k
  | none => zh8 code p x k
theorem zkj {n : Nat} : ∀ (l : List zc) {x : Nat -> za}, (∀ r, r < 8 -> WT n (x r)) -> ∀ r, r < 8 -> WT n (l.foldl zgw x r)
 | [], _, h => h
 | i :: l, _, h => zkj l (zmi h i)
theorem ziS {code : List zc} {p k : Nat} {x : Nat -> za} {i : zc} (h : code[k]? = some i) :
 zh8 code p x (k + 1) = if i.Op == 20 && ((k : Int) - i.D == (p : Int)) then ((code.take (k + 1)).drop p).foldl zgw (zh8 code p x k) else zh8 code p x k := by rw [zh8, h]
theorem zmj {n : Nat} {code : List zc} {p : Nat} {x : Nat -> za} (hx : ∀ r, r < 8 -> WT n (x r)) : ∀ k r, r < 8 -> WT n (zh8 code p x k r) := by
 intro k
 induction k with
 | zero => exact hx
 | succ k ih =>
  cases h : code[k]? with
  | none =>
   have : zh8 code p x (k + 1) = zh8 code p x k := by rw [zh8, h]
   rw [this]; exact ih
  | some i =>
   rw [ziS h]
   by_cases hc : (i.Op == 20 && ((k : Int) - i.D == (p : Int))) = true
   ·rw [if_pos hc]; exact zkj _ ih
   ·rw [if_neg hc]; exact ih
theorem zpt {code : List zc} {p : Nat} (ys : List zc) {A : List (Nat -> za)} {x : Nat -> za} (hx : A[p]? = some x) :
  qO (xd p ys) (fun (s : List (Nat -> za)) => s) ys.length 0 A = some (A.set p (ys.foldl zgw x)) := by
 have hp : p < A.length := (zes.1 hx).1
 have := zhC (body := xd p ys) (out := fun (s : List (Nat -> za)) => s) ys (fun s i => match s[p]? with | some y => s.set p (zgw y i) | none => s) (fun s => s.length = A.length) (fun i again s z hz hI => ?_) ys.length 0 A (by omega) rfl
 ·rw [this]
  congr 1
  rw [List.drop_zero]
  clear this
  induction ys generalizing A x with
  | nil =>
   show A = A.set p x
   rw [<- (zes.1 hx).2, List.set_getElem_self]
  | cons y ys ih =>
   rw [List.foldl_cons, List.foldl_cons, hx]
   show ys.foldl _ (A.set p (zgw x y)) = _
   have hl : p < (A.set p (zgw x y)).length := by rw [List.length_set]; exact hp
   rw [ih (A := A.set p (zgw x y)) (x := zgw x y) (List.getElem?_set_self hp) hl, List.set_set]
 ·have hl : p < s.length := by omega
  have hsp : s[p]? = some s[p] := zeg hl
  refine ⟨?_, by rw [hsp]; exact (List.length_set ..).trans hI⟩
  unfold xd
  have hi : i < ys.length := (zes.1 hz).1
  rw [ze5 hi, (zes.1 hz).2]
  simp only [zbs, znK, hsp]
  by_cases hw : (wrB z).2 = true
  ·have hr := znL hw
   have e : idx s (p : Int) = some s[p] := ze5 hl
   simp only [hw, Bool.not_true, zfe, if_false, e, zbs, zgh hr.1 hr.2, zbp, zaD, Int.toNat_natCast, zgw, if_true]
   split <;> rfl
  ·have hw' : (wrB z).2 = false := by simpa using hw
   simp only [hw', Bool.not_false, if_true, zgw, zfe, if_false]
   rw [List.set_getElem_self]
theorem znj {m : zj} {j : zf} (h : JI m j) (hg : ze4 m.Co) {p : Nat} (hp : p < m.Co.length) {x : Nat -> za} (hx : j.ca[p]? = some x) :
  jg j p = some ⟨j.Module, j.ca.set p (zh8 m.Co p x m.Co.length), j.any, j.loops⟩ := by
 have hpc : p < j.ca.length := (zes.1 hx).1
 unfold jg
 have := zhC (body := xI j p) (out := fun (s : List (Nat -> za)) => (zf.mk j.Module s j.any j.loops)) j.loops
  (fun s l => if l.Head == (p : Int) then (match s[p]? with | some y => s.set p (((m.Co.take (l.At + 1).toNat).drop p).foldl zgw y) | none => s) else s) (fun s => s.length = j.ca.length) (fun i again s l hl hI => ?_) j.loops.length 0 j.ca (by omega) rfl
 ·rw [this, zbs, List.drop_zero]
  congr 2
  rw [h.lps]
  clear this
  have : ∀ k, k <= m.Co.length -> (lps m.Co k).foldl (fun s l => if l.Head == (p : Int) then (match s[p]? with | some y => s.set p (((m.Co.take (l.At + 1).toNat).drop p).foldl zgw y) | none => s) else s) j.ca = j.ca.set p (zh8 m.Co p x k) := by
   intro k
   induction k with
   | zero =>
    intro _
    show j.ca = j.ca.set p x
    rw [<- (zes.1 hx).2, List.set_getElem_self]
   | succ k ih =>
    intro hk
    have ih := ih (by omega)
    have hck : m.Co[k]? = some m.Co[k] := zeg (by omega)
    unfold lps zh8
    rw [hck]
    simp only
    by_cases h20 : (m.Co[k].Op == 20) = true
    ·simp only [h20, if_true, Bool.true_and]
     rw [List.foldl_append, ih, List.foldl_cons, List.foldl_nil]
     have hh : (qj m.Co[k] k).Head = (k : Int) - m.Co[k].D := rfl
     have ha : (qj m.Co[k] k).At = (k : Int) := rfl
     rw [hh, ha]
     by_cases he : ((k : Int) - m.Co[k].D == (p : Int)) = true
     ·simp only [he, if_true]
      rw [List.getElem?_set_self hpc]
      have : ((k : Int) + 1).toNat = k + 1 := by omega
      simp only [this, List.set_set]
     ·simp only [he, zfe, if_false]
    ·simp only [h20, zfe, if_false, Bool.false_and]
     exact ih
  exact this _ (Nat.le_refl _)
 ·have hlm : l ∈ lps m.Co m.Co.length := by rw [<- h.lps]; exact zmg hl
  obtain ⟨q, iq, hq, hcq, h20, rfl⟩ := zeb.1 hlm
  have hi : i < j.loops.length := (zes.1 hl).1
  have hlo := hg.fine.loop hcq h20
  have hlen : (if ((qj iq q).Head == (p : Int)) = true then (match s[p]? with | some y => s.set p (((m.Co.take ((qj iq q).At + 1).toNat).drop p).foldl zgw y) | none => s) else s).length = j.ca.length := by
   split
   ·split
    ·rw [List.length_set]; exact hI
    ·exact hI
   ·exact hI
  refine ⟨?_, hlen⟩
  unfold xI
  rw [ze5 hi, (zes.1 hl).2]
  simp only [zbs, h.mod]
  by_cases he : (qj iq q).Head = (p : Int)
  ·have e1 : ((qj iq q).Head != (p : Int)) = false := by simpa using he
   have e2 : ((qj iq q).Head == (p : Int)) = true := by simpa using he
   simp only [e1, e2, zfe, if_false, if_true]
   have hAt : (qj iq q).At = (q : Int) := rfl
   have hHd : (qj iq q).Head = (q : Int) - iq.D := rfl
   have n64 := hg.n64
   rw [he, hAt, zO (by omega) (by omega), show (q : Int) + 1 = ((q + 1 : Nat) : Int) by push_cast; rfl, zhy (by omega) (by omega)]
   have hl : p < s.length := by omega
   have hsp : s[p]? = some s[p] := zeg hl
   simp only [zbs, Int.toNat_natCast]
   rw [zpt (code := m.Co) _ hsp, hsp]
   rfl
  ·have e1 : ((qj iq q).Head != (p : Int)) = true := by simpa using he
   have e2 : ((qj iq q).Head == (p : Int)) = false := by simpa using he
   simp only [e1, e2, zfe, if_false, if_true]
theorem zpu {n : Nat} {m : zj} {l : Nat} (hl : l < m.Co.length) (hn : m.Co.length <= 64) : ∀ (c q f : Nat) (x : Nat -> za), q + c = l + 1 -> c < f -> (∀ r, r < 8 -> WT n (x r)) ->
  loop (xr m l) f (xD 8 x, (q : Int)) = some (xD 8 (((m.Co.take (l + 1)).drop q).foldl zgw x)) := by
 intro c
 induction c with
 | zero =>
  intro q f x hq hf hx
  obtain ⟨f, rfl⟩ : ∃ k, f = k + 1 := ⟨f - 1, by omega⟩
  rw [loop, xr, if_neg (by simp; omega), List.drop_of_length_le (by rw [List.length_take]; omega)]
  rfl
 | succ c ih =>
  intro q f x hq hf hx
  obtain ⟨f, rfl⟩ : ∃ k, f = k + 1 := ⟨f - 1, by omega⟩
  have hql : q < (m.Co.take (l + 1)).length := by rw [List.length_take]; omega
  rw [List.drop_eq_getElem_cons hql, List.foldl_cons, List.getElem_take]
  have hcode : idx m.Co (q : Int) = some (m.Co[q]'(by omega)) := ze5 (by omega)
  generalize hz : m.Co[q]'(by omega) = z at hcode
  rw [loop, xr, if_pos (by simp; omega)]
  simp only [hcode, zbs, zpm]
  have hnext : w64 ((q : Int) + 1) = ((q + 1 : Nat) : Int) := by rw [zO (by omega) (by omega)]; push_cast; rfl
  have goal := ih (q + 1) f (zgw x z) (by omega) (by omega) (zmi hx z)
  rw [hnext]
  by_cases hw : (wrB z).2 = true
  ·have hr := znL hw
   have hxr := hx (wrB z).1.toNat (by omega)
   simp only [hw, if_true, ju x hr.1 hr.2, zbs, zjk, zat]
   by_cases h1 : ((x (wrB z).1.toNat).Ki == 1) = true
   ·simp only [h1, if_true, zbs]
    have e : zgw x z = jd x (wrB z).1.toNat zkU := by unfold zgw; rw [hw, if_pos rfl, h1, if_pos rfl]
    rw [e] at goal
    rw [ju _ hr.1 hr.2]
    have : (jd x (wrB z).1.toNat ⟨1, ⟨0, 18446744073709551615⟩, 0⟩ (wrB z).1.toNat) = zkU := by simp [jd, zkU]
    have f2 : (zkU.Ki == 2) = false := rfl
    simp only [zbs, this, f2, zfe, if_false, e]
    exact goal
   ·have h1' : ((x (wrB z).1.toNat).Ki == 1) = false := by simpa using h1
    have e : zgw x z = jd x (wrB z).1.toNat zaw := by unfold zgw; rw [hw, if_pos rfl, h1', if_neg (by decide)]
    rw [e] at goal
    simp only [h1', zfe, if_false, zbs, ju x hr.1 hr.2, zat]
    by_cases h2 : ((x (wrB z).1.toNat).Ki == 2) = true
    ·simp only [h2, if_true, e]
     exact goal
    ·simp only [h2, zfe, if_false]
     have hz0 : x (wrB z).1.toNat = zaw := by
      rcases hxr with h | h | h
      ·exact h
      ·rw [h.1] at h1'; cases h1'
      ·rw [h.1] at h2; exact absurd rfl h2
     have : xD 8 x = xD 8 (jd x (wrB z).1.toNat zaw) := zhN (fun r _ => by
      unfold jd; split
      ·rename_i h; rw [h, hz0]
      ·rfl)
     rw [this, e]
     exact goal
  ·have hw' : (wrB z).2 = false := by simpa using hw
   have e : zgw x z = x := by unfold zgw; rw [hw']; rfl
   rw [e] at goal
   simp only [hw', zfe, if_false, zbs]
   rw [e]
   exact goal
theorem zpv {n fu : Nat} (hf : 70 <= fu) {m : zj} (hg : ze4 m.Co) {p : Nat} {x : Nat -> za} (hx : ∀ r, r < 8 -> WT n (x r)) : ∀ (c k : Nat), k + c = m.Co.length ->
  qO (jp fu m p) (fun (s : List za) => s) c k (xD 8 (zh8 m.Co p x k)) = some (xD 8 (zh8 m.Co p x m.Co.length)) := by
 intro c
 induction c with
 | zero =>
  intro k hk
  have : k = m.Co.length := by omega
  subst this
  rfl
 | succ c ih =>
  intro k hk
  have hck : m.Co[k]? = some (m.Co[k]'(by omega)) := zeg (by omega)
  have n64 := hg.n64
  show jp fu m p k (qO (jp fu m p) (fun (s : List za) => s) c (k + 1)) _ = _
  have goal := ih (k + 1) (by omega)
  generalize qO (jp fu m p) (fun (s : List za) => s) c (k + 1) = again at goal |-
  rw [ziS hck] at goal
  unfold jp
  rw [ze5 (by omega : k < m.Co.length)]
  simp only [zbs]
  by_cases h20 : (m.Co[k]'(by omega)).Op = 20
  ·have hlo := hg.fine.loop hck h20
   have e1 : ((m.Co[k]'(by omega)).Op != 20) = false := by simpa using h20
   have e2 : ((m.Co[k]'(by omega)).Op == 20) = true := by simpa using h20
   rw [e2] at goal
   simp only [e1, zfe, if_false, zbs]
   rw [zO (by omega) (by omega)]
   by_cases he : (k : Int) - (m.Co[k]'(by omega)).D = (p : Int)
   ·have e3 : ((k : Int) - (m.Co[k]'(by omega)).D != (p : Int)) = false := by simpa using he
    have e4 : ((k : Int) - (m.Co[k]'(by omega)).D == (p : Int)) = true := by simpa using he
    rw [e4] at goal
    simp only [Bool.and_self, if_true] at goal
    simp only [e3, zfe, if_false]
    rw [zpu (n := n) (by omega) n64 (k + 1 - p) p fu _ (by omega) (by omega) (zmj hx k)]
    exact goal
   ·have e3 : ((k : Int) - (m.Co[k]'(by omega)).D != (p : Int)) = true := by simpa using he
    have e4 : ((k : Int) - (m.Co[k]'(by omega)).D == (p : Int)) = false := by simpa using he
    rw [e4] at goal
    simp only [Bool.and_false, zfe, if_false] at goal
    simp only [e3, if_true]
    exact goal
  ·have e1 : ((m.Co[k]'(by omega)).Op != 20) = true := by simpa using h20
   have e2 : ((m.Co[k]'(by omega)).Op == 20) = false := by simpa using h20
   rw [e2] at goal
   simp only [Bool.false_and, zfe, if_false] at goal
   simp only [e1, if_true, zbs]
   exact goal
end Go.Proofs.YtbmknhpfkpmigaaGreatDoor
set_option linter.unusedVariables false
set_option linter.unusedSimpArgs false
namespace Go.Proofs.YtbmknhpfkpmigaaGreatDoor
open Go.Sx
def jS (a b : zb) : zb := ⟨if b.Lo < a.Lo then b.Lo else a.Lo, if b.Hi > a.Hi then b.Hi else a.Hi⟩
theorem zlC (L : List zb) (hw : ∀ s ∈ L, SW s) : ∀ (rest : List zb) (i : Nat) (s : zb), L.drop i = rest -> 0 < i -> i + rest.length = L.length ->
  qO (qm L) (fun (s : zb) => (.inl s)) rest.length i s = some (.inl (rest.foldl jS s)) := by
 intro rest
 induction rest with
 | nil => intro i s _ _ _; rfl
 | cons x rest ih =>
  intro i s hd hi hl
  simp only [List.length_cons] at hl
  have hx : L[i]? = some x := by
   have := congrArg (fun l => l[0]?) hd
   simpa using this
  have hd2 : L.drop (i + 1) = rest := by
   have := congrArg (fun l => l.drop 1) hd
   simpa [List.drop_drop, Nat.add_comm] using this
  have hxs := hw x (zmg hx)
  show qm L i (qO (qm L) (fun (s : zb) => (.inl s)) rest.length (i + 1)) s = _
  have ihx := ih (i + 1) (jS s x) hd2 (by omega) (by omega)
  generalize qO (qm L) (fun (s : zb) => (.inl s)) rest.length (i + 1) = again at ihx |-
  unfold qm
  have e : idx L (i : Int) = some x := by unfold Go.Sx.idx; rw [if_pos (by omega)]; exact hx
  have e0 : ((i : Int) == 0) = false := by simp; omega
  rw [e]
  simp only [zbs, zcO hxs, Bool.not_true, zfe, if_false, e0]
  rw [List.foldl_cons, <- ihx]
  unfold jS
  by_cases h1 : x.Lo < s.Lo
  ·by_cases h2 : x.Hi > s.Hi
   ·simp only [h1, h2, decide_true, if_true, zbs]
   ·simp only [h1, h2, decide_true, decide_false, if_true, if_false, zbs, zfe]
  ·by_cases h2 : x.Hi > s.Hi
   ·simp only [h1, h2, decide_true, decide_false, if_true, if_false, zbs, zfe]
   ·simp only [h1, h2, decide_false, if_false, zbs, zfe]
theorem zoc {x0 : zb} {l : List zb} (hw : ∀ s ∈ x0 :: l, SW s) : zah (x0 :: l) = some (l.foldl jS x0, true) := by
 have hx := hw x0 zcs
 unfold zah
 show (qm (x0 :: l) 0 (qO (qm (x0 :: l)) (fun (s : zb) => (.inl s)) l.length 1) ⟨0, 0⟩).bind _ = _
 have ihx := zlC (x0 :: l) hw l 1 x0 rfl (by omega) (by simp; omega)
 generalize qO (qm (x0 :: l)) (fun (s : zb) => (.inl s)) l.length 1 = again at ihx |-
 unfold qm
 have e : idx (x0 :: l) ((0 : Nat) : Int) = some x0 := rfl
 have e0 : (((0 : Nat) : Int) == 0) = true := rfl
 rw [e]
 simp only [zbs, zcO hx, Bool.not_true, zfe, if_false, e0, if_true]
 show (again x0).bind _ = _
 rw [ihx]
 show some (_, decide _) = _
 rw [decide_eq_true (by simp only [List.length_cons]; omega)]
def okT (x0 x : za) : Prop := x.Ki = x0.Ki /\ x.Map = x0.Map
instance (x0 x : za) : Decidable (okT x0 x) := inferInstanceAs (Decidable (_ /\ _))
theorem zj6 {n : Nat} {a b : za} (ha : WT n a) (hb : WT n b) (h : okT a b) : zbm a b = if a.Ki == 1 then ⟨1, jS a.Sp b.Sp, 0⟩ else a := by
 obtain ⟨a0, a1, a2⟩ := ha.span
 obtain ⟨b0, b1, b2⟩ := hb.span
 unfold zbm jS zb1 zcz
 have e1 : (a.Ki != b.Ki) = false := by simp [h.1]
 have e2 : (a.Map != b.Map) = false := by simp [h.2]
 rw [e1, e2]
 simp only [Bool.or_self, zfe, if_false]
 split
 ·congr 2 <;> (repeat' split) <;> omega
 ·rfl
theorem ziG {a b : za} (h : ¬ okT a b) : zbm a b = zaw := by
 unfold zbm
 rw [if_pos]
 rw [Bool.or_eq_true]
 by_cases e : a.Ki = b.Ki
 ·right; simp only [bne_iff_ne, ne_eq]; intro e2; exact h ⟨e.symm, e2.symm⟩
 ·left; simp only [bne_iff_ne, ne_eq]; exact e
theorem zkA {n : Nat} {b : za} (hb : WT n b) : zbm zaw b = zaw := by
 by_cases h : okT zaw b
 ·rcases hb with rfl | hb | hb
  ·rfl
  ·have := h.1; rw [hb.1] at this; cases this
  ·have := h.1; rw [hb.1] at this; cases this
 ·exact ziG h
theorem ziH {n : Nat} : ∀ (l : List za), (∀ x ∈ l, WT n x) -> l.foldl zbm zaw = zaw
 | [], _ => rfl
 | x :: l, h => by
  rw [List.foldl_cons, zkA (h x zcs)]
  exact ziH l (fun y hy => h y (zcm _ hy))
theorem zjr {n : Nat} : ∀ (l : List za) {a : za}, WT n a -> (∀ x ∈ l, WT n x) -> (∀ x ∈ l, okT a x) -> l.foldl zbm a = if a.Ki == 1 then ⟨1, (l.map (·.Sp)).foldl jS a.Sp, 0⟩ else a
 | [], a, ha, _, _ => by
  by_cases h : (a.Ki == 1) = true
  ·rw [if_pos h]
   have hk : a.Ki = 1 := by simpa using h
   rcases ha with rfl | ha | ha
   ·cases hk
   ·obtain ⟨k, s, q⟩ := a
    simp only at hk ha |-
    obtain ⟨_, _, rfl⟩ := ha
    subst hk; rfl
   ·rw [hk] at ha; exact absurd ha.1 (by decide)
  ·rw [if_neg h]; rfl
 | x :: l, a, ha, hw, hk => by
  have hx := hw x zcs
  have h1 := zj6 ha hx (hk x zcs)
  rw [List.foldl_cons]
  have hj : WT n (zbm a x) := ha.join hx
  by_cases h : (a.Ki == 1) = true
  ·have hk1 : a.Ki = 1 := by simpa using h
   rw [if_pos h] at h1 |-
   have hm : a.Map = 0 := by
    rcases ha with rfl | ha | ha
    ·rfl
    ·exact ha.2.2
    ·rw [hk1] at ha; exact absurd ha.1 (by decide)
   rw [zjr l hj (fun y hy => hw y (zcm _ hy)) (fun y hy => by
    have := hk y (zcm _ hy)
    rw [h1]
    exact ⟨by rw [this.1, hk1], by rw [this.2, hm]⟩), h1]
   rfl
  ·rw [if_neg h] at h1 |-
   rw [h1, zjr l ha (fun y hy => hw y (zcm _ hy)) (fun y hy => hk y (zcm _ hy)), if_neg h]
theorem zj7 {n : Nat} : ∀ (l : List za) {a : za}, WT n a -> (∀ x ∈ l, WT n x) -> (∃ x ∈ l, ¬ okT a x) -> l.foldl zbm a = zaw
 | [], _, _, _, h => by obtain ⟨x, hx, _⟩ := h; cases hx
 | x :: l, a, ha, hw, h => by
  have hx := hw x zcs
  have hl := fun y hy => hw y (zcm _ hy)
  rw [List.foldl_cons]
  by_cases hk : okT a x
  ·have h1 := zj6 ha hx hk
   have hsame : (zbm a x).Ki = a.Ki /\ (zbm a x).Map = a.Map := by
    rw [h1]
    split
    ·rename_i h
     have hk1 : a.Ki = 1 := by simpa using h
     refine ⟨hk1.symm, ?_⟩
     rcases ha with rfl | ha | ha
     ·rfl
     ·exact ha.2.2.symm
     ·rw [hk1] at ha; exact absurd ha.1 (by decide)
    ·exact ⟨rfl, rfl⟩
   obtain ⟨y, hy, hb⟩ := h
   rcases List.mem_cons.1 hy with rfl | hy
   ·exact absurd hk hb
   ·exact zj7 l (ha.join hx) hl ⟨y, hy, fun e => hb ⟨by rw [e.1, hsame.1], by rw [e.2, hsame.2]⟩⟩
  ·rw [ziG hk]
   exact ziH l hl
theorem zjs {n : Nat} (x0 : za) (L : List za) (h0 : L[0]? = some x0) (hw : ∀ x ∈ L, WT n x) (hlen : L.length <= 5000) : ∀ (rest : List za) (i : Nat) (ss : List zb), L.drop i = rest -> i + rest.length = L.length -> ss.length = i ->
  qO (jO L) (fun (s : List zb) => (.inl s)) rest.length i ss = some (if ∀ x ∈ rest, okT x0 x then .inl (ss ++ rest.map (·.Sp)) else .inr zaw) := by
 intro rest
 induction rest with
 | nil => intro i ss _ _ _; simp [qO]
 | cons x rest ih =>
  intro i ss hd hl hs
  simp only [List.length_cons] at hl
  have hx : L[i]? = some x := by
   have := congrArg (fun l => l[0]?) hd
   simpa using this
  have hd2 : L.drop (i + 1) = rest := by
   have := congrArg (fun l => l.drop 1) hd
   simpa [List.drop_drop, Nat.add_comm] using this
  have wx := hw x (zmg hx)
  have w0 := hw x0 (zmg h0)
  show jO L i (qO (jO L) (fun (s : List zb) => (.inl s)) rest.length (i + 1)) ss = _
  have ihx := ih (i + 1) (ss ++ [x.Sp]) hd2 (by omega) (by simp; omega)
  generalize qO (jO L) (fun (s : List zb) => (.inl s)) rest.length (i + 1) = again at ihx |-
  unfold jO
  have e : idx L (i : Int) = some x := by unfold Go.Sx.idx; rw [if_pos (by omega)]; exact hx
  have e0 : idx L 0 = some x0 := by unfold Go.Sx.idx; rw [if_pos (by omega)]; exact h0
  rw [e, e0]
  simp only [zbs]
  have hq : (if (x.Ki != x0.Ki) = true then some true else if (x.Ki == 2) = true then some (x.Map != x0.Map) else some false : Option Bool) = some (!decide (okT x0 x)) := by
   by_cases h1 : x.Ki = x0.Ki
   ·have b1 : (x.Ki != x0.Ki) = false := by simpa using h1
    rw [b1, if_neg (by decide)]
    by_cases h2 : x.Ki = 2
    ·have b2 : (x.Ki == 2) = true := by simpa using h2
     rw [b2, if_pos rfl]
     congr 1
     by_cases h3 : x.Map = x0.Map
     ·have : okT x0 x := ⟨h1, h3⟩
      simp [h3, this]
     ·have : ¬ okT x0 x := fun h => h3 h.2
      simp [h3, this]
    ·have b2 : (x.Ki == 2) = false := by simpa using h2
     rw [b2, if_neg (by decide)]
     have : okT x0 x := by
      refine ⟨h1, ?_⟩
      have f (y : za) (hy : WT n y) (hk : y.Ki ≠ 2) : y.Map = 0 := by
       rcases hy with rfl | hy | hy
       ·rfl
       ·exact hy.2.2
       ·exact absurd hy.1 hk
      rw [f x wx h2, f x0 w0 (by rw [<- h1]; exact h2)]
     simp [this]
   ·have b1 : (x.Ki != x0.Ki) = true := by simpa using h1
    have : ¬ okT x0 x := fun h => h1 h.1
    rw [b1, if_pos rfl]; simp [this]
  rw [hq]
  simp only [zbs]
  by_cases hk : okT x0 x
  ·have hroom : room (ss.length + [x.Sp].length) 16 = some () := by unfold Go.Sx.room; rw [if_pos]; simp; omega
   simp only [hk, decide_true, Bool.not_true, zfe, if_false, hroom, zbs]
   rw [ihx]
   simp [hk]
  ·simp only [hk, decide_false, Bool.not_false, if_true]
   rw [if_neg]
   ·rfl
   ·intro h; exact hk (h x zcs)
theorem zlD {n : Nat} {x0 : za} {l : List za} (hw : ∀ x ∈ x0 :: l, WT n x) (hlen : l.length <= 4900) : vt (x0 :: l) = some (l.foldl zbm x0) := by
 have w0 := hw x0 zcs
 have wl := fun y hy => hw y (zcm _ hy)
 unfold vt
 have := zjs x0 (x0 :: l) rfl hw (by simp; omega) (x0 :: l) 0 [] rfl (by simp) rfl
 rw [this, zbs]
 by_cases h : ∀ x ∈ x0 :: l, okT x0 x
 ·rw [if_pos h]
  have e0 : idx (x0 :: l) 0 = some x0 := rfl
  simp only [e0, zbs]
  rw [zjr l w0 wl (fun y hy => h y (zcm _ hy))]
  split
  ·have : ([] ++ (x0 :: l).map (·.Sp)) = x0.Sp :: l.map (·.Sp) := rfl
   rw [this, zoc]
   ·rfl
   ·intro s hs
    rcases List.mem_cons.1 hs with rfl | hs
    ·exact w0.span
    ·obtain ⟨y, hy, rfl⟩ := List.mem_map.1 hs
     exact (wl y hy).span
  ·rfl
 ·rw [if_neg h]
  have : ∃ x ∈ l, ¬ okT x0 x := by
   simp only [Classical.not_forall] at h
   obtain ⟨y, hy, hb⟩ := h
   rcases List.mem_cons.1 hy with rfl | hy
   ·exact absurd ⟨rfl, rfl⟩ hb
   ·exact ⟨y, hy, hb⟩
  rw [zj7 l w0 wl this]
end Go.Proofs.YtbmknhpfkpmigaaGreatDoor
