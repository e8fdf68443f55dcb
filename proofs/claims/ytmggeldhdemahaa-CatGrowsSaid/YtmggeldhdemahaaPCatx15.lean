-- Laid by wip/gprint.py (a printer of our own over the kit's) out of the translation
import Derived.Test.YtmggeldhdemahaaPCatx0
import Derived.Test.YtmggeldhdemahaaPCatx1
import Derived.Test.YtmggeldhdemahaaPCatx3
import Derived.Test.YtmggeldhdemahaaPCatx4
import Derived.Test.YtmggeldhdemahaaPCatx5
import Derived.Test.YtmggeldhdemahaaPCatx13
namespace Go.Proofs.Ytmggeldhdemahaa.PCat
open Go.RowKit Go.Proofs.YtmggeldhdemahaaW.PrintWords Go.Proofs.YtmggeldhdemahaaW.PrintLast Go.Proofs.YtmggeldhdemahaaW.PrintMore
attribute [local go_sem] max2_int min2_int max_two min_two max_three min_three max_four min_four   -- for this text's walks alone
set_option linter.unusedVariables false
set_option linter.unusedSimpArgs false

attribute [local go_sem high] eqA46
/-! ### astrolabelaw23_CatGrows: function 6 -/
mutual
def astrolabelaw23_CatGrows.l0 : Nat → List Int → Int → Bool → Int → Int → List (S46) → Option (Bool)
 | 0, _, _, _, _, _, _ => none
 | k + 1, x0, x1, x5, x7, x367000, x367001 => if x7 < (x0.length : Int) then (astrolabelaw23_CatGrows.j1 k x0 x1 x5 x7 (decide (x7 < 20)) x367000 x367001) else (astrolabelaw23_CatGrows.j1 k x0 x1 x5 x7 false x367000 x367001)
def astrolabelaw23_CatGrows.j1 : Nat → List Int → Int → Bool → Int → Bool → Int → List (S46) → Option (Bool)
 | 0, _, _, _, _, _, _, _ => none
 | k + 1, x0, x1, x5, x7, x32, x367000, x367001 => if x32 = true then (if 0 ≤ x7 then (if x7 < (x0.length : Int) then (if (rd x0 x7) < 0 then (astrolabelaw23_CatGrows.j2 k x0 x1 x5 x7 (wrap64 (-(wrap64 ((rd x0 x7) + 1)))) x367000 x367001) else (astrolabelaw23_CatGrows.j2 k x0 x1 x5 x7 (rd x0 x7) x367000 x367001)) else (none)) else (none)) else (if (x367001.length : Int) = (mn (x0.length : Int) 12) then (astrolabelaw23_CatGrows.j4 k x1 x5 (mn (x0.length : Int) 12) (x367000 != ((mn (x0.length : Int) 12) + 1)) x367000 x367001) else (astrolabelaw23_CatGrows.j4 k x1 x5 (mn (x0.length : Int) 12) true x367000 x367001))
def astrolabelaw23_CatGrows.j2 : Nat → List Int → Int → Bool → Int → Int → Int → List (S46) → Option (Bool)
 | 0, _, _, _, _, _, _, _ => none
 | k + 1, x0, x1, x5, x7, x8, x367000, x367001 => (cat_With.f k x367000 x367001 (wrap64 (2 + (Int.tmod x8 510)))).bind fun bt368 => (if (bt368.2.2 != (decide (x7 < 12))) = true then (astrolabelaw23_CatGrows.j3 k x0 x1 x5 x7 bt368.2.2 true x367000 x367001 bt368.1 bt368.2.1) else (if bt368.2.2 = true then (astrolabelaw23_CatGrows.j3 k x0 x1 x5 x7 bt368.2.2 false x367000 x367001 bt368.1 bt368.2.1) else (if bt368.1 = 0 then (astrolabelaw23_CatGrows.j3 k x0 x1 x5 x7 bt368.2.2 ((bt368.2.1.length : Int) != 0) x367000 x367001 bt368.1 bt368.2.1) else (astrolabelaw23_CatGrows.j3 k x0 x1 x5 x7 bt368.2.2 true x367000 x367001 bt368.1 bt368.2.1))))
def astrolabelaw23_CatGrows.j3 : Nat → List Int → Int → Bool → Int → Bool → Bool → Int → List (S46) → Int → List (S46) → Option (Bool)
 | 0, _, _, _, _, _, _, _, _, _, _ => none
 | k + 1, x0, x1, x5, x7, x10, x70, x367000, x367001, x374000, x374001 => if x70 = true then (some false) else (if x10 = true then (astrolabelaw23_CatGrows.l0 k x0 x1 x5 (wrap64 (x7 + 1)) x374000 x374001) else (astrolabelaw23_CatGrows.l0 k x0 x1 x5 (wrap64 (x7 + 1)) x367000 x367001))
def astrolabelaw23_CatGrows.j4 : Nat → Int → Bool → Int → Bool → Int → List (S46) → Option (Bool)
 | 0, _, _, _, _, _, _ => none
 | k + 1, x1, x5, x11, x87, x367000, x367001 => if x87 = true then (some false) else (astrolabelaw23_CatGrows.l1 k x1 x5 x11 0 x367000 x367001)
def astrolabelaw23_CatGrows.l1 : Nat → Int → Bool → Int → Int → Int → List (S46) → Option (Bool)
 | 0, _, _, _, _, _, _ => none
 | k + 1, x1, x5, x11, x12, x367000, x367001 => if x12 < x11 then ((cat_Find.f x367000 x367001 (wrap64 (x12 + 1))).bind fun bt374 => (if bt374.1 = x12 then (if bt374.2 = true then (astrolabelaw23_CatGrows.l1 k x1 x5 x11 (wrap64 (x12 + 1)) x367000 x367001) else (some false)) else (some false))) else ((cat_Without.f k x367000 x367001 x1).bind fun bt376 => (if x1 < 1 then (astrolabelaw23_CatGrows.j6 k x1 x5 x11 bt376.2.2 true x367000 x367001 bt376.1 bt376.2.1) else (astrolabelaw23_CatGrows.j6 k x1 x5 x11 bt376.2.2 (decide (x1 ≥ x11)) x367000 x367001 bt376.1 bt376.2.1)))
def astrolabelaw23_CatGrows.j6 : Nat → Int → Bool → Int → Bool → Bool → Int → List (S46) → Int → List (S46) → Option (Bool)
 | 0, _, _, _, _, _, _, _, _, _ => none
 | k + 1, x1, x5, x11, x16, x119, x367000, x367001, x382000, x382001 => if x119 = true then (if x5 = true then (some (!x16)) else (some false)) else ((cat_Find.f x382000 x382001 x1).bind fun bt382 => ((cat_Find.f x382000 x382001 0).bind fun bt384 => (if x5 = true then (if x16 = true then (if bt382.2 = true then (some false) else (if bt384.2 = true then (if bt384.1 = (wrap64 (x11 - 2)) then (if 0 ≤ bt384.1 then (if bt384.1 < (x382001.length : Int) then (if 0 ≤ (wrap64 (x11 - 1)) then (if (wrap64 (x11 - 1)) < (x367001.length : Int) then (if (((rd_T46 x382001 bt384.1).f0) == ((rd_T46 x367001 (wrap64 (x11 - 1))).f0) && (((rd_T46 x382001 bt384.1).f1) == ((rd_T46 x367001 (wrap64 (x11 - 1))).f1))) = true then (if x382000 = x367000 then ((cat_Right.f k x382000 x382001).bind fun t388 => (some t388)) else (some false)) else (some false)) else (none)) else (none)) else (none)) else (none)) else (some false)) else (some false))) else (some false)) else (some false))))
end
def astrolabelaw23_CatGrows.f (k : Nat) (l0 : List Int) (a1 : Int) : Option (Bool) := (astrolabelaw23_examples.f k).bind fun t365 => (if t365 = true then (astrolabelaw23_CatGrows.l0 k l0 a1 t365 0 1 ([] : List (S46))) else (some false))
theorem astrolabelaw23_CatGrows.mono_l : ∀ k, (∀ y0 y1 y2 y3 y4 y5, LeO (astrolabelaw23_CatGrows.l0 k y0 y1 y2 y3 y4 y5) (astrolabelaw23_CatGrows.l0 (k + 1) y0 y1 y2 y3 y4 y5)) ∧ (∀ y0 y1 y2 y3 y4 y5 y6, LeO (astrolabelaw23_CatGrows.j1 k y0 y1 y2 y3 y4 y5 y6) (astrolabelaw23_CatGrows.j1 (k + 1) y0 y1 y2 y3 y4 y5 y6)) ∧ (∀ y0 y1 y2 y3 y4 y5 y6, LeO (astrolabelaw23_CatGrows.j2 k y0 y1 y2 y3 y4 y5 y6) (astrolabelaw23_CatGrows.j2 (k + 1) y0 y1 y2 y3 y4 y5 y6)) ∧ (∀ y0 y1 y2 y3 y4 y5 y6 y7 y8 y9, LeO (astrolabelaw23_CatGrows.j3 k y0 y1 y2 y3 y4 y5 y6 y7 y8 y9) (astrolabelaw23_CatGrows.j3 (k + 1) y0 y1 y2 y3 y4 y5 y6 y7 y8 y9)) ∧ (∀ y0 y1 y2 y3 y4 y5, LeO (astrolabelaw23_CatGrows.j4 k y0 y1 y2 y3 y4 y5) (astrolabelaw23_CatGrows.j4 (k + 1) y0 y1 y2 y3 y4 y5)) ∧ (∀ y0 y1 y2 y3 y4 y5, LeO (astrolabelaw23_CatGrows.l1 k y0 y1 y2 y3 y4 y5) (astrolabelaw23_CatGrows.l1 (k + 1) y0 y1 y2 y3 y4 y5)) ∧ (∀ y0 y1 y2 y3 y4 y5 y6 y7 y8, LeO (astrolabelaw23_CatGrows.j6 k y0 y1 y2 y3 y4 y5 y6 y7 y8) (astrolabelaw23_CatGrows.j6 (k + 1) y0 y1 y2 y3 y4 y5 y6 y7 y8))
 | 0 => ⟨fun _ _ _ _ _ _ r h => by simp [astrolabelaw23_CatGrows.l0] at h, fun _ _ _ _ _ _ _ r h => by simp [astrolabelaw23_CatGrows.j1] at h, fun _ _ _ _ _ _ _ r h => by simp [astrolabelaw23_CatGrows.j2] at h, fun _ _ _ _ _ _ _ _ _ _ r h => by simp [astrolabelaw23_CatGrows.j3] at h, fun _ _ _ _ _ _ r h => by simp [astrolabelaw23_CatGrows.j4] at h, fun _ _ _ _ _ _ r h => by simp [astrolabelaw23_CatGrows.l1] at h, fun _ _ _ _ _ _ _ _ _ r h => by simp [astrolabelaw23_CatGrows.j6] at h⟩
 | k + 1 => by
  obtain ⟨ih0, ih1, ih2, ih3, ih4, ih5, ih6⟩ := astrolabelaw23_CatGrows.mono_l k
  refine ⟨?_, ?_, ?_, ?_, ?_, ?_, ?_⟩
  ·intro y0 y1 y2 y3 y4 y5
   unfold astrolabelaw23_CatGrows.l0
   repeat' first
   | (with_reducible exact ih0 _ _ _ _ _ _)
   | (with_reducible exact ih1 _ _ _ _ _ _ _)
   | (with_reducible exact ih2 _ _ _ _ _ _ _)
   | (with_reducible exact ih3 _ _ _ _ _ _ _ _ _ _)
   | (with_reducible exact ih4 _ _ _ _ _ _)
   | (with_reducible exact ih5 _ _ _ _ _ _)
   | (with_reducible exact ih6 _ _ _ _ _ _ _ _ _)
   | (with_reducible exact astrolabelaw23_examples.mono _)
   | (with_reducible exact cat_Right.mono _ _ _)
   | (with_reducible exact cat_With.mono _ _ _ _)
   | (with_reducible exact cat_Without.mono _ _ _ _)
   | (with_reducible exact LeO.refl _)
   | (with_reducible exact LeO.none _)
   | (with_reducible refine LeO.ite ?_ ?_)
   | (with_reducible refine LeO.bind ?_ (fun _ => ?_))
   | exact ih0 _ _ _ _ _ _
   | exact ih1 _ _ _ _ _ _ _
   | exact ih2 _ _ _ _ _ _ _
   | exact ih3 _ _ _ _ _ _ _ _ _ _
   | exact ih4 _ _ _ _ _ _
   | exact ih5 _ _ _ _ _ _
   | exact ih6 _ _ _ _ _ _ _ _ _
   | exact astrolabelaw23_examples.mono _
   | exact cat_Right.mono _ _ _
   | exact cat_With.mono _ _ _ _
   | exact cat_Without.mono _ _ _ _
   | exact LeO.none _
   | refine LeO.ite ?_ ?_
   | refine LeO.bind ?_ (fun _ => ?_)
  ·intro y0 y1 y2 y3 y4 y5 y6
   unfold astrolabelaw23_CatGrows.j1
   repeat' first
   | (with_reducible exact ih0 _ _ _ _ _ _)
   | (with_reducible exact ih1 _ _ _ _ _ _ _)
   | (with_reducible exact ih2 _ _ _ _ _ _ _)
   | (with_reducible exact ih3 _ _ _ _ _ _ _ _ _ _)
   | (with_reducible exact ih4 _ _ _ _ _ _)
   | (with_reducible exact ih5 _ _ _ _ _ _)
   | (with_reducible exact ih6 _ _ _ _ _ _ _ _ _)
   | (with_reducible exact astrolabelaw23_examples.mono _)
   | (with_reducible exact cat_Right.mono _ _ _)
   | (with_reducible exact cat_With.mono _ _ _ _)
   | (with_reducible exact cat_Without.mono _ _ _ _)
   | (with_reducible exact LeO.refl _)
   | (with_reducible exact LeO.none _)
   | (with_reducible refine LeO.ite ?_ ?_)
   | (with_reducible refine LeO.bind ?_ (fun _ => ?_))
   | exact ih0 _ _ _ _ _ _
   | exact ih1 _ _ _ _ _ _ _
   | exact ih2 _ _ _ _ _ _ _
   | exact ih3 _ _ _ _ _ _ _ _ _ _
   | exact ih4 _ _ _ _ _ _
   | exact ih5 _ _ _ _ _ _
   | exact ih6 _ _ _ _ _ _ _ _ _
   | exact astrolabelaw23_examples.mono _
   | exact cat_Right.mono _ _ _
   | exact cat_With.mono _ _ _ _
   | exact cat_Without.mono _ _ _ _
   | exact LeO.none _
   | refine LeO.ite ?_ ?_
   | refine LeO.bind ?_ (fun _ => ?_)
  ·intro y0 y1 y2 y3 y4 y5 y6
   unfold astrolabelaw23_CatGrows.j2
   repeat' first
   | (with_reducible exact ih0 _ _ _ _ _ _)
   | (with_reducible exact ih1 _ _ _ _ _ _ _)
   | (with_reducible exact ih2 _ _ _ _ _ _ _)
   | (with_reducible exact ih3 _ _ _ _ _ _ _ _ _ _)
   | (with_reducible exact ih4 _ _ _ _ _ _)
   | (with_reducible exact ih5 _ _ _ _ _ _)
   | (with_reducible exact ih6 _ _ _ _ _ _ _ _ _)
   | (with_reducible exact astrolabelaw23_examples.mono _)
   | (with_reducible exact cat_Right.mono _ _ _)
   | (with_reducible exact cat_With.mono _ _ _ _)
   | (with_reducible exact cat_Without.mono _ _ _ _)
   | (with_reducible exact LeO.refl _)
   | (with_reducible exact LeO.none _)
   | (with_reducible refine LeO.ite ?_ ?_)
   | (with_reducible refine LeO.bind ?_ (fun _ => ?_))
   | exact ih0 _ _ _ _ _ _
   | exact ih1 _ _ _ _ _ _ _
   | exact ih2 _ _ _ _ _ _ _
   | exact ih3 _ _ _ _ _ _ _ _ _ _
   | exact ih4 _ _ _ _ _ _
   | exact ih5 _ _ _ _ _ _
   | exact ih6 _ _ _ _ _ _ _ _ _
   | exact astrolabelaw23_examples.mono _
   | exact cat_Right.mono _ _ _
   | exact cat_With.mono _ _ _ _
   | exact cat_Without.mono _ _ _ _
   | exact LeO.none _
   | refine LeO.ite ?_ ?_
   | refine LeO.bind ?_ (fun _ => ?_)
  ·intro y0 y1 y2 y3 y4 y5 y6 y7 y8 y9
   unfold astrolabelaw23_CatGrows.j3
   repeat' first
   | (with_reducible exact ih0 _ _ _ _ _ _)
   | (with_reducible exact ih1 _ _ _ _ _ _ _)
   | (with_reducible exact ih2 _ _ _ _ _ _ _)
   | (with_reducible exact ih3 _ _ _ _ _ _ _ _ _ _)
   | (with_reducible exact ih4 _ _ _ _ _ _)
   | (with_reducible exact ih5 _ _ _ _ _ _)
   | (with_reducible exact ih6 _ _ _ _ _ _ _ _ _)
   | (with_reducible exact astrolabelaw23_examples.mono _)
   | (with_reducible exact cat_Right.mono _ _ _)
   | (with_reducible exact cat_With.mono _ _ _ _)
   | (with_reducible exact cat_Without.mono _ _ _ _)
   | (with_reducible exact LeO.refl _)
   | (with_reducible exact LeO.none _)
   | (with_reducible refine LeO.ite ?_ ?_)
   | (with_reducible refine LeO.bind ?_ (fun _ => ?_))
   | exact ih0 _ _ _ _ _ _
   | exact ih1 _ _ _ _ _ _ _
   | exact ih2 _ _ _ _ _ _ _
   | exact ih3 _ _ _ _ _ _ _ _ _ _
   | exact ih4 _ _ _ _ _ _
   | exact ih5 _ _ _ _ _ _
   | exact ih6 _ _ _ _ _ _ _ _ _
   | exact astrolabelaw23_examples.mono _
   | exact cat_Right.mono _ _ _
   | exact cat_With.mono _ _ _ _
   | exact cat_Without.mono _ _ _ _
   | exact LeO.none _
   | refine LeO.ite ?_ ?_
   | refine LeO.bind ?_ (fun _ => ?_)
  ·intro y0 y1 y2 y3 y4 y5
   unfold astrolabelaw23_CatGrows.j4
   repeat' first
   | (with_reducible exact ih0 _ _ _ _ _ _)
   | (with_reducible exact ih1 _ _ _ _ _ _ _)
   | (with_reducible exact ih2 _ _ _ _ _ _ _)
   | (with_reducible exact ih3 _ _ _ _ _ _ _ _ _ _)
   | (with_reducible exact ih4 _ _ _ _ _ _)
   | (with_reducible exact ih5 _ _ _ _ _ _)
   | (with_reducible exact ih6 _ _ _ _ _ _ _ _ _)
   | (with_reducible exact astrolabelaw23_examples.mono _)
   | (with_reducible exact cat_Right.mono _ _ _)
   | (with_reducible exact cat_With.mono _ _ _ _)
   | (with_reducible exact cat_Without.mono _ _ _ _)
   | (with_reducible exact LeO.refl _)
   | (with_reducible exact LeO.none _)
   | (with_reducible refine LeO.ite ?_ ?_)
   | (with_reducible refine LeO.bind ?_ (fun _ => ?_))
   | exact ih0 _ _ _ _ _ _
   | exact ih1 _ _ _ _ _ _ _
   | exact ih2 _ _ _ _ _ _ _
   | exact ih3 _ _ _ _ _ _ _ _ _ _
   | exact ih4 _ _ _ _ _ _
   | exact ih5 _ _ _ _ _ _
   | exact ih6 _ _ _ _ _ _ _ _ _
   | exact astrolabelaw23_examples.mono _
   | exact cat_Right.mono _ _ _
   | exact cat_With.mono _ _ _ _
   | exact cat_Without.mono _ _ _ _
   | exact LeO.none _
   | refine LeO.ite ?_ ?_
   | refine LeO.bind ?_ (fun _ => ?_)
  ·intro y0 y1 y2 y3 y4 y5
   unfold astrolabelaw23_CatGrows.l1
   repeat' first
   | (with_reducible exact ih0 _ _ _ _ _ _)
   | (with_reducible exact ih1 _ _ _ _ _ _ _)
   | (with_reducible exact ih2 _ _ _ _ _ _ _)
   | (with_reducible exact ih3 _ _ _ _ _ _ _ _ _ _)
   | (with_reducible exact ih4 _ _ _ _ _ _)
   | (with_reducible exact ih5 _ _ _ _ _ _)
   | (with_reducible exact ih6 _ _ _ _ _ _ _ _ _)
   | (with_reducible exact astrolabelaw23_examples.mono _)
   | (with_reducible exact cat_Right.mono _ _ _)
   | (with_reducible exact cat_With.mono _ _ _ _)
   | (with_reducible exact cat_Without.mono _ _ _ _)
   | (with_reducible exact LeO.refl _)
   | (with_reducible exact LeO.none _)
   | (with_reducible refine LeO.ite ?_ ?_)
   | (with_reducible refine LeO.bind ?_ (fun _ => ?_))
   | exact ih0 _ _ _ _ _ _
   | exact ih1 _ _ _ _ _ _ _
   | exact ih2 _ _ _ _ _ _ _
   | exact ih3 _ _ _ _ _ _ _ _ _ _
   | exact ih4 _ _ _ _ _ _
   | exact ih5 _ _ _ _ _ _
   | exact ih6 _ _ _ _ _ _ _ _ _
   | exact astrolabelaw23_examples.mono _
   | exact cat_Right.mono _ _ _
   | exact cat_With.mono _ _ _ _
   | exact cat_Without.mono _ _ _ _
   | exact LeO.none _
   | refine LeO.ite ?_ ?_
   | refine LeO.bind ?_ (fun _ => ?_)
  ·intro y0 y1 y2 y3 y4 y5 y6 y7 y8
   unfold astrolabelaw23_CatGrows.j6
   repeat' first
   | (with_reducible exact ih0 _ _ _ _ _ _)
   | (with_reducible exact ih1 _ _ _ _ _ _ _)
   | (with_reducible exact ih2 _ _ _ _ _ _ _)
   | (with_reducible exact ih3 _ _ _ _ _ _ _ _ _ _)
   | (with_reducible exact ih4 _ _ _ _ _ _)
   | (with_reducible exact ih5 _ _ _ _ _ _)
   | (with_reducible exact ih6 _ _ _ _ _ _ _ _ _)
   | (with_reducible exact astrolabelaw23_examples.mono _)
   | (with_reducible exact cat_Right.mono _ _ _)
   | (with_reducible exact cat_With.mono _ _ _ _)
   | (with_reducible exact cat_Without.mono _ _ _ _)
   | (with_reducible exact LeO.refl _)
   | (with_reducible exact LeO.none _)
   | (with_reducible refine LeO.ite ?_ ?_)
   | (with_reducible refine LeO.bind ?_ (fun _ => ?_))
   | exact ih0 _ _ _ _ _ _
   | exact ih1 _ _ _ _ _ _ _
   | exact ih2 _ _ _ _ _ _ _
   | exact ih3 _ _ _ _ _ _ _ _ _ _
   | exact ih4 _ _ _ _ _ _
   | exact ih5 _ _ _ _ _ _
   | exact ih6 _ _ _ _ _ _ _ _ _
   | exact astrolabelaw23_examples.mono _
   | exact cat_Right.mono _ _ _
   | exact cat_With.mono _ _ _ _
   | exact cat_Without.mono _ _ _ _
   | exact LeO.none _
   | refine LeO.ite ?_ ?_
   | refine LeO.bind ?_ (fun _ => ?_)
theorem astrolabelaw23_CatGrows.mono : ∀ a0 a1 k, LeO (astrolabelaw23_CatGrows.f k a0 a1) (astrolabelaw23_CatGrows.f (k + 1) a0 a1) := by
 intro a0 a1 k
 obtain ⟨ih0, ih1, ih2, ih3, ih4, ih5, ih6⟩ := astrolabelaw23_CatGrows.mono_l k
 unfold astrolabelaw23_CatGrows.f
 repeat' first
   | (with_reducible exact ih0 _ _ _ _ _ _)
   | (with_reducible exact ih1 _ _ _ _ _ _ _)
   | (with_reducible exact ih2 _ _ _ _ _ _ _)
   | (with_reducible exact ih3 _ _ _ _ _ _ _ _ _ _)
   | (with_reducible exact ih4 _ _ _ _ _ _)
   | (with_reducible exact ih5 _ _ _ _ _ _)
   | (with_reducible exact ih6 _ _ _ _ _ _ _ _ _)
   | (with_reducible exact astrolabelaw23_examples.mono _)
   | (with_reducible exact cat_Right.mono _ _ _)
   | (with_reducible exact cat_With.mono _ _ _ _)
   | (with_reducible exact cat_Without.mono _ _ _ _)
   | (with_reducible exact LeO.refl _)
   | (with_reducible exact LeO.none _)
   | (with_reducible refine LeO.ite ?_ ?_)
   | (with_reducible refine LeO.bind ?_ (fun _ => ?_))
   | exact ih0 _ _ _ _ _ _
   | exact ih1 _ _ _ _ _ _ _
   | exact ih2 _ _ _ _ _ _ _
   | exact ih3 _ _ _ _ _ _ _ _ _ _
   | exact ih4 _ _ _ _ _ _
   | exact ih5 _ _ _ _ _ _
   | exact ih6 _ _ _ _ _ _ _ _ _
   | exact astrolabelaw23_examples.mono _
   | exact cat_Right.mono _ _ _
   | exact cat_With.mono _ _ _ _
   | exact cat_Without.mono _ _ _ _
   | exact LeO.none _
   | refine LeO.ite ?_ ?_
   | refine LeO.bind ?_ (fun _ => ?_)
def astrolabelaw23_CatGrows.T30 : Bool × List (List Nat × List Nat) := (true, [([], []), ([0], [0]), ([1], [1]), ([1, 2], [1, 2]), ([3, 1], [3]), ([4], [4]), ([5, 4], [4, 5]), ([4, 6], [4, 6]), ([7, 4], [7]), ([8], [8]), ([8, 9], [8, 9]), ([10, 8], [10]), ([11], [11]), ([11], [11]), ([13, 11], [11, 13]), ([12, 14, 11], [11, 12, 14]), ([11, 15], [11, 15]), ([16, 11], [16]), ([17], [17]), ([18, 17], [17, 18]), ([17], [17]), ([19, 20, 17], [17, 19, 20]), ([21, 17], [17, 21]), ([17], [17]), ([23, 17], [17, 23]), ([17], [17]), ([25, 17], [17, 25]), ([24, 26, 17], [17, 24, 26]), ([27, 17], [17, 27]), ([22, 28, 17], [17, 22, 28]), ([17, 29], [17, 29]), ([30, 17], [30]), ([31], [31]), ([32, 31], [31, 32]), ([31], [31]), ([34, 31], [31, 34]), ([33, 35, 31], [31, 33, 35]), ([31, 36], [31, 36]), ([37, 31], [37]), ([38], [38]), ([39, 38, 38], [38, 39]), ([38, 40], [38, 40]), ([41, 40, 0, 1, 2, 3, 4, 5, 6, 7, 8, 9, 10, 11, 12, 13, 14, 15, 16, 17, 18, 19, 20, 21, 22, 23, 24, 25, 26, 27, 28, 29, 30, 31, 32, 33, 34, 35, 36, 37, 38, 39, 40, 41], [41])])
def astrolabelaw23_CatGrows.B30 : List Nat := [0, 1, 3, 7, 15, 31, 63, 127, 255, 511, 1023, 2047, 4095, 4095, 12287, 32767, 65535, 131071, 262143, 524287, 262143, 2097151, 4194303, 262143, 8650751, 262143, 33816575, 126091263, 260308991, 536870911, 1073741823, 2147483647, 4294967295, 8589934591, 4294967295, 21474836479, 68719476735, 137438953471, 274877906943, 549755813887, 1099511627775, 2199023255551, 4398046511103]
theorem astrolabelaw23_CatGrows.tab30 : rtab .any (opsOf Try.f6 30) = astrolabelaw23_CatGrows.T30 := by kernel_rfl
theorem astrolabelaw23_CatGrows.bits30 : waitsOk astrolabelaw23_CatGrows.T30.2 astrolabelaw23_CatGrows.B30 = true := by kernel_rfl
set_option maxHeartbeats 8000000 in
set_option maxRecDepth 100000 in
theorem astrolabelaw23_CatGrows.calls (k : Nat) (A0 : Option Addr) (c0 : Nat) (l0 : List Int) (a1 : Int) (r : Bool) (w : World) (hr0 : Kd.C (Kd.int .i64) w A0 l0.length l0) (hc0 : l0.length ≤ c0) (hrt : r = true) (h : astrolabelaw23_CatGrows.f k l0 a1 = some r) :
  Calls Try.prog 6 #[.slice A0 l0.length c0, .int .i64 a1] w fun e w' => e = .returned (.bool r) ∧ Below w.heap.size w w' := by
 have hu24 := Try.underlying24
 have hu46 := Try.underlying46
 have HR0 := Aside0.mk hr0
 have HC0 := Aside0.mk hc0
 clear hr0 hc0
 have HB := Aside0.mk (Below.refl w.heap.size w)
 subst hrt
 have H : ((astrolabelaw23_examples.f k).bind fun t365 => (if t365 = true then (astrolabelaw23_CatGrows.l0 k l0 a1 t365 0 1 ([] : List (S46))) else (some false))) = some true := h
 clear h
 replace H := Option.bind_eq_some_iff.mp H
 obtain ⟨t365, A30, H⟩ := H
 replace H : (if t365 = true then (astrolabelaw23_CatGrows.l0 k l0 a1 t365 0 1 ([] : List (S46))) else (some false)) = some true := H
 have A3 := Aside0.mk A30
 clear A30
 by_cases c4 : t365 = true
 ·subst c4
  have H1 : (astrolabelaw23_CatGrows.l0 k l0 a1 true 0 1 ([] : List (S46))) = some true := by rw [if_pos rfl] at H; exact H
  clear H
  have H := H1
  clear H1
  have H' := Aside0.mk H
  clear H
  go_enter Try.func6, Try.ntmps6
  go_wp2_with (first | ((with_reducible refine gate_callee (f := 7) rfl ?_); refine goesL_ (some 21) rfl rfl Try.func7 (by kernel_rfl) rfl #[] rfl (by (try simp only [List.map_toArray, List.map_cons, List.map_nil]); first | done | rfl | (simp only [List.length_drop, List.length_take]; rfl)) ?_; (with_reducible refine (astrolabelaw23_examples.calls k  true _ A3.out).mono ?_); rintro e w5 ⟨rfl, hb⟩; refine ⟨_, rfl, ?_⟩; have n0_ := Aside0.mk (below_step (bel HB.out) hb); clear HB; have HB := n0_; clear n0_; (try clear hb); (try clear hb2); (try clear hk); (try clear hi)) | ((with_reducible refine gate_dst (N := 6) rfl ?_); (try (refine gate_guard (by rfl) ?_; dsimp only)); refine box_event ?hg (N := 6) ?hd (cs := #[.int .i64 0, .slice none 0 0]) (t := 24) ?hr ?_; (case hd => rfl); (case hg => rfl); (case hr => first | (go_simp; done) | (go_simp; rfl)); intro gb366 hg w6 hbox hb; have n0_ := Aside0.mk (below_step (bel HB.out) hb); have n1_ := Aside0.mk (hbox); have n2_ := Aside0.mk ((by rw [hg]; exact (below_size (bel HB.out)) : w.heap.size ≤ gb366)); have n3_ := Aside0.mk ((by rw [hg]; exact (below_size (bel HB.out)) : w.heap.size ≤ gb366)); clear HB; have HB := n0_; have BK366 := n1_; have GW366 := n2_; have GE366 := n3_; clear n0_ n1_ n2_ n3_; clear hb hbox hg; have hcz7_0 : w6.cell? ⟨gb366, 0, none⟩ = some (.int .i64 0) := (blk_cell BK366.out 0).trans rfl; have hcz7_1 : w6.cell? ⟨gb366, 1, none⟩ = some (.slice none 0 0) := (blk_cell BK366.out 1).trans rfl; have hfz7_0 := blk_frozen BK366.out 0; have hfz7_1 := blk_frozen BK366.out 1))
  go_loopg [7] k (fun kq v7 w' => ∃ (x7_1 : Int) (x367000_1 : Int) (x367001_1 : List (S46)) (u367001 : Value), v7 = .int .i64 x7_1 ∧ Aside0 (astrolabelaw23_CatGrows.l0 kq l0 a1 true x7_1 x367000_1 x367001_1 = some true) ∧ Aside0 (kq ≤ k) ∧ Aside0 (Kd.R k46 46 w' w.heap.size (fun _ => True) u367001 x367001_1) ∧ Aside0 (w'.heap[gb366]? = some (.cells #[.int .i64 x367000_1, u367001] 24 (0, 0))) ∧ Aside0 (Below w.heap.size w w'))
  case atStart => exact ⟨(0), (1), (([] : List (S46))), (.slice none 0 0), (by first | rfl | (simp; done) | (simp [*]; done)), H', ⟨Nat.le_refl _⟩, ⟨by first | exact Kd.R_nil _ _ _ _ _ | exact Kd.N_nil _ _ _ _ _ | exact Kd.V_nil _ _ _ _ _ | exact Kd.Q_nil _ _ _ _ _ | exact Kd.S_nil _ _ _ _ _⟩, ⟨by (with_reducible repeat (first | refine blk_drewN ?_ _ | refine blk_drew ?_ | refine blk_alloc ?_ _)); refine blk_put (cs := #[.int .i64 1, .slice none 0 0]) ?_ 1 _ rfl; (with_reducible repeat (first | refine blk_drewN ?_ _ | refine blk_drew ?_ | refine blk_alloc ?_ _)); refine blk_put (cs := #[.int .i64 0, .slice none 0 0]) ?_ 0 _ rfl; exact bk BK366.out⟩, ⟨by repeat (first | (with_reducible first | exact HB.out | apply below_alloc | apply pw_below_drewN | apply below_drew1 | refine below_set ?_ GE366.out) | exact HB.out)⟩⟩
  case round =>
   clear H'
   try clear p2
   try clear c4
   try clear c6
   try clear c7
   try clear hcz7_0
   try clear hcz7_1
   try clear hfz7_0
   try clear hfz7_1
   obtain ⟨x7_1, x367000_1, x367001_1, u367001, rfl, HA, HK1, HO_367001, BK366, HB⟩ := hrel
   cases gk with
   | zero => exact absurd HA.out (by simp [astrolabelaw23_CatGrows.l0])
   | succ k1 =>
    have H := HA.out
    clear HA
    simp only [astrolabelaw23_CatGrows.l0] at H
    have HC8 := Aside0.mk H
    clear H
    go_upto_region 6 with (fail)
    go_cut [32] (fun v32 wc => ∃ (kq : Nat) (x32_7 : Bool), v32 = .bool x32_7 ∧ Aside0 (astrolabelaw23_CatGrows.j1 kq l0 a1 true x7_1 x32_7 x367000_1 x367001_1 = some true) ∧ Aside0 (kq ≤ k1) ∧ Aside0 (Kd.R k46 46 wc w.heap.size (fun _ => True) u367001 x367001_1) ∧ Aside0 (wc.heap[gb366]? = some (.cells #[.int .i64 x367000_1, u367001] 24 (0, 0))) ∧ Aside0 (Below w.heap.size w wc))
    case first =>
     have H := HC8.out
     clear HC8
     by_cases c9 : x7_1 < (l0.length : Int)
     ·rw [if_pos c9] at H
      have c9b0 : decide (x7_1 < (l0.length : Int)) = true := decide_eq_true c9
      clear c9
      (first | rw [c9b0] | (simp only [i64_w, i32_w]; rw [c9b0]) | skip)
      have H' := Aside0.mk H
      clear H
      go_wp2
      go_meet
      case rel => exact ⟨_, (decide (x7_1 < 20)), (by first | rfl | (simp; done) | (simp [*]; done)), H', ⟨by have := HK1.out; first | omega | exact Nat.le_refl _⟩, ⟨by exact rk HO_367001.out⟩, ⟨by exact bk BK366.out⟩, ⟨by repeat (first | (with_reducible first | exact HB.out | apply below_alloc | apply pw_below_drewN | apply below_drew1 | refine below_set ?_ GE366.out) | exact HB.out)⟩⟩
     ·rw [if_neg c9] at H
      have c9b0 : decide (x7_1 < (l0.length : Int)) = false := decide_eq_false c9
      clear c9
      (first | rw [c9b0] | (simp only [i64_w, i32_w]; rw [c9b0]) | skip)
      have H' := Aside0.mk H
      clear H
      go_wp2
      go_meet
      case rel => exact ⟨_, (false), (by first | rfl | (simp; done) | (simp [*]; done)), H', ⟨by have := HK1.out; first | omega | exact Nat.le_refl _⟩, ⟨by exact rk HO_367001.out⟩, ⟨by exact bk BK366.out⟩, ⟨by repeat (first | (with_reducible first | exact HB.out | apply below_alloc | apply pw_below_drewN | apply below_drew1 | refine below_set ?_ GE366.out) | exact HB.out)⟩⟩
    case rest =>
     clear HC8
     try clear p2
     try clear c4
     try clear c6
     try clear c7
     try clear c9
     try clear c9b0
     try clear hcz7_0
     try clear hcz7_1
     try clear hfz7_0
     try clear hfz7_1
     try clear p2
     obtain ⟨kq, x32_7, rfl, HA, HJ7, HO_367001, BK366, HB⟩ := hcut
     cases kq with
     | zero => exact absurd HA.out (by simp [astrolabelaw23_CatGrows.j1])
     | succ kj7 =>
      have H := HA.out
      clear HA
      simp only [astrolabelaw23_CatGrows.j1] at H
      by_cases c10 : x32_7 = true
      ·subst c10
       have H1 : (if 0 ≤ x7_1 then (if x7_1 < (l0.length : Int) then (if (rd l0 x7_1) < 0 then (astrolabelaw23_CatGrows.j2 kj7 l0 a1 true x7_1 (wrap64 (-(wrap64 ((rd l0 x7_1) + 1)))) x367000_1 x367001_1) else (astrolabelaw23_CatGrows.j2 kj7 l0 a1 true x7_1 (rd l0 x7_1) x367000_1 x367001_1)) else (none)) else (none)) = some true := by rw [if_pos rfl] at H; exact H
       clear H
       have H := H1
       clear H1
       by_cases c11 : 0 ≤ x7_1
       ·rw [if_pos c11] at H
        have c11b0 : decide (0 ≤ x7_1) = true := decide_eq_true c11
        clear c11
        by_cases c12 : x7_1 < (l0.length : Int)
        ·rw [if_pos c12] at H
         have c12b0 : decide (x7_1 < (l0.length : Int)) = true := decide_eq_true c12
         clear c12
         have HC13 := Aside0.mk H
         clear H
         have p367 : 0 ≤ (x7_1 : Int) := of_decide_eq_true (by first | (with_reducible assumption) | assumption)
         have q367 : x7_1 < (l0.length : Int) := of_decide_eq_true (by first | (with_reducible assumption) | assumption)
         obtain ⟨ad367, e367, hx367_0⟩ := Kd.at_int HR0.out x7_1 p367 q367
         cases e367
         replace hx367_0 := (HB.out.cell (World.block_lt_of_cell? w _ hx367_0)).trans hx367_0
         replace p367 := eq_true p367
         replace q367 := eq_true q367
         go_upto_if 40 with (fail)
         go_cut [8] (fun v8 wc => ∃ (kq : Nat) (x8_12 : Int), v8 = .int .i64 x8_12 ∧ Aside0 (astrolabelaw23_CatGrows.j2 kq l0 a1 true x7_1 x8_12 x367000_1 x367001_1 = some true) ∧ Aside0 (kq ≤ kj7) ∧ Aside0 (Kd.R k46 46 wc w.heap.size (fun _ => True) u367001 x367001_1) ∧ Aside0 (wc.heap[gb366]? = some (.cells #[.int .i64 x367000_1, u367001] 24 (0, 0))) ∧ Aside0 (Below w.heap.size w wc))
         case first =>
          have H := HC13.out
          clear HC13
          by_cases c14 : (rd l0 x7_1) < 0
          ·rw [if_pos c14] at H
           have c14b0 : decide ((rd l0 x7_1) < 0) = true := decide_eq_true c14
           clear c14
           (first | rw [c14b0] | (simp only [i64_w, i32_w]; rw [c14b0]) | skip)
           have H' := Aside0.mk H
           clear H
           go_wp2
           go_meet
           case rel => exact ⟨_, (wrap64 (-(wrap64 ((rd l0 x7_1) + 1)))), (by first | rfl | (simp; done) | (simp [*]; done)), H', ⟨by have := HK1.out; have := HJ7.out; first | omega | exact Nat.le_refl _⟩, ⟨by exact rk HO_367001.out⟩, ⟨by exact bk BK366.out⟩, ⟨by repeat (first | (with_reducible first | exact HB.out | apply below_alloc | apply pw_below_drewN | apply below_drew1 | refine below_set ?_ GE366.out) | exact HB.out)⟩⟩
          ·rw [if_neg c14] at H
           have c14b0 : decide ((rd l0 x7_1) < 0) = false := decide_eq_false c14
           clear c14
           (first | rw [c14b0] | (simp only [i64_w, i32_w]; rw [c14b0]) | skip)
           have H' := Aside0.mk H
           clear H
           go_wp2
           go_meet
           case rel => exact ⟨_, (rd l0 x7_1), (by first | rfl | (simp; done) | (simp [*]; done)), H', ⟨by have := HK1.out; have := HJ7.out; first | omega | exact Nat.le_refl _⟩, ⟨by exact rk HO_367001.out⟩, ⟨by exact bk BK366.out⟩, ⟨by repeat (first | (with_reducible first | exact HB.out | apply below_alloc | apply pw_below_drewN | apply below_drew1 | refine below_set ?_ GE366.out) | exact HB.out)⟩⟩
         case rest =>
          clear HC13
          try clear c1
          try clear p2
          try clear p3
          try clear q3
          try clear hx3
          try clear c4
          try clear c6
          try clear p6
          try clear c7
          try clear c9
          try clear c9b0
          try clear c10
          try clear c11
          try clear c11b0
          try clear c12
          try clear c12b0
          try clear c14
          try clear c14b0
          try clear hcz7_0
          try clear hcz7_1
          try clear hfz7_0
          try clear hfz7_1
          try clear hx367_0
          try clear p2
          try clear p367
          try clear q367
          obtain ⟨kq, x8_12, rfl, HA, HJ12, HO_367001, BK366, HB⟩ := hcut
          cases kq with
          | zero => exact absurd HA.out (by simp [astrolabelaw23_CatGrows.j2])
          | succ kj12 =>
           have H := HA.out
           clear HA
           simp only [astrolabelaw23_CatGrows.j2] at H
           replace H := Option.bind_eq_some_iff.mp H
           obtain ⟨⟨t368, t369, t372⟩, A150, H⟩ := H
           replace H : (if (t372 != (decide (x7_1 < 12))) = true then (astrolabelaw23_CatGrows.j3 kj12 l0 a1 true x7_1 t372 true x367000_1 x367001_1 t368 t369) else (if t372 = true then (astrolabelaw23_CatGrows.j3 kj12 l0 a1 true x7_1 t372 false x367000_1 x367001_1 t368 t369) else (if t368 = 0 then (astrolabelaw23_CatGrows.j3 kj12 l0 a1 true x7_1 t372 ((t369.length : Int) != 0) x367000_1 x367001_1 t368 t369) else (astrolabelaw23_CatGrows.j3 kj12 l0 a1 true x7_1 t372 true x367000_1 x367001_1 t368 t369)))) = some true := H
           have A15 := Aside0.mk A150
           clear A150
           have HC16 := Aside0.mk H
           clear H
           have hcz17_0 : wc.cell? ⟨gb366, 0, none⟩ = some (.int .i64 x367000_1) := (blk_cell BK366.out 0).trans rfl
           have hcz17_1 : wc.cell? ⟨gb366, 1, none⟩ = some (u367001) := (blk_cell BK366.out 1).trans rfl
           have hfz17_0 := blk_frozen BK366.out 0
           have hfz17_1 := blk_frozen BK366.out 1
           obtain ⟨Ao18, co18, eo18⟩ := Kd.R_slice HO_367001.out
           subst eo18
           go_upto_region 12 with (first | ((with_reducible refine gate_callee (f := 19) rfl ?_); refine goesL_ (some 49) rfl rfl Try.func19 (by kernel_rfl) rfl #[.agg #[.int .i64 x367000_1, .slice Ao18 x367001_1.length co18], .int .i64 (wrap64 (2 + (Int.tmod x8_12 510)))] rfl (by (try simp only [List.map_toArray, List.map_cons, List.map_nil]); first | done | rfl | (simp only [List.length_drop, List.length_take]; rfl)) ?_; (with_reducible refine (cat_With.calls kj12 x367000_1 _ _ x367001_1 (wrap64 (2 + (Int.tmod x8_12 510))) t368 t369 t372 _ ?side1 ?side2 A15.out).mono ?_); (case side1 => repeat (first | exact (Kd.R_reads' HO_367001.out).2.2 | (with_reducible refine Kd.C_alloc ?_ _) | (with_reducible refine Kd.C_drewN ?_ _) | (with_reducible refine Kd.C_drew ?_))); (case side2 => exact (Kd.R_reads' HO_367001.out).2.1); rintro e w19 ⟨v370, rfl, ho0, hb⟩; refine ⟨_, rfl, ?_⟩; have n0_ := Aside0.mk (Kd.R_elder' (rk HO_367001.out) (Kd.R_base ho0) hb); have n1_ := Aside0.mk (Kd.R_lower (Kd.R_new' ho0 (Kd.R_lt (rk HO_367001.out))) (below_size (by repeat (first | (with_reducible first | exact HB.out | apply below_alloc | apply pw_below_drewN | apply below_drew1 | refine below_set ?_ GE366.out) | exact HB.out)))); have n2_ := Aside0.mk (blk_below (g := gb366) (bk BK366.out) hb); have n3_ := Aside0.mk (below_step (by repeat (first | (with_reducible first | exact HB.out | apply below_alloc | apply pw_below_drewN | apply below_drew1 | refine below_set ?_ GE366.out) | exact HB.out)) hb); clear HO_367001; clear BK366; clear HB; have HO_367001 := n0_; have HO371 := n1_; have BK366 := n2_; have HB := n3_; clear n0_ n1_ n2_ n3_; (try clear hb); (try clear hb2); (try clear hk); (try clear hi); (try clear ho0)) | ((with_reducible refine gate_dst (N := 9) rfl ?_); (try (refine gate_guard (by rfl) ?_; dsimp only)); refine box_event ?hg (N := 9) ?hd (cs := #[.int .i64 0, .slice none 0 0]) (t := 24) ?hr ?_; (case hd => rfl); (case hg => rfl); (case hr => first | (go_simp; done) | (go_simp; rfl)); intro gb373 hg w20 hbox hb; have n0_ := Aside0.mk (Kd.R_below (rk HO_367001.out) hb); have n1_ := Aside0.mk (Kd.R_below (rk HO371.out) hb); have n2_ := Aside0.mk (blk_below (g := gb366) (bk BK366.out) hb); have n3_ := Aside0.mk (below_step (by repeat (first | (with_reducible first | exact HB.out | apply below_alloc | apply pw_below_drewN | apply below_drew1 | refine below_set ?_ GE366.out) | exact HB.out)) hb); have n4_ := Aside0.mk (hbox); have n5_ := Aside0.mk ((by rw [hg]; exact (below_size (by repeat (first | (with_reducible first | exact HB.out | apply below_alloc | apply pw_below_drewN | apply below_drew1 | refine below_set ?_ GE366.out) | exact HB.out))) : w.heap.size ≤ gb373)); have n6_ := Aside0.mk ((by rw [hg]; exact (below_size (by repeat (first | (with_reducible first | exact HB.out | apply below_alloc | apply pw_below_drewN | apply below_drew1 | refine below_set ?_ GE366.out) | exact HB.out))) : w.heap.size ≤ gb373)); have n7_ := Aside0.mk ((by rw [hg]; exact Nat.ne_of_lt (blk_lt (g := gb366) (bk BK366.out)) : gb366 ≠ gb373)); have n8_ := Aside0.mk ((by rw [hg]; exact Nat.ne_of_gt (blk_lt (g := gb366) (bk BK366.out)) : gb373 ≠ gb366)); clear HO_367001; clear HO371; clear BK366; clear HB; have HO_367001 := n0_; have HO371 := n1_; have BK366 := n2_; have HB := n3_; have BK373 := n4_; have GW373 := n5_; have GE373 := n6_; have NB366_373 := n7_; have NB373_366 := n8_; clear n0_ n1_ n2_ n3_ n4_ n5_ n6_ n7_ n8_; clear hb hbox hg; have hnb21 := NB373_366.out; have hnc21 := NB366_373.out; have hcz22_0 : w20.cell? ⟨gb373, 0, none⟩ = some (.int .i64 0) := (blk_cell BK373.out 0).trans rfl; have hcz22_1 : w20.cell? ⟨gb373, 1, none⟩ = some (.slice none 0 0) := (blk_cell BK373.out 1).trans rfl; have hfz22_0 := blk_frozen BK373.out 0; have hfz22_1 := blk_frozen BK373.out 1; obtain ⟨Ao23, co23, eo23⟩ := Kd.R_slice HO371.out; subst eo23))
           (try simp only [Act.put, List.setIfInBounds_toArray, List.set_cons_zero, List.set_cons_succ])
           go_cut [70] (fun v70 wc => ∃ (kq : Nat) (x70_15 : Bool), v70 = .bool x70_15 ∧ Aside0 (astrolabelaw23_CatGrows.j3 kq l0 a1 true x7_1 t372 x70_15 x367000_1 x367001_1 t368 t369 = some true) ∧ Aside0 (kq ≤ kj12) ∧ Aside0 (Kd.R k46 46 wc w.heap.size (fun k_ => some k_ ≠ ((.slice Ao23 t369.length co23) : Value).ownBlock) (.slice Ao18 x367001_1.length co18) x367001_1) ∧ Aside0 (Kd.R k46 46 wc w.heap.size (fun k_ => some k_ ≠ ((.slice Ao18 x367001_1.length co18) : Value).ownBlock) (.slice Ao23 t369.length co23) t369) ∧ Aside0 (wc.heap[gb366]? = some (.cells #[.int .i64 x367000_1, (.slice Ao18 x367001_1.length co18)] 24 (0, 0))) ∧ Aside0 (wc.heap[gb373]? = some (.cells #[.int .i64 t368, (.slice Ao23 t369.length co23)] 24 (0, 0))) ∧ Aside0 (Below w.heap.size w wc))
           case first =>
            have H := HC16.out
            clear HC16
            by_cases c24 : (t372 != (decide (x7_1 < 12))) = true
            ·rw [if_pos c24] at H
             have c24b0 : (t372 != (decide (x7_1 < 12))) = true := c24
             (try (have c24b1 : decide (t372 = (decide (x7_1 < 12))) = false := by simpa using c24))
             (try (have c24b2 : (t372 == (decide (x7_1 < 12))) = false := by simpa using c24))
             (try (have c24b3 : ¬ (t372 = (decide (x7_1 < 12))) := by simpa using c24))
             clear c24
             (first | rw [c24b0] | (simp only [i64_w, i32_w]; rw [c24b0]) | skip)
             have H' := Aside0.mk H
             clear H
             go_wp2
             go_meet
             case rel => exact ⟨_, (true), (by first | rfl | (simp; done) | (simp [*]; done)), H', ⟨by have := HK1.out; have := HJ7.out; have := HJ12.out; first | omega | exact Nat.le_refl _⟩, ⟨by (with_reducible repeat (first | apply Kd.R_alloc | apply Kd.R_drewN | apply Kd.R_drew)); exact Kd.R_mono (Kd.R_far (p := ⟨gb373, 1, none⟩) (Kd.R_far (p := ⟨gb373, 0, none⟩) (Kd.R_types HO_367001.out BK373.out (by decide)) (fun _ hk => hk.2) (.int .i64 t368)) (fun _ hk => hk.2) (.slice Ao23 t369.length co23)) (fun _ hk => hk.1.2)⟩, ⟨by (with_reducible repeat (first | apply Kd.R_alloc | apply Kd.R_drewN | apply Kd.R_drew)); exact Kd.R_mono (Kd.R_far (p := ⟨gb373, 1, none⟩) (Kd.R_far (p := ⟨gb373, 0, none⟩) (Kd.R_types HO371.out BK373.out (by decide)) (fun _ hk => hk.2) (.int .i64 t368)) (fun _ hk => hk.2) (.slice Ao23 t369.length co23)) (fun _ hk => hk.1.2)⟩, ⟨by (with_reducible repeat (first | refine blk_drewN ?_ _ | refine blk_drew ?_ | refine blk_alloc ?_ _)); refine blk_far ?_ NB366_373.out _; (with_reducible repeat (first | refine blk_drewN ?_ _ | refine blk_drew ?_ | refine blk_alloc ?_ _)); refine blk_far ?_ NB366_373.out _; exact bk BK366.out⟩, ⟨by (with_reducible repeat (first | refine blk_drewN ?_ _ | refine blk_drew ?_ | refine blk_alloc ?_ _)); refine blk_put (cs := #[.int .i64 t368, .slice none 0 0]) ?_ 1 _ rfl; (with_reducible repeat (first | refine blk_drewN ?_ _ | refine blk_drew ?_ | refine blk_alloc ?_ _)); refine blk_put (cs := #[.int .i64 0, .slice none 0 0]) ?_ 0 _ rfl; exact bk BK373.out⟩, ⟨by repeat (first | (with_reducible first | exact HB.out | apply below_alloc | apply pw_below_drewN | apply below_drew1 | refine below_set ?_ GE366.out | refine below_set ?_ GE373.out) | exact HB.out)⟩⟩
            ·rw [if_neg c24] at H
             have c24b0 : (t372 != (decide (x7_1 < 12))) = false := by simpa using c24
             (try (have c24b1 : decide (t372 = (decide (x7_1 < 12))) = true := by simpa using c24))
             (try (have c24b2 : (t372 == (decide (x7_1 < 12))) = true := by simpa using c24))
             clear c24
             (first | rw [c24b0] | (simp only [i64_w, i32_w]; rw [c24b0]) | skip)
             by_cases c25 : t372 = true
             ·subst c25
              have H1 : (astrolabelaw23_CatGrows.j3 kj12 l0 a1 true x7_1 true false x367000_1 x367001_1 t368 t369) = some true := by rw [if_pos rfl] at H; exact H
              clear H
              have H := H1
              clear H1
              have H' := Aside0.mk H
              clear H
              go_wp2
              go_meet
              case rel => exact ⟨_, (false), (by first | rfl | (simp; done) | (simp [*]; done)), H', ⟨by have := HK1.out; have := HJ7.out; have := HJ12.out; first | omega | exact Nat.le_refl _⟩, ⟨by (with_reducible repeat (first | apply Kd.R_alloc | apply Kd.R_drewN | apply Kd.R_drew)); exact Kd.R_mono (Kd.R_far (p := ⟨gb373, 1, none⟩) (Kd.R_far (p := ⟨gb373, 0, none⟩) (Kd.R_types HO_367001.out BK373.out (by decide)) (fun _ hk => hk.2) (.int .i64 t368)) (fun _ hk => hk.2) (.slice Ao23 t369.length co23)) (fun _ hk => hk.1.2)⟩, ⟨by (with_reducible repeat (first | apply Kd.R_alloc | apply Kd.R_drewN | apply Kd.R_drew)); exact Kd.R_mono (Kd.R_far (p := ⟨gb373, 1, none⟩) (Kd.R_far (p := ⟨gb373, 0, none⟩) (Kd.R_types HO371.out BK373.out (by decide)) (fun _ hk => hk.2) (.int .i64 t368)) (fun _ hk => hk.2) (.slice Ao23 t369.length co23)) (fun _ hk => hk.1.2)⟩, ⟨by (with_reducible repeat (first | refine blk_drewN ?_ _ | refine blk_drew ?_ | refine blk_alloc ?_ _)); refine blk_far ?_ NB366_373.out _; (with_reducible repeat (first | refine blk_drewN ?_ _ | refine blk_drew ?_ | refine blk_alloc ?_ _)); refine blk_far ?_ NB366_373.out _; exact bk BK366.out⟩, ⟨by (with_reducible repeat (first | refine blk_drewN ?_ _ | refine blk_drew ?_ | refine blk_alloc ?_ _)); refine blk_put (cs := #[.int .i64 t368, .slice none 0 0]) ?_ 1 _ rfl; (with_reducible repeat (first | refine blk_drewN ?_ _ | refine blk_drew ?_ | refine blk_alloc ?_ _)); refine blk_put (cs := #[.int .i64 0, .slice none 0 0]) ?_ 0 _ rfl; exact bk BK373.out⟩, ⟨by repeat (first | (with_reducible first | exact HB.out | apply below_alloc | apply pw_below_drewN | apply below_drew1 | refine below_set ?_ GE366.out | refine below_set ?_ GE373.out) | exact HB.out)⟩⟩
             ·replace c25 := Bool.eq_false_iff.mpr c25
              subst c25
              have H1 : (if t368 = 0 then (astrolabelaw23_CatGrows.j3 kj12 l0 a1 true x7_1 false ((t369.length : Int) != 0) x367000_1 x367001_1 t368 t369) else (astrolabelaw23_CatGrows.j3 kj12 l0 a1 true x7_1 false true x367000_1 x367001_1 t368 t369)) = some true := by rw [if_neg (show ¬ (false = true) by decide)] at H; exact H
              clear H
              have H := H1
              clear H1
              by_cases c26 : t368 = 0
              ·rw [if_pos c26] at H
               have c26b0 : (t368 == 0) = true := beq_iff_eq.mpr c26
               have c26b1 : (t368 != 0) = false := bne_eq_false_iff_eq.mpr c26
               clear c26
               have H' := Aside0.mk H
               clear H
               have hnb27 := NB373_366.out
               have hnc27 := NB366_373.out
               have hcz28_0 : w20.cell? ⟨gb373, 0, none⟩ = some (.int .i64 0) := (blk_cell BK373.out 0).trans rfl
               have hcz28_1 : w20.cell? ⟨gb373, 1, none⟩ = some (.slice none 0 0) := (blk_cell BK373.out 1).trans rfl
               have hfz28_0 := blk_frozen BK373.out 0
               have hfz28_1 := blk_frozen BK373.out 1
               go_wp2
               go_meet
               case rel => exact ⟨_, (((t369.length : Int) != 0)), (by first | rfl | (simp; done) | (simp [*]; done)), H', ⟨by have := HK1.out; have := HJ7.out; have := HJ12.out; first | omega | exact Nat.le_refl _⟩, ⟨by (with_reducible repeat (first | apply Kd.R_alloc | apply Kd.R_drewN | apply Kd.R_drew)); exact Kd.R_mono (Kd.R_far (p := ⟨gb373, 1, none⟩) (Kd.R_far (p := ⟨gb373, 0, none⟩) (Kd.R_types HO_367001.out BK373.out (by decide)) (fun _ hk => hk.2) (.int .i64 t368)) (fun _ hk => hk.2) (.slice Ao23 t369.length co23)) (fun _ hk => hk.1.2)⟩, ⟨by (with_reducible repeat (first | apply Kd.R_alloc | apply Kd.R_drewN | apply Kd.R_drew)); exact Kd.R_mono (Kd.R_far (p := ⟨gb373, 1, none⟩) (Kd.R_far (p := ⟨gb373, 0, none⟩) (Kd.R_types HO371.out BK373.out (by decide)) (fun _ hk => hk.2) (.int .i64 t368)) (fun _ hk => hk.2) (.slice Ao23 t369.length co23)) (fun _ hk => hk.1.2)⟩, ⟨by (with_reducible repeat (first | refine blk_drewN ?_ _ | refine blk_drew ?_ | refine blk_alloc ?_ _)); refine blk_far ?_ NB366_373.out _; (with_reducible repeat (first | refine blk_drewN ?_ _ | refine blk_drew ?_ | refine blk_alloc ?_ _)); refine blk_far ?_ NB366_373.out _; exact bk BK366.out⟩, ⟨by (with_reducible repeat (first | refine blk_drewN ?_ _ | refine blk_drew ?_ | refine blk_alloc ?_ _)); refine blk_put (cs := #[.int .i64 t368, .slice none 0 0]) ?_ 1 _ rfl; (with_reducible repeat (first | refine blk_drewN ?_ _ | refine blk_drew ?_ | refine blk_alloc ?_ _)); refine blk_put (cs := #[.int .i64 0, .slice none 0 0]) ?_ 0 _ rfl; exact bk BK373.out⟩, ⟨by repeat (first | (with_reducible first | exact HB.out | apply below_alloc | apply pw_below_drewN | apply below_drew1 | refine below_set ?_ GE366.out | refine below_set ?_ GE373.out) | exact HB.out)⟩⟩
              ·rw [if_neg c26] at H
               have c26b0 : (t368 == 0) = false := beq_eq_false_iff_ne.mpr c26
               have c26b1 : (t368 != 0) = true := bne_iff_ne.mpr c26
               have H' := Aside0.mk H
               clear H
               have hnb29 := NB373_366.out
               have hnc29 := NB366_373.out
               have hcz30_0 : w20.cell? ⟨gb373, 0, none⟩ = some (.int .i64 0) := (blk_cell BK373.out 0).trans rfl
               have hcz30_1 : w20.cell? ⟨gb373, 1, none⟩ = some (.slice none 0 0) := (blk_cell BK373.out 1).trans rfl
               have hfz30_0 := blk_frozen BK373.out 0
               have hfz30_1 := blk_frozen BK373.out 1
               go_wp2
               go_meet
               case rel => exact ⟨_, (true), (by first | rfl | (simp; done) | (simp [*]; done)), H', ⟨by have := HK1.out; have := HJ7.out; have := HJ12.out; first | omega | exact Nat.le_refl _⟩, ⟨by (with_reducible repeat (first | apply Kd.R_alloc | apply Kd.R_drewN | apply Kd.R_drew)); exact Kd.R_mono (Kd.R_far (p := ⟨gb373, 1, none⟩) (Kd.R_far (p := ⟨gb373, 0, none⟩) (Kd.R_types HO_367001.out BK373.out (by decide)) (fun _ hk => hk.2) (.int .i64 t368)) (fun _ hk => hk.2) (.slice Ao23 t369.length co23)) (fun _ hk => hk.1.2)⟩, ⟨by (with_reducible repeat (first | apply Kd.R_alloc | apply Kd.R_drewN | apply Kd.R_drew)); exact Kd.R_mono (Kd.R_far (p := ⟨gb373, 1, none⟩) (Kd.R_far (p := ⟨gb373, 0, none⟩) (Kd.R_types HO371.out BK373.out (by decide)) (fun _ hk => hk.2) (.int .i64 t368)) (fun _ hk => hk.2) (.slice Ao23 t369.length co23)) (fun _ hk => hk.1.2)⟩, ⟨by (with_reducible repeat (first | refine blk_drewN ?_ _ | refine blk_drew ?_ | refine blk_alloc ?_ _)); refine blk_far ?_ NB366_373.out _; (with_reducible repeat (first | refine blk_drewN ?_ _ | refine blk_drew ?_ | refine blk_alloc ?_ _)); refine blk_far ?_ NB366_373.out _; exact bk BK366.out⟩, ⟨by (with_reducible repeat (first | refine blk_drewN ?_ _ | refine blk_drew ?_ | refine blk_alloc ?_ _)); refine blk_put (cs := #[.int .i64 t368, .slice none 0 0]) ?_ 1 _ rfl; (with_reducible repeat (first | refine blk_drewN ?_ _ | refine blk_drew ?_ | refine blk_alloc ?_ _)); refine blk_put (cs := #[.int .i64 0, .slice none 0 0]) ?_ 0 _ rfl; exact bk BK373.out⟩, ⟨by repeat (first | (with_reducible first | exact HB.out | apply below_alloc | apply pw_below_drewN | apply below_drew1 | refine below_set ?_ GE366.out | refine below_set ?_ GE373.out) | exact HB.out)⟩⟩
           case rest =>
            clear HC16
            try clear c1
            try clear c2
            try clear p2
            try clear p3
            try clear q3
            try clear hx3
            try clear c4
            try clear c6
            try clear p6
            try clear c7
            try clear c9
            try clear c9b0
            try clear c10
            try clear c11
            try clear c11b0
            try clear c12
            try clear c12b0
            try clear c14
            try clear c14b0
            try clear c19
            try clear c21
            try clear c24
            try clear c24b0
            try clear c24b1
            try clear c24b2
            try clear c25
            try clear c26
            try clear c26b0
            try clear c26b1
            try clear c27
            try clear c29
            try clear hcz17_0
            try clear hcz17_1
            try clear hcz22_0
            try clear hcz22_1
            try clear hcz28_0
            try clear hcz28_1
            try clear hcz30_0
            try clear hcz30_1
            try clear hcz7_0
            try clear hcz7_1
            try clear hfz17_0
            try clear hfz17_1
            try clear hfz22_0
            try clear hfz22_1
            try clear hfz28_0
            try clear hfz28_1
            try clear hfz30_0
            try clear hfz30_1
            try clear hfz7_0
            try clear hfz7_1
            try clear hx367_0
            try clear p2
            try clear p3
            try clear p367
            try clear p6
            try clear q3
            try clear q367
            obtain ⟨kq, x70_15, rfl, HA, HJ15, HO_367001, HO_374001, BK366, BK373, HB⟩ := hcut
            cases kq with
            | zero => exact absurd HA.out (by simp [astrolabelaw23_CatGrows.j3])
            | succ kj15 =>
             have H := HA.out
             clear HA
             simp only [astrolabelaw23_CatGrows.j3] at H
             by_cases c31 : x70_15 = true
             ·subst c31
              have H1 : (some false) = some true := by rw [if_pos rfl] at H; exact H
              clear H
              have H := H1
              clear H1
              exact absurd H (by simp)
             ·replace c31 := Bool.eq_false_iff.mpr c31
              subst c31
              have H1 : (if t372 = true then (astrolabelaw23_CatGrows.l0 kj15 l0 a1 true (wrap64 (x7_1 + 1)) t368 t369) else (astrolabelaw23_CatGrows.l0 kj15 l0 a1 true (wrap64 (x7_1 + 1)) x367000_1 x367001_1)) = some true := by rw [if_neg (show ¬ (false = true) by decide)] at H; exact H
              clear H
              have H := H1
              clear H1
              by_cases c32 : t372 = true
              ·subst c32
               have H1 : (astrolabelaw23_CatGrows.l0 kj15 l0 a1 true (wrap64 (x7_1 + 1)) t368 t369) = some true := by rw [if_pos rfl] at H; exact H
               clear H
               have H := H1
               clear H1
               have H' := Aside0.mk H
               clear H
               have hnb33 := NB373_366.out
               have hnc33 := NB366_373.out
               have hcz34_0 : wc.cell? ⟨gb373, 0, none⟩ = some (.int .i64 t368) := (blk_cell BK373.out 0).trans rfl
               have hcz34_1 : wc.cell? ⟨gb373, 1, none⟩ = some (.slice Ao23 t369.length co23) := (blk_cell BK373.out 1).trans rfl
               have hfz34_0 := blk_frozen BK373.out 0
               have hfz34_1 := blk_frozen BK373.out 1
               have hcz35_0 : wc.cell? ⟨gb366, 0, none⟩ = some (.int .i64 x367000_1) := (blk_cell BK366.out 0).trans rfl
               have hcz35_1 : wc.cell? ⟨gb366, 1, none⟩ = some (.slice Ao18 x367001_1.length co18) := (blk_cell BK366.out 1).trans rfl
               have hfz35_0 := blk_frozen BK366.out 0
               have hfz35_1 := blk_frozen BK366.out 1
               go_wp2
               go_roundg kj15
               case measure => have := HK1.out; have := HJ7.out; have := HJ12.out; have := HJ15.out; omega
               case rel => exact ⟨(wrap64 (x7_1 + 1)), (t368), (t369), (.slice Ao23 t369.length co23), (by first | rfl | (simp; done) | (simp [*]; done)), H', ⟨by have := HK1.out; have := HJ7.out; have := HJ12.out; have := HJ15.out; omega⟩, ⟨by (with_reducible repeat (first | apply Kd.R_alloc | apply Kd.R_drewN | apply Kd.R_drew)); exact Kd.R_mono (Kd.R_far (p := ⟨gb366, 1, none⟩) (Kd.R_far (p := ⟨gb366, 0, none⟩) (Kd.R_types HO_374001.out BK366.out (by decide)) (fun _ hk => hk.2) (.int .i64 t368)) (fun _ hk => hk.2) (.slice Ao23 t369.length co23)) (fun _ hk => trivial)⟩, ⟨by (with_reducible repeat (first | refine blk_drewN ?_ _ | refine blk_drew ?_ | refine blk_alloc ?_ _)); refine blk_put (cs := #[.int .i64 t368, .slice Ao18 x367001_1.length co18]) ?_ 1 _ rfl; (with_reducible repeat (first | refine blk_drewN ?_ _ | refine blk_drew ?_ | refine blk_alloc ?_ _)); refine blk_put (cs := #[.int .i64 x367000_1, .slice Ao18 x367001_1.length co18]) ?_ 0 _ rfl; exact bk BK366.out⟩, ⟨by repeat (first | (with_reducible first | exact HB.out | apply below_alloc | apply pw_below_drewN | apply below_drew1 | refine below_set ?_ GE366.out | refine below_set ?_ GE373.out) | exact HB.out)⟩⟩
              ·replace c32 := Bool.eq_false_iff.mpr c32
               subst c32
               have H1 : (astrolabelaw23_CatGrows.l0 kj15 l0 a1 true (wrap64 (x7_1 + 1)) x367000_1 x367001_1) = some true := by rw [if_neg (show ¬ (false = true) by decide)] at H; exact H
               clear H
               have H := H1
               clear H1
               have H' := Aside0.mk H
               clear H
               go_wp2
               go_roundg kj15
               case measure => have := HK1.out; have := HJ7.out; have := HJ12.out; have := HJ15.out; omega
               case rel => exact ⟨(wrap64 (x7_1 + 1)), (x367000_1), (x367001_1), (.slice Ao18 x367001_1.length co18), (by first | rfl | (simp; done) | (simp [*]; done)), H', ⟨by have := HK1.out; have := HJ7.out; have := HJ12.out; have := HJ15.out; omega⟩, ⟨by (with_reducible repeat (first | apply Kd.R_alloc | apply Kd.R_drewN | apply Kd.R_drew)); exact Kd.R_mono HO_367001.out (fun _ hk => trivial)⟩, ⟨by exact bk BK366.out⟩, ⟨by repeat (first | (with_reducible first | exact HB.out | apply below_alloc | apply pw_below_drewN | apply below_drew1 | refine below_set ?_ GE366.out | refine below_set ?_ GE373.out) | exact HB.out)⟩⟩
        ·rw [if_neg c12] at H
         exact absurd H (by simp)
       ·rw [if_neg c11] at H
        exact absurd H (by simp)
      ·replace c10 := Bool.eq_false_iff.mpr c10
       subst c10
       have H1 : (if (x367001_1.length : Int) = (mn (l0.length : Int) 12) then (astrolabelaw23_CatGrows.j4 kj7 a1 true (mn (l0.length : Int) 12) (x367000_1 != ((mn (l0.length : Int) 12) + 1)) x367000_1 x367001_1) else (astrolabelaw23_CatGrows.j4 kj7 a1 true (mn (l0.length : Int) 12) true x367000_1 x367001_1)) = some true := by rw [if_neg (show ¬ (false = true) by decide)] at H; exact H
       clear H
       have H := H1
       clear H1
       obtain ⟨ji36, hji36⟩ : ∃ j_ : Int, (mn (l0.length : Int) 12) = j_ := ⟨_, rfl⟩
       replace H : (if (x367001_1.length : Int) = (ji36) then (astrolabelaw23_CatGrows.j4 kj7 a1 true ji36 (x367000_1 != ((ji36) + 1)) x367000_1 x367001_1) else (astrolabelaw23_CatGrows.j4 kj7 a1 true ji36 true x367000_1 x367001_1)) = some true := by first | (rw [hji36] at H; exact H) | (simp only [hji36] at H ⊢; exact H)
       have hji36_ : (if 12 < (l0.length : Int) then 12 else (l0.length : Int)) = ji36 := hji36
       have HC37 := Aside0.mk H
       clear H
       go_upto_region 17 with (fail)
       go_cut [87] (fun v87 wc => ∃ (kq : Nat) (x87_36 : Bool), v87 = .bool x87_36 ∧ Aside0 (astrolabelaw23_CatGrows.j4 kq a1 true ji36 x87_36 x367000_1 x367001_1 = some true) ∧ Aside0 (kq ≤ kj7) ∧ Aside0 (Kd.R k46 46 wc w.heap.size (fun _ => True) u367001 x367001_1) ∧ Aside0 (wc.heap[gb366]? = some (.cells #[.int .i64 x367000_1, u367001] 24 (0, 0))) ∧ Aside0 (Below w.heap.size w wc))
       case first =>
        have H := HC37.out
        clear HC37
        by_cases c38 : (x367001_1.length : Int) = (ji36)
        ·rw [if_pos c38] at H
         have c38b0 : ((x367001_1.length : Int) == (ji36)) = true := beq_iff_eq.mpr c38
         have c38b1 : ((x367001_1.length : Int) != (ji36)) = false := bne_eq_false_iff_eq.mpr c38
         clear c38
         (first | rw [c38b0] | (simp only [i64_w, i32_w]; rw [c38b0]) | skip)
         have H' := Aside0.mk H
         clear H
         have hcz39_0 : wc.cell? ⟨gb366, 0, none⟩ = some (.int .i64 x367000_1) := (blk_cell BK366.out 0).trans rfl
         have hcz39_1 : wc.cell? ⟨gb366, 1, none⟩ = some (u367001) := (blk_cell BK366.out 1).trans rfl
         have hfz39_0 := blk_frozen BK366.out 0
         have hfz39_1 := blk_frozen BK366.out 1
         obtain ⟨Ao40, co40, eo40⟩ := Kd.R_slice HO_367001.out
         subst eo40
         go_wp2
         go_meet
         case rel => exact ⟨_, ((x367000_1 != ((ji36) + 1))), (by first | rfl | (simp; done) | (simp only [← hji36] <;> (first | rfl | simp)) | (simp [*]; done)), H', ⟨by have := HK1.out; have := HJ7.out; first | omega | exact Nat.le_refl _⟩, ⟨by exact rk HO_367001.out⟩, ⟨by exact bk BK366.out⟩, ⟨by repeat (first | (with_reducible first | exact HB.out | apply below_alloc | apply pw_below_drewN | apply below_drew1 | refine below_set ?_ GE366.out) | exact HB.out)⟩⟩
        ·rw [if_neg c38] at H
         have c38b0 : ((x367001_1.length : Int) == (ji36)) = false := beq_eq_false_iff_ne.mpr c38
         have c38b1 : ((x367001_1.length : Int) != (ji36)) = true := bne_iff_ne.mpr c38
         (first | rw [c38b0] | (simp only [i64_w, i32_w]; rw [c38b0]) | skip)
         have H' := Aside0.mk H
         clear H
         have hcz41_0 : wc.cell? ⟨gb366, 0, none⟩ = some (.int .i64 x367000_1) := (blk_cell BK366.out 0).trans rfl
         have hcz41_1 : wc.cell? ⟨gb366, 1, none⟩ = some (u367001) := (blk_cell BK366.out 1).trans rfl
         have hfz41_0 := blk_frozen BK366.out 0
         have hfz41_1 := blk_frozen BK366.out 1
         obtain ⟨Ao42, co42, eo42⟩ := Kd.R_slice HO_367001.out
         subst eo42
         go_wp2
         go_meet
         case rel => exact ⟨_, (true), (by first | rfl | (simp; done) | (simp [*]; done)), H', ⟨by have := HK1.out; have := HJ7.out; first | omega | exact Nat.le_refl _⟩, ⟨by exact rk HO_367001.out⟩, ⟨by exact bk BK366.out⟩, ⟨by repeat (first | (with_reducible first | exact HB.out | apply below_alloc | apply pw_below_drewN | apply below_drew1 | refine below_set ?_ GE366.out) | exact HB.out)⟩⟩
       case rest =>
        clear HC37
        try clear c1
        try clear c2
        try clear p2
        try clear c3
        try clear p3
        try clear q3
        try clear hx3
        try clear c4
        try clear c6
        try clear p6
        try clear c7
        try clear c9
        try clear c9b0
        try clear c10
        try clear c11
        try clear c11b0
        try clear c12
        try clear c12b0
        try clear c14
        try clear c14b0
        try clear c19
        try clear c21
        try clear c24
        try clear c24b0
        try clear c24b1
        try clear c24b2
        try clear c25
        try clear c26
        try clear c26b0
        try clear c26b1
        try clear c27
        try clear c29
        try clear c31
        try clear c32
        try clear c33
        try clear p36
        try clear q36
        try clear hx36
        try clear c38
        try clear c38b0
        try clear c38b1
        try clear hcz17_0
        try clear hcz17_1
        try clear hcz22_0
        try clear hcz22_1
        try clear hcz28_0
        try clear hcz28_1
        try clear hcz30_0
        try clear hcz30_1
        try clear hcz34_0
        try clear hcz34_1
        try clear hcz35_0
        try clear hcz35_1
        try clear hcz39_0
        try clear hcz39_1
        try clear hcz41_0
        try clear hcz41_1
        try clear hcz7_0
        try clear hcz7_1
        try clear hfz17_0
        try clear hfz17_1
        try clear hfz22_0
        try clear hfz22_1
        try clear hfz28_0
        try clear hfz28_1
        try clear hfz30_0
        try clear hfz30_1
        try clear hfz34_0
        try clear hfz34_1
        try clear hfz35_0
        try clear hfz35_1
        try clear hfz39_0
        try clear hfz39_1
        try clear hfz41_0
        try clear hfz41_1
        try clear hfz7_0
        try clear hfz7_1
        try clear hx367_0
        try clear p2
        try clear p3
        try clear p367
        try clear p6
        try clear q3
        try clear q367
        obtain ⟨kq, x87_36, rfl, HA, HJ36, HO_367001, BK366, HB⟩ := hcut
        cases kq with
        | zero => exact absurd HA.out (by simp [astrolabelaw23_CatGrows.j4])
        | succ kj36 =>
         have H := HA.out
         clear HA
         simp only [astrolabelaw23_CatGrows.j4] at H
         by_cases c43 : x87_36 = true
         ·subst c43
          have H1 : (some false) = some true := by rw [if_pos rfl] at H; exact H
          clear H
          have H := H1
          clear H1
          exact absurd H (by simp)
         ·replace c43 := Bool.eq_false_iff.mpr c43
          subst c43
          have H1 : (astrolabelaw23_CatGrows.l1 kj36 a1 true ji36 0 x367000_1 x367001_1) = some true := by rw [if_neg (show ¬ (false = true) by decide)] at H; exact H
          clear H
          have H := H1
          clear H1
          have H' := Aside0.mk H
          clear H
          go_wp2
          go_loopg [12] kj36 (fun kq v12 w' => ∃ (x12_4 : Int), v12 = .int .i64 x12_4 ∧ Aside0 (astrolabelaw23_CatGrows.l1 kq a1 true ji36 x12_4 x367000_1 x367001_1 = some true) ∧ Aside0 (kq ≤ kj36) ∧ Aside0 (Kd.R k46 46 w' w.heap.size (fun _ => True) u367001 x367001_1) ∧ Aside0 (w'.heap[gb366]? = some (.cells #[.int .i64 x367000_1, u367001] 24 (0, 0))) ∧ Aside0 (Below w.heap.size w w'))
          case atStart => exact ⟨(0), (by first | rfl | (simp; done) | (simp [*]; done)), H', ⟨Nat.le_refl _⟩, ⟨by exact rk HO_367001.out⟩, ⟨by exact bk BK366.out⟩, ⟨by repeat (first | (with_reducible first | exact HB.out | apply below_alloc | apply pw_below_drewN | apply below_drew1 | refine below_set ?_ GE366.out) | exact HB.out)⟩⟩
          case round =>
           clear H'
           try clear c1
           try clear c2
           try clear p2
           try clear c3
           try clear p3
           try clear q3
           try clear hx3
           try clear c4
           try clear c6
           try clear p6
           try clear c7
           try clear c9
           try clear c9b0
           try clear c10
           try clear c11
           try clear c11b0
           try clear c12
           try clear c12b0
           try clear c14
           try clear c14b0
           try clear c19
           try clear c21
           try clear c24
           try clear c24b0
           try clear c24b1
           try clear c24b2
           try clear c25
           try clear c26
           try clear c26b0
           try clear c26b1
           try clear c27
           try clear c29
           try clear c31
           try clear c32
           try clear c33
           try clear p36
           try clear q36
           try clear hx36
           try clear c38
           try clear c38b0
           try clear c38b1
           try clear c43
           try clear hcz17_0
           try clear hcz17_1
           try clear hcz22_0
           try clear hcz22_1
           try clear hcz28_0
           try clear hcz28_1
           try clear hcz30_0
           try clear hcz30_1
           try clear hcz34_0
           try clear hcz34_1
           try clear hcz35_0
           try clear hcz35_1
           try clear hcz39_0
           try clear hcz39_1
           try clear hcz41_0
           try clear hcz41_1
           try clear hcz7_0
           try clear hcz7_1
           try clear hfz17_0
           try clear hfz17_1
           try clear hfz22_0
           try clear hfz22_1
           try clear hfz28_0
           try clear hfz28_1
           try clear hfz30_0
           try clear hfz30_1
           try clear hfz34_0
           try clear hfz34_1
           try clear hfz35_0
           try clear hfz35_1
           try clear hfz39_0
           try clear hfz39_1
           try clear hfz41_0
           try clear hfz41_1
           try clear hfz7_0
           try clear hfz7_1
           try clear hx367_0
           try clear p2
           try clear p3
           try clear p36
           try clear p367
           try clear p6
           try clear q3
           try clear q36
           try clear q367
           obtain ⟨x12_4, rfl, HA, HK4, HO_367001, BK366, HB⟩ := hrel
           cases gk with
           | zero => exact absurd HA.out (by simp [astrolabelaw23_CatGrows.l1])
           | succ k4 =>
            have H := HA.out
            clear HA
            simp only [astrolabelaw23_CatGrows.l1] at H
            by_cases c44 : x12_4 < ji36
            ·rw [if_pos c44] at H
             have c44b0 : decide (x12_4 < ji36) = true := decide_eq_true c44
             clear c44
             replace H := Option.bind_eq_some_iff.mp H
             obtain ⟨⟨t374, t375⟩, A450, H⟩ := H
             replace H : (if t374 = x12_4 then (if t375 = true then (astrolabelaw23_CatGrows.l1 k4 a1 true ji36 (wrap64 (x12_4 + 1)) x367000_1 x367001_1) else (some false)) else (some false)) = some true := H
             have A45 := Aside0.mk A450
             clear A450
             by_cases c46 : t374 = x12_4
             ·rw [if_pos c46] at H
              have c46b0 : (t374 == x12_4) = true := beq_iff_eq.mpr c46
              have c46b1 : (t374 != x12_4) = false := bne_eq_false_iff_eq.mpr c46
              clear c46
              by_cases c47 : t375 = true
              ·subst c47
               have H1 : (astrolabelaw23_CatGrows.l1 k4 a1 true ji36 (wrap64 (x12_4 + 1)) x367000_1 x367001_1) = some true := by rw [if_pos rfl] at H; exact H
               clear H
               have H := H1
               clear H1
               have H' := Aside0.mk H
               clear H
               have hcz48_0 : wr.cell? ⟨gb366, 0, none⟩ = some (.int .i64 x367000_1) := (blk_cell BK366.out 0).trans rfl
               have hcz48_1 : wr.cell? ⟨gb366, 1, none⟩ = some (u367001) := (blk_cell BK366.out 1).trans rfl
               have hfz48_0 := blk_frozen BK366.out 0
               have hfz48_1 := blk_frozen BK366.out 1
               obtain ⟨Ao49, co49, eo49⟩ := Kd.R_slice HO_367001.out
               subst eo49
               go_wp2_with (first | ((with_reducible refine gate_callee (f := 17) rfl ?_); refine goesL_ (some 97) rfl rfl Try.func17 (by kernel_rfl) rfl #[.agg #[.int .i64 x367000_1, .slice Ao49 x367001_1.length co49], .int .i64 (wrap64 (x12_4 + 1))] rfl (by (try simp only [List.map_toArray, List.map_cons, List.map_nil]); first | done | rfl | (simp only [List.length_drop, List.length_take]; rfl)) ?_; (with_reducible refine (cat_Find.calls x367000_1 _ _ x367001_1 (wrap64 (x12_4 + 1)) t374 true _ ?side1 ?side2 A45.out).mono ?_); (case side1 => repeat (first | exact (Kd.R_reads' HO_367001.out).2.2 | (with_reducible refine Kd.C_alloc ?_ _) | (with_reducible refine Kd.C_drewN ?_ _) | (with_reducible refine Kd.C_drew ?_))); (case side2 => exact (Kd.R_reads' HO_367001.out).2.1); rintro e w50 ⟨rfl, hb⟩; refine ⟨_, rfl, ?_⟩; have n0_ := Aside0.mk (Kd.R_below (rk HO_367001.out) hb); have n1_ := Aside0.mk (blk_below (g := gb366) (bk BK366.out) hb); have n2_ := Aside0.mk (below_step (by repeat (first | (with_reducible first | exact HB.out | apply below_alloc | apply pw_below_drewN | apply below_drew1 | refine below_set ?_ GE366.out) | exact HB.out)) hb); clear HO_367001; clear BK366; clear HB; have HO_367001 := n0_; have BK366 := n1_; have HB := n2_; clear n0_ n1_ n2_; (try clear hb); (try clear hb2); (try clear hk); (try clear hi)))
               first | go_roundg k4 | ((try subst hji36); go_roundg k4)
               case measure => have := HK1.out; have := HJ7.out; have := HJ36.out; have := HK4.out; omega
               case rel => exact ⟨(wrap64 (x12_4 + 1)), (by first | rfl | (simp; done) | (simp [*]; done)), H', ⟨by have := HK1.out; have := HJ7.out; have := HJ36.out; have := HK4.out; omega⟩, ⟨by exact rk HO_367001.out⟩, ⟨by exact bk BK366.out⟩, ⟨by repeat (first | (with_reducible first | exact HB.out | apply below_alloc | apply pw_below_drewN | apply below_drew1 | refine below_set ?_ GE366.out) | exact HB.out)⟩⟩
              ·replace c47 := Bool.eq_false_iff.mpr c47
               subst c47
               have H1 : (some false) = some true := by rw [if_neg (show ¬ (false = true) by decide)] at H; exact H
               clear H
               have H := H1
               clear H1
               exact absurd H (by simp)
             ·rw [if_neg c46] at H
              have c46b0 : (t374 == x12_4) = false := beq_eq_false_iff_ne.mpr c46
              have c46b1 : (t374 != x12_4) = true := bne_iff_ne.mpr c46
              exact absurd H (by simp)
            ·rw [if_neg c44] at H
             have c44b0 : decide (x12_4 < ji36) = false := decide_eq_false c44
             clear c44
             replace H := Option.bind_eq_some_iff.mp H
             obtain ⟨⟨t376, t377, t380⟩, A510, H⟩ := H
             replace H : (if a1 < 1 then (astrolabelaw23_CatGrows.j6 k4 a1 true ji36 t380 true x367000_1 x367001_1 t376 t377) else (astrolabelaw23_CatGrows.j6 k4 a1 true ji36 t380 (decide (a1 ≥ ji36)) x367000_1 x367001_1 t376 t377)) = some true := H
             have A51 := Aside0.mk A510
             clear A510
             have HC52 := Aside0.mk H
             clear H
             have hcz53_0 : wr.cell? ⟨gb366, 0, none⟩ = some (.int .i64 x367000_1) := (blk_cell BK366.out 0).trans rfl
             have hcz53_1 : wr.cell? ⟨gb366, 1, none⟩ = some (u367001) := (blk_cell BK366.out 1).trans rfl
             have hfz53_0 := blk_frozen BK366.out 0
             have hfz53_1 := blk_frozen BK366.out 1
             obtain ⟨Ao54, co54, eo54⟩ := Kd.R_slice HO_367001.out
             subst eo54
             go_upto_region 26 with (first | ((with_reducible refine gate_callee (f := 21) rfl ?_); refine goesL_ (some 110) rfl rfl Try.func21 (by kernel_rfl) rfl #[.agg #[.int .i64 x367000_1, .slice Ao54 x367001_1.length co54], .int .i64 a1] rfl (by (try simp only [List.map_toArray, List.map_cons, List.map_nil]); first | done | rfl | (simp only [List.length_drop, List.length_take]; rfl)) ?_; (with_reducible refine (cat_Without.calls k4 x367000_1 _ _ x367001_1 a1 t376 t377 t380 _ ?side1 ?side2 A51.out).mono ?_); (case side1 => repeat (first | exact (Kd.R_reads' HO_367001.out).2.2 | (with_reducible refine Kd.C_alloc ?_ _) | (with_reducible refine Kd.C_drewN ?_ _) | (with_reducible refine Kd.C_drew ?_))); (case side2 => exact (Kd.R_reads' HO_367001.out).2.1); rintro e w55 ⟨v378, rfl, ho0, hb⟩; refine ⟨_, rfl, ?_⟩; have n0_ := Aside0.mk (Kd.R_elder' (rk HO_367001.out) (Kd.R_base ho0) hb); have n1_ := Aside0.mk (Kd.R_lower (Kd.R_new' ho0 (Kd.R_lt (rk HO_367001.out))) (below_size (by repeat (first | (with_reducible first | exact HB.out | apply below_alloc | apply pw_below_drewN | apply below_drew1 | refine below_set ?_ GE366.out) | exact HB.out)))); have n2_ := Aside0.mk (blk_below (g := gb366) (bk BK366.out) hb); have n3_ := Aside0.mk (below_step (by repeat (first | (with_reducible first | exact HB.out | apply below_alloc | apply pw_below_drewN | apply below_drew1 | refine below_set ?_ GE366.out) | exact HB.out)) hb); clear HO_367001; clear BK366; clear HB; have HO_367001 := n0_; have HO379 := n1_; have BK366 := n2_; have HB := n3_; clear n0_ n1_ n2_ n3_; (try clear hb); (try clear hb2); (try clear hk); (try clear hi); (try clear ho0)) | ((with_reducible refine gate_dst (N := 15) rfl ?_); (try (refine gate_guard (by rfl) ?_; dsimp only)); refine box_event ?hg (N := 15) ?hd (cs := #[.int .i64 0, .slice none 0 0]) (t := 24) ?hr ?_; (case hd => rfl); (case hg => rfl); (case hr => first | (go_simp; done) | (go_simp; rfl)); intro gb381 hg w56 hbox hb; have n0_ := Aside0.mk (Kd.R_below (rk HO_367001.out) hb); have n1_ := Aside0.mk (Kd.R_below (rk HO379.out) hb); have n2_ := Aside0.mk (blk_below (g := gb366) (bk BK366.out) hb); have n3_ := Aside0.mk (below_step (by repeat (first | (with_reducible first | exact HB.out | apply below_alloc | apply pw_below_drewN | apply below_drew1 | refine below_set ?_ GE366.out) | exact HB.out)) hb); have n4_ := Aside0.mk (hbox); have n5_ := Aside0.mk ((by rw [hg]; exact (below_size (by repeat (first | (with_reducible first | exact HB.out | apply below_alloc | apply pw_below_drewN | apply below_drew1 | refine below_set ?_ GE366.out) | exact HB.out))) : w.heap.size ≤ gb381)); have n6_ := Aside0.mk ((by rw [hg]; exact (below_size (by repeat (first | (with_reducible first | exact HB.out | apply below_alloc | apply pw_below_drewN | apply below_drew1 | refine below_set ?_ GE366.out) | exact HB.out))) : w.heap.size ≤ gb381)); have n7_ := Aside0.mk ((by rw [hg]; exact Nat.ne_of_lt (blk_lt (g := gb366) (bk BK366.out)) : gb366 ≠ gb381)); have n8_ := Aside0.mk ((by rw [hg]; exact Nat.ne_of_gt (blk_lt (g := gb366) (bk BK366.out)) : gb381 ≠ gb366)); clear HO_367001; clear HO379; clear BK366; clear HB; have HO_367001 := n0_; have HO379 := n1_; have BK366 := n2_; have HB := n3_; have BK381 := n4_; have GW381 := n5_; have GE381 := n6_; have NB366_381 := n7_; have NB381_366 := n8_; clear n0_ n1_ n2_ n3_ n4_ n5_ n6_ n7_ n8_; clear hb hbox hg; have hnb57 := NB381_366.out; have hnc57 := NB366_381.out; have hcz58_0 : w56.cell? ⟨gb381, 0, none⟩ = some (.int .i64 0) := (blk_cell BK381.out 0).trans rfl; have hcz58_1 : w56.cell? ⟨gb381, 1, none⟩ = some (.slice none 0 0) := (blk_cell BK381.out 1).trans rfl; have hfz58_0 := blk_frozen BK381.out 0; have hfz58_1 := blk_frozen BK381.out 1; obtain ⟨Ao59, co59, eo59⟩ := Kd.R_slice HO379.out; subst eo59))
             (try simp only [Act.put, List.setIfInBounds_toArray, List.set_cons_zero, List.set_cons_succ])
             go_cut [119] (fun v119 wc => ∃ (kq : Nat) (x119_51 : Bool), v119 = .bool x119_51 ∧ Aside0 (astrolabelaw23_CatGrows.j6 kq a1 true ji36 t380 x119_51 x367000_1 x367001_1 t376 t377 = some true) ∧ Aside0 (kq ≤ k4) ∧ Aside0 (Kd.R k46 46 wc w.heap.size (fun k_ => some k_ ≠ ((.slice Ao59 t377.length co59) : Value).ownBlock) (.slice Ao54 x367001_1.length co54) x367001_1) ∧ Aside0 (Kd.R k46 46 wc w.heap.size (fun k_ => some k_ ≠ ((.slice Ao54 x367001_1.length co54) : Value).ownBlock) (.slice Ao59 t377.length co59) t377) ∧ Aside0 (wc.heap[gb366]? = some (.cells #[.int .i64 x367000_1, (.slice Ao54 x367001_1.length co54)] 24 (0, 0))) ∧ Aside0 (wc.heap[gb381]? = some (.cells #[.int .i64 t376, (.slice Ao59 t377.length co59)] 24 (0, 0))) ∧ Aside0 (Below w.heap.size w wc))
             case first =>
              have H := HC52.out
              clear HC52
              by_cases c60 : a1 < 1
              ·rw [if_pos c60] at H
               have c60b0 : decide (a1 < 1) = true := decide_eq_true c60
               clear c60
               (first | rw [c60b0] | (simp only [i64_w, i32_w]; rw [c60b0]) | skip)
               have H' := Aside0.mk H
               clear H
               go_wp2
               go_meet
               case rel => exact ⟨_, (true), (by first | rfl | (simp; done) | (simp [*]; done)), H', ⟨by have := HK1.out; have := HJ7.out; have := HJ36.out; have := HK4.out; first | omega | exact Nat.le_refl _⟩, ⟨by (with_reducible repeat (first | apply Kd.R_alloc | apply Kd.R_drewN | apply Kd.R_drew)); exact Kd.R_mono (Kd.R_far (p := ⟨gb381, 1, none⟩) (Kd.R_far (p := ⟨gb381, 0, none⟩) (Kd.R_types HO_367001.out BK381.out (by decide)) (fun _ hk => hk.2) (.int .i64 t376)) (fun _ hk => hk.2) (.slice Ao59 t377.length co59)) (fun _ hk => hk.1.2)⟩, ⟨by (with_reducible repeat (first | apply Kd.R_alloc | apply Kd.R_drewN | apply Kd.R_drew)); exact Kd.R_mono (Kd.R_far (p := ⟨gb381, 1, none⟩) (Kd.R_far (p := ⟨gb381, 0, none⟩) (Kd.R_types HO379.out BK381.out (by decide)) (fun _ hk => hk.2) (.int .i64 t376)) (fun _ hk => hk.2) (.slice Ao59 t377.length co59)) (fun _ hk => hk.1.2)⟩, ⟨by (with_reducible repeat (first | refine blk_drewN ?_ _ | refine blk_drew ?_ | refine blk_alloc ?_ _)); refine blk_far ?_ NB366_381.out _; (with_reducible repeat (first | refine blk_drewN ?_ _ | refine blk_drew ?_ | refine blk_alloc ?_ _)); refine blk_far ?_ NB366_381.out _; exact bk BK366.out⟩, ⟨by (with_reducible repeat (first | refine blk_drewN ?_ _ | refine blk_drew ?_ | refine blk_alloc ?_ _)); refine blk_put (cs := #[.int .i64 t376, .slice none 0 0]) ?_ 1 _ rfl; (with_reducible repeat (first | refine blk_drewN ?_ _ | refine blk_drew ?_ | refine blk_alloc ?_ _)); refine blk_put (cs := #[.int .i64 0, .slice none 0 0]) ?_ 0 _ rfl; exact bk BK381.out⟩, ⟨by repeat (first | (with_reducible first | exact HB.out | apply below_alloc | apply pw_below_drewN | apply below_drew1 | refine below_set ?_ GE366.out | refine below_set ?_ GE381.out) | exact HB.out)⟩⟩
              ·rw [if_neg c60] at H
               have c60b0 : decide (a1 < 1) = false := decide_eq_false c60
               clear c60
               (first | rw [c60b0] | (simp only [i64_w, i32_w]; rw [c60b0]) | skip)
               have H' := Aside0.mk H
               clear H
               go_wp2
               go_meet
               case rel => exact ⟨_, (decide (a1 ≥ ji36)), (by first | rfl | (simp; done) | (simp only [← hji36] <;> (first | rfl | simp)) | (simp [*]; done)), H', ⟨by have := HK1.out; have := HJ7.out; have := HJ36.out; have := HK4.out; first | omega | exact Nat.le_refl _⟩, ⟨by (with_reducible repeat (first | apply Kd.R_alloc | apply Kd.R_drewN | apply Kd.R_drew)); exact Kd.R_mono (Kd.R_far (p := ⟨gb381, 1, none⟩) (Kd.R_far (p := ⟨gb381, 0, none⟩) (Kd.R_types HO_367001.out BK381.out (by decide)) (fun _ hk => hk.2) (.int .i64 t376)) (fun _ hk => hk.2) (.slice Ao59 t377.length co59)) (fun _ hk => hk.1.2)⟩, ⟨by (with_reducible repeat (first | apply Kd.R_alloc | apply Kd.R_drewN | apply Kd.R_drew)); exact Kd.R_mono (Kd.R_far (p := ⟨gb381, 1, none⟩) (Kd.R_far (p := ⟨gb381, 0, none⟩) (Kd.R_types HO379.out BK381.out (by decide)) (fun _ hk => hk.2) (.int .i64 t376)) (fun _ hk => hk.2) (.slice Ao59 t377.length co59)) (fun _ hk => hk.1.2)⟩, ⟨by (with_reducible repeat (first | refine blk_drewN ?_ _ | refine blk_drew ?_ | refine blk_alloc ?_ _)); refine blk_far ?_ NB366_381.out _; (with_reducible repeat (first | refine blk_drewN ?_ _ | refine blk_drew ?_ | refine blk_alloc ?_ _)); refine blk_far ?_ NB366_381.out _; exact bk BK366.out⟩, ⟨by (with_reducible repeat (first | refine blk_drewN ?_ _ | refine blk_drew ?_ | refine blk_alloc ?_ _)); refine blk_put (cs := #[.int .i64 t376, .slice none 0 0]) ?_ 1 _ rfl; (with_reducible repeat (first | refine blk_drewN ?_ _ | refine blk_drew ?_ | refine blk_alloc ?_ _)); refine blk_put (cs := #[.int .i64 0, .slice none 0 0]) ?_ 0 _ rfl; exact bk BK381.out⟩, ⟨by repeat (first | (with_reducible first | exact HB.out | apply below_alloc | apply pw_below_drewN | apply below_drew1 | refine below_set ?_ GE366.out | refine below_set ?_ GE381.out) | exact HB.out)⟩⟩
             case rest =>
              clear HC52
              try clear c1
              try clear c2
              try clear p2
              try clear c3
              try clear p3
              try clear q3
              try clear hx3
              try clear c4
              try clear c5
              try clear c6
              try clear p6
              try clear c7
              try clear c9
              try clear c9b0
              try clear c10
              try clear c11
              try clear c11b0
              try clear c12
              try clear c12b0
              try clear c14
              try clear c14b0
              try clear c17
              try clear c19
              try clear c21
              try clear c24
              try clear c24b0
              try clear c24b1
              try clear c24b2
              try clear c25
              try clear c26
              try clear c26b0
              try clear c26b1
              try clear c27
              try clear c29
              try clear c31
              try clear c32
              try clear c33
              try clear p36
              try clear q36
              try clear hx36
              try clear c38
              try clear c38b0
              try clear c38b1
              try clear c43
              try clear c44
              try clear c44b0
              try clear c46
              try clear c46b0
              try clear c46b1
              try clear c47
              try clear c57
              try clear c60
              try clear c60b0
              try clear hcz17_0
              try clear hcz17_1
              try clear hcz22_0
              try clear hcz22_1
              try clear hcz28_0
              try clear hcz28_1
              try clear hcz30_0
              try clear hcz30_1
              try clear hcz34_0
              try clear hcz34_1
              try clear hcz35_0
              try clear hcz35_1
              try clear hcz39_0
              try clear hcz39_1
              try clear hcz41_0
              try clear hcz41_1
              try clear hcz48_0
              try clear hcz48_1
              try clear hcz53_0
              try clear hcz53_1
              try clear hcz58_0
              try clear hcz58_1
              try clear hcz7_0
              try clear hcz7_1
              try clear hfz17_0
              try clear hfz17_1
              try clear hfz22_0
              try clear hfz22_1
              try clear hfz28_0
              try clear hfz28_1
              try clear hfz30_0
              try clear hfz30_1
              try clear hfz34_0
              try clear hfz34_1
              try clear hfz35_0
              try clear hfz35_1
              try clear hfz39_0
              try clear hfz39_1
              try clear hfz41_0
              try clear hfz41_1
              try clear hfz48_0
              try clear hfz48_1
              try clear hfz53_0
              try clear hfz53_1
              try clear hfz58_0
              try clear hfz58_1
              try clear hfz7_0
              try clear hfz7_1
              try clear hx367_0
              try clear p2
              try clear p3
              try clear p36
              try clear p367
              try clear p6
              try clear q3
              try clear q36
              try clear q367
              obtain ⟨kq, x119_51, rfl, HA, HJ51, HO_367001, HO_382001, BK366, BK381, HB⟩ := hcut
              cases kq with
              | zero => exact absurd HA.out (by simp [astrolabelaw23_CatGrows.j6])
              | succ kj51 =>
               have H := HA.out
               clear HA
               simp only [astrolabelaw23_CatGrows.j6] at H
               by_cases c61 : x119_51 = true
               ·subst c61
                have H1 : (if true = true then (some (!t380)) else (some false)) = some true := by rw [if_pos rfl] at H; exact H
                clear H
                have H := H1
                clear H1
                have H1 : (some (!t380)) = some true := by first | (rw [if_pos rfl] at H; exact H) | (rw [if_pos trivial] at H; exact H)
                clear H
                have H := H1
                clear H1
                have hret_ := Option.some.inj H
                go_wp2
                go_ret
                exact ⟨by first | rfl | (simp [errW_none, errW_some] <;> rfl) | (simp only [← hji36]; first | rfl | (simp [errW_none, errW_some] <;> rfl)) | (simp [*, errW_none, errW_some] <;> rfl), by repeat (first | (with_reducible first | exact HB.out | apply below_alloc | apply pw_below_drewN | apply below_drew1 | refine below_set ?_ GE366.out | refine below_set ?_ GE381.out) | exact HB.out)⟩
               ·replace c61 := Bool.eq_false_iff.mpr c61
                subst c61
                have H1 : ((cat_Find.f t376 t377 a1).bind fun bt382 => ((cat_Find.f t376 t377 0).bind fun bt384 => (if true = true then (if t380 = true then (if bt382.2 = true then (some false) else (if bt384.2 = true then (if bt384.1 = (wrap64 (ji36 - 2)) then (if 0 ≤ bt384.1 then (if bt384.1 < (t377.length : Int) then (if 0 ≤ (wrap64 (ji36 - 1)) then (if (wrap64 (ji36 - 1)) < (x367001_1.length : Int) then (if (((rd_T46 t377 bt384.1).f0) == ((rd_T46 x367001_1 (wrap64 (ji36 - 1))).f0) && (((rd_T46 t377 bt384.1).f1) == ((rd_T46 x367001_1 (wrap64 (ji36 - 1))).f1))) = true then (if t376 = x367000_1 then ((cat_Right.f kj51 t376 t377).bind fun t388 => (some t388)) else (some false)) else (some false)) else (none)) else (none)) else (none)) else (none)) else (some false)) else (some false))) else (some false)) else (some false)))) = some true := by rw [if_neg (show ¬ (false = true) by decide)] at H; exact H
                clear H
                have H := H1
                clear H1
                replace H := Option.bind_eq_some_iff.mp H
                obtain ⟨⟨t382, t383⟩, A620, H⟩ := H
                replace H : ((cat_Find.f t376 t377 0).bind fun bt384 => (if true = true then (if t380 = true then (if t383 = true then (some false) else (if bt384.2 = true then (if bt384.1 = (wrap64 (ji36 - 2)) then (if 0 ≤ bt384.1 then (if bt384.1 < (t377.length : Int) then (if 0 ≤ (wrap64 (ji36 - 1)) then (if (wrap64 (ji36 - 1)) < (x367001_1.length : Int) then (if (((rd_T46 t377 bt384.1).f0) == ((rd_T46 x367001_1 (wrap64 (ji36 - 1))).f0) && (((rd_T46 t377 bt384.1).f1) == ((rd_T46 x367001_1 (wrap64 (ji36 - 1))).f1))) = true then (if t376 = x367000_1 then ((cat_Right.f kj51 t376 t377).bind fun t388 => (some t388)) else (some false)) else (some false)) else (none)) else (none)) else (none)) else (none)) else (some false)) else (some false))) else (some false)) else (some false))) = some true := H
                have A62 := Aside0.mk A620
                clear A620
                replace H := Option.bind_eq_some_iff.mp H
                obtain ⟨⟨t384, t385⟩, A630, H⟩ := H
                replace H : (if true = true then (if t380 = true then (if t383 = true then (some false) else (if t385 = true then (if t384 = (wrap64 (ji36 - 2)) then (if 0 ≤ t384 then (if t384 < (t377.length : Int) then (if 0 ≤ (wrap64 (ji36 - 1)) then (if (wrap64 (ji36 - 1)) < (x367001_1.length : Int) then (if (((rd_T46 t377 t384).f0) == ((rd_T46 x367001_1 (wrap64 (ji36 - 1))).f0) && (((rd_T46 t377 t384).f1) == ((rd_T46 x367001_1 (wrap64 (ji36 - 1))).f1))) = true then (if t376 = x367000_1 then ((cat_Right.f kj51 t376 t377).bind fun t388 => (some t388)) else (some false)) else (some false)) else (none)) else (none)) else (none)) else (none)) else (some false)) else (some false))) else (some false)) else (some false)) = some true := H
                have A63 := Aside0.mk A630
                clear A630
                have H1 : (if t380 = true then (if t383 = true then (some false) else (if t385 = true then (if t384 = (wrap64 (ji36 - 2)) then (if 0 ≤ t384 then (if t384 < (t377.length : Int) then (if 0 ≤ (wrap64 (ji36 - 1)) then (if (wrap64 (ji36 - 1)) < (x367001_1.length : Int) then (if (((rd_T46 t377 t384).f0) == ((rd_T46 x367001_1 (wrap64 (ji36 - 1))).f0) && (((rd_T46 t377 t384).f1) == ((rd_T46 x367001_1 (wrap64 (ji36 - 1))).f1))) = true then (if t376 = x367000_1 then ((cat_Right.f kj51 t376 t377).bind fun t388 => (some t388)) else (some false)) else (some false)) else (none)) else (none)) else (none)) else (none)) else (some false)) else (some false))) else (some false)) = some true := by first | (rw [if_pos rfl] at H; exact H) | (rw [if_pos trivial] at H; exact H)
                clear H
                have H := H1
                clear H1
                by_cases c64 : t380 = true
                ·subst c64
                 have H1 : (if t383 = true then (some false) else (if t385 = true then (if t384 = (wrap64 (ji36 - 2)) then (if 0 ≤ t384 then (if t384 < (t377.length : Int) then (if 0 ≤ (wrap64 (ji36 - 1)) then (if (wrap64 (ji36 - 1)) < (x367001_1.length : Int) then (if (((rd_T46 t377 t384).f0) == ((rd_T46 x367001_1 (wrap64 (ji36 - 1))).f0) && (((rd_T46 t377 t384).f1) == ((rd_T46 x367001_1 (wrap64 (ji36 - 1))).f1))) = true then (if t376 = x367000_1 then ((cat_Right.f kj51 t376 t377).bind fun t388 => (some t388)) else (some false)) else (some false)) else (none)) else (none)) else (none)) else (none)) else (some false)) else (some false))) = some true := by rw [if_pos rfl] at H; exact H
                 clear H
                 have H := H1
                 clear H1
                 by_cases c65 : t383 = true
                 ·subst c65
                  have H1 : (some false) = some true := by rw [if_pos rfl] at H; exact H
                  clear H
                  have H := H1
                  clear H1
                  exact absurd H (by simp)
                 ·replace c65 := Bool.eq_false_iff.mpr c65
                  subst c65
                  have H1 : (if t385 = true then (if t384 = (wrap64 (ji36 - 2)) then (if 0 ≤ t384 then (if t384 < (t377.length : Int) then (if 0 ≤ (wrap64 (ji36 - 1)) then (if (wrap64 (ji36 - 1)) < (x367001_1.length : Int) then (if (((rd_T46 t377 t384).f0) == ((rd_T46 x367001_1 (wrap64 (ji36 - 1))).f0) && (((rd_T46 t377 t384).f1) == ((rd_T46 x367001_1 (wrap64 (ji36 - 1))).f1))) = true then (if t376 = x367000_1 then ((cat_Right.f kj51 t376 t377).bind fun t388 => (some t388)) else (some false)) else (some false)) else (none)) else (none)) else (none)) else (none)) else (some false)) else (some false)) = some true := by rw [if_neg (show ¬ (false = true) by decide)] at H; exact H
                  clear H
                  have H := H1
                  clear H1
                  by_cases c66 : t385 = true
                  ·subst c66
                   have H1 : (if t384 = (wrap64 (ji36 - 2)) then (if 0 ≤ t384 then (if t384 < (t377.length : Int) then (if 0 ≤ (wrap64 (ji36 - 1)) then (if (wrap64 (ji36 - 1)) < (x367001_1.length : Int) then (if (((rd_T46 t377 t384).f0) == ((rd_T46 x367001_1 (wrap64 (ji36 - 1))).f0) && (((rd_T46 t377 t384).f1) == ((rd_T46 x367001_1 (wrap64 (ji36 - 1))).f1))) = true then (if t376 = x367000_1 then ((cat_Right.f kj51 t376 t377).bind fun t388 => (some t388)) else (some false)) else (some false)) else (none)) else (none)) else (none)) else (none)) else (some false)) = some true := by rw [if_pos rfl] at H; exact H
                   clear H
                   have H := H1
                   clear H1
                   by_cases c67 : t384 = (wrap64 (ji36 - 2))
                   ·rw [if_pos c67] at H
                    have c67b0 : (t384 == (wrap64 (ji36 - 2))) = true := beq_iff_eq.mpr c67
                    have c67b1 : (t384 != (wrap64 (ji36 - 2))) = false := bne_eq_false_iff_eq.mpr c67
                    clear c67
                    by_cases c68 : 0 ≤ t384
                    ·rw [if_pos c68] at H
                     have c68b0 : decide (0 ≤ t384) = true := decide_eq_true c68
                     clear c68
                     by_cases c69 : t384 < (t377.length : Int)
                     ·rw [if_pos c69] at H
                      have c69b0 : decide (t384 < (t377.length : Int)) = true := decide_eq_true c69
                      clear c69
                      obtain ⟨ji70, hji70⟩ : ∃ j_ : Int, (wrap64 (ji36 - 1)) = j_ := ⟨_, rfl⟩
                      replace H : (if 0 ≤ (ji70) then (if (ji70) < (x367001_1.length : Int) then (if (((rd_T46 t377 t384).f0) == ((rd_T46 x367001_1 (ji70)).f0) && (((rd_T46 t377 t384).f1) == ((rd_T46 x367001_1 (ji70)).f1))) = true then (if t376 = x367000_1 then ((cat_Right.f kj51 t376 t377).bind fun t388 => (some t388)) else (some false)) else (some false)) else (none)) else (none)) = some true := by first | (rw [hji70] at H; exact H) | (simp only [hji70] at H ⊢; exact H)
                      (try rw [hji70] at A62)
                      (try rw [hji70] at A63)
                      have hji70w : (IntKind.i64.wrap (ji36 - 1)) = ji70 := (i64_w _).trans hji70
                      by_cases c71 : 0 ≤ (ji70)
                      ·rw [if_pos c71] at H
                       have c71b0 : decide (0 ≤ (ji70)) = true := decide_eq_true c71
                       clear c71
                       by_cases c72 : (ji70) < (x367001_1.length : Int)
                       ·rw [if_pos c72] at H
                        have c72b0 : decide ((ji70) < (x367001_1.length : Int)) = true := decide_eq_true c72
                        clear c72
                        by_cases c73 : (((rd_T46 t377 t384).f0) == ((rd_T46 x367001_1 (ji70)).f0) && (((rd_T46 t377 t384).f1) == ((rd_T46 x367001_1 (ji70)).f1))) = true
                        ·rw [if_pos c73] at H
                         have c73b0 : (((rd_T46 t377 t384).f0) == ((rd_T46 x367001_1 (ji70)).f0) && (((rd_T46 t377 t384).f1) == ((rd_T46 x367001_1 (ji70)).f1))) = true := c73
                         (try (have c73b1 : decide (((rd_T46 t377 t384).f0) = ((rd_T46 x367001_1 (ji70)).f0) && (((rd_T46 t377 t384).f1) == ((rd_T46 x367001_1 (ji70)).f1))) = true := by simpa using c73))
                         (try (have c73b2 : (((rd_T46 t377 t384).f0) == ((rd_T46 x367001_1 (ji70)).f0) && (((rd_T46 t377 t384).f1) == ((rd_T46 x367001_1 (ji70)).f1))) = true := by simpa using c73))
                         clear c73
                         by_cases c74 : t376 = x367000_1
                         ·rw [if_pos c74] at H
                          have c74b0 : (t376 == x367000_1) = true := beq_iff_eq.mpr c74
                          have c74b1 : (t376 != x367000_1) = false := bne_eq_false_iff_eq.mpr c74
                          clear c74
                          replace H := Option.bind_eq_some_iff.mp H
                          obtain ⟨t388, A750, H⟩ := H
                          replace H : (some t388) = some true := H
                          have A75 := Aside0.mk A750
                          clear A750
                          have hret_ := Option.some.inj H
                          have hnb76 := NB381_366.out
                          have hnc76 := NB366_381.out
                          have hcz77_0 : wc.cell? ⟨gb381, 0, none⟩ = some (.int .i64 t376) := (blk_cell BK381.out 0).trans rfl
                          have hcz77_1 : wc.cell? ⟨gb381, 1, none⟩ = some (.slice Ao59 t377.length co59) := (blk_cell BK381.out 1).trans rfl
                          have hfz77_0 := blk_frozen BK381.out 0
                          have hfz77_1 := blk_frozen BK381.out 1
                          try go_wp2_with (first | ((with_reducible refine gate_callee (f := 17) rfl ?_); refine goesL_ (some 128) rfl rfl Try.func17 (by kernel_rfl) rfl #[.agg #[.int .i64 t376, .slice Ao59 t377.length co59], .int .i64 a1] rfl (by (try simp only [List.map_toArray, List.map_cons, List.map_nil]); first | done | rfl | (simp only [List.length_drop, List.length_take]; rfl)) ?_; (with_reducible refine (cat_Find.calls t376 _ _ t377 a1 t382 false _ ?side1 ?side2 A62.out).mono ?_); (case side1 => repeat (first | exact (Kd.R_reads' HO_382001.out).2.2 | (with_reducible refine Kd.C_alloc ?_ _) | (with_reducible refine Kd.C_drewN ?_ _) | (with_reducible refine Kd.C_drew ?_))); (case side2 => exact (Kd.R_reads' HO_382001.out).2.1); rintro e w78 ⟨rfl, hb⟩; refine ⟨_, rfl, ?_⟩; have n0_ := Aside0.mk (Kd.R_below (rk HO_367001.out) hb); have n1_ := Aside0.mk (Kd.R_below (rk HO_382001.out) hb); have n2_ := Aside0.mk (blk_below (g := gb366) (bk BK366.out) hb); have n3_ := Aside0.mk (blk_below (g := gb381) (bk BK381.out) hb); have n4_ := Aside0.mk (below_step (by repeat (first | (with_reducible first | exact HB.out | apply below_alloc | apply pw_below_drewN | apply below_drew1 | refine below_set ?_ GE366.out | refine below_set ?_ GE381.out) | exact HB.out)) hb); clear HO_367001; clear HO_382001; clear BK366; clear BK381; clear HB; have HO_367001 := n0_; have HO_382001 := n1_; have BK366 := n2_; have BK381 := n3_; have HB := n4_; clear n0_ n1_ n2_ n3_ n4_; (try clear hb); (try clear hb2); (try clear hk); (try clear hi); have hcz79_0 : w78.cell? ⟨gb381, 0, none⟩ = some (.int .i64 t376) := (blk_cell BK381.out 0).trans rfl; have hcz79_1 : w78.cell? ⟨gb381, 1, none⟩ = some (.slice Ao59 t377.length co59) := (blk_cell BK381.out 1).trans rfl; have hfz79_0 := blk_frozen BK381.out 0; have hfz79_1 := blk_frozen BK381.out 1) | ((with_reducible refine gate_callee (f := 17) rfl ?_); refine goesL_ (some 133) rfl rfl Try.func17 (by kernel_rfl) rfl #[.agg #[.int .i64 t376, .slice Ao59 t377.length co59], .int .i64 0] rfl (by (try simp only [List.map_toArray, List.map_cons, List.map_nil]); first | done | rfl | (simp only [List.length_drop, List.length_take]; rfl)) ?_; (with_reducible refine (cat_Find.calls t376 _ _ t377 0 t384 true _ ?side1 ?side2 A63.out).mono ?_); (case side1 => repeat (first | exact (Kd.R_reads' HO_382001.out).2.2 | (with_reducible refine Kd.C_alloc ?_ _) | (with_reducible refine Kd.C_drewN ?_ _) | (with_reducible refine Kd.C_drew ?_))); (case side2 => exact (Kd.R_reads' HO_382001.out).2.1); rintro e w80 ⟨rfl, hb⟩; refine ⟨_, rfl, ?_⟩; have n0_ := Aside0.mk (Kd.R_below (rk HO_367001.out) hb); have n1_ := Aside0.mk (Kd.R_below (rk HO_382001.out) hb); have n2_ := Aside0.mk (blk_below (g := gb366) (bk BK366.out) hb); have n3_ := Aside0.mk (blk_below (g := gb381) (bk BK381.out) hb); have n4_ := Aside0.mk (below_step (by repeat (first | (with_reducible first | exact HB.out | apply below_alloc | apply pw_below_drewN | apply below_drew1 | refine below_set ?_ GE366.out | refine below_set ?_ GE381.out) | exact HB.out)) hb); clear HO_367001; clear HO_382001; clear BK366; clear BK381; clear HB; have HO_367001 := n0_; have HO_382001 := n1_; have BK366 := n2_; have BK381 := n3_; have HB := n4_; clear n0_ n1_ n2_ n3_ n4_; (try clear hb); (try clear hb2); (try clear hk); (try clear hi)))
                          have n0_ := Aside0.mk (Kd.R_drew HO_367001.out)
                          have n1_ := Aside0.mk (Kd.R_drew HO_382001.out)
                          have n2_ := Aside0.mk (blk_drew BK366.out)
                          have n3_ := Aside0.mk (blk_drew BK381.out)
                          have n4_ := Aside0.mk (below_drew1 HB.out)
                          clear HO_367001
                          clear HO_382001
                          clear BK366
                          clear BK381
                          clear HB
                          have HO_367001 := n0_
                          have HO_382001 := n1_
                          have BK366 := n2_
                          have BK381 := n3_
                          have HB := n4_
                          clear n0_ n1_ n2_ n3_ n4_
                          have p386 : 0 ≤ (t384 : Int) := of_decide_eq_true (by first | (with_reducible assumption) | assumption)
                          have q386 : t384 < (t377.length : Int) := of_decide_eq_true (by first | (with_reducible assumption) | assumption)
                          obtain ⟨ad386, e386, hx386_0, hx386_1⟩ := at_T46 (Kd.R_reads' HO_382001.out).2.2 t384 p386 q386
                          cases e386
                          replace p386 := eq_true p386
                          replace q386 := eq_true q386
                          have p387 : 0 ≤ ((ji70) : Int) := of_decide_eq_true (by first | (with_reducible assumption) | assumption)
                          have q387 : (ji70) < (x367001_1.length : Int) := of_decide_eq_true (by first | (with_reducible assumption) | assumption)
                          obtain ⟨ad387, e387, hx387_0, hx387_1⟩ := at_T46 (Kd.R_reads' HO_367001.out).2.2 (ji70) p387 q387
                          cases e387
                          replace p387 := eq_true p387
                          replace q387 := eq_true q387
                          refine start_ (n := 43) (S := fun w' => w'.cell? ⟨gb381, 0, none⟩ = some (.int .i64 t376) ∧ w'.cell? ⟨gb381, 1, none⟩ = some (.slice (some ad386) t377.length co59) ∧ w'.cell? ⟨gb366, 0, none⟩ = some (.int .i64 x367000_1) ∧ w'.cell? ⟨gb366, 1, none⟩ = some (.slice (some ad387) x367001_1.length co54) ∧ w'.cell? (ad386.add ((t384).toNat * 2)) = some (.int .i64 ((rd_T46 t377 t384).f0)) ∧ w'.cell? ⟨(ad386.add ((t384).toNat * 2)).block, (ad386.add ((t384).toNat * 2)).off + 1, none⟩ = some (.int .i64 ((rd_T46 t377 t384).f1)) ∧ w'.cell? (ad387.add (((ji70)).toNat * 2)) = some (.int .i64 ((rd_T46 x367001_1 (ji70)).f0)) ∧ w'.cell? ⟨(ad387.add (((ji70)).toNat * 2)).block, (ad387.add (((ji70)).toNat * 2)).off + 1, none⟩ = some (.int .i64 ((rd_T46 x367001_1 (ji70)).f1))) (ds := []) #[false, false, false, false, false, false, false, false, false, false, false, false, false, false, false, false, false, false, false, false, false, false, false, false, false, false, false, false, false, false, false, false, false, false, false, false, false, false, false, false, false, false, false] (by kernel_rfl) rfl rfl ⟨(blk_cell BK381.out 0).trans rfl, (blk_cell BK381.out 1).trans rfl, (blk_cell BK366.out 0).trans rfl, (blk_cell BK366.out 1).trans rfl, hx386_0, hx386_1, hx387_0, hx387_1⟩ (fun hHeld => ?_); refine with_tabW astrolabelaw23_CatGrows.tab30 astrolabelaw23_CatGrows.bits30 (fun HT_ HW_ => ?_)
                          generalize w80.drew = w81 at HO_367001 HO_382001 BK366 BK381 HB hx386_0 hx386_1 hx387_0 hx387_1 hHeld ⊢
                          refine pure_ (i := 0) (N := some 136) (v := ?_) (a' := ?_) #[true, false, false, false, false, false, false, false, false, false, false, false, false, false, false, false, false, false, false, false, false, false, false, false, false, false, false, false, false, false, false, false, false, false, false, false, false, false, false, false, false, false, false] rfl rfl (any_of HT_.out (by kernel_rfl)) (fun _ _ _ h => h) (Or.inl ⟨by rfl, ?_⟩) ?_ ?_
                          rotate_left
                          ·intro w'
                           go_simp
                           with_reducible rfl
                          rotate_left
                          ·simp only [Act.put, List.setIfInBounds_toArray, List.set_cons_zero, List.set_cons_succ, i64_w, i32_w]
                           rfl
                          refine pure_ (i := 1) (N := some 137) (v := ?_) (a' := ?_) #[true, true, false, false, false, false, false, false, false, false, false, false, false, false, false, false, false, false, false, false, false, false, false, false, false, false, false, false, false, false, false, false, false, false, false, false, false, false, false, false, false, false, false] rfl rfl (any_of HT_.out (by kernel_rfl)) (fun _ _ _ h => h) (Or.inl ⟨by rfl, ?_⟩) ?_ ?_
                          rotate_left
                          ·intro w'
                           go_simp
                           with_reducible rfl
                          rotate_left
                          ·simp only [Act.put, List.setIfInBounds_toArray, List.set_cons_zero, List.set_cons_succ, i64_w, i32_w]
                           rfl
                          refine pure_ (i := 2) (N := some 138) (v := ?_) (a' := ?_) #[true, true, true, false, false, false, false, false, false, false, false, false, false, false, false, false, false, false, false, false, false, false, false, false, false, false, false, false, false, false, false, false, false, false, false, false, false, false, false, false, false, false, false] rfl rfl (any_of HT_.out (by kernel_rfl)) (fun _ _ _ h => h) (Or.inl ⟨by rfl, ?_⟩) ?_ ?_
                          rotate_left
                          ·intro w'
                           go_simp
                           with_reducible rfl
                          rotate_left
                          ·simp only [Act.put, List.setIfInBounds_toArray, List.set_cons_zero, List.set_cons_succ, i64_w, i32_w]
                           rfl
                          refine pure_ (i := 3) (N := some 139) (v := ?_) (a' := ?_) #[true, true, true, true, false, false, false, false, false, false, false, false, false, false, false, false, false, false, false, false, false, false, false, false, false, false, false, false, false, false, false, false, false, false, false, false, false, false, false, false, false, false, false] rfl rfl (any_of HT_.out (by kernel_rfl)) (fun _ _ _ h => h) (Or.inl ⟨by rfl, ?_⟩) ?_ ?_
                          rotate_left
                          ·intro w'
                           go_simp
                           with_reducible rfl
                          rotate_left
                          ·simp only [Act.put, List.setIfInBounds_toArray, List.set_cons_zero, List.set_cons_succ, i64_w, i32_w]
                           rfl
                          refine pure_ (i := 4) (N := some 140) (v := ?_) (a' := ?_) #[true, true, true, true, true, false, false, false, false, false, false, false, false, false, false, false, false, false, false, false, false, false, false, false, false, false, false, false, false, false, false, false, false, false, false, false, false, false, false, false, false, false, false] rfl rfl (any_of HT_.out (by kernel_rfl)) (fun _ _ _ h => h) (Or.inl ⟨by rfl, ?_⟩) ?_ ?_
                          rotate_left
                          ·intro w'
                           go_simp
                           with_reducible rfl
                          rotate_left
                          ·simp only [Act.put, List.setIfInBounds_toArray, List.set_cons_zero, List.set_cons_succ, i64_w, i32_w]
                           rfl
                          refine pure_ (i := 5) (N := some 141) (v := ?_) (a' := ?_) #[true, true, true, true, true, true, false, false, false, false, false, false, false, false, false, false, false, false, false, false, false, false, false, false, false, false, false, false, false, false, false, false, false, false, false, false, false, false, false, false, false, false, false] rfl rfl (any_of HT_.out (by kernel_rfl)) (fun _ _ _ h => h) (Or.inl ⟨by rfl, ?_⟩) ?_ ?_
                          rotate_left
                          ·intro w'
                           go_simp
                           with_reducible rfl
                          rotate_left
                          ·simp only [Act.put, List.setIfInBounds_toArray, List.set_cons_zero, List.set_cons_succ, i64_w, i32_w]
                           rfl
                          refine pure_ (i := 6) (N := some 142) (v := ?_) (a' := ?_) #[true, true, true, true, true, true, true, false, false, false, false, false, false, false, false, false, false, false, false, false, false, false, false, false, false, false, false, false, false, false, false, false, false, false, false, false, false, false, false, false, false, false, false] rfl rfl (any_of HT_.out (by kernel_rfl)) (fun _ _ _ h => h) (Or.inl ⟨by rfl, ?_⟩) ?_ ?_
                          rotate_left
                          ·intro w'
                           go_simp
                           with_reducible rfl
                          rotate_left
                          ·simp only [Act.put, List.setIfInBounds_toArray, List.set_cons_zero, List.set_cons_succ, i64_w, i32_w]
                           rfl
                          refine pure_ (i := 7) (N := some 143) (v := ?_) (a' := ?_) #[true, true, true, true, true, true, true, true, false, false, false, false, false, false, false, false, false, false, false, false, false, false, false, false, false, false, false, false, false, false, false, false, false, false, false, false, false, false, false, false, false, false, false] rfl rfl (any_of HT_.out (by kernel_rfl)) (fun _ _ _ h => h) (Or.inl ⟨by rfl, ?_⟩) ?_ ?_
                          rotate_left
                          ·intro w'
                           go_simp
                           with_reducible rfl
                          rotate_left
                          ·simp only [Act.put, List.setIfInBounds_toArray, List.set_cons_zero, List.set_cons_succ, i64_w, i32_w]
                           rfl
                          refine pure_ (i := 8) (N := some 144) (v := ?_) (a' := ?_) #[true, true, true, true, true, true, true, true, true, false, false, false, false, false, false, false, false, false, false, false, false, false, false, false, false, false, false, false, false, false, false, false, false, false, false, false, false, false, false, false, false, false, false] rfl rfl (any_of HT_.out (by kernel_rfl)) (fun _ _ _ h => h) (Or.inl ⟨by rfl, ?_⟩) ?_ ?_
                          rotate_left
                          ·intro w'
                           go_simp
                           with_reducible rfl
                          rotate_left
                          ·simp only [Act.put, List.setIfInBounds_toArray, List.set_cons_zero, List.set_cons_succ, i64_w, i32_w]
                           rfl
                          refine pure_ (i := 9) (N := some 145) (v := ?_) (a' := ?_) #[true, true, true, true, true, true, true, true, true, true, false, false, false, false, false, false, false, false, false, false, false, false, false, false, false, false, false, false, false, false, false, false, false, false, false, false, false, false, false, false, false, false, false] rfl rfl (any_of HT_.out (by kernel_rfl)) (fun _ _ _ h => h) (Or.inl ⟨by rfl, ?_⟩) ?_ ?_
                          rotate_left
                          ·intro w'
                           go_simp
                           with_reducible rfl
                          rotate_left
                          ·simp only [Act.put, List.setIfInBounds_toArray, List.set_cons_zero, List.set_cons_succ, i64_w, i32_w]
                           rfl
                          refine pure_ (i := 10) (N := some 146) (v := ?_) (a' := ?_) #[true, true, true, true, true, true, true, true, true, true, true, false, false, false, false, false, false, false, false, false, false, false, false, false, false, false, false, false, false, false, false, false, false, false, false, false, false, false, false, false, false, false, false] rfl rfl (any_of HT_.out (by kernel_rfl)) (fun _ _ _ h => h) (Or.inl ⟨by rfl, ?_⟩) ?_ ?_
                          rotate_left
                          ·intro w'
                           go_simp
                           with_reducible rfl
                          rotate_left
                          ·simp only [Act.put, List.setIfInBounds_toArray, List.set_cons_zero, List.set_cons_succ, i64_w, i32_w]
                           rfl
                          refine pure_ (i := 11) (N := some 147) (v := ?_) (a' := ?_) #[true, true, true, true, true, true, true, true, true, true, true, true, false, false, false, false, false, false, false, false, false, false, false, false, false, false, false, false, false, false, false, false, false, false, false, false, false, false, false, false, false, false, false] rfl rfl (any_of HT_.out (by kernel_rfl)) (fun _ _ _ h => h) (Or.inl ⟨by rfl, ?_⟩) ?_ ?_
                          rotate_left
                          ·intro w'
                           go_simp
                           with_reducible rfl
                          rotate_left
                          ·simp only [Act.put, List.setIfInBounds_toArray, List.set_cons_zero, List.set_cons_succ, i64_w, i32_w]
                           rfl
                          refine pure_ (i := 12) (N := some 148) (v := ?_) (a' := ?_) #[true, true, true, true, true, true, true, true, true, true, true, true, true, false, false, false, false, false, false, false, false, false, false, false, false, false, false, false, false, false, false, false, false, false, false, false, false, false, false, false, false, false, false] rfl rfl (any_of HT_.out (by kernel_rfl)) (fun _ _ _ h => h) (Or.inl ⟨by rfl, ?_⟩) ?_ ?_
                          rotate_left
                          ·intro w'
                           go_simp
                           with_reducible rfl
                          rotate_left
                          ·simp only [Act.put, List.setIfInBounds_toArray, List.set_cons_zero, List.set_cons_succ, i64_w, i32_w]
                           rfl
                          refine pure_ (i := 13) (N := some 149) (v := ?_) (a' := ?_) #[true, true, true, true, true, true, true, true, true, true, true, true, true, true, false, false, false, false, false, false, false, false, false, false, false, false, false, false, false, false, false, false, false, false, false, false, false, false, false, false, false, false, false] rfl rfl (any_of HT_.out (by kernel_rfl)) (fun _ _ _ h => h) (Or.inl ⟨by rfl, ?_⟩) ?_ ?_
                          rotate_left
                          ·intro w'
                           go_simp
                           with_reducible rfl
                          rotate_left
                          ·simp only [Act.put, List.setIfInBounds_toArray, List.set_cons_zero, List.set_cons_succ, i64_w, i32_w]
                           rfl
                          refine pure_ (i := 14) (N := some 150) (v := ?_) (a' := ?_) #[true, true, true, true, true, true, true, true, true, true, true, true, true, true, true, false, false, false, false, false, false, false, false, false, false, false, false, false, false, false, false, false, false, false, false, false, false, false, false, false, false, false, false] rfl rfl (any_of HT_.out (by kernel_rfl)) (fun _ _ _ h => h) (Or.inl ⟨by rfl, ?_⟩) ?_ ?_
                          rotate_left
                          ·intro w'
                           go_simp
                           with_reducible rfl
                          rotate_left
                          ·simp only [Act.put, List.setIfInBounds_toArray, List.set_cons_zero, List.set_cons_succ, i64_w, i32_w]
                           rfl
                          refine pure_ (i := 15) (N := some 151) (v := ?_) (a' := ?_) #[true, true, true, true, true, true, true, true, true, true, true, true, true, true, true, true, false, false, false, false, false, false, false, false, false, false, false, false, false, false, false, false, false, false, false, false, false, false, false, false, false, false, false] rfl rfl (any_of HT_.out (by kernel_rfl)) (fun _ _ _ h => h) (Or.inl ⟨by rfl, ?_⟩) ?_ ?_
                          rotate_left
                          ·intro w'
                           go_simp
                           with_reducible rfl
                          rotate_left
                          ·simp only [Act.put, List.setIfInBounds_toArray, List.set_cons_zero, List.set_cons_succ, i64_w, i32_w]
                           rfl
                          refine pure_ (i := 16) (N := some 152) (v := ?_) (a' := ?_) #[true, true, true, true, true, true, true, true, true, true, true, true, true, true, true, true, true, false, false, false, false, false, false, false, false, false, false, false, false, false, false, false, false, false, false, false, false, false, false, false, false, false, false] rfl rfl (any_of HT_.out (by kernel_rfl)) (fun _ _ _ h => h) (Or.inl ⟨by rfl, ?_⟩) ?_ ?_
                          rotate_left
                          ·intro w'
                           go_simp
                           with_reducible rfl
                          rotate_left
                          ·simp only [Act.put, List.setIfInBounds_toArray, List.set_cons_zero, List.set_cons_succ, i64_w, i32_w]
                           rfl
                          refine pure_ (i := 17) (N := some 153) (v := ?_) (a' := ?_) #[true, true, true, true, true, true, true, true, true, true, true, true, true, true, true, true, true, true, false, false, false, false, false, false, false, false, false, false, false, false, false, false, false, false, false, false, false, false, false, false, false, false, false] rfl rfl (any_of HT_.out (by kernel_rfl)) (fun _ _ _ h => h) (Or.inl ⟨by rfl, ?_⟩) ?_ ?_
                          rotate_left
                          ·intro w'
                           go_simp
                           with_reducible rfl
                          rotate_left
                          ·simp only [Act.put, List.setIfInBounds_toArray, List.set_cons_zero, List.set_cons_succ, i64_w, i32_w]
                           rfl
                          refine pure_ (i := 18) (N := some 154) (v := ?_) (a' := ?_) #[true, true, true, true, true, true, true, true, true, true, true, true, true, true, true, true, true, true, true, false, false, false, false, false, false, false, false, false, false, false, false, false, false, false, false, false, false, false, false, false, false, false, false] rfl rfl (any_of HT_.out (by kernel_rfl)) (fun _ _ _ h => h) (Or.inl ⟨by rfl, ?_⟩) ?_ ?_
                          rotate_left
                          ·intro w'
                           go_simp
                           with_reducible rfl
                          rotate_left
                          ·simp only [Act.put, List.setIfInBounds_toArray, List.set_cons_zero, List.set_cons_succ, i64_w, i32_w]
                           rfl
                          refine pure_ (i := 20) (N := some 156) (v := ?_) (a' := ?_) #[true, true, true, true, true, true, true, true, true, true, true, true, true, true, true, true, true, true, true, false, true, false, false, false, false, false, false, false, false, false, false, false, false, false, false, false, false, false, false, false, false, false, false] rfl rfl (any_of HT_.out (by kernel_rfl)) (fun _ _ _ h => h) (Or.inl ⟨by rfl, ?_⟩) ?_ ?_
                          rotate_left
                          ·intro w'
                           go_simp
                           with_reducible rfl
                          rotate_left
                          ·simp only [Act.put, List.setIfInBounds_toArray, List.set_cons_zero, List.set_cons_succ, i64_w, i32_w]
                           rfl
                          refine pure_ (i := 23) (N := some 159) (v := ?_) (a' := ?_) #[true, true, true, true, true, true, true, true, true, true, true, true, true, true, true, true, true, true, true, false, true, false, false, true, false, false, false, false, false, false, false, false, false, false, false, false, false, false, false, false, false, false, false] rfl rfl (any_of HT_.out (by kernel_rfl)) (fun _ _ _ h => h) (Or.inl ⟨by rfl, ?_⟩) ?_ ?_
                          rotate_left
                          ·intro w'
                           go_simp
                           with_reducible rfl
                          rotate_left
                          ·simp only [Act.put, List.setIfInBounds_toArray, List.set_cons_zero, List.set_cons_succ, i64_w, i32_w]
                           rfl
                          refine pure_ (i := 25) (N := some 161) (v := ?_) (a' := ?_) #[true, true, true, true, true, true, true, true, true, true, true, true, true, true, true, true, true, true, true, false, true, false, false, true, false, true, false, false, false, false, false, false, false, false, false, false, false, false, false, false, false, false, false] rfl rfl (any_of HT_.out (by kernel_rfl)) (fun _ _ _ h => h) (Or.inl ⟨by rfl, ?_⟩) ?_ ?_
                          rotate_left
                          ·intro w'
                           go_simp
                           with_reducible rfl
                          rotate_left
                          ·simp only [Act.put, List.setIfInBounds_toArray, List.set_cons_zero, List.set_cons_succ, i64_w, i32_w]
                           rfl
                          refine pure_ (i := 26) (N := some 162) (v := ?_) (a' := ?_) #[true, true, true, true, true, true, true, true, true, true, true, true, true, true, true, true, true, true, true, false, true, false, false, true, false, true, true, false, false, false, false, false, false, false, false, false, false, false, false, false, false, false, false] rfl rfl (any_of HT_.out (by kernel_rfl)) (fun _ _ _ h => h) (Or.inl ⟨by rfl, ?_⟩) ?_ ?_
                          rotate_left
                          ·intro w'
                           go_simp
                           with_reducible rfl
                          rotate_left
                          ·simp only [Act.put, List.setIfInBounds_toArray, List.set_cons_zero, List.set_cons_succ, i64_w, i32_w]
                           rfl
                          refine take_ (i := 19) (N := some 155) (v := ?_) (a' := ?_) #[true, true, true, true, true, true, true, true, true, true, true, true, true, true, true, true, true, true, true, true, true, false, false, true, false, true, true, false, false, false, false, false, false, false, false, false, false, false, false, false, false, false, false] rfl rfl (take_ofW HT_.out HW_.out (by kernel_rfl)) (fun _ _ _ h => h) (Or.inl ⟨by rfl, ?_⟩) hHeld ?_ ?_
                          rotate_left
                          ·rintro w' ⟨s0, s1, s2, s3, s4, s5, s6, s7⟩
                           go_simp
                           with_reducible rfl
                          rotate_left
                          ·simp only [Act.put, List.setIfInBounds_toArray, List.set_cons_zero, List.set_cons_succ, i64_w, i32_w]
                           rfl
                          refine pure_ (i := 21) (N := some 157) (v := ?_) (a' := ?_) #[true, true, true, true, true, true, true, true, true, true, true, true, true, true, true, true, true, true, true, true, true, true, false, true, false, true, true, false, false, false, false, false, false, false, false, false, false, false, false, false, false, false, false] rfl rfl (any_of HT_.out (by kernel_rfl)) (fun _ _ _ h => h) (Or.inl ⟨by rfl, ?_⟩) ?_ ?_
                          rotate_left
                          ·intro w'
                           go_simp
                           with_reducible rfl
                          rotate_left
                          ·simp only [Act.put, List.setIfInBounds_toArray, List.set_cons_zero, List.set_cons_succ, i64_w, i32_w]
                           rfl
                          refine take_ (i := 22) (N := some 158) (v := ?_) (a' := ?_) #[true, true, true, true, true, true, true, true, true, true, true, true, true, true, true, true, true, true, true, true, true, true, true, true, false, true, true, false, false, false, false, false, false, false, false, false, false, false, false, false, false, false, false] rfl rfl (take_ofW HT_.out HW_.out (by kernel_rfl)) (fun _ _ _ h => h) (Or.inl ⟨by rfl, ?_⟩) hHeld ?_ ?_
                          rotate_left
                          ·rintro w' ⟨s0, s1, s2, s3, s4, s5, s6, s7⟩
                           go_simp
                           with_reducible rfl
                          rotate_left
                          ·simp only [Act.put, List.setIfInBounds_toArray, List.set_cons_zero, List.set_cons_succ, i64_w, i32_w]
                           rfl
                          refine take_ (i := 24) (N := some 160) (v := ?_) (a' := ?_) #[true, true, true, true, true, true, true, true, true, true, true, true, true, true, true, true, true, true, true, true, true, true, true, true, true, true, true, false, false, false, false, false, false, false, false, false, false, false, false, false, false, false, false] rfl rfl (take_ofW HT_.out HW_.out (by kernel_rfl)) (fun _ _ _ h => h) (Or.inl ⟨by rfl, ?_⟩) hHeld ?_ ?_
                          rotate_left
                          ·rintro w' ⟨s0, s1, s2, s3, s4, s5, s6, s7⟩
                           go_simp
                           with_reducible rfl
                          rotate_left
                          ·simp only [Act.put, List.setIfInBounds_toArray, List.set_cons_zero, List.set_cons_succ, i64_w, i32_w]
                           rfl
                          refine pure_ (i := 27) (N := some 163) (v := ?_) (a' := ?_) #[true, true, true, true, true, true, true, true, true, true, true, true, true, true, true, true, true, true, true, true, true, true, true, true, true, true, true, true, false, false, false, false, false, false, false, false, false, false, false, false, false, false, false] rfl rfl (any_of HT_.out (by kernel_rfl)) (fun _ _ _ h => h) (Or.inl ⟨by rfl, ?_⟩) ?_ ?_
                          rotate_left
                          ·intro w'
                           go_simp
                           with_reducible rfl
                          rotate_left
                          ·simp only [Act.put, List.setIfInBounds_toArray, List.set_cons_zero, List.set_cons_succ, i64_w, i32_w]
                           rfl
                          refine take_ (i := 28) (N := some 164) (v := ?_) (a' := ?_) #[true, true, true, true, true, true, true, true, true, true, true, true, true, true, true, true, true, true, true, true, true, true, true, true, true, true, true, true, true, false, false, false, false, false, false, false, false, false, false, false, false, false, false] rfl rfl (take_ofW HT_.out HW_.out (by kernel_rfl)) (fun _ _ _ h => h) (Or.inl ⟨by rfl, ?_⟩) hHeld ?_ ?_
                          rotate_left
                          ·rintro w' ⟨s0, s1, s2, s3, s4, s5, s6, s7⟩
                           go_simp
                           with_reducible rfl
                          rotate_left
                          ·simp only [Act.put, List.setIfInBounds_toArray, List.set_cons_zero, List.set_cons_succ, i64_w, i32_w]
                           rfl
                          refine pure_ (i := 29) (N := some 165) (v := ?_) (a' := ?_) #[true, true, true, true, true, true, true, true, true, true, true, true, true, true, true, true, true, true, true, true, true, true, true, true, true, true, true, true, true, true, false, false, false, false, false, false, false, false, false, false, false, false, false] rfl rfl (any_of HT_.out (by kernel_rfl)) (fun _ _ _ h => h) (Or.inl ⟨by rfl, ?_⟩) ?_ ?_
                          rotate_left
                          ·intro w'
                           go_simp
                           with_reducible rfl
                          rotate_left
                          ·simp only [Act.put, List.setIfInBounds_toArray, List.set_cons_zero, List.set_cons_succ, i64_w, i32_w]
                           rfl
                          refine pure_ (i := 30) (N := some 166) (v := ?_) (a' := ?_) #[true, true, true, true, true, true, true, true, true, true, true, true, true, true, true, true, true, true, true, true, true, true, true, true, true, true, true, true, true, true, true, false, false, false, false, false, false, false, false, false, false, false, false] rfl rfl (any_of HT_.out (by kernel_rfl)) (fun _ _ _ h => h) (Or.inl ⟨by rfl, ?_⟩) ?_ ?_
                          rotate_left
                          ·intro w'
                           go_simp
                           with_reducible rfl
                          rotate_left
                          ·simp only [Act.put, List.setIfInBounds_toArray, List.set_cons_zero, List.set_cons_succ, i64_w, i32_w]
                           rfl
                          refine pure_ (i := 31) (N := some 167) (v := ?_) (a' := ?_) #[true, true, true, true, true, true, true, true, true, true, true, true, true, true, true, true, true, true, true, true, true, true, true, true, true, true, true, true, true, true, true, true, false, false, false, false, false, false, false, false, false, false, false] rfl rfl (any_of HT_.out (by kernel_rfl)) (fun _ _ _ h => h) (Or.inl ⟨by rfl, ?_⟩) ?_ ?_
                          rotate_left
                          ·intro w'
                           go_simp
                           with_reducible rfl
                          rotate_left
                          ·simp only [Act.put, List.setIfInBounds_toArray, List.set_cons_zero, List.set_cons_succ, i64_w, i32_w]
                           rfl
                          refine pure_ (i := 32) (N := some 168) (v := ?_) (a' := ?_) #[true, true, true, true, true, true, true, true, true, true, true, true, true, true, true, true, true, true, true, true, true, true, true, true, true, true, true, true, true, true, true, true, true, false, false, false, false, false, false, false, false, false, false] rfl rfl (any_of HT_.out (by kernel_rfl)) (fun _ _ _ h => h) (Or.inl ⟨by rfl, ?_⟩) ?_ ?_
                          rotate_left
                          ·intro w'
                           go_simp
                           with_reducible rfl
                          rotate_left
                          ·simp only [Act.put, List.setIfInBounds_toArray, List.set_cons_zero, List.set_cons_succ, i64_w, i32_w]
                           rfl
                          refine pure_ (i := 34) (N := some 170) (v := ?_) (a' := ?_) #[true, true, true, true, true, true, true, true, true, true, true, true, true, true, true, true, true, true, true, true, true, true, true, true, true, true, true, true, true, true, true, true, true, false, true, false, false, false, false, false, false, false, false] rfl rfl (any_of HT_.out (by kernel_rfl)) (fun _ _ _ h => h) (Or.inl ⟨by rfl, ?_⟩) ?_ ?_
                          rotate_left
                          ·intro w'
                           go_simp
                           with_reducible rfl
                          rotate_left
                          ·simp only [Act.put, List.setIfInBounds_toArray, List.set_cons_zero, List.set_cons_succ, i64_w, i32_w]
                           rfl
                          refine take_ (i := 33) (N := some 169) (v := ?_) (a' := ?_) #[true, true, true, true, true, true, true, true, true, true, true, true, true, true, true, true, true, true, true, true, true, true, true, true, true, true, true, true, true, true, true, true, true, true, true, false, false, false, false, false, false, false, false] rfl rfl (take_ofW HT_.out HW_.out (by kernel_rfl)) (fun _ _ _ h => h) (Or.inl ⟨by rfl, ?_⟩) hHeld ?_ ?_
                          rotate_left
                          ·rintro w' ⟨s0, s1, s2, s3, s4, s5, s6, s7⟩
                           go_simp
                           with_reducible rfl
                          rotate_left
                          ·simp only [Act.put, List.setIfInBounds_toArray, List.set_cons_zero, List.set_cons_succ, i64_w, i32_w]
                           rfl
                          refine take_ (i := 35) (N := some 171) (v := ?_) (a' := ?_) #[true, true, true, true, true, true, true, true, true, true, true, true, true, true, true, true, true, true, true, true, true, true, true, true, true, true, true, true, true, true, true, true, true, true, true, true, false, false, false, false, false, false, false] rfl rfl (take_ofW HT_.out HW_.out (by kernel_rfl)) (fun _ _ _ h => h) (Or.inl ⟨by rfl, ?_⟩) hHeld ?_ ?_
                          rotate_left
                          ·rintro w' ⟨s0, s1, s2, s3, s4, s5, s6, s7⟩
                           go_simp
                           with_reducible rfl
                          rotate_left
                          ·simp only [Act.put, List.setIfInBounds_toArray, List.set_cons_zero, List.set_cons_succ, i64_w, i32_w]
                           rfl
                          refine pure_ (i := 36) (N := some 172) (v := ?_) (a' := ?_) #[true, true, true, true, true, true, true, true, true, true, true, true, true, true, true, true, true, true, true, true, true, true, true, true, true, true, true, true, true, true, true, true, true, true, true, true, true, false, false, false, false, false, false] rfl rfl (any_of HT_.out (by kernel_rfl)) (fun _ _ _ h => h) (Or.inl ⟨by rfl, ?_⟩) ?_ ?_
                          rotate_left
                          ·intro w'
                           go_simp
                           with_reducible rfl
                          rotate_left
                          ·simp only [Act.put, List.setIfInBounds_toArray, List.set_cons_zero, List.set_cons_succ, i64_w, i32_w]
                           rfl
                          refine pure_ (i := 37) (N := some 173) (v := ?_) (a' := ?_) #[true, true, true, true, true, true, true, true, true, true, true, true, true, true, true, true, true, true, true, true, true, true, true, true, true, true, true, true, true, true, true, true, true, true, true, true, true, true, false, false, false, false, false] rfl rfl (any_of HT_.out (by kernel_rfl)) (fun _ _ _ h => h) (Or.inl ⟨by rfl, ?_⟩) ?_ ?_
                          rotate_left
                          ·intro w'
                           go_simp
                           with_reducible rfl
                          rotate_left
                          ·simp only [Act.put, List.setIfInBounds_toArray, List.set_cons_zero, List.set_cons_succ, i64_w, i32_w]
                           rfl
                          refine pure_ (i := 38) (N := some 174) (v := ?_) (a' := ?_) #[true, true, true, true, true, true, true, true, true, true, true, true, true, true, true, true, true, true, true, true, true, true, true, true, true, true, true, true, true, true, true, true, true, true, true, true, true, true, true, false, false, false, false] rfl rfl (any_of HT_.out (by kernel_rfl)) (fun _ _ _ h => h) (Or.inl ⟨by rfl, ?_⟩) ?_ ?_
                          rotate_left
                          ·intro w'
                           go_simp
                           with_reducible rfl
                          rotate_left
                          ·simp only [Act.put, List.setIfInBounds_toArray, List.set_cons_zero, List.set_cons_succ, i64_w, i32_w]
                           rfl
                          refine take_ (i := 39) (N := some 175) (v := ?_) (a' := ?_) #[true, true, true, true, true, true, true, true, true, true, true, true, true, true, true, true, true, true, true, true, true, true, true, true, true, true, true, true, true, true, true, true, true, true, true, true, true, true, true, true, false, false, false] rfl rfl (take_ofW HT_.out HW_.out (by kernel_rfl)) (fun _ _ _ h => h) (Or.inl ⟨by rfl, ?_⟩) hHeld ?_ ?_
                          rotate_left
                          ·rintro w' ⟨s0, s1, s2, s3, s4, s5, s6, s7⟩
                           go_simp
                           with_reducible rfl
                          rotate_left
                          ·simp only [Act.put, List.setIfInBounds_toArray, List.set_cons_zero, List.set_cons_succ, i64_w, i32_w]
                           rfl
                          refine one_ (i := 40) (N := some 176) #[true, true, true, true, true, true, true, true, true, true, true, true, true, true, true, true, true, true, true, true, true, true, true, true, true, true, true, true, true, true, true, true, true, true, true, true, true, true, true, true, true, false, false] rfl rfl (one_of HT_.out (by kernel_rfl)) (by decide) (fun K hK => ?_)
                          refine goes_ Try.func15 (by kernel_rfl) rfl #[.agg #[.int .i64 t376, .slice (some ad386) t377.length co59]] (by rfl) rfl rfl (by (try simp only [List.map_toArray, List.map_cons, List.map_nil]); first | done | rfl | (simp only [List.length_drop, List.length_take]; rfl)) ?_
                          with_reducible refine (cat_Right.calls kj51 t376 _ _ t377 t388 _ ?side1 ?side2 A75.out).mono ?_
                          (case side1 => repeat (first | exact (Kd.R_reads' HO_382001.out).2.2 | (with_reducible refine Kd.C_alloc ?_ _) | (with_reducible refine Kd.C_drewN ?_ _) | (with_reducible refine Kd.C_drew ?_)))
                          (case side2 => exact (Kd.R_reads' HO_382001.out).2.1)
                          rintro e w82 ⟨rfl, hb⟩
                          have HS4_ := (hb.cell (World.block_lt_of_cell? _ _ (hHeld.2.2.2.2.1))).trans (hHeld.2.2.2.2.1)
                          have HS5_ := (hb.cell (World.block_lt_of_cell? _ _ (hHeld.2.2.2.2.2.1))).trans (hHeld.2.2.2.2.2.1)
                          have HS6_ := (hb.cell (World.block_lt_of_cell? _ _ (hHeld.2.2.2.2.2.2.1))).trans (hHeld.2.2.2.2.2.2.1)
                          have HS7_ := (hb.cell (World.block_lt_of_cell? _ _ (hHeld.2.2.2.2.2.2.2))).trans (hHeld.2.2.2.2.2.2.2)
                          refine ⟨_, rfl, ?_⟩
                          have n0_ := Aside0.mk (Kd.R_below (rk HO_367001.out) hb)
                          have n1_ := Aside0.mk (Kd.R_below (rk HO_382001.out) hb)
                          have n2_ := Aside0.mk (blk_below (g := gb366) (bk BK366.out) hb)
                          have n3_ := Aside0.mk (blk_below (g := gb381) (bk BK381.out) hb)
                          have n4_ := Aside0.mk (below_step (by repeat (first | (with_reducible first | exact HB.out | apply below_alloc | apply pw_below_drewN | apply below_drew1 | refine below_set ?_ GE366.out | refine below_set ?_ GE381.out) | exact HB.out)) hb)
                          clear HO_367001
                          clear HO_382001
                          clear BK366
                          clear BK381
                          clear HB
                          have HO_367001 := n0_
                          have HO_382001 := n1_
                          have BK366 := n2_
                          have BK381 := n3_
                          have HB := n4_
                          clear n0_ n1_ n2_ n3_ n4_
                          (try clear hb)
                          (try clear hb2)
                          (try clear hk)
                          (try clear hi)
                          refine hK.out _ _ ⟨(blk_cell BK381.out 0).trans rfl, (blk_cell BK381.out 1).trans rfl, (blk_cell BK366.out 0).trans rfl, (blk_cell BK366.out 1).trans rfl, HS4_, HS5_, HS6_, HS7_⟩ (fun hHeld => ?_)
                          clear hK K
                          refine norm_ (a' := ?_) ?_ ?_
                          rotate_left
                          ·show Act.put _ (some 176) _ = _
                           simp only [Act.put, List.setIfInBounds_toArray, List.set_cons_zero, List.set_cons_succ, i64_w, i32_w]
                           rfl
                          refine pure_ (i := 41) (N := some 177) (v := ?_) (a' := ?_) #[true, true, true, true, true, true, true, true, true, true, true, true, true, true, true, true, true, true, true, true, true, true, true, true, true, true, true, true, true, true, true, true, true, true, true, true, true, true, true, true, true, true, false] rfl rfl (any_of HT_.out (by kernel_rfl)) (fun _ _ _ h => h) (Or.inl ⟨by rfl, ?_⟩) ?_ ?_
                          rotate_left
                          ·intro w'
                           go_simp
                           with_reducible rfl
                          rotate_left
                          ·simp only [Act.put, List.setIfInBounds_toArray, List.set_cons_zero, List.set_cons_succ, i64_w, i32_w]
                           rfl
                          refine pure_ (i := 42) (N := some 4) (v := ?_) (a' := ?_) #[true, true, true, true, true, true, true, true, true, true, true, true, true, true, true, true, true, true, true, true, true, true, true, true, true, true, true, true, true, true, true, true, true, true, true, true, true, true, true, true, true, true, true] rfl rfl (any_of HT_.out (by kernel_rfl)) (fun _ _ _ h => h) (Or.inl ⟨by rfl, ?_⟩) ?_ ?_
                          rotate_left
                          ·intro w'
                           go_simp
                           with_reducible rfl
                          rotate_left
                          ·simp only [Act.put, List.setIfInBounds_toArray, List.set_cons_zero, List.set_cons_succ, i64_w, i32_w]
                           rfl
                          refine done_ (done_of HT_.out (by kernel_rfl)) ?_
                          try go_wp2
                          go_ret
                          exact ⟨by first | rfl | (simp [errW_none, errW_some] <;> rfl) | (simp only [← hji36, ← hji70]; first | rfl | (simp [errW_none, errW_some] <;> rfl)) | (simp [*, errW_none, errW_some] <;> rfl), by repeat (first | (with_reducible first | exact HB.out | apply below_alloc | apply pw_below_drewN | apply below_drew1 | refine below_set ?_ GE366.out | refine below_set ?_ GE381.out) | exact HB.out)⟩
                         ·rw [if_neg c74] at H
                          have c74b0 : (t376 == x367000_1) = false := beq_eq_false_iff_ne.mpr c74
                          have c74b1 : (t376 != x367000_1) = true := bne_iff_ne.mpr c74
                          exact absurd H (by simp)
                        ·rw [if_neg c73] at H
                         have c73b0 : (((rd_T46 t377 t384).f0) == ((rd_T46 x367001_1 (ji70)).f0) && (((rd_T46 t377 t384).f1) == ((rd_T46 x367001_1 (ji70)).f1))) = false := by simpa using c73
                         (try (have c73b1 : decide (((rd_T46 t377 t384).f0) = ((rd_T46 x367001_1 (ji70)).f0) && (((rd_T46 t377 t384).f1) == ((rd_T46 x367001_1 (ji70)).f1))) = false := by simpa using c73))
                         (try (have c73b2 : (((rd_T46 t377 t384).f0) == ((rd_T46 x367001_1 (ji70)).f0) && (((rd_T46 t377 t384).f1) == ((rd_T46 x367001_1 (ji70)).f1))) = false := by simpa using c73))
                         (try (have c73b3 : ¬ (((rd_T46 t377 t384).f0) = ((rd_T46 x367001_1 (ji70)).f0) && (((rd_T46 t377 t384).f1) == ((rd_T46 x367001_1 (ji70)).f1))) := by simpa using c73))
                         clear c73
                         exact absurd H (by simp)
                       ·rw [if_neg c72] at H
                        exact absurd H (by simp)
                      ·rw [if_neg c71] at H
                       exact absurd H (by simp)
                     ·rw [if_neg c69] at H
                      exact absurd H (by simp)
                    ·rw [if_neg c68] at H
                     exact absurd H (by simp)
                   ·rw [if_neg c67] at H
                    have c67b0 : (t384 == (wrap64 (ji36 - 2))) = false := beq_eq_false_iff_ne.mpr c67
                    have c67b1 : (t384 != (wrap64 (ji36 - 2))) = true := bne_iff_ne.mpr c67
                    exact absurd H (by simp)
                  ·replace c66 := Bool.eq_false_iff.mpr c66
                   subst c66
                   have H1 : (some false) = some true := by rw [if_neg (show ¬ (false = true) by decide)] at H; exact H
                   clear H
                   have H := H1
                   clear H1
                   exact absurd H (by simp)
                ·replace c64 := Bool.eq_false_iff.mpr c64
                 subst c64
                 have H1 : (some false) = some true := by rw [if_neg (show ¬ (false = true) by decide)] at H; exact H
                 clear H
                 have H := H1
                 clear H1
                 exact absurd H (by simp)
 ·replace c4 := Bool.eq_false_iff.mpr c4
  subst c4
  have H1 : (some false) = some true := by rw [if_neg (show ¬ (false = true) by decide)] at H; exact H
  clear H
  have H := H1
  clear H1
  exact absurd H (by simp)

end Go.Proofs.Ytmggeldhdemahaa.PCat
