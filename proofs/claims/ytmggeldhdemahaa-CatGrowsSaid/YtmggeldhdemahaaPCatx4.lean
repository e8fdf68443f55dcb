-- Laid by wip/gprint.py (a printer of our own over the kit's) out of the translation
import Derived.Test.YtmggeldhdemahaaPCatx0
import Derived.Test.YtmggeldhdemahaaPCatx3
namespace Go.Proofs.Ytmggeldhdemahaa.PCat
open Go.RowKit Go.Proofs.YtmggeldhdemahaaW.PrintWords Go.Proofs.YtmggeldhdemahaaW.PrintLast Go.Proofs.YtmggeldhdemahaaW.PrintMore
attribute [local go_sem] max2_int min2_int max_two min_two max_three min_three max_four min_four   -- for this text's walks alone
set_option linter.unusedVariables false
set_option linter.unusedSimpArgs false

/-! ### cat_Decode: function 12 -/
mutual
def cat_Decode.j0 : Nat → ByteArray → Bool → Option (Int × (List (S46)) × Int)
 | 0, _, _ => none
 | k + 1, x0, x15 => if x15 = true then (some (0, ([] : List (S46)), 2)) else (if 0 ≤ 4 then (if 4 ≤ (x0.size : Int) then ((cat_get.f k (x0.extract 0 4)).bind fun t125 => (cat_Decode.l0 k (x0.extract 4 x0.size) t125 ([] : List (S46)))) else (none)) else (none))
def cat_Decode.l0 : Nat → ByteArray → Int → List (S46) → Option (Int × (List (S46)) × Int)
 | 0, _, _, _ => none
 | k + 1, x5, x127000, x127001 => if x5.toList = ([] : List UInt8) then ((cat_Right.f k x127000 x127001).bind fun t127 => (if t127 = true then (some (x127000, x127001, 0)) else (some (0, ([] : List (S46)), 2)))) else (if 0 ≤ 4 then (if 4 ≤ (x5.size : Int) then ((cat_get.f k (x5.extract 0 4)).bind fun t128 => (if 4 ≤ 6 then (if 6 ≤ (x5.size : Int) then ((cat_get.f k (x5.extract 4 6)).bind fun t129 => (if x127001.length < 8796093022208 then (cat_Decode.l0 k (x5.extract 6 x5.size) x127000 (x127001 ++ [(⟨t128, t129⟩ : S46)])) else (none))) else (none)) else (none))) else (none)) else (none))
end
def cat_Decode.f (k : Nat) (a0 : ByteArray) : Option (Int × (List (S46)) × Int) := if (a0.size : Int) < 4 then (cat_Decode.j0 k a0 true) else (cat_Decode.j0 k a0 ((Int.tmod (wrap64 ((a0.size : Int) - 4)) 6) != 0))
theorem cat_Decode.mono_l : ∀ k, (∀ y0 y1, LeO (cat_Decode.j0 k y0 y1) (cat_Decode.j0 (k + 1) y0 y1)) ∧ (∀ y0 y1 y2, LeO (cat_Decode.l0 k y0 y1 y2) (cat_Decode.l0 (k + 1) y0 y1 y2))
 | 0 => ⟨fun _ _ r h => by simp [cat_Decode.j0] at h, fun _ _ _ r h => by simp [cat_Decode.l0] at h⟩
 | k + 1 => by
  obtain ⟨ih0, ih1⟩ := cat_Decode.mono_l k
  refine ⟨?_, ?_⟩
  ·intro y0 y1
   unfold cat_Decode.j0
   repeat' first
   | (with_reducible exact ih0 _ _)
   | (with_reducible exact ih1 _ _ _)
   | (with_reducible exact cat_Right.mono _ _ _)
   | (with_reducible exact cat_get.mono _ _)
   | (with_reducible exact LeO.refl _)
   | (with_reducible exact LeO.none _)
   | (with_reducible refine LeO.ite ?_ ?_)
   | (with_reducible refine LeO.bind ?_ (fun _ => ?_))
   | exact ih0 _ _
   | exact ih1 _ _ _
   | exact cat_Right.mono _ _ _
   | exact cat_get.mono _ _
   | exact LeO.none _
   | refine LeO.ite ?_ ?_
   | refine LeO.bind ?_ (fun _ => ?_)
  ·intro y0 y1 y2
   unfold cat_Decode.l0
   repeat' first
   | (with_reducible exact ih0 _ _)
   | (with_reducible exact ih1 _ _ _)
   | (with_reducible exact cat_Right.mono _ _ _)
   | (with_reducible exact cat_get.mono _ _)
   | (with_reducible exact LeO.refl _)
   | (with_reducible exact LeO.none _)
   | (with_reducible refine LeO.ite ?_ ?_)
   | (with_reducible refine LeO.bind ?_ (fun _ => ?_))
   | exact ih0 _ _
   | exact ih1 _ _ _
   | exact cat_Right.mono _ _ _
   | exact cat_get.mono _ _
   | exact LeO.none _
   | refine LeO.ite ?_ ?_
   | refine LeO.bind ?_ (fun _ => ?_)
theorem cat_Decode.mono : ∀ a0 k, LeO (cat_Decode.f k a0) (cat_Decode.f (k + 1) a0) := by
 intro a0 k
 obtain ⟨ih0, ih1⟩ := cat_Decode.mono_l k
 unfold cat_Decode.f
 repeat' first
   | (with_reducible exact ih0 _ _)
   | (with_reducible exact ih1 _ _ _)
   | (with_reducible exact cat_Right.mono _ _ _)
   | (with_reducible exact cat_get.mono _ _)
   | (with_reducible exact LeO.refl _)
   | (with_reducible exact LeO.none _)
   | (with_reducible refine LeO.ite ?_ ?_)
   | (with_reducible refine LeO.bind ?_ (fun _ => ?_))
   | exact ih0 _ _
   | exact ih1 _ _ _
   | exact cat_Right.mono _ _ _
   | exact cat_get.mono _ _
   | exact LeO.none _
   | refine LeO.ite ?_ ?_
   | refine LeO.bind ?_ (fun _ => ?_)
def cat_Decode.T7 : Bool × List (List Nat × List Nat) := (true, [([], []), ([0], [0]), ([], []), ([2], [2]), ([3], [3]), ([], []), ([5], [5]), ([6, 4], [6]), ([4, 7], [4, 7]), ([8], [8]), ([1, 9, 7], [1, 9]), ([0, 1, 2, 3, 4, 5, 6, 7, 8, 9, 10], []), ([11, 10, 10, 0, 1, 2, 3, 4, 5, 6, 7, 8, 9, 10], [10, 11])])
def cat_Decode.B7 : List Nat := [0, 1, 0, 4, 12, 0, 32, 124, 252, 508, 1023, 2047, 4095]
theorem cat_Decode.tab7 : rtab .any (opsOf Try.f12 7) = cat_Decode.T7 := by kernel_rfl
theorem cat_Decode.bits7 : waitsOk cat_Decode.T7.2 cat_Decode.B7 = true := by kernel_rfl
set_option maxHeartbeats 8000000 in
set_option maxRecDepth 100000 in
theorem cat_Decode.calls (k : Nat) (a0 : ByteArray) (r1 : Int) (r2 : List (S46)) (r3 : Int) (w : World) (h : cat_Decode.f k a0 = some (r1, r2, r3)) :
  Calls Try.prog 12 #[.string a0] w fun e w' => ∃ v1_ : Value, e = .returned (.tuple #[.agg #[.int .i64 r1, v1_], .int .i64 r3]) ∧ Kd.R k46 46 w' w.heap.size (fun _ => True) v1_ r2 ∧ Below w.heap.size w w' := by
 have hu24 := Try.underlying24
 have hu46 := Try.underlying46
 have HB := Aside0.mk (Below.refl w.heap.size w)
 have H : (if (a0.size : Int) < 4 then (cat_Decode.j0 k a0 true) else (cat_Decode.j0 k a0 ((Int.tmod (wrap64 ((a0.size : Int) - 4)) 6) != 0))) = some (r1, r2, r3) := h
 clear h
 have HC2 := Aside0.mk H
 clear H
 go_enter Try.func12, Try.ntmps12
 go_upto_region 1 with (first | ((with_reducible refine gate_dst (N := 2) rfl ?_); (try (refine gate_guard (by rfl) ?_; dsimp only)); refine box_event ?hg (N := 2) ?hd (cs := #[.int .i64 0, .slice none 0 0]) (t := 24) ?hr ?_; (case hd => rfl); (case hg => rfl); (case hr => first | (go_simp; done) | (go_simp; rfl)); intro gb124 hg w3 hbox hb; have n0_ := Aside0.mk (below_step (bel HB.out) hb); have n1_ := Aside0.mk (hbox); have n2_ := Aside0.mk ((by rw [hg]; exact (below_size (bel HB.out)) : w.heap.size ≤ gb124)); have n3_ := Aside0.mk ((by rw [hg]; exact (below_size (bel HB.out)) : w.heap.size ≤ gb124)); clear HB; have HB := n0_; have BK124 := n1_; have GW124 := n2_; have GE124 := n3_; clear n0_ n1_ n2_ n3_; clear hb hbox hg))
 (try simp only [Act.put, List.setIfInBounds_toArray, List.set_cons_zero, List.set_cons_succ])
 go_cut [15] (fun v15 wc => ∃ (kq : Nat) (x15_1 : Bool), v15 = .bool x15_1 ∧ Aside0 (cat_Decode.j0 kq a0 x15_1 = some (r1, r2, r3)) ∧ Aside0 (kq ≤ k) ∧ Aside0 (wc.heap[gb124]? = some (.cells #[.int .i64 0, (.slice none 0 0)] 24 (0, 0))) ∧ Aside0 (Below w.heap.size w wc))
 case first =>
  have H := HC2.out
  clear HC2
  by_cases c4 : (a0.size : Int) < 4
  ·rw [if_pos c4] at H
   have c4b0 : decide ((a0.size : Int) < 4) = true := decide_eq_true c4
   have c4b1 : decide (a0.size < 4) = true := decide_eq_true (by omega)
   clear c4
   (first | rw [c4b0] | (simp only [i64_w, i32_w]; rw [c4b0]) | skip)
   have H' := Aside0.mk H
   clear H
   go_wp2
   go_meet
   case rel => exact ⟨_, (true), (by first | rfl | (simp; done) | (simp [*]; done)), H', ⟨by first | omega | exact Nat.le_refl _⟩, ⟨by exact bk BK124.out⟩, ⟨by repeat (first | (with_reducible first | exact HB.out | apply below_alloc | apply pw_below_drewN | apply below_drew1 | refine below_set ?_ GE124.out) | exact HB.out)⟩⟩
  ·rw [if_neg c4] at H
   have c4b0 : decide ((a0.size : Int) < 4) = false := decide_eq_false c4
   have c4b1 : decide (a0.size < 4) = false := decide_eq_false (by omega)
   clear c4
   (first | rw [c4b0] | (simp only [i64_w, i32_w]; rw [c4b0]) | skip)
   have H' := Aside0.mk H
   clear H
   go_wp2
   go_meet
   case rel => exact ⟨_, (((Int.tmod (wrap64 ((a0.size : Int) - 4)) 6) != 0)), (by first | rfl | (simp; done) | (simp [*]; done)), H', ⟨by first | omega | exact Nat.le_refl _⟩, ⟨by exact bk BK124.out⟩, ⟨by repeat (first | (with_reducible first | exact HB.out | apply below_alloc | apply pw_below_drewN | apply below_drew1 | refine below_set ?_ GE124.out) | exact HB.out)⟩⟩
 case rest =>
  clear HC2
  try clear c1
  try clear p2
  try clear c4
  try clear c4b0
  try clear c4b1
  obtain ⟨kq, x15_1, rfl, HA, HJ1, BK124, HB⟩ := hcut
  cases kq with
  | zero => exact absurd HA.out (by simp [cat_Decode.j0])
  | succ kj1 =>
   have H := HA.out
   clear HA
   simp only [cat_Decode.j0] at H
   by_cases c5 : x15_1 = true
   ·subst c5
    have H1 : (some (0, ([] : List (S46)), 2)) = some (r1, r2, r3) := by rw [if_pos rfl] at H; exact H
    clear H
    have H := H1
    clear H1
    simp only [Option.some.injEq, Prod.mk.injEq] at H
    obtain ⟨rfl, rfl, rfl⟩ := H
    have hcz6_0 : wc.cell? ⟨gb124, 0, none⟩ = some (.int .i64 0) := (blk_cell BK124.out 0).trans rfl
    have hcz6_1 : wc.cell? ⟨gb124, 1, none⟩ = some (.slice none 0 0) := (blk_cell BK124.out 1).trans rfl
    have hfz6_0 := blk_frozen BK124.out 0
    have hfz6_1 := blk_frozen BK124.out 1
    go_wp2
    refine bodyPost_ret (results_ct rfl _ _ gb124 24 #[.int .i64 0, .slice none 0 0] (0, 0) _ rfl (by (with_reducible repeat (first | refine blk_drewN ?_ _ | refine blk_drew ?_ | refine blk_alloc ?_ _)); refine blk_put (cs := #[.int .i64 0, .slice none 0 0]) ?_ 1 _ rfl; (with_reducible repeat (first | refine blk_drewN ?_ _ | refine blk_drew ?_ | refine blk_alloc ?_ _)); refine blk_put (cs := #[.int .i64 0, .slice none 0 0]) ?_ 0 _ rfl; exact bk BK124.out) Try.underlying24 rfl (by kernel_rfl)) rfl ?_
    exact ⟨_, by first | rfl | (simp [errW_none, errW_some] <;> rfl) | (simp [*, errW_none, errW_some] <;> rfl), by first | exact Kd.R_nil _ _ _ _ _ | exact Kd.N_nil _ _ _ _ _ | exact Kd.V_nil _ _ _ _ _ | exact Kd.Q_nil _ _ _ _ _ | exact Kd.S_nil _ _ _ _ _, by repeat (first | (with_reducible first | exact HB.out | apply below_alloc | apply pw_below_drewN | apply below_drew1 | refine below_set ?_ GE124.out) | exact HB.out)⟩
   ·replace c5 := Bool.eq_false_iff.mpr c5
    subst c5
    have H1 : (if 0 ≤ 4 then (if 4 ≤ (a0.size : Int) then ((cat_get.f kj1 (a0.extract 0 4)).bind fun t125 => (cat_Decode.l0 kj1 (a0.extract 4 a0.size) t125 ([] : List (S46)))) else (none)) else (none)) = some (r1, r2, r3) := by rw [if_neg (show ¬ (false = true) by decide)] at H; exact H
    clear H
    have H := H1
    clear H1
    by_cases c7 : 0 ≤ 4
    ·rw [if_pos c7] at H
     have c7b0 := eq_true c7
     have c7b1 : decide (0 ≤ 4) = true := decide_eq_true c7
     clear c7
     by_cases c8 : 4 ≤ (a0.size : Int)
     ·rw [if_pos c8] at H
      have c8b0 := eq_true c8
      have c8b1 : decide (4 ≤ (a0.size : Int)) = true := decide_eq_true c8
      clear c8
      replace H := Option.bind_eq_some_iff.mp H
      obtain ⟨t125, A90, H⟩ := H
      replace H : (cat_Decode.l0 kj1 (a0.extract 4 a0.size) t125 ([] : List (S46))) = some (r1, r2, r3) := H
      have A9 := Aside0.mk A90
      clear A90
      have c10b0 := eq_true (of_decide_eq_true (by first | (with_reducible assumption) | assumption) : 4 ≤ (a0.size : Int))
      have H' := Aside0.mk H
      clear H
      go_wp2_with (first | ((with_reducible refine gate_callee (f := 25) rfl ?_); refine goesL_ (some 19) rfl rfl Try.func25 (by kernel_rfl) rfl #[.string (a0.extract 0 4)] rfl (by (try simp only [List.map_toArray, List.map_cons, List.map_nil]); first | done | rfl | (simp only [List.length_drop, List.length_take]; rfl)) ?_; (with_reducible refine (cat_get.calls kj1 (a0.extract 0 4) t125 _ A9.out).mono ?_); rintro e w' ⟨rfl, ⟨nd, rfl⟩⟩; refine ⟨_, rfl, ?_⟩; (try (rw [drewN_self wc]; generalize hq_ : World.drewN wc _ = wc; have n0_ : Aside0 (wc.heap[gb124]? = some (.cells #[.int .i64 0, .slice none 0 0] 24 (0, 0))) := ⟨by rw [← hq_]; exact (bk BK124.out)⟩; have n1_ : Aside0 (Below w.heap.size w wc) := ⟨by rw [← hq_]; exact (by repeat (first | (with_reducible first | exact HB.out | apply below_alloc | apply pw_below_drewN | apply below_drew1 | refine below_set ?_ GE124.out) | exact HB.out))⟩; clear BK124 HB hq_; have BK124 := n0_; have HB := n1_; clear n0_ n1_))) | ((with_reducible refine gate_dst (N := 4) rfl ?_); (try (refine gate_guard (by rfl) ?_; dsimp only)); refine box_event ?hg (N := 4) ?hd (cs := #[.int .i64 0, .slice none 0 0]) (t := 24) ?hr ?_; (case hd => rfl); (case hg => rfl); (case hr => first | (go_simp; done) | (go_simp; rfl)); intro gb126 hg w11 hbox hb; have n0_ := Aside0.mk (blk_below (g := gb124) (bk BK124.out) hb); have n1_ := Aside0.mk (below_step (by repeat (first | (with_reducible first | exact HB.out | apply below_alloc | apply pw_below_drewN | apply below_drew1 | refine below_set ?_ GE124.out) | exact HB.out)) hb); have n2_ := Aside0.mk (hbox); have n3_ := Aside0.mk ((by rw [hg]; exact (below_size (by repeat (first | (with_reducible first | exact HB.out | apply below_alloc | apply pw_below_drewN | apply below_drew1 | refine below_set ?_ GE124.out) | exact HB.out))) : w.heap.size ≤ gb126)); have n4_ := Aside0.mk ((by rw [hg]; exact (below_size (by repeat (first | (with_reducible first | exact HB.out | apply below_alloc | apply pw_below_drewN | apply below_drew1 | refine below_set ?_ GE124.out) | exact HB.out))) : w.heap.size ≤ gb126)); have n5_ := Aside0.mk ((by rw [hg]; exact Nat.ne_of_lt (blk_lt (g := gb124) (bk BK124.out)) : gb124 ≠ gb126)); have n6_ := Aside0.mk ((by rw [hg]; exact Nat.ne_of_gt (blk_lt (g := gb124) (bk BK124.out)) : gb126 ≠ gb124)); clear BK124; clear HB; have BK124 := n0_; have HB := n1_; have BK126 := n2_; have GW126 := n3_; have GE126 := n4_; have NB124_126 := n5_; have NB126_124 := n6_; clear n0_ n1_ n2_ n3_ n4_ n5_ n6_; clear hb hbox hg; have hnb12 := NB126_124.out; have hnc12 := NB124_126.out; have hcz13_0 : w11.cell? ⟨gb126, 0, none⟩ = some (.int .i64 0) := (blk_cell BK126.out 0).trans rfl; have hcz13_1 : w11.cell? ⟨gb126, 1, none⟩ = some (.slice none 0 0) := (blk_cell BK126.out 1).trans rfl; have hfz13_0 := blk_frozen BK126.out 0; have hfz13_1 := blk_frozen BK126.out 1))
      go_loopg [5] kj1 (fun kq v5 w' => ∃ (x5_2 : ByteArray) (x127001_2 : List (S46)) (u127001 : Value), v5 = .string x5_2 ∧ Aside0 (cat_Decode.l0 kq x5_2 t125 x127001_2 = some (r1, r2, r3)) ∧ Aside0 (kq ≤ kj1) ∧ Aside0 (Kd.R k46 46 w' w.heap.size (fun _ => True) u127001 x127001_2) ∧ Aside0 (w'.heap[gb124]? = some (.cells #[.int .i64 0, (.slice none 0 0)] 24 (0, 0))) ∧ Aside0 (w'.heap[gb126]? = some (.cells #[.int .i64 t125, u127001] 24 (0, 0))) ∧ Aside0 (Below w.heap.size w w'))
      case atStart => exact ⟨(a0.extract 4 a0.size), (([] : List (S46))), (.slice none 0 0), (by first | rfl | (simp; done) | (simp [*]; done)), H', ⟨Nat.le_refl _⟩, ⟨by first | exact Kd.R_nil _ _ _ _ _ | exact Kd.N_nil _ _ _ _ _ | exact Kd.V_nil _ _ _ _ _ | exact Kd.Q_nil _ _ _ _ _ | exact Kd.S_nil _ _ _ _ _⟩, ⟨by (with_reducible repeat (first | refine blk_drewN ?_ _ | refine blk_drew ?_ | refine blk_alloc ?_ _)); refine blk_far ?_ NB124_126.out _; (with_reducible repeat (first | refine blk_drewN ?_ _ | refine blk_drew ?_ | refine blk_alloc ?_ _)); refine blk_far ?_ NB124_126.out _; exact bk BK124.out⟩, ⟨by (with_reducible repeat (first | refine blk_drewN ?_ _ | refine blk_drew ?_ | refine blk_alloc ?_ _)); refine blk_put (cs := #[.int .i64 t125, .slice none 0 0]) ?_ 1 _ rfl; (with_reducible repeat (first | refine blk_drewN ?_ _ | refine blk_drew ?_ | refine blk_alloc ?_ _)); refine blk_put (cs := #[.int .i64 0, .slice none 0 0]) ?_ 0 _ rfl; exact bk BK126.out⟩, ⟨by repeat (first | (with_reducible first | exact HB.out | apply below_alloc | apply pw_below_drewN | apply below_drew1 | refine below_set ?_ GE124.out | refine below_set ?_ GE126.out) | exact HB.out)⟩⟩
      case round =>
       clear H'
       try clear c1
       try clear c2
       try clear p2
       try clear c4
       try clear c4b0
       try clear c4b1
       try clear c5
       try clear p6
       try clear c7
       try clear c7b0
       try clear c7b1
       try clear c8
       try clear c8b0
       try clear c8b1
       try clear c10
       try clear c10b0
       try clear c12
       try clear hcz13_0
       try clear hcz13_1
       try clear hcz6_0
       try clear hcz6_1
       try clear hfz13_0
       try clear hfz13_1
       try clear hfz6_0
       try clear hfz6_1
       try clear p2
       obtain ⟨x5_2, x127001_2, u127001, rfl, HA, HK2, HO_127001, BK124, BK126, HB⟩ := hrel
       cases gk with
       | zero => exact absurd HA.out (by simp [cat_Decode.l0])
       | succ k2 =>
        have H := HA.out
        clear HA
        simp only [cat_Decode.l0] at H
        by_cases c14 : x5_2.toList = ([] : List UInt8)
        ·rw [if_pos c14] at H
         have c14b0 : (x5_2.toList == ([] : List UInt8)) = true := beq_iff_eq.mpr c14
         have c14b1 : (x5_2.toList != ([] : List UInt8)) = false := bne_eq_false_iff_eq.mpr c14
         clear c14
         replace H := Option.bind_eq_some_iff.mp H
         obtain ⟨t127, A150, H⟩ := H
         replace H : (if t127 = true then (some (t125, x127001_2, 0)) else (some (0, ([] : List (S46)), 2))) = some (r1, r2, r3) := H
         have A15 := Aside0.mk A150
         clear A150
         by_cases c16 : t127 = true
         ·subst c16
          have H1 : (some (t125, x127001_2, 0)) = some (r1, r2, r3) := by rw [if_pos rfl] at H; exact H
          clear H
          have H := H1
          clear H1
          simp only [Option.some.injEq, Prod.mk.injEq] at H
          obtain ⟨rfl, rfl, rfl⟩ := H
          have hnb17 := NB126_124.out
          have hnc17 := NB124_126.out
          have hcz18_0 : wr.cell? ⟨gb126, 0, none⟩ = some (.int .i64 t125) := (blk_cell BK126.out 0).trans rfl
          have hcz18_1 : wr.cell? ⟨gb126, 1, none⟩ = some (u127001) := (blk_cell BK126.out 1).trans rfl
          have hfz18_0 := blk_frozen BK126.out 0
          have hfz18_1 := blk_frozen BK126.out 1
          obtain ⟨Ao19, co19, eo19⟩ := Kd.R_slice HO_127001.out
          subst eo19
          go_wp2_with (first | ((with_reducible refine gate_callee (f := 15) rfl ?_); refine goesL_ (some 40) rfl rfl Try.func15 (by kernel_rfl) rfl #[.agg #[.int .i64 t125, .slice Ao19 x127001_2.length co19]] rfl (by (try simp only [List.map_toArray, List.map_cons, List.map_nil]); first | done | rfl | (simp only [List.length_drop, List.length_take]; rfl)) ?_; (with_reducible refine (cat_Right.calls k2 t125 _ _ x127001_2 true _ ?side1 ?side2 A15.out).mono ?_); (case side1 => repeat (first | exact (Kd.R_reads' HO_127001.out).2.2 | (with_reducible refine Kd.C_alloc ?_ _) | (with_reducible refine Kd.C_drewN ?_ _) | (with_reducible refine Kd.C_drew ?_))); (case side2 => exact (Kd.R_reads' HO_127001.out).2.1); rintro e w20 ⟨rfl, hb⟩; refine ⟨_, rfl, ?_⟩; have n0_ := Aside0.mk (Kd.R_below (rk HO_127001.out) hb); have n1_ := Aside0.mk (blk_below (g := gb124) (bk BK124.out) hb); have n2_ := Aside0.mk (blk_below (g := gb126) (bk BK126.out) hb); have n3_ := Aside0.mk (below_step (by repeat (first | (with_reducible first | exact HB.out | apply below_alloc | apply pw_below_drewN | apply below_drew1 | refine below_set ?_ GE124.out | refine below_set ?_ GE126.out) | exact HB.out)) hb); clear HO_127001; clear BK124; clear BK126; clear HB; have HO_127001 := n0_; have BK124 := n1_; have BK126 := n2_; have HB := n3_; clear n0_ n1_ n2_ n3_; (try clear hb); (try clear hb2); (try clear hk); (try clear hi); have hcz21_0 : w20.cell? ⟨gb126, 0, none⟩ = some (.int .i64 t125) := (blk_cell BK126.out 0).trans rfl; have hcz21_1 : w20.cell? ⟨gb126, 1, none⟩ = some (.slice Ao19 x127001_2.length co19) := (blk_cell BK126.out 1).trans rfl; have hfz21_0 := blk_frozen BK126.out 0; have hfz21_1 := blk_frozen BK126.out 1; have hcz22_0 : w20.cell? ⟨gb124, 0, none⟩ = some (.int .i64 0) := (blk_cell BK124.out 0).trans rfl; have hcz22_1 : w20.cell? ⟨gb124, 1, none⟩ = some (.slice none 0 0) := (blk_cell BK124.out 1).trans rfl; have hfz22_0 := blk_frozen BK124.out 0; have hfz22_1 := blk_frozen BK124.out 1))
          refine bodyPost_ret (results_ct rfl _ _ gb124 24 #[.int .i64 t125, .slice Ao19 x127001_2.length co19] (0, 0) _ rfl (by (with_reducible repeat (first | refine blk_drewN ?_ _ | refine blk_drew ?_ | refine blk_alloc ?_ _)); refine blk_put (cs := #[.int .i64 t125, .slice none 0 0]) ?_ 1 _ rfl; (with_reducible repeat (first | refine blk_drewN ?_ _ | refine blk_drew ?_ | refine blk_alloc ?_ _)); refine blk_put (cs := #[.int .i64 0, .slice none 0 0]) ?_ 0 _ rfl; exact bk BK124.out) Try.underlying24 rfl (by kernel_rfl)) rfl ?_
          exact ⟨_, by first | rfl | (simp [errW_none, errW_some] <;> rfl) | (simp [*, errW_none, errW_some] <;> rfl), by (with_reducible repeat (first | apply Kd.R_alloc | apply Kd.R_drewN | apply Kd.R_drew)); exact Kd.R_mono (Kd.R_far (p := ⟨gb124, 1, none⟩) (Kd.R_far (p := ⟨gb124, 0, none⟩) (Kd.R_types HO_127001.out BK124.out (by decide)) (fun _ hk => hk.2) (.int .i64 t125)) (fun _ hk => hk.2) (.slice Ao19 x127001_2.length co19)) (fun _ hk => trivial), by repeat (first | (with_reducible first | exact HB.out | apply below_alloc | apply pw_below_drewN | apply below_drew1 | refine below_set ?_ GE124.out | refine below_set ?_ GE126.out) | exact HB.out)⟩
         ·replace c16 := Bool.eq_false_iff.mpr c16
          subst c16
          have H1 : (some (0, ([] : List (S46)), 2)) = some (r1, r2, r3) := by rw [if_neg (show ¬ (false = true) by decide)] at H; exact H
          clear H
          have H := H1
          clear H1
          simp only [Option.some.injEq, Prod.mk.injEq] at H
          obtain ⟨rfl, rfl, rfl⟩ := H
          have hnb23 := NB126_124.out
          have hnc23 := NB124_126.out
          have hcz24_0 : wr.cell? ⟨gb126, 0, none⟩ = some (.int .i64 t125) := (blk_cell BK126.out 0).trans rfl
          have hcz24_1 : wr.cell? ⟨gb126, 1, none⟩ = some (u127001) := (blk_cell BK126.out 1).trans rfl
          have hfz24_0 := blk_frozen BK126.out 0
          have hfz24_1 := blk_frozen BK126.out 1
          obtain ⟨Ao25, co25, eo25⟩ := Kd.R_slice HO_127001.out
          subst eo25
          go_wp2_with (first | ((with_reducible refine gate_callee (f := 15) rfl ?_); refine goesL_ (some 40) rfl rfl Try.func15 (by kernel_rfl) rfl #[.agg #[.int .i64 t125, .slice Ao25 x127001_2.length co25]] rfl (by (try simp only [List.map_toArray, List.map_cons, List.map_nil]); first | done | rfl | (simp only [List.length_drop, List.length_take]; rfl)) ?_; (with_reducible refine (cat_Right.calls k2 t125 _ _ x127001_2 false _ ?side1 ?side2 A15.out).mono ?_); (case side1 => repeat (first | exact (Kd.R_reads' HO_127001.out).2.2 | (with_reducible refine Kd.C_alloc ?_ _) | (with_reducible refine Kd.C_drewN ?_ _) | (with_reducible refine Kd.C_drew ?_))); (case side2 => exact (Kd.R_reads' HO_127001.out).2.1); rintro e w26 ⟨rfl, hb⟩; refine ⟨_, rfl, ?_⟩; have n0_ := Aside0.mk (Kd.R_below (rk HO_127001.out) hb); have n1_ := Aside0.mk (blk_below (g := gb124) (bk BK124.out) hb); have n2_ := Aside0.mk (blk_below (g := gb126) (bk BK126.out) hb); have n3_ := Aside0.mk (below_step (by repeat (first | (with_reducible first | exact HB.out | apply below_alloc | apply pw_below_drewN | apply below_drew1 | refine below_set ?_ GE124.out | refine below_set ?_ GE126.out) | exact HB.out)) hb); clear HO_127001; clear BK124; clear BK126; clear HB; have HO_127001 := n0_; have BK124 := n1_; have BK126 := n2_; have HB := n3_; clear n0_ n1_ n2_ n3_; (try clear hb); (try clear hb2); (try clear hk); (try clear hi); have hcz27_0 : w26.cell? ⟨gb124, 0, none⟩ = some (.int .i64 0) := (blk_cell BK124.out 0).trans rfl; have hcz27_1 : w26.cell? ⟨gb124, 1, none⟩ = some (.slice none 0 0) := (blk_cell BK124.out 1).trans rfl; have hfz27_0 := blk_frozen BK124.out 0; have hfz27_1 := blk_frozen BK124.out 1))
          refine bodyPost_ret (results_ct rfl _ _ gb124 24 #[.int .i64 0, .slice none 0 0] (0, 0) _ rfl (by (with_reducible repeat (first | refine blk_drewN ?_ _ | refine blk_drew ?_ | refine blk_alloc ?_ _)); refine blk_put (cs := #[.int .i64 0, .slice none 0 0]) ?_ 1 _ rfl; (with_reducible repeat (first | refine blk_drewN ?_ _ | refine blk_drew ?_ | refine blk_alloc ?_ _)); refine blk_put (cs := #[.int .i64 0, .slice none 0 0]) ?_ 0 _ rfl; exact bk BK124.out) Try.underlying24 rfl (by kernel_rfl)) rfl ?_
          exact ⟨_, by first | rfl | (simp [errW_none, errW_some] <;> rfl) | (simp [*, errW_none, errW_some] <;> rfl), by first | exact Kd.R_nil _ _ _ _ _ | exact Kd.N_nil _ _ _ _ _ | exact Kd.V_nil _ _ _ _ _ | exact Kd.Q_nil _ _ _ _ _ | exact Kd.S_nil _ _ _ _ _, by repeat (first | (with_reducible first | exact HB.out | apply below_alloc | apply pw_below_drewN | apply below_drew1 | refine below_set ?_ GE124.out | refine below_set ?_ GE126.out) | exact HB.out)⟩
        ·rw [if_neg c14] at H
         have c14b0 : (x5_2.toList == ([] : List UInt8)) = false := beq_eq_false_iff_ne.mpr c14
         have c14b1 : (x5_2.toList != ([] : List UInt8)) = true := bne_iff_ne.mpr c14
         by_cases c28 : 0 ≤ 4
         ·rw [if_pos c28] at H
          have c28b0 := eq_true c28
          have c28b1 : decide (0 ≤ 4) = true := decide_eq_true c28
          clear c28
          by_cases c29 : 4 ≤ (x5_2.size : Int)
          ·rw [if_pos c29] at H
           have c29b0 := eq_true c29
           have c29b1 : decide (4 ≤ (x5_2.size : Int)) = true := decide_eq_true c29
           clear c29
           replace H := Option.bind_eq_some_iff.mp H
           obtain ⟨t128, A300, H⟩ := H
           replace H : (if 4 ≤ 6 then (if 6 ≤ (x5_2.size : Int) then ((cat_get.f k2 (x5_2.extract 4 6)).bind fun t129 => (if x127001_2.length < 8796093022208 then (cat_Decode.l0 k2 (x5_2.extract 6 x5_2.size) t125 (x127001_2 ++ [(⟨t128, t129⟩ : S46)])) else (none))) else (none)) else (none)) = some (r1, r2, r3) := H
           have A30 := Aside0.mk A300
           clear A300
           by_cases c31 : 4 ≤ 6
           ·rw [if_pos c31] at H
            have c31b0 := eq_true c31
            have c31b1 : decide (4 ≤ 6) = true := decide_eq_true c31
            clear c31
            by_cases c32 : 6 ≤ (x5_2.size : Int)
            ·rw [if_pos c32] at H
             have c32b0 := eq_true c32
             have c32b1 : decide (6 ≤ (x5_2.size : Int)) = true := decide_eq_true c32
             clear c32
             replace H := Option.bind_eq_some_iff.mp H
             obtain ⟨t129, A330, H⟩ := H
             replace H : (if x127001_2.length < 8796093022208 then (cat_Decode.l0 k2 (x5_2.extract 6 x5_2.size) t125 (x127001_2 ++ [(⟨t128, t129⟩ : S46)])) else (none)) = some (r1, r2, r3) := H
             have A33 := Aside0.mk A330
             clear A330
             by_cases c34 : x127001_2.length < 8796093022208
             ·rw [if_pos c34] at H
              have LMc34 := Aside0.mk c34
              clear c34
              obtain ⟨y130, hy130⟩ : ∃ y_ : List (S46), y_ = (x127001_2 ++ [(⟨t128, t129⟩ : S46)]) := ⟨_, rfl⟩
              replace H : (cat_Decode.l0 k2 (x5_2.extract 6 x5_2.size) t125 y130) = some (r1, r2, r3) := by first | (rw [hy130]; with_reducible exact H) | (have H2_ := (Option.bind_some _ _).symm.trans H; rw [hy130]; with_reducible exact H2_) | (have H2_ := (Option.bind_some _ _).symm.trans H; with_reducible exact H2_) | with_reducible exact H | (rw [hy130]; exact H) | exact H
              have Ny130 := Aside0.mk hy130
              clear hy130
              have c35b0 := eq_true (of_decide_eq_true (by first | (with_reducible assumption) | assumption) : 6 ≤ (x5_2.size : Int))
              have H' := Aside0.mk H
              clear H
              try go_wp2
              have n0_ := Aside0.mk (Kd.R_drew HO_127001.out)
              have n1_ := Aside0.mk (blk_drew BK124.out)
              have n2_ := Aside0.mk (blk_drew BK126.out)
              have n3_ := Aside0.mk (below_drew1 HB.out)
              clear HO_127001
              clear BK124
              clear BK126
              clear HB
              have HO_127001 := n0_
              have BK124 := n1_
              have BK126 := n2_
              have HB := n3_
              clear n0_ n1_ n2_ n3_
              refine start_ (n := 13) (S := fun w' => w'.cell? ⟨gb126, 0, none⟩ = some (.int .i64 t125) ∧ w'.cell? ⟨gb126, 1, none⟩ = some (u127001)) (ds := [12]) #[false, false, false, false, false, false, false, false, false, false, false, false, false] (by kernel_rfl) rfl rfl ⟨(blk_cell BK126.out 0).trans rfl, (blk_cell BK126.out 1).trans rfl⟩ (fun hHeld => ?_); refine with_tabW cat_Decode.tab7 cat_Decode.bits7 (fun HT_ HW_ => ?_)
              generalize wr.drew = w36 at HO_127001 BK124 BK126 HB hHeld ⊢
              refine pure_ (i := 0) (N := some 27) (v := ?_) (a' := ?_) #[true, false, false, false, false, false, false, false, false, false, false, false, false] rfl rfl (any_of HT_.out (by kernel_rfl)) (fun _ _ _ h => h) (Or.inl ⟨by rfl, ?_⟩) ?_ ?_
              rotate_left
              ·intro w'
               go_simp
               with_reducible rfl
              rotate_left
              ·simp only [Act.put, List.setIfInBounds_toArray, List.set_cons_zero, List.set_cons_succ, i64_w, i32_w]
               rfl
              refine pure_ (i := 2) (N := some 29) (v := ?_) (a' := ?_) #[true, false, true, false, false, false, false, false, false, false, false, false, false] rfl rfl (any_of HT_.out (by kernel_rfl)) (fun _ _ _ h => h) (Or.inl ⟨by rfl, ?_⟩) ?_ ?_
              rotate_left
              ·intro w'
               go_simp
               with_reducible rfl
              rotate_left
              ·simp only [Act.put, List.setIfInBounds_toArray, List.set_cons_zero, List.set_cons_succ, i64_w, i32_w]
               rfl
              refine pure_ (i := 3) (N := some 30) (v := ?_) (a' := ?_) #[true, false, true, true, false, false, false, false, false, false, false, false, false] rfl rfl (any_of HT_.out (by kernel_rfl)) (fun _ _ _ h => h) (Or.inl ⟨by rfl, ?_⟩) ?_ ?_
              rotate_left
              ·intro w'
               go_simp
               with_reducible rfl
              rotate_left
              ·simp only [Act.put, List.setIfInBounds_toArray, List.set_cons_zero, List.set_cons_succ, i64_w, i32_w]
               rfl
              refine pure_ (i := 5) (N := some 32) (v := ?_) (a' := ?_) #[true, false, true, true, false, true, false, false, false, false, false, false, false] rfl rfl (any_of HT_.out (by kernel_rfl)) (fun _ _ _ h => h) (Or.inl ⟨by rfl, ?_⟩) ?_ ?_
              rotate_left
              ·intro w'
               go_simp
               with_reducible rfl
              rotate_left
              ·simp only [Act.put, List.setIfInBounds_toArray, List.set_cons_zero, List.set_cons_succ, i64_w, i32_w]
               rfl
              refine pure_ (i := 6) (N := some 33) (v := ?_) (a' := ?_) #[true, false, true, true, false, true, true, false, false, false, false, false, false] rfl rfl (any_of HT_.out (by kernel_rfl)) (fun _ _ _ h => h) (Or.inl ⟨by rfl, ?_⟩) ?_ ?_
              rotate_left
              ·intro w'
               go_simp
               with_reducible rfl
              rotate_left
              ·simp only [Act.put, List.setIfInBounds_toArray, List.set_cons_zero, List.set_cons_succ, i64_w, i32_w]
               rfl
              refine take_ (i := 1) (N := some 28) (v := ?_) (a' := ?_) #[true, true, true, true, false, true, true, false, false, false, false, false, false] rfl rfl (take_ofW HT_.out HW_.out (by kernel_rfl)) (fun _ _ _ h => h) (Or.inl ⟨by rfl, ?_⟩) hHeld ?_ ?_
              rotate_left
              ·rintro w' ⟨s0, s1⟩
               go_simp
               with_reducible rfl
              rotate_left
              ·simp only [Act.put, List.setIfInBounds_toArray, List.set_cons_zero, List.set_cons_succ, i64_w, i32_w]
               rfl
              refine one_ (i := 4) (N := some 31) #[true, true, true, true, true, true, true, false, false, false, false, false, false] rfl rfl (one_of HT_.out (by kernel_rfl)) (by decide) (fun K hK => ?_)
              refine goes_ Try.func25 (by kernel_rfl) rfl #[.string (x5_2.extract 0 4)] (by rfl) rfl rfl (by (try simp only [List.map_toArray, List.map_cons, List.map_nil]); first | done | rfl | (simp only [List.length_drop, List.length_take]; rfl)) ?_
              with_reducible refine (cat_get.calls k2 (x5_2.extract 0 4) t128 _ A30.out).mono ?_
              rintro e w' ⟨rfl, ⟨nd, rfl⟩⟩
              refine ⟨_, rfl, ?_⟩
              refine hK.out _ _ ⟨(blk_cell BK126.out 0).trans rfl, (blk_cell BK126.out 1).trans rfl⟩ (fun hHeld => ?_)
              clear hK K
              refine norm_ (a' := ?_) ?_ ?_
              rotate_left
              ·show Act.put _ (some 31) _ = _
               simp only [Act.put, List.setIfInBounds_toArray, List.set_cons_zero, List.set_cons_succ, i64_w, i32_w]
               rfl
              refine one_ (i := 7) (N := some 34) #[true, true, true, true, true, true, true, true, false, false, false, false, false] rfl rfl (one_of HT_.out (by kernel_rfl)) (by decide) (fun K hK => ?_)
              refine goes_ Try.func25 (by kernel_rfl) rfl #[.string (x5_2.extract 4 6)] (by rfl) rfl rfl (by (try simp only [List.map_toArray, List.map_cons, List.map_nil]); first | done | rfl | (simp only [List.length_drop, List.length_take]; rfl)) ?_
              with_reducible refine (cat_get.calls k2 (x5_2.extract 4 6) t129 _ A33.out).mono ?_
              rintro e w' ⟨rfl, ⟨nd, rfl⟩⟩
              refine ⟨_, rfl, ?_⟩
              refine hK.out _ _ ⟨(blk_cell BK126.out 0).trans rfl, (blk_cell BK126.out 1).trans rfl⟩ (fun hHeld => ?_)
              clear hK K
              refine norm_ (a' := ?_) ?_ ?_
              rotate_left
              ·show Act.put _ (some 34) _ = _
               simp only [Act.put, List.setIfInBounds_toArray, List.set_cons_zero, List.set_cons_succ, i64_w, i32_w]
               rfl
              refine pure_ (i := 8) (N := some 35) (v := ?_) (a' := ?_) #[true, true, true, true, true, true, true, true, true, false, false, false, false] rfl rfl (any_of HT_.out (by kernel_rfl)) (fun _ _ _ h => h) (Or.inl ⟨by rfl, ?_⟩) ?_ ?_
              rotate_left
              ·intro w'
               go_simp
               with_reducible rfl
              rotate_left
              ·simp only [Act.put, List.setIfInBounds_toArray, List.set_cons_zero, List.set_cons_succ, i64_w, i32_w]
               rfl
              refine one_ (i := 9) (N := some 36) #[true, true, true, true, true, true, true, true, true, true, false, false, false] rfl rfl (one_of HT_.out (by kernel_rfl)) (by decide) (fun K hK => ?_)
              refine value_ (w1 := ?_) (v := ?_) (by rfl) rfl ?_ ?_
              rotate_left 2
              ·go_simp
               constructor
               ·rfl
               ·rfl
              refine hK.out _ _ ⟨(blk_cell (blk_alloc BK126.out _) 0).trans rfl, (blk_cell (blk_alloc BK126.out _) 1).trans rfl⟩ (fun hHeld => ?_)
              clear hK K
              refine norm_ (a' := ?_) ?_ ?_
              rotate_left
              ·show Act.put _ (some 36) _ = _
               simp only [Act.put, List.setIfInBounds_toArray, List.set_cons_zero, List.set_cons_succ, i64_w, i32_w]
               rfl
              refine one_ (i := 10) (N := some 37) #[true, true, true, true, true, true, true, true, true, true, true, false, false] rfl rfl (one_of HT_.out (by kernel_rfl)) (by decide) (fun K hK => ?_)
              refine Kd.R_append_step k46 (w0 := w) w.heap.size (by rfl) (.tmp 28) (.tmp 36) 22 46 (.agg #[(.int .i64 0), (.int .i64 0)]) 16 rfl Try.underlying22 info46 rfl (by decide) (by omega) u127001 x127001_2 (⟨t128, t129⟩ : S46) [.int .i64 t128, .int .i64 t129] (fun _ => True) (fun _ => False) rfl rfl ?aP (fun _ hk => hk.elim) ?aF ?aO ?aB ?aS ?aL ?_
              (case aP => exact k46_mkM _ _ _ (⟨t128, t129⟩ : S46))
              (case aB => exact (by repeat (first | (with_reducible first | exact HB.out | apply below_alloc | apply pw_below_drewN | apply below_drew1 | refine below_set ?_ GE124.out | refine below_set ?_ GE126.out) | exact HB.out)))
              (case aF => exact (fun _ _ => trivial))
              (case aO => exact (rk HO_127001.out))
              (case aS => exact (below_size (by repeat (first | (with_reducible first | exact HB.out | apply below_alloc | apply pw_below_drewN | apply below_drew1 | refine below_set ?_ GE124.out | refine below_set ?_ GE126.out) | exact HB.out))))
              (case aL => have := LMc34.out; omega)
              intro v131 w37 ho hb hg hat
              rw [← Ny130.out] at ho
              have n0_ := Aside0.mk (blk_grown (g := gb124) (bk BK124.out) hg (Kd.R_ne HO_127001.out BK124.out (by decide)))
              have n1_ := Aside0.mk (blk_grown (g := gb126) (bk BK126.out) hg (Kd.R_ne HO_127001.out BK126.out (by decide)))
              have n2_ := Aside0.mk (hb)
              have n3_ := Aside0.mk (ho)
              clear BK124
              clear BK126
              clear HB
              clear HO_127001
              have BK124 := n0_
              have BK126 := n1_
              have HB := n2_
              have HO132 := n3_
              clear n0_ n1_ n2_ n3_
              clear ho hb hg hat
              obtain ⟨Ao38, co38, eo38⟩ := Kd.R_slice HO132.out
              (first | subst eo38 | (injection eo38 with f1_ f2_ f3_; have f4_ := f1_.symm; have f5_ := f3_.symm; clear f1_ f2_ f3_; subst f4_; subst f5_))
              refine hK.out _ _ ⟨(blk_cell BK126.out 0).trans rfl, (blk_cell BK126.out 1).trans rfl⟩ (fun hHeld => ?_)
              clear hK K
              refine norm_ (a' := ?_) ?_ ?_
              rotate_left
              ·show Act.put _ (some 37) _ = _
               simp only [Act.put, List.setIfInBounds_toArray, List.set_cons_zero, List.set_cons_succ, i64_w, i32_w]
               rfl
              refine pure_ (i := 11) (N := some 38) (v := ?_) (a' := ?_) #[true, true, true, true, true, true, true, true, true, true, true, true, false] rfl rfl (any_of HT_.out (by kernel_rfl)) (fun _ _ _ h => h) (Or.inl ⟨by rfl, ?_⟩) ?_ ?_
              rotate_left
              ·intro w'
               go_simp
               with_reducible rfl
              rotate_left
              ·simp only [Act.put, List.setIfInBounds_toArray, List.set_cons_zero, List.set_cons_succ, i64_w, i32_w]
               rfl
              refine last_ (i := 12) (N := none) #[true, true, true, true, true, true, true, true, true, true, true, true, true] rfl rfl (one_of HT_.out (by kernel_rfl)) (by decide) (fun K hK => ?_)
              have hs39 : w37.cell? ⟨gb126, 1, none⟩ = some (u127001) := (blk_cell BK126.out 1).trans rfl
              have hfs39 := blk_frozen BK126.out 1
              have hns39_0 := NB124_126.out
              have hms39_0 := NB126_124.out
              refine skip_ (w1 := ?_) (by rfl) rfl ?_ ?_
              rotate_left
              ·go_simp
               rfl
              refine hK.out _ _ ?_
              clear hK K
              refine done_ (done_of HT_.out (by kernel_rfl)) ?_
              try go_wp2
              go_roundg k2
              case measure => have := HJ1.out; have := HK2.out; omega
              case rel => exact ⟨(x5_2.extract 6 x5_2.size), (y130), (.slice Ao38 y130.length co38), (by first | rfl | (simp; done) | (simp [*]; done)), H', ⟨by have := HJ1.out; have := HK2.out; omega⟩, ⟨by (with_reducible repeat (first | apply Kd.R_alloc | apply Kd.R_drewN | apply Kd.R_drew)); exact Kd.R_mono (Kd.R_far (p := ⟨gb126, 1, none⟩) (Kd.R_types HO132.out BK126.out (by decide)) (fun _ hk => hk.2) (.slice Ao38 y130.length co38)) (fun _ hk => trivial)⟩, ⟨by (with_reducible repeat (first | refine blk_drewN ?_ _ | refine blk_drew ?_ | refine blk_alloc ?_ _)); refine blk_far ?_ NB124_126.out _; exact bk BK124.out⟩, ⟨by (with_reducible repeat (first | refine blk_drewN ?_ _ | refine blk_drew ?_ | refine blk_alloc ?_ _)); refine blk_put (cs := #[.int .i64 t125, u127001]) ?_ 1 _ rfl; exact bk BK126.out⟩, ⟨by repeat (first | (with_reducible first | exact HB.out | apply below_alloc | apply pw_below_drewN | apply below_drew1 | refine below_set ?_ GE124.out | refine below_set ?_ GE126.out) | exact HB.out)⟩⟩
             ·rw [if_neg c34] at H
              exact absurd H (by simp)
            ·rw [if_neg c32] at H
             exact absurd H (by simp)
           ·rw [if_neg c31] at H
            exact absurd H (by simp)
          ·rw [if_neg c29] at H
           exact absurd H (by simp)
         ·rw [if_neg c28] at H
          exact absurd H (by simp)
     ·rw [if_neg c8] at H
      exact absurd H (by simp)
    ·rw [if_neg c7] at H
     exact absurd H (by simp)

-- NOT PRINTED: function 30 (cat_Version_30)

/-! ### cat_Find: function 17 -/
def cat_Find.ix : List S46 → Int → Nat → Int
 | [], _, _ => -1
 | x :: xs, n, i => if x.f0 = n then (i : Int) else cat_Find.ix xs n (i + 1)
def cat_Find.f (_ : Int) (l0_1 : List S46) (a1 : Int) : Option (Int × Bool) :=
 if a1 = 0 then some (mx (wrap64 ((l0_1.length : Int) - 1)) 0, decide ((l0_1.length : Int) > 0)) else some (mx (cat_Find.ix l0_1 a1 0) 0, decide (cat_Find.ix l0_1 a1 0 ≥ 0))
theorem cat_Find.ret_two {k : IntKind} {a b : Int} {p q : Bool} (h : a = b) (h2 : p = q) : Ending.returned (.tuple #[.int k a, .bool p]) = .returned (.tuple #[.int k b, .bool q]) := by rw [h, h2]
theorem cat_Find.ret_int {k : IntKind} {a b : Int} (h : a = b) : Ending.returned (.int k a) = .returned (.int k b) := by rw [h]
set_option maxHeartbeats 800000 in
set_option maxRecDepth 100000 in
theorem cat_Find.cl (g : Nat) (num : Int) (x : S46) (w : World) (hw : w.cell? ⟨g, 0, none⟩ = some (.int .i64 num)) :
  Calls Try.prog 31 #[.agg #[.int .i64 x.f0, .int .i64 x.f1], .pointer (some ⟨g, 0, none⟩)] w fun e w' => e = .returned (.bool (x.f0 == num)) ∧ Below w.heap.size w w' := by
 have hlt := World.block_lt_of_cell? w _ hw
 have hu46 := Try.underlying46
 have h2 : ∀ o, (w.alloc o).cell? ⟨g, 0, none⟩ = some (.int .i64 num) := fun o => by rw [World.cell?_alloc_past _ _ _ hlt]; exact hw
 clear hlt
 go_enter Try.func31, Try.ntmps31
 go_wp2
 go_ret
 exact ⟨rfl, below_alloc (Below.refl _ _) _⟩
theorem cat_Find.ix_drop (l : List S46) (num : Int) (k : Nat) (hk : k < l.length) : cat_Find.ix (l.drop k) num k = if (rd_T46 l (k : Int)).f0 = num then (k : Int) else cat_Find.ix (l.drop (k + 1)) num (k + 1) := by
 rw [List.drop_eq_getElem_cons hk]
 simp only [cat_Find.ix, rd_T46, List.getD, Int.toNat_natCast, List.getElem?_eq_getElem hk, Option.getD_some]
set_option maxHeartbeats 1600000 in
set_option maxRecDepth 100000 in
theorem cat_Find.ixf (A : Option Addr) (c g : Nat) (l : List S46) (num : Int) (w : World) (hr : Kd.C k46 w A l.length l) (hw : w.cell? ⟨g, 0, none⟩ = some (.int .i64 num)) :
  Calls Try.prog 30 #[.slice A l.length c, .func (.func 31) #[] #[.pointer (some ⟨g, 0, none⟩)]] w fun e w' => e = .returned (.int .i64 (cat_Find.ix l num 0)) ∧ Below w.heap.size w w' := by
 have hm : l.length ≤ 9223372036854775807 := hr.2.1
 have hu46 := Try.underlying46
 have HR := Aside0.mk hr
 have HW := Aside0.mk hw
 clear hr hw
 go_enter Try.func30, Try.ntmps30
 go_wp2
 go_loopw [5, 8] (fun j i wr => ∃ k : Nat, k ≤ l.length ∧ i = .int .i64 k ∧ Aside0 (Below w.heap.size w wr) ∧ Aside0 (cat_Find.ix l num 0 = cat_Find.ix (l.drop k) num k)) (fun _ i _ => l.length - (intOf i).toNat)
 case atStart => exact ⟨0, Nat.zero_le _, rfl, ⟨Below.refl _ _⟩, ⟨rfl⟩⟩
 case round =>
  obtain ⟨k, hk, rfl, HB, HX⟩ := hrel
  by_cases hlt : k < l.length
  ·obtain ⟨ad, rfl, hc0, hc1⟩ := at_T46 (Kd.C_below HR.out HB.out) (k : Int) (by omega) (by omega)
   simp only [Int.toNat_natCast] at hc0 hc1
   have hd := Aside0.mk (cat_Find.ix_drop l num k hlt)
   have hW := Aside0.mk (pw_cell_below HB.out HW.out)
   by_cases he : (rd_T46 l (k : Int)).f0 = num
   ·have hb : ((rd_T46 l (k : Int)).f0 == num) = true := beq_iff_eq.2 he
    have he' := Aside0.mk he
    clear he
    go_wp2_with (go_at_call 31; refine (cat_Find.cl g num (rd_T46 l (k : Int)) _ hW.out).mono ?_; rintro e w' ⟨rfl, hb1⟩; have HB1 := Aside0.mk hb1; clear hb1)
    go_ret
    exact ⟨cat_Find.ret_int (by rw [HX.out, hd.out, if_pos he'.out]), HB.out.trans (HB1.out.mono HB.out.size)⟩
   ·have hb : ((rd_T46 l (k : Int)).f0 == num) = false := beq_eq_false_iff_ne.2 he
    have he' := Aside0.mk he
    clear he
    go_wp2_with (go_at_call 31; refine (cat_Find.cl g num (rd_T46 l (k : Int)) _ hW.out).mono ?_; rintro e w' ⟨rfl, hb1⟩; have HB1 := Aside0.mk hb1; clear hb1)
    go_roundw
    case rel => exact ⟨k + 1, by omega, by go_num, ⟨HB.out.trans (HB1.out.mono HB.out.size)⟩, ⟨by rw [HX.out, hd.out, if_neg he'.out]⟩⟩
    case measure => simp [intOf]; omega
  ·have hk' : k = l.length := by omega
   have HE : Aside0 (cat_Find.ix l num 0 = -1) := ⟨by rw [HX.out, hk', List.drop_length]; rfl⟩
   go_wp2
   go_ret
   exact ⟨cat_Find.ret_int (by rw [HE.out]), HB.out⟩
set_option maxHeartbeats 1600000 in
set_option maxRecDepth 100000 in
theorem cat_Find.calls (a0_0 : Int) (A0_1 : Option Addr) (c0_1 : Nat) (l0_1 : List (S46)) (a1 : Int) (r1 : Int) (r2 : Bool) (w : World) (hr0_1 : Kd.C k46 w A0_1 l0_1.length l0_1) (hc0_1 : l0_1.length ≤ c0_1) (h : cat_Find.f a0_0 l0_1 a1 = some (r1, r2)) :
  Calls Try.prog 17 #[.agg #[.int .i64 a0_0, .slice A0_1 l0_1.length c0_1], .int .i64 a1] w fun e w' => e = .returned (.tuple #[.int .i64 r1, .bool r2]) ∧ Below w.heap.size w w' := by
 have hu24 := Try.underlying24
 have HR := Aside0.mk hr0_1
 have hm : l0_1.length ≤ 9223372036854775807 := hr0_1.2.1
 clear hr0_1 hc0_1
 unfold cat_Find.f at h
 by_cases h0 : a1 = 0
 ·rw [if_pos h0] at h
  have hb : (a1 == 0) = true := beq_iff_eq.2 h0
  clear h0
  simp only [Option.some.injEq, Prod.mk.injEq] at h
  obtain ⟨h1, h2⟩ := h
  have H1 := Aside0.mk h1
  have H2 := Aside0.mk h2
  clear h1 h2
  go_enter Try.func17, Try.ntmps17
  go_wp2
  go_quiet (fail)
  all_goals go_wp2
  all_goals
   go_ret2
   exact ⟨cat_Find.ret_two (by rw [← H1.out]; unfold mx wrap64; split <;> omega) (by rw [← H2.out]; exact decide_eq_decide.2 (by omega)), pw_below_drewN (below_alloc (below_alloc (Below.refl _ _) _) _) _⟩
 ·rw [if_neg h0] at h
  have hb : (a1 == 0) = false := beq_eq_false_iff_ne.2 h0
  clear h0
  simp only [Option.some.injEq, Prod.mk.injEq] at h
  obtain ⟨h1, h2⟩ := h
  have H1 := Aside0.mk h1
  have H2 := Aside0.mk h2
  clear h1 h2
  have hmf : ∀ (fn : Fn) (first cap : Array Value) (w : World), (Instr.makeFunc fn first cap).run Try.prog w = .ok (.func fn first cap) w := fun _ _ _ _ => rfl
  have HB := Aside0.mk (show Below w.heap.size w ((w.alloc (Obj.cells #[Value.int .i64 a0_0, Value.slice A0_1 l0_1.length c0_1] 24)).alloc (Obj.cells #[Value.int .i64 a1] 3)) from below_alloc (below_alloc (Below.refl _ _) _) _)
  have HW : Aside0 (((w.alloc (Obj.cells #[Value.int .i64 a0_0, Value.slice A0_1 l0_1.length c0_1] 24)).alloc (Obj.cells #[Value.int .i64 a1] 3)).cell? ⟨w.heap.size + 1, 0, none⟩ = some (.int .i64 a1)) := ⟨by rw [World.cell?_alloc_at _ _ _ _ (by simp)]; rfl⟩
  go_enter Try.func17, Try.ntmps17
  go_wp2_with (go_at_call 30; refine (cat_Find.ixf A0_1 c0_1 (w.heap.size + 1) l0_1 a1 _ (Kd.C_below HR.out HB.out) HW.out).mono ?_; rintro e w' ⟨rfl, hb1⟩; have HB1 := Aside0.mk hb1; clear hb1)
  all_goals
   go_ret2
   exact ⟨cat_Find.ret_two (by rw [← H1.out]; unfold mx; split <;> omega) (by rw [← H2.out]; all_goals exact (decide_eq_true (by omega)).symm), HB.out.trans (HB1.out.mono HB.out.size)⟩


/-! ### cat_Version_32: function 32 -/
def cat_Version_32.f (l0 : List (S46)) : Option (List (S46)) := if l0.length < 8796093022208 then some l0 else none
set_option maxHeartbeats 800000 in
set_option maxRecDepth 100000 in
theorem cat_Version_32.calls (A0 : Option Addr) (c0 : Nat) (l0 : List (S46)) (r : List (S46)) (w : World) (hr0 : Kd.C k46 w A0 l0.length l0) (hc0 : l0.length ≤ c0) (h : cat_Version_32.f l0 = some r) :
  Calls Try.prog 32 #[.slice A0 l0.length c0] w fun e w' => ∃ v0_ : Value, e = .returned (v0_) ∧ Kd.R k46 46 w' w.heap.size (fun _ => True) v0_ r ∧ Below w.heap.size w w' := by
 have hl : l0.length < 8796093022208 := by
  unfold cat_Version_32.f at h; split at h
  ·assumption
  ·cases h
 rw [cat_Version_32.f, if_pos hl] at h
 obtain rfl := Option.some.inj h
 have HL := Aside0.mk hl
 clear h hl
 rcases A0 with _ | ad
 ·have hn : l0 = [] := by
   rcases Nat.eq_zero_or_pos l0.length with h0 | h0
   ·exact List.eq_nil_of_length_eq_zero h0
   ·obtain ⟨ad, h, _⟩ := hr0.2.2 h0; cases h
  subst hn
  have hq := fun (W : World) (n c : Nat) => Lib.run_eql_slice_nil (P := Try.prog) W 22 46 none n c 0 0 Try.underlying22
  go_enter Try.func32, Try.ntmps32
  go_wp2
  go_ret
  exact ⟨_, rfl, Kd.R_nil _ _ _ _ _, Below.refl _ _⟩
 ·have hq := fun (W : World) (n c : Nat) => Lib.run_eql_slice_nil (P := Try.prog) W 22 46 (some ad) n c 0 0 Try.underlying22
  go_enter Try.func32, Try.ntmps32
  have HO : Aside0 (Kd.R k46 46 (w.alloc (Obj.cells #[] 46)) w.heap.size (fun _ => True) (.slice (some ⟨w.heap.size, 0, none⟩) 0 0) ([] : List (S46))) :=
   ⟨fun _ _ => trivial, [], ⟨rfl, .inr ⟨w.heap.size, 0, #[], rfl, Nat.le_refl _, heap_alloc_new w _, Nat.le_refl _, Nat.zero_le _, rfl, rfl⟩⟩, Reps.none _ _⟩
  have HR := Aside0.mk hr0
  clear hr0 hc0
  have HB := Aside0.mk (show Below w.heap.size w (w.alloc (Obj.cells #[] 46)) from below_alloc (Below.refl _ _) _)
  go_wp2_with (first | ((with_reducible refine gate_builtin (b := .append) (xs := #[.tmp 5, .tmp 6]) rfl ?_); at_builtin; refine Kd.R_append_rows k46 (w0 := w) w.heap.size rfl (.tmp 5) (.tmp 6) 22 46 (.agg #[(.int .i64 0), (.int .i64 0)]) 16 rfl Try.underlying22 info46 rfl (by decide) (by omega) (.slice (some ⟨w.heap.size, 0, none⟩) 0 0) ([] : List (S46)) l0 _ _ _ (fun _ => True) (fun _ => False) rfl rfl ?aO ?aR (fun _ _ h => h) (fun _ h => h.elim) ?aF ?aB ?aS ?aL ?_; (case aR => exact Kd.C_below HR.out HB.out); (case aB => exact HB.out); (case aF => exact (fun _ _ => trivial)); (case aO => exact HO.out); (case aS => exact below_size HB.out); (case aL => have := HL.out; simp; omega); intro v1 w1 hR hb hg hat))
  go_ret
  exact ⟨_, rfl, hR, hb⟩


end Go.Proofs.Ytmggeldhdemahaa.PCat
