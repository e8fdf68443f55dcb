/-
  Bytes read as a list, by the program and by the reference: the same, for texts of at most 2^20 bytes.
-/
import Derived.Test.YtmggeldhdemahaaCatC
namespace Go.Proofs.Ytmggeldhdemahaa.PCat
open Go.RowKit Go.Proofs.YtmggeldhdemahaaW.PrintWords Go.Proofs.YtmggeldhdemahaaW.PrintLast Go.Proofs.YtmggeldhdemahaaW.PrintMore
set_option linter.unusedVariables false

def num4 (s : ByteArray) (p : Nat) : Int := bt s (p : Int) * 16777216 + bt s ((p : Int) + 1) * 65536 + bt s ((p : Int) + 2) * 256 + bt s ((p : Int) + 3)
def num2 (s : ByteArray) (p : Nat) : Int := bt s (p : Int) * 256 + bt s ((p : Int) + 1)
def vAt (s : ByteArray) (j : Nat) : V := ⟨num4 s (4 + 6 * j), num2 s (8 + 6 * j)⟩
def vs (s : ByteArray) (m : Nat) : List V := (List.range m).map (vAt s)
theorem vs_succ (s : ByteArray) (m : Nat) : vs s (m + 1) = vs s m ++ [vAt s m] := by
  unfold vs; rw [List.range_succ, List.map_append]; rfl
theorem vs_length (s : ByteArray) (m : Nat) : (vs s m).length = m := by unfold vs; rw [List.length_map, List.length_range]
theorem get_step (s : ByteArray) (hs : s.size ≤ 1048576) (acc : Int) (i : Nat) (r : Int) (h0 : 0 ≤ acc) (h1 : acc < 1099511627776) (hi : i < s.size) (k : Ev (fun k => cat_get.l0 k s (acc * 256 + bt s (i : Int)) (s.size : Int) ((i + 1 : Nat) : Int)) r) : Ev (fun k => cat_get.l0 k s acc (s.size : Int) (i : Int)) r := by
  have hb := bt_range s (i : Int)
  have e : Go.bits .or .i64 (wrap64 (acc * 256)) (wrap64 (bt s (i : Int))) = acc * 256 + bt s (i : Int) := by
    rw [w64 (x := acc * 256) (by omega) (by omega), w64 (x := bt s (i : Int)) (by omega) (by omega)]
    have := or_i64_add 8 acc (bt s (i : Int)) h0 (by omega) (by omega) (by omega) (by omega)
    rw [show acc * 256 = 2 ^ 8 * acc by omega, this]
  refine Ev.step (f := fun k => cat_get.l0 k s (acc * 256 + bt s (i : Int)) (s.size : Int) ((i + 1 : Nat) : Int)) (fun k => ?_) k
  simp only [cat_get.l0]
  rw [if_pos (by omega), if_pos (by omega), if_pos (by omega), e, w64 (x := (i : Int) + 1) (by omega) (by omega)]
  rfl
theorem get_end (s : ByteArray) (acc : Int) (i : Nat) (hi : i = s.size) : Ev (fun k => cat_get.l0 k s acc (s.size : Int) (i : Int)) acc :=
  Ev.step (f := fun _ => some acc) (fun k => by simp only [cat_get.l0]; rw [if_neg (by omega)]) (Ev.now _)
theorem get4_is (s : ByteArray) (hs : s.size = 4) : Ev (fun k => cat_get.f k s) (num4 s 0) := by
  have b0 := bt_range s 0
  have b1 := bt_range s 1
  have b2 := bt_range s 2
  have b3 := bt_range s 3
  have h := get_end s (((0 * 256 + bt s ((0 : Nat) : Int)) * 256 + bt s ((1 : Nat) : Int)) * 256 + bt s ((2 : Nat) : Int)) 3
  have : num4 s 0 = ((0 * 256 + bt s ((0 : Nat) : Int)) * 256 + bt s ((1 : Nat) : Int)) * 256 * 256 + bt s ((2 : Nat) : Int) * 256 + bt s ((3 : Nat) : Int) := by
    unfold num4
    show bt s 0 * 16777216 + bt s 1 * 65536 + bt s 2 * 256 + bt s 3 = ((0 * 256 + bt s 0) * 256 + bt s 1) * 256 * 256 + bt s 2 * 256 + bt s 3
    omega
  unfold cat_get.f
  refine get_step s (by omega) 0 0 _ (by omega) (by omega) (by omega) ?_
  refine get_step s (by omega) _ 1 _ (by show 0 ≤ 0 * 256 + bt s 0; omega) (by show 0 * 256 + bt s 0 < _; omega) (by omega) ?_
  refine get_step s (by omega) _ 2 _ (by show 0 ≤ (0 * 256 + bt s 0) * 256 + bt s 1; omega) (by show (0 * 256 + bt s 0) * 256 + bt s 1 < _; omega) (by omega) ?_
  refine get_step s (by omega) _ 3 _ (by show 0 ≤ ((0 * 256 + bt s 0) * 256 + bt s 1) * 256 + bt s 2; omega) (by show ((0 * 256 + bt s 0) * 256 + bt s 1) * 256 + bt s 2 < _; omega) (by omega) ?_
  have e : num4 s 0 = (((0 * 256 + bt s ((0 : Nat) : Int)) * 256 + bt s ((1 : Nat) : Int)) * 256 + bt s ((2 : Nat) : Int)) * 256 + bt s ((3 : Nat) : Int) := by rw [this]; omega
  rw [e]
  exact get_end s _ 4 hs.symm
theorem get2_is (s : ByteArray) (hs : s.size = 2) : Ev (fun k => cat_get.f k s) (num2 s 0) := by
  have b0 := bt_range s 0
  have b1 := bt_range s 1
  unfold cat_get.f
  refine get_step s (by omega) 0 0 _ (by omega) (by omega) (by omega) ?_
  refine get_step s (by omega) _ 1 _ (by show 0 ≤ 0 * 256 + bt s 0; omega) (by show 0 * 256 + bt s 0 < _; omega) (by omega) ?_
  have e : num2 s 0 = (0 * 256 + bt s ((0 : Nat) : Int)) * 256 + bt s ((1 : Nat) : Int) := by
    unfold num2
    show bt s 0 * 256 + bt s 1 = (0 * 256 + bt s 0) * 256 + bt s 1
    omega
  rw [e]
  exact get_end s _ 2 hs.symm
theorem num4_extract (s : ByteArray) (p q a : Nat) (h : p + a + 4 ≤ q) (hq : q ≤ s.size) : num4 (s.extract p q) a = num4 s (p + a) := by
  unfold num4
  rw [bt_extract s p q _ (by omega) (by omega) hq, bt_extract s p q _ (by omega) (by omega) hq, bt_extract s p q _ (by omega) (by omega) hq, bt_extract s p q _ (by omega) (by omega) hq]
  rw [show ((p + a : Nat) : Int) = (p : Int) + (a : Int) by omega, show (p : Int) + ((a : Int) + 1) = (p : Int) + (a : Int) + 1 by omega, show (p : Int) + ((a : Int) + 2) = (p : Int) + (a : Int) + 2 by omega, show (p : Int) + ((a : Int) + 3) = (p : Int) + (a : Int) + 3 by omega]
theorem num2_extract (s : ByteArray) (p q a : Nat) (h : p + a + 2 ≤ q) (hq : q ≤ s.size) : num2 (s.extract p q) a = num2 s (p + a) := by
  unfold num2
  rw [bt_extract s p q _ (by omega) (by omega) hq, bt_extract s p q _ (by omega) (by omega) hq]
  rw [show ((p + a : Nat) : Int) = (p : Int) + (a : Int) by omega, Int.add_assoc]
def decE (s : ByteArray) : Bool := decide (s.size < 4) || decide ((s.size - 4) % 6 ≠ 0) || !(rightB (num4 s 0) (vs s ((s.size - 4) / 6)))
theorem decode_loop (s : ByteArray) (hs : s.size ≤ 1048576) (m : Nat) (hm : s.size = 4 + 6 * m) (n : Int) : ∀ (d j : Nat), m = j + d → Ev (fun k => cat_Decode.l0 k (s.extract (4 + 6 * j) s.size) n (vs s j)) (if rightB n (vs s m) = true then (n, vs s m, 0) else (0, [], 2)) := by
  intro d
  induction d with
  | zero =>
    intro j hj
    obtain rfl : m = j := by omega
    have he : (s.extract (4 + 6 * m) s.size).toList = [] := by
      have h0 : (s.extract (4 + 6 * m) s.size).size = 0 := by rw [ByteArray.size_extract]; omega
      have : (s.extract (4 + 6 * m) s.size) = ByteArray.empty := ByteArray.ext (by apply Array.eq_empty_of_size_eq_zero; exact h0)
      rw [this]; decide +kernel
    refine Ev.step (f := fun k => (cat_Right.f k n (vs s m)).bind fun t => if t = true then some (n, vs s m, 0) else some (0, [], 2)) (fun k => by simp only [cat_Decode.l0]; rw [if_pos he]) ?_
    refine Ev.bind (right_is n _ (by rw [vs_length]; omega)) ?_
    cases rightB n (vs s m) with
    | true => exact Ev.ifp rfl (Ev.now _)
    | false => exact Ev.ifn (by decide) (Ev.now _)
  | succ d ih =>
    intro j hj
    have hz : (s.extract (4 + 6 * j) s.size).size = 6 * (d + 1) := by rw [ByteArray.size_extract]; omega
    have hne : ¬ (s.extract (4 + 6 * j) s.size).toList = [] := by
      intro h
      have := congrArg List.length h
      rw [show (s.extract (4 + 6 * j) s.size).toList.length = (s.extract (4 + 6 * j) s.size).size by rw [ByteArray.toList_eq, Array.length_toList]; rfl] at this
      rw [hz] at this
      simp at this
    have e6 : (s.extract (4 + 6 * j) s.size).extract 6 (s.extract (4 + 6 * j) s.size).size = s.extract (4 + 6 * (j + 1)) s.size := by
      rw [hz, ByteArray.extract_extract]
      congr 1
      omega
    refine Ev.step (f := fun k => (cat_get.f k ((s.extract (4 + 6 * j) s.size).extract 0 4)).bind fun a => (cat_get.f k ((s.extract (4 + 6 * j) s.size).extract 4 6)).bind fun b => cat_Decode.l0 k (s.extract (4 + 6 * (j + 1)) s.size) n (vs s j ++ [⟨a, b⟩])) (fun k => ?_) ?_
    · simp only [cat_Decode.l0]
      rw [if_neg hne, if_pos (by decide), if_pos (by omega)]
      congr 1
      funext a
      rw [if_pos (by decide), if_pos (by omega)]
      congr 1
      funext b
      rw [if_pos (by rw [vs_length]; omega), e6]
    · have g4 : num4 ((s.extract (4 + 6 * j) s.size).extract 0 4) 0 = num4 s (4 + 6 * j) := by
        rw [num4_extract _ 0 4 0 (by omega) (by omega), num4_extract s _ _ _ (by omega) (by omega)]; rfl
      have g2 : num2 ((s.extract (4 + 6 * j) s.size).extract 4 6) 0 = num2 s (8 + 6 * j) := by
        rw [num2_extract _ 4 6 0 (by omega) (by omega), num2_extract s _ _ _ (by omega) (by omega), show 4 + 6 * j + 4 = 8 + 6 * j by omega]
      have G4 := get4_is ((s.extract (4 + 6 * j) s.size).extract 0 4) (by rw [ByteArray.size_extract]; omega)
      have G2 := get2_is ((s.extract (4 + 6 * j) s.size).extract 4 6) (by rw [ByteArray.size_extract]; omega)
      rw [g4] at G4
      rw [g2] at G2
      have := ih (j + 1) (by omega)
      rw [vs_succ] at this
      generalize (s.extract (4 + 6 * j) s.size).extract 0 4 = sa at *
      generalize (s.extract (4 + 6 * j) s.size).extract 4 6 = sb at *
      exact Ev.bind G4 (Ev.bind G2 this)
theorem decode_is (s : ByteArray) (hs : s.size ≤ 1048576) : Ev (fun k => cat_Decode.f k s) (if decE s = true then (0, [], 2) else (num4 s 0, vs s ((s.size - 4) / 6), 0)) := by
  have out : Ev (fun k => cat_Decode.j0 k s true) (0, [], 2) := Ev.step (f := fun _ => some (0, [], 2)) (fun k => by simp [cat_Decode.j0]) (Ev.now _)
  unfold cat_Decode.f decE
  by_cases h4 : s.size < 4
  · rw [decide_eq_true h4]
    exact Ev.ifp (by omega) out
  · refine Ev.ifn (by omega) ?_
    have et : (Int.tmod (wrap64 ((s.size : Int) - 4)) 6) = (((s.size - 4) % 6 : Nat) : Int) := by
      rw [w64 (by omega) (by omega), show (s.size : Int) - 4 = ((s.size - 4 : Nat) : Int) by omega]; rfl
    rw [et, decide_eq_false h4, Bool.false_or]
    by_cases h6 : (s.size - 4) % 6 = 0
    · rw [h6]
      have hm : s.size = 4 + 6 * ((s.size - 4) / 6) := by omega
      have := decode_loop s hs _ hm (num4 s 0) ((s.size - 4) / 6) 0 (by omega)
      refine Ev.step (f := fun k => (cat_get.f k (s.extract 0 4)).bind fun t => cat_Decode.l0 k (s.extract 4 s.size) t []) (fun k => ?_) ?_
      · simp only [cat_Decode.j0]
        rw [if_neg (by decide), if_pos (by decide), if_pos (by omega)]
      · have g := get4_is (s.extract 0 4) (by rw [ByteArray.size_extract]; omega)
        rw [num4_extract s 0 4 0 (by omega) (by omega)] at g
        refine Ev.bind g ?_
        cases hr : rightB (num4 s 0) (vs s ((s.size - 4) / 6)) with
        | true => rw [hr, if_pos rfl] at this; exact this
        | false => rw [hr, if_neg (by decide)] at this; exact this
    · have hb : ((((s.size - 4) % 6 : Nat) : Int) != 0) = true := by rw [bne_iff_ne]; omega
      rw [hb, decide_eq_true (show (s.size - 4) % 6 ≠ 0 from h6)]
      exact out
theorem number_is (s : ByteArray) (hs : 4 ≤ s.size) : astrolaberef23_number.f s = some (num4 s 0) := by
  have b0 := bt_range s 0
  have b1 := bt_range s 1
  have b2 := bt_range s 2
  have b3 := bt_range s 3
  unfold astrolaberef23_number.f
  rw [if_pos (by omega), if_pos (by omega), if_pos (by omega), if_pos (by omega), or4 _ _ _ _ (by omega) (by omega) (by omega) (by omega) (by omega) (by omega) (by omega) (by omega)]
  rfl
theorem rdecode_loop (s : ByteArray) (hs : s.size ≤ 1048576) (m : Nat) (hm : s.size = 4 + 6 * m) (n : Int) : ∀ (d j : Nat), m = j + d → Ev (fun k => astrolaberef23_Decode.l0 k s ((4 + 6 * j : Nat) : Int) n ((vs s j).map cv)) (if rightB n (vs s m) = true then (n, (vs s m).map cv, true) else (0, [], false)) := by
  intro d
  induction d with
  | zero =>
    intro j hj
    obtain rfl : m = j := by omega
    refine Ev.step (f := fun k => (astrolaberef23_Right.f k n ((vs s m).map cv)).bind fun t => if t = true then some (n, (vs s m).map cv, true) else some (0, [], false)) (fun k => by simp only [astrolaberef23_Decode.l0]; rw [if_neg (by omega)]) ?_
    refine Ev.bind (rright_is n _ (by rw [vs_length]; omega)) ?_
    cases rightB n (vs s m) with
    | true => exact Ev.ifp rfl (Ev.now _)
    | false => exact Ev.ifn (by decide) (Ev.now _)
  | succ d ih =>
    intro j hj
    have e4 : wrap64 (((4 + 6 * j : Nat) : Int) + 4) = ((8 + 6 * j : Nat) : Int) := by rw [w64 (by omega) (by omega)]; omega
    have e5 : wrap64 (((4 + 6 * j : Nat) : Int) + 5) = ((8 + 6 * j : Nat) : Int) + 1 := by rw [w64 (by omega) (by omega)]; omega
    have e6 : wrap64 (((4 + 6 * j : Nat) : Int) + 6) = ((4 + 6 * (j + 1) : Nat) : Int) := by rw [w64 (by omega) (by omega)]; omega
    have b0 := bt_range s ((8 + 6 * j : Nat) : Int)
    have b1 := bt_range s (((8 + 6 * j : Nat) : Int) + 1)
    have hn : astrolaberef23_number.f (s.extract (4 + 6 * j) s.size) = some (num4 s (4 + 6 * j)) := by
      rw [number_is _ (by rw [ByteArray.size_extract]; omega), num4_extract s _ _ 0 (by omega) (by omega)]; rfl
    refine Ev.step (f := fun k => astrolaberef23_Decode.l0 k s ((4 + 6 * (j + 1) : Nat) : Int) n ((vs s (j + 1)).map cv)) (fun k => ?_) (ih (j + 1) (by omega))
    simp only [astrolaberef23_Decode.l0]
    rw [if_pos (by omega), if_pos (by omega), if_pos (by omega), Int.toNat_natCast, hn, Option.bind_some, e4, e5, e6]
    rw [if_pos (by omega), if_pos (by omega), if_pos (by omega), if_pos (by omega), if_pos (by rw [List.length_map, vs_length]; omega), or2 _ _ (by omega) (by omega) (by omega) (by omega), vs_succ, List.map_append]
    rfl
theorem rdecode_is (s : ByteArray) (hs : s.size ≤ 1048576) : Ev (fun k => astrolaberef23_Decode.f k s) (if decE s = true then (0, [], false) else (num4 s 0, (vs s ((s.size - 4) / 6)).map cv, true)) := by
  have out : Ev (fun k => astrolaberef23_Decode.j0 k s true) (0, [], false) := Ev.step (f := fun _ => some (0, [], false)) (fun k => by simp [astrolaberef23_Decode.j0]) (Ev.now _)
  unfold astrolaberef23_Decode.f decE
  by_cases h4 : s.size < 4
  · rw [decide_eq_true h4]
    exact Ev.ifp (by omega) out
  · refine Ev.ifn (by omega) ?_
    have et : (Int.tmod (wrap64 ((s.size : Int) - 4)) 6) = (((s.size - 4) % 6 : Nat) : Int) := by
      rw [w64 (by omega) (by omega), show (s.size : Int) - 4 = ((s.size - 4 : Nat) : Int) by omega]; rfl
    rw [et, decide_eq_false h4, Bool.false_or]
    by_cases h6 : (s.size - 4) % 6 = 0
    · rw [h6]
      have hm : s.size = 4 + 6 * ((s.size - 4) / 6) := by omega
      have := rdecode_loop s hs _ hm (num4 s 0) ((s.size - 4) / 6) 0 (by omega)
      refine Ev.step (f := fun k => (astrolaberef23_number.f s).bind fun t => astrolaberef23_Decode.l0 k s 4 t []) (fun k => ?_) ?_
      · simp only [astrolaberef23_Decode.j0]
        rw [if_neg (by decide)]
      · refine Ev.bindc (number_is s (by omega)) ?_
        cases hr : rightB (num4 s 0) (vs s ((s.size - 4) / 6)) with
        | true => rw [hr, if_pos rfl] at this; exact this
        | false => rw [hr, if_neg (by decide)] at this; exact this
    · have hb : ((((s.size - 4) % 6 : Nat) : Int) != 0) = true := by rw [bne_iff_ne]; omega
      rw [hb, decide_eq_true (show (s.size - 4) % 6 ≠ 0 from h6)]
      exact out
end Go.Proofs.Ytmggeldhdemahaa.PCat
