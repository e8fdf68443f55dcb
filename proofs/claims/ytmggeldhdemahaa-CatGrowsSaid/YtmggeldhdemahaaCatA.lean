/-
  Versions' lists, in plain words: what is right, and the bytes of one; the program's own functions say just that.
-/
import Derived.Test.YtmggeldhdemahaaPCatx3
import Derived.Test.YtmggeldhdemahaaEv
namespace Go.Proofs.Ytmggeldhdemahaa.PCat
open Go.RowKit Go.Proofs.YtmggeldhdemahaaW.PrintWords Go.Proofs.YtmggeldhdemahaaW.PrintLast Go.Proofs.YtmggeldhdemahaaW.PrintMore
set_option linter.unusedVariables false

abbrev V := S46
theorem rd_at {l : List V} {i : Nat} {v : V} {r : List V} (h : l.drop i = v :: r) : i < l.length ∧ rd_T46 l (i : Int) = v ∧ l.drop (i + 1) = r := by
  have hi : i < l.length := by
    rcases Nat.lt_or_ge i l.length with h1 | h1
    · exact h1
    · rw [List.drop_eq_nil_of_le h1] at h; cases h
  rw [List.drop_eq_getElem_cons hi] at h
  injection h with h1 h2
  exact ⟨hi, by unfold rd_T46; rw [Int.toNat_natCast, List.getD_eq_getElem?_getD, List.getElem?_eq_getElem hi, Option.getD_some]; exact h1, h2⟩
theorem drop_end {α : Type} {l : List α} {i : Nat} (h : l.drop i = []) : l.length ≤ i := by
  rcases Nat.lt_or_ge i l.length with h1 | h1
  · rw [List.drop_eq_getElem_cons h1] at h; cases h
  · exact h1

def rootB (r : Int) : Bool := decide (r = 0 ∨ (2 ≤ r ∧ r ≤ 511))
theorem root_is (r : Int) : cat_root.f r = some (rootB r) := by
  unfold cat_root.f rootB
  split
  · rename_i h; simp [h]
  · rename_i h
    split
    · rename_i h2; simp only [Option.some.injEq, decide_eq_decide]; omega
    · rename_i h2; simp only [Option.some.injEq]; exact (decide_eq_false (by omega)).symm
def goodL : Int → Int → List V → Bool
  | _, _, [] => true
  | last, next, v :: r => decide (last < v.f0) && (decide (v.f0 < next) && (rootB v.f1 && goodL v.f0 next r))
def rightB (n : Int) (l : List V) : Bool := decide (1 ≤ n) && (decide (n ≤ 16777216) && (decide (l.length ≤ 12) && goodL 0 n l))
theorem right_loop (l : List V) (hl : l.length ≤ 4611686018427387904) (n : Int) : ∀ (r : List V) (i : Nat) (last : Int), l.drop i = r → Ev (fun k => cat_Right.l0 k last l (l.length : Int) (i : Int) n l) (goodL last n r) := by
  intro r
  induction r with
  | nil =>
    intro i last h
    have hi := drop_end h
    exact Ev.step (f := fun _ => some true) (fun k => by simp only [cat_Right.l0]; rw [if_neg (by omega)]) (Ev.now _)
  | cons v r ih =>
    intro i last h
    obtain ⟨hi, hv, hr⟩ := rd_at h
    refine Ev.step (f := fun k => if v.f0 ≤ last then some false else if v.f0 ≥ n then some false else (cat_root.f v.f1).bind fun t => if t = true then cat_Right.l0 k v.f0 l (l.length : Int) (wrap64 ((i : Int) + 1)) n l else some false)
      (fun k => by simp only [cat_Right.l0]; rw [if_pos (by omega), if_pos (by omega), if_pos (by omega), hv]) ?_
    have e : wrap64 ((i : Int) + 1) = ((i + 1 : Nat) : Int) := by rw [w64 (by omega) (by omega)]; rfl
    rw [e]
    unfold goodL
    by_cases h1 : v.f0 ≤ last
    · refine Ev.ifp h1 ?_
      rw [decide_eq_false (by omega), Bool.false_and]
      exact Ev.now _
    · refine Ev.ifn h1 ?_
      rw [decide_eq_true (show last < v.f0 by omega), Bool.true_and]
      by_cases h2 : v.f0 ≥ n
      · refine Ev.ifp h2 ?_
        rw [decide_eq_false (by omega), Bool.false_and]
        exact Ev.now _
      · refine Ev.ifn h2 ?_
        rw [decide_eq_true (show v.f0 < n by omega), Bool.true_and]
        refine Ev.bindc (root_is _) ?_
        cases hb : rootB v.f1 with
        | true => exact Ev.ifp rfl (by rw [Bool.true_and]; exact ih (i + 1) v.f0 hr)
        | false => exact Ev.ifn (by decide) (Ev.now _)
theorem right_is (n : Int) (l : List V) (hl : l.length ≤ 4611686018427387904) : Ev (fun k => cat_Right.f k n l) (rightB n l) := by
  have out : ∀ n, Ev (fun k => cat_Right.j0 k true n l) false := fun n => Ev.step (f := fun _ => some false) (fun k => by simp [cat_Right.j0]) (Ev.now _)
  unfold cat_Right.f rightB
  by_cases h1 : n < 1
  · rw [decide_eq_false (show ¬ 1 ≤ n by omega), Bool.false_and]
    exact Ev.ifp h1 (out n)
  · refine Ev.ifn h1 ?_
    rw [decide_eq_true (show 1 ≤ n by omega), Bool.true_and]
    by_cases h2 : n > 16777216
    · rw [decide_eq_false (show ¬ n ≤ 16777216 by omega), Bool.false_and]
      exact Ev.ifp h2 (out n)
    · refine Ev.ifn h2 ?_
      rw [decide_eq_true (show n ≤ 16777216 by omega), Bool.true_and]
      by_cases h3 : (l.length : Int) > 12
      · rw [decide_eq_true h3, decide_eq_false (show ¬ l.length ≤ 12 by omega), Bool.false_and]
        exact out n
      · rw [decide_eq_false h3, decide_eq_true (show l.length ≤ 12 by omega), Bool.true_and]
        exact Ev.step (f := fun k => cat_Right.l0 k 0 l (l.length : Int) 0 n l) (fun k => by simp [cat_Right.j0]) (right_loop l hl n l 0 0 rfl)

/-! ### bytes -/
def be : Nat → Int → List Int
  | 0, _ => []
  | m + 1, x => (x / 2 ^ (8 * m)) % 256 :: be m x
theorem be_length (m : Nat) (x : Int) : (be m x).length = m := by
  induction m with
  | zero => rfl
  | succ m ih => rw [be, List.length_cons, ih]
theorem be_range (m : Nat) (x : Int) : ∀ y ∈ be m x, 0 ≤ y ∧ y < 256 := by
  induction m with
  | zero => intro y h; cases h
  | succ m ih =>
    intro y h
    rw [be] at h
    rcases List.mem_cons.1 h with h | h
    · rw [h]; omega
    · exact ih y h
theorem put_bytes (L : List Int) (hL : L.length ≤ 1000) (p : Nat) (x : Int) (hx : rd L ((p : Int) + 1) = x) (hp : p + 1 < L.length) : ∀ (m : Nat) (out : List Int) (r : ByteArray), m ≤ 8 → out.length + m ≤ 1000000 → Ev (fun k => cat_put.l0 k L (out ++ be m x) ((p : Int) + 2)) r → Ev (fun k => cat_put.l1 k L out (p : Int) ((m : Int) - 1)) r := by
  intro m
  induction m with
  | zero =>
    intro out r _ _ h
    refine Ev.step (f := fun k => cat_put.l0 k L out ((p : Int) + 2)) (fun k => ?_) (by simpa [be] using h)
    simp only [cat_put.l1]
    rw [if_neg (by omega), w64 (by omega) (by omega)]
  | succ m ih =>
    intro out r hm ho h
    refine Ev.step (f := fun k => cat_put.l1 k L (out ++ [(x / 2 ^ (8 * m)) % 256]) (p : Int) ((m : Int) - 1)) (fun k => ?_) (ih _ r (by omega) (by rw [List.length_append, List.length_singleton]; omega) (by rw [List.append_assoc]; exact h))
    simp only [cat_put.l1]
    have e1 : wrap64 ((p : Int) + 1) = (p : Int) + 1 := w64 (by omega) (by omega)
    have e2 : wrap64 (8 * (((m + 1 : Nat) : Int) - 1)) = ((8 * m : Nat) : Int) := by rw [w64 (by omega) (by omega)]; omega
    have e3 : wrap64 (((m + 1 : Nat) : Int) - 1 - 1) = (m : Int) - 1 := by rw [w64 (by omega) (by omega)]; omega
    have e4 : shr .i64 x ((8 * m : Nat) : Int) = x / 2 ^ (8 * m) := by
      unfold shr
      rw [Int.toNat_natCast, Nat.min_eq_left (by show 8 * m ≤ 64; omega)]
    rw [if_pos (by omega), e1, if_pos (by omega), if_pos (by omega), e2, if_pos (by omega), if_pos (by omega), hx, e3, e4]
theorem rd_drop {L : List Int} {p : Nat} {x : Int} {r : List Int} (h : L.drop p = x :: r) : p < L.length ∧ rd L (p : Int) = x ∧ L.drop (p + 1) = r := by
  have hi : p < L.length := by
    rcases Nat.lt_or_ge p L.length with h1 | h1
    · exact h1
    · rw [List.drop_eq_nil_of_le h1] at h; cases h
  rw [List.drop_eq_getElem_cons hi] at h
  injection h with h1 h2
  exact ⟨hi, by unfold rd; rw [Int.toNat_natCast, List.getD_eq_getElem?_getD, List.getElem?_eq_getElem hi, Option.getD_some]; exact h1, h2⟩
theorem put_pair (L : List Int) (hL : L.length ≤ 1000) (p m : Nat) (x : Int) (rest out : List Int) (r : ByteArray) (h : L.drop p = (m : Int) :: x :: rest) (hm : m ≤ 8) (ho : out.length + m ≤ 1000000) (k : Ev (fun k => cat_put.l0 k L (out ++ be m x) ((p + 2 : Nat) : Int)) r) : Ev (fun k => cat_put.l0 k L out (p : Int)) r := by
  obtain ⟨h1, h2, h3⟩ := rd_drop h
  obtain ⟨h4, h5, h6⟩ := rd_drop h3
  have e1 : wrap64 ((p : Int) + 1) = (p : Int) + 1 := w64 (by omega) (by omega)
  refine Ev.step (f := fun k => cat_put.l1 k L out (p : Int) ((m : Int) - 1)) (fun k => ?_) (put_bytes L hL p x (by exact_mod_cast h5) h4 m out r hm ho (by exact_mod_cast k))
  simp only [cat_put.l0]
  rw [e1, if_pos (by omega), if_pos (by omega), if_pos (by omega), h2, w64 (by omega) (by omega)]
theorem put_end (L : List Int) (p : Nat) (hs : p ≤ 1000000) (out : List Int) (h : L.drop p = []) : Ev (fun k => cat_put.l0 k L out (p : Int)) (strOfNums out) := by
  have hp := drop_end h
  exact Ev.step (f := fun _ => some (strOfNums out)) (fun k => by simp only [cat_put.l0]; rw [w64 (by omega) (by omega), if_neg (by omega)]) (Ev.now _)

/-! ### a list's bytes -/
def toks (l : List V) : List Int := l.flatMap fun v => [4, v.f0, 2, v.f1]
def encV (l : List V) : List Int := l.flatMap fun v => be 4 v.f0 ++ be 2 v.f1
theorem toks_length (l : List V) : (toks l).length = 4 * l.length := by
  induction l with
  | nil => rfl
  | cons v r ih => simp only [toks, List.flatMap_cons, List.length_append, List.length_cons, List.length_nil] at *; omega
theorem encV_length (l : List V) : (encV l).length = 6 * l.length := by
  induction l with
  | nil => rfl
  | cons v r ih => simp only [encV, List.flatMap_cons, List.length_append, be_length, List.length_cons] at *; omega
theorem encV_range (l : List V) : ∀ y ∈ encV l, 0 ≤ y ∧ y < 256 := by
  intro y h
  simp only [encV, List.mem_flatMap, List.mem_append] at h
  obtain ⟨v, _, h | h⟩ := h
  · exact be_range _ _ y h
  · exact be_range _ _ y h
theorem put_toks (L : List Int) (hL : L.length ≤ 1000) : ∀ (l : List V) (p : Nat) (out : List Int), p ≤ 1000 → L.drop p = toks l → out.length + 6 * l.length ≤ 100000 → Ev (fun k => cat_put.l0 k L out (p : Int)) (strOfNums (out ++ encV l)) := by
  intro l
  induction l with
  | nil =>
    intro p out hp h _
    rw [encV, List.flatMap_nil, List.append_nil]
    exact put_end L p (by omega) out h
  | cons v r ih =>
    intro p out hp h ho
    have hl : L.drop p = ((4 : Nat) : Int) :: v.f0 :: ((2 : Nat) : Int) :: v.f1 :: toks r := h
    have h2 : L.drop (p + 2) = ((2 : Nat) : Int) :: v.f1 :: toks r := by rw [← List.drop_drop, hl]; rfl
    have h4 : L.drop (p + 2 + 2) = toks r := by rw [← List.drop_drop, h2]; rfl
    have hlen : p + 4 ≤ L.length := by
      have := congrArg List.length hl
      rw [List.length_drop] at this
      simp only [List.length_cons] at this
      omega
    rw [List.length_cons] at ho
    refine put_pair L hL p 4 v.f0 _ out _ hl (by omega) (by omega) ?_
    refine put_pair L hL (p + 2) 2 v.f1 _ _ _ h2 (by omega) (by rw [List.length_append, be_length]; omega) ?_
    have := ih (p + 2 + 2) (out ++ be 4 v.f0 ++ be 2 v.f1) (by omega) h4 (by rw [List.length_append, List.length_append, be_length, be_length]; omega)
    rw [show out ++ encV (v :: r) = out ++ be 4 v.f0 ++ be 2 v.f1 ++ encV r by simp only [encV, List.flatMap_cons, List.append_assoc]]
    exact this
theorem put_is (n : Int) (l : List V) (hl : l.length ≤ 15) : Ev (fun k => cat_put.f k ([4, n] ++ toks l)) (strOfNums (be 4 n ++ encV l)) := by
  have hL : ([4, n] ++ toks l).length ≤ 1000 := by rw [List.length_append, toks_length]; simp only [List.length_cons, List.length_nil]; omega
  unfold cat_put.f
  refine put_pair _ hL 0 4 n (toks l) [] _ rfl (by omega) (by simp) ?_
  exact put_toks _ hL l 2 _ (by omega) rfl (by rw [List.length_append, be_length]; simp only [List.length_nil]; omega)
theorem enc_loop (l : List V) (hl : l.length ≤ 15) (s : ByteArray) : ∀ (r : List V) (i : Nat) (out : List Int), l.drop i = r → out.length ≤ 2 + 4 * i → Ev (fun k => cat_put.f k (out ++ toks r)) s → Ev (fun k => cat_Encode.l0 k out l (l.length : Int) (i : Int)) (s, 0) := by
  intro r
  induction r with
  | nil =>
    intro i out h _ k
    have hi := drop_end h
    refine Ev.step (f := fun k => (cat_put.f k out).bind fun t => some (t, 0)) (fun k => by simp only [cat_Encode.l0]; rw [if_neg (by omega)]) ?_
    exact Ev.bind (by simpa [toks] using k) (Ev.now _)
  | cons v r ih =>
    intro i out h ho k
    obtain ⟨hi, hv, hr⟩ := rd_at h
    refine Ev.step (f := fun k => cat_Encode.l0 k (out ++ [4, v.f0, 2, v.f1]) l (l.length : Int) ((i + 1 : Nat) : Int)) (fun k => ?_) (ih (i + 1) _ hr (by rw [List.length_append]; simp only [List.length_cons, List.length_nil]; omega) (by rw [List.append_assoc]; exact k))
    simp only [cat_Encode.l0, Option.bind_some]
    rw [if_pos (by omega), if_pos (by omega), if_pos (by omega), if_pos (by simp only [List.length_cons, List.length_nil]; omega), hv, w64 (by omega) (by omega)]
    rfl
theorem encode_is (n : Int) (l : List V) (hl : l.length ≤ 15) : Ev (fun k => cat_Encode.f k n l) (if rightB n l = true then (strOfNums (be 4 n ++ encV l), 0) else (⟨#[]⟩, 1)) := by
  unfold cat_Encode.f
  refine Ev.bind (right_is n l (by omega)) ?_
  cases rightB n l with
  | true => exact Ev.ifp rfl (enc_loop l hl _ l 0 [4, n] rfl (by simp) (put_is n l hl))
  | false => exact Ev.ifn (by decide) (Ev.now _)

/-! ### numbers of bytes -/
theorem be4 (x : Int) : be 4 x = [x / 16777216 % 256, x / 65536 % 256, x / 256 % 256, x % 256] := by
  simp [be]
theorem be2 (x : Int) : be 2 x = [x / 256 % 256, x % 256] := by
  simp [be]
theorem or2 (a b : Int) (ha : 0 ≤ a) (ha2 : a < 256) (hb : 0 ≤ b) (hb2 : b < 256) : Go.bits .or .i64 (wrap64 (wrap64 a * 256)) (wrap64 b) = a * 256 + b := by
  rw [w64 (x := a) (by omega) (by omega), w64 (x := a * 256) (by omega) (by omega), w64 (x := b) (by omega) (by omega)]
  have := or_i64_add 8 a b ha (by omega) hb (by omega) (by omega)
  rw [show a * 256 = 2 ^ 8 * a by omega, this]
theorem or4 (a b c d : Int) (ha : 0 ≤ a) (ha2 : a < 256) (hb : 0 ≤ b) (hb2 : b < 256) (hc : 0 ≤ c) (hc2 : c < 256) (hd : 0 ≤ d) (hd2 : d < 256) :
    Go.bits .or .i64 (Go.bits .or .i64 (Go.bits .or .i64 (wrap64 (wrap64 a * 16777216)) (wrap64 (wrap64 b * 65536))) (wrap64 (wrap64 c * 256))) (wrap64 d) = a * 16777216 + b * 65536 + c * 256 + d := by
  rw [w64 (x := a) (by omega) (by omega), w64 (x := a * 16777216) (by omega) (by omega), w64 (x := b) (by omega) (by omega), w64 (x := b * 65536) (by omega) (by omega), w64 (x := c) (by omega) (by omega), w64 (x := c * 256) (by omega) (by omega), w64 (x := d) (by omega) (by omega)]
  have h1 := or_i64_add 24 a (b * 65536) ha (by omega) (by omega) (by omega) (by omega)
  have h2 := or_i64_add 16 (a * 256 + b) (c * 256) (by omega) (by omega) (by omega) (by omega) (by omega)
  have h3 := or_i64_add 8 (a * 65536 + b * 256 + c) d (by omega) (by omega) hd (by omega) (by omega)
  rw [show a * 16777216 = 2 ^ 24 * a by omega, h1, show 2 ^ 24 * a + b * 65536 = 2 ^ 16 * (a * 256 + b) by omega, h2, show 2 ^ 16 * (a * 256 + b) + c * 256 = 2 ^ 8 * (a * 65536 + b * 256 + c) by omega, h3]
end Go.Proofs.Ytmggeldhdemahaa.PCat
