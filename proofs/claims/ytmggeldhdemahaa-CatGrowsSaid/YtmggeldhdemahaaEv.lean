/-
  Small words on rounds, on numbers of 64 bits, on bytes and on strings of bytes, of no program.
-/
import Derived.Test.YtmggeldhdemahaaWMore
import Derived.Laws.BitsLemmas
namespace Go.Proofs.YtmggeldhdemahaaW.PrintWords
open Go.RowKit Go.Proofs.YtmggeldhdemahaaW.PrintMore
set_option linter.unusedVariables false

theorem Ev.ifp {α : Type} {c : Prop} [Decidable c] {g f : Nat → Option α} {r : α} (h : c) (k : Ev g r) : Ev (fun n => if c then g n else f n) r := Ev.congr (fun _ => if_pos h) k
theorem Ev.ifn {α : Type} {c : Prop} [Decidable c] {g f : Nat → Option α} {r : α} (h : ¬ c) (k : Ev f r) : Ev (fun n => if c then g n else f n) r := Ev.congr (fun _ => if_neg h) k
theorem Ev.bindc {α β : Type} {g : Option α} {a : α} {f : Nat → α → Option β} {r : β} (h : g = some a) (k : Ev (fun n => f n a) r) : Ev (fun n => g.bind (f n)) r := by
  subst h
  exact k
theorem Ev.const {α : Type} {g : Option α} {r : α} (h : g = some r) : Ev (fun _ => g) r := ⟨0, fun _ _ => h⟩
theorem Ev.unique {α : Type} {g : Nat → Option α} {a b : α} (h : Ev g a) (k : Ev g b) : a = b := by
  obtain ⟨m, hm⟩ := h
  obtain ⟨n, hn⟩ := k
  have h1 := hm (max m n) (Nat.le_max_left _ _)
  have h2 := hn (max m n) (Nat.le_max_right _ _)
  rw [h1] at h2
  exact Option.some.inj h2
theorem w64 {x : Int} (h : -9223372036854775808 ≤ x) (h2 : x ≤ 9223372036854775807) : wrap64 x = x := by unfold wrap64; omega
theorem wf64 {x : Int} (h : (Lit.int .i64 x).wf = true) : -9223372036854775808 ≤ x ∧ x ≤ 9223372036854775807 := by
  simp [Lit.wf, IntKind.min, IntKind.max, IntKind.bits, IntKind.signed] at h
  omega
theorem or_nat_add (a b j : Nat) (hb : b < 2 ^ j) : 2 ^ j * a ||| b = 2 ^ j * a + b := (Nat.two_pow_add_eq_or_of_lt hb a).symm
theorem wraps_i64 (n : Int) (h0 : 0 ≤ n) (h1 : n < 2 ^ 63) : IntKind.i64.wrap n = n := by rw [IntKind.wrap_i64]; omega
theorem bits_or_i64_nat (a b : Nat) (ha : a < 2 ^ 63) (hb : b < 2 ^ 63) : bits .or .i64 (a : Int) (b : Int) = ((a ||| b : Nat) : Int) :=
  (bits_nat .i64 63 (by decide) wraps_i64 a b ha hb).2
/-- A number that ends in j bits of nought, or one of at most j bits. -/
theorem or_i64_add (j : Nat) (x y : Int) (hx : 0 ≤ x) (hx2 : 2 ^ j * x < 2 ^ 63) (hy : 0 ≤ y) (hy2 : y < 2 ^ j) (hj : j ≤ 62) : bits .or .i64 (2 ^ j * x) y = 2 ^ j * x + y := by
  obtain ⟨a, rfl⟩ := Int.eq_ofNat_of_zero_le hx
  obtain ⟨b, rfl⟩ := Int.eq_ofNat_of_zero_le hy
  have hb : b < 2 ^ j := by exact_mod_cast hy2
  have hp : 2 ^ j ≤ 2 ^ 62 := Nat.pow_le_pow_right (by decide) hj
  have e : (2 : Int) ^ j * (a : Int) = ((2 ^ j * a : Nat) : Int) := by push_cast; rfl
  rw [e] at hx2 ⊢
  rw [bits_or_i64_nat _ _ (by exact_mod_cast hx2) (Nat.lt_of_lt_of_le hb (Nat.le_trans hp (by decide))), or_nat_add a b j hb]
  push_cast
  rfl
theorem strOfNums_append (a b : List Int) : strOfNums (a ++ b) = strOfNums a ++ strOfNums b := by
  apply ByteArray.ext
  simp [strOfNums]
theorem strOfNums_size (a : List Int) : (strOfNums a).size = a.length := by simp [strOfNums, ByteArray.size]
theorem strOfNums_nil : strOfNums [] = ⟨#[]⟩ := rfl
theorem bt_strOfNums (a : List Int) (i : Int) (h0 : 0 ≤ i) (h : i < (a.length : Int)) (hb : ∀ x ∈ a, 0 ≤ x ∧ x < 256) : bt (strOfNums a) i = rd a i := by
  have hi : i.toNat < a.length := by omega
  have hs : i.toNat < (strOfNums a).size := by rw [strOfNums_size]; exact hi
  unfold bt rd
  rw [dif_pos hs]
  have hm := hb _ (List.getElem_mem hi)
  have e1 : (strOfNums a)[i.toNat] = UInt8.ofNat (a[i.toNat]).toNat := by
    show (strOfNums a).data[i.toNat] = _
    simp [strOfNums]
  rw [e1, List.getD_eq_getElem?_getD, List.getElem?_eq_getElem hi, Option.getD_some]
  simp
  omega
theorem bt_extract (s : ByteArray) (p q : Nat) (j : Int) (h0 : 0 ≤ j) (h : (p : Int) + j < (q : Int)) (hq : q ≤ s.size) : bt (s.extract p q) j = bt s ((p : Int) + j) := by
  have hj : j.toNat < (s.extract p q).size := by rw [ByteArray.size_extract]; omega
  have hk : ((p : Int) + j).toNat < s.size := by omega
  unfold bt
  rw [dif_pos hj, dif_pos hk]
  have e : ((p : Int) + j).toNat = p + j.toNat := by omega
  congr 2
  rw [ByteArray.getElem_extract]
  congr 1
  omega
end Go.Proofs.YtmggeldhdemahaaW.PrintWords
