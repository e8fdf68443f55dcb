/-
  Facts of the abstract evaluator and of the functions that the law reaches, part 4. Conditions: none.
-/
import Derived.ProofKit
import Derived.Deep.Slices
import Derived.DataElems
import Derived.DataReads
import Derived.ChangeArms
import Derived.ChangeSame
import Derived.JoinedCond
import Derived.Deep.CondSized
import Derived.LaidLaws
import Derived.Test.YtmoonbjbllkdoaaDoorG3CatBack
set_option linter.unusedVariables false
set_option linter.unusedSimpArgs false
set_option linter.unnecessarySimpa false
set_option exponentiation.threshold 200000
set_option maxRecDepth 100000
set_option linter.unusedVariables false
set_option linter.unusedSimpArgs false
set_option maxRecDepth 100000
namespace Go.AM.C
open Go Go.AM Go.Proofs
attribute [local irreducible] run bin un ld st box newV mkS fldA fld ixA ix slc slc3 build buildS cv cvS ap cpy lenV gOp pickV b2 aIf aChk evalK resume iterD Option.bind

section
variable {B B0 H0 H : AH} {L : List (Nat × Blk)}
def BR (v : Value) (x : List UInt8) (Lb : List (Nat × Blk)) : Prop := (x = [] ∧ v = .slice none 0 0 ∧ Lb = []) ∨ (x ≠ [] ∧ ∃ b2, v = sl b2 0 x.length (x.length + 1) ∧ Lb = [(b2, ⟨(x.map UInt8.toNat).map u8, 5, .buf⟩)])
theorem BR.cell {v : Value} {x : List UInt8} {Lb : List (Nat × Blk)} (h : BR v x Lb) : IsCell v := by
  rcases h with ⟨_, rfl, _⟩ | ⟨_, b2, rfl, _⟩ <;> exact inferInstance
theorem BR.acc {v : Value} {x : List UInt8} {Lb : List (Nat × Blk)} (h : BR v x Lb) (hS : St H0 B0 B (Lb ++ L) H) : BAcc 5 H0 B0 B L H v (x.map UInt8.toNat) := by
  rcases h with ⟨rfl, rfl, rfl⟩ | ⟨_, b2, rfl, rfl⟩
  · exact .inl ⟨rfl, rfl, hS⟩
  · exact .inr ⟨b2, by rw [List.length_map], hS⟩
theorem BAcc.br {v : Value} {x : List UInt8} (hx : x ≠ []) (h : BAcc 5 H0 B0 B L H v (x.map UInt8.toNat)) : ∃ Lb, BR v x Lb ∧ St H0 B0 B (Lb ++ L) H := by
  rcases h with ⟨h, _⟩ | ⟨b2, rfl, hS⟩
  · exact (hx (List.map_eq_nil_iff.1 h)).elim
  · exact ⟨_, .inr ⟨hx, b2, by rw [List.length_map], rfl⟩, hS⟩
theorem WriteNil_spec {p : Nat} {c0 : Value} (hc : c0 = .pointer none ∨ c0 = ptr p 0) (hS : St H0 B0 B ((p, ⟨[c0, .slice none 0 0], 95, .fix⟩) :: L) H) :
    Ev (fun k _ => rn k 45 [ptr p 0, str []] H) (fun r => r.1 = .tuple #[i64 0, .nilIface] ∧ St H0 B0 B ((p, ⟨[ptr p 0, .slice none 0 0], 95, .fix⟩) :: L) r.2) := by
  refine Ev.fn (fun k => f45_eq k _ _ H) ?_
  refine Ev.b2 (copy_spec (rest := []) (ds := []) bldT_mem bld_sz hc (BAcc.nil hS)) fun v1 H1 h1 => ?_
  obtain ⟨h1, hA1⟩ := h1
  simp only at h1 hA1
  have hSt := hA1.st
  clear hS
  repeat (first | refine Ev.s ?_ | refine Ev.newC fun _ _ _ => ?_ | refine Ev.boxC fun _ _ _ => ?_ | refine Ev.stC fun _ _ => ?_ | refine Ev.sc (by omega) ?_ | refine Ev.scg (by omega) ?_)
  refine Ev.prim2 (v := .slice none 0 0) (H := H1) (by kernel_rfl) ?_
  repeat (first | refine Ev.s ?_ | refine Ev.newC fun _ _ _ => ?_ | refine Ev.boxC fun _ _ _ => ?_ | refine Ev.stC fun _ _ => ?_ | refine Ev.sc (by omega) ?_ | refine Ev.scg (by omega) ?_)
  refine Ev.ret ⟨rfl, ?_⟩
  assumption
abbrev rdT (b4 b5 b6 : Nat) : List Value := f28_T_R0 (ptr b4 0) (ptr b5 0) (ptr b6 0)
def textA (s : List UInt8) (a i : Nat) : List UInt8 := (s.drop (118 * a)).take (118 * (i - a))
def JR (s : List UInt8) (b b4 b5 b6 a i : Nat) (Lj : List (Nat × Blk)) : Prop := ∃ c0 v Lb, a ≤ i ∧ (c0 = .pointer none ∨ c0 = ptr b6 0) ∧ BR v (textA s a i) Lb ∧ Lj = (b, ⟨.int .i64 (0 : Nat) :: rdT b4 b5 b6, 4, .loop 28 4⟩) :: (b6, ⟨[c0, v], 95, .fix⟩) :: Lb
theorem textA_len (s : List UInt8) (a i : Nat) : (textA s a i).length ≤ s.length := by
  unfold textA
  rw [List.length_take, List.length_drop]; omega
theorem read_round {b b4 b5 b6 j a i : Nat} {s : List UInt8} (hs : s.length ≤ 60000) {B H : AH} {Lj Lx : List (Nat × Blk)} (hJ : JR s b b4 b5 b6 a i Lj) (hS : St H0 B0 B (Lj ++ Lx) H) :
    Ev (fun K _ => rn K (yOff + b) [.agg #[i64 (j + 2 + i), str (pieceT s i), .int .i64 0]] H) (fun r => r.1 = .bool true ∧ ∃ B' Lj', MoC B B' ∧ JR s b b4 b5 b6 a (i + 1) Lj' ∧ St H0 B0 B' (Lj' ++ Lx) r.2) := by
  obtain ⟨c0, v, Lb, hai, hc0, hR, rfl⟩ := hJ
  have hcell := hR.cell
  have hc0c : IsCell c0 := by rcases hc0 with rfl | rfl <;> exact inferInstance
  simp only [List.cons_append] at hS
  refine Ev.fn (fun K => f28_Y0_eq K _ _ _ _ b H (hS.get (.head _))) ?_
  repeat (first | refine Ev.s ?_ | refine Ev.newC fun _ _ _ => ?_ | refine Ev.boxC fun _ _ _ => ?_ | refine Ev.stC fun _ _ => ?_ | refine Ev.sc (by omega) ?_ | refine Ev.scg (by omega) ?_)
  rename_i bp H1 hS1 H2 hS2
  clear hS hS1
  refine Ev.setSt (c := 0) (d := 1) hS2 (.tail _ (.head _)) (.tail _ (.head _)) fun H3 hS3 => ?_
  clear hS2
  repeat (first | refine Ev.s ?_ | refine Ev.newC fun _ _ _ => ?_ | refine Ev.boxC fun _ _ _ => ?_ | refine Ev.stC fun _ _ => ?_ | refine Ev.sc (by omega) ?_ | refine Ev.scg (by omega) ?_)
  have hjoin : textA s a i ++ pieceT s i = textA s a (i + 1) := by
    unfold textA
    have := piece_join s a (i - a)
    rw [show a + (i - a) = i by omega] at this
    rw [this, show i + 1 - a = i - a + 1 by omega]
  have hl1 := textA_len s a i
  have hl2 : (pieceT s i).length ≤ 118 := by unfold pieceT; rw [List.length_take]; omega
  by_cases he : textA s a (i + 1) = []
  · have hx : textA s a i = [] := (List.append_eq_nil_iff.1 (hjoin.trans he)).1
    have hp : pieceT s i = [] := (List.append_eq_nil_iff.1 (hjoin.trans he)).2
    rcases hR with ⟨_, rfl, rfl⟩ | ⟨h, _⟩
    case inr => exact (h hx).elim
    rw [hp]
    have hS4 : St H0 B0 B ((b6, ⟨[c0, .slice none 0 0], 95, .fix⟩) :: (bp, _) :: (b, _) :: Lx) H3 := hS3.perm (by
      refine List.Perm.symm ?_
      exact (List.Perm.cons _ (List.Perm.swap _ _ _)).trans (List.Perm.swap _ _ _))
    refine Ev.b2 (WriteNil_spec hc0 hS4) ?_
    rintro _ H5 ⟨rfl, hS5⟩
    dsimp only at hS5
    refine Ev.setSt (c := 1) (d := 0) hS5 (.tail _ (.tail _ (.head _))) (.tail _ (.tail _ (.head _))) fun H8 hS8 => ?_
    refine Ev.ret ⟨rfl, B, _, ⟨Mo.refl B⟩, ⟨ptr b6 0, .slice none 0 0, [], by omega, .inr rfl, .inl ⟨he, rfl, rfl⟩, rfl⟩, ?_⟩
    have h9 := hS8.perm (List.Perm.swap _ _ _)
    exact h9.drop1.perm (List.Perm.swap _ _ _)
  · have hS4 := hS3.perm (perm3 _ _ _ Lb Lx)
    have hA := hR.acc hS4
    refine Ev.b2 (WriteString_spec (l := pieceT s i) (rest := []) bldT_mem bld_sz hc0 (by rw [List.length_map]; omega) hA) ?_
    rintro v5 H5 ⟨_, v', B5, hm5, hA5⟩
    dsimp only at hA5
    rw [← List.map_append, hjoin] at hA5
    obtain ⟨Lb', hR', hS5⟩ := BAcc.br he hA5
    have hS6 := St.perm hS5 (permB4 _ _ _ Lb' Lx)
    refine Ev.setSt (c := 1) (d := 0) hS6 (.head _) (.head _) fun H8 hS8 => ?_
    refine Ev.ret ⟨rfl, B5, _, hm5, ⟨ptr b6 0, v', Lb', by omega, .inr rfl, hR', rfl⟩, ?_⟩
    exact hS8.drop (.cons_cons _ (.cons_cons _ (.cons _ (List.Sublist.refl _))))
theorem bRead_spec {p dv m j k a : Nat} {D : Dsk} {s : List UInt8} {G : Pgr} {Ls : List (Nat × Blk)} (hU : D.Up (2 * m)) (hm2 : m ≤ 512) (hc : D.cache.length < 1000000) (hd : G.down = false) (hH : D.Has s j k) (hjm : j + 2 + k ≤ m) (ha : a < k) (hs : s.length ≤ 60000) (hsk : s.length ≤ 118 * k) (hP : PK (ptr p 0) (ptr dv 0) G D Ls) (hS : St H0 B0 B (Ls ++ L) H) :
    Ev (fun K _ => rn K 28 [ptr p 0, i64 (j + 2 + a)] H) (fun r => ∃ B' Ls', r.1 = .tuple #[str (s.drop (118 * a)), .int .i64 0] ∧ MoC B B' ∧ PK (ptr p 0) (ptr dv 0) G D Ls' ∧ St H0 B0 B' (Ls' ++ L) r.2) := by
  refine Ev.fn (fun K => f28_eq K _ _ H) ?_
  repeat (first | refine Ev.s ?_ | refine Ev.newC fun _ _ _ => ?_ | refine Ev.boxC fun _ _ _ => ?_ | refine Ev.stC fun _ _ => ?_ | refine Ev.sc (by omega) ?_ | refine Ev.scg (by omega) ?_)
  rename_i b4 H1 hS1 b5 H2 hS2 b6 H3 hS3
  clear hS hS1 hS2
  refine Ev.b2 (Q1 := fun r => ∃ x1 x2, r.1 = .func (.func 53) #[] #[ptr x1 0, ptr x2 0] ∧ St H0 B0 B ((x1, ⟨[i64 (j + 2 + a)], 3, .fix⟩) :: (x2, ⟨[ptr p 0], 31, .fix⟩) :: (b6, ⟨[.pointer none, .slice none 0 0], 95, .fix⟩) :: (b5, ⟨[.int .i64 0], 28, .fix⟩) :: (b4, ⟨[.string ByteArray.empty], 9, .fix⟩) :: (Ls ++ L)) r.2)
    (Ev.fn (fun K => f44_eq K _ _ H3) ?_) ?_
  · repeat (first | refine Ev.s ?_ | refine Ev.newC fun _ _ _ => ?_ | refine Ev.boxC fun _ _ _ => ?_ | refine Ev.stC fun _ _ => ?_ | refine Ev.sc (by omega) ?_ | refine Ev.scg (by omega) ?_)
    rename_i x2 H4 hS4 x1 H5 hS5
    exact Ev.ret ⟨x1, x2, rfl, hS5⟩
  rintro _ H4 ⟨x1, x2, rfl, hS4⟩
  clear hS3
  dsimp only at hS4
  simp only [callV_fn (show 53 < yOff by unfold yOff; omega), List.nil_append, List.cons_append]
  have hS5 := hS4.mkB' (.int .i64 (0 : Nat) :: rdT b4 b5 b6) 4 (.loop 28 4)
  clear hS4
  generalize hbb : H4.length = b at hS5 ⊢
  generalize hHH : mkB H4 (.int .i64 (0 : Nat) :: rdT b4 b5 b6) 4 (.loop 28 4) = H5 at hS5 ⊢
  have e5 : mkB H4 (.int .i64 0 :: f28_T_R0 (ptr b4 0) (ptr b5 0) (ptr b6 0)) 4 (.loop 28 4) = H5 := hHH
  try rw [e5]
  refine Ev.b2 (Q1 := fun r => ∃ B' Ls' Lj', MoC B B' ∧ PK (ptr p 0) (ptr dv 0) G D Ls' ∧ JR s b b4 b5 b6 a k Lj' ∧ St H0 B0 B' (Ls' ++ (Lj' ++ ((b5, ⟨[.int .i64 0], 28, .fix⟩) :: (b4, ⟨[.string ByteArray.empty], 9, .fix⟩) :: L))) r.2)
    (Ev.fn (fun K => f53_eq K _ _ _ H5) ?_) ?_
  · repeat (first | refine Ev.s ?_ | refine Ev.newC fun _ _ _ => ?_ | refine Ev.boxC fun _ _ _ => ?_ | refine Ev.stC fun _ _ => ?_ | refine Ev.sc (by omega) ?_ | refine Ev.scg (by omega) ?_)
    have hS6 : St H0 B0 B (Ls ++ ((x2, ⟨[ptr p 0], 31, .fix⟩) :: ([] ++ (([(b, ⟨.int .i64 (0 : Nat) :: rdT b4 b5 b6, 4, .loop 28 4⟩), (b6, ⟨[.pointer none, .slice none 0 0], 95, .fix⟩)] ++ ((b5, ⟨[.int .i64 0], 28, .fix⟩) :: (b4, ⟨[.string ByteArray.empty], 9, .fix⟩) :: L)))))) H5 := by
      have h6 : St H0 B0 B ((b, ⟨.int .i64 (0 : Nat) :: rdT b4 b5 b6, 4, .loop 28 4⟩) :: (x2, ⟨[ptr p 0], 31, .fix⟩) :: (b6, ⟨[.pointer none, .slice none 0 0], 95, .fix⟩) :: (b5, ⟨[.int .i64 0], 28, .fix⟩) :: (b4, ⟨[.string ByteArray.empty], 9, .fix⟩) :: (Ls ++ L)) H5 := hS5.drop (.cons_cons _ (.cons _ (List.Sublist.refl _)))
      have h7 : St H0 B0 B ((x2, ⟨[ptr p 0], 31, .fix⟩) :: (b, ⟨.int .i64 (0 : Nat) :: rdT b4 b5 b6, 4, .loop 28 4⟩) :: (b6, ⟨[.pointer none, .slice none 0 0], 95, .fix⟩) :: (b5, ⟨[.int .i64 0], 28, .fix⟩) :: (b4, ⟨[.string ByteArray.empty], 9, .fix⟩) :: (Ls ++ L)) H5 := h6.perm (List.Perm.swap _ _ _)
      exact h7.perm (permA [_, _, _, _, _] Ls L)
    have h0 : textA s a a = [] := by unfold textA; simp
    refine Ev.bind (Ev.loop (parts_loop (J := JR s b b4 b5 b6 a) hU hm2 hc hd hH hjm (fun i hi B H Lj Lx hJ hS => read_round hs hJ hS) (k - a - 1) 0 B H5 Ls [] _ (.slice none 0 0) (by omega) hP FRS.nil ⟨.pointer none, .slice none 0 0, [], by omega, .inl rfl, .inl ⟨h0, rfl, rfl⟩, rfl⟩ hS6)) ?_
    rintro _ ⟨B', Ls', Lj', H', rfl, hm', hP', hJ', hS'⟩
    refine Ev.eq (fun K _ => f53_A0_ret K H') ?_
    exact Ev.ret ⟨B', Ls', Lj', hm', hP', hJ', hS'⟩
  rintro v H6 ⟨B6, Ls6, Lj6, hm6, hP6, ⟨c0, ov, Lb, hai, hc0, hR, rfl⟩, hS6⟩
  dsimp only at hS6
  clear hS5
  have htx : textA s a k = s.drop (118 * a) := by
    unfold textA
    rw [List.take_of_length_le (by rw [List.length_drop]; omega)]
  rw [htx] at hR
  have hcell := hR.cell
  have hc0c : IsCell c0 := by rcases hc0 with rfl | rfl <;> exact inferInstance
  have hS7 : St H0 B0 B6 ((b, ⟨.int .i64 (xSt .normal : Nat) :: rdT b4 b5 b6, 4, .loop 28 4⟩) :: (b6, ⟨[c0, ov], 95, .fix⟩) :: (b5, ⟨[.int .i64 0], 28, .fix⟩) :: (b4, ⟨[.string ByteArray.empty], 9, .fix⟩) :: (Lb ++ (Ls6 ++ L))) H6 := by
    have h7 : St H0 B0 B6 ((b, ⟨.int .i64 (xSt .normal : Nat) :: rdT b4 b5 b6, 4, .loop 28 4⟩) :: (b6, ⟨[c0, ov], 95, .fix⟩) :: (Lb ++ (Ls6 ++ ((b5, ⟨[.int .i64 0], 28, .fix⟩) :: (b4, ⟨[.string ByteArray.empty], 9, .fix⟩) :: L)))) H6 := hS6.perm (permA Ls6 ((b, _) :: (b6, _) :: Lb) ((b5, _) :: (b4, _) :: L))
    refine h7.perm (List.Perm.cons _ (List.Perm.cons _ ?_))
    have e1 : ((b5, ⟨[.int .i64 0], 28, .fix⟩) :: (b4, ⟨[.string ByteArray.empty], 9, .fix⟩) :: (Lb ++ (Ls6 ++ L)) : List (Nat × Blk)) = [(b5, ⟨[.int .i64 0], 28, .fix⟩), (b4, ⟨[.string ByteArray.empty], 9, .fix⟩)] ++ ((Lb ++ Ls6) ++ L) := by simp
    have e2 : (Lb ++ (Ls6 ++ ((b5, ⟨[.int .i64 0], 28, .fix⟩) :: (b4, ⟨[.string ByteArray.empty], 9, .fix⟩) :: L)) : List (Nat × Blk)) = (Lb ++ Ls6) ++ ([(b5, ⟨[.int .i64 0], 28, .fix⟩), (b4, ⟨[.string ByteArray.empty], 9, .fix⟩)] ++ L) := by simp
    rw [e1, e2]
    exact permA (Lb ++ Ls6) [_, _] L
  clear hS6
  refine Ev.rgBack (e := .normal) hS7 fun H8 hS8 => ?_
  clear hS7
  refine Ev.eq (fun K _ => f28_B0_normal K _ _ _ H8) ?_
  refine Ev.b2 (Q1 := fun r => r.1 = str (s.drop (118 * a)) ∧ St H0 B0 B6 ((b6, ⟨[c0, ov], 95, .fix⟩) :: (b5, ⟨[.int .i64 0], 28, .fix⟩) :: (b4, ⟨[.string ByteArray.empty], 9, .fix⟩) :: (Ls6 ++ L)) r.2) ?_ ?_
  · rcases hR with ⟨h0, rfl, rfl⟩ | ⟨h0, b2, rfl, rfl⟩
    · rw [h0]
      refine Ev.fn (fun k => f46_eq k _ H8) ?_
      repeat (first | refine Ev.s ?_ | refine Ev.newC fun _ _ _ => ?_ | refine Ev.boxC fun _ _ _ => ?_ | refine Ev.stC fun _ _ => ?_ | refine Ev.sc (by omega) ?_ | refine Ev.scg (by omega) ?_)
      refine Ev.prim (show sdV (.slice none 0 0) = some (.pointer none) from rfl) ?_
      repeat (first | refine Ev.s ?_ | refine Ev.newC fun _ _ _ => ?_ | refine Ev.boxC fun _ _ _ => ?_ | refine Ev.stC fun _ _ => ?_ | refine Ev.sc (by omega) ?_ | refine Ev.scg (by omega) ?_)
      refine Ev.prim2 (v := str []) (H := H8) (by kernel_rfl) ?_
      exact Ev.ret ⟨rfl, hS8⟩
    · have hS9 : St H0 B0 B6 ((b2, ⟨((s.drop (118 * a)).map UInt8.toNat).map u8, 5, .buf⟩) :: (b6, ⟨[c0, sl b2 0 (s.drop (118 * a)).length ((s.drop (118 * a)).length + 1)], 95, .fix⟩) :: (b5, ⟨[.int .i64 0], 28, .fix⟩) :: (b4, ⟨[.string ByteArray.empty], 9, .fix⟩) :: (Ls6 ++ L)) H8 := hS8.perm (permA [_, _, _] [_] (Ls6 ++ L))
      have hA : BAcc 5 H0 B0 B6 ((b6, ⟨[c0, sl b2 0 (s.drop (118 * a)).length ((s.drop (118 * a)).length + 1)], 95, .fix⟩) :: (b5, ⟨[.int .i64 0], 28, .fix⟩) :: (b4, ⟨[.string ByteArray.empty], 9, .fix⟩) :: (Ls6 ++ L)) H8 (sl b2 0 (s.drop (118 * a)).length ((s.drop (118 * a)).length + 1)) ((s.drop (118 * a)).map UInt8.toNat) := .inr ⟨b2, by rw [List.length_map], hS9⟩
      refine (String_spec (rest := []) (by rw [List.length_map, List.length_drop]; omega) (by simpa using h0) hA).mono ?_
      rintro r ⟨h1, h2⟩
      refine ⟨?_, h2⟩
      rw [h1, List.map_map]
      congr 2
      exact List.map_id'' (fun x => by simp) _
  rintro _ H9 ⟨rfl, hS9⟩
  dsimp only at hS9
  clear hS8
  repeat (first | refine Ev.s ?_ | refine Ev.newC fun _ _ _ => ?_ | refine Ev.boxC fun _ _ _ => ?_ | refine Ev.stC fun _ _ => ?_ | refine Ev.sc (by omega) ?_ | refine Ev.scg (by omega) ?_)
  rename_i H10 hS10 H11 hS11
  exact Ev.ret ⟨B6, Ls6, rfl, hm6, hP6, hS11.drop1.drop1.drop1⟩
end
end Go.AM.C
set_option linter.unusedVariables false
set_option linter.unusedSimpArgs false
set_option maxRecDepth 100000
namespace Go.AM.C
open Go Go.AM Go.Proofs
attribute [local irreducible] run bin un ld st box newV mkS fldA fld ixA ix slc slc3 build buildS cv cvS ap cpy lenV gOp pickV b2 aIf aChk evalK resume iterD Option.bind

section
theorem barrier_cache (D : Dsk) : D.barrier.2.cache.length ≤ D.cache.length := by
  unfold Dsk.barrier
  split
  · exact Nat.le_refl _
  · unfold Dsk.act
    split
    · exact Nat.le_refl _
    · exact Nat.zero_le _
variable {B B0 H0 H : AH} {L : List (Nat × Blk)}
theorem st_err {x y z p m n : Nat × Blk} {Ld Lf : List (Nat × Blk)} (h : St H0 B0 B (x :: y :: z :: p :: m :: n :: (Ld ++ (Lf ++ L))) H) : St H0 B0 B (p :: m :: (Lf ++ Ld ++ L)) H := by
  have h1 := h.drop1.drop1.drop1
  have h2 : St H0 B0 B (p :: m :: (Ld ++ (Lf ++ L))) H := h1.drop (.cons_cons _ (.cons_cons _ (.cons _ (List.Sublist.refl _))))
  refine h2.perm ?_
  refine ((List.Perm.cons _ (List.Perm.cons _ ?_)))
  rw [List.append_assoc]
  exact permA Ld Lf L
theorem st_fin {x y z p m n : Nat × Blk} {Ld Lf : List (Nat × Blk)} (h : St H0 B0 B (x :: y :: z :: p :: m :: n :: (Ld ++ (Lf ++ L))) H) : St H0 B0 B (p :: n :: ([] ++ Ld ++ L)) H := by
  have h1 := h.drop1.drop1.drop1
  exact h1.drop (.cons_cons _ (.cons _ (.cons_cons _ (List.Sublist.append_left (List.sublist_append_right _ _) _))))
theorem st_six {x y z p m n : Nat × Blk} {Ld Lr : List (Nat × Blk)} (h : St H0 B0 B (Ld ++ (x :: y :: z :: p :: m :: n :: Lr)) H) : St H0 B0 B (x :: y :: z :: p :: m :: n :: (Ld ++ Lr)) H := h.perm (permA Ld [x, y, z, p, m, n] Lr)
theorem st_six' {x y z p m n : Nat × Blk} {Ld Lr : List (Nat × Blk)} (h : St H0 B0 B (x :: y :: z :: p :: m :: n :: (Ld ++ Lr)) H) : St H0 B0 B (Ld ++ (x :: y :: z :: p :: m :: n :: Lr)) H := h.perm (permA [x, y, z, p, m, n] Ld Lr)
instance : Elt Tryd.prog 91 67 .nilFunc 8 := ⟨by kernel_rfl, by kernel_rfl, by kernel_rfl, by kernel_rfl, by kernel_rfl, by kernel_rfl, by kernel_rfl, by kernel_rfl, by kernel_rfl⟩
theorem lay1_spec {b1 b2 pb mb d t r : Nat} {tv rv mv fv dn : Value} {U : List Int} {D : Dsk} {Ld : List (Nat × Blk)} (hD : DK (ptr d 0) D Ld) (hO : D.OK) (hc : D.cache.length + 1 < 1000000000000) (ht : t < 281474976710656) (hr : r < 65536) (hU : ∀ n ∈ U, 0 ≤ n ∧ n < 512)
    (i1 : (b1, ⟨[ptr pb 0], 31, .fix⟩) ∈ L) (i2 : (b2, ⟨[i64 t, i64 r, .map (some mb)], 62, .fix⟩) ∈ L) (i3 : (pb, ⟨[tv, rv, mv, ptr d 0, fv, dn], 65, .fix⟩) ∈ L) (i4 : (mb, ⟨entI U, 60, .map⟩) ∈ L) (hS : St H0 B0 B (Ld ++ L) H) :
    Ev (fun k _ => rn k 42 [ptr b2 0, ptr b1 0] H) (DkP H0 B0 B L (ptr d 0) (.int .i64 (hwrite D t (r : Int) U).1) (hwrite D t (r : Int) U).2) := by
  refine Ev.fn (fun k => f42_eq k _ _ H) ?_
  have j1 : InL b1 _ (Ld ++ L) := ⟨List.mem_append_right _ i1⟩
  have j2 : InL b2 _ (Ld ++ L) := ⟨List.mem_append_right _ i2⟩
  have j3 : InL pb _ (Ld ++ L) := ⟨List.mem_append_right _ i3⟩
  repeat (first | refine Ev.s ?_ | refine Ev.newC fun _ _ _ => ?_ | refine Ev.boxC fun _ _ _ => ?_ | refine Ev.stC fun _ _ => ?_ | refine Ev.sc (by omega) ?_ | refine Ev.scg (by omega) ?_)
  rw [show (fun k n : Nat => AM.b2 (rn k 19 [.agg (List.toArray [i64 t, i64 r, .map (some mb)]), ptr d 0] H) fun v6 h6 => some (v6, h6)) = fun k n => rn k 19 [.agg #[i64 t, i64 r, .map (some mb)], ptr d 0] H from funext fun k => funext fun _ => b2_id _]
  exact hwrite_spec hD hO hc ht hr hU i4 hS
theorem lay_specP {p dv t0 : Value} {G : Pgr} {D : Dsk} {Ls : List (Nat × Blk)} {r mb2 : Nat} {U : List Int} (hP : PK p dv G D Ls) (hO : D.OK) (hc : D.cache.length + 4 < 1000000000000) (ht : G.turn + 1 < 281474976710656) (hr : r < 65536) (hU : ∀ n ∈ U, 0 ≤ n ∧ n < 512) [IsCell t0]
    (hS : St H0 B0 B (Ls ++ ((mb2, ⟨entI U, 60, .map⟩) :: L)) H) :
    Ev (fun k _ => rn k 26 [p, .agg #[t0, i64 r, .map (some mb2)]] H) (PgP H0 B0 B L p dv (.int .i64 (G.lay D (r : Int) U).1) (G.lay D (r : Int) U).2.1 (G.lay D (r : Int) U).2.2) := by
  obtain ⟨pb, mb, fv, Lf, Ld, rfl, hD, hF, rfl⟩ := hP
  obtain ⟨d, rfl⟩ := hD.ptr
  have hcell := hF.cell
  obtain ⟨turn, root, U0, F, dn⟩ := G
  dsimp only at hF hS ht
  refine Ev.fn (fun k => f26_eq k _ _ H) ?_
  have hSa : St H0 B0 B ((pb, ⟨[i64 turn, .int .i64 root, .map (some mb), ptr d 0, fv, .bool dn], 65, .fix⟩) :: (mb, ⟨entI U0, 60, .map⟩) :: (mb2, ⟨entI U, 60, .map⟩) :: (Ld ++ (Lf ++ L))) H := by
    refine hS.perm ?_
    simp only [List.cons_append]
    refine List.Perm.cons _ (List.Perm.cons _ ?_)
    refine List.Perm.trans ?_ (List.perm_middle).symm
    refine List.Perm.cons _ ?_
    rw [List.append_assoc]
    exact permA Lf Ld L
  clear hS
  repeat (first | refine Ev.s ?_ | refine Ev.newC fun _ _ _ => ?_ | refine Ev.boxC fun _ _ _ => ?_ | refine Ev.stC fun _ _ => ?_ | refine Ev.sc (by omega) ?_ | refine Ev.scg (by omega) ?_)
  rename_i b1 H1 hS1 b2 H2 hS2 H3 hS3
  clear hSa hS1 hS2
  refine Ev.bsC (by decide) fun b3 H4 hS4 => ?_
  clear hS3
  repeat (first | refine Ev.s ?_ | refine Ev.newC fun _ _ _ => ?_ | refine Ev.boxC fun _ _ _ => ?_ | refine Ev.stC fun _ _ => ?_ | refine Ev.sc (by omega) ?_ | refine Ev.scg (by omega) ?_)
  have hO1 := hO.barrier
  have hc1 : D.barrier.2.cache.length ≤ D.cache.length := barrier_cache D
  have hO2 := pwrite_ok hO1 (((turn + 1) % 2 : Nat) : Int) 1 (textH (turn + 1) (r : Int) U)
  have hc2 := pwrite_cache D.barrier.2 (((turn + 1) % 2 : Nat) : Int) 1 (textH (turn + 1) (r : Int) U)
  change (hwrite D.barrier.2 (turn + 1) (r : Int) U).2.OK at hO2
  change (hwrite D.barrier.2 (turn + 1) (r : Int) U).2.cache.length ≤ _ at hc2
  have hO3 := hO2.barrier
  have key : Ev (fun k K => f26_L0 k (ptr b1 0) (ptr b2 0) (sl b3 0 3 3) (i64 3) (i64 0) K H4) (fun o => ∃ B' H' Ld' D' dn', MoC B B' ∧ DK (ptr d 0) D' Ld' ∧
      St H0 B0 B' ((b3, ⟨[.func (.func 20) #[ptr d 0] #[], .func (.func 42) #[] #[ptr b2 0, ptr b1 0], .func (.func 20) #[ptr d 0] #[]], 67, .fix⟩) :: (b2, ⟨[i64 (turn + 1), i64 r, .map (some mb2)], 62, .fix⟩) :: (b1, ⟨[ptr pb 0], 31, .fix⟩) ::
        (pb, ⟨[i64 turn, .int .i64 root, .map (some mb), ptr d 0, fv, .bool dn'], 65, .fix⟩) :: (mb, ⟨entI U0, 60, .map⟩) :: (mb2, ⟨entI U, 60, .map⟩) :: (Ld' ++ (Lf ++ L))) H' ∧
      ((∃ e, o = (.ret, f26_X_L0 (ptr b1 0) (ptr b2 0) (.int .i64 e), H') ∧ Pgr.lay ⟨turn, root, U0, F, dn⟩ D (r : Int) U = (e, ⟨turn, root, U0, F, dn'⟩, D')) ∨
        (o = (.exit 0, f26_X_L0 (ptr b1 0) (ptr b2 0) unk, H') ∧ dn' = dn ∧ Pgr.lay ⟨turn, root, U0, F, dn⟩ D (r : Int) U = (0, ⟨turn + 1, (r : Int), U, [], dn⟩, D')))) := by
    have hdn : (dn || decide ((0 : Int) = 7)) = dn := by cases dn <;> rfl
    refine Ev.succ (fun k K => f26_L0_succ k _ _ _ _ _ K _) ?_
    repeat (first | (first | refine Ev.s ?_ | refine Ev.newC fun _ _ _ => ?_ | refine Ev.boxC fun _ _ _ => ?_ | refine Ev.stC fun _ _ => ?_ | refine Ev.sc (by omega) ?_ | refine Ev.scg (by omega) ?_) | rw [decide_eq_true (by omega)] | rw [decide_eq_false (by omega)])
    refine Ev.prim (show ixA Tryd.prog 91 (sl b3 0 3 3) (i64 0) = some (ptr b3 0) from ixA_own (i := 0) inferInstance (by decide)) ?_
    repeat (first | refine Ev.s ?_ | refine Ev.newC fun _ _ _ => ?_ | refine Ev.boxC fun _ _ _ => ?_ | refine Ev.stC fun _ _ => ?_ | refine Ev.sc (by omega) ?_ | refine Ev.scg (by omega) ?_)
    simp only [callV_fn (show 20 < yOff by unfold yOff; omega)]
    refine Ev.b2 (Barrier_spec hD hO (by omega) (st_six' hS4)) ?_
    unfold Pgr.lay
    dsimp only
    generalize D.barrier = w at hO1 hc1 hO2 hc2 hO3 ⊢
    obtain ⟨w1, w2⟩ := w
    dsimp only at hO1 hc1 hO2 hc2 hO3 ⊢
    rintro _ H5 ⟨rfl, Ld5, B5, hm5, hD5, hS5⟩
    dsimp only at hS5
    replace hS5 := st_six hS5
    clear hS4
    repeat (first | refine Ev.s ?_ | refine Ev.newC fun _ _ _ => ?_ | refine Ev.boxC fun _ _ _ => ?_ | refine Ev.stC fun _ _ => ?_ | refine Ev.sc (by omega) ?_ | refine Ev.scg (by omega) ?_)
    refine Ev.b2 (told_spec (.tail _ (.tail _ (.tail _ (.head _)))) (.tail _ (.tail _ (.tail _ (.head _)))) hS5) ?_
    rintro _ H6 ⟨rfl, hS6⟩
    dsimp only at hS6
    clear hS5
    by_cases h1 : w1 = 0
    case neg =>
      rw [if_pos h1]
      repeat (first | refine Ev.s ?_ | refine Ev.newC fun _ _ _ => ?_ | refine Ev.boxC fun _ _ _ => ?_ | refine Ev.stC fun _ _ => ?_ | refine Ev.sc (by omega) ?_ | refine Ev.scg (by omega) ?_)
      rw [decide_eq_true h1]
      repeat (first | refine Ev.s ?_ | refine Ev.newC fun _ _ _ => ?_ | refine Ev.boxC fun _ _ _ => ?_ | refine Ev.stC fun _ _ => ?_ | refine Ev.sc (by omega) ?_ | refine Ev.scg (by omega) ?_)
      exact Ev.ret ⟨B5, H6, Ld5, w2, _, hm5, hD5, hS6, .inl ⟨w1, rfl, rfl⟩⟩
    subst h1
    rw [if_neg (by simp)]
    rw [hdn] at hS6
    repeat (first | (first | refine Ev.s ?_ | refine Ev.newC fun _ _ _ => ?_ | refine Ev.boxC fun _ _ _ => ?_ | refine Ev.stC fun _ _ => ?_ | refine Ev.sc (by omega) ?_ | refine Ev.scg (by omega) ?_) | rw [decide_eq_true (by omega)] | rw [decide_eq_false (by omega)])
    refine Ev.succ (fun k K => f26_L0_succ k _ _ _ _ _ K _) ?_
    repeat (first | (first | refine Ev.s ?_ | refine Ev.newC fun _ _ _ => ?_ | refine Ev.boxC fun _ _ _ => ?_ | refine Ev.stC fun _ _ => ?_ | refine Ev.sc (by omega) ?_ | refine Ev.scg (by omega) ?_) | rw [decide_eq_true (by omega)] | rw [decide_eq_false (by omega)])
    refine Ev.prim (show ixA Tryd.prog 91 (sl b3 0 3 3) (i64 1) = some (ptr b3 1) from ixA_own (i := 1) inferInstance (by decide)) ?_
    repeat (first | refine Ev.s ?_ | refine Ev.newC fun _ _ _ => ?_ | refine Ev.boxC fun _ _ _ => ?_ | refine Ev.stC fun _ _ => ?_ | refine Ev.sc (by omega) ?_ | refine Ev.scg (by omega) ?_)
    simp only [callV_fn (show 42 < yOff by unfold yOff; omega)]
    refine Ev.b2 (lay1_spec (t := turn + 1) (r := r) (U := U) hD5 hO1 (by omega) ht hr hU (.tail _ (.tail _ (.head _))) (.tail _ (.head _)) (.tail _ (.tail _ (.tail _ (.head _)))) (.tail _ (.tail _ (.tail _ (.tail _ (.tail _ (.head _)))))) (st_six' hS6)) ?_
    generalize hwrite w2 (turn + 1) (r : Int) U = x at hO2 hc2 hO3 ⊢
    obtain ⟨x1, x2⟩ := x
    dsimp only at hO2 hc2 hO3 ⊢
    rintro _ H7 ⟨rfl, Ld7, B7, hm7, hD7, hS7⟩
    dsimp only at hS7
    replace hS7 := st_six hS7
    clear hS6
    repeat (first | refine Ev.s ?_ | refine Ev.newC fun _ _ _ => ?_ | refine Ev.boxC fun _ _ _ => ?_ | refine Ev.stC fun _ _ => ?_ | refine Ev.sc (by omega) ?_ | refine Ev.scg (by omega) ?_)
    refine Ev.b2 (told_spec (.tail _ (.tail _ (.tail _ (.head _)))) (.tail _ (.tail _ (.tail _ (.head _)))) hS7) ?_
    rintro _ H8 ⟨rfl, hS8⟩
    dsimp only at hS8
    clear hS7
    by_cases h2 : x1 = 0
    case neg =>
      rw [if_pos h2]
      repeat (first | refine Ev.s ?_ | refine Ev.newC fun _ _ _ => ?_ | refine Ev.boxC fun _ _ _ => ?_ | refine Ev.stC fun _ _ => ?_ | refine Ev.sc (by omega) ?_ | refine Ev.scg (by omega) ?_)
      rw [decide_eq_true h2]
      repeat (first | refine Ev.s ?_ | refine Ev.newC fun _ _ _ => ?_ | refine Ev.boxC fun _ _ _ => ?_ | refine Ev.stC fun _ _ => ?_ | refine Ev.sc (by omega) ?_ | refine Ev.scg (by omega) ?_)
      exact Ev.ret ⟨B7, H8, Ld7, x2, _, ⟨hm5.mo.trans hm7.mo⟩, hD7, hS8, .inl ⟨x1, rfl, rfl⟩⟩
    subst h2
    rw [if_neg (by simp)]
    rw [hdn] at hS8
    repeat (first | (first | refine Ev.s ?_ | refine Ev.newC fun _ _ _ => ?_ | refine Ev.boxC fun _ _ _ => ?_ | refine Ev.stC fun _ _ => ?_ | refine Ev.sc (by omega) ?_ | refine Ev.scg (by omega) ?_) | rw [decide_eq_true (by omega)] | rw [decide_eq_false (by omega)])
    refine Ev.succ (fun k K => f26_L0_succ k _ _ _ _ _ K _) ?_
    repeat (first | (first | refine Ev.s ?_ | refine Ev.newC fun _ _ _ => ?_ | refine Ev.boxC fun _ _ _ => ?_ | refine Ev.stC fun _ _ => ?_ | refine Ev.sc (by omega) ?_ | refine Ev.scg (by omega) ?_) | rw [decide_eq_true (by omega)] | rw [decide_eq_false (by omega)])
    refine Ev.prim (show ixA Tryd.prog 91 (sl b3 0 3 3) (i64 2) = some (ptr b3 2) from ixA_own (i := 2) inferInstance (by decide)) ?_
    repeat (first | refine Ev.s ?_ | refine Ev.newC fun _ _ _ => ?_ | refine Ev.boxC fun _ _ _ => ?_ | refine Ev.stC fun _ _ => ?_ | refine Ev.sc (by omega) ?_ | refine Ev.scg (by omega) ?_)
    simp only [callV_fn (show 20 < yOff by unfold yOff; omega)]
    refine Ev.b2 (Barrier_spec hD7 hO2 (by omega) (st_six' hS8)) ?_
    generalize x2.barrier = y at hO3 ⊢
    obtain ⟨y1, y2⟩ := y
    dsimp only at hO3 ⊢
    rintro _ H9 ⟨rfl, Ld9, B9, hm9, hD9, hS9⟩
    dsimp only at hS9
    replace hS9 := st_six hS9
    clear hS8
    repeat (first | refine Ev.s ?_ | refine Ev.newC fun _ _ _ => ?_ | refine Ev.boxC fun _ _ _ => ?_ | refine Ev.stC fun _ _ => ?_ | refine Ev.sc (by omega) ?_ | refine Ev.scg (by omega) ?_)
    refine Ev.b2 (told_spec (.tail _ (.tail _ (.tail _ (.head _)))) (.tail _ (.tail _ (.tail _ (.head _)))) hS9) ?_
    rintro _ H10 ⟨rfl, hS10⟩
    dsimp only at hS10
    clear hS9
    by_cases h3 : y1 = 0
    case neg =>
      rw [if_pos h3]
      repeat (first | refine Ev.s ?_ | refine Ev.newC fun _ _ _ => ?_ | refine Ev.boxC fun _ _ _ => ?_ | refine Ev.stC fun _ _ => ?_ | refine Ev.sc (by omega) ?_ | refine Ev.scg (by omega) ?_)
      rw [decide_eq_true h3]
      repeat (first | refine Ev.s ?_ | refine Ev.newC fun _ _ _ => ?_ | refine Ev.boxC fun _ _ _ => ?_ | refine Ev.stC fun _ _ => ?_ | refine Ev.sc (by omega) ?_ | refine Ev.scg (by omega) ?_)
      exact Ev.ret ⟨B9, H10, Ld9, y2, _, ⟨hm5.mo.trans (hm7.mo.trans hm9.mo)⟩, hD9, hS10, .inl ⟨y1, rfl, rfl⟩⟩
    subst h3
    rw [if_neg (by simp)]
    rw [hdn] at hS10
    repeat (first | (first | refine Ev.s ?_ | refine Ev.newC fun _ _ _ => ?_ | refine Ev.boxC fun _ _ _ => ?_ | refine Ev.stC fun _ _ => ?_ | refine Ev.sc (by omega) ?_ | refine Ev.scg (by omega) ?_) | rw [decide_eq_true (by omega)] | rw [decide_eq_false (by omega)])
    refine Ev.succ (fun k K => f26_L0_succ k _ _ _ _ _ K _) ?_
    repeat (first | (first | refine Ev.s ?_ | refine Ev.newC fun _ _ _ => ?_ | refine Ev.boxC fun _ _ _ => ?_ | refine Ev.stC fun _ _ => ?_ | refine Ev.sc (by omega) ?_ | refine Ev.scg (by omega) ?_) | rw [decide_eq_true (by omega)] | rw [decide_eq_false (by omega)])
    exact Ev.ret ⟨B9, H10, Ld9, y2, dn, ⟨hm5.mo.trans (hm7.mo.trans hm9.mo)⟩, hD9, hS10, .inr ⟨rfl, rfl, rfl⟩⟩
  refine Ev.bind (Ev.loop key) ?_
  clear hS4
  rintro _ ⟨B', H', Ld', D', dn', hm', hD', hS', ⟨e, rfl, hl⟩ | ⟨rfl, rfl, hl⟩⟩
  · refine Ev.eq (fun k _ => f26_A0_ret k _ _ _ H') ?_
    rw [hl]
    exact Ev.ret ⟨rfl, _, B', hm', ⟨pb, mb, fv, Lf, Ld', rfl, hD', hF, rfl⟩, st_err hS'⟩
  · refine Ev.eq (fun k _ => f26_A0_x0 k _ _ _ H') ?_
    rw [hl]
    repeat (first | refine Ev.s ?_ | refine Ev.newC fun _ _ _ => ?_ | refine Ev.boxC fun _ _ _ => ?_ | refine Ev.stC fun _ _ => ?_ | refine Ev.sc (by omega) ?_ | refine Ev.scg (by omega) ?_)
    rename_i hS12
    exact Ev.ret ⟨rfl, _, B', hm', ⟨pb, mb2, _, [], Ld', rfl, hD', FRS.nil, rfl⟩, st_fin hS12⟩
end
end Go.AM.C
set_option linter.unusedVariables false
set_option linter.unusedSimpArgs false
set_option maxRecDepth 100000
namespace Go.AM.C
open Go Go.AM Go.Proofs
attribute [local irreducible] run bin un ld st box newV mkS fldA fld ixA ix slc slc3 build buildS cv cvS ap cpy lenV gOp pickV b2 aIf aChk evalK resume iterD Option.bind

section
variable {B B0 H0 H : AH} {L : List (Nat × Blk)}
theorem Commit_loop {hb mb2 : Nat} {t0 rv s0 : Value} {fv : Value} {U F : List Int} {Lf Lr : List (Nat × Blk)} {s1 : Value} (hF : FR fv F Lf) (hsub : ∀ x ∈ Lf, x ∈ Lr) (hl : F.length < 100000) [IsCell t0] [IsCell rv] : ∀ (q i : Nat) (H : AH), i + q = F.length →
    St H0 B0 B ((hb, ⟨[t0, rv, .map (some mb2)], 62, .fix⟩) :: (mb2, ⟨entI (addAll U (F.take i)), 60, .map⟩) :: Lr) H →
    Ev (fun k K => f13_L0 k s0 s1 (ptr hb 0) fv (i64 F.length) (i64 i) K H) (fun o => ∃ H', o = (.exit 2, f13_X_L0 s0 s1 (ptr hb 0), H') ∧
      St H0 B0 B ((hb, ⟨[t0, rv, .map (some mb2)], 62, .fix⟩) :: (mb2, ⟨entI (addAll U F), 60, .map⟩) :: Lr) H') := by
  intro q
  induction q with
  | zero =>
    intro i H hi hS
    refine Ev.succ (fun k K => f13_L0_succ k _ _ _ _ _ _ K H) ?_
    repeat (first | refine Ev.s ?_ | refine Ev.newC fun _ _ _ => ?_ | refine Ev.boxC fun _ _ _ => ?_ | refine Ev.stC fun _ _ => ?_ | refine Ev.sc (by omega) ?_ | refine Ev.scg (by omega) ?_)
    rw [decide_eq_false (by omega)]
    repeat (first | refine Ev.s ?_ | refine Ev.newC fun _ _ _ => ?_ | refine Ev.boxC fun _ _ _ => ?_ | refine Ev.stC fun _ _ => ?_ | refine Ev.sc (by omega) ?_ | refine Ev.scg (by omega) ?_)
    rw [List.take_of_length_le (by omega)] at hS
    exact Ev.ret ⟨H, rfl, hS⟩
  | succ q ih =>
    intro i H hi hS
    refine Ev.succ (fun k K => f13_L0_succ k _ _ _ _ _ _ K H) ?_
    repeat (first | refine Ev.s ?_ | refine Ev.newC fun _ _ _ => ?_ | refine Ev.boxC fun _ _ _ => ?_ | refine Ev.stC fun _ _ => ?_ | refine Ev.sc (by omega) ?_ | refine Ev.scg (by omega) ?_)
    rw [decide_eq_true (by omega)]
    repeat (first | refine Ev.s ?_ | refine Ev.newC fun _ _ _ => ?_ | refine Ev.boxC fun _ _ _ => ?_ | refine Ev.stC fun _ _ => ?_ | refine Ev.sc (by omega) ?_ | refine Ev.scg (by omega) ?_)
    have hN := hF.now hS fun x hx => .tail _ (.tail _ (hsub x hx))
    have hx : (intV F)[i]? = some (.int .i64 F[i]) := by unfold intV; rw [List.getElem?_map, List.getElem?_eq_getElem (by omega)]; rfl
    refine Ev.ixN (t := 63) hN i rfl (by omega) hx fun p hp => ?_
    refine Ev.prim (hp.eq H (Mo.refl H)) ?_
    repeat (first | refine Ev.s ?_ | refine Ev.newC fun _ _ _ => ?_ | refine Ev.boxC fun _ _ _ => ?_ | refine Ev.stC fun _ _ => ?_ | refine Ev.sc (by omega) ?_ | refine Ev.scg (by omega) ?_)
    refine Ev.mpTrueI (kt := 3) (et := 4) (Und.eq (P := Tryd.prog) (t := 60)) (Und.eq (P := Tryd.prog) (t := 3)) hS (.tail _ (.head _)) (.tail _ (.head _)) fun H' hS' => ?_
    repeat (first | (first | refine Ev.s ?_ | refine Ev.newC fun _ _ _ => ?_ | refine Ev.boxC fun _ _ _ => ?_ | refine Ev.stC fun _ _ => ?_ | refine Ev.sc (by omega) ?_ | refine Ev.scg (by omega) ?_) | rw [decide_eq_true (by omega)] | rw [decide_eq_false (by omega)])
    refine ih (i + 1) H' (by omega) ?_
    have e : addAll U (F.take (i + 1)) = insI (addAll U (F.take i)) F[i] := by
      unfold addAll
      rw [List.take_add_one, List.getElem?_eq_getElem (by omega), List.foldl_append]
      rfl
    rw [e]
    exact hS'
theorem Commit_spec {p dv : Value} {G : Pgr} {D : Dsk} {Ls : List (Nat × Blk)} {root : Int} {m : Nat} (hP : PK p dv G D Ls) (hO : D.OK) (hG : G.OK m) (hc : D.cache.length + 4 < 1000000000000) (hS : St H0 B0 B (Ls ++ L) H) :
    Ev (fun k _ => rn k 13 [p, .int .i64 root] H) (PgP H0 B0 B L p dv (.int .i64 (G.commit D root).1) (G.commit D root).2.1 (G.commit D root).2.2) := by
  have hP0 := hP
  obtain ⟨pb, mb, fv, Lf, Ld, rfl, hD, hF, rfl⟩ := hP
  obtain ⟨d, rfl⟩ := hD.ptr
  have hcell := hF.cell
  obtain ⟨turn, root0, U, F, dn⟩ := G
  have hfl := hG.fl
  have hmm := hG.mm
  have hus := hG.us
  have hfr := hG.fr
  have htu := hG.tu
  have hnd := hG.nd
  dsimp only at hF hP0 hS hfl hus hfr htu hnd
  simp only [List.cons_append] at hS
  refine Ev.fn (fun k => f13_eq k _ _ H) ?_
  unfold Pgr.commit
  dsimp only
  cases dn with
  | true =>
    rw [if_pos rfl]
    repeat (first | refine Ev.s ?_ | refine Ev.newC fun _ _ _ => ?_ | refine Ev.boxC fun _ _ _ => ?_ | refine Ev.stC fun _ _ => ?_ | refine Ev.sc (by omega) ?_ | refine Ev.scg (by omega) ?_)
    exact Ev.ret ⟨rfl, _, B, ⟨Mo.refl B⟩, hP0, hS⟩
  | false =>
    rw [if_neg (by decide)]
    repeat (first | refine Ev.s ?_ | refine Ev.newC fun _ _ _ => ?_ | refine Ev.boxC fun _ _ _ => ?_ | refine Ev.stC fun _ _ => ?_ | refine Ev.sc (by omega) ?_ | refine Ev.scg (by omega) ?_)
    refine Ev.mkMap (P := Tryd.prog) hS fun mb2 H1 hS1 => ?_
    repeat (first | refine Ev.s ?_ | refine Ev.newC fun _ _ _ => ?_ | refine Ev.boxC fun _ _ _ => ?_ | refine Ev.stC fun _ _ => ?_ | refine Ev.sc (by omega) ?_ | refine Ev.scg (by omega) ?_)
    rename_i hb H2 hS2 H3 hS3
    clear hS hS1 hS2
    have hne : mb ≠ mb2 := by
      rintro rfl
      have := hS3.nd
      simp at this
    refine AM.Ev.gCommit hS3 (.tail _ (.tail _ (.head _))) (.tail _ (.tail _ (.tail _ (.head _)))) (.head _) (.tail _ (.head _)) hne hnd (.tail _ (.head _)) fun H4 hS4 => ?_
    clear hS3
    repeat (first | refine Ev.s ?_ | refine Ev.newC fun _ _ _ => ?_ | refine Ev.boxC fun _ _ _ => ?_ | refine Ev.stC fun _ _ => ?_ | refine Ev.sc (by omega) ?_ | refine Ev.scg (by omega) ?_)
    refine Ev.prim (hF.len (Und.eq (P := Tryd.prog) (t := 63))) ?_
    refine Ev.bind (Ev.loop (Commit_loop (U := U) hF (fun x hx => .tail _ (.tail _ (List.mem_append_left _ (List.mem_append_left _ hx)))) (by omega) F.length 0 H4 (by omega) hS4)) ?_
    clear hS4
    rintro _ ⟨H5, rfl, hS5⟩
    refine Ev.eq (fun k _ => f13_A0_x2 k _ _ _ H5) ?_
    repeat (first | refine Ev.s ?_ | refine Ev.newC fun _ _ _ => ?_ | refine Ev.boxC fun _ _ _ => ?_ | refine Ev.stC fun _ _ => ?_ | refine Ev.sc (by omega) ?_ | refine Ev.scg (by omega) ?_)
    refine Ev.b2 (may_spec (U := addAll U F) ⟨.tail _ (.head _)⟩ hS5) ?_
    rintro _ H6 ⟨rfl, b6, c6, hS6⟩
    dsimp only at hS6
    clear hS5
    have hall : ∀ n ∈ addAll U F, 0 ≤ n ∧ n < 512 := fun n hn => by
      rcases (addAll_mem F U n).1 hn with h | h
      · have := hus n h; omega
      · have := hfr n h; omega
    cases hmay : mayR (addAll U F) root with
    | false =>
      rw [if_pos rfl]
      repeat (first | refine Ev.s ?_ | refine Ev.newC fun _ _ _ => ?_ | refine Ev.boxC fun _ _ _ => ?_ | refine Ev.stC fun _ _ => ?_ | refine Ev.sc (by omega) ?_ | refine Ev.scg (by omega) ?_)
      exact Ev.ret ⟨rfl, _, B, ⟨Mo.refl B⟩, hP0, hS6.drop1.drop1.drop1⟩
    | true =>
      rw [if_neg (by decide)]
      repeat (first | refine Ev.s ?_ | refine Ev.newC fun _ _ _ => ?_ | refine Ev.boxC fun _ _ _ => ?_ | refine Ev.stC fun _ _ => ?_ | refine Ev.sc (by omega) ?_ | refine Ev.scg (by omega) ?_)
      obtain ⟨r, rfl, hr⟩ : ∃ r : Nat, root = r ∧ r < 512 := by
        unfold mayR at hmay
        by_cases h0 : root = 0
        · exact ⟨0, h0, by decide⟩
        · have h1 : root ∈ addAll U F := by simp [h0] at hmay; exact hmay.2
          have := hall root h1
          exact ⟨root.toNat, by omega, by omega⟩
      have hS7 : St H0 B0 B (((pb, ⟨[i64 turn, .int .i64 root0, .map (some mb), ptr d 0, fv, .bool false], 65, .fix⟩) :: (mb, ⟨entI U, 60, .map⟩) :: (Lf ++ Ld)) ++ ((mb2, ⟨entI (addAll U F), 60, .map⟩) :: L)) H6 := hS6.drop1.drop1.perm (List.perm_middle)
      rw [show (fun k n : Nat => AM.b2 (rn k 26 [ptr pb 0, .agg (List.toArray [.int .i64 0, i64 r, .map (some mb2)])] H6) fun v24 h24 => some (v24, h24)) = fun k n => rn k 26 [ptr pb 0, .agg #[.int .i64 0, i64 r, .map (some mb2)]] H6 from funext fun k => funext fun _ => b2_id _]
      exact lay_specP (G := ⟨turn, root0, U, F, false⟩) (r := r) hP0 hO hc (by dsimp only; omega) (by omega) hall hS7
end
end Go.AM.C
set_option linter.unusedVariables false
set_option linter.unusedSimpArgs false
set_option maxRecDepth 100000
namespace Go.AM.C
open Go Go.AM Go.Proofs
attribute [local irreducible] run bin un ld st box newV mkS fldA fld ixA ix slc slc3 build buildS cv cvS ap cpy lenV gOp pickV b2 aIf aChk evalK resume iterD Option.bind

section
variable {B B0 H0 H : AH} {L : List (Nat × Blk)}
end
end Go.AM.C
set_option linter.unusedVariables false
set_option linter.unusedSimpArgs false
set_option maxRecDepth 100000
namespace Go.AM.C
open Go Go.AM Go.Proofs
attribute [local irreducible] run bin un ld st box newV mkS fldA fld ixA ix slc slc3 build buildS cv cvS ap cpy lenV gOp pickV b2 aIf aChk evalK resume iterD Option.bind

section
variable {B B0 H0 H : AH} {L : List (Nat × Blk)}
theorem PK.ptr {p dv : Value} {G : Pgr} {D : Dsk} {Ls : List (Nat × Blk)} (h : PK p dv G D Ls) : ∃ b, p = ptr b 0 := by obtain ⟨pb, mb, fv, Lf, Ld, hp, _⟩ := h; exact ⟨pb, hp⟩
/-- A new disk with a pager. -/
theorem Format_up {dv : Value} {D : Dsk} {Ls : List (Nat × Blk)} {m : Nat} (hD : DK dv D Ls) (hU : D.Up (2 * m)) (hm : 4 ≤ m) (hm2 : m ≤ 512) (hc : D.cache.length < 100000) (hS : St H0 B0 B (Ls ++ L) H) :
    Ev (fun k _ => rn k 7 [dv] H) (fun r => ∃ b D', PgP H0 B0 B L (ptr b 0) dv (.tuple #[ptr b 0, .int .i64 0]) ⟨1, 0, [0, 1], [], false⟩ D' r ∧ D'.Up (2 * m) ∧ D'.cache = [] ∧ ∀ n, n < m → D'.pg n = if n = 1 then sealL 1 (textH 1 0 [0, 1]) else D.pg n) := by
  obtain ⟨D', e, u, c, pg⟩ := hU.format hm hm2
  refine (Format_spec hD hU.ok (by omega) hS).mono ?_
  rintro r (⟨h, _⟩ | ⟨_, p, hp⟩)
  · rw [e] at h; exact (h rfl).elim
  · rw [e] at hp
    obtain ⟨hv, Ls', B', hm', hP, hS'⟩ := hp
    obtain ⟨b, rfl⟩ := hP.ptr
    exact ⟨b, D', ⟨hv, Ls', B', hm', hP, hS'⟩, u, c, pg⟩
end
end Go.AM.C
set_option linter.unusedVariables false
set_option linter.unusedSimpArgs false
set_option maxRecDepth 100000
namespace Go.AM.C
open Go Go.AM Go.Proofs
attribute [local irreducible] run bin un ld st box newV mkS fldA fld ixA ix slc slc3 build buildS cv cvS ap cpy lenV gOp pickV b2 aIf aChk evalK resume iterD Option.bind

theorem scn_at2 {t e : TypeId} {z : List Value} {by_ : Nat} {k : IntKind} [hE : EltS Tryd.prog t e z 2 by_] {H : AH} {v : Value} {n i : Nat} {cs : List Value} (h : ScN H v n 2 cs) (hi : i < n) :
    ∃ b o, ixA Tryd.prog t v (.int k (i : Int)) = some (ptr b o) ∧ ∀ (ft : TypeId) (j : Nat) (x : Value), aggT Tryd.prog ft = some false → j < 2 → cs[i * 2 + j]? = some x → ld Tryd.prog ft H (ptr b (o + j)) = some x := by
  obtain ⟨b, o, h1, K, h2, h3, h4⟩ := h.ix (k := k) hE.U hE.I hE.S hi
  refine ⟨b, o, h1, fun ft j x ha hj hx => ?_⟩
  rw [ld_blk h2]
  unfold ldK
  rw [ha]
  dsimp only
  have h5 : ((K.cells.drop o).take 2)[j]? = (nth 2 cs i)[j]? := by rw [h4]
  unfold nth at h5
  rw [List.getElem?_take_of_lt hj, List.getElem?_drop, List.getElem?_take_of_lt hj, List.getElem?_drop] at h5
  rw [h5]; exact hx
theorem verC_fst {l : Vers} {i : Nat} {v : Int × Int} (h : l[i]? = some v) : (verC l)[i * 2 + 0]? = some (.int .i64 v.1) ∧ (verC l)[i * 2 + 1]? = some (.int .i64 v.2) := by
  have := verC_at h
  have h0 : ((verC l).drop (i * 2)).take 2 = [.int .i64 v.1, .int .i64 v.2] := this
  constructor
  · have : (((verC l).drop (i * 2)).take 2)[0]? = some (.int .i64 v.1) := by rw [h0]; rfl
    rwa [List.getElem?_take_of_lt (by decide), List.getElem?_drop] at this
  · have : (((verC l).drop (i * 2)).take 2)[1]? = some (.int .i64 v.2) := by rw [h0]; rfl
    rwa [List.getElem?_take_of_lt (by decide), List.getElem?_drop] at this
theorem cbin_eql_agg {t : TypeId} {xs ys : List Value} {c : Bool} (h : aggEq Tryd.prog t xs ys = some c) : bin Tryd.prog .eql t (.agg xs.toArray) (.agg ys.toArray) = some (.bool c) := by
  unfold bin
  rw [if_neg (fun hh => by cases hh.1)]
  show (aggEq Tryd.prog t xs ys).map _ = _
  rw [h]; rfl
theorem cbin_neq_agg {t : TypeId} {xs ys : List Value} {c : Bool} (h : aggEq Tryd.prog t xs ys = some c) : bin Tryd.prog .neq t (.agg xs.toArray) (.agg ys.toArray) = some (.bool !c) := by
  unfold bin
  rw [if_neg (fun hh => by cases hh.1)]
  show (aggEq Tryd.prog t xs ys).map _ = _
  rw [h]; rfl
theorem ceqV (a b c d : Int) : aggEq Tryd.prog 54 [.int .i64 a, .int .i64 b] [.int .i64 c, .int .i64 d] = some (decide (a = c) && (decide (b = d) && true)) := by kernel_rfl
theorem ceqW (a b c d : Int) : aggEq Tryd.prog 71 [.int .i64 a, .int .i64 b] [.int .i64 c, .int .i64 d] = some (decide (a = c) && (decide (b = d) && true)) := by kernel_rfl
section
variable {B B0 H0 H : AH} {L : List (Nat × Blk)}
theorem cfew_spec {next : Int} {sv : Value} {l : Vers} (hv : ScN B sv l.length 2 (verC l)) (hl : l.length < 9223372036854775808) (hS : St H0 B0 B L H) :
    Ev (fun k _ => rn k 5 [.agg #[.int .i64 next, sv]] H) (fun r => ∃ v B', r.1 = .agg #[.int .i64 next, v] ∧ MoC B B' ∧ ScN B' v (l.take 15).length 2 (verC (l.take 15)) ∧ St H0 B0 B' L r.2) := by
  refine Ev.fn (fun k => f5_eq k _ H) ?_
  have hcell := hv.cell
  have hlen := hv.len (Und.eq (P := Tryd.prog) (t := 22))
  repeat (first | refine Ev.s ?_ | refine Ev.newC fun _ _ _ => ?_ | refine Ev.boxC fun _ _ _ => ?_ | refine Ev.stC fun _ _ => ?_ | refine Ev.sc (by omega) ?_ | refine Ev.scg (by omega) ?_)
  rename_i c H1 hS1 a H2 hS2
  clear hS hS1
  refine Ev.prim hlen ?_
  repeat (first | refine Ev.s ?_ | refine Ev.newC fun _ _ _ => ?_ | refine Ev.boxC fun _ _ _ => ?_ | refine Ev.stC fun _ _ => ?_ | refine Ev.sc (by omega) ?_ | refine Ev.scg (by omega) ?_)
  rw [show (if (15 : Int) < (l.length : Int) then (15 : Int) else (l.length : Int)) = ((min l.length 15 : Nat) : Int) by split <;> omega]
  have hlt : (l.take 15).length = min l.length 15 := by rw [List.length_take]; omega
  have hE : EltS Tryd.prog 22 54 _ 2 _ := inferInstance
  obtain ⟨v', q1, q2⟩ := (ScN.mono hS2.le hv).slc (P := Tryd.prog) (t := 22) (lo := none) (hi := some (i64 (min l.length 15))) (i := 0) (j := min l.length 15) hE.U hE.I hE.S rfl rfl (Nat.zero_le _) (Nat.min_le_left _ _)
  refine Ev.prim q1 ?_
  rw [Nat.zero_mul, List.drop_zero, Nat.sub_zero, verC_take] at q2
  rw [show l.take (min l.length 15) = l.take 15 by rcases Nat.le_total l.length 15 with h | h <;> simp [h, List.take_of_length_le]] at q2
  refine GAcc.more (t := 22) (Und.eq (P := Tryd.prog) (t := 22)) (GAcc.nil hS2) q2 (verC_cell _) (by omega) fun w B3 H3 hm3 hA3 => ?_
  clear hS2
  have hc3 := hA3.cell
  repeat (first | refine Ev.s ?_ | refine Ev.newC fun _ _ _ => ?_ | refine Ev.boxC fun _ _ _ => ?_ | refine Ev.stC fun _ _ => ?_ | refine Ev.sc (by omega) ?_ | refine Ev.scg (by omega) ?_)
  refine GAcc.stC hA3 fun H4 hA4 => ?_
  rw [Nat.zero_add, List.nil_append, ← hlt] at hA4
  obtain ⟨B5, hm5, hN5, hS5⟩ := hA4.freeze
  repeat (first | refine Ev.s ?_ | refine Ev.newC fun _ _ _ => ?_ | refine Ev.boxC fun _ _ _ => ?_ | refine Ev.stC fun _ _ => ?_ | refine Ev.sc (by omega) ?_ | refine Ev.scg (by omega) ?_)
  rename_i H6 hS6
  exact Ev.ret ⟨w, B5, rfl, ⟨hm3.mo.trans hm5.mo⟩, hN5, hS6.drop1.drop1⟩
theorem cref_loop {a c d : Nat} {next : Int} {sv : Value} {l : Vers} {Bl : AH} (hv : ScN Bl sv l.length 2 (verC l)) (hl : l.length ≤ 1000000) : ∀ (m i : Nat) (B H : AH) (v : Value), i + m = l.length → Mo Bl B →
    GAcc 71 2 H0 B0 B ((d, ⟨[.int .i64 next, v], 41, .fix⟩) :: (a, ⟨[.int .i64 0, .slice none 0 0], 41, .fix⟩) :: (c, ⟨[.int .i64 next, sv], 24, .fix⟩) :: L) H v i (verC (l.take i)) →
    Ev (fun K K2 => f11_L0 K (ptr c 0) (ptr a 0) (ptr d 0) (i64 i) K2 H) (fun o => ∃ B' H' v', o = (.exit 0, f11_X_L0 (ptr a 0) (ptr d 0), H') ∧ MoC B B' ∧
      GAcc 71 2 H0 B0 B' ((d, ⟨[.int .i64 next, v'], 41, .fix⟩) :: (a, ⟨[.int .i64 0, .slice none 0 0], 41, .fix⟩) :: (c, ⟨[.int .i64 next, sv], 24, .fix⟩) :: L) H' v' l.length (verC l)) := by
  intro m
  have hcell := hv.cell
  have hlen := hv.len (Und.eq (P := Tryd.prog) (t := 22))
  induction m with
  | zero =>
    intro i B H v hi hB hA
    refine Ev.succ (fun K K2 => f11_L0_succ K _ _ _ _ K2 H) ?_
    have : i = l.length := by omega
    subst this
    obtain ⟨Lx, hS, back, hsub⟩ := hA.split
    have hg : blk H c = some ⟨[.int .i64 next, sv], 24, .fix⟩ := hS.get (hsub _ (.tail _ (.tail _ (.head _))))
    have hld : ld Tryd.prog 22 H (ptr c 1) = some sv := by rw [ld_blk hg]; exact PrimEq.eq
    repeat (first | refine Ev.s ?_ | refine Ev.newC fun _ _ _ => ?_ | refine Ev.boxC fun _ _ _ => ?_ | refine Ev.stC fun _ _ => ?_ | refine Ev.sc (by omega) ?_ | refine Ev.scg (by omega) ?_)
    refine Ev.prim hld ?_
    refine Ev.prim hlen ?_
    repeat (first | (first | refine Ev.s ?_ | refine Ev.newC fun _ _ _ => ?_ | refine Ev.boxC fun _ _ _ => ?_ | refine Ev.stC fun _ _ => ?_ | refine Ev.sc (by omega) ?_ | refine Ev.scg (by omega) ?_) | rw [decide_eq_true (by omega)] | rw [decide_eq_false (by omega)])
    rw [List.take_length] at hA
    exact Ev.ret ⟨B, H, v, rfl, ⟨Mo.refl B⟩, hA⟩
  | succ m ih =>
    intro i B H v hi hB hA
    refine Ev.succ (fun K K2 => f11_L0_succ K _ _ _ _ K2 H) ?_
    obtain ⟨Lx, hS, back, hsub⟩ := hA.split
    have hg : blk H c = some ⟨[.int .i64 next, sv], 24, .fix⟩ := hS.get (hsub _ (.tail _ (.tail _ (.head _))))
    have hld : ld Tryd.prog 22 H (ptr c 1) = some sv := by rw [ld_blk hg]; exact PrimEq.eq
    have hgd : blk H d = some ⟨[.int .i64 next, v], 41, .fix⟩ := hS.get (hsub _ (.head _))
    have hcv := hA.cell
    have hldd : ld Tryd.prog 39 H (ptr d 1) = some v := by rw [ld_blk hgd]; exact PrimEq.eq
    obtain ⟨x, hxi⟩ : ∃ x, l[i]? = some x := ⟨_, List.getElem?_eq_getElem (by omega)⟩
    have hN := ScN.mono (hB.trans hS.le) hv
    obtain ⟨bp, o, q1, q2⟩ := scn_at2 (t := 22) (k := .i64) (i := i) hN (by omega)
    obtain ⟨e1, e2⟩ := verC_fst hxi
    have q3 := q2 3 0 _ (AggOf.eq (P := Tryd.prog) (t := 3)) (by decide) e1
    have q4 := q2 3 1 _ (AggOf.eq (P := Tryd.prog) (t := 3)) (by decide) e2
    rw [Nat.add_zero] at q3
    repeat (first | refine Ev.s ?_ | refine Ev.newC fun _ _ _ => ?_ | refine Ev.boxC fun _ _ _ => ?_ | refine Ev.stC fun _ _ => ?_ | refine Ev.sc (by omega) ?_ | refine Ev.scg (by omega) ?_)
    refine Ev.prim hld ?_
    refine Ev.prim hlen ?_
    repeat (first | (first | refine Ev.s ?_ | refine Ev.newC fun _ _ _ => ?_ | refine Ev.boxC fun _ _ _ => ?_ | refine Ev.stC fun _ _ => ?_ | refine Ev.sc (by omega) ?_ | refine Ev.scg (by omega) ?_) | rw [decide_eq_true (by omega)] | rw [decide_eq_false (by omega)])
    refine Ev.prim hldd ?_
    repeat (first | refine Ev.s ?_ | refine Ev.newC fun _ _ _ => ?_ | refine Ev.boxC fun _ _ _ => ?_ | refine Ev.stC fun _ _ => ?_ | refine Ev.sc (by omega) ?_ | refine Ev.scg (by omega) ?_)
    refine Ev.prim hld ?_
    refine Ev.prim q1 ?_
    repeat (first | refine Ev.s ?_ | refine Ev.newC fun _ _ _ => ?_ | refine Ev.boxC fun _ _ _ => ?_ | refine Ev.stC fun _ _ => ?_ | refine Ev.sc (by omega) ?_ | refine Ev.scg (by omega) ?_)
    refine Ev.prim q3 ?_
    repeat (first | refine Ev.s ?_ | refine Ev.newC fun _ _ _ => ?_ | refine Ev.boxC fun _ _ _ => ?_ | refine Ev.stC fun _ _ => ?_ | refine Ev.sc (by omega) ?_ | refine Ev.scg (by omega) ?_)
    refine Ev.prim hld ?_
    refine Ev.prim q1 ?_
    repeat (first | refine Ev.s ?_ | refine Ev.newC fun _ _ _ => ?_ | refine Ev.boxC fun _ _ _ => ?_ | refine Ev.stC fun _ _ => ?_ | refine Ev.sc (by omega) ?_ | refine Ev.scg (by omega) ?_)
    refine Ev.prim q4 ?_
    repeat (first | refine Ev.s ?_ | refine Ev.newC fun _ _ _ => ?_ | refine Ev.boxC fun _ _ _ => ?_ | refine Ev.stC fun _ _ => ?_ | refine Ev.sc (by omega) ?_ | refine Ev.scg (by omega) ?_)
    refine GAcc.push (t := 39) (ds := [.int .i64 x.1, .int .i64 x.2]) hA rfl rfl rfl rfl (by decide) (by omega) fun v' B4 H4 hm4 hA4 => ?_
    have hcell4 := hA4.cell
    repeat (first | refine Ev.s ?_ | refine Ev.newC fun _ _ _ => ?_ | refine Ev.boxC fun _ _ _ => ?_ | refine Ev.stC fun _ _ => ?_ | refine Ev.sc (by omega) ?_ | refine Ev.scg (by omega) ?_)
    refine GAcc.stC hA4 fun H5 hA5 => ?_
    repeat (first | (first | refine Ev.s ?_ | refine Ev.newC fun _ _ _ => ?_ | refine Ev.boxC fun _ _ _ => ?_ | refine Ev.stC fun _ _ => ?_ | refine Ev.sc (by omega) ?_ | refine Ev.scg (by omega) ?_) | rw [decide_eq_true (by omega)] | rw [decide_eq_false (by omega)])
    have e : verC (l.take i) ++ [.int .i64 x.1, .int .i64 x.2] = verC (l.take (i + 1)) := by rw [List.take_add_one, hxi, ← verC_snoc]; rfl
    rw [e] at hA5
    refine (ih (i + 1) B4 H5 v' (by omega) (hB.trans hm4.mo) hA5).mono ?_
    rintro o ⟨B', H', v2, h1, h2, h3⟩
    exact ⟨B', H', v2, h1, ⟨hm4.mo.trans h2.mo⟩, h3⟩
theorem cref_spec {next : Int} {sv : Value} {l : Vers} (hv : ScN B sv l.length 2 (verC l)) (hl : l.length ≤ 1000000) (hS : St H0 B0 B L H) :
    Ev (fun k _ => rn k 11 [.agg #[.int .i64 next, sv]] H) (fun r => ∃ v B', r.1 = .agg #[.int .i64 next, v] ∧ MoC B B' ∧ ScN B' v l.length 2 (verC l) ∧ St H0 B0 B' L r.2) := by
  refine Ev.fn (fun k => f11_eq k _ H) ?_
  have hcell := hv.cell
  repeat (first | refine Ev.s ?_ | refine Ev.newC fun _ _ _ => ?_ | refine Ev.boxC fun _ _ _ => ?_ | refine Ev.stC fun _ _ => ?_ | refine Ev.sc (by omega) ?_ | refine Ev.scg (by omega) ?_)
  rename_i c H1 hS1 a H2 hS2 d H3 hS3 H4 hS4
  clear hS hS1 hS2 hS3
  refine Ev.bind (Ev.loop (cref_loop hv hl l.length 0 B H4 (.slice none 0 0) (by omega) (Mo.refl B) (GAcc.nil hS4))) ?_
  rintro _ ⟨B5, H5, v, rfl, hm5, hA5⟩
  refine Ev.eq (fun k _ => f11_A0_x0 k _ _ H5) ?_
  have hc := hA5.cell
  obtain ⟨B6, hm6, hN6, hS6⟩ := hA5.freeze
  clear hS4
  repeat (first | refine Ev.s ?_ | refine Ev.newC fun _ _ _ => ?_ | refine Ev.boxC fun _ _ _ => ?_ | refine Ev.stC fun _ _ => ?_ | refine Ev.sc (by omega) ?_ | refine Ev.scg (by omega) ?_)
  rename_i H7 hS7
  exact Ev.ret ⟨v, B6, rfl, ⟨hm5.mo.trans hm6.mo⟩, hN6, hS7.drop1.drop1.drop1⟩
theorem csame_loop {a b : Nat} {n m : Int} {av bv : Value} {l k : Vers} (ha : ScN B av l.length 2 (verC l)) (hb : ScN B bv k.length 2 (verC k)) (hlk : l.length = k.length) (hl : l.length ≤ 1000000)
    (hS : St H0 B0 B ((b, ⟨[.int .i64 m, bv], 41, .fix⟩) :: (a, ⟨[.int .i64 n, av], 41, .fix⟩) :: L) H) : ∀ (q i : Nat), i + q = l.length →
    Ev (fun K K2 => f23_L0 K (ptr a 0) (ptr b 0) (i64 i) K2 H) (fun o => (l.drop i = k.drop i ∧ o = (.exit 0, f23_X_L0 unk, H)) ∨ (l.drop i ≠ k.drop i ∧ o = (.ret, f23_X_L0 (.bool false), H))) := by
  intro q
  have hca := ha.cell
  have hcb := hb.cell
  have hla := ha.len (Und.eq (P := Tryd.prog) (t := 39))
  induction q with
  | zero =>
    intro i hi
    refine Ev.succ (fun K K2 => f23_L0_succ K _ _ _ K2 H) ?_
    repeat (first | refine Ev.s ?_ | refine Ev.newC fun _ _ _ => ?_ | refine Ev.boxC fun _ _ _ => ?_ | refine Ev.stC fun _ _ => ?_ | refine Ev.sc (by omega) ?_ | refine Ev.scg (by omega) ?_)
    refine Ev.prim hla ?_
    repeat (first | (first | refine Ev.s ?_ | refine Ev.newC fun _ _ _ => ?_ | refine Ev.boxC fun _ _ _ => ?_ | refine Ev.stC fun _ _ => ?_ | refine Ev.sc (by omega) ?_ | refine Ev.scg (by omega) ?_) | rw [decide_eq_true (by omega)] | rw [decide_eq_false (by omega)])
    exact Ev.ret (.inl ⟨by rw [List.drop_of_length_le (by omega), List.drop_of_length_le (by omega)], rfl⟩)
  | succ q ih =>
    intro i hi
    refine Ev.succ (fun K K2 => f23_L0_succ K _ _ _ K2 H) ?_
    repeat (first | refine Ev.s ?_ | refine Ev.newC fun _ _ _ => ?_ | refine Ev.boxC fun _ _ _ => ?_ | refine Ev.stC fun _ _ => ?_ | refine Ev.sc (by omega) ?_ | refine Ev.scg (by omega) ?_)
    refine Ev.prim hla ?_
    repeat (first | (first | refine Ev.s ?_ | refine Ev.newC fun _ _ _ => ?_ | refine Ev.boxC fun _ _ _ => ?_ | refine Ev.stC fun _ _ => ?_ | refine Ev.sc (by omega) ?_ | refine Ev.scg (by omega) ?_) | rw [decide_eq_true (by omega)] | rw [decide_eq_false (by omega)])
    obtain ⟨x, hx⟩ : ∃ x, l[i]? = some x := ⟨_, List.getElem?_eq_getElem (by omega)⟩
    obtain ⟨y, hy⟩ : ∃ x, k[i]? = some x := ⟨_, List.getElem?_eq_getElem (by omega)⟩
    have hdx : l.drop i = x :: l.drop (i + 1) := by
      have h1 := List.getElem?_eq_some_iff.1 hx
      rw [← h1.2]; exact List.drop_eq_getElem_cons h1.1
    have hdy : k.drop i = y :: k.drop (i + 1) := by
      have h1 := List.getElem?_eq_some_iff.1 hy
      rw [← h1.2]; exact List.drop_eq_getElem_cons h1.1
    obtain ⟨p, q1, q2⟩ := (ScN.mono hS.le ha).ldAt (P := Tryd.prog) (t := 39) (k := .i64) (i := i) (by omega) (AggOf.eq (P := Tryd.prog) (t := 71))
    obtain ⟨p2, q3, q4⟩ := (ScN.mono hS.le hb).ldAt (P := Tryd.prog) (t := 39) (k := .i64) (i := i) (by omega) (AggOf.eq (P := Tryd.prog) (t := 71))
    rw [verC_at hx] at q2
    rw [verC_at hy] at q4
    refine Ev.prim q1 ?_
    refine Ev.prim q2 ?_
    repeat (first | refine Ev.s ?_ | refine Ev.newC fun _ _ _ => ?_ | refine Ev.boxC fun _ _ _ => ?_ | refine Ev.stC fun _ _ => ?_ | refine Ev.sc (by omega) ?_ | refine Ev.scg (by omega) ?_)
    refine Ev.prim q3 ?_
    refine Ev.prim q4 ?_
    refine Ev.prim (cbin_neq_agg (ceqW x.1 x.2 y.1 y.2)) ?_
    rw [hdx, hdy]
    by_cases hxy : x = y
    · subst hxy
      rw [decide_eq_true (rfl : x.1 = x.1), decide_eq_true (rfl : x.2 = x.2), show (true && (true && true)) = true from rfl]
      repeat (first | (first | refine Ev.s ?_ | refine Ev.newC fun _ _ _ => ?_ | refine Ev.boxC fun _ _ _ => ?_ | refine Ev.stC fun _ _ => ?_ | refine Ev.sc (by omega) ?_ | refine Ev.scg (by omega) ?_) | rw [decide_eq_true (by omega)] | rw [decide_eq_false (by omega)])
      refine (ih (i + 1) (by omega)).mono ?_
      rintro o (⟨h, e⟩ | ⟨h, e⟩)
      · exact .inl ⟨by rw [h], e⟩
      · exact .inr ⟨by simpa using h, e⟩
    · have hf : (decide (x.1 = y.1) && (decide (x.2 = y.2) && true)) = false := by
        by_cases h1 : x.1 = y.1
        · by_cases h2 : x.2 = y.2
          · exact absurd (Prod.ext h1 h2) hxy
          · simp [h2]
        · simp [h1]
      rw [hf]
      repeat (first | refine Ev.s ?_ | refine Ev.newC fun _ _ _ => ?_ | refine Ev.boxC fun _ _ _ => ?_ | refine Ev.stC fun _ _ => ?_ | refine Ev.sc (by omega) ?_ | refine Ev.scg (by omega) ?_)
      exact Ev.ret (.inr ⟨by simp [hxy], rfl⟩)
theorem cSame_spec {n m : Int} {av bv : Value} {l k : Vers} (ha : ScN B av l.length 2 (verC l)) (hb : ScN B bv k.length 2 (verC k)) (hl : l.length ≤ 1000000) (hk : k.length ≤ 1000000) (hS : St H0 B0 B L H) :
    Ev (fun K _ => rn K 23 [.agg #[.int .i64 n, av], .agg #[.int .i64 m, bv]] H) (fun r => r.1 = .bool (decide (n = m ∧ l = k)) ∧ St H0 B0 B L r.2) := by
  refine Ev.fn (fun K => f23_eq K _ _ H) ?_
  have hca := ha.cell
  have hcb := hb.cell
  have hla := ha.len (Und.eq (P := Tryd.prog) (t := 39))
  have hlb := hb.len (Und.eq (P := Tryd.prog) (t := 39))
  repeat (first | refine Ev.s ?_ | refine Ev.newC fun _ _ _ => ?_ | refine Ev.boxC fun _ _ _ => ?_ | refine Ev.stC fun _ _ => ?_ | refine Ev.sc (by omega) ?_ | refine Ev.scg (by omega) ?_)
  rename_i a H1 hS1 b H2 hS2
  clear hS hS1
  by_cases hnm : n = m
  case neg =>
    rw [decide_eq_true hnm]
    repeat (first | refine Ev.s ?_ | refine Ev.newC fun _ _ _ => ?_ | refine Ev.boxC fun _ _ _ => ?_ | refine Ev.stC fun _ _ => ?_ | refine Ev.sc (by omega) ?_ | refine Ev.scg (by omega) ?_)
    rw [decide_eq_false (fun h => hnm h.1)]
    exact Ev.ret ⟨rfl, hS2.drop1.drop1⟩
  rw [decide_eq_false (fun h => h hnm)]
  repeat (first | refine Ev.s ?_ | refine Ev.newC fun _ _ _ => ?_ | refine Ev.boxC fun _ _ _ => ?_ | refine Ev.stC fun _ _ => ?_ | refine Ev.sc (by omega) ?_ | refine Ev.scg (by omega) ?_)
  rw [hla, Option.bind_some]
  repeat (first | refine Ev.s ?_ | refine Ev.newC fun _ _ _ => ?_ | refine Ev.boxC fun _ _ _ => ?_ | refine Ev.stC fun _ _ => ?_ | refine Ev.sc (by omega) ?_ | refine Ev.scg (by omega) ?_)
  rw [hlb, Option.bind_some]
  repeat (first | refine Ev.s ?_ | refine Ev.newC fun _ _ _ => ?_ | refine Ev.boxC fun _ _ _ => ?_ | refine Ev.stC fun _ _ => ?_ | refine Ev.sc (by omega) ?_ | refine Ev.scg (by omega) ?_)
  by_cases hlk : l.length = k.length
  case neg =>
    rw [decide_eq_true hlk]
    repeat (first | refine Ev.s ?_ | refine Ev.newC fun _ _ _ => ?_ | refine Ev.boxC fun _ _ _ => ?_ | refine Ev.stC fun _ _ => ?_ | refine Ev.sc (by omega) ?_ | refine Ev.scg (by omega) ?_)
    rw [decide_eq_false (fun h => hlk (by rw [h.2]))]
    exact Ev.ret ⟨rfl, hS2.drop1.drop1⟩
  rw [decide_eq_false (fun h => h hlk)]
  repeat (first | refine Ev.s ?_ | refine Ev.newC fun _ _ _ => ?_ | refine Ev.boxC fun _ _ _ => ?_ | refine Ev.stC fun _ _ => ?_ | refine Ev.sc (by omega) ?_ | refine Ev.scg (by omega) ?_)
  refine Ev.bind (Ev.loop (csame_loop ha hb hlk hl hS2 l.length 0 (by omega))) ?_
  rintro _ (⟨h, rfl⟩ | ⟨h, rfl⟩)
  · rw [List.drop_zero, List.drop_zero] at h
    refine Ev.eq (fun K _ => f23_A0_x0 K _ H2) ?_
    rw [decide_eq_true ⟨hnm, h⟩]
    exact Ev.ret ⟨rfl, hS2.drop1.drop1⟩
  · rw [List.drop_zero, List.drop_zero] at h
    refine Ev.eq (fun K _ => f23_A0_ret K _ H2) ?_
    rw [decide_eq_false (fun h2 => h h2.2)]
    exact Ev.ret ⟨rfl, hS2.drop1.drop1⟩
theorem clists_spec {n m : Int} {av bv : Value} {l k : Vers} (ha : ScN B av l.length 2 (verC l)) (hb : ScN B bv k.length 2 (verC k)) (hl : l.length ≤ 1000000) (hk : k.length ≤ 1000000) (hS : St H0 B0 B L H) :
    Ev (fun K _ => rn K 10 [.agg #[.int .i64 n, av], .agg #[.int .i64 m, bv]] H) (fun r => r.1 = .bool (decide (n = m ∧ l = k)) ∧ ∃ B', MoC B B' ∧ St H0 B0 B' L r.2) := by
  refine Ev.fn (fun K => f10_eq K _ _ H) ?_
  have hca := ha.cell
  have hcb := hb.cell
  repeat (first | refine Ev.s ?_ | refine Ev.newC fun _ _ _ => ?_ | refine Ev.boxC fun _ _ _ => ?_ | refine Ev.stC fun _ _ => ?_ | refine Ev.sc (by omega) ?_ | refine Ev.scg (by omega) ?_)
  rename_i a H1 hS1 b H2 hS2
  clear hS hS1
  refine Ev.b2 (cref_spec ha hl hS2) ?_
  rintro _ H3 ⟨v, B3, rfl, hm3, hN3, hS3⟩
  dsimp only at hS3
  have hld : ld Tryd.prog 41 H2 (ptr b 0) = some (.agg #[.int .i64 m, bv]) := by rw [ld_blk (hS2.get (.head _))]; exact PrimEq.eq
  clear hS2
  repeat (first | refine Ev.s ?_ | refine Ev.newC fun _ _ _ => ?_ | refine Ev.boxC fun _ _ _ => ?_ | refine Ev.stC fun _ _ => ?_ | refine Ev.sc (by omega) ?_ | refine Ev.scg (by omega) ?_)
  refine Ev.chk hld ?_
  refine Ev.b2 (cSame_spec hN3 (ScN.mono hm3.mo hb) hl hk hS3) ?_
  rintro _ H4 ⟨rfl, hS4⟩
  exact Ev.ret ⟨rfl, B3, hm3, hS4.drop1.drop1⟩
end
end Go.AM.C
set_option linter.unusedVariables false
set_option linter.unusedSimpArgs false
namespace Go.AM
theorem perm_cnt {α : Type} {A B : List α} (h : ∀ (_ : DecidableEq α) (a : α), A.count a = B.count a) : A.Perm B := by
  classical exact List.perm_iff_count.2 fun a => h _ a
def two (n : Nat) (x : List UInt8) : List (Nat × List UInt8) := [(2 * n, x.take 64), (2 * n + 1, x.drop 64)]
def rootK (k : Nat) : Nat := if k = 0 then 0 else k + 1
def headT (k : Nat) : List UInt8 := sealL 1 (textH (k + 1) ((rootK k : Nat) : Int) (pagesI (k + 2)))
end Go.AM
namespace Go.AM
def HsOK (i : Nat) (Hs : List (List UInt8)) : Prop := ∀ x ∈ Hs, x = List.replicate 128 0 ∨ ∃ j, j ≤ i ∧ x = headT j
theorem HsOK.up {i : Nat} {Hs : List (List UInt8)} (h : HsOK i Hs) : HsOK (i + 1) Hs := fun x hx => by
  rcases h x hx with e | ⟨j, hj, e⟩
  · exact .inl e
  · exact .inr ⟨j, by omega, e⟩
end Go.AM
set_option linter.unusedVariables false
set_option linter.unusedSimpArgs false
set_option maxRecDepth 100000
namespace Go.AM.C
open Go Go.AM Go.Proofs
attribute [local irreducible] run bin un ld st box newV mkS fldA fld ixA ix slc slc3 build buildS cv cvS ap cpy lenV gOp pickV b2 aIf aChk evalK resume iterD Option.bind

section
variable {B B0 H0 H : AH} {L : List (Nat × Blk)}
theorem cWith_ex (hS : St H0 B0 B L H) : Ev (fun k _ => rn k 16 [.agg #[.int .i64 5, .slice none 0 0], .int .i64 9] H) (fun r => ∃ v B', r.1 = .tuple #[.agg #[.int .i64 6, v], .bool true] ∧ MoC B B' ∧ ScN B' v 1 2 (verC [(5, 9)]) ∧ St H0 B0 B' L r.2) := by
  refine Ev.fn (fun k => f16_eq k _ _ H) ?_
  repeat (first | refine Ev.s ?_ | refine Ev.newC fun _ _ _ => ?_ | refine Ev.boxC fun _ _ _ => ?_ | refine Ev.stC fun _ _ => ?_ | refine Ev.sc (by omega) ?_ | refine Ev.scg (by omega) ?_)
  rename_i c H1 hS1 a H2 hS2
  clear hS hS1
  refine Ev.b2 (cRight_spec (next := 5) (l := []) (sv := .slice none 0 0) ScN.nil (by decide) hS2) ?_
  rintro _ H3 ⟨rfl, hS3⟩
  dsimp only at hS3
  clear hS2
  rw [show rightC 5 [] = true from rfl]
  repeat (first | (first | refine Ev.s ?_ | refine Ev.newC fun _ _ _ => ?_ | refine Ev.boxC fun _ _ _ => ?_ | refine Ev.stC fun _ _ => ?_ | refine Ev.sc (by omega) ?_ | refine Ev.scg (by omega) ?_) | rw [decide_eq_true (by omega)] | rw [decide_eq_false (by omega)])
  refine Ev.b2 (croot_spec (n := 9)) ?_
  rintro _ _ h
  cases h
  rw [show rootV 9 = true from rfl]
  repeat (first | (first | refine Ev.s ?_ | refine Ev.newC fun _ _ _ => ?_ | refine Ev.boxC fun _ _ _ => ?_ | refine Ev.stC fun _ _ => ?_ | refine Ev.sc (by omega) ?_ | refine Ev.scg (by omega) ?_) | rw [decide_eq_true (by omega)] | rw [decide_eq_false (by omega)])
  refine Ev.b2 (Q1 := fun r => r = (.slice none 0 0, H3)) (Ev.fn (fun k => f30_eq k _ H3) ?_) ?_
  · refine Ev.prim (show bin Tryd.prog .eql 22 (.slice none 0 0) (.slice none 0 0) = some (.bool true) by kernel_rfl) ?_
    repeat (first | refine Ev.s ?_ | refine Ev.newC fun _ _ _ => ?_ | refine Ev.boxC fun _ _ _ => ?_ | refine Ev.stC fun _ _ => ?_ | refine Ev.sc (by omega) ?_ | refine Ev.scg (by omega) ?_)
    exact Ev.ret rfl
  rintro _ _ h
  cases h
  repeat (first | refine Ev.s ?_ | refine Ev.newC fun _ _ _ => ?_ | refine Ev.boxC fun _ _ _ => ?_ | refine Ev.stC fun _ _ => ?_ | refine Ev.sc (by omega) ?_ | refine Ev.scg (by omega) ?_)
  refine GAcc.push (t := 22) (ds := [.int .i64 5, .int .i64 9]) (GAcc.nil hS3) rfl rfl rfl rfl (by decide) (by decide) fun v B4 H4 hm4 hA4 => ?_
  have hc := hA4.cell
  obtain ⟨B5, hm5, hN5, hS5⟩ := hA4.freeze
  clear hS3
  repeat (first | refine Ev.s ?_ | refine Ev.newC fun _ _ _ => ?_ | refine Ev.boxC fun _ _ _ => ?_ | refine Ev.stC fun _ _ => ?_ | refine Ev.sc (by omega) ?_ | refine Ev.scg (by omega) ?_)
  rename_i H6 hS6
  exact Ev.ret ⟨v, B5, rfl, ⟨hm4.mo.trans hm5.mo⟩, hN5, hS6.drop1.drop1⟩
theorem cFind_ex {n : Int} {v : Value} (hv : ScN B v 1 2 (verC [(5, 9)])) (hS : St H0 B0 B L H) : Ev (fun k _ => rn k 17 [.agg #[.int .i64 n, v], .int .i64 0] H) (fun r => r.1 = .tuple #[.int .i64 0, .bool true] ∧ St H0 B0 B L r.2) := by
  refine Ev.fn (fun k => f17_eq k _ _ H) ?_
  have hcell := hv.cell
  have hlen := hv.len (Und.eq (P := Tryd.prog) (t := 22))
  repeat (first | refine Ev.s ?_ | refine Ev.newC fun _ _ _ => ?_ | refine Ev.boxC fun _ _ _ => ?_ | refine Ev.stC fun _ _ => ?_ | refine Ev.sc (by omega) ?_ | refine Ev.scg (by omega) ?_)
  rename_i c H1 hS1 a H2 hS2
  clear hS hS1
  try rw [decide_eq_true (rfl : (0 : Int) = 0)]
  repeat (first | refine Ev.s ?_ | refine Ev.newC fun _ _ _ => ?_ | refine Ev.boxC fun _ _ _ => ?_ | refine Ev.stC fun _ _ => ?_ | refine Ev.sc (by omega) ?_ | refine Ev.scg (by omega) ?_)
  refine Ev.prim hlen ?_
  repeat (first | (first | refine Ev.s ?_ | refine Ev.newC fun _ _ _ => ?_ | refine Ev.boxC fun _ _ _ => ?_ | refine Ev.stC fun _ _ => ?_ | refine Ev.sc (by omega) ?_ | refine Ev.scg (by omega) ?_) | rw [decide_eq_true (by omega)] | rw [decide_eq_false (by omega)])
  refine Ev.prim hlen ?_
  repeat (first | (first | refine Ev.s ?_ | refine Ev.newC fun _ _ _ => ?_ | refine Ev.boxC fun _ _ _ => ?_ | refine Ev.stC fun _ _ => ?_ | refine Ev.sc (by omega) ?_ | refine Ev.scg (by omega) ?_) | rw [decide_eq_true (by omega)] | rw [decide_eq_false (by omega)])
  exact Ev.ret ⟨rfl, hS2.drop1.drop1⟩
theorem examples23_spec (hS : St H0 B0 B L H) : Ev (fun k _ => rn k 4 [] H) (fun r => r.1 = .bool true ∧ ∃ B', MoC B B' ∧ St H0 B0 B' L r.2) := by
  refine Ev.fn (fun k => f4_eq k H) ?_
  repeat (first | refine Ev.s ?_ | refine Ev.newC fun _ _ _ => ?_ | refine Ev.boxC fun _ _ _ => ?_ | refine Ev.stC fun _ _ => ?_ | refine Ev.sc (by omega) ?_ | refine Ev.scg (by omega) ?_)
  refine Ev.b2 (cEncode_spec (next := 1) (l := []) (sv := .slice none 0 0) ScN.nil (by decide) hS) ?_
  rintro _ H1 ⟨h, B1, hm1, hS1⟩
  dsimp only at h hS1
  rw [if_pos (show rightC 1 [] = true from rfl), show encC 1 [] = [0, 0, 0, 1] by decide] at h
  subst h
  clear hS
  repeat (first | refine Ev.s ?_ | refine Ev.newC fun _ _ _ => ?_ | refine Ev.boxC fun _ _ _ => ?_ | refine Ev.stC fun _ _ => ?_ | refine Ev.sc (by omega) ?_ | refine Ev.scg (by omega) ?_)
  refine Ev.b2 (cWith_ex hS1) ?_
  rintro _ H2 ⟨v, B2, rfl, hm2, hN2, hS2⟩
  dsimp only at hS2
  clear hS1
  have hc := hN2.cell
  have hlen := hN2.len (Und.eq (P := Tryd.prog) (t := 22))
  repeat (first | refine Ev.s ?_ | refine Ev.newC fun _ _ _ => ?_ | refine Ev.boxC fun _ _ _ => ?_ | refine Ev.stC fun _ _ => ?_ | refine Ev.sc (by omega) ?_ | refine Ev.scg (by omega) ?_)
  rename_i c H3 hS3 H4 hS4
  clear hS2 hS3
  refine Ev.b2 (cFind_ex hN2 hS4) ?_
  rintro _ H5 ⟨rfl, hS5⟩
  dsimp only at hS5
  clear hS4
  repeat (first | refine Ev.s ?_ | refine Ev.newC fun _ _ _ => ?_ | refine Ev.boxC fun _ _ _ => ?_ | refine Ev.stC fun _ _ => ?_ | refine Ev.sc (by omega) ?_ | refine Ev.scg (by omega) ?_)
  refine Ev.b2 (cDecode_spec (s := []) (by decide) hS5) ?_
  rintro _ H6 ⟨B6, hd, hm6, hS6⟩
  dsimp only at hS6 hd
  clear hS5
  have hd2 : decC [] = none := by decide
  rcases hd with ⟨_, rfl⟩ | ⟨_, _, _, h, _⟩
  case inr => rw [hd2] at h; cases h
  repeat (first | refine Ev.s ?_ | refine Ev.newC fun _ _ _ => ?_ | refine Ev.boxC fun _ _ _ => ?_ | refine Ev.stC fun _ _ => ?_ | refine Ev.sc (by omega) ?_ | refine Ev.scg (by omega) ?_)
  rename_i b H7 hS7 H8 hS8
  clear hS6 hS7
  rw [hlen, Option.bind_some]
  repeat (first | (first | refine Ev.s ?_ | refine Ev.newC fun _ _ _ => ?_ | refine Ev.boxC fun _ _ _ => ?_ | refine Ev.stC fun _ _ => ?_ | refine Ev.sc (by omega) ?_ | refine Ev.scg (by omega) ?_) | rw [decide_eq_true (by omega)] | rw [decide_eq_false (by omega)])
  obtain ⟨p, q1, q2⟩ := (ScN.mono (hm6.mo.trans hS8.le) hN2).ldAt (P := Tryd.prog) (t := 22) (k := .i64) (i := 0) (by decide) (AggOf.eq (P := Tryd.prog) (t := 54))
  rw [show ((verC [(5, 9)]).drop (0 * 2)).take 2 = [.int .i64 5, .int .i64 9] from rfl] at q2
  rw [show (.int .i64 0 : Value) = .int .i64 ((0 : Nat) : Int) from rfl, q1, Option.bind_some]
  repeat (first | refine Ev.s ?_ | refine Ev.newC fun _ _ _ => ?_ | refine Ev.boxC fun _ _ _ => ?_ | refine Ev.stC fun _ _ => ?_ | refine Ev.sc (by omega) ?_ | refine Ev.scg (by omega) ?_)
  rw [q2, Option.bind_some]
  repeat (first | refine Ev.s ?_ | refine Ev.newC fun _ _ _ => ?_ | refine Ev.boxC fun _ _ _ => ?_ | refine Ev.stC fun _ _ => ?_ | refine Ev.sc (by omega) ?_ | refine Ev.scg (by omega) ?_)
  rw [cbin_eql_agg (xs := [.int .i64 5, .int .i64 9]) (ys := [.int .i64 5, .int .i64 9]) (ceqV 5 9 5 9), Option.bind_some]
  try rw [show (decide ((5 : Int) = 5) && (decide ((9 : Int) = 9) && true)) = true from rfl]
  repeat (first | (first | refine Ev.s ?_ | refine Ev.newC fun _ _ _ => ?_ | refine Ev.boxC fun _ _ _ => ?_ | refine Ev.stC fun _ _ => ?_ | refine Ev.sc (by omega) ?_ | refine Ev.scg (by omega) ?_) | rw [decide_eq_true (by omega)] | rw [decide_eq_false (by omega)])
  exact Ev.ret ⟨rfl, B6, ⟨hm1.mo.trans (hm2.mo.trans hm6.mo)⟩, hS8.drop1.drop1⟩
theorem cSave_up {p dv : Value} {D : Dsk} {m j : Nat} {next : Int} {sv : Value} {l : Vers} {Ls : List (Nat × Blk)} (hv : ScN B sv l.length 2 (verC l)) (hl : l.length < 1000000000) (hr : rightC next l = true) (hU : D.Up (2 * m)) (hm2 : m ≤ 512) (hc : D.cache.length < 100000) (hjm : j + 3 ≤ m)
    (hP : PK p dv ⟨1, 0, [0, 1], frs j, false⟩ D Ls) (hS : St H0 B0 B (Ls ++ L) H) :
    Ev (fun k _ => rn k 12 [p, .agg #[.int .i64 next, sv]] H) (fun r => ∃ B' Ls' D', r.1 = .tuple #[i64 (j + 2), .int .i64 0] ∧ MoC B B' ∧ D'.Up (2 * m) ∧ D'.cache.length = D.cache.length + 2 ∧ Laid (encC next l) j 1 D D' ∧ PK p dv ⟨1, 0, [0, 1], frs (j + 1), false⟩ D' Ls' ∧ St H0 B0 B' (Ls' ++ L) r.2) := by
  refine Ev.fn (fun k => f12_eq k _ _ H) ?_
  have hcell := hv.cell
  have hle := encC_len hr
  have hn1 : need (encC next l).length = 1 := by unfold need; split <;> omega
  repeat (first | refine Ev.s ?_ | refine Ev.newC fun _ _ _ => ?_ | refine Ev.boxC fun _ _ _ => ?_ | refine Ev.stC fun _ _ => ?_ | refine Ev.sc (by omega) ?_ | refine Ev.scg (by omega) ?_)
  rename_i c H1 hS1
  clear hS
  refine Ev.b2 (cEncode_spec hv hl hS1) ?_
  rintro _ H2 ⟨h, B2, hm2', hS2⟩
  dsimp only at h hS2
  rw [if_pos hr] at h
  subst h
  clear hS1
  repeat (first | (first | refine Ev.s ?_ | refine Ev.newC fun _ _ _ => ?_ | refine Ev.boxC fun _ _ _ => ?_ | refine Ev.stC fun _ _ => ?_ | refine Ev.sc (by omega) ?_ | refine Ev.scg (by omega) ?_) | rw [decide_eq_true (by omega)] | rw [decide_eq_false (by omega)])
  refine Ev.b2 (bWrite_spec (j := j) (s := encC next l) hU hm2 hc (by omega) (by omega) hP hS2.drop1) ?_
  rw [hn1]
  rintro _ H3 (⟨h1, B3, Ls3, D3, rfl, hm3, u3, c3, hL3, hP3, hS3⟩ | ⟨h1, _⟩)
  case inr => omega
  dsimp only at hS3
  clear hS2
  repeat (first | refine Ev.s ?_ | refine Ev.newC fun _ _ _ => ?_ | refine Ev.boxC fun _ _ _ => ?_ | refine Ev.stC fun _ _ => ?_ | refine Ev.sc (by omega) ?_ | refine Ev.scg (by omega) ?_)
  exact Ev.ret ⟨B3, Ls3, D3, rfl, ⟨hm2'.mo.trans hm3.mo⟩, u3, by omega, hL3, hP3, hS3⟩
theorem cLoad_up {p dv m j : Nat} {D : Dsk} {G : Pgr} {next : Int} {l : Vers} {Ls : List (Nat × Blk)} (hr : rightC next l = true) (hU : D.Up (2 * m)) (hm2 : m ≤ 512) (hc : D.cache.length < 1000000) (hd : G.down = false) (hroot : G.root = ((j + 2 : Nat) : Int)) (hH : D.Has (encC next l) j 1) (hjm : j + 3 ≤ m)
    (hP : PK (ptr p 0) (ptr dv 0) G D Ls) (hS : St H0 B0 B (Ls ++ L) H) :
    Ev (fun k _ => rn k 14 [ptr p 0] H) (fun r => ∃ B' Ls' v, r.1 = .tuple #[.agg #[.int .i64 next, v], .int .i64 0] ∧ MoC B B' ∧ ScN B' v l.length 2 (verC l) ∧ PK (ptr p 0) (ptr dv 0) G D Ls' ∧ St H0 B0 B' (Ls' ++ L) r.2) := by
  refine Ev.fn (fun k => f14_eq k _ H) ?_
  have hle := encC_len hr
  repeat (first | refine Ev.s ?_ | refine Ev.newC fun _ _ _ => ?_ | refine Ev.boxC fun _ _ _ => ?_ | refine Ev.stC fun _ _ => ?_ | refine Ev.sc (by omega) ?_ | refine Ev.scg (by omega) ?_)
  rename_i a H1 hS1
  clear hS
  refine Ev.b2 (Root_spec hP hS1 (fun x hx => .tail _ (List.mem_append_left _ hx))) ?_
  rintro _ _ h
  cases h
  rw [hroot]
  repeat (first | (first | refine Ev.s ?_ | refine Ev.newC fun _ _ _ => ?_ | refine Ev.boxC fun _ _ _ => ?_ | refine Ev.stC fun _ _ => ?_ | refine Ev.sc (by omega) ?_ | refine Ev.scg (by omega) ?_) | rw [decide_eq_true (by omega)] | rw [decide_eq_false (by omega)])
  refine Ev.b2 (Root_spec hP hS1 (fun x hx => .tail _ (List.mem_append_left _ hx))) ?_
  rintro _ _ h
  cases h
  rw [hroot]
  refine Ev.b2 (bRead_spec (j := j) (k := 1) (a := 0) (s := encC next l) (L := (a, ⟨[.int .i64 0, .slice none 0 0], 24, .fix⟩) :: L) hU hm2 hc hd hH (by omega) (by decide) (by omega) (by omega) hP (hS1.perm (by (refine perm_cnt ?_; intro _ a; simp only [List.count_append, List.count_cons, List.cons_append, List.nil_append, List.append_assoc]; ac_rfl)))) ?_
  rintro _ H2 ⟨B2, Ls2, rfl, hm2', hP2, hS2⟩
  dsimp only at hS2
  clear hS1
  repeat (first | (first | refine Ev.s ?_ | refine Ev.newC fun _ _ _ => ?_ | refine Ev.boxC fun _ _ _ => ?_ | refine Ev.stC fun _ _ => ?_ | refine Ev.sc (by omega) ?_ | refine Ev.scg (by omega) ?_) | rw [decide_eq_true (by omega)] | rw [decide_eq_false (by omega)])
  rw [show (encC next l).drop (118 * 0) = encC next l by simp]
  refine Ev.b2 (cDecode_spec (s := encC next l) (by omega) hS2) ?_
  rintro _ H3 ⟨B3, hdv, hm3, hS3⟩
  dsimp only at hS3 hdv
  clear hS2
  have hdc := decC_encC hr
  rcases hdv with ⟨h, _⟩ | ⟨n2, l2, sv, h, rfl, hN⟩
  · rw [hdc] at h; cases h
  rw [hdc] at h
  cases h
  have hcell := hN.cell
  have hS4 : St H0 B0 B3 ((a, ⟨[.int .i64 0, .slice none 0 0], 24, .fix⟩) :: (Ls2 ++ L)) H3 := hS3.perm (by (refine perm_cnt ?_; intro _ a; simp only [List.count_append, List.count_cons, List.cons_append, List.nil_append, List.append_assoc]; ac_rfl))
  clear hS3
  repeat (first | refine Ev.s ?_ | refine Ev.newC fun _ _ _ => ?_ | refine Ev.boxC fun _ _ _ => ?_ | refine Ev.stC fun _ _ => ?_ | refine Ev.sc (by omega) ?_ | refine Ev.scg (by omega) ?_)
  rename_i H5 hS5
  exact Ev.ret ⟨B3, Ls2, sv, rfl, ⟨hm2'.mo.trans hm3.mo⟩, hN, hP2, hS5.drop1⟩
end
end Go.AM.C
set_option linter.unusedVariables false
set_option linter.unusedSimpArgs false
namespace Go.AM
open Go.ChangeShapes Go.WideShapes Go.Deep Go.RowKit
variable {P : Program}

structure Ro (P : Program) (W : World) (m : Mp) (H : AH) : Prop where
  rel : Rel P W.heap.size W m H W
  ro : ∀ b k, blk H b = some k → k.kind = .ro
def Sub (m m' : Mp) : Prop := ∀ b L, m b = some L → m' b = some L
theorem Sub.refl (m : Mp) : Sub m m := fun _ _ h => h
theorem Sub.trans {a b c : Mp} (h : Sub a b) (k : Sub b c) : Sub a c := fun x L hx => k x L (h x L hx)
theorem Ro.empty (W : World) : Ro P W (fun _ => none) [] :=
  ⟨⟨Below.refl _ _, Nat.le_refl _, fun _ _ h => (by cases h), fun _ _ _ h => (by cases h), fun _ _ _ _ _ _ h => (by cases h)⟩, fun b k h => (by simp [blk] at h)⟩
def SlOK (W : World) (cs : List Value) : Prop := ∀ a len cap, Value.slice (some a) len cap ∈ cs → a.spot = none ∧ ∃ c e fr, W.heap[a.block]? = some (.cells c e fr)

/-- One more that came in. -/
theorem Ro.add {W : World} {m : Mp} {H : AH} {ks : List Value} {e : TypeId} {bl base : Nat} {c : Array Value} {te : TypeId} {fr : Nat × Nat} (R : Ro P W m H) (hb : W.heap[bl]? = some (.cells c te fr))
    (hl : LRel m ks ((c.toList.drop base).take ks.length)) :
    ∃ m' : Mp, Sub m m' ∧ m' H.length = some ⟨bl, base, .ro, 0, 0⟩ ∧ Ro P W m' (mkB H ks e .ro) := by
  refine ⟨fun b => if b = H.length then some ⟨bl, base, .ro, 0, 0⟩ else m b, ?_, if_pos rfl, ?_⟩
  · intro b L h
    have := (R.rel.dom b L h).1
    show (if b = H.length then _ else m b) = _
    rw [if_neg (by omega)]; exact h
  have hsub : Sub m (fun b => if b = H.length then some ⟨bl, base, .ro, 0, 0⟩ else m b) := by
    intro b L h
    have := (R.rel.dom b L h).1
    show (if b = H.length then _ else m b) = _
    rw [if_neg (by omega)]; exact h
  have hro : ∀ b k, blk (mkB H ks e .ro) b = some k → k.kind = .ro := by
    intro b k h
    by_cases hbn : b < H.length
    · rw [blk_mkB_old hbn] at h; exact R.ro b k h
    · have := blk_lt h
      rw [length_mkB] at this
      have : b = H.length := by omega
      subst this
      rw [blk_mkB_new] at h; cases h; rfl
  refine ⟨⟨R.rel.below, R.rel.hB, ?_, ?_, ?_⟩, hro⟩
  · intro b L h
    replace h : (if b = H.length then some _ else m b) = some L := h
    rw [length_mkB]
    by_cases hb2 : b = H.length
    · rw [if_pos hb2] at h; cases h
      exact ⟨by omega, (Array.getElem?_eq_some_iff.1 hb).1⟩
    · rw [if_neg hb2] at h
      have := R.rel.dom b L h
      exact ⟨by omega, this.2⟩
  · intro b L k h hk
    replace h : (if b = H.length then some _ else m b) = some L := h
    by_cases hb2 : b = H.length
    · rw [if_pos hb2] at h; cases h
      subst hb2
      rw [blk_mkB_new] at hk; cases hk
      exact ⟨rfl, fun _ => ⟨c, te, fr, hb, hl.mono hsub, fun hh => absurd rfl hh, fun hh => (by cases hh), fun hh => (by cases hh), fun hh => (by cases hh), fun hh => (by cases hh)⟩, fun hh => (by cases hh), fun _ _ hh => (by cases hh), fun hh => absurd rfl hh, fun hh => (by cases hh)⟩
    · rw [if_neg hb2] at h
      have hlt := (R.rel.dom b L h).1
      rw [blk_mkB_old hlt] at hk
      have h1 := R.rel.blks b L k h hk
      exact h1.at hsub rfl
  · intro b1 b2 L1 L2 k1 k2 _ _ h1 _ hne _
    exact absurd (hro b1 k1 h1) hne

/-- A kind of datum over the abstract heap. -/
structure Kn (α : Type) where
  K : AH → α → List Value → Prop
  mono : ∀ {H H' : AH} {a : α} {cs : List Value}, Mo H H' → K H a cs → K H' a cs
def Kn.int (k : IntKind) : Kn Int := ⟨fun _ n cs => cs = [.int k n], fun _ h => h⟩
def Kn.bool : Kn Bool := ⟨fun _ n cs => cs = [.bool n], fun _ h => h⟩
def Kn.string : Kn ByteArray := ⟨fun _ n cs => cs = [.string n], fun _ h => h⟩
def Kn.pair {α β : Type} (a : Kn α) (b : Kn β) : Kn (α × β) :=
  ⟨fun H x cs => ∃ c d, cs = c ++ d ∧ a.K H x.1 c ∧ b.K H x.2 d, fun hm ⟨c, d, h, h1, h2⟩ => ⟨c, d, h, a.mono hm h1, b.mono hm h2⟩⟩
def Kn.unit : Kn Unit := ⟨fun _ _ cs => cs = [], fun _ h => h⟩
/-- A slice that came in. -/
def Kn.slice {α : Type} (e : TypeId) (sz : Nat) (d : Kn α) : Kn (List α) :=
  ⟨fun H l cs => (cs = [.slice none 0 0] ∧ l = []) ∨ ∃ (b : Nat) (css : List (List Value)), cs = [sl b 0 l.length (l.length + 1)] ∧ blk H b = some ⟨css.flatten, e, .ro⟩ ∧ css.length = l.length ∧ ∀ (i : Nat) (a : α) (c : List Value), l[i]? = some a → css[i]? = some c → c.length = sz ∧ d.K H a c,
   by
    intro H H' l cs hm h
    rcases h with h | ⟨b, css, h1, h2, h3, h4⟩
    · exact .inl h
    · exact .inr ⟨b, css, h1, hm _ _ h2, h3, fun i a c h5 h6 => ⟨(h4 i a c h5 h6).1, d.mono hm (h4 i a c h5 h6).2⟩⟩⟩
theorem LRel.one {m : Mp} {x y : Value} (h : VRel m x y) : LRel m [x] [y] := LRel.cons h (LRel.nil m)
/-- No slice among a type's cells. -/
def NoSl (P : Program) (t : TypeId) : Prop :=
  ∀ (Hh : Type) (enc : TypeId × Value → Hh) (W : World) (spare : Nat → Bool) (held : Bool) (fuel : Nat) (cs : List Value) (x : DataW Hh × List MemPlace), DataW.trod enc P W 0 spare held fuel t cs = some x → SlOK W cs
theorem noSl_int {t : TypeId} {k : IntKind} (ht : P.underlying t = some (.int k)) : NoSl P t := by
  intro Hh enc W spare held fuel cs x h
  obtain ⟨n, rfl, _, hw⟩ := DataW.trod_int ht h
  intro a l c hm; simp at hm
theorem flatten_snoc {α : Type} (l : List (List α)) (x : List α) : (l ++ [x]).flatten = l.flatten ++ x := by simp
theorem noFs {fs : List Field} {Hh : Type} {enc : TypeId × Value → Hh} {W : World} {spare : Nat → Bool} {held : Bool} {n : Nat} {cs : List Value} :
    ∀ (fs : List Field) (off : Nat), (∀ f ∈ fs, NoSl P f.type) → (∀ f ∈ fs, ∃ x, DataW.trod enc P W 0 spare held n f.type ((cs.drop f.offset).take (P.cellsOf f.type)) = some x) →
    (∀ i, off ≤ i → i < cs.length → ∃ f ∈ fs, f.offset ≤ i ∧ i < f.offset + P.cellsOf f.type) → SlOK W (cs.drop off) := by
  intro fs off h1 h2 h3 a l c hm
  obtain ⟨i, hi⟩ := List.getElem?_of_mem hm
  rw [List.getElem?_drop] at hi
  have hlt := (List.getElem?_eq_some_iff.1 hi).1
  obtain ⟨f, hf, h4, h5⟩ := h3 (off + i) (by omega) hlt
  obtain ⟨x, hx⟩ := h2 f hf
  refine h1 f hf Hh enc W spare held n _ x hx a l c ?_
  refine List.mem_of_getElem? (i := off + i - f.offset) ?_
  rw [List.getElem?_take_of_lt (by omega), List.getElem?_drop, show f.offset + (off + i - f.offset) = off + i by omega]
  exact hi
theorem noSl_struct {t : TypeId} {fs : List Field} (ht : P.underlying t = some (.struct ⟨fs⟩)) (h1 : ∀ f ∈ fs, NoSl P f.type) (h3 : ∀ i, i < P.cellsOf t → ∃ f ∈ fs, f.offset ≤ i ∧ i < f.offset + P.cellsOf f.type) : NoSl P t := by
  intro Hh enc W spare held fuel cs x h
  obtain ⟨xs, n, _, rfl, hl, hlen, hf⟩ := DataW.trod_struct ht h
  have := noFs (fs := fs) (enc := enc) (W := W) (spare := spare) (held := held) (n := n) (cs := cs) fs 0 h1 (fun f hfm => by
    obtain ⟨i, hi, he⟩ := List.mem_iff_getElem.1 hfm
    have h1 := hf i f (by simp [← he, hi])
    rw [h1]
    have : i < xs.length := by rw [hlen]; simpa using hi
    exact ⟨_, List.getElem?_eq_getElem this⟩) (fun i _ hi => h3 i (by omega))
  simpa using this

theorem slOK_cell {W : World} {base : Nat} {u : TypeId} {a : Addr} {len cap : Nat} (h : Cell.okWide P W .any base u (.slice (some a) len cap)) : a.spot = none ∧ ∃ c e fr, W.heap[a.block]? = some (.cells c e fr) := by
  have hc : ∃ e n, W.has P .any base a e n := by
    unfold Cell.okWide at h
    cases hu : P.underlying u with
    | none => rw [hu] at h; simp [Cell.ok, hu] at h
    | some D =>
      rw [hu] at h
      cases D <;> simp [Cell.ok, hu] at h
      exact ⟨_, _, h.2.2⟩
  obtain ⟨e, n, hh⟩ := hc
  obtain ⟨_, h1, row, cells, h2, _⟩ := hh
  refine ⟨h1, ?_⟩
  unfold World.shape? at h2
  split at h2
  · rename_i c' e' fr' hb; exact ⟨c', e', fr', hb⟩
  · cases h2
theorem slOK_of {W : World} {base : Nat} {t : TypeId} {v : Value} (h : Value.okWide P W .any base t v) : SlOK W v.cells.toList := by
  intro a len cap hm
  have key : (∃ u, Cell.okWide P W .any base u (.slice (some a) len cap)) := by
    unfold Value.okWide at h
    split at h
    · obtain ⟨cs, rfl, _, ts, _, _, hr⟩ := h
      obtain ⟨i, hi⟩ := List.getElem?_of_mem hm
      obtain ⟨u, _, hu⟩ := hr i _ (by simpa [Value.cells] using hi)
      exact ⟨u, hu⟩
    · obtain ⟨cs, rfl, _, ts, _, _, hr⟩ := h
      obtain ⟨i, hi⟩ := List.getElem?_of_mem hm
      obtain ⟨u, _, hu⟩ := hr i _ (by simpa [Value.cells] using hi)
      exact ⟨u, hu⟩
    · cases v with
      | agg cs =>
        exfalso
        unfold Cell.okWide at h
        cases hu : P.underlying t with
        | none => rw [hu] at h; simp [Cell.ok, hu] at h
        | some D => rw [hu] at h; cases D <;> simp [Cell.ok, hu] at h
      | slice p l c =>
        simp [Value.cells] at hm
        obtain ⟨rfl, rfl, rfl⟩ := hm
        exact ⟨t, h⟩
      | _ => simp [Value.cells] at hm
  obtain ⟨u, hu⟩ := key
  exact slOK_cell hu
def KvS {α : Type} (d : Kn α) (H : AH) (a : α) (v : Value) : Prop := ∃ cs, v = .agg cs.toArray ∧ d.K H a cs
def KvC {α : Type} (d : Kn α) (H : AH) (a : α) (v : Value) : Prop := d.K H a [v]
theorem rgFind_mem : ∀ (l : List (Array Tmp × Code × Code)) (x : Array Tmp × Code × Code), nodupB (l.map fun x => firstId x.2.2) = true → x ∈ l → rgFind (firstId x.2.2) l = some x
  | [], x, _, h => by cases h
  | y :: l, x, hn, h => by
    simp only [List.map_cons, nodupB, Bool.and_eq_true, Bool.not_eq_true'] at hn
    unfold rgFind
    cases h with
    | head => simp
    | tail _ h =>
      have hne : (firstId y.2.2 == firstId x.2.2) = false := by
        cases he : firstId y.2.2 == firstId x.2.2 with
        | false => rfl
        | true =>
          exfalso
          have h1 : firstId y.2.2 = firstId x.2.2 := by simpa using he
          have h2 : (l.map fun x => firstId x.2.2).contains (firstId y.2.2) = true := by
            rw [List.contains_iff_mem, h1]
            exact List.mem_map.2 ⟨x, h, rfl⟩
          rw [h2] at hn
          cases hn.1
      rw [hne]
      exact rgFind_mem l x hn.2 h
theorem ranges_go {tbs : FuncId → Tbl} : ∀ (l : List Func) (i : Nat), rangesGo tbs i l = true → ∀ (j : Nat) (fn : Func) (c : Code), l[j]? = some fn → fn.body = some c → rgs c = [] ∨ (fidOf (tbs (i + j)) = i + j ∧ nodupB ((rgs c).map fun x => firstId x.2.2) = true)
  | [], i, _, j, fn, c, h, _ => by simp at h
  | f0 :: l, i, h, 0, fn, c, hj, hc => by
    simp only [List.getElem?_cons_zero, Option.some.injEq] at hj
    subst hj
    simp only [rangesGo, hc, Bool.and_eq_true, Bool.or_eq_true] at h
    rcases h.1 with h1 | h1
    · exact .inl (List.isEmpty_iff.1 h1)
    · exact .inr ⟨by simpa using h1.1, h1.2⟩
  | f0 :: l, i, h, j + 1, fn, c, hj, hc => by
    simp only [rangesGo, Bool.and_eq_true] at h
    have := ranges_go l (i + 1) h.2 j fn c (by simpa using hj) hc
    rwa [show i + 1 + j = i + (j + 1) by omega] at this
theorem ranges_ok {P : Program} {tbs : FuncId → Tbl} (h : rangesB P tbs = true) : RangesOK P tbs := by
  intro f fn c hf hc
  rcases ranges_go _ 0 h f fn c (by rw [Array.getElem?_toList]; exact hf) hc with h1 | ⟨h1, h2⟩
  · exact .inl h1
  · rw [Nat.zero_add] at h1
    refine .inr ⟨h1, fun x hx => ?_⟩
    unfold rangeAt
    rw [hf, Option.bind_some, hc, Option.bind_some]
    exact rgFind_mem _ x h2 hx
/-- Behind a call: nothing that was there is another. -/
theorem walk_of {W : World} {f : FuncId} {args vs : List Value} {m : Mp} {H H' : AH} {v : Value} {call : CallF} (hc : CallOK P call) (R : Ro P W m H) (hl : LRel m args vs) (h : call f args H = some (v, H')) (hf : flat1 v = true) (hy : f < yOff := by unfold yOff; omega) :
    Calls P f vs.toArray W fun e W' => e = .returned v ∧ Below W.heap.size W W' := by
  refine ((hc.1 f args H v H' hy h).2 W.heap.size W m W vs R.rel hl).mono fun e w' ⟨m', v', he, hv, hr, _⟩ => ?_
  rw [VRel.flat_inv hf hv] at he
  exact ⟨he, hr.below⟩
end Go.AM
set_option linter.unusedVariables false
set_option linter.unusedSimpArgs false
set_option maxRecDepth 100000
namespace Go.AM.C
open Go Go.AM Go.Proofs
attribute [local irreducible] run bin un ld st box newV mkS fldA fld ixA ix slc slc3 build buildS cv cvS ap cpy lenV gOp pickV b2 aIf aChk evalK resume iterD Option.bind

section
variable {B B0 H0 H : AH} {L : List (Nat × Blk)}
abbrev KVers := Kn.slice 54 2 (Kn.pair (Kn.int .i64) (Kn.pair (Kn.int .i64) Kn.unit))
def versOf (l : List (Int × Int × Unit)) : Vers := l.map fun x => (x.1, x.2.1)
theorem vers_flat (l : List (Int × Int × Unit)) (css : List (List Value)) (hl : css.length = l.length) (h : ∀ (i : Nat) (a : Int × Int × Unit) (c : List Value), l[i]? = some a → css[i]? = some c → c = [.int .i64 a.1, .int .i64 a.2.1]) : css.flatten = verC (versOf l) := by
  induction l generalizing css with
  | nil =>
    have : css = [] := List.length_eq_zero_iff.1 hl
    subst this; rfl
  | cons a l ih =>
    cases css with
    | nil => simp at hl
    | cons c css =>
      have h0 := h 0 a c rfl rfl
      have := ih css (by simpa using hl) (fun i a c h1 h2 => h (i + 1) a c h1 h2)
      rw [List.flatten_cons, this, h0]; rfl
theorem vers_open {H : AH} {l : List (Int × Int × Unit)} {m : Value} (h : KVers.K H l [m]) : ScN H m (versOf l).length 2 (verC (versOf l)) := by
  have hl : (versOf l).length = l.length := List.length_map ..
  rcases h with ⟨h1, rfl⟩ | ⟨b, css, h1, h2, h3, h4⟩
  · cases h1; exact .inl ⟨rfl, rfl, rfl⟩
  · cases h1
    have e := vers_flat l css h3 (fun i a c h5 h6 => by
      obtain ⟨_, c1, d1, hc, hc1, c2, d2, hd, hc2, hd2⟩ := h4 i a c h5 h6
      subst hc hd
      rw [show c1 = _ from hc1, show c2 = _ from hc2, show d2 = _ from hd2]; rfl)
    refine .inr ⟨b, 0, l.length + 1, by rw [hl], by omega, by rw [verC_len], .inr ⟨_, h2, ?_⟩⟩
    rw [e]
    unfold rdN
    rw [if_pos (by simp [verC_len]), List.drop_zero, List.take_of_length_le (by simp [verC_len])]
theorem back_tail {s : List UInt8} (hs : s.length ≤ 1100000) (hS : St H0 B0 B L H) : Ev (fun k _ => f3_J0 k (str s) (.bool true) H) (fun r => r.1 = .bool true) := by
  refine Ev.eq (fun k _ => f3_J0_eq k _ _ H) ?_
  refine Ev.b2 (cDecode_spec hs hS) ?_
  rintro _ H1 ⟨B1, hd, hm1, hS1⟩
  dsimp only at hS1 hd
  clear hS
  rcases hd with ⟨hn, rfl⟩ | ⟨n, l, sv, hn, rfl, hN⟩
  · repeat (first | refine Ev.s ?_ | refine Ev.newC fun _ _ _ => ?_ | refine Ev.boxC fun _ _ _ => ?_ | refine Ev.stC fun _ _ => ?_ | refine Ev.sc (by omega) ?_ | refine Ev.scg (by omega) ?_)
    rename_i b H2 hS2 H3 hS3
    clear hS1 hS2
    refine Ev.b2 (cEncode_spec (next := 0) (l := []) (sv := .slice none 0 0) ScN.nil (by decide) hS3) ?_
    rintro _ H4 ⟨h, B4, hm4, hS4⟩
    dsimp only at h hS4
    rw [if_neg (by decide)] at h
    subst h
    clear hS3
    repeat (first | (first | refine Ev.s ?_ | refine Ev.newC fun _ _ _ => ?_ | refine Ev.boxC fun _ _ _ => ?_ | refine Ev.stC fun _ _ => ?_ | refine Ev.sc (by omega) ?_ | refine Ev.scg (by omega) ?_) | rw [decide_eq_true (by omega)] | rw [decide_eq_false (by omega)])
    exact Ev.ret rfl
  · have hcell := hN.cell
    obtain ⟨hr, he⟩ := decC_some hn
    have hr0 := hr
    simp only [rightC, Bool.and_eq_true, decide_eq_true_eq] at hr0
    repeat (first | refine Ev.s ?_ | refine Ev.newC fun _ _ _ => ?_ | refine Ev.boxC fun _ _ _ => ?_ | refine Ev.stC fun _ _ => ?_ | refine Ev.sc (by omega) ?_ | refine Ev.scg (by omega) ?_)
    rename_i b H2 hS2 H3 hS3
    clear hS1 hS2
    refine Ev.b2 (cEncode_spec hN (by omega) hS3) ?_
    rintro _ H4 ⟨h, B4, hm4, hS4⟩
    dsimp only at h hS4
    rw [if_pos hr, he] at h
    subst h
    clear hS3
    repeat (first | (first | refine Ev.s ?_ | refine Ev.newC fun _ _ _ => ?_ | refine Ev.boxC fun _ _ _ => ?_ | refine Ev.stC fun _ _ => ?_ | refine Ev.sc (by omega) ?_ | refine Ev.scg (by omega) ?_) | rw [decide_eq_true (by omega)] | rw [decide_eq_false (by omega)])
    try rw [show decide (s = s) = true from decide_eq_true rfl]
    repeat (first | (first | refine Ev.s ?_ | refine Ev.newC fun _ _ _ => ?_ | refine Ev.boxC fun _ _ _ => ?_ | refine Ev.stC fun _ _ => ?_ | refine Ev.sc (by omega) ?_ | refine Ev.scg (by omega) ?_) | rw [decide_eq_true (by omega)] | rw [decide_eq_false (by omega)])
    refine Ev.b2 (cRight_spec (ScN.mono hm4.mo hN) (by omega) hS4) ?_
    rintro _ H5 ⟨rfl, hS5⟩
    dsimp only at hS5
    rw [hr]
    repeat (first | (first | refine Ev.s ?_ | refine Ev.newC fun _ _ _ => ?_ | refine Ev.boxC fun _ _ _ => ?_ | refine Ev.stC fun _ _ => ?_ | refine Ev.sc (by omega) ?_ | refine Ev.scg (by omega) ?_) | rw [decide_eq_true (by omega)] | rw [decide_eq_false (by omega)])
    exact Ev.ret rfl
theorem catBack_law {next : Int} {sv : Value} {l : Vers} {s : List UInt8} (hv : ScN B sv l.length 2 (verC l)) (hl : l.length < 9223372036854775808) (hs : s.length ≤ 1100000) (hL : Le B H) : Ev (fun k _ => rn k 3 [.agg #[.int .i64 next, sv], str s] H) (fun r => r.1 = .bool true) := by
  refine Ev.fn (fun k => f3_eq k _ _ H) ?_
  have hS := St.start hL
  have hcell0 := hv.cell
  repeat (first | refine Ev.s ?_ | refine Ev.newC fun _ _ _ => ?_ | refine Ev.boxC fun _ _ _ => ?_ | refine Ev.stC fun _ _ => ?_ | refine Ev.sc (by omega) ?_ | refine Ev.scg (by omega) ?_)
  rename_i c H1 hS1
  clear hS
  refine Ev.b2 (examples23_spec hS1) ?_
  rintro _ H2 ⟨rfl, B2, hm2, hS2⟩
  dsimp only at hS2
  clear hS1
  repeat (first | refine Ev.s ?_ | refine Ev.newC fun _ _ _ => ?_ | refine Ev.boxC fun _ _ _ => ?_ | refine Ev.stC fun _ _ => ?_ | refine Ev.sc (by omega) ?_ | refine Ev.scg (by omega) ?_)
  refine Ev.b2 (cfew_spec (ScN.mono hm2.mo hv) hl hS2) ?_
  rintro _ H3 ⟨v, B3, rfl, hm3, hN3, hS3⟩
  dsimp only at hS3
  clear hS2
  have hl15 : (l.take 15).length ≤ 15 := by rw [List.length_take]; omega
  generalize l.take 15 = w at hN3 hl15
  have hcell := hN3.cell
  clear hcell0
  repeat (first | refine Ev.s ?_ | refine Ev.newC fun _ _ _ => ?_ | refine Ev.boxC fun _ _ _ => ?_ | refine Ev.stC fun _ _ => ?_ | refine Ev.sc (by omega) ?_ | refine Ev.scg (by omega) ?_)
  rename_i H4 hS4
  clear hS3
  refine Ev.b2 (New_spec (n := 20) (by decide) (by decide) hS4) ?_
  rintro _ H5 ⟨p1, Ls1, B5, rfl, hm5, hD5, hS5⟩
  obtain ⟨d1, rfl⟩ := hD5.ptr
  dsimp only at hS5
  clear hS4
  repeat (first | (first | refine Ev.s ?_ | refine Ev.newC fun _ _ _ => ?_ | refine Ev.boxC fun _ _ _ => ?_ | refine Ev.stC fun _ _ => ?_ | refine Ev.sc (by omega) ?_ | refine Ev.scg (by omega) ?_) | rw [decide_eq_true (by omega)] | rw [decide_eq_false (by omega)])
  refine Ev.b2 (Format_up (m := 10) hD5 (Dsk.up_new (by decide) (by decide)) (by decide) (by decide) (by decide) hS5) ?_
  clear hS5
  rintro _ H6 ⟨p, D6, ⟨rfl, Ls6, B6, hm6, hP6, hS6⟩, u6, c6, pg6⟩
  dsimp only at hS6
  repeat (first | (first | refine Ev.s ?_ | refine Ev.newC fun _ _ _ => ?_ | refine Ev.boxC fun _ _ _ => ?_ | refine Ev.stC fun _ _ => ?_ | refine Ev.sc (by omega) ?_ | refine Ev.scg (by omega) ?_) | rw [decide_eq_true (by omega)] | rw [decide_eq_false (by omega)])
  have hld : ∀ {Bx Hx : AH} {Lx : List (Nat × Blk)}, St H B Bx Lx Hx → (c, (⟨[.int .i64 next, v], 24, .fix⟩ : Blk)) ∈ Lx → ld Tryd.prog 24 Hx (ptr c 0) = some (.agg #[.int .i64 next, v]) := fun h hm => by
    rw [ld_blk (h.get hm)]; exact PrimEq.eq
  have hN6 : ScN B6 v w.length 2 (verC w) := ScN.mono (hm5.mo.trans hm6.mo) hN3
  refine Ev.prim (hld hS6 (List.mem_append_right _ (.head _))) ?_
  refine Ev.b2 (cEncode_spec hN6 (by omega) hS6) ?_
  rintro _ H7 ⟨h, B7, hm7, hS7⟩
  dsimp only at h hS7
  clear hS6
  by_cases hr : rightC next w = true
  case neg =>
    rw [if_neg hr] at h
    subst h
    repeat (first | (first | refine Ev.s ?_ | refine Ev.newC fun _ _ _ => ?_ | refine Ev.boxC fun _ _ _ => ?_ | refine Ev.stC fun _ _ => ?_ | refine Ev.sc (by omega) ?_ | refine Ev.scg (by omega) ?_) | rw [decide_eq_true (by omega)] | rw [decide_eq_false (by omega)])
    exact back_tail hs hS7
  rw [if_pos hr] at h
  subst h
  have hle := encC_len hr
  have hdc := decC_encC hr
  repeat (first | (first | refine Ev.s ?_ | refine Ev.newC fun _ _ _ => ?_ | refine Ev.boxC fun _ _ _ => ?_ | refine Ev.stC fun _ _ => ?_ | refine Ev.sc (by omega) ?_ | refine Ev.scg (by omega) ?_) | rw [decide_eq_true (by omega)] | rw [decide_eq_false (by omega)])
  refine Ev.b2 (cDecode_spec (s := encC next w) (by omega) hS7) ?_
  rintro _ H8 ⟨B8, hdv, hm8, hS8⟩
  dsimp only at hS8 hdv
  clear hS7
  rcases hdv with ⟨h, _⟩ | ⟨n2, l2, v2, h, rfl, hN8⟩
  · rw [hdc] at h; cases h
  rw [hdc] at h
  cases h
  have hcell8 := hN8.cell
  repeat (first | refine Ev.s ?_ | refine Ev.newC fun _ _ _ => ?_ | refine Ev.boxC fun _ _ _ => ?_ | refine Ev.stC fun _ _ => ?_ | refine Ev.sc (by omega) ?_ | refine Ev.scg (by omega) ?_)
  rename_i b9 H9 hS9 H10 hS10
  clear hS8 hS9
  have hN10 : ScN B8 v w.length 2 (verC w) := ScN.mono (hm7.mo.trans hm8.mo) hN6
  refine Ev.prim (hld hS10 (.tail _ (List.mem_append_right _ (.head _)))) ?_
  refine Ev.b2 (cref_spec hN10 (by omega) hS10) ?_
  rintro _ H11 ⟨v11, B11, rfl, hm11, hN11, hS11⟩
  dsimp only at hS11
  clear hS10
  repeat (first | refine Ev.s ?_ | refine Ev.newC fun _ _ _ => ?_ | refine Ev.boxC fun _ _ _ => ?_ | refine Ev.stC fun _ _ => ?_ | refine Ev.sc (by omega) ?_ | refine Ev.scg (by omega) ?_)
  refine Ev.b2 (clists_spec (ScN.mono hm11.mo hN8) hN11 (by omega) (by omega) hS11) ?_
  rintro _ H12 ⟨rfl, B12, hm12, hS12⟩
  dsimp only at hS12
  clear hS11
  rw [decide_eq_true ⟨rfl, rfl⟩]
  have hN12 : ScN B12 v w.length 2 (verC w) := ScN.mono (hm11.mo.trans hm12.mo) hN10
  refine Ev.prim (hld hS12 (.tail _ (List.mem_append_right _ (.head _)))) ?_
  refine Ev.b2 (cSave_up (j := 0) hN12 (by omega) hr u6 (by decide) (by rw [c6]; decide) (by decide) hP6 (hS12.drop1)) ?_
  clear hS12
  rintro _ H13 ⟨B13, Ls13, D13, rfl, hm13, u13, c13, hL13, hP13, hS13⟩
  dsimp only at hS13
  repeat (first | refine Ev.s ?_ | refine Ev.newC fun _ _ _ => ?_ | refine Ev.boxC fun _ _ _ => ?_ | refine Ev.stC fun _ _ => ?_ | refine Ev.sc (by omega) ?_ | refine Ev.scg (by omega) ?_)
  have hG : Pgr.OK ⟨1, 0, [0, 1], frs (0 + 1), false⟩ 10 := ⟨by decide, by decide, by decide, by decide, by decide, by decide, by decide⟩
  obtain ⟨D14, e14, u14, c14, pg14⟩ := u13.gcommit (G := ⟨1, 0, [0, 1], frs (0 + 1), false⟩) (m := 10) (r := 2) rfl (by decide) (by decide) (by decide)
  refine Ev.b2 (Commit_spec (root := ((0 + 2 : Nat) : Int)) (m := 10) hP13 u13.ok hG (by rw [c13, c6]; decide) hS13) ?_
  rw [show Pgr.commit ⟨1, 0, [0, 1], frs (0 + 1), false⟩ D13 ((0 + 2 : Nat) : Int) = _ from e14]
  clear hS13
  rintro _ H14 ⟨rfl, Ls14, B14, hm14, hP14, hS14⟩
  dsimp only at hS14 hP14
  obtain ⟨dq, hdq⟩ : ∃ q, ptr d1 0 = ptr q 0 := ⟨d1, rfl⟩
  have hH14 : D14.Has (encC next w) 0 1 := fun i hi => by
    have : i = 0 := by omega
    subst this
    rw [pg14 2 (by decide), if_neg (by decide), hL13 2, if_pos (by decide)]
  refine Ev.b2 (cLoad_up (j := 0) hr u14 (by decide) (by rw [c14]; decide) rfl rfl hH14 (by decide) hP14 hS14) ?_
  clear hS14
  rintro _ H15 ⟨B15, Ls15, v15, rfl, hm15, hN15, hP15, hS15⟩
  dsimp only at hS15
  have hcell15 := hN15.cell
  repeat (first | refine Ev.s ?_ | refine Ev.newC fun _ _ _ => ?_ | refine Ev.boxC fun _ _ _ => ?_ | refine Ev.stC fun _ _ => ?_ | refine Ev.sc (by omega) ?_ | refine Ev.scg (by omega) ?_)
  rename_i b16 H16 hS16 H17 hS17
  clear hS15 hS16
  have hN17 : ScN B15 v w.length 2 (verC w) := ScN.mono (hm13.mo.trans (hm14.mo.trans hm15.mo)) hN12
  refine Ev.prim (hld hS17 (.tail _ (List.mem_append_right _ (.head _)))) ?_
  refine Ev.b2 (cref_spec hN17 (by omega) hS17) ?_
  rintro _ H18 ⟨v18, B18, rfl, hm18, hN18, hS18⟩
  dsimp only at hS18
  clear hS17
  repeat (first | refine Ev.s ?_ | refine Ev.newC fun _ _ _ => ?_ | refine Ev.boxC fun _ _ _ => ?_ | refine Ev.stC fun _ _ => ?_ | refine Ev.sc (by omega) ?_ | refine Ev.scg (by omega) ?_)
  refine Ev.b2 (clists_spec (ScN.mono hm18.mo hN15) hN18 (by omega) (by omega) hS18) ?_
  rintro _ H19 ⟨rfl, B19, hm19, hS19⟩
  dsimp only at hS19
  clear hS18
  rw [decide_eq_true ⟨rfl, rfl⟩]
  repeat (first | (first | refine Ev.s ?_ | refine Ev.newC fun _ _ _ => ?_ | refine Ev.boxC fun _ _ _ => ?_ | refine Ev.stC fun _ _ => ?_ | refine Ev.sc (by omega) ?_ | refine Ev.scg (by omega) ?_) | rw [decide_eq_true (by omega)] | rw [decide_eq_false (by omega)])
  exact back_tail hs hS19
theorem coreCatBack (H : AH) (vs : List Value) (x : (Int × List (Int × Int × Unit) × Unit) × ByteArray × Unit) (hK : ∃ v0 vs0, vs = v0 :: vs0 ∧ KvS (Kn.pair (Kn.int .i64) (Kn.pair KVers Kn.unit)) H x.1 v0 ∧ ∃ v1 vs1, vs0 = v1 :: vs1 ∧ KvC Kn.string H x.2.1 v1 ∧ vs1 = [])
    (hG : ((Lit.int .i64 x.1.1).wf = true ∧ (x.1.2.1.length ≤ 1048576 ∧ ∀ y ∈ x.1.2.1, (Lit.int .i64 y.1).wf = true ∧ (Lit.int .i64 y.2.1).wf = true ∧ True) ∧ True) ∧ x.2.1.size ≤ 1048576 ∧ True) : Ev (fun k _ => rn k 3 vs H) (fun r => r.1 = .bool true) := by
  obtain ⟨v0, _, rfl, ⟨cs, rfl, c1, d1, rfl, hc1, c2, d2, hd, hc2, hd2⟩, v1, _, rfl, h1, rfl⟩ := hK
  subst hd
  rw [show c1 = _ from hc1, show d2 = _ from hd2, show v1 = .string x.2.1 by cases h1; rfl]
  obtain ⟨⟨_, ⟨g1, _⟩, _⟩, g2, _⟩ := hG
  have hc2l : ∃ m, c2 = [m] := by
    rcases hc2 with ⟨h, _⟩ | ⟨b, css, h, _⟩ <;> exact ⟨_, h⟩
  obtain ⟨m, rfl⟩ := hc2l
  have hN := vers_open hc2
  have hlen : (versOf x.1.2.1).length = x.1.2.1.length := List.length_map ..
  have := catBack_law (B := H) (H := H) (next := x.1.1) (s := x.2.1.data.toList) hN (by omega) (by rw [Array.length_toList]; exact Nat.le_trans g2 (by decide)) ⟨Mo.refl H⟩
  exact this
end
end Go.AM.C
set_option linter.unusedVariables false
namespace Go.AM
variable {P : Program}
open Go.ChangeShapes Go.WideShapes Go.Deep Go.RowKit
structure BulkOK (bk : (Hh : Type) → DataW Hh → Nat) : Prop where
  str : ∀ (Hh : Type) (l : List UInt8), l.length ≤ bk Hh (.lit (.string l))
  len : ∀ (Hh : Type) (es sp : List (DataW Hh)), es.length ≤ bk Hh (.slice es sp)
  sl : ∀ (Hh : Type) (es sp : List (DataW Hh)), ∀ e ∈ es, bk Hh e ≤ bk Hh (.slice es sp)
  ag : ∀ (Hh : Type) (ps : List (DataW Hh)), ∀ e ∈ ps, bk Hh e ≤ bk Hh (.agg ps)
variable {bk : (Hh : Type) → DataW Hh → Nat} {N : Nat}
/-- What follows from a cells' list: each is one. -/
def OpAU (bk : (Hh : Type) → DataW Hh → Nat) (N : Nat) (P : Program) (t : TypeId) {α : Type} (d : Kn α) (G : α → Prop) : Prop :=
  ∀ (Hh : Type) (enc : TypeId × Value → Hh) (W : World) (spare : Nat → Bool) (held : Bool) (fuel : Nat) (cs : List Value) (x : DataW Hh × List MemPlace),
    DataW.trod enc P W 0 spare held fuel t cs = some x → bk Hh x.1 ≤ N → SlOK W cs → ∀ (m : Mp) (H : AH), Ro P W m H →
    ∃ m' H' cs' a, Ro P W m' H' ∧ Sub m m' ∧ Fr H H' ∧ LRel m' cs' cs ∧ d.K H' a cs' ∧ G a
theorem opAU_int {t : TypeId} {k : IntKind} (ht : P.underlying t = some (.int k)) : OpAU bk N P t (Kn.int k) (fun n => (Lit.int k n).wf = true) := by
  intro Hh enc W spare held fuel cs x h hb0 _ m H R
  obtain ⟨n, rfl, _, hw⟩ := DataW.trod_int ht h
  exact ⟨m, H, _, n, R, Sub.refl m, Fr.refl H, LRel.one (.flat _ rfl), rfl, hw⟩
theorem opAU_string {t : TypeId} (BK : BulkOK bk) (ht : P.underlying t = some .string) : OpAU bk N P t Kn.string (fun s => s.size ≤ N) := by
  intro Hh enc W spare held fuel cs x h hb0 _ m H R
  obtain ⟨n, rfl, hx, hw⟩ := DataW.trod_string ht h
  rw [hx] at hb0
  have hn : n.data.toList.length ≤ N := Nat.le_trans (BK.str Hh _) hb0
  rw [Array.length_toList] at hn
  exact ⟨m, H, _, n, R, Sub.refl m, Fr.refl H, LRel.one (.flat _ rfl), rfl, hn⟩
theorem opAU_slice {t e : TypeId} {α : Type} {d : Kn α} {G : α → Prop} {sz : Nat} (BK : BulkOK bk) (ht : P.underlying t = some (.slice e)) (hsz : P.cellsOf e = sz) (he : OpAU bk N P e d G) (hn : NoSl P e) :
    OpAU bk N P t (Kn.slice e sz d) (fun l => l.length ≤ N ∧ ∀ x ∈ l, G x) := by
  intro Hh enc W spare held fuel cs x h hb0 hs m H R
  rcases open_slice ht h with ⟨rfl, _⟩ | ⟨a, len, cap, mm, n, D, Pl, rfl, _, hlc, hcm, hm, hxx, hel⟩
  · exact ⟨m, H, [.slice none 0 0], [], R, Sub.refl m, Fr.refl H, LRel.one (.flat _ rfl), Or.inl ⟨rfl, rfl⟩, by simp, fun x hx => by simp at hx⟩
  · have hlm : len ≤ mm := by rw [hm]; split <;> omega
    rw [hxx] at hb0
    have hbl : len ≤ N := by have := BK.len Hh ((List.range len).map D) ((List.range (mm - len)).map fun j => D (len + j)); rw [List.length_map, List.length_range] at this; exact Nat.le_trans this hb0
    have hbD : ∀ i, i < len → bk Hh (D i) ≤ N := fun i hi => Nat.le_trans (BK.sl Hh _ _ (D i) (List.mem_map.mpr ⟨i, List.mem_range.mpr hi, rfl⟩)) hb0
    obtain ⟨hsp, c, te, fr, hb⟩ := hs a len cap (by simp)
    have hcell : ∀ i, i < mm → ∃ cs', cs' = (c.toList.drop (a.off + i * sz)).take sz ∧ cs'.length = sz ∧ DataW.trod enc P W 0 spare held n e cs' = some (D i, Pl i) := by
      intro i hi
      obtain ⟨cs', h1, h2⟩ := hel i hi
      obtain ⟨_, h3, h4⟩ := World.cells?_some h1
      rw [hsz] at h3 h4
      refine ⟨cs', ?_, h3, h2⟩
      apply List.ext_getElem?
      intro j
      by_cases hj : j < sz
      · rw [List.getElem?_take_of_lt hj, List.getElem?_drop, ← h4 j hj]
        have e1 : (a.add (i * sz)).add j = a.add (i * sz + j) := add_add _ _ _
        have e2 : (a.add (i * sz + j)).block = a.block ∧ (a.add (i * sz + j)).spot = none ∧ (a.add (i * sz + j)).off = a.off + (i * sz + j) := by
          unfold Addr.add
          by_cases h0 : i * sz + j = 0
          · rw [if_pos h0, h0]; exact ⟨rfl, hsp, rfl⟩
          · rw [if_neg h0]; exact ⟨rfl, rfl, rfl⟩
        rw [e1]
        unfold World.cell?
        rw [e2.1, hb]
        simp only [e2.2.1, e2.2.2]
        simp [Nat.add_assoc]
      · rw [List.getElem?_eq_none (by omega), List.getElem?_eq_none (by rw [List.length_take]; omega)]
    have key : ∀ q, q ≤ len → ∃ (m' : Mp) (H' : AH) (l : List α) (css : List (List Value)), Ro P W m' H' ∧ Sub m m' ∧ Fr H H' ∧ l.length = q ∧ css.length = q ∧ (∀ x ∈ l, G x) ∧ css.flatten.length = q * sz ∧ LRel m' css.flatten ((c.toList.drop a.off).take (q * sz)) ∧
        ∀ (i : Nat) (y : α) (c : List Value), l[i]? = some y → css[i]? = some c → c.length = sz ∧ d.K H' y c := by
      intro q
      induction q with
      | zero => exact fun _ => ⟨m, H, [], [], R, Sub.refl m, Fr.refl H, rfl, rfl, fun x hx => by simp at hx, by simp, by simpa using LRel.nil m, fun i y c h => by simp at h⟩
      | succ q ih =>
        intro hq
        obtain ⟨m1, H1, l, css, R1, s1, f1, hl, hcs, hG, hfl, hLR, hK⟩ := ih (by omega)
        obtain ⟨cs', e1, e2, e3⟩ := hcell q (by omega)
        obtain ⟨m2, H2, ds, y, R2, s2, f2, hLR2, hK2, hG2⟩ := he Hh enc W spare held n cs' _ e3 (hbD q (by omega)) (hn Hh enc W spare held n cs' _ e3) m1 H1 R1
        refine ⟨m2, H2, l ++ [y], css ++ [ds], R2, s1.trans s2, f1.trans f2, by simp [hl], by simp [hcs], ?_, ?_, ?_, ?_⟩
        · intro x hx
          rcases List.mem_append.1 hx with hx | hx
          · exact hG x hx
          · simp at hx; subst hx; exact hG2
        · rw [flatten_snoc, List.length_append, hfl, hLR2.1, e2, Nat.succ_mul]
        · rw [flatten_snoc, Nat.succ_mul, List.take_add, List.drop_drop, ← e1]
          exact (hLR.mono s2).append hLR2
        · intro i y' c' h1 h2
          by_cases hi : i < q
          · rw [List.getElem?_append_left (by omega)] at h1 h2
            exact ⟨(hK i y' c' h1 h2).1, d.mono f2.mo (hK i y' c' h1 h2).2⟩
          · have hi2 := (List.getElem?_eq_some_iff.1 h1).1
            have : i = q := by simp [hl] at hi2; omega
            subst this
            rw [List.getElem?_append_right (by omega), hl, Nat.sub_self] at h1
            rw [List.getElem?_append_right (by omega), hcs, Nat.sub_self] at h2
            simp at h1 h2
            subst h1 h2
            exact ⟨by rw [hLR2.1, e2], hK2⟩
    obtain ⟨m1, H1, l, css, R1, s1, f1, hl, hcs, hG, hfl, hLR, hK⟩ := key len (Nat.le_refl _)
    obtain ⟨m2, s2, hm2, R2⟩ := R1.add (ks := css.flatten) (e := e) (base := a.off) hb (by rw [hfl]; exact hLR)
    have fnew : Fr H1 (mkB H1 css.flatten e .ro) := ⟨by rw [length_mkB]; omega, fun b hb => blk_mkB_old hb⟩
    refine ⟨m2, mkB H1 css.flatten e .ro, [sl H1.length 0 l.length (l.length + 1)], l, R2, s1.trans s2, f1.trans fnew, ?_, Or.inr ⟨H1.length, css, rfl, blk_mkB_new, by omega, fun i y c h1 h2 => ⟨(hK i y c h1 h2).1, d.mono fnew.mo (hK i y c h1 h2).2⟩⟩, by omega, hG⟩
    refine LRel.one ?_
    rw [hl]
    have ea : a = ⟨a.block, a.off, none⟩ := by rw [← hsp]
    rw [ea]
    exact .slice H1.length 0 a.off len (len + 1) cap ⟨a.block, a.off, .ro, 0, 0⟩ hm2 rfl (by omega) hlc (.inl (by simp)) (fun h => (by cases h)) (fun h => (by cases h)) (fun _ => .inl (by omega))

/-- The fields of a struct from one on. -/
def OpFsU (bk : (Hh : Type) → DataW Hh → Nat) (N : Nat) (P : Program) (fs : List Field) (off tot : Nat) {α : Type} (d : Kn α) (G : α → Prop) : Prop :=
  ∀ (Hh : Type) (enc : TypeId × Value → Hh) (W : World) (spare : Nat → Bool) (held : Bool) (fuel : Nat) (cs : List Value),
    (∀ f ∈ fs, ∃ x, DataW.trod enc P W 0 spare held fuel f.type ((cs.drop f.offset).take (P.cellsOf f.type)) = some x ∧ bk Hh x.1 ≤ N) → cs.length = tot → SlOK W cs → ∀ (m : Mp) (H : AH), Ro P W m H →
    ∃ m' H' cs' a, Ro P W m' H' ∧ Sub m m' ∧ Fr H H' ∧ LRel m' cs' (cs.drop off) ∧ d.K H' a cs' ∧ G a
theorem opFsU_nil {off : Nat} : OpFsU bk N P [] off off Kn.unit (fun _ => True) := by
  intro Hh enc W spare held fuel cs _ hl hs m H R
  refine ⟨m, H, [], (), R, Sub.refl m, Fr.refl H, ?_, rfl, trivial⟩
  rw [List.drop_eq_nil_of_le (by omega)]; exact LRel.nil m
theorem opFsU_cons {f : Field} {fs : List Field} {off tot sz : Nat} {α β : Type} {a : Kn α} {b : Kn β} {G0 : α → Prop} {G1 : β → Prop} (ho : f.offset = off) (hc : P.cellsOf f.type = sz) (A : OpAU bk N P f.type a G0)
    (B : OpFsU bk N P fs (off + sz) tot b G1) : OpFsU bk N P (f :: fs) off tot (Kn.pair a b) (fun x => G0 x.1 ∧ G1 x.2) := by
  intro Hh enc W spare held fuel cs hf hl hs m H R
  obtain ⟨x, hx, hbx⟩ := hf f (by simp)
  rw [ho, hc] at hx
  obtain ⟨m1, H1, c1, y1, R1, s1, f1, l1, k1, g1⟩ := A Hh enc W spare held fuel _ x hx hbx (fun a l c h => hs a l c (List.mem_of_mem_drop (List.mem_of_mem_take h))) m H R
  obtain ⟨m2, H2, c2, y2, R2, s2, f2, l2, k2, g2⟩ := B Hh enc W spare held fuel cs (fun g hg => hf g (by simp [hg])) hl hs m1 H1 R1
  refine ⟨m2, H2, c1 ++ c2, (y1, y2), R2, s1.trans s2, f1.trans f2, ?_, ⟨c1, c2, rfl, a.mono f2.mo k1, k2⟩, g1, g2⟩
  have := (l1.mono s2).append l2
  rw [← List.drop_drop, List.take_append_drop] at this
  exact this
theorem opAU_struct {t : TypeId} {fs : List Field} {tot : Nat} {α : Type} {d : Kn α} {G : α → Prop} (BK : BulkOK bk) (ht : P.underlying t = some (.struct ⟨fs⟩)) (hc : P.cellsOf t = tot) (A : OpFsU bk N P fs 0 tot d G) : OpAU bk N P t d G := by
  intro Hh enc W spare held fuel cs x h hb0 hs m H R
  obtain ⟨xs, n, _, rfl, hl, hlen, hf⟩ := DataW.trod_struct ht h
  refine A Hh enc W spare held n cs (fun f hfm => ?_) (by rw [hl, hc]) hs m H R
  obtain ⟨i, hi, he⟩ := List.mem_iff_getElem.1 hfm
  have h1 := hf i f (by simp [← he, hi])
  rw [h1]
  have : i < xs.length := by rw [hlen]; simpa using hi
  exact ⟨_, List.getElem?_eq_getElem this, Nat.le_trans (BK.ag Hh _ _ (List.mem_map.mpr ⟨_, List.getElem_mem this, rfl⟩)) hb0⟩
/-- An argument. -/
structure OpVU (bk : (Hh : Type) → DataW Hh → Nat) (N : Nat) (P : Program) (t : TypeId) {α : Type} (d : Kn α) (G : α → Prop) (KV : AH → α → Value → Prop) : Prop where
  op : OpAU bk N P t d G
  val : ∀ (W : World) (base : Nat) (v : Value), Value.okWide P W .any base t v → (∃ cs, v = .agg cs) ∧ (∀ H a cs, d.K H a cs → KV H a (.agg cs.toArray)) ∨ v.cells = #[v] ∧ (∀ H a v, d.K H a [v] → KV H a v)
  mono : ∀ {H H' : AH} {a : α} {v : Value}, Mo H H' → KV H a v → KV H' a v
theorem opVU_struct {t : TypeId} {fs : Array Field} {α : Type} {d : Kn α} {G : α → Prop} (ht : P.underlying t = some (.struct fs)) (A : OpAU bk N P t d G) : OpVU bk N P t d G (KvS d) := by
  refine ⟨A, fun W base v h => .inl ⟨?_, fun H a cs h => ⟨cs, rfl, h⟩⟩, fun hm ⟨cs, h1, h2⟩ => ⟨cs, h1, d.mono hm h2⟩⟩
  unfold Value.okWide at h
  rw [ht] at h
  obtain ⟨cs, rfl, _⟩ := h
  exact ⟨cs, rfl⟩
theorem opVU_cell {t : TypeId} {D : TypeDesc} {α : Type} {d : Kn α} {G : α → Prop} (ht : P.underlying t = some D) (hD : (∀ fs, D ≠ .struct fs) ∧ ∀ n e, D ≠ .array n e) (A : OpAU bk N P t d G) : OpVU bk N P t d G (KvC d) := by
  refine ⟨A, fun W base v h => .inr ⟨?_, fun H a v h => h⟩, fun hm h => d.mono hm h⟩
  unfold Value.okWide at h
  rw [ht] at h
  have h' : Cell.okWide P W .any base t v := by
    cases D with
    | struct fs => exact absurd rfl (hD.1 fs)
    | array n e => exact absurd rfl (hD.2 n e)
    | _ => exact h
  cases v with
  | agg cs =>
    exfalso
    unfold Cell.okWide at h'
    rw [ht] at h'
    cases D <;> simp [Cell.ok, ht] at h'
  | _ => rfl
/-- All arguments. -/
structure OpAsU (bk : (Hh : Type) → DataW Hh → Nat) (N : Nat) (P : Program) (ts : List TypeId) {α : Type} (G : α → Prop) (KV : AH → α → List Value → Prop) : Prop where
  op : ∀ (Hh : Type) (enc : TypeId × Value → Hh) (W : World) (base : Nat) (spare : Nat → Bool) (held : Bool) (vs : List Value) (ds : List (DataW Hh)) (ps : List MemPlace),
    DataW.TrodAll enc P W 0 spare held ts vs ds ps → (∀ d ∈ ds, bk Hh d ≤ N) → (∀ (j : Nat) t v, ts[j]? = some t → vs[j]? = some v → Value.okWide P W .any base t v) → ∀ (m : Mp) (H : AH), Ro P W m H →
    ∃ m' H' vs' a, Ro P W m' H' ∧ Sub m m' ∧ Fr H H' ∧ LRel m' vs' vs ∧ KV H' a vs' ∧ G a
  mono : ∀ {H H' : AH} {a : α} {vs : List Value}, Mo H H' → KV H a vs → KV H' a vs
theorem opAsU_nil : OpAsU bk N P [] (fun _ : Unit => True) (fun _ _ vs => vs = []) := by
  refine ⟨?_, fun _ h => h⟩
  intro Hh enc W base spare held vs ds ps h _ _ m H R
  obtain ⟨rfl, rfl, rfl⟩ := trodAll_nil h
  exact ⟨m, H, [], (), R, Sub.refl m, Fr.refl H, LRel.nil m, rfl, trivial⟩
theorem opAsU_cons {t : TypeId} {ts : List TypeId} {α β : Type} {d : Kn α} {G : α → Prop} {KV : AH → α → Value → Prop} {G' : β → Prop} {KV' : AH → β → List Value → Prop} (A : OpVU bk N P t d G KV) (B : OpAsU bk N P ts G' KV') :
    OpAsU bk N P (t :: ts) (fun x : α × β => G x.1 ∧ G' x.2) (fun H x vs => ∃ v vs', vs = v :: vs' ∧ KV H x.1 v ∧ KV' H x.2 vs') := by
  refine ⟨?_, fun hm ⟨v, vs', h1, h2, h3⟩ => ⟨v, vs', h1, A.mono hm h2, B.mono hm h3⟩⟩
  intro Hh enc W base spare held vs ds ps h hbs hv m H R
  obtain ⟨v, vs', d0, ds', p, q, rfl, rfl, rfl, ⟨fuel, h0⟩, hr⟩ := trodAll_cons h
  have hok := hv 0 t v rfl rfl
  obtain ⟨m2, H2, us, y2, R2, s2, f2, l2, k2, g2⟩ := B.op Hh enc W base spare held vs' ds' q hr (fun d hd => hbs d (List.mem_cons_of_mem _ hd)) (fun j t' v' h1 h2 => hv (j + 1) t' v' h1 h2) m H R
  obtain ⟨m1, H1, cs', y1, R1, s1, f1, l1, k1, g1⟩ := A.op Hh enc W spare held fuel _ _ h0 (hbs _ (List.mem_cons_self ..)) (slOK_of hok) m2 H2 R2
  rcases A.val W base v hok with ⟨⟨cs, rfl⟩, hk⟩ | ⟨hc, hk⟩
  · exact ⟨m1, H1, .agg cs'.toArray :: us, (y1, y2), R1, s2.trans s1, f2.trans f1, LRel.cons (VRel.aggL (by simpa [Value.cells] using l1)) (l2.mono s1), ⟨_, _, rfl, hk _ _ _ k1, B.mono f1.mo k2⟩, g1, g2⟩
  · rw [hc] at l1
    obtain ⟨x, rfl⟩ : ∃ x, cs' = [x] := List.length_eq_one_iff.1 l1.1
    exact ⟨m1, H1, x :: us, (y1, y2), R1, s2.trans s1, f2.trans f1, LRel.cons (l1.2 0 x v rfl rfl) (l2.mono s1), ⟨_, _, rfl, hk _ _ _ k1, B.mono f1.mo k2⟩, g1, g2⟩
end Go.AM
set_option linter.unusedVariables false
namespace Go.AM
open Go Go.ChangeShapes
section
variable {H : Type} {enc : TypeId × Value → H}
theorem returnsInHanded_of_cond_and {a : Assume} {C : Checked} {os : Os} {f : FuncId} {fn : Func} {s : OpenSpec} {k : (H : Type) → List (DataW H) → Bool} (hk : s.cond = some k) {F : Stop.Interp} {conds : List PathCond} {apart fresh handsOn again : Bool} {X : World → Array Value → Prop}
    (hX : ∀ (w w' : World) (args : Array Value), w.heap = w'.heap → X w args → X w' args)
    (own : ownKnob C.prog.godebug = none) (started : os.Started) (noInit : C.prog.inits.idxOf? f = none) (hfn : C.prog.funcs[f]? = some fn)
    (witness : ∃ (w : World) (tape : Tape) (i : Input), w.os = os ∧ (w.forCall tape i).Shaped C.prog ∧ i.vars = [] ∧ Input.okWide C.prog (w.forCall tape i) .any w.heap.size f i ∧
      ((s.pre enc C.prog fn conds apart (w.forCall tape i).memory i.args ∧ X (w.forCall tape i).memory i.args) ∧ sizedMet enc C.prog fn s apart (w.forCall tape i).memory i.args) ∧ a.holds C.prog (lone (Frame.enter C.prog f i.args .normal) [] (w.forCall tape i)))
    (contract : ∀ (W : World) (base : Nat) (args : Array Value) (ds gs : List (DataW H)) (before : List MemPlace),
      (∀ (j : Nat) t v, fn.params[j]? = some t → args[j]? = some v → Value.okWide C.prog W .any base t v) →
      DataW.Whole enc C.prog fn.params.toList s.vars apart W args.toList ds gs before →
      conds.all (PathCond.test C.prog ⟨fn.params.toList, ds, s.bare.plain.varTypes C.prog, gs⟩) = true → k H (ds ++ gs) = true →
      (DataW.weightsEach C.prog (fn.params.toList ++ s.bare.plain.varTypes C.prog) (ds ++ gs)).all (· ≤ reachBytes) = true → X W args →
      a.holds C.prog (lone (Frame.enter C.prog f args .normal) [] W) →
      Calls C.prog f args W fun e W' => ∃ v, e = .returned v ∧ (s.at F).post enc C.prog fn apart fresh handsOn again W args v W') :
    ReturnsInHanded a C os f .any (fun w args => (s.pre enc C.prog fn conds apart w args ∧ X w args) ∧ sizedMet enc C.prog fn s apart w args) ((s.at F).post enc C.prog fn apart fresh handsOn again) := by
  refine returnsInHanded_of_calls own started noInit witness ?_
  intro w tape i _ _ _ hok hpre hholds
  obtain ⟨_, _, _, fn', hfn', _, _, _, _, hval⟩ := hok
  have e : fn' = fn := Option.some.inj (hfn'.symm.trans hfn)
  subst e
  obtain ⟨⟨hp, hx⟩, hz⟩ := hpre
  obtain ⟨ds, gs, before, hw, hc, hkk⟩ := (OpenSpec.pre_some hk conds apart _ _).1 hp
  have hw' := DataW.Whole.of_heap (w' := w.forCall tape i) (by rfl) hw
  refine (contract (w.forCall tape i) w.heap.size i.args ds gs before hval hw' hc hkk (hz.weights hw) (hX _ _ _ (by rfl) hx) hholds).mono fun e W' ⟨v, he, hp⟩ => ?_
  subst he
  exact ChangeSpec.post_blind hp
theorem witness_shaped_cond {C : Checked} {os : Os} {f : FuncId} {fn : Func} {s : OpenSpec} {k : (H : Type) → List (DataW H) → Bool} (hk : s.cond = some k) {conds : List PathCond} {apart : Bool} {X : World → Array Value → Prop} (modest : Bool) (w0 : World) (args : Array Value) (fuel : Nat) (hos : w0.os = os)
    (hsh : (w0.forCall (fun _ _ => 0) ⟨#[], args, []⟩).Shaped C.prog)
    (hok : Input.okWideB C.prog (w0.forCall (fun _ _ => 0) ⟨#[], args, []⟩) f ⟨#[], args, []⟩ = true)
    {x : List (DataW H) × List (DataW H) × List MemPlace} (hx : DataW.whole enc C.prog (w0.forCall (fun _ _ => 0) ⟨#[], args, []⟩).memory fn.params.toList s.vars apart args.toList fuel = some x)
    (hconds : conds.all (PathCond.test C.prog ⟨fn.params.toList, x.1, s.bare.plain.varTypes C.prog, x.2.1⟩) = true) (hkk : k H (x.1 ++ x.2.1) = true)
    (hsz : s.bare.sizedB enc C.prog fn apart (w0.forCall (fun _ _ => 0) ⟨#[], args, []⟩).memory args fuel = true)
    (hX : X (w0.forCall (fun _ _ => 0) ⟨#[], args, []⟩).memory args) :
    ∃ (w : World) (tape : Tape) (i : Input), w.os = os ∧ (w.forCall tape i).Shaped C.prog ∧ i.vars = [] ∧ Input.okWide C.prog (w.forCall tape i) .any w.heap.size f i ∧
      ((s.pre enc C.prog fn conds apart (w.forCall tape i).memory i.args ∧ X (w.forCall tape i).memory i.args) ∧ sizedMet enc C.prog fn s apart (w.forCall tape i).memory i.args) ∧ ({ modest := modest } : Assume).holds C.prog (lone (Frame.enter C.prog f i.args .normal) [] (w.forCall tape i)) :=
  ⟨w0, fun _ _ => 0, ⟨#[], args, []⟩, hos, hsh, (Input.okWide_of_okWideB (base := 0) hok).1, (Input.okWide_of_okWideB hok).2,
    ⟨⟨(OpenSpec.pre_some hk conds apart _ _).2 ⟨x.1, x.2.1, x.2.2, DataW.Whole_of_whole hx, hconds, hkk⟩, hX⟩, sizedMet_of_sizedB hsz⟩, by
    simp only [Assume.holds]
    exact ⟨by simp, by simp, fun _ => Modest.zero, by simp, by simp⟩⟩
end
end Go.AM
