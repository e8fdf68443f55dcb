/-
  What an argument that is read as data looks like, kind by kind: any value that reads as data of a type is a value of its kind.
-/
import Derived.ProofKit
import Derived.Deep.Slices
import Derived.Deep.Strs
import Derived.DataElems
import Derived.ChangeArms
import Derived.ChangeSame
import Derived.Test.YtmggeldhdemahaaWWords
namespace Go.Proofs.Ytmggeldhdemahaa.Open
open Go.RowKit Go.ChangeShapes Go.WideShapes Go.Deep Go.Proofs.YtmggeldhdemahaaW.PrintWords
set_option linter.unusedVariables false

def Opens (P : Program) (t : TypeId) {α : Type} (d : Kd α) (G : α → Prop) : Prop :=
  ∀ (H : Type) (enc : TypeId × Value → H) (W : World) (spare : Nat → Bool) (held : Bool) (fuel : Nat) (cs : List Value) (x : DataW H × List MemPlace),
    DataW.trod enc P W 0 spare held fuel t cs = some x → ∃ a : α, d.K W a cs ∧ G a

theorem opens_int {P : Program} {t : TypeId} {k : IntKind} (ht : P.underlying t = some (.int k)) : Opens P t (Kd.int k) (fun n => (Lit.int k n).wf = true) := by
  intro H enc W spare held fuel cs x h
  obtain ⟨n, rfl, _, hw⟩ := DataW.trod_int ht h
  exact ⟨n, rfl, hw⟩
theorem opens_bool {P : Program} {t : TypeId} (ht : P.underlying t = some .bool) : Opens P t Kd.bool (fun _ => True) := by
  intro H enc W spare held fuel cs x h
  obtain ⟨n, rfl, _⟩ := DataW.trod_bool ht h
  exact ⟨n, rfl, trivial⟩
theorem opens_string {P : Program} {t : TypeId} (ht : P.underlying t = some .string) : Opens P t Kd.string (fun s => s.size ≤ maxLen) := by
  intro H enc W spare held fuel cs x h
  obtain ⟨n, rfl, _, hw⟩ := DataW.trod_string ht h
  exact ⟨n, rfl, hw⟩
theorem opens_iso {P : Program} {t : TypeId} {α β : Type} {d : Kd α} {G : α → Prop} (h : Opens P t d G) (f : β → α) (g : α → β) (hg : ∀ a, f (g a) = a) : Opens P t (Kd.iso d f) (fun b => G (f b)) := by
  intro H enc W spare held fuel cs x hx
  obtain ⟨a, hK, hG⟩ := h H enc W spare held fuel cs x hx
  exact ⟨g a, by show d.K W (f (g a)) cs; rw [hg]; exact hK, by show G (f (g a)); rw [hg]; exact hG⟩
theorem choose_list {α : Type} {Q : Nat → α → Prop} : ∀ n : Nat, (∀ i, i < n → ∃ a, Q i a) → ∃ l : List α, l.length = n ∧ ∀ i a, l[i]? = some a → Q i a
  | 0, _ => ⟨[], rfl, fun i a h => by simp at h⟩
  | n + 1, h => by
    obtain ⟨l, hl, hq⟩ := choose_list n (fun i hi => h i (by omega))
    obtain ⟨a, ha⟩ := h n (by omega)
    refine ⟨l ++ [a], by simp [hl], fun i b hb => ?_⟩
    rcases Nat.lt_or_ge i l.length with hi | hi
    · rw [List.getElem?_append_left hi] at hb
      exact hq i b hb
    · rw [List.getElem?_append_right hi] at hb
      have : i = n := by
        rcases Nat.eq_zero_or_pos (i - l.length) with h0 | h0
        · omega
        · rw [List.getElem?_eq_none (by simp; omega)] at hb; cases hb
      subst this
      rw [hl, Nat.sub_self] at hb
      simp at hb
      rw [← hb]; exact ha
theorem opens_slice {P : Program} {t e : TypeId} {α : Type} {d : Kd α} {G : α → Prop} (ht : P.underlying t = some (.slice e)) (hsz : P.cellsOf e = d.sz) (he : Opens P e d G) : Opens P t (Kd.slice e d) (fun l => ∀ x ∈ l, G x) := by
  intro H enc W spare held fuel cs x h
  rcases open_slice ht h with ⟨rfl, _⟩ | ⟨a, len, cap, m, n, D, Pl, rfl, _, hlc, hcm, hm, _, hel⟩
  · exact ⟨[], ⟨none, 0, rfl, Nat.le_refl _, rfl, by simp, fun h => absurd h (by simp)⟩, fun x hx => by simp at hx⟩
  · have hlm : len ≤ m := by rw [hm]; split <;> omega
    obtain ⟨l, hl, hq⟩ := choose_list (Q := fun i (y : α) => ∃ cs', W.cells? 0 (a.add (i * P.cellsOf e)) (P.cellsOf e) = some cs' ∧ d.K W y cs' ∧ G y) len (fun i hi => by
      obtain ⟨cs', hc, htr⟩ := hel i (by omega)
      obtain ⟨y, hK, hG⟩ := he H enc W spare held n cs' _ htr
      exact ⟨y, cs', hc, hK, hG⟩)
    refine ⟨l, ⟨some a, cap, by rw [hl], by omega, rfl, by have := hcm; unfold maxLen at this; omega, fun _ => ⟨a, rfl, fun j p hj => ?_⟩⟩, fun y hy => ?_⟩
    · obtain ⟨cs', hc, hK, _⟩ := hq j p hj
      refine ⟨cs', d.K_len hK, hK, fun i u hu => ?_⟩
      obtain ⟨_, hcl, hcell⟩ := World.cells?_some hc
      have hi : i < P.cellsOf e := by
        rw [← hcl]
        exact (List.getElem?_eq_some_iff.1 hu).1
      rw [← Addr.add_add, ← hsz]
      rw [hcell i hi]
      exact hu
    · obtain ⟨i, hi⟩ := List.mem_iff_getElem?.1 hy
      obtain ⟨_, _, _, hG⟩ := hq i y hi
      exact hG
theorem opens_struct2 {P : Program} {t : TypeId} {f0 f1 : Field} {α β : Type} {a : Kd α} {b : Kd β} {G0 : α → Prop} {G1 : β → Prop} (ht : P.underlying t = some (.struct #[f0, f1])) (o0 : f0.offset = 0) (o1 : f1.offset = a.sz)
    (hc : P.cellsOf t = a.sz + b.sz) (c0 : P.cellsOf f0.type = a.sz) (c1 : P.cellsOf f1.type = b.sz) (A : Opens P f0.type a G0) (B : Opens P f1.type b G1) : Opens P t (Kd.pair a b) (fun x => G0 x.1 ∧ G1 x.2) := by
  intro H enc W spare held fuel cs x h
  obtain ⟨y0, y1, n, _, hl, h0, h1⟩ := trod_struct2 ht h
  rw [o0, c0, List.drop_zero] at h0
  rw [o1, c1] at h1
  obtain ⟨p, hp, gp⟩ := A _ _ _ _ _ _ _ _ h0
  obtain ⟨q, hq, gq⟩ := B _ _ _ _ _ _ _ _ h1
  refine ⟨(p, q), ⟨_, _, ?_, hp, hq⟩, gp, gq⟩
  rw [List.take_of_length_le (l := cs.drop a.sz) (by rw [List.length_drop]; omega), List.take_append_drop]
theorem opens_struct3 {P : Program} {t : TypeId} {f0 f1 f2 : Field} {α β γ : Type} {a : Kd α} {b : Kd β} {c : Kd γ} {G0 : α → Prop} {G1 : β → Prop} {G2 : γ → Prop} (ht : P.underlying t = some (.struct #[f0, f1, f2])) (o0 : f0.offset = 0) (o1 : f1.offset = a.sz) (o2 : f2.offset = a.sz + b.sz)
    (hc : P.cellsOf t = a.sz + (b.sz + c.sz)) (c0 : P.cellsOf f0.type = a.sz) (c1 : P.cellsOf f1.type = b.sz) (c2 : P.cellsOf f2.type = c.sz) (A : Opens P f0.type a G0) (B : Opens P f1.type b G1) (C : Opens P f2.type c G2) : Opens P t (Kd.pair a (Kd.pair b c)) (fun x => G0 x.1 ∧ G1 x.2.1 ∧ G2 x.2.2) := by
  intro H enc W spare held fuel cs x h
  obtain ⟨y0, y1, y2, n, _, hl, h0, h1, h2⟩ := trod_struct3 ht h
  rw [o0, c0, List.drop_zero] at h0
  rw [o1, c1] at h1
  rw [o2, c2] at h2
  obtain ⟨p, hp, gp⟩ := A _ _ _ _ _ _ _ _ h0
  obtain ⟨q, hq, gq⟩ := B _ _ _ _ _ _ _ _ h1
  obtain ⟨r, hr, gr⟩ := C _ _ _ _ _ _ _ _ h2
  refine ⟨(p, q, r), ⟨_, _, ?_, hp, _, _, rfl, hq, hr⟩, gp, gq, gr⟩
  have e1 : (cs.drop (a.sz + b.sz)).take c.sz = cs.drop (a.sz + b.sz) := List.take_of_length_le (by rw [List.length_drop]; omega)
  rw [e1, ← List.drop_drop, List.take_append_drop, List.take_append_drop]
end Go.Proofs.Ytmggeldhdemahaa.Open
