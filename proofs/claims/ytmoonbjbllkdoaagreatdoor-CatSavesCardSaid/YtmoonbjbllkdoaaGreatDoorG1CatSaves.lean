/-
  Facts of the abstract evaluator and of the functions that the law reaches, part 1. Conditions: none.
-/
import Derived.Lib.UnsafeStr
import Derived.MapKept
import Derived.RangeFuncNested
import Derived.RangeFuncLeaves
import Derived.OrdersIn
import Derived.LoopNIn
import Derived.Laws.Tables
import Derived.Laws.IdiomRangeMap
import Derived.Test.YtmoonbjbllkdoaaGreatDoorG0CatSaves
set_option linter.unusedVariables false
set_option linter.unusedSimpArgs false
set_option linter.unnecessarySimpa false
set_option exponentiation.threshold 200000
set_option maxRecDepth 100000
namespace Go.AM
open Go.RowKit
variable {P : Program} {B0 : Nat} {w0 : World} {m : Mp} {H : AH} {w : World}
theorem freeze_ne {w : World} {a : Addr} {n : Nat} {B : Nat} (h : a.block ≠ B) : (w.freeze a n).heap[B]? = w.heap[B]? := by
  unfold World.freeze
  split
  · rfl
  · simp only [Array.getElem?_modify]
    rw [if_neg (by omega)]
theorem freeze_size {w : World} {a : Addr} {n : Nat} : (w.freeze a n).heap.size = w.heap.size := by
  unfold World.freeze
  split
  · rfl
  · simp
theorem Rel.frozen (h : Rel P B0 w0 m H w) {b : Nat} {L : Loc} {k : Blk} (hm : m b = some L) (hb : blk H b = some k) (hk : k.kind ≠ .ro) (o n : Nat) :
    Rel P B0 w0 m (kill H b) (w.freeze ⟨L.blk, o, none⟩ n) ∧ Ext m H w m (kill H b) (w.freeze ⟨L.blk, o, none⟩ n) := by
  have up : ∀ b3 k3, blk (kill H b) b3 = some k3 → b ≠ b3 ∧ blk H b3 = some k3 := by
    intro b3 k3 h3
    by_cases hbb : b = b3
    · subst hbb; rw [blk_kill_same] at h3; cases h3
    · exact ⟨hbb, by rwa [blk_kill_ne hbb] at h3⟩
  have hown := (h.blks b L k hm hb).own hk
  refine ⟨⟨Lib.below_freeze h.below hown n, by rw [freeze_size]; exact h.hB, fun b2 L2 h2 => by rw [length_kill', freeze_size]; exact h.dom b2 L2 h2, fun b2 L2 k2 h2 hk2 => ?_, fun b1 b2 L1 L2 k1 k2 hm1 hm2 hk1 hk2 => h.inj b1 b2 L1 L2 k1 k2 hm1 hm2 (up _ _ hk1).2 (up _ _ hk2).2⟩,
    ⟨fun _ _ h => h, Nat.le_of_eq (length_kill' ..).symm, Nat.le_of_eq freeze_size.symm, fun b2 k2 _ hk2 => ⟨k2, (up _ _ hk2).2, rfl⟩, fun _ _ h => .inl h, fun B _ hr => freeze_ne (hr b L k hm hb hk)⟩⟩
  obtain ⟨hne, hk2'⟩ := up _ _ hk2
  have hB := h.blks b2 L2 k2 h2 hk2'
  have hd : L.blk ≠ L2.blk := h.inj b b2 L L2 k k2 hm h2 hb hk2' hk hne
  exact hB.at (fun _ _ h => h) (freeze_ne hd)
theorem Rel.frozenT (h : Rel P B0 w0 m H w) {b : Nat} {L : Loc} {k : Blk} (hm : m b = some L) (hb : blk H b = some k) (hk : k.kind = .byt) {c : Array Value} {e : TypeId} {fr : Nat × Nat} (hc : w.heap[L.blk]? = some (.cells c e fr)) :
    Rel P B0 w0 m H (w.freeze ⟨L.blk, c.size, none⟩ 1) ∧ Ext m H w m H (w.freeze ⟨L.blk, c.size, none⟩ 1) := by
  have hro : k.kind ≠ .ro := by rw [hk]; decide
  have hB := h.blks b L k hm hb
  have hown := hB.own hro
  refine ⟨⟨Lib.below_freeze h.below hown 1, by rw [freeze_size]; exact h.hB, fun b2 L2 h2 => by rw [freeze_size]; exact h.dom b2 L2 h2, fun b2 L2 k2 h2 hk2 => ?_, h.inj⟩,
    ⟨fun _ _ h => h, Nat.le_refl _, Nat.le_of_eq freeze_size.symm, fun b2 k2 _ hk2 => ⟨k2, hk2, rfl⟩, fun _ _ h => .inl h, fun B _ hr => freeze_ne (hr b L k hm hb hro)⟩⟩
  by_cases hbb : b = b2
  · subst hbb
    rw [hm] at h2
    cases h2
    rw [hb] at hk2
    cases hk2
    obtain ⟨c0, e0, fr0, hw, r1, r2, r3, r4, r5⟩ := hB.there (by rw [hk]; rfl)
    rw [hc] at hw
    cases hw
    have r6 := r5.2 hk
    refine ⟨hB.kind, fun _ => ?_, fun hx => (by rw [hk] at hx; cases hx), fun f key hx => (by rw [hk] at hx; cases hx), hB.own, hB.esz⟩
    refine ⟨c, e, _, by
      unfold World.freeze
      rw [if_neg (by decide)]
      simp only [Array.getElem?_modify, if_pos, hc, Option.map_some]
      rfl, r1, fun hx => ⟨fun _ hy => (hy hk).elim, (r2 hx).2⟩, r3, r4, fun hx => (by rw [hk] at hx; cases hx), fun _ => .inr ?_⟩
    rcases r6 with rfl | r6
    · exact Nat.le_refl _
    · obtain ⟨lo, hi⟩ := fr
      simp only at r6 ⊢
      split
      · exact Nat.le_refl _
      · show c.size ≤ min lo c.size; omega
  · have hd : L.blk ≠ L2.blk := h.inj b b2 L L2 k k2 hm h2 hb hk2 hro hbb
    exact (h.blks b2 L2 k2 h2 hk2).at (fun _ _ h => h) (freeze_ne hd)
theorem Rel.frozenB (h : Rel P B0 w0 m H w) {b : Nat} {L : Loc} {k : Blk} (hm : m b = some L) (hb : blk H b = some k) (hk : k.kind = .buf) (o n : Nat) (hn : o + n ≤ k.cells.length) :
    Rel P B0 w0 m H (w.freeze ⟨L.blk, L.base + o, none⟩ n) ∧ Ext m H w m H (w.freeze ⟨L.blk, L.base + o, none⟩ n) := by
  have hB := h.blks b L k hm hb
  have hro : k.kind ≠ .ro := by rw [hk]; decide
  have hown := hB.own hro
  refine ⟨⟨Lib.below_freeze h.below hown n, by rw [freeze_size]; exact h.hB, fun b2 L2 h2 => by rw [freeze_size]; exact h.dom b2 L2 h2, fun b2 L2 k2 h2 hk2 => ?_, h.inj⟩,
    ⟨fun _ _ h => h, Nat.le_refl _, Nat.le_of_eq freeze_size.symm, fun b2 k2 _ hk2 => ⟨k2, hk2, rfl⟩, fun _ _ h => .inl h, fun B _ hr => freeze_ne (hr b L k hm hb hro)⟩⟩
  by_cases hbb : b = b2
  · subst hbb
    rw [hm] at h2
    cases h2
    rw [hb] at hk2
    cases hk2
    obtain ⟨c, e, fr, hw, r1, r2, r3, r4, r5⟩ := hB.there (by rw [hk]; rfl)
    obtain ⟨z1, z2⟩ := r5.1 hk
    refine ⟨hB.kind, fun _ => ?_, fun hx => (by rw [hk] at hx; cases hx), fun f key hx => (by rw [hk] at hx; cases hx), hB.own, hB.esz⟩
    by_cases h0 : n = 0
    · subst h0
      exact ⟨c, e, fr, by unfold World.freeze; rw [if_pos rfl]; exact hw, r1, r2, r3, r4, r5⟩
    · have hlt : L.blk < w.heap.size := (h.dom b L hm).2
      refine ⟨c, e, _, by
        unfold World.freeze
        rw [if_neg h0]
        simp only [Array.getElem?_modify, if_pos, hw, Option.map_some]
        rfl, r1, fun hx => ⟨fun hy => (hy hk).elim, (r2 hx).2⟩, r3, r4, fun _ => ⟨?_, fun hnil => ?_⟩, fun hx => by rw [hk] at hx; cases hx⟩
      · obtain ⟨lo, hi⟩ := fr
        simp only at z1 ⊢
        split
        · show L.base + o + n ≤ _; omega
        · show max hi (L.base + o + n) ≤ _; omega
      · rw [hnil] at hn; simp at hn; omega
  · have hd : L.blk ≠ L2.blk := h.inj b b2 L L2 k k2 hm h2 hb hk2 hro hbb
    exact (h.blks b2 L2 k2 h2 hk2).at (fun _ _ h => h) (freeze_ne hd)
theorem sdV_sound {ts : Array TypeId} {ty : TypeId} {x x' v : Value} (hx : VRel m x x') (h : sdV x = some v) : ∃ v', (Builtin.unsafeSliceData_ ts ty #[x']).run P w = .ok v' w ∧ VRel m v v' := by
  unfold sdV at h
  split at h
  · cases h
    have e := VRel.flat_inv rfl hx
    subst e
    exact ⟨_, rfl, .flat _ rfl⟩
  · rename_i b off n c
    split at h
    · cases h
    · rename_i hn
      cases h
      cases hx with
      | flat v hf => simp [flat1] at hf
      | zsl => exact absurd rfl hn
      | slice b off off' len cap cap' L hm hnm hl hl' ho h1 h2 h3 =>
        have ho' : off' = L.base + off := ho.resolve_right hn
        subst ho'
        exact ⟨_, Lib.run_unsafeSliceData_row w ts ty ⟨L.blk, L.base + off, none⟩ n cap' (by omega), .ptr b off L hm hnm⟩
  · cases h
theorem run_loadBytes' : ∀ (ns : List Int) (a : Addr) (acc : ByteArray), a.spot = none → (∀ j u, (ns.map fun n => Value.int .u8 n)[j]? = some u → w.cell? (a.add j) = some u) →
    (loadBytes a acc ns.length).run P w = .ok ⟨acc.data ++ (ns.map fun n => UInt8.ofNat n.toNat).toArray⟩ w
  | [], a, acc, _, _ => by simp [loadBytes]
  | x :: l, a, acc, hs, h => by
    have h0 : w.cell? a = some (.int .u8 x) := by
      have := h 0 _ rfl
      simpa [Addr.add] using this
    have ih := run_loadBytes' l (a.add 1) (acc.push (UInt8.ofNat x.toNat)) (by simp [Addr.add, hs]) (fun j y hy => by
      have := h (j + 1) y (by simpa using hy)
      have e : (a.add 1).add j = a.add (j + 1) := by
        unfold Addr.add
        by_cases hj : j = 0
        · subst hj; simp
        · simp [hj]; omega
      rw [e]; exact this)
    simp only [List.length_cons, loadBytes, Sem.run_bind, run_load, h0, Result.andThen]
    have hx : x.toNat.toUInt8 = UInt8.ofNat x.toNat := rfl
    rw [hx, ih]
    congr 1
    apply ByteArray.ext
    simp [ByteArray.push]
theorem liesAt_off {e : TypeId} (hc : P.cellsOf e = 1) (count off n : Nat) (hn : off + n ≤ count) : liesAt P P.depth e count off e n = true := by
  have hd : P.depth = (2 * (P.types.size + Made.depth) + 1) + 1 := rfl
  rw [hd]
  simp only [liesAt, Bool.or_eq_true]
  left
  rw [hd]
  simp [rowAt, hc, hn, sameLayout, Nat.mod_one]
theorem usV_sound (R : Rel P B0 w0 m H w) {pt it ty : TypeId} {p p' n n' : Value} {q : Value × AH} (hp : VRel m p p') (hn : VRel m n n') (h : usV P pt H p n = some q) :
    ∃ v' w', (Builtin.unsafeString_ #[pt, it] ty #[p', n']).run P w = .ok v' w' ∧ VRel m q.1 v' ∧ Rel P B0 w0 m q.2 w' ∧ Ext m H w m q.2 w' := by
  unfold usV at h
  split at h
  · cases h
    have e1 := VRel.flat_inv rfl hp
    have e2 := VRel.flat_inv rfl hn
    subst e1 e2
    exact ⟨_, w, Lib.run_unsafeString_none w pt it ty none, .flat _ rfl, R, Ext.refl m H w⟩
  · rename_i b off n
    have e2 := VRel.flat_inv rfl hn
    subst e2
    split at h
    · rename_i e hu
      cases hb : blk H b with
      | none => rw [hb] at h; cases h
      | some k =>
        rw [hb] at h
        simp only [Option.bind_some] at h
        split at h
        · rename_i hc
          obtain ⟨c1, c1', c2, c3, c4⟩ := hc
          cases hr : rdN k off n.toNat with
          | none => rw [hr] at h; cases h
          | some cs =>
            rw [hr] at h
            simp only [Option.bind_some] at h
            cases hby : bytesOf cs with
            | none => rw [hby] at h; cases h
            | some l =>
              rw [hby] at h
              cases h
              obtain ⟨ns, rfl, rfl⟩ := bytesOf_inv cs l hby
              obtain ⟨L, hm, rfl, hnm⟩ := hp.ptr_inv
              have hB := R.blks b L k hm hb
              obtain ⟨ds, hds, hcell⟩ := hB.row hnm hr
              have hd := hds.flat_eq
              subst hd
              obtain ⟨c, e', fr, hw, hl, h3, _⟩ := hB.there (by rw [← hB.kind]; exact hnm)
              have cro : k.kind ≠ .ro := by
                intro hx
                rw [hx] at c2
                cases c2
              obtain ⟨_, he, _⟩ := h3 cro
              have hlen : ns.length = n.toNat := by
                unfold rdN at hr
                split at hr
                · rename_i hle
                  have := congrArg (fun o => (o.map List.length).getD 0) hr
                  simp at this
                  omega
                · cases hr
              obtain ⟨N, rfl⟩ : ∃ N : Nat, n = (N : Int) := ⟨n.toNat, by omega⟩
              rw [Int.toNat_natCast] at hlen hr
              have hroom : L.base + off + N ≤ c.size := by
                have h1 := hl.1
                unfold rdN at hr
                split at hr
                · rename_i hle
                  simp at h1
                  omega
                · cases hr
              have hfz : Rel P B0 w0 m (if k.kind = .buf then H else kill H b) (w.freeze ⟨L.blk, L.base + off, none⟩ N) ∧ Ext m H w m (if k.kind = .buf then H else kill H b) (w.freeze ⟨L.blk, L.base + off, none⟩ N) := by
                by_cases hkb : k.kind = .buf
                · rw [if_pos hkb]
                  exact R.frozenB hm hb hkb off N (by
                    unfold rdN at hr
                    split at hr
                    · rename_i hle; exact hle
                    · cases hr)
                · rw [if_neg hkb]
                  exact R.frozen hm hb cro _ _
              refine ⟨.string ⟨(ns.map fun n => UInt8.ofNat n.toNat).toArray⟩, w.freeze ⟨L.blk, L.base + off, none⟩ N, ?_, .flat _ rfl, hfz.1, hfz.2⟩
              have hlb := run_loadBytes' (P := P) (w := w) ns ⟨L.blk, L.base + off, none⟩ .empty rfl hcell
              rw [hlen] at hlb
              have hee : e' = e := by rw [he, c3]
              subst hee
              have hsh : w.shape? L.blk = some (e', c.size) := by simp [World.shape?, hw]
              have hlies := liesAt_off (P := P) c4 (c.size / P.cellsOf e') (L.base + off) N (by rw [show P.cellsOf e' = 1 from c4]; simpa using hroom)
              have hdef : Builtin.unsafeString_ #[pt, it] ty #[.pointer (some ⟨L.blk, L.base + off, none⟩), .int .i64 (N : Int)] =
                  (do
                    let n ← asInt (.int .i64 (N : Int))
                    if n < 0 then runtimePanic (.error "unsafe.String: len out of range")
                    if n > IntKind.i64.max then unsupported (.unsafePointer "String: a length above the largest int")
                    if n = 0 then pure (.string .empty)
                    else if ← variablesAt ⟨L.blk, L.base + off, none⟩ (← elemOf pt) n.toNat then do
                      let s ← loadBytes ⟨L.blk, L.base + off, none⟩ .empty n.toNat
                      freeze ⟨L.blk, L.base + off, none⟩ n.toNat
                      pure (.string s)
                    else unsupported (.unsafePointer "String: not so many bytes at ptr")) := rfl
              rw [hdef]
              have hmax : IntKind.i64.max = 9223372036854775807 := rfl
              have hneg : ¬ (N : Int) < 0 := by omega
              have hN0 : N ≠ 0 := by omega
              have h63 : ¬ (9223372036854775807 : Int) < (N : Int) := by omega
              simp [asInt, asIntOf, hmax, h63, hneg, hN0, variablesAt, hsh, elemOf, run_underlying hu, hlies, hlb]
        · cases h
    · cases h
  · cases h
end Go.AM
namespace Go.AM
open Go.RowKit
section
variable {P : Program} {B0 : Nat} {w0 : World} {m : Mp} {H : AH} {w : World}
theorem cvB_sound (R : Rel P B0 w0 m H w) {s d : TypeId} {a a' v : Value} {H' : AH} (ha : VRel m a a') (hs : isStrToBytes P s d = true) (h : cvB P d H a = some (v, H')) :
    ∃ v' m' w', (convert s d a').run P w = .ok v' w' ∧ VRel m' v v' ∧ Rel P B0 w0 m' H' w' ∧ Ext m H w m' H' w' := by
  unfold cvB at h
  split at h
  · rename_i e b hd
    split at h
    · rename_i he
      split at h
      · rename_i hc
        obtain ⟨h0, hsz, hinf⟩ := hc
        cases h
        cases ha.flat_inv rfl
        have hss : P.underlying s = some .string := by
          unfold isStrToBytes at hs
          split at hs
          · rename_i h1 _; exact h1
          · cases hs
        obtain ⟨cap, hcap, hrun⟩ : ∃ cap, b.size ≤ cap ∧ (Go.choose (.appendCap b.size 0 e)).run P w = .ok cap w.drew := by
          refine ⟨grownCap w b.size 0 e, grownCap_ge w b.size 0 e, ?_⟩
          simp [Question.forced, grownCap]
        obtain ⟨i, hi⟩ := Option.isSome_iff_exists.1 hinf
        obtain ⟨c, hc⟩ : ∃ c : Array Value, c = (b.data.map fun x => Value.int .u8 x.toNat) ++ Array.replicate (cap - b.size) (.int .u8 0) := ⟨_, rfl⟩
        have hcl : (cellsOfBytes b).length = b.size := by unfold cellsOfBytes; simp
        have htk : c.toList.take (cellsOfBytes b).length = cellsOfBytes b := by
          rw [hc, hcl]
          unfold cellsOfBytes
          rw [Array.toList_append, Array.toList_map, List.take_append_of_le_length (by simp), List.take_of_length_le (by simp)]
        obtain ⟨h3, h4⟩ := R.drew.make (P := P) (cellsOfBytes b) e .byt c (by decide) (by
          rw [htk]
          exact ⟨rfl, fun i x y hx hy => by
            have e := Option.some.inj (hx.symm.trans hy)
            subst e
            obtain ⟨u, _, rfl⟩ := List.mem_map.1 (List.mem_of_getElem? hx)
            exact .flat _ rfl⟩) (fun h => by cases h)
        have hnew : (w.drew.alloc (.cells c e)).heap[w.heap.size]? = some (.cells c e (0, 0)) := heap_alloc_new w.drew _
        obtain ⟨h5, h6⟩ := h3.frozenT (b := H.length) (upd_same _ _ _) (blk_mkB_new' ..) rfl hnew
        refine ⟨_, _, _, ?_, VRel.newSl (upd_same _ _ _) rfl (Nat.le_succ _) hcap (fun hk => by cases hk) (fun hk => by cases hk) (fun _ => Nat.lt_succ_self _) rfl, h5, Ext.trans (fun b L hb => (R.dom b L hb).1) h4.drewL h6⟩
        have hconv : (convert s d (.string b)).run P w = (Conv.stringToBytes e b).run P w := by
          simp [convert, run_underlying hss, run_underlying hd, run_underlying he]
        rw [hconv]
        unfold Conv.stringToBytes
        simp only [Sem.run_bind, hrun, Result.andThen_ok, ← hc]
        have hsh : (w.drew.alloc (.cells c e)).shape? w.heap.size = some (e, c.size) := by unfold World.shape?; rw [hnew]
        have hmk : (markStringish ⟨w.heap.size, 0, none⟩).run P (w.drew.alloc (.cells c e)) = .ok () ((w.drew.alloc (.cells c e)).freeze ⟨w.heap.size, c.size, none⟩ 1) := by
          simp [markStringish, hsh]
        have hrow : (newRow e c).run P w.drew = .ok ⟨w.heap.size, 0, none⟩ (w.drew.alloc (.cells c e)) := by
          simp [newRow]
        simp only [hrow, hmk, Result.andThen_ok, Sem.run_pure]
        rfl
      · cases h
    · cases h
  · cases h
end
end Go.AM
namespace Go.AM
open Go.RowKit
variable {P : Program} {B0 : Nat} {w0 : World} {m : Mp} {H : AH} {w : World}

abbrev ents (l : List MapEntry) : List Value := l.flatMap fun e => [e.key, e.val]
theorem ents_len (l : List MapEntry) : (ents l).length = 2 * l.length := by
  induction l with
  | nil => rfl
  | cons e l ih => simp only [List.flatMap_cons, List.length_append, List.length_cons, List.length_nil, ih]; omega
theorem ents_set : ∀ (l : List MapEntry) (q : Nat) (e : MapEntry) (v : Value), l[q]? = some e → ents (l.modify q fun e => { e with key := e.key, val := v }) = (ents l).set (2 * q + 1) v
  | [], q, e, v, h => by simp at h
  | e0 :: l, 0, e, v, h => by simp [List.modify]
  | e0 :: l, q + 1, e, v, h => by
    have ih := ents_set l q e v (by simpa using h)
    rw [show 2 * (q + 1) + 1 = (2 * q + 1) + 2 by omega]
    simp only [List.modify_succ_cons, List.flatMap_cons, List.cons_append, List.nil_append, List.set_cons_succ, ih]
theorem ents_val : ∀ (l : List MapEntry) (q : Nat) (e : MapEntry), l[q]? = some e → (ents l)[2 * q + 1]? = some e.val
  | [], q, e, h => by simp at h
  | e0 :: l, 0, e, h => by simp at h; subst h; rfl
  | e0 :: l, q + 1, e, h => by
    rw [show 2 * (q + 1) + 1 = (2 * q + 1) + 2 by omega]
    simpa using ents_val l q e (by simpa using h)
theorem mkM_sound (R : Rel P B0 w0 m H w) {t : TypeId} {u : Value} {H' : AH} (h : mkM t H = some (u, H')) :
    ∃ u' m' w', (Instr.makeMap t none).run P w = .ok u' w' ∧ VRel m' u u' ∧ Rel P B0 w0 m' H' w' ∧ Ext m H w m' H' w' := by
  cases h
  obtain ⟨r1, r2⟩ := R.makeO [] t .map (.map #[] 0) ⟨w.heap.size, 0, .map, 0, 0⟩ rfl (fun m' hm => ⟨rfl, fun hx => (by cases hx), fun _ => ⟨#[], 0, [], heap_alloc_new w _, List.Perm.nil, List.nodup_nil, ⟨(fun e he => by cases he), List.nodup_nil⟩, LRel.nil _⟩, fun f key hx => (by cases hx), fun _ => R.hB, fun hx => (by cases hx)⟩)
  refine ⟨_, _, _, ?_, .map _ _ (upd_same _ _ _) rfl, r1, r2⟩
  simp [Instr.makeMap]
theorem bab (a b : ByteArray) : (a == b) = decide (a = b) := by
  have e : (a == b) = (a.data == b.data) := by
    cases a; cases b; rfl
  rw [e, Bool.eq_iff_iff]
  simp
  constructor
  · intro h; cases a; cases b; simp at h; subst h; rfl
  · rintro rfl; rfl
theorem getMap {r : Nat} {es : Array MapEntry} {clock : Nat} (h : w.heap[r]? = some (.map es clock)) : (getObj r).run P w = .ok (.map es clock) w := by simp [getObj, Sem.run, h]
theorem setMap {r : Nat} {es : Array MapEntry} {clock : Nat} (o : Obj) (h : w.heap[r]? = some (.map es clock)) : (setObj r o).run P w = .ok () (w.putObj r o) := by simp [setObj, Sem.run, h, World.putObj]
theorem keyEq_inv {D : TypeDesc} {key k e : Value} {b : Bool} (hk : VRel m k e) (h : keyEq D key k = some b) : Instr.sameNow D key e = some b ∧ (b = true ↔ e = key) ∧ k = e := by
  unfold keyEq at h
  split at h
  · split at h
    · rename_i hkk
      subst hkk
      cases h
      have := hk.int_inv
      subst this
      refine ⟨by simp [Instr.sameNow]; rfl, ⟨fun hb => ?_, fun hb => ?_⟩, rfl⟩
      · simp at hb
        rw [hb]
      · cases hb; simp
    · cases h
  · cases h
    have := hk.str_inv
    subst this
    refine ⟨by simp only [Instr.sameNow, bab], ⟨fun hb => ?_, fun hb => ?_⟩, rfl⟩
    · simp at hb
      rw [hb]
    · cases hb; simp
  · cases h
def Told (D : TypeDesc) (key : Value) (l : List MapEntry) : Prop := ∀ e ∈ l, ∃ b, Instr.sameNow D key e.key = some b ∧ (b = true ↔ e.key = key)
theorem keyAt_sound {D : TypeDesc} {key : Value} : ∀ (es : List MapEntry) (cs : List Value) (o : Option Nat), LRel m cs (ents es) → keyAt D key cs = some o →
    Told D key es ∧ (match o with
    | none => ∀ e ∈ es, e.key ≠ key
    | some j => ∃ (q : Nat) (e : MapEntry), j = 2 * q ∧ es[q]? = some e ∧ e.key = key)
  | [], cs, o, hl, h => by
    have : cs = [] := List.eq_nil_of_length_eq_zero (by simpa using hl.1)
    subst this
    cases h
    exact ⟨(fun e he => by cases he), (fun e he => by cases he)⟩
  | e :: es, cs, o, hl, h => by
    have hl0 := hl.1
    match cs, hl, h with
    | [], hl, h => simp at hl0
    | [x], hl, h => have := ents_len es; simp only [ents, List.flatMap_cons, List.length_append, List.length_cons, List.length_nil] at hl0 this; omega
    | k :: v :: r, hl, h =>
      simp only [ents, List.flatMap_cons, List.cons_append, List.nil_append] at hl
      obtain ⟨k', zs, he, hk, hr⟩ := hl.cons_inv
      cases he
      obtain ⟨v', zs, he, hv, hr⟩ := hr.cons_inv
      cases he
      simp only [keyAt] at h
      cases hq : keyEq D key k with
      | none => rw [hq] at h; cases h
      | some b =>
        rw [hq] at h
        obtain ⟨h1, h2, h3⟩ := keyEq_inv hk hq
        simp only [Option.bind_some] at h
        cases hq2 : keyAt D key r with
        | none => rw [hq2] at h; cases h
        | some o' =>
          rw [hq2] at h
          obtain ⟨i1, i2⟩ := keyAt_sound es r o' hr hq2
          refine ⟨fun x hx => ?_, ?_⟩
          · rcases List.mem_cons.1 hx with rfl | hx
            · exact ⟨b, h1, h2⟩
            · exact i1 x hx
          cases b with
          | true =>
            cases h
            exact ⟨0, e, rfl, rfl, h2.1 rfl⟩
          | false =>
            cases h
            cases o' with
            | none =>
              intro x hx
              rcases List.mem_cons.1 hx with rfl | hx
              · intro hk2
                have := h2.2 hk2
                cases this
              · exact i2 x hx
            | some j =>
              obtain ⟨q, e', rfl, a2, a3⟩ := i2
              exact ⟨q + 1, e', by show 2 * q + 2 = _; omega, by simpa using a2, a3⟩
theorem findNow_none {D : TypeDesc} {key : Value} : ∀ (es : List MapEntry) (i : Nat), Told D key es → (∀ e ∈ es, e.key ≠ key) → Instr.findNow D key es i = some none
  | [], i, _, _ => rfl
  | e :: es, i, ht, h => by
    obtain ⟨b, h1, h2⟩ := ht e (.head _)
    have hb : b = false := by
      cases b with
      | false => rfl
      | true => exact absurd (h2.1 rfl) (h e (.head _))
    subst hb
    simp only [Instr.findNow, h1]
    exact findNow_none es (i + 1) (fun x hx => ht x (.tail _ hx)) fun x hx => h x (.tail _ hx)
theorem findNow_some {D : TypeDesc} {key : Value} : ∀ (es : List MapEntry) (i : Nat), Told D key es → (∃ e ∈ es, e.key = key) → ∃ (q : Nat) (e : MapEntry), es[q]? = some e ∧ e.key = key ∧ Instr.findNow D key es i = some (some (i + q, e.val))
  | [], i, _, h => by obtain ⟨e, he, _⟩ := h; cases he
  | e :: es, i, ht, h => by
    obtain ⟨b, h1, h2⟩ := ht e (.head _)
    cases b with
    | true => exact ⟨0, e, rfl, h2.1 rfl, by simp [Instr.findNow, h1]⟩
    | false =>
      obtain ⟨x, hx, hk⟩ := h
      have hx2 : x ∈ es := by
        rcases List.mem_cons.1 hx with rfl | hx
        · have := h2.2 hk; cases this
        · exact hx
      obtain ⟨q, e', g1, g2, g3⟩ := findNow_some es (i + 1) (fun x hx => ht x (.tail _ hx)) ⟨x, hx2, hk⟩
      refine ⟨q + 1, e', by simpa using g1, g2, ?_⟩
      simp only [Instr.findNow, h1]
      rw [g3]
      congr 3
      omega
theorem Told.perm {D : TypeDesc} {key : Value} {l l' : List MapEntry} (h : Told D key l) (hp : l'.Perm l) : Told D key l' := fun e he => h e (hp.mem_iff.1 he)
theorem nodup_key {l : List MapEntry} (h : (l.map (·.key)).Nodup) : ∀ {e e' : MapEntry}, e ∈ l → e' ∈ l → e.key = e'.key → e = e' := by
  induction l with
  | nil => intro e e' he; cases he
  | cons a l ih =>
    intro e e' he he' hk
    obtain ⟨h1, h2⟩ := List.nodup_cons.1 h
    rcases List.mem_cons.1 he with g1 | g1
    · rcases List.mem_cons.1 he' with g2 | g2
      · rw [g1, g2]
      · exact absurd (show a.key ∈ l.map (fun x => x.key) by rw [← g1, hk]; exact List.mem_map_of_mem g2) h1
    · rcases List.mem_cons.1 he' with g2 | g2
      · exact absurd (show a.key ∈ l.map (fun x => x.key) by rw [← g2, ← hk]; exact List.mem_map_of_mem g1) h1
      · exact ih h2 g1 g2 hk
theorem modify_perm {α : Type} (f : α → α) : ∀ (l : List α) (q : Nat) (e : α), l[q]? = some e → (l.modify q f).Perm (f e :: l.eraseIdx q) ∧ l.Perm (e :: l.eraseIdx q)
  | [], q, e, h => by simp at h
  | a :: l, 0, e, h => by simp at h; subst h; exact ⟨by simp [List.modify], List.Perm.refl _⟩
  | a :: l, q + 1, e, h => by
    obtain ⟨h1, h2⟩ := modify_perm f l q e (by simpa using h)
    simp only [List.modify_succ_cons, List.eraseIdx_cons_succ]
    exact ⟨(h1.cons a).trans (List.Perm.swap _ _ _), (h2.cons a).trans (List.Perm.swap _ _ _)⟩
theorem modify_both {α : Type} (f : α → α) {l l' : List α} {q q' : Nat} {e : α} (hp : l.Perm l') (h : l[q]? = some e) (h' : l'[q']? = some e) : (l.modify q f).Perm (l'.modify q' f) := by
  obtain ⟨h1, h2⟩ := modify_perm f l q e h
  obtain ⟨h3, h4⟩ := modify_perm f l' q' e h'
  have h5 : (l.eraseIdx q).Perm (l'.eraseIdx q') := ((h2.symm.trans hp).trans h4).cons_inv
  exact h1.trans ((h5.cons _).trans h3.symm)
theorem run_checkKey {D : TypeDesc} {kt : TypeId} {key : Value} (emp : Bool) (hd : P.underlying kt = some D) (hk : keyOK D key = true) : (Instr.checkKey emp 10000 kt key).run P w = .ok () w := by
  have e : Instr.checkKey emp 10000 kt key = Instr.checkKey emp (9999 + 1) kt key := rfl
  rw [e]
  unfold Instr.checkKey
  simp only [Sem.run_bind, run_underlying hd, Result.andThen_ok]
  unfold keyOK at hk
  split at hk
  · rfl
  · rfl
  · cases hk
theorem run_findKey {D : TypeDesc} {kt : TypeId} {key : Value} {es : List MapEntry} {r : Option (Nat × Value)} (hd : P.underlying kt = some D) (h : Instr.findNow D key es 0 = some r) : (Instr.findKey kt key es).run P w = .ok r w := by
  unfold Instr.findKey
  simp only [Sem.run_bind, run_underlying hd, Result.andThen_ok, h, Sem.run_pure]
theorem keyOK_flat {D : TypeDesc} {key : Value} (h : keyOK D key = true) : flat1 key = true ∧ Instr.sameBits 10000 key key = true := by
  unfold keyOK at h
  split at h
  · exact ⟨rfl, by simp [Instr.sameBits]⟩
  · exact ⟨rfl, by simp [Instr.sameBits, bab]⟩
  · cases h
theorem mapB_inv {b : Nat} {k : Blk} (h : mapB H b = some k) : blk H b = some k ∧ k.kind = .map := by
  unfold mapB at h
  cases hb : blk H b with
  | none => rw [hb] at h; cases h
  | some k' =>
    rw [hb] at h
    simp only [Option.bind_some] at h
    split at h
    · rename_i hk; cases h; exact ⟨rfl, hk⟩
    · cases h
theorem mpU_sound (R : Rel P B0 w0 m H w) {t : TypeId} {x x' key key' v v' : Value} {H' : AH} (hx : VRel m x x') (hk : VRel m key key') (hv : VRel m v v') (h : mpU P t H x key v = some H') :
    ∃ w', (Instr.mapUpdate t x' key' v').run P w = .ok () w' ∧ Rel P B0 w0 m H' w' ∧ Ext m H w m H' w' := by
  unfold mpU at h
  split at h
  · rename_i kt et b hd
    cases hdk : P.underlying kt with
    | none => rw [hdk] at h; cases h
    | some D =>
      rw [hdk] at h
      simp only [Option.bind_some] at h
      cases hb : mapB H b with
      | none => rw [hb] at h; cases h
      | some k =>
        rw [hb] at h
        simp only [Option.bind_some] at h
        obtain ⟨hb1, hb2⟩ := mapB_inv hb
        split at h
        · rename_i hc
          obtain ⟨hc1, hc2⟩ := hc
          obtain ⟨L, hm, rfl, hLk⟩ := hx.map_inv
          have hB := R.blks b L k hm hb1
          obtain ⟨es, clock, es0, hw, hpm, hnd, ⟨hbn, hbd⟩, hl⟩ := hB.mp hb2
          obtain ⟨hf, hsb⟩ := keyOK_flat hc1
          have hkk := hk.flat_inv hf
          subst hkk
          have hro : k.kind ≠ .ro := by rw [hb2]; decide
          have hlt : L.blk < w.heap.size := (R.dom b L hm).2
          cases hq : keyAt D key' k.cells with
          | none => rw [hq] at h; cases h
          | some o =>
            rw [hq] at h
            cases h
            obtain ⟨ht, hs⟩ := keyAt_sound es0 k.cells o hl hq
            have ht2 := ht.perm hpm
            have go : ∀ (cs : List Value) (es' : Array MapEntry) (clock' : Nat) (es0' : List MapEntry), es'.toList.Perm es0' → (es0'.map (·.key)).Nodup → ((∀ e ∈ es0', e.born < clock') ∧ (es0'.map (·.born)).Nodup) → LRel m cs (ents es0') →
                Rel P B0 w0 m (put H b k cs) (w.putObj L.blk (.map es' clock')) ∧ Ext m H w m (put H b k cs) (w.putObj L.blk (.map es' clock')) := by
              intro cs es' clock' es0' p1 p2 p3 hl'
              exact R.turn hm hb1 hro cs _ ⟨hB.kind, fun hx => (by rw [hb2] at hx; cases hx), fun _ => ⟨es', clock', es0', World.putObj_heap_same hlt, p1, p2, p3, hl'⟩, fun f key hx => (by rw [hb2] at hx; cases hx), hB.own, hB.esz⟩
            cases o with
            | none =>
              simp only at hs ⊢
              have hfn := findNow_none es.toList 0 ht2 fun e he => hs e (hpm.mem_iff.1 he)
              refine ⟨w.putObj L.blk (.map (es.push { key := key', val := v', born := clock }) (clock + 1)), ?_, go _ _ _ (es0 ++ [{ key := key', val := v', born := clock }]) ?_ ?_ ?_ ?_⟩
              · simp only [Instr.mapUpdate, Sem.run_bind, run_underlying hd, Result.andThen_ok, getMap hw, run_checkKey false hdk hc1, run_findKey hdk hfn]
                rw [setMap _ hw]
              · rw [Array.toList_push]
                exact hpm.append_right _
              · rw [List.map_append, List.nodup_append]
                refine ⟨hnd, by simp, fun a ha b hb => ?_⟩
                simp at hb
                subst hb
                rintro rfl
                obtain ⟨e, he, h2⟩ := List.mem_map.1 ha
                exact hs e he h2
              · constructor
                · intro e he
                  rcases List.mem_append.1 he with he | he
                  · exact Nat.lt_succ_of_lt (hbn e he)
                  · simp at he; subst he; exact Nat.lt_succ_self _
                · rw [List.map_append, List.nodup_append]
                  refine ⟨hbd, by simp, fun a ha b hb => ?_⟩
                  simp at hb
                  subst hb
                  rintro rfl
                  obtain ⟨e, he, h2⟩ := List.mem_map.1 ha
                  exact absurd (hbn e he) (by rw [h2]; exact Nat.lt_irrefl _)
              · simp only [ents, List.flatMap_append, List.flatMap_cons, List.flatMap_nil, List.append_nil]
                exact hl.append (LRel.cons hk (LRel.cons hv (LRel.nil m)))
            | some j =>
              obtain ⟨q0, e, rfl, b2, b3⟩ := hs
              obtain ⟨q, e', a2, a3, a4⟩ := findNow_some es.toList 0 ht2 ⟨e, hpm.mem_iff.2 (List.mem_of_getElem? b2), b3⟩
              obtain rfl : e' = e := nodup_key hnd (hpm.mem_iff.1 (List.mem_of_getElem? a2)) (List.mem_of_getElem? b2) (a3.trans b3.symm)
              rw [Nat.zero_add] at a4
              have a5 : es[q]? = some e' := by rw [← Array.getElem?_toList]; exact a2
              have e1 : (es.modify q fun e => { e with key := key', val := v' }).toList = es.toList.modify q fun e => { e with key := key', val := v' } := Array.toList_modify
              refine ⟨w.putObj L.blk (.map (es.modify q fun e => { e with key := key', val := v' }) clock), ?_, go _ _ _ (es0.modify q0 fun e => { e with key := key', val := v' }) ?_ ?_ ?_ ?_⟩
              · simp only [Instr.mapUpdate, Sem.run_bind, run_underlying hd, Result.andThen_ok, getMap hw, run_checkKey false hdk hc1, run_findKey hdk a4]
                have hst : (Instr.keyThatStays (((es[q]?).map (·.key)).getD key') key').run P w = .ok key' w := by
                  rw [a5]
                  simp only [Option.map_some, Option.getD_some, a3, Instr.keyThatStays, hsb, if_true, Sem.run_pure]
                rw [hst]
                simp only [Result.andThen_ok]
                rw [setMap _ hw]
              · rw [e1]
                exact modify_both _ hpm a2 b2
              · have : (es0.modify q0 fun e => { e with key := key', val := v' }).map (·.key) = es0.map (·.key) := by
                  apply List.ext_getElem?
                  intro i
                  rw [List.getElem?_map, List.getElem?_map, List.getElem?_modify]
                  by_cases hi : q0 = i
                  · subst hi
                    rw [b2]
                    simp [b3]
                  · simp [hi]
                rw [this]
                exact hnd
              · refine ⟨?_, ?_⟩
                case refine_2 =>
                  have : (es0.modify q0 fun e => { e with key := key', val := v' }).map (·.born) = es0.map (·.born) := by
                    apply List.ext_getElem?
                    intro i
                    rw [List.getElem?_map, List.getElem?_map, List.getElem?_modify]
                    by_cases hi : q0 = i
                    · subst hi
                      rw [b2]
                      simp
                    · simp [hi]
                  rw [this]
                  exact hbd
                intro x hx
                obtain ⟨i, hi⟩ := List.getElem?_of_mem hx
                rw [List.getElem?_modify] at hi
                cases hg : es0[i]? with
                | none => rw [hg] at hi; cases hi
                | some y =>
                  rw [hg] at hi
                  have hy := hbn y (List.mem_of_getElem? hg)
                  have hi2 := Option.some.inj hi
                  by_cases hq : q0 = i
                  · rw [← hi2]; simp [hq]; exact hy
                  · rw [← hi2]; simp [hq]; exact hy
              · have e2 : (es0.modify q0 fun e => { e with key := key', val := v' }) = es0.modify q0 fun e => { e with key := e.key, val := v' } := by
                  apply List.ext_getElem?
                  intro i
                  rw [List.getElem?_modify, List.getElem?_modify]
                  by_cases hi : q0 = i
                  · subst hi
                    rw [b2]
                    simp [b3]
                  · simp [hi]
                rw [e2, ents_set _ _ _ _ b2]
                exact hl.set _ hv
        · cases h
  · cases h
theorem mapCells_sound (R : Rel P B0 w0 m H w) {x x' : Value} {cs : List Value} (hx : VRel m x x') (h : mapCells H x = some cs) :
    (x' = .map none ∧ cs = []) ∨ ∃ r es clock es0, x' = .map (some r) ∧ w.heap[r]? = some (.map es clock) ∧ es.toList.Perm es0 ∧ (es0.map (·.key)).Nodup ∧ LRel m cs (ents es0) := by
  unfold mapCells at h
  split at h
  · cases h; cases hx.flat_inv rfl; exact .inl ⟨rfl, rfl⟩
  · rename_i b
    cases hb : mapB H b with
    | none => rw [hb] at h; cases h
    | some k =>
      rw [hb] at h
      cases h
      obtain ⟨hb1, hb2⟩ := mapB_inv hb
      obtain ⟨L, hm, rfl, hLk⟩ := hx.map_inv
      obtain ⟨es, clock, es0, hw, p1, p2, _, hl⟩ := (R.blks b L k hm hb1).mp hb2
      exact .inr ⟨_, es, clock, es0, rfl, hw, p1, p2, hl⟩
  · cases h
theorem lkU_sound (R : Rel P B0 w0 m H w) {t : TypeId} {x x' key key' v : Value} {two : Bool} (hx : VRel m x x') (hk : VRel m key key') (h : lkU P t H x key two = some v) :
    ∃ v', (Instr.lookup t x' key' two).run P w = .ok v' w ∧ VRel m v v' := by
  unfold lkU at h
  split at h
  · rename_i kt et hd
    cases hdk : P.underlying kt with
    | none => rw [hdk] at h; cases h
    | some D =>
      rw [hdk] at h
      simp only [Option.bind_some] at h
      cases hcs : mapCells H x with
      | none => rw [hcs] at h; cases h
      | some cs =>
        rw [hcs] at h
        simp only [Option.bind_some] at h
        split at h
        · rename_i hc1
          obtain ⟨hf, hsb⟩ := keyOK_flat hc1
          have hkk := hk.flat_inv hf
          subst hkk
          obtain ⟨es, es0, hes, hpm, hnd, hl⟩ : ∃ (es : Array MapEntry) (es0 : List MapEntry), ((x' = .map none ∧ es = #[]) ∨ ∃ r clock, x' = .map (some r) ∧ w.heap[r]? = some (.map es clock)) ∧ es.toList.Perm es0 ∧ (es0.map (·.key)).Nodup ∧ LRel m cs (ents es0) := by
            rcases mapCells_sound R hx hcs with ⟨rfl, rfl⟩ | ⟨r, es, clock, es0, rfl, hw, p1, p2, hl⟩
            · exact ⟨#[], [], .inl ⟨rfl, rfl⟩, List.Perm.nil, List.nodup_nil, LRel.nil m⟩
            · exact ⟨es, es0, .inr ⟨r, clock, rfl, hw⟩, p1, p2, hl⟩
          cases hq : keyAt D key' cs with
          | none => rw [hq] at h; cases h
          | some o =>
            rw [hq] at h
            simp only [Option.bind_some] at h
            obtain ⟨ht, hs⟩ := keyAt_sound es0 cs o hl hq
            have ht2 := ht.perm hpm
            have fin : ∀ (u u' : Value) (b : Bool), VRel m u u' → VRel m (if two = true then .tuple #[u, .bool b] else u) (if two = true then .tuple #[u', .bool b] else u') := by
              intro u u' b hu
              split
              · have hl2 := LRel.cons hu (LRel.cons (.flat (.bool b) rfl) (LRel.nil m))
                exact .tuple _ _ (by simp) fun i x y hx hy => hl2.2 i x y (by simpa using hx) (by simpa using hy)
              · exact hu
            cases o with
            | none =>
              simp only at hs
              have hfn := findNow_none es.toList 0 ht2 fun e he => hs e (hpm.mem_iff.1 he)
              cases hz : zeroT P et with
              | none => rw [hz] at h; cases h
              | some z =>
                rw [hz] at h
                cases h
                obtain ⟨i, hi, hz1, hz2⟩ := zeroT_inv hz
                refine ⟨_, ?_, fin _ _ _ (VRel.of_flat hz2)⟩
                rcases hes with ⟨rfl, rfl⟩ | ⟨r, clock, rfl, hw⟩
                · simp only [Instr.lookup, Sem.run_bind, run_underlying hd, Result.andThen_ok, Sem.run_pure, run_checkKey _ hdk hc1, run_findKey hdk hfn, run_zeroValue hi hz1]
                · simp only [Instr.lookup, Sem.run_bind, run_underlying hd, Result.andThen_ok, getMap hw, Sem.run_pure, run_checkKey _ hdk hc1, run_findKey hdk hfn, run_zeroValue hi hz1]
            | some j =>
              obtain ⟨q, e, rfl, b2, b3⟩ := hs
              obtain ⟨q', e', a2, a3, a4⟩ := findNow_some es.toList 0 ht2 ⟨e, hpm.mem_iff.2 (List.mem_of_getElem? b2), b3⟩
              obtain rfl : e' = e := nodup_key hnd (hpm.mem_iff.1 (List.mem_of_getElem? a2)) (List.mem_of_getElem? b2) (a3.trans b3.symm)
              simp only at h
              cases hv : cs[2 * q + 1]? with
              | none => rw [hv] at h; cases h
              | some u =>
                rw [hv] at h
                cases h
                have hev := ents_val es0 q e' b2
                refine ⟨_, ?_, fin _ _ _ (hl.2 _ _ _ hv hev)⟩
                rcases hes with ⟨rfl, rfl⟩ | ⟨r, clock, rfl, hw⟩
                · simp at a2
                · simp only [Instr.lookup, Sem.run_bind, run_underlying hd, Result.andThen_ok, getMap hw, Sem.run_pure, run_checkKey _ hdk hc1, run_findKey hdk a4]
        · cases h
  · cases h
theorem lenM_sound (R : Rel P B0 w0 m H w) {t ty : TypeId} {x x' v : Value} (hx : VRel m x x') (h : lenM P t H x = some v) : (Builtin.len_ #[t] ty #[x']).run P w = .ok v w ∧ flat1 v = true := by
  unfold lenM at h
  split at h
  · rename_i kt et hd
    cases hcs : mapCells H x with
    | none => rw [hcs] at h; cases h
    | some cs =>
      rw [hcs] at h
      cases h
      refine ⟨?_, rfl⟩
      rcases mapCells_sound R hx hcs with ⟨rfl, rfl⟩ | ⟨r, es, clock, es0, rfl, hw, p1, p2, hl⟩
      · simp [Builtin.len_, run_underlying hd, goInt]
      · have e : cs.length / 2 = es.size := by
          have := p1.length_eq
          rw [hl.1, ents_len, ← this]; simp
        simp [Builtin.len_, run_underlying hd, getMap hw, goInt, e]
  · cases h
end Go.AM
namespace Go.AM
open Go.RowKit

def Enterable (P : Program) (f : FuncId) : Prop := ∃ fn, P.funcs[f]? = some fn ∧ fn.name ≠ "runtime.NumGoroutine" ∧ fn.body.isSome = true
def SimCall (P : Program) (f : FuncId) (args : List Value) (H : AH) (v : Value) (H' : AH) : Prop :=
  ∀ (B0 : Nat) (w0 : World) (m : Mp) (w : World) (args' : List Value), Rel P B0 w0 m H w → LRel m args args' →
    Calls P f args'.toArray w fun e w' => ∃ m' v', e = .returned v' ∧ VRel m' v v' ∧ Rel P B0 w0 m' H' w' ∧ Ext m H w m' H' w'
def SimYield (P : Program) (b : Nat) (args : List Value) (H : AH) (v : Value) (H' : AH) : Prop :=
  ∀ (n B0 : Nat) (w0 : World) (m : Mp) (w : World) (args' : List Value) (L : Loc), Rel P B0 w0 m H w → LRel m args args' → m b = some L → (∃ f key, L.kind = .loop f key) →
    YieldAt Fence.wide n P L.blk args'.toArray w fun e w' => ∃ m' v', e = .returned v' ∧ VRel m' v v' ∧ Rel P B0 w0 m' H' w' ∧ Ext m H w m' H' w'
def CallOK (P : Program) (call : CallF) : Prop := (∀ f args H v H', f < yOff → call f args H = some (v, H') → Enterable P f ∧ SimCall P f args H v H') ∧ ∀ b args H v H', call (yOff + b) args H = some (v, H') → SimYield P b args H v H'
def OpSim (P : Program) (B0 : Nat) (w0 : World) (o : Oper) (a : Act) (m : Mp) (H : AH) (w : World) (v : Value) (H' : AH) : Prop :=
  ∀ (next : Act → World → Prop) (Q : Exit → Act → World → Prop), (∀ m' v' w', Ext m H w m' H' w' → Rel P B0 w0 m' H' w' → VRel m' v v' → next (a.put o.dst v') w') → o.wp P a w next Q

section
variable {P : Program} {B0 : Nat} {w0 : World} {m : Mp} {H : AH} {w : World} {call : CallF} {R : Type}

theorem blt_inv {α : Type} {a b : Nat} {x : Option α} {r : α} (h : (bif Nat.blt a b then x else none) = some r) : a < b ∧ x = some r := by
  cases hb : Nat.blt a b with
  | false => rw [hb] at h; cases h
  | true =>
    rw [hb] at h
    exact ⟨by simpa using Nat.blt_eq ▸ hb, h⟩
theorem gk_gr (P : Program) (e : TypeId) : (gk P e).gr = true := by
  unfold gk
  split <;> rfl
theorem run_callFunc {f : FuncId} (h : Enterable P f) (args : Array Value) (w : World) : (callFunc f args).run P w = .ok (.enter f args) w := by
  obtain ⟨fn, h1, h2, h3⟩ := h
  obtain ⟨c, hc⟩ := Option.isSome_iff_exists.1 h3
  simp [callFunc, program, Sem.run, h1, h2, hc]
theorem OpSim.value {o : Oper} {a : Act} {v v' : Value} {H' : AH} {m' : Mp} {w' : World} (hr : (execOp a.eval o).run P w = .ok (.value v') w') (hv : VRel m' v v') (R' : Rel P B0 w0 m' H' w') (E : Ext m H w m' H' w') : OpSim P B0 w0 o a m H w v H' :=
  fun next Q h => by unfold Oper.wp; rw [hr]; exact h m' v' w' E R' hv
theorem OpSim.still {o : Oper} {a : Act} {v v' : Value} (R' : Rel P B0 w0 m H w) (hr : (execOp a.eval o).run P w = .ok (.value v') w) (hv : VRel m v v') : OpSim P B0 w0 o a m H w v H :=
  OpSim.value hr hv R' (Ext.refl _ _ _)
theorem OpSim.skip {o : Oper} {a : Act} {H' : AH} {w' : World} (hr : (execOp a.eval o).run P w = .ok .skip w') (R' : Rel P B0 w0 m H' w') (E : Ext m H w m H' w') : OpSim P B0 w0 o a m H w undef H' :=
  fun next Q h => by unfold Oper.wp; rw [hr]; exact h m undef w' E R' (VRel.undef _)
theorem opv_rel {T : List Value} {a : Act} (hT : LRel m T a.tmps.toList) (x : Operand) : VRel m (opv T x) (a.eval x) := by
  cases x with
  | tmp t =>
    simp only [opv, Act.eval]
    rcases Nat.lt_or_ge t T.length with h | h
    · have hlen : T.length = a.tmps.size := hT.1.trans Array.length_toList
      have h2 : t < a.tmps.size := hlen ▸ h
      have e1 : T[t]? = some T[t] := List.getElem?_eq_getElem h
      have e2 : a.tmps.toList[t]? = some a.tmps[t] := by simp [h2]
      have := hT.2 t _ _ e1 e2
      simpa [List.getD, e1, Array.getD, h2] using this
    · have h2 : a.tmps.size ≤ t := by have hlen : T.length = a.tmps.size := hT.1.trans Array.length_toList; omega
      have e1 : T[t]? = none := List.getElem?_eq_none h
      simp [List.getD, e1, Array.getD, Nat.not_lt.2 h2]
      exact VRel.undef _
  | const v =>
    simp only [opv, Act.eval]
    split
    · rename_i hf; exact VRel.of_flat hf
    · exact .unk _
  | global g => exact .unk _
  | func f => exact .func f _ _ _ _ rfl (fun i x y h => by simp at h) rfl (fun i x y h => by simp at h)
theorem parts_rel {T : List Value} {a : Act} (hT : LRel m T a.tmps.toList) : ∀ ps : List (Nat × Operand), PRel m (ps.map fun p => (p.1, opv T p.2)) (ps.map fun p => (p.1, a.eval p.2))
  | [] => trivial
  | p :: ps => ⟨rfl, opv_rel hT p.2, parts_rel hT ps⟩
theorem args_rel {T : List Value} {a : Act} (hT : LRel m T a.tmps.toList) (l : List Operand) : LRel m (l.map (opv T)) (l.map a.eval) := LRel.map _ _ l fun x _ => opv_rel hT x
theorem opt_rel {T : List Value} {a : Act} (hT : LRel m T a.tmps.toList) (x : Option Operand) : ORel m (x.map (opv T)) (x.map a.eval) := by
  cases x with
  | none => exact .inl ⟨rfl, rfl⟩
  | some x => exact .inr ⟨_, _, rfl, rfl, opv_rel hT x⟩
theorem bind_some {α β : Type} {x : Option α} {f : α → Option β} {r : β} (h : x.bind f = some r) : ∃ a, x = some a ∧ f a = some r := by
  cases x with
  | none => cases h
  | some a => exact ⟨a, rfl, h⟩
theorem nilChk_sound {dst : Option Tmp} {x : Operand} {ty : TypeId} {ps : String} {af : Array Edge} {g : Option (Nat × Bool)} {a : Act} {T : List Value} {v : Value} (hT : LRel m T a.tmps.toList) (h : nilChk (opv T x) = some v) :
    ∃ v', (execOp a.eval ⟨dst, .nilCheck x, ty, ps, af, g⟩).run P w = .ok (.value v') w ∧ VRel m v v' := by
  have hx := opv_rel hT x
  unfold nilChk at h
  split at h
  · rename_i ad he
    cases h
    rw [he] at hx
    obtain ⟨ad', hx'⟩ := hx.ptr_some
    exact ⟨.pointer (some ad'), by simp [execOp, hx'], by rw [← hx']; exact hx⟩
  · rename_i f u1 u2 he
    cases h
    rw [he] at hx
    obtain ⟨a', b', hx'⟩ := hx.func_someF
    exact ⟨.func (.func f) a' b', by simp [execOp, hx'], by rw [← hx']; exact hx⟩
  · cases h
theorem call_sound (hcall : CallOK P call) (R0 : Rel P B0 w0 m H w) {T : List Value} {a : Act} (hT : LRel m T a.tmps.toList) {dst : Option Tmp} {c : Call} {ty : TypeId} {ps : String} {af : Array Edge} {g : Option (Nat × Bool)} {K : Value → AH → Option R} {r : R}
    (h : aCall P call (opv T) c H K = some r) : ∃ v H', K v H' = some r ∧ OpSim P B0 w0 ⟨dst, .call c, ty, ps, af, g⟩ a m H w v H' := by
  obtain ⟨callee, cargs, ctypes⟩ := c
  unfold aCall at h
  split at h
  · rename_i f hc
    simp only at hc
    subst hc
    obtain ⟨p, h1, h2⟩ := bind_some h
    refine ⟨p.1, p.2, h2, ?_⟩
    unfold callV at h1
    split at h1
    · rename_i q first captured hf
      have hfr := opv_rel hT f
      rw [hf] at hfr
      obtain ⟨hlt, h1⟩ := blt_inv h1
      obtain ⟨hen, hsim⟩ := hcall.1 _ _ _ _ _ hlt h1
      have hsplit : ∃ a' b', a.eval f = .func (.func q) a' b' ∧ LRel m first.toList a'.toList ∧ LRel m captured.toList b'.toList := by
        generalize a.eval f = u at hfr
        cases hfr with
        | flat v hf => simp [flat1] at hf
        | func f a b a' b' h1 h2 h3 h4 => exact ⟨a', b', rfl, ⟨by simpa using h1, fun i x y hx hy => h2 i x y (by simpa using hx) (by simpa using hy)⟩, ⟨by simpa using h3, fun i x y hx hy => h4 i x y (by simpa using hx) (by simpa using hy)⟩⟩
      obtain ⟨a', b', he, hla, hlb⟩ := hsplit
      intro next Q hn
      have hrun : (execOp a.eval ⟨dst, .call ⟨.value f, cargs, ctypes⟩, ty, ps, af, g⟩).run P w = .ok (.enter q (a' ++ cargs.map a.eval ++ b')) w := by
        simp [execOp, resolve, he, Deferred.ofValue, invoke, run_callFunc hen]
      unfold Oper.wp
      rw [hrun]
      simp only [Oper.upon]
      have hargs := hsim B0 w0 m w (a'.toList ++ (cargs.toList.map a.eval ++ b'.toList)) R0 (hla.append ((args_rel hT _).append hlb))
      have he2 : (a'.toList ++ (cargs.toList.map a.eval ++ b'.toList)).toArray = a' ++ cargs.map a.eval ++ b' := by
        apply Array.ext'
        simp
      rw [he2] at hargs
      refine hargs.mono fun e w' he => ?_
      obtain ⟨m', v', rfl, q1, q2, q3⟩ := he
      exact hn m' v' w' q3 q2 q1
    · cases h1
  · rename_i hc
    simp only at hc
    subst hc
    split at h
    · rename_i t u s x ht ha
      simp only at ht ha
      obtain ⟨p, h1, h2⟩ := bind_some h
      refine ⟨p.1, p.2, h2, ?_⟩
      have e1 : ctypes = #[t, u] := by apply Array.ext'; simpa using ht
      have e2 : cargs = #[s, x] := by apply Array.ext'; simpa using ha
      subst e1 e2
      have hs := opv_rel hT s
      have hx := opv_rel hT x
      have hrun : ∀ v' w', (Builtin.append_ #[t, u] ty #[a.eval s, a.eval x]).run P w = .ok v' w' → (execOp a.eval ⟨dst, .call ⟨.builtin .append, #[s, x], #[t, u]⟩, ty, ps, af, g⟩).run P w = .ok (.value v') w' := by
        intro v' w' hv
        simp [execOp, resolve, invoke, builtin, hv]
      unfold ap at h1
      split at h1
      · rename_i e e' hd1 hd2
        obtain ⟨z, hz, h1⟩ := bind_some h1
        split at h1
        · rename_i hcond
          obtain ⟨c1, c2, c3⟩ := hcond
          obtain ⟨n, hn, h1⟩ := bind_some h1
          obtain ⟨news, hnews, h1⟩ := bind_some h1
          split at h1
          · rename_i hall
            obtain ⟨i, hi, hz1, hz2⟩ := zeroT_inv hz
            rw [szT_eq hi] at c1 c2 hnews h1
            rw [byT_eq hi] at h1
            obtain ⟨v', m', w', q1, q2, q3, q4⟩ := apS_sound R0 (ty := ty) hd1 hd2 (.inl ⟨e', rfl⟩) hi hz1 c2 hs hx c1 hn hnews (.inl fun s hs => by rw [hs] at c3; cases c3) hall (gk_gr P e) h1
            exact OpSim.value (hrun _ _ q1) q2 q3 q4
          · cases h1
        · cases h1
      · rename_i e hd1 hd2
        obtain ⟨z, hz, h1⟩ := bind_some h1
        split at h1
        · rename_i hcond
          obtain ⟨c1, c2⟩ := hcond
          obtain ⟨n, hn, h1⟩ := bind_some h1
          obtain ⟨news, hnews, h1⟩ := bind_some h1
          split at h1
          · rename_i hall
            obtain ⟨i, hi, hz1, hz2⟩ := zeroT_inv hz
            rw [szT_eq hi] at c1 c2 hnews h1
            rw [byT_eq hi] at h1
            obtain ⟨v', m', w', q1, q2, q3, q4⟩ := apS_sound R0 (ty := ty) hd1 hd2 (.inr rfl) hi hz1 c2 hs hx (by omega) hn hnews (.inr c1) hall (gk_gr P e) h1
            exact OpSim.value (hrun _ _ q1) q2 q3 q4
          · cases h1
        · cases h1
      · rename_i e kn hd1 hd2
        split at h1
        · rename_i k n hs0 hx0
          rw [hs0] at hs
          rw [hx0] at hx
          obtain ⟨z, hz, h1⟩ := bind_some h1
          split at h1
          · rename_i hcond
            obtain ⟨c1, c2, c3, c4, c5⟩ := hcond
            cases h1
            obtain ⟨i, hi, hz1, hz2⟩ := zeroT_inv hz
            rw [szT_eq hi] at c1
            rw [byT_eq hi] at c5
            obtain ⟨v', m', w', q1, q2, q3, q4⟩ := apZ_sound (gk_gr P e) R0 (ty := ty) hd1 hd2 hi hz1 hz2 c2 c1 hs hx c3 c4 c5
            exact OpSim.value (hrun _ _ q1) q2 q3 q4
          · cases h1
        · cases h1
      · cases h1
    · cases h
  · rename_i hc
    simp only at hc
    subst hc
    split at h
    · rename_i t u s x ht ha
      simp only at ht ha
      obtain ⟨p, h1, h2⟩ := bind_some h
      refine ⟨p.1, p.2, h2, ?_⟩
      have e1 : ctypes = #[t, u] := by apply Array.ext'; simpa using ht
      have e2 : cargs = #[s, x] := by apply Array.ext'; simpa using ha
      subst e1 e2
      obtain ⟨v', w', q1, q2, q3, q4⟩ := cpy_sound R0 (u := u) (ty := ty) (opv_rel hT s) (opv_rel hT x) h1
      exact OpSim.value (by simp [execOp, resolve, invoke, builtin, q1]) q2 q3 q4
    · cases h
  · rename_i hc
    simp only at hc
    subst hc
    split at h
    · rename_i t x ht ha
      simp only at ht ha
      have e1 : ctypes = #[t] := by apply Array.ext'; simpa using ht
      have e2 : cargs = #[x] := by apply Array.ext'; simpa using ha
      subst e1 e2
      cases hmt : isMapT P t with
      | true =>
        rw [hmt] at h
        obtain ⟨v, h1, h2⟩ := bind_some h
        refine ⟨v, H, h2, ?_⟩
        obtain ⟨q1, q2⟩ := lenM_sound (P := P) (ty := ty) R0 (opv_rel hT x) h1
        exact OpSim.still R0 (by simp [execOp, resolve, invoke, builtin, q1]) (.flat _ q2)
      | false =>
        rw [hmt] at h
        obtain ⟨v, h1, h2⟩ := bind_some h
        refine ⟨v, H, h2, ?_⟩
        obtain ⟨q1, q2⟩ := lenV_sound (P := P) (u := 0) (ty := ty) (w := w) (opv_rel hT x) h1
        exact OpSim.still R0 (by simp [execOp, resolve, invoke, builtin, q1]) (.flat _ q2)
    · cases h
  · rename_i hc
    simp only at hc
    subst hc
    split at h
    · rename_i t x ht ha
      simp only at ht ha
      obtain ⟨v, h1, h2⟩ := bind_some h
      refine ⟨v, H, h2, ?_⟩
      have e1 : ctypes = #[t] := by apply Array.ext'; simpa using ht
      have e2 : cargs = #[x] := by apply Array.ext'; simpa using ha
      subst e1 e2
      obtain ⟨q1, q2⟩ := capV_sound (P := P) (u := 0) (ty := ty) (w := w) (opv_rel hT x) h1
      exact OpSim.still R0 (by simp [execOp, resolve, invoke, builtin, q1]) (.flat _ q2)
    · cases h
  · rename_i hc
    simp only at hc
    subst hc
    obtain ⟨v, h1, h2⟩ := bind_some h
    refine ⟨v, H, h2, ?_⟩
    obtain ⟨v', q1, q2⟩ := min_sound (P := P) (w := w) (ts := ctypes) (ty := ty) (args_rel hT cargs.toList) h1
    have e1 : (cargs.toList.map a.eval).toArray = cargs.map a.eval := by apply Array.ext'; simp
    rw [e1] at q1
    exact OpSim.still R0 (by simp [execOp, resolve, invoke, builtin, q1]) q2
  · rename_i hc
    simp only at hc
    subst hc
    obtain ⟨v, h1, h2⟩ := bind_some h
    refine ⟨v, H, h2, ?_⟩
    obtain ⟨v', q1, q2⟩ := max_sound (P := P) (w := w) (ts := ctypes) (ty := ty) (args_rel hT cargs.toList) h1
    have e1 : (cargs.toList.map a.eval).toArray = cargs.map a.eval := by apply Array.ext'; simp
    rw [e1] at q1
    exact OpSim.still R0 (by simp [execOp, resolve, invoke, builtin, q1]) q2
  · rename_i hc
    simp only at hc
    subst hc
    split at h
    · rename_i x ha
      simp only at ha
      obtain ⟨v, h1, h2⟩ := bind_some h
      refine ⟨v, H, h2, ?_⟩
      have e2 : cargs = #[x] := by apply Array.ext'; simpa using ha
      subst e2
      obtain ⟨v', q1, q2⟩ := sdV_sound (P := P) (w := w) (ts := ctypes) (ty := ty) (opv_rel hT x) h1
      exact OpSim.still R0 (by simp [execOp, resolve, invoke, builtin, q1]) q2
    · cases h
  · rename_i hc
    simp only at hc
    subst hc
    split at h
    · rename_i pt it p n ht ha
      simp only at ht ha
      obtain ⟨q, h1, h2⟩ := bind_some h
      refine ⟨q.1, q.2, h2, ?_⟩
      have e1 : ctypes = #[pt, it] := by apply Array.ext'; simpa using ht
      have e2 : cargs = #[p, n] := by apply Array.ext'; simpa using ha
      subst e1 e2
      obtain ⟨v', w', q1, q2, q3, q4⟩ := usV_sound R0 (it := it) (ty := ty) (opv_rel hT p) (opv_rel hT n) h1
      exact OpSim.value (by simp [execOp, resolve, invoke, builtin, q1]) q2 q3 q4
    · cases h
  · cases h
end
end Go.AM
namespace Go.AM
open Go.RowKit

section
variable {P : Program} {B0 : Nat} {w0 : World} {m : Mp} {H : AH} {w : World} {call : CallF} {R : Type}
theorem aIf_inv {v : Value} {x y : Option R} {r : R} (h : aIf v x y = some r) : ∃ b, v = .bool b ∧ (if b then x else y) = some r := by
  unfold aIf at h
  split at h
  · exact ⟨true, rfl, h⟩
  · exact ⟨false, rfl, h⟩
  · cases h
theorem LRel.arr {xs : Array Operand} {T : List Value} {a : Act} (hT : LRel m T a.tmps.toList) : (xs.toList.map (opv T)).toArray.size = (xs.map a.eval).size ∧ ∀ (i : Nat) (x y : Value), (xs.toList.map (opv T)).toArray[i]? = some x → (xs.map a.eval)[i]? = some y → VRel m x y := by
  refine ⟨by simp, fun i x y hx hy => ?_⟩
  rw [Array.getElem?_map] at hy
  have hx : (xs[i]?).map (opv T) = some x := by simpa using hx
  cases hi : xs[i]? with
  | none => rw [hi] at hx; cases hx
  | some o => rw [hi] at hx hy; cases hx; cases hy; exact opv_rel hT o
theorem op_sound (hcall : CallOK P call) (R0 : Rel P B0 w0 m H w) {T : List Value} {a : Act} (hT : LRel m T a.tmps.toList) {o : Oper} {K : Value → AH → Option R} {r : R} (h : aOp P call (opv T) o.op H K = some r) :
    ∃ v H', K v H' = some r ∧ OpSim P B0 w0 o a m H w v H' := by
  obtain ⟨dst, op, ty, ps, af, g⟩ := o
  cases op
  case move x => exact ⟨_, H, h, OpSim.still R0 (by simp [execOp]) (opv_rel hT x)⟩
  case assign x => exact ⟨_, H, h, OpSim.still R0 (by simp [execOp]) (opv_rel hT x)⟩
  case pick c x y =>
    obtain ⟨v, h1, h2⟩ := bind_some h
    have hc := opv_rel hT c
    unfold pickV at h1
    split at h1
    · rename_i hb; cases h1; rw [hb] at hc; exact ⟨_, H, h2, OpSim.still R0 (by simp [execOp, hc.bool_inv, asBool]) (opv_rel hT x)⟩
    · rename_i hb; cases h1; rw [hb] at hc; exact ⟨_, H, h2, OpSim.still R0 (by simp [execOp, hc.bool_inv, asBool]) (opv_rel hT y)⟩
    · cases h1
  case alloc t =>
    obtain ⟨p, h1, h2⟩ := bind_some h
    obtain ⟨u', m', w', q1, q2, q3, q4⟩ := newV_sound R0 (t := t) (u := p.1) (H' := p.2) h1 (.tuple #[])
    exact ⟨_, _, h2, OpSim.value (by simp [execOp, q1]) q2 q3 q4⟩
  case box t x =>
    obtain ⟨p, h1, h2⟩ := bind_some h
    obtain ⟨u', m', w', q1, q2, q3, q4⟩ := box_sound (P := P) R0 (t := t) (u := p.1) (H' := p.2) (opv_rel hT x) h1
    exact ⟨_, _, h2, OpSim.value (by simp [execOp, q1]) q2 q3 q4⟩
  case build t parts =>
    obtain ⟨v, h1, h2⟩ := bind_some h
    obtain ⟨v', q1, q2⟩ := build_sound (w := w) (parts_rel hT parts.toList) h1
    have e1 : (parts.toList.map fun p => (p.1, a.eval p.2)).toArray = parts.map fun p => (p.1, a.eval p.2) := by apply Array.ext'; simp
    rw [e1] at q1
    exact ⟨_, H, h2, OpSim.still R0 (by simp [execOp, q1]) q2⟩
  case buildSlice t n parts =>
    obtain ⟨p, h1, h2⟩ := bind_some h
    obtain ⟨u', m', w', q1, q2, q3, q4⟩ := buildS_sound R0 (parts_rel hT parts.toList) (u := p.1) (H' := p.2) h1
    have e1 : (parts.toList.map fun p => (p.1, a.eval p.2)).toArray = parts.map fun p => (p.1, a.eval p.2) := by apply Array.ext'; simp
    rw [e1] at q1
    exact ⟨_, _, h2, OpSim.value (by simp [execOp, q1]) q2 q3 q4⟩
  case load t x =>
    obtain ⟨v, h1, h2⟩ := bind_some h
    obtain ⟨v', q1, q2⟩ := ld_sound R0 (opv_rel hT x) h1
    exact ⟨_, H, h2, OpSim.still R0 (by simp [execOp, q1]) q2⟩
  case store t x y =>
    obtain ⟨H', h1, h2⟩ := bind_some h
    obtain ⟨w', q1, q2, q3⟩ := st_sound R0 (opv_rel hT x) (opv_rel hT y) h1
    exact ⟨_, H', h2, OpSim.skip (by simp [execOp, q1]) q2 q3⟩
  case nilCheck x =>
    obtain ⟨v, h1, h2⟩ := bind_some h
    obtain ⟨v', q1, q2⟩ := nilChk_sound (P := P) (w := w) (dst := dst) (ty := ty) (ps := ps) (af := af) (g := g) hT h1
    exact ⟨_, H, h2, OpSim.still R0 q1 q2⟩
  case binOp op t x y yt =>
    obtain ⟨v, h1, h2⟩ := bind_some h
    obtain ⟨v', q1, q2⟩ := bin_sound (w := w) (ρ := a.eval) (x := x) (y := y) (opv_rel hT x) (opv_rel hT y) h1
    exact ⟨_, H, h2, OpSim.still R0 (by simp only [execOp, Sem.run_bind, q1, Result.andThen_ok, Sem.run_pure]) q2⟩
  case unOp op t x =>
    obtain ⟨v, h1, h2⟩ := bind_some h
    obtain ⟨v', q1, q2⟩ := un_sound (w := w) (opv_rel hT x) h1
    exact ⟨_, H, h2, OpSim.still R0 (by simp [execOp, q1]) q2⟩
  case convert s d x =>
    simp only [aOp] at h
    cases hb : isBytesToString P s d with
    | true =>
      rw [hb] at h
      obtain ⟨v, h1, h2⟩ := bind_some h
      obtain ⟨v', q1, q2⟩ := cvS_sound R0 (opv_rel hT x) h1
      exact ⟨_, H, h2, OpSim.still R0 (by simp [execOp, q1]) q2⟩
    | false =>
      rw [hb] at h
      obtain ⟨v, h1, h2⟩ := bind_some h
      obtain ⟨v', q1, q2⟩ := cv_sound (w := w) (opv_rel hT x) h1
      exact ⟨_, H, h2, OpSim.still R0 (by simp [execOp, q1]) q2⟩
  case makeFunc fn first captured =>
    cases fn <;> first
      | cases h; done
      | (refine ⟨_, H, h, OpSim.still R0 (by simp [execOp, Instr.makeFunc]; rfl) ?_⟩
         exact .func _ _ _ _ _ (LRel.arr hT).1 (LRel.arr hT).2 (LRel.arr hT).1 (LRel.arr hT).2)
  case makeSlice t l c =>
    obtain ⟨p, h1, h2⟩ := bind_some h
    obtain ⟨u', m', w', q1, q2, q3, q4⟩ := mkS_sound R0 (opv_rel hT l) (opv_rel hT c) (u := p.1) (H' := p.2) h1
    exact ⟨_, _, h2, OpSim.value (by simp [execOp, q1]) q2 q3 q4⟩
  case slice t x lo hi mx =>
    cases mx with
    | some mx =>
      obtain ⟨v, h1, h2⟩ := bind_some h
      obtain ⟨v', q1, q2⟩ := slc3_sound R0 (opv_rel hT x) (opt_rel hT lo) (opt_rel hT hi) (opv_rel hT mx) h1
      exact ⟨_, H, h2, OpSim.still R0 (by simp [execOp, q1]) q2⟩
    | none =>
      obtain ⟨v, h1, h2⟩ := bind_some h
      obtain ⟨v', q1, q2⟩ := slc_sound (w := w) (opv_rel hT x) (opt_rel hT lo) (opt_rel hT hi) h1
      exact ⟨_, H, h2, OpSim.still R0 (by simp [execOp, q1]) q2⟩
  case fieldAddr s x i =>
    obtain ⟨v, h1, h2⟩ := bind_some h
    obtain ⟨v', q1, q2⟩ := fldA_sound R0 (opv_rel hT x) h1
    exact ⟨_, H, h2, OpSim.still R0 (by simp [execOp, q1]) q2⟩
  case field s x i =>
    obtain ⟨v, h1, h2⟩ := bind_some h
    obtain ⟨v', q1, q2⟩ := fld_sound (w := w) (opv_rel hT x) h1
    exact ⟨_, H, h2, OpSim.still R0 (by simp [execOp, q1]) q2⟩
  case indexAddr t x i =>
    obtain ⟨v, h1, h2⟩ := bind_some h
    obtain ⟨v', q1, q2⟩ := ixA_sound (w := w) (opv_rel hT x) (opv_rel hT i) h1
    exact ⟨_, H, h2, OpSim.still R0 (by simp [execOp, q1]) q2⟩
  case index t x i =>
    obtain ⟨v, h1, h2⟩ := bind_some h
    obtain ⟨v', q1, q2⟩ := ix_sound (w := w) (opv_rel hT x) (opv_rel hT i) h1
    exact ⟨_, H, h2, OpSim.still R0 (by simp [execOp, q1]) q2⟩
  case extract t i =>
    obtain ⟨v, h1, h2⟩ := bind_some h
    obtain ⟨v', q1, q2⟩ := ext_sound (P := P) (w := w) (opv_rel hT t) h1
    exact ⟨_, H, h2, OpSim.still R0 (by simp [execOp, q1]) q2⟩
  case makeMap t r =>
    cases r with
    | some r => cases h
    | none =>
      have h' : (mkM t H).bind (fun p => K p.1 p.2) = some r := h
      obtain ⟨p, h1, h2⟩ := bind_some h'
      obtain ⟨u', m', w', q1, q2, q3, q4⟩ := mkM_sound (P := P) R0 (u := p.1) (H' := p.2) h1
      exact ⟨_, _, h2, OpSim.value (by simp [execOp, q1]) q2 q3 q4⟩
  case mapUpdate t mm k x =>
    obtain ⟨H', h1, h2⟩ := bind_some h
    obtain ⟨w', q1, q2, q3⟩ := mpU_sound R0 (opv_rel hT mm) (opv_rel hT k) (opv_rel hT x) h1
    exact ⟨_, H', h2, OpSim.skip (by simp [execOp, q1]) q2 q3⟩
  case insert t mm k x =>
    obtain ⟨H', h1, h2⟩ := bind_some h
    obtain ⟨w', q1, q2, q3⟩ := mpU_sound R0 (opv_rel hT mm) (opv_rel hT k) (opv_rel hT x) h1
    exact ⟨_, H', h2, OpSim.skip (by simp [execOp, q1]) q2 q3⟩
  case lookup t mm k two =>
    obtain ⟨v, h1, h2⟩ := bind_some h
    obtain ⟨v', q1, q2⟩ := lkU_sound R0 (opv_rel hT mm) (opv_rel hT k) h1
    exact ⟨_, H, h2, OpSim.still R0 (by simp [execOp, q1]) q2⟩
  case call c => exact call_sound hcall R0 hT h
  all_goals cases h
end
end Go.AM
namespace Go.AM
open Go.RowKit

def FW (r : Option Nat) : Fence := { Fence.wide with round := r }
section
variable {P : Program} {r : Option Nat} {n : Nat}
theorem fw_calls {f : FuncId} {args : Array Value} {w : World} {R : Ending → World → Prop} (h : Calls P f args w R) : CallsIn (FW r) n P f args w R := (callsIn_wide (n := n)).2 h
theorem fw_steps {m m' : Machine} (h : Steps P m m') : StepsIn (Machine.fenced P (FW r)) P m m' := stepsIn_wide.2 h
theorem oper_in {o : Oper} {a : Act} {w : World} {next : Act → World → Prop} {Q : Exit → Act → World → Prop} (hd : ∀ c, o.op ≠ .defer c) (h : o.wp P a w next Q) : o.wpIn (FW r) n P a w next Q := by
  refine ⟨fun _ _ => trivial, ?_⟩
  unfold Oper.wp at h
  rw [Oper.semAt_eq _ _ _ hd]
  generalize (execOp a.eval o).run P w = res at h
  have h0 : (FW r).depth.isSome = true → 1 ≤ n := fun hx => by simp [FW, Fence.wide] at hx
  cases res with
  | ok x w' =>
    cases x <;> simp only [Oper.upon, Oper.uponIn] at h ⊢ <;> first
      | exact h
      | exact ⟨h0, fw_calls h⟩
      | exact ⟨h0, fun c cs _ => let ⟨v, w'', q, s⟩ := h c cs; ⟨v, w'', q, fw_steps s⟩⟩
  | halt x w' => cases x <;> simp only [Oper.upon, Oper.uponIn] at h ⊢ <;> exact h
theorem isDefer_no {o : Op} (h : isDef o = false) : ∀ c, o ≠ .defer c := by rintro c rfl; cases h
theorem any_in {ops : Array Oper} {Q : Exit → Act → World → Prop} (hnd : ∀ (i : Nat) (o : Oper), ops[i]? = some o → isDef o.op = false) (hl : ¬ LetsOut Q) : ∀ (fuel : Nat) (listed : Array Bool) (a : Act) (w : World),
    wpAny P .any ops Q fuel listed a w → wpAnyIn (FW r) n P .any ops Q fuel listed a w
  | 0, listed, a, w, h => h
  | fuel + 1, listed, a, w, h => by
    refine ⟨h.1, fun i hi => ?_⟩
    have h1 := h.2 i hi
    unfold wpOp at h1
    unfold wpOpIn
    cases ho : ops[i]? with
    | none =>
      simp only [ho] at h1 ⊢
      exact any_in hnd hl fuel _ _ _ h1
    | some o =>
      simp only [ho] at h1 ⊢
      split
      · rename_i hw
        rw [if_pos hw] at h1
        rcases h1 with h1 | h1
        · exact Oper.wpIn_mono (fun a w hh => any_in hnd hl fuel _ a w hh) (oper_in (isDefer_no (hnd i o ho)) h1)
        · exact (hl h1.2).elim
      · rename_i hw
        rw [if_neg hw] at h1
        exact ⟨fun _ _ => trivial, any_in hnd hl fuel _ _ _ h1⟩
theorem operIn_monoQ {F : Fence} {o : Oper} {a : Act} {w : World} {K K' : Act → World → Prop} {Q Q' : Exit → Act → World → Prop} (hk : ∀ a w, K a w → K' a w) (hq : ∀ e a w, Q e a w → Q' e a w) (h : o.wpIn F n P a w K Q) : o.wpIn F n P a w K' Q' := by
  refine ⟨h.1, ?_⟩
  have hh := h.2
  have hl : LetsOut Q → LetsOut Q' := fun ⟨a, w, hx⟩ => ⟨a, w, hq _ _ _ hx⟩
  generalize (o.semAt F.round a.eval).run P w = res at hh
  cases res with
  | ok x w' =>
    cases x <;> simp only [Oper.uponIn] at hh ⊢ <;>
      first
        | exact hk _ _ hh
        | exact ⟨hh.1, CallsIn.mono hh.2 (fun e w'' he => by cases e <;> first | exact hk _ _ he | exact hq _ _ _ he | exact hl he)⟩
        | exact ⟨hh.1, RowsIn.mono hh.2 (fun _ _ he => hk _ _ he)⟩
        | exact ⟨hh.1, RoundIn.mono hh.2 (fun e w'' he => by cases e <;> first | exact hk _ _ he | exact hq _ _ _ he | exact hl he)⟩
  | halt x w' => cases x <;> simp only [Oper.uponIn] at hh ⊢ <;> exact hq _ _ _ hh
theorem wpAnyIn_monoQ {F : Fence} {ops : Array Oper} {Q Q' : Exit → Act → World → Prop} (hq : ∀ e a w, Q e a w → Q' e a w) : ∀ (fuel : Nat) (listed : Array Bool) (a : Act) (w : World),
    wpAnyIn F n P .any ops Q fuel listed a w → wpAnyIn F n P .any ops Q' fuel listed a w
  | 0, listed, a, w, h => ⟨h.1, hq _ _ _ h.2⟩
  | fuel + 1, listed, a, w, h => by
    refine ⟨fun hx => hq _ _ _ (h.1 hx), fun i hi => ?_⟩
    have h1 := h.2 i hi
    unfold wpOpIn at h1 ⊢
    cases ho : ops[i]? with
    | none =>
      simp only [ho] at h1 ⊢
      exact wpAnyIn_monoQ hq fuel _ _ _ h1
    | some o =>
      simp only [ho] at h1 ⊢
      split
      · rename_i hw
        rw [if_pos hw] at h1
        exact operIn_monoQ (fun a w hh => wpAnyIn_monoQ hq fuel _ a w hh) hq h1
      · rename_i hw
        rw [if_neg hw] at h1
        exact ⟨h1.1, wpAnyIn_monoQ hq fuel _ _ _ h1.2⟩
section
variable {b : Frame} {a : Act} {k : List Item} {cs : List Frame} {w : World} {Q : Exit → Act → World → Prop}
theorem stepR_scope {c : Code} : step P (lone (b.atR a (.code (.scope c) :: k)) cs w) = .next (lone (b.atR a (.code c :: .inScope c :: k)) cs w) :=
  step_lone_go (by simp [stepG, stepG.exec, Frame.atR])
theorem stepR_inScope {c : Code} : step P (lone (b.atR a (.inScope c :: k)) cs w) = .next (lone (b.atR a k) cs w) :=
  step_lone_go (by simp [stepG, stepG.exec, Frame.atR])
theorem wpIn_scope_straight {F : Fence} {c : Code} (h : c.wpIn F n P (Exit.noGoto Q) a w) : (Code.scope c).wpIn F n P Q a w := by
  intro b k cs hro hb hr
  have h0 : (lone (b.atR a (.code (.scope c) :: k)) cs w).fenced P F := fenced_calm hb hr rfl
  obtain ⟨e, a₁, w₁, hq, harr⟩ := h b (.inScope c :: k) cs hro hb hr
  cases e with
  | normal => exact ⟨.normal, a₁, w₁, hq, .head h0 stepR_scope (StepsIn.trans harr (.one (fenced_calm hb hr rfl) stepR_inScope))⟩
  | exit id =>
    have e1 : ∀ q : List Item, exitTo id (.inScope c :: q) = exitTo id q := fun q => by simp [exitTo]
    refine ⟨.exit id, a₁, w₁, hq, fun k' hk => .head h0 stepR_scope (harr.1 k' (by rw [e1]; exact hk)), fun h1 h2 => ?_⟩
    obtain ⟨k₁, h3, h4⟩ := harr.2 h1 (by rw [e1]; exact h2)
    exact ⟨k₁, h3, .head h0 stepR_scope h4⟩
  | goto l => exact hq.elim
  | ret => exact ⟨_, a₁, w₁, hq, fun h1 => let ⟨t, s⟩ := harr.1 h1; ⟨t, .head h0 stepR_scope s⟩, fun h1 => let ⟨t, s⟩ := harr.2 h1; ⟨t, .head h0 stepR_scope s⟩⟩
  | panic ch => exact ⟨_, a₁, w₁, hq, let ⟨t, s⟩ := harr; ⟨t, .head h0 stepR_scope s⟩⟩
  | outgrown => exact ⟨_, a₁, w₁, hq, harr.imp id (Outgrown.of_steps (.one stepR_scope))⟩
end
end

section
variable {P : Program} {B0 : Nat} {w0 : World} {m : Mp} {H : AH} {w : World}
theorem Rel.allocSkip (h : Rel P B0 w0 m H w) (o : Obj) : Rel P B0 w0 m H (w.alloc o) ∧ Ext m H w m H (w.alloc o) := by
  refine ⟨⟨h.below.alloc h.hB _, by simp; exact Nat.le_succ_of_le h.hB, fun b L hb => ?_, fun b L k h1 h2 => (h.blks b L k h1 h2).at (fun _ _ h => h) (Below.heap_alloc w _ _ (h.dom b L h1).2), h.inj⟩,
    ⟨fun _ _ h => h, Nat.le_refl _, by simp, fun b k' _ hk => ⟨k', hk, rfl⟩, fun _ _ h => .inl h, fun B hB _ => Below.heap_alloc w _ _ hB⟩⟩
  have := h.dom b L hb
  simp only [World.size_alloc]
  omega
theorem Rel.putFree (h : Rel P B0 w0 m H w) {D : Nat} (o : Obj) (hB : B0 ≤ D) (hf : ∀ b L k, m b = some L → blk H b = some k → L.blk ≠ D) : Rel P B0 w0 m H (w.putObj D o) := by
  refine ⟨h.below.trans ⟨rfl, rfl, rfl, by simp, fun j hj => World.putObj_heap_other (by omega)⟩, by simp; exact h.hB, fun b L hb => ?_, fun b L k h1 h2 => (h.blks b L k h1 h2).at (fun _ _ h => h) (World.putObj_heap_other (hf b L k h1 h2)), h.inj⟩
  simp only [World.putObj_size]
  exact h.dom b L hb
theorem Rel.killObj (h : Rel P B0 w0 m H w) {b : Nat} {L : Loc} {k : Blk} (hm : m b = some L) (hb : blk H b = some k) (hk : k.kind ≠ .ro) (o : Obj) :
    Rel P B0 w0 m (kill H b) (w.putObj L.blk o) ∧ Ext m H w m (kill H b) (w.putObj L.blk o) := by
  have up : ∀ b3 k3, blk (kill H b) b3 = some k3 → b ≠ b3 ∧ blk H b3 = some k3 := by
    intro b3 k3 h3
    by_cases hbb : b = b3
    · subst hbb; rw [blk_kill_same] at h3; cases h3
    · exact ⟨hbb, by rwa [blk_kill_ne hbb] at h3⟩
  have hown := (h.blks b L k hm hb).own hk
  refine ⟨⟨h.below.trans ⟨rfl, rfl, rfl, by simp, fun j hj => World.putObj_heap_other (by omega)⟩, by simp; exact h.hB, fun b2 L2 h2 => by rw [length_kill', World.putObj_size]; exact h.dom b2 L2 h2, fun b2 L2 k2 h2 hk2 => ?_, fun b1 b2 L1 L2 k1 k2 hm1 hm2 hk1 hk2 => h.inj b1 b2 L1 L2 k1 k2 hm1 hm2 (up _ _ hk1).2 (up _ _ hk2).2⟩,
    ⟨fun _ _ h => h, Nat.le_of_eq (length_kill' ..).symm, by simp, fun b2 k2 _ hk2 => ⟨k2, (up _ _ hk2).2, rfl⟩, fun _ _ h => .inl h, fun B _ hr => World.putObj_heap_other (Ne.symm (hr b L k hm hb hk))⟩⟩
  obtain ⟨hne, hk2'⟩ := up _ _ hk2
  have hd : L.blk ≠ L2.blk := h.inj b b2 L L2 k k2 hm h2 hb hk2' hk hne
  exact (h.blks b2 L2 k2 h2 hk2').at (fun _ _ h => h) (World.putObj_heap_other (Ne.symm hd))

abbrev mark (D : Nat) : Deferred := { target := .collected D, args := #[] }
def Marks (B : Nat) (ds : List Deferred) (m : Mp) (H : AH) (w : World) : Prop :=
  ∃ Ds : List Nat, ds = Ds.map mark ∧ Ds.Nodup ∧ ∀ D ∈ Ds, B ≤ D ∧ w.heap[D]? = some (.deferred (some [])) ∧ ∀ b L k, m b = some L → blk H b = some k → k.kind ≠ .ro → L.blk ≠ D
theorem Marks.nil (B : Nat) (m : Mp) (H : AH) (w : World) : Marks B [] m H w := ⟨[], rfl, List.nodup_nil, fun D h => absurd h List.not_mem_nil⟩
theorem Marks.ext {B : Nat} {ds : List Deferred} {m' : Mp} {H' : AH} {w' : World} (h : Marks B ds m H w) (R : Rel P B0 w0 m H w) (E : Ext m H w m' H' w') : Marks B ds m' H' w' := by
  obtain ⟨Ds, h1, h2, h3⟩ := h
  refine ⟨Ds, h1, h2, fun D hD => ?_⟩
  obtain ⟨h4, h5, h6⟩ := h3 D hD
  have hlt : D < w.heap.size := (Array.getElem?_eq_some_iff.1 h5).1
  refine ⟨h4, (E.frame D hlt h6).trans h5, fun b L k' hb hk hne => ?_⟩
  rcases E.new b L hb with h7 | ⟨h7, h8 | ⟨b0, L0, k0, h9, h10, h11, h12⟩⟩
  · obtain ⟨k0, h8, h9⟩ := E.alive b k' (R.dom b L h7).1 hk
    exact h6 b L k0 h7 h8 (by rw [h9]; exact hne)
  · omega
  · rw [← h12]; exact h6 b0 L0 k0 h9 h10 h11
end
end Go.AM
namespace Go.AM
open Go.RowKit

def exOf : EX → Exit
  | .normal => .normal
  | .exit id => .exit id
  | .ret => .ret
structure After (P : Program) (B0 : Nat) (w0 : World) (m : Mp) (H : AH) (w : World) (ds : List Deferred) (T' : List Value) (H' : AH) (m' : Mp) (a' : Act) (w' : World) : Prop where
  ext : Ext m H w m' H' w'
  rel : Rel P B0 w0 m' H' w'
  tmps : LRel m' T' a'.tmps.toList
  defers : a'.defers = ds
structure AfterM (P : Program) (Bf B0 : Nat) (w0 : World) (m : Mp) (H : AH) (w : World) (T' : List Value) (H' : AH) (m' : Mp) (a' : Act) (w' : World) : Prop where
  ext : Ext m H w m' H' w'
  rel : Rel P B0 w0 m' H' w'
  tmps : LRel m' T' a'.tmps.toList
  marks : Marks Bf a'.defers m' H' w'
def CodeSim (P : Program) (r : Option Nat) (c : Code) (T : List Value) (H : AH) (e : EX) (T' : List Value) (H' : AH) : Prop :=
  ∀ (n Bf B0 : Nat) (w0 : World) (m : Mp) (a : Act) (w : World) (Q : Exit → Act → World → Prop), Rel P B0 w0 m H w → LRel m T a.tmps.toList → Marks Bf a.defers m H w → Bf ≤ w.heap.size →
    (∀ m' a' w', AfterM P Bf B0 w0 m H w T' H' m' a' w' → Q (exOf e) a' w') → c.wpIn (FW r) n P Q a w

section
variable {P : Program} {call : CallF}

theorem put_rel {m : Mp} {T : List Value} {a : Act} (hT : LRel m T a.tmps.toList) (dst : Option Tmp) {v v' : Value} (hv : VRel m v v') : LRel m (putT T dst v) (a.put dst v').tmps.toList := by
  cases dst with
  | none => exact hT
  | some d =>
    simp only [putT, Act.put, Array.toList_setIfInBounds]
    exact hT.set d hv
theorem put_defers (a : Act) (dst : Option Tmp) (v : Value) : (a.put dst v).defers = a.defers := by cases dst <;> rfl
theorem aCall_res {R : Type} (ρ : Operand → Value) (c : Call) (H : AH) (K : Value → AH → Option R) : aCall P call ρ c H K = (aCall P call ρ c H fun v H' => some (v, H')).bind fun p => K p.1 p.2 := by
  unfold aCall
  split
  · simp [Option.bind_assoc]
  · split <;> simp [Option.bind_assoc]
  · split <;> simp [Option.bind_assoc]
  · split
    · rename_i t x _ _
      cases isMapT P t <;> simp [Option.bind_assoc]
    · rfl
  · split <;> simp [Option.bind_assoc]
  · simp [Option.bind_assoc]
  · simp [Option.bind_assoc]
  · split <;> simp [Option.bind_assoc]
  · split <;> simp [Option.bind_assoc]
  · rfl
theorem aOp_res {R : Type} (ρ : Operand → Value) (op : Op) (H : AH) (K : Value → AH → Option R) : aOp P call ρ op H K = (aRes P call ρ op H).bind fun p => K p.1 p.2 := by
  unfold aRes
  cases op
  case call c => simp only [aOp]; exact aCall_res ρ c H K
  case convert s d x =>
    simp only [aOp]
    cases isBytesToString P s d <;> simp [Option.bind_assoc]
  case makeFunc fn first captured => cases fn <;> simp [aOp]
  case slice t x lo hi mx => cases mx <;> simp [aOp, Option.bind_assoc]
  case makeMap t r => cases r <;> simp [aOp, Option.bind_assoc]
  all_goals simp [aOp, Option.bind_assoc]
theorem res_sound (hcall : CallOK P call) {T : List Value} {H : AH} {o : Oper} {v : Value} {H' : AH} (h : aRes P call (opv T) o.op H = some (v, H')) {B0 : Nat} {w0 : World} {m : Mp} {a : Act} {w : World} (R0 : Rel P B0 w0 m H w) (hT : LRel m T a.tmps.toList) :
    OpSim P B0 w0 o a m H w v H' := by
  obtain ⟨v1, H1, h1, h2⟩ := op_sound hcall R0 hT (K := fun v H' => some (v, H')) h
  cases h1
  exact h2
def Off (u : Value) (want : Bool) : Prop := (∃ b, u = .bool b ∧ b ≠ want) ∨ ∃ vs : Array Value, u = .tuple vs ∧ vs.size = 0
theorem gOp_inv {u : Value} {want : Bool} {x : Option (Value × AH)} {H : AH} {p : Value × AH} (h : gOp u want x H = some p) : (u = .bool want ∧ x = some p) ∨ (Off u want ∧ p = (undef, H)) := by
  unfold gOp at h
  split at h
  · rename_i b
    split at h
    · rename_i hb; subst hb; exact .inl ⟨rfl, h⟩
    · rename_i hb; cases h; exact .inr ⟨.inl ⟨b, rfl, hb⟩, rfl⟩
  · rename_i vs
    cases hs : vs.size == 0 with
    | true => rw [hs] at h; cases h; exact .inr ⟨.inr ⟨vs, rfl, by simpa using hs⟩, rfl⟩
    | false => rw [hs] at h; cases h
  · cases h
theorem yield_rel {ops : Array Oper} {m : Mp} {T : List Value} {a : Act} (hT : LRel m T a.tmps.toList) (j : Nat) : (∀ b, yieldV ops T j = .bool b → yielded ops a.tmps j = some b) ∧ (∀ vs : Array Value, yieldV ops T j = .tuple vs → yielded ops a.tmps j = none) := by
  have hu : VRel m (yieldV ops T j) (match (ops[j]?).bind (·.dst) with | some d => a.tmps.getD d undef | none => undef) := by
    unfold yieldV
    cases hd : (ops[j]?).bind (·.dst) with
    | none => exact VRel.undef _
    | some d => exact opv_rel hT (.tmp d)
  have hy : ∀ u, (match (ops[j]?).bind (·.dst) with | some d => a.tmps.getD d undef | none => undef) = u → yielded ops a.tmps j = match u with | .bool b => some b | _ => none := by
    intro u hu2
    subst hu2
    unfold yielded
    cases hd : (ops[j]?).bind (·.dst) with
    | none => simp [undef]
    | some d =>
      simp only [Option.bind_some]
      by_cases hlt : d < a.tmps.size
      · have e1 : a.tmps[d]? = some (a.tmps.getD d undef) := by simp [Array.getD, hlt]
        rw [e1]
        cases a.tmps.getD d undef <;> rfl
      · simp [Array.getD, hlt, undef]
  refine ⟨fun b hb => ?_, fun vs hv => ?_⟩
  · rw [hb] at hu
    rw [hy _ hu.bool_inv]
  · rw [hv] at hu
    obtain ⟨ys, he, _⟩ := hu.tuple_inv
    rw [hy _ he]
theorem wanted_of {ops : Array Oper} {tmps : Array Value} {o : Oper} {j : Nat} {want : Bool} (hg : o.guard = some (j, want)) {q : Option Bool} (hy : yielded ops tmps j = q) : Region.wanted o (yielded ops tmps) = (q == some want) := by
  unfold Region.wanted
  rw [hg]
  simp only [hy]
theorem After.start {P : Program} {B0 : Nat} {w0 : World} {m : Mp} {H : AH} {w : World} {T : List Value} {a : Act} {ds : List Deferred} (R0 : Rel P B0 w0 m H w) (hT : LRel m T a.tmps.toList) (hd : a.defers = ds) : After P B0 w0 m H w ds T H m a w := ⟨Ext.refl _ _ _, R0, hT, hd⟩
theorem After.trans {P : Program} {B0 : Nat} {w0 : World} {m m1 m2 : Mp} {H H1 H2 : AH} {w w1 w2 : World} {T2 : List Value} {a2 : Act} {ds : List Deferred} (R0 : Rel P B0 w0 m H w) (h : Ext m H w m1 H1 w1) (k : After P B0 w0 m1 H1 w1 ds T2 H2 m2 a2 w2) : After P B0 w0 m H w ds T2 H2 m2 a2 w2 :=
  ⟨Ext.trans (fun b L hb => (R0.dom b L hb).1) h k.ext, k.rel, k.tmps, k.defers⟩
theorem AfterM.start {P : Program} {Bf B0 : Nat} {w0 : World} {m : Mp} {H : AH} {w : World} {T : List Value} {a : Act} (R0 : Rel P B0 w0 m H w) (hT : LRel m T a.tmps.toList) (hd : Marks Bf a.defers m H w) : AfterM P Bf B0 w0 m H w T H m a w := ⟨Ext.refl _ _ _, R0, hT, hd⟩
theorem AfterM.trans {P : Program} {Bf B0 : Nat} {w0 : World} {m m1 m2 : Mp} {H H1 H2 : AH} {w w1 w2 : World} {T2 : List Value} {a2 : Act} (R0 : Rel P B0 w0 m H w) (h : Ext m H w m1 H1 w1) (k : AfterM P Bf B0 w0 m1 H1 w1 T2 H2 m2 a2 w2) : AfterM P Bf B0 w0 m H w T2 H2 m2 a2 w2 :=
  ⟨Ext.trans (fun b L hb => (R0.dom b L hb).1) h k.ext, k.rel, k.tmps, k.marks⟩
theorem After.m {P : Program} {Bf B0 : Nat} {w0 : World} {m m' : Mp} {H H' : AH} {w w' : World} {T' : List Value} {a' : Act} {ds : List Deferred} (R0 : Rel P B0 w0 m H w) (hd : Marks Bf ds m H w) (A : After P B0 w0 m H w ds T' H' m' a' w') : AfterM P Bf B0 w0 m H w T' H' m' a' w' :=
  ⟨A.ext, A.rel, A.tmps, by rw [A.defers]; exact hd.ext R0 A.ext⟩
def OpSimF (P : Program) (r : Option Nat) (n B0 : Nat) (w0 : World) (o : Oper) (a : Act) (m : Mp) (H : AH) (w : World) (v : Value) (H' : AH) : Prop :=
  ∀ (next : Act → World → Prop) (Q : Exit → Act → World → Prop), (∀ m' v' w', Ext m H w m' H' w' → Rel P B0 w0 m' H' w' → VRel m' v v' → next (a.put o.dst v') w') → o.wpIn (FW r) n P a w next Q
theorem opY_res {R : Type} (ρ : Operand → Value) (op : Op) (H : AH) (K : Value → AH → Option R) : opY P call ρ op H K = (opY P call ρ op H fun v H' => some (v, H')).bind fun p => K p.1 p.2 := by
  have e1 : ∀ {α : Type} (x : Option (Value × AH)) (K : Value → AH → Option α), (x.bind fun p => K p.1 p.2) = (x.bind fun p => some (p.1, p.2)).bind fun p => K p.1 p.2 := by
    intro α x K
    cases x <;> rfl
  have g : ∀ (op : Op), (∀ {α : Type} (K : Value → AH → Option α), opY P call ρ op H K = aOp P call ρ op H K) → opY P call ρ op H K = (opY P call ρ op H fun v H' => some (v, H')).bind fun p => K p.1 p.2 := by
    intro op h
    rw [h, h]
    exact aOp_res ρ op H K
  cases op
  case call c =>
    obtain ⟨callee, args, ts⟩ := c
    cases callee
    case value f => exact e1 (callY call (ρ f) (args.toList.map ρ) H) K
    all_goals exact g _ fun K => rfl
  case convert s d x =>
    show (bif isStrToBytes P s d then _ else _) = Option.bind (bif isStrToBytes P s d then _ else _) _
    cases isStrToBytes P s d with
    | true => exact e1 (cvB P d H (ρ x)) K
    | false => exact aOp_res (P := P) (call := call) ρ (.convert s d x) H K
  all_goals exact g _ fun K => rfl
theorem aRes_noDef {ρ : Operand → Value} {op : Op} {H : AH} {p : Value × AH} (h : aRes P call ρ op H = some p) : isDef op = false := by
  cases op <;> first | rfl | (unfold aRes at h; cases h)
theorem opY_sound (hcall : CallOK P call) {T : List Value} {H : AH} {o : Oper} {v : Value} {H' : AH} (h : (opY P call (opv T) o.op H fun v H' => some (v, H')) = some (v, H')) {r : Option Nat} {n B0 : Nat} {w0 : World} {m : Mp} {a : Act} {w : World} (R0 : Rel P B0 w0 m H w) (hT : LRel m T a.tmps.toList) :
    OpSimF P r n B0 w0 o a m H w v H' := by
  have plain : aRes P call (opv T) o.op H = some (v, H') → OpSimF P r n B0 w0 o a m H w v H' := fun hh next Q hn =>
    oper_in (isDefer_no (aRes_noDef hh)) (res_sound hcall hh R0 hT next Q hn)
  unfold opY at h
  split at h
  · rename_i f args ts hop
    obtain ⟨p, h1, h2⟩ := bind_some h
    cases h2
    by_cases hy : ∃ b xs ys, opv T f = .func (.yield b) xs ys
    · obtain ⟨b, xs, ys, hf⟩ := hy
      rw [hf] at h1
      have hfr := opv_rel hT f
      rw [hf] at hfr
      obtain ⟨L, hm, he, hLk, _, _⟩ := hfr.yld_inv
      obtain ⟨fn, tmps, assign, body, hy1, hy2⟩ := hcall.2 b _ _ _ _ h1 (n - 1) B0 w0 m w _ L R0 (args_rel hT args.toList) hm hLk
      intro next Q hn
      obtain ⟨dst, op, ty, ps, af, g⟩ := o
      simp only at hop
      subst hop
      have e2 : (args.toList.map a.eval).toArray = args.map a.eval := by apply Array.ext'; simp
      rw [e2] at hy1
      refine ⟨fun _ _ => trivial, ?_⟩
      rw [Oper.semAt_eq _ _ _ (by simp)]
      have hrun : (execOp a.eval ⟨dst, .call ⟨.value f, args, ts⟩, ty, ps, af, g⟩).run P w = .ok (.round L.blk fn tmps assign body) w := by
        simp [execOp, resolve, he, Deferred.ofValue, invoke, hy1]
      rw [hrun]
      simp only [Oper.uponIn]
      refine ⟨fun hx => by simp [FW, Fence.wide] at hx, ?_⟩
      refine RoundIn.mono (F := FW r) hy2 fun e w' he => ?_
      obtain ⟨m', v', rfl, q1, q2, q3⟩ := he
      exact hn m' v' w' q3 q2 q1
    · refine plain ?_
      unfold aRes
      rw [hop]
      have e1 : callY call (opv T f) (args.toList.map (opv T)) H = callV call (opv T f) (args.toList.map (opv T)) H := by
        unfold callY
        split
        · rename_i b xs ys hf; exact (hy ⟨b, xs, ys, hf⟩).elim
        · rfl
      rw [e1] at h1
      show (callV call (opv T f) (args.toList.map (opv T)) H).bind _ = _
      rw [h1]
      rfl
  · rename_i s d x hop
    cases hb : isStrToBytes P s d with
    | true =>
      rw [hb] at h
      obtain ⟨p, h1, h2⟩ := bind_some h
      obtain ⟨pv, pH⟩ := p
      cases h2
      obtain ⟨v', m', w', q1, q2, q3, q4⟩ := cvB_sound R0 (opv_rel hT x) hb h1
      intro next Q hn
      obtain ⟨dst, op, ty, ps, af, g⟩ := o
      simp only at hop
      subst hop
      exact oper_in (isDefer_no rfl) (OpSim.value (by simp [execOp, q1]) q2 q3 q4 next Q hn)
    | false =>
      rw [hb] at h
      refine plain ?_
      unfold aRes
      rw [hop]
      exact h
  · exact plain h
def OpsSim (P : Program) (r : Option Nat) (ops : Array Oper) (idx : List Nat) (T : List Value) (H : AH) (T' : List Value) (H' : AH) : Prop :=
  ∀ (n B0 : Nat) (w0 : World) (m : Mp) (a : Act) (w : World) (ds : List Deferred) (Q : Exit → Act → World → Prop), Rel P B0 w0 m H w → LRel m T a.tmps.toList → a.defers = ds → (∀ m' a' w', After P B0 w0 m H w ds T' H' m' a' w' → Q .normal a' w') → wpOpsIn (FW r) n P ops Q idx a w
theorem evOps_sound (hcall : CallOK P call) (r0 : Option Nat) (ops : Array Oper) {R : Type} {K : List Value → AH → Option R} {r : R} : ∀ (l : List Oper) (i : Nat) (T : List Value) (H : AH), (∀ j, l[j]? = ops[i + j]?) → evOps P call ops l T H K = some r →
    ∃ T' H', K T' H' = some r ∧ OpsSim P r0 ops (List.range' i l.length) T H T' H'
  | [], i, T, H, hl, h => ⟨T, H, h, fun n B0 w0 m a w ds Q R0 hT hd hq => hq m a w (After.start R0 hT hd)⟩
  | o :: l, i, T, H, hl, h => by
    have ho : ops[i]? = some o := by have := hl 0; simpa using this.symm
    have hl' : ∀ j, l[j]? = ops[i + 1 + j]? := fun j => by have := hl (j + 1); rw [show i + 1 + j = i + (j + 1) by omega]; simpa using this
    -- done
    have done : ∀ (hh : (opY P call (opv T) o.op H fun v H' => evOps P call ops l (putT T o.dst v) H' K) = some r), ∃ T' H', K T' H' = some r ∧
        ∀ (n B0 : Nat) (w0 : World) (m : Mp) (a : Act) (w : World) (ds : List Deferred) (Q : Exit → Act → World → Prop), Region.wanted o (yielded ops a.tmps) = true → Rel P B0 w0 m H w → LRel m T a.tmps.toList → a.defers = ds → (∀ m' a' w', After P B0 w0 m H w ds T' H' m' a' w' → Q .normal a' w') → wpOpsIn (FW r0) n P ops Q (List.range' i (o :: l).length) a w := by
      intro hh
      rw [opY_res] at hh
      obtain ⟨⟨v, H1⟩, h1, h2⟩ := bind_some hh
      obtain ⟨T', H', h3, h4⟩ := evOps_sound hcall r0 ops l (i + 1) _ _ hl' h2
      refine ⟨T', H', h3, fun n B0 w0 m a w ds Q hw R0 hT hd hq => ?_⟩
      rw [List.length_cons, List.range'_succ]
      simp only [wpOpsIn, ho]
      rw [if_pos hw]
      refine opY_sound hcall h1 R0 hT _ _ fun m' v' w' E R' hv => ?_
      exact h4 n B0 w0 m' _ w' ds Q R' (put_rel (hT.mono E.mono) _ hv) (by rw [put_defers]; exact hd) fun m2 a2 w2 A => hq m2 a2 w2 (After.trans R0 E A)
    have skipped : ∀ (hh : evOps P call ops l (putT T o.dst undef) H K = some r), ∃ T' H', K T' H' = some r ∧
        ∀ (n B0 : Nat) (w0 : World) (m : Mp) (a : Act) (w : World) (ds : List Deferred) (Q : Exit → Act → World → Prop), Region.wanted o (yielded ops a.tmps) = false → Rel P B0 w0 m H w → LRel m T a.tmps.toList → a.defers = ds → (∀ m' a' w', After P B0 w0 m H w ds T' H' m' a' w' → Q .normal a' w') → wpOpsIn (FW r0) n P ops Q (List.range' i (o :: l).length) a w := by
      intro hh
      obtain ⟨T', H', h3, h4⟩ := evOps_sound hcall r0 ops l (i + 1) _ _ hl' hh
      refine ⟨T', H', h3, fun n B0 w0 m a w ds Q hw R0 hT hd hq => ?_⟩
      rw [List.length_cons, List.range'_succ]
      simp only [wpOpsIn, ho]
      rw [if_neg (by simp [hw])]
      exact ⟨fun _ _ => trivial, h4 n B0 w0 m _ w ds Q R0 (put_rel hT _ (VRel.undef _)) (by rw [put_defers]; exact hd) hq⟩
    unfold evOps at h
    cases hg : o.guard with
    | none =>
      rw [hg] at h
      obtain ⟨T', H', h3, h4⟩ := done h
      exact ⟨T', H', h3, fun n B0 w0 m a w ds Q R0 hT hd hq => h4 n B0 w0 m a w ds Q (by unfold Region.wanted; rw [hg]) R0 hT hd hq⟩
    | some p =>
      obtain ⟨j, want⟩ := p
      rw [hg] at h
      obtain ⟨p, hp, h⟩ := bind_some h
      rcases gOp_inv hp with ⟨hu, h5⟩ | ⟨hu, rfl⟩
      · obtain ⟨T', H', h3, h4⟩ := done (by rw [opY_res, h5]; exact h)
        exact ⟨T', H', h3, fun n B0 w0 m a w ds Q R0 hT hd hq => h4 n B0 w0 m a w ds Q (by rw [wanted_of hg ((yield_rel hT j).1 _ hu)]; simp) R0 hT hd hq⟩
      · obtain ⟨T', H', h3, h4⟩ := skipped h
        refine ⟨T', H', h3, fun n B0 w0 m a w ds Q R0 hT hd hq => h4 n B0 w0 m a w ds Q ?_ R0 hT hd hq⟩
        rcases hu with ⟨b, hu, hb⟩ | ⟨vs, hu, _⟩
        · rw [wanted_of hg ((yield_rel hT j).1 _ hu)]; simp [hb]
        · rw [wanted_of hg ((yield_rel hT j).2 _ hu)]; rfl

theorem maskT_rel {m : Mp} (keep : List Nat) : ∀ (T Ts : List Value) (i : Nat), LRel m T Ts → LRel m (maskT keep i T) Ts
  | [], Ts, i, h => h
  | x :: T, Ts, i, h => by
    obtain ⟨y, zs, rfl, hv, hr⟩ := h.cons_inv
    unfold maskT
    refine LRel.cons ?_ (maskT_rel keep T zs (i + 1) hr)
    cases keep.contains i
    · exact .unk _
    · exact hv
theorem cutT_rel {m : Mp} (tb : Tbl) (k : Nat) {T Ts : List Value} (h : LRel m T Ts) : LRel m (cutT tb k T) Ts := by
  unfold cutT
  split
  · exact maskT_rel _ _ _ _ h
  · exact h
theorem CodeSim.trans_cut {r : Option Nat} {c d : Code} {T T1 T1' T2 : List Value} {H H1 H2 : AH} {e : EX} (hcut : ∀ (m : Mp) (Ts : List Value), LRel m T1 Ts → LRel m T1' Ts) (h : CodeSim P r c T H .normal T1 H1) (k : CodeSim P r d T1' H1 e T2 H2) : CodeSim P r (.seq c d) T H e T2 H2 := by
  intro n Bf B0 w0 m a w Q R0 hT hd hB hq
  apply wpIn_seq
  refine h n Bf B0 w0 m a w _ R0 hT hd hB fun m1 a1 w1 A => ?_
  refine k n Bf B0 w0 m1 a1 w1 Q A.rel (hcut _ _ A.tmps) A.marks (Nat.le_trans hB A.ext.size) fun m2 a2 w2 A2 => hq m2 a2 w2 (AfterM.trans R0 A.ext A2)
def DrawSim (P : Program) (ops : Array Oper) (T : List Value) (H : AH) (T' : List Value) (H' : AH) : Prop :=
  ∀ (B0 : Nat) (w0 : World) (m : Mp) (a : Act) (w : World) (ds : List Deferred) (Q : Exit → Act → World → Prop), Rel P B0 w0 m H w → LRel m T a.tmps.toList → a.defers = ds → (∀ m' a' w', After P B0 w0 m H w ds T' H' m' a' w' → Q .normal a' w') →
    wpAny P .any ops Q ops.size (Array.replicate ops.size false) a w
def DrawOK (P : Program) (call : CallF) : Prop :=
  ∀ (ops : Array Oper), regOK ops = true → ∀ (R : Type) (T : List Value) (H : AH) (K : List Value → AH → Option R) (r : R), evD P call ops (befL [] ops.toList) ops.toList 0 T H [] [] K = some r → ∃ T' H', K T' H' = some r ∧ DrawSim P ops T H T' H'
theorem noDef_at {ops : Array Oper} (h : noDef ops = true) (i : Nat) (o : Oper) (ho : ops[i]? = some o) : isDef o.op = false := by
  unfold noDef at h
  have := List.all_eq_true.1 h o (by have := List.mem_of_getElem? (l := ops.toList) (i := i) (a := o) (by simpa using ho); exact this)
  simpa using this
theorem noGoto_mono {Q : Exit → Act → World → Prop} {e : EX} {a : Act} {w : World} (h : Q (exOf e) a w) : Exit.noGoto Q (exOf e) a w := by cases e <;> exact h
theorem getSt_inv {H : AH} {b c : Nat} (h : getSt H b = some c) : ∃ k f key x T, blk H b = some k ∧ k.kind = .loop f key ∧ k.cells = .int .i64 x :: T ∧ c = x.toNat := by
  unfold getSt at h
  obtain ⟨k, h1, h2⟩ := bind_some h
  split at h2
  · rename_i f key x T e1 e2
    cases h2
    exact ⟨k, f, key, x, T, h1, e1, e2, rfl⟩
  · cases h2
theorem setSt_inv {H H' : AH} {b c d : Nat} (h : setSt H b c d = some H') : ∃ k f key T, blk H b = some k ∧ k.kind = .loop f key ∧ k.cells = .int .i64 (c : Int) :: T ∧ H' = put H b k (.int .i64 (d : Int) :: T) := by
  unfold setSt at h
  obtain ⟨k, h1, h2⟩ := bind_some h
  split at h2
  · rename_i f key x T e1 e2
    split at h2
    · rename_i hx
      subst hx
      cases h2
      exact ⟨k, f, key, T, h1, e1, e2, rfl⟩
    · cases h2
  · cases h2
theorem Rel.setSt {B0 : Nat} {w0 : World} {m : Mp} {H : AH} {w : World} (R0 : Rel P B0 w0 m H w) {b c d : Nat} {L : Loc} {H' : AH} (hm : m b = some L) (h : AM.setSt H b c d = some H') :
    ∃ rc : Loop, w.heap[L.blk]? = some (.loop rc) ∧ StOK c rc.state rc.pending ∧ ∀ st pe, StOK d st pe → Rel P B0 w0 m H' (w.putObj L.blk (.loop { rc with state := st, pending := pe })) ∧ Ext m H w m H' (w.putObj L.blk (.loop { rc with state := st, pending := pe })) := by
  obtain ⟨k, f, key, T, h1, h2, h3, rfl⟩ := setSt_inv h
  have hB := R0.blks b L k hm h1
  obtain ⟨rc, hw, hr, c', T', e1, e2, e3⟩ := hB.lp f key h2
  rw [h3] at e1
  injection e1 with e4 e5
  injection e4 with _ e6
  have e6 : c = c' := by omega
  subst e6 e5
  have hlt : L.blk < w.heap.size := (R0.dom b L hm).2
  refine ⟨rc, hw, e3, fun st pe hst => ?_⟩
  exact R0.turn hm h1 (by rw [h2]; simp) _ _ ⟨hB.kind, fun hx => (by rw [h2] at hx; cases hx), fun hx => (by rw [h2] at hx; cases hx), fun f' key' hx => by
    rw [h2] at hx
    cases hx
    exact ⟨_, World.putObj_heap_same hlt, hr, d, T, rfl, e2, hst⟩, hB.own, fun hx => (by rw [h2] at hx; cases hx)⟩
def jumpOf : EX → Option Code
  | .normal => none
  | .ret => some .ret
  | .exit i => some (.exit i)
def RangesAt (P : Program) (f : FuncId) (c : Code) : Prop := ∀ x ∈ rgs c, rangeAt P f (firstId x.2.2) = some x
theorem evalK_sound (hcall : CallOK P call) (hdraw : DrawOK P call) (hmix : P.follows .mixedOrders = true) (n0 : Nat) (tb : Tbl) (rr : Option Nat) : ∀ (c : Code), (rr = none ∨ rgs c = []) → RangesAt P (fidOf tb) c → ∀ {R : Type} (T : List Value) (H : AH) (K : EX → List Value → AH → Option R) (r : R),
    evalK P call n0 tb c T H K = some r → ∃ e T' H', K e T' H' = some r ∧ CodeSim P rr c T H e T' H' := by
  intro c
  induction c with
  | skip =>
    intro _ _ R T H K r h
    exact ⟨.normal, T, H, h, fun n Bf B0 w0 m a w Q R0 hT hd hB hq => wpIn_skip (hq m a w (AfterM.start R0 hT hd))⟩
  | region id ops draw =>
    intro _ _ R T H K r h
    simp only [evalK] at h
    cases draw with
    | true =>
      simp only [cond_true] at h
      cases hr : regOK ops && noDef ops with
      | false => rw [hr] at h; cases h
      | true =>
        rw [hr] at h
        rw [Bool.and_eq_true] at hr
        obtain ⟨T', H', h1, h2⟩ := hdraw ops hr.1 R T H _ r h
        refine ⟨.normal, T', H', h1, fun n Bf B0 w0 m a w Q R0 hT hd hB hq => wpIn_region_any hmix ?_⟩
        have h3 := h2 B0 w0 m a w.drew a.defers (fun e a' w' => e = .normal ∧ Q .normal a' w') R0.drew hT rfl fun m' a' w' A => ⟨rfl, hq m' a' w' (After.m R0 hd ⟨Ext.trans (fun b L hb => (R0.dom b L hb).1) (Ext.refl m H w).drew A.ext, A.rel, A.tmps, A.defers⟩)⟩
        have h4 := any_in (r := rr) (n := n) (fun i o ho => noDef_at hr.2 i o ho) (fun hl => by obtain ⟨_, _, hx, _⟩ := hl; cases hx) _ _ _ _ h3
        exact wpAnyIn_monoQ (fun e a w hx => by obtain ⟨rfl, hx⟩ := hx; exact hx) _ _ _ _ h4
    | false =>
      simp only [cond_false] at h
      obtain ⟨T', H', h1, h2⟩ := evOps_sound hcall rr ops ops.toList 0 T H (fun j => by simp) h
      refine ⟨.normal, T', H', h1, fun n Bf B0 w0 m a w Q R0 hT hd hB hq => wpIn_region ?_⟩
      have := h2 n B0 w0 m a w a.defers Q R0 hT rfl fun m' a' w' A => hq m' a' w' (After.m R0 hd A)
      rwa [Array.length_toList, ← List.range_eq_range'] at this
  | seq x y ihx ihy =>
    intro hrr hrg R T H K r h
    have hx1 : rr = none ∨ rgs x = [] := hrr.imp id fun hh => (List.append_eq_nil_iff.1 hh).1
    have hy1 : rr = none ∨ rgs y = [] := hrr.imp id fun hh => (List.append_eq_nil_iff.1 hh).2
    have hx2 : RangesAt P (fidOf tb) x := fun z hz => hrg z (List.mem_append.2 (.inl hz))
    have hy2 : RangesAt P (fidOf tb) y := fun z hz => hrg z (List.mem_append.2 (.inr hz))
    simp only [evalK] at h
    obtain ⟨e, T1, H1, h1, h2⟩ := ihx hx1 hx2 T H _ r h
    cases e with
    | normal =>
      obtain ⟨e2, T2, H2, h3, h4⟩ := ihy hy1 hy2 _ _ _ r h1
      exact ⟨e2, T2, H2, h3, CodeSim.trans_cut (fun m Ts hh => cutT_rel tb _ hh) h2 h4⟩
    | exit id => exact ⟨.exit id, T1, H1, h1, fun n Bf B0 w0 m a w Q R0 hT hd hB hq => wpIn_seq (h2 n Bf B0 w0 m a w _ R0 hT hd hB fun m1 a1 w1 A => hq m1 a1 w1 A)⟩
    | ret => exact ⟨.ret, T1, H1, h1, fun n Bf B0 w0 m a w Q R0 hT hd hB hq => wpIn_seq (h2 n Bf B0 w0 m a w _ R0 hT hd hB fun m1 a1 w1 A => hq m1 a1 w1 A)⟩
  | cond c x y ihx ihy =>
    intro hrr hrg R T H K r h
    have hx1 : rr = none ∨ rgs x = [] := hrr.imp id fun hh => (List.append_eq_nil_iff.1 hh).1
    have hy1 : rr = none ∨ rgs y = [] := hrr.imp id fun hh => (List.append_eq_nil_iff.1 hh).2
    have hx2 : RangesAt P (fidOf tb) x := fun z hz => hrg z (List.mem_append.2 (.inl hz))
    have hy2 : RangesAt P (fidOf tb) y := fun z hz => hrg z (List.mem_append.2 (.inr hz))
    simp only [evalK] at h
    obtain ⟨b, hb, hr⟩ := aIf_inv h
    cases b with
    | true =>
      obtain ⟨e, T1, H1, h1, h2⟩ := ihx hx1 hx2 T H K r hr
      refine ⟨e, T1, H1, h1, fun n Bf B0 w0 m a w Q R0 hT hd hB hq => wpIn_cond_true ?_ (h2 n Bf B0 w0 m a w Q R0 hT hd hB hq)⟩
      have := opv_rel hT c
      rw [hb] at this
      exact this.bool_inv
    | false =>
      obtain ⟨e, T1, H1, h1, h2⟩ := ihy hy1 hy2 T H K r hr
      refine ⟨e, T1, H1, h1, fun n Bf B0 w0 m a w Q R0 hT hd hB hq => wpIn_cond_false ?_ (h2 n Bf B0 w0 m a w Q R0 hT hd hB hq)⟩
      have := opv_rel hT c
      rw [hb] at this
      exact this.bool_inv
  | block id b ih =>
    intro hrr hrg R T H K r h
    simp only [evalK] at h
    obtain ⟨e, T1, H1, h1, h2⟩ := ih hrr hrg T H _ r h
    cases e with
    | normal => exact ⟨.normal, T1, H1, h1, fun n Bf B0 w0 m a w Q R0 hT hd hB hq => wpIn_block (h2 n Bf B0 w0 m a w _ R0 hT hd hB fun m1 a1 w1 A => hq m1 a1 w1 A)⟩
    | ret => exact ⟨.ret, T1, H1, h1, fun n Bf B0 w0 m a w Q R0 hT hd hB hq => wpIn_block (h2 n Bf B0 w0 m a w _ R0 hT hd hB fun m1 a1 w1 A => hq m1 a1 w1 A)⟩
    | exit i =>
      by_cases hi : i = id
      · subst hi
        refine ⟨.normal, T1, H1, by simpa [kBlock] using h1, fun n Bf B0 w0 m a w Q R0 hT hd hB hq => wpIn_block (h2 n Bf B0 w0 m a w _ R0 hT hd hB fun m1 a1 w1 A => ?_)⟩
        show (if i = i then Q .normal a1 w1 else Q (.exit i) a1 w1)
        rw [if_pos rfl]
        exact hq m1 a1 w1 A
      · have hi' : (i == id) = false := by simpa using hi
        refine ⟨.exit i, T1, H1, by simpa [kBlock, hi'] using h1, fun n Bf B0 w0 m a w Q R0 hT hd hB hq => wpIn_block (h2 n Bf B0 w0 m a w _ R0 hT hd hB fun m1 a1 w1 A => ?_)⟩
        show (if i = id then Q .normal a1 w1 else Q (.exit i) a1 w1)
        rw [if_neg hi]
        exact hq m1 a1 w1 A
  | loop b ih =>
    intro hrr hrg R T H K r h
    simp only [evalK] at h
    obtain ⟨⟨e, T', H'⟩, h1, h2⟩ := bind_some h
    refine ⟨e, T', H', h2, ?_⟩
    have key : ∀ (k : Nat) (T : List Value) (H : AH), iterD (fun T H K => evalK P call n0 tb b T H K) (cutT tb (3 * firstId b + 1)) (cutT tb (3 * firstId b + 2)) k T H = some (e, T', H') →
        ∀ (n Bf B0 : Nat) (w0 : World) (m : Mp) (a : Act) (w : World) (Q : Exit → Act → World → Prop), Rel P B0 w0 m H w → LRel m T a.tmps.toList → Marks Bf a.defers m H w → Bf ≤ w.heap.size → (∀ m' a' w', AfterM P Bf B0 w0 m H w T' H' m' a' w' → Q (exOf e) a' w') → Code.roundsIn (FW rr) n P b Q k a w := by
      intro k
      induction k with
      | zero => intro T H hh; cases hh
      | succ k ihk =>
        intro T H hh
        simp only [iterD] at hh
        obtain ⟨e1, T1, H1, h3, h4⟩ := ih hrr hrg (R := Out) _ _ _ _ hh
        intro n Bf B0 w0 m a w Q R0 hT hd hB hq
        rw [roundsIn_succ]
        refine h4 n Bf B0 w0 m a w _ R0 hT hd hB fun m1 a1 w1 A => ?_
        cases e1 with
        | normal => exact ihk _ H1 h3 n Bf B0 w0 m1 a1 w1 Q A.rel (cutT_rel tb _ A.tmps) A.marks (Nat.le_trans hB A.ext.size) fun m2 a2 w2 A2 => hq m2 a2 w2 (AfterM.trans R0 A.ext A2)
        | exit id => cases h3; exact hq m1 a1 w1 ⟨A.ext, A.rel, cutT_rel tb _ A.tmps, A.marks⟩
        | ret => cases h3; exact hq m1 a1 w1 ⟨A.ext, A.rel, cutT_rel tb _ A.tmps, A.marks⟩
    exact fun n Bf B0 w0 m a w Q R0 hT hd hB hq => wpIn_loop_rounds _ (key n0 _ H h1 n Bf B0 w0 m a w Q R0 (cutT_rel tb _ hT) hd hB hq)
  | rangeFunc g ps assign body iha ihb =>
    intro hrr hrg R T H K r h
    have hrn : rr = none := hrr.resolve_right (by simp [rgs])
    subst hrn
    have hat := hrg (ps, assign, body) (by simp [rgs])
    simp only [evalK] at h
    obtain ⟨p, h1, h2⟩ := bind_some h
    unfold rgBack at h2
    obtain ⟨c, h3, h4⟩ := bind_some h2
    have hst : ∃ e, c = xSt e ∧ K e (cutT tb (3 * firstId body + 2) T) (kill p.2 H.length) = some r := by
      unfold stX at h4
      split at h4
      · exact ⟨.normal, rfl, h4⟩
      · cases h4
      · exact ⟨.ret, rfl, h4⟩
      · exact ⟨.exit _, rfl, h4⟩
    obtain ⟨e, rfl, h5⟩ := hst
    refine ⟨e, _, _, h5, ?_⟩
    clear h5 h4 h2 h
    unfold rgCall callV at h1
    split at h1
    · rename_i q first captured hf
      obtain ⟨hlt, h1⟩ := blt_inv h1
      obtain ⟨hen, hsim⟩ := hcall.1 _ _ _ _ _ hlt h1
      intro n Bf B0 w0 m a w Q R0 hT hd hB hq
      have hfr := opv_rel hT g
      rw [hf] at hfr
      have hsplit : ∃ a' b', a.eval g = .func (.func q) a' b' ∧ LRel m first.toList a'.toList ∧ LRel m captured.toList b'.toList := by
        generalize a.eval g = u at hfr
        cases hfr with
        | flat v hf => simp [flat1] at hf
        | func f a b a' b' h1 h2 h3 h4 => exact ⟨a', b', rfl, ⟨by simpa using h1, fun i x y hx hy => h2 i x y (by simpa using hx) (by simpa using hy)⟩, ⟨by simpa using h3, fun i x y hx hy => h4 i x y (by simpa using hx) (by simpa using hy)⟩⟩
      obtain ⟨a', b', he, hla, hlb⟩ := hsplit
      refine wpIn_rangeFunc fun fn _ => ?_
      obtain ⟨Ra, Ea⟩ := R0.allocSkip (.deferred (some []))
      obtain ⟨rc, hrc⟩ : ∃ rc : Loop, rc = { state := .ready, pending := none, fn, tmps := a.tmps, params := ps, assign, body, defers := w.heap.size } := ⟨_, rfl⟩
      obtain ⟨Rb, Eb⟩ := Ra.makeO (.int .i64 0 :: cutT tb (3 * firstId body + 1) T) (firstId body) (.loop (fidOf tb) (firstId body)) (.loop rc) ⟨(w.alloc (.deferred (some []))).heap.size, 0, .loop (fidOf tb) (firstId body), 0, 0⟩ rfl (fun m' hm' => ⟨rfl, fun hx => (by cases hx), fun hx => (by cases hx), fun f key hx => by
        cases hx
        exact ⟨rc, heap_alloc_new _ _, by rw [hrc]; exact hat, 0, _, rfl, by rw [hrc]; exact (cutT_rel tb _ hT).mono hm', by rw [hrc]; exact ⟨rfl, rfl⟩⟩, fun _ => by simp; have := R0.hB; omega, fun hx => (by cases hx)⟩)
      generalize hm1 : upd m H.length _ = m1 at Rb Eb
      have hmb : m1 H.length = some ⟨w.heap.size + 1, 0, .loop (fidOf tb) (firstId body), 0, 0⟩ := by rw [← hm1, World.size_alloc]; exact upd_same _ _ _
      have E1 := Ext.trans (fun b L hb => (R0.dom b L hb).1) Ea Eb
      have hK1 : ((w.alloc (.deferred (some []))).alloc (.loop rc)).heap[w.heap.size]? = some (.deferred (some [])) := (Below.heap_alloc _ _ _ (by simp)).trans (World.alloc_heap_new w _)
      have hM1 : Marks Bf (mark w.heap.size :: a.defers) m1 (mkB H (.int .i64 0 :: cutT tb (3 * firstId body + 1) T) (firstId body) (.loop (fidOf tb) (firstId body))) ((w.alloc (.deferred (some []))).alloc (.loop rc)) := by
        obtain ⟨Ds, d1, d2, d3⟩ := hd.ext R0 E1
        have hno : w.heap.size ∉ Ds := by
          intro hmem
          obtain ⟨Ds0, e1, e2, e3⟩ := hd
          have : Ds = Ds0 := by
            have := d1.symm.trans e1
            exact (List.map_inj_right (f := mark) (fun x y hxy => by simpa [mark] using hxy)).1 this
          subst this
          have := (Array.getElem?_eq_some_iff.1 (e3 _ hmem).2.1).1
          omega
        refine ⟨w.heap.size :: Ds, by rw [d1]; rfl, List.nodup_cons.2 ⟨hno, d2⟩, fun D hD => ?_⟩
        cases hD with
        | tail _ hD => exact d3 D hD
        | head =>
          refine ⟨hB, hK1, fun b L k hb hk hne => ?_⟩
          by_cases hbl : b = H.length
          · subst hbl
            rw [hmb] at hb
            cases hb
            show w.heap.size + 1 ≠ _
            omega
          · have : m b = some L := by
              rw [← hm1] at hb
              unfold upd at hb
              rwa [if_neg hbl] at hb
            have := (R0.dom b L this).2
            omega
      have hargs : LRel m1 (first.toList ++ ([Value.func (.yield H.length) #[] #[]] ++ captured.toList)) (a'.toList ++ ([Value.func (.yield (w.heap.size + 1)) #[] #[]] ++ b'.toList)) :=
        (hla.mono E1.mono).append ((LRel.cons (.yld _ _ hmb ⟨_, _, rfl⟩) (LRel.nil _)).append (hlb.mono E1.mono))
      have hcl := hsim B0 w0 m1 _ _ Rb hargs
      refine ⟨w.heap.size + 1, [mark w.heap.size], (w.alloc (.deferred (some []))).alloc (.loop rc), { target := .fn (.func q) b', args := a' ++ #[.func (.yield (w.heap.size + 1)) #[] #[]] }, (w.alloc (.deferred (some []))).alloc (.loop rc), q,
        (a'.toList ++ ([Value.func (.yield (w.heap.size + 1)) #[] #[]] ++ b'.toList)).toArray, (w.alloc (.deferred (some []))).alloc (.loop rc), ?_, ?_, fun _ _ => trivial, ?_, fun hx => by simp [FW, Fence.wide] at hx, ?_⟩
      · rw [hrc]; exact run_enterLoop_outer _ _ _ _ _
      · simp only [resolve, he]
        simp [go_sem]
      · have e2 : (a'.toList ++ ([Value.func (.yield (w.heap.size + 1)) #[] #[]] ++ b'.toList)).toArray = a' ++ #[Value.func (.yield (w.heap.size + 1)) #[] #[]] ++ b' := by
          apply Array.ext'
          simp
        rw [e2]
        simp [invoke, run_callFunc hen]
      · refine fw_calls (hcl.mono fun ee w3 hee => ?_)
        obtain ⟨m2, v', rfl, q1, q2, q3⟩ := hee
        obtain ⟨k, f, key, x, T3, g1, g2, g3, g4⟩ := getSt_inv h3
        have hm2 := q3.mono _ _ hmb
        have hBk := q2.blks _ _ _ hm2 g1
        obtain ⟨rc3, hw3, _, c3, T4, g5, _, g6⟩ := hBk.lp f key g2
        rw [g3] at g5
        injection g5 with g7 _
        injection g7 with _ g8
        have g9 : c3 = xSt e := by rw [g4]; omega
        subst g9
        have hnb : rc3.state ≠ .busy := by
          cases e <;> obtain ⟨z1, z2⟩ := g6 <;> rw [z1] <;> simp
        have hpe : rc3.pending = jumpOf e := by
          cases e <;> obtain ⟨z1, z2⟩ := g6 <;> exact z2
        obtain ⟨R4, E4⟩ := q2.killObj hm2 g1 (by rw [g2]; simp) (.loop { rc3 with state := .exhausted })
        have Eall := Ext.trans (fun b L hb => (R0.dom b L hb).1) E1 (Ext.trans (fun b L hb => (Rb.dom b L hb).1) q3 E4)
        have hfin := hq m2 { a with defers := mark w.heap.size :: a.defers } _ ⟨Eall, R4, (cutT_rel tb _ hT).mono Eall.mono, (hM1.ext Rb q3).ext q2 E4⟩
        refine ⟨rc3.pending, _, run_endLoop hw3 hnb, ?_⟩
        rw [hpe] at hfin ⊢
        cases e with
        | normal => exact hfin
        | ret => exact wpIn_ret hfin
        | exit i => exact wpIn_exit hfin
    · cases h1
  | exit id =>
    intro _ _ R T H K r h
    exact ⟨.exit id, T, H, h, fun n Bf B0 w0 m a w Q R0 hT hd hB hq => wpIn_exit (hq m a w (AfterM.start R0 hT hd))⟩
  | scope b ih =>
    intro hrr hrg R T H K r h
    simp only [evalK] at h
    obtain ⟨e, T1, H1, h1, h2⟩ := ih hrr hrg T H K r h
    exact ⟨e, T1, H1, h1, fun n Bf B0 w0 m a w Q R0 hT hd hB hq => wpIn_scope_straight (h2 n Bf B0 w0 m a w _ R0 hT hd hB fun m1 a1 w1 A => noGoto_mono (hq m1 a1 w1 A))⟩
  | label l =>
    intro _ _ R T H K r h
    exact ⟨.normal, T, H, h, fun n Bf B0 w0 m a w Q R0 hT hd hB hq => wpIn_label (hq m a w (AfterM.start R0 hT hd))⟩
  | goto l => intro _ _ R T H K r h; cases h
  | ret =>
    intro _ _ R T H K r h
    exact ⟨.ret, T, H, h, fun n Bf B0 w0 m a w Q R0 hT hd hB hq => wpIn_ret (hq m a w (AfterM.start R0 hT hd))⟩
  | refuse why => intro _ _ R T H K r h; cases h
theorem resOne_sound {B0 : Nat} {w0 : World} {m : Mp} {H : AH} {w : World} (R0 : Rel P B0 w0 m H w) {T : List Value} {a : Act} (hT : LRel m T a.tmps.toList) {rv : ResultVar} {v : Value} (h : resOne P T H rv = some v) :
    ∃ v', (match rv with | .tmp t => pure (a.tmps.getD t undef) | .cell x t => do loadVar t (← asAddr (a.tmps.getD x undef)) : Sem Value).run P w = .ok v' w ∧ VRel m v v' := by
  cases rv with
  | tmp t => cases h; exact ⟨_, rfl, opv_rel hT (.tmp t)⟩
  | cell x t =>
    have hx := opv_rel hT (.tmp x)
    obtain ⟨v', h1, h2⟩ := ld_sound R0 hx h
    refine ⟨v', ?_, h2⟩
    simp only [Act.eval] at h1
    have h3 : ∀ u : Value, (Instr.loadAt t u).run P w = .ok v' w → (do loadVar t (← asAddr u) : Sem Value).run P w = .ok v' w := by
      intro u hu
      cases u with
      | pointer ad =>
        cases ad with
        | some ad => simpa [Instr.loadAt, Instr.sureAddr, asAddr] using hu
        | none => simp [Instr.loadAt, Instr.sureAddr, stuck] at hu
      | _ => simp [Instr.loadAt, Instr.sureAddr, stuck] at hu
    exact h3 _ h1
theorem resAll_sound {B0 : Nat} {w0 : World} {m : Mp} {H : AH} {w : World} (R0 : Rel P B0 w0 m H w) {T : List Value} {a : Act} (hT : LRel m T a.tmps.toList) : ∀ (rs : List ResultVar) (vs : List Value), resAll P T H rs = some vs →
    ∃ vs', (rs.mapM fun | .tmp t => pure (a.tmps.getD t undef) | .cell x t => do loadVar t (← asAddr (a.tmps.getD x undef)) : Sem (List Value)).run P w = .ok vs' w ∧ LRel m vs vs'
  | [], vs, h => by cases h; exact ⟨[], by simp, LRel.nil m⟩
  | r :: rs, vs, h => by
    unfold resAll at h
    obtain ⟨v, h1, h⟩ := bind_some h
    obtain ⟨us, h2, h⟩ := bind_some h
    cases h
    obtain ⟨v', q1, q2⟩ := resOne_sound R0 hT h1
    obtain ⟨us', q3, q4⟩ := resAll_sound R0 hT rs us h2
    exact ⟨v' :: us', by rw [List.mapM_cons]; simp only [Sem.run_bind, q1, q3, Result.andThen_ok, Sem.run_pure], LRel.cons q2 q4⟩
theorem results_sound {B0 : Nat} {w0 : World} {m : Mp} {H : AH} {w : World} (R0 : Rel P B0 w0 m H w) {T : List Value} {a : Act} (hT : LRel m T a.tmps.toList) {fn : Func} {vs : List Value} (h : resAll P T H fn.results.toList = some vs) :
    ∃ v', (results fn a.tmps).run P w = .ok v' w ∧ VRel m (oneOf vs) v' := by
  obtain ⟨vs', h1, h2⟩ := resAll_sound R0 hT _ _ h
  refine ⟨oneOf vs', ?_, ?_⟩
  · unfold results
    rw [Array.mapM_eq_mapM_toList]
    simp only [Sem.run_bind, Sem.run_map, Sem.run_pure]
    refine (congrArg (fun s : Result (List Value) => (s.andThen fun a w' => .ok a.toArray w').andThen fun a w' => .ok (if h : a.size = 1 then a[0] else .tuple a) w') h1).trans ?_
    cases vs' with
    | nil => rfl
    | cons v rest =>
      cases rest with
      | nil => rfl
      | cons u rest => simp [oneOf]
  · cases vs with
    | nil => rw [h2.nil_inv]; exact VRel.undef m
    | cons v rest =>
      obtain ⟨v', zs, rfl, hv, hr⟩ := h2.cons_inv
      cases rest with
      | nil => rw [hr.nil_inv]; exact hv
      | cons u rest =>
        obtain ⟨u', zs', rfl, hu, hr'⟩ := hr.cons_inv
        have hl := LRel.cons hv (LRel.cons hu hr')
        exact .tuple _ _ (by simpa using hl.1) fun i x y hx hy => hl.2 i x y (by simpa using hx) (by simpa using hy)
theorem LRel.of_flat_undef {m : Mp} (n : Nat) : LRel m (List.replicate n undef) (List.replicate n undef) := by
  induction n with
  | zero => exact LRel.nil m
  | succ n ih => rw [List.replicate_succ]; exact LRel.cons (VRel.undef m) ih
def GivenOK (P : Program) (gv : Given) : Prop := ∀ f g, gv f = some g → ∀ call n, CallOK P call → DrawOK P call → ∀ args H v H', g call n args H = some (v, H') → Enterable P f ∧ SimCall P f args H v H'
theorem plain_ok {f : FuncId} {g : List Value → AH → Option (Value × AH)} (h : ∀ args H v H', g args H = some (v, H') → Enterable P f ∧ SimCall P f args H v H') : ∀ call n, CallOK P call → DrawOK P call → ∀ args H v H', plain g call n args H = some (v, H') → Enterable P f ∧ SimCall P f args H v H' := fun _ _ _ _ => h
def RangesOK (P : Program) (tbs : FuncId → Tbl) : Prop := ∀ f fn c, P.funcs[f]? = some fn → fn.body = some c → rgs c = [] ∨ (fidOf (tbs f) = f ∧ RangesAt P f c)
theorem RangesAt.nil {f : FuncId} {c : Code} (h : rgs c = []) : RangesAt P f c := fun x hx => by rw [h] at hx; cases hx
theorem leaves_marks {B0 : Nat} {w0 : World} {m : Mp} {H : AH} {fn : Func} {tmps : Array Value} {T : List Value} {vs : List Value} {n Bf : Nat} {R : Ending → World → Prop} (hres : resAll P T H fn.results.toList = some vs) (hT : LRel m T tmps.toList) :
    ∀ (Ds : List Nat) (w : World), Rel P B0 w0 m H w → B0 ≤ Bf → Ds.Nodup → (∀ D ∈ Ds, Bf ≤ D ∧ w.heap[D]? = some (.deferred (some [])) ∧ ∀ b L k, m b = some L → blk H b = some k → k.kind ≠ .ro → L.blk ≠ D) →
    (∀ (w' : World) (v' : Value), Rel P B0 w0 m H w' → VRel m (oneOf vs) v' → (∀ B, B < Bf → w'.heap[B]? = w.heap[B]?) → w'.heap.size = w.heap.size → R (.returned v') w') → LeavesInM (FW none) n P fn tmps R (Ds.map mark) .returning w
  | [], w, R0, hB, hn, hD, hq => by
    obtain ⟨v', h5, h6⟩ := results_sound (a := { tmps := tmps, defers := [] }) R0 hT hres
    exact ⟨v', h5, hq w v' R0 h6 (fun _ _ => rfl) rfl⟩
  | D :: Ds, w, R0, hB, hn, hD, hq => by
    obtain ⟨d1, d2, d3⟩ := hD D (by simp)
    obtain ⟨n1, n2⟩ := List.nodup_cons.1 hn
    refine ⟨by simp, .inl ⟨D, w.putObj D (.deferred none), rfl, run_takeDeferred d2, ?_⟩⟩
    have hfree : ∀ b L k, m b = some L → blk H b = some k → L.blk ≠ D := by
      intro b L k hb hk hx
      by_cases hro : k.kind = .ro
      · obtain ⟨c, e, fr, hw, _⟩ := (R0.blks b L k hb hk).there (by rw [hro]; rfl)
        rw [hx, d2] at hw
        cases hw
      · exact d3 b L k hb hk hro hx
    refine leaves_marks hres hT Ds _ (R0.putFree _ (Nat.le_trans hB d1) hfree) hB n2 (fun D' hD' => ?_) (fun w' v' R' hv hw hs => hq w' v' R' hv (fun B hBf => (hw B hBf).trans (World.putObj_heap_other (by omega))) (by rw [hs]; simp))
    obtain ⟨e1, e2, e3⟩ := hD D' (by simp [hD'])
    exact ⟨e1, (World.putObj_heap_other (by rintro rfl; exact n1 hD')).trans e2, e3⟩
def MidOK (P : Program) (c : Code) (M : Mid) : Prop := ∀ T H H', T.length = M.len → M.f (M.ins.map fun i => T.getD i undef) H = some H' → CodeSim P none (codeAt c M.path) T H .normal (midT M T) H'
theorem evalP_sound (hcall : CallOK P call) (hdraw : DrawOK P call) (hmix : P.follows .mixedOrders = true) (n0 : Nat) (tb : Tbl) (M : Mid) : ∀ (c : Code) (p : List Nat), (∀ T H H', T.length = M.len → M.f (M.ins.map fun i => T.getD i undef) H = some H' → CodeSim P none (codeAt c p) T H .normal (midT M T) H') → RangesAt P (fidOf tb) c → ∀ {R : Type} (T : List Value) (H : AH) (K : EX → List Value → AH → Option R) (r : R),
    evalP P call n0 tb M c p T H K = some r → ∃ e T' H', K e T' H' = some r ∧ CodeSim P none c T H e T' H' := by
  have nil : ∀ (c : Code), (∀ T H H', T.length = M.len → M.f (M.ins.map fun i => T.getD i undef) H = some H' → CodeSim P none c T H .normal (midT M T) H') → ∀ {R : Type} (T : List Value) (H : AH) (K : EX → List Value → AH → Option R) (r : R), midK M T H K = some r → ∃ e T' H', K e T' H' = some r ∧ CodeSim P none c T H e T' H' := by
    intro c hM R T H K r h
    unfold midK at h
    cases hl : Nat.beq T.length M.len with
    | false => rw [hl] at h; cases h
    | true =>
      rw [hl] at h
      obtain ⟨H', h1, h2⟩ := bind_some h
      exact ⟨.normal, _, H', h2, hM T H H' (Nat.eq_of_beq_eq_true hl) h1⟩
  have c0 : ∀ c : Code, codeAt c [] = c := fun c => by cases c <;> rfl
  intro c
  induction c with
  | seq x y ihx ihy =>
    intro p hM hrg R T H K r h
    have hx2 : RangesAt P (fidOf tb) x := fun z hz => hrg z (List.mem_append.2 (.inl hz))
    have hy2 : RangesAt P (fidOf tb) y := fun z hz => hrg z (List.mem_append.2 (.inr hz))
    have tail : ∀ {e : EX} {T1 : List Value} {H1 : AH}, CodeSim P none x T H e T1 H1 → (e = .normal → ∃ e2 T2 H2, K e2 T2 H2 = some r ∧ CodeSim P none y (cutT tb (3 * firstId y) T1) H1 e2 T2 H2) → (e ≠ .normal → K e T1 H1 = some r) → ∃ e T' H', K e T' H' = some r ∧ CodeSim P none (.seq x y) T H e T' H' := by
      intro e T1 H1 h2 h3 h4
      cases e with
      | normal =>
        obtain ⟨e2, T2, H2, h3, h4⟩ := h3 rfl
        exact ⟨e2, T2, H2, h3, CodeSim.trans_cut (fun m Ts hh => cutT_rel tb _ hh) h2 h4⟩
      | exit id => exact ⟨.exit id, T1, H1, h4 (by simp), fun n Bf B0 w0 m a w Q R0 hT hd hB hq => wpIn_seq (h2 n Bf B0 w0 m a w _ R0 hT hd hB fun m1 a1 w1 A => hq m1 a1 w1 A)⟩
      | ret => exact ⟨.ret, T1, H1, h4 (by simp), fun n Bf B0 w0 m a w Q R0 hT hd hB hq => wpIn_seq (h2 n Bf B0 w0 m a w _ R0 hT hd hB fun m1 a1 w1 A => hq m1 a1 w1 A)⟩
    match p, hM, h with
    | [], hM, h => exact nil _ hM T H K r h
    | 0 :: p, hM, h =>
      simp only [evalP] at h
      obtain ⟨e, T1, H1, h1, h2⟩ := ihx p hM hx2 T H _ r h
      exact tail h2 (fun he => by subst he; exact evalK_sound hcall hdraw hmix n0 tb none y (.inl rfl) hy2 _ _ _ r h1) (fun he => by cases e <;> first | exact (he rfl).elim | exact h1)
    | 1 :: p, hM, h =>
      simp only [evalP] at h
      obtain ⟨e, T1, H1, h1, h2⟩ := evalK_sound hcall hdraw hmix n0 tb none x (.inl rfl) hx2 _ _ _ r h
      exact tail h2 (fun he => by subst he; exact ihy p hM hy2 _ _ _ r h1) (fun he => by cases e <;> first | exact (he rfl).elim | exact h1)
    | (_ + 2) :: p, hM, h => simp [evalP] at h
  | cond c x y ihx ihy =>
    intro p hM hrg R T H K r h
    have hx2 : RangesAt P (fidOf tb) x := fun z hz => hrg z (List.mem_append.2 (.inl hz))
    have hy2 : RangesAt P (fidOf tb) y := fun z hz => hrg z (List.mem_append.2 (.inr hz))
    have ends : ∀ b : Bool, opv T c = .bool b → (∃ e T' H', K e T' H' = some r ∧ CodeSim P none (bif b then x else y) T H e T' H') → ∃ e T' H', K e T' H' = some r ∧ CodeSim P none (.cond c x y) T H e T' H' := by
      rintro b hb ⟨e, T1, H1, h1, h2⟩
      refine ⟨e, T1, H1, h1, fun n Bf B0 w0 m a w Q R0 hT hd hB hq => ?_⟩
      have hv := opv_rel hT c
      rw [hb] at hv
      cases b with
      | true => exact wpIn_cond_true hv.bool_inv (h2 n Bf B0 w0 m a w Q R0 hT hd hB hq)
      | false => exact wpIn_cond_false hv.bool_inv (h2 n Bf B0 w0 m a w Q R0 hT hd hB hq)
    match p, hM, h with
    | [], hM, h => exact nil _ hM T H K r h
    | 0 :: p, hM, h => simp [evalP] at h
    | 1 :: p, hM, h =>
      simp only [evalP] at h
      obtain ⟨b, hb, hr⟩ := aIf_inv h
      cases b with
      | true => exact ends true hb (ihx p hM hx2 T H K r hr)
      | false => exact ends false hb (evalK_sound hcall hdraw hmix n0 tb none y (.inl rfl) hy2 T H K r hr)
    | 2 :: p, hM, h =>
      simp only [evalP] at h
      obtain ⟨b, hb, hr⟩ := aIf_inv h
      cases b with
      | true => exact ends true hb (evalK_sound hcall hdraw hmix n0 tb none x (.inl rfl) hx2 T H K r hr)
      | false => exact ends false hb (ihy p hM hy2 T H K r hr)
    | (_ + 3) :: p, hM, h => simp [evalP] at h
  | block id b ih =>
    intro p hM hrg R T H K r h
    match p, hM, h with
    | [], hM, h => exact nil _ hM T H K r h
    | (_ + 1) :: p, hM, h => simp [evalP] at h
    | 0 :: p, hM, h =>
      simp only [evalP] at h
      obtain ⟨e, T1, H1, h1, h2⟩ := ih p hM hrg T H _ r h
      cases e with
      | normal => exact ⟨.normal, T1, H1, h1, fun n Bf B0 w0 m a w Q R0 hT hd hB hq => wpIn_block (h2 n Bf B0 w0 m a w _ R0 hT hd hB fun m1 a1 w1 A => hq m1 a1 w1 A)⟩
      | ret => exact ⟨.ret, T1, H1, h1, fun n Bf B0 w0 m a w Q R0 hT hd hB hq => wpIn_block (h2 n Bf B0 w0 m a w _ R0 hT hd hB fun m1 a1 w1 A => hq m1 a1 w1 A)⟩
      | exit i =>
        by_cases hi : i = id
        · subst hi
          refine ⟨.normal, T1, H1, by simpa [kBlock] using h1, fun n Bf B0 w0 m a w Q R0 hT hd hB hq => wpIn_block (h2 n Bf B0 w0 m a w _ R0 hT hd hB fun m1 a1 w1 A => ?_)⟩
          show (if i = i then Q .normal a1 w1 else Q (.exit i) a1 w1)
          rw [if_pos rfl]
          exact hq m1 a1 w1 A
        · have hi' : (i == id) = false := by simpa using hi
          refine ⟨.exit i, T1, H1, by simpa [kBlock, hi'] using h1, fun n Bf B0 w0 m a w Q R0 hT hd hB hq => wpIn_block (h2 n Bf B0 w0 m a w _ R0 hT hd hB fun m1 a1 w1 A => ?_)⟩
          show (if i = id then Q .normal a1 w1 else Q (.exit i) a1 w1)
          rw [if_neg hi]
          exact hq m1 a1 w1 A
  | scope b ih =>
    intro p hM hrg R T H K r h
    match p, hM, h with
    | [], hM, h => exact nil _ hM T H K r h
    | (_ + 1) :: p, hM, h => simp [evalP] at h
    | 0 :: p, hM, h =>
      simp only [evalP] at h
      obtain ⟨e, T1, H1, h1, h2⟩ := ih p hM hrg T H K r h
      exact ⟨e, T1, H1, h1, fun n Bf B0 w0 m a w Q R0 hT hd hB hq => wpIn_scope_straight (h2 n Bf B0 w0 m a w _ R0 hT hd hB fun m1 a1 w1 A => noGoto_mono (hq m1 a1 w1 A))⟩
  | _ =>
    intro p hM hrg R T H K r h
    cases p with
    | nil => exact nil _ hM T H K r h
    | cons i p => simp [evalP] at h
theorem ends_sound {f : FuncId} {fn : Func} (hf : P.funcs[f]? = some fn) {c : Code} (hc : fn.body = some c) {args : List Value} {H : AH} {v : Value} {H' : AH} {e : EX} {T' : List Value} {H1 : AH}
    (h1 : resK P fn.results.toList e T' H1 = some (v, H')) (h2 : CodeSim P none c (args0 fn args) H e T' H1) : SimCall P f args H v H' := by
  have hres : ∃ vs, resAll P T' H1 fn.results.toList = some vs ∧ oneOf vs = v ∧ H1 = H' := by
    cases e with
    | exit i => cases h1
    | normal => obtain ⟨vs, h3, h4⟩ := bind_some h1; cases h4; exact ⟨vs, h3, rfl, rfl⟩
    | ret => obtain ⟨vs, h3, h4⟩ := bind_some h1; cases h4; exact ⟨vs, h3, rfl, rfl⟩
  obtain ⟨vs, h3, h4, rfl⟩ := hres
  intro B0 w0 m w args' R0 hargs
  refine (callsIn_wide (n := 0)).1 (callsIn_of_wp_marks (F := FW none) hf hc trivial (h2 0 w.heap.size B0 w0 m _ w _ R0 ?_ (Marks.nil _ _ _ _) (Nat.le_refl _) fun m' a' w' A => ?_))
  · have hl : args'.toArray.size = args.length := by simp [hargs.1]
    simp only [Array.toList_append, Array.toList_replicate, args0]
    refine hargs.append ?_
    rw [hl]
    exact LRel.of_flat_undef _
  · obtain ⟨Ds, d1, d2, d3⟩ := A.marks
    have hpost : LeavesInM (FW none) 0 P fn a'.tmps (fun e w' => ∃ m' v', e = .returned v' ∧ VRel m' v v' ∧ Rel P B0 w0 m' H1 w' ∧ Ext m H w m' H1 w') a'.defers .returning w' := by
      rw [d1]
      refine leaves_marks (Bf := w.heap.size) h3 A.tmps Ds w' A.rel R0.hB d2 d3 fun w2 v' R2 hv hw hs => ⟨m', v', rfl, by rw [← h4]; exact hv, R2, ?_⟩
      exact ⟨A.ext.mono, A.ext.len, by rw [hs]; exact A.ext.size, A.ext.alive, A.ext.new, fun B hB hr => (hw B hB).trans (A.ext.frame B hB hr)⟩
    cases e with
    | exit i => cases h1
    | normal => exact hpost
    | ret => exact hpost
theorem runFn_sound (hcall : CallOK P call) (hdraw : DrawOK P call) (hmix : P.follows .mixedOrders = true) {n : Nat} {tb : Tbl} {f : FuncId} {fn : Func} (hf : P.funcs[f]? = some fn) (hrg : ∀ c, fn.body = some c → RangesAt P (fidOf tb) c) {args : List Value} {H : AH} {v : Value} {H' : AH}
    (h : runFn P call n tb fn args H = some (v, H')) : Enterable P f ∧ SimCall P f args H v H' := by
  unfold runFn at h
  cases hb : fn.body.isSome && fn.name != "runtime.NumGoroutine" with
  | false => rw [hb] at h; cases h
  | true =>
    rw [hb] at h
    simp only [cond_true] at h
    rw [Bool.and_eq_true] at hb
    obtain ⟨hb1, hb2⟩ := hb
    refine ⟨⟨fn, hf, by simpa using hb2, hb1⟩, ?_⟩
    obtain ⟨c, hc⟩ := Option.isSome_iff_exists.1 hb1
    have hbody : bodyOf fn = c := by simp [bodyOf, hc]
    rw [hbody] at h
    obtain ⟨e, T', H1, h1, h2⟩ := evalK_sound hcall hdraw hmix n tb none c (.inl rfl) (hrg c hc) _ _ _ _ h
    exact ends_sound hf hc h1 h2
theorem runMid_sound (hcall : CallOK P call) (hdraw : DrawOK P call) (hmix : P.follows .mixedOrders = true) {n : Nat} {tb : Tbl} {f : FuncId} {fn : Func} (hf : P.funcs[f]? = some fn) (hrg : ∀ c, fn.body = some c → RangesAt P (fidOf tb) c) {M : Mid} (hM : MidOK P (bodyOf fn) M) {args : List Value} {H : AH} {v : Value} {H' : AH}
    (h : runMid P call n tb M fn args H = some (v, H')) : Enterable P f ∧ SimCall P f args H v H' := by
  unfold runMid at h
  cases hb : fn.body.isSome && fn.name != "runtime.NumGoroutine" with
  | false => rw [hb] at h; cases h
  | true =>
    rw [hb] at h
    simp only [cond_true] at h
    rw [Bool.and_eq_true] at hb
    obtain ⟨hb1, hb2⟩ := hb
    refine ⟨⟨fn, hf, by simpa using hb2, hb1⟩, ?_⟩
    obtain ⟨c, hc⟩ := Option.isSome_iff_exists.1 hb1
    have hbody : bodyOf fn = c := by simp [bodyOf, hc]
    rw [hbody] at h
    unfold MidOK at hM
    rw [hbody] at hM
    obtain ⟨e, T', H1, h1, h2⟩ := evalP_sound hcall hdraw hmix n tb M c M.path hM (hrg c hc) _ _ _ _ h
    exact ends_sound hf hc h1 h2
theorem putAll_rel {m : Mp} : ∀ (ps : List Tmp) (vs us T Ts : List Value), LRel m vs us → LRel m T Ts → LRel m (putAll ps vs T) ((ps.zip us).foldl (fun T (t, a) => T.set t a) Ts)
  | [], vs, us, T, Ts, hv, hT => by simpa [putAll] using hT
  | p :: ps, [], us, T, Ts, hv, hT => by rw [hv.nil_inv]; simpa [putAll] using hT
  | p :: ps, v :: vs, us, T, Ts, hv, hT => by
    obtain ⟨u, zs, rfl, h1, h2⟩ := hv.cons_inv
    exact putAll_rel ps vs zs _ _ h2 (hT.set p h1)
theorem runY_sound (hcall : CallOK P call) (hdraw : DrawOK P call) (hmix : P.follows .mixedOrders = true) {n0 : Nat} {tbs : FuncId → Tbl} {b : Nat} {args : List Value} {H : AH} {v : Value} {H' : AH}
    (h : runY P call n0 tbs b args H = some (v, H')) : SimYield P b args H v H' := by
  unfold runY at h
  obtain ⟨k, h1, h2⟩ := bind_some h
  split at h2
  · rename_i f key x T hk hc
    obtain ⟨rg, h3, h4⟩ := bind_some h2
    cases hb : args.length == rg.1.size && ((rgs rg.2.1).isEmpty && (rgs rg.2.2).isEmpty) with
    | false => rw [hb] at h4; cases h4
    | true =>
      rw [hb] at h4
      rw [Bool.and_eq_true, Bool.and_eq_true] at hb
      obtain ⟨hb1, hb2, hb3⟩ := hb
      simp only [List.isEmpty_iff] at hb2 hb3
      simp only [cond_true] at h4
      intro n B0 w0 m w args' L R0 hargs hm hLk
      have hB := R0.blks b L k hm h1
      obtain ⟨rc, hw, hr, c, T', e1, e2, e3⟩ := hB.lp f key hk
      rw [hr] at h3
      cases h3
      rw [hc] at e1
      injection e1 with _ e4
      subst e4
      have hsz : args'.toArray.size = rc.params.size := by
        have : args.length = rc.params.size := by simpa using hb1
        rw [← this, hargs.1]
        simp
      refine ⟨rc.fn, _, rc.assign, rc.body, run_yield hw hsz, ?_⟩
      refine roundIn_of_wpIn (F := FW none) trivial ?_
      show rc.assign.wpIn (FW (some L.blk)) n P _ _ w
      unfold roundY at h4
      obtain ⟨ea, Ta, Ha, h5, h6⟩ := evalK_sound hcall hdraw hmix n0 (tbs f) (some L.blk) rc.assign (.inr hb2) (RangesAt.nil hb2) _ _ _ _ h4
      cases ea with
      | exit i => cases h5
      | ret => cases h5
      | normal =>
        obtain ⟨Hs, h7, h8⟩ := bind_some h5
        refine h6 n w.heap.size B0 w0 m _ w _ R0 ?_ (Marks.nil _ _ _ _) (Nat.le_refl _) fun m1 a1 w1 A => ?_
        · have := putAll_rel rc.params.toList args args' T rc.tmps.toList hargs e2
          have e5 : ((rc.params.zip args'.toArray).foldl (fun tmps (t, a) => tmps.setIfInBounds t a) rc.tmps).toList = (rc.params.toList.zip args').foldl (fun T (t, a) => T.set t a) rc.tmps.toList := by
            have e6 : ∀ (l : List (Tmp × Value)) (ts : Array Value), (l.foldl (fun tmps (t, a) => tmps.setIfInBounds t a) ts).toList = l.foldl (fun T (t, a) => T.set t a) ts.toList := by
              intro l
              induction l with
              | nil => intro ts; rfl
              | cons q l ih => intro ts; simp only [List.foldl_cons]; rw [ih]; simp
            rw [← e6, ← Array.foldl_toList]
            simp
          rw [e5]
          exact this
        · show ∃ w₂, (Instr.beginRound L.blk).run P w1 = .ok () w₂ ∧ rc.body.wpIn (FW (some L.blk)) n P (roundPost P L.blk _) a1 w₂
          have hm1 := A.ext.mono _ _ hm
          obtain ⟨rc1, hw1, hst1, hturn1⟩ := A.rel.setSt hm1 h7
          obtain ⟨R2, E2⟩ := hturn1 .busy rc1.pending rfl
          refine ⟨_, run_beginRound hw1 hst1.1, ?_⟩
          obtain ⟨eb, Tb, Hb, h9, h10⟩ := evalK_sound hcall hdraw hmix n0 (tbs f) (some L.blk) rc.body (.inr hb3) (RangesAt.nil hb3) _ _ _ _ h8
          refine h10 n w.heap.size B0 w0 m1 a1 _ _ R2 A.tmps (A.marks.ext A.rel E2) (Nat.le_trans A.ext.size E2.size) fun m3 a3 w3 A3 => ?_
          obtain ⟨Hf, h11, h12⟩ := bind_some h9
          obtain ⟨rfl, rfl⟩ : Value.bool (xB eb) = v ∧ Hf = H' := by cases h12; exact ⟨rfl, rfl⟩
          have hm3 := A3.ext.mono _ _ hm1
          obtain ⟨rc3, hw3, hst3, hturn3⟩ := A3.rel.setSt hm3 h11
          have fin : ∀ (jump : Option Code), StOK (xSt eb) (if jump.isNone then .ready else .done) jump → jump.isNone = xB eb → ∃ v w', (Instr.endRound L.blk jump).run P w3 = .ok v w' ∧ ∃ m' v', Ending.returned v = .returned v' ∧ VRel m' (.bool (xB eb)) v' ∧ Rel P B0 w0 m' Hf w' ∧ Ext m H w m' Hf w' := by
            intro jump hj hn
            obtain ⟨R4, E4⟩ := hturn3 _ _ hj
            refine ⟨_, _, run_endRound jump hw3, m3, _, rfl, by rw [hn]; exact .flat _ rfl, R4, ?_⟩
            exact Ext.trans (fun b L hb => (R0.dom b L hb).1) A.ext (Ext.trans (fun b L hb => (A.rel.dom b L hb).1) E2 (Ext.trans (fun b L hb => (R2.dom b L hb).1) A3.ext E4))
          cases eb with
          | normal => exact fin none ⟨rfl, rfl⟩ rfl
          | ret => exact fin (some .ret) ⟨rfl, rfl⟩ rfl
          | exit i => exact fin (some (.exit i)) ⟨rfl, rfl⟩ rfl
  · cases h2
theorem run_sound (hdraw : ∀ call, CallOK P call → DrawOK P call) (hmix : P.follows .mixedOrders = true) {tbs : FuncId → Tbl} (hrg : RangesOK P tbs) {gv : Given} (hgv : GivenOK P gv) : ∀ k, CallOK P (run P tbs gv k)
  | 0 => ⟨fun f args H v H' _ h => (by cases h), fun b args H v H' h => (by cases h)⟩
  | k + 1 => by
    have ih := run_sound (tbs := tbs) hdraw hmix hrg hgv k
    constructor
    · intro f args H v H' hf h
      unfold run at h
      have hb : Nat.ble yOff f = false := by
        cases hb : Nat.ble yOff f with
        | false => rfl
        | true => have := Nat.le_of_ble_eq_true hb; omega
      rw [hb] at h
      simp only [cond_false] at h
      split at h
      · rename_i g hg
        exact hgv f g hg _ _ ih (hdraw _ ih) args H v H' h
      · obtain ⟨fn, h1, h2⟩ := bind_some h
        refine runFn_sound ih (hdraw _ ih) hmix h1 (fun c hc => ?_) h2
        rcases hrg f fn c h1 hc with h3 | ⟨h3, h4⟩
        · exact RangesAt.nil h3
        · rw [h3]; exact h4
    · intro b args H v H' h
      unfold run at h
      have hb : Nat.ble yOff (yOff + b) = true := Nat.ble_eq_true_of_le (Nat.le_add_right _ _)
      rw [hb] at h
      simp only [cond_true, Nat.add_sub_cancel_left] at h
      exact runY_sound ih (hdraw _ ih) hmix h
end
end Go.AM
namespace Go.AM
open Go.RowKit
variable {P : Program} {B0 : Nat} {w0 : World} {m : Mp} {H : AH} {w : World}
def gCopy (P : Program) (Ts : List TypeId) (args : List Value) (H : AH) : Option (Value × AH) :=
  match args with
  | [.pointer (some ⟨b, 0, none⟩)] =>
    (blk H b).bind fun k => if k.kind = .fix ∧ k.elem ∈ Ts ∧ k.cells.length = szT P k.elem then
      (match k.cells with
      | .pointer none :: x => some (.tuple #[], put H b k (.pointer (some ⟨b, 0, none⟩) :: x))
      | .pointer (some ⟨b2, 0, none⟩) :: x => if b2 = b then some (.tuple #[], H) else none
      | _ => none) else none
  | _ => none
theorem setCell_row {w : World} {g : Nat} {c : Array Value} {e : TypeId} {fr : Nat × Nat} {v : Value} (h : w.heap[g]? = some (.cells c e fr)) : w.setCell ⟨g, 0, none⟩ v = w.setRow g (c.setIfInBounds 0 v) := by
  have hlt : g < w.heap.size := (Array.getElem?_eq_some_iff.1 h).1
  have hg := (Array.getElem?_eq_some_iff.1 h).2
  unfold World.setCell World.setRow
  congr 1
  apply Array.ext
  · simp
  · intro i h1 h2
    simp only [Array.getElem_modify]
    split
    · rename_i hi
      subst hi
      rw [hg]
      rfl
    · rfl
theorem gCopy_ok {f : Nat} {Ts : List TypeId} (hen : Enterable P f)
    (fresh : ∀ T ∈ Ts, ∀ (b : Nat) (w : World), w.cell? ⟨b, 0, none⟩ = some (.pointer none) → w.shape? b = some (T, szT P T) → w.frozen? ⟨b, 0, none⟩ = false → Calls P f #[.pointer (some ⟨b, 0, none⟩)] w fun e w' => e = .returned (.tuple #[]) ∧ w' = w.setCell ⟨b, 0, none⟩ (.pointer (some ⟨b, 0, none⟩)))
    (used : ∀ (b : Nat) (w : World), w.cell? ⟨b, 0, none⟩ = some (.pointer (some ⟨b, 0, none⟩)) → Calls P f #[.pointer (some ⟨b, 0, none⟩)] w fun e w' => e = .returned (.tuple #[]) ∧ w' = w) :
    ∀ args H v H', gCopy P Ts args H = some (v, H') → Enterable P f ∧ SimCall P f args H v H' := by
  intro args H v H' h
  refine ⟨hen, ?_⟩
  intro B0 w0 m w args' R hl
  unfold gCopy at h
  split at h
  · rename_i b
    cases hb : blk H b with
    | none => rw [hb] at h; cases h
    | some k =>
      rw [hb] at h
      simp only [Option.bind_some] at h
      split at h
      · rename_i hc
        obtain ⟨hk, hT, hlen⟩ := hc
        obtain ⟨y, zs, rfl, hy, hz⟩ := hl.cons_inv
        have := hz.nil_inv
        subst this
        obtain ⟨L, hm, rfl, hnm⟩ := hy.ptr_inv
        have hB := R.blks b L k hm hb
        obtain ⟨c, e, fr, hw, hlr, h3, h4, _⟩ := hB.there (by rw [← hB.kind]; exact hnm)
        have hro : k.kind ≠ .ro := by rw [hk]; decide
        obtain ⟨h3a, rfl, _⟩ := h3 hro
        obtain rfl := h3a (by rw [hk]; decide) (by rw [hk]; decide)
        obtain ⟨hb0, hcs⟩ := h4 hk
        rw [hb0] at hlr ⊢
        rw [Nat.zero_add]
        rw [List.drop_zero, ← hcs] at hlr
        have htk : c.toList.take c.size = c.toList := List.take_of_length_le (by simp)
        rw [htk] at hlr
        show Calls P f #[.pointer (some ⟨L.blk, 0, none⟩)] w _
        split at h
        · rename_i x hcells
          cases h
          rw [hcells] at hlr hcs
          obtain ⟨y1, zs1, e1, hy1, hr1⟩ := hlr.cons_inv
          have e2 := VRel.flat_inv rfl hy1
          subst e2
          have hc0 : c[0]? = some (.pointer none) := by rw [← Array.getElem?_toList, e1]; rfl
          have hcell : w.cell? ⟨L.blk, 0, none⟩ = some (.pointer none) := by unfold World.cell?; rw [hw]; simp [hc0]
          have hshape : w.shape? L.blk = some (k.elem, szT P k.elem) := by
            have hlen' : c.size = szT P k.elem := by rw [hcs, ← hcells]; exact hlen
            unfold World.shape?; rw [hw]; show some (k.elem, c.size) = _; rw [hlen']
          have hfz : w.frozen? ⟨L.blk, 0, none⟩ = false := by unfold World.frozen?; rw [hw]; simp
          refine (fresh _ hT L.blk w hcell hshape hfz).mono fun e w' he => ?_
          obtain ⟨rfl, rfl⟩ := he
          rw [setCell_row hw]
          have hlr2 : LRel m (.pointer (some ⟨b, 0, none⟩) :: x) (((c.setIfInBounds 0 (.pointer (some ⟨L.blk, 0, none⟩))).toList.drop L.base).take (Value.pointer (some ⟨b, 0, none⟩) :: x).length) := by
            rw [hb0, List.drop_zero, Array.toList_setIfInBounds, e1]
            have hl1 := hr1.1
            have e3 : (Value.pointer none :: zs1).set 0 (.pointer (some ⟨L.blk, 0, none⟩)) = .pointer (some ⟨L.blk, 0, none⟩) :: zs1 := rfl
            rw [e3, List.take_of_length_le (by simp at hl1 ⊢; omega)]
            refine LRel.cons ?_ hr1
            have := VRel.ptr (m := m) b 0 L hm hnm
            rw [hb0] at this
            exact this
          obtain ⟨q1, q2⟩ := R.write hm hb hro hw (.pointer (some ⟨b, 0, none⟩) :: x) (c.setIfInBounds 0 (.pointer (some ⟨L.blk, 0, none⟩))) (by simp) (by rw [hcells]; rfl) hlr2
          exact ⟨m, _, rfl, .tuple _ _ rfl (fun i x y h => by simp at h), q1, q2⟩
        · rename_i b2 x hcells
          split at h
          · rename_i hbb
            subst hbb
            cases h
            rw [hcells] at hlr
            obtain ⟨y1, zs1, e1, hy1, hr1⟩ := hlr.cons_inv
            obtain ⟨L2, hm2, rfl, hnm2⟩ := hy1.ptr_inv
            rw [hm] at hm2
            cases hm2
            rw [hb0] at e1
            have hc0 : c[0]? = some (.pointer (some ⟨L.blk, 0, none⟩)) := by rw [← Array.getElem?_toList, e1]; rfl
            have hcell : w.cell? ⟨L.blk, 0, none⟩ = some (.pointer (some ⟨L.blk, 0, none⟩)) := by unfold World.cell?; rw [hw]; simp [hc0]
            refine (used L.blk w hcell).mono fun e w' he => ?_
            obtain ⟨rfl, hw'⟩ := he
            rw [hw']
            exact ⟨m, _, rfl, .tuple _ _ rfl (fun i x y h => by simp at h), R, Ext.refl m H w⟩
          · cases h
        · cases h
      · cases h
  · cases h
end Go.AM
namespace Go.AM
open Go.RowKit
variable {P : Program} {B0 : Nat} {w0 : World} {m : Mp} {H : AH} {w : World}
def gGrow (P : Program) (Ts : List TypeId) (e : TypeId) (args : List Value) (H : AH) : Option (Value × AH) :=
  match args with
  | [.pointer (some ⟨b, 0, none⟩), .int .i64 n] =>
    (blk H b).bind fun k => if (k.kind = .fix ∧ k.elem ∈ Ts ∧ k.cells.length = szT P k.elem) ∧ (0 < n ∧ n ≤ 140737488355328) then
      (match k.cells with
      | .pointer none :: .slice none 0 0 :: x => some (.tuple #[], put (mkB H [] e .buf) b k (.pointer (some ⟨b, 0, none⟩) :: sl H.length 0 0 1 :: x))
      | _ => none) else none
  | _ => none
theorem Rel.of_heap {w' : World} (R : Rel P B0 w0 m H w) (h : w'.heap = w.heap) (hb : Below B0 w0 w') : Rel P B0 w0 m H w' :=
  ⟨hb, by rw [h]; exact R.hB, fun b L hb => by rw [h]; exact R.dom b L hb, fun b L k hb hk => (by
    exact (R.blks b L k hb hk).at (fun _ _ h => h) (by rw [h])), R.inj⟩
theorem Ext.of_heap {m' : Mp} {H' : AH} {w1 w2 : World} (E : Ext m H w m' H' w1) (h : w2.heap = w1.heap) : Ext m H w m' H' w2 :=
  ⟨E.mono, E.len, by rw [h]; exact E.size, E.alive, E.new, fun B hB hr => by rw [h]; exact E.frame B hB hr⟩
theorem gGrow_ok {f : Nat} {Ts : List TypeId} {e : TypeId} (hen : Enterable P f) (h1e : szT P e = 1) (h2T : ∀ T ∈ Ts, 2 ≤ szT P T)
    (hc : ∀ T ∈ Ts, ∀ (b n : Nat) (w : World) (c : Array Value), w.heap[b]? = some (.cells c T (0, 0)) → c.size = szT P T → c[0]? = some (.pointer none) → c[1]? = some (.slice none 0 0) → 0 < n → n ≤ 140737488355328 →
      Calls P f #[.pointer (some ⟨b, 0, none⟩), .int .i64 n] w fun r w' => r = .returned (.tuple #[]) ∧ ∃ cs : Array Value,
        w'.heap = ((w.alloc (.cells cs e)).setRow b ((c.setIfInBounds 0 (.pointer (some ⟨b, 0, none⟩))).setIfInBounds 1 (.slice (some ⟨w.heap.size, 0, none⟩) 0 cs.size))).heap ∧ Below b w w') :
    ∀ args H v H', gGrow P Ts e args H = some (v, H') → Enterable P f ∧ SimCall P f args H v H' := by
  intro args H v H' h
  refine ⟨hen, ?_⟩
  intro B0 w0 m w args' R hl
  unfold gGrow at h
  split at h
  · rename_i b n
    cases hb : blk H b with
    | none => rw [hb] at h; cases h
    | some k =>
      rw [hb] at h
      simp only [Option.bind_some] at h
      split at h
      · rename_i hcnd
        obtain ⟨⟨hk, hT, hlen⟩, hn0, hn1⟩ := hcnd
        obtain ⟨y, zs, rfl, hy, hz⟩ := hl.cons_inv
        obtain ⟨y2, zs2, rfl, hy2, hz2⟩ := hz.cons_inv
        have := hz2.nil_inv
        subst this
        have e2 := VRel.flat_inv (x := .int .i64 n) rfl hy2
        subst e2
        obtain ⟨L, hm, rfl, hnm⟩ := hy.ptr_inv
        have hB := R.blks b L k hm hb
        obtain ⟨c, e', fr, hw, hlr, h3, h4, _⟩ := hB.there (by rw [← hB.kind]; exact hnm)
        have hro : k.kind ≠ .ro := by rw [hk]; decide
        obtain ⟨h3a, rfl, _⟩ := h3 hro
        obtain rfl := h3a (by rw [hk]; decide) (by rw [hk]; decide)
        obtain ⟨hb0, hcs⟩ := h4 hk
        rw [hb0] at hlr ⊢
        rw [Nat.zero_add]
        rw [List.drop_zero, ← hcs] at hlr
        have htk : c.toList.take c.size = c.toList := List.take_of_length_le (by simp)
        rw [htk] at hlr
        split at h
        · rename_i x hcells
          cases h
          rw [hcells] at hlr hcs
          obtain ⟨y1, zs1, e1, hy1, hr1⟩ := hlr.cons_inv
          obtain ⟨y3, zs3, e3, hy3, hr3⟩ := hr1.cons_inv
          subst e3
          have e5 := VRel.flat_inv rfl hy1
          have e6 := VRel.flat_inv rfl hy3
          subst e5 e6
          have hc0 : c[0]? = some (.pointer none) := by rw [← Array.getElem?_toList, e1]; rfl
          have hc1 : c[1]? = some (.slice none 0 0) := by rw [← Array.getElem?_toList, e1]; rfl
          obtain ⟨q, rfl⟩ : ∃ q : Nat, n = q := ⟨n.toNat, by omega⟩
          refine (hc _ hT L.blk q w c hw (by rw [hcs, ← hcells]; exact hlen) hc0 hc1 (by omega) (by omega)).mono fun r w' hr => ?_
          obtain ⟨rfl, cs, hheap, hbel⟩ := hr
          obtain ⟨R1, E1⟩ := R.make [] e .buf cs (by decide) (by simpa using LRel.nil m) (fun h => by cases h)
          have hblt := blk_lt' hb
          have hm1 : upd m H.length ⟨w.heap.size, 0, .buf, cs.size, szT P e⟩ b = some L := E1.mono b L hm
          have hb1 : blk (mkB H [] e .buf) b = some k := by rw [blk_mkB_old' _ _ _ hblt]; exact hb
          have hlt := (R.dom b L hm).2
          have hw1 : (w.alloc (.cells cs e)).heap[L.blk]? = some (.cells c k.elem (0, 0)) := by rw [Below.heap_alloc w _ _ hlt]; exact hw
          have hlr2 : LRel (upd m H.length ⟨w.heap.size, 0, .buf, cs.size, szT P e⟩) (.pointer (some ⟨b, 0, none⟩) :: sl H.length 0 0 1 :: x)
              (((((c.setIfInBounds 0 (.pointer (some ⟨L.blk, 0, none⟩))).setIfInBounds 1 (.slice (some ⟨w.heap.size, 0, none⟩) 0 cs.size))).toList.drop L.base).take (Value.pointer (some ⟨b, 0, none⟩) :: sl H.length 0 0 1 :: x).length) := by
            rw [hb0, List.drop_zero, Array.toList_setIfInBounds, Array.toList_setIfInBounds, e1]
            have hl1 := hr3.1
            have e7 : ((Value.pointer none :: Value.slice none 0 0 :: zs3).set 0 (.pointer (some ⟨L.blk, 0, none⟩))).set 1 (.slice (some ⟨w.heap.size, 0, none⟩) 0 cs.size) = .pointer (some ⟨L.blk, 0, none⟩) :: .slice (some ⟨w.heap.size, 0, none⟩) 0 cs.size :: zs3 := rfl
            rw [e7, List.take_of_length_le (by simp at hl1 ⊢; omega)]
            refine LRel.cons ?_ (LRel.cons ?_ (hr3.mono E1.mono))
            · have := VRel.ptr b 0 L hm1 hnm
              rw [hb0] at this
              exact this
            · have := VRel.slice (m := upd m H.length ⟨w.heap.size, 0, .buf, cs.size, szT P e⟩) H.length 0 0 0 1 cs.size ⟨w.heap.size, 0, .buf, cs.size, szT P e⟩ (upd_same _ _ _) rfl (by omega) (by omega) (.inr rfl) (fun h => by cases h) (fun _ _ _ => by rw [h1e]; simp) (fun _ => .inl (by omega))
              exact this
          obtain ⟨R2, E2⟩ := R1.write hm1 hb1 hro hw1 (.pointer (some ⟨b, 0, none⟩) :: sl H.length 0 0 1 :: x) _ (by simp) (by rw [hcells]; rfl) hlr2
          have E3 := Ext.trans (fun b L hb => (R.dom b L hb).1) E1 E2
          refine ⟨_, _, rfl, .tuple _ _ rfl (fun i x y h => by simp at h), R2.of_heap hheap ?_, E3.of_heap hheap⟩
          exact R.below.trans (hbel.mono (hB.own hro))
        · cases h
      · cases h
  · cases h
end Go.AM
namespace Go.AM
open Go.RowKit

section
variable {P : Program} {call : CallF}

theorem aCall_congr {R : Type} {ρ ρ' : Operand → Value} (c : Call) (h : ∀ x ∈ c.operands, ρ x = ρ' x) (H : AH) (K : Value → AH → Option R) : aCall P call ρ c H K = aCall P call ρ' c H K := by
  have h1 : ∀ x ∈ c.args.toList, ρ x = ρ' x := fun x hx => h x (by unfold Call.operands; exact Array.mem_append.2 (.inr (by simpa using hx)))
  have hargs : c.args.toList.map ρ = c.args.toList.map ρ' := List.map_congr_left h1
  unfold aCall
  split
  · rename_i f hc
    have hf : ρ f = ρ' f := h f (by unfold Call.operands; rw [hc]; simp)
    rw [hf, hargs]
  · split
    · rename_i t u s x ht ha
      rw [h1 s (by rw [ha]; simp), h1 x (by rw [ha]; simp)]
    · rfl
  · split
    · rename_i t u s x ht ha
      rw [h1 s (by rw [ha]; simp), h1 x (by rw [ha]; simp)]
    · rfl
  · split
    · rename_i t x ht ha
      rw [h1 x (by rw [ha]; simp)]
    · rfl
  · split
    · rename_i t x ht ha
      rw [h1 x (by rw [ha]; simp)]
    · rfl
  · rw [hargs]
  · rw [hargs]
  · split
    · rename_i x ha
      rw [h1 x (by rw [ha]; simp)]
    · rfl
  · split
    · rename_i t u s x ht ha
      rw [h1 s (by rw [ha]; simp), h1 x (by rw [ha]; simp)]
    · rfl
  · rfl
theorem aRes_congr {ρ ρ' : Operand → Value} (op : Op) (h : ∀ x ∈ op.operands, ρ x = ρ' x) (H : AH) : aRes P call ρ op H = aRes P call ρ' op H := by
  have pairs : ∀ ps : Array (Nat × Operand), (∀ x ∈ ps.map (·.2), ρ x = ρ' x) → (ps.toList.map fun p => (p.1, ρ p.2)) = (ps.toList.map fun p => (p.1, ρ' p.2)) := fun ps hp =>
    List.map_congr_left fun p hm => by rw [hp p.2 (Array.mem_map.2 ⟨p, by simpa using hm, rfl⟩)]
  unfold aRes
  cases op <;> simp only [Op.operands] at h <;> simp only [aOp]
  case build t ps => rw [pairs ps fun x hx => h x (by simpa using hx)]
  case buildSlice t n ps => rw [pairs ps fun x hx => h x (by simpa using hx)]
  case makeFunc fn first captured =>
    cases fn <;> simp only [aOp]
    rw [List.map_congr_left (l := first.toList) fun x hx => h x (by simp at hx; simp [hx]), List.map_congr_left (l := captured.toList) fun x hx => h x (by simp at hx; simp [hx])]
  case makeMap t r => cases r <;> simp [aOp]
  case call c => exact aCall_congr c h H _
  case slice t x lo hi mx =>
    cases mx with
    | some mx => cases lo <;> cases hi <;> simp_all [aOp]
    | none => cases lo <;> cases hi <;> simp_all [aOp]
  all_goals (first | rfl | (simp_all; done))
theorem opRead_congr {ρ ρ' : Operand → Value} (op : Op) (h : ∀ x ∈ op.operands, ρ x = ρ' x) : opRead P ρ op = opRead P ρ' op := by
  cases op <;> simp only [Op.operands] at h <;> simp only [opRead]
  case load t x => rw [h x (by simp)]
  case convert s d x => rw [h x (by simp)]
  case lookup t m k two => rw [h m (by simp), h k (by simp)]
  case slice t x lo hi mx =>
    cases mx with
    | some mx => cases lo <;> cases hi <;> simp_all [opRead]
    | none => rfl
  case call c =>
    obtain ⟨callee, args, ts⟩ := c
    cases callee with
    | builtin b =>
      cases b <;> simp only [opRead]
      split
      · rename_i t x ht ha
        rw [h x (by have : x ∈ args.toList := by rw [ha]; simp
                    simp [Call.operands]; simpa using this)]
      · rfl
    | _ => simp only [opRead]
theorem ld_keep {t : TypeId} {H X : AH} {a v : Value} (hk : ∀ b k, blk H b = some k → blk X b = some k) (h : ld P t H a = some v) : ld P t X a = some v := by
  unfold ld at h ⊢
  split at h
  · unfold ldA at h ⊢
    split at h
    · obtain ⟨k, h1, h2⟩ := bind_some h
      simp only [hk _ _ h1, Option.bind_some]
      exact h2
    · cases h
  · unfold ldC at h ⊢
    split at h
    · obtain ⟨k, h1, h2⟩ := bind_some h
      simp only [hk _ _ h1, Option.bind_some]
      exact h2
    · cases h
  · cases h
theorem sliceCells_keep {sz n : Nat} {H X : AH} {x : Value} {cs : List Value} (hk : ∀ b k, blk H b = some k → blk X b = some k) (h1 : sliceCells sz H x n = some cs) : sliceCells sz X x n = some cs := by
  unfold sliceCells at h1 ⊢
  split at h1
  · exact h1
  · split at h1
    · rename_i hn0; simp only [hn0, if_true]; exact h1
    · split at h1
      · obtain ⟨k, h3, h4⟩ := bind_some h1
        rename_i hn0 hle
        simp only [hn0, hle, if_true, if_false, hk _ _ h3, Option.bind_some]
        exact h4
      · cases h1
  · exact h1
  · cases h1
theorem cvS_keep {s d : TypeId} {H X : AH} {a v : Value} (hk : ∀ b k, blk H b = some k → blk X b = some k) (h : cvS P s d H a = some v) : cvS P s d X a = some v := by
  unfold cvS at h ⊢
  split at h
  · split at h
    · rename_i he
      obtain ⟨cs, h1, h2⟩ := bind_some h
      simp only [he, sliceCells_keep hk h1, Option.bind_some]
      exact h2
    · cases h
  · cases h
theorem mapCells_keep {H X : AH} {x : Value} {cs : List Value} (hk : ∀ b k, blk H b = some k → blk X b = some k) (h : mapCells H x = some cs) : mapCells X x = some cs := by
  unfold mapCells at h ⊢
  split at h
  · exact h
  · rename_i b
    unfold mapB at h ⊢
    cases hb : blk H b with
    | none => rw [hb] at h; cases h
    | some k => rw [hb] at h; rw [hk _ _ hb]; exact h
  · cases h
theorem lkU_keep {t : TypeId} {H X : AH} {x key v : Value} {two : Bool} (hk : ∀ b k, blk H b = some k → blk X b = some k) (h : lkU P t H x key two = some v) : lkU P t X x key two = some v := by
  unfold lkU at h ⊢
  split at h
  · rename_i kt et hd
    obtain ⟨D, h1, h2⟩ := bind_some h
    obtain ⟨cs, h3, h4⟩ := bind_some h2
    simp only [h1, Option.bind_some, mapCells_keep hk h3]
    exact h4
  · cases h
theorem lenM_keep {t : TypeId} {H X : AH} {x v : Value} (hk : ∀ b k, blk H b = some k → blk X b = some k) (h : lenM P t H x = some v) : lenM P t X x = some v := by
  unfold lenM at h ⊢
  split at h
  · cases hc : mapCells H x with
    | none => rw [hc] at h; cases h
    | some cs => rw [hc] at h; rw [mapCells_keep hk hc]; exact h
  · cases h
theorem slc3_keep {t : TypeId} {H X : AH} {x v mx : Value} {lo hi : Option Value} (hk : ∀ b k, blk H b = some k → blk X b = some k) (h : slc3 P t H x lo hi mx = some v) : slc3 P t X x lo hi mx = some v := by
  unfold slc3 at h ⊢
  split at h
  · split at h
    · rename_i hc
      rw [if_pos hc]
      split at h
      · rename_i hz
        rw [if_pos hz]; exact h
      · rename_i hz
        rw [if_neg hz]
        split at h
        · rename_i h2
          rw [if_pos h2]
          obtain ⟨k, h3, h4⟩ := bind_some h
          simp only [hk _ _ h3, Option.bind_some]
          exact h4
        · cases h
    · cases h
  · exact h
  · cases h
theorem opRead_keep {ρ : Operand → Value} {op : Op} {f : AH → Option Value} (hf : opRead P ρ op = some f) {H X : AH} {v : Value} (hk : ∀ b k, blk H b = some k → blk X b = some k) (h : f H = some v) : f X = some v := by
  unfold opRead at hf
  split at hf
  · cases hf; exact ld_keep hk h
  · rename_i s d x
    cases hb : isBytesToString P s d with
    | true => rw [hb] at hf; cases hf; exact cvS_keep hk h
    | false => rw [hb] at hf; cases hf
  · cases hf; exact lkU_keep hk h
  · cases hf; exact slc3_keep hk h
  · split at hf
    · rename_i t x _ _
      cases hb : isMapT P t with
      | true => rw [hb] at hf; cases hf; exact lenM_keep hk h
      | false => rw [hb] at hf; cases hf
    · cases hf
  · cases hf
end
end Go.AM
namespace Go.AM
open Go.RowKit

section
variable {P : Program} {call : CallF}

def PureAt (P : Program) (call : CallF) (ρ : Operand → Value) (op : Op) (H H' : AH) (v : Value) : Prop := H' = H ∧ ∀ X, aRes P call ρ op X = some (v, X)
theorem PureAt.one {ρ : Operand → Value} {op : Op} {H H' : AH} {v : Value} (x : Option Value) (e : ∀ X, aRes P call ρ op X = x.bind fun v => some (v, X)) (h : aRes P call ρ op H = some (v, H')) : PureAt P call ρ op H H' v := by
  rw [e] at h
  obtain ⟨u, h1, h2⟩ := bind_some h
  cases h2
  exact ⟨rfl, fun X => by rw [e, h1]; rfl⟩
theorem pure_res {ρ : Operand → Value} {op : Op} (he : isEff op = false) (hr : opRead P ρ op = none) (ha : isAlloc op = false) {H H' : AH} {v : Value} (h : aRes P call ρ op H = some (v, H')) : PureAt P call ρ op H H' v := by
  cases op
  case move x => exact .one (some (ρ x)) (fun X => rfl) h
  case assign x => exact .one (some (ρ x)) (fun X => rfl) h
  case pick c x y => exact .one _ (fun X => rfl) h
  case build t ps => exact .one _ (fun X => rfl) h
  case nilCheck x => exact .one _ (fun X => rfl) h
  case binOp op t x y yt => exact .one _ (fun X => rfl) h
  case unOp op t x => exact .one _ (fun X => rfl) h
  case fieldAddr s x i => exact .one _ (fun X => rfl) h
  case field s x i => exact .one _ (fun X => rfl) h
  case indexAddr s x i => exact .one _ (fun X => rfl) h
  case index s x i => exact .one _ (fun X => rfl) h
  case extract x i => exact .one _ (fun X => rfl) h
  case load t x => cases hr
  case lookup t m k two => cases hr
  case makeMap t r => cases ha
  case mapUpdate t m k x => cases he
  case insert t m k x => cases he
  case alloc t => cases ha
  case box t x => cases ha
  case buildSlice t n ps => cases ha
  case makeSlice t l c => cases ha
  case store t x y => cases he
  case convert s d x =>
    cases hb : isBytesToString P s d with
    | true => simp only [opRead, hb, cond_true] at hr; cases hr
    | false => exact .one (cv P s d (ρ x)) (fun X => by unfold aRes; simp only [aOp, hb, cond_false]) h
  case makeFunc fn first captured =>
    cases fn with
    | func f => exact .one (some (.func (.func f) (first.toList.map ρ).toArray (captured.toList.map ρ).toArray)) (fun X => rfl) h
    | _ => cases h
  case slice t x lo hi mx =>
    cases mx with
    | some _ => cases hr
    | none => exact .one _ (fun X => rfl) h
  case call c =>
    obtain ⟨callee, args, tys⟩ := c
    cases callee with
    | value f => cases he
    | invoke r m => cases h
    | builtin b =>
      cases b
      case append => cases he
      case copy => cases he
      case len =>
        have hm : ∀ t x, tys.toList = [t] → args.toList = [x] → isMapT P t = false := by
          intro t x ht hx
          simp only [opRead, ht, hx] at hr
          cases hb : isMapT P t with
          | false => rfl
          | true => rw [hb] at hr; cases hr
        refine .one (match tys.toList, args.toList with | [t], [x] => lenV P t (ρ x) | _, _ => none) (fun X => ?_) h
        show (match tys.toList, args.toList with | [t], [x] => (bif isMapT P t then (lenM P t X (ρ x)).bind fun v => some (v, X) else (lenV P t (ρ x)).bind fun v => some (v, X)) | _, _ => none) = _
        split
        · rename_i t x ht hx
          rw [hm t x ht hx]
          rfl
        · rfl
      case cap =>
        refine .one (match tys.toList, args.toList with | [t], [x] => capV P t (ρ x) | _, _ => none) (fun X => ?_) h
        show (match tys.toList, args.toList with | [t], [x] => (capV P t (ρ x)).bind fun v => some (v, X) | _, _ => none) = _
        split <;> rfl
      case min => exact .one _ (fun X => rfl) h
      case max => exact .one _ (fun X => rfl) h
      case unsafeSliceData =>
        refine .one (match args.toList with | [x] => sdV (ρ x) | _ => none) (fun X => ?_) h
        show (match args.toList with | [x] => (sdV (ρ x)).bind fun v => some (v, X) | _ => none) = _
        split <;> rfl
      case unsafeString => cases he
      all_goals cases h
  all_goals cases h
def MakesAt (P : Program) (call : CallF) (ρ : Operand → Value) (op : Op) (H H' : AH) (v : Value) : Prop := ∃ k : Blk, (v = ptr H.length 0 ∨ (∃ a c, v = sl H.length 0 a c) ∨ v = .map (some H.length)) ∧ H' = H ++ [some k] ∧ ∀ X : AH, X.length = H.length → aRes P call ρ op X = some (v, X ++ [some k])
theorem MakesAt.one {ρ : Operand → Value} {op : Op} {H H' : AH} {v : Value} (x : Option (Blk × (Nat → Value))) (hx : ∀ p, x = some p → ∀ n, p.2 n = ptr n 0 ∨ (∃ a c, p.2 n = sl n 0 a c) ∨ p.2 n = .map (some n)) (e : ∀ X, aRes P call ρ op X = x.bind fun p => some (p.2 X.length, X ++ [some p.1])) (h : aRes P call ρ op H = some (v, H')) : MakesAt P call ρ op H H' v := by
  rw [e] at h
  obtain ⟨p, h1, h2⟩ := bind_some h
  cases h2
  exact ⟨p.1, hx p h1 _, rfl, fun X hX => by rw [e, h1, ← hX]; rfl⟩
theorem box_form (t : TypeId) (X : AH) (v : Value) : (box t X v).bind (fun p => some (p.1, p.2)) = (if okCells v = true then some ((⟨v.cells.toList, t, .fix⟩ : Blk), fun n => ptr n 0) else none).bind fun p => some (p.2 X.length, X ++ [some p.1]) := by
  unfold box
  split <;> rfl
theorem alloc_res {ρ : Operand → Value} {op : Op} (ha : isAlloc op = true) {H H' : AH} {v : Value} (h : aRes P call ρ op H = some (v, H')) : MakesAt P call ρ op H H' v := by
  cases op
  case alloc t =>
    refine .one ((zeroT P t).bind fun z => if okCells z = true then some ((⟨z.cells.toList, t, .fix⟩ : Blk), fun n => ptr n 0) else none) ?_ (fun X => ?_) h
    · intro p hp
      obtain ⟨z, h1, h2⟩ := bind_some hp
      split at h2
      · cases h2; exact fun n => .inl rfl
      · cases h2
    · show (newV P t X).bind (fun p => some (p.1, p.2)) = _
      unfold newV
      rw [Option.bind_assoc, Option.bind_assoc]
      congr 1
      funext z
      exact box_form t X z
  case box t x =>
    refine .one (if okCells (ρ x) = true then some ((⟨(ρ x).cells.toList, t, .fix⟩ : Blk), fun n => ptr n 0) else none) ?_ (fun X => box_form t X (ρ x)) h
    intro p hp
    split at hp
    · cases hp; exact fun n => .inl rfl
    · cases hp
  case buildSlice t n ps =>
    refine .one (match P.underlying t with | some (.slice e) => (zeroT P e).bind fun z => if n * szT P e ≤ 16777216 ∧ z.cells.size = szT P e then (fillB (fun i => some (i * szT P e, szT P e)) (rep z.cells.toList n) (ps.toList.map fun p => (p.1, ρ p.2))).map fun cs => ((⟨cs, e, .fix⟩ : Blk), fun q => sl q 0 n n) else none | _ => none) ?_ (fun X => ?_) h
    · intro p hp
      split at hp
      · obtain ⟨z, h1, h2⟩ := bind_some hp
        split at h2
        · cases hf : fillB (fun i => some (i * szT P _, szT P _)) (rep z.cells.toList n) (ps.toList.map fun p => (p.1, ρ p.2)) with
          | none => rw [hf] at h2; cases h2
          | some cs => rw [hf] at h2; cases h2; exact fun q => .inr (.inl ⟨_, _, rfl⟩)
        · cases h2
      · cases hp
    · show (buildS P t X n (ps.toList.map fun p => (p.1, ρ p.2))).bind (fun p => some (p.1, p.2)) = _
      unfold buildS
      cases P.underlying t with
      | none => rfl
      | some d =>
        cases d with
        | slice e =>
          simp only
          rw [Option.bind_assoc, Option.bind_assoc]
          congr 1
          funext z
          split
          · cases fillB (fun i => some (i * szT P e, szT P e)) (rep z.cells.toList n) (ps.toList.map fun p => (p.1, ρ p.2)) <;> rfl
          · rfl
        | _ => rfl
  case makeSlice t l c =>
    refine .one (match P.underlying t, ρ l, ρ c with | some (.slice e), .int _ n, .int _ m => (zeroT P e).bind fun z => if 0 ≤ n ∧ n ≤ m ∧ m * byT P e ≤ 281474976710656 ∧ m ≤ 9223372036854775807 ∧ z.cells.size = szT P e ∧ okCells z = true then some ((⟨rep z.cells.toList m.toNat, e, .fix⟩ : Blk), fun q => sl q 0 n.toNat m.toNat) else none | _, _, _ => none) ?_ (fun X => ?_) h
    · intro p hp
      split at hp
      · obtain ⟨z, h1, h2⟩ := bind_some hp
        split at h2
        · cases h2; exact fun q => .inr (.inl ⟨_, _, rfl⟩)
        · cases h2
      · cases hp
    · show (mkS P t X (ρ l) (ρ c)).bind (fun p => some (p.1, p.2)) = _
      unfold mkS
      cases P.underlying t with
      | none => rfl
      | some d =>
        cases d with
        | slice e =>
          cases ρ l with
          | int k1 n =>
            cases ρ c with
            | int k2 q =>
              simp only
              rw [Option.bind_assoc, Option.bind_assoc]
              congr 1
              funext z
              split <;> rfl
            | _ => rfl
          | _ => rfl
        | _ => rfl
  case makeMap t r =>
    cases r with
    | some r => cases h
    | none =>
      refine .one (some ((⟨[], t, .map⟩ : Blk), fun n => .map (some n))) ?_ (fun X => rfl) h
      intro p hp
      cases hp
      exact fun n => .inr (.inr rfl)
  all_goals cases ha
end
end Go.AM
namespace Go.AM
open Go.RowKit

section
variable {P : Program} {call : CallF}

theorem befL_take : ∀ (l : List Oper) (acc : List Nat), (befL acc l).take acc.length = acc ∧ (befL acc l).length = acc.length + l.length ∧ ∀ (j : Nat) (o : Oper), l[j]? = some o → (befL acc l)[acc.length + j]? = some (maskOf ((befL acc l).take (acc.length + j)) o)
  | [], acc => by simp [befL]
  | o :: l, acc => by
    obtain ⟨h1, h2, h3⟩ := befL_take l (acc ++ [maskOf acc o])
    simp only [befL, List.length_append, List.length_cons, List.length_nil, Nat.zero_add] at h1 h2 h3 ⊢
    have h4 : (befL (acc ++ [maskOf acc o]) l).take acc.length = acc := by
      have := congrArg (List.take acc.length) h1
      rw [List.take_take, Nat.min_eq_left (by omega), List.take_left] at this
      exact this
    refine ⟨h4, by omega, fun j p hp => ?_⟩
    cases j with
    | zero =>
      simp at hp
      subst hp
      have : (befL (acc ++ [maskOf acc o]) l)[acc.length]? = ((befL (acc ++ [maskOf acc o]) l).take (acc.length + 1))[acc.length]? := by rw [List.getElem?_take, if_pos (by omega)]
      rw [Nat.add_zero, this, h1, h4]
      simp
    | succ j =>
      have := h3 j p (by simpa using hp)
      rw [show acc.length + (j + 1) = acc.length + 1 + j by omega]
      exact this
theorem maskOf_bit {acc : List Nat} {o : Oper} {i : Nat} (h : (maskOf acc o).testBit i = true) : ∃ e ∈ o.after, Region.binds .any e = true ∧ (e.on = i ∨ (acc.getD e.on 0).testBit i = true) := by
  have key : ∀ (l : List Edge) (s : Nat), (l.foldl (fun s e => bif Region.binds .any e then s ||| (2 ^ e.on ||| acc.getD e.on 0) else s) s).testBit i = true → s.testBit i = true ∨ ∃ e ∈ l, Region.binds .any e = true ∧ (e.on = i ∨ (acc.getD e.on 0).testBit i = true) := by
    intro l
    induction l with
    | nil => intro s hs; exact .inl hs
    | cons e l ih =>
      intro s hs
      rw [List.foldl_cons] at hs
      rcases ih _ hs with h1 | ⟨e', h1, h2⟩
      · cases hb : Region.binds .any e with
        | false => rw [hb] at h1; exact .inl h1
        | true =>
          rw [hb] at h1
          simp only [cond_true, Nat.testBit_or, Bool.or_eq_true] at h1
          rcases h1 with h1 | h1 | h1
          · exact .inl h1
          · refine .inr ⟨e, by simp, hb, .inl ?_⟩
            rw [Nat.testBit_two_pow] at h1
            simpa using h1
          · exact .inr ⟨e, by simp, hb, .inr h1⟩
      · exact .inr ⟨e', by simp [h1], h2⟩
  rcases key _ _ h with h1 | ⟨e, h1, h2⟩
  · simp at h1
  · exact ⟨e, by simpa using h1, h2⟩
def Down (ops : Array Oper) (D : Nat → Prop) : Prop := ∀ j o, ops[j]? = some o → D j → ∀ e ∈ o.after, Region.binds .any e = true → D e.on
theorem ordB_down {ops : Array Oper} {D : Nat → Prop} (hD : Down ops D) : ∀ (j : Nat) (o : Oper), ops[j]? = some o → (∀ e ∈ o.after, Region.binds .any e = true → D e.on) → ∀ i, ordB (befL [] ops.toList) i j = true → D i := by
  intro j
  induction j using Nat.strongRecOn with
  | _ j ih =>
    intro o ho hedges i hi
    obtain ⟨_, _, h3⟩ := befL_take ops.toList []
    have h4 := h3 j o (by simpa using ho)
    simp only [List.length_nil, Nat.zero_add] at h4
    unfold ordB at hi
    rw [List.getD_eq_getElem?_getD, h4, Option.getD_some] at hi
    obtain ⟨e, he, hb, h5⟩ := maskOf_bit hi
    have hde := hedges e he hb
    rcases h5 with h5 | h5
    · rw [← h5]; exact hde
    · rcases Nat.lt_or_ge e.on j with hlt | hge
      · rw [List.getD_eq_getElem?_getD, List.getElem?_take, if_pos hlt] at h5
        cases hoe : ops[e.on]? with
        | none =>
          exfalso
          have hlen := (befL_take ops.toList []).2.1
          have : (befL [] ops.toList)[e.on]? = none := List.getElem?_eq_none (by
            rw [hlen]
            simp
            have := Array.getElem?_eq_none_iff.1 hoe
            exact this)
          rw [this] at h5
          simp at h5
        | some oe =>
          refine ih e.on hlt oe hoe (fun e' he' hb' => hD e.on oe hoe hde e' he' hb') i ?_
          unfold ordB
          rw [List.getD_eq_getElem?_getD]
          exact h5
      · rw [List.getD_eq_getElem?_getD, List.getElem?_take, if_neg (by omega)] at h5
        simp at h5
end
end Go.AM
namespace Go.AM
open Go.RowKit

section
variable {P : Program} {call : CallF}

theorem blk_extH {X H H' : AH} {b : Nat} {k : Blk} (h : blk (extH X H H') b = some k) : blk X b = some k ∨ (b = H.length ∧ blk H' b = some k) := by
  unfold extH at h
  have h1 : (X.take H.length ++ List.replicate (H.length - X.length) (none : Option Blk)).length = H.length := by
    rw [List.length_append, List.length_take, List.length_replicate]; omega
  rcases Nat.lt_trichotomy b H.length with hb | hb | hb
  · left
    unfold blk at h ⊢
    rw [List.getElem?_append_left (by omega)] at h
    rcases Nat.lt_or_ge b X.length with h2 | h2
    · rw [List.getElem?_append_left (by rw [List.length_take]; omega), List.getElem?_take_of_lt hb] at h
      exact h
    · rw [List.getElem?_append_right (by rw [List.length_take]; omega), List.getElem?_replicate] at h
      split at h <;> cases h
  · right
    refine ⟨hb, ?_⟩
    rw [hb] at h ⊢
    generalize blk H' H.length = z at h ⊢
    unfold blk at h
    rw [List.getElem?_append_right (by omega), h1, Nat.sub_self] at h
    simpa using h
  · unfold blk at h
    rw [List.getElem?_eq_none (by rw [List.length_append, h1, List.length_singleton]; omega)] at h
    cases h
def Grow (tH : Nat → AH) (i j : Nat) (Y0 Y : AH) : Prop := ∀ b k, blk Y b = some k → blk Y0 b = some k ∨ ∃ e, i ≤ e ∧ e < j ∧ (tH e).length ≤ b ∧ b < (tH (e + 1)).length ∧ blk (tH (e + 1)) b = some k
theorem Grow.refl {tH : Nat → AH} {i j : Nat} {Y : AH} : Grow tH i j Y Y := fun b k h => .inl h
theorem Grow.congr {tH tH' : Nat → AH} {i j : Nat} {Y0 Y : AH} (h : Grow tH i j Y0 Y) (he : ∀ e, i ≤ e → tH' e = tH e) : Grow tH' i j Y0 Y := fun b k hb => by
  rcases h b k hb with h1 | ⟨e, h1, h2, h3, h4, h5⟩
  · exact .inl h1
  · exact .inr ⟨e, h1, h2, by rw [he e h1]; exact h3, by rw [he (e + 1) (by omega)]; exact h4, by rw [he (e + 1) (by omega)]; exact h5⟩
structure Tr (P : Program) (call : CallF) (ops : Array Oper) (bs : List Nat) (j0 : Nat) (tT : Nat → List Value) (tH : Nat → AH) (sk : Nat → Bool) (vl : Nat → Value) : Prop where
  step : ∀ j o, j0 ≤ j → ops[j]? = some o → tT (j + 1) = putT (tT j) o.dst (vl j)
  skip : ∀ j o, j0 ≤ j → ops[j]? = some o → sk j = true → (∃ g want, o.guard = some (g, want) ∧ Off (yieldV ops (tT j) g) want) ∧ vl j = undef ∧ tH (j + 1) = tH j
  go : ∀ j o, j0 ≤ j → ops[j]? = some o → sk j = false → o.guard = none ∨ ∃ g want, o.guard = some (g, want) ∧ yieldV ops (tT j) g = .bool want
  read : ∀ j o f, j0 ≤ j → ops[j]? = some o → sk j = false → opRead P (opv (tT j)) o.op = some f → f (tH j) = some (vl j) ∧ tH (j + 1) = tH j
  other : ∀ j o, j0 ≤ j → ops[j]? = some o → sk j = false → opRead P (opv (tT j)) o.op = none → aRes P call (opv (tT j)) o.op (tH j) = some (vl j, tH (j + 1))
  pastR : ∀ j o f e oe, j0 ≤ e → e < j → ops[j]? = some o → ops[e]? = some oe → sk j = false → sk e = false → isEff oe.op = true → opRead P (opv (tT j)) o.op = some f → ordB bs e j = false → ∃ Y, Grow tH (e + 1) j (tH e) Y ∧ f Y = some (vl j)
  futR : ∀ j o f e oe, j0 ≤ j → j < e → ops[j]? = some o → ops[e]? = some oe → sk j = false → sk e = false → isEff oe.op = true → opRead P (opv (tT j)) o.op = some f → ordB bs j e = false → f (tH (e + 1)) = some (vl j)
  futA : ∀ j o e oe, j0 ≤ j → j < e → ops[j]? = some o → ops[e]? = some oe → sk j = false → sk e = false → isEff oe.op = true → opRead P (opv (tT j)) o.op = none → isAlloc o.op = true → ordB bs j e = false → blk (tH (e + 1)) (tH j).length = blk (tH (j + 1)) (tH j).length

theorem aChk_inv {R : Type} {p : Prop} {x : Option R} {r : R} (h : aChk p x = some r) : p ∧ x = some r := by
  unfold aChk at h
  split at h
  · rename_i hp; exact ⟨hp, h⟩
  · cases h
theorem chkReads_inv {R : Type} {bs : List Nat} {j : Nat} {H : AH} {x : Option R} {r : R} : ∀ (rs : List Rd), chkReads bs j H x rs = some r → x = some r ∧ ∀ rd ∈ rs, ordB bs rd.at_ j = false → rd.ok H
  | [], h => ⟨h, fun rd hr => by cases hr⟩
  | rd :: rs, h => by
    unfold chkReads at h
    cases ho : ordB bs rd.at_ j with
    | true =>
      rw [ho] at h
      obtain ⟨h1, h2⟩ := chkReads_inv rs h
      refine ⟨h1, fun rd' hr hf => ?_⟩
      cases hr with
      | head => rw [ho] at hf; cases hf
      | tail _ hr => exact h2 rd' hr hf
    | false =>
      rw [ho] at h
      obtain ⟨h0, h⟩ := aChk_inv h
      obtain ⟨h1, h2⟩ := chkReads_inv rs h
      refine ⟨h1, fun rd' hr hf => ?_⟩
      cases hr with
      | head => exact h0
      | tail _ hr => exact h2 rd' hr hf
theorem chkPast_inv {R : Type} {bs : List Nat} {j : Nat} {ok : AH → Prop} {c : Bool} {x : Option R} {r : R} : ∀ (ps : List (Nat × AH × AH)), chkPast bs j ok c x ps = some r → x = some r ∧ ∀ p ∈ ps, ordB bs p.1 j = false → ok (pastH c p)
  | [], h => ⟨h, fun p hp => by cases hp⟩
  | p :: ps, h => by
    unfold chkPast at h
    cases ho : ordB bs p.1 j with
    | true =>
      rw [ho] at h
      obtain ⟨h1, h2⟩ := chkPast_inv ps h
      refine ⟨h1, fun p' hr hf => ?_⟩
      cases hr with
      | head => rw [ho] at hf; cases hf
      | tail _ hr => exact h2 p' hr hf
    | false =>
      rw [ho] at h
      obtain ⟨h0, h⟩ := aChk_inv h
      obtain ⟨h1, h2⟩ := chkPast_inv ps h
      refine ⟨h1, fun p' hr hf => ?_⟩
      cases hr with
      | head => exact h0
      | tail _ hr => exact h2 p' hr hf
structure TrP (P : Program) (ops : Array Oper) (bs : List Nat) (j0 : Nat) (tT : Nat → List Value) (tH : Nat → AH) (sk : Nat → Bool) (vl : Nat → Value) (past : List (Nat × AH × AH)) (reads : List Rd) : Prop where
  past : ∀ p ∈ past, ∀ j o f, j0 ≤ j → ops[j]? = some o → sk j = false → opRead P (opv (tT j)) o.op = some f → ordB bs p.1 j = false → ∃ Y0 Y, (Y0 = p.2.1 ∨ Y0 = p.2.2) ∧ Grow tH j0 j Y0 Y ∧ f Y = some (vl j)
  reads : ∀ rd ∈ reads, ∀ e oe, j0 ≤ e → ops[e]? = some oe → sk e = false → isEff oe.op = true → ordB bs rd.at_ e = false → rd.ok (tH (e + 1))
theorem read_not_eff {ρ : Operand → Value} {op : Op} {f : AH → Option Value} (h : opRead P ρ op = some f) : isEff op = false := by
  cases op
  case call c =>
    obtain ⟨callee, args, ts⟩ := c
    cases callee with
    | builtin b => cases b <;> first | rfl | (simp [opRead] at h; done)
    | _ => simp [opRead] at h
  all_goals first | rfl | (simp [opRead] at h; done)
theorem alloc_not_eff {op : Op} (h : isAlloc op = true) : isEff op = false := by
  cases op <;> first | rfl | (simp [isAlloc] at h; done)
theorem tr_cons {ops : Array Oper} {bs : List Nat} {j0 : Nat} {o : Oper} (ho : ops[j0]? = some o) {T : List Value} {H H1 : AH} {v : Value} {s : Bool} {tT : Nat → List Value} {tH : Nat → AH} {sk : Nat → Bool} {vl : Nat → Value}
    (h0 : tT (j0 + 1) = putT T o.dst v) (h1 : tH (j0 + 1) = H1) (X : Tr P call ops bs (j0 + 1) tT tH sk vl)
    (hskip : s = true → (∃ g want, o.guard = some (g, want) ∧ Off (yieldV ops T g) want) ∧ v = undef ∧ H1 = H)
    (hgo : s = false → o.guard = none ∨ ∃ g want, o.guard = some (g, want) ∧ yieldV ops T g = .bool want)
    (hread : ∀ f, s = false → opRead P (opv T) o.op = some f → f H = some v ∧ H1 = H)
    (hother : s = false → opRead P (opv T) o.op = none → aRes P call (opv T) o.op H = some (v, H1))
    (hpast : s = false → isEff o.op = true → ∀ j p f, j0 + 1 ≤ j → ops[j]? = some p → sk j = false → opRead P (opv (tT j)) p.op = some f → ordB bs j0 j = false → ∃ Y, Grow tH (j0 + 1) j H Y ∧ f Y = some (vl j))
    (hfutR : ∀ f, s = false → opRead P (opv T) o.op = some f → ∀ e oe, j0 + 1 ≤ e → ops[e]? = some oe → sk e = false → isEff oe.op = true → ordB bs j0 e = false → f (tH (e + 1)) = some v)
    (hfutA : s = false → opRead P (opv T) o.op = none → isAlloc o.op = true → ∀ e oe, j0 + 1 ≤ e → ops[e]? = some oe → sk e = false → isEff oe.op = true → ordB bs j0 e = false → blk (tH (e + 1)) H.length = blk H1 H.length) :
    Tr P call ops bs j0 (fun i => if i = j0 then T else tT i) (fun i => if i = j0 then H else tH i) (fun i => if i = j0 then s else sk i) (fun i => if i = j0 then v else vl i) := by
  have hne : ∀ {j}, j0 ≤ j → j ≠ j0 → j0 + 1 ≤ j := fun h1 h2 => by omega
  refine ⟨?_, ?_, ?_, ?_, ?_, ?_, ?_, ?_⟩
  · intro j p hj hp
    rw [if_neg (show j + 1 ≠ j0 by omega)]
    by_cases hjj : j = j0
    · subst hjj; rw [ho] at hp; cases hp; simp only [if_true]; exact h0
    · simp only [if_neg hjj]; exact X.step j p (hne hj hjj) hp
  · intro j p hj hp hs
    rw [if_neg (show j + 1 ≠ j0 by omega)]
    by_cases hjj : j = j0
    · subst hjj; rw [ho] at hp; cases hp; simp only [if_true] at hs ⊢; rw [h1]; exact hskip hs
    · simp only [if_neg hjj] at hs ⊢; exact X.skip j p (hne hj hjj) hp hs
  · intro j p hj hp hs
    by_cases hjj : j = j0
    · subst hjj; rw [ho] at hp; cases hp; simp only [if_true] at hs ⊢; exact hgo hs
    · simp only [if_neg hjj] at hs ⊢; exact X.go j p (hne hj hjj) hp hs
  · intro j p f hj hp hs hf
    rw [if_neg (show j + 1 ≠ j0 by omega)]
    by_cases hjj : j = j0
    · subst hjj; rw [ho] at hp; cases hp; simp only [if_true] at hs hf ⊢; rw [h1]; exact hread f hs hf
    · simp only [if_neg hjj] at hs hf ⊢; exact X.read j p f (hne hj hjj) hp hs hf
  · intro j p hj hp hs hf
    rw [if_neg (show j + 1 ≠ j0 by omega)]
    by_cases hjj : j = j0
    · subst hjj; rw [ho] at hp; cases hp; simp only [if_true] at hs hf ⊢; rw [h1]; exact hother hs hf
    · simp only [if_neg hjj] at hs hf ⊢; exact X.other j p (hne hj hjj) hp hs hf
  · intro j p f e oe he hej hp hoe hs hse hef hf hord
    rw [if_neg (show j ≠ j0 by omega)] at hs hf ⊢
    by_cases hee : e = j0
    · subst hee; rw [ho] at hoe; cases hoe; simp only [if_true] at hse ⊢
      obtain ⟨Y, g1, g2⟩ := hpast hse hef j p f (by omega) hp hs hf hord
      exact ⟨Y, g1.congr fun i hi => if_neg (by omega), g2⟩
    · simp only [if_neg hee] at hse ⊢
      obtain ⟨Y, g1, g2⟩ := X.pastR j p f e oe (hne he hee) hej hp hoe hs hse hef hf hord
      exact ⟨Y, g1.congr fun i hi => if_neg (by have := hne he hee; omega), g2⟩
  · intro j p f e oe hj hje hp hoe hs hse hef hf hord
    rw [if_neg (show e ≠ j0 by omega)] at hse
    rw [if_neg (show e + 1 ≠ j0 by omega)]
    by_cases hjj : j = j0
    · subst hjj; rw [ho] at hp; cases hp; simp only [if_true] at hs hf ⊢; exact hfutR f hs hf e oe (by omega) hoe hse hef hord
    · simp only [if_neg hjj] at hs hf ⊢; exact X.futR j p f e oe (hne hj hjj) hje hp hoe hs hse hef hf hord
  · intro j p e oe hj hje hp hoe hs hse hef hf ha hord
    rw [if_neg (show e ≠ j0 by omega)] at hse
    rw [if_neg (show e + 1 ≠ j0 by omega), if_neg (show j + 1 ≠ j0 by omega)]
    by_cases hjj : j = j0
    · subst hjj; rw [ho] at hp; cases hp; simp only [if_true] at hs hf ⊢; rw [h1]; exact hfutA hs hf ha e oe (by omega) hoe hse hef hord
    · simp only [if_neg hjj] at hs hf ⊢; exact X.futA j p e oe (hne hj hjj) hje hp hoe hs hse hef hf ha hord
theorem trp_cons {ops : Array Oper} {bs : List Nat} {j0 : Nat} {o : Oper} (ho : ops[j0]? = some o) {T : List Value} {H H1 : AH} {v : Value} {s : Bool} {tT : Nat → List Value} {tH : Nat → AH} {sk : Nat → Bool} {vl : Nat → Value} {past : List (Nat × AH × AH)} {reads : List Rd}
    (h1 : tH (j0 + 1) = H1)
    (hp : ∀ p ∈ past, (∀ j o f, j0 + 1 ≤ j → ops[j]? = some o → sk j = false → opRead P (opv (tT j)) o.op = some f → ordB bs p.1 j = false → ∃ Y0 Y, (Y0 = p.2.1 ∨ Y0 = p.2.2) ∧ (∀ b k, blk Y b = some k → blk Y0 b = some k ∨ (H.length ≤ b ∧ b < H1.length ∧ blk H1 b = some k) ∨ ∃ e, j0 + 1 ≤ e ∧ e < j ∧ (tH e).length ≤ b ∧ b < (tH (e + 1)).length ∧ blk (tH (e + 1)) b = some k) ∧ f Y = some (vl j)) ∧ (∀ f, s = false → opRead P (opv T) o.op = some f → ordB bs p.1 j0 = false → ∃ Y0, (Y0 = p.2.1 ∨ Y0 = p.2.2) ∧ f Y0 = some v))
    (hr : ∀ rd ∈ reads, (∀ e oe, j0 + 1 ≤ e → ops[e]? = some oe → sk e = false → isEff oe.op = true → ordB bs rd.at_ e = false → rd.ok (tH (e + 1))) ∧ (s = false → isEff o.op = true → ordB bs rd.at_ j0 = false → rd.ok H1)) :
    TrP P ops bs j0 (fun i => if i = j0 then T else tT i) (fun i => if i = j0 then H else tH i) (fun i => if i = j0 then s else sk i) (fun i => if i = j0 then v else vl i) past reads := by
  refine ⟨fun p hpp j q f hj hq hs hf hord => ?_, fun rd hrd e oe he hoe hs hef hord => ?_⟩
  · by_cases hjj : j = j0
    · subst hjj; rw [ho] at hq; cases hq; simp only [if_true] at hs hf ⊢
      obtain ⟨Y0, g1, g2⟩ := (hp p hpp).2 f hs hf hord
      exact ⟨Y0, Y0, g1, Grow.refl, g2⟩
    · simp only [if_neg hjj] at hs hf ⊢
      obtain ⟨Y0, Y, g1, g2, g3⟩ := (hp p hpp).1 j q f (by omega) hq hs hf hord
      refine ⟨Y0, Y, g1, fun b k hb => ?_, g3⟩
      rcases g2 b k hb with g4 | ⟨g4, g5, g6⟩ | ⟨e, g4, g5, g6, g7, g8⟩
      · exact .inl g4
      · exact .inr ⟨j0, Nat.le_refl _, by omega, by dsimp only; rw [if_pos rfl]; exact g4, by dsimp only; rw [if_neg (by omega), h1]; exact g5, by dsimp only; rw [if_neg (by omega), h1]; exact g6⟩
      · exact .inr ⟨e, by omega, g5, by dsimp only; rw [if_neg (by omega)]; exact g6, by dsimp only; rw [if_neg (by omega)]; exact g7, by dsimp only; rw [if_neg (by omega)]; exact g8⟩
  · rw [if_neg (show e + 1 ≠ j0 by omega)]
    by_cases hee : e = j0
    · subst hee; rw [ho] at hoe; cases hoe; simp only [if_true] at hs; rw [h1]; exact (hr rd hrd).2 hs hef hord
    · simp only [if_neg hee] at hs; exact (hr rd hrd).1 e oe (by omega) hoe hs hef hord
theorem evD_inv (ops : Array Oper) (bs : List Nat) {R : Type} {K : List Value → AH → Option R} {r : R} : ∀ (l : List Oper) (j0 : Nat) (T : List Value) (H : AH) (past : List (Nat × AH × AH)) (reads : List Rd), (∀ j, l[j]? = ops[j0 + j]?) → evD P call ops bs l j0 T H past reads K = some r →
    ∃ tT tH sk vl, tT j0 = T ∧ tH j0 = H ∧ Tr P call ops bs j0 tT tH sk vl ∧ TrP P ops bs j0 tT tH sk vl past reads ∧ K (tT (j0 + l.length)) (tH (j0 + l.length)) = some r
  | [], j0, T, H, past, reads, hl, h => by
    have none_ : ∀ j, j0 ≤ j → ops[j]? = none := fun j hj => by have := hl (j - j0); rw [show j0 + (j - j0) = j by omega] at this; rw [← this]; rfl
    have no : ∀ {j : Nat} {o : Oper}, j0 ≤ j → ops[j]? = some o → False := fun hj ho => by rw [none_ _ hj] at ho; cases ho
    exact ⟨fun _ => T, fun _ => H, fun _ => false, fun _ => undef, rfl, rfl, ⟨fun j o hj ho => (no hj ho).elim, fun j o hj ho => (no hj ho).elim, fun j o hj ho => (no hj ho).elim, fun j o f hj ho => (no hj ho).elim, fun j o hj ho => (no hj ho).elim,
      fun j o f e oe he hej ho => (no (by omega) ho).elim, fun j o f e oe hj hje ho => (no hj ho).elim, fun j o e oe hj hje ho => (no hj ho).elim⟩, ⟨fun p _ j o f hj ho => (no hj ho).elim, fun rd _ e oe he hoe => (no he hoe).elim⟩, h⟩
  | o :: l, j0, T, H, past, reads, hl, h => by
    have same : ∀ {j : Nat} {tH : Nat → AH} {H1 : AH} {p : Nat × AH × AH} {f : AH → Option Value} {v : Value}, (∃ Y0 Y, (Y0 = p.2.1 ∨ Y0 = p.2.2) ∧ Grow tH (j0 + 1) j Y0 Y ∧ f Y = some v) →
        ∃ Y0 Y, (Y0 = p.2.1 ∨ Y0 = p.2.2) ∧ (∀ b k, blk Y b = some k → blk Y0 b = some k ∨ (H.length ≤ b ∧ b < H1.length ∧ blk H1 b = some k) ∨ ∃ e, j0 + 1 ≤ e ∧ e < j ∧ (tH e).length ≤ b ∧ b < (tH (e + 1)).length ∧ blk (tH (e + 1)) b = some k) ∧ f Y = some v := by
      rintro j tH H1 p f v ⟨Y0, Y, g1, g2, g3⟩
      exact ⟨Y0, Y, g1, fun b k hb => (g2 b k hb).imp_right .inr, g3⟩
    have ho : ops[j0]? = some o := by have := hl 0; simpa using this.symm
    have hl' : ∀ j, l[j]? = ops[j0 + 1 + j]? := fun j => by have := hl (j + 1); rw [show j0 + 1 + j = j0 + (j + 1) by omega]; simpa using this
    have hlen : j0 + (o :: l).length = j0 + 1 + l.length := by simp; omega
    -- passed over
    have fin_skip : ∀ (past' : List (Nat × AH × AH)) (reads' : List Rd), (∀ p ∈ past, ∃ p' ∈ past', p'.1 = p.1 ∧ p'.2.1 = p.2.1 ∧ ∀ b k, blk p'.2.2 b = some k → blk p.2.2 b = some k) → (∀ rd ∈ reads, rd ∈ reads') → evD P call ops bs l (j0 + 1) (putT T o.dst undef) H past' reads' K = some r → (∃ g want, o.guard = some (g, want) ∧ Off (yieldV ops T g) want) →
        ∃ tT tH sk vl, tT j0 = T ∧ tH j0 = H ∧ Tr P call ops bs j0 tT tH sk vl ∧ TrP P ops bs j0 tT tH sk vl past reads ∧ K (tT (j0 + (o :: l).length)) (tH (j0 + (o :: l).length)) = some r := by
      intro past' reads' hp' hr' hh hg
      obtain ⟨tT, tH, sk, vl, h0, h1, X, Y, hK⟩ := evD_inv ops bs l (j0 + 1) _ _ _ _ hl' hh
      refine ⟨_, _, _, _, if_pos rfl, if_pos rfl, tr_cons (s := true) (v := undef) ho h0 h1 X (fun _ => ⟨hg, rfl, rfl⟩) (fun hx => by cases hx) (fun f hx => by cases hx) (fun hx => by cases hx) (fun hx => by cases hx) (fun f hx => by cases hx) (fun hx => by cases hx),
        trp_cons ho h1 (fun p hp => ⟨fun j q f hj hq hs hf hord => by
          obtain ⟨p', m1, m2, m3, m4⟩ := hp' p hp
          obtain ⟨Y0, Y, g1, g2, g3⟩ := Y.past p' m1 j q f hj hq hs hf (by rw [m2]; exact hord)
          rcases g1 with rfl | rfl
          · exact ⟨p.2.1, Y, .inl rfl, fun b k hb => by rw [← m3]; exact (g2 b k hb).imp_right .inr, g3⟩
          · exact ⟨p.2.2, Y, .inr rfl, fun b k hb => (g2 b k hb).imp (m4 b k) .inr, g3⟩, fun f hx => by cases hx⟩) (fun rd hrd => ⟨Y.reads rd (hr' rd hrd), fun hx => by cases hx⟩), ?_⟩
      rw [hlen]
      simp only [if_neg (show j0 + 1 + l.length ≠ j0 by omega)]
      exact hK
    have fin_read : ∀ (v : Value) (ok : AH → Prop) (f : AH → Option Value), opRead P (opv T) o.op = some f → f H = some v → (∀ X, ok X → f X = some v) → (o.guard = none ∨ ∃ g want, o.guard = some (g, want) ∧ yieldV ops T g = .bool want) → evD P call ops bs l (j0 + 1) (putT T o.dst v) H past (⟨j0, ok⟩ :: reads) K = some r →
        (∀ p ∈ past, ordB bs p.1 j0 = false → ∃ Y0, (Y0 = p.2.1 ∨ Y0 = p.2.2) ∧ f Y0 = some v) → ∃ tT tH sk vl, tT j0 = T ∧ tH j0 = H ∧ Tr P call ops bs j0 tT tH sk vl ∧ TrP P ops bs j0 tT tH sk vl past reads ∧ K (tT (j0 + (o :: l).length)) (tH (j0 + (o :: l).length)) = some r := by
      intro v ok f hf hv hok hg hh hc
      obtain ⟨tT, tH, sk, vl, h0, h1, X, Y, hK⟩ := evD_inv ops bs l (j0 + 1) _ _ _ _ hl' hh
      have hne := read_not_eff hf
      refine ⟨_, _, _, _, if_pos rfl, if_pos rfl, tr_cons (s := false) (v := v) ho h0 h1 X (fun hx => by cases hx) (fun _ => hg) (fun f' _ hf' => ?_) (fun _ hx => by rw [hf] at hx; cases hx) (fun _ hx => by rw [hne] at hx; cases hx) (fun f' _ hf' e oe he hoe hse hef hord => ?_) (fun _ hx => by rw [hf] at hx; cases hx),
        trp_cons ho h1 (fun p hp => ⟨fun j q f hj hq hs hf hord => same (Y.past p hp j q f hj hq hs hf hord), fun f' _ hf' hord => ?_⟩) (fun rd hrd => ⟨Y.reads rd (by simp [hrd]), fun _ hx => by rw [hne] at hx; cases hx⟩), ?_⟩
      · rw [hf] at hf'; cases hf'; exact ⟨hv, rfl⟩
      · rw [hf] at hf'; cases hf'; exact hok _ (Y.reads ⟨j0, ok⟩ (by simp) e oe he hoe hse hef hord)
      · rw [hf] at hf'; cases hf'; exact hc p hp hord
      · rw [hlen]
        simp only [if_neg (show j0 + 1 + l.length ≠ j0 by omega)]
        exact hK
    have fin_eff : ∀ (v : Value) (H1 : AH), opRead P (opv T) o.op = none → aRes P call (opv T) o.op H = some (v, H1) → isEff o.op = true → (o.guard = none ∨ ∃ g want, o.guard = some (g, want) ∧ yieldV ops T g = .bool want) → evD P call ops bs l (j0 + 1) (putT T o.dst v) H1 ((j0, H, H) :: past) reads K = some r →
        (∀ rd ∈ reads, ordB bs rd.at_ j0 = false → rd.ok H1) → ∃ tT tH sk vl, tT j0 = T ∧ tH j0 = H ∧ Tr P call ops bs j0 tT tH sk vl ∧ TrP P ops bs j0 tT tH sk vl past reads ∧ K (tT (j0 + (o :: l).length)) (tH (j0 + (o :: l).length)) = some r := by
      intro v H1 hf hv he hg hh hc
      obtain ⟨tT, tH, sk, vl, h0, h1, X, Y, hK⟩ := evD_inv ops bs l (j0 + 1) _ _ _ _ hl' hh
      refine ⟨_, _, _, _, if_pos rfl, if_pos rfl, tr_cons (s := false) (v := v) ho h0 h1 X (fun hx => by cases hx) (fun _ => hg) (fun f' _ hf' => by rw [hf] at hf'; cases hf') (fun _ _ => hv) (fun _ _ j p f hj hp hs hf hord => by
          obtain ⟨Y0, Z, g1, g2, g3⟩ := Y.past (j0, H, H) (by simp) j p f hj hp hs hf hord
          rcases g1 with rfl | rfl <;> exact ⟨Z, g2, g3⟩) (fun f' _ hf' => by rw [hf] at hf'; cases hf') (fun _ _ hx => by rw [alloc_not_eff hx] at he; cases he),
        trp_cons ho h1 (fun p hp => ⟨fun j q f hj hq hs hf hord => same (Y.past p (by simp [hp]) j q f hj hq hs hf hord), fun f' _ hf' => by rw [hf] at hf'; cases hf'⟩) (fun rd hrd => ⟨Y.reads rd hrd, fun _ _ hord => hc rd hrd hord⟩), ?_⟩
      rw [hlen]
      simp only [if_neg (show j0 + 1 + l.length ≠ j0 by omega)]
      exact hK
    have fin_alloc : ∀ (v : Value) (H1 : AH) (ok : AH → Prop), (∀ X, ok X → blk X H.length = blk H1 H.length) → opRead P (opv T) o.op = none → aRes P call (opv T) o.op H = some (v, H1) → isEff o.op = false → isAlloc o.op = true → (o.guard = none ∨ ∃ g want, o.guard = some (g, want) ∧ yieldV ops T g = .bool want) → evD P call ops bs l (j0 + 1) (putT T o.dst v) H1 (past.map (extP H H1)) (⟨j0, ok⟩ :: reads) K = some r → ∃ tT tH sk vl, tT j0 = T ∧ tH j0 = H ∧ Tr P call ops bs j0 tT tH sk vl ∧ TrP P ops bs j0 tT tH sk vl past reads ∧ K (tT (j0 + (o :: l).length)) (tH (j0 + (o :: l).length)) = some r := by
      intro v H1 ok hok hf hv he ha hg hh
      obtain ⟨kk, _, hH1, _⟩ := alloc_res ha hv
      obtain ⟨tT, tH, sk, vl, h0, h1, X, Y, hK⟩ := evD_inv ops bs l (j0 + 1) _ _ _ _ hl' hh
      refine ⟨_, _, _, _, if_pos rfl, if_pos rfl, tr_cons (s := false) (v := v) ho h0 h1 X (fun hx => by cases hx) (fun _ => hg) (fun f' _ hf' => by rw [hf] at hf'; cases hf') (fun _ _ => hv) (fun _ hx => by rw [he] at hx; cases hx) (fun f' _ hf' => by rw [hf] at hf'; cases hf') (fun _ _ _ e oe hee hoe hse hef hord => hok _ (Y.reads ⟨j0, ok⟩ (by simp) e oe hee hoe hse hef hord)),
        trp_cons ho h1 (fun p hp => ⟨fun j q f hj hq hs hf hord => by
          obtain ⟨Y0, Y, g1, g2, g3⟩ := Y.past (extP H H1 p) (List.mem_map.2 ⟨p, hp, rfl⟩) j q f hj hq hs hf hord
          rcases g1 with rfl | rfl
          · exact ⟨p.2.1, Y, .inl rfl, fun b k hb => (g2 b k hb).imp_right .inr, g3⟩
          · refine ⟨p.2.2, Y, .inr rfl, fun b k hb => ?_, g3⟩
            rcases g2 b k hb with g4 | g4
            · rcases blk_extH g4 with g5 | ⟨g5, g6⟩
              · exact .inl g5
              · exact .inr (.inl ⟨by omega, by rw [hH1, List.length_append, List.length_singleton]; omega, g6⟩)
            · exact .inr (.inr g4), fun f' _ hf' => by rw [hf] at hf'; cases hf'⟩) (fun rd hrd => ⟨Y.reads rd (by simp [hrd]), fun _ hx => by rw [he] at hx; cases hx⟩), ?_⟩
      rw [hlen]
      simp only [if_neg (show j0 + 1 + l.length ≠ j0 by omega)]
      exact hK
    have fin_pure : ∀ (v : Value) (H1 : AH), opRead P (opv T) o.op = none → aRes P call (opv T) o.op H = some (v, H1) → isEff o.op = false → isAlloc o.op = false → (o.guard = none ∨ ∃ g want, o.guard = some (g, want) ∧ yieldV ops T g = .bool want) → evD P call ops bs l (j0 + 1) (putT T o.dst v) H1 past reads K = some r → ∃ tT tH sk vl, tT j0 = T ∧ tH j0 = H ∧ Tr P call ops bs j0 tT tH sk vl ∧ TrP P ops bs j0 tT tH sk vl past reads ∧ K (tT (j0 + (o :: l).length)) (tH (j0 + (o :: l).length)) = some r := by
      intro v H1 hf hv he ha hg hh
      obtain ⟨tT, tH, sk, vl, h0, h1, X, Y, hK⟩ := evD_inv ops bs l (j0 + 1) _ _ _ _ hl' hh
      refine ⟨_, _, _, _, if_pos rfl, if_pos rfl, tr_cons (s := false) (v := v) ho h0 h1 X (fun hx => by cases hx) (fun _ => hg) (fun f' _ hf' => by rw [hf] at hf'; cases hf') (fun _ _ => hv) (fun _ hx => by rw [he] at hx; cases hx) (fun f' _ hf' => by rw [hf] at hf'; cases hf') (fun _ _ hx => by rw [ha] at hx; cases hx),
        trp_cons ho h1 (fun p hp => ⟨fun j q f hj hq hs hf hord => same (Y.past p hp j q f hj hq hs hf hord), fun f' _ hf' => by rw [hf] at hf'; cases hf'⟩) (fun rd hrd => ⟨Y.reads rd hrd, fun _ hx => by rw [he] at hx; cases hx⟩), ?_⟩
      rw [hlen]
      simp only [if_neg (show j0 + 1 + l.length ≠ j0 by omega)]
      exact hK
    unfold evD at h
    cases hg : o.guard with
    | none =>
      rw [hg] at h
      simp only at h
      split at h
      · rename_i f hf
        obtain ⟨v, hv, hh⟩ := bind_some h
        obtain ⟨hh, hc⟩ := chkPast_inv past hh
        exact fin_read v _ f hf hv (fun X hX => hX) (.inl hg) hh (fun p hp hord => ⟨pastH (isConv o.op) p, by cases isConv o.op <;> simp [pastH], hc p hp hord⟩)
      · rename_i hf
        rw [aOp_res] at h
        obtain ⟨⟨v, H1⟩, hv, hh⟩ := bind_some h
        simp only at hh
        cases he : isEff o.op with
        | true =>
          rw [he] at hh
          obtain ⟨hh, hc⟩ := chkReads_inv reads hh
          exact fin_eff v H1 hf hv he (.inl hg) hh hc
        | false =>
          rw [he] at hh
          cases ha : isAlloc o.op with
          | true => rw [ha] at hh; exact fin_alloc v H1 _ (fun X hX => hX) hf hv he ha (.inl hg) hh
          | false => rw [ha] at hh; exact fin_pure v H1 hf hv he ha (.inl hg) hh
    | some q =>
      obtain ⟨g, want⟩ := q
      rw [hg] at h
      simp only at h
      split at h
      · rename_i f hf
        obtain ⟨p, hp, hh⟩ := bind_some h
        obtain ⟨hh, hc⟩ := chkPast_inv past hh
        rcases gOp_inv hp with ⟨hu, h5⟩ | ⟨hu, rfl⟩
        · obtain ⟨v, hv, h6⟩ := bind_some h5
          cases h6
          exact fin_read v _ f hf hv (fun X hX => hX hu) (.inr ⟨g, want, hg, hu⟩) hh (fun p hp hord => ⟨pastH (isConv o.op) p, by cases isConv o.op <;> simp [pastH], hc p hp hord hu⟩)
        · exact fin_skip _ _ (fun p hp => ⟨p, hp, rfl, rfl, fun _ _ h => h⟩) (fun rd hrd => by simp [hrd]) hh ⟨g, want, hg, hu⟩
      · rename_i hf
        obtain ⟨⟨v, H1⟩, hp, hh⟩ := bind_some h
        simp only at hh
        rcases gOp_inv hp with ⟨hu, h5⟩ | ⟨hu, h5⟩
        · cases he : isEff o.op with
          | true =>
            rw [he] at hh
            obtain ⟨hh, hc⟩ := chkReads_inv reads hh
            exact fin_eff v H1 hf h5 he (.inr ⟨g, want, hg, hu⟩) hh hc
          | false =>
            rw [he] at hh
            cases ha : isAlloc o.op with
            | true => rw [ha] at hh; exact fin_alloc v H1 _ (fun X hX => hX hu) hf h5 he ha (.inr ⟨g, want, hg, hu⟩) hh
            | false => rw [ha] at hh; exact fin_pure v H1 hf h5 he ha (.inr ⟨g, want, hg, hu⟩) hh
        · cases h5
          cases he : isEff o.op with
          | true =>
            rw [he] at hh
            obtain ⟨hh, hc⟩ := chkReads_inv reads hh
            exact fin_skip _ _ (fun p hp => ⟨p, by simp [hp], rfl, rfl, fun _ _ h => h⟩) (fun rd hrd => hrd) hh ⟨g, want, hg, hu⟩
          | false =>
            rw [he] at hh
            cases ha : isAlloc o.op with
            | true => rw [ha] at hh; exact fin_skip _ _ (fun p hp => ⟨extP H H p, List.mem_map.2 ⟨p, hp, rfl⟩, rfl, rfl, fun b k h => by
              rcases blk_extH h with h1 | ⟨h1, h2⟩
              · exact h1
              · rw [h1] at h2; unfold blk at h2; simp at h2⟩) (fun rd hrd => by simp [hrd]) hh ⟨g, want, hg, hu⟩
            | false => rw [ha] at hh; exact fin_skip _ _ (fun p hp => ⟨p, hp, rfl, rfl, fun _ _ h => h⟩) (fun rd hrd => hrd) hh ⟨g, want, hg, hu⟩
end
end Go.AM
namespace Go.AM
open Go.RowKit

section
variable {P : Program} {call : CallF}

def cutM (m : Mp) (l : Nat) : Mp := fun b => if b < l then m b else none
theorem cutM_some {m : Mp} {l b : Nat} {L : Loc} (h : cutM m l b = some L) : b < l ∧ m b = some L := by
  unfold cutM at h
  split at h
  · rename_i hb; exact ⟨hb, h⟩
  · cases h
theorem cutM_of {m : Mp} {l b : Nat} {L : Loc} (h : b < l) (hm : m b = some L) : cutM m l b = some L := by rw [cutM, if_pos h, hm]
def Bel (l : Nat) (x : Value) : Prop := ∃ (mm : Mp) (y : Value), VRel mm x y ∧ ∀ b L, mm b = some L → b < l
theorem Bel.list {l : Nat} {mm : Mp} {xs ys : List Value} (h : LRel mm xs ys) (hb : ∀ b L, mm b = some L → b < l) : ∀ (i : Nat) (x : Value), xs[i]? = some x → Bel l x := by
  intro i x hx
  have hlt := (List.getElem?_eq_some_iff.1 hx).1
  have hy := List.getElem?_eq_getElem (show i < ys.length by rw [← h.1]; exact hlt)
  exact ⟨mm, _, h.2 i x _ hx hy, hb⟩
theorem VRel.cutB {m : Mp} {l : Nat} {x y : Value} (h : VRel m x y) : Bel l x → VRel (cutM m l) x y := by
  induction h with
  | unk v => intro _; exact .unk v
  | flat v hf => intro _; exact .flat v hf
  | ptr b off L hm h0 =>
    intro hb
    obtain ⟨mm, y, hr, hl⟩ := hb
    obtain ⟨L', h1, _⟩ := hr.ptr_inv
    exact .ptr b off L (cutM_of (hl _ _ h1) hm) h0
  | map b L hm h0 =>
    intro hb
    obtain ⟨mm, y, hr, hl⟩ := hb
    obtain ⟨L', h1, _⟩ := hr.map_inv
    exact .map b L (cutM_of (hl _ _ h1) hm) h0
  | yld b L hm h0 =>
    intro hb
    obtain ⟨mm, y, hr, hl⟩ := hb
    obtain ⟨L', h1, _⟩ := hr.yld_inv
    exact .yld b L (cutM_of (hl _ _ h1) hm) h0
  | slice b off off' len cap cap' L hm h0 h1 h2 h3 h4 h5 h7 =>
    intro hb
    obtain ⟨mm, y, hr, hl⟩ := hb
    rcases hr.slice_inv with ⟨rfl, rfl, hz, _⟩ | ⟨L', _, _, h6, _⟩
    · have hc' : cap' = 0 := by
        by_cases hk : L.kind = .fix
        · exact (h4 hk).2
        · rcases h7 hk with h8 | h8
          · omega
          · exact h8.2
      subst hc'
      exact .zsl b off _ hz
    · exact .slice b off off' len cap cap' L (cutM_of (hl _ _ h6) hm) h0 h1 h2 h3 h4 h5 h7
  | zsl b off a h => exact fun _ => .zsl b off a h
  | agg xs ys hs _ ih =>
    intro hb
    obtain ⟨mm, y, hr, hl⟩ := hb
    obtain ⟨zs, rfl, hlr⟩ := hr.agg_inv
    exact .agg xs ys hs fun i x y hx hy => ih i x y hx hy (Bel.list hlr hl i x (by simpa using hx))
  | tuple xs ys hs _ ih =>
    intro hb
    obtain ⟨mm, y, hr, hl⟩ := hb
    obtain ⟨zs, rfl, hlr⟩ := hr.tuple_inv
    exact .tuple xs ys hs fun i x y hx hy => ih i x y hx hy (Bel.list hlr hl i x (by simpa using hx))
  | func f a b a' b' h1 _ h2 _ ih1 ih2 =>
    intro hb
    obtain ⟨mm, y, hr, hl⟩ := hb
    have hsp : LRel mm a.toList (match y with | .func _ u _ => u.toList | _ => []) ∧ LRel mm b.toList (match y with | .func _ _ u => u.toList | _ => []) := by
      cases hr with
      | flat v hf => simp [flat1] at hf
      | func f a b a' b' h1 h2 h3 h4 => exact ⟨⟨by simpa using h1, fun i x y hx hy => h2 i x y (by simpa using hx) (by simpa using hy)⟩, ⟨by simpa using h3, fun i x y hx hy => h4 i x y (by simpa using hx) (by simpa using hy)⟩⟩
    exact .func f a b a' b' h1 (fun i x y hx hy => ih1 i x y hx hy (Bel.list hsp.1 hl i x (by simpa using hx))) h2 (fun i x y hx hy => ih2 i x y hx hy (Bel.list hsp.2 hl i x (by simpa using hx)))
theorem wp_const {o : Oper} {a : Act} {w : World} {C : Prop} (h : o.wp P a w (fun _ _ => C) (fun _ _ _ => C)) : C := by
  unfold Oper.wp at h
  generalize (execOp a.eval o).run P w = res at h
  cases res with
  | halt hh w' => cases hh <;> simp only [Oper.upon] at h <;> exact h
  | ok n w' =>
    cases n <;> simp only [Oper.upon] at h
    case enter f args =>
      obtain ⟨e, w'', fr, hR, _⟩ := h []
      cases e with
      | returned v => exact hR
      | panicked c => exact hR
      | outgrown => obtain ⟨_, _, hc⟩ := hR; exact hc
    case row row args =>
      obtain ⟨v, w'', hR, _⟩ := h default []
      exact hR
    all_goals exact h
theorem read_res {ρ : Operand → Value} {op : Op} {f : AH → Option Value} (hf : opRead P ρ op = some f) (H : AH) : aRes P call ρ op H = (f H).bind fun v => some (v, H) := by
  unfold opRead at hf
  split at hf
  · cases hf; rfl
  · rename_i s d x
    cases hb : isBytesToString P s d with
    | true => rw [hb] at hf; cases hf; unfold aRes; simp only [aOp, hb, cond_true]
    | false => rw [hb] at hf; cases hf
  · cases hf; rfl
  · cases hf; rfl
  · split at hf
    · rename_i args ts t x ht hx
      cases hb : isMapT P t with
      | true =>
        rw [hb] at hf
        cases hf
        unfold aRes
        simp only [aOp, aCall, ht, hx, hb, cond_true]
      | false => rw [hb] at hf; cases hf
    · cases hf
  · cases hf
section
variable {ops : Array Oper} {bs : List Nat} {tT : Nat → List Value} {tH : Nat → AH} {sk : Nat → Bool} {vl : Nat → Value}
theorem Tr.res (X : Tr P call ops bs 0 tT tH sk vl) {j : Nat} {o : Oper} (ho : ops[j]? = some o) (hs : sk j = false) : aRes P call (opv (tT j)) o.op (tH j) = some (vl j, tH (j + 1)) := by
  cases hf : opRead P (opv (tT j)) o.op with
  | none => exact X.other j o (Nat.zero_le _) ho hs hf
  | some f =>
    obtain ⟨h1, h2⟩ := X.read j o f (Nat.zero_le _) ho hs hf
    rw [read_res hf, h1, h2]
    rfl
theorem Tr.walk (hcall : CallOK P call) (X : Tr P call ops bs 0 tT tH sk vl) {B0 : Nat} {w0 : World} {m : Mp} {a : Act} {w : World} (R0 : Rel P B0 w0 m (tH 0) w) (hT : LRel m (tT 0) a.tmps.toList) :
    ∀ j, j ≤ ops.size → ∃ (m' : Mp) (a' : Act) (w' : World), Ext m (tH 0) w m' (tH j) w' ∧ Rel P B0 w0 m' (tH j) w' ∧ LRel m' (tT j) a'.tmps.toList
  | 0, _ => ⟨m, a, w, Ext.refl _ _ _, R0, hT⟩
  | j + 1, hj => by
    obtain ⟨m1, a1, w1, E1, R1, T1⟩ := Tr.walk hcall X R0 hT j (by omega)
    have ho : ops[j]? = some ops[j] := Array.getElem?_eq_getElem (by omega)
    cases hs : sk j with
    | true =>
      obtain ⟨_, h2, h3⟩ := X.skip j _ (Nat.zero_le _) ho hs
      rw [X.step j _ (Nat.zero_le _) ho, h2, h3]
      exact ⟨m1, a1.put ops[j].dst undef, w1, E1, R1, put_rel T1 _ (VRel.undef _)⟩
    | false =>
      have h1 := res_sound hcall (X.res ho hs) R1 T1
      refine wp_const (h1 (fun _ _ => _) (fun _ _ _ => _) fun m' v' w' E R' hv => ?_)
      rw [X.step j _ (Nat.zero_le _) ho]
      exact ⟨m', a1.put ops[j].dst v', w', Ext.trans (fun b L hb => (R0.dom b L hb).1) E1 E, R', put_rel (T1.mono E.mono) _ hv⟩
theorem Tr.next (hcall : CallOK P call) (X : Tr P call ops bs 0 tT tH sk vl) {B0 : Nat} {w0 : World} {m : Mp} {a : Act} {w : World} (R0 : Rel P B0 w0 m (tH 0) w) (hT : LRel m (tT 0) a.tmps.toList) {j : Nat} (hj : j < ops.size) :
    (tH j).length ≤ (tH (j + 1)).length ∧ ∀ b k', b < (tH j).length → blk (tH (j + 1)) b = some k' → ∃ k, blk (tH j) b = some k ∧ k.kind = k'.kind := by
  obtain ⟨m1, a1, w1, E1, R1, T1⟩ := X.walk hcall R0 hT j (by omega)
  have ho : ops[j]? = some ops[j] := Array.getElem?_eq_getElem (by omega)
  cases hs : sk j with
  | true =>
    obtain ⟨_, _, h3⟩ := X.skip j _ (Nat.zero_le _) ho hs
    rw [h3]
    exact ⟨Nat.le_refl _, fun b k' _ hk => ⟨k', hk, rfl⟩⟩
  | false =>
    have h1 := res_sound hcall (X.res ho hs) R1 T1
    exact wp_const (h1 (fun _ _ => _) (fun _ _ _ => _) fun m' v' w' E R' hv => ⟨E.len, E.alive⟩)
theorem Tr.bel (hcall : CallOK P call) (X : Tr P call ops bs 0 tT tH sk vl) {B0 : Nat} {w0 : World} {m : Mp} {a : Act} {w : World} (R0 : Rel P B0 w0 m (tH 0) w) (hT : LRel m (tT 0) a.tmps.toList) {j : Nat} (hj : j ≤ ops.size) (s : Nat) (x : Value) (hx : (tT j)[s]? = some x) :
    Bel (tH j).length x := by
  obtain ⟨m1, a1, w1, E1, R1, T1⟩ := X.walk hcall R0 hT j hj
  exact Bel.list T1 (fun b L hb => (R1.dom b L hb).1) s x hx
theorem Tr.lens (hcall : CallOK P call) (X : Tr P call ops bs 0 tT tH sk vl) {B0 : Nat} {w0 : World} {m : Mp} {a : Act} {w : World} (R0 : Rel P B0 w0 m (tH 0) w) (hT : LRel m (tT 0) a.tmps.toList) (i : Nat) : ∀ d, i + d ≤ ops.size → (tH i).length ≤ (tH (i + d)).length ∧ ∀ b k', b < (tH i).length → blk (tH (i + d)) b = some k' → ∃ k, blk (tH i) b = some k ∧ k.kind = k'.kind
  | 0, _ => ⟨Nat.le_refl _, fun b k' _ hk => ⟨k', hk, rfl⟩⟩
  | d + 1, hd => by
    obtain ⟨h1, h2⟩ := Tr.lens hcall X R0 hT i d (by omega)
    obtain ⟨h3, h4⟩ := X.next hcall R0 hT (j := i + d) (by omega)
    refine ⟨Nat.le_trans h1 h3, fun b k' hb hk => ?_⟩
    obtain ⟨k1, h5, h6⟩ := h4 b k' (Nat.lt_of_lt_of_le hb h1) hk
    obtain ⟨k2, h7, h8⟩ := h2 b k1 hb h5
    exact ⟨k2, h7, h8.trans h6⟩
def eE (ops : Array Oper) (sk : Nat → Bool) (j : Nat) : Bool := (ops[j]?).any (fun o => isEff o.op) && !sk j
theorem Tr.noeff (X : Tr P call ops bs 0 tT tH sk vl) {j : Nat} (hj : j < ops.size) (he : eE ops sk j = false) : (tH (j + 1) = tH j) ∨ ∃ k : Blk, tH (j + 1) = tH j ++ [some k] := by
  have ho : ops[j]? = some ops[j] := Array.getElem?_eq_getElem (by omega)
  cases hs : sk j with
  | true => exact .inl (X.skip j _ (Nat.zero_le _) ho hs).2.2
  | false =>
    have heff : isEff ops[j].op = false := by simpa [eE, ho, hs] using he
    cases hf : opRead P (opv (tT j)) ops[j].op with
    | some f => exact .inl (X.read j _ f (Nat.zero_le _) ho hs hf).2
    | none =>
      have h1 := X.other j _ (Nat.zero_le _) ho hs hf
      cases ha : isAlloc ops[j].op with
      | true => obtain ⟨k, h2, h3, _⟩ := alloc_res ha h1; exact .inr ⟨k, h3⟩
      | false => exact .inl (pure_res heff hf ha h1).1
theorem blk_app_old {H : AH} {b : Nat} (k : Option Blk) (h : b < H.length) : blk (H ++ [k]) b = blk H b := by
  unfold blk
  rw [List.getElem?_append_left h]
theorem Tr.same (X : Tr P call ops bs 0 tT tH sk vl) (i : Nat) : ∀ d, i + d ≤ ops.size → (∀ e, i ≤ e → e < i + d → eE ops sk e = false) → (tH i).length ≤ (tH (i + d)).length ∧ ∀ b, b < (tH i).length → blk (tH (i + d)) b = blk (tH i) b
  | 0, _, _ => ⟨Nat.le_refl _, fun b _ => rfl⟩
  | d + 1, hd, he => by
    obtain ⟨h1, h2⟩ := Tr.same X i d (by omega) fun e h1 h2 => he e h1 (by omega)
    rcases X.noeff (j := i + d) (by omega) (he (i + d) (by omega) (by omega)) with h3 | ⟨k, h3⟩
    · rw [show i + (d + 1) = i + d + 1 by omega, h3]; exact ⟨h1, h2⟩
    · rw [show i + (d + 1) = i + d + 1 by omega, h3]
      exact ⟨by simp; omega, fun b hb => by rw [blk_app_old _ (Nat.lt_of_lt_of_le hb h1)]; exact h2 b hb⟩
end
end
end Go.AM
namespace Go.AM
open Go.RowKit

theorem BRel.world {P : Program} {B0 : Nat} {m : Mp} {L : Loc} {k : Blk} {w w1 : World} (h : BRel P B0 m L k w) (e : w1.heap[L.blk]? = w.heap[L.blk]?) : BRel P B0 m L k w1 := by
  exact h.at (fun _ _ h => h) e
theorem BRel.mono {P : Program} {B0 : Nat} {m m' : Mp} {L : Loc} {k : Blk} {w : World} (hm : ∀ b L, m b = some L → m' b = some L) (h : BRel P B0 m L k w) : BRel P B0 m' L k w := by
  exact h.at hm rfl
section
variable (tH : Nat → AH) (n : Nat)
open Classical in
/-- A block's content where it is made. -/
noncomputable def ini (b : Nat) : Option Blk := if h : ∃ j, j < n ∧ (tH j).length ≤ b ∧ b < (tH (j + 1)).length then blk (tH (Classical.choose h + 1)) b else none
noncomputable def kb (q b : Nat) : Option Blk := if b < (tH q).length then blk (tH q) b else ini tH n b
variable {tH n}
theorem ini_eq (hmono : ∀ i d, i + d ≤ n → (tH i).length ≤ (tH (i + d)).length) {j b : Nat} (hj : j < n) (h1 : (tH j).length ≤ b) (h2 : b < (tH (j + 1)).length) : ini tH n b = blk (tH (j + 1)) b := by
  have h : ∃ j, j < n ∧ (tH j).length ≤ b ∧ b < (tH (j + 1)).length := ⟨j, hj, h1, h2⟩
  unfold ini
  rw [dif_pos h]
  obtain ⟨g1, g2, g3⟩ := Classical.choose_spec h
  have : Classical.choose h = j := by
    rcases Nat.lt_trichotomy (Classical.choose h) j with hlt | heq | hgt
    · have := hmono (Classical.choose h + 1) (j - (Classical.choose h + 1)) (by omega)
      rw [show Classical.choose h + 1 + (j - (Classical.choose h + 1)) = j by omega] at this
      omega
    · exact heq
    · have := hmono (j + 1) (Classical.choose h - (j + 1)) (by omega)
      rw [show j + 1 + (Classical.choose h - (j + 1)) = Classical.choose h by omega] at this
      omega
  rw [this]
end
structure VR (P : Program) (B0 : Nat) (w0 : World) (tH : Nat → AH) (n q : Nat) (m : Mp) (w : World) : Prop where
  below : Below B0 w0 w
  hB : B0 ≤ w.heap.size
  dom : ∀ b L, m b = some L → b < (tH n).length ∧ L.blk < w.heap.size
  blks : ∀ b L k, m b = some L → kb tH n q b = some k → BRel P B0 (cutM m (max (tH q).length (b + 1))) L k w
  inj : ∀ b1 b2 L1 L2 k1 k2, m b1 = some L1 → m b2 = some L2 → kb tH n q b1 = some k1 → kb tH n q b2 = some k2 → k1.kind ≠ .ro → b1 ≠ b2 → L1.blk ≠ L2.blk
section
variable {P : Program} {B0 : Nat} {w0 : World} {tH : Nat → AH} {n q : Nat} {m : Mp} {w : World}
theorem kb_lt {b : Nat} (h : b < (tH q).length) : kb tH n q b = blk (tH q) b := if_pos h
theorem kb_ge {b : Nat} (h : (tH q).length ≤ b) : kb tH n q b = ini tH n b := if_neg (by omega)
theorem VR.rel (h : VR P B0 w0 tH n q m w) : Rel P B0 w0 (cutM m (tH q).length) (tH q) w := by
  refine ⟨h.below, h.hB, fun b L hm => ?_, fun b L k hm hk => ?_, fun b1 b2 L1 L2 k1 k2 hm1 hm2 hk1 hk2 hne hbb => ?_⟩
  · obtain ⟨h1, h2⟩ := cutM_some hm
    exact ⟨h1, (h.dom b L h2).2⟩
  · obtain ⟨h1, h2⟩ := cutM_some hm
    have := h.blks b L k h2 (by rw [kb_lt h1]; exact hk)
    rwa [Nat.max_eq_left (by omega)] at this
  · obtain ⟨h1, h2⟩ := cutM_some hm1
    obtain ⟨h3, h4⟩ := cutM_some hm2
    exact h.inj b1 b2 L1 L2 k1 k2 h2 h4 (by rw [kb_lt h1]; exact hk1) (by rw [kb_lt h3]; exact hk2) hne hbb
theorem VR.fit (h : VR P B0 w0 tH n q m w) {Y : AH} (hY : ∀ b k, blk Y b = some k → kb tH n q b = some k) : Rel P B0 w0 m (Y ++ List.replicate ((tH n).length - Y.length) none) w := by
  have hb : ∀ {b k}, blk (Y ++ List.replicate ((tH n).length - Y.length) none) b = some k → kb tH n q b = some k := by
    intro b k hk
    refine hY b k ?_
    rcases Nat.lt_or_ge b Y.length with h1 | h1
    · unfold blk at hk ⊢
      rwa [List.getElem?_append_left h1] at hk
    · unfold blk at hk
      rw [List.getElem?_append_right h1, List.getElem?_replicate] at hk
      split at hk <;> cases hk
  refine ⟨h.below, h.hB, fun b L hm => ?_, fun b L k hm hk => ?_, fun b1 b2 L1 L2 k1 k2 hm1 hm2 hk1 hk2 hne hbb => ?_⟩
  · have := h.dom b L hm
    refine ⟨?_, this.2⟩
    rw [List.length_append, List.length_replicate]
    omega
  · exact (h.blks b L k hm (hb hk)).mono fun b L hb => (cutM_some hb).2
  · exact h.inj b1 b2 L1 L2 k1 k2 hm1 hm2 (hb hk1) (hb hk2) hne hbb
theorem blk_dead (l b : Nat) : blk (List.replicate l none) b = none := by
  unfold blk
  rw [List.getElem?_replicate]
  split <;> rfl
theorem VR.dead (h : VR P B0 w0 tH n q m w) (l : Nat) : Rel P B0 w0 (cutM m l) (List.replicate l none) w := by
  refine ⟨h.below, h.hB, fun b L hm => ?_, fun b L k hm hk => (by rw [blk_dead] at hk; cases hk), fun b1 b2 L1 L2 k1 k2 hm1 hm2 hk1 hk2 hne hbb => (by rw [blk_dead] at hk1; cases hk1)⟩
  obtain ⟨h1, h2⟩ := cutM_some hm
  exact ⟨by rw [List.length_replicate]; exact h1, (h.dom b L h2).2⟩
theorem VR.still (h : VR P B0 w0 tH n q m w) {w1 : World} (hb : Below B0 w0 w1) (hs : w.heap.size ≤ w1.heap.size) (hw : ∀ B, B < w.heap.size → w1.heap[B]? = w.heap[B]?) : VR P B0 w0 tH n q m w1 :=
  ⟨hb, Nat.le_trans h.hB hs, fun b L hm => ⟨(h.dom b L hm).1, Nat.lt_of_lt_of_le (h.dom b L hm).2 hs⟩, fun b L k hm hk => (h.blks b L k hm hk).world (hw _ (h.dom b L hm).2), h.inj⟩
theorem VR.alloc (h : VR P B0 w0 tH n q m w) {w1 : World} (hb : Below B0 w0 w1) (hs : w.heap.size ≤ w1.heap.size) (hw : ∀ B, B < w.heap.size → w1.heap[B]? = w.heap[B]?) {l : Nat} {L : Loc} {k : Blk} (hl : l < (tH n).length) (hm : m l = none) (hk : kb tH n q l = some k)
    (hL : w.heap.size ≤ L.blk) (hL1 : L.blk < w1.heap.size) (hB : BRel P B0 (cutM (upd m l L) (l + 1)) L k w1) : VR P B0 w0 tH n q (upd m l L) w1 := by
  have hmono : ∀ b L', m b = some L' → upd m l L b = some L' := fun b L' h1 => by
    unfold upd
    split
    · rename_i he; subst he; rw [hm] at h1; cases h1
    · exact h1
  have old : ∀ b2 L2, upd m l L b2 = some L2 → (b2 = l ∧ L2 = L) ∨ (b2 ≠ l ∧ m b2 = some L2) := by
    intro b2 L2 h2
    unfold upd at h2
    split at h2
    · rename_i hb; cases h2; exact .inl ⟨hb, rfl⟩
    · rename_i hb; exact .inr ⟨hb, h2⟩
  have h1 := h.still hb hs hw
  refine ⟨hb, h1.hB, fun b L' hb' => ?_, fun b L' k' hb' hk' => ?_, fun b1 b2 L1 L2 k1 k2 hm1 hm2 hk1 hk2 hne hbb => ?_⟩
  · rcases old b L' hb' with ⟨rfl, rfl⟩ | ⟨_, h2⟩
    · exact ⟨hl, hL1⟩
    · exact h1.dom b L' h2
  · rcases old b L' hb' with ⟨rfl, rfl⟩ | ⟨_, h2⟩
    · rw [hk] at hk'
      cases hk'
      exact hB.mono fun b' L'' h3 => by obtain ⟨h4, h5⟩ := cutM_some h3; exact cutM_of (by omega) h5
    · exact (h1.blks b L' k' h2 hk').mono fun b' L'' h3 => by obtain ⟨h4, h5⟩ := cutM_some h3; exact cutM_of h4 (hmono _ _ h5)
  · rcases old b1 L1 hm1 with ⟨rfl, rfl⟩ | ⟨_, h2⟩
    · rcases old b2 L2 hm2 with ⟨rfl, rfl⟩ | ⟨_, h3⟩
      · exact (hbb rfl).elim
      · have := (h.dom b2 L2 h3).2; omega
    · rcases old b2 L2 hm2 with ⟨rfl, rfl⟩ | ⟨_, h3⟩
      · have := (h.dom b1 L1 h2).2; omega
      · exact h.inj b1 b2 L1 L2 k1 k2 h2 h3 hk1 hk2 hne hbb
def mrg (m1 m : Mp) (l1 : Nat) : Mp := fun b => if b < l1 then m1 b else m b
theorem VR.eff (h : VR P B0 w0 tH n q m w) {q' : Nat} {m1 : Mp} {w1 : World} (hq : q < q') (hq' : q' ≤ n) (hlen : (tH q).length ≤ (tH (q + 1)).length) (hsame : (tH (q + 1)).length ≤ (tH q').length ∧ ∀ b, b < (tH (q + 1)).length → blk (tH q') b = blk (tH (q + 1)) b)
    (hini : ∀ b, (tH (q + 1)).length ≤ b → b < (tH q').length → blk (tH q') b = ini tH n b) (hle : (tH q').length ≤ (tH n).length)
    (R1 : Rel P B0 w0 m1 (tH (q + 1)) w1) (E : Ext (cutM m (tH q).length) (tH q) w m1 (tH (q + 1)) w1) (hnew : ∀ b, (tH q).length ≤ b → b < (tH (q + 1)).length → m b = none) :
    VR P B0 w0 tH n q' (mrg m1 m (tH (q + 1)).length) w1 ∧ (∀ b L, m b = some L → mrg m1 m (tH (q + 1)).length b = some L) := by
  have hmono : ∀ b L, m b = some L → mrg m1 m (tH (q + 1)).length b = some L := by
    intro b L hb
    unfold mrg
    split
    · rename_i hlt
      rcases Nat.lt_or_ge b (tH q).length with h1 | h1
      · exact E.mono b L (cutM_of h1 hb)
      · rw [hnew b h1 hlt] at hb; cases hb
    · exact hb
  have hmono1 : ∀ b L, m1 b = some L → mrg m1 m (tH (q + 1)).length b = some L := by
    intro b L hb
    unfold mrg
    rw [if_pos (R1.dom b L hb).1]
    exact hb
  have old : ∀ b L, mrg m1 m (tH (q + 1)).length b = some L → (b < (tH (q + 1)).length ∧ m1 b = some L) ∨ ((tH (q + 1)).length ≤ b ∧ m b = some L) := by
    intro b L hb
    unfold mrg at hb
    split at hb
    · rename_i h1; exact .inl ⟨h1, hb⟩
    · rename_i h1; exact .inr ⟨by omega, hb⟩
  -- what lies beyond is as it was
  have kbeyond : ∀ b, (tH (q + 1)).length ≤ b → kb tH n q' b = kb tH n q b := by
    intro b hb
    rw [kb_ge (q := q) (by omega)]
    rcases Nat.lt_or_ge b (tH q').length with h1 | h1
    · rw [kb_lt h1]; exact hini b hb h1
    · exact kb_ge h1
  have wbeyond : ∀ b L k, (tH (q + 1)).length ≤ b → m b = some L → kb tH n q b = some k → w1.heap[L.blk]? = w.heap[L.blk]? := by
    intro b L k hb hm hk
    refine E.frame _ (h.dom b L hm).2 fun b2 L2 k2 hm2 hk2 hne => ?_
    obtain ⟨h1, h2⟩ := cutM_some hm2
    exact h.inj b2 b L2 L k2 k h2 hm (by rw [kb_lt h1]; exact hk2) hk hne (by omega)
  -- where a block of the lesser heap may lie
  have place : ∀ b L k, m1 b = some L → blk (tH (q + 1)) b = some k → ∀ b2 L2 k2, (tH (q + 1)).length ≤ b2 → m b2 = some L2 → kb tH n q b2 = some k2 → (k.kind ≠ .ro ∨ k2.kind ≠ .ro) → L.blk ≠ L2.blk := by
    intro b L k hm hk b2 L2 k2 hb2 hm2 hk2 hor
    rcases E.new b L hm with h1 | ⟨h1, h3 | ⟨b0, L0, k0, h3, h4, h5, h6⟩⟩
    · obtain ⟨h3, h4⟩ := cutM_some h1
      obtain ⟨k', h5, h6⟩ := E.alive b k h3 hk
      rcases hor with hor | hor
      · exact h.inj b b2 L L2 k' k2 h4 hm2 (by rw [kb_lt h3]; exact h5) hk2 (by rw [h6]; exact hor) (by omega)
      · exact Ne.symm (h.inj b2 b L2 L k2 k' hm2 h4 hk2 (by rw [kb_lt h3]; exact h5) hor (by omega))
    · have := (h.dom b2 L2 hm2).2; omega
    · obtain ⟨h7, h8⟩ := cutM_some h3
      rw [← h6]
      exact h.inj b0 b2 L0 L2 k0 k2 h8 hm2 (by rw [kb_lt h7]; exact h4) hk2 h5 (by omega)
  refine ⟨⟨R1.below, R1.hB, fun b L hb => ?_, fun b L k hb hk => ?_, fun b1 b2 L1 L2 k1 k2 hm1 hm2 hk1 hk2 hne hbb => ?_⟩, hmono⟩
  · rcases old b L hb with ⟨h1, h2⟩ | ⟨h1, h2⟩
    · exact ⟨by omega, (R1.dom b L h2).2⟩
    · exact ⟨(h.dom b L h2).1, Nat.lt_of_lt_of_le (h.dom b L h2).2 E.size⟩
  · rcases old b L hb with ⟨h1, h2⟩ | ⟨h1, h2⟩
    · rw [kb_lt (by omega), hsame.2 b h1] at hk
      exact (R1.blks b L k h2 hk).mono fun b' L' h3 => cutM_of (by have := (R1.dom b' L' h3).1; omega) (hmono1 b' L' h3)
    · rw [kbeyond b h1] at hk
      refine ((h.blks b L k h2 hk).world (wbeyond b L k h1 h2 hk)).mono fun b' L' h3 => ?_
      obtain ⟨h4, h5⟩ := cutM_some h3
      exact cutM_of (by omega) (hmono b' L' h5)
  · rcases old b1 L1 hm1 with ⟨h1, h2⟩ | ⟨h1, h2⟩
    · rw [kb_lt (by omega), hsame.2 b1 h1] at hk1
      rcases old b2 L2 hm2 with ⟨h3, h4⟩ | ⟨h3, h4⟩
      · rw [kb_lt (by omega), hsame.2 b2 h3] at hk2
        exact R1.inj b1 b2 L1 L2 k1 k2 h2 h4 hk1 hk2 hne hbb
      · rw [kbeyond b2 h3] at hk2
        exact place b1 L1 k1 h2 hk1 b2 L2 k2 h3 h4 hk2 (.inl hne)
    · rw [kbeyond b1 h1] at hk1
      rcases old b2 L2 hm2 with ⟨h3, h4⟩ | ⟨h3, h4⟩
      · rw [kb_lt (by omega), hsame.2 b2 h3] at hk2
        exact Ne.symm (place b2 L2 k2 h4 hk2 b1 L1 k1 h1 h2 hk1 (.inr hne))
      · rw [kbeyond b2 h3] at hk2
        exact h.inj b1 b2 L1 L2 k1 k2 h2 h4 hk1 hk2 hne hbb
end
end Go.AM
namespace Go.AM
open Go.RowKit

section
variable {P : Program} {call : CallF} {ops : Array Oper}
def dstAt (ops : Array Oper) (i : Nat) : Option Tmp := (ops[i]?).bind (·.dst)
def sv (ops : Array Oper) (vl : Nat → Value) (T0 : List Value) (D : Nat → Bool) : Nat → Nat → Value
  | 0, s => T0.getD s undef
  | i + 1, s => if D i = true ∧ dstAt ops i = some s then vl i else sv ops vl T0 D i s
def svL (ops : Array Oper) (vl : Nat → Value) (T0 : List Value) (D : Nat → Bool) : List Value := (List.range T0.length).map (sv ops vl T0 D ops.size)
variable {vl : Nat → Value} {T0 : List Value}
theorem svL_length (D : Nat → Bool) : (svL ops vl T0 D).length = T0.length := by simp [svL]
theorem svL_getD (D : Nat → Bool) {s : Nat} (hs : s < T0.length) : (svL ops vl T0 D).getD s undef = sv ops vl T0 D ops.size s := by
  unfold svL
  rw [List.getD_eq_getElem?_getD, List.getElem?_map, List.getElem?_range hs]
  rfl
theorem sv_congr {D D' : Nat → Bool} {s : Nat} : ∀ i, (∀ j, j < i → dstAt ops j = some s → D j = D' j) → sv ops vl T0 D i s = sv ops vl T0 D' i s
  | 0, _ => rfl
  | i + 1, h => by
    have ih := sv_congr (D := D) (D' := D') i fun j hj => h j (by omega)
    unfold sv
    rw [ih]
    by_cases hd : dstAt ops i = some s
    · rw [h i (by omega) hd]
    · rw [if_neg (fun hh => hd hh.2), if_neg (fun hh => hd hh.2)]
theorem sv_cut {D : Nat → Bool} {s i : Nat} : ∀ d, (∀ j, i ≤ j → j < i + d → dstAt ops j = some s → D j = false) → sv ops vl T0 D (i + d) s = sv ops vl T0 D i s
  | 0, _ => rfl
  | d + 1, h => by
    have ih := sv_cut (D := D) (s := s) (i := i) d fun j h1 h2 => h j h1 (by omega)
    have e : sv ops vl T0 D (i + (d + 1)) s = if D (i + d) = true ∧ dstAt ops (i + d) = some s then vl (i + d) else sv ops vl T0 D (i + d) s := rfl
    rw [e, if_neg]
    · exact ih
    · intro hh
      have := h (i + d) (by omega) (by omega) hh.2
      rw [hh.1] at this
      cases this
theorem tT_sv {tT : Nat → List Value} (h0 : tT 0 = T0) (hstep : ∀ j o, ops[j]? = some o → tT (j + 1) = putT (tT j) o.dst (vl j)) : ∀ j, j ≤ ops.size → (tT j).length = T0.length ∧ ∀ s, s < T0.length → (tT j).getD s undef = sv ops vl T0 (fun _ => true) j s
  | 0, _ => by rw [h0]; exact ⟨rfl, fun s _ => rfl⟩
  | j + 1, hj => by
    obtain ⟨h1, h2⟩ := tT_sv h0 hstep j (by omega)
    have ho : ops[j]? = some ops[j] := Array.getElem?_eq_getElem (by omega)
    rw [hstep j _ ho]
    have hd : dstAt ops j = ops[j].dst := by simp [dstAt, ho]
    cases hdst : ops[j].dst with
    | none =>
      refine ⟨h1, fun s hs => ?_⟩
      unfold sv
      rw [if_neg (by rw [hd, hdst]; simp)]
      exact h2 s hs
    | some d =>
      refine ⟨by simp [putT, h1], fun s hs => ?_⟩
      unfold sv
      rw [hd, hdst]
      by_cases he : d = s
      · subst he
        rw [if_pos ⟨rfl, rfl⟩]
        simp only [putT]
        rw [List.getD_eq_getElem?_getD, List.getElem?_set_self (by omega)]
        rfl
      · rw [if_neg (by simp [he])]
        simp only [putT]
        rw [List.getD_eq_getElem?_getD, List.getElem?_set_ne he, ← List.getD_eq_getElem?_getD]
        exact h2 s hs
theorem regOK_pair (hreg : regOK ops = true) {i j : Nat} (hij : i < j) {oi oj : Oper} (hi : ops[i]? = some oi) (hj : ops[j]? = some oj) : ordB (befL [] ops.toList) i j = true ∨ ((isEff oi.op = true → isEff oj.op = true → False) ∧ oi.apart ops oj = true ∧ oj.apart ops oi = true) := by
  unfold regOK at hreg
  rw [Bool.and_eq_true] at hreg
  have h1 := List.all_eq_true.1 hreg.2 j (List.mem_range.2 (Array.getElem?_eq_some_iff.1 hj).1)
  have h2 := List.all_eq_true.1 h1 i (List.mem_range.2 hij)
  rw [Bool.or_eq_true] at h2
  rcases h2 with h2 | h2
  · exact .inl h2
  · right
    simp only [hi, hj, Option.any_some, Bool.and_eq_true, Bool.not_eq_true', Bool.and_eq_false_iff] at h2
    refine ⟨fun h3 h4 => ?_, h2.1.2, h2.2⟩
    rcases h2.1.1 with h5 | h5
    · rw [h3] at h5; cases h5
    · rw [h4] at h5; cases h5
theorem regOK_edge (hreg : regOK ops = true) {j : Nat} {o : Oper} (ho : ops[j]? = some o) {e : Edge} (he : e ∈ o.after) (hb : Region.binds .any e = true) : e.on < j := by
  unfold regOK at hreg
  rw [Bool.and_eq_true] at hreg
  have h1 := List.all_eq_true.1 hreg.1 j (List.mem_range.2 (Array.getElem?_eq_some_iff.1 ho).1)
  simp only [ho, Option.any_some] at h1
  have h2 := Array.all_eq_true'.1 h1 e he
  simpa [hb] using h2
structure Ready (ops : Array Oper) (D : Nat → Bool) (j : Nat) (o : Oper) : Prop where
  op : ops[j]? = some o
  down : Down ops (fun i => D i = true)
  edges : ∀ e ∈ o.after, Region.binds .any e = true → D e.on = true
  not : D j = false
variable {D : Nat → Bool} {j : Nat} {o : Oper}
theorem Ready.before (h : Ready ops D j o) {i : Nat} (ho : ordB (befL [] ops.toList) i j = true) : D i = true := ordB_down h.down j o h.op h.edges i ho
theorem Ready.behind (h : Ready ops D j o) {i : Nat} {oi : Oper} (hi : ops[i]? = some oi) (ho : ordB (befL [] ops.toList) j i = true) : D i = false := by
  cases hD : D i with
  | false => rfl
  | true =>
    have := ordB_down h.down i oi hi (fun e he hb => h.down i oi hi hD e he hb) j ho
    have h2 := h.not
    rw [this] at h2
    cases h2
theorem Ready.slots (hreg : regOK ops = true) (h : Ready ops D j o) {s : Tmp} (hs : s ∈ o.looksAt ops) : sv ops vl T0 D ops.size s = sv ops vl T0 (fun _ => true) j s := by
  have hj : j < ops.size := (Array.getElem?_eq_some_iff.1 h.op).1
  have e1 : sv ops vl T0 D ops.size s = sv ops vl T0 D j s := by
    have := sv_cut (ops := ops) (vl := vl) (T0 := T0) (D := D) (s := s) (i := j) (ops.size - j) fun i h1 h2 hd => ?_
    · rwa [show j + (ops.size - j) = ops.size by omega] at this
    · by_cases hij : i = j
      · subst hij; exact h.not
      · have hi : ops[i]? = some ops[i] := Array.getElem?_eq_getElem (by omega)
        rcases regOK_pair hreg (show j < i by omega) h.op hi with h3 | ⟨_, h3, _⟩
        · exact h.behind hi h3
        · obtain ⟨_, _, h5⟩ := Oper.apart_spec h3
          exact absurd hs (h5 s (by simpa [dstAt, hi] using hd))
  rw [e1]
  refine sv_congr j fun i hij hd => ?_
  have hi : ops[i]? = some ops[i] := Array.getElem?_eq_getElem (by omega)
  rcases regOK_pair hreg hij hi h.op with h3 | ⟨_, h3, _⟩
  · exact h.before h3
  · obtain ⟨h4, _, _⟩ := Oper.apart_spec h3
    exact absurd hs (h4 s (by simpa [dstAt, hi] using hd))
theorem Ready.put (hreg : regOK ops = true) (h : Ready ops D j o) : svL ops vl T0 (fun i => if i = j then true else D i) = putT (svL ops vl T0 D) o.dst (vl j) := by
  have hj : j < ops.size := (Array.getElem?_eq_some_iff.1 h.op).1
  have hdj : dstAt ops j = o.dst := by simp [dstAt, h.op]
  apply List.ext_getElem?
  intro s
  rcases Nat.lt_or_ge s T0.length with hs | hs
  · have hl : (svL ops vl T0 (fun i => if i = j then true else D i))[s]? = some (sv ops vl T0 (fun i => if i = j then true else D i) ops.size s) := by
      unfold svL; rw [List.getElem?_map, List.getElem?_range hs]; rfl
    have hl2 : (svL ops vl T0 D)[s]? = some (sv ops vl T0 D ops.size s) := by
      unfold svL; rw [List.getElem?_map, List.getElem?_range hs]; rfl
    rw [hl]
    by_cases hd : o.dst = some s
    · rw [hd]
      simp only [putT]
      rw [List.getElem?_set_self (by rw [svL_length]; exact hs)]
      congr 1
      have := sv_cut (ops := ops) (vl := vl) (T0 := T0) (D := fun i => if i = j then true else D i) (s := s) (i := j + 1) (ops.size - (j + 1)) fun i h1 h2 hdi => ?_
      · rw [show j + 1 + (ops.size - (j + 1)) = ops.size by omega] at this
        rw [this]
        unfold sv
        rw [if_pos ⟨by simp, by rw [hdj]; exact hd⟩]
      · simp only [if_neg (show i ≠ j by omega)]
        have hi : ops[i]? = some ops[i] := Array.getElem?_eq_getElem (by omega)
        rcases regOK_pair hreg (show j < i by omega) h.op hi with h3 | ⟨_, h3, _⟩
        · exact h.behind hi h3
        · obtain ⟨_, h5, _⟩ := Oper.apart_spec h3
          exact absurd (show ops[i].dst = some s by simpa [dstAt, hi] using hdi) (h5 s hd)
    · have e1 : sv ops vl T0 (fun i => if i = j then true else D i) ops.size s = sv ops vl T0 D ops.size s := sv_congr _ fun i hi hdi => by
        have : i ≠ j := fun he => hd (by rw [← hdj, ← he]; exact hdi)
        simp only [if_neg this]
      rw [e1]
      cases hdst : o.dst with
      | none => exact hl2.symm
      | some d =>
        simp only [putT]
        rw [List.getElem?_set_ne (fun he => hd (by rw [hdst, he]))]
        exact hl2.symm
  · have hl : (svL ops vl T0 (fun i => if i = j then true else D i))[s]? = none := List.getElem?_eq_none (by rw [svL_length]; exact hs)
    rw [hl]
    cases o.dst with
    | none => exact (List.getElem?_eq_none (by simp only [putT]; rw [svL_length]; exact hs)).symm
    | some d => exact (List.getElem?_eq_none (by simp only [putT, List.length_set]; rw [svL_length]; exact hs)).symm
theorem opv_slots {T T' : List Value} (hl : T.length = T'.length) {o : Oper} (h : ∀ s ∈ o.looksAt ops, s < T.length → T.getD s undef = T'.getD s undef) : (∀ x ∈ o.op.operands, opv T x = opv T' x) ∧ ∀ g want, o.guard = some (g, want) → yieldV ops T g = yieldV ops T' g := by
  have one : ∀ s ∈ o.looksAt ops, T.getD s undef = T'.getD s undef := by
    intro s hs
    rcases Nat.lt_or_ge s T.length with h1 | h1
    · exact h s hs h1
    · rw [List.getD_eq_getElem?_getD, List.getD_eq_getElem?_getD, List.getElem?_eq_none h1, List.getElem?_eq_none (by omega)]
  refine ⟨fun x hx => ?_, fun g want hg => ?_⟩
  · cases x with
    | tmp s => exact one s (List.mem_append_left _ (List.mem_filterMap.2 ⟨.tmp s, by simpa using hx, rfl⟩))
    | _ => rfl
  · unfold yieldV
    cases hd : (ops[g]?).bind (·.dst) with
    | none => rfl
    | some s => exact one s (by simp [Oper.looksAt, hg, hd])
end
end Go.AM
namespace Go.AM
open Go.RowKit

section
variable {P : Program} {call : CallF} {ops : Array Oper} {tT : Nat → List Value} {tH : Nat → AH} {sk : Nat → Bool} {vl : Nat → Value}

theorem read_sound {B0 : Nat} {w0 : World} {m : Mp} {X : AH} {w : World} (R0 : Rel P B0 w0 m X w) {T : List Value} {a : Act} (hT : LRel m T a.tmps.toList) {o : Oper} {f : AH → Option Value} (hf : opRead P (opv T) o.op = some f) {v : Value} (h : f X = some v) :
    ∃ v', (execOp a.eval o).run P w = .ok (.value v') w ∧ VRel m v v' := by
  obtain ⟨dst, op, ty, ps, af, g⟩ := o
  unfold opRead at hf
  split at hf
  · rename_i t x hop
    simp only at hop
    subst hop
    cases hf
    obtain ⟨v', q1, q2⟩ := ld_sound R0 (opv_rel hT x) h
    exact ⟨v', by simp [execOp, q1], q2⟩
  · rename_i s d x hop
    simp only at hop
    subst hop
    cases hb : isBytesToString P s d with
    | true =>
      rw [hb] at hf
      cases hf
      obtain ⟨v', q1, q2⟩ := cvS_sound R0 (opv_rel hT x) h
      exact ⟨v', by simp [execOp, q1], q2⟩
    | false => rw [hb] at hf; cases hf
  · rename_i t mm k two hop
    simp only at hop
    subst hop
    cases hf
    obtain ⟨v', q1, q2⟩ := lkU_sound R0 (opv_rel hT mm) (opv_rel hT k) h
    exact ⟨v', by simp [execOp, q1], q2⟩
  · rename_i t x lo hi mx hop
    simp only at hop
    subst hop
    cases hf
    obtain ⟨v', q1, q2⟩ := slc3_sound R0 (opv_rel hT x) (opt_rel hT lo) (opt_rel hT hi) (opv_rel hT mx) h
    exact ⟨v', by simp [execOp, q1], q2⟩
  · rename_i args ts hop
    simp only at hop
    subst hop
    split at hf
    · rename_i t x ht ha
      have e1 : ts = #[t] := by apply Array.ext'; simpa using ht
      have e2 : args = #[x] := by apply Array.ext'; simpa using ha
      subst e1 e2
      cases hb : isMapT P t with
      | true =>
        rw [hb] at hf
        cases hf
        obtain ⟨q1, q2⟩ := lenM_sound (P := P) (ty := ty) R0 (opv_rel hT x) h
        exact ⟨v, by simp [execOp, resolve, invoke, builtin, q1], .flat _ q2⟩
      | false => rw [hb] at hf; cases hf
    · cases hf
  · cases hf
theorem nextE (s : Nat) : ∀ d, s + d = ops.size → ∃ q, s ≤ q ∧ q ≤ ops.size ∧ (∀ e, s ≤ e → e < q → eE ops sk e = false) ∧ (q < ops.size → eE ops sk q = true)
  | 0, h => ⟨s, Nat.le_refl _, by omega, fun e h1 h2 => by omega, fun h1 => by omega⟩
  | d + 1, h => by
    cases he : eE ops sk s with
    | true => exact ⟨s, Nat.le_refl _, by omega, fun e h1 h2 => by omega, fun _ => he⟩
    | false =>
      obtain ⟨q, h1, h2, h3, h4⟩ := nextE (s + 1) d (by omega)
      exact ⟨q, by omega, h2, fun e h5 h6 => by
        by_cases hes : e = s
        · subst hes; exact he
        · exact h3 e (by omega) h6, h4⟩
theorem eE_inv {j : Nat} (h : eE ops sk j = true) : ∃ o, ops[j]? = some o ∧ isEff o.op = true ∧ sk j = false := by
  unfold eE at h
  rw [Bool.and_eq_true] at h
  cases ho : ops[j]? with
  | none => rw [ho] at h; cases h.1
  | some o => rw [ho] at h; exact ⟨o, rfl, by simpa using h.1, by simpa using h.2⟩
theorem crossing (f : Nat → Nat) (i : Nat) (b : Nat) (h0 : f i ≤ b) : ∀ d, b < f (i + d) → ∃ j, i ≤ j ∧ j < i + d ∧ f j ≤ b ∧ b < f (j + 1)
  | 0, h => by simp at h; omega
  | d + 1, h => by
    rcases Nat.lt_or_ge b (f (i + d)) with h1 | h1
    · obtain ⟨j, h2, h3, h4⟩ := crossing f i b h0 d h1
      exact ⟨j, h2, by omega, h4⟩
    · exact ⟨i + d, by omega, by omega, h1, h⟩

structure Inv (P : Program) (ops : Array Oper) (tT : Nat → List Value) (tH : Nat → AH) (sk : Nat → Bool) (vl : Nat → Value) (B0 : Nat) (w0 : World) (m0 : Mp) (wI : World) (ds : List Deferred) (listed : Array Bool) (q : Nat) (m : Mp) (a : Act) (w : World) : Prop where
  lsize : listed.size = ops.size
  down : Down ops (fun i => listed.getD i false = true)
  hq : q ≤ ops.size
  hq1 : q < ops.size → eE ops sk q = true ∧ listed.getD q false = false
  hq2 : ∀ e, e < q → eE ops sk e = true → listed.getD e false = true
  slots : LRel m (svL ops vl (tT 0) (fun i => listed.getD i false)) a.tmps.toList
  defers : a.defers = ds
  vr : VR P B0 w0 tH ops.size q m w
  dm : ∀ b L, m b = some L → b < (tH 0).length ∨ ∃ i, i < ops.size ∧ listed.getD i false = true ∧ (tH i).length ≤ b ∧ b < (tH (i + 1)).length
  mono0 : ∀ b L, m0 b = some L → m b = some L
  size : wI.heap.size ≤ w.heap.size
  new : ∀ b L, m b = some L → m0 b = some L ∨ ((tH 0).length ≤ b ∧ (wI.heap.size ≤ L.blk ∨ ∃ b0 L0 k0, m0 b0 = some L0 ∧ blk (tH 0) b0 = some k0 ∧ k0.kind ≠ .ro ∧ L0.blk = L.blk))
  frame : ∀ B, B < wI.heap.size → (∀ b L k, m0 b = some L → blk (tH 0) b = some k → k.kind ≠ .ro → L.blk ≠ B) → w.heap[B]? = wI.heap[B]?

structure Along (ops : Array Oper) (tT : Nat → List Value) (tH : Nat → AH) (m0 : Mp) : Prop where
  lens : ∀ i d, i + d ≤ ops.size → (tH i).length ≤ (tH (i + d)).length
  alive : ∀ d, d ≤ ops.size → ∀ b k', b < (tH 0).length → blk (tH d) b = some k' → ∃ k, blk (tH 0) b = some k ∧ k.kind = k'.kind
  bel : ∀ (j s : Nat) (x : Value), j ≤ ops.size → (tT j)[s]? = some x → Bel (tH j).length x
  dom0 : ∀ b L, m0 b = some L → b < (tH 0).length
theorem Along.le {m0 : Mp} (A : Along ops tT tH m0) {i j : Nat} (h : i ≤ j) (hj : j ≤ ops.size) : (tH i).length ≤ (tH j).length := by
  have := A.lens i (j - i) (by omega)
  rwa [show i + (j - i) = j by omega] at this
theorem getD_set {listed : Array Bool} {j : Nat} (hj : j < listed.size) (i : Nat) : (listed.setIfInBounds j true).getD i false = if i = j then true else listed.getD i false := by
  by_cases h : i = j
  · subst h
    rw [if_pos rfl]
    simp [Array.getD, hj]
  · rw [if_neg h]
    exact getD_set_ne false (Ne.symm h)
section
variable {B0 : Nat} {w0 : World} {m0 : Mp} {wI : World} {ds : List Deferred} {listed : Array Bool} {q : Nat} {m : Mp} {a : Act} {w : World}
theorem Inv.rdy (I : Inv P ops tT tH sk vl B0 w0 m0 wI ds listed q m a w) {j : Nat} (hr : j ∈ Region.ready .any ops listed) : ∃ o, Ready ops (fun i => listed.getD i false) j o := by
  unfold Region.ready at hr
  rw [List.mem_filter] at hr
  obtain ⟨h1, h2⟩ := hr
  have hj : j < ops.size := List.mem_range.1 h1
  have ho : ops[j]? = some ops[j] := Array.getElem?_eq_getElem hj
  rw [Bool.and_eq_true, ho] at h2
  simp only [Option.map_some, Option.getD_some] at h2
  refine ⟨ops[j], ho, I.down, fun e he hb => ?_, ?_⟩
  · have := Array.all_eq_true'.1 h2.2 e he
    simpa [hb] using this
  · have hlt : j < listed.size := by rw [I.lsize]; exact hj
    have := h2.1
    simp [Array.getD, hlt] at this ⊢
    exact this
theorem Inv.down' (I : Inv P ops tT tH sk vl B0 w0 m0 wI ds listed q m a w) {j : Nat} {o : Oper} (hr : Ready ops (fun i => listed.getD i false) j o) : Down ops (fun i => (listed.setIfInBounds j true).getD i false = true) := by
  have hlt : j < listed.size := by rw [I.lsize]; exact (Array.getElem?_eq_some_iff.1 hr.op).1
  intro i oi hi hD e he hb
  simp only [getD_set hlt] at hD ⊢
  by_cases hij : i = j
  · subst hij
    rw [hr.op] at hi
    cases hi
    have := hr.edges e he hb
    split
    · rfl
    · exact this
  · rw [if_neg hij] at hD
    have := I.down i oi hi hD e he hb
    split
    · rfl
    · exact this
theorem Inv.mark (hreg : regOK ops = true) (I : Inv P ops tT tH sk vl B0 w0 m0 wI ds listed q m a w) {j : Nat} {o : Oper} (hr : Ready ops (fun i => listed.getD i false) j o) (hne : eE ops sk j = false) {m2 : Mp} {w2 : World} {v' : Value}
    (hmono : ∀ b L, m b = some L → m2 b = some L) (hv : VRel m2 (vl j) v') (hvr : VR P B0 w0 tH ops.size q m2 w2) (hdm : ∀ b L, m2 b = some L → m b = some L ∨ ((tH j).length ≤ b ∧ b < (tH (j + 1)).length ∧ w.heap.size ≤ L.blk)) (h0 : (tH 0).length ≤ (tH j).length)
    (hs : w.heap.size ≤ w2.heap.size) (hw : ∀ B, B < w.heap.size → w2.heap[B]? = w.heap[B]?) :
    Inv P ops tT tH sk vl B0 w0 m0 wI ds (listed.setIfInBounds j true) q m2 (a.put o.dst v') w2 := by
  have hj : j < ops.size := (Array.getElem?_eq_some_iff.1 hr.op).1
  have hlt : j < listed.size := by rw [I.lsize]; exact hj
  refine ⟨by simp [I.lsize], I.down' hr, I.hq, fun h => ?_, fun e he hE => ?_, ?_, by rw [AM.put_defers]; exact I.defers, hvr, fun b L hb => ?_, fun b L hb => hmono b L (I.mono0 b L hb), Nat.le_trans I.size hs, fun b L hb => ?_, fun B hB hr' => ?_⟩
  · obtain ⟨h1, h2⟩ := I.hq1 h
    refine ⟨h1, ?_⟩
    rw [getD_set hlt, if_neg]
    · exact h2
    · intro he
      subst he
      rw [h1] at hne
      cases hne
  · rw [getD_set hlt]
    split
    · rfl
    · exact I.hq2 e he hE
  · have e1 : (fun i => (listed.setIfInBounds j true).getD i false) = fun i => if i = j then true else listed.getD i false := by funext i; exact getD_set hlt i
    rw [e1, hr.put hreg]
    exact put_rel (I.slots.mono hmono) _ hv
  · rcases hdm b L hb with h1 | ⟨h1, h2, h3⟩
    · rcases I.dm b L h1 with h4 | ⟨i, h4, h5, h6⟩
      · exact .inl h4
      · refine .inr ⟨i, h4, ?_, h6⟩
        rw [getD_set hlt]
        split
        · rfl
        · exact h5
    · exact .inr ⟨j, hj, by rw [getD_set hlt, if_pos rfl], h1, h2⟩
  · rcases hdm b L hb with h1 | ⟨h1, h2, h3⟩
    · exact I.new b L h1
    · exact .inr ⟨by omega, .inl (Nat.le_trans I.size h3)⟩
  · rw [hw B (Nat.lt_of_lt_of_le hB I.size)]
    exact I.frame B hB hr'
theorem Inv.readNow (X : Tr P call ops (befL [] ops.toList) 0 tT tH sk vl) (A : Along ops tT tH m0) (I : Inv P ops tT tH sk vl B0 w0 m0 wI ds listed q m a w) {j : Nat} {o : Oper} (hr : Ready ops (fun i => listed.getD i false) j o) (hs : sk j = false) {f : AH → Option Value}
    (hf : opRead P (opv (tT j)) o.op = some f) : ∃ Y, (∀ b k, blk Y b = some k → kb tH ops.size q b = some k) ∧ f Y = some (vl j) := by
  have hj : j < ops.size := (Array.getElem?_eq_some_iff.1 hr.op).1
  have hnj : eE ops sk j = false := by simp [eE, hr.op, read_not_eff hf]
  rcases Nat.lt_or_ge j q with hlt | hge
  · have key : ∀ d, j + 1 + d ≤ q → f (tH (j + 1 + d)) = some (vl j) := by
      intro d
      induction d with
      | zero =>
        intro _
        obtain ⟨h1, h2⟩ := X.read j o f (Nat.zero_le _) hr.op hs hf
        rw [Nat.add_zero, h2]
        exact h1
      | succ d ih =>
        intro hd
        have hprev := ih (by omega)
        have hq := I.hq
        cases hE : eE ops sk (j + 1 + d) with
        | true =>
          obtain ⟨oe, he1, he2, he3⟩ := eE_inv hE
          have hl := I.hq2 (j + 1 + d) (by omega) hE
          have hord : ordB (befL [] ops.toList) j (j + 1 + d) = false := by
            cases hc : ordB (befL [] ops.toList) j (j + 1 + d) with
            | false => rfl
            | true => have := hr.behind he1 hc; rw [hl] at this; cases this
          exact X.futR j o f (j + 1 + d) oe (Nat.zero_le _) (by omega) hr.op he1 hs he3 he2 hf hord
        | false =>
          rcases X.noeff (j := j + 1 + d) (by omega) hE with h3 | ⟨k, h3⟩
          · rw [show j + 1 + (d + 1) = j + 1 + d + 1 by omega, h3]; exact hprev
          · rw [show j + 1 + (d + 1) = j + 1 + d + 1 by omega, h3]
            exact opRead_keep hf (fun b k' hk => by rw [blk_app_old _ (blk_lt' hk)]; exact hk) hprev
    have := key (q - (j + 1)) (by omega)
    rw [show j + 1 + (q - (j + 1)) = q by omega] at this
    exact ⟨tH q, fun b k hb => by rw [kb_lt (blk_lt' hb)]; exact hb, this⟩
  · have hne : q ≠ j := by
      intro he
      subst he
      have := (I.hq1 hj).1
      rw [hnj] at this
      cases this
    obtain ⟨h1, h2⟩ := I.hq1 (by omega)
    obtain ⟨oe, he1, he2, he3⟩ := eE_inv h1
    have hord : ordB (befL [] ops.toList) q j = false := by
      cases hc : ordB (befL [] ops.toList) q j with
      | false => rfl
      | true => have := hr.before hc; rw [h2] at this; cases this
    obtain ⟨Y, g1, g2⟩ := X.pastR j o f q oe (Nat.zero_le _) (by omega) hr.op he1 hs he3 he2 hf hord
    refine ⟨Y, fun b k hb => ?_, g2⟩
    rcases g1 b k hb with g3 | ⟨e, g3, g4, g5, g6, g7⟩
    · rw [kb_lt (blk_lt' g3)]; exact g3
    · have hle : (tH q).length ≤ b := Nat.le_trans (A.le (show q ≤ e by omega) (by omega)) g5
      rw [kb_ge hle, ini_eq A.lens (show e < ops.size by omega) g5 g6]
      exact g7
theorem Inv.makeNow (X : Tr P call ops (befL [] ops.toList) 0 tT tH sk vl) (A : Along ops tT tH m0) (I : Inv P ops tT tH sk vl B0 w0 m0 wI ds listed q m a w) {j : Nat} {o : Oper} (hr : Ready ops (fun i => listed.getD i false) j o) (hs : sk j = false)
    (hf : opRead P (opv (tT j)) o.op = none) (ha : isAlloc o.op = true) {k : Blk} (hk : tH (j + 1) = tH j ++ [some k]) : kb tH ops.size q (tH j).length = some k := by
  have hj : j < ops.size := (Array.getElem?_eq_some_iff.1 hr.op).1
  have hnew : blk (tH (j + 1)) (tH j).length = some k := by rw [hk]; unfold blk; simp
  have hlen : (tH (j + 1)).length = (tH j).length + 1 := by rw [hk]; simp
  have hnj : eE ops sk j = false := by simp [eE, hr.op, alloc_not_eff ha]
  rcases Nat.lt_or_ge j q with hlt | hge
  · have key : ∀ d, j + 1 + d ≤ q → blk (tH (j + 1 + d)) (tH j).length = some k := by
      intro d
      induction d with
      | zero => intro _; exact hnew
      | succ d ih =>
        intro hd
        have hprev := ih (by omega)
        have hq := I.hq
        cases hE : eE ops sk (j + 1 + d) with
        | true =>
          obtain ⟨oe, he1, he2, he3⟩ := eE_inv hE
          have hl := I.hq2 (j + 1 + d) (by omega) hE
          have hord : ordB (befL [] ops.toList) j (j + 1 + d) = false := by
            cases hc : ordB (befL [] ops.toList) j (j + 1 + d) with
            | false => rfl
            | true => have := hr.behind he1 hc; rw [hl] at this; cases this
          have := X.futA j o (j + 1 + d) oe (Nat.zero_le _) (by omega) hr.op he1 hs he3 he2 hf ha hord
          rw [show j + 1 + (d + 1) = j + 1 + d + 1 by omega, this]
          exact hnew
        | false =>
          rcases X.noeff (j := j + 1 + d) (by omega) hE with h3 | ⟨k', h3⟩
          · rw [show j + 1 + (d + 1) = j + 1 + d + 1 by omega, h3]; exact hprev
          · rw [show j + 1 + (d + 1) = j + 1 + d + 1 by omega, h3, blk_app_old _ (blk_lt' hprev)]
            exact hprev
    have := key (q - (j + 1)) (by omega)
    rw [show j + 1 + (q - (j + 1)) = q by omega] at this
    rw [kb_lt (blk_lt' this)]
    exact this
  · have hle := A.le hge (by omega)
    rw [kb_ge hle, ini_eq A.lens hj (Nat.le_refl _) (by omega)]
    exact hnew
end
end
end Go.AM
namespace Go.AM
open Go.RowKit

section
variable {P : Program} {call : CallF} {ops : Array Oper} {tT : Nat → List Value} {tH : Nat → AH} {sk : Nat → Bool} {vl : Nat → Value} {B0 : Nat} {w0 : World} {m0 : Mp} {wI : World} {ds : List Deferred} {listed : Array Bool} {q : Nat} {m : Mp} {a : Act} {w : World}

theorem Tr.sv (X : Tr P call ops (befL [] ops.toList) 0 tT tH sk vl) {j : Nat} (hj : j ≤ ops.size) : (tT j).length = (tT 0).length ∧ ∀ s, s < (tT 0).length → (tT j).getD s undef = AM.sv ops vl (tT 0) (fun _ => true) j s :=
  tT_sv rfl (fun j o ho => X.step j o (Nat.zero_le _) ho) j hj
theorem Inv.looks (hreg : regOK ops = true) (X : Tr P call ops (befL [] ops.toList) 0 tT tH sk vl) (I : Inv P ops tT tH sk vl B0 w0 m0 wI ds listed q m a w) {j : Nat} {o : Oper} (hr : Ready ops (fun i => listed.getD i false) j o) :
    ∀ s ∈ o.looksAt ops, s < (svL ops vl (tT 0) (fun i => listed.getD i false)).length → (svL ops vl (tT 0) (fun i => listed.getD i false)).getD s undef = (tT j).getD s undef := by
  intro s hs hlt
  rw [svL_length] at hlt
  rw [svL_getD _ hlt, hr.slots hreg hs, ((X.sv (Nat.le_of_lt (Array.getElem?_eq_some_iff.1 hr.op).1)).2 s hlt)]
theorem Inv.opv (hreg : regOK ops = true) (X : Tr P call ops (befL [] ops.toList) 0 tT tH sk vl) (I : Inv P ops tT tH sk vl B0 w0 m0 wI ds listed q m a w) {j : Nat} {o : Oper} (hr : Ready ops (fun i => listed.getD i false) j o) :
    (∀ x ∈ o.op.operands, AM.opv (svL ops vl (tT 0) (fun i => listed.getD i false)) x = AM.opv (tT j) x) ∧ ∀ g want, o.guard = some (g, want) → yieldV ops (svL ops vl (tT 0) (fun i => listed.getD i false)) g = yieldV ops (tT j) g := by
  have hj := Nat.le_of_lt (Array.getElem?_eq_some_iff.1 hr.op).1
  exact opv_slots (by rw [svL_length, (X.sv hj).1]) (I.looks hreg X hr)
theorem Inv.wanted (hreg : regOK ops = true) (X : Tr P call ops (befL [] ops.toList) 0 tT tH sk vl) (I : Inv P ops tT tH sk vl B0 w0 m0 wI ds listed q m a w) {j : Nat} {o : Oper} (hr : Ready ops (fun i => listed.getD i false) j o) :
    Region.wanted o (yielded ops a.tmps) = !sk j := by
  obtain ⟨_, hy⟩ := I.opv hreg X hr
  cases hs : sk j with
  | true =>
    obtain ⟨⟨g, want, hg, hu⟩, _⟩ := X.skip j o (Nat.zero_le _) hr.op hs
    rcases hu with ⟨b, hu, hb⟩ | ⟨vs, hu, _⟩
    · rw [wanted_of hg ((yield_rel I.slots g).1 b (by rw [hy g want hg]; exact hu))]
      simp [hb]
    · rw [wanted_of hg ((yield_rel I.slots g).2 vs (by rw [hy g want hg]; exact hu))]
      rfl
  | false =>
    rcases X.go j o (Nat.zero_le _) hr.op hs with hg | ⟨g, want, hg, hu⟩
    · unfold Region.wanted; rw [hg]; rfl
    · rw [wanted_of hg ((yield_rel I.slots g).1 want (by rw [hy g want hg]; exact hu))]
      simp
theorem Inv.isq (hreg : regOK ops = true) (I : Inv P ops tT tH sk vl B0 w0 m0 wI ds listed q m a w) {j : Nat} {o : Oper} (hr : Ready ops (fun i => listed.getD i false) j o) (hE : eE ops sk j = true) : j = q := by
  have hj : j < ops.size := (Array.getElem?_eq_some_iff.1 hr.op).1
  rcases Nat.lt_trichotomy j q with h | h | h
  · have := I.hq2 j h hE
    have h2 := hr.not
    rw [this] at h2
    cases h2
  · exact h
  · obtain ⟨h1, h2⟩ := I.hq1 (by omega)
    obtain ⟨oq, hq1, hq2, _⟩ := eE_inv h1
    obtain ⟨oj, hj1, hj2, _⟩ := eE_inv hE
    rcases regOK_pair hreg h hq1 hj1 with h3 | ⟨h3, _⟩
    · have := hr.before h3; rw [h2] at this; cases this
    · exact (h3 hq2 hj2).elim
theorem Inv.masked (hreg : regOK ops = true) (X : Tr P call ops (befL [] ops.toList) 0 tT tH sk vl) (A : Along ops tT tH m0) (I : Inv P ops tT tH sk vl B0 w0 m0 wI ds listed q m a w) {j : Nat} {o : Oper} (hr : Ready ops (fun i => listed.getD i false) j o) :
    ∃ T, LRel (cutM m (tH j).length) T a.tmps.toList ∧ ∀ x ∈ o.op.operands, AM.opv T x = AM.opv (tT j) x := by
  have hj : j ≤ ops.size := Nat.le_of_lt (Array.getElem?_eq_some_iff.1 hr.op).1
  refine ⟨(List.range (tT 0).length).map fun s => if s ∈ o.looksAt ops then (tT j).getD s undef else unk, ⟨?_, ?_⟩, ?_⟩
  · rw [List.length_map, List.length_range, ← I.slots.1, svL_length]
  · intro s x y hx hy
    rw [List.getElem?_map] at hx
    have hlt : s < (tT 0).length := by
      rcases Nat.lt_or_ge s (tT 0).length with h1 | h1
      · exact h1
      · rw [List.getElem?_eq_none (by simpa using h1)] at hx; cases hx
    rw [List.getElem?_range hlt, Option.map_some] at hx
    cases hx
    split
    · rename_i hs
      have h1 := I.looks hreg X hr s hs (by rw [svL_length]; exact hlt)
      have h2 : (svL ops vl (tT 0) (fun i => listed.getD i false))[s]? = some ((tT j).getD s undef) := by
        rw [← h1, List.getD_eq_getElem?_getD, List.getElem?_eq_getElem (by rw [svL_length]; exact hlt)]
        rfl
      have h3 := I.slots.2 s _ y h2 hy
      have h4 : (tT j)[s]? = some ((tT j).getD s undef) := by
        rw [List.getD_eq_getElem?_getD, List.getElem?_eq_getElem (by rw [(X.sv hj).1]; exact hlt)]
        rfl
      exact h3.cutB (A.bel j s _ hj h4)
    · exact .unk _
  · refine (opv_slots (ops := ops) (by rw [List.length_map, List.length_range, (X.sv hj).1]) fun s hs hlt => ?_).1
    rw [List.length_map, List.length_range] at hlt
    rw [List.getD_eq_getElem?_getD, List.getElem?_map, List.getElem?_range hlt, Option.map_some, Option.getD_some, if_pos hs]
theorem Inv.act (hreg : regOK ops = true) (X : Tr P call ops (befL [] ops.toList) 0 tT tH sk vl) (A : Along ops tT tH m0) (I : Inv P ops tT tH sk vl B0 w0 m0 wI ds listed q m a w) {o : Oper} (hr : Ready ops (fun i => listed.getD i false) q o) (hE : eE ops sk q = true)
    {m1 : Mp} {w1 : World} {v' : Value} (E : Ext (cutM m (tH q).length) (tH q) w m1 (tH (q + 1)) w1) (R1 : Rel P B0 w0 m1 (tH (q + 1)) w1) (hv : VRel m1 (vl q) v') :
    ∃ q' m2, Inv P ops tT tH sk vl B0 w0 m0 wI ds (listed.setIfInBounds q true) q' m2 (a.put o.dst v') w1 := by
  have hq : q < ops.size := (Array.getElem?_eq_some_iff.1 hr.op).1
  have hlt : q < listed.size := by rw [I.lsize]; exact hq
  obtain ⟨q', hq1, hq2, hq3, hq4⟩ := nextE (ops := ops) (sk := sk) (q + 1) (ops.size - (q + 1)) (by omega)
  have hlen := A.le (i := q) (j := q + 1) (by omega) (by omega)
  have hsame := X.same (q + 1) (q' - (q + 1)) (by omega) (fun e h1 h2 => hq3 e h1 (by omega))
  rw [show q + 1 + (q' - (q + 1)) = q' by omega] at hsame
  have hini : ∀ b, (tH (q + 1)).length ≤ b → b < (tH q').length → blk (tH q') b = ini tH ops.size b := by
    intro b h1 h2
    obtain ⟨j, h3, h4, h5, h6⟩ := crossing (fun i => (tH i).length) (q + 1) b h1 (q' - (q + 1)) (by rw [show q + 1 + (q' - (q + 1)) = q' by omega]; exact h2)
    rw [ini_eq A.lens (show j < ops.size by omega) h5 h6]
    have h7 := X.same (j + 1) (q' - (j + 1)) (by omega) (fun e h7 h8 => hq3 e (by omega) (by omega))
    rw [show j + 1 + (q' - (j + 1)) = q' by omega] at h7
    exact h7.2 b h6
  have hnew : ∀ b, (tH q).length ≤ b → b < (tH (q + 1)).length → m b = none := by
    intro b h1 h2
    cases hb : m b with
    | none => rfl
    | some L =>
      exfalso
      rcases I.dm b L hb with h3 | ⟨i, h3, h4, h5, h6⟩
      · have := A.le (i := 0) (j := q) (by omega) (by omega); omega
      · rcases Nat.lt_trichotomy i q with h7 | h7 | h7
        · have := A.le (i := i + 1) (j := q) (by omega) (by omega); omega
        · subst h7
          have := hr.not
          rw [h4] at this
          cases this
        · have := A.le (i := q + 1) (j := i) (by omega) (by omega); omega
  obtain ⟨V, hmono⟩ := I.vr.eff (by omega) hq2 hlen hsame hini (A.le hq2 (Nat.le_refl _)) R1 E hnew
  have hmono1 : ∀ b L, m1 b = some L → mrg m1 m (tH (q + 1)).length b = some L := by
    intro b L hb
    unfold mrg
    rw [if_pos (R1.dom b L hb).1]
    exact hb
  have split_ : ∀ b L, mrg m1 m (tH (q + 1)).length b = some L → m b = some L ∨ ((tH q).length ≤ b ∧ b < (tH (q + 1)).length ∧ (w.heap.size ≤ L.blk ∨ ∃ b0 L0 k0, m b0 = some L0 ∧ blk (tH q) b0 = some k0 ∧ b0 < (tH q).length ∧ k0.kind ≠ .ro ∧ L0.blk = L.blk)) := by
    intro b L hb
    unfold mrg at hb
    split at hb
    · rename_i h1
      rcases E.new b L hb with h2 | ⟨h2, h3 | ⟨b0, L0, k0, h3, h4, h5, h6⟩⟩
      · exact .inl (cutM_some h2).2
      · exact .inr ⟨h2, h1, .inl h3⟩
      · obtain ⟨h7, h8⟩ := cutM_some h3
        exact .inr ⟨h2, h1, .inr ⟨b0, L0, k0, h8, h4, h7, h5, h6⟩⟩
    · exact .inl hb
  -- an own block that there was
  have own0 : ∀ b L k, m b = some L → blk (tH q) b = some k → k.kind ≠ .ro → (wI.heap.size ≤ L.blk ∨ ∃ b0 L0 k0, m0 b0 = some L0 ∧ blk (tH 0) b0 = some k0 ∧ k0.kind ≠ .ro ∧ L0.blk = L.blk) := by
    intro b L k h1 h2 h3
    rcases I.new b L h1 with h4 | ⟨_, h4⟩
    · obtain ⟨k0, h5, h6⟩ := A.alive q (by omega) b k (A.dom0 b L h4) h2
      exact .inr ⟨b, L, k0, h4, h5, by rw [h6]; exact h3, rfl⟩
    · exact h4
  refine ⟨q', mrg m1 m (tH (q + 1)).length, ⟨by simp [I.lsize], I.down' hr, hq2, fun h => ⟨hq4 h, ?_⟩, fun e he hEe => ?_, ?_, by rw [AM.put_defers]; exact I.defers, V, fun b L hb => ?_, fun b L hb => hmono b L (I.mono0 b L hb), Nat.le_trans I.size E.size, fun b L hb => ?_, fun B hB hr' => ?_⟩⟩
  · rw [getD_set hlt, if_neg (by omega)]
    cases hc : listed.getD q' false with
    | false => rfl
    | true =>
      exfalso
      obtain ⟨oq', h1, h2, _⟩ := eE_inv (hq4 h)
      obtain ⟨oq, h3, h4, _⟩ := eE_inv hE
      rcases regOK_pair hreg (show q < q' by omega) h3 h1 with h5 | ⟨h5, _⟩
      · have := hr.behind h1 h5
        rw [hc] at this
        cases this
      · exact h5 h4 h2
  · rw [getD_set hlt]
    split
    · rfl
    · rename_i hne
      rcases Nat.lt_or_ge e q with h1 | h1
      · exact I.hq2 e h1 hEe
      · have := hq3 e (by omega) he
        rw [hEe] at this
        cases this
  · have e1 : (fun i => (listed.setIfInBounds q true).getD i false) = fun i => if i = q then true else listed.getD i false := by funext i; exact getD_set hlt i
    rw [e1, hr.put hreg]
    exact put_rel (I.slots.mono hmono) _ (hv.mono hmono1)
  · rcases split_ b L hb with h1 | ⟨h1, h2, _⟩
    · rcases I.dm b L h1 with h4 | ⟨i, h4, h5, h6⟩
      · exact .inl h4
      · refine .inr ⟨i, h4, ?_, h6⟩
        rw [getD_set hlt]
        split
        · rfl
        · exact h5
    · exact .inr ⟨q, hq, by rw [getD_set hlt, if_pos rfl], h1, h2⟩
  · rcases split_ b L hb with h1 | ⟨h1, h2, h3⟩
    · exact I.new b L h1
    · have := A.le (i := 0) (j := q) (by omega) (by omega)
      refine .inr ⟨by omega, ?_⟩
      rcases h3 with h3 | ⟨b0, L0, k0, h3, h4, _, h5, h6⟩
      · exact .inl (Nat.le_trans I.size h3)
      · have := own0 b0 L0 k0 h3 h4 h5
        rw [h6] at this
        exact this
  · rw [E.frame B (Nat.lt_of_lt_of_le hB I.size), I.frame B hB hr']
    intro b L k hb hk hne
    obtain ⟨h1, h2⟩ := cutM_some hb
    rcases own0 b L k h2 hk hne with h3 | ⟨b0, L0, k0, h3, h4, h5, h6⟩
    · omega
    · rw [← h6]; exact hr' b0 L0 k0 h3 h4 h5
def left (ops : Array Oper) (listed : Array Bool) : List Nat := (List.range ops.size).filter fun i => !listed.getD i false
theorem filter_less {f g : Nat → Bool} : ∀ (l : List Nat) (j : Nat), j ∈ l → f j = true → g j = false → (∀ i, g i = true → f i = true) → (l.filter g).length < (l.filter f).length
  | [], j, hj, _, _, _ => by cases hj
  | i :: l, j, hj, hf, hg, hgf => by
    have hle : (l.filter g).length ≤ (l.filter f).length := by
      clear hj
      induction l with
      | nil => simp
      | cons i l ih =>
        simp only [List.filter_cons]
        cases hgi : g i with
        | true => rw [hgf i hgi]; simp; exact ih
        | false => cases f i <;> simp <;> omega
    by_cases hij : i = j
    · subst hij
      simp only [List.filter_cons, hf, hg, if_true]
      simp
      omega
    · have hjl : j ∈ l := by cases hj with | head => exact (hij rfl).elim | tail _ h => exact h
      have := filter_less l j hjl hf hg hgf
      simp only [List.filter_cons]
      cases hgi : g i with
      | true => rw [hgf i hgi]; simp; exact this
      | false => cases f i <;> simp <;> omega
theorem Inv.any (hcall : CallOK P call) (hreg : regOK ops = true) (X : Tr P call ops (befL [] ops.toList) 0 tT tH sk vl) (A : Along ops tT tH m0) {Q : Exit → Act → World → Prop}
    (hq : ∀ (m' : Mp) (a' : Act) (w' : World), After P B0 w0 m0 (tH 0) wI ds (tT ops.size) (tH ops.size) m' a' w' → Q .normal a' w') :
    ∀ (fuel : Nat) (listed : Array Bool) (q : Nat) (m : Mp) (a : Act) (w : World), Inv P ops tT tH sk vl B0 w0 m0 wI ds listed q m a w → (left ops listed).length ≤ fuel → wpAny P .any ops Q fuel listed a w := by
  -- when nothing is ready, all is done
  have fin : ∀ (listed : Array Bool) (q : Nat) (m : Mp) (a : Act) (w : World), Inv P ops tT tH sk vl B0 w0 m0 wI ds listed q m a w → (∀ j, j < ops.size → listed.getD j false = true) → Q .normal a w := by
    intro listed q m a w I hall
    have hqn : q = ops.size := by
      rcases Nat.lt_or_ge q ops.size with h | h
      · have := (I.hq1 h).2
        rw [hall q h] at this
        cases this
      · have := I.hq; omega
    subst hqn
    have hN : ∀ b L, m b = some L → cutM m (tH ops.size).length b = some L := fun b L hb => cutM_of (I.vr.dom b L hb).1 hb
    have hT : svL ops vl (tT 0) (fun i => listed.getD i false) = tT ops.size := by
      obtain ⟨h1, h2⟩ := X.sv (Nat.le_refl ops.size)
      apply List.ext_getElem?
      intro s
      rcases Nat.lt_or_ge s (tT 0).length with hs | hs
      · have e1 : (svL ops vl (tT 0) (fun i => listed.getD i false))[s]? = some (AM.sv ops vl (tT 0) (fun i => listed.getD i false) ops.size s) := by
          unfold svL; rw [List.getElem?_map, List.getElem?_range hs]; rfl
        rw [e1, AM.sv_congr (D' := fun _ => true) _ (fun j hj _ => hall j hj), ← h2 s hs, List.getD_eq_getElem?_getD, List.getElem?_eq_getElem (by omega)]
        rfl
      · rw [List.getElem?_eq_none (by rw [svL_length]; exact hs), List.getElem?_eq_none (by omega)]
    refine hq (cutM m (tH ops.size).length) a w ⟨⟨fun b L hb => hN b L (I.mono0 b L hb), A.le (Nat.zero_le _) (Nat.le_refl _), I.size, fun b k' hb hk => A.alive ops.size (Nat.le_refl _) b k' hb hk, fun b L hb => I.new b L (cutM_some hb).2, I.frame⟩, I.vr.rel, ?_, I.defers⟩
    rw [← hT]
    exact I.slots.mono hN
  have ready_nil : ∀ (listed : Array Bool), Region.ready .any ops listed = [] → listed.size = ops.size → ∀ j, j < ops.size → listed.getD j false = true := by
    intro listed hnil hsz j
    induction j using Nat.strongRecOn with
    | _ j ih =>
      intro hj
      cases hl : listed.getD j false with
      | true => rfl
      | false =>
        exfalso
        have ho : ops[j]? = some ops[j] := Array.getElem?_eq_getElem hj
        have hmem : j ∈ Region.ready .any ops listed := by
          unfold Region.ready
          rw [List.mem_filter]
          refine ⟨List.mem_range.2 hj, ?_⟩
          rw [Bool.and_eq_true, ho]
          have hlt : j < listed.size := by omega
          refine ⟨by simp [Array.getD, hlt] at hl ⊢; exact hl, ?_⟩
          simp only [Option.map_some, Option.getD_some]
          refine Array.all_eq_true'.2 fun e he => ?_
          cases hb : Region.binds .any e with
          | false => rfl
          | true =>
            have hlte := regOK_edge hreg ho he hb
            simp [ih e.on hlte (by omega)]
        rw [hnil] at hmem
        cases hmem
  intro fuel
  induction fuel with
  | zero =>
    intro listed q m a w I hf
    have hall : ∀ j, j < ops.size → listed.getD j false = true := by
      intro j hj
      cases hl : listed.getD j false with
      | true => rfl
      | false =>
        exfalso
        have : j ∈ left ops listed := List.mem_filter.2 ⟨List.mem_range.2 hj, by simp [hl]⟩
        have hnil : left ops listed = [] := List.eq_nil_of_length_eq_zero (by omega)
        rw [hnil] at this
        cases this
    refine ⟨?_, fin listed q m a w I hall⟩
    cases hr : Region.ready .any ops listed with
    | nil => rfl
    | cons j rest =>
      exfalso
      obtain ⟨o, hrd⟩ := I.rdy (j := j) (by rw [hr]; simp)
      have := hrd.not
      rw [hall j (Array.getElem?_eq_some_iff.1 hrd.op).1] at this
      cases this
  | succ fuel ih =>
    intro listed q m a w I hf
    refine ⟨fun hnil => fin listed q m a w I (ready_nil listed hnil I.lsize), fun j hjr => ?_⟩
    obtain ⟨o, hr⟩ := I.rdy hjr
    have hj : j < ops.size := (Array.getElem?_eq_some_iff.1 hr.op).1
    have hlt : j < listed.size := by rw [I.lsize]; exact hj
    have hfuel : (left ops (listed.setIfInBounds j true)).length ≤ fuel := by
      have : (left ops (listed.setIfInBounds j true)).length < (left ops listed).length := by
        refine filter_less _ j (List.mem_range.2 hj) (by have := hr.not; simpa using this) (by rw [getD_set hlt]; simp) fun i hi => ?_
        rw [getD_set hlt] at hi
        split at hi
        · cases hi
        · exact hi
      omega
    have h0 : (tH 0).length ≤ (tH j).length := A.le (Nat.zero_le _) (by omega)
    unfold wpOp
    rw [hr.op]
    simp only
    rw [I.wanted hreg X hr]
    cases hs : sk j with
    | true =>
      simp only [Bool.not_true, Bool.false_eq_true, if_false]
      obtain ⟨_, h2, _⟩ := X.skip j o (Nat.zero_le _) hr.op hs
      refine ih _ q m _ w (I.mark hreg hr (by simp [eE, hs]) (fun _ _ h => h) (by rw [h2]; exact VRel.undef _) I.vr (fun b L h => .inl h) h0 (Nat.le_refl _) fun _ _ => rfl) hfuel
    | false =>
      simp only [Bool.not_false, if_true]
      refine .inl ?_
      obtain ⟨hop, _⟩ := I.opv hreg X hr
      cases hE : eE ops sk j with
      | true =>
        have hjq := I.isq hreg hr hE
        subst hjq
        obtain ⟨T, hT, hTo⟩ := I.masked hreg X A hr
        have hres := X.res hr.op hs
        rw [← aRes_congr o.op hTo] at hres
        refine res_sound hcall hres I.vr.rel hT _ _ fun m1 v' w1 E R1 hv => ?_
        obtain ⟨q', m2, I2⟩ := I.act hreg X A hr hE E R1 hv
        exact ih _ q' m2 _ w1 I2 hfuel
      | false =>
        have heff : isEff o.op = false := by simpa [eE, hr.op, hs] using hE
        cases hf' : opRead P (AM.opv (tT j)) o.op with
        | some f =>
          obtain ⟨Y, hY, hnow⟩ := I.readNow X A hr hs hf'
          have hpad : f (Y ++ List.replicate ((tH ops.size).length - Y.length) none) = some (vl j) := opRead_keep hf' (fun b k hk => by
            unfold blk
            rw [List.getElem?_append_left (blk_lt' hk)]
            exact hk) hnow
          rw [← opRead_congr o.op hop] at hf'
          obtain ⟨v', q1, q2⟩ := read_sound (I.vr.fit hY) I.slots hf' hpad
          unfold Oper.wp
          rw [q1]
          exact ih _ q m _ w (I.mark hreg hr hE (fun _ _ h => h) q2 I.vr (fun b L h => .inl h) h0 (Nat.le_refl _) fun _ _ => rfl) hfuel
        | none =>
          have hres := X.other j o (Nat.zero_le _) hr.op hs hf'
          cases ha : isAlloc o.op with
          | false =>
            obtain ⟨_, hpure⟩ := pure_res heff hf' ha hres
            have hp2 := hpure (List.replicate (tH ops.size).length none)
            rw [← aRes_congr o.op hop] at hp2
            have hN : ∀ b L, m b = some L → cutM m (tH ops.size).length b = some L := fun b L hb => cutM_of (I.vr.dom b L hb).1 hb
            refine res_sound hcall hp2 (I.vr.dead _) (I.slots.mono hN) _ _ fun m1 v' w1 E R1 hv => ?_
            have hback : ∀ b L, m1 b = some L → m b = some L := by
              intro b L hb
              rcases E.new b L hb with h1 | ⟨h1, _⟩
              · exact (cutM_some h1).2
              · have := (R1.dom b L hb).1; omega
            have hw : ∀ B, B < w.heap.size → w1.heap[B]? = w.heap[B]? := fun B hB => E.frame B hB fun b L k _ hk => by rw [blk_dead] at hk; cases hk
            exact ih _ q m _ w1 (I.mark hreg hr hE (fun _ _ h => h) (hv.mono hback) (I.vr.still R1.below E.size hw) (fun b L h => .inl h) h0 E.size hw) hfuel
          | true =>
            obtain ⟨k, hk1, hk2, hall⟩ := alloc_res ha hres
            have hp2 := hall (List.replicate (tH j).length none) (by simp)
            have hkb := I.makeNow X A hr hs hf' ha hk2
            have hlen : (tH (j + 1)).length = (tH j).length + 1 := by rw [hk2]; simp
            have hnone : m (tH j).length = none := by
              cases hb : m (tH j).length with
              | none => rfl
              | some L =>
                exfalso
                rcases I.dm _ L hb with h3 | ⟨i, h3, h4, h5, h6⟩
                · omega
                · rcases Nat.lt_trichotomy i j with h7 | h7 | h7
                  · have := A.le (i := i + 1) (j := j) (by omega) (by omega); omega
                  · subst h7
                    have := hr.not
                    rw [h4] at this
                    cases this
                  · have := A.le (i := j + 1) (j := i) (by omega) (by omega); omega
            obtain ⟨T, hT, hTo⟩ := I.masked hreg X A hr
            rw [← aRes_congr o.op hTo] at hp2
            refine res_sound hcall hp2 (I.vr.dead _) hT _ _ fun m1 v' w1 E R1 hv => ?_
            have hmap : ∃ L, m1 (tH j).length = some L := by
              rcases hk1 with h1 | ⟨n, c, h1⟩ | h1
              · rw [h1] at hv; obtain ⟨L, h2, _⟩ := VRel.ptr_inv hv; exact ⟨L, h2⟩
              · rw [h1] at hv; rcases VRel.slice_inv hv with ⟨_, _, h0, _⟩ | ⟨L, _, _, h2, _⟩; (exact absurd h0 (Nat.lt_irrefl 0)); exact ⟨L, h2⟩
              · rw [h1] at hv; obtain ⟨L, h2, _⟩ := VRel.map_inv hv; exact ⟨L, h2⟩
            obtain ⟨L, hL⟩ := hmap
            have hup : ∀ b L', m1 b = some L' → upd m (tH j).length L b = some L' ∧ b < (tH j).length + 1 := by
              intro b L' hb
              have h2 := (R1.dom b L' hb).1
              rw [List.length_append, List.length_replicate, List.length_singleton] at h2
              refine ⟨?_, h2⟩
              unfold upd
              by_cases hbl : b = (tH j).length
              · subst hbl; rw [if_pos rfl, ← hL]; exact hb
              · rw [if_neg hbl]
                rcases E.new b L' hb with h1 | ⟨h1, _⟩
                · exact (cutM_some h1).2
                · rw [List.length_replicate] at h1; omega
            have hblk : blk (List.replicate (tH j).length none ++ [some k]) (tH j).length = some k := by
              unfold blk
              rw [List.getElem?_append_right (by simp)]
              simp
            have hfresh : w.heap.size ≤ L.blk := by
              rcases E.new _ L hL with h1 | ⟨_, h1 | ⟨b0, L0, k0, _, h1, _⟩⟩
              · have := (cutM_some h1).1; omega
              · exact h1
              · rw [blk_dead] at h1; cases h1
            have hw : ∀ B, B < w.heap.size → w1.heap[B]? = w.heap[B]? := fun B hB => E.frame B hB fun b L k _ hk => by rw [blk_dead] at hk; cases hk
            have hmono : ∀ b L', m b = some L' → upd m (tH j).length L b = some L' := by
              intro b L' hb
              unfold upd
              rw [if_neg]
              · exact hb
              · intro he; rw [he, hnone] at hb; cases hb
            have hV := I.vr.alloc R1.below E.size hw (l := (tH j).length) (L := L) (k := k) (by have := A.le (i := j + 1) (j := ops.size) (by omega) (Nat.le_refl _); omega) hnone hkb hfresh (R1.dom _ L hL).2
              ((R1.blks _ L k hL hblk).mono fun b L' hb => cutM_of (hup b L' hb).2 (hup b L' hb).1)
            refine ih _ q _ _ w1 (I.mark hreg hr hE hmono (hv.mono fun b L' hb => (hup b L' hb).1) hV (fun b L' hb => ?_) h0 E.size hw) hfuel
            unfold upd at hb
            split at hb
            · rename_i he
              cases hb
              exact .inr ⟨by omega, by omega, hfresh⟩
            · exact .inl hb
theorem getD_replicate (n i : Nat) : (Array.replicate n false).getD i false = false := by
  unfold Array.getD
  split
  · simp
  · rfl
theorem draw_ok {P : Program} {call : CallF} (hcall : CallOK P call) : DrawOK P call := by
  intro ops hreg R T H K r h
  obtain ⟨tT, tH, sk, vl, h0, h1, X, _, hK⟩ := evD_inv ops (befL [] ops.toList) ops.toList 0 T H [] [] (fun j => by simp) h
  simp only [Array.length_toList, Nat.zero_add] at hK
  subst h0 h1
  refine ⟨_, _, hK, fun B0 w0 m a w ds Q R0 hT hd hq => ?_⟩
  have A : Along ops tT tH m := ⟨fun i d hd => (X.lens hcall R0 hT i d hd).1, fun d hd b k' hb hk => by
      have := (X.lens hcall R0 hT 0 d (by omega)).2 b k' hb (by rw [Nat.zero_add]; exact hk)
      exact this, fun j s x hj hx => X.bel hcall R0 hT hj s x hx, fun b L hb => (R0.dom b L hb).1⟩
  obtain ⟨q, _, hq1, hq2, hq3⟩ := nextE (ops := ops) (sk := sk) 0 ops.size (by omega)
  have hsame := X.same 0 q (by omega) (fun e h1 h2 => hq2 e h1 (by omega))
  rw [Nat.zero_add] at hsame
  have hle := A.le hq1 (Nat.le_refl _)
  refine Inv.any hcall hreg X A hq ops.size _ q m a w ⟨by simp, fun j o ho hD => (by have hD' : (Array.replicate ops.size false).getD j false = true := hD; rw [getD_replicate] at hD'; cases hD'), hq1, fun hlt => ⟨hq3 hlt, getD_replicate _ _⟩, fun e he hE => ?_, ?_, hd, ?_, fun b L hb => .inl (R0.dom b L hb).1, fun _ _ h => h, Nat.le_refl _, fun b L hb => .inl hb, fun _ _ _ => rfl⟩ ?_
  · have := hq2 e (Nat.zero_le _) he
    rw [hE] at this
    cases this
  · have e1 : svL ops vl (tT 0) (fun i => (Array.replicate ops.size false).getD i false) = tT 0 := by
      apply List.ext_getElem?
      intro s
      rcases Nat.lt_or_ge s (tT 0).length with hs | hs
      · have e2 : (svL ops vl (tT 0) (fun i => (Array.replicate ops.size false).getD i false))[s]? = some (AM.sv ops vl (tT 0) (fun i => (Array.replicate ops.size false).getD i false) ops.size s) := by
          unfold svL; rw [List.getElem?_map, List.getElem?_range hs]; rfl
        have e3 := sv_cut (ops := ops) (vl := vl) (T0 := tT 0) (D := fun i => (Array.replicate ops.size false).getD i false) (s := s) (i := 0) ops.size fun j _ _ _ => getD_replicate _ _
        rw [Nat.zero_add] at e3
        rw [e2, e3]
        unfold AM.sv
        rw [List.getD_eq_getElem?_getD, List.getElem?_eq_getElem hs]
        rfl
      · rw [List.getElem?_eq_none (by rw [svL_length]; exact hs), List.getElem?_eq_none hs]
    rw [e1]
    exact hT
  · have kb0 : ∀ b, b < (tH 0).length → kb tH ops.size q b = blk (tH 0) b := fun b hb => by rw [kb_lt (by omega)]; exact hsame.2 b hb
    have hcut : ∀ l, (tH 0).length ≤ l → ∀ b L, m b = some L → cutM m l b = some L := fun l hl b L hb => cutM_of (by have := (R0.dom b L hb).1; omega) hb
    refine ⟨R0.below, R0.hB, fun b L hb => ⟨by have := (R0.dom b L hb).1; omega, (R0.dom b L hb).2⟩, fun b L k hb hk => ?_, fun b1 b2 L1 L2 k1 k2 hm1 hm2 hk1 hk2 hne hbb => ?_⟩
    · rw [kb0 b (R0.dom b L hb).1] at hk
      exact (R0.blks b L k hb hk).mono (hcut _ (by omega))
    · rw [kb0 b1 (R0.dom b1 L1 hm1).1] at hk1
      rw [kb0 b2 (R0.dom b2 L2 hm2).1] at hk2
      exact R0.inj b1 b2 L1 L2 k1 k2 hm1 hm2 hk1 hk2 hne hbb
  · unfold left
    exact Nat.le_trans (List.length_filter_le _ _) (by simp)
end
theorem run_ok {P : Program} (hmix : P.follows .mixedOrders = true) {tbs : FuncId → Tbl} (hrg : RangesOK P tbs) {gv : Given} (hgv : GivenOK P gv) (k : Nat) : CallOK P (run P tbs gv k) := run_sound (fun _ h => draw_ok h) hmix hrg hgv k
end Go.AM
namespace Go.AM
open Go.RowKit
section
variable {P : Program}
theorem run_next_at (w : World) (ty : TypeId) (r bm since c0 : Nat) (seen : Array Nat) (es : Array MapEntry) (clock : Nat) (hr : w.heap[r]? = some (.mapIter (some bm) since seen c0)) (hb : w.heap[bm]? = some (.map es clock)) (hold : ∀ x ∈ es.toList, x.born < since) (hsc : since ≤ c0) :
    ((leftOf es seen).size = 0 ∧ (Instr.next (.pointer (some ⟨r, 0, none⟩)) false ty).run P w = .ok (.tuple #[.bool false]) w) ∨
    ∃ e ∈ (leftOf es seen).toList, ∃ w1 : World, (w1 = w ∨ w1 = w.drew) ∧ (Instr.next (.pointer (some ⟨r, 0, none⟩)) false ty).run P w = .ok (.tuple #[.bool true, e.key, e.val]) (w1.putObj r (.mapIter (some bm) since (seen.push e.born) clock)) := by
  simp only [Instr.next, getObj, Sem.run_bind, Sem.run, hr, hb, Result.andThen, next_test_false seen es since c0 hold hsc, Bool.false_eq_true, if_false]
  unfold leftOf
  have hmem : ∀ x ∈ (Array.filter (fun e => !seen.contains e.born) es).toList, x.born < since := fun x hx => hold x (by simp at hx ⊢; exact hx.1)
  generalize Array.filter (fun e => !seen.contains e.born) es = L at hmem ⊢
  have e1 : L.filter (fun x => decide (x.born < since)) = L := Array.filter_eq_self.2 (fun x hx => by simpa using hmem x (by simpa using hx))
  have e2 : L.filter (fun x => decide (x.born ≥ since)) = #[] := by
    rw [Array.filter_eq_empty_iff]
    intro x hx
    have := hmem x (by simpa using hx)
    simp
    omega
  simp only [e1, e2, Array.append_empty]
  by_cases h0 : L.size = 0
  · left
    have : L = #[] := Array.eq_empty_of_size_eq_zero h0
    subst this
    refine ⟨rfl, ?_⟩
    simp [choose, Sem.run, Question.forced]
  · right
    have hne : L.isEmpty = false := by simp [Array.isEmpty, h0]
    simp only [hne, Bool.false_eq_true, if_false, Array.empty_append, Array.size_map]
    have hch : ∃ (j : Nat) (w1 : World), j < L.size ∧ (w1 = w ∨ w1 = w.drew) ∧ (choose (Question.mapNext L.size)).run P w = .ok j w1 := by
      by_cases hf : L.size ≤ 1
      · exact ⟨0, w, by omega, .inl rfl, by simp [choose, Sem.run, Question.forced, hf]⟩
      · exact ⟨_, w.drew, Nat.mod_lt _ (by omega), .inr rfl, by
          simp only [choose, Sem.run, Question.forced, decide_eq_true_eq, hf, if_false, Question.cut]
          rfl⟩
    obtain ⟨j, w1, hj, hal, hrun⟩ := hch
    refine ⟨L[j], by simp, w1, hal, ?_⟩
    have hr1 : w1.heap[r]? = some (.mapIter (some bm) since seen c0) := by rcases hal with rfl | rfl <;> exact hr
    simp only [hrun, Array.getElem?_map, Array.getElem?_eq_getElem hj, Option.map_some, Sem.run_bind, setObj, Sem.run, hr1, Result.andThen]
    rfl
theorem run_entry_at (w : World) (r bm since : Nat) (seen : Array Nat) (es : Array MapEntry) (clock : Nat) (e : MapEntry) (hr : w.heap[r]? = some (.mapIter (some bm) since (seen.push e.born) clock)) (hb : w.heap[bm]? = some (.map es clock)) (he : e ∈ es.toList) (hn : (es.toList.map (·.born)).Nodup) :
    (Instr.entry (.pointer (some ⟨r, 0, none⟩))).run P w = .ok (.tuple #[e.key, e.val]) w := by
  have hf : es.find? (·.born == e.born) = some e := by rw [← Array.find?_toList]; exact find_born e es.toList hn he
  simp only [Instr.entry, getObj, Sem.run_bind, Sem.run, hr, hb, Result.andThen, Array.back?_push, bne_self_eq_false, Bool.false_eq_true, if_false, hf]
  rfl
def Free (m : Mp) (H : AH) (B : Nat) : Prop := ∀ b L k, m b = some L → blk H b = some k → L.blk ≠ B
variable {B0 : Nat} {w0 : World} {m m' : Mp} {H H' : AH} {w w' : World}
theorem Free.ext {B : Nat} (h : Free m H B) (R : Rel P B0 w0 m H w) (E : Ext m H w m' H' w') (hB : B < w.heap.size) : Free m' H' B := by
  intro b L k hb hk
  rcases E.new b L hb with h1 | ⟨h1, h2 | ⟨b0, L0, k0, h3, h4, h5, h6⟩⟩
  · obtain ⟨k0, h3, h4⟩ := E.alive b k (R.dom b L h1).1 hk
    exact h b L k0 h1 h3
  · omega
  · rw [← h6]; exact h b0 L0 k0 h3 h4
theorem Free.frame {B : Nat} (h : Free m H B) (E : Ext m H w m' H' w') (hB : B < w.heap.size) : w'.heap[B]? = w.heap[B]? := E.frame B hB fun b L k h1 h2 _ => h b L k h1 h2
theorem Marks.putIter {B : Nat} {ds : List Deferred} {r : Nat} {o : Obj} (h : Marks B ds m H w) (hr : ∀ l, w.heap[r]? ≠ some (.deferred l)) : Marks B ds m H (w.putObj r o) := by
  obtain ⟨Ds, h1, h2, h3⟩ := h
  refine ⟨Ds, h1, h2, fun D hD => ?_⟩
  obtain ⟨h4, h5, h6⟩ := h3 D hD
  refine ⟨h4, ?_, h6⟩
  rw [World.putObj_heap_other (by rintro rfl; exact hr _ h5)]
  exact h5
theorem Marks.drew {B : Nat} {ds : List Deferred} (h : Marks B ds m H w) : Marks B ds m H w.drew := h
theorem Ext.putIter {r : Nat} {o : Obj} (E : Ext m H w m' H' w') (hr : w.heap.size ≤ r) : Ext m H w m' H' (w'.putObj r o) :=
  ⟨E.mono, E.len, by rw [World.putObj_size]; exact E.size, E.alive, E.new, fun B hB hf => (World.putObj_heap_other (by omega)).trans (E.frame B hB hf)⟩
theorem Rel.mkDead (h : Rel P B0 w0 m H w) (o : Obj) (kd : BK) :
    Rel P B0 w0 (upd m H.length ⟨w.heap.size, 0, kd, 0, 0⟩) (H ++ [none]) (w.alloc o) ∧ Ext m H w (upd m H.length ⟨w.heap.size, 0, kd, 0, 0⟩) (H ++ [none]) (w.alloc o) := by
  have hmono := upd_mono (m := m) (H := H) (fun b L hb => (h.dom b L hb).1) ⟨w.heap.size, 0, kd, 0, 0⟩
  have old : ∀ b2 L2, upd m H.length ⟨w.heap.size, 0, kd, 0, 0⟩ b2 = some L2 → (b2 = H.length ∧ L2 = ⟨w.heap.size, 0, kd, 0, 0⟩) ∨ (b2 ≠ H.length ∧ m b2 = some L2) := by
    intro b2 L2 h2
    unfold upd at h2
    split at h2
    · rename_i hb; cases h2; exact .inl ⟨hb, rfl⟩
    · rename_i hb; exact .inr ⟨hb, h2⟩
  have dead : blk (H ++ [none]) H.length = none := by unfold blk; simp
  have keep : ∀ b, b < H.length → blk (H ++ [none]) b = blk H b := fun b hb => by unfold blk; rw [List.getElem?_append_left hb]
  refine ⟨⟨h.below.alloc h.hB _, by simp; exact Nat.le_succ_of_le h.hB, ?_, ?_, ?_⟩, ⟨hmono, by simp, by simp, ?_, ?_, fun B hB _ => Below.heap_alloc w _ _ hB⟩⟩
  · intro b2 L2 h2
    simp only [World.size_alloc, List.length_append, List.length_singleton]
    rcases old b2 L2 h2 with ⟨rfl, rfl⟩ | ⟨_, h3⟩
    · exact ⟨by omega, by simp⟩
    · have := h.dom b2 L2 h3; omega
  · intro b2 L2 k2 h2 hk2
    rcases old b2 L2 h2 with ⟨rfl, rfl⟩ | ⟨hne, h3⟩
    · rw [dead] at hk2; cases hk2
    · have hlt := (h.dom b2 L2 h3)
      rw [keep _ hlt.1] at hk2
      exact (h.blks b2 L2 k2 h3 hk2).at hmono (Below.heap_alloc w _ _ hlt.2)
  · intro b1 b2 L1 L2 k1 k2 hm1 hm2 hk1 hk2 hne hbb
    rcases old b1 L1 hm1 with ⟨rfl, rfl⟩ | ⟨hn1, h1⟩
    · rw [dead] at hk1; cases hk1
    · rcases old b2 L2 hm2 with ⟨rfl, rfl⟩ | ⟨hn2, h2⟩
      · rw [dead] at hk2; cases hk2
      · rw [keep _ (h.dom b1 L1 h1).1] at hk1
        rw [keep _ (h.dom b2 L2 h2).1] at hk2
        exact h.inj b1 b2 L1 L2 k1 k2 h1 h2 hk1 hk2 hne hbb
  · intro b2 k2 hb2 hk2
    rw [keep _ hb2] at hk2
    exact ⟨k2, hk2, rfl⟩
  · intro b2 L2 h2
    rcases old b2 L2 h2 with ⟨rfl, rfl⟩ | ⟨_, h3⟩
    · exact .inr ⟨Nat.le_refl _, .inl (Nat.le_refl _)⟩
    · exact .inl h3
theorem blk_set_same {H : AH} {b : Nat} {o : Option Blk} (h : b < H.length) : blk (H.set b o) b = o := by
  unfold blk; rw [List.getElem?_set_self h]; rfl
theorem blk_set_ne {H : AH} {b c : Nat} {o : Option Blk} (h : b ≠ c) : blk (H.set b o) c = blk H c := by
  unfold blk; rw [List.getElem?_set_ne h]
theorem Rel.unkill (h : Rel P B0 w0 m H w) {b : Nat} {L : Loc} {k : Blk} (hm : m b = some L) (hb : b < H.length) (hk : BRel P B0 m L k w) (hf : Free m H L.blk) : Rel P B0 w0 m (H.set b (some k)) w := by
  refine ⟨h.below, h.hB, fun b2 L2 h2 => by rw [List.length_set]; exact h.dom b2 L2 h2, fun b2 L2 k2 h2 hk2 => ?_, fun b1 b2 L1 L2 k1 k2 h1 h2 hk1 hk2 hne hbb => ?_⟩
  · by_cases e : b = b2
    · subst e
      rw [blk_set_same hb] at hk2
      cases hk2
      rw [hm] at h2; cases h2
      exact hk
    · rw [blk_set_ne e] at hk2
      exact h.blks b2 L2 k2 h2 hk2
  · by_cases e1 : b = b1
    · subst e1
      rw [hm] at h1; cases h1
      rw [blk_set_ne hbb] at hk2
      exact fun e => hf b2 L2 k2 h2 hk2 e.symm
    · rw [blk_set_ne e1] at hk1
      by_cases e2 : b = b2
      · subst e2
        rw [hm] at h2; cases h2
        exact hf b1 L1 k1 h1 hk1
      · rw [blk_set_ne e2] at hk2
        exact h.inj b1 b2 L1 L2 k1 k2 h1 h2 hk1 hk2 hne hbb
end
theorem evOps_pre {P : Program} {call : CallF} (hcall : CallOK P call) (r0 : Option Nat) (ops : Array Oper) : ∀ (l : List Oper) (i : Nat) (T : List Value) (H : AH) (T' : List Value) (H' : AH), (∀ j o, l[j]? = some o → ops[i + j]? = some o ∧ o.guard = none) →
    evOps P call ops l T H (fun T H => some (T, H)) = some (T', H') → ∀ (n B0 : Nat) (w0 : World) (m : Mp) (a : Act) (w : World) (ds : List Deferred) (rest : List Nat) (Q : Exit → Act → World → Prop), Rel P B0 w0 m H w → LRel m T a.tmps.toList → a.defers = ds →
      (∀ m' a' w', After P B0 w0 m H w ds T' H' m' a' w' → wpOpsIn (FW r0) n P ops Q rest a' w') → wpOpsIn (FW r0) n P ops Q (List.range' i l.length ++ rest) a w
  | [], i, T, H, T', H', _, h, n, B0, w0, m, a, w, ds, rest, Q, R0, hT, hd, hq => by
    cases h
    exact hq m a w (After.start R0 hT hd)
  | o :: l, i, T, H, T', H', hl, h, n, B0, w0, m, a, w, ds, rest, Q, R0, hT, hd, hq => by
    obtain ⟨ho, hg⟩ := hl 0 o rfl
    rw [Nat.add_zero] at ho
    unfold evOps at h
    rw [hg] at h
    simp only at h
    rw [opY_res] at h
    obtain ⟨⟨v, H1⟩, h1, h2⟩ := bind_some h
    rw [List.length_cons, List.range'_succ]
    simp only [List.cons_append, wpOpsIn, ho]
    rw [if_pos (by unfold Region.wanted; rw [hg])]
    refine opY_sound hcall h1 R0 hT _ _ fun m' v' w' E R' hv => ?_
    exact evOps_pre hcall r0 ops l (i + 1) _ _ _ _ (fun j o hj => by rw [show i + 1 + j = i + (j + 1) by omega]; exact hl (j + 1) o hj) h2 n B0 w0 m' _ w' ds rest Q R' (put_rel (hT.mono E.mono) _ hv) (by rw [put_defers]; exact hd) fun m2 a2 w2 A => hq m2 a2 w2 (After.trans R0 E A)
end Go.AM
namespace Go.AM
def crcBit (v : Nat) : Nat := v / 2 ^^^ 3988292384 * (v % 2)
def crcBits : Nat → Nat → Nat
  | 0, v => v
  | n + 1, v => crcBits n (crcBit v)
def crcGo (v : Nat) (l : List UInt8) : Nat := l.foldl (fun v b => crcBits 8 (v ^^^ b.toNat)) v
def crc (l : List UInt8) : Nat := 4294967295 ^^^ crcGo 4294967295 l
theorem crcBit_lt {v : Nat} (h : v < 4294967296) : crcBit v < 4294967296 := by
  unfold crcBit
  refine Nat.xor_lt_two_pow (n := 32) (by omega) ?_
  rcases Nat.mod_two_eq_zero_or_one v with e | e <;> rw [e] <;> decide
theorem crcBits_lt : ∀ (n : Nat) {v : Nat}, v < 4294967296 → crcBits n v < 4294967296
  | 0, _, h => h
  | n + 1, _, h => crcBits_lt n (crcBit_lt h)
theorem u8_lt (b : UInt8) : b.toNat < 256 := b.toNat_lt
theorem xorb_lt {v : Nat} (h : v < 4294967296) (b : UInt8) : v ^^^ b.toNat < 4294967296 := Nat.xor_lt_two_pow (n := 32) h (Nat.lt_trans (u8_lt b) (by decide))
theorem crcGo_lt : ∀ (l : List UInt8) {v : Nat}, v < 4294967296 → crcGo v l < 4294967296
  | [], _, h => h
  | b :: l, _, h => crcGo_lt l (crcBits_lt 8 (xorb_lt h b))
theorem crc_lt (l : List UInt8) : crc l < 4294967296 := Nat.xor_lt_two_pow (n := 32) (by decide) (crcGo_lt l (by decide))
def le : List UInt8 → Nat
  | [] => 0
  | b :: l => 2 ^ 8 * le l + b.toNat
theorem drop_getD {s : List UInt8} {i : Nat} (h : i < s.length) : s.drop i = s.getD i 0 :: s.drop (i + 1) := by
  rw [List.drop_eq_getElem_cons h, List.getD_eq_getElem?_getD, List.getElem?_eq_getElem h]; rfl
theorem mod_two32 {b : UInt8} : b.toNat % 4294967296 = b.toNat := Nat.mod_eq_of_lt (Nat.lt_trans (u8_lt b) (by decide))
theorem mulW {P : Program} {t : TypeId} {a b : Nat} (h : a * b < 4294967296) : bin P .mul t (u32 a) (u32 b) = some (u32 (a * b)) := by
  rw [bin_mul, ← Int.natCast_mul, wrapu32, show ((a * b : Nat) : Int) % 4294967296 = ((a * b : Nat) : Int) by omega]
theorem slc_str2 {P : Program} {t : TypeId} {l : List UInt8} {k k' : IntKind} {m n : Int} [h : Und P t .string] (i j : Nat) (hm : m = (i : Int)) (hn : n = (j : Int)) (hi : i ≤ j) (hj : j ≤ l.length) : slc P t (str l) (some (.int k m)) (some (.int k' n)) = some (str ((l.drop i).take (j - i))) := by
  subst hm hn
  unfold slc; rw [h.eq]
  have : ByteArray.size ⟨l.toArray⟩ = l.length := rfl
  simp only [this, intOr, Option.bind_some]
  rw [if_pos ⟨by omega, by omega, by omega⟩]
  congr 2
  simp [ByteArray.extract, ByteArray.copySlice]
theorem quoU {P : Program} {t : TypeId} {v : Nat} (h : v < 4294967296) : bin P .quo t (u32 v) (.int .u32 2) = some (u32 (v / 2)) := by
  rw [bin_quo (by decide), Int.tdiv_eq_ediv_of_nonneg (by omega), wrapu32, show (v : Int) / 2 % 4294967296 = ((v / 2 : Nat) : Int) by omega]
theorem crc_step {P : Program} {t : TypeId} {R : Type} {v : Nat} (hv : v < 4294967296) {g : Nat → Nat → Value → Option R} {Q : R → Prop} (h : Ev (fun k n => g k n (u32 (crcBit v))) Q) :
    Ev (fun k n => (bin P .shr t (u32 v) (.int .u64 1)).bind fun a => (bin P .and t (u32 v) (.int .u32 1)).bind fun b => (bin P .mul t (.int .u32 3988292384) b).bind fun c => (bin P .xor t a c).bind (g k n)) Q := by
  have ha : v &&& 1 = v % 2 := Nat.and_one_is_mod v
  have hm : 3988292384 * (v % 2) < 4294967296 := by have := Nat.mod_lt v (show 0 < 2 by decide); omega
  refine Ev.prim (shrN (a := v) (b := 1) (by decide)) ?_
  refine Ev.prim (andW (b := 1) ⟨hv, by decide⟩) ?_
  rw [ha]
  refine Ev.prim (mulW (a := 3988292384) hm) ?_
  exact Ev.prim (xorW ⟨by omega, hm⟩) h
def le4 (n : Nat) : List UInt8 := [UInt8.ofNat n, UInt8.ofNat (n / 256), UInt8.ofNat (n / 65536), UInt8.ofNat (n / 16777216)]
def bodyL (k : Nat) (t : List UInt8) : List UInt8 := [65, 83, UInt8.ofNat k, UInt8.ofNat t.length] ++ t ++ List.replicate (120 - t.length) 0
def sealL (k : Nat) (t : List UInt8) : List UInt8 := bodyL k t ++ le4 (crc (bodyL k t))
theorem body_len {k : Nat} {t : List UInt8} (h : t.length ≤ 120) : (bodyL k t).length = 124 := by
  unfold bodyL
  simp only [List.length_append, List.length_replicate, List.length_cons, List.length_nil]
  omega
theorem seal_len {k : Nat} {t : List UInt8} (h : t.length ≤ 120) : (sealL k t).length = 128 := by
  unfold sealL
  rw [List.length_append, body_len h]; rfl
theorem seal_take {k : Nat} {t : List UInt8} (h : t.length ≤ 120) : (sealL k t).take 124 = bodyL k t := by
  unfold sealL
  rw [List.take_append_of_le_length (by rw [body_len h]; exact Nat.le_refl _), List.take_of_length_le (by rw [body_len h]; exact Nat.le_refl _)]
def sealR (kind : Int) (t : List UInt8) : List UInt8 × Int := if kind < 1 ∨ kind > 9 ∨ t.length > 120 then ([], 1) else (sealL kind.toNat t, 0)
def Body (b : List UInt8) : Prop := b.take 2 = [65, 83] ∧ 1 ≤ (b.getD 2 0).toNat ∧ (b.getD 2 0).toNat ≤ 9 ∧ (b.getD 3 0).toNat ≤ 120 ∧ ∀ c ∈ (b.take 124).drop (4 + (b.getD 3 0).toNat), c = 0
instance (b : List UInt8) : Decidable (Body b) := by unfold Body; infer_instance
def openR (b : List UInt8) : Int × List UInt8 × Int :=
  if b.length ≠ 128 then (0, [], 2) else if le4 (crc (b.take 124)) ≠ b.drop 124 then (0, [], 10)
  else if Body b then (((b.getD 2 0).toNat : Int), (b.drop 4).take (b.getD 3 0).toNat, 0) else (0, [], 2)
theorem rep_of {l : List UInt8} (h : ∀ c ∈ l, c = 0) : l = List.replicate l.length 0 := List.eq_replicate_of_mem h
theorem body_of {b : List UInt8} (hl : b.length = 128) (hB : Body b) : bodyL (b.getD 2 0).toNat ((b.drop 4).take (b.getD 3 0).toNat) = b.take 124 := by
  obtain ⟨h1, h2, h3, h4, h5⟩ := hB
  match b, hl with
  | b0 :: b1 :: b2 :: b3 :: r, hl =>
    simp only [List.take_succ_cons, List.take_zero, List.cons.injEq, and_true] at h1
    obtain ⟨rfl, rfl⟩ := h1
    have e2 : ((65 : UInt8) :: 83 :: b2 :: b3 :: r).getD 2 0 = b2 := rfl
    have e3 : ((65 : UInt8) :: 83 :: b2 :: b3 :: r).getD 3 0 = b3 := rfl
    rw [e2] at h2 h3 ⊢
    rw [e3] at h4 h5 ⊢
    have hr : r.length = 124 := by simp at hl; omega
    have e4 : ((65 : UInt8) :: 83 :: b2 :: b3 :: r).drop 4 = r := rfl
    have e5 : ((65 : UInt8) :: 83 :: b2 :: b3 :: r).take 124 = 65 :: 83 :: b2 :: b3 :: r.take 120 := rfl
    rw [e4]
    rw [e5] at h5 ⊢
    have e6 : ((65 : UInt8) :: 83 :: b2 :: b3 :: r.take 120).drop (4 + b3.toNat) = (r.take 120).drop b3.toNat := by
      rw [Nat.add_comm]; rfl
    rw [e6] at h5
    have h6 := rep_of h5
    rw [List.length_drop, List.length_take, hr] at h6
    unfold bodyL
    have hlen : (r.take b3.toNat).length = b3.toNat := by rw [List.length_take]; omega
    rw [hlen, UInt8.ofNat_toNat, UInt8.ofNat_toNat]
    have e7 : r.take 120 = r.take b3.toNat ++ (r.take 120).drop b3.toNat := by
      conv => lhs; rw [← List.take_append_drop b3.toNat (r.take 120)]
      rw [List.take_take, Nat.min_eq_left h4]
    rw [e7, h6, show min 120 124 - b3.toNat = 120 - b3.toNat by omega]
    rfl
theorem body_Body {k : Nat} {t : List UInt8} (hk : 1 ≤ k) (hk9 : k ≤ 9) (ht : t.length ≤ 120) : Body (sealL k t) ∧ ((sealL k t).getD 2 0).toNat = k ∧ ((sealL k t).drop 4).take ((sealL k t).getD 3 0).toNat = t := by
  have e2 : (sealL k t).getD 2 0 = UInt8.ofNat k := rfl
  have e3 : (sealL k t).getD 3 0 = UInt8.ofNat t.length := rfl
  have n2 : (UInt8.ofNat k).toNat = k := by rw [UInt8.toNat_ofNat', Nat.mod_eq_of_lt (by omega)]
  have n3 : (UInt8.ofNat t.length).toNat = t.length := by rw [UInt8.toNat_ofNat', Nat.mod_eq_of_lt (by omega)]
  have e4 : (sealL k t).drop 4 = t ++ (List.replicate (120 - t.length) 0 ++ le4 (crc (bodyL k t))) := by
    show (t ++ List.replicate (120 - t.length) 0) ++ le4 (crc (bodyL k t)) = _
    rw [List.append_assoc]
  refine ⟨⟨rfl, ?_, ?_, ?_, ?_⟩, ?_, ?_⟩
  · rw [e2, n2]; exact hk
  · rw [e2, n2]; exact hk9
  · rw [e3, n3]; exact ht
  · rw [e3, n3, seal_take ht]
    intro c hc
    unfold bodyL at hc
    rw [List.drop_append_of_le_length (by simp; omega), List.drop_of_length_le (by simp; omega), List.nil_append] at hc
    exact (List.mem_replicate.1 hc).2
  · rw [e2, n2]
  · rw [e4, e3, n3, List.take_left' rfl]
theorem open_ok {b : List UInt8} (h : (openR b).2.2 = 0) : b.length = 128 ∧ Body b ∧ openR b = (((b.getD 2 0).toNat : Int), (b.drop 4).take (b.getD 3 0).toNat, 0) ∧ sealL (b.getD 2 0).toNat ((b.drop 4).take (b.getD 3 0).toNat) = b := by
  unfold openR at h ⊢
  by_cases h1 : b.length ≠ 128
  · rw [if_pos h1] at h; cases h
  · rw [if_neg h1] at h ⊢
    by_cases h2 : le4 (crc (b.take 124)) ≠ b.drop 124
    · rw [if_pos h2] at h; cases h
    · rw [if_neg h2] at h ⊢
      by_cases h3 : Body b
      · rw [if_pos h3]
        refine ⟨by omega, h3, rfl, ?_⟩
        unfold sealL
        rw [body_of (by omega) h3, Decidable.not_not.1 h2, List.take_append_drop]
      · rw [if_neg h3] at h; cases h
theorem sealR_ok {kind : Int} {t : List UInt8} (h : (sealR kind t).2 = 0) : ∃ k : Nat, kind = k ∧ 1 ≤ k ∧ k ≤ 9 ∧ t.length ≤ 120 ∧ (sealR kind t).1 = sealL k t := by
  unfold sealR at h ⊢
  split at h
  · cases h
  · rename_i hn
    refine ⟨kind.toNat, by omega, by omega, by omega, by omega, ?_⟩
    rw [if_neg hn]
theorem sealR_nat {k : Nat} {t : List UInt8} (hk : 1 ≤ k) (hk9 : k ≤ 9) (ht : t.length ≤ 120) : sealR (k : Int) t = (sealL k t, 0) := by
  unfold sealR
  rw [if_neg (by omega), Int.toNat_natCast]
theorem open_ref {b : List UInt8} (hl : b.length = 128) (hs : le4 (crc (b.take 124)) = b.drop 124) (hn : (b.getD 3 0).toNat ≤ 120) :
    openR b = if (sealR ((b.getD 2 0).toNat : Int) ((b.drop 4).take (b.getD 3 0).toNat)).2 = 0 ∧ (sealR ((b.getD 2 0).toNat : Int) ((b.drop 4).take (b.getD 3 0).toNat)).1 = b then (((b.getD 2 0).toNat : Int), (b.drop 4).take (b.getD 3 0).toNat, 0) else (0, [], 2) := by
  by_cases hB : Body b
  · have e : openR b = (((b.getD 2 0).toNat : Int), (b.drop 4).take (b.getD 3 0).toNat, 0) := by
      unfold openR
      rw [if_neg (by omega), if_neg (by simpa using hs), if_pos hB]
    obtain ⟨_, _, _, h4⟩ := open_ok (b := b) (by rw [e])
    rw [e, sealR_nat hB.2.1 hB.2.2.1 (by rw [List.length_take]; omega), if_pos ⟨rfl, h4⟩]
  · have e : openR b = (0, [], 2) := by
      unfold openR
      rw [if_neg (by omega), if_neg (by simpa using hs), if_neg hB]
    rw [e]
    rw [if_neg]
    rintro ⟨h1, h2⟩
    obtain ⟨k, hk, k1, k9, kt, hs⟩ := sealR_ok h1
    obtain rfl : (b.getD 2 0).toNat = k := by omega
    rw [hs] at h2
    rw [← h2] at hB
    exact hB (body_Body k1 k9 kt).1
theorem open_bad {b : List UInt8} (hl : b.length = 128) (hs : le4 (crc (b.take 124)) = b.drop 124) (hn : ¬ (b.getD 3 0).toNat ≤ 120) : openR b = (0, [], 2) := by
  unfold openR
  rw [if_neg (by omega), if_neg (by simpa using hs), if_neg (fun h => hn h.2.2.2.1)]
end Go.AM
