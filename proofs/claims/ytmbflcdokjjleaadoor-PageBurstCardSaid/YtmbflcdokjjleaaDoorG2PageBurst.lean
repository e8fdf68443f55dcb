/-
  Facts of the abstract evaluator and of the functions that the law reaches, part 2. Conditions: none.
-/
import Derived.ProofKit
import Derived.Deep.Slices
import Derived.DataElems
import Derived.DataReads
import Derived.ChangeArms
import Derived.ChangeSame
import Derived.Test.YtmbflcdokjjleaaDoorG1PageBurst
set_option linter.unusedVariables false
set_option linter.unusedSimpArgs false
set_option linter.unnecessarySimpa false
set_option exponentiation.threshold 200000
set_option maxRecDepth 100000
set_option linter.unusedVariables false
set_option linter.unusedSimpArgs false
set_option maxRecDepth 100000
namespace Go.AM.Q
open Go Go.AM Go.Proofs
attribute [local irreducible] run bin un ld st box newV mkS fldA fld ixA ix slc slc3 build buildS cv cvS ap cpy lenV gOp pickV b2 aIf aChk evalK resume iterD Option.bind

section
variable {B B0 H0 H : AH} {L : List (Nat × Blk)}
theorem crc_ex : crc [49, 50, 51, 52, 53, 54, 55, 56, 57] = 3421780262 := by decide +kernel
theorem open_ex : openR (List.replicate 128 0) = (0, [], 10) := by decide +kernel
theorem examples_spec (hS : St H0 B0 B L H) : Ev (fun k _ => rn k 6 [] H) (fun r => r.1 = .bool true ∧ ∃ B', MoC B B' ∧ St H0 B0 B' L r.2) := by
  refine Ev.fn (fun k => f6_eq k H) ?_
  refine Ev.b2 (Seal_spec (kind := 3) (t := [104, 101, 108, 108, 111]) (by decide) (by decide) hS) ?_
  rintro _ H1 ⟨rfl, B1, hm1, hS1⟩
  dsimp only at hS1
  clear hS
  rw [show sealR 3 [104, 101, 108, 108, 111] = (sealL 3 [104, 101, 108, 108, 111], 0) from sealR_nat (k := 3) (by decide) (by decide) (by decide)]
  have hsl : (sealL 3 [104, 101, 108, 108, 111]).length = 128 := seal_len (by decide)
  have hso : openR (sealL 3 [104, 101, 108, 108, 111]) = (3, [104, 101, 108, 108, 111], 0) := open_seal (k := 3) (by decide) (by decide) (by decide)
  generalize sealL 3 [104, 101, 108, 108, 111] = s at hsl hso
  unfold SealV
  dsimp only
  repeat (first | refine Ev.s ?_ | refine Ev.newC fun _ _ _ => ?_ | refine Ev.boxC fun _ _ _ => ?_ | refine Ev.stC fun _ _ => ?_ | refine Ev.sc (by omega) ?_ | refine Ev.scg (by omega) ?_)
  refine Ev.b2 (Open_spec (b := s) (by omega) hS1) ?_
  rintro _ H2 ⟨rfl, B2, hm2, hS2⟩
  dsimp only at hS2
  clear hS1
  rw [hso]
  unfold OpenV
  dsimp only
  repeat (first | refine Ev.s ?_ | refine Ev.newC fun _ _ _ => ?_ | refine Ev.boxC fun _ _ _ => ?_ | refine Ev.stC fun _ _ => ?_ | refine Ev.sc (by omega) ?_ | refine Ev.scg (by omega) ?_)
  refine Ev.b2 (Open_spec (b := []) (by decide) hS2) ?_
  rintro _ H3 ⟨rfl, B3, hm3, hS3⟩
  dsimp only at hS3
  clear hS2
  rw [show openR [] = (0, [], 2) from rfl]
  unfold OpenV
  dsimp only
  repeat (first | refine Ev.s ?_ | refine Ev.newC fun _ _ _ => ?_ | refine Ev.boxC fun _ _ _ => ?_ | refine Ev.stC fun _ _ => ?_ | refine Ev.sc (by omega) ?_ | refine Ev.scg (by omega) ?_)
  have hE : Elt Tryd.prog 35 5 (.int .u8 0) 1 := inferInstance
  refine Ev.mkS (m := 128) hE hS3 (by decide) (by decide) fun b B4 H4 hm4 hS4 => ?_
  clear hS3
  refine Ev.prim (cvS_part (d := 9) (bs := List.replicate 128 0) (by rw [byts_rep]; exact hS4) (.head _) (Nat.le_refl _) (by decide)) ?_
  rw [List.drop_zero, List.take_of_length_le (by decide)]
  refine Ev.b2 (Open_spec (b := List.replicate 128 0) (by decide) hS4.drop1) ?_
  rintro _ H5 ⟨rfl, B5, hm5, hS5⟩
  dsimp only at hS5
  clear hS4
  rw [open_ex]
  unfold OpenV
  dsimp only
  repeat (first | refine Ev.s ?_ | refine Ev.newC fun _ _ _ => ?_ | refine Ev.boxC fun _ _ _ => ?_ | refine Ev.stC fun _ _ => ?_ | refine Ev.sc (by omega) ?_ | refine Ev.scg (by omega) ?_)
  refine Ev.b2 (Sum_spec (s := [49, 50, 51, 52, 53, 54, 55, 56, 57]) (by decide)) ?_
  rintro _ _ ⟨rfl, rfl⟩
  rw [crc_ex]
  repeat (first | (first | refine Ev.s ?_ | refine Ev.newC fun _ _ _ => ?_ | refine Ev.boxC fun _ _ _ => ?_ | refine Ev.stC fun _ _ => ?_ | refine Ev.sc (by omega) ?_ | refine Ev.scg (by omega) ?_) | rw [decide_eq_true (by omega)] | rw [decide_eq_false (by omega)])
  exact Ev.ret ⟨rfl, B5, ⟨hm1.mo.trans (hm2.mo.trans (hm3.mo.trans (hm4.trans hm5.mo)))⟩, hS5⟩
end
end Go.AM.Q
set_option linter.unusedVariables false
set_option linter.unusedSimpArgs false
namespace Go.AM
open Go.RowKit

section
variable {P : Program} {call : CallF}

theorem aCall_congr {R : Type} {ρ ρ' : Operand → Value} (c : Call) (h : ∀ x ∈ c.operands, ρ x = ρ' x) (H : AH) (K : Value → AH → Option R) : aCall P call ρ c H K = aCall P call ρ' c H K := by
  have h1 : ∀ x ∈ c.args.toList, ρ x = ρ' x := fun x hx => h x (by unfold Call.operands; exact Array.mem_append.2 (.inr (by simpa using hx)))
  have hargs : c.args.toList.map ρ = c.args.toList.map ρ' := List.map_congr_left h1
  unfold aCall
  split
  · rename_i f hc
    have hf : ρ f = ρ' f := h f (by unfold Call.operands; rw [hc]; simp)
    rw [hf, hargs]
  · split
    · rename_i t u s x ht ha
      rw [h1 s (by rw [ha]; simp), h1 x (by rw [ha]; simp)]
    · rfl
  · split
    · rename_i t u s x ht ha
      rw [h1 s (by rw [ha]; simp), h1 x (by rw [ha]; simp)]
    · rfl
  · split
    · rename_i t x ht ha
      rw [h1 x (by rw [ha]; simp)]
    · rfl
  · split
    · rename_i t x ht ha
      rw [h1 x (by rw [ha]; simp)]
    · rfl
  · rw [hargs]
  · rw [hargs]
  · split
    · rename_i x ha
      rw [h1 x (by rw [ha]; simp)]
    · rfl
  · split
    · rename_i t u s x ht ha
      rw [h1 s (by rw [ha]; simp), h1 x (by rw [ha]; simp)]
    · rfl
  · rfl
theorem aRes_congr {ρ ρ' : Operand → Value} (op : Op) (h : ∀ x ∈ op.operands, ρ x = ρ' x) (H : AH) : aRes P call ρ op H = aRes P call ρ' op H := by
  have pairs : ∀ ps : Array (Nat × Operand), (∀ x ∈ ps.map (·.2), ρ x = ρ' x) → (ps.toList.map fun p => (p.1, ρ p.2)) = (ps.toList.map fun p => (p.1, ρ' p.2)) := fun ps hp =>
    List.map_congr_left fun p hm => by rw [hp p.2 (Array.mem_map.2 ⟨p, by simpa using hm, rfl⟩)]
  unfold aRes
  cases op <;> simp only [Op.operands] at h <;> simp only [aOp]
  case build t ps => rw [pairs ps fun x hx => h x (by simpa using hx)]
  case buildSlice t n ps => rw [pairs ps fun x hx => h x (by simpa using hx)]
  case makeFunc fn first captured =>
    cases fn <;> simp only [aOp]
    rw [List.map_congr_left (l := first.toList) fun x hx => h x (by simp at hx; simp [hx]), List.map_congr_left (l := captured.toList) fun x hx => h x (by simp at hx; simp [hx])]
  case makeMap t r => cases r <;> simp [aOp]
  case call c => exact aCall_congr c h H _
  case slice t x lo hi mx =>
    cases mx with
    | some mx => cases lo <;> cases hi <;> simp_all [aOp]
    | none => cases lo <;> cases hi <;> simp_all [aOp]
  all_goals (first | rfl | (simp_all; done))
theorem opRead_congr {ρ ρ' : Operand → Value} (op : Op) (h : ∀ x ∈ op.operands, ρ x = ρ' x) : opRead P ρ op = opRead P ρ' op := by
  cases op <;> simp only [Op.operands] at h <;> simp only [opRead]
  case load t x => rw [h x (by simp)]
  case convert s d x => rw [h x (by simp)]
  case lookup t m k two => rw [h m (by simp), h k (by simp)]
  case call c =>
    obtain ⟨callee, args, ts⟩ := c
    cases callee with
    | builtin b =>
      cases b <;> simp only [opRead]
      split
      · rename_i t x ht ha
        rw [h x (by have : x ∈ args.toList := by rw [ha]; simp
                    simp [Call.operands]; simpa using this)]
      · rfl
    | _ => simp only [opRead]
/-- What reads, reads the same where the blocks are the same. -/
theorem ld_keep {t : TypeId} {H X : AH} {a v : Value} (hk : ∀ b k, blk H b = some k → blk X b = some k) (h : ld P t H a = some v) : ld P t X a = some v := by
  unfold ld at h ⊢
  split at h
  · unfold ldA at h ⊢
    split at h
    · obtain ⟨k, h1, h2⟩ := bind_some h
      simp only [hk _ _ h1, Option.bind_some]
      exact h2
    · cases h
  · unfold ldC at h ⊢
    split at h
    · obtain ⟨k, h1, h2⟩ := bind_some h
      simp only [hk _ _ h1, Option.bind_some]
      exact h2
    · cases h
  · cases h
theorem sliceCells_keep {sz n : Nat} {H X : AH} {x : Value} {cs : List Value} (hk : ∀ b k, blk H b = some k → blk X b = some k) (h1 : sliceCells sz H x n = some cs) : sliceCells sz X x n = some cs := by
  unfold sliceCells at h1 ⊢
  split at h1
  · exact h1
  · split at h1
    · rename_i hn0; simp only [hn0, if_true]; exact h1
    · split at h1
      · obtain ⟨k, h3, h4⟩ := bind_some h1
        rename_i hn0 hle
        simp only [hn0, hle, if_true, if_false, hk _ _ h3, Option.bind_some]
        exact h4
      · cases h1
  · exact h1
  · cases h1
theorem cvS_keep {s d : TypeId} {H X : AH} {a v : Value} (hk : ∀ b k, blk H b = some k → blk X b = some k) (h : cvS P s d H a = some v) : cvS P s d X a = some v := by
  unfold cvS at h ⊢
  split at h
  · split at h
    · rename_i he
      obtain ⟨cs, h1, h2⟩ := bind_some h
      simp only [he, sliceCells_keep hk h1, Option.bind_some]
      exact h2
    · cases h
  · cases h
theorem mapCells_keep {H X : AH} {x : Value} {cs : List Value} (hk : ∀ b k, blk H b = some k → blk X b = some k) (h : mapCells H x = some cs) : mapCells X x = some cs := by
  unfold mapCells at h ⊢
  split at h
  · exact h
  · rename_i b
    unfold mapB at h ⊢
    cases hb : blk H b with
    | none => rw [hb] at h; cases h
    | some k => rw [hb] at h; rw [hk _ _ hb]; exact h
  · cases h
theorem lkU_keep {t : TypeId} {H X : AH} {x key v : Value} {two : Bool} (hk : ∀ b k, blk H b = some k → blk X b = some k) (h : lkU P t H x key two = some v) : lkU P t X x key two = some v := by
  unfold lkU at h ⊢
  split at h
  · rename_i kt et hd
    obtain ⟨D, h1, h2⟩ := bind_some h
    obtain ⟨cs, h3, h4⟩ := bind_some h2
    simp only [h1, Option.bind_some, mapCells_keep hk h3]
    exact h4
  · cases h
theorem lenM_keep {t : TypeId} {H X : AH} {x v : Value} (hk : ∀ b k, blk H b = some k → blk X b = some k) (h : lenM P t H x = some v) : lenM P t X x = some v := by
  unfold lenM at h ⊢
  split at h
  · cases hc : mapCells H x with
    | none => rw [hc] at h; cases h
    | some cs => rw [hc] at h; rw [mapCells_keep hk hc]; exact h
  · cases h
theorem opRead_keep {ρ : Operand → Value} {op : Op} {f : AH → Option Value} (hf : opRead P ρ op = some f) {H X : AH} {v : Value} (hk : ∀ b k, blk H b = some k → blk X b = some k) (h : f H = some v) : f X = some v := by
  unfold opRead at hf
  split at hf
  · cases hf; exact ld_keep hk h
  · rename_i s d x
    cases hb : isBytesToString P s d with
    | true => rw [hb] at hf; cases hf; exact cvS_keep hk h
    | false => rw [hb] at hf; cases hf
  · cases hf; exact lkU_keep hk h
  · split at hf
    · rename_i t x _ _
      cases hb : isMapT P t with
      | true => rw [hb] at hf; cases hf; exact lenM_keep hk h
      | false => rw [hb] at hf; cases hf
    · cases hf
  · cases hf
end
end Go.AM
set_option linter.unusedVariables false
set_option linter.unusedSimpArgs false
namespace Go.AM
open Go.RowKit

section
variable {P : Program} {call : CallF}

/-- An operation that neither reads nor acts nor makes: it tells the same wherever it comes. -/
def PureAt (P : Program) (call : CallF) (ρ : Operand → Value) (op : Op) (H H' : AH) (v : Value) : Prop := H' = H ∧ ∀ X, aRes P call ρ op X = some (v, X)
theorem PureAt.one {ρ : Operand → Value} {op : Op} {H H' : AH} {v : Value} (x : Option Value) (e : ∀ X, aRes P call ρ op X = x.bind fun v => some (v, X)) (h : aRes P call ρ op H = some (v, H')) : PureAt P call ρ op H H' v := by
  rw [e] at h
  obtain ⟨u, h1, h2⟩ := bind_some h
  cases h2
  exact ⟨rfl, fun X => by rw [e, h1]; rfl⟩
theorem pure_res {ρ : Operand → Value} {op : Op} (he : isEff op = false) (hr : opRead P ρ op = none) (ha : isAlloc op = false) {H H' : AH} {v : Value} (h : aRes P call ρ op H = some (v, H')) : PureAt P call ρ op H H' v := by
  cases op
  case move x => exact .one (some (ρ x)) (fun X => rfl) h
  case assign x => exact .one (some (ρ x)) (fun X => rfl) h
  case pick c x y => exact .one _ (fun X => rfl) h
  case build t ps => exact .one _ (fun X => rfl) h
  case nilCheck x => exact .one _ (fun X => rfl) h
  case binOp op t x y yt => exact .one _ (fun X => rfl) h
  case unOp op t x => exact .one _ (fun X => rfl) h
  case fieldAddr s x i => exact .one _ (fun X => rfl) h
  case field s x i => exact .one _ (fun X => rfl) h
  case indexAddr s x i => exact .one _ (fun X => rfl) h
  case index s x i => exact .one _ (fun X => rfl) h
  case extract x i => exact .one _ (fun X => rfl) h
  case load t x => cases hr
  case lookup t m k two => cases hr
  case makeMap t r => cases ha
  case mapUpdate t m k x => cases he
  case alloc t => cases ha
  case box t x => cases ha
  case buildSlice t n ps => cases ha
  case makeSlice t l c => cases ha
  case store t x y => cases he
  case convert s d x =>
    cases hb : isBytesToString P s d with
    | true => simp only [opRead, hb, cond_true] at hr; cases hr
    | false => exact .one (cv P s d (ρ x)) (fun X => by unfold aRes; simp only [aOp, hb, cond_false]) h
  case makeFunc fn first captured =>
    cases fn with
    | func f => exact .one (some (.func (.func f) (first.toList.map ρ).toArray (captured.toList.map ρ).toArray)) (fun X => rfl) h
    | _ => cases h
  case slice t x lo hi mx =>
    cases mx with
    | some _ => exact .one _ (fun X => rfl) h
    | none => exact .one _ (fun X => rfl) h
  case call c =>
    obtain ⟨callee, args, tys⟩ := c
    cases callee with
    | value f => cases he
    | invoke r m => cases h
    | builtin b =>
      cases b
      case append => cases he
      case copy => cases he
      case len =>
        have hm : ∀ t x, tys.toList = [t] → args.toList = [x] → isMapT P t = false := by
          intro t x ht hx
          simp only [opRead, ht, hx] at hr
          cases hb : isMapT P t with
          | false => rfl
          | true => rw [hb] at hr; cases hr
        refine .one (match tys.toList, args.toList with | [t], [x] => lenV P t (ρ x) | _, _ => none) (fun X => ?_) h
        show (match tys.toList, args.toList with | [t], [x] => (bif isMapT P t then (lenM P t X (ρ x)).bind fun v => some (v, X) else (lenV P t (ρ x)).bind fun v => some (v, X)) | _, _ => none) = _
        split
        · rename_i t x ht hx
          rw [hm t x ht hx]
          rfl
        · rfl
      case cap =>
        refine .one (match tys.toList, args.toList with | [t], [x] => capV P t (ρ x) | _, _ => none) (fun X => ?_) h
        show (match tys.toList, args.toList with | [t], [x] => (capV P t (ρ x)).bind fun v => some (v, X) | _, _ => none) = _
        split <;> rfl
      case min => exact .one _ (fun X => rfl) h
      case max => exact .one _ (fun X => rfl) h
      case unsafeSliceData =>
        refine .one (match args.toList with | [x] => sdV (ρ x) | _ => none) (fun X => ?_) h
        show (match args.toList with | [x] => (sdV (ρ x)).bind fun v => some (v, X) | _ => none) = _
        split <;> rfl
      case unsafeString => cases he
      all_goals cases h
  all_goals cases h
/-- An operation that makes one block. -/
def MakesAt (P : Program) (call : CallF) (ρ : Operand → Value) (op : Op) (H H' : AH) (v : Value) : Prop := ∃ k : Blk, (v = ptr H.length 0 ∨ (∃ a c, v = sl H.length 0 a c) ∨ v = .map (some H.length)) ∧ H' = H ++ [some k] ∧ ∀ X : AH, X.length = H.length → aRes P call ρ op X = some (v, X ++ [some k])
theorem MakesAt.one {ρ : Operand → Value} {op : Op} {H H' : AH} {v : Value} (x : Option (Blk × (Nat → Value))) (hx : ∀ p, x = some p → ∀ n, p.2 n = ptr n 0 ∨ (∃ a c, p.2 n = sl n 0 a c) ∨ p.2 n = .map (some n)) (e : ∀ X, aRes P call ρ op X = x.bind fun p => some (p.2 X.length, X ++ [some p.1])) (h : aRes P call ρ op H = some (v, H')) : MakesAt P call ρ op H H' v := by
  rw [e] at h
  obtain ⟨p, h1, h2⟩ := bind_some h
  cases h2
  exact ⟨p.1, hx p h1 _, rfl, fun X hX => by rw [e, h1, ← hX]; rfl⟩
theorem box_form (t : TypeId) (X : AH) (v : Value) : (box t X v).bind (fun p => some (p.1, p.2)) = (if okCells v = true then some ((⟨v.cells.toList, t, .fix⟩ : Blk), fun n => ptr n 0) else none).bind fun p => some (p.2 X.length, X ++ [some p.1]) := by
  unfold box
  split <;> rfl
theorem alloc_res {ρ : Operand → Value} {op : Op} (ha : isAlloc op = true) {H H' : AH} {v : Value} (h : aRes P call ρ op H = some (v, H')) : MakesAt P call ρ op H H' v := by
  cases op
  case alloc t =>
    refine .one ((zeroT P t).bind fun z => if okCells z = true then some ((⟨z.cells.toList, t, .fix⟩ : Blk), fun n => ptr n 0) else none) ?_ (fun X => ?_) h
    · intro p hp
      obtain ⟨z, h1, h2⟩ := bind_some hp
      split at h2
      · cases h2; exact fun n => .inl rfl
      · cases h2
    · show (newV P t X).bind (fun p => some (p.1, p.2)) = _
      unfold newV
      rw [Option.bind_assoc, Option.bind_assoc]
      congr 1
      funext z
      exact box_form t X z
  case box t x =>
    refine .one (if okCells (ρ x) = true then some ((⟨(ρ x).cells.toList, t, .fix⟩ : Blk), fun n => ptr n 0) else none) ?_ (fun X => box_form t X (ρ x)) h
    intro p hp
    split at hp
    · cases hp; exact fun n => .inl rfl
    · cases hp
  case buildSlice t n ps =>
    refine .one (match P.underlying t with | some (.slice e) => (zeroT P e).bind fun z => if n * szT P e ≤ 16777216 ∧ z.cells.size = szT P e then (fillB (fun i => some (i * szT P e, szT P e)) (rep z.cells.toList n) (ps.toList.map fun p => (p.1, ρ p.2))).map fun cs => ((⟨cs, e, .fix⟩ : Blk), fun q => sl q 0 n n) else none | _ => none) ?_ (fun X => ?_) h
    · intro p hp
      split at hp
      · obtain ⟨z, h1, h2⟩ := bind_some hp
        split at h2
        · cases hf : fillB (fun i => some (i * szT P _, szT P _)) (rep z.cells.toList n) (ps.toList.map fun p => (p.1, ρ p.2)) with
          | none => rw [hf] at h2; cases h2
          | some cs => rw [hf] at h2; cases h2; exact fun q => .inr (.inl ⟨_, _, rfl⟩)
        · cases h2
      · cases hp
    · show (buildS P t X n (ps.toList.map fun p => (p.1, ρ p.2))).bind (fun p => some (p.1, p.2)) = _
      unfold buildS
      cases P.underlying t with
      | none => rfl
      | some d =>
        cases d with
        | slice e =>
          simp only
          rw [Option.bind_assoc, Option.bind_assoc]
          congr 1
          funext z
          split
          · cases fillB (fun i => some (i * szT P e, szT P e)) (rep z.cells.toList n) (ps.toList.map fun p => (p.1, ρ p.2)) <;> rfl
          · rfl
        | _ => rfl
  case makeSlice t l c =>
    refine .one (match P.underlying t, ρ l, ρ c with | some (.slice e), .int _ n, .int _ m => (zeroT P e).bind fun z => if 0 ≤ n ∧ n ≤ m ∧ m * byT P e ≤ 281474976710656 ∧ m ≤ 9223372036854775807 ∧ z.cells.size = szT P e ∧ okCells z = true then some ((⟨rep z.cells.toList m.toNat, e, .fix⟩ : Blk), fun q => sl q 0 n.toNat m.toNat) else none | _, _, _ => none) ?_ (fun X => ?_) h
    · intro p hp
      split at hp
      · obtain ⟨z, h1, h2⟩ := bind_some hp
        split at h2
        · cases h2; exact fun q => .inr (.inl ⟨_, _, rfl⟩)
        · cases h2
      · cases hp
    · show (mkS P t X (ρ l) (ρ c)).bind (fun p => some (p.1, p.2)) = _
      unfold mkS
      cases P.underlying t with
      | none => rfl
      | some d =>
        cases d with
        | slice e =>
          cases ρ l with
          | int k1 n =>
            cases ρ c with
            | int k2 q =>
              simp only
              rw [Option.bind_assoc, Option.bind_assoc]
              congr 1
              funext z
              split <;> rfl
            | _ => rfl
          | _ => rfl
        | _ => rfl
  case makeMap t r =>
    cases r with
    | some r => cases h
    | none =>
      refine .one (some ((⟨[], t, .map⟩ : Blk), fun n => .map (some n))) ?_ (fun X => rfl) h
      intro p hp
      cases hp
      exact fun n => .inr (.inr rfl)
  all_goals cases ha
end
end Go.AM
set_option linter.unusedVariables false
set_option linter.unusedSimpArgs false
namespace Go.AM
open Go.RowKit

section
variable {P : Program} {call : CallF}

theorem befL_take : ∀ (l : List Oper) (acc : List Nat), (befL acc l).take acc.length = acc ∧ (befL acc l).length = acc.length + l.length ∧ ∀ (j : Nat) (o : Oper), l[j]? = some o → (befL acc l)[acc.length + j]? = some (maskOf ((befL acc l).take (acc.length + j)) o)
  | [], acc => by simp [befL]
  | o :: l, acc => by
    obtain ⟨h1, h2, h3⟩ := befL_take l (acc ++ [maskOf acc o])
    simp only [befL, List.length_append, List.length_cons, List.length_nil, Nat.zero_add] at h1 h2 h3 ⊢
    have h4 : (befL (acc ++ [maskOf acc o]) l).take acc.length = acc := by
      have := congrArg (List.take acc.length) h1
      rw [List.take_take, Nat.min_eq_left (by omega), List.take_left] at this
      exact this
    refine ⟨h4, by omega, fun j p hp => ?_⟩
    cases j with
    | zero =>
      simp at hp
      subst hp
      have : (befL (acc ++ [maskOf acc o]) l)[acc.length]? = ((befL (acc ++ [maskOf acc o]) l).take (acc.length + 1))[acc.length]? := by rw [List.getElem?_take, if_pos (by omega)]
      rw [Nat.add_zero, this, h1, h4]
      simp
    | succ j =>
      have := h3 j p (by simpa using hp)
      rw [show acc.length + (j + 1) = acc.length + 1 + j by omega]
      exact this
theorem maskOf_bit {acc : List Nat} {o : Oper} {i : Nat} (h : (maskOf acc o).testBit i = true) : ∃ e ∈ o.after, Region.binds .any e = true ∧ (e.on = i ∨ (acc.getD e.on 0).testBit i = true) := by
  have key : ∀ (l : List Edge) (s : Nat), (l.foldl (fun s e => bif Region.binds .any e then s ||| (2 ^ e.on ||| acc.getD e.on 0) else s) s).testBit i = true → s.testBit i = true ∨ ∃ e ∈ l, Region.binds .any e = true ∧ (e.on = i ∨ (acc.getD e.on 0).testBit i = true) := by
    intro l
    induction l with
    | nil => intro s hs; exact .inl hs
    | cons e l ih =>
      intro s hs
      rw [List.foldl_cons] at hs
      rcases ih _ hs with h1 | ⟨e', h1, h2⟩
      · cases hb : Region.binds .any e with
        | false => rw [hb] at h1; exact .inl h1
        | true =>
          rw [hb] at h1
          simp only [cond_true, Nat.testBit_or, Bool.or_eq_true] at h1
          rcases h1 with h1 | h1 | h1
          · exact .inl h1
          · refine .inr ⟨e, by simp, hb, .inl ?_⟩
            rw [Nat.testBit_two_pow] at h1
            simpa using h1
          · exact .inr ⟨e, by simp, hb, .inr h1⟩
      · exact .inr ⟨e', by simp [h1], h2⟩
  rcases key _ _ h with h1 | ⟨e, h1, h2⟩
  · simp at h1
  · exact ⟨e, by simpa using h1, h2⟩
/-- A set of operations that holds with each what it comes behind. -/
def Down (ops : Array Oper) (D : Nat → Prop) : Prop := ∀ j o, ops[j]? = some o → D j → ∀ e ∈ o.after, Region.binds .any e = true → D e.on
theorem ordB_down {ops : Array Oper} {D : Nat → Prop} (hD : Down ops D) : ∀ (j : Nat) (o : Oper), ops[j]? = some o → (∀ e ∈ o.after, Region.binds .any e = true → D e.on) → ∀ i, ordB (befL [] ops.toList) i j = true → D i := by
  intro j
  induction j using Nat.strongRecOn with
  | _ j ih =>
    intro o ho hedges i hi
    obtain ⟨_, _, h3⟩ := befL_take ops.toList []
    have h4 := h3 j o (by simpa using ho)
    simp only [List.length_nil, Nat.zero_add] at h4
    unfold ordB at hi
    rw [List.getD_eq_getElem?_getD, h4, Option.getD_some] at hi
    obtain ⟨e, he, hb, h5⟩ := maskOf_bit hi
    have hde := hedges e he hb
    rcases h5 with h5 | h5
    · rw [← h5]; exact hde
    · rcases Nat.lt_or_ge e.on j with hlt | hge
      · rw [List.getD_eq_getElem?_getD, List.getElem?_take, if_pos hlt] at h5
        cases hoe : ops[e.on]? with
        | none =>
          exfalso
          have hlen := (befL_take ops.toList []).2.1
          have : (befL [] ops.toList)[e.on]? = none := List.getElem?_eq_none (by
            rw [hlen]
            simp
            have := Array.getElem?_eq_none_iff.1 hoe
            exact this)
          rw [this] at h5
          simp at h5
        | some oe =>
          refine ih e.on hlt oe hoe (fun e' he' hb' => hD e.on oe hoe hde e' he' hb') i ?_
          unfold ordB
          rw [List.getD_eq_getElem?_getD]
          exact h5
      · rw [List.getD_eq_getElem?_getD, List.getElem?_take, if_neg (by omega)] at h5
        simp at h5
end
end Go.AM
set_option linter.unusedVariables false
set_option linter.unusedSimpArgs false
namespace Go.AM
open Go.RowKit

section
variable {P : Program} {call : CallF}

/-- The steps from operation j0 on: slots, heap, what is passed over, what is told. -/
structure Tr (P : Program) (call : CallF) (ops : Array Oper) (bs : List Nat) (j0 : Nat) (tT : Nat → List Value) (tH : Nat → AH) (sk : Nat → Bool) (vl : Nat → Value) : Prop where
  step : ∀ j o, j0 ≤ j → ops[j]? = some o → tT (j + 1) = putT (tT j) o.dst (vl j)
  skip : ∀ j o, j0 ≤ j → ops[j]? = some o → sk j = true → (∃ g want, o.guard = some (g, want) ∧ Off (yieldV ops (tT j) g) want) ∧ vl j = undef ∧ tH (j + 1) = tH j
  go : ∀ j o, j0 ≤ j → ops[j]? = some o → sk j = false → o.guard = none ∨ ∃ g want, o.guard = some (g, want) ∧ yieldV ops (tT j) g = .bool want
  read : ∀ j o f, j0 ≤ j → ops[j]? = some o → sk j = false → opRead P (opv (tT j)) o.op = some f → f (tH j) = some (vl j) ∧ tH (j + 1) = tH j
  other : ∀ j o, j0 ≤ j → ops[j]? = some o → sk j = false → opRead P (opv (tT j)) o.op = none → aRes P call (opv (tT j)) o.op (tH j) = some (vl j, tH (j + 1))
  pastR : ∀ j o f e oe, j0 ≤ e → e < j → ops[j]? = some o → ops[e]? = some oe → sk j = false → sk e = false → isEff oe.op = true → opRead P (opv (tT j)) o.op = some f → ordB bs e j = false → f (tH e) = some (vl j)
  futR : ∀ j o f e oe, j0 ≤ j → j < e → ops[j]? = some o → ops[e]? = some oe → sk j = false → sk e = false → isEff oe.op = true → opRead P (opv (tT j)) o.op = some f → ordB bs j e = false → f (tH (e + 1)) = some (vl j)
  futA : ∀ j o e oe, j0 ≤ j → j < e → ops[j]? = some o → ops[e]? = some oe → sk j = false → sk e = false → isEff oe.op = true → opRead P (opv (tT j)) o.op = none → isAlloc o.op = true → ordB bs j e = false → blk (tH (e + 1)) (tH j).length = blk (tH (j + 1)) (tH j).length

theorem aChk_inv {R : Type} {p : Prop} {x : Option R} {r : R} (h : aChk p x = some r) : p ∧ x = some r := by
  unfold aChk at h
  split at h
  · rename_i hp; exact ⟨hp, h⟩
  · cases h
theorem chkReads_inv {R : Type} {bs : List Nat} {j : Nat} {H : AH} {x : Option R} {r : R} : ∀ (rs : List Rd), chkReads bs j H x rs = some r → x = some r ∧ ∀ rd ∈ rs, ordB bs rd.at_ j = false → rd.ok H
  | [], h => ⟨h, fun rd hr => by cases hr⟩
  | rd :: rs, h => by
    unfold chkReads at h
    cases ho : ordB bs rd.at_ j with
    | true =>
      rw [ho] at h
      obtain ⟨h1, h2⟩ := chkReads_inv rs h
      refine ⟨h1, fun rd' hr hf => ?_⟩
      cases hr with
      | head => rw [ho] at hf; cases hf
      | tail _ hr => exact h2 rd' hr hf
    | false =>
      rw [ho] at h
      obtain ⟨h0, h⟩ := aChk_inv h
      obtain ⟨h1, h2⟩ := chkReads_inv rs h
      refine ⟨h1, fun rd' hr hf => ?_⟩
      cases hr with
      | head => exact h0
      | tail _ hr => exact h2 rd' hr hf
theorem chkPast_inv {R : Type} {bs : List Nat} {j : Nat} {ok : AH → Prop} {x : Option R} {r : R} : ∀ (ps : List (Nat × AH)), chkPast bs j ok x ps = some r → x = some r ∧ ∀ p ∈ ps, ordB bs p.1 j = false → ok p.2
  | [], h => ⟨h, fun p hp => by cases hp⟩
  | p :: ps, h => by
    unfold chkPast at h
    cases ho : ordB bs p.1 j with
    | true =>
      rw [ho] at h
      obtain ⟨h1, h2⟩ := chkPast_inv ps h
      refine ⟨h1, fun p' hr hf => ?_⟩
      cases hr with
      | head => rw [ho] at hf; cases hf
      | tail _ hr => exact h2 p' hr hf
    | false =>
      rw [ho] at h
      obtain ⟨h0, h⟩ := aChk_inv h
      obtain ⟨h1, h2⟩ := chkPast_inv ps h
      refine ⟨h1, fun p' hr hf => ?_⟩
      cases hr with
      | head => exact h0
      | tail _ hr => exact h2 p' hr hf
/-- What the steps from j0 on keep of what came ahead. -/
structure TrP (P : Program) (ops : Array Oper) (bs : List Nat) (j0 : Nat) (tT : Nat → List Value) (tH : Nat → AH) (sk : Nat → Bool) (vl : Nat → Value) (past : List (Nat × AH)) (reads : List Rd) : Prop where
  past : ∀ p ∈ past, ∀ j o f, j0 ≤ j → ops[j]? = some o → sk j = false → opRead P (opv (tT j)) o.op = some f → ordB bs p.1 j = false → f p.2 = some (vl j)
  reads : ∀ rd ∈ reads, ∀ e oe, j0 ≤ e → ops[e]? = some oe → sk e = false → isEff oe.op = true → ordB bs rd.at_ e = false → rd.ok (tH (e + 1))
theorem read_not_eff {ρ : Operand → Value} {op : Op} {f : AH → Option Value} (h : opRead P ρ op = some f) : isEff op = false := by
  cases op
  case call c =>
    obtain ⟨callee, args, ts⟩ := c
    cases callee with
    | builtin b => cases b <;> first | rfl | (simp [opRead] at h; done)
    | _ => simp [opRead] at h
  all_goals first | rfl | (simp [opRead] at h; done)
theorem alloc_not_eff {op : Op} (h : isAlloc op = true) : isEff op = false := by
  cases op <;> first | rfl | (simp [isAlloc] at h; done)
theorem tr_cons {ops : Array Oper} {bs : List Nat} {j0 : Nat} {o : Oper} (ho : ops[j0]? = some o) {T : List Value} {H H1 : AH} {v : Value} {s : Bool} {tT : Nat → List Value} {tH : Nat → AH} {sk : Nat → Bool} {vl : Nat → Value}
    (h0 : tT (j0 + 1) = putT T o.dst v) (h1 : tH (j0 + 1) = H1) (X : Tr P call ops bs (j0 + 1) tT tH sk vl)
    (hskip : s = true → (∃ g want, o.guard = some (g, want) ∧ Off (yieldV ops T g) want) ∧ v = undef ∧ H1 = H)
    (hgo : s = false → o.guard = none ∨ ∃ g want, o.guard = some (g, want) ∧ yieldV ops T g = .bool want)
    (hread : ∀ f, s = false → opRead P (opv T) o.op = some f → f H = some v ∧ H1 = H)
    (hother : s = false → opRead P (opv T) o.op = none → aRes P call (opv T) o.op H = some (v, H1))
    (hpast : s = false → isEff o.op = true → ∀ j p f, j0 + 1 ≤ j → ops[j]? = some p → sk j = false → opRead P (opv (tT j)) p.op = some f → ordB bs j0 j = false → f H = some (vl j))
    (hfutR : ∀ f, s = false → opRead P (opv T) o.op = some f → ∀ e oe, j0 + 1 ≤ e → ops[e]? = some oe → sk e = false → isEff oe.op = true → ordB bs j0 e = false → f (tH (e + 1)) = some v)
    (hfutA : s = false → opRead P (opv T) o.op = none → isAlloc o.op = true → ∀ e oe, j0 + 1 ≤ e → ops[e]? = some oe → sk e = false → isEff oe.op = true → ordB bs j0 e = false → blk (tH (e + 1)) H.length = blk H1 H.length) :
    Tr P call ops bs j0 (fun i => if i = j0 then T else tT i) (fun i => if i = j0 then H else tH i) (fun i => if i = j0 then s else sk i) (fun i => if i = j0 then v else vl i) := by
  have hne : ∀ {j}, j0 ≤ j → j ≠ j0 → j0 + 1 ≤ j := fun h1 h2 => by omega
  refine ⟨?_, ?_, ?_, ?_, ?_, ?_, ?_, ?_⟩
  · intro j p hj hp
    rw [if_neg (show j + 1 ≠ j0 by omega)]
    by_cases hjj : j = j0
    · subst hjj; rw [ho] at hp; cases hp; simp only [if_true]; exact h0
    · simp only [if_neg hjj]; exact X.step j p (hne hj hjj) hp
  · intro j p hj hp hs
    rw [if_neg (show j + 1 ≠ j0 by omega)]
    by_cases hjj : j = j0
    · subst hjj; rw [ho] at hp; cases hp; simp only [if_true] at hs ⊢; rw [h1]; exact hskip hs
    · simp only [if_neg hjj] at hs ⊢; exact X.skip j p (hne hj hjj) hp hs
  · intro j p hj hp hs
    by_cases hjj : j = j0
    · subst hjj; rw [ho] at hp; cases hp; simp only [if_true] at hs ⊢; exact hgo hs
    · simp only [if_neg hjj] at hs ⊢; exact X.go j p (hne hj hjj) hp hs
  · intro j p f hj hp hs hf
    rw [if_neg (show j + 1 ≠ j0 by omega)]
    by_cases hjj : j = j0
    · subst hjj; rw [ho] at hp; cases hp; simp only [if_true] at hs hf ⊢; rw [h1]; exact hread f hs hf
    · simp only [if_neg hjj] at hs hf ⊢; exact X.read j p f (hne hj hjj) hp hs hf
  · intro j p hj hp hs hf
    rw [if_neg (show j + 1 ≠ j0 by omega)]
    by_cases hjj : j = j0
    · subst hjj; rw [ho] at hp; cases hp; simp only [if_true] at hs hf ⊢; rw [h1]; exact hother hs hf
    · simp only [if_neg hjj] at hs hf ⊢; exact X.other j p (hne hj hjj) hp hs hf
  · intro j p f e oe he hej hp hoe hs hse hef hf hord
    rw [if_neg (show j ≠ j0 by omega)] at hs hf ⊢
    by_cases hee : e = j0
    · subst hee; rw [ho] at hoe; cases hoe; simp only [if_true] at hse ⊢; exact hpast hse hef j p f (by omega) hp hs hf hord
    · simp only [if_neg hee] at hse ⊢; exact X.pastR j p f e oe (hne he hee) hej hp hoe hs hse hef hf hord
  · intro j p f e oe hj hje hp hoe hs hse hef hf hord
    rw [if_neg (show e ≠ j0 by omega)] at hse
    rw [if_neg (show e + 1 ≠ j0 by omega)]
    by_cases hjj : j = j0
    · subst hjj; rw [ho] at hp; cases hp; simp only [if_true] at hs hf ⊢; exact hfutR f hs hf e oe (by omega) hoe hse hef hord
    · simp only [if_neg hjj] at hs hf ⊢; exact X.futR j p f e oe (hne hj hjj) hje hp hoe hs hse hef hf hord
  · intro j p e oe hj hje hp hoe hs hse hef hf ha hord
    rw [if_neg (show e ≠ j0 by omega)] at hse
    rw [if_neg (show e + 1 ≠ j0 by omega), if_neg (show j + 1 ≠ j0 by omega)]
    by_cases hjj : j = j0
    · subst hjj; rw [ho] at hp; cases hp; simp only [if_true] at hs hf ⊢; rw [h1]; exact hfutA hs hf ha e oe (by omega) hoe hse hef hord
    · simp only [if_neg hjj] at hs hf ⊢; exact X.futA j p e oe (hne hj hjj) hje hp hoe hs hse hef hf ha hord
theorem trp_cons {ops : Array Oper} {bs : List Nat} {j0 : Nat} {o : Oper} (ho : ops[j0]? = some o) {T : List Value} {H H1 : AH} {v : Value} {s : Bool} {tT : Nat → List Value} {tH : Nat → AH} {sk : Nat → Bool} {vl : Nat → Value} {past : List (Nat × AH)} {reads : List Rd}
    (h1 : tH (j0 + 1) = H1)
    (hp : ∀ p ∈ past, (∀ j o f, j0 + 1 ≤ j → ops[j]? = some o → sk j = false → opRead P (opv (tT j)) o.op = some f → ordB bs p.1 j = false → f p.2 = some (vl j)) ∧ (∀ f, s = false → opRead P (opv T) o.op = some f → ordB bs p.1 j0 = false → f p.2 = some v))
    (hr : ∀ rd ∈ reads, (∀ e oe, j0 + 1 ≤ e → ops[e]? = some oe → sk e = false → isEff oe.op = true → ordB bs rd.at_ e = false → rd.ok (tH (e + 1))) ∧ (s = false → isEff o.op = true → ordB bs rd.at_ j0 = false → rd.ok H1)) :
    TrP P ops bs j0 (fun i => if i = j0 then T else tT i) (fun i => if i = j0 then H else tH i) (fun i => if i = j0 then s else sk i) (fun i => if i = j0 then v else vl i) past reads := by
  refine ⟨fun p hpp j q f hj hq hs hf hord => ?_, fun rd hrd e oe he hoe hs hef hord => ?_⟩
  · by_cases hjj : j = j0
    · subst hjj; rw [ho] at hq; cases hq; simp only [if_true] at hs hf ⊢; exact (hp p hpp).2 f hs hf hord
    · simp only [if_neg hjj] at hs hf ⊢; exact (hp p hpp).1 j q f (by omega) hq hs hf hord
  · rw [if_neg (show e + 1 ≠ j0 by omega)]
    by_cases hee : e = j0
    · subst hee; rw [ho] at hoe; cases hoe; simp only [if_true] at hs; rw [h1]; exact (hr rd hrd).2 hs hef hord
    · simp only [if_neg hee] at hs; exact (hr rd hrd).1 e oe (by omega) hoe hs hef hord
theorem evD_inv (ops : Array Oper) (bs : List Nat) {R : Type} {K : List Value → AH → Option R} {r : R} : ∀ (l : List Oper) (j0 : Nat) (T : List Value) (H : AH) (past : List (Nat × AH)) (reads : List Rd), (∀ j, l[j]? = ops[j0 + j]?) → evD P call ops bs l j0 T H past reads K = some r →
    ∃ tT tH sk vl, tT j0 = T ∧ tH j0 = H ∧ Tr P call ops bs j0 tT tH sk vl ∧ TrP P ops bs j0 tT tH sk vl past reads ∧ K (tT (j0 + l.length)) (tH (j0 + l.length)) = some r
  | [], j0, T, H, past, reads, hl, h => by
    have none_ : ∀ j, j0 ≤ j → ops[j]? = none := fun j hj => by have := hl (j - j0); rw [show j0 + (j - j0) = j by omega] at this; rw [← this]; rfl
    have no : ∀ {j : Nat} {o : Oper}, j0 ≤ j → ops[j]? = some o → False := fun hj ho => by rw [none_ _ hj] at ho; cases ho
    exact ⟨fun _ => T, fun _ => H, fun _ => false, fun _ => undef, rfl, rfl, ⟨fun j o hj ho => (no hj ho).elim, fun j o hj ho => (no hj ho).elim, fun j o hj ho => (no hj ho).elim, fun j o f hj ho => (no hj ho).elim, fun j o hj ho => (no hj ho).elim,
      fun j o f e oe he hej ho => (no (by omega) ho).elim, fun j o f e oe hj hje ho => (no hj ho).elim, fun j o e oe hj hje ho => (no hj ho).elim⟩, ⟨fun p _ j o f hj ho => (no hj ho).elim, fun rd _ e oe he hoe => (no he hoe).elim⟩, h⟩
  | o :: l, j0, T, H, past, reads, hl, h => by
    have ho : ops[j0]? = some o := by have := hl 0; simpa using this.symm
    have hl' : ∀ j, l[j]? = ops[j0 + 1 + j]? := fun j => by have := hl (j + 1); rw [show j0 + 1 + j = j0 + (j + 1) by omega]; simpa using this
    have hlen : j0 + (o :: l).length = j0 + 1 + l.length := by simp; omega
    -- passed over
    have fin_skip : ∀ (past' : List (Nat × AH)) (reads' : List Rd), (∀ p ∈ past, p ∈ past') → (∀ rd ∈ reads, rd ∈ reads') → evD P call ops bs l (j0 + 1) (putT T o.dst undef) H past' reads' K = some r → (∃ g want, o.guard = some (g, want) ∧ Off (yieldV ops T g) want) →
        ∃ tT tH sk vl, tT j0 = T ∧ tH j0 = H ∧ Tr P call ops bs j0 tT tH sk vl ∧ TrP P ops bs j0 tT tH sk vl past reads ∧ K (tT (j0 + (o :: l).length)) (tH (j0 + (o :: l).length)) = some r := by
      intro past' reads' hp' hr' hh hg
      obtain ⟨tT, tH, sk, vl, h0, h1, X, Y, hK⟩ := evD_inv ops bs l (j0 + 1) _ _ _ _ hl' hh
      refine ⟨_, _, _, _, if_pos rfl, if_pos rfl, tr_cons (s := true) (v := undef) ho h0 h1 X (fun _ => ⟨hg, rfl, rfl⟩) (fun hx => by cases hx) (fun f hx => by cases hx) (fun hx => by cases hx) (fun hx => by cases hx) (fun f hx => by cases hx) (fun hx => by cases hx),
        trp_cons ho h1 (fun p hp => ⟨Y.past p (hp' p hp), fun f hx => by cases hx⟩) (fun rd hrd => ⟨Y.reads rd (hr' rd hrd), fun hx => by cases hx⟩), ?_⟩
      rw [hlen]
      simp only [if_neg (show j0 + 1 + l.length ≠ j0 by omega)]
      exact hK
    have fin_read : ∀ (v : Value) (ok : AH → Prop) (f : AH → Option Value), opRead P (opv T) o.op = some f → f H = some v → (∀ X, ok X → f X = some v) → (o.guard = none ∨ ∃ g want, o.guard = some (g, want) ∧ yieldV ops T g = .bool want) → evD P call ops bs l (j0 + 1) (putT T o.dst v) H past (⟨j0, ok⟩ :: reads) K = some r →
        (∀ p ∈ past, ordB bs p.1 j0 = false → f p.2 = some v) → ∃ tT tH sk vl, tT j0 = T ∧ tH j0 = H ∧ Tr P call ops bs j0 tT tH sk vl ∧ TrP P ops bs j0 tT tH sk vl past reads ∧ K (tT (j0 + (o :: l).length)) (tH (j0 + (o :: l).length)) = some r := by
      intro v ok f hf hv hok hg hh hc
      obtain ⟨tT, tH, sk, vl, h0, h1, X, Y, hK⟩ := evD_inv ops bs l (j0 + 1) _ _ _ _ hl' hh
      have hne := read_not_eff hf
      refine ⟨_, _, _, _, if_pos rfl, if_pos rfl, tr_cons (s := false) (v := v) ho h0 h1 X (fun hx => by cases hx) (fun _ => hg) (fun f' _ hf' => ?_) (fun _ hx => by rw [hf] at hx; cases hx) (fun _ hx => by rw [hne] at hx; cases hx) (fun f' _ hf' e oe he hoe hse hef hord => ?_) (fun _ hx => by rw [hf] at hx; cases hx),
        trp_cons ho h1 (fun p hp => ⟨Y.past p hp, fun f' _ hf' hord => ?_⟩) (fun rd hrd => ⟨Y.reads rd (by simp [hrd]), fun _ hx => by rw [hne] at hx; cases hx⟩), ?_⟩
      · rw [hf] at hf'; cases hf'; exact ⟨hv, rfl⟩
      · rw [hf] at hf'; cases hf'; exact hok _ (Y.reads ⟨j0, ok⟩ (by simp) e oe he hoe hse hef hord)
      · rw [hf] at hf'; cases hf'; exact hc p hp hord
      · rw [hlen]
        simp only [if_neg (show j0 + 1 + l.length ≠ j0 by omega)]
        exact hK
    have fin_eff : ∀ (v : Value) (H1 : AH), opRead P (opv T) o.op = none → aRes P call (opv T) o.op H = some (v, H1) → isEff o.op = true → (o.guard = none ∨ ∃ g want, o.guard = some (g, want) ∧ yieldV ops T g = .bool want) → evD P call ops bs l (j0 + 1) (putT T o.dst v) H1 ((j0, H) :: past) reads K = some r →
        (∀ rd ∈ reads, ordB bs rd.at_ j0 = false → rd.ok H1) → ∃ tT tH sk vl, tT j0 = T ∧ tH j0 = H ∧ Tr P call ops bs j0 tT tH sk vl ∧ TrP P ops bs j0 tT tH sk vl past reads ∧ K (tT (j0 + (o :: l).length)) (tH (j0 + (o :: l).length)) = some r := by
      intro v H1 hf hv he hg hh hc
      obtain ⟨tT, tH, sk, vl, h0, h1, X, Y, hK⟩ := evD_inv ops bs l (j0 + 1) _ _ _ _ hl' hh
      refine ⟨_, _, _, _, if_pos rfl, if_pos rfl, tr_cons (s := false) (v := v) ho h0 h1 X (fun hx => by cases hx) (fun _ => hg) (fun f' _ hf' => by rw [hf] at hf'; cases hf') (fun _ _ => hv) (fun _ _ j p f hj hp hs hf hord => Y.past (j0, H) (by simp) j p f hj hp hs hf hord) (fun f' _ hf' => by rw [hf] at hf'; cases hf') (fun _ _ hx => by rw [alloc_not_eff hx] at he; cases he),
        trp_cons ho h1 (fun p hp => ⟨Y.past p (by simp [hp]), fun f' _ hf' => by rw [hf] at hf'; cases hf'⟩) (fun rd hrd => ⟨Y.reads rd hrd, fun _ _ hord => hc rd hrd hord⟩), ?_⟩
      rw [hlen]
      simp only [if_neg (show j0 + 1 + l.length ≠ j0 by omega)]
      exact hK
    have fin_alloc : ∀ (v : Value) (H1 : AH) (ok : AH → Prop), (∀ X, ok X → blk X H.length = blk H1 H.length) → opRead P (opv T) o.op = none → aRes P call (opv T) o.op H = some (v, H1) → isEff o.op = false → (o.guard = none ∨ ∃ g want, o.guard = some (g, want) ∧ yieldV ops T g = .bool want) → evD P call ops bs l (j0 + 1) (putT T o.dst v) H1 past (⟨j0, ok⟩ :: reads) K = some r → ∃ tT tH sk vl, tT j0 = T ∧ tH j0 = H ∧ Tr P call ops bs j0 tT tH sk vl ∧ TrP P ops bs j0 tT tH sk vl past reads ∧ K (tT (j0 + (o :: l).length)) (tH (j0 + (o :: l).length)) = some r := by
      intro v H1 ok hok hf hv he hg hh
      obtain ⟨tT, tH, sk, vl, h0, h1, X, Y, hK⟩ := evD_inv ops bs l (j0 + 1) _ _ _ _ hl' hh
      refine ⟨_, _, _, _, if_pos rfl, if_pos rfl, tr_cons (s := false) (v := v) ho h0 h1 X (fun hx => by cases hx) (fun _ => hg) (fun f' _ hf' => by rw [hf] at hf'; cases hf') (fun _ _ => hv) (fun _ hx => by rw [he] at hx; cases hx) (fun f' _ hf' => by rw [hf] at hf'; cases hf') (fun _ _ _ e oe hee hoe hse hef hord => hok _ (Y.reads ⟨j0, ok⟩ (by simp) e oe hee hoe hse hef hord)),
        trp_cons ho h1 (fun p hp => ⟨Y.past p hp, fun f' _ hf' => by rw [hf] at hf'; cases hf'⟩) (fun rd hrd => ⟨Y.reads rd (by simp [hrd]), fun _ hx => by rw [he] at hx; cases hx⟩), ?_⟩
      rw [hlen]
      simp only [if_neg (show j0 + 1 + l.length ≠ j0 by omega)]
      exact hK
    have fin_pure : ∀ (v : Value) (H1 : AH), opRead P (opv T) o.op = none → aRes P call (opv T) o.op H = some (v, H1) → isEff o.op = false → isAlloc o.op = false → (o.guard = none ∨ ∃ g want, o.guard = some (g, want) ∧ yieldV ops T g = .bool want) → evD P call ops bs l (j0 + 1) (putT T o.dst v) H1 past reads K = some r → ∃ tT tH sk vl, tT j0 = T ∧ tH j0 = H ∧ Tr P call ops bs j0 tT tH sk vl ∧ TrP P ops bs j0 tT tH sk vl past reads ∧ K (tT (j0 + (o :: l).length)) (tH (j0 + (o :: l).length)) = some r := by
      intro v H1 hf hv he ha hg hh
      obtain ⟨tT, tH, sk, vl, h0, h1, X, Y, hK⟩ := evD_inv ops bs l (j0 + 1) _ _ _ _ hl' hh
      refine ⟨_, _, _, _, if_pos rfl, if_pos rfl, tr_cons (s := false) (v := v) ho h0 h1 X (fun hx => by cases hx) (fun _ => hg) (fun f' _ hf' => by rw [hf] at hf'; cases hf') (fun _ _ => hv) (fun _ hx => by rw [he] at hx; cases hx) (fun f' _ hf' => by rw [hf] at hf'; cases hf') (fun _ _ hx => by rw [ha] at hx; cases hx),
        trp_cons ho h1 (fun p hp => ⟨Y.past p hp, fun f' _ hf' => by rw [hf] at hf'; cases hf'⟩) (fun rd hrd => ⟨Y.reads rd hrd, fun _ hx => by rw [he] at hx; cases hx⟩), ?_⟩
      rw [hlen]
      simp only [if_neg (show j0 + 1 + l.length ≠ j0 by omega)]
      exact hK
    unfold evD at h
    cases hg : o.guard with
    | none =>
      rw [hg] at h
      simp only at h
      split at h
      · rename_i f hf
        obtain ⟨v, hv, hh⟩ := bind_some h
        obtain ⟨hh, hc⟩ := chkPast_inv past hh
        exact fin_read v _ f hf hv (fun X hX => hX) (.inl hg) hh hc
      · rename_i hf
        rw [aOp_res] at h
        obtain ⟨⟨v, H1⟩, hv, hh⟩ := bind_some h
        simp only at hh
        cases he : isEff o.op with
        | true =>
          rw [he] at hh
          obtain ⟨hh, hc⟩ := chkReads_inv reads hh
          exact fin_eff v H1 hf hv he (.inl hg) hh hc
        | false =>
          rw [he] at hh
          cases ha : isAlloc o.op with
          | true => rw [ha] at hh; exact fin_alloc v H1 _ (fun X hX => hX) hf hv he (.inl hg) hh
          | false => rw [ha] at hh; exact fin_pure v H1 hf hv he ha (.inl hg) hh
    | some q =>
      obtain ⟨g, want⟩ := q
      rw [hg] at h
      simp only at h
      split at h
      · rename_i f hf
        obtain ⟨p, hp, hh⟩ := bind_some h
        obtain ⟨hh, hc⟩ := chkPast_inv past hh
        rcases gOp_inv hp with ⟨hu, h5⟩ | ⟨hu, rfl⟩
        · obtain ⟨v, hv, h6⟩ := bind_some h5
          cases h6
          exact fin_read v _ f hf hv (fun X hX => hX hu) (.inr ⟨g, want, hg, hu⟩) hh (fun p hp hord => hc p hp hord hu)
        · exact fin_skip _ _ (fun p hp => hp) (fun rd hrd => by simp [hrd]) hh ⟨g, want, hg, hu⟩
      · rename_i hf
        obtain ⟨⟨v, H1⟩, hp, hh⟩ := bind_some h
        simp only at hh
        rcases gOp_inv hp with ⟨hu, h5⟩ | ⟨hu, h5⟩
        · cases he : isEff o.op with
          | true =>
            rw [he] at hh
            obtain ⟨hh, hc⟩ := chkReads_inv reads hh
            exact fin_eff v H1 hf h5 he (.inr ⟨g, want, hg, hu⟩) hh hc
          | false =>
            rw [he] at hh
            cases ha : isAlloc o.op with
            | true => rw [ha] at hh; exact fin_alloc v H1 _ (fun X hX => hX hu) hf h5 he (.inr ⟨g, want, hg, hu⟩) hh
            | false => rw [ha] at hh; exact fin_pure v H1 hf h5 he ha (.inr ⟨g, want, hg, hu⟩) hh
        · cases h5
          cases he : isEff o.op with
          | true =>
            rw [he] at hh
            obtain ⟨hh, hc⟩ := chkReads_inv reads hh
            exact fin_skip _ _ (fun p hp => by simp [hp]) (fun rd hrd => hrd) hh ⟨g, want, hg, hu⟩
          | false =>
            rw [he] at hh
            cases ha : isAlloc o.op with
            | true => rw [ha] at hh; exact fin_skip _ _ (fun p hp => hp) (fun rd hrd => by simp [hrd]) hh ⟨g, want, hg, hu⟩
            | false => rw [ha] at hh; exact fin_skip _ _ (fun p hp => hp) (fun rd hrd => hrd) hh ⟨g, want, hg, hu⟩
end
end Go.AM
set_option linter.unusedVariables false
set_option linter.unusedSimpArgs false
namespace Go.AM
open Go.RowKit

section
variable {P : Program} {call : CallF}

def cutM (m : Mp) (l : Nat) : Mp := fun b => if b < l then m b else none
theorem cutM_some {m : Mp} {l b : Nat} {L : Loc} (h : cutM m l b = some L) : b < l ∧ m b = some L := by
  unfold cutM at h
  split at h
  · rename_i hb; exact ⟨hb, h⟩
  · cases h
theorem cutM_of {m : Mp} {l b : Nat} {L : Loc} (h : b < l) (hm : m b = some L) : cutM m l b = some L := by rw [cutM, if_pos h, hm]
/-- All that a value leads to lies below l. -/
def Bel (l : Nat) (x : Value) : Prop := ∃ (mm : Mp) (y : Value), VRel mm x y ∧ ∀ b L, mm b = some L → b < l
theorem Bel.list {l : Nat} {mm : Mp} {xs ys : List Value} (h : LRel mm xs ys) (hb : ∀ b L, mm b = some L → b < l) : ∀ (i : Nat) (x : Value), xs[i]? = some x → Bel l x := by
  intro i x hx
  have hlt := (List.getElem?_eq_some_iff.1 hx).1
  have hy := List.getElem?_eq_getElem (show i < ys.length by rw [← h.1]; exact hlt)
  exact ⟨mm, _, h.2 i x _ hx hy, hb⟩
theorem VRel.cutB {m : Mp} {l : Nat} {x y : Value} (h : VRel m x y) : Bel l x → VRel (cutM m l) x y := by
  induction h with
  | unk v => intro _; exact .unk v
  | flat v hf => intro _; exact .flat v hf
  | ptr b off L hm h0 =>
    intro hb
    obtain ⟨mm, y, hr, hl⟩ := hb
    obtain ⟨L', h1, _⟩ := hr.ptr_inv
    exact .ptr b off L (cutM_of (hl _ _ h1) hm) h0
  | map b L hm h0 =>
    intro hb
    obtain ⟨mm, y, hr, hl⟩ := hb
    obtain ⟨L', h1, _⟩ := hr.map_inv
    exact .map b L (cutM_of (hl _ _ h1) hm) h0
  | yld b L hm h0 =>
    intro hb
    obtain ⟨mm, y, hr, hl⟩ := hb
    obtain ⟨L', h1, _⟩ := hr.yld_inv
    exact .yld b L (cutM_of (hl _ _ h1) hm) h0
  | slice b off off' len cap cap' L hm h0 h1 h2 h3 h4 h5 h7 =>
    intro hb
    obtain ⟨mm, y, hr, hl⟩ := hb
    obtain ⟨L', _, _, h6, _⟩ := hr.slice_inv
    exact .slice b off off' len cap cap' L (cutM_of (hl _ _ h6) hm) h0 h1 h2 h3 h4 h5 h7
  | agg xs ys hs _ ih =>
    intro hb
    obtain ⟨mm, y, hr, hl⟩ := hb
    obtain ⟨zs, rfl, hlr⟩ := hr.agg_inv
    exact .agg xs ys hs fun i x y hx hy => ih i x y hx hy (Bel.list hlr hl i x (by simpa using hx))
  | tuple xs ys hs _ ih =>
    intro hb
    obtain ⟨mm, y, hr, hl⟩ := hb
    obtain ⟨zs, rfl, hlr⟩ := hr.tuple_inv
    exact .tuple xs ys hs fun i x y hx hy => ih i x y hx hy (Bel.list hlr hl i x (by simpa using hx))
  | func f a b a' b' h1 _ h2 _ ih1 ih2 =>
    intro hb
    obtain ⟨mm, y, hr, hl⟩ := hb
    have hsp : LRel mm a.toList (match y with | .func _ u _ => u.toList | _ => []) ∧ LRel mm b.toList (match y with | .func _ _ u => u.toList | _ => []) := by
      cases hr with
      | flat v hf => simp [flat1] at hf
      | func f a b a' b' h1 h2 h3 h4 => exact ⟨⟨by simpa using h1, fun i x y hx hy => h2 i x y (by simpa using hx) (by simpa using hy)⟩, ⟨by simpa using h3, fun i x y hx hy => h4 i x y (by simpa using hx) (by simpa using hy)⟩⟩
    exact .func f a b a' b' h1 (fun i x y hx hy => ih1 i x y hx hy (Bel.list hsp.1 hl i x (by simpa using hx))) h2 (fun i x y hx hy => ih2 i x y hx hy (Bel.list hsp.2 hl i x (by simpa using hx)))
/-- What holds behind an operation whatever it comes to, holds. -/
theorem wp_const {o : Oper} {a : Act} {w : World} {C : Prop} (h : o.wp P a w (fun _ _ => C) (fun _ _ _ => C)) : C := by
  unfold Oper.wp at h
  generalize (execOp a.eval o).run P w = res at h
  cases res with
  | halt hh w' => cases hh <;> simp only [Oper.upon] at h <;> exact h
  | ok n w' =>
    cases n <;> simp only [Oper.upon] at h
    case enter f args =>
      obtain ⟨e, w'', fr, hR, _⟩ := h []
      cases e with
      | returned v => exact hR
      | panicked c => exact hR
      | outgrown => obtain ⟨_, _, hc⟩ := hR; exact hc
    case row row args =>
      obtain ⟨v, w'', hR, _⟩ := h default []
      exact hR
    all_goals exact h
theorem read_res {ρ : Operand → Value} {op : Op} {f : AH → Option Value} (hf : opRead P ρ op = some f) (H : AH) : aRes P call ρ op H = (f H).bind fun v => some (v, H) := by
  unfold opRead at hf
  split at hf
  · cases hf; rfl
  · rename_i s d x
    cases hb : isBytesToString P s d with
    | true => rw [hb] at hf; cases hf; unfold aRes; simp only [aOp, hb, cond_true]
    | false => rw [hb] at hf; cases hf
  · cases hf; rfl
  · split at hf
    · rename_i args ts t x ht hx
      cases hb : isMapT P t with
      | true =>
        rw [hb] at hf
        cases hf
        unfold aRes
        simp only [aOp, aCall, ht, hx, hb, cond_true]
      | false => rw [hb] at hf; cases hf
    · cases hf
  · cases hf
section
variable {ops : Array Oper} {bs : List Nat} {tT : Nat → List Value} {tH : Nat → AH} {sk : Nat → Bool} {vl : Nat → Value}
theorem Tr.res (X : Tr P call ops bs 0 tT tH sk vl) {j : Nat} {o : Oper} (ho : ops[j]? = some o) (hs : sk j = false) : aRes P call (opv (tT j)) o.op (tH j) = some (vl j, tH (j + 1)) := by
  cases hf : opRead P (opv (tT j)) o.op with
  | none => exact X.other j o (Nat.zero_le _) ho hs hf
  | some f =>
    obtain ⟨h1, h2⟩ := X.read j o f (Nat.zero_le _) ho hs hf
    rw [read_res hf, h1, h2]
    rfl
/-- The text's own order can be walked. -/
theorem Tr.walk (hcall : CallOK P call) (X : Tr P call ops bs 0 tT tH sk vl) {B0 : Nat} {w0 : World} {m : Mp} {a : Act} {w : World} (R0 : Rel P B0 w0 m (tH 0) w) (hT : LRel m (tT 0) a.tmps.toList) :
    ∀ j, j ≤ ops.size → ∃ (m' : Mp) (a' : Act) (w' : World), Ext m (tH 0) w m' (tH j) w' ∧ Rel P B0 w0 m' (tH j) w' ∧ LRel m' (tT j) a'.tmps.toList
  | 0, _ => ⟨m, a, w, Ext.refl _ _ _, R0, hT⟩
  | j + 1, hj => by
    obtain ⟨m1, a1, w1, E1, R1, T1⟩ := Tr.walk hcall X R0 hT j (by omega)
    have ho : ops[j]? = some ops[j] := Array.getElem?_eq_getElem (by omega)
    cases hs : sk j with
    | true =>
      obtain ⟨_, h2, h3⟩ := X.skip j _ (Nat.zero_le _) ho hs
      rw [X.step j _ (Nat.zero_le _) ho, h2, h3]
      exact ⟨m1, a1.put ops[j].dst undef, w1, E1, R1, put_rel T1 _ (VRel.undef _)⟩
    | false =>
      have h1 := res_sound hcall (X.res ho hs) R1 T1
      refine wp_const (h1 (fun _ _ => _) (fun _ _ _ => _) fun m' v' w' E R' hv => ?_)
      rw [X.step j _ (Nat.zero_le _) ho]
      exact ⟨m', a1.put ops[j].dst v', w', Ext.trans (fun b L hb => (R0.dom b L hb).1) E1 E, R', put_rel (T1.mono E.mono) _ hv⟩
/-- From one step to the next. -/
theorem Tr.next (hcall : CallOK P call) (X : Tr P call ops bs 0 tT tH sk vl) {B0 : Nat} {w0 : World} {m : Mp} {a : Act} {w : World} (R0 : Rel P B0 w0 m (tH 0) w) (hT : LRel m (tT 0) a.tmps.toList) {j : Nat} (hj : j < ops.size) :
    (tH j).length ≤ (tH (j + 1)).length ∧ ∀ b k', b < (tH j).length → blk (tH (j + 1)) b = some k' → ∃ k, blk (tH j) b = some k ∧ k.kind = k'.kind := by
  obtain ⟨m1, a1, w1, E1, R1, T1⟩ := X.walk hcall R0 hT j (by omega)
  have ho : ops[j]? = some ops[j] := Array.getElem?_eq_getElem (by omega)
  cases hs : sk j with
  | true =>
    obtain ⟨_, _, h3⟩ := X.skip j _ (Nat.zero_le _) ho hs
    rw [h3]
    exact ⟨Nat.le_refl _, fun b k' _ hk => ⟨k', hk, rfl⟩⟩
  | false =>
    have h1 := res_sound hcall (X.res ho hs) R1 T1
    exact wp_const (h1 (fun _ _ => _) (fun _ _ _ => _) fun m' v' w' E R' hv => ⟨E.len, E.alive⟩)
theorem Tr.bel (hcall : CallOK P call) (X : Tr P call ops bs 0 tT tH sk vl) {B0 : Nat} {w0 : World} {m : Mp} {a : Act} {w : World} (R0 : Rel P B0 w0 m (tH 0) w) (hT : LRel m (tT 0) a.tmps.toList) {j : Nat} (hj : j ≤ ops.size) (s : Nat) (x : Value) (hx : (tT j)[s]? = some x) :
    Bel (tH j).length x := by
  obtain ⟨m1, a1, w1, E1, R1, T1⟩ := X.walk hcall R0 hT j hj
  exact Bel.list T1 (fun b L hb => (R1.dom b L hb).1) s x hx
theorem Tr.lens (hcall : CallOK P call) (X : Tr P call ops bs 0 tT tH sk vl) {B0 : Nat} {w0 : World} {m : Mp} {a : Act} {w : World} (R0 : Rel P B0 w0 m (tH 0) w) (hT : LRel m (tT 0) a.tmps.toList) (i : Nat) : ∀ d, i + d ≤ ops.size → (tH i).length ≤ (tH (i + d)).length ∧ ∀ b k', b < (tH i).length → blk (tH (i + d)) b = some k' → ∃ k, blk (tH i) b = some k ∧ k.kind = k'.kind
  | 0, _ => ⟨Nat.le_refl _, fun b k' _ hk => ⟨k', hk, rfl⟩⟩
  | d + 1, hd => by
    obtain ⟨h1, h2⟩ := Tr.lens hcall X R0 hT i d (by omega)
    obtain ⟨h3, h4⟩ := X.next hcall R0 hT (j := i + d) (by omega)
    refine ⟨Nat.le_trans h1 h3, fun b k' hb hk => ?_⟩
    obtain ⟨k1, h5, h6⟩ := h4 b k' (Nat.lt_of_lt_of_le hb h1) hk
    obtain ⟨k2, h7, h8⟩ := h2 b k1 hb h5
    exact ⟨k2, h7, h8.trans h6⟩
/-- An acting operation that is done. -/
def eE (ops : Array Oper) (sk : Nat → Bool) (j : Nat) : Bool := (ops[j]?).any (fun o => isEff o.op) && !sk j
/-- An operation that doesn't act leaves the blocks that there are; if it makes one, it is told which. -/
theorem Tr.noeff (X : Tr P call ops bs 0 tT tH sk vl) {j : Nat} (hj : j < ops.size) (he : eE ops sk j = false) : (tH (j + 1) = tH j) ∨ ∃ k : Blk, tH (j + 1) = tH j ++ [some k] := by
  have ho : ops[j]? = some ops[j] := Array.getElem?_eq_getElem (by omega)
  cases hs : sk j with
  | true => exact .inl (X.skip j _ (Nat.zero_le _) ho hs).2.2
  | false =>
    have heff : isEff ops[j].op = false := by simpa [eE, ho, hs] using he
    cases hf : opRead P (opv (tT j)) ops[j].op with
    | some f => exact .inl (X.read j _ f (Nat.zero_le _) ho hs hf).2
    | none =>
      have h1 := X.other j _ (Nat.zero_le _) ho hs hf
      cases ha : isAlloc ops[j].op with
      | true => obtain ⟨k, h2, h3, _⟩ := alloc_res ha h1; exact .inr ⟨k, h3⟩
      | false => exact .inl (pure_res heff hf ha h1).1
theorem blk_app_old {H : AH} {b : Nat} (k : Option Blk) (h : b < H.length) : blk (H ++ [k]) b = blk H b := by
  unfold blk
  rw [List.getElem?_append_left h]
theorem Tr.same (X : Tr P call ops bs 0 tT tH sk vl) (i : Nat) : ∀ d, i + d ≤ ops.size → (∀ e, i ≤ e → e < i + d → eE ops sk e = false) → (tH i).length ≤ (tH (i + d)).length ∧ ∀ b, b < (tH i).length → blk (tH (i + d)) b = blk (tH i) b
  | 0, _, _ => ⟨Nat.le_refl _, fun b _ => rfl⟩
  | d + 1, hd, he => by
    obtain ⟨h1, h2⟩ := Tr.same X i d (by omega) fun e h1 h2 => he e h1 (by omega)
    rcases X.noeff (j := i + d) (by omega) (he (i + d) (by omega) (by omega)) with h3 | ⟨k, h3⟩
    · rw [show i + (d + 1) = i + d + 1 by omega, h3]; exact ⟨h1, h2⟩
    · rw [show i + (d + 1) = i + d + 1 by omega, h3]
      exact ⟨by simp; omega, fun b hb => by rw [blk_app_old _ (Nat.lt_of_lt_of_le hb h1)]; exact h2 b hb⟩
end
end
end Go.AM
set_option linter.unusedVariables false
set_option linter.unusedSimpArgs false
namespace Go.AM
open Go.RowKit

theorem BRel.world {P : Program} {B0 : Nat} {m : Mp} {L : Loc} {k : Blk} {w w1 : World} (h : BRel P B0 m L k w) (e : w1.heap[L.blk]? = w.heap[L.blk]?) : BRel P B0 m L k w1 := by
  exact h.at (fun _ _ h => h) e
theorem BRel.mono {P : Program} {B0 : Nat} {m m' : Mp} {L : Loc} {k : Blk} {w : World} (hm : ∀ b L, m b = some L → m' b = some L) (h : BRel P B0 m L k w) : BRel P B0 m' L k w := by
  exact h.at hm rfl
section
variable (tH : Nat → AH) (n : Nat)
open Classical in
/-- A block's content where it is made. -/
noncomputable def ini (b : Nat) : Option Blk := if h : ∃ j, j < n ∧ (tH j).length ≤ b ∧ b < (tH (j + 1)).length then blk (tH (Classical.choose h + 1)) b else none
noncomputable def kb (q b : Nat) : Option Blk := if b < (tH q).length then blk (tH q) b else ini tH n b
variable {tH n}
theorem ini_eq (hmono : ∀ i d, i + d ≤ n → (tH i).length ≤ (tH (i + d)).length) {j b : Nat} (hj : j < n) (h1 : (tH j).length ≤ b) (h2 : b < (tH (j + 1)).length) : ini tH n b = blk (tH (j + 1)) b := by
  have h : ∃ j, j < n ∧ (tH j).length ≤ b ∧ b < (tH (j + 1)).length := ⟨j, hj, h1, h2⟩
  unfold ini
  rw [dif_pos h]
  obtain ⟨g1, g2, g3⟩ := Classical.choose_spec h
  have : Classical.choose h = j := by
    rcases Nat.lt_trichotomy (Classical.choose h) j with hlt | heq | hgt
    · have := hmono (Classical.choose h + 1) (j - (Classical.choose h + 1)) (by omega)
      rw [show Classical.choose h + 1 + (j - (Classical.choose h + 1)) = j by omega] at this
      omega
    · exact heq
    · have := hmono (j + 1) (Classical.choose h - (j + 1)) (by omega)
      rw [show j + 1 + (Classical.choose h - (j + 1)) = Classical.choose h by omega] at this
      omega
  rw [this]
end
structure VR (P : Program) (B0 : Nat) (w0 : World) (tH : Nat → AH) (n q : Nat) (m : Mp) (w : World) : Prop where
  below : Below B0 w0 w
  hB : B0 ≤ w.heap.size
  dom : ∀ b L, m b = some L → b < (tH n).length ∧ L.blk < w.heap.size
  blks : ∀ b L k, m b = some L → kb tH n q b = some k → BRel P B0 (cutM m (max (tH q).length (b + 1))) L k w
  inj : ∀ b1 b2 L1 L2 k1 k2, m b1 = some L1 → m b2 = some L2 → kb tH n q b1 = some k1 → kb tH n q b2 = some k2 → k1.kind ≠ .ro → b1 ≠ b2 → L1.blk ≠ L2.blk
section
variable {P : Program} {B0 : Nat} {w0 : World} {tH : Nat → AH} {n q : Nat} {m : Mp} {w : World}
theorem kb_lt {b : Nat} (h : b < (tH q).length) : kb tH n q b = blk (tH q) b := if_pos h
theorem kb_ge {b : Nat} (h : (tH q).length ≤ b) : kb tH n q b = ini tH n b := if_neg (by omega)
theorem VR.rel (h : VR P B0 w0 tH n q m w) : Rel P B0 w0 (cutM m (tH q).length) (tH q) w := by
  refine ⟨h.below, h.hB, fun b L hm => ?_, fun b L k hm hk => ?_, fun b1 b2 L1 L2 k1 k2 hm1 hm2 hk1 hk2 hne hbb => ?_⟩
  · obtain ⟨h1, h2⟩ := cutM_some hm
    exact ⟨h1, (h.dom b L h2).2⟩
  · obtain ⟨h1, h2⟩ := cutM_some hm
    have := h.blks b L k h2 (by rw [kb_lt h1]; exact hk)
    rwa [Nat.max_eq_left (by omega)] at this
  · obtain ⟨h1, h2⟩ := cutM_some hm1
    obtain ⟨h3, h4⟩ := cutM_some hm2
    exact h.inj b1 b2 L1 L2 k1 k2 h2 h4 (by rw [kb_lt h1]; exact hk1) (by rw [kb_lt h3]; exact hk2) hne hbb
def padH (tH : Nat → AH) (n q : Nat) : AH := tH q ++ List.replicate ((tH n).length - (tH q).length) none
theorem blk_pad {b : Nat} {k : Blk} (h : blk (padH tH n q) b = some k) : b < (tH q).length ∧ blk (tH q) b = some k := by
  unfold padH at h
  rcases Nat.lt_or_ge b (tH q).length with h1 | h1
  · refine ⟨h1, ?_⟩
    unfold blk at h ⊢
    rwa [List.getElem?_append_left h1] at h
  · unfold blk at h
    rw [List.getElem?_append_right h1] at h
    rw [List.getElem?_replicate] at h
    split at h <;> cases h
theorem VR.pad (h : VR P B0 w0 tH n q m w) (hl : (tH q).length ≤ (tH n).length) : Rel P B0 w0 m (padH tH n q) w := by
  refine ⟨h.below, h.hB, fun b L hm => ?_, fun b L k hm hk => ?_, fun b1 b2 L1 L2 k1 k2 hm1 hm2 hk1 hk2 hne hbb => ?_⟩
  · have := h.dom b L hm
    refine ⟨?_, this.2⟩
    unfold padH
    rw [List.length_append, List.length_replicate]
    omega
  · obtain ⟨h1, h2⟩ := blk_pad hk
    exact (h.blks b L k hm (by rw [kb_lt h1]; exact h2)).mono fun b L hb => (cutM_some hb).2
  · obtain ⟨h1, h2⟩ := blk_pad hk1
    obtain ⟨h3, h4⟩ := blk_pad hk2
    exact h.inj b1 b2 L1 L2 k1 k2 hm1 hm2 (by rw [kb_lt h1]; exact h2) (by rw [kb_lt h3]; exact h4) hne hbb
theorem blk_dead (l b : Nat) : blk (List.replicate l none) b = none := by
  unfold blk
  rw [List.getElem?_replicate]
  split <;> rfl
theorem VR.dead (h : VR P B0 w0 tH n q m w) (l : Nat) : Rel P B0 w0 (cutM m l) (List.replicate l none) w := by
  refine ⟨h.below, h.hB, fun b L hm => ?_, fun b L k hm hk => (by rw [blk_dead] at hk; cases hk), fun b1 b2 L1 L2 k1 k2 hm1 hm2 hk1 hk2 hne hbb => (by rw [blk_dead] at hk1; cases hk1)⟩
  obtain ⟨h1, h2⟩ := cutM_some hm
  exact ⟨by rw [List.length_replicate]; exact h1, (h.dom b L h2).2⟩
/-- The world has moved on, its blocks are as they were. -/
theorem VR.still (h : VR P B0 w0 tH n q m w) {w1 : World} (hb : Below B0 w0 w1) (hs : w.heap.size ≤ w1.heap.size) (hw : ∀ B, B < w.heap.size → w1.heap[B]? = w.heap[B]?) : VR P B0 w0 tH n q m w1 :=
  ⟨hb, Nat.le_trans h.hB hs, fun b L hm => ⟨(h.dom b L hm).1, Nat.lt_of_lt_of_le (h.dom b L hm).2 hs⟩, fun b L k hm hk => (h.blks b L k hm hk).world (hw _ (h.dom b L hm).2), h.inj⟩
/-- A block more. -/
theorem VR.alloc (h : VR P B0 w0 tH n q m w) {w1 : World} (hb : Below B0 w0 w1) (hs : w.heap.size ≤ w1.heap.size) (hw : ∀ B, B < w.heap.size → w1.heap[B]? = w.heap[B]?) {l : Nat} {L : Loc} {k : Blk} (hl : l < (tH n).length) (hm : m l = none) (hk : kb tH n q l = some k)
    (hL : w.heap.size ≤ L.blk) (hL1 : L.blk < w1.heap.size) (hB : BRel P B0 (cutM (upd m l L) (l + 1)) L k w1) : VR P B0 w0 tH n q (upd m l L) w1 := by
  have hmono : ∀ b L', m b = some L' → upd m l L b = some L' := fun b L' h1 => by
    unfold upd
    split
    · rename_i he; subst he; rw [hm] at h1; cases h1
    · exact h1
  have old : ∀ b2 L2, upd m l L b2 = some L2 → (b2 = l ∧ L2 = L) ∨ (b2 ≠ l ∧ m b2 = some L2) := by
    intro b2 L2 h2
    unfold upd at h2
    split at h2
    · rename_i hb; cases h2; exact .inl ⟨hb, rfl⟩
    · rename_i hb; exact .inr ⟨hb, h2⟩
  have h1 := h.still hb hs hw
  refine ⟨hb, h1.hB, fun b L' hb' => ?_, fun b L' k' hb' hk' => ?_, fun b1 b2 L1 L2 k1 k2 hm1 hm2 hk1 hk2 hne hbb => ?_⟩
  · rcases old b L' hb' with ⟨rfl, rfl⟩ | ⟨_, h2⟩
    · exact ⟨hl, hL1⟩
    · exact h1.dom b L' h2
  · rcases old b L' hb' with ⟨rfl, rfl⟩ | ⟨_, h2⟩
    · rw [hk] at hk'
      cases hk'
      exact hB.mono fun b' L'' h3 => by obtain ⟨h4, h5⟩ := cutM_some h3; exact cutM_of (by omega) h5
    · exact (h1.blks b L' k' h2 hk').mono fun b' L'' h3 => by obtain ⟨h4, h5⟩ := cutM_some h3; exact cutM_of h4 (hmono _ _ h5)
  · rcases old b1 L1 hm1 with ⟨rfl, rfl⟩ | ⟨_, h2⟩
    · rcases old b2 L2 hm2 with ⟨rfl, rfl⟩ | ⟨_, h3⟩
      · exact (hbb rfl).elim
      · have := (h.dom b2 L2 h3).2; omega
    · rcases old b2 L2 hm2 with ⟨rfl, rfl⟩ | ⟨_, h3⟩
      · have := (h.dom b1 L1 h2).2; omega
      · exact h.inj b1 b2 L1 L2 k1 k2 h2 h3 hk1 hk2 hne hbb
/-- What acts is done. -/
def mrg (m1 m : Mp) (l1 : Nat) : Mp := fun b => if b < l1 then m1 b else m b
theorem VR.eff (h : VR P B0 w0 tH n q m w) {q' : Nat} {m1 : Mp} {w1 : World} (hq : q < q') (hq' : q' ≤ n) (hlen : (tH q).length ≤ (tH (q + 1)).length) (hsame : (tH (q + 1)).length ≤ (tH q').length ∧ ∀ b, b < (tH (q + 1)).length → blk (tH q') b = blk (tH (q + 1)) b)
    (hini : ∀ b, (tH (q + 1)).length ≤ b → b < (tH q').length → blk (tH q') b = ini tH n b) (hle : (tH q').length ≤ (tH n).length)
    (R1 : Rel P B0 w0 m1 (tH (q + 1)) w1) (E : Ext (cutM m (tH q).length) (tH q) w m1 (tH (q + 1)) w1) (hnew : ∀ b, (tH q).length ≤ b → b < (tH (q + 1)).length → m b = none) :
    VR P B0 w0 tH n q' (mrg m1 m (tH (q + 1)).length) w1 ∧ (∀ b L, m b = some L → mrg m1 m (tH (q + 1)).length b = some L) := by
  have hmono : ∀ b L, m b = some L → mrg m1 m (tH (q + 1)).length b = some L := by
    intro b L hb
    unfold mrg
    split
    · rename_i hlt
      rcases Nat.lt_or_ge b (tH q).length with h1 | h1
      · exact E.mono b L (cutM_of h1 hb)
      · rw [hnew b h1 hlt] at hb; cases hb
    · exact hb
  have hmono1 : ∀ b L, m1 b = some L → mrg m1 m (tH (q + 1)).length b = some L := by
    intro b L hb
    unfold mrg
    rw [if_pos (R1.dom b L hb).1]
    exact hb
  have old : ∀ b L, mrg m1 m (tH (q + 1)).length b = some L → (b < (tH (q + 1)).length ∧ m1 b = some L) ∨ ((tH (q + 1)).length ≤ b ∧ m b = some L) := by
    intro b L hb
    unfold mrg at hb
    split at hb
    · rename_i h1; exact .inl ⟨h1, hb⟩
    · rename_i h1; exact .inr ⟨by omega, hb⟩
  -- what lies beyond is as it was
  have kbeyond : ∀ b, (tH (q + 1)).length ≤ b → kb tH n q' b = kb tH n q b := by
    intro b hb
    rw [kb_ge (q := q) (by omega)]
    rcases Nat.lt_or_ge b (tH q').length with h1 | h1
    · rw [kb_lt h1]; exact hini b hb h1
    · exact kb_ge h1
  have wbeyond : ∀ b L k, (tH (q + 1)).length ≤ b → m b = some L → kb tH n q b = some k → w1.heap[L.blk]? = w.heap[L.blk]? := by
    intro b L k hb hm hk
    refine E.frame _ (h.dom b L hm).2 fun b2 L2 k2 hm2 hk2 hne => ?_
    obtain ⟨h1, h2⟩ := cutM_some hm2
    exact h.inj b2 b L2 L k2 k h2 hm (by rw [kb_lt h1]; exact hk2) hk hne (by omega)
  -- where a block of the lesser heap may lie
  have place : ∀ b L k, m1 b = some L → blk (tH (q + 1)) b = some k → ∀ b2 L2 k2, (tH (q + 1)).length ≤ b2 → m b2 = some L2 → kb tH n q b2 = some k2 → (k.kind ≠ .ro ∨ k2.kind ≠ .ro) → L.blk ≠ L2.blk := by
    intro b L k hm hk b2 L2 k2 hb2 hm2 hk2 hor
    rcases E.new b L hm with h1 | ⟨h1, h3 | ⟨b0, L0, k0, h3, h4, h5, h6⟩⟩
    · obtain ⟨h3, h4⟩ := cutM_some h1
      obtain ⟨k', h5, h6⟩ := E.alive b k h3 hk
      rcases hor with hor | hor
      · exact h.inj b b2 L L2 k' k2 h4 hm2 (by rw [kb_lt h3]; exact h5) hk2 (by rw [h6]; exact hor) (by omega)
      · exact Ne.symm (h.inj b2 b L2 L k2 k' hm2 h4 hk2 (by rw [kb_lt h3]; exact h5) hor (by omega))
    · have := (h.dom b2 L2 hm2).2; omega
    · obtain ⟨h7, h8⟩ := cutM_some h3
      rw [← h6]
      exact h.inj b0 b2 L0 L2 k0 k2 h8 hm2 (by rw [kb_lt h7]; exact h4) hk2 h5 (by omega)
  refine ⟨⟨R1.below, R1.hB, fun b L hb => ?_, fun b L k hb hk => ?_, fun b1 b2 L1 L2 k1 k2 hm1 hm2 hk1 hk2 hne hbb => ?_⟩, hmono⟩
  · rcases old b L hb with ⟨h1, h2⟩ | ⟨h1, h2⟩
    · exact ⟨by omega, (R1.dom b L h2).2⟩
    · exact ⟨(h.dom b L h2).1, Nat.lt_of_lt_of_le (h.dom b L h2).2 E.size⟩
  · rcases old b L hb with ⟨h1, h2⟩ | ⟨h1, h2⟩
    · rw [kb_lt (by omega), hsame.2 b h1] at hk
      exact (R1.blks b L k h2 hk).mono fun b' L' h3 => cutM_of (by have := (R1.dom b' L' h3).1; omega) (hmono1 b' L' h3)
    · rw [kbeyond b h1] at hk
      refine ((h.blks b L k h2 hk).world (wbeyond b L k h1 h2 hk)).mono fun b' L' h3 => ?_
      obtain ⟨h4, h5⟩ := cutM_some h3
      exact cutM_of (by omega) (hmono b' L' h5)
  · rcases old b1 L1 hm1 with ⟨h1, h2⟩ | ⟨h1, h2⟩
    · rw [kb_lt (by omega), hsame.2 b1 h1] at hk1
      rcases old b2 L2 hm2 with ⟨h3, h4⟩ | ⟨h3, h4⟩
      · rw [kb_lt (by omega), hsame.2 b2 h3] at hk2
        exact R1.inj b1 b2 L1 L2 k1 k2 h2 h4 hk1 hk2 hne hbb
      · rw [kbeyond b2 h3] at hk2
        exact place b1 L1 k1 h2 hk1 b2 L2 k2 h3 h4 hk2 (.inl hne)
    · rw [kbeyond b1 h1] at hk1
      rcases old b2 L2 hm2 with ⟨h3, h4⟩ | ⟨h3, h4⟩
      · rw [kb_lt (by omega), hsame.2 b2 h3] at hk2
        exact Ne.symm (place b2 L2 k2 h4 hk2 b1 L1 k1 h1 h2 hk1 (.inr hne))
      · rw [kbeyond b2 h3] at hk2
        exact h.inj b1 b2 L1 L2 k1 k2 h2 h4 hk1 hk2 hne hbb
end
end Go.AM
set_option linter.unusedVariables false
set_option linter.unusedSimpArgs false
namespace Go.AM
open Go.RowKit

section
variable {P : Program} {call : CallF} {ops : Array Oper}
def dstAt (ops : Array Oper) (i : Nat) : Option Tmp := (ops[i]?).bind (·.dst)
def sv (ops : Array Oper) (vl : Nat → Value) (T0 : List Value) (D : Nat → Bool) : Nat → Nat → Value
  | 0, s => T0.getD s undef
  | i + 1, s => if D i = true ∧ dstAt ops i = some s then vl i else sv ops vl T0 D i s
def svL (ops : Array Oper) (vl : Nat → Value) (T0 : List Value) (D : Nat → Bool) : List Value := (List.range T0.length).map (sv ops vl T0 D ops.size)
variable {vl : Nat → Value} {T0 : List Value}
theorem svL_length (D : Nat → Bool) : (svL ops vl T0 D).length = T0.length := by simp [svL]
theorem svL_getD (D : Nat → Bool) {s : Nat} (hs : s < T0.length) : (svL ops vl T0 D).getD s undef = sv ops vl T0 D ops.size s := by
  unfold svL
  rw [List.getD_eq_getElem?_getD, List.getElem?_map, List.getElem?_range hs]
  rfl
theorem sv_congr {D D' : Nat → Bool} {s : Nat} : ∀ i, (∀ j, j < i → dstAt ops j = some s → D j = D' j) → sv ops vl T0 D i s = sv ops vl T0 D' i s
  | 0, _ => rfl
  | i + 1, h => by
    have ih := sv_congr (D := D) (D' := D') i fun j hj => h j (by omega)
    unfold sv
    rw [ih]
    by_cases hd : dstAt ops i = some s
    · rw [h i (by omega) hd]
    · rw [if_neg (fun hh => hd hh.2), if_neg (fun hh => hd hh.2)]
theorem sv_cut {D : Nat → Bool} {s i : Nat} : ∀ d, (∀ j, i ≤ j → j < i + d → dstAt ops j = some s → D j = false) → sv ops vl T0 D (i + d) s = sv ops vl T0 D i s
  | 0, _ => rfl
  | d + 1, h => by
    have ih := sv_cut (D := D) (s := s) (i := i) d fun j h1 h2 => h j h1 (by omega)
    have e : sv ops vl T0 D (i + (d + 1)) s = if D (i + d) = true ∧ dstAt ops (i + d) = some s then vl (i + d) else sv ops vl T0 D (i + d) s := rfl
    rw [e, if_neg]
    · exact ih
    · intro hh
      have := h (i + d) (by omega) (by omega) hh.2
      rw [hh.1] at this
      cases this
theorem tT_sv {tT : Nat → List Value} (h0 : tT 0 = T0) (hstep : ∀ j o, ops[j]? = some o → tT (j + 1) = putT (tT j) o.dst (vl j)) : ∀ j, j ≤ ops.size → (tT j).length = T0.length ∧ ∀ s, s < T0.length → (tT j).getD s undef = sv ops vl T0 (fun _ => true) j s
  | 0, _ => by rw [h0]; exact ⟨rfl, fun s _ => rfl⟩
  | j + 1, hj => by
    obtain ⟨h1, h2⟩ := tT_sv h0 hstep j (by omega)
    have ho : ops[j]? = some ops[j] := Array.getElem?_eq_getElem (by omega)
    rw [hstep j _ ho]
    have hd : dstAt ops j = ops[j].dst := by simp [dstAt, ho]
    cases hdst : ops[j].dst with
    | none =>
      refine ⟨h1, fun s hs => ?_⟩
      unfold sv
      rw [if_neg (by rw [hd, hdst]; simp)]
      exact h2 s hs
    | some d =>
      refine ⟨by simp [putT, h1], fun s hs => ?_⟩
      unfold sv
      rw [hd, hdst]
      by_cases he : d = s
      · subst he
        rw [if_pos ⟨rfl, rfl⟩]
        simp only [putT]
        rw [List.getD_eq_getElem?_getD, List.getElem?_set_self (by omega)]
        rfl
      · rw [if_neg (by simp [he])]
        simp only [putT]
        rw [List.getD_eq_getElem?_getD, List.getElem?_set_ne he, ← List.getD_eq_getElem?_getD]
        exact h2 s hs
/-- What the region's own test says of two operations. -/
theorem regOK_pair (hreg : regOK ops = true) {i j : Nat} (hij : i < j) {oi oj : Oper} (hi : ops[i]? = some oi) (hj : ops[j]? = some oj) : ordB (befL [] ops.toList) i j = true ∨ ((isEff oi.op = true → isEff oj.op = true → False) ∧ oi.apart ops oj = true ∧ oj.apart ops oi = true) := by
  unfold regOK at hreg
  rw [Bool.and_eq_true] at hreg
  have h1 := List.all_eq_true.1 hreg.2 j (List.mem_range.2 (Array.getElem?_eq_some_iff.1 hj).1)
  have h2 := List.all_eq_true.1 h1 i (List.mem_range.2 hij)
  rw [Bool.or_eq_true] at h2
  rcases h2 with h2 | h2
  · exact .inl h2
  · right
    simp only [hi, hj, Option.any_some, Bool.and_eq_true, Bool.not_eq_true', Bool.and_eq_false_iff] at h2
    refine ⟨fun h3 h4 => ?_, h2.1.2, h2.2⟩
    rcases h2.1.1 with h5 | h5
    · rw [h3] at h5; cases h5
    · rw [h4] at h5; cases h5
theorem regOK_edge (hreg : regOK ops = true) {j : Nat} {o : Oper} (ho : ops[j]? = some o) {e : Edge} (he : e ∈ o.after) (hb : Region.binds .any e = true) : e.on < j := by
  unfold regOK at hreg
  rw [Bool.and_eq_true] at hreg
  have h1 := List.all_eq_true.1 hreg.1 j (List.mem_range.2 (Array.getElem?_eq_some_iff.1 ho).1)
  simp only [ho, Option.any_some] at h1
  have h2 := Array.all_eq_true'.1 h1 e he
  simpa [hb] using h2
/-- The operation is ready: what it comes behind is done, it is not. -/
structure Ready (ops : Array Oper) (D : Nat → Bool) (j : Nat) (o : Oper) : Prop where
  op : ops[j]? = some o
  down : Down ops (fun i => D i = true)
  edges : ∀ e ∈ o.after, Region.binds .any e = true → D e.on = true
  not : D j = false
variable {D : Nat → Bool} {j : Nat} {o : Oper}
theorem Ready.before (h : Ready ops D j o) {i : Nat} (ho : ordB (befL [] ops.toList) i j = true) : D i = true := ordB_down h.down j o h.op h.edges i ho
theorem Ready.behind (h : Ready ops D j o) {i : Nat} {oi : Oper} (hi : ops[i]? = some oi) (ho : ordB (befL [] ops.toList) j i = true) : D i = false := by
  cases hD : D i with
  | false => rfl
  | true =>
    have := ordB_down h.down i oi hi (fun e he hb => h.down i oi hi hD e he hb) j ho
    have h2 := h.not
    rw [this] at h2
    cases h2
theorem Ready.slots (hreg : regOK ops = true) (h : Ready ops D j o) {s : Tmp} (hs : s ∈ o.looksAt ops) : sv ops vl T0 D ops.size s = sv ops vl T0 (fun _ => true) j s := by
  have hj : j < ops.size := (Array.getElem?_eq_some_iff.1 h.op).1
  have e1 : sv ops vl T0 D ops.size s = sv ops vl T0 D j s := by
    have := sv_cut (ops := ops) (vl := vl) (T0 := T0) (D := D) (s := s) (i := j) (ops.size - j) fun i h1 h2 hd => ?_
    · rwa [show j + (ops.size - j) = ops.size by omega] at this
    · by_cases hij : i = j
      · subst hij; exact h.not
      · have hi : ops[i]? = some ops[i] := Array.getElem?_eq_getElem (by omega)
        rcases regOK_pair hreg (show j < i by omega) h.op hi with h3 | ⟨_, h3, _⟩
        · exact h.behind hi h3
        · obtain ⟨_, _, h5⟩ := Oper.apart_spec h3
          exact absurd hs (h5 s (by simpa [dstAt, hi] using hd))
  rw [e1]
  refine sv_congr j fun i hij hd => ?_
  have hi : ops[i]? = some ops[i] := Array.getElem?_eq_getElem (by omega)
  rcases regOK_pair hreg hij hi h.op with h3 | ⟨_, h3, _⟩
  · exact h.before h3
  · obtain ⟨h4, _, _⟩ := Oper.apart_spec h3
    exact absurd hs (h4 s (by simpa [dstAt, hi] using hd))
theorem Ready.put (hreg : regOK ops = true) (h : Ready ops D j o) : svL ops vl T0 (fun i => if i = j then true else D i) = putT (svL ops vl T0 D) o.dst (vl j) := by
  have hj : j < ops.size := (Array.getElem?_eq_some_iff.1 h.op).1
  have hdj : dstAt ops j = o.dst := by simp [dstAt, h.op]
  apply List.ext_getElem?
  intro s
  rcases Nat.lt_or_ge s T0.length with hs | hs
  · have hl : (svL ops vl T0 (fun i => if i = j then true else D i))[s]? = some (sv ops vl T0 (fun i => if i = j then true else D i) ops.size s) := by
      unfold svL; rw [List.getElem?_map, List.getElem?_range hs]; rfl
    have hl2 : (svL ops vl T0 D)[s]? = some (sv ops vl T0 D ops.size s) := by
      unfold svL; rw [List.getElem?_map, List.getElem?_range hs]; rfl
    rw [hl]
    by_cases hd : o.dst = some s
    · rw [hd]
      simp only [putT]
      rw [List.getElem?_set_self (by rw [svL_length]; exact hs)]
      congr 1
      have := sv_cut (ops := ops) (vl := vl) (T0 := T0) (D := fun i => if i = j then true else D i) (s := s) (i := j + 1) (ops.size - (j + 1)) fun i h1 h2 hdi => ?_
      · rw [show j + 1 + (ops.size - (j + 1)) = ops.size by omega] at this
        rw [this]
        unfold sv
        rw [if_pos ⟨by simp, by rw [hdj]; exact hd⟩]
      · simp only [if_neg (show i ≠ j by omega)]
        have hi : ops[i]? = some ops[i] := Array.getElem?_eq_getElem (by omega)
        rcases regOK_pair hreg (show j < i by omega) h.op hi with h3 | ⟨_, h3, _⟩
        · exact h.behind hi h3
        · obtain ⟨_, h5, _⟩ := Oper.apart_spec h3
          exact absurd (show ops[i].dst = some s by simpa [dstAt, hi] using hdi) (h5 s hd)
    · have e1 : sv ops vl T0 (fun i => if i = j then true else D i) ops.size s = sv ops vl T0 D ops.size s := sv_congr _ fun i hi hdi => by
        have : i ≠ j := fun he => hd (by rw [← hdj, ← he]; exact hdi)
        simp only [if_neg this]
      rw [e1]
      cases hdst : o.dst with
      | none => exact hl2.symm
      | some d =>
        simp only [putT]
        rw [List.getElem?_set_ne (fun he => hd (by rw [hdst, he]))]
        exact hl2.symm
  · have hl : (svL ops vl T0 (fun i => if i = j then true else D i))[s]? = none := List.getElem?_eq_none (by rw [svL_length]; exact hs)
    rw [hl]
    cases o.dst with
    | none => exact (List.getElem?_eq_none (by simp only [putT]; rw [svL_length]; exact hs)).symm
    | some d => exact (List.getElem?_eq_none (by simp only [putT, List.length_set]; rw [svL_length]; exact hs)).symm
theorem opv_slots {T T' : List Value} (hl : T.length = T'.length) {o : Oper} (h : ∀ s ∈ o.looksAt ops, s < T.length → T.getD s undef = T'.getD s undef) : (∀ x ∈ o.op.operands, opv T x = opv T' x) ∧ ∀ g want, o.guard = some (g, want) → yieldV ops T g = yieldV ops T' g := by
  have one : ∀ s ∈ o.looksAt ops, T.getD s undef = T'.getD s undef := by
    intro s hs
    rcases Nat.lt_or_ge s T.length with h1 | h1
    · exact h s hs h1
    · rw [List.getD_eq_getElem?_getD, List.getD_eq_getElem?_getD, List.getElem?_eq_none h1, List.getElem?_eq_none (by omega)]
  refine ⟨fun x hx => ?_, fun g want hg => ?_⟩
  · cases x with
    | tmp s => exact one s (List.mem_append_left _ (List.mem_filterMap.2 ⟨.tmp s, by simpa using hx, rfl⟩))
    | _ => rfl
  · unfold yieldV
    cases hd : (ops[g]?).bind (·.dst) with
    | none => rfl
    | some s => exact one s (by simp [Oper.looksAt, hg, hd])
end
end Go.AM
set_option linter.unusedVariables false
set_option linter.unusedSimpArgs false
namespace Go.AM
open Go.RowKit

section
variable {P : Program} {call : CallF} {ops : Array Oper} {tT : Nat → List Value} {tH : Nat → AH} {sk : Nat → Bool} {vl : Nat → Value}

theorem read_sound {B0 : Nat} {w0 : World} {m : Mp} {X : AH} {w : World} (R0 : Rel P B0 w0 m X w) {T : List Value} {a : Act} (hT : LRel m T a.tmps.toList) {o : Oper} {f : AH → Option Value} (hf : opRead P (opv T) o.op = some f) {v : Value} (h : f X = some v) :
    ∃ v', (execOp a.eval o).run P w = .ok (.value v') w ∧ VRel m v v' := by
  obtain ⟨dst, op, ty, ps, af, g⟩ := o
  unfold opRead at hf
  split at hf
  · rename_i t x hop
    simp only at hop
    subst hop
    cases hf
    obtain ⟨v', q1, q2⟩ := ld_sound R0 (opv_rel hT x) h
    exact ⟨v', by simp [execOp, q1], q2⟩
  · rename_i s d x hop
    simp only at hop
    subst hop
    cases hb : isBytesToString P s d with
    | true =>
      rw [hb] at hf
      cases hf
      obtain ⟨v', q1, q2⟩ := cvS_sound R0 (opv_rel hT x) h
      exact ⟨v', by simp [execOp, q1], q2⟩
    | false => rw [hb] at hf; cases hf
  · rename_i t mm k two hop
    simp only at hop
    subst hop
    cases hf
    obtain ⟨v', q1, q2⟩ := lkU_sound R0 (opv_rel hT mm) (opv_rel hT k) h
    exact ⟨v', by simp [execOp, q1], q2⟩
  · rename_i args ts hop
    simp only at hop
    subst hop
    split at hf
    · rename_i t x ht ha
      have e1 : ts = #[t] := by apply Array.ext'; simpa using ht
      have e2 : args = #[x] := by apply Array.ext'; simpa using ha
      subst e1 e2
      cases hb : isMapT P t with
      | true =>
        rw [hb] at hf
        cases hf
        obtain ⟨q1, q2⟩ := lenM_sound (P := P) (ty := ty) R0 (opv_rel hT x) h
        exact ⟨v, by simp [execOp, resolve, invoke, builtin, q1], .flat _ q2⟩
      | false => rw [hb] at hf; cases hf
    · cases hf
  · cases hf
theorem nextE (s : Nat) : ∀ d, s + d = ops.size → ∃ q, s ≤ q ∧ q ≤ ops.size ∧ (∀ e, s ≤ e → e < q → eE ops sk e = false) ∧ (q < ops.size → eE ops sk q = true)
  | 0, h => ⟨s, Nat.le_refl _, by omega, fun e h1 h2 => by omega, fun h1 => by omega⟩
  | d + 1, h => by
    cases he : eE ops sk s with
    | true => exact ⟨s, Nat.le_refl _, by omega, fun e h1 h2 => by omega, fun _ => he⟩
    | false =>
      obtain ⟨q, h1, h2, h3, h4⟩ := nextE (s + 1) d (by omega)
      exact ⟨q, by omega, h2, fun e h5 h6 => by
        by_cases hes : e = s
        · subst hes; exact he
        · exact h3 e (by omega) h6, h4⟩
theorem eE_inv {j : Nat} (h : eE ops sk j = true) : ∃ o, ops[j]? = some o ∧ isEff o.op = true ∧ sk j = false := by
  unfold eE at h
  rw [Bool.and_eq_true] at h
  cases ho : ops[j]? with
  | none => rw [ho] at h; cases h.1
  | some o => rw [ho] at h; exact ⟨o, rfl, by simpa using h.1, by simpa using h.2⟩
theorem crossing (f : Nat → Nat) (i : Nat) (b : Nat) (h0 : f i ≤ b) : ∀ d, b < f (i + d) → ∃ j, i ≤ j ∧ j < i + d ∧ f j ≤ b ∧ b < f (j + 1)
  | 0, h => by simp at h; omega
  | d + 1, h => by
    rcases Nat.lt_or_ge b (f (i + d)) with h1 | h1
    · obtain ⟨j, h2, h3, h4⟩ := crossing f i b h0 d h1
      exact ⟨j, h2, by omega, h4⟩
    · exact ⟨i + d, by omega, by omega, h1, h⟩

structure Inv (P : Program) (ops : Array Oper) (tT : Nat → List Value) (tH : Nat → AH) (sk : Nat → Bool) (vl : Nat → Value) (B0 : Nat) (w0 : World) (m0 : Mp) (wI : World) (ds : List Deferred) (listed : Array Bool) (q : Nat) (m : Mp) (a : Act) (w : World) : Prop where
  lsize : listed.size = ops.size
  down : Down ops (fun i => listed.getD i false = true)
  hq : q ≤ ops.size
  hq1 : q < ops.size → eE ops sk q = true ∧ listed.getD q false = false
  hq2 : ∀ e, e < q → eE ops sk e = true → listed.getD e false = true
  slots : LRel m (svL ops vl (tT 0) (fun i => listed.getD i false)) a.tmps.toList
  defers : a.defers = ds
  vr : VR P B0 w0 tH ops.size q m w
  dm : ∀ b L, m b = some L → b < (tH 0).length ∨ ∃ i, i < ops.size ∧ listed.getD i false = true ∧ (tH i).length ≤ b ∧ b < (tH (i + 1)).length
  mono0 : ∀ b L, m0 b = some L → m b = some L
  size : wI.heap.size ≤ w.heap.size
  new : ∀ b L, m b = some L → m0 b = some L ∨ ((tH 0).length ≤ b ∧ (wI.heap.size ≤ L.blk ∨ ∃ b0 L0 k0, m0 b0 = some L0 ∧ blk (tH 0) b0 = some k0 ∧ k0.kind ≠ .ro ∧ L0.blk = L.blk))
  frame : ∀ B, B < wI.heap.size → (∀ b L k, m0 b = some L → blk (tH 0) b = some k → k.kind ≠ .ro → L.blk ≠ B) → w.heap[B]? = wI.heap[B]?

/-- The lengths and kinds along the text's own order. -/
structure Along (ops : Array Oper) (tT : Nat → List Value) (tH : Nat → AH) (m0 : Mp) : Prop where
  lens : ∀ i d, i + d ≤ ops.size → (tH i).length ≤ (tH (i + d)).length
  alive : ∀ d, d ≤ ops.size → ∀ b k', b < (tH 0).length → blk (tH d) b = some k' → ∃ k, blk (tH 0) b = some k ∧ k.kind = k'.kind
  bel : ∀ (j s : Nat) (x : Value), j ≤ ops.size → (tT j)[s]? = some x → Bel (tH j).length x
  dom0 : ∀ b L, m0 b = some L → b < (tH 0).length
theorem Along.le {m0 : Mp} (A : Along ops tT tH m0) {i j : Nat} (h : i ≤ j) (hj : j ≤ ops.size) : (tH i).length ≤ (tH j).length := by
  have := A.lens i (j - i) (by omega)
  rwa [show i + (j - i) = j by omega] at this
theorem getD_set {listed : Array Bool} {j : Nat} (hj : j < listed.size) (i : Nat) : (listed.setIfInBounds j true).getD i false = if i = j then true else listed.getD i false := by
  by_cases h : i = j
  · subst h
    rw [if_pos rfl]
    simp [Array.getD, hj]
  · rw [if_neg h]
    exact getD_set_ne false (Ne.symm h)
section
variable {B0 : Nat} {w0 : World} {m0 : Mp} {wI : World} {ds : List Deferred} {listed : Array Bool} {q : Nat} {m : Mp} {a : Act} {w : World}
theorem Inv.rdy (I : Inv P ops tT tH sk vl B0 w0 m0 wI ds listed q m a w) {j : Nat} (hr : j ∈ Region.ready .any ops listed) : ∃ o, Ready ops (fun i => listed.getD i false) j o := by
  unfold Region.ready at hr
  rw [List.mem_filter] at hr
  obtain ⟨h1, h2⟩ := hr
  have hj : j < ops.size := List.mem_range.1 h1
  have ho : ops[j]? = some ops[j] := Array.getElem?_eq_getElem hj
  rw [Bool.and_eq_true, ho] at h2
  simp only [Option.map_some, Option.getD_some] at h2
  refine ⟨ops[j], ho, I.down, fun e he hb => ?_, ?_⟩
  · have := Array.all_eq_true'.1 h2.2 e he
    simpa [hb] using this
  · have hlt : j < listed.size := by rw [I.lsize]; exact hj
    have := h2.1
    simp [Array.getD, hlt] at this ⊢
    exact this
theorem Inv.down' (I : Inv P ops tT tH sk vl B0 w0 m0 wI ds listed q m a w) {j : Nat} {o : Oper} (hr : Ready ops (fun i => listed.getD i false) j o) : Down ops (fun i => (listed.setIfInBounds j true).getD i false = true) := by
  have hlt : j < listed.size := by rw [I.lsize]; exact (Array.getElem?_eq_some_iff.1 hr.op).1
  intro i oi hi hD e he hb
  simp only [getD_set hlt] at hD ⊢
  by_cases hij : i = j
  · subst hij
    rw [hr.op] at hi
    cases hi
    have := hr.edges e he hb
    split
    · rfl
    · exact this
  · rw [if_neg hij] at hD
    have := I.down i oi hi hD e he hb
    split
    · rfl
    · exact this
/-- An operation that doesn't act is done: slots and marks. -/
theorem Inv.mark (hreg : regOK ops = true) (I : Inv P ops tT tH sk vl B0 w0 m0 wI ds listed q m a w) {j : Nat} {o : Oper} (hr : Ready ops (fun i => listed.getD i false) j o) (hne : eE ops sk j = false) {m2 : Mp} {w2 : World} {v' : Value}
    (hmono : ∀ b L, m b = some L → m2 b = some L) (hv : VRel m2 (vl j) v') (hvr : VR P B0 w0 tH ops.size q m2 w2) (hdm : ∀ b L, m2 b = some L → m b = some L ∨ ((tH j).length ≤ b ∧ b < (tH (j + 1)).length ∧ w.heap.size ≤ L.blk)) (h0 : (tH 0).length ≤ (tH j).length)
    (hs : w.heap.size ≤ w2.heap.size) (hw : ∀ B, B < w.heap.size → w2.heap[B]? = w.heap[B]?) :
    Inv P ops tT tH sk vl B0 w0 m0 wI ds (listed.setIfInBounds j true) q m2 (a.put o.dst v') w2 := by
  have hj : j < ops.size := (Array.getElem?_eq_some_iff.1 hr.op).1
  have hlt : j < listed.size := by rw [I.lsize]; exact hj
  refine ⟨by simp [I.lsize], I.down' hr, I.hq, fun h => ?_, fun e he hE => ?_, ?_, by rw [AM.put_defers]; exact I.defers, hvr, fun b L hb => ?_, fun b L hb => hmono b L (I.mono0 b L hb), Nat.le_trans I.size hs, fun b L hb => ?_, fun B hB hr' => ?_⟩
  · obtain ⟨h1, h2⟩ := I.hq1 h
    refine ⟨h1, ?_⟩
    rw [getD_set hlt, if_neg]
    · exact h2
    · intro he
      subst he
      rw [h1] at hne
      cases hne
  · rw [getD_set hlt]
    split
    · rfl
    · exact I.hq2 e he hE
  · have e1 : (fun i => (listed.setIfInBounds j true).getD i false) = fun i => if i = j then true else listed.getD i false := by funext i; exact getD_set hlt i
    rw [e1, hr.put hreg]
    exact put_rel (I.slots.mono hmono) _ hv
  · rcases hdm b L hb with h1 | ⟨h1, h2, h3⟩
    · rcases I.dm b L h1 with h4 | ⟨i, h4, h5, h6⟩
      · exact .inl h4
      · refine .inr ⟨i, h4, ?_, h6⟩
        rw [getD_set hlt]
        split
        · rfl
        · exact h5
    · exact .inr ⟨j, hj, by rw [getD_set hlt, if_pos rfl], h1, h2⟩
  · rcases hdm b L hb with h1 | ⟨h1, h2, h3⟩
    · exact I.new b L h1
    · exact .inr ⟨by omega, .inl (Nat.le_trans I.size h3)⟩
  · rw [hw B (Nat.lt_of_lt_of_le hB I.size)]
    exact I.frame B hB hr'
/-- A read tells the same now. -/
theorem Inv.readNow (X : Tr P call ops (befL [] ops.toList) 0 tT tH sk vl) (A : Along ops tT tH m0) (I : Inv P ops tT tH sk vl B0 w0 m0 wI ds listed q m a w) {j : Nat} {o : Oper} (hr : Ready ops (fun i => listed.getD i false) j o) (hs : sk j = false) {f : AH → Option Value}
    (hf : opRead P (opv (tT j)) o.op = some f) : f (tH q) = some (vl j) := by
  have hj : j < ops.size := (Array.getElem?_eq_some_iff.1 hr.op).1
  have hnj : eE ops sk j = false := by simp [eE, hr.op, read_not_eff hf]
  rcases Nat.lt_or_ge j q with hlt | hge
  · have key : ∀ d, j + 1 + d ≤ q → f (tH (j + 1 + d)) = some (vl j) := by
      intro d
      induction d with
      | zero =>
        intro _
        obtain ⟨h1, h2⟩ := X.read j o f (Nat.zero_le _) hr.op hs hf
        rw [Nat.add_zero, h2]
        exact h1
      | succ d ih =>
        intro hd
        have hprev := ih (by omega)
        have hq := I.hq
        cases hE : eE ops sk (j + 1 + d) with
        | true =>
          obtain ⟨oe, he1, he2, he3⟩ := eE_inv hE
          have hl := I.hq2 (j + 1 + d) (by omega) hE
          have hord : ordB (befL [] ops.toList) j (j + 1 + d) = false := by
            cases hc : ordB (befL [] ops.toList) j (j + 1 + d) with
            | false => rfl
            | true => have := hr.behind he1 hc; rw [hl] at this; cases this
          exact X.futR j o f (j + 1 + d) oe (Nat.zero_le _) (by omega) hr.op he1 hs he3 he2 hf hord
        | false =>
          rcases X.noeff (j := j + 1 + d) (by omega) hE with h3 | ⟨k, h3⟩
          · rw [show j + 1 + (d + 1) = j + 1 + d + 1 by omega, h3]; exact hprev
          · rw [show j + 1 + (d + 1) = j + 1 + d + 1 by omega, h3]
            exact opRead_keep hf (fun b k' hk => by rw [blk_app_old _ (blk_lt' hk)]; exact hk) hprev
    have := key (q - (j + 1)) (by omega)
    rwa [show j + 1 + (q - (j + 1)) = q by omega] at this
  · have hne : q ≠ j := by
      intro he
      subst he
      have := (I.hq1 hj).1
      rw [hnj] at this
      cases this
    obtain ⟨h1, h2⟩ := I.hq1 (by omega)
    obtain ⟨oe, he1, he2, he3⟩ := eE_inv h1
    refine X.pastR j o f q oe (Nat.zero_le _) (by omega) hr.op he1 hs he3 he2 hf ?_
    cases hc : ordB (befL [] ops.toList) q j with
    | false => rfl
    | true => have := hr.before hc; rw [h2] at this; cases this
/-- A block that is yet to be made stands as it will be made. -/
theorem Inv.makeNow (X : Tr P call ops (befL [] ops.toList) 0 tT tH sk vl) (A : Along ops tT tH m0) (I : Inv P ops tT tH sk vl B0 w0 m0 wI ds listed q m a w) {j : Nat} {o : Oper} (hr : Ready ops (fun i => listed.getD i false) j o) (hs : sk j = false)
    (hf : opRead P (opv (tT j)) o.op = none) (ha : isAlloc o.op = true) {k : Blk} (hk : tH (j + 1) = tH j ++ [some k]) : kb tH ops.size q (tH j).length = some k := by
  have hj : j < ops.size := (Array.getElem?_eq_some_iff.1 hr.op).1
  have hnew : blk (tH (j + 1)) (tH j).length = some k := by rw [hk]; unfold blk; simp
  have hlen : (tH (j + 1)).length = (tH j).length + 1 := by rw [hk]; simp
  have hnj : eE ops sk j = false := by simp [eE, hr.op, alloc_not_eff ha]
  rcases Nat.lt_or_ge j q with hlt | hge
  · have key : ∀ d, j + 1 + d ≤ q → blk (tH (j + 1 + d)) (tH j).length = some k := by
      intro d
      induction d with
      | zero => intro _; exact hnew
      | succ d ih =>
        intro hd
        have hprev := ih (by omega)
        have hq := I.hq
        cases hE : eE ops sk (j + 1 + d) with
        | true =>
          obtain ⟨oe, he1, he2, he3⟩ := eE_inv hE
          have hl := I.hq2 (j + 1 + d) (by omega) hE
          have hord : ordB (befL [] ops.toList) j (j + 1 + d) = false := by
            cases hc : ordB (befL [] ops.toList) j (j + 1 + d) with
            | false => rfl
            | true => have := hr.behind he1 hc; rw [hl] at this; cases this
          have := X.futA j o (j + 1 + d) oe (Nat.zero_le _) (by omega) hr.op he1 hs he3 he2 hf ha hord
          rw [show j + 1 + (d + 1) = j + 1 + d + 1 by omega, this]
          exact hnew
        | false =>
          rcases X.noeff (j := j + 1 + d) (by omega) hE with h3 | ⟨k', h3⟩
          · rw [show j + 1 + (d + 1) = j + 1 + d + 1 by omega, h3]; exact hprev
          · rw [show j + 1 + (d + 1) = j + 1 + d + 1 by omega, h3, blk_app_old _ (blk_lt' hprev)]
            exact hprev
    have := key (q - (j + 1)) (by omega)
    rw [show j + 1 + (q - (j + 1)) = q by omega] at this
    rw [kb_lt (blk_lt' this)]
    exact this
  · have hle := A.le hge (by omega)
    rw [kb_ge hle, ini_eq A.lens hj (Nat.le_refl _) (by omega)]
    exact hnew
end
end
end Go.AM
set_option linter.unusedVariables false
set_option linter.unusedSimpArgs false
namespace Go.AM
open Go.RowKit

section
variable {P : Program} {call : CallF} {ops : Array Oper} {tT : Nat → List Value} {tH : Nat → AH} {sk : Nat → Bool} {vl : Nat → Value} {B0 : Nat} {w0 : World} {m0 : Mp} {wI : World} {ds : List Deferred} {listed : Array Bool} {q : Nat} {m : Mp} {a : Act} {w : World}

theorem Tr.sv (X : Tr P call ops (befL [] ops.toList) 0 tT tH sk vl) {j : Nat} (hj : j ≤ ops.size) : (tT j).length = (tT 0).length ∧ ∀ s, s < (tT 0).length → (tT j).getD s undef = AM.sv ops vl (tT 0) (fun _ => true) j s :=
  tT_sv rfl (fun j o ho => X.step j o (Nat.zero_le _) ho) j hj
/-- What the operation looks at holds what it held in the text's own order. -/
theorem Inv.looks (hreg : regOK ops = true) (X : Tr P call ops (befL [] ops.toList) 0 tT tH sk vl) (I : Inv P ops tT tH sk vl B0 w0 m0 wI ds listed q m a w) {j : Nat} {o : Oper} (hr : Ready ops (fun i => listed.getD i false) j o) :
    ∀ s ∈ o.looksAt ops, s < (svL ops vl (tT 0) (fun i => listed.getD i false)).length → (svL ops vl (tT 0) (fun i => listed.getD i false)).getD s undef = (tT j).getD s undef := by
  intro s hs hlt
  rw [svL_length] at hlt
  rw [svL_getD _ hlt, hr.slots hreg hs, ((X.sv (Nat.le_of_lt (Array.getElem?_eq_some_iff.1 hr.op).1)).2 s hlt)]
theorem Inv.opv (hreg : regOK ops = true) (X : Tr P call ops (befL [] ops.toList) 0 tT tH sk vl) (I : Inv P ops tT tH sk vl B0 w0 m0 wI ds listed q m a w) {j : Nat} {o : Oper} (hr : Ready ops (fun i => listed.getD i false) j o) :
    (∀ x ∈ o.op.operands, AM.opv (svL ops vl (tT 0) (fun i => listed.getD i false)) x = AM.opv (tT j) x) ∧ ∀ g want, o.guard = some (g, want) → yieldV ops (svL ops vl (tT 0) (fun i => listed.getD i false)) g = yieldV ops (tT j) g := by
  have hj := Nat.le_of_lt (Array.getElem?_eq_some_iff.1 hr.op).1
  exact opv_slots (by rw [svL_length, (X.sv hj).1]) (I.looks hreg X hr)
theorem Inv.wanted (hreg : regOK ops = true) (X : Tr P call ops (befL [] ops.toList) 0 tT tH sk vl) (I : Inv P ops tT tH sk vl B0 w0 m0 wI ds listed q m a w) {j : Nat} {o : Oper} (hr : Ready ops (fun i => listed.getD i false) j o) :
    Region.wanted o (yielded ops a.tmps) = !sk j := by
  obtain ⟨_, hy⟩ := I.opv hreg X hr
  cases hs : sk j with
  | true =>
    obtain ⟨⟨g, want, hg, hu⟩, _⟩ := X.skip j o (Nat.zero_le _) hr.op hs
    rcases hu with ⟨b, hu, hb⟩ | ⟨vs, hu, _⟩
    · rw [wanted_of hg ((yield_rel I.slots g).1 b (by rw [hy g want hg]; exact hu))]
      simp [hb]
    · rw [wanted_of hg ((yield_rel I.slots g).2 vs (by rw [hy g want hg]; exact hu))]
      rfl
  | false =>
    rcases X.go j o (Nat.zero_le _) hr.op hs with hg | ⟨g, want, hg, hu⟩
    · unfold Region.wanted; rw [hg]; rfl
    · rw [wanted_of hg ((yield_rel I.slots g).1 want (by rw [hy g want hg]; exact hu))]
      simp
/-- What acts next is the one. -/
theorem Inv.isq (hreg : regOK ops = true) (I : Inv P ops tT tH sk vl B0 w0 m0 wI ds listed q m a w) {j : Nat} {o : Oper} (hr : Ready ops (fun i => listed.getD i false) j o) (hE : eE ops sk j = true) : j = q := by
  have hj : j < ops.size := (Array.getElem?_eq_some_iff.1 hr.op).1
  rcases Nat.lt_trichotomy j q with h | h | h
  · have := I.hq2 j h hE
    have h2 := hr.not
    rw [this] at h2
    cases h2
  · exact h
  · obtain ⟨h1, h2⟩ := I.hq1 (by omega)
    obtain ⟨oq, hq1, hq2, _⟩ := eE_inv h1
    obtain ⟨oj, hj1, hj2, _⟩ := eE_inv hE
    rcases regOK_pair hreg h hq1 hj1 with h3 | ⟨h3, _⟩
    · have := hr.before h3; rw [h2] at this; cases this
    · exact (h3 hq2 hj2).elim
/-- The slots that an operation looks at, under the lesser map. -/
theorem Inv.masked (hreg : regOK ops = true) (X : Tr P call ops (befL [] ops.toList) 0 tT tH sk vl) (A : Along ops tT tH m0) (I : Inv P ops tT tH sk vl B0 w0 m0 wI ds listed q m a w) {j : Nat} {o : Oper} (hr : Ready ops (fun i => listed.getD i false) j o) :
    ∃ T, LRel (cutM m (tH j).length) T a.tmps.toList ∧ ∀ x ∈ o.op.operands, AM.opv T x = AM.opv (tT j) x := by
  have hj : j ≤ ops.size := Nat.le_of_lt (Array.getElem?_eq_some_iff.1 hr.op).1
  refine ⟨(List.range (tT 0).length).map fun s => if s ∈ o.looksAt ops then (tT j).getD s undef else unk, ⟨?_, ?_⟩, ?_⟩
  · rw [List.length_map, List.length_range, ← I.slots.1, svL_length]
  · intro s x y hx hy
    rw [List.getElem?_map] at hx
    have hlt : s < (tT 0).length := by
      rcases Nat.lt_or_ge s (tT 0).length with h1 | h1
      · exact h1
      · rw [List.getElem?_eq_none (by simpa using h1)] at hx; cases hx
    rw [List.getElem?_range hlt, Option.map_some] at hx
    cases hx
    split
    · rename_i hs
      have h1 := I.looks hreg X hr s hs (by rw [svL_length]; exact hlt)
      have h2 : (svL ops vl (tT 0) (fun i => listed.getD i false))[s]? = some ((tT j).getD s undef) := by
        rw [← h1, List.getD_eq_getElem?_getD, List.getElem?_eq_getElem (by rw [svL_length]; exact hlt)]
        rfl
      have h3 := I.slots.2 s _ y h2 hy
      have h4 : (tT j)[s]? = some ((tT j).getD s undef) := by
        rw [List.getD_eq_getElem?_getD, List.getElem?_eq_getElem (by rw [(X.sv hj).1]; exact hlt)]
        rfl
      exact h3.cutB (A.bel j s _ hj h4)
    · exact .unk _
  · refine (opv_slots (ops := ops) (by rw [List.length_map, List.length_range, (X.sv hj).1]) fun s hs hlt => ?_).1
    rw [List.length_map, List.length_range] at hlt
    rw [List.getD_eq_getElem?_getD, List.getElem?_map, List.getElem?_range hlt, Option.map_some, Option.getD_some, if_pos hs]
theorem Inv.act (hreg : regOK ops = true) (X : Tr P call ops (befL [] ops.toList) 0 tT tH sk vl) (A : Along ops tT tH m0) (I : Inv P ops tT tH sk vl B0 w0 m0 wI ds listed q m a w) {o : Oper} (hr : Ready ops (fun i => listed.getD i false) q o) (hE : eE ops sk q = true)
    {m1 : Mp} {w1 : World} {v' : Value} (E : Ext (cutM m (tH q).length) (tH q) w m1 (tH (q + 1)) w1) (R1 : Rel P B0 w0 m1 (tH (q + 1)) w1) (hv : VRel m1 (vl q) v') :
    ∃ q' m2, Inv P ops tT tH sk vl B0 w0 m0 wI ds (listed.setIfInBounds q true) q' m2 (a.put o.dst v') w1 := by
  have hq : q < ops.size := (Array.getElem?_eq_some_iff.1 hr.op).1
  have hlt : q < listed.size := by rw [I.lsize]; exact hq
  obtain ⟨q', hq1, hq2, hq3, hq4⟩ := nextE (ops := ops) (sk := sk) (q + 1) (ops.size - (q + 1)) (by omega)
  have hlen := A.le (i := q) (j := q + 1) (by omega) (by omega)
  have hsame := X.same (q + 1) (q' - (q + 1)) (by omega) (fun e h1 h2 => hq3 e h1 (by omega))
  rw [show q + 1 + (q' - (q + 1)) = q' by omega] at hsame
  have hini : ∀ b, (tH (q + 1)).length ≤ b → b < (tH q').length → blk (tH q') b = ini tH ops.size b := by
    intro b h1 h2
    obtain ⟨j, h3, h4, h5, h6⟩ := crossing (fun i => (tH i).length) (q + 1) b h1 (q' - (q + 1)) (by rw [show q + 1 + (q' - (q + 1)) = q' by omega]; exact h2)
    rw [ini_eq A.lens (show j < ops.size by omega) h5 h6]
    have h7 := X.same (j + 1) (q' - (j + 1)) (by omega) (fun e h7 h8 => hq3 e (by omega) (by omega))
    rw [show j + 1 + (q' - (j + 1)) = q' by omega] at h7
    exact h7.2 b h6
  have hnew : ∀ b, (tH q).length ≤ b → b < (tH (q + 1)).length → m b = none := by
    intro b h1 h2
    cases hb : m b with
    | none => rfl
    | some L =>
      exfalso
      rcases I.dm b L hb with h3 | ⟨i, h3, h4, h5, h6⟩
      · have := A.le (i := 0) (j := q) (by omega) (by omega); omega
      · rcases Nat.lt_trichotomy i q with h7 | h7 | h7
        · have := A.le (i := i + 1) (j := q) (by omega) (by omega); omega
        · subst h7
          have := hr.not
          rw [h4] at this
          cases this
        · have := A.le (i := q + 1) (j := i) (by omega) (by omega); omega
  obtain ⟨V, hmono⟩ := I.vr.eff (by omega) hq2 hlen hsame hini (A.le hq2 (Nat.le_refl _)) R1 E hnew
  have hmono1 : ∀ b L, m1 b = some L → mrg m1 m (tH (q + 1)).length b = some L := by
    intro b L hb
    unfold mrg
    rw [if_pos (R1.dom b L hb).1]
    exact hb
  have split_ : ∀ b L, mrg m1 m (tH (q + 1)).length b = some L → m b = some L ∨ ((tH q).length ≤ b ∧ b < (tH (q + 1)).length ∧ (w.heap.size ≤ L.blk ∨ ∃ b0 L0 k0, m b0 = some L0 ∧ blk (tH q) b0 = some k0 ∧ b0 < (tH q).length ∧ k0.kind ≠ .ro ∧ L0.blk = L.blk)) := by
    intro b L hb
    unfold mrg at hb
    split at hb
    · rename_i h1
      rcases E.new b L hb with h2 | ⟨h2, h3 | ⟨b0, L0, k0, h3, h4, h5, h6⟩⟩
      · exact .inl (cutM_some h2).2
      · exact .inr ⟨h2, h1, .inl h3⟩
      · obtain ⟨h7, h8⟩ := cutM_some h3
        exact .inr ⟨h2, h1, .inr ⟨b0, L0, k0, h8, h4, h7, h5, h6⟩⟩
    · exact .inl hb
  -- an own block that there was
  have own0 : ∀ b L k, m b = some L → blk (tH q) b = some k → k.kind ≠ .ro → (wI.heap.size ≤ L.blk ∨ ∃ b0 L0 k0, m0 b0 = some L0 ∧ blk (tH 0) b0 = some k0 ∧ k0.kind ≠ .ro ∧ L0.blk = L.blk) := by
    intro b L k h1 h2 h3
    rcases I.new b L h1 with h4 | ⟨_, h4⟩
    · obtain ⟨k0, h5, h6⟩ := A.alive q (by omega) b k (A.dom0 b L h4) h2
      exact .inr ⟨b, L, k0, h4, h5, by rw [h6]; exact h3, rfl⟩
    · exact h4
  refine ⟨q', mrg m1 m (tH (q + 1)).length, ⟨by simp [I.lsize], I.down' hr, hq2, fun h => ⟨hq4 h, ?_⟩, fun e he hEe => ?_, ?_, by rw [AM.put_defers]; exact I.defers, V, fun b L hb => ?_, fun b L hb => hmono b L (I.mono0 b L hb), Nat.le_trans I.size E.size, fun b L hb => ?_, fun B hB hr' => ?_⟩⟩
  · rw [getD_set hlt, if_neg (by omega)]
    cases hc : listed.getD q' false with
    | false => rfl
    | true =>
      exfalso
      obtain ⟨oq', h1, h2, _⟩ := eE_inv (hq4 h)
      obtain ⟨oq, h3, h4, _⟩ := eE_inv hE
      rcases regOK_pair hreg (show q < q' by omega) h3 h1 with h5 | ⟨h5, _⟩
      · have := hr.behind h1 h5
        rw [hc] at this
        cases this
      · exact h5 h4 h2
  · rw [getD_set hlt]
    split
    · rfl
    · rename_i hne
      rcases Nat.lt_or_ge e q with h1 | h1
      · exact I.hq2 e h1 hEe
      · have := hq3 e (by omega) he
        rw [hEe] at this
        cases this
  · have e1 : (fun i => (listed.setIfInBounds q true).getD i false) = fun i => if i = q then true else listed.getD i false := by funext i; exact getD_set hlt i
    rw [e1, hr.put hreg]
    exact put_rel (I.slots.mono hmono) _ (hv.mono hmono1)
  · rcases split_ b L hb with h1 | ⟨h1, h2, _⟩
    · rcases I.dm b L h1 with h4 | ⟨i, h4, h5, h6⟩
      · exact .inl h4
      · refine .inr ⟨i, h4, ?_, h6⟩
        rw [getD_set hlt]
        split
        · rfl
        · exact h5
    · exact .inr ⟨q, hq, by rw [getD_set hlt, if_pos rfl], h1, h2⟩
  · rcases split_ b L hb with h1 | ⟨h1, h2, h3⟩
    · exact I.new b L h1
    · have := A.le (i := 0) (j := q) (by omega) (by omega)
      refine .inr ⟨by omega, ?_⟩
      rcases h3 with h3 | ⟨b0, L0, k0, h3, h4, _, h5, h6⟩
      · exact .inl (Nat.le_trans I.size h3)
      · have := own0 b0 L0 k0 h3 h4 h5
        rw [h6] at this
        exact this
  · rw [E.frame B (Nat.lt_of_lt_of_le hB I.size), I.frame B hB hr']
    intro b L k hb hk hne
    obtain ⟨h1, h2⟩ := cutM_some hb
    rcases own0 b L k h2 hk hne with h3 | ⟨b0, L0, k0, h3, h4, h5, h6⟩
    · omega
    · rw [← h6]; exact hr' b0 L0 k0 h3 h4 h5
def left (ops : Array Oper) (listed : Array Bool) : List Nat := (List.range ops.size).filter fun i => !listed.getD i false
theorem filter_less {f g : Nat → Bool} : ∀ (l : List Nat) (j : Nat), j ∈ l → f j = true → g j = false → (∀ i, g i = true → f i = true) → (l.filter g).length < (l.filter f).length
  | [], j, hj, _, _, _ => by cases hj
  | i :: l, j, hj, hf, hg, hgf => by
    have hle : (l.filter g).length ≤ (l.filter f).length := by
      clear hj
      induction l with
      | nil => simp
      | cons i l ih =>
        simp only [List.filter_cons]
        cases hgi : g i with
        | true => rw [hgf i hgi]; simp; exact ih
        | false => cases f i <;> simp <;> omega
    by_cases hij : i = j
    · subst hij
      simp only [List.filter_cons, hf, hg, if_true]
      simp
      omega
    · have hjl : j ∈ l := by cases hj with | head => exact (hij rfl).elim | tail _ h => exact h
      have := filter_less l j hjl hf hg hgf
      simp only [List.filter_cons]
      cases hgi : g i with
      | true => rw [hgf i hgi]; simp; exact this
      | false => cases f i <;> simp <;> omega
theorem Inv.any (hcall : CallOK P call) (hreg : regOK ops = true) (X : Tr P call ops (befL [] ops.toList) 0 tT tH sk vl) (A : Along ops tT tH m0) {Q : Exit → Act → World → Prop}
    (hq : ∀ (m' : Mp) (a' : Act) (w' : World), After P B0 w0 m0 (tH 0) wI ds (tT ops.size) (tH ops.size) m' a' w' → Q .normal a' w') :
    ∀ (fuel : Nat) (listed : Array Bool) (q : Nat) (m : Mp) (a : Act) (w : World), Inv P ops tT tH sk vl B0 w0 m0 wI ds listed q m a w → (left ops listed).length ≤ fuel → wpAny P .any ops Q fuel listed a w := by
  -- when nothing is ready, all is done
  have fin : ∀ (listed : Array Bool) (q : Nat) (m : Mp) (a : Act) (w : World), Inv P ops tT tH sk vl B0 w0 m0 wI ds listed q m a w → (∀ j, j < ops.size → listed.getD j false = true) → Q .normal a w := by
    intro listed q m a w I hall
    have hqn : q = ops.size := by
      rcases Nat.lt_or_ge q ops.size with h | h
      · have := (I.hq1 h).2
        rw [hall q h] at this
        cases this
      · have := I.hq; omega
    subst hqn
    have hN : ∀ b L, m b = some L → cutM m (tH ops.size).length b = some L := fun b L hb => cutM_of (I.vr.dom b L hb).1 hb
    have hT : svL ops vl (tT 0) (fun i => listed.getD i false) = tT ops.size := by
      obtain ⟨h1, h2⟩ := X.sv (Nat.le_refl ops.size)
      apply List.ext_getElem?
      intro s
      rcases Nat.lt_or_ge s (tT 0).length with hs | hs
      · have e1 : (svL ops vl (tT 0) (fun i => listed.getD i false))[s]? = some (AM.sv ops vl (tT 0) (fun i => listed.getD i false) ops.size s) := by
          unfold svL; rw [List.getElem?_map, List.getElem?_range hs]; rfl
        rw [e1, AM.sv_congr (D' := fun _ => true) _ (fun j hj _ => hall j hj), ← h2 s hs, List.getD_eq_getElem?_getD, List.getElem?_eq_getElem (by omega)]
        rfl
      · rw [List.getElem?_eq_none (by rw [svL_length]; exact hs), List.getElem?_eq_none (by omega)]
    refine hq (cutM m (tH ops.size).length) a w ⟨⟨fun b L hb => hN b L (I.mono0 b L hb), A.le (Nat.zero_le _) (Nat.le_refl _), I.size, fun b k' hb hk => A.alive ops.size (Nat.le_refl _) b k' hb hk, fun b L hb => I.new b L (cutM_some hb).2, I.frame⟩, I.vr.rel, ?_, I.defers⟩
    rw [← hT]
    exact I.slots.mono hN
  have ready_nil : ∀ (listed : Array Bool), Region.ready .any ops listed = [] → listed.size = ops.size → ∀ j, j < ops.size → listed.getD j false = true := by
    intro listed hnil hsz j
    induction j using Nat.strongRecOn with
    | _ j ih =>
      intro hj
      cases hl : listed.getD j false with
      | true => rfl
      | false =>
        exfalso
        have ho : ops[j]? = some ops[j] := Array.getElem?_eq_getElem hj
        have hmem : j ∈ Region.ready .any ops listed := by
          unfold Region.ready
          rw [List.mem_filter]
          refine ⟨List.mem_range.2 hj, ?_⟩
          rw [Bool.and_eq_true, ho]
          have hlt : j < listed.size := by omega
          refine ⟨by simp [Array.getD, hlt] at hl ⊢; exact hl, ?_⟩
          simp only [Option.map_some, Option.getD_some]
          refine Array.all_eq_true'.2 fun e he => ?_
          cases hb : Region.binds .any e with
          | false => rfl
          | true =>
            have hlte := regOK_edge hreg ho he hb
            simp [ih e.on hlte (by omega)]
        rw [hnil] at hmem
        cases hmem
  intro fuel
  induction fuel with
  | zero =>
    intro listed q m a w I hf
    have hall : ∀ j, j < ops.size → listed.getD j false = true := by
      intro j hj
      cases hl : listed.getD j false with
      | true => rfl
      | false =>
        exfalso
        have : j ∈ left ops listed := List.mem_filter.2 ⟨List.mem_range.2 hj, by simp [hl]⟩
        have hnil : left ops listed = [] := List.eq_nil_of_length_eq_zero (by omega)
        rw [hnil] at this
        cases this
    refine ⟨?_, fin listed q m a w I hall⟩
    cases hr : Region.ready .any ops listed with
    | nil => rfl
    | cons j rest =>
      exfalso
      obtain ⟨o, hrd⟩ := I.rdy (j := j) (by rw [hr]; simp)
      have := hrd.not
      rw [hall j (Array.getElem?_eq_some_iff.1 hrd.op).1] at this
      cases this
  | succ fuel ih =>
    intro listed q m a w I hf
    refine ⟨fun hnil => fin listed q m a w I (ready_nil listed hnil I.lsize), fun j hjr => ?_⟩
    obtain ⟨o, hr⟩ := I.rdy hjr
    have hj : j < ops.size := (Array.getElem?_eq_some_iff.1 hr.op).1
    have hlt : j < listed.size := by rw [I.lsize]; exact hj
    have hfuel : (left ops (listed.setIfInBounds j true)).length ≤ fuel := by
      have : (left ops (listed.setIfInBounds j true)).length < (left ops listed).length := by
        refine filter_less _ j (List.mem_range.2 hj) (by have := hr.not; simpa using this) (by rw [getD_set hlt]; simp) fun i hi => ?_
        rw [getD_set hlt] at hi
        split at hi
        · cases hi
        · exact hi
      omega
    have h0 : (tH 0).length ≤ (tH j).length := A.le (Nat.zero_le _) (by omega)
    unfold wpOp
    rw [hr.op]
    simp only
    rw [I.wanted hreg X hr]
    cases hs : sk j with
    | true =>
      simp only [Bool.not_true, Bool.false_eq_true, if_false]
      obtain ⟨_, h2, _⟩ := X.skip j o (Nat.zero_le _) hr.op hs
      refine ih _ q m _ w (I.mark hreg hr (by simp [eE, hs]) (fun _ _ h => h) (by rw [h2]; exact VRel.undef _) I.vr (fun b L h => .inl h) h0 (Nat.le_refl _) fun _ _ => rfl) hfuel
    | false =>
      simp only [Bool.not_false, if_true]
      refine .inl ?_
      obtain ⟨hop, _⟩ := I.opv hreg X hr
      cases hE : eE ops sk j with
      | true =>
        have hjq := I.isq hreg hr hE
        subst hjq
        obtain ⟨T, hT, hTo⟩ := I.masked hreg X A hr
        have hres := X.res hr.op hs
        rw [← aRes_congr o.op hTo] at hres
        refine res_sound hcall hres I.vr.rel hT _ _ fun m1 v' w1 E R1 hv => ?_
        obtain ⟨q', m2, I2⟩ := I.act hreg X A hr hE E R1 hv
        exact ih _ q' m2 _ w1 I2 hfuel
      | false =>
        have heff : isEff o.op = false := by simpa [eE, hr.op, hs] using hE
        cases hf' : opRead P (AM.opv (tT j)) o.op with
        | some f =>
          have hnow := I.readNow X A hr hs hf'
          have hpad : f (padH tH ops.size q) = some (vl j) := opRead_keep hf' (fun b k hk => by
            unfold padH blk
            rw [List.getElem?_append_left (blk_lt' hk)]
            exact hk) hnow
          rw [← opRead_congr o.op hop] at hf'
          obtain ⟨v', q1, q2⟩ := read_sound (I.vr.pad (A.le I.hq (Nat.le_refl _))) I.slots hf' hpad
          unfold Oper.wp
          rw [q1]
          exact ih _ q m _ w (I.mark hreg hr hE (fun _ _ h => h) q2 I.vr (fun b L h => .inl h) h0 (Nat.le_refl _) fun _ _ => rfl) hfuel
        | none =>
          have hres := X.other j o (Nat.zero_le _) hr.op hs hf'
          cases ha : isAlloc o.op with
          | false =>
            obtain ⟨_, hpure⟩ := pure_res heff hf' ha hres
            have hp2 := hpure (List.replicate (tH ops.size).length none)
            rw [← aRes_congr o.op hop] at hp2
            have hN : ∀ b L, m b = some L → cutM m (tH ops.size).length b = some L := fun b L hb => cutM_of (I.vr.dom b L hb).1 hb
            refine res_sound hcall hp2 (I.vr.dead _) (I.slots.mono hN) _ _ fun m1 v' w1 E R1 hv => ?_
            have hback : ∀ b L, m1 b = some L → m b = some L := by
              intro b L hb
              rcases E.new b L hb with h1 | ⟨h1, _⟩
              · exact (cutM_some h1).2
              · have := (R1.dom b L hb).1; omega
            have hw : ∀ B, B < w.heap.size → w1.heap[B]? = w.heap[B]? := fun B hB => E.frame B hB fun b L k _ hk => by rw [blk_dead] at hk; cases hk
            exact ih _ q m _ w1 (I.mark hreg hr hE (fun _ _ h => h) (hv.mono hback) (I.vr.still R1.below E.size hw) (fun b L h => .inl h) h0 E.size hw) hfuel
          | true =>
            obtain ⟨k, hk1, hk2, hall⟩ := alloc_res ha hres
            have hp2 := hall (List.replicate (tH j).length none) (by simp)
            have hkb := I.makeNow X A hr hs hf' ha hk2
            have hlen : (tH (j + 1)).length = (tH j).length + 1 := by rw [hk2]; simp
            have hnone : m (tH j).length = none := by
              cases hb : m (tH j).length with
              | none => rfl
              | some L =>
                exfalso
                rcases I.dm _ L hb with h3 | ⟨i, h3, h4, h5, h6⟩
                · omega
                · rcases Nat.lt_trichotomy i j with h7 | h7 | h7
                  · have := A.le (i := i + 1) (j := j) (by omega) (by omega); omega
                  · subst h7
                    have := hr.not
                    rw [h4] at this
                    cases this
                  · have := A.le (i := j + 1) (j := i) (by omega) (by omega); omega
            obtain ⟨T, hT, hTo⟩ := I.masked hreg X A hr
            rw [← aRes_congr o.op hTo] at hp2
            refine res_sound hcall hp2 (I.vr.dead _) hT _ _ fun m1 v' w1 E R1 hv => ?_
            have hmap : ∃ L, m1 (tH j).length = some L := by
              rcases hk1 with h1 | ⟨n, c, h1⟩ | h1
              · rw [h1] at hv; obtain ⟨L, h2, _⟩ := VRel.ptr_inv hv; exact ⟨L, h2⟩
              · rw [h1] at hv; obtain ⟨L, _, _, h2, _⟩ := VRel.slice_inv hv; exact ⟨L, h2⟩
              · rw [h1] at hv; obtain ⟨L, h2, _⟩ := VRel.map_inv hv; exact ⟨L, h2⟩
            obtain ⟨L, hL⟩ := hmap
            have hup : ∀ b L', m1 b = some L' → upd m (tH j).length L b = some L' ∧ b < (tH j).length + 1 := by
              intro b L' hb
              have h2 := (R1.dom b L' hb).1
              rw [List.length_append, List.length_replicate, List.length_singleton] at h2
              refine ⟨?_, h2⟩
              unfold upd
              by_cases hbl : b = (tH j).length
              · subst hbl; rw [if_pos rfl, ← hL]; exact hb
              · rw [if_neg hbl]
                rcases E.new b L' hb with h1 | ⟨h1, _⟩
                · exact (cutM_some h1).2
                · rw [List.length_replicate] at h1; omega
            have hblk : blk (List.replicate (tH j).length none ++ [some k]) (tH j).length = some k := by
              unfold blk
              rw [List.getElem?_append_right (by simp)]
              simp
            have hfresh : w.heap.size ≤ L.blk := by
              rcases E.new _ L hL with h1 | ⟨_, h1 | ⟨b0, L0, k0, _, h1, _⟩⟩
              · have := (cutM_some h1).1; omega
              · exact h1
              · rw [blk_dead] at h1; cases h1
            have hw : ∀ B, B < w.heap.size → w1.heap[B]? = w.heap[B]? := fun B hB => E.frame B hB fun b L k _ hk => by rw [blk_dead] at hk; cases hk
            have hmono : ∀ b L', m b = some L' → upd m (tH j).length L b = some L' := by
              intro b L' hb
              unfold upd
              rw [if_neg]
              · exact hb
              · intro he; rw [he, hnone] at hb; cases hb
            have hV := I.vr.alloc R1.below E.size hw (l := (tH j).length) (L := L) (k := k) (by have := A.le (i := j + 1) (j := ops.size) (by omega) (Nat.le_refl _); omega) hnone hkb hfresh (R1.dom _ L hL).2
              ((R1.blks _ L k hL hblk).mono fun b L' hb => cutM_of (hup b L' hb).2 (hup b L' hb).1)
            refine ih _ q _ _ w1 (I.mark hreg hr hE hmono (hv.mono fun b L' hb => (hup b L' hb).1) hV (fun b L' hb => ?_) h0 E.size hw) hfuel
            unfold upd at hb
            split at hb
            · rename_i he
              cases hb
              exact .inr ⟨by omega, by omega, hfresh⟩
            · exact .inl hb
theorem getD_replicate (n i : Nat) : (Array.replicate n false).getD i false = false := by
  unfold Array.getD
  split
  · simp
  · rfl
theorem draw_ok {P : Program} {call : CallF} (hcall : CallOK P call) : DrawOK P call := by
  intro ops hreg R T H K r h
  obtain ⟨tT, tH, sk, vl, h0, h1, X, _, hK⟩ := evD_inv ops (befL [] ops.toList) ops.toList 0 T H [] [] (fun j => by simp) h
  simp only [Array.length_toList, Nat.zero_add] at hK
  subst h0 h1
  refine ⟨_, _, hK, fun B0 w0 m a w ds Q R0 hT hd hq => ?_⟩
  have A : Along ops tT tH m := ⟨fun i d hd => (X.lens hcall R0 hT i d hd).1, fun d hd b k' hb hk => by
      have := (X.lens hcall R0 hT 0 d (by omega)).2 b k' hb (by rw [Nat.zero_add]; exact hk)
      exact this, fun j s x hj hx => X.bel hcall R0 hT hj s x hx, fun b L hb => (R0.dom b L hb).1⟩
  obtain ⟨q, _, hq1, hq2, hq3⟩ := nextE (ops := ops) (sk := sk) 0 ops.size (by omega)
  have hsame := X.same 0 q (by omega) (fun e h1 h2 => hq2 e h1 (by omega))
  rw [Nat.zero_add] at hsame
  have hle := A.le hq1 (Nat.le_refl _)
  refine Inv.any hcall hreg X A hq ops.size _ q m a w ⟨by simp, fun j o ho hD => (by have hD' : (Array.replicate ops.size false).getD j false = true := hD; rw [getD_replicate] at hD'; cases hD'), hq1, fun hlt => ⟨hq3 hlt, getD_replicate _ _⟩, fun e he hE => ?_, ?_, hd, ?_, fun b L hb => .inl (R0.dom b L hb).1, fun _ _ h => h, Nat.le_refl _, fun b L hb => .inl hb, fun _ _ _ => rfl⟩ ?_
  · have := hq2 e (Nat.zero_le _) he
    rw [hE] at this
    cases this
  · have e1 : svL ops vl (tT 0) (fun i => (Array.replicate ops.size false).getD i false) = tT 0 := by
      apply List.ext_getElem?
      intro s
      rcases Nat.lt_or_ge s (tT 0).length with hs | hs
      · have e2 : (svL ops vl (tT 0) (fun i => (Array.replicate ops.size false).getD i false))[s]? = some (AM.sv ops vl (tT 0) (fun i => (Array.replicate ops.size false).getD i false) ops.size s) := by
          unfold svL; rw [List.getElem?_map, List.getElem?_range hs]; rfl
        have e3 := sv_cut (ops := ops) (vl := vl) (T0 := tT 0) (D := fun i => (Array.replicate ops.size false).getD i false) (s := s) (i := 0) ops.size fun j _ _ _ => getD_replicate _ _
        rw [Nat.zero_add] at e3
        rw [e2, e3]
        unfold AM.sv
        rw [List.getD_eq_getElem?_getD, List.getElem?_eq_getElem hs]
        rfl
      · rw [List.getElem?_eq_none (by rw [svL_length]; exact hs), List.getElem?_eq_none hs]
    rw [e1]
    exact hT
  · have kb0 : ∀ b, b < (tH 0).length → kb tH ops.size q b = blk (tH 0) b := fun b hb => by rw [kb_lt (by omega)]; exact hsame.2 b hb
    have hcut : ∀ l, (tH 0).length ≤ l → ∀ b L, m b = some L → cutM m l b = some L := fun l hl b L hb => cutM_of (by have := (R0.dom b L hb).1; omega) hb
    refine ⟨R0.below, R0.hB, fun b L hb => ⟨by have := (R0.dom b L hb).1; omega, (R0.dom b L hb).2⟩, fun b L k hb hk => ?_, fun b1 b2 L1 L2 k1 k2 hm1 hm2 hk1 hk2 hne hbb => ?_⟩
    · rw [kb0 b (R0.dom b L hb).1] at hk
      exact (R0.blks b L k hb hk).mono (hcut _ (by omega))
    · rw [kb0 b1 (R0.dom b1 L1 hm1).1] at hk1
      rw [kb0 b2 (R0.dom b2 L2 hm2).1] at hk2
      exact R0.inj b1 b2 L1 L2 k1 k2 hm1 hm2 hk1 hk2 hne hbb
  · unfold left
    exact Nat.le_trans (List.length_filter_le _ _) (by simp)
end
/-- What the evaluator tells of a call, the machine comes to. -/
theorem run_ok {P : Program} (hmix : P.follows .mixedOrders = true) {tbs : FuncId → Tbl} (hrg : RangesOK P tbs) {gv : Given} (hgv : GivenOK P gv) (k : Nat) : CallOK P (run P tbs gv k) := run_sound (fun _ h => draw_ok h) hmix hrg hgv k
end Go.AM
set_option linter.unusedVariables false
set_option linter.unusedSimpArgs false
namespace Go.AM
open Go.ChangeShapes Go.WideShapes Go.Deep Go.RowKit
variable {P : Program}

structure Ro (P : Program) (W : World) (m : Mp) (H : AH) : Prop where
  rel : Rel P W.heap.size W m H W
  ro : ∀ b k, blk H b = some k → k.kind = .ro
def Sub (m m' : Mp) : Prop := ∀ b L, m b = some L → m' b = some L
theorem Sub.refl (m : Mp) : Sub m m := fun _ _ h => h
theorem Sub.trans {a b c : Mp} (h : Sub a b) (k : Sub b c) : Sub a c := fun x L hx => k x L (h x L hx)
theorem Ro.empty (W : World) : Ro P W (fun _ => none) [] :=
  ⟨⟨Below.refl _ _, Nat.le_refl _, fun _ _ h => (by cases h), fun _ _ _ h => (by cases h), fun _ _ _ _ _ _ h => (by cases h)⟩, fun b k h => (by simp [blk] at h)⟩
def SlOK (W : World) (cs : List Value) : Prop := ∀ a len cap, Value.slice (some a) len cap ∈ cs → a.spot = none ∧ ∃ c e fr, W.heap[a.block]? = some (.cells c e fr)

/-- One more that came in. -/
theorem Ro.add {W : World} {m : Mp} {H : AH} {ks : List Value} {e : TypeId} {bl base : Nat} {c : Array Value} {te : TypeId} {fr : Nat × Nat} (R : Ro P W m H) (hb : W.heap[bl]? = some (.cells c te fr))
    (hl : LRel m ks ((c.toList.drop base).take ks.length)) :
    ∃ m' : Mp, Sub m m' ∧ m' H.length = some ⟨bl, base, .ro, 0, 0⟩ ∧ Ro P W m' (mkB H ks e .ro) := by
  refine ⟨fun b => if b = H.length then some ⟨bl, base, .ro, 0, 0⟩ else m b, ?_, if_pos rfl, ?_⟩
  · intro b L h
    have := (R.rel.dom b L h).1
    show (if b = H.length then _ else m b) = _
    rw [if_neg (by omega)]; exact h
  have hsub : Sub m (fun b => if b = H.length then some ⟨bl, base, .ro, 0, 0⟩ else m b) := by
    intro b L h
    have := (R.rel.dom b L h).1
    show (if b = H.length then _ else m b) = _
    rw [if_neg (by omega)]; exact h
  have hro : ∀ b k, blk (mkB H ks e .ro) b = some k → k.kind = .ro := by
    intro b k h
    by_cases hbn : b < H.length
    · rw [blk_mkB_old hbn] at h; exact R.ro b k h
    · have := blk_lt h
      rw [length_mkB] at this
      have : b = H.length := by omega
      subst this
      rw [blk_mkB_new] at h; cases h; rfl
  refine ⟨⟨R.rel.below, R.rel.hB, ?_, ?_, ?_⟩, hro⟩
  · intro b L h
    replace h : (if b = H.length then some _ else m b) = some L := h
    rw [length_mkB]
    by_cases hb2 : b = H.length
    · rw [if_pos hb2] at h; cases h
      exact ⟨by omega, (Array.getElem?_eq_some_iff.1 hb).1⟩
    · rw [if_neg hb2] at h
      have := R.rel.dom b L h
      exact ⟨by omega, this.2⟩
  · intro b L k h hk
    replace h : (if b = H.length then some _ else m b) = some L := h
    by_cases hb2 : b = H.length
    · rw [if_pos hb2] at h; cases h
      subst hb2
      rw [blk_mkB_new] at hk; cases hk
      exact ⟨rfl, fun _ => ⟨c, te, fr, hb, hl.mono hsub, fun hh => absurd rfl hh, fun hh => (by cases hh), fun hh => (by cases hh), fun hh => (by cases hh), fun hh => (by cases hh)⟩, fun hh => (by cases hh), fun _ _ hh => (by cases hh), fun hh => absurd rfl hh, fun hh => (by cases hh)⟩
    · rw [if_neg hb2] at h
      have hlt := (R.rel.dom b L h).1
      rw [blk_mkB_old hlt] at hk
      have h1 := R.rel.blks b L k h hk
      exact h1.at hsub rfl
  · intro b1 b2 L1 L2 k1 k2 _ _ h1 _ hne _
    exact absurd (hro b1 k1 h1) hne

/-- A kind of datum over the abstract heap. -/
structure Kn (α : Type) where
  K : AH → α → List Value → Prop
  mono : ∀ {H H' : AH} {a : α} {cs : List Value}, Mo H H' → K H a cs → K H' a cs
def Kn.int (k : IntKind) : Kn Int := ⟨fun _ n cs => cs = [.int k n], fun _ h => h⟩
def Kn.bool : Kn Bool := ⟨fun _ n cs => cs = [.bool n], fun _ h => h⟩
def Kn.string : Kn ByteArray := ⟨fun _ n cs => cs = [.string n], fun _ h => h⟩
/-- A slice that came in. -/
def Kn.slice {α : Type} (e : TypeId) (sz : Nat) (d : Kn α) : Kn (List α) :=
  ⟨fun H l cs => (cs = [.slice none 0 0] ∧ l = []) ∨ ∃ (b : Nat) (css : List (List Value)), cs = [sl b 0 l.length (l.length + 1)] ∧ blk H b = some ⟨css.flatten, e, .ro⟩ ∧ css.length = l.length ∧ ∀ (i : Nat) (a : α) (c : List Value), l[i]? = some a → css[i]? = some c → c.length = sz ∧ d.K H a c,
   by
    intro H H' l cs hm h
    rcases h with h | ⟨b, css, h1, h2, h3, h4⟩
    · exact .inl h
    · exact .inr ⟨b, css, h1, hm _ _ h2, h3, fun i a c h5 h6 => ⟨(h4 i a c h5 h6).1, d.mono hm (h4 i a c h5 h6).2⟩⟩⟩
/-- What follows from a cells' list: each is one. -/
def OpA (P : Program) (t : TypeId) {α : Type} (d : Kn α) (G : α → Prop) : Prop :=
  ∀ (Hh : Type) (enc : TypeId × Value → Hh) (W : World) (spare : Nat → Bool) (held : Bool) (fuel : Nat) (cs : List Value) (x : DataW Hh × List MemPlace),
    DataW.trod enc P W 0 spare held fuel t cs = some x → SlOK W cs → ∀ (m : Mp) (H : AH), Ro P W m H →
    ∃ m' H' cs' a, Ro P W m' H' ∧ Sub m m' ∧ Fr H H' ∧ LRel m' cs' cs ∧ d.K H' a cs' ∧ G a
theorem LRel.one {m : Mp} {x y : Value} (h : VRel m x y) : LRel m [x] [y] := LRel.cons h (LRel.nil m)
theorem opA_int {t : TypeId} {k : IntKind} (ht : P.underlying t = some (.int k)) : OpA P t (Kn.int k) (fun n => (Lit.int k n).wf = true) := by
  intro Hh enc W spare held fuel cs x h _ m H R
  obtain ⟨n, rfl, _, hw⟩ := DataW.trod_int ht h
  exact ⟨m, H, _, n, R, Sub.refl m, Fr.refl H, LRel.one (.flat _ rfl), rfl, hw⟩
theorem opA_string {t : TypeId} (ht : P.underlying t = some .string) : OpA P t Kn.string (fun s => s.size ≤ maxLen) := by
  intro Hh enc W spare held fuel cs x h _ m H R
  obtain ⟨n, rfl, _, hw⟩ := DataW.trod_string ht h
  exact ⟨m, H, _, n, R, Sub.refl m, Fr.refl H, LRel.one (.flat _ rfl), rfl, hw⟩
theorem slOK_cell {W : World} {base : Nat} {u : TypeId} {a : Addr} {len cap : Nat} (h : Cell.okWide P W .any base u (.slice (some a) len cap)) : a.spot = none ∧ ∃ c e fr, W.heap[a.block]? = some (.cells c e fr) := by
  have hc : ∃ e n, W.has P .any base a e n := by
    unfold Cell.okWide at h
    cases hu : P.underlying u with
    | none => rw [hu] at h; simp [Cell.ok, hu] at h
    | some D =>
      rw [hu] at h
      cases D <;> simp [Cell.ok, hu] at h
      exact ⟨_, _, h.2.2⟩
  obtain ⟨e, n, hh⟩ := hc
  obtain ⟨_, h1, row, cells, h2, _⟩ := hh
  refine ⟨h1, ?_⟩
  unfold World.shape? at h2
  split at h2
  · rename_i c' e' fr' hb; exact ⟨c', e', fr', hb⟩
  · cases h2
theorem slOK_of {W : World} {base : Nat} {t : TypeId} {v : Value} (h : Value.okWide P W .any base t v) : SlOK W v.cells.toList := by
  intro a len cap hm
  have key : (∃ u, Cell.okWide P W .any base u (.slice (some a) len cap)) := by
    unfold Value.okWide at h
    split at h
    · obtain ⟨cs, rfl, _, ts, _, _, hr⟩ := h
      obtain ⟨i, hi⟩ := List.getElem?_of_mem hm
      obtain ⟨u, _, hu⟩ := hr i _ (by simpa [Value.cells] using hi)
      exact ⟨u, hu⟩
    · obtain ⟨cs, rfl, _, ts, _, _, hr⟩ := h
      obtain ⟨i, hi⟩ := List.getElem?_of_mem hm
      obtain ⟨u, _, hu⟩ := hr i _ (by simpa [Value.cells] using hi)
      exact ⟨u, hu⟩
    · cases v with
      | agg cs =>
        exfalso
        unfold Cell.okWide at h
        cases hu : P.underlying t with
        | none => rw [hu] at h; simp [Cell.ok, hu] at h
        | some D => rw [hu] at h; cases D <;> simp [Cell.ok, hu] at h
      | slice p l c =>
        simp [Value.cells] at hm
        obtain ⟨rfl, rfl, rfl⟩ := hm
        exact ⟨t, h⟩
      | _ => simp [Value.cells] at hm
  obtain ⟨u, hu⟩ := key
  exact slOK_cell hu
/-- An argument. -/
structure OpV (P : Program) (t : TypeId) {α : Type} (d : Kn α) (G : α → Prop) (KV : AH → α → Value → Prop) : Prop where
  op : OpA P t d G
  val : ∀ (W : World) (base : Nat) (v : Value), Value.okWide P W .any base t v → (∃ cs, v = .agg cs) ∧ (∀ H a cs, d.K H a cs → KV H a (.agg cs.toArray)) ∨ v.cells = #[v] ∧ (∀ H a v, d.K H a [v] → KV H a v)
  mono : ∀ {H H' : AH} {a : α} {v : Value}, Mo H H' → KV H a v → KV H' a v
def KvC {α : Type} (d : Kn α) (H : AH) (a : α) (v : Value) : Prop := d.K H a [v]
theorem opV_cell {t : TypeId} {D : TypeDesc} {α : Type} {d : Kn α} {G : α → Prop} (ht : P.underlying t = some D) (hD : (∀ fs, D ≠ .struct fs) ∧ ∀ n e, D ≠ .array n e) (A : OpA P t d G) : OpV P t d G (KvC d) := by
  refine ⟨A, fun W base v h => .inr ⟨?_, fun H a v h => h⟩, fun hm h => d.mono hm h⟩
  unfold Value.okWide at h
  rw [ht] at h
  have h' : Cell.okWide P W .any base t v := by
    cases D with
    | struct fs => exact absurd rfl (hD.1 fs)
    | array n e => exact absurd rfl (hD.2 n e)
    | _ => exact h
  cases v with
  | agg cs =>
    exfalso
    unfold Cell.okWide at h'
    rw [ht] at h'
    cases D <;> simp [Cell.ok, ht] at h'
  | _ => rfl
/-- All arguments. -/
structure OpAs (P : Program) (ts : List TypeId) {α : Type} (G : α → Prop) (KV : AH → α → List Value → Prop) : Prop where
  op : ∀ (Hh : Type) (enc : TypeId × Value → Hh) (W : World) (base : Nat) (spare : Nat → Bool) (held : Bool) (vs : List Value) (ds : List (DataW Hh)) (ps : List MemPlace),
    DataW.TrodAll enc P W 0 spare held ts vs ds ps → (∀ (j : Nat) t v, ts[j]? = some t → vs[j]? = some v → Value.okWide P W .any base t v) → ∀ (m : Mp) (H : AH), Ro P W m H →
    ∃ m' H' vs' a, Ro P W m' H' ∧ Sub m m' ∧ Fr H H' ∧ LRel m' vs' vs ∧ KV H' a vs' ∧ G a
  mono : ∀ {H H' : AH} {a : α} {vs : List Value}, Mo H H' → KV H a vs → KV H' a vs
theorem opAs_nil : OpAs P [] (fun _ : Unit => True) (fun _ _ vs => vs = []) := by
  refine ⟨?_, fun _ h => h⟩
  intro Hh enc W base spare held vs ds ps h _ m H R
  obtain ⟨rfl, rfl, rfl⟩ := trodAll_nil h
  exact ⟨m, H, [], (), R, Sub.refl m, Fr.refl H, LRel.nil m, rfl, trivial⟩
theorem opAs_cons {t : TypeId} {ts : List TypeId} {α β : Type} {d : Kn α} {G : α → Prop} {KV : AH → α → Value → Prop} {G' : β → Prop} {KV' : AH → β → List Value → Prop} (A : OpV P t d G KV) (B : OpAs P ts G' KV') :
    OpAs P (t :: ts) (fun x : α × β => G x.1 ∧ G' x.2) (fun H x vs => ∃ v vs', vs = v :: vs' ∧ KV H x.1 v ∧ KV' H x.2 vs') := by
  refine ⟨?_, fun hm ⟨v, vs', h1, h2, h3⟩ => ⟨v, vs', h1, A.mono hm h2, B.mono hm h3⟩⟩
  intro Hh enc W base spare held vs ds ps h hv m H R
  obtain ⟨v, vs', d0, ds', p, q, rfl, rfl, rfl, ⟨fuel, h0⟩, hr⟩ := trodAll_cons h
  have hok := hv 0 t v rfl rfl
  obtain ⟨m2, H2, us, y2, R2, s2, f2, l2, k2, g2⟩ := B.op Hh enc W base spare held vs' ds' q hr (fun j t' v' h1 h2 => hv (j + 1) t' v' h1 h2) m H R
  obtain ⟨m1, H1, cs', y1, R1, s1, f1, l1, k1, g1⟩ := A.op Hh enc W spare held fuel _ _ h0 (slOK_of hok) m2 H2 R2
  rcases A.val W base v hok with ⟨⟨cs, rfl⟩, hk⟩ | ⟨hc, hk⟩
  · exact ⟨m1, H1, .agg cs'.toArray :: us, (y1, y2), R1, s2.trans s1, f2.trans f1, LRel.cons (VRel.aggL (by simpa [Value.cells] using l1)) (l2.mono s1), ⟨_, _, rfl, hk _ _ _ k1, B.mono f1.mo k2⟩, g1, g2⟩
  · rw [hc] at l1
    obtain ⟨x, rfl⟩ : ∃ x, cs' = [x] := List.length_eq_one_iff.1 l1.1
    exact ⟨m1, H1, x :: us, (y1, y2), R1, s2.trans s1, f2.trans f1, LRel.cons (l1.2 0 x v rfl rfl) (l2.mono s1), ⟨_, _, rfl, hk _ _ _ k1, B.mono f1.mo k2⟩, g1, g2⟩
theorem rgFind_mem : ∀ (l : List (Array Tmp × Code × Code)) (x : Array Tmp × Code × Code), nodupB (l.map fun x => firstId x.2.2) = true → x ∈ l → rgFind (firstId x.2.2) l = some x
  | [], x, _, h => by cases h
  | y :: l, x, hn, h => by
    simp only [List.map_cons, nodupB, Bool.and_eq_true, Bool.not_eq_true'] at hn
    unfold rgFind
    cases h with
    | head => simp
    | tail _ h =>
      have hne : (firstId y.2.2 == firstId x.2.2) = false := by
        cases he : firstId y.2.2 == firstId x.2.2 with
        | false => rfl
        | true =>
          exfalso
          have h1 : firstId y.2.2 = firstId x.2.2 := by simpa using he
          have h2 : (l.map fun x => firstId x.2.2).contains (firstId y.2.2) = true := by
            rw [List.contains_iff_mem, h1]
            exact List.mem_map.2 ⟨x, h, rfl⟩
          rw [h2] at hn
          cases hn.1
      rw [hne]
      exact rgFind_mem l x hn.2 h
theorem ranges_go {tbs : FuncId → Tbl} : ∀ (l : List Func) (i : Nat), rangesGo tbs i l = true → ∀ (j : Nat) (fn : Func) (c : Code), l[j]? = some fn → fn.body = some c → rgs c = [] ∨ (fidOf (tbs (i + j)) = i + j ∧ nodupB ((rgs c).map fun x => firstId x.2.2) = true)
  | [], i, _, j, fn, c, h, _ => by simp at h
  | f0 :: l, i, h, 0, fn, c, hj, hc => by
    simp only [List.getElem?_cons_zero, Option.some.injEq] at hj
    subst hj
    simp only [rangesGo, hc, Bool.and_eq_true, Bool.or_eq_true] at h
    rcases h.1 with h1 | h1
    · exact .inl (List.isEmpty_iff.1 h1)
    · exact .inr ⟨by simpa using h1.1, h1.2⟩
  | f0 :: l, i, h, j + 1, fn, c, hj, hc => by
    simp only [rangesGo, Bool.and_eq_true] at h
    have := ranges_go l (i + 1) h.2 j fn c (by simpa using hj) hc
    rwa [show i + 1 + j = i + (j + 1) by omega] at this
theorem ranges_ok {P : Program} {tbs : FuncId → Tbl} (h : rangesB P tbs = true) : RangesOK P tbs := by
  intro f fn c hf hc
  rcases ranges_go _ 0 h f fn c (by rw [Array.getElem?_toList]; exact hf) hc with h1 | ⟨h1, h2⟩
  · exact .inl h1
  · rw [Nat.zero_add] at h1
    refine .inr ⟨h1, fun x hx => ?_⟩
    unfold rangeAt
    rw [hf, Option.bind_some, hc, Option.bind_some]
    exact rgFind_mem _ x h2 hx
/-- Behind a call: nothing that was there is another. -/
theorem walk_of {W : World} {f : FuncId} {args vs : List Value} {m : Mp} {H H' : AH} {v : Value} {call : CallF} (hc : CallOK P call) (R : Ro P W m H) (hl : LRel m args vs) (h : call f args H = some (v, H')) (hf : flat1 v = true) (hy : f < yOff := by unfold yOff; omega) :
    Calls P f vs.toArray W fun e W' => e = .returned v ∧ Below W.heap.size W W' := by
  refine ((hc.1 f args H v H' hy h).2 W.heap.size W m W vs R.rel hl).mono fun e w' ⟨m', v', he, hv, hr, _⟩ => ?_
  rw [VRel.flat_inv hf hv] at he
  exact ⟨he, hr.below⟩
end Go.AM
set_option linter.unusedVariables false
set_option linter.unusedSimpArgs false
set_option maxRecDepth 100000
namespace Go.AM.Q
open Go Go.AM Go.Proofs
attribute [local irreducible] run bin un ld st box newV mkS fldA fld ixA ix slc slc3 build buildS cv cvS ap cpy lenV gOp pickV b2 aIf aChk evalK resume iterD Option.bind

section
variable {B B0 H0 H : AH} {L : List (Nat × Blk)}
end
end Go.AM.Q
set_option linter.unusedVariables false
set_option linter.unusedSimpArgs false
namespace Go.AM
theorem xorB {P : Program} {t : TypeId} {a b : Nat} (h : a < 256 ∧ b < 256) : bin P .xor t (u8 a) (u8 b) = some (u8 (a ^^^ b)) := by
  have h0 : bin P .xor t (u8 a) (u8 b) = some (.int .u8 (IntKind.u8.wrap (BitVec.ofInt IntKind.u8.bits (a : Int) ^^^ BitVec.ofInt IntKind.u8.bits (b : Int)).toNat)) := bin_int (by simp [binOp, Op.intBits, still]; rfl) rfl
  have e : (BitVec.ofInt IntKind.u8.bits (a : Int) ^^^ BitVec.ofInt IntKind.u8.bits (b : Int)).toNat = a ^^^ b := by
    rw [BitVec.toNat_xor, BitVec.ofInt_natCast, BitVec.ofInt_natCast, BitVec.toNat_ofNat, BitVec.toNat_ofNat, show 2 ^ IntKind.u8.bits = 256 from rfl, Nat.mod_eq_of_lt h.1, Nat.mod_eq_of_lt h.2]
  have hlt : a ^^^ b < 2 ^ 8 := Nat.xor_lt_two_pow h.1 h.2
  rw [h0, e, wrapu8]
  congr 2
  omega
theorem shlB {P : Program} {t : TypeId} {r : Nat} {k : IntKind} (h : r < 8) : bin P .shl t (.int .u8 1) (.int k (r : Int)) = some (u8 (2 ^ r)) := by
  rw [bin_shl (by omega), show min (r : Int).toNat IntKind.u8.bits = r by rw [Int.toNat_natCast, show IntKind.u8.bits = 8 from rfl]; omega, Int.one_mul, wrapu8]
  have hp : (2 : Nat) ^ r < 256 := Nat.pow_lt_pow_right (a := 2) (m := r) (n := 8) (by decide) h
  congr 2
  have e : ((2 : Int) ^ r) = ((2 ^ r : Nat) : Int) := by rw [Int.natCast_pow]; rfl
  rw [e]
  generalize (2 : Nat) ^ r = q at hp ⊢
  omega
theorem Ev.bytesOf {P : Program} {R : Type} {d e : TypeId} {B0 H0 B H : AH} {L : List (Nat × Blk)} {s : List UInt8} {f : Nat → Nat → Value → AH → Option R} {Q : R → Prop}
    (hd : P.underlying d = some (.slice e)) (he : P.underlying e = some (.int .u8)) (hsz : szT P e = 1) (hi : (P.info? e).isSome = true) (h0 : 0 < s.length) (hS : St H0 B0 B L H)
    (h : ∀ b H', St H0 B0 B ((b, ⟨byts s, e, .byt⟩) :: L) H' → Ev (fun k n => f k n (sl b 0 s.length (s.length + 1)) H') Q) : Ev (fun k n => Go.AM.b2 (cvB P d H (str s)) (f k n)) Q := by
  have e1 : cvB P d H (str s) = some (sl H.length 0 s.length (s.length + 1), mkB H (byts s) e .byt) := by
    unfold cvB
    rw [hd]
    show (match P.underlying e with | some (.int .u8) => _ | _ => none) = _
    rw [he]
    have e2 : (⟨s.toArray⟩ : ByteArray).size = s.length := rfl
    dsimp only
    rw [e2, if_pos ⟨h0, hsz, hi⟩]
    have e3 : cellsOfBytes ⟨s.toArray⟩ = byts s := by unfold cellsOfBytes byts; simp
    rw [e3]
  exact Ev.prim2 e1 (h H.length _ (hS.mkB' (byts s) e .byt))
theorem pow_xor (a x y : Nat) : 2 ^ a * x ^^^ 2 ^ a * y = 2 ^ a * (x ^^^ y) := by
  apply Nat.eq_of_testBit_eq
  intro i
  rw [Nat.testBit_xor, Nat.testBit_two_pow_mul, Nat.testBit_two_pow_mul, Nat.testBit_two_pow_mul, Nat.testBit_xor]
  by_cases h : i ≥ a
  · rw [decide_eq_true h]; rfl
  · rw [decide_eq_false h]; rfl
/-- What stands after i bits of a burst. -/
structure Burst (s : List UInt8) (at_ i : Nat) (w : List UInt8) (X : Nat) : Prop where
  len : w.length = 128
  tail : w.drop 124 = s.drop 124
  head : le (w.take 124) = le (s.take 124) ^^^ 2 ^ at_ * X
  lt : X < 2 ^ i
  ne : i ≠ 0 → X ≠ 0
theorem Burst.keep {s w : List UInt8} {at_ i X : Nat} (h : Burst s at_ i w X) (hi : i ≠ 0) : Burst s at_ (i + 1) w X :=
  ⟨h.len, h.tail, h.head, Nat.lt_of_lt_of_le h.lt (Nat.pow_le_pow_right (by decide) (Nat.le_succ i)), fun _ => h.ne hi⟩
theorem Burst.flip {s w : List UInt8} {at_ i X : Nat} {b : UInt8} (h : Burst s at_ i w X) (hp : at_ + i < 992) (hb : b.toNat = (w.getD ((at_ + i) / 8) 0).toNat ^^^ 2 ^ ((at_ + i) % 8)) :
    Burst s at_ (i + 1) (w.set ((at_ + i) / 8) b) (X ^^^ 2 ^ i) := by
  have hj : (at_ + i) / 8 < 124 := by omega
  have hlt := h.lt
  refine ⟨by rw [List.length_set]; exact h.len, ?_, ?_, ?_, fun _ => ?_⟩
  · rw [List.drop_set_of_lt hj]; exact h.tail
  · have e : (w.set ((at_ + i) / 8) b).take 124 = (w.take 124).set ((at_ + i) / 8) b := by rw [List.take_set]
    rw [e, le_flip (by rw [List.length_take, h.len]; omega) (by
      rw [hb]
      congr 2
      rw [List.getD_eq_getElem?_getD, List.getD_eq_getElem?_getD, List.getElem?_take, if_pos hj]), h.head, Nat.xor_assoc, Nat.pow_add, pow_xor]
  · exact Nat.xor_lt_two_pow (Nat.lt_of_lt_of_le hlt (Nat.pow_le_pow_right (by decide) (Nat.le_succ i))) (Nat.pow_lt_pow_right (by decide) (Nat.lt_succ_self i))
  · intro e
    have e2 := congrArg (fun n => n.testBit i) e
    simp only [Nat.testBit_xor, Nat.testBit_two_pow_self, Nat.zero_testBit, Nat.testBit_lt_two_pow hlt] at e2
    cases e2
theorem Burst.start {s : List UInt8} {at_ : Nat} (h : s.length = 128) : Burst s at_ 0 s 0 := ⟨h, rfl, by rw [Nat.mul_zero, Nat.xor_zero], by decide, fun h => absurd rfl h⟩
/-- A page whose bits are turned is none. -/
theorem Burst.bad {s w : List UInt8} {at_ i X : Nat} (hs : le4 (crc (s.take 124)) = s.drop 124) (hl : s.length = 128) (h : Burst s at_ i w X) (hi : i ≠ 0) (h32 : i ≤ 32) (ha : at_ < 992) : openR w = (0, [], 10) := by
  have hx : X < 4294967296 := Nat.lt_of_lt_of_le h.lt (show 2 ^ i ≤ 2 ^ 32 from Nat.pow_le_pow_right (by decide) h32)
  have hc := crc_burst (l := s.take 124) (l' := w.take 124) (p := at_) (by rw [List.length_take, List.length_take, h.len, hl]) h.head hx (h.ne hi) (by rw [List.length_take, hl]; omega)
  unfold openR
  rw [if_neg (by rw [h.len]; decide), if_pos]
  rw [h.tail, ← hs]
  intro e
  exact hc (le4_inj (crc_lt _) (crc_lt _) e)
theorem sum_bad {s : List UInt8} {j : Nat} {b : UInt8} (hs : le4 (crc (s.take 124)) = s.drop 124) (hl : s.length = 128) (hj : 124 ≤ j ∧ j < 128) (hb : b ≠ s.getD j 0) : openR (s.set j b) = (0, [], 10) := by
  unfold openR
  rw [if_neg (by rw [List.length_set, hl]; decide), if_pos]
  rw [List.take_set_of_le hj.1, hs]
  intro e
  have e2 := congrArg (fun l => l[j - 124]?) e
  simp only [List.getElem?_drop, show 124 + (j - 124) = j by omega] at e2
  rw [List.getElem?_set_self (by omega)] at e2
  apply hb
  rw [List.getD_eq_getElem?_getD, e2]
  rfl
theorem xor_ne {a r : Nat} : a ^^^ 2 ^ r ≠ a := by
  intro e
  have e2 := congrArg (fun n => n.testBit r) e
  simp only [Nat.testBit_xor, Nat.testBit_two_pow_self] at e2
  generalize a.testBit r = q at e2
  cases q <;> cases e2
theorem byts_set (w : List UInt8) (j n : Nat) (hn : n < 256) : (byts w).set j (u8 n) = byts (w.set j (UInt8.ofNat n)) := by
  unfold byts
  simp only [List.map_set, UInt8.toNat_ofNat', Nat.mod_eq_of_lt hn]
end Go.AM
set_option linter.unusedVariables false
set_option linter.unusedSimpArgs false
set_option maxRecDepth 100000
namespace Go.AM.Q
open Go Go.AM Go.Proofs
attribute [local irreducible] run bin un ld st box newV mkS fldA fld ixA ix slc slc3 build buildS cv cvS ap cpy lenV gOp pickV b2 aIf aChk evalK resume iterD Option.bind

section
variable {B B0 H0 H : AH} {L : List (Nat × Blk)}
theorem byts_get (w : List UInt8) (j : Nat) (h : j < w.length) : (byts w)[j]? = some (u8 (w.getD j 0).toNat) := by
  rw [List.getElem?_map, List.getElem?_map, List.getD_eq_getElem?_getD, List.getElem?_eq_getElem h]; rfl
theorem burst_loop {at_ b : Nat} {by_ : Int} {hv : Value} {s : List UInt8} (hat : at_ < 1024) :
    ∀ (m i : Nat) (H : AH) (w : List UInt8) (X : Nat), i + m = 32 → Burst s at_ i w X → St H0 B0 B ((b, ⟨byts w, 5, .byt⟩) :: L) H →
    Ev (fun k n => f5_L0 k (i64 at_) (.int .i64 by_) hv (sl b 0 128 129) (i64 i) n H) (fun o => ∃ H' w' X' i', o = (.exit 0, f5_X_L0 (i64 at_) hv (sl b 0 128 129), H') ∧ Burst s at_ i' w' X' ∧ i' ≤ 32 ∧ (at_ < 992 → i' ≠ 0) ∧ (992 ≤ at_ → w' = w) ∧ St H0 B0 B ((b, ⟨byts w', 5, .byt⟩) :: L) H') := by
  intro m
  induction m with
  | zero =>
    intro i H w X hi hI hS
    refine Ev.succ (fun k n => f5_L0_succ k _ _ _ _ _ n H) ?_
    repeat (first | refine Ev.s ?_ | refine Ev.newC fun _ _ _ => ?_ | refine Ev.boxC fun _ _ _ => ?_ | refine Ev.stC fun _ _ => ?_ | refine Ev.sc (by omega) ?_ | refine Ev.scg (by omega) ?_)
    rw [decide_eq_false (by omega)]
    repeat (first | refine Ev.s ?_ | refine Ev.newC fun _ _ _ => ?_ | refine Ev.boxC fun _ _ _ => ?_ | refine Ev.stC fun _ _ => ?_ | refine Ev.sc (by omega) ?_ | refine Ev.scg (by omega) ?_)
    exact Ev.ret ⟨H, w, X, i, rfl, hI, by omega, by omega, fun _ => rfl, hS⟩
  | succ m ih =>
    intro i H w X hi hI hS
    refine Ev.succ (fun k n => f5_L0_succ k _ _ _ _ _ n H) ?_
    repeat (first | refine Ev.s ?_ | refine Ev.newC fun _ _ _ => ?_ | refine Ev.boxC fun _ _ _ => ?_ | refine Ev.stC fun _ _ => ?_ | refine Ev.sc (by omega) ?_ | refine Ev.scg (by omega) ?_)
    rw [decide_eq_true (by omega)]
    repeat (first | refine Ev.s ?_ | refine Ev.newC fun _ _ _ => ?_ | refine Ev.boxC fun _ _ _ => ?_ | refine Ev.stC fun _ _ => ?_ | refine Ev.sc (by omega) ?_ | refine Ev.scg (by omega) ?_)
    by_cases h2 : at_ + i < 992
    case neg =>
      rw [decide_eq_false h2]
      repeat (first | refine Ev.s ?_ | refine Ev.newC fun _ _ _ => ?_ | refine Ev.boxC fun _ _ _ => ?_ | refine Ev.stC fun _ _ => ?_ | refine Ev.sc (by omega) ?_ | refine Ev.scg (by omega) ?_)
      exact Ev.ret ⟨H, w, X, i, rfl, hI, by omega, by omega, fun _ => rfl, hS⟩
    rw [decide_eq_true h2]
    repeat (first | refine Ev.s ?_ | refine Ev.newC fun _ _ _ => ?_ | refine Ev.boxC fun _ _ _ => ?_ | refine Ev.stC fun _ _ => ?_ | refine Ev.sc (by omega) ?_ | refine Ev.scg (by omega) ?_)
    have hpw : 2 ^ ((at_ + i) % 8) < 256 := Nat.pow_lt_pow_right (a := 2) (m := (at_ + i) % 8) (n := 8) (by decide) (Nat.mod_lt _ (by decide))
    have hxl : (w.getD ((at_ + i) / 8) 0).toNat ^^^ 2 ^ ((at_ + i) % 8) < 256 := Nat.xor_lt_two_pow (n := 8) (u8_lt _) hpw
    by_cases h0 : i = 0
    · rw [decide_eq_true h0]
      repeat (first | refine Ev.s ?_ | refine Ev.newC fun _ _ _ => ?_ | refine Ev.boxC fun _ _ _ => ?_ | refine Ev.stC fun _ _ => ?_ | refine Ev.sc (by omega) ?_ | refine Ev.scg (by omega) ?_)
      refine Ev.prim (show ld Tryd.prog 5 H (ptr b ((at_ + i) / 8)) = some (u8 (w.getD ((at_ + i) / 8) 0).toNat) by
        rw [ld_blk (hS.get (.head _)), ldK_own (P := Tryd.prog) (t := 35) inferInstance]
        exact byts_get w _ (by have := hI.len; omega)) ?_
      repeat (first | refine Ev.s ?_ | refine Ev.newC fun _ _ _ => ?_ | refine Ev.boxC fun _ _ _ => ?_ | refine Ev.stC fun _ _ => ?_ | refine Ev.sc (by omega) ?_ | refine Ev.scg (by omega) ?_)
      refine Ev.prim (shlB (r := (at_ + i) % 8) (by omega)) ?_
      refine Ev.prim (xorB ⟨u8_lt _, hpw⟩) ?_
      repeat (first | refine Ev.s ?_ | refine Ev.newC fun _ _ _ => ?_ | refine Ev.boxC fun _ _ _ => ?_ | refine Ev.stC fun _ _ => ?_ | refine Ev.sc (by omega) ?_ | refine Ev.scg (by omega) ?_)
      refine Ev.st (P := Tryd.prog) hS (.head _) (stK_own (P := Tryd.prog) (t := 35) inferInstance (by rw [byts_len, hI.len]; omega) rfl) rfl (.head _) fun H1 hS1 => ?_
      rw [byts_set _ _ _ hxl] at hS1
      clear hS
      repeat (first | refine Ev.s ?_ | refine Ev.newC fun _ _ _ => ?_ | refine Ev.boxC fun _ _ _ => ?_ | refine Ev.stC fun _ _ => ?_ | refine Ev.sc (by omega) ?_ | refine Ev.scg (by omega) ?_)
      refine (ih (i + 1) H1 _ _ (by omega) (hI.flip (b := UInt8.ofNat ((w.getD ((at_ + i) / 8) 0).toNat ^^^ 2 ^ ((at_ + i) % 8))) h2 (by rw [UInt8.toNat_ofNat', Nat.mod_eq_of_lt hxl])) hS1).mono ?_
      rintro o ⟨H', w', X', i', g1, g2, g3, g4, g5, g6⟩
      exact ⟨H', w', X', i', g1, g2, g3, g4, fun h => absurd h (by omega), g6⟩
    · rw [decide_eq_false h0]
      repeat (first | refine Ev.s ?_ | refine Ev.newC fun _ _ _ => ?_ | refine Ev.boxC fun _ _ _ => ?_ | refine Ev.stC fun _ _ => ?_ | refine Ev.sc (by omega) ?_ | refine Ev.scg (by omega) ?_)
      refine Ev.gPrim (bin_shr (by omega)) rfl ?_
      repeat (first | refine Ev.s ?_ | refine Ev.newC fun _ _ _ => ?_ | refine Ev.boxC fun _ _ _ => ?_ | refine Ev.stC fun _ _ => ?_ | refine Ev.sc (by omega) ?_ | refine Ev.scg (by omega) ?_)
      refine Ev.gPrim (bin_rem (by decide)) rfl ?_
      generalize (by_.fdiv (2 ^ (min (i : Int).toNat IntKind.i64.bits))).tmod 2 = z
      repeat (first | refine Ev.s ?_ | refine Ev.newC fun _ _ _ => ?_ | refine Ev.boxC fun _ _ _ => ?_ | refine Ev.stC fun _ _ => ?_ | refine Ev.sc (by omega) ?_ | refine Ev.scg (by omega) ?_)
      by_cases hz : z = 0
      · rw [decide_eq_false (show ¬ z ≠ 0 from fun h => h hz)]
        repeat (first | refine Ev.s ?_ | refine Ev.newC fun _ _ _ => ?_ | refine Ev.boxC fun _ _ _ => ?_ | refine Ev.stC fun _ _ => ?_ | refine Ev.sc (by omega) ?_ | refine Ev.scg (by omega) ?_)
        refine (ih (i + 1) H w X (by omega) (hI.keep h0) hS).mono ?_
        rintro o ⟨H', w', X', i', g1, g2, g3, g4, g5, g6⟩
        exact ⟨H', w', X', i', g1, g2, g3, g4, fun h => absurd h (by omega), g6⟩
      · rw [decide_eq_true hz]
        repeat (first | refine Ev.s ?_ | refine Ev.newC fun _ _ _ => ?_ | refine Ev.boxC fun _ _ _ => ?_ | refine Ev.stC fun _ _ => ?_ | refine Ev.sc (by omega) ?_ | refine Ev.scg (by omega) ?_)
        refine Ev.prim (show ld Tryd.prog 5 H (ptr b ((at_ + i) / 8)) = some (u8 (w.getD ((at_ + i) / 8) 0).toNat) by
          rw [ld_blk (hS.get (.head _)), ldK_own (P := Tryd.prog) (t := 35) inferInstance]
          exact byts_get w _ (by have := hI.len; omega)) ?_
        repeat (first | refine Ev.s ?_ | refine Ev.newC fun _ _ _ => ?_ | refine Ev.boxC fun _ _ _ => ?_ | refine Ev.stC fun _ _ => ?_ | refine Ev.sc (by omega) ?_ | refine Ev.scg (by omega) ?_)
        refine Ev.prim (shlB (r := (at_ + i) % 8) (by omega)) ?_
        refine Ev.prim (xorB ⟨u8_lt _, hpw⟩) ?_
        repeat (first | refine Ev.s ?_ | refine Ev.newC fun _ _ _ => ?_ | refine Ev.boxC fun _ _ _ => ?_ | refine Ev.stC fun _ _ => ?_ | refine Ev.sc (by omega) ?_ | refine Ev.scg (by omega) ?_)
        refine Ev.st (P := Tryd.prog) hS (.head _) (stK_own (P := Tryd.prog) (t := 35) inferInstance (by rw [byts_len, hI.len]; omega) rfl) rfl (.head _) fun H1 hS1 => ?_
        rw [byts_set _ _ _ hxl] at hS1
        clear hS
        repeat (first | refine Ev.s ?_ | refine Ev.newC fun _ _ _ => ?_ | refine Ev.boxC fun _ _ _ => ?_ | refine Ev.stC fun _ _ => ?_ | refine Ev.sc (by omega) ?_ | refine Ev.scg (by omega) ?_)
        refine (ih (i + 1) H1 _ _ (by omega) (hI.flip (b := UInt8.ofNat ((w.getD ((at_ + i) / 8) 0).toNat ^^^ 2 ^ ((at_ + i) % 8))) h2 (by rw [UInt8.toNat_ofNat', Nat.mod_eq_of_lt hxl])) hS1).mono ?_
        rintro o ⟨H', w', X', i', g1, g2, g3, g4, g5, g6⟩
        exact ⟨H', w', X', i', g1, g2, g3, g4, fun h => absurd h (by omega), g6⟩
theorem burst_J1 {b : Nat} {w : List UInt8} (hl : w.length = 128) (hw : openR w = (0, [], 10)) (hS : St H0 B0 B ((b, ⟨byts w, 5, .byt⟩) :: L) H) :
    Ev (fun k _ => f5_J1 k (.bool true) (sl b 0 128 129) H) (fun r => r.1 = .bool true) := by
  refine Ev.eq (fun k _ => f5_J1_eq k _ _ H) ?_
  refine Ev.prim (cvS_part (d := 9) (bs := w) hS (.head _) (by omega) (by omega)) ?_
  rw [List.drop_zero, List.take_of_length_le (by omega)]
  refine Ev.b2 (Open_spec (b := w) (by omega) hS.drop1) ?_
  rintro _ H1 ⟨rfl, B1, hm1, hS1⟩
  rw [hw]
  unfold OpenV
  dsimp only
  repeat (first | (first | refine Ev.s ?_ | refine Ev.newC fun _ _ _ => ?_ | refine Ev.boxC fun _ _ _ => ?_ | refine Ev.stC fun _ _ => ?_ | refine Ev.sc (by omega) ?_ | refine Ev.scg (by omega) ?_) | rw [decide_eq_true (by omega)] | rw [decide_eq_false (by omega)])
  exact Ev.ret rfl
theorem burst_J0 {n : Nat} {by_ : Int} {s : List UInt8} (hs : le4 (crc (s.take 124)) = s.drop 124) (hl : s.length = 128) (hn : n < 9223372036854775808) (hS : St H0 B0 B L H) :
    Ev (fun k _ => f5_J0 k (i64 n) (.int .i64 by_) (.bool true) (str s) H) (fun r => r.1 = .bool true) := by
  refine Ev.eq (fun k _ => f5_J0_eq k _ _ _ _ H) ?_
  repeat (first | refine Ev.s ?_ | refine Ev.newC fun _ _ _ => ?_ | refine Ev.boxC fun _ _ _ => ?_ | refine Ev.stC fun _ _ => ?_ | refine Ev.sc (by omega) ?_ | refine Ev.scg (by omega) ?_)
  have hat := Nat.mod_lt n (show 0 < 1024 by decide)
  generalize n % 1024 = a at hat
  refine Ev.bytesOf (P := Tryd.prog) (by exact Tryd.underlying35) (by exact Tryd.underlying5) (by kernel_rfl) (by kernel_rfl) (by omega) hS fun b H1 hS1 => ?_
  rw [hl]
  refine Ev.bind (Ev.loop (burst_loop hat 32 0 H1 s 0 rfl (Burst.start hl) hS1)) ?_
  rintro _ ⟨H2, w, X, i, rfl, g1, g2, g3, g4, hS2⟩
  refine Ev.eq (fun k _ => f5_A0_x0 k _ _ _ H2) ?_
  clear hS hS1
  repeat (first | refine Ev.s ?_ | refine Ev.newC fun _ _ _ => ?_ | refine Ev.boxC fun _ _ _ => ?_ | refine Ev.stC fun _ _ => ?_ | refine Ev.sc (by omega) ?_ | refine Ev.scg (by omega) ?_)
  by_cases h1 : a < 992
  · rw [decide_eq_false (by omega)]
    repeat (first | refine Ev.s ?_ | refine Ev.newC fun _ _ _ => ?_ | refine Ev.boxC fun _ _ _ => ?_ | refine Ev.stC fun _ _ => ?_ | refine Ev.sc (by omega) ?_ | refine Ev.scg (by omega) ?_)
    exact burst_J1 g1.len (g1.bad hs hl (g3 h1) g2 h1) hS2
  · rw [decide_eq_true (by omega)]
    obtain rfl := g4 (by omega)
    have hpw : 2 ^ (a % 8) < 256 := Nat.pow_lt_pow_right (a := 2) (m := a % 8) (n := 8) (by decide) (Nat.mod_lt _ (by decide))
    have hxl : (w.getD (a / 8) 0).toNat ^^^ 2 ^ (a % 8) < 256 := Nat.xor_lt_two_pow (n := 8) (u8_lt _) hpw
    repeat (first | refine Ev.s ?_ | refine Ev.newC fun _ _ _ => ?_ | refine Ev.boxC fun _ _ _ => ?_ | refine Ev.stC fun _ _ => ?_ | refine Ev.sc (by omega) ?_ | refine Ev.scg (by omega) ?_)
    refine Ev.prim (show ld Tryd.prog 5 H2 (ptr b (a / 8)) = some (u8 (w.getD (a / 8) 0).toNat) by
      rw [ld_blk (hS2.get (.head _)), ldK_own (P := Tryd.prog) (t := 35) inferInstance]
      exact byts_get w _ (by omega)) ?_
    repeat (first | refine Ev.s ?_ | refine Ev.newC fun _ _ _ => ?_ | refine Ev.boxC fun _ _ _ => ?_ | refine Ev.stC fun _ _ => ?_ | refine Ev.sc (by omega) ?_ | refine Ev.scg (by omega) ?_)
    refine Ev.prim (shlB (r := a % 8) (by omega)) ?_
    refine Ev.prim (xorB ⟨u8_lt _, hpw⟩) ?_
    repeat (first | refine Ev.s ?_ | refine Ev.newC fun _ _ _ => ?_ | refine Ev.boxC fun _ _ _ => ?_ | refine Ev.stC fun _ _ => ?_ | refine Ev.sc (by omega) ?_ | refine Ev.scg (by omega) ?_)
    refine Ev.st (P := Tryd.prog) hS2 (.head _) (stK_own (P := Tryd.prog) (t := 35) inferInstance (by rw [byts_len, hl]; omega) rfl) rfl (.head _) fun H3 hS3 => ?_
    rw [byts_set _ _ _ hxl] at hS3
    refine burst_J1 (by rw [List.length_set]; exact hl) (sum_bad hs hl (by omega) ?_) hS3
    intro e
    have e2 := congrArg UInt8.toNat e
    rw [UInt8.toNat_ofNat', Nat.mod_eq_of_lt hxl] at e2
    exact xor_ne e2
theorem burst_law {kind a by_ : Int} {t : List UInt8} (ht : t.length < 9223372036854775808) (hk : -9223372036854775808 ≤ kind ∧ kind < 9223372036854775808) (ha : -9223372036854775808 ≤ a ∧ a < 9223372036854775808) (hL : Le B H) :
    Ev (fun k _ => rn k 5 [.int .i64 kind, str t, .int .i64 a, .int .i64 by_] H) (fun r => r.1 = .bool true) := by
  refine Ev.fn (fun k => f5_eq k _ _ _ _ H) ?_
  have hS := St.start hL
  refine Ev.b2 (examples_spec hS) ?_
  rintro _ H1 ⟨rfl, B1, hm1, hS1⟩
  dsimp only at hS1
  clear hS
  repeat (first | refine Ev.s ?_ | refine Ev.newC fun _ _ _ => ?_ | refine Ev.boxC fun _ _ _ => ?_ | refine Ev.stC fun _ _ => ?_ | refine Ev.sc (by omega) ?_ | refine Ev.scg (by omega) ?_)
  refine Ev.b2 (Seal_spec ht hk hS1) ?_
  rintro _ H2 ⟨rfl, B2, hm2, hS2⟩
  dsimp only at hS2
  clear hS1
  unfold SealV
  by_cases h0 : (sealR kind t).2 = 0
  case neg =>
    repeat (first | refine Ev.s ?_ | refine Ev.newC fun _ _ _ => ?_ | refine Ev.boxC fun _ _ _ => ?_ | refine Ev.stC fun _ _ => ?_ | refine Ev.sc (by omega) ?_ | refine Ev.scg (by omega) ?_)
    rw [decide_eq_true h0]
    repeat (first | refine Ev.s ?_ | refine Ev.newC fun _ _ _ => ?_ | refine Ev.boxC fun _ _ _ => ?_ | refine Ev.stC fun _ _ => ?_ | refine Ev.sc (by omega) ?_ | refine Ev.scg (by omega) ?_)
    exact Ev.ret rfl
  obtain ⟨n, rfl, n1, n9, nt, hs⟩ := sealR_ok h0
  rw [hs, h0]
  have hsl := seal_len (k := n) nt
  have hsum : le4 (crc ((sealL n t).take 124)) = (sealL n t).drop 124 := by rw [seal_take nt, seal_drop nt]
  generalize sealL n t = s at hsl hsum
  repeat (first | (first | refine Ev.s ?_ | refine Ev.newC fun _ _ _ => ?_ | refine Ev.boxC fun _ _ _ => ?_ | refine Ev.stC fun _ _ => ?_ | refine Ev.sc (by omega) ?_ | refine Ev.scg (by omega) ?_) | rw [decide_eq_true (by omega)] | rw [decide_eq_false (by omega)])
  by_cases h1 : a < 0
  · obtain ⟨m0, hm0⟩ : ∃ m0 : Nat, -(a + 1) = m0 := ⟨(-(a + 1)).toNat, by omega⟩
    repeat (first | (first | refine Ev.s ?_ | refine Ev.newC fun _ _ _ => ?_ | refine Ev.boxC fun _ _ _ => ?_ | refine Ev.stC fun _ _ => ?_ | refine Ev.sc (by omega) ?_ | refine Ev.scg (by omega) ?_) | rw [decide_eq_true (by omega)] | rw [decide_eq_false (by omega)])
    rw [show IntKind.i64.wrap (0 - (a + 1)) = (m0 : Int) by rw [wrap64 (by omega)]; omega]
    exact burst_J0 hsum hsl (by omega) hS2
  · obtain ⟨m0, rfl⟩ : ∃ m0 : Nat, a = m0 := ⟨a.toNat, by omega⟩
    repeat (first | (first | refine Ev.s ?_ | refine Ev.newC fun _ _ _ => ?_ | refine Ev.boxC fun _ _ _ => ?_ | refine Ev.stC fun _ _ => ?_ | refine Ev.sc (by omega) ?_ | refine Ev.scg (by omega) ?_) | rw [decide_eq_true (by omega)] | rw [decide_eq_false (by omega)])
    exact burst_J0 hsum hsl (by omega) hS2
theorem corePageBurst (H : AH) (vs : List Value) (x : Int × ByteArray × Int × Int × Unit) (hK : ∃ v0 vs0, vs = v0 :: vs0 ∧ KvC (Kn.int .i64) H x.1 v0 ∧ ∃ v1 vs1, vs0 = v1 :: vs1 ∧ KvC Kn.string H x.2.1 v1 ∧ ∃ v2 vs2, vs1 = v2 :: vs2 ∧ KvC (Kn.int .i64) H x.2.2.1 v2 ∧ ∃ v3 vs3, vs2 = v3 :: vs3 ∧ KvC (Kn.int .i64) H x.2.2.2.1 v3 ∧ vs3 = [])
    (hG : (Lit.int .i64 x.1).wf = true ∧ x.2.1.size ≤ maxLen ∧ (Lit.int .i64 x.2.2.1).wf = true ∧ (Lit.int .i64 x.2.2.2.1).wf = true ∧ True) (hw1 : ∀ s, vs[1]? = some (.string s) → s.size ≤ 140737488351232) : Ev (fun k _ => rn k 5 vs H) (fun r => r.1 = .bool true) := by
  obtain ⟨v0, _, rfl, h0, v1, _, rfl, h1, v2, _, rfl, h2, v3, _, rfl, h3, rfl⟩ := hK
  have h0 : [v0] = [.int .i64 x.1] := h0
  cases h0
  have h1 : [v1] = [.string x.2.1] := h1
  cases h1
  have h2 : [v2] = [.int .i64 x.2.2.1] := h2
  cases h2
  have h3 : [v3] = [.int .i64 x.2.2.2.1] := h3
  cases h3
  obtain ⟨g0, _, g2, g3, _⟩ := hG
  have hw1 := hw1 _ rfl
  rw [str_of x.2.1]
  refine burst_law (by rw [Array.length_toList]; exact Nat.lt_of_le_of_lt hw1 (by decide)) ?_ ?_ ⟨Mo.refl H⟩
  · simp [Lit.wf, IntKind.min, IntKind.max, IntKind.bits, IntKind.signed] at g0; omega
  · simp [Lit.wf, IntKind.min, IntKind.max, IntKind.bits, IntKind.signed] at g2; omega
end
end Go.AM.Q
