/-
  Facts of the abstract evaluator and of the functions that the law reaches, part 0. Conditions: none.
-/
import Derived.Orders
import Derived.Scope
import Derived.Below
import Derived.Laws.MakeOwn
import Derived.Laws.OwnMore
import Derived.Laws.BytesString
import Derived.Laws.CopyRow
import Derived.Lib.AppendZeros
import Derived.Lib.UnsafeStr
import Derived.Laws.Tables
import Derived.Test.YteolpiadibbcaaaProg
import Derived.KernelRfl
set_option linter.unusedVariables false
set_option linter.unusedSimpArgs false
set_option linter.unnecessarySimpa false
set_option exponentiation.threshold 200000
set_option maxRecDepth 100000
namespace Go.AM

/-- What is not known (a slot that nobody reads any more): no operation takes it. -/
def unk : Value := .chan (some 0)
def isCell : Value → Bool
  | .agg _ => false
  | .tuple _ => false
  | .chan _ => false
  | _ => true
def flat1 : Value → Bool
  | .bool _ => true
  | .int _ _ => true
  | .string _ => true
  | .float _ _ => true
  | .pointer none => true
  | .slice none 0 0 => true
  | .map none => true
  | .nilFunc => true
  | .nilIface => true
  | _ => false
def flat : Value → Bool
  | .agg cs => cs.toList.all flat1
  | v => flat1 v
def okCells : Value → Bool
  | .agg cs => cs.toList.all isCell
  | v => isCell v

inductive BK where
  | ro | fix | grow
  deriving DecidableEq
structure Blk where
  cells : List Value
  elem : TypeId
  kind : BK
abbrev AH := List (Option Blk)
def blk (H : AH) (b : Nat) : Option Blk := (H[b]?).bind id
def put (H : AH) (b : Nat) (k : Blk) (cs : List Value) : AH := H.set b (some ⟨cs, k.elem, k.kind⟩)
def kill (H : AH) (b : Nat) : AH := H.set b none
def mkB (H : AH) (cs : List Value) (e : TypeId) (kd : BK) : AH := H ++ [some ⟨cs, e, kd⟩]
def ptr (b off : Nat) : Value := .pointer (some ⟨b, off, none⟩)
def sl (b off len cap : Nat) : Value := .slice (some ⟨b, off, none⟩) len cap

def spl (xs : List Value) (off : Nat) (ys : List Value) : List Value := xs.take off ++ (ys ++ xs.drop (off + ys.length))
def rdN (k : Blk) (off n : Nat) : Option (List Value) := if off + n ≤ k.cells.length then some ((k.cells.drop off).take n) else none

def aggT (P : Program) (t : TypeId) : Option Bool :=
  match P.underlying t with
  | some (.struct _) => some true
  | some (.array _ _) => some true
  | some _ => some false
  | none => none
def szT (P : Program) (t : TypeId) : Nat := P.cellsOf t
def byT (P : Program) (t : TypeId) : Nat := P.bytesOf t
def zeroT (P : Program) (t : TypeId) : Option Value := (P.info? t).bind fun i => i.zero.bind fun z => if flat z then some z else none

def ldC (H : AH) (a : Value) : Option Value :=
  match a with
  | .pointer (some ⟨b, off, none⟩) => (blk H b).bind fun k => k.cells[off]?
  | _ => none
def ldA (n : Nat) (H : AH) (a : Value) : Option Value :=
  match a with
  | .pointer (some ⟨b, off, none⟩) => (blk H b).bind fun k => (rdN k off n).map fun cs => .agg cs.toArray
  | _ => none
def ld (P : Program) (t : TypeId) (H : AH) (a : Value) : Option Value :=
  match aggT P t with
  | some true => ldA (szT P t) H a
  | some false => ldC H a
  | none => none
def stC (H : AH) (a v : Value) : Option AH :=
  match a with
  | .pointer (some ⟨b, off, none⟩) => (blk H b).bind fun k => if k.kind ≠ .ro ∧ off < k.cells.length ∧ isCell v = true then some (put H b k (k.cells.set off v)) else none
  | _ => none
def stA (n : Nat) (H : AH) (a v : Value) : Option AH :=
  match a, v with
  | .pointer (some ⟨b, off, none⟩), .agg cs => (blk H b).bind fun k => if k.kind ≠ .ro ∧ off + n ≤ k.cells.length ∧ cs.size = n ∧ cs.toList.all isCell = true then some (put H b k (spl k.cells off cs.toList)) else none
  | _, _ => none
def st (P : Program) (t : TypeId) (H : AH) (a v : Value) : Option AH :=
  match aggT P t with
  | some true => stA (szT P t) H a v
  | some false => if szT P t = 1 then stC H a v else none
  | none => none
def box (t : TypeId) (H : AH) (v : Value) : Option (Value × AH) :=
  if okCells v = true then some (ptr H.length 0, mkB H v.cells.toList t .fix) else none
def newV (P : Program) (t : TypeId) (H : AH) : Option (Value × AH) := (zeroT P t).bind fun z => box t H z
def rep (z : List Value) : Nat → List Value
  | 0 => []
  | n + 1 => z ++ rep z n
def mkS (P : Program) (t : TypeId) (H : AH) (l c : Value) : Option (Value × AH) :=
  match P.underlying t, l, c with
  | some (.slice e), .int _ n, .int _ m =>
    (zeroT P e).bind fun z =>
      if 0 ≤ n ∧ n ≤ m ∧ m * byT P e ≤ 281474976710656 ∧ m ≤ 9223372036854775807 ∧ z.cells.size = szT P e ∧ okCells z = true then some (sl H.length 0 n.toNat m.toNat, mkB H (rep z.cells.toList m.toNat) e .fix) else none
  | _, _, _ => none

def fldA (P : Program) (s : TypeId) (a : Value) (i : Nat) : Option Value :=
  match P.underlying s, a with
  | some (.struct fs), .pointer (some ⟨b, off, none⟩) => (fs[i]?).bind fun f => if szT P f.type = 0 then none else some (ptr b (off + f.offset))
  | _, _ => none
def prt (P : Program) (t : TypeId) (cs : List Value) (off : Nat) : Option Value :=
  match aggT P t with
  | some true => some (.agg ((cs.drop off).take (szT P t)).toArray)
  | some false => cs[off]?
  | none => none
def fld (P : Program) (s : TypeId) (x : Value) (i : Nat) : Option Value :=
  match P.underlying s, x with
  | some (.struct fs), .agg cs => (fs[i]?).bind fun f => prt P f.type cs.toList f.offset
  | _, _ => none
def ixA (P : Program) (t : TypeId) (x i : Value) : Option Value :=
  match P.underlying t, x, i with
  | some (.slice e), .slice (some ⟨b, off, none⟩) len _, .int _ n => if (P.info? e).isSome = true ∧ 0 ≤ n ∧ n < len then some (ptr b (off + n.toNat * szT P e)) else none
  | some (.array len e), .pointer (some ⟨b, off, none⟩), .int _ n => if (P.info? e).isSome = true ∧ 0 ≤ n ∧ n < len then some (ptr b (off + n.toNat * szT P e)) else none
  | _, _, _ => none
def ix (P : Program) (t : TypeId) (x i : Value) : Option Value :=
  match P.underlying t, x, i with
  | some .string, .string s, .int _ n => if 0 ≤ n ∧ n < s.size then some (.int .u8 (s.data[n.toNat]?.getD 0).toNat) else none
  | some (.array len e), .agg cs, .int _ n => if (P.info? e).isSome = true ∧ 0 ≤ n ∧ n < len then prt P e cs.toList (n.toNat * szT P e) else none
  | _, _, _ => none
def intOr (v : Option Value) (d : Nat) : Option Int :=
  match v with
  | none => some d
  | some (.int _ n) => some n
  | some _ => none
def slc (P : Program) (t : TypeId) (x : Value) (lo hi : Option Value) : Option Value :=
  match P.underlying t, x with
  | some .string, .string s =>
    (intOr lo 0).bind fun l => (intOr hi s.size).bind fun h => if 0 ≤ l ∧ l ≤ h ∧ h ≤ s.size then some (.string (s.extract l.toNat h.toNat)) else none
  | some (.slice e), .slice (some ⟨b, off, none⟩) len cap =>
    (intOr lo 0).bind fun l => (intOr hi len).bind fun h => if (P.info? e).isSome = true ∧ 0 ≤ l ∧ l ≤ h ∧ h ≤ len then some (sl b (if cap = l.toNat then off else off + l.toNat * szT P e) (h.toNat - l.toNat) (cap - l.toNat)) else none
  | some (.slice e), .slice none 0 0 =>
    (intOr lo 0).bind fun l => (intOr hi 0).bind fun h => if (P.info? e).isSome = true ∧ l = 0 ∧ h = 0 then some (.slice none 0 0) else none
  | _, _ => none
/-- 's[:0:0]': no room behind it. -/
def slc3 (P : Program) (t : TypeId) (x : Value) (lo hi : Option Value) (mx : Value) : Option Value :=
  match P.underlying t, x, intOr lo 0, hi, mx with
  | some (.slice e), .slice (some ⟨b, off, none⟩) _ _, some 0, some (.int _ 0), .int _ 0 => if (P.info? e).isSome = true then some (sl b off 0 0) else none
  | some (.slice e), .slice none 0 0, some 0, some (.int _ 0), .int _ 0 => if (P.info? e).isSome = true then some (.slice none 0 0) else none
  | _, _, _, _, _ => none
def fillB (sizes : Nat → Option (Nat × Nat)) : List Value → List (Nat × Value) → Option (List Value)
  | cs, [] => some cs
  | cs, (i, v) :: r =>
    match sizes i with
    | none => none
    | some (off, n) => if v.cells.size = n ∧ off + n ≤ cs.length ∧ okCells v = true then fillB sizes (spl cs off v.cells.toList) r else none
def build (P : Program) (t : TypeId) (parts : List (Nat × Value)) : Option Value :=
  (zeroT P t).bind fun z =>
    match P.underlying t with
    | some (.struct fs) => if fs.toList.all (fun f => (P.info? f.type).isSome) = false then none else (fillB (fun i => (fs[i]?).map fun f => (f.offset, szT P f.type)) z.cells.toList parts).map fun cs => .agg cs.toArray
    | some (.array _ e) => if (P.info? e).isSome = false then none else (fillB (fun i => some (i * szT P e, szT P e)) z.cells.toList parts).map fun cs => .agg cs.toArray
    | _ => none
def buildS (P : Program) (t : TypeId) (H : AH) (len : Nat) (parts : List (Nat × Value)) : Option (Value × AH) :=
  match P.underlying t with
  | some (.slice e) =>
    (zeroT P e).bind fun z =>
      if len * szT P e ≤ 16777216 ∧ z.cells.size = szT P e then
        (fillB (fun i => some (i * szT P e, szT P e)) (rep z.cells.toList len) parts).map fun cs => (sl H.length 0 len len, mkB H cs e .fix)
      else none
  | _ => none

/-- What an operation tells that neither reads memory nor asks the tape. -/
def still (P : Program) {α : Type} : Sem α → Option α
  | .pure a => some a
  | .program k => still P (k P)
  | _ => none
def isNilI : Value → Bool
  | .nilIface => true
  | _ => false
/-- Against nil. -/
def nilEq : TypeDesc → Value → Value → Option Bool
  | .pointer _, .pointer (some _), .pointer none => some false
  | .pointer _, .pointer none, .pointer (some _) => some false
  | .slice _, .slice (some _) _ _, .slice none 0 0 => some false
  | .slice _, .slice none 0 0, .slice (some _) _ _ => some false
  | .func _ _ _, .func _ _ _, .nilFunc => some false
  | .func _ _ _, .nilFunc, .func _ _ _ => some false
  | _, _, _ => none
def bin (P : Program) (op : BinOp) (t : TypeId) (x y : Value) : Option Value :=
  if flat1 x = true ∧ flat1 y = true ∧ isNilI x = false then (still P (binOp op t x y)).bind fun v => if flat1 v = true then some v else none
  else match op with
    | .eql => (P.underlying t).bind fun D => (nilEq D x y).map fun b => .bool b
    | .neq => (P.underlying t).bind fun D => (nilEq D x y).map fun b => .bool !b
    | _ => none
def un (P : Program) (op : UnOp) (x : Value) : Option Value :=
  if flat1 x = true then (still P (Op.unary op x)).bind fun v => if flat1 v = true then some v else none else none
def bytesOf : List Value → Option (List UInt8)
  | [] => some []
  | .int .u8 n :: r => (bytesOf r).map fun l => UInt8.ofNat n.toNat :: l
  | _ :: _ => none
def cellsOfBytes (s : ByteArray) : List Value := s.data.toList.map fun b => .int .u8 b.toNat
def sliceCells (sz : Nat) (H : AH) (x : Value) (n : Nat) : Option (List Value) :=
  match x with
  | .slice none 0 0 => if n = 0 then some [] else none
  | .slice (some ⟨b, off, none⟩) len _ => if n = 0 then some [] else if n ≤ len then (blk H b).bind fun k => rdN k off (n * sz) else none
  | .string s => if n ≤ s.size then some ((cellsOfBytes s).take n) else none
  | _ => none
/-- Conversions that read no memory and make none. -/
def cv (P : Program) (src dst : TypeId) (x : Value) : Option Value :=
  match P.underlying src, P.underlying dst, x with
  | some _, some (.int k), .int _ n => some (.int k (k.wrap n))
  | some _, some .string, .string s => some (.string s)
  | _, _, _ => none
/-- A slice of bytes as a string. -/
def cvS (P : Program) (src dst : TypeId) (H : AH) (x : Value) : Option Value :=
  match P.underlying src, P.underlying dst, x with
  | some (.slice e), some .string, .slice a len cap =>
    match P.underlying e with
    | some (.int .u8) => (sliceCells 1 H (.slice a len cap) len).bind fun cs => (bytesOf cs).map fun l => .string ⟨l.toArray⟩
    | _ => none
  | _, _, _ => none
def isBytesToString (P : Program) (src dst : TypeId) : Bool :=
  match P.underlying src, P.underlying dst with
  | some (.slice _), some .string => true
  | _, _ => false

def lenOf : Value → Option Nat
  | .slice none 0 0 => some 0
  | .slice (some _) n _ => some n
  | .string s => some s.size
  | _ => none
def isNotStr : Value → Bool
  | .string _ => false
  | _ => true
def apS (sz bytes : Nat) (e : TypeId) (H : AH) (s : Value) (n : Nat) (news : List Value) : Option (Value × AH) :=
  match s with
  | .slice none 0 0 => if n = 0 then some (.slice none 0 0, H) else if n * bytes ≤ 140737488355328 ∧ n ≤ 9223372036854775807 then some (sl H.length 0 n (n + 1), mkB H news e .grow) else none
  | .slice (some ⟨b, off, none⟩) len cap =>
    if n = 0 then some (sl b off len cap, H)
    else if cap = 0 then (if n * bytes ≤ 140737488355328 ∧ n ≤ 9223372036854775807 then some (sl H.length 0 n (n + 1), mkB H news e .grow) else none)
    else (blk H b).bind fun k => (rdN k off (len * sz)).bind fun old =>
      if (len + n) * bytes ≤ 140737488355328 ∧ len + n ≤ 9223372036854775807 ∧ k.elem = e then
        match k.kind with
        | .ro => none
        | .fix =>
          if len + n ≤ cap then (if off + (len + n) * sz ≤ k.cells.length then some (sl b off (len + n) cap, put H b k (spl k.cells (off + len * sz) news)) else none)
          else some (sl H.length 0 (len + n) (len + n + 1), mkB H (old ++ news) e .grow)
        | .grow => if off = 0 then some (sl H.length 0 (len + n) (len + n + 1), mkB (kill H b) (old ++ news) e .grow) else none
      else none
  | _ => none
def ap (P : Program) (t u : TypeId) (H : AH) (s x : Value) : Option (Value × AH) :=
  match P.underlying t, P.underlying u with
  | some (.slice e), some (.slice _) => (zeroT P e).bind fun z => if 0 < szT P e ∧ z.cells.size = szT P e ∧ isNotStr x = true then (lenOf x).bind fun n => (sliceCells (szT P e) H x n).bind fun news => if news.all isCell = true then apS (szT P e) (byT P e) e H s n news else none else none
  | some (.slice e), some .string => (zeroT P e).bind fun z => if szT P e = 1 ∧ z.cells.size = szT P e then (lenOf x).bind fun n => (sliceCells (szT P e) H x n).bind fun news => if news.all isCell = true then apS (szT P e) (byT P e) e H s n news else none else none
  | some (.slice e), some (.int _) =>
    match s, x with
    | .slice none 0 0, .int _ n => (zeroT P e).bind fun z =>
      if szT P e = 1 ∧ z.cells.size = 1 ∧ 0 < n ∧ n ≤ 9223372036854775807 ∧ n * byT P e ≤ 140737488355328 then some (sl H.length 0 n.toNat (n.toNat + 1), mkB H (rep z.cells.toList n.toNat) e .grow) else none
    | _, _ => none
  | _, _ => none
def cpy (P : Program) (t : TypeId) (H : AH) (d x : Value) : Option (Value × AH) :=
  match P.underlying t, d with
  | some (.slice e), .slice (some ⟨b, off, none⟩) len _ =>
    if (P.info? e).isSome = false then none else (lenOf x).bind fun n => (sliceCells (szT P e) H x (min n len)).bind fun cs =>
      if min n len = 0 then some (.int .i64 0, H)
      else (blk H b).bind fun k => if k.kind ≠ .ro ∧ off + cs.length ≤ k.cells.length ∧ cs.all isCell = true then some (.int .i64 (min n len : Nat), put H b k (spl k.cells off cs)) else none
  | some (.slice e), .slice none 0 0 => if (P.info? e).isSome = false then none else (lenOf x).bind fun _ => some (.int .i64 0, H)
  | _, _ => none
/-- unsafe.SliceData, unsafe.String: what the string was read from is given up. -/
def sdV : Value → Option Value
  | .slice none 0 0 => some (.pointer none)
  | .slice (some ⟨b, off, none⟩) n _ => if n = 0 then none else some (.pointer (some ⟨b, off, none⟩))
  | _ => none
def usV (P : Program) (pt : TypeId) (H : AH) (p n : Value) : Option (Value × AH) :=
  match p, n with
  | .pointer none, .int .i64 0 => some (.string ⟨#[]⟩, H)
  | .pointer (some ⟨b, off, none⟩), .int .i64 n =>
    match P.underlying pt with
    | some (.pointer e) =>
      (blk H b).bind fun k => if 0 < n ∧ n ≤ 9223372036854775807 ∧ k.kind ≠ .ro ∧ k.elem = e ∧ szT P e = 1 then (rdN k off n.toNat).bind fun cs => (bytesOf cs).map fun l => (.string ⟨l.toArray⟩, kill H b) else none
    | _ => none
  | _, _ => none
def lenV (P : Program) (t : TypeId) (x : Value) : Option Value :=
  match P.underlying t, x with
  | some .string, .string s => some (.int .i64 s.size)
  | some (.slice _), .slice _ n _ => some (.int .i64 n)
  | some (.array n _), _ => some (.int .i64 n)
  | _, _ => none
/-- cap: of nil alone (no capacities are kept). -/
def capV (P : Program) (t : TypeId) (x : Value) : Option Value :=
  match P.underlying t, x with
  | some (.slice _), .slice none 0 0 => some (.int .i64 0)
  | _, _ => none
def minV (x y : Value) : Option Value :=
  match x, y with
  | .int k a, .int _ b => some (.int k (if b < a then b else a))
  | _, _ => none
def maxV (x y : Value) : Option Value :=
  match x, y with
  | .int k a, .int _ b => some (.int k (if b > a then b else a))
  | _, _ => none

def b2 {R : Type} (x : Option (Value × AH)) (f : Value → AH → Option R) : Option R := x.bind fun p => f p.1 p.2
abbrev CallF := FuncId → List Value → AH → Option (Value × AH)
def callV (call : CallF) (f : Value) (args : List Value) (H : AH) : Option (Value × AH) :=
  match f with
  | .func (.func g) first captured => call g (first.toList ++ (args ++ captured.toList)) H
  | _ => none
def aIf {R : Type} (v : Value) (x y : Option R) : Option R :=
  match v with
  | .bool true => x
  | .bool false => y
  | _ => none
/-- A guarded operation: done, or passed over. -/
def gOp (u : Value) (want : Bool) (x : Option (Value × AH)) (H : AH) : Option (Value × AH) :=
  match u with
  | .bool b => if b = want then x else some (undef, H)
  | .tuple vs => bif vs.size == 0 then some (undef, H) else none
  | _ => none
def pickV (c x y : Value) : Option Value :=
  match c with
  | .bool true => some x
  | .bool false => some y
  | _ => none
def ext (v : Value) (i : Nat) : Option Value :=
  match v with
  | .tuple vs => vs[i]?
  | _ => none
def nilChk (v : Value) : Option Value :=
  match v with
  | .pointer (some a) => some (.pointer (some a))
  | .func (.func f) a b => some (.func (.func f) a b)
  | _ => none
def opv (T : List Value) : Operand → Value
  | .tmp t => T.getD t undef
  | .const v => if flat v = true then v else unk
  | .global _ => unk
  | .func f => .func (.func f) #[] #[]
def fold1 (f : Value → Value → Option Value) : List Value → Option Value
  | [] => none
  | x :: r => go x r
where go : Value → List Value → Option Value
  | x, [] => some x
  | x, y :: r => (f x y).bind fun z => go z r

section
variable {R : Type} (P : Program) (call : CallF)
def aCall (ρ : Operand → Value) (c : Call) (H : AH) (K : Value → AH → Option R) : Option R :=
  match c.callee with
  | .value f => (callV call (ρ f) (c.args.toList.map ρ) H).bind fun p => K p.1 p.2
  | .builtin .append =>
    match c.argTypes.toList, c.args.toList with
    | [t, u], [s, x] => (ap P t u H (ρ s) (ρ x)).bind fun p => K p.1 p.2
    | _, _ => none
  | .builtin .copy =>
    match c.argTypes.toList, c.args.toList with
    | [t, _], [s, x] => (cpy P t H (ρ s) (ρ x)).bind fun p => K p.1 p.2
    | _, _ => none
  | .builtin .len =>
    match c.argTypes.toList, c.args.toList with
    | [t], [x] => (lenV P t (ρ x)).bind fun v => K v H
    | _, _ => none
  | .builtin .cap =>
    match c.argTypes.toList, c.args.toList with
    | [t], [x] => (capV P t (ρ x)).bind fun v => K v H
    | _, _ => none
  | .builtin .min => (fold1 minV (c.args.toList.map ρ)).bind fun v => K v H
  | .builtin .max => (fold1 maxV (c.args.toList.map ρ)).bind fun v => K v H
  | .builtin .unsafeSliceData =>
    match c.args.toList with
    | [x] => (sdV (ρ x)).bind fun v => K v H
    | _ => none
  | .builtin .unsafeString =>
    match c.argTypes.toList, c.args.toList with
    | [pt, _], [p, n] => (usV P pt H (ρ p) (ρ n)).bind fun q => K q.1 q.2
    | _, _ => none
  | _ => none
def aOp (ρ : Operand → Value) (o : Op) (H : AH) (K : Value → AH → Option R) : Option R :=
  match o with
  | .move x => K (ρ x) H
  | .assign x => K (ρ x) H
  | .pick c a b => (pickV (ρ c) (ρ a) (ρ b)).bind fun v => K v H
  | .alloc t => (newV P t H).bind fun p => K p.1 p.2
  | .box t x => (box t H (ρ x)).bind fun p => K p.1 p.2
  | .build t ps => (build P t (ps.toList.map fun p => (p.1, ρ p.2))).bind fun v => K v H
  | .buildSlice t n ps => (buildS P t H n (ps.toList.map fun p => (p.1, ρ p.2))).bind fun p => K p.1 p.2
  | .load t a => (ld P t H (ρ a)).bind fun v => K v H
  | .store t a x => (st P t H (ρ a) (ρ x)).bind fun H' => K undef H'
  | .nilCheck x => (nilChk (ρ x)).bind fun v => K v H
  | .binOp op t x y _ => (bin P op t (ρ x) (ρ y)).bind fun v => K v H
  | .unOp op _ x => (un P op (ρ x)).bind fun v => K v H
  | .convert s d x => bif isBytesToString P s d then (cvS P s d H (ρ x)).bind fun v => K v H else (cv P s d (ρ x)).bind fun v => K v H
  | .makeFunc (.func f) first captured => K (.func (.func f) (first.toList.map ρ).toArray (captured.toList.map ρ).toArray) H
  | .makeSlice t l c => (mkS P t H (ρ l) (ρ c)).bind fun p => K p.1 p.2
  | .slice t x lo hi none => (slc P t (ρ x) (lo.map ρ) (hi.map ρ)).bind fun v => K v H
  | .slice t x lo hi (some mx) => (slc3 P t (ρ x) (lo.map ρ) (hi.map ρ) (ρ mx)).bind fun v => K v H
  | .fieldAddr s x i => (fldA P s (ρ x) i).bind fun v => K v H
  | .field s x i => (fld P s (ρ x) i).bind fun v => K v H
  | .indexAddr t x i => (ixA P t (ρ x) (ρ i)).bind fun v => K v H
  | .index t x i => (ix P t (ρ x) (ρ i)).bind fun v => K v H
  | .extract t i => (ext (ρ t) i).bind fun v => K v H
  | .call c => aCall P call ρ c H K
  | _ => none
def putT (T : List Value) (d : Option Tmp) (v : Value) : List Value :=
  match d with
  | some d => T.set d v
  | none => T
def yieldV (ops : Array Oper) (T : List Value) (j : Nat) : Value :=
  match (ops[j]?).bind (·.dst) with
  | some d => T.getD d undef
  | none => undef

def aRes (ρ : Operand → Value) (op : Op) (H : AH) : Option (Value × AH) := aOp P call ρ op H fun v H' => some (v, H')
def evOps (ops : Array Oper) : List Oper → List Value → AH → (List Value → AH → Option R) → Option R
  | [], T, H, K => K T H
  | o :: r, T, H, K =>
    match o.guard with
    | none => aOp P call (opv T) o.op H fun v H' => evOps ops r (putT T o.dst v) H' K
    | some (j, want) => (gOp (yieldV ops T j) want (aRes P call (opv T) o.op H) H).bind fun p => evOps ops r (putT T o.dst p.1) p.2 K

open Classical in
noncomputable def aChk {R : Type} (p : Prop) (x : Option R) : Option R := if p then x else none
def isAlloc : Op → Bool
  | .alloc _ => true
  | .box _ _ => true
  | .buildSlice _ _ _ => true
  | .makeSlice _ _ _ => true
  | _ => false
def isEff : Op → Bool
  | .store _ _ _ => true
  | .call { callee := .builtin .len, .. } => false
  | .call { callee := .builtin .cap, .. } => false
  | .call { callee := .builtin .min, .. } => false
  | .call { callee := .builtin .max, .. } => false
  | .call { callee := .builtin .unsafeSliceData, .. } => false
  | .call _ => true
  | _ => false
def opRead (ρ : Operand → Value) : Op → Option (AH → Option Value)
  | .load t a => some fun H => ld P t H (ρ a)
  | .convert s d x => bif isBytesToString P s d then some fun H => cvS P s d H (ρ x) else none
  | _ => none
/-- What comes ahead of each operation, as bits. -/
def maskOf (acc : List Nat) (o : Oper) : Nat := o.after.toList.foldl (fun s e => bif Region.binds .any e then s ||| (2 ^ e.on ||| acc.getD e.on 0) else s) 0
def befL (acc : List Nat) : List Oper → List Nat
  | [] => acc
  | o :: r => befL (acc ++ [maskOf acc o]) r
def ordB (bs : List Nat) (i j : Nat) : Bool := (bs.getD j 0).testBit i
def edgesOK (ops : Array Oper) : Bool := (List.range ops.size).all fun j => (ops[j]?).any fun o => o.after.all fun e => !Region.binds .any e || decide (e.on < j)
def regOK (ops : Array Oper) : Bool :=
  edgesOK ops &&
  (List.range ops.size).all fun j => (List.range j).all fun i =>
    ordB (befL [] ops.toList) i j || ((ops[i]?).any fun oi => (ops[j]?).any fun oj => !(isEff oi.op && isEff oj.op) && oi.apart ops oj && oj.apart ops oi)
structure Rd where
  at_ : Nat
  ok : AH → Prop
noncomputable def chkReads (bs : List Nat) (j : Nat) (H : AH) (x : Option R) : List Rd → Option R
  | [] => x
  | r :: rs => bif ordB bs r.at_ j then chkReads bs j H x rs else aChk (r.ok H) (chkReads bs j H x rs)
noncomputable def chkPast (bs : List Nat) (j : Nat) (ok : AH → Prop) (x : Option R) : List (Nat × AH) → Option R
  | [] => x
  | p :: ps => bif ordB bs p.1 j then chkPast bs j ok x ps else aChk (ok p.2) (chkPast bs j ok x ps)
noncomputable def evD (ops : Array Oper) (bs : List Nat) : List Oper → Nat → List Value → AH → List (Nat × AH) → List Rd → (List Value → AH → Option R) → Option R
  | [], _, T, H, _, _, K => K T H
  | o :: r, j, T, H, past, reads, K =>
    match o.guard with
    | none =>
      match opRead P (opv T) o.op with
      | some f => (f H).bind fun v => chkPast bs j (fun X => f X = some v) (evD ops bs r (j + 1) (putT T o.dst v) H past (⟨j, fun X => f X = some v⟩ :: reads) K) past
      | none => aOp P call (opv T) o.op H fun v H' =>
        bif isEff o.op then chkReads bs j H' (evD ops bs r (j + 1) (putT T o.dst v) H' ((j, H) :: past) reads K) reads
        else bif isAlloc o.op then evD ops bs r (j + 1) (putT T o.dst v) H' past (⟨j, fun X => blk X H.length = blk H' H.length⟩ :: reads) K
        else evD ops bs r (j + 1) (putT T o.dst v) H' past reads K
    | some (g, want) =>
      match opRead P (opv T) o.op with
      | some f => (gOp (yieldV ops T g) want ((f H).bind fun v => some (v, H)) H).bind fun p => chkPast bs j (fun X => yieldV ops T g = .bool want → f X = some p.1) (evD ops bs r (j + 1) (putT T o.dst p.1) H past (⟨j, fun X => yieldV ops T g = .bool want → f X = some p.1⟩ :: reads) K) past
      | none => (gOp (yieldV ops T g) want (aRes P call (opv T) o.op H) H).bind fun p =>
        bif isEff o.op then chkReads bs j p.2 (evD ops bs r (j + 1) (putT T o.dst p.1) p.2 ((j, H) :: past) reads K) reads
        else bif isAlloc o.op then evD ops bs r (j + 1) (putT T o.dst p.1) p.2 past (⟨j, fun X => yieldV ops T g = .bool want → blk X H.length = blk p.2 H.length⟩ :: reads) K
        else evD ops bs r (j + 1) (putT T o.dst p.1) p.2 past reads K
end

inductive EX where
  | normal
  | exit (id : Nat)
  | ret
abbrev Out := EX × List Value × AH
def firstId : Code → Nat
  | .region id _ _ => id
  | .seq a _ => firstId a
  | .block _ b => firstId b
  | .loop b => firstId b
  | .scope b => firstId b
  | _ => 0
abbrev Tbl := List (Nat × List Nat)
def keepOf : Tbl → Nat → Option (List Nat)
  | [], _ => none
  | (k, l) :: r, j => bif k == j then some l else keepOf r j
def maskT (keep : List Nat) : Nat → List Value → List Value
  | _, [] => []
  | i, v :: r => (bif keep.contains i then v else unk) :: maskT keep (i + 1) r
def cutT (tb : Tbl) (key : Nat) (T : List Value) : List Value :=
  match keepOf tb key with
  | some l => maskT l 0 T
  | none => T
/-- The rounds of a loop. -/
def loopK (next : List Value → AH → Option Out) (c1 c2 : List Value → List Value) (e : EX) (T : List Value) (H : AH) : Option Out :=
  match e with
  | .normal => next (c1 T) H
  | e => some (e, c2 T, H)
def iterD (step : List Value → AH → (EX → List Value → AH → Option Out) → Option Out) (c1 c2 : List Value → List Value) : Nat → List Value → AH → Option Out
  | 0, _, _ => none
  | n + 1, T, H => step T H (loopK (iterD step c1 c2 n) c1 c2)
def kSeq {R : Type} (f : List Value → AH → Option R) (K : EX → List Value → AH → Option R) (e : EX) (T : List Value) (H : AH) : Option R :=
  match e with
  | .normal => f T H
  | e => K e T H
def kBlock {R : Type} (id : Nat) (K : EX → List Value → AH → Option R) (e : EX) (T : List Value) (H : AH) : Option R :=
  match e with
  | .exit i => bif i == id then K .normal T H else K (.exit i) T H
  | e => K e T H

noncomputable section
variable (P : Program) (call : CallF) (n : Nat) (tb : Tbl)
def evalK : Code → {R : Type} → List Value → AH → (EX → List Value → AH → Option R) → Option R
  | .skip, _, T, H, K => K .normal T H
  | .label _, _, T, H, K => K .normal T H
  | .region _ ops draw, _, T, H, K =>
    bif draw then (bif regOK ops then evD P call ops (befL [] ops.toList) ops.toList 0 T H [] [] fun T H => K .normal T H else none)
    else evOps P call ops ops.toList T H fun T H => K .normal T H
  | .seq a b, _, T, H, K => evalK a T H (kSeq (fun T' H' => evalK b (cutT tb (3 * firstId b) T') H' K) K)
  | .cond c x y, _, T, H, K => aIf (opv T c) (evalK x T H K) (evalK y T H K)
  | .block id b, _, T, H, K => evalK b T H (kBlock id K)
  | .loop b, _, T, H, K => (iterD (fun T H K => evalK b T H K) (cutT tb (3 * firstId b + 1)) (cutT tb (3 * firstId b + 2)) n (cutT tb (3 * firstId b + 1) T) H).bind fun p => K p.1 p.2.1 p.2.2
  | .exit id, _, T, H, K => K (.exit id) T H
  | .scope b, _, T, H, K => evalK b T H K
  | .ret, _, T, H, K => K .ret T H
  | _, _, _, _, _ => none
/-- What is left of a code behind one of its parts. -/
def resume {R : Type} : Code → List Nat → EX → List Value → AH → (EX → List Value → AH → Option R) → Option R
  | .seq a b, 0 :: p, e, T, H, K => resume a p e T H (kSeq (fun T' H' => evalK P call n tb b (cutT tb (3 * firstId b) T') H' K) K)
  | .seq _ b, 1 :: p, e, T, H, K => resume b p e T H K
  | .cond _ x _, 1 :: p, e, T, H, K => resume x p e T H K
  | .cond _ _ y, 2 :: p, e, T, H, K => resume y p e T H K
  | .block id b, 0 :: p, e, T, H, K => resume b p e T H (kBlock id K)
  | .scope b, 0 :: p, e, T, H, K => resume b p e T H K
  | _, _, e, T, H, K => K e T H
/-- The part of a code at a place. -/
def codeAt : Code → List Nat → Code
  | .seq a _, 0 :: p => codeAt a p
  | .seq _ b, 1 :: p => codeAt b p
  | .cond _ x _, 1 :: p => codeAt x p
  | .cond _ _ y, 2 :: p => codeAt y p
  | .block _ b, 0 :: p => codeAt b p
  | .scope b, 0 :: p => codeAt b p
  | .loop b, 0 :: p => codeAt b p
  | c, _ => c
def resOne (T : List Value) (H : AH) : ResultVar → Option Value
  | .tmp t => some (T.getD t undef)
  | .cell a t => ld P t H (T.getD a undef)
def resAll (T : List Value) (H : AH) : List ResultVar → Option (List Value)
  | [] => some []
  | r :: rs => (resOne P T H r).bind fun v => (resAll T H rs).bind fun vs => some (v :: vs)
def oneOf : List Value → Value
  | [v] => v
  | vs => .tuple vs.toArray
def resK (rs : List ResultVar) (e : EX) (T : List Value) (H : AH) : Option (Value × AH) :=
  match e with
  | .exit _ => none
  | _ => (resAll P T H rs).bind fun vs => some (oneOf vs, H)
def bodyOf (f : Func) : Code := f.body.getD .skip
def args0 (f : Func) (args : List Value) : List Value := args ++ List.replicate (f.ntmps - args.length) undef
def runFn (f : Func) (args : List Value) (H : AH) : Option (Value × AH) :=
  bif f.body.isSome && f.name != "runtime.NumGoroutine" then evalK P call n tb (bodyOf f) (args0 f args) H (resK P f.results.toList) else none
end
/-- Functions whose contract is given from elsewhere. -/
abbrev Given := FuncId → Option (List Value → AH → Option (Value × AH))
noncomputable def run (P : Program) (tbs : FuncId → Tbl) (gv : Given) : Nat → FuncId → List Value → AH → Option (Value × AH)
  | 0, _, _, _ => none
  | k + 1, f, args, H =>
    match gv f with
    | some g => g args H
    | none => (P.funcs[f]?).bind fun fn => runFn P (run P tbs gv k) k (tbs f) fn args H
end Go.AM
namespace Go.AM
open Go.RowKit

structure Loc where
  blk : Nat
  base : Nat
  kind : BK
  csize : Nat
  esz : Nat
abbrev Mp := Nat → Option Loc

inductive VRel (m : Mp) : Value → Value → Prop
  | unk (v : Value) : VRel m (.chan (some 0)) v
  | flat (v : Value) : flat1 v = true → VRel m v v
  | ptr (b off : Nat) (L : Loc) : m b = some L → VRel m (.pointer (some ⟨b, off, none⟩)) (.pointer (some ⟨L.blk, L.base + off, none⟩))
  | slice (b off off' len cap cap' : Nat) (L : Loc) : m b = some L → len ≤ cap → len ≤ cap' → (off' = L.base + off ∨ len = 0) → (L.kind = .fix → off' = L.base + off ∧ cap' = cap) →
      (L.kind = .grow → off = 0 → 0 < cap → off' + cap' * L.esz ≤ L.csize) → (L.kind ≠ .fix → len < cap ∨ (cap = 0 ∧ cap' = 0)) → VRel m (.slice (some ⟨b, off, none⟩) len cap) (.slice (some ⟨L.blk, off', none⟩) len cap')
  | agg (xs ys : Array Value) : xs.size = ys.size → (∀ (i : Nat) (x y : Value), xs[i]? = some x → ys[i]? = some y → VRel m x y) → VRel m (.agg xs) (.agg ys)
  | tuple (xs ys : Array Value) : xs.size = ys.size → (∀ (i : Nat) (x y : Value), xs[i]? = some x → ys[i]? = some y → VRel m x y) → VRel m (.tuple xs) (.tuple ys)
  | func (f : FuncId) (a b a' b' : Array Value) : a.size = a'.size → (∀ (i : Nat) (x y : Value), a[i]? = some x → a'[i]? = some y → VRel m x y) → b.size = b'.size → (∀ (i : Nat) (x y : Value), b[i]? = some x → b'[i]? = some y → VRel m x y) →
      VRel m (.func (.func f) a b) (.func (.func f) a' b')

theorem VRel.mono {m m' : Mp} (hm : ∀ b L, m b = some L → m' b = some L) {x y : Value} (h : VRel m x y) : VRel m' x y := by
  induction h with
  | unk v => exact .unk v
  | flat v h => exact .flat v h
  | ptr b off L h => exact .ptr b off L (hm _ _ h)
  | slice b off off' len cap cap' L h h1 h2 h3 h4 h5 h6 => exact .slice b off off' len cap cap' L (hm _ _ h) h1 h2 h3 h4 h5 h6
  | agg xs ys h _ ih => exact .agg xs ys h ih
  | tuple xs ys h _ ih => exact .tuple xs ys h ih
  | func f a b a' b' h1 _ h2 _ ih1 ih2 => exact .func f a b a' b' h1 ih1 h2 ih2

theorem VRel.undef (m : Mp) : VRel m undef undef := .tuple _ _ rfl fun i x y h _ => by simp at h

def LRel (m : Mp) (xs ys : List Value) : Prop := xs.length = ys.length ∧ ∀ (i : Nat) (x y : Value), xs[i]? = some x → ys[i]? = some y → VRel m x y
theorem LRel.mono {m m' : Mp} (hm : ∀ b L, m b = some L → m' b = some L) {xs ys : List Value} (h : LRel m xs ys) : LRel m' xs ys := ⟨h.1, fun i x y hx hy => (h.2 i x y hx hy).mono hm⟩
theorem LRel.nil (m : Mp) : LRel m [] [] := ⟨rfl, fun i x y h => by simp at h⟩
theorem LRel.cons {m : Mp} {x y : Value} {xs ys : List Value} (h : VRel m x y) (hs : LRel m xs ys) : LRel m (x :: xs) (y :: ys) := by
  refine ⟨by simp [hs.1], fun i a b ha hb => ?_⟩
  cases i with
  | zero => simp at ha hb; subst ha hb; exact h
  | succ i => simp at ha hb; exact hs.2 i a b ha hb
theorem LRel.cons_inv {m : Mp} {x : Value} {xs ys : List Value} (h : LRel m (x :: xs) ys) : ∃ y zs, ys = y :: zs ∧ VRel m x y ∧ LRel m xs zs := by
  cases ys with
  | nil => have := h.1; simp at this
  | cons y zs => exact ⟨y, zs, rfl, h.2 0 x y rfl rfl, by have := h.1; simpa using this, fun i a b ha hb => h.2 (i + 1) a b (by simpa using ha) (by simpa using hb)⟩
theorem LRel.nil_inv {m : Mp} {ys : List Value} (h : LRel m [] ys) : ys = [] := List.eq_nil_of_length_eq_zero (by rw [← h.1]; rfl)
theorem LRel.append {m : Mp} {xs ys xs' ys' : List Value} (h : LRel m xs ys) (h' : LRel m xs' ys') : LRel m (xs ++ xs') (ys ++ ys') := by
  refine ⟨by simp [h.1, h'.1], fun i a b ha hb => ?_⟩
  rw [List.getElem?_append] at ha hb
  rw [← h.1] at hb
  split at ha
  · rename_i hi; rw [if_pos hi] at hb; exact h.2 i a b ha hb
  · rename_i hi; rw [if_neg hi] at hb; exact h'.2 _ a b ha hb
theorem LRel.take {m : Mp} {xs ys : List Value} (h : LRel m xs ys) (n : Nat) : LRel m (xs.take n) (ys.take n) := by
  refine ⟨by simp [h.1], fun i a b ha hb => ?_⟩
  rw [List.getElem?_take] at ha hb
  split at ha
  · rename_i hi; rw [if_pos hi] at hb; exact h.2 i a b ha hb
  · cases ha
theorem LRel.drop {m : Mp} {xs ys : List Value} (h : LRel m xs ys) (n : Nat) : LRel m (xs.drop n) (ys.drop n) := by
  refine ⟨by simp [h.1], fun i a b ha hb => ?_⟩
  rw [List.getElem?_drop] at ha hb
  exact h.2 _ a b ha hb
theorem LRel.set {m : Mp} {xs ys : List Value} (h : LRel m xs ys) (n : Nat) {x y : Value} (hv : VRel m x y) : LRel m (xs.set n x) (ys.set n y) := by
  refine ⟨by simp [h.1], fun i a b ha hb => ?_⟩
  by_cases hn : n = i
  · subst hn
    have h1 : n < xs.length := by
      rcases Nat.lt_or_ge n xs.length with h1 | h1
      · exact h1
      · rw [List.getElem?_eq_none (by simpa using h1)] at ha; cases ha
    rw [List.getElem?_set_self h1] at ha
    rw [List.getElem?_set_self (by rw [← h.1]; exact h1)] at hb
    cases ha
    cases hb
    exact hv
  · rw [List.getElem?_set_ne hn] at ha hb
    exact h.2 i a b ha hb
theorem LRel.map {m : Mp} {α : Type} (f g : α → Value) (l : List α) (h : ∀ a ∈ l, VRel m (f a) (g a)) : LRel m (l.map f) (l.map g) := by
  induction l with
  | nil => exact LRel.nil m
  | cons a l ih => exact LRel.cons (h a (by simp)) (ih fun b hb => h b (by simp [hb]))
theorem LRel.spl {m : Mp} {xs ys us vs : List Value} (h : LRel m xs ys) (h' : LRel m us vs) (o : Nat) : LRel m (spl xs o us) (spl ys o vs) := by
  unfold AM.spl
  rw [← h'.1]
  exact (h.take o).append (h'.append (h.drop _))
theorem length_spl (xs : List Value) (o : Nat) (ys : List Value) (h : o + ys.length ≤ xs.length) : (spl xs o ys).length = xs.length := by
  unfold spl; simp; omega
theorem LRel.of_flat {m : Mp} : ∀ (l : List Value), l.all flat1 = true → LRel m l l := fun l h => ⟨rfl, fun i x y hx hy => by
  rw [hx] at hy
  cases hy
  exact .flat x (List.all_eq_true.1 h x (List.mem_of_getElem? hx))⟩

theorem VRel.aggL {m : Mp} {xs ys : Array Value} (h : LRel m xs.toList ys.toList) : VRel m (.agg xs) (.agg ys) :=
  .agg xs ys (by simpa using h.1) fun i x y hx hy => h.2 i x y (by simpa using hx) (by simpa using hy)
theorem VRel.agg_inv {m : Mp} {xs : Array Value} {v : Value} (h : VRel m (.agg xs) v) : ∃ ys, v = .agg ys ∧ LRel m xs.toList ys.toList := by
  cases h with
  | flat v h => simp [flat1] at h
  | agg xs ys h1 h2 => exact ⟨ys, rfl, by simpa using h1, fun i x y hx hy => h2 i x y (by simpa using hx) (by simpa using hy)⟩
theorem VRel.tuple_inv {m : Mp} {xs : Array Value} {v : Value} (h : VRel m (.tuple xs) v) : ∃ ys, v = .tuple ys ∧ LRel m xs.toList ys.toList := by
  cases h with
  | flat v h => simp [flat1] at h
  | tuple xs ys h1 h2 => exact ⟨ys, rfl, by simpa using h1, fun i x y hx hy => h2 i x y (by simpa using hx) (by simpa using hy)⟩
theorem VRel.flat_inv {m : Mp} {x v : Value} (hf : flat1 x = true) (h : VRel m x v) : v = x := by
  cases h <;> first | rfl | simp [flat1] at hf
theorem VRel.of_flat {m : Mp} {v : Value} (h : AM.flat v = true) : VRel m v v := by
  unfold AM.flat at h
  split at h
  · exact VRel.aggL (LRel.of_flat _ h)
  · exact .flat _ h
theorem VRel.ptr_inv {m : Mp} {b off : Nat} {v : Value} (h : VRel m (.pointer (some ⟨b, off, none⟩)) v) : ∃ L, m b = some L ∧ v = .pointer (some ⟨L.blk, L.base + off, none⟩) := by
  cases h with
  | flat v h => simp [flat1] at h
  | ptr b off L h => exact ⟨L, h, rfl⟩
theorem VRel.slice_inv {m : Mp} {b off len cap : Nat} {v : Value} (h : VRel m (.slice (some ⟨b, off, none⟩) len cap) v) : ∃ L off' cap', m b = some L ∧ v = .slice (some ⟨L.blk, off', none⟩) len cap' ∧ len ≤ cap ∧ len ≤ cap' ∧
    (off' = L.base + off ∨ len = 0) ∧ (L.kind = .fix → off' = L.base + off ∧ cap' = cap) ∧ (L.kind = .grow → off = 0 → 0 < cap → off' + cap' * L.esz ≤ L.csize) ∧ (L.kind ≠ .fix → len < cap ∨ (cap = 0 ∧ cap' = 0)) := by
  cases h with
  | flat v h => simp [flat1] at h
  | slice b off off' len cap cap' L h h1 h2 h3 h4 h5 h6 => exact ⟨L, off', cap', h, rfl, h1, h2, h3, h4, h5, h6⟩
/-- Cells: each is one, on both sides. -/
theorem VRel.isCell {m : Mp} {x y : Value} (h : VRel m x y) (hc : AM.isCell x = true) : y.oneCell' = true ∧ y.cells = #[y] := by
  cases h <;> first
    | (simp [AM.isCell] at hc; done)
    | exact ⟨rfl, rfl⟩
    | (rename_i hf; cases x <;> simp [flat1] at hf <;> exact ⟨rfl, rfl⟩)
theorem VRel.cells {m : Mp} {x y : Value} (h : VRel m x y) (hc : okCells x = true) : LRel m x.cells.toList y.cells.toList ∧ ∀ u ∈ y.cells.toList, u.oneCell' = true := by
  by_cases ha : ∃ cs, x = .agg cs
  · obtain ⟨cs, rfl⟩ := ha
    obtain ⟨ys, rfl, hl⟩ := h.agg_inv
    refine ⟨hl, fun u hu => ?_⟩
    obtain ⟨i, hi⟩ := List.getElem?_of_mem hu
    have hlt : i < cs.toList.length := by rw [hl.1]; exact (List.getElem?_eq_some_iff.1 hi).1
    have hx := List.getElem?_eq_getElem hlt
    exact (VRel.isCell (hl.2 i _ _ hx hi) (List.all_eq_true.1 hc _ (List.mem_of_getElem? hx))).1
  · have hx : x.cells = #[x] := by cases x <;> first | rfl | exact (ha ⟨_, rfl⟩).elim
    have hc' : AM.isCell x = true := by unfold okCells at hc; cases x <;> first | exact hc | exact (ha ⟨_, rfl⟩).elim
    obtain ⟨h1, h2⟩ := h.isCell hc'
    rw [hx, h2]
    exact ⟨LRel.cons h (LRel.nil m), fun u hu => by simp at hu; subst hu; exact h1⟩

/-- One block. -/
structure BRel (P : Program) (B0 : Nat) (m : Mp) (L : Loc) (k : Blk) (w : World) : Prop where
  kind : L.kind = k.kind
  there : ∃ c e fr, w.heap[L.blk]? = some (.cells c e fr) ∧ LRel m k.cells ((c.toList.drop L.base).take k.cells.length) ∧ (k.kind ≠ .ro → fr = (0, 0) ∧ e = k.elem ∧ L.base ≤ c.size) ∧ (k.kind = .fix → L.base = 0 ∧ c.size = k.cells.length) ∧
    (k.kind = .grow → c.size = L.csize)
  own : k.kind ≠ .ro → B0 ≤ L.blk
  esz : k.kind = .grow → L.esz = szT P k.elem
structure Rel (P : Program) (B0 : Nat) (w0 : World) (m : Mp) (H : AH) (w : World) : Prop where
  below : Below B0 w0 w
  hB : B0 ≤ w.heap.size
  dom : ∀ b L, m b = some L → b < H.length ∧ L.blk < w.heap.size
  blks : ∀ b L k, m b = some L → blk H b = some k → BRel P B0 m L k w
  inj : ∀ b1 b2 L1 L2 k1 k2, m b1 = some L1 → m b2 = some L2 → blk H b1 = some k1 → blk H b2 = some k2 → k1.kind ≠ .ro → b1 ≠ b2 → L1.blk ≠ L2.blk
structure Ext (m : Mp) (H : AH) (w : World) (m' : Mp) (H' : AH) (w' : World) : Prop where
  mono : ∀ b L, m b = some L → m' b = some L
  len : H.length ≤ H'.length
  size : w.heap.size ≤ w'.heap.size
  alive : ∀ b k', b < H.length → blk H' b = some k' → ∃ k, blk H b = some k ∧ k.kind = k'.kind
  new : ∀ b L, m' b = some L → m b = some L ∨ (H.length ≤ b ∧ (w.heap.size ≤ L.blk ∨ ∃ b0 L0 k0, m b0 = some L0 ∧ blk H b0 = some k0 ∧ k0.kind ≠ .ro ∧ L0.blk = L.blk))
  frame : ∀ B, B < w.heap.size → (∀ b L k, m b = some L → blk H b = some k → k.kind ≠ .ro → L.blk ≠ B) → w'.heap[B]? = w.heap[B]?
theorem Ext.refl (m : Mp) (H : AH) (w : World) : Ext m H w m H w := ⟨fun _ _ h => h, Nat.le_refl _, Nat.le_refl _, fun _ k' _ h => ⟨k', h, rfl⟩, fun _ _ h => .inl h, fun _ _ _ => rfl⟩
theorem Ext.trans {m m' m'' : Mp} {H H' H'' : AH} {w w' w'' : World} (hd : ∀ b L, m b = some L → b < H.length) (h : Ext m H w m' H' w') (k : Ext m' H' w' m'' H'' w'') : Ext m H w m'' H'' w'' := by
  refine ⟨fun b L hb => k.mono b L (h.mono b L hb), Nat.le_trans h.len k.len, Nat.le_trans h.size k.size, ?_, ?_, ?_⟩
  · intro b k'' hb hk
    obtain ⟨k', h1, h2⟩ := k.alive b k'' (Nat.lt_of_lt_of_le hb h.len) hk
    obtain ⟨k0, h3, h4⟩ := h.alive b k' hb h1
    exact ⟨k0, h3, h4.trans h2⟩
  · intro b L hb
    rcases k.new b L hb with h1 | ⟨h1, h2⟩
    · exact h.new b L h1
    · refine .inr ⟨Nat.le_trans h.len h1, ?_⟩
      rcases h2 with h2 | ⟨b0, L0, k0, h3, h4, h5, h6⟩
      · exact .inl (Nat.le_trans h.size h2)
      · rcases h.new b0 L0 h3 with h7 | ⟨h7, h8⟩
        · obtain ⟨k1, h9, h10⟩ := h.alive b0 k0 (hd _ _ h7) h4
          exact .inr ⟨b0, L0, k1, h7, h9, by rw [h10]; exact h5, h6⟩
        · rw [h6] at h8
          exact h8
  · intro B hB hr
    rw [k.frame B (Nat.lt_of_lt_of_le hB h.size), h.frame B hB hr]
    intro b L k' hb hk hne
    rcases h.new b L hb with h1 | ⟨h1, h2⟩
    · obtain ⟨k0, h3, h4⟩ := h.alive b k' (hd _ _ h1) hk
      exact hr b L k0 h1 h3 (by rw [h4]; exact hne)
    · rcases h2 with h2 | ⟨b0, L0, k0, h3, h4, h5, h6⟩
      · omega
      · rw [← h6]; exact hr b0 L0 k0 h3 h4 h5
end Go.AM
namespace Go.AM
open Go.RowKit

theorem blk_lt' {H : AH} {b : Nat} {k : Blk} (h : blk H b = some k) : b < H.length := by
  unfold blk at h
  rcases Nat.lt_or_ge b H.length with h1 | h1
  · exact h1
  · rw [List.getElem?_eq_none h1] at h; cases h
theorem blk_mkB_old' {H : AH} {b : Nat} (cs : List Value) (e : TypeId) (kd : BK) (h : b < H.length) : blk (mkB H cs e kd) b = blk H b := by
  unfold blk mkB
  rw [List.getElem?_append_left h]
theorem blk_mkB_new' (H : AH) (cs : List Value) (e : TypeId) (kd : BK) : blk (mkB H cs e kd) H.length = some ⟨cs, e, kd⟩ := by
  unfold blk mkB
  simp
theorem length_mkB' (H : AH) (cs : List Value) (e : TypeId) (kd : BK) : (mkB H cs e kd).length = H.length + 1 := by simp [mkB]
theorem blk_put_same {H : AH} {b : Nat} (k : Blk) (cs : List Value) (h : b < H.length) : blk (put H b k cs) b = some ⟨cs, k.elem, k.kind⟩ := by
  unfold blk put
  rw [List.getElem?_set_self h]
  rfl
theorem blk_put_ne {H : AH} {b c : Nat} (k : Blk) (cs : List Value) (h : b ≠ c) : blk (put H b k cs) c = blk H c := by
  unfold blk put
  rw [List.getElem?_set_ne h]
theorem length_put' (H : AH) (b : Nat) (k : Blk) (cs : List Value) : (put H b k cs).length = H.length := by simp [put]
theorem blk_kill_same (H : AH) (b : Nat) : blk (kill H b) b = none := by
  unfold blk kill
  rcases Nat.lt_or_ge b H.length with h1 | h1
  · rw [List.getElem?_set_self h1]; rfl
  · rw [List.getElem?_eq_none (by simpa using h1)]; rfl
theorem blk_kill_ne {H : AH} {b c : Nat} (h : b ≠ c) : blk (kill H b) c = blk H c := by
  unfold blk kill
  rw [List.getElem?_set_ne h]
theorem length_kill' (H : AH) (b : Nat) : (kill H b).length = H.length := by simp [kill]

section
variable {P : Program} {B0 : Nat} {w0 : World} {m : Mp} {H : AH} {w : World}

theorem addAddr (b o j : Nat) : (⟨b, o, none⟩ : Addr).add j = ⟨b, o + j, none⟩ := Addr.add_lit b o j
theorem BRel.row {L : Loc} {k : Blk} (h : BRel P B0 m L k w) {off n : Nat} {cs : List Value} (hr : rdN k off n = some cs) :
    ∃ ds, LRel m cs ds ∧ ∀ (j : Nat) (u : Value), ds[j]? = some u → w.cell? ((⟨L.blk, L.base + off, none⟩ : Addr).add j) = some u := by
  obtain ⟨c, e, fr, hw, hl, _⟩ := h.there
  unfold rdN at hr
  split at hr
  · rename_i hle
    cases hr
    refine ⟨_, (hl.drop off).take n, fun j u hu => ?_⟩
    rw [addAddr]
    unfold World.cell?
    rw [hw]
    rw [List.getElem?_take] at hu
    split at hu
    · rename_i hj
      rw [List.getElem?_drop, List.getElem?_take, if_pos (by omega), List.getElem?_drop] at hu
      simp only [Option.isSome_none, Bool.false_eq_true, if_false]
      rw [← Array.getElem?_toList, ← hu]
      congr 1
      omega
    · cases hu
  · cases hr
theorem BRel.cell {L : Loc} {k : Blk} (h : BRel P B0 m L k w) {off : Nat} {x : Value} (hx : k.cells[off]? = some x) :
    ∃ y, VRel m x y ∧ w.cell? ⟨L.blk, L.base + off, none⟩ = some y := by
  have hlt := (List.getElem?_eq_some_iff.1 hx).1
  obtain ⟨ds, hl, hc⟩ := h.row (off := off) (n := 1) (cs := (k.cells.drop off).take 1) (by unfold rdN; rw [if_pos (by omega)])
  have h0 : ((k.cells.drop off).take 1)[0]? = some x := by simp [hx]
  have hlen := hl.1
  cases ds with
  | nil => simp at hlen; omega
  | cons y ds => exact ⟨y, hl.2 0 x y h0 rfl, by simpa [addAddr] using hc 0 y rfl⟩

theorem setRow_size (w : World) (g : Nat) (cs : Array Value) : (w.setRow g cs).heap.size = w.heap.size := by simp [World.setRow]
theorem setRow_ne (w : World) {g k : Nat} (cs : Array Value) (h : g ≠ k) : (w.setRow g cs).heap[k]? = w.heap[k]? := by
  simp only [World.setRow, Array.getElem?_modify]
  rw [if_neg h]
/-- A block of the call's own is written. -/
theorem Rel.write (h : Rel P B0 w0 m H w) {b : Nat} {L : Loc} {k : Blk} (hm : m b = some L) (hb : blk H b = some k) (hk : k.kind ≠ .ro) {c : Array Value} {e : TypeId} {fr : Nat × Nat} (hw : w.heap[L.blk]? = some (.cells c e fr))
    (cs : List Value) (c' : Array Value) (hs : c'.size = c.size) (hlen : cs.length = k.cells.length) (hl : LRel m cs ((c'.toList.drop L.base).take cs.length)) :
    Rel P B0 w0 m (put H b k cs) (w.setRow L.blk c') ∧ Ext m H w m (put H b k cs) (w.setRow L.blk c') := by
  have hB := (h.blks b L k hm hb)
  have hfr : Ext m H w m (put H b k cs) (w.setRow L.blk c') := by
    refine ⟨fun _ _ h => h, Nat.le_of_eq (length_put' ..).symm, Nat.le_of_eq (setRow_size ..).symm, ?_, fun _ _ h => .inl h, ?_⟩
    · intro b2 k2 _ hk2
      by_cases hbb : b = b2
      · subst hbb
        rw [blk_put_same _ _ (blk_lt' hb)] at hk2
        cases hk2
        exact ⟨k, hb, rfl⟩
      · rw [blk_put_ne _ _ hbb] at hk2
        exact ⟨k2, hk2, rfl⟩
    · intro B _ hr
      exact setRow_ne _ _ (hr b L k hm hb hk)
  refine ⟨⟨?_, ?_, ?_, ?_, ?_⟩, hfr⟩
  · refine h.below.trans ⟨rfl, rfl, rfl, hfr.size, fun j hj => setRow_ne _ _ ?_⟩
    have := hB.own hk
    omega
  · rw [setRow_size]; exact h.hB
  · intro b2 L2 h2
    rw [length_put', setRow_size]
    exact h.dom b2 L2 h2
  · intro b2 L2 k2 hm2 hk2
    by_cases hbb : b = b2
    · subst hbb
      rw [hm] at hm2
      cases hm2
      rw [blk_put_same _ _ (blk_lt' hb)] at hk2
      cases hk2
      obtain ⟨c0, e0, fr0, hw0, _, h3, h4, h5⟩ := hB.there
      rw [hw] at hw0
      cases hw0
      exact ⟨hB.kind, ⟨c', e, fr, setRow_heap w _ _ _ _ _ hw, hl, (fun hx => by rw [hs]; exact h3 hx), fun hf => ⟨(h4 hf).1, by rw [hs, (h4 hf).2, hlen]⟩, fun hg => by rw [hs, h5 hg]⟩, hB.own, hB.esz⟩
    · rw [blk_put_ne _ _ hbb] at hk2
      have hne : L.blk ≠ L2.blk := h.inj b b2 L L2 k k2 hm hm2 hb hk2 hk hbb
      obtain ⟨q1, ⟨c2, e2, fr2, hw2, r⟩, q3, q4⟩ := h.blks b2 L2 k2 hm2 hk2
      exact ⟨q1, ⟨c2, e2, fr2, by rw [setRow_ne _ _ hne]; exact hw2, r⟩, q3, q4⟩
  · intro b1 b2 L1 L2 k1 k2 hm1 hm2 hk1 hk2 hne hbb
    have up : ∀ b3 k3, blk (put H b k cs) b3 = some k3 → ∃ k4, blk H b3 = some k4 ∧ k4.kind = k3.kind := fun b3 k3 h3 => hfr.alive b3 k3 (by have := blk_lt' h3; rwa [length_put'] at this) h3
    obtain ⟨k3, h3, h4⟩ := up b1 k1 hk1
    obtain ⟨k4, h5, _⟩ := up b2 k2 hk2
    exact h.inj b1 b2 L1 L2 k3 k4 hm1 hm2 h3 h5 (by rw [h4]; exact hne) hbb
def upd (m : Mp) (b : Nat) (L : Loc) : Mp := fun i => if i = b then some L else m i
theorem upd_same (m : Mp) (b : Nat) (L : Loc) : upd m b L b = some L := by simp [upd]
theorem upd_mono (h : ∀ b L, m b = some L → b < H.length) (L0 : Loc) : ∀ b L, m b = some L → upd m H.length L0 b = some L := by
  intro b L hb
  unfold upd
  rw [if_neg (by have := h b L hb; omega)]
  exact hb
theorem Rel.drew (h : Rel P B0 w0 m H w) : Rel P B0 w0 m H w.drew :=
  ⟨h.below.drew, h.hB, h.dom, fun b L k h1 h2 => let ⟨q1, q2, q3, q4⟩ := h.blks b L k h1 h2; ⟨q1, q2, q3, q4⟩, h.inj⟩
theorem Ext.drew {m' : Mp} {H' : AH} {w' : World} (h : Ext m H w m' H' w') : Ext m H w m' H' w'.drew := ⟨h.mono, h.len, h.size, h.alive, h.new, h.frame⟩
theorem Ext.drewL {m' : Mp} {H' : AH} {w' : World} (h : Ext m H w.drew m' H' w') : Ext m H w m' H' w' := ⟨h.mono, h.len, h.size, h.alive, h.new, h.frame⟩
/-- A block is made. -/
theorem Rel.make (h : Rel P B0 w0 m H w) (cs : List Value) (e : TypeId) (kd : BK) (c : Array Value) (hkd : kd ≠ .ro) (hl : LRel m cs (c.toList.take cs.length)) (hf : kd = .fix → c.size = cs.length) :
    let L : Loc := ⟨w.heap.size, 0, kd, c.size, szT P e⟩
    Rel P B0 w0 (upd m H.length L) (mkB H cs e kd) (w.alloc (.cells c e)) ∧ Ext m H w (upd m H.length L) (mkB H cs e kd) (w.alloc (.cells c e)) := by
  intro L
  have hmono := upd_mono (m := m) (H := H) (fun b L hb => (h.dom b L hb).1) L
  have old : ∀ b2 L2, upd m H.length L b2 = some L2 → (b2 = H.length ∧ L2 = L) ∨ (b2 ≠ H.length ∧ m b2 = some L2) := by
    intro b2 L2 h2
    unfold upd at h2
    split at h2
    · rename_i hb; cases h2; exact .inl ⟨hb, rfl⟩
    · rename_i hb; exact .inr ⟨hb, h2⟩
  have hfr : Ext m H w (upd m H.length L) (mkB H cs e kd) (w.alloc (.cells c e)) := by
    refine ⟨hmono, by rw [length_mkB']; omega, by simp, ?_, ?_, fun B hB _ => heap_alloc_old w _ _ hB⟩
    · intro b2 k2 hb2 hk2
      rw [blk_mkB_old' _ _ _ hb2] at hk2
      exact ⟨k2, hk2, rfl⟩
    · intro b2 L2 h2
      rcases old b2 L2 h2 with ⟨rfl, rfl⟩ | ⟨_, h3⟩
      · exact .inr ⟨Nat.le_refl _, .inl (Nat.le_refl _)⟩
      · exact .inl h3
  refine ⟨⟨h.below.alloc h.hB _, by simp; exact Nat.le_succ_of_le h.hB, ?_, ?_, ?_⟩, hfr⟩
  · intro b2 L2 h2
    rw [length_mkB']
    simp only [World.size_alloc]
    rcases old b2 L2 h2 with ⟨rfl, rfl⟩ | ⟨_, h3⟩
    · exact ⟨by omega, by show w.heap.size < _; omega⟩
    · have := h.dom b2 L2 h3; omega
  · intro b2 L2 k2 h2 hk2
    rcases old b2 L2 h2 with ⟨rfl, rfl⟩ | ⟨hne, h3⟩
    · rw [blk_mkB_new'] at hk2
      cases hk2
      refine ⟨rfl, ⟨c, e, (0, 0), heap_alloc_new w _, ?_, fun _ => ⟨rfl, rfl, Nat.zero_le _⟩, fun hk => ⟨rfl, hf hk⟩, fun _ => rfl⟩, fun _ => h.hB, fun _ => rfl⟩
      show LRel _ cs ((c.toList.drop 0).take cs.length)
      rw [List.drop_zero]
      exact hl.mono hmono
    · have hlt := (h.dom b2 L2 h3)
      rw [blk_mkB_old' _ _ _ hlt.1] at hk2
      obtain ⟨q1, ⟨c2, e2, fr2, hw2, r1, r2⟩, q3, q4⟩ := h.blks b2 L2 k2 h3 hk2
      exact ⟨q1, ⟨c2, e2, fr2, by rw [heap_alloc_old w _ _ hlt.2]; exact hw2, r1.mono hmono, r2⟩, q3, q4⟩
  · intro b1 b2 L1 L2 k1 k2 hm1 hm2 hk1 hk2 hne hbb
    rcases old b1 L1 hm1 with ⟨rfl, rfl⟩ | ⟨hn1, h1⟩
    · rcases old b2 L2 hm2 with ⟨rfl, rfl⟩ | ⟨hn2, h2⟩
      · exact (hbb rfl).elim
      · have := (h.dom b2 L2 h2).2
        show w.heap.size ≠ L2.blk
        omega
    · have hd1 := h.dom b1 L1 h1
      rw [blk_mkB_old' _ _ _ hd1.1] at hk1
      rcases old b2 L2 hm2 with ⟨rfl, rfl⟩ | ⟨hn2, h2⟩
      · show L1.blk ≠ w.heap.size
        omega
      · have hd2 := h.dom b2 L2 h2
        rw [blk_mkB_old' _ _ _ hd2.1] at hk2
        exact h.inj b1 b2 L1 L2 k1 k2 h1 h2 hk1 hk2 hne hbb
/-- A block is given up. -/
theorem Rel.killed (h : Rel P B0 w0 m H w) (b : Nat) : Rel P B0 w0 m (kill H b) w ∧ Ext m H w m (kill H b) w := by
  have up : ∀ b3 k3, blk (kill H b) b3 = some k3 → blk H b3 = some k3 := by
    intro b3 k3 h3
    by_cases hb : b = b3
    · subst hb; rw [blk_kill_same] at h3; cases h3
    · rwa [blk_kill_ne hb] at h3
  refine ⟨⟨h.below, h.hB, fun b2 L2 h2 => by rw [length_kill']; exact h.dom b2 L2 h2, fun b2 L2 k2 h2 hk2 => h.blks b2 L2 k2 h2 (up _ _ hk2), fun b1 b2 L1 L2 k1 k2 hm1 hm2 hk1 hk2 => h.inj b1 b2 L1 L2 k1 k2 hm1 hm2 (up _ _ hk1) (up _ _ hk2)⟩,
    ⟨fun _ _ h => h, Nat.le_of_eq (length_kill' ..).symm, Nat.le_refl _, fun b2 k2 _ hk2 => ⟨k2, up _ _ hk2, rfl⟩, fun _ _ h => .inl h, fun _ _ _ => rfl⟩⟩
/-- A row that has room is written behind its end: the elder block is given up, the new one lies where it lay. -/
theorem Rel.regrow (h : Rel P B0 w0 m H w) {b : Nat} {L : Loc} {k : Blk} (hm : m b = some L) (hb : blk H b = some k) (hk : k.kind = .grow) {c : Array Value} {e : TypeId} {fr : Nat × Nat} (hw : w.heap[L.blk]? = some (.cells c e fr))
    (base : Nat) (cs : List Value) (c' : Array Value) (hs : c'.size = c.size) (hbs : base ≤ c'.size) (hl : LRel m cs ((c'.toList.drop base).take cs.length)) :
    let L' : Loc := ⟨L.blk, base, .grow, L.csize, L.esz⟩
    Rel P B0 w0 (upd m H.length L') (mkB (kill H b) cs k.elem .grow) (w.setRow L.blk c') ∧ Ext m H w (upd m H.length L') (mkB (kill H b) cs k.elem .grow) (w.setRow L.blk c') := by
  intro L'
  have hk' : k.kind ≠ .ro := by rw [hk]; decide
  have hmono := upd_mono (m := m) (H := H) (fun b L hb => (h.dom b L hb).1) L'
  have old : ∀ b2 L2, upd m H.length L' b2 = some L2 → (b2 = H.length ∧ L2 = L') ∨ (b2 ≠ H.length ∧ m b2 = some L2) := by
    intro b2 L2 h2
    unfold upd at h2
    split at h2
    · rename_i hb; cases h2; exact .inl ⟨hb, rfl⟩
    · rename_i hb; exact .inr ⟨hb, h2⟩
  have hlk : (kill H b).length = H.length := length_kill' ..
  have back : ∀ b3 k3, b3 < H.length → blk (mkB (kill H b) cs k.elem .grow) b3 = some k3 → b ≠ b3 ∧ blk H b3 = some k3 := by
    intro b3 k3 h3 hk3
    rw [blk_mkB_old' _ _ _ (by rw [hlk]; exact h3)] at hk3
    by_cases hbb : b = b3
    · subst hbb; rw [blk_kill_same] at hk3; cases hk3
    · exact ⟨hbb, by rwa [blk_kill_ne hbb] at hk3⟩
  have hB := h.blks b L k hm hb
  have hfr : Ext m H w (upd m H.length L') (mkB (kill H b) cs k.elem .grow) (w.setRow L.blk c') := by
    refine ⟨hmono, by rw [length_mkB', hlk]; omega, Nat.le_of_eq (setRow_size ..).symm, ?_, ?_, ?_⟩
    · intro b2 k2 hb2 hk2
      exact ⟨k2, (back b2 k2 hb2 hk2).2, rfl⟩
    · intro b2 L2 h2
      rcases old b2 L2 h2 with ⟨rfl, rfl⟩ | ⟨_, h3⟩
      · exact .inr ⟨Nat.le_refl _, .inr ⟨b, L, k, hm, hb, hk', rfl⟩⟩
      · exact .inl h3
    · intro B _ hr
      exact setRow_ne _ _ (hr b L k hm hb hk')
  refine ⟨⟨?_, by rw [setRow_size]; exact h.hB, ?_, ?_, ?_⟩, hfr⟩
  · refine h.below.trans ⟨rfl, rfl, rfl, hfr.size, fun j hj => setRow_ne _ _ ?_⟩
    have := hB.own hk'
    omega
  · intro b2 L2 h2
    rw [length_mkB', hlk, setRow_size]
    rcases old b2 L2 h2 with ⟨rfl, rfl⟩ | ⟨_, h3⟩
    · have := (h.dom b L hm).2
      exact ⟨by omega, this⟩
    · have := h.dom b2 L2 h3; omega
  · intro b2 L2 k2 h2 hk2
    rcases old b2 L2 h2 with ⟨rfl, rfl⟩ | ⟨hne, h3⟩
    · rw [← hlk, blk_mkB_new'] at hk2
      cases hk2
      obtain ⟨c0, e0, fr0, hw0, _, h4, _, h6⟩ := hB.there
      rw [hw] at hw0
      cases hw0
      exact ⟨rfl, ⟨c', e, fr, setRow_heap w _ _ _ _ _ hw, hl.mono hmono, fun _ => ⟨(h4 hk').1, (h4 hk').2.1, hbs⟩, (fun hx => by cases hx), fun _ => by rw [hs]; exact h6 hk⟩, fun _ => hB.own hk', fun _ => hB.esz hk⟩
    · have hlt := (h.dom b2 L2 h3)
      obtain ⟨hbb, hk3⟩ := back b2 k2 hlt.1 hk2
      have hne2 : L.blk ≠ L2.blk := h.inj b b2 L L2 k k2 hm h3 hb hk3 hk' hbb
      obtain ⟨q1, ⟨c2, e2, fr2, hw2, r1, r2⟩, q3, q4⟩ := h.blks b2 L2 k2 h3 hk3
      exact ⟨q1, ⟨c2, e2, fr2, by rw [setRow_ne _ _ hne2]; exact hw2, r1.mono hmono, r2⟩, q3, q4⟩
  · intro b1 b2 L1 L2 k1 k2 hm1 hm2 hk1 hk2 hne hbb
    rcases old b1 L1 hm1 with ⟨rfl, rfl⟩ | ⟨hn1, h1⟩
    · rcases old b2 L2 hm2 with ⟨rfl, rfl⟩ | ⟨hn2, h2⟩
      · exact (hbb rfl).elim
      · obtain ⟨hb2, hk3⟩ := back b2 k2 (h.dom b2 L2 h2).1 hk2
        exact h.inj b b2 L L2 k k2 hm h2 hb hk3 hk' hb2
    · obtain ⟨hb1, hk3⟩ := back b1 k1 (h.dom b1 L1 h1).1 hk1
      rcases old b2 L2 hm2 with ⟨rfl, rfl⟩ | ⟨hn2, h2⟩
      · exact h.inj b1 b L1 L k1 k h1 hm hk3 hb hne (Ne.symm hb1)
      · obtain ⟨_, hk4⟩ := back b2 k2 (h.dom b2 L2 h2).1 hk2
        exact h.inj b1 b2 L1 L2 k1 k2 h1 h2 hk3 hk4 hne hbb
end
end Go.AM
set_option linter.unusedVariables false
set_option linter.unusedSimpArgs false
namespace Go.AM
open Go.RowKit

theorem info_of_underlying {P : Program} {t : TypeId} {d : TypeDesc} (h : P.underlying t = some d) : ∃ i, P.info? t = some i := by
  unfold Program.underlying at h
  cases hi : P.info? t with
  | none => rw [hi] at h; cases h
  | some i => exact ⟨i, rfl⟩
theorem szT_eq {P : Program} {t : TypeId} {i : TypeInfo} (h : P.info? t = some i) : szT P t = i.size := by simp [szT, Program.cellsOf, h]
theorem byT_eq {P : Program} {t : TypeId} {i : TypeInfo} (h : P.info? t = some i) : byT P t = i.bytes := by simp [byT, Program.bytesOf, h]
theorem run_sizeOf {P : Program} {t : TypeId} {i : TypeInfo} (h : P.info? t = some i) (w : World) : (sizeOf t).run P w = .ok (szT P t) w := by
  simp [sizeOf, typeInfo, h, szT_eq h]
theorem aggT_true {P : Program} {t : TypeId} (h : aggT P t = some true) (w : World) : (isAgg t).run P w = .ok true w ∧ ∃ i, P.info? t = some i := by
  unfold aggT at h
  split at h
  · rename_i fs hd; exact ⟨by simp [isAgg, run_underlying hd], info_of_underlying hd⟩
  · rename_i n e hd; exact ⟨by simp [isAgg, run_underlying hd], info_of_underlying hd⟩
  · cases h
  · cases h
theorem aggT_false {P : Program} {t : TypeId} (h : aggT P t = some false) (w : World) : (isAgg t).run P w = .ok false w ∧ ∃ i, P.info? t = some i := by
  unfold aggT at h
  split at h
  · cases h
  · cases h
  · rename_i d h1 h2 hd
    refine ⟨?_, info_of_underlying hd⟩
    cases d <;> first | (simp [isAgg, run_underlying hd]; done) | exact (h1 _ rfl).elim | exact (h2 _ _ rfl).elim
  · cases h
theorem zeroT_inv {P : Program} {t : TypeId} {z : Value} (h : zeroT P t = some z) : ∃ i, P.info? t = some i ∧ i.zero = some z ∧ flat z = true := by
  unfold zeroT at h
  cases hi : P.info? t with
  | none => rw [hi] at h; cases h
  | some i =>
    rw [hi] at h
    cases hz : i.zero with
    | none => simp [hz] at h
    | some z' =>
      simp only [hz, Option.bind_some] at h
      split at h
      · rename_i hf; cases h; exact ⟨i, rfl, hz, hf⟩
      · cases h
theorem run_zeroValue {P : Program} {t : TypeId} {z : Value} {i : TypeInfo} (h : P.info? t = some i) (hz : i.zero = some z) (w : World) : (zeroValue t).run P w = .ok z w := by
  simp [zeroValue, typeInfo, h, hz]

section
variable {P : Program} {B0 : Nat} {w0 : World} {m : Mp} {H : AH} {w : World}

theorem ldC_inv {a v : Value} (h : ldC H a = some v) : ∃ b off k, a = .pointer (some ⟨b, off, none⟩) ∧ blk H b = some k ∧ k.cells[off]? = some v := by
  unfold ldC at h
  split at h
  · rename_i b off
    cases hb : blk H b with
    | none => rw [hb] at h; cases h
    | some k => rw [hb] at h; exact ⟨b, off, k, rfl, hb, h⟩
  · cases h
theorem ld_sound (R : Rel P B0 w0 m H w) {t : TypeId} {a a' v : Value} (ha : VRel m a a') (h : ld P t H a = some v) :
    ∃ v', (Instr.loadAt t a').run P w = .ok v' w ∧ VRel m v v' := by
  unfold ld at h
  split at h
  · rename_i hg
    obtain ⟨h1, i, hi⟩ := aggT_true hg w
    unfold ldA at h
    split at h
    · rename_i b off
      cases hb : blk H b with
      | none => rw [hb] at h; cases h
      | some k =>
        rw [hb] at h
        simp only [Option.bind_some] at h
        cases hr : rdN k off (szT P t) with
        | none => rw [hr] at h; cases h
        | some cs =>
          rw [hr] at h
          cases h
          obtain ⟨L, hm, rfl⟩ := ha.ptr_inv
          obtain ⟨ds, hl, hc⟩ := (R.blks b L k hm hb).row hr
          have hlen : ds.length = szT P t := by
            rw [← hl.1]
            unfold rdN at hr
            split at hr
            · cases hr; simp; omega
            · cases hr
          refine ⟨.agg ds.toArray, ?_, VRel.aggL (by simpa using hl)⟩
          have := run_loadCells_list (P := P) w _ ds hc
          rw [hlen] at this
          simp [Instr.loadAt, Instr.sureAddr, loadVar, h1, run_sizeOf hi, this]
    · cases h
  · rename_i hg
    obtain ⟨h1, i, hi⟩ := aggT_false hg w
    obtain ⟨b, off, k, rfl, hb, hx⟩ := ldC_inv h
    obtain ⟨L, hm, rfl⟩ := ha.ptr_inv
    obtain ⟨y, hy, hc⟩ := (R.blks b L k hm hb).cell hx
    exact ⟨y, by simp [Instr.loadAt, Instr.sureAddr, loadVar, h1, hc], hy⟩
  · cases h

/-- Cells are stored into a block of the call's own. -/
theorem store_sound (R : Rel P B0 w0 m H w) {b off : Nat} {k : Blk} {L : Loc} (hm : m b = some L) (hb : blk H b = some k) (hk : k.kind ≠ .ro) {cs ds : List Value} (hle : off + cs.length ≤ k.cells.length) (hl : LRel m cs ds) (h1 : ∀ u ∈ ds, u.oneCell' = true) :
    ∃ w', (storeCells ⟨L.blk, L.base + off, none⟩ ds).run P w = .ok () w' ∧ Rel P B0 w0 m (put H b k (spl k.cells off cs)) w' ∧ Ext m H w m (put H b k (spl k.cells off cs)) w' := by
  obtain ⟨c, e, fr, hw, hlr, h3, h4, h5⟩ := (R.blks b L k hm hb).there
  obtain ⟨rfl, _, hbs⟩ := h3 hk
  have hsz : L.base + k.cells.length ≤ c.size := by
    have := hlr.1
    simp at this
    omega
  have hst := run_storeCells_at P L.blk (L.base + off) e ds 0 c w hw (by have := hl.1; omega) h1
  have hlen := length_spl k.cells off cs hle
  refine ⟨_, hst, R.write hm hb hk hw _ _ ?_ hlen ?_⟩
  · have := hl.1
    simp
    omega
  · rw [hlen]
    have e1 : ((c.toList.take (L.base + off + 0) ++ ds ++ c.toList.drop (L.base + off + 0 + ds.length)).toArray.toList.drop L.base).take k.cells.length = spl ((c.toList.drop L.base).take k.cells.length) off ds := by
      have hd := hl.1
      have hcl : c.toList.length = c.size := by simp
      apply List.ext_getElem?
      intro j
      unfold AM.spl
      simp only [List.getElem?_take, List.getElem?_drop, List.getElem?_append, List.length_take, List.length_drop, Nat.add_zero, List.length_append]
      rw [hcl]
      by_cases hj : j < k.cells.length
      · rw [if_pos hj]
        by_cases h6 : j < off
        · rw [if_pos (by omega), if_pos (by omega), if_pos (by omega), if_pos (by omega), if_pos (by omega), if_pos (by omega)]
        · by_cases h7 : j < off + ds.length
          · rw [if_pos (by omega), if_neg (by omega), if_neg (by omega), if_pos (by omega)]
            congr 1
            omega
          · rw [if_neg (by omega), if_neg (by omega), if_neg (by omega), if_pos (by omega)]
            congr 1
            omega
      · rw [if_neg hj]
        by_cases h7 : j < off + ds.length
        · omega
        · rw [if_neg (by omega), if_neg (by omega), if_neg (by omega)]
    rw [e1]
    exact hlr.spl hl off
theorem st_sound (R : Rel P B0 w0 m H w) {t : TypeId} {a a' v v' : Value} {H' : AH} (ha : VRel m a a') (hv : VRel m v v') (h : st P t H a v = some H') :
    ∃ w', (Instr.storeAt t a' v').run P w = .ok () w' ∧ Rel P B0 w0 m H' w' ∧ Ext m H w m H' w' := by
  unfold st at h
  split at h
  · rename_i hg
    obtain ⟨h1, i, hi⟩ := aggT_true hg w
    unfold stA at h
    split at h
    · rename_i b off cs
      cases hb : blk H b with
      | none => rw [hb] at h; cases h
      | some k =>
        rw [hb] at h
        simp only [Option.bind_some] at h
        split at h
        · rename_i hc
          obtain ⟨c1, c2, c3, c4⟩ := hc
          cases h
          obtain ⟨L, hm, rfl⟩ := ha.ptr_inv
          obtain ⟨q1, q2⟩ := hv.cells (x := .agg cs) c4
          obtain ⟨w', h5, h6, h7⟩ := store_sound R hm hb c1 (off := off) (cs := cs.toList) (by simpa [c3] using c2) q1 q2
          have hsz : v'.cells.size = szT P t := by have := q1.1; simp [Value.cells] at this; simp [Value.cells]; omega
          exact ⟨w', by simp [Instr.storeAt, Instr.sureAddr, storeVar, run_sizeOf hi, hsz, h5], h6, h7⟩
        · cases h
    · cases h
  · rename_i hg
    obtain ⟨h1, i, hi⟩ := aggT_false hg w
    split at h
    · rename_i hs
      unfold stC at h
      split at h
      · rename_i b off
        cases hb : blk H b with
        | none => rw [hb] at h; cases h
        | some k =>
          rw [hb] at h
          simp only [Option.bind_some] at h
          split at h
          · rename_i hc
            obtain ⟨c1, c2, c3⟩ := hc
            cases h
            obtain ⟨L, hm, rfl⟩ := ha.ptr_inv
            obtain ⟨q1, q2⟩ := hv.isCell c3
            obtain ⟨w', h5, h6, h7⟩ := store_sound R hm hb c1 (off := off) (cs := [v]) (ds := [v']) (by simp; omega) (LRel.cons hv (LRel.nil m)) (by simp [q1])
            have e1 : spl k.cells off [v] = k.cells.set off v := by
              unfold spl
              rw [List.set_eq_take_append_cons_drop, if_pos c2]
              simp
            rw [e1] at h6 h7
            exact ⟨w', by simp [Instr.storeAt, Instr.sureAddr, storeVar, run_sizeOf hi, hs, q2, h5], h6, h7⟩
          · cases h
      · cases h
    · cases h
  · cases h
theorem VRel.newPtr {L : Loc} {b : Nat} (hm : m b = some L) (h0 : L.base = 0) : VRel m (AM.ptr b 0) (.pointer (some ⟨L.blk, 0, none⟩)) := by
  have := VRel.ptr (m := m) b 0 L hm
  rw [h0] at this
  exact this
theorem box_sound (R : Rel P B0 w0 m H w) {t : TypeId} {v v' u : Value} {H' : AH} (hv : VRel m v v') (h : box t H v = some (u, H')) :
    ∃ u' m' w', (Instr.box t v').run P w = .ok u' w' ∧ VRel m' u u' ∧ Rel P B0 w0 m' H' w' ∧ Ext m H w m' H' w' := by
  unfold box at h
  split at h
  · rename_i hc
    cases h
    obtain ⟨q1, q2⟩ := hv.cells hc
    have hsz : v'.cells.size = v.cells.toList.length := by have := q1.1; simp at this ⊢; omega
    obtain ⟨h1, h2⟩ := R.make (P := P) v.cells.toList t .fix v'.cells (by decide) (by rw [List.take_of_length_le (by simp; simp at hsz; omega)]; exact q1) (fun _ => hsz)
    exact ⟨_, _, _, by simp [Instr.box, newVar, newRow], VRel.newPtr (upd_same _ _ _) rfl, h1, h2⟩
  · cases h
theorem newV_sound (R : Rel P B0 w0 m H w) {t : TypeId} {u : Value} {H' : AH} (h : newV P t H = some (u, H')) (old : Value) :
    ∃ u' m' w', (Instr.alloc t true old).run P w = .ok u' w' ∧ VRel m' u u' ∧ Rel P B0 w0 m' H' w' ∧ Ext m H w m' H' w' := by
  unfold newV at h
  cases hz : zeroT P t with
  | none => rw [hz] at h; cases h
  | some z =>
    rw [hz] at h
    obtain ⟨i, hi, h1, h2⟩ := zeroT_inv hz
    obtain ⟨u', m', w', h3, h4⟩ := box_sound R (VRel.of_flat h2) h
    refine ⟨u', m', w', ?_, h4⟩
    simp [Instr.box] at h3
    simp [Instr.alloc, run_zeroValue hi h1, h3]
end
end Go.AM
set_option linter.unusedVariables false
set_option linter.unusedSimpArgs false
namespace Go.AM
open Go.RowKit

theorem rep_length (z : List Value) : ∀ n, (rep z n).length = n * z.length
  | 0 => by simp [rep]
  | n + 1 => by rw [rep, List.length_append, rep_length z n, Nat.add_mul, Nat.one_mul, Nat.add_comm]
theorem rep_get (z : List Value) : ∀ (n j : Nat), j < n * z.length → (rep z n)[j]? = z[j % z.length]?
  | 0, j, h => by omega
  | n + 1, j, h => by
    rw [rep, List.getElem?_append]
    split
    · rename_i hj; rw [Nat.mod_eq_of_lt hj]
    · rename_i hj
      rw [rep_get z n (j - z.length) (by rw [Nat.add_mul] at h; omega)]
      congr 1
      rw [Nat.mod_eq_sub_mod (a := j) (by omega)]
theorem madeCells_toList (z : Array Value) (n : Nat) : (madeCells z (n * z.size)).toList = rep z.toList n := by
  apply List.ext_getElem?
  intro j
  have hs : (madeCells z (n * z.size)).toList.length = n * z.size := by simp [madeCells]
  by_cases hj : j < n * z.size
  · rw [rep_get z.toList n j (by simpa using hj)]
    have hz : 0 < z.size := by
      rcases Nat.eq_zero_or_pos z.size with h | h
      · rw [h] at hj; omega
      · exact h
    have hm : j % z.size < z.size := Nat.mod_lt _ hz
    simp only [madeCells, Array.toList_map, Array.toList_range, List.getElem?_map, List.getElem?_range hj, Option.map_some, Array.length_toList]
    rw [Array.getElem?_toList]
    simp [hm]
  · rw [List.getElem?_eq_none (by omega), List.getElem?_eq_none (by rw [rep_length]; simp; omega)]

section
variable {P : Program} {B0 : Nat} {w0 : World} {m : Mp} {H : AH} {w : World}

theorem flat_cells {z : Value} (h : flat z = true) : LRel m z.cells.toList z.cells.toList := by
  have := VRel.of_flat (m := m) h
  unfold flat at h
  split at h
  · exact LRel.of_flat _ h
  · rename_i hz
    have : z.cells = #[z] := by cases z <;> first | rfl | exact (hz _ rfl).elim
    rw [this]
    exact LRel.cons (.flat _ h) (LRel.nil m)
theorem LRel.rep {xs ys : List Value} (h : LRel m xs ys) : ∀ n, LRel m (rep xs n) (rep ys n)
  | 0 => LRel.nil m
  | n + 1 => h.append (LRel.rep h n)
theorem VRel.int_inv {k : IntKind} {n : Int} {v : Value} (h : VRel m (.int k n) v) : v = .int k n := h.flat_inv rfl
theorem VRel.bool_inv {b : Bool} {v : Value} (h : VRel m (.bool b) v) : v = .bool b := h.flat_inv rfl
theorem VRel.str_inv {s : ByteArray} {v : Value} (h : VRel m (.string s) v) : v = .string s := h.flat_inv rfl
theorem VRel.newSl {L : Loc} {b n c c' : Nat} (hm : m b = some L) (h0 : L.base = 0) (h1 : n ≤ c) (h2 : n ≤ c') (h3 : L.kind = .fix → c' = c) (h4 : L.kind = .grow → c' * L.esz ≤ L.csize) (h5 : L.kind ≠ .fix → n < c) : VRel m (sl b 0 n c) (.slice (some ⟨L.blk, 0, none⟩) n c') :=
  .slice b 0 0 n c c' L hm h1 h2 (.inl (by omega)) (fun hk => ⟨by omega, h3 hk⟩) (fun hk _ _ => by have := h4 hk; omega) (fun hk => .inl (h5 hk))
theorem mkS_sound (R : Rel P B0 w0 m H w) {t : TypeId} {l l' c c' u : Value} {H' : AH} (hl : VRel m l l') (hc : VRel m c c') (h : mkS P t H l c = some (u, H')) :
    ∃ u' m' w', (Instr.makeSlice t l' c').run P w = .ok u' w' ∧ VRel m' u u' ∧ Rel P B0 w0 m' H' w' ∧ Ext m H w m' H' w' := by
  unfold mkS at h
  split at h
  · rename_i e k1 n k2 q hd
    cases hz : zeroT P e with
    | none => rw [hz] at h; cases h
    | some z =>
      rw [hz] at h
      simp only [Option.bind_some] at h
      split at h
      · rename_i hcond
        obtain ⟨c1, c2, c3, c4, c5, c6⟩ := hcond
        cases h
        obtain ⟨i, hi, hz1, hz2⟩ := zeroT_inv hz
        cases hl.int_inv
        cases hc.int_inv
        rw [byT_eq hi] at c3
        rw [szT_eq hi] at c5
        have hrun := run_make (P := P) w t e i z hd hi hz1 k1 k2 n q c1 c2 (by rw [Int.mul_comm]; exact c3) c4
        rw [← c5] at hrun
        have hml := madeCells_toList z.cells q.toNat
        obtain ⟨h1, h2⟩ := R.make (P := P) (rep z.cells.toList q.toNat) e .fix (madeCells z.cells (q.toNat * z.cells.size)) (by decide)
          (by rw [hml, List.take_of_length_le (Nat.le_refl _)]; exact (flat_cells hz2).rep _) (fun _ => by rw [size_madeCells, rep_length]; simp)
        exact ⟨_, _, _, hrun, VRel.newSl (upd_same _ _ _) rfl (by omega) (by omega) (fun _ => rfl) (fun hk => by cases hk) (fun hk => (hk rfl).elim), h1, h2⟩
      · cases h
  · cases h
theorem fldA_sound (R : Rel P B0 w0 m H w) {s : TypeId} {a a' v : Value} {i : Nat} (ha : VRel m a a') (h : fldA P s a i = some v) : ∃ v', (Instr.fieldAt s a' i).run P w = .ok v' w ∧ VRel m v v' := by
  unfold fldA at h
  split at h
  · rename_i fs b off hd
    cases hf : fs[i]? with
    | none => rw [hf] at h; cases h
    | some f =>
      rw [hf] at h
      simp only [Option.bind_some] at h
      split at h
      · cases h
      · rename_i hz
        cases h
        obtain ⟨L, hm, rfl⟩ := ha.ptr_inv
        have hinfo : ∃ j, P.info? f.type = some j := by
          cases hj : P.info? f.type with
          | some j => exact ⟨j, rfl⟩
          | none => exfalso; apply hz; simp [szT, Program.cellsOf, hj]
        obtain ⟨j, hj⟩ := hinfo
        refine ⟨.pointer (some ⟨L.blk, L.base + (off + f.offset), none⟩), ?_, .ptr b (off + f.offset) L hm⟩
        simp [Instr.fieldAt, run_underlying hd, hf, Instr.sureAddr, fieldPlace, run_sizeOf hj, hz, Addr.add_lit, Nat.add_assoc]
  · cases h
theorem prt_sound {t : TypeId} {cs ds : List Value} {off : Nat} {v : Value} (hl : LRel m cs ds) (h : prt P t cs off = some v) : ∃ v', (part t ds.toArray off).run P w = .ok v' w ∧ VRel m v v' := by
  unfold prt at h
  split at h
  · rename_i hg
    obtain ⟨h1, i, hi⟩ := aggT_true hg w
    cases h
    refine ⟨.agg ((ds.drop off).take (szT P t)).toArray, ?_, VRel.aggL (by simpa using (hl.drop off).take _)⟩
    simp [part, h1, run_sizeOf hi]
  · rename_i hg
    obtain ⟨h1, i, hi⟩ := aggT_false hg w
    have hlt := (List.getElem?_eq_some_iff.1 h).1
    have hd : ds[off]? = some (ds[off]'(by rw [← hl.1]; exact hlt)) := List.getElem?_eq_getElem _
    exact ⟨_, by simp [part, h1, hd], hl.2 off _ _ h hd⟩
  · cases h
theorem fld_sound {s : TypeId} {x x' v : Value} {i : Nat} (hx : VRel m x x') (h : fld P s x i = some v) : ∃ v', (Instr.field s x' i).run P w = .ok v' w ∧ VRel m v v' := by
  unfold fld at h
  split at h
  · rename_i fs cs hd
    cases hf : fs[i]? with
    | none => rw [hf] at h; cases h
    | some f =>
      rw [hf] at h
      obtain ⟨ys, rfl, hl⟩ := hx.agg_inv
      obtain ⟨v', h1, h2⟩ := prt_sound (P := P) (w := w) hl h
      exact ⟨v', by simpa [Instr.field, run_underlying hd, hf, asAgg] using h1, h2⟩
  · cases h
theorem isSome_info {t : TypeId} (h : (P.info? t).isSome = true) : ∃ i, P.info? t = some i := Option.isSome_iff_exists.1 h
theorem ixA_sound {t : TypeId} {x x' i i' v : Value} (hx : VRel m x x') (hi : VRel m i i') (h : ixA P t x i = some v) : ∃ v', (Instr.indexAt t x' i').run P w = .ok v' w ∧ VRel m v v' := by
  unfold ixA at h
  split at h
  · rename_i e b off len cap k n hd
    split at h
    · rename_i hc
      cases h
      cases hi.int_inv
      obtain ⟨L, off', cap', hm, rfl, h1, h2, h3, h4, h5, h6⟩ := hx.slice_inv
      obtain ⟨ie, hie⟩ := isSome_info hc.1
      rcases h3 with h3 | h3
      · subst h3
        refine ⟨.pointer (some ⟨L.blk, L.base + (off + n.toNat * szT P e), none⟩), ?_, .ptr b _ L hm⟩
        simp [Instr.indexAt, asIntOf, run_underlying hd, hc.2, run_sizeOf hie, Addr.add_lit, Nat.add_assoc]
      · omega
    · cases h
  · rename_i len e b off k n hd
    split at h
    · rename_i hc
      cases h
      cases hi.int_inv
      obtain ⟨L, hm, rfl⟩ := hx.ptr_inv
      obtain ⟨ie, hie⟩ := isSome_info hc.1
      refine ⟨.pointer (some ⟨L.blk, L.base + (off + n.toNat * szT P e), none⟩), ?_, .ptr b _ L hm⟩
      simp [Instr.indexAt, asIntOf, run_underlying hd, hc.2, Instr.sureAddr, run_sizeOf hie, Addr.add_lit, Nat.add_assoc]
    · cases h
  · cases h
theorem ix_sound {t : TypeId} {x x' i i' v : Value} (hx : VRel m x x') (hi : VRel m i i') (h : ix P t x i = some v) : ∃ v', (Instr.index t x' i').run P w = .ok v' w ∧ VRel m v v' := by
  unfold ix at h
  split at h
  · rename_i s k n hd
    split at h
    · rename_i hc
      cases h
      cases hi.int_inv
      cases hx.str_inv
      have hlt : n.toNat < s.size := by omega
      have e1 : s[n.toNat]? = some s[n.toNat] := by rw [getElem?_pos s n.toNat hlt]
      have e2 : s.data[n.toNat]?.getD 0 = s[n.toNat] := by
        rw [Array.getElem?_eq_getElem (by exact hlt)]; rfl
      exact ⟨_, by simp [Instr.index, asIntOf, run_underlying hd, hc.1, e1]; rfl, by rw [e2]; exact .flat _ rfl⟩
    · cases h
  · rename_i len e cs k n hd
    split at h
    · rename_i hc
      cases hi.int_inv
      obtain ⟨ys, rfl, hl⟩ := hx.agg_inv
      obtain ⟨ie, hie⟩ := isSome_info hc.1
      obtain ⟨v', h1, h2⟩ := prt_sound (P := P) (w := w) hl h
      exact ⟨v', by simpa [Instr.index, asIntOf, run_underlying hd, hc.2, run_sizeOf hie] using h1, h2⟩
    · cases h
  · cases h
/-- An optional bound. -/
def ORel (m : Mp) (x x' : Option Value) : Prop := (x = none ∧ x' = none) ∨ ∃ v v', x = some v ∧ x' = some v' ∧ VRel m v v'
theorem intOr_inv {x x' : Option Value} {d : Nat} {n : Int} (hx : ORel m x x') (h : intOr x d = some n) : (x' = none ∧ n = d) ∨ ∃ k, x' = some (.int k n) := by
  rcases hx with ⟨rfl, rfl⟩ | ⟨v, v', rfl, rfl, hv⟩
  · simp [intOr] at h; exact .inl ⟨rfl, h.symm⟩
  · unfold intOr at h
    split at h
    · rename_i he; cases he
    · rename_i k n' he; cases he; cases h; cases hv.int_inv; exact .inr ⟨k, rfl⟩
    · cases h
theorem sliceBounds_run {lo hi : Option Value} {l h : Int} {len cap d : Nat} (s : Bool) (hl : (lo = none ∧ l = 0) ∨ ∃ k, lo = some (.int k l)) (hh : (hi = none ∧ h = len) ∨ ∃ k, hi = some (.int k h)) (h0 : 0 ≤ l) (h1 : l ≤ h) (h2 : h ≤ cap) :
    (Instr.sliceBounds s len cap lo hi none).run P w = .ok (l.toNat, h.toNat, cap) w := by
  have e1 : (0 : Int) ≤ h := by omega
  rcases hl with ⟨rfl, rfl⟩ | ⟨k, rfl⟩ <;> rcases hh with ⟨rfl, rfl⟩ | ⟨k2, rfl⟩
  · simp [Instr.sliceBounds]
  · simp [Instr.sliceBounds, Instr.sliceBound, asIntOf, e1, h2]
  · simp [Instr.sliceBounds, Instr.sliceBound, asIntOf, h0]
    omega
  · have : l ≤ (h.toNat : Int) := by omega
    simp only [Instr.sliceBounds, Instr.sliceBound, asIntOf, Sem.run_bind, Sem.run_pure, Result.andThen_ok, Sem.run_ite, h0, e1, h2, this, and_self, if_true, Option.isSome_none, Bool.false_eq_true, if_false]
theorem slc_sound {t : TypeId} {x x' v : Value} {lo lo' hi hi' : Option Value} (hx : VRel m x x') (hlo : ORel m lo lo') (hhi : ORel m hi hi') (h : slc P t x lo hi = some v) :
    ∃ v', (Instr.sliceAt t x' lo' hi' none).run P w = .ok v' w ∧ VRel m v v' := by
  unfold slc at h
  split at h
  · rename_i s hd
    cases hl : intOr lo 0 with
    | none => rw [hl] at h; cases h
    | some l =>
      rw [hl] at h
      simp only [Option.bind_some] at h
      cases hh : intOr hi s.size with
      | none => rw [hh] at h; cases h
      | some q =>
        rw [hh] at h
        simp only [Option.bind_some] at h
        split at h
        · rename_i hc
          cases h
          cases hx.str_inv
          have := sliceBounds_run (P := P) (w := w) (d := 0) (len := s.size) (cap := s.size) false (by simpa using intOr_inv hlo hl) (intOr_inv hhi hh) hc.1 hc.2.1 hc.2.2
          exact ⟨_, by simp [Instr.sliceAt, Instr.slice, run_underlying hd, this], .flat _ rfl⟩
        · cases h
  · rename_i e b off len cap hd
    cases hl : intOr lo 0 with
    | none => rw [hl] at h; cases h
    | some l =>
      rw [hl] at h
      simp only [Option.bind_some] at h
      cases hh : intOr hi len with
      | none => rw [hh] at h; cases h
      | some q =>
        rw [hh] at h
        simp only [Option.bind_some] at h
        split at h
        · rename_i hc
          cases h
          obtain ⟨L, off', cap', hm, rfl, h1, h2, h3, h4, h5, h6⟩ := hx.slice_inv
          obtain ⟨ie, hie⟩ := isSome_info hc.1
          have := sliceBounds_run (P := P) (w := w) (d := 0) (len := len) (cap := cap') true (by simpa using intOr_inv hlo hl) (intOr_inv hhi hh) hc.2.1 hc.2.2.1 (by omega)
          refine ⟨.slice (some ⟨L.blk, if cap' = l.toNat then off' else off' + l.toNat * szT P e, none⟩) (q.toNat - l.toNat) (cap' - l.toNat), ?_, ?_⟩
          · simp only [Instr.sliceAt, Instr.slice, Sem.run_bind, run_underlying hd, Result.andThen_ok, this, run_sizeOf hie, Sem.run_pure]
            by_cases he : cap' = l.toNat
            · simp [he]
            · simp [he, Addr.add_lit]
          · refine .slice _ _ _ _ _ _ L hm (by omega) (by omega) ?_ ?_ ?_ (fun hk => by rcases h6 hk with h7 | h7 <;> omega)
            · rcases h3 with h3 | h3
              · by_cases he : cap' = l.toNat
                · exact .inr (by omega)
                · by_cases he2 : cap = l.toNat
                  · exact .inr (by omega)
                  · rw [if_neg he, if_neg he2]; exact .inl (by omega)
              · exact .inr (by omega)
            · intro hk
              obtain ⟨h8, h7⟩ := h4 hk
              subst h7
              refine ⟨?_, rfl⟩
              split <;> omega
            · intro hk ho hcp
              have hle : (cap' - l.toNat) * L.esz ≤ cap' * L.esz := Nat.mul_le_mul_right _ (Nat.sub_le _ _)
              rw [if_neg (by omega)] at ho
              have h8 := h5 hk (by omega) (by omega)
              have hz : l.toNat * szT P e = 0 := by omega
              rw [hz]
              split <;> omega
        · cases h
  · rename_i e hd
    cases hl : intOr lo 0 with
    | none => rw [hl] at h; cases h
    | some l =>
      rw [hl] at h
      simp only [Option.bind_some] at h
      cases hh : intOr hi 0 with
      | none => rw [hh] at h; cases h
      | some q =>
        rw [hh] at h
        simp only [Option.bind_some] at h
        split at h
        · rename_i hc
          cases h
          obtain ⟨hc1, rfl, rfl⟩ := hc
          obtain ⟨ie, hie⟩ := isSome_info hc1
          cases hx.flat_inv rfl
          have := sliceBounds_run (P := P) (w := w) (d := 0) (len := 0) (cap := 0) true (l := 0) (h := 0) (intOr_inv hlo hl) (intOr_inv hhi hh) (by omega) (by omega) (by omega)
          exact ⟨.slice none 0 0, by simp [Instr.sliceAt, Instr.slice, run_underlying hd, this, run_sizeOf hie], .flat _ rfl⟩
        · cases h
  · cases h
theorem slc3_sound {t : TypeId} {x x' v mx mx' : Value} {lo lo' hi hi' : Option Value} (hx : VRel m x x') (hlo : ORel m lo lo') (hhi : ORel m hi hi') (hmx : VRel m mx mx') (h : slc3 P t x lo hi mx = some v) :
    ∃ v', (Instr.sliceAt t x' lo' hi' (some mx')).run P w = .ok v' w ∧ VRel m v v' := by
  unfold slc3 at h
  split at h
  · rename_i e b off len cap k k2 hd hl0
    split at h
    · rename_i hc
      cases h
      obtain ⟨ie, hie⟩ := isSome_info hc
      obtain ⟨L, off', cap', hm, rfl, h1, h2, h3, h4, h5, h6⟩ := hx.slice_inv
      cases hmx.int_inv
      obtain ⟨u, rfl, hu⟩ : ∃ u, hi' = some u ∧ VRel m (.int k 0) u := by
        rcases hhi with ⟨hh, _⟩ | ⟨v, v', hh, rfl, hv⟩
        · cases hh
        · cases hh; exact ⟨v', rfl, hv⟩
      cases hu.int_inv
      refine ⟨.slice (some ⟨L.blk, off', none⟩) 0 0, ?_, .slice b off off' 0 0 0 L hm (Nat.le_refl _) (Nat.le_refl _) (.inr rfl) (fun hk => ⟨(h4 hk).1, rfl⟩) (fun _ _ hh => absurd hh (by decide)) (fun _ => .inr ⟨rfl, rfl⟩)⟩
      rcases intOr_inv hlo hl0 with ⟨rfl, _⟩ | ⟨k3, rfl⟩ <;> simp [Instr.sliceAt, Instr.slice, run_underlying hd, Instr.sliceBounds, Instr.sliceBound, asIntOf, run_sizeOf hie]
    · cases h
  · rename_i e k k2 hd hl0
    split at h
    · rename_i hc
      cases h
      obtain ⟨ie, hie⟩ := isSome_info hc
      cases hx.flat_inv rfl
      cases hmx.int_inv
      obtain ⟨u, rfl, hu⟩ : ∃ u, hi' = some u ∧ VRel m (.int k 0) u := by
        rcases hhi with ⟨hh, _⟩ | ⟨v, v', hh, rfl, hv⟩
        · cases hh
        · cases hh; exact ⟨v', rfl, hv⟩
      cases hu.int_inv
      refine ⟨.slice none 0 0, ?_, .flat _ rfl⟩
      rcases intOr_inv hlo hl0 with ⟨rfl, _⟩ | ⟨k3, rfl⟩ <;> simp [Instr.sliceAt, Instr.slice, run_underlying hd, Instr.sliceBounds, Instr.sliceBound, asIntOf, run_sizeOf hie]
    · cases h
  · cases h
end
end Go.AM
set_option linter.unusedVariables false
set_option linter.unusedSimpArgs false
namespace Go.AM
open Go.RowKit

section
variable {P : Program} {B0 : Nat} {w0 : World} {m : Mp} {H : AH} {w : World}

theorem foldl_set_spl : ∀ (l : List Value) (j off : Nat) (cs : Array Value), off + j + l.length ≤ cs.size →
    ((l.zipIdx j).foldl (fun (cs : Array Value) (p : Value × Nat) => cs.setIfInBounds (off + p.2) p.1) cs).toList = spl cs.toList (off + j) l
  | [], j, off, cs, _ => by simp [spl]
  | v :: l, j, off, cs, h => by
    simp only [List.length_cons] at h
    rw [List.zipIdx_cons, List.foldl_cons, foldl_set_spl l (j + 1) off _ (by simp; omega)]
    have hcl : cs.toList.length = cs.size := by simp
    unfold spl
    rw [Array.toList_setIfInBounds]
    apply List.ext_getElem?
    intro i
    simp only [List.getElem?_append, List.getElem?_take, List.getElem?_drop, List.getElem?_set, List.length_take, List.length_set, List.length_cons]
    rw [hcl]
    by_cases h1 : i < off + j
    · rw [if_pos (by omega), if_pos (by omega), if_neg (by omega), if_pos (by omega), if_pos (by omega)]
    · by_cases h2 : i = off + j
      · subst h2
        have e1 : min (off + (j + 1)) cs.size = off + (j + 1) := by omega
        have e2 : min (off + j) cs.size = off + j := by omega
        rw [e1, e2]
        simp [show off + j < off + (j + 1) by omega, show off + j < cs.size by omega]
      · by_cases h3 : i < off + j + 1 + l.length
        · rw [if_neg (by omega), if_pos (by omega), if_neg (by omega), if_pos (by omega)]
          rw [show i - min (off + j) cs.size = (i - min (off + (j + 1)) cs.size) + 1 by omega, List.getElem?_cons_succ]
        · rw [if_neg (by omega), if_neg (by omega), if_neg (by omega), if_neg (by omega)]
          rw [if_neg (by omega)]
          congr 1
          omega
def PRel (m : Mp) : List (Nat × Value) → List (Nat × Value) → Prop
  | [], [] => True
  | p :: ps, q :: qs => p.1 = q.1 ∧ VRel m p.2 q.2 ∧ PRel m ps qs
  | _, _ => False
theorem fill_sound (place : Nat → Option (Nat × Nat)) : ∀ (ps qs : List (Nat × Value)) (cs : List Value) (ds : Array Value) (es : List Value), PRel m ps qs → LRel m cs ds.toList → fillB place cs ps = some es →
    ∃ fs, Instr.fill place ds qs = some fs ∧ LRel m es fs.toList
  | [], [], cs, ds, es, _, hl, h => by
    cases h
    exact ⟨ds, rfl, hl⟩
  | (i, v) :: ps, (j, u) :: qs, cs, ds, es, hp, hl, h => by
    obtain ⟨rfl, hv, hr⟩ := hp
    unfold fillB at h
    unfold Instr.fill
    cases hpl : place i with
    | none => rw [hpl] at h; cases h
    | some on =>
      obtain ⟨off, n⟩ := on
      rw [hpl] at h
      simp only at h ⊢
      split at h
      · rename_i hc
        obtain ⟨c1, c2, c3⟩ := hc
        obtain ⟨q1, q2⟩ := hv.cells c3
        have hsz : u.cells.size = n := by have := q1.1; simp at this; omega
        have hds : ds.size = cs.length := by have := hl.1; simp at this; omega
        rw [if_neg (by simp [hsz]; omega)]
        refine fill_sound place ps qs _ _ es hr ?_ h
        rw [← Array.foldl_toList, Array.toList_zipIdx]
        have := foldl_set_spl u.cells.toList 0 off ds (by simp [hsz]; omega)
        rw [this]
        exact hl.spl q1 _
      · cases h
  | [], _ :: _, _, _, _, hp, _, _ => hp.elim
  | _ :: _, [], _, _, _, hp, _, _ => hp.elim
theorem build_sound {t : TypeId} {ps qs : List (Nat × Value)} {v : Value} (hp : PRel m ps qs) (h : build P t ps = some v) : ∃ v', (Instr.build t qs.toArray).run P w = .ok v' w ∧ VRel m v v' := by
  unfold build at h
  cases hz : zeroT P t with
  | none => rw [hz] at h; cases h
  | some z =>
    rw [hz] at h
    simp only [Option.bind_some] at h
    obtain ⟨i, hi, hz1, hz2⟩ := zeroT_inv hz
    split at h
    · rename_i fs hd
      split at h
      · cases h
      · rename_i hall
        simp only [Bool.not_eq_false] at hall
        cases hf : fillB (fun i => (fs[i]?).map fun f => (f.offset, szT P f.type)) z.cells.toList ps with
        | none => rw [hf] at h; cases h
        | some cs =>
          rw [hf] at h
          cases h
          obtain ⟨es, h1, h2⟩ := fill_sound (m := m) _ ps qs _ z.cells _ hp (flat_cells hz2) hf
          refine ⟨.agg es, run_build w t qs.toArray es ?_, VRel.aggL (by simpa using h2)⟩
          unfold Program.built
          rw [hi, hd]
          simp only
          have hm : fs.toList.mapM (fun f => (P.info? f.type).map fun i => (f.offset, i.size)) = some (fs.toList.map fun f => (f.offset, szT P f.type)) := by
            have : ∀ l : List Field, l.all (fun f => (P.info? f.type).isSome) = true → l.mapM (fun f => (P.info? f.type).map fun i => (f.offset, i.size)) = some (l.map fun f => (f.offset, szT P f.type)) := by
              intro l
              induction l with
              | nil => intro _; rfl
              | cons f l ih =>
                intro h
                simp only [List.all_cons, Bool.and_eq_true] at h
                obtain ⟨j, hj⟩ := isSome_info h.1
                simp [List.mapM_cons, hj, ih h.2, szT_eq hj]
            exact this _ hall
          rw [hz1, hm]
          simp only
          rw [← h1]
          congr 1
          funext x
          simp
    · rename_i n e hd
      split at h
      · cases h
      · rename_i hall
        simp only [Bool.not_eq_false] at hall
        obtain ⟨j, hj⟩ := isSome_info hall
        cases hf : fillB (fun i => some (i * szT P e, szT P e)) z.cells.toList ps with
        | none => rw [hf] at h; cases h
        | some cs =>
          rw [hf] at h
          cases h
          obtain ⟨es, h1, h2⟩ := fill_sound (m := m) _ ps qs _ z.cells _ hp (flat_cells hz2) hf
          refine ⟨.agg es, run_build w t qs.toArray es ?_, VRel.aggL (by simpa using h2)⟩
          unfold Program.built
          rw [hi, hd]
          simp only [hz1, hj]
          rw [szT_eq hj] at h1
          exact h1
    · cases h
theorem buildS_sound (R : Rel P B0 w0 m H w) {t : TypeId} {len : Nat} {ps qs : List (Nat × Value)} {u : Value} {H' : AH} (hp : PRel m ps qs) (h : buildS P t H len ps = some (u, H')) :
    ∃ u' m' w', (Instr.buildSlice t len qs.toArray).run P w = .ok u' w' ∧ VRel m' u u' ∧ Rel P B0 w0 m' H' w' ∧ Ext m H w m' H' w' := by
  unfold buildS at h
  split at h
  · rename_i e hd
    cases hz : zeroT P e with
    | none => rw [hz] at h; cases h
    | some z =>
      rw [hz] at h
      simp only [Option.bind_some] at h
      obtain ⟨i, hi, hz1, hz2⟩ := zeroT_inv hz
      split at h
      · rename_i hc
        cases hf : fillB (fun i => some (i * szT P e, szT P e)) (rep z.cells.toList len) ps with
        | none => rw [hf] at h; cases h
        | some cs =>
          rw [hf] at h
          cases h
          have hml := madeCells_toList z.cells len
          rw [hc.2] at hml
          obtain ⟨es, h1, h2⟩ := fill_sound (m := m) _ ps qs _ (madeCells z.cells (len * szT P e)) _ hp (by rw [hml]; exact (flat_cells hz2).rep _) hf
          obtain ⟨h3, h4⟩ := R.make (P := P) cs e .fix es (by decide) (by rw [List.take_of_length_le (by have := h2.1; simp at this ⊢; omega)]; exact h2) (fun _ => by have := h2.1; simp at this; omega)
          refine ⟨_, _, _, ?_, VRel.newSl (upd_same _ _ _) rfl (Nat.le_refl _) (Nat.le_refl _) (fun _ => rfl) (fun hk => by cases hk) (fun hk => (hk rfl).elim), h3, h4⟩
          have hle : ¬ (16777216 < len * szT P e) := by omega
          by_cases h0 : len * szT P e = 0
          · have e0 : madeCells z.cells 0 = #[] := by simp [madeCells]
            rw [h0, e0] at h1
            simp [Instr.buildSlice, run_underlying hd, run_sizeOf hi, h0, newRow, Array.range_zero']
            rw [h1]
            simp
          · simp [Instr.buildSlice, run_underlying hd, run_sizeOf hi, h0, hle, run_zeroValue hi hz1, newRow]
            unfold madeCells at h1
            rw [h1]
            simp
      · cases h
  · cases h
theorem still_run {α : Type} : ∀ (s : Sem α) (a : α), still P s = some a → ∀ w, s.run P w = .ok a w := by
  intro s
  induction s with
  | pure a => intro b h w; cases h; rfl
  | program k ih => intro b h w; exact ih P b h w
  | _ => intro b h; cases h
theorem VRel.ptr_some {ad : Addr} {v : Value} (h : VRel m (.pointer (some ad)) v) : ∃ ad', v = .pointer (some ad') := by
  cases h with
  | flat v h => simp [flat1] at h
  | ptr b off L h => exact ⟨_, rfl⟩
theorem VRel.slice_some {ad : Addr} {n c : Nat} {v : Value} (h : VRel m (.slice (some ad) n c) v) : ∃ ad' c', v = .slice (some ad') n c' := by
  cases h with
  | flat v h => simp [flat1] at h
  | slice b off off' len cap cap' L h h1 h2 h3 h4 h5 h6 => exact ⟨_, _, rfl⟩
theorem VRel.func_some {f : Fn} {a b : Array Value} {v : Value} (h : VRel m (.func f a b) v) : ∃ a' b', v = .func f a' b' := by
  cases h with
  | flat v h => simp [flat1] at h
  | func f a b a' b' h1 h2 h3 h4 => exact ⟨_, _, rfl⟩
theorem eqGuard_of {op : BinOp} {t : TypeId} {x y : Operand} {a b : Value} (h : (match a with | .nilIface => false | .agg _ => false | _ => true) = true) : eqGuard op t x y a b = pure () := by
  cases a <;> first | (simp at h; done) | (cases op <;> rfl)
theorem nilEq_sound {t : TypeId} {D : TypeDesc} {a b a' b' : Value} {c : Bool} (hd : P.underlying t = some D) (ha : VRel m a a') (hb : VRel m b b') (h : nilEq D a b = some c) :
    (Op.equal t a' b').run P w = .ok c w ∧ ∀ (op : BinOp) (x y : Operand), eqGuard op t x y a' b' = pure () := by
  obtain ⟨d, e0⟩ : ∃ d, ∀ x y : Value, Op.equal t x y = Op.equalIn (d + 1) t x y := ⟨9999, fun _ _ => rfl⟩
  unfold nilEq at h
  split at h
  · cases h
    obtain ⟨ad', rfl⟩ := ha.ptr_some
    cases hb.flat_inv rfl
    exact ⟨by rw [e0]; simp only [Op.equalIn, Sem.run_bind, run_underlying hd, Result.andThen_ok, Sem.run_pure], fun _ _ _ => eqGuard_of rfl⟩
  · cases h
    obtain ⟨ad', rfl⟩ := hb.ptr_some
    cases ha.flat_inv rfl
    exact ⟨by rw [e0]; simp only [Op.equalIn, Sem.run_bind, run_underlying hd, Result.andThen_ok, Sem.run_pure, Option.isNone_some], fun _ _ _ => eqGuard_of rfl⟩
  · cases h
    obtain ⟨ad', c', rfl⟩ := ha.slice_some
    cases hb.flat_inv rfl
    exact ⟨by rw [e0]; simp only [Op.equalIn, Sem.run_bind, run_underlying hd, Result.andThen_ok, Sem.run_pure], fun _ _ _ => eqGuard_of rfl⟩
  · cases h
    obtain ⟨ad', c', rfl⟩ := hb.slice_some
    cases ha.flat_inv rfl
    exact ⟨by rw [e0]; simp only [Op.equalIn, Sem.run_bind, run_underlying hd, Result.andThen_ok, Sem.run_pure, Option.isNone_some], fun _ _ _ => eqGuard_of rfl⟩
  · cases h
    obtain ⟨a', b', rfl⟩ := ha.func_some
    cases hb.flat_inv rfl
    exact ⟨by rw [e0]; simp only [Op.equalIn, Sem.run_bind, run_underlying hd, Result.andThen_ok, Sem.run_pure], fun _ _ _ => eqGuard_of rfl⟩
  · cases h
    obtain ⟨a', b', rfl⟩ := hb.func_some
    cases ha.flat_inv rfl
    exact ⟨by rw [e0]; simp only [Op.equalIn, Sem.run_bind, run_underlying hd, Result.andThen_ok, Sem.run_pure], fun _ _ _ => eqGuard_of rfl⟩
  · cases h
theorem binOp_eql (t : TypeId) (a b : Value) (h : ∀ k n, a ≠ .int k n) (h2 : ∀ k n, a ≠ .float k n) (h3 : ∀ s, a ≠ .string s) (h4 : ∀ k n q, a ≠ .complex k n q) : binOp .eql t a b = (do pure (.bool (← Op.equal t a b))) := by
  cases a <;> first
    | exact (h _ _ rfl).elim
    | exact (h2 _ _ rfl).elim
    | exact (h3 _ rfl).elim
    | exact (h4 _ _ _ rfl).elim
    | rfl
theorem binOp_neq (t : TypeId) (a b : Value) (h : ∀ k n, a ≠ .int k n) (h2 : ∀ k n, a ≠ .float k n) (h3 : ∀ s, a ≠ .string s) (h4 : ∀ k n q, a ≠ .complex k n q) : binOp .neq t a b = (do pure (.bool (!(← Op.equal t a b)))) := by
  cases a <;> first
    | exact (h _ _ rfl).elim
    | exact (h2 _ _ rfl).elim
    | exact (h3 _ rfl).elim
    | exact (h4 _ _ _ rfl).elim
    | rfl
theorem nilEq_left {D : TypeDesc} {a b a' : Value} {c : Bool} (ha : VRel m a a') (h : nilEq D a b = some c) : (∀ k n, a' ≠ .int k n) ∧ (∀ k n, a' ≠ .float k n) ∧ (∀ s, a' ≠ .string s) ∧ (∀ k n q, a' ≠ .complex k n q) := by
  unfold nilEq at h
  split at h
  · obtain ⟨ad', rfl⟩ := ha.ptr_some; simp
  · cases ha.flat_inv rfl; simp
  · obtain ⟨ad', c', rfl⟩ := ha.slice_some; simp
  · cases ha.flat_inv rfl; simp
  · obtain ⟨a', b', rfl⟩ := ha.func_some; simp
  · cases ha.flat_inv rfl; simp
  · cases h
theorem bin_sound {op : BinOp} {t : TypeId} {ρ : Operand → Value} {x y : Operand} {a b v : Value} (ha : VRel m a (ρ x)) (hb : VRel m b (ρ y)) (h : bin P op t a b = some v) :
    ∃ v', (do eqGuard op t x y (ρ x) (ρ y); binOp op t (ρ x) (ρ y)).run P w = .ok v' w ∧ VRel m v v' := by
  unfold bin at h
  split at h
  · rename_i hf
    obtain ⟨f1, f2, f3⟩ := hf
    rw [ha.flat_inv f1, hb.flat_inv f2]
    cases hs : still P (binOp op t a b) with
    | none => rw [hs] at h; cases h
    | some u =>
      rw [hs] at h
      simp only [Option.bind_some] at h
      split at h
      · rename_i hfu
        cases h
        refine ⟨v, ?_, .flat _ hfu⟩
        have hg : eqGuard op t x y a b = pure () := by
          cases a <;> first | (simp [isNilI] at f3; done) | (simp [flat1] at f1; done) | (cases op <;> rfl)
        rw [hg]
        simp [still_run _ _ hs w]
      · cases h
  · split at h
    · cases hd : P.underlying t with
      | none => rw [hd] at h; cases h
      | some D =>
        rw [hd] at h
        simp only [Option.bind_some] at h
        cases hn : nilEq D a b with
        | none => rw [hn] at h; cases h
        | some c =>
          rw [hn] at h
          cases h
          obtain ⟨h1, h2⟩ := nilEq_sound (w := w) hd ha hb hn
          obtain ⟨q1, q2, q3, q4⟩ := nilEq_left ha hn
          refine ⟨.bool c, ?_, .flat _ rfl⟩
          rw [h2, binOp_eql _ _ _ q1 q2 q3 q4]
          simp [h1]
    · cases hd : P.underlying t with
      | none => rw [hd] at h; cases h
      | some D =>
        rw [hd] at h
        simp only [Option.bind_some] at h
        cases hn : nilEq D a b with
        | none => rw [hn] at h; cases h
        | some c =>
          rw [hn] at h
          cases h
          obtain ⟨h1, h2⟩ := nilEq_sound (w := w) hd ha hb hn
          obtain ⟨q1, q2, q3, q4⟩ := nilEq_left ha hn
          refine ⟨.bool !c, ?_, .flat _ rfl⟩
          rw [h2, binOp_neq _ _ _ q1 q2 q3 q4]
          simp [h1]
    · cases h
theorem un_sound {op : UnOp} {a a' v : Value} (ha : VRel m a a') (h : un P op a = some v) : ∃ v', (Op.unary op a').run P w = .ok v' w ∧ VRel m v v' := by
  unfold un at h
  split at h
  · rename_i hf
    rw [ha.flat_inv hf]
    cases hs : still P (Op.unary op a) with
    | none => rw [hs] at h; cases h
    | some u =>
      rw [hs] at h
      simp only [Option.bind_some] at h
      split at h
      · rename_i hfu; cases h; exact ⟨v, still_run _ _ hs w, .flat _ hfu⟩
      · cases h
  · cases h
theorem cv_sound {s d : TypeId} {a a' v : Value} (ha : VRel m a a') (h : cv P s d a = some v) : ∃ v', (convert s d a').run P w = .ok v' w ∧ VRel m v v' := by
  unfold cv at h
  split at h
  · rename_i hs hd
    cases h
    cases ha.int_inv
    exact ⟨_, by simp [convert, run_underlying hs, run_underlying hd, Conv.intToInt], .flat _ rfl⟩
  · rename_i hs hd
    cases h
    cases ha.str_inv
    refine ⟨_, ?_, .flat _ rfl⟩
    simp [convert, run_underlying hs, run_underlying hd]
  · cases h
end
end Go.AM
set_option linter.unusedVariables false
set_option linter.unusedSimpArgs false
namespace Go.AM
open Go.RowKit

section
variable {P : Program} {B0 : Nat} {w0 : World} {m : Mp} {H : AH} {w : World}

theorem rdN_len {k : Blk} {off n : Nat} {cs : List Value} (h : rdN k off n = some cs) : cs.length = n := by
  unfold rdN at h
  split at h
  · cases h; simp; omega
  · cases h
theorem cellsOfBytes_len (s : ByteArray) : (cellsOfBytes s).length = s.size := by simp [cellsOfBytes]
theorem cells_sound (R : Rel P B0 w0 m H w) {sz n : Nat} {x x' : Value} {cs : List Value} (hx : VRel m x x') (h : sliceCells sz H x n = some cs) :
    ∃ ds, LRel m cs ds ∧ (Builtin.firstCells sz n x').run P w = .ok ds.toArray w ∧ (Builtin.firstCells sz n x').run P w.drew = .ok ds.toArray w.drew ∧ ((∀ s, x ≠ .string s) ∨ sz = 1 → ds.length = n * sz) := by
  unfold sliceCells at h
  split at h
  · split at h
    · rename_i h0
      subst h0
      cases h
      cases hx.flat_inv rfl
      exact ⟨[], LRel.nil m, by simp [Builtin.firstCells], by simp [Builtin.firstCells], fun _ => by simp⟩
    · cases h
  · rename_i b off len cap
    obtain ⟨L, off', cap', hm, rfl, h1, h2, h3, h4, h5, h6⟩ := hx.slice_inv
    split at h
    · rename_i h0
      subst h0
      cases h
      exact ⟨[], LRel.nil m, by simp [Builtin.firstCells, loadCells, loadCellsFrom], by simp [Builtin.firstCells, loadCells, loadCellsFrom], fun _ => by simp⟩
    · split at h
      · cases hb : blk H b with
        | none => rw [hb] at h; cases h
        | some k =>
          rw [hb] at h
          simp only [Option.bind_some] at h
          obtain ⟨ds, hl, hc⟩ := (R.blks b L k hm hb).row h
          have hlen : ds.length = n * sz := by rw [← hl.1]; exact rdN_len h
          rcases h3 with rfl | h3
          · have e1 := run_loadCells_list (P := P) w _ ds hc
            have e2 := run_loadCells_list (P := P) w.drew _ ds hc
            rw [hlen] at e1 e2
            exact ⟨ds, hl, by simp [Builtin.firstCells, e1], by simp [Builtin.firstCells, e2], fun _ => hlen⟩
          · omega
      · cases h
  · rename_i s
    split at h
    · rename_i hn
      cases h
      cases hx.str_inv
      have e : ((s.extract 0 n).data.map fun b => Value.int .u8 b.toNat) = ((cellsOfBytes s).take n).toArray := by
        apply Array.ext'
        simp [cellsOfBytes, ByteArray.data_extract]
      refine ⟨_, LRel.of_flat _ ?_, by simp only [Builtin.firstCells]; rw [e]; rfl, by simp only [Builtin.firstCells]; rw [e]; rfl, fun hh => ?_⟩
      · rw [List.all_eq_true]
        intro v hv
        have := List.mem_of_mem_take hv
        simp only [cellsOfBytes, List.mem_map] at this
        obtain ⟨b, _, rfl⟩ := this
        rfl
      · rcases hh with hh | rfl
        · exact (hh s rfl).elim
        · rw [List.length_take, cellsOfBytes_len]; omega
    · cases h
  · cases h
theorem bytesOf_inv : ∀ (cs : List Value) (l : List UInt8), bytesOf cs = some l → ∃ ns : List Int, cs = ns.map (Value.int .u8) ∧ l = ns.map fun n => UInt8.ofNat n.toNat
  | [], l, h => by cases h; exact ⟨[], rfl, rfl⟩
  | v :: r, l, h => by
    unfold bytesOf at h
    split at h
    · rename_i he; cases he
    · rename_i n r' he
      cases he
      cases hr : bytesOf r with
      | none => rw [hr] at h; cases h
      | some l' =>
        rw [hr] at h
        cases h
        obtain ⟨ns, h1, h2⟩ := bytesOf_inv r l' hr
        exact ⟨n :: ns, by simp [h1], by simp [h2]⟩
    · cases h
theorem foldl_push (ns : List Int) : ∀ r : ByteArray, ns.foldl (fun r n => r.push (UInt8.ofNat n.toNat)) r = ⟨r.data ++ (ns.map fun n => UInt8.ofNat n.toNat).toArray⟩ := by
  induction ns with
  | nil => intro r; simp
  | cons n ns ih => intro r; rw [List.foldl_cons, ih]; simp [ByteArray.push]
theorem LRel.flat_eq {ns : List Int} {ds : List Value} (h : LRel m (ns.map (Value.int .u8)) ds) : ds = ns.map (Value.int .u8) := by
  apply List.ext_getElem?
  intro i
  rcases Nat.lt_or_ge i ns.length with h1 | h1
  · have h2 : i < ds.length := by rw [← h.1]; simpa using h1
    have e1 : (ns.map (Value.int .u8))[i]? = some (.int .u8 ns[i]) := by simp [h1]
    have := h.2 i _ _ e1 (List.getElem?_eq_getElem h2)
    rw [e1, List.getElem?_eq_getElem h2, this.int_inv]
  · rw [List.getElem?_eq_none (by rw [← h.1]; simpa using h1), List.getElem?_eq_none (by simpa using h1)]
theorem cvS_sound (R : Rel P B0 w0 m H w) {s d : TypeId} {a a' v : Value} (ha : VRel m a a') (h : cvS P s d H a = some v) : ∃ v', (convert s d a').run P w = .ok v' w ∧ VRel m v v' := by
  unfold cvS at h
  split at h
  · rename_i e ad len cap hs hd
    split at h
    · rename_i he
      cases hc : sliceCells 1 H (.slice ad len cap) len with
      | none => rw [hc] at h; cases h
      | some cs =>
        rw [hc] at h
        simp only [Option.bind_some] at h
        cases hb : bytesOf cs with
        | none => rw [hb] at h; cases h
        | some l =>
          rw [hb] at h
          cases h
          obtain ⟨ns, rfl, rfl⟩ := bytesOf_inv cs l hb
          obtain ⟨ds, h1, h2, _, h3⟩ := cells_sound R ha hc
          have hds := h1.flat_eq
          subst hds
          refine ⟨_, ?_, .flat _ rfl⟩
          cases ad with
          | none =>
            have hz : len = 0 ∧ cap = 0 := by
              unfold sliceCells at hc
              split at hc
              · rename_i he; cases he; exact ⟨rfl, rfl⟩
              · rename_i he; cases he
              · rename_i he; cases he
              · cases hc
            obtain ⟨rfl, rfl⟩ := hz
            have hn : ns = [] := by have := h3 (.inl fun s hs => by cases hs); simpa using this
            subst hn
            cases ha.flat_inv rfl
            rw [run_convert_bytes_string w s d e none 0 0 hs he hd]
            simp [Conv.bytesToString]
            rfl
          | some ad =>
            obtain ⟨ad', c', rfl⟩ := ha.slice_some
            rw [run_convert_bytes_string w s d e (some ad') len c' hs he hd]
            have e1 : (loadCells ad' len).run P w = .ok (ns.map (Value.int .u8)).toArray w := by simpa [Builtin.firstCells] using h2
            rw [run_bytesToString w ad' len c' ns e1, foldl_push]
            simp
    · cases h
  · cases h
theorem lenOf_sound {x x' : Value} {n : Nat} (hx : VRel m x x') (h : lenOf x = some n) (w : World) : (Builtin.lenOf x').run P w = .ok n w := by
  unfold lenOf at h
  split at h
  · cases h; cases hx.flat_inv rfl; rfl
  · cases h
    rename_i ad n c
    cases hx with
    | flat v hf => simp [flat1] at hf
    | slice => rfl
  · cases h; cases hx.str_inv; rfl
  · cases h
/-- append, where there is room. -/
theorem run_ap_room {t u ty e : TypeId} {i : TypeInfo} {D : TypeDesc} (ht : P.underlying t = some (.slice e)) (hu : P.underlying u = some D) (hD : (∃ e', D = .slice e') ∨ D = .string) (hi : P.info? e = some i) {x : Value} {n : Nat} (hn : (Builtin.lenOf x).run P w = .ok n w)
    {g o sLen sCap : Nat} {news : List Value} (hf : (Builtin.firstCells i.size n x).run P w = .ok news.toArray w) (hroom : sLen + n ≤ sCap) {w' : World} (hst : (storeCells ⟨g, o + sLen * i.size, none⟩ news).run P w = .ok () w') :
    (Builtin.append_ #[t, u] ty #[.slice (some ⟨g, o, none⟩) sLen sCap, x]).run P w = .ok (.slice (some ⟨g, o, none⟩) (sLen + n) sCap) w' := by
  rcases hD with ⟨e', rfl⟩ | rfl <;> simp [Builtin.append_, run_underlying ht, run_underlying hu, sizeOf, typeInfo, hi, hn, hroom, hf, Addr.add_lit, hst]
/-- append, where there is none. -/
theorem run_ap_grow {t u ty e : TypeId} {i : TypeInfo} {z : Value} {D : TypeDesc} (ht : P.underlying t = some (.slice e)) (hu : P.underlying u = some D) (hD : (∃ e', D = .slice e') ∨ D = .string) (hi : P.info? e = some i) (hz : i.zero = some z) {x : Value} {n : Nat} (hn : (Builtin.lenOf x).run P w = .ok n w)
    {b : Option Addr} {sLen sCap : Nat} {olds news : List Value} (hfo : (Builtin.firstCells i.size sLen (.slice b sLen sCap)).run P w.drew = .ok olds.toArray w.drew) (hf : (Builtin.firstCells i.size n x).run P w.drew = .ok news.toArray w.drew)
    (hg : sCap < sLen + n) (h63 : sLen + n ≤ 9223372036854775807) (hfit : (sLen + n) * i.bytes ≤ 140737488355328) :
    (Builtin.append_ #[t, u] ty #[.slice b sLen sCap, x]).run P w =
      .ok (.slice (some ⟨w.heap.size, 0, none⟩) (sLen + n) (grownCap w (sLen + n) sCap e))
        (w.drew.alloc (.cells (olds ++ news ++ (Builtin.zeroCells z.cells (grownCap w (sLen + n) sCap e - (sLen + n))).toList).toArray e)) := by
  have hnn : ¬ (sLen + n ≤ sCap) := by omega
  have h63' : ¬ (9223372036854775807 < ((sLen : Int) + (n : Int))) := by omega
  have h48 := growslice_fits hg hfit
  have h48' : ¬ (281474976710656 < Builtin.nextslicecap (sLen + n) sCap * i.bytes) := by omega
  rcases hD with ⟨e', rfl⟩ | rfl <;> (simp [Builtin.append_, run_underlying ht, run_underlying hu, sizeOf, typeInfo, zeroValue, hi, hz, hn, hnn, h63', h48', Question.forced, hf, hfo, newRow, grownCap]; congr 2; apply Array.ext'; simp)
theorem oneCells {xs ys : List Value} (h : LRel m xs ys) (ha : xs.all isCell = true) : ∀ u ∈ ys, u.oneCell' = true := by
  intro u hu
  obtain ⟨i, hi⟩ := List.getElem?_of_mem hu
  have hlt : i < xs.length := by rw [h.1]; exact (List.getElem?_eq_some_iff.1 hi).1
  have hx := List.getElem?_eq_getElem hlt
  exact (VRel.isCell (h.2 i _ _ hx hi) (List.all_eq_true.1 ha _ (List.mem_of_getElem? hx))).1
theorem grow_new {H0 : AH} (R : Rel P B0 w0 m H0 w) {e : TypeId} {i : TypeInfo} {z : Value} (hi : P.info? e = some i) (hzs : z.cells.size = i.size) {cs ks : List Value} {N cap : Nat} (hl : LRel m cs ks) (hN : ks.length = N * i.size) (hcap : N ≤ cap) :
    ∃ m', VRel m' (sl H0.length 0 N (N + 1)) (.slice (some ⟨w.heap.size, 0, none⟩) N cap) ∧ Rel P B0 w0 m' (mkB H0 cs e .grow) (w.drew.alloc (.cells (ks ++ (Builtin.zeroCells z.cells (cap - N)).toList).toArray e)) ∧
      Ext m H0 w m' (mkB H0 cs e .grow) (w.drew.alloc (.cells (ks ++ (Builtin.zeroCells z.cells (cap - N)).toList).toArray e)) := by
  obtain ⟨h3, h4⟩ := R.drew.make (P := P) cs e .grow (ks ++ (Builtin.zeroCells z.cells (cap - N)).toList).toArray (by decide) (by
    show LRel m cs ((ks ++ _).take cs.length)
    rw [hl.1, List.take_left]
    exact hl) (fun hk => by cases hk)
  refine ⟨_, VRel.newSl (upd_same _ _ _) rfl (Nat.le_succ _) hcap (fun hk => by cases hk) ?_ (fun _ => Nat.lt_succ_self _), h3, h4.drewL⟩
  intro _
  show cap * szT P e ≤ (ks ++ (Builtin.zeroCells z.cells (cap - N)).toList).toArray.size
  simp only [List.size_toArray, List.length_append, Array.length_toList, size_zeroCells, hN, hzs, szT_eq hi]
  rw [← Nat.add_mul]
  exact Nat.mul_le_mul_right _ (by omega)
theorem apS_sound (R : Rel P B0 w0 m H w) {t u ty e : TypeId} {i : TypeInfo} {z : Value} {D : TypeDesc} (ht : P.underlying t = some (.slice e)) (hu : P.underlying u = some D) (hD : (∃ e', D = .slice e') ∨ D = .string) (hi : P.info? e = some i) (hz : i.zero = some z)
    (hzs : z.cells.size = i.size) {s s' x x' v : Value} {n : Nat} {news : List Value} {H' : AH} (hs : VRel m s s') (hx : VRel m x x') (hsz0 : 0 < i.size) (hn : lenOf x = some n) (hc : sliceCells i.size H x n = some news) (hd1 : (∀ s, x ≠ .string s) ∨ i.size = 1) (hone : news.all isCell = true)
    (h : apS i.size i.bytes e H s n news = some (v, H')) :
    ∃ v' m' w', (Builtin.append_ #[t, u] ty #[s', x']).run P w = .ok v' w' ∧ VRel m' v v' ∧ Rel P B0 w0 m' H' w' ∧ Ext m H w m' H' w' := by
  have hnl := lenOf_sound (P := P) hx hn w
  obtain ⟨ds, hl, hf1, hf2, hdl⟩ := cells_sound R hx hc
  have hdl := hdl hd1
  have h1 := oneCells hl hone
  unfold apS at h
  split at h
  · cases hs.flat_inv rfl
    split at h
    · rename_i h0
      subst h0
      cases h
      have hd0 : ds = [] := by simpa using hdl
      subst hd0
      refine ⟨.slice none 0 0, m, w, ?_, .flat _ rfl, R, Ext.refl _ _ _⟩
      rcases hD with ⟨e', rfl⟩ | rfl <;> simp [Builtin.append_, run_underlying ht, run_underlying hu, sizeOf, typeInfo, hi, hnl, hf1]
    · rename_i h0
      split at h
      · rename_i hb
        cases h
        have hrun := run_ap_grow (P := P) (w := w) (ty := ty) (b := none) (sLen := 0) (sCap := 0) (olds := []) ht hu hD hi hz hnl (by simp [Builtin.firstCells]) hf2 (by omega) (by omega) (by rw [Nat.zero_add]; exact hb.1)
        simp only [Nat.zero_add, List.nil_append] at hrun
        obtain ⟨m', q1, q2, q3⟩ := grow_new R hi hzs hl hdl (grownCap_ge w n 0 e)
        exact ⟨_, m', _, hrun, q1, q2, q3⟩
      · cases h
  · rename_i b off len cap
    have hs0 := hs
    obtain ⟨L, off', cap', hm, rfl, g1, g2, g3, g4, g5, g8⟩ := hs.slice_inv
    split at h
    · rename_i h0
      subst h0
      cases h
      have hd0 : ds = [] := by simpa using hdl
      subst hd0
      exact ⟨_, m, w, run_ap_room ht hu hD hi hnl hf1 (by omega) (by simp [storeCells]), hs0, R, Ext.refl _ _ _⟩
    · rename_i hn0
      split at h
      · rename_i hc0
        subst hc0
        have hl0 : len = 0 := by omega
        subst hl0
        have hc0 : cap' = 0 := by
          by_cases hk : L.kind = .fix
          · exact (g4 hk).2
          · rcases g8 hk with g9 | g9
            · omega
            · exact g9.2
        subst hc0
        split at h
        · rename_i hb
          cases h
          have hrun := run_ap_grow (P := P) (w := w) (ty := ty) (b := some ⟨L.blk, off', none⟩) (sLen := 0) (sCap := 0) (olds := []) ht hu hD hi hz hnl (by simp [Builtin.firstCells, loadCells, loadCellsFrom]) hf2 (by omega) (by omega) (by rw [Nat.zero_add]; exact hb.1)
          simp only [Nat.zero_add, List.nil_append] at hrun
          obtain ⟨m', q1, q2, q3⟩ := grow_new R hi hzs hl hdl (grownCap_ge w n 0 e)
          exact ⟨_, m', _, hrun, q1, q2, q3⟩
        · cases h
      rename_i hcap0
      cases hb : blk H b with
      | none => rw [hb] at h; cases h
      | some k =>
        rw [hb] at h
        simp only [Option.bind_some] at h
        cases hr : rdN k off (len * i.size) with
        | none => rw [hr] at h; cases h
        | some old =>
          rw [hr] at h
          simp only [Option.bind_some] at h
          have hol := rdN_len hr
          -- the elder cells, as they are read
          have holds : ∃ os, LRel m old os ∧ os.length = len * i.size ∧ (Builtin.firstCells i.size len (.slice (some ⟨L.blk, off', none⟩) len cap')).run P w.drew = .ok os.toArray w.drew := by
            have hsc : sliceCells i.size H (.slice (some ⟨b, off, none⟩) len cap) len = some old := by
              unfold sliceCells
              simp only
              split
              · rename_i hl0
                subst hl0
                have : old = [] := by simpa using hol
                rw [this]
              · rw [if_pos (Nat.le_refl _), hb]
                exact hr
            obtain ⟨os, q1, _, q3, q4⟩ := cells_sound R hs0 hsc
            exact ⟨os, q1, q4 (.inl fun s hs => by cases hs), q3⟩
          obtain ⟨os, q1, q2, q3⟩ := holds
          split at h
          · rename_i hcond
            obtain ⟨c1, c2, c3⟩ := hcond
            split at h
            · cases h
            · rename_i hk
              have hLk : L.kind = .fix := by rw [(R.blks b L k hm hb).kind]; exact hk
              obtain ⟨g6, g7⟩ := g4 hLk
              subst g7 g6
              split at h
              · rename_i hle
                split at h
                · rename_i hfit
                  cases h
                  have hnews : news.length = n * i.size := by rw [hl.1, hdl]
                  have hfit' : off + len * i.size + news.length ≤ k.cells.length := by rw [hnews, Nat.add_assoc, ← Nat.add_mul]; exact hfit
                  obtain ⟨w', r1, r2, r3⟩ := store_sound R hm hb (by rw [hk]; decide) (off := off + len * i.size) hfit' hl h1
                  rw [← Nat.add_assoc] at r1
                  refine ⟨_, m, w', run_ap_room ht hu hD hi hnl hf1 hle r1, ?_, r2, r3⟩
                  exact .slice b off _ (len + n) cap' cap' L hm hle hle (.inl rfl) (fun _ => ⟨rfl, rfl⟩) (fun hx => by rw [hLk] at hx; cases hx) (fun hx => (hx hLk).elim)
                · cases h
              · rename_i hle
                cases h
                have hrun := run_ap_grow (P := P) (w := w) (ty := ty) (olds := os) ht hu hD hi hz hnl q3 hf2 (show cap' < len + n by omega) c2 c1
                obtain ⟨m', r1, r2, r3⟩ := grow_new R hi hzs (q1.append hl) (N := len + n) (cap := grownCap w (len + n) cap' e) (by rw [List.length_append, q2, hdl, Nat.add_mul]) (grownCap_ge w _ _ e)
                exact ⟨_, m', _, hrun, r1, r2, r3⟩
            · rename_i hk
              split at h
              · rename_i hoff
                subst hoff
                have hcp : 0 < cap := by omega
                cases h
                have hLk : L.kind = .grow := by rw [(R.blks b L k hm hb).kind]; exact hk
                have hcs := g5 hLk rfl hcp
                by_cases hle : len + n ≤ cap'
                · obtain ⟨c, e', fr, hw, hlr, h3, h4, h5⟩ := (R.blks b L k hm hb).there
                  obtain ⟨rfl, he, hbs⟩ := h3 (by rw [hk]; decide)
                  have hcsz := h5 hk
                  have hesz : L.esz = i.size := by rw [(R.blks b L k hm hb).esz hk, c3, szT_eq hi]
                  have hin : off' + len * i.size + ds.length ≤ c.size := by
                    rw [hdl, hcsz, Nat.add_assoc, ← Nat.add_mul]
                    have : (len + n) * i.size ≤ cap' * i.size := Nat.mul_le_mul_right _ hle
                    rw [hesz] at hcs
                    omega
                  have hst := run_storeCells_at P L.blk (off' + len * i.size) e' ds 0 c w hw (by omega) h1
                  have hrun := run_ap_room (P := P) (w := w) (ty := ty) ht hu hD hi hnl hf1 hle hst
                  simp only [Nat.add_zero] at hst hrun
                  have hcl : c.toList.length = c.size := by simp
                  have hold : LRel m old ((c.toList.drop off').take (len * i.size)) := by
                    unfold rdN at hr
                    split at hr
                    · rename_i hle2
                      cases hr
                      rcases g3 with g3 | g3
                      · have := (hlr.drop 0).take (len * i.size)
                        simp only [List.drop_zero] at this
                        rw [List.take_take, Nat.min_eq_left (by omega)] at this
                        rw [List.drop_zero, g3, Nat.add_zero]
                        exact this
                      · subst g3
                        simp only [Nat.zero_mul, List.take_zero]
                        exact LRel.nil m
                    · cases hr
                  have hcut : ((c.toList.take (off' + len * i.size) ++ ds ++ c.toList.drop (off' + len * i.size + ds.length)).toArray.toList.drop off').take (old ++ news).length = (c.toList.drop off').take (len * i.size) ++ ds := by
                    have hnl2 : (old ++ news).length = len * i.size + ds.length := by rw [List.length_append, hol, hl.1]
                    rw [hnl2]
                    apply List.ext_getElem?
                    intro j
                    simp only [List.getElem?_take, List.getElem?_drop, List.getElem?_append, List.length_take, List.length_drop, List.length_append]
                    rw [hcl]
                    by_cases j1 : j < len * i.size
                    · rw [if_pos (by omega), if_pos (by omega), if_pos (by omega), if_pos (by omega), if_pos (by omega), if_pos (by omega)]
                    · by_cases j2 : j < len * i.size + ds.length
                      · rw [if_pos (by omega), if_pos (by omega), if_neg (by omega), if_neg (by omega)]
                        congr 1
                        omega
                      · rw [if_neg (by omega), if_neg (by omega), List.getElem?_eq_none (by omega)]
                  obtain ⟨r2, r3⟩ := R.regrow (P := P) hm hb hk hw off' (old ++ news) (c.toList.take (off' + len * i.size) ++ ds ++ c.toList.drop (off' + len * i.size + ds.length)).toArray (by simp; omega) (by simp; omega) (by
                    rw [hcut]
                    exact hold.append hl)
                  rw [c3] at r2 r3
                  refine ⟨_, _, _, hrun, ?_, r2, r3⟩
                  refine .slice H.length 0 off' (len + n) (len + n + 1) cap' ⟨L.blk, off', .grow, L.csize, L.esz⟩ (upd_same _ _ _) (Nat.le_succ _) hle (.inl rfl) (fun hx => by cases hx) (fun _ _ _ => hcs) (fun _ => .inl (Nat.lt_succ_self _))
                · have hrun := run_ap_grow (P := P) (w := w) (ty := ty) (olds := os) ht hu hD hi hz hnl q3 hf2 (show cap' < len + n by omega) c2 c1
                  obtain ⟨R2, X2⟩ := R.killed b
                  obtain ⟨m', r1, r2, r3⟩ := grow_new R2 hi hzs (q1.append hl) (N := len + n) (cap := grownCap w (len + n) cap' e) (by rw [List.length_append, q2, hdl, Nat.add_mul]) (grownCap_ge w _ _ e)
                  rw [length_kill'] at r1
                  exact ⟨_, m', _, hrun, r1, r2, Ext.trans (fun b L hb => (R.dom b L hb).1) X2 r3⟩
              · cases h
          · cases h
  · cases h
end
theorem zeroCells_one (a : Array Value) (ha : a.size = 1) (n : Nat) : (Builtin.zeroCells a n).toList = rep a.toList n := by
  obtain ⟨l⟩ := a
  obtain ⟨c, rfl⟩ := List.length_eq_one_iff.mp (show l.length = 1 from ha)
  have e : rep [c] n = List.replicate n c := by
    induction n with
    | zero => rfl
    | succ n ih => rw [rep, ih]; rfl
  show _ = rep [c] n
  rw [e]
  unfold Builtin.zeroCells
  have h1 : (⟨[c]⟩ : Array Value).size = 1 := rfl
  rw [h1, Nat.mul_one]
  apply List.ext_getElem?
  intro i
  by_cases h : i < n
  · simp [h, Nat.mod_one]
  · simp [h]
theorem apZ_sound {P : Program} {B0 : Nat} {w0 : World} {m : Mp} {H : AH} {w : World} (R : Rel P B0 w0 m H w) {t u ty e : TypeId} {i : TypeInfo} {z : Value} {kn k : IntKind} {n : Int} (ht : P.underlying t = some (.slice e)) (hu : P.underlying u = some (.int kn)) (hi : P.info? e = some i) (hz : i.zero = some z) (hz2 : flat z = true)
    (hzs : z.cells.size = 1) (hsz : i.size = 1) {s' x' : Value} (hs : VRel m (.slice none 0 0) s') (hx : VRel m (.int k n) x') (h0 : 0 < n) (h63 : n ≤ 9223372036854775807) (h48 : n * i.bytes ≤ 140737488355328) :
    ∃ v' m' w', (Builtin.append_ #[t, u] ty #[s', x']).run P w = .ok v' w' ∧ VRel m' (sl H.length 0 n.toNat (n.toNat + 1)) v' ∧ Rel P B0 w0 m' (mkB H (rep z.cells.toList n.toNat) e .grow) w' ∧ Ext m H w m' (mkB H (rep z.cells.toList n.toNat) e .grow) w' := by
  cases hs.flat_inv rfl
  cases hx.int_inv
  obtain ⟨q, rfl⟩ := Int.eq_ofNat_of_zero_le (show 0 ≤ n by omega)
  rw [Int.toNat_natCast]
  have h48' : q * i.bytes ≤ 140737488355328 := by
    rw [← Int.natCast_mul] at h48
    omega
  have hrun := Lib.run_append_nil_zeros (P := P) w t u ty e i z k kn ht hu hi hz q (by omega) (by omega) h63 (by omega)
  have hzc := zeroCells_one z.cells hzs q
  have hN : (rep z.cells.toList q).length = q * i.size := by rw [← hzc, Array.length_toList, size_zeroCells, hzs, hsz]
  obtain ⟨m', q1, q2, q3⟩ := grow_new (cs := rep z.cells.toList q) (ks := rep z.cells.toList q) R hi (by rw [hzs, hsz]) ((flat_cells hz2).rep q) hN (grownCap_ge w q 0 e)
  have harr : Builtin.zeroCells z.cells q ++ Builtin.zeroCells z.cells (grownCap w q 0 e - q) = (rep z.cells.toList q ++ (Builtin.zeroCells z.cells (grownCap w q 0 e - q)).toList).toArray := by
    apply Array.ext'
    simp [hzc]
  rw [harr] at hrun
  exact ⟨_, m', _, hrun, q1, q2, q3⟩
end Go.AM
set_option linter.unusedVariables false
set_option linter.unusedSimpArgs false
namespace Go.AM
open Go.RowKit

section
variable {P : Program} {B0 : Nat} {w0 : World} {m : Mp} {H : AH} {w : World}

theorem run_cpy {t u ty e : TypeId} {i : TypeInfo} (hd : P.underlying t = some (.slice e)) (hi : P.info? e = some i) {x : Value} {n len cap : Nat} {ad : Option Addr} {ds : List Value} {w' : World} (hn : (Builtin.lenOf x).run P w = .ok n w)
    (hf : (Builtin.firstCells i.size (min n len) x).run P w = .ok ds.toArray w) (hst : ∀ a, ad = some a → (storeCells a ds).run P w = .ok () w') (hno : ad = none → w' = w) :
    (Builtin.copy_ #[t, u] ty #[.slice ad len cap, x]).run P w = .ok (goInt (min n len : Nat)) w' := by
  have hm : n.min len = min n len := rfl
  cases ad with
  | none => cases hno rfl; simp [Builtin.copy_, run_underlying hd, hn, sizeOf, typeInfo, hi, hm, hf]
  | some a => simp [Builtin.copy_, run_underlying hd, hn, sizeOf, typeInfo, hi, hm, hf, hst a rfl]
theorem sliceCells_zero {sz : Nat} {x : Value} {cs : List Value} (h : sliceCells sz H x 0 = some cs) : cs = [] := by
  unfold sliceCells at h
  split at h
  · rw [if_pos rfl] at h; cases h; rfl
  · rw [if_pos rfl] at h; cases h; rfl
  · split at h
    · cases h; rfl
    · cases h
  · cases h
theorem cpy_sound (R : Rel P B0 w0 m H w) {t u ty : TypeId} {s s' x x' v : Value} {H' : AH} (hs : VRel m s s') (hx : VRel m x x') (h : cpy P t H s x = some (v, H')) :
    ∃ v' w', (Builtin.copy_ #[t, u] ty #[s', x']).run P w = .ok v' w' ∧ VRel m v v' ∧ Rel P B0 w0 m H' w' ∧ Ext m H w m H' w' := by
  unfold cpy at h
  split at h
  · rename_i e b off len cap hd
    split at h
    · cases h
    · rename_i hinf
      simp only [Bool.not_eq_false] at hinf
      obtain ⟨i, hi⟩ := isSome_info hinf
      cases hn : lenOf x with
      | none => rw [hn] at h; cases h
      | some n =>
        rw [hn] at h
        simp only [Option.bind_some] at h
        cases hc : sliceCells (szT P e) H x (min n len) with
        | none => rw [hc] at h; cases h
        | some cs =>
          rw [hc] at h
          simp only [Option.bind_some] at h
          have hnl := lenOf_sound (P := P) hx hn w
          obtain ⟨ds, hl, hf1, _, _⟩ := cells_sound R hx hc
          obtain ⟨L, off', cap', hm, rfl, g1, g2, g3, g4, g5, g8⟩ := hs.slice_inv
          rw [szT_eq hi] at hf1
          split at h
          · rename_i h0
            cases h
            rw [h0] at hc
            have := sliceCells_zero hc
            subst this
            have hds : ds = [] := hl.nil_inv
            subst hds
            refine ⟨_, w, run_cpy hd hi hnl hf1 (fun a _ => by simp [storeCells]) (fun h => by cases h), ?_, R, Ext.refl _ _ _⟩
            rw [h0]
            exact .flat _ rfl
          · rename_i h0
            cases hb : blk H b with
            | none => rw [hb] at h; cases h
            | some k =>
              rw [hb] at h
              simp only [Option.bind_some] at h
              split at h
              · rename_i hcond
                obtain ⟨c1, c2, c4⟩ := hcond
                cases h
                have h1 := oneCells hl c4
                have g3 : off' = L.base + off := by omega
                subst g3
                obtain ⟨w', r1, r2, r3⟩ := store_sound R hm hb c1 (off := off) c2 hl h1
                exact ⟨_, w', run_cpy hd hi hnl hf1 (fun a ha => by cases ha; exact r1) (fun h => by cases h), .flat _ rfl, r2, r3⟩
              · cases h
  · rename_i e hd
    split at h
    · cases h
    · rename_i hinf
      simp only [Bool.not_eq_false] at hinf
      obtain ⟨i, hi⟩ := isSome_info hinf
      cases hn : lenOf x with
      | none => rw [hn] at h; cases h
      | some n =>
        rw [hn] at h
        cases h
        cases hs.flat_inv rfl
        have hnl := lenOf_sound (P := P) hx hn w
        have hf : (Builtin.firstCells i.size (min n 0) x').run P w = .ok (([] : List Value).toArray) w := by
          rw [Nat.min_zero]
          unfold lenOf at hn
          split at hn
          · cases hx.flat_inv rfl; simp [Builtin.firstCells]
          · obtain ⟨ad', c', rfl⟩ := hx.slice_some; simp [Builtin.firstCells, loadCells, loadCellsFrom]
          · cases hx.str_inv; simp [Builtin.firstCells]
          · cases hn
        refine ⟨_, w, run_cpy hd hi hnl hf (fun a ha => by cases ha) (fun _ => rfl), ?_, R, Ext.refl _ _ _⟩
        rw [Nat.min_zero]
        exact .flat _ rfl
  · cases h
theorem lenV_sound {t u ty : TypeId} {x x' v : Value} (hx : VRel m x x') (h : lenV P t x = some v) : (Builtin.len_ #[t] ty #[x']).run P w = .ok v w ∧ flat1 v = true := by
  unfold lenV at h
  split at h
  · rename_i s hd
    cases h
    cases hx.str_inv
    exact ⟨by simp [Builtin.len_, run_underlying hd, goInt], rfl⟩
  · rename_i e a n c hd
    cases h
    cases hx with
    | flat v hf =>
      exact ⟨by simp [Builtin.len_, run_underlying hd, goInt], rfl⟩
    | slice => exact ⟨by simp [Builtin.len_, run_underlying hd, goInt], rfl⟩
  · rename_i n e hd
    cases h
    exact ⟨by simp [Builtin.len_, run_underlying hd, goInt], rfl⟩
  · cases h
theorem capV_sound {t u ty : TypeId} {x x' v : Value} (hx : VRel m x x') (h : capV P t x = some v) : (Builtin.cap_ #[t] ty #[x']).run P w = .ok v w ∧ flat1 v = true := by
  unfold capV at h
  split at h
  · rename_i e hd
    cases h
    have := VRel.flat_inv (x := .slice none 0 0) rfl hx
    subst this
    exact ⟨by simp [Builtin.cap_, run_underlying hd, goInt], rfl⟩
  · cases h
theorem min2_sound {x y x' y' v : Value} (hx : VRel m x x') (hy : VRel m y y') (h : minV x y = some v) : (Builtin.min2 x' y').run P w = .ok v w ∧ flat1 v = true := by
  unfold minV at h
  split at h
  · cases h; cases hx.int_inv; cases hy.int_inv; exact ⟨by simp [Builtin.min2], rfl⟩
  · cases h
theorem max2_sound {x y x' y' v : Value} (hx : VRel m x x') (hy : VRel m y y') (h : maxV x y = some v) : (Builtin.max2 x' y').run P w = .ok v w ∧ flat1 v = true := by
  unfold maxV at h
  split at h
  · cases h; cases hx.int_inv; cases hy.int_inv; exact ⟨by simp [Builtin.max2], rfl⟩
  · cases h
theorem foldgo_sound (f : Value → Value → Option Value) (g : Value → Value → Sem Value) (hfg : ∀ {x y x' y' v : Value}, VRel m x x' → VRel m y y' → f x y = some v → (g x' y').run P w = .ok v w ∧ flat1 v = true) :
    ∀ (xs ys : List Value) (x x' v : Value), VRel m x x' → LRel m xs ys → fold1.go f x xs = some v → ∃ v', (ys.foldlM g x').run P w = .ok v' w ∧ VRel m v v'
  | [], ys, x, x', v, hx, hl, h => by
    cases hl.nil_inv
    cases h
    exact ⟨x', by simp [List.foldlM], hx⟩
  | y :: xs, ys, x, x', v, hx, hl, h => by
    obtain ⟨y', zs, rfl, hy, hr⟩ := hl.cons_inv
    unfold fold1.go at h
    cases hf : f x y with
    | none => rw [hf] at h; cases h
    | some u =>
      rw [hf] at h
      obtain ⟨h1, h2⟩ := hfg hx hy hf
      obtain ⟨v', h3, h4⟩ := foldgo_sound f g hfg xs zs u u v (.flat _ h2) hr h
      exact ⟨v', by simp [List.foldlM_cons, h1, h3], h4⟩
theorem min_sound {ts : Array TypeId} {ty : TypeId} {xs ys : List Value} {v : Value} (hl : LRel m xs ys) (h : fold1 minV xs = some v) : ∃ v', (Builtin.min_ ts ty ys.toArray).run P w = .ok v' w ∧ VRel m v v' := by
  cases xs with
  | nil => cases h
  | cons x xs =>
    obtain ⟨x', zs, rfl, hx, hr⟩ := hl.cons_inv
    obtain ⟨v', h1, h2⟩ := foldgo_sound (P := P) (w := w) minV Builtin.min2 (fun hx hy h => min2_sound hx hy h) xs zs x x' v hx hr h
    exact ⟨v', by simpa [Builtin.min_] using h1, h2⟩
theorem max_sound {ts : Array TypeId} {ty : TypeId} {xs ys : List Value} {v : Value} (hl : LRel m xs ys) (h : fold1 maxV xs = some v) : ∃ v', (Builtin.max_ ts ty ys.toArray).run P w = .ok v' w ∧ VRel m v v' := by
  cases xs with
  | nil => cases h
  | cons x xs =>
    obtain ⟨x', zs, rfl, hx, hr⟩ := hl.cons_inv
    obtain ⟨v', h1, h2⟩ := foldgo_sound (P := P) (w := w) maxV Builtin.max2 (fun hx hy h => max2_sound hx hy h) xs zs x x' v hx hr h
    exact ⟨v', by simpa [Builtin.max_] using h1, h2⟩
theorem ext_sound {a a' v : Value} {i : Nat} (ha : VRel m a a') (h : ext a i = some v) : ∃ v', (Instr.extract a' i).run P w = .ok v' w ∧ VRel m v v' := by
  unfold ext at h
  split at h
  · rename_i vs
    obtain ⟨ys, rfl, hl⟩ := ha.tuple_inv
    have hlt := (Array.getElem?_eq_some_iff.1 h).1
    have hlt2 : i < ys.size := by have := hl.1; simp at this; omega
    have e1 : ys[i]? = some ys[i] := Array.getElem?_eq_getElem hlt2
    exact ⟨ys[i], by simp [Instr.extract, e1], hl.2 i _ _ (by simpa using h) (by simpa using e1)⟩
  · cases h
end
end Go.AM
set_option linter.unusedVariables false
set_option linter.unusedSimpArgs false
namespace Go.AM
open Go.RowKit
variable {P : Program} {B0 : Nat} {w0 : World} {m : Mp} {H : AH} {w : World}
theorem freeze_ne {w : World} {a : Addr} {n : Nat} {B : Nat} (h : a.block ≠ B) : (w.freeze a n).heap[B]? = w.heap[B]? := by
  unfold World.freeze
  split
  · rfl
  · simp only [Array.getElem?_modify]
    rw [if_neg (by omega)]
theorem freeze_size {w : World} {a : Addr} {n : Nat} : (w.freeze a n).heap.size = w.heap.size := by
  unfold World.freeze
  split
  · rfl
  · simp
theorem Rel.frozen (h : Rel P B0 w0 m H w) {b : Nat} {L : Loc} {k : Blk} (hm : m b = some L) (hb : blk H b = some k) (hk : k.kind ≠ .ro) (o n : Nat) :
    Rel P B0 w0 m (kill H b) (w.freeze ⟨L.blk, o, none⟩ n) ∧ Ext m H w m (kill H b) (w.freeze ⟨L.blk, o, none⟩ n) := by
  have up : ∀ b3 k3, blk (kill H b) b3 = some k3 → b ≠ b3 ∧ blk H b3 = some k3 := by
    intro b3 k3 h3
    by_cases hbb : b = b3
    · subst hbb; rw [blk_kill_same] at h3; cases h3
    · exact ⟨hbb, by rwa [blk_kill_ne hbb] at h3⟩
  have hown := (h.blks b L k hm hb).own hk
  refine ⟨⟨Lib.below_freeze h.below hown n, by rw [freeze_size]; exact h.hB, fun b2 L2 h2 => by rw [length_kill', freeze_size]; exact h.dom b2 L2 h2, fun b2 L2 k2 h2 hk2 => ?_, fun b1 b2 L1 L2 k1 k2 hm1 hm2 hk1 hk2 => h.inj b1 b2 L1 L2 k1 k2 hm1 hm2 (up _ _ hk1).2 (up _ _ hk2).2⟩,
    ⟨fun _ _ h => h, Nat.le_of_eq (length_kill' ..).symm, Nat.le_of_eq freeze_size.symm, fun b2 k2 _ hk2 => ⟨k2, (up _ _ hk2).2, rfl⟩, fun _ _ h => .inl h, fun B _ hr => freeze_ne (hr b L k hm hb hk)⟩⟩
  obtain ⟨hne, hk2'⟩ := up _ _ hk2
  have hB := h.blks b2 L2 k2 h2 hk2'
  have hd : L.blk ≠ L2.blk := h.inj b b2 L L2 k k2 hm h2 hb hk2' hk hne
  obtain ⟨c, e, fr, h1, h3⟩ := hB.there
  exact ⟨hB.kind, ⟨c, e, fr, by rw [freeze_ne hd]; exact h1, h3⟩, hB.own, hB.esz⟩
theorem sdV_sound {ts : Array TypeId} {ty : TypeId} {x x' v : Value} (hx : VRel m x x') (h : sdV x = some v) : ∃ v', (Builtin.unsafeSliceData_ ts ty #[x']).run P w = .ok v' w ∧ VRel m v v' := by
  unfold sdV at h
  split at h
  · cases h
    have e := VRel.flat_inv rfl hx
    subst e
    exact ⟨_, rfl, .flat _ rfl⟩
  · rename_i b off n c
    split at h
    · cases h
    · rename_i hn
      cases h
      cases hx with
      | flat v hf => simp [flat1] at hf
      | slice b off off' len cap cap' L hm hl hl' ho h1 h2 h3 =>
        have ho' : off' = L.base + off := ho.resolve_right hn
        subst ho'
        exact ⟨_, Lib.run_unsafeSliceData_row w ts ty ⟨L.blk, L.base + off, none⟩ n cap' (by omega), .ptr b off L hm⟩
  · cases h
theorem run_loadBytes' : ∀ (ns : List Int) (a : Addr) (acc : ByteArray), a.spot = none → (∀ j u, (ns.map fun n => Value.int .u8 n)[j]? = some u → w.cell? (a.add j) = some u) →
    (loadBytes a acc ns.length).run P w = .ok ⟨acc.data ++ (ns.map fun n => UInt8.ofNat n.toNat).toArray⟩ w
  | [], a, acc, _, _ => by simp [loadBytes]
  | x :: l, a, acc, hs, h => by
    have h0 : w.cell? a = some (.int .u8 x) := by
      have := h 0 _ rfl
      simpa [Addr.add] using this
    have ih := run_loadBytes' l (a.add 1) (acc.push (UInt8.ofNat x.toNat)) (by simp [Addr.add, hs]) (fun j y hy => by
      have := h (j + 1) y (by simpa using hy)
      have e : (a.add 1).add j = a.add (j + 1) := by
        unfold Addr.add
        by_cases hj : j = 0
        · subst hj; simp
        · simp [hj]; omega
      rw [e]; exact this)
    simp only [List.length_cons, loadBytes, Sem.run_bind, run_load, h0, Result.andThen]
    have hx : x.toNat.toUInt8 = UInt8.ofNat x.toNat := rfl
    rw [hx, ih]
    congr 1
    apply ByteArray.ext
    simp [ByteArray.push]
theorem liesAt_off {e : TypeId} (hc : P.cellsOf e = 1) (count off n : Nat) (hn : off + n ≤ count) : liesAt P P.depth e count off e n = true := by
  have hd : P.depth = (2 * (P.types.size + Made.depth) + 1) + 1 := rfl
  rw [hd]
  simp only [liesAt, Bool.or_eq_true]
  left
  rw [hd]
  simp [rowAt, hc, hn, sameLayout, Nat.mod_one]
theorem usV_sound (R : Rel P B0 w0 m H w) {pt it ty : TypeId} {p p' n n' : Value} {q : Value × AH} (hp : VRel m p p') (hn : VRel m n n') (h : usV P pt H p n = some q) :
    ∃ v' w', (Builtin.unsafeString_ #[pt, it] ty #[p', n']).run P w = .ok v' w' ∧ VRel m q.1 v' ∧ Rel P B0 w0 m q.2 w' ∧ Ext m H w m q.2 w' := by
  unfold usV at h
  split at h
  · cases h
    have e1 := VRel.flat_inv rfl hp
    have e2 := VRel.flat_inv rfl hn
    subst e1 e2
    exact ⟨_, w, Lib.run_unsafeString_none w pt it ty none, .flat _ rfl, R, Ext.refl m H w⟩
  · rename_i b off n
    have e2 := VRel.flat_inv rfl hn
    subst e2
    split at h
    · rename_i e hu
      cases hb : blk H b with
      | none => rw [hb] at h; cases h
      | some k =>
        rw [hb] at h
        simp only [Option.bind_some] at h
        split at h
        · rename_i hc
          obtain ⟨c1, c1', c2, c3, c4⟩ := hc
          cases hr : rdN k off n.toNat with
          | none => rw [hr] at h; cases h
          | some cs =>
            rw [hr] at h
            simp only [Option.bind_some] at h
            cases hby : bytesOf cs with
            | none => rw [hby] at h; cases h
            | some l =>
              rw [hby] at h
              cases h
              obtain ⟨ns, rfl, rfl⟩ := bytesOf_inv cs l hby
              obtain ⟨L, hm, rfl⟩ := hp.ptr_inv
              have hB := R.blks b L k hm hb
              obtain ⟨ds, hds, hcell⟩ := hB.row hr
              have hd := hds.flat_eq
              subst hd
              obtain ⟨c, e', fr, hw, hl, h3, _⟩ := hB.there
              obtain ⟨_, he, _⟩ := h3 c2
              have hlen : ns.length = n.toNat := by
                unfold rdN at hr
                split at hr
                · rename_i hle
                  have := congrArg (fun o => (o.map List.length).getD 0) hr
                  simp at this
                  omega
                · cases hr
              obtain ⟨N, rfl⟩ : ∃ N : Nat, n = (N : Int) := ⟨n.toNat, by omega⟩
              rw [Int.toNat_natCast] at hlen hr
              have hroom : L.base + off + N ≤ c.size := by
                have h1 := hl.1
                unfold rdN at hr
                split at hr
                · rename_i hle
                  simp at h1
                  omega
                · cases hr
              refine ⟨.string ⟨(ns.map fun n => UInt8.ofNat n.toNat).toArray⟩, w.freeze ⟨L.blk, L.base + off, none⟩ N, ?_, .flat _ rfl, (R.frozen hm hb c2 _ _).1, (R.frozen hm hb c2 _ _).2⟩
              have hlb := run_loadBytes' (P := P) (w := w) ns ⟨L.blk, L.base + off, none⟩ .empty rfl hcell
              rw [hlen] at hlb
              have hee : e' = e := by rw [he, c3]
              subst hee
              have hsh : w.shape? L.blk = some (e', c.size) := by simp [World.shape?, hw]
              have hlies := liesAt_off (P := P) c4 (c.size / P.cellsOf e') (L.base + off) N (by rw [show P.cellsOf e' = 1 from c4]; simpa using hroom)
              have hdef : Builtin.unsafeString_ #[pt, it] ty #[.pointer (some ⟨L.blk, L.base + off, none⟩), .int .i64 (N : Int)] =
                  (do
                    let n ← asInt (.int .i64 (N : Int))
                    if n < 0 then runtimePanic (.error "unsafe.String: len out of range")
                    if n > IntKind.i64.max then unsupported (.unsafePointer "String: a length above the largest int")
                    if n = 0 then pure (.string .empty)
                    else if ← variablesAt ⟨L.blk, L.base + off, none⟩ (← elemOf pt) n.toNat then do
                      let s ← loadBytes ⟨L.blk, L.base + off, none⟩ .empty n.toNat
                      freeze ⟨L.blk, L.base + off, none⟩ n.toNat
                      pure (.string s)
                    else unsupported (.unsafePointer "String: not so many bytes at ptr")) := rfl
              rw [hdef]
              have hmax : IntKind.i64.max = 9223372036854775807 := rfl
              have hneg : ¬ (N : Int) < 0 := by omega
              have hN0 : N ≠ 0 := by omega
              have h63 : ¬ (9223372036854775807 : Int) < (N : Int) := by omega
              simp [asInt, asIntOf, hmax, h63, hneg, hN0, variablesAt, hsh, elemOf, run_underlying hu, hlies, hlb]
        · cases h
    · cases h
  · cases h
end Go.AM
set_option linter.unusedVariables false
set_option linter.unusedSimpArgs false
namespace Go.AM
open Go.RowKit

def Enterable (P : Program) (f : FuncId) : Prop := ∃ fn, P.funcs[f]? = some fn ∧ fn.name ≠ "runtime.NumGoroutine" ∧ fn.body.isSome = true
/-- What a call comes to. -/
def SimCall (P : Program) (f : FuncId) (args : List Value) (H : AH) (v : Value) (H' : AH) : Prop :=
  ∀ (B0 : Nat) (w0 : World) (m : Mp) (w : World) (args' : List Value), Rel P B0 w0 m H w → LRel m args args' →
    Calls P f args'.toArray w fun e w' => ∃ m' v', e = .returned v' ∧ VRel m' v v' ∧ Rel P B0 w0 m' H' w' ∧ Ext m H w m' H' w'
def CallOK (P : Program) (call : CallF) : Prop := ∀ f args H v H', call f args H = some (v, H') → Enterable P f ∧ SimCall P f args H v H'
def OpSim (P : Program) (B0 : Nat) (w0 : World) (o : Oper) (a : Act) (m : Mp) (H : AH) (w : World) (v : Value) (H' : AH) : Prop :=
  ∀ (next : Act → World → Prop) (Q : Exit → Act → World → Prop), (∀ m' v' w', Ext m H w m' H' w' → Rel P B0 w0 m' H' w' → VRel m' v v' → next (a.put o.dst v') w') → o.wp P a w next Q

section
variable {P : Program} {B0 : Nat} {w0 : World} {m : Mp} {H : AH} {w : World} {call : CallF} {R : Type}

theorem run_callFunc {f : FuncId} (h : Enterable P f) (args : Array Value) (w : World) : (callFunc f args).run P w = .ok (.enter f args) w := by
  obtain ⟨fn, h1, h2, h3⟩ := h
  obtain ⟨c, hc⟩ := Option.isSome_iff_exists.1 h3
  simp [callFunc, program, Sem.run, h1, h2, hc]
theorem OpSim.value {o : Oper} {a : Act} {v v' : Value} {H' : AH} {m' : Mp} {w' : World} (hr : (execOp a.eval o).run P w = .ok (.value v') w') (hv : VRel m' v v') (R' : Rel P B0 w0 m' H' w') (E : Ext m H w m' H' w') : OpSim P B0 w0 o a m H w v H' :=
  fun next Q h => by unfold Oper.wp; rw [hr]; exact h m' v' w' E R' hv
theorem OpSim.still {o : Oper} {a : Act} {v v' : Value} (R' : Rel P B0 w0 m H w) (hr : (execOp a.eval o).run P w = .ok (.value v') w) (hv : VRel m v v') : OpSim P B0 w0 o a m H w v H :=
  OpSim.value hr hv R' (Ext.refl _ _ _)
theorem OpSim.skip {o : Oper} {a : Act} {H' : AH} {w' : World} (hr : (execOp a.eval o).run P w = .ok .skip w') (R' : Rel P B0 w0 m H' w') (E : Ext m H w m H' w') : OpSim P B0 w0 o a m H w undef H' :=
  fun next Q h => by unfold Oper.wp; rw [hr]; exact h m undef w' E R' (VRel.undef _)
theorem opv_rel {T : List Value} {a : Act} (hT : LRel m T a.tmps.toList) (x : Operand) : VRel m (opv T x) (a.eval x) := by
  cases x with
  | tmp t =>
    simp only [opv, Act.eval]
    rcases Nat.lt_or_ge t T.length with h | h
    · have hlen : T.length = a.tmps.size := hT.1.trans Array.length_toList
      have h2 : t < a.tmps.size := hlen ▸ h
      have e1 : T[t]? = some T[t] := List.getElem?_eq_getElem h
      have e2 : a.tmps.toList[t]? = some a.tmps[t] := by simp [h2]
      have := hT.2 t _ _ e1 e2
      simpa [List.getD, e1, Array.getD, h2] using this
    · have h2 : a.tmps.size ≤ t := by have hlen : T.length = a.tmps.size := hT.1.trans Array.length_toList; omega
      have e1 : T[t]? = none := List.getElem?_eq_none h
      simp [List.getD, e1, Array.getD, Nat.not_lt.2 h2]
      exact VRel.undef _
  | const v =>
    simp only [opv, Act.eval]
    split
    · rename_i hf; exact VRel.of_flat hf
    · exact .unk _
  | global g => exact .unk _
  | func f => exact .func f _ _ _ _ rfl (fun i x y h => by simp at h) rfl (fun i x y h => by simp at h)
theorem parts_rel {T : List Value} {a : Act} (hT : LRel m T a.tmps.toList) : ∀ ps : List (Nat × Operand), PRel m (ps.map fun p => (p.1, opv T p.2)) (ps.map fun p => (p.1, a.eval p.2))
  | [] => trivial
  | p :: ps => ⟨rfl, opv_rel hT p.2, parts_rel hT ps⟩
theorem args_rel {T : List Value} {a : Act} (hT : LRel m T a.tmps.toList) (l : List Operand) : LRel m (l.map (opv T)) (l.map a.eval) := LRel.map _ _ l fun x _ => opv_rel hT x
theorem opt_rel {T : List Value} {a : Act} (hT : LRel m T a.tmps.toList) (x : Option Operand) : ORel m (x.map (opv T)) (x.map a.eval) := by
  cases x with
  | none => exact .inl ⟨rfl, rfl⟩
  | some x => exact .inr ⟨_, _, rfl, rfl, opv_rel hT x⟩
theorem bind_some {α β : Type} {x : Option α} {f : α → Option β} {r : β} (h : x.bind f = some r) : ∃ a, x = some a ∧ f a = some r := by
  cases x with
  | none => cases h
  | some a => exact ⟨a, rfl, h⟩
theorem nilChk_sound {dst : Option Tmp} {x : Operand} {ty : TypeId} {ps : String} {af : Array Edge} {g : Option (Nat × Bool)} {a : Act} {T : List Value} {v : Value} (hT : LRel m T a.tmps.toList) (h : nilChk (opv T x) = some v) :
    ∃ v', (execOp a.eval ⟨dst, .nilCheck x, ty, ps, af, g⟩).run P w = .ok (.value v') w ∧ VRel m v v' := by
  have hx := opv_rel hT x
  unfold nilChk at h
  split at h
  · rename_i ad he
    cases h
    rw [he] at hx
    obtain ⟨ad', hx'⟩ := hx.ptr_some
    exact ⟨.pointer (some ad'), by simp [execOp, hx'], by rw [← hx']; exact hx⟩
  · rename_i f u1 u2 he
    cases h
    rw [he] at hx
    obtain ⟨a', b', hx'⟩ := hx.func_some
    exact ⟨.func (.func f) a' b', by simp [execOp, hx'], by rw [← hx']; exact hx⟩
  · cases h
theorem call_sound (hcall : CallOK P call) (R0 : Rel P B0 w0 m H w) {T : List Value} {a : Act} (hT : LRel m T a.tmps.toList) {dst : Option Tmp} {c : Call} {ty : TypeId} {ps : String} {af : Array Edge} {g : Option (Nat × Bool)} {K : Value → AH → Option R} {r : R}
    (h : aCall P call (opv T) c H K = some r) : ∃ v H', K v H' = some r ∧ OpSim P B0 w0 ⟨dst, .call c, ty, ps, af, g⟩ a m H w v H' := by
  obtain ⟨callee, cargs, ctypes⟩ := c
  unfold aCall at h
  split at h
  · rename_i f hc
    simp only at hc
    subst hc
    obtain ⟨p, h1, h2⟩ := bind_some h
    refine ⟨p.1, p.2, h2, ?_⟩
    unfold callV at h1
    split at h1
    · rename_i q first captured hf
      have hfr := opv_rel hT f
      rw [hf] at hfr
      obtain ⟨hen, hsim⟩ := hcall _ _ _ _ _ h1
      have hsplit : ∃ a' b', a.eval f = .func (.func q) a' b' ∧ LRel m first.toList a'.toList ∧ LRel m captured.toList b'.toList := by
        generalize a.eval f = u at hfr
        cases hfr with
        | flat v hf => simp [flat1] at hf
        | func f a b a' b' h1 h2 h3 h4 => exact ⟨a', b', rfl, ⟨by simpa using h1, fun i x y hx hy => h2 i x y (by simpa using hx) (by simpa using hy)⟩, ⟨by simpa using h3, fun i x y hx hy => h4 i x y (by simpa using hx) (by simpa using hy)⟩⟩
      obtain ⟨a', b', he, hla, hlb⟩ := hsplit
      intro next Q hn
      have hrun : (execOp a.eval ⟨dst, .call ⟨.value f, cargs, ctypes⟩, ty, ps, af, g⟩).run P w = .ok (.enter q (a' ++ cargs.map a.eval ++ b')) w := by
        simp [execOp, resolve, he, Deferred.ofValue, invoke, run_callFunc hen]
      unfold Oper.wp
      rw [hrun]
      simp only [Oper.upon]
      have hargs := hsim B0 w0 m w (a'.toList ++ (cargs.toList.map a.eval ++ b'.toList)) R0 (hla.append ((args_rel hT _).append hlb))
      have he2 : (a'.toList ++ (cargs.toList.map a.eval ++ b'.toList)).toArray = a' ++ cargs.map a.eval ++ b' := by
        apply Array.ext'
        simp
      rw [he2] at hargs
      refine hargs.mono fun e w' he => ?_
      obtain ⟨m', v', rfl, q1, q2, q3⟩ := he
      exact hn m' v' w' q3 q2 q1
    · cases h1
  · rename_i hc
    simp only at hc
    subst hc
    split at h
    · rename_i t u s x ht ha
      simp only at ht ha
      obtain ⟨p, h1, h2⟩ := bind_some h
      refine ⟨p.1, p.2, h2, ?_⟩
      have e1 : ctypes = #[t, u] := by apply Array.ext'; simpa using ht
      have e2 : cargs = #[s, x] := by apply Array.ext'; simpa using ha
      subst e1 e2
      have hs := opv_rel hT s
      have hx := opv_rel hT x
      have hrun : ∀ v' w', (Builtin.append_ #[t, u] ty #[a.eval s, a.eval x]).run P w = .ok v' w' → (execOp a.eval ⟨dst, .call ⟨.builtin .append, #[s, x], #[t, u]⟩, ty, ps, af, g⟩).run P w = .ok (.value v') w' := by
        intro v' w' hv
        simp [execOp, resolve, invoke, builtin, hv]
      unfold ap at h1
      split at h1
      · rename_i e e' hd1 hd2
        obtain ⟨z, hz, h1⟩ := bind_some h1
        split at h1
        · rename_i hcond
          obtain ⟨c1, c2, c3⟩ := hcond
          obtain ⟨n, hn, h1⟩ := bind_some h1
          obtain ⟨news, hnews, h1⟩ := bind_some h1
          split at h1
          · rename_i hall
            obtain ⟨i, hi, hz1, hz2⟩ := zeroT_inv hz
            rw [szT_eq hi] at c1 c2 hnews h1
            rw [byT_eq hi] at h1
            obtain ⟨v', m', w', q1, q2, q3, q4⟩ := apS_sound R0 (ty := ty) hd1 hd2 (.inl ⟨e', rfl⟩) hi hz1 c2 hs hx c1 hn hnews (.inl fun s hs => by rw [hs] at c3; cases c3) hall h1
            exact OpSim.value (hrun _ _ q1) q2 q3 q4
          · cases h1
        · cases h1
      · rename_i e hd1 hd2
        obtain ⟨z, hz, h1⟩ := bind_some h1
        split at h1
        · rename_i hcond
          obtain ⟨c1, c2⟩ := hcond
          obtain ⟨n, hn, h1⟩ := bind_some h1
          obtain ⟨news, hnews, h1⟩ := bind_some h1
          split at h1
          · rename_i hall
            obtain ⟨i, hi, hz1, hz2⟩ := zeroT_inv hz
            rw [szT_eq hi] at c1 c2 hnews h1
            rw [byT_eq hi] at h1
            obtain ⟨v', m', w', q1, q2, q3, q4⟩ := apS_sound R0 (ty := ty) hd1 hd2 (.inr rfl) hi hz1 c2 hs hx (by omega) hn hnews (.inr c1) hall h1
            exact OpSim.value (hrun _ _ q1) q2 q3 q4
          · cases h1
        · cases h1
      · rename_i e kn hd1 hd2
        split at h1
        · rename_i k n hs0 hx0
          rw [hs0] at hs
          rw [hx0] at hx
          obtain ⟨z, hz, h1⟩ := bind_some h1
          split at h1
          · rename_i hcond
            obtain ⟨c1, c2, c3, c4, c5⟩ := hcond
            cases h1
            obtain ⟨i, hi, hz1, hz2⟩ := zeroT_inv hz
            rw [szT_eq hi] at c1
            rw [byT_eq hi] at c5
            obtain ⟨v', m', w', q1, q2, q3, q4⟩ := apZ_sound R0 (ty := ty) hd1 hd2 hi hz1 hz2 c2 c1 hs hx c3 c4 c5
            exact OpSim.value (hrun _ _ q1) q2 q3 q4
          · cases h1
        · cases h1
      · cases h1
    · cases h
  · rename_i hc
    simp only at hc
    subst hc
    split at h
    · rename_i t u s x ht ha
      simp only at ht ha
      obtain ⟨p, h1, h2⟩ := bind_some h
      refine ⟨p.1, p.2, h2, ?_⟩
      have e1 : ctypes = #[t, u] := by apply Array.ext'; simpa using ht
      have e2 : cargs = #[s, x] := by apply Array.ext'; simpa using ha
      subst e1 e2
      obtain ⟨v', w', q1, q2, q3, q4⟩ := cpy_sound R0 (u := u) (ty := ty) (opv_rel hT s) (opv_rel hT x) h1
      exact OpSim.value (by simp [execOp, resolve, invoke, builtin, q1]) q2 q3 q4
    · cases h
  · rename_i hc
    simp only at hc
    subst hc
    split at h
    · rename_i t x ht ha
      simp only at ht ha
      obtain ⟨v, h1, h2⟩ := bind_some h
      refine ⟨v, H, h2, ?_⟩
      have e1 : ctypes = #[t] := by apply Array.ext'; simpa using ht
      have e2 : cargs = #[x] := by apply Array.ext'; simpa using ha
      subst e1 e2
      obtain ⟨q1, q2⟩ := lenV_sound (P := P) (u := 0) (ty := ty) (w := w) (opv_rel hT x) h1
      exact OpSim.still R0 (by simp [execOp, resolve, invoke, builtin, q1]) (.flat _ q2)
    · cases h
  · rename_i hc
    simp only at hc
    subst hc
    split at h
    · rename_i t x ht ha
      simp only at ht ha
      obtain ⟨v, h1, h2⟩ := bind_some h
      refine ⟨v, H, h2, ?_⟩
      have e1 : ctypes = #[t] := by apply Array.ext'; simpa using ht
      have e2 : cargs = #[x] := by apply Array.ext'; simpa using ha
      subst e1 e2
      obtain ⟨q1, q2⟩ := capV_sound (P := P) (u := 0) (ty := ty) (w := w) (opv_rel hT x) h1
      exact OpSim.still R0 (by simp [execOp, resolve, invoke, builtin, q1]) (.flat _ q2)
    · cases h
  · rename_i hc
    simp only at hc
    subst hc
    obtain ⟨v, h1, h2⟩ := bind_some h
    refine ⟨v, H, h2, ?_⟩
    obtain ⟨v', q1, q2⟩ := min_sound (P := P) (w := w) (ts := ctypes) (ty := ty) (args_rel hT cargs.toList) h1
    have e1 : (cargs.toList.map a.eval).toArray = cargs.map a.eval := by apply Array.ext'; simp
    rw [e1] at q1
    exact OpSim.still R0 (by simp [execOp, resolve, invoke, builtin, q1]) q2
  · rename_i hc
    simp only at hc
    subst hc
    obtain ⟨v, h1, h2⟩ := bind_some h
    refine ⟨v, H, h2, ?_⟩
    obtain ⟨v', q1, q2⟩ := max_sound (P := P) (w := w) (ts := ctypes) (ty := ty) (args_rel hT cargs.toList) h1
    have e1 : (cargs.toList.map a.eval).toArray = cargs.map a.eval := by apply Array.ext'; simp
    rw [e1] at q1
    exact OpSim.still R0 (by simp [execOp, resolve, invoke, builtin, q1]) q2
  · rename_i hc
    simp only at hc
    subst hc
    split at h
    · rename_i x ha
      simp only at ha
      obtain ⟨v, h1, h2⟩ := bind_some h
      refine ⟨v, H, h2, ?_⟩
      have e2 : cargs = #[x] := by apply Array.ext'; simpa using ha
      subst e2
      obtain ⟨v', q1, q2⟩ := sdV_sound (P := P) (w := w) (ts := ctypes) (ty := ty) (opv_rel hT x) h1
      exact OpSim.still R0 (by simp [execOp, resolve, invoke, builtin, q1]) q2
    · cases h
  · rename_i hc
    simp only at hc
    subst hc
    split at h
    · rename_i pt it p n ht ha
      simp only at ht ha
      obtain ⟨q, h1, h2⟩ := bind_some h
      refine ⟨q.1, q.2, h2, ?_⟩
      have e1 : ctypes = #[pt, it] := by apply Array.ext'; simpa using ht
      have e2 : cargs = #[p, n] := by apply Array.ext'; simpa using ha
      subst e1 e2
      obtain ⟨v', w', q1, q2, q3, q4⟩ := usV_sound R0 (it := it) (ty := ty) (opv_rel hT p) (opv_rel hT n) h1
      exact OpSim.value (by simp [execOp, resolve, invoke, builtin, q1]) q2 q3 q4
    · cases h
  · cases h
end
end Go.AM
set_option linter.unusedVariables false
set_option linter.unusedSimpArgs false
namespace Go.AM
open Go.RowKit

section
variable {P : Program} {B0 : Nat} {w0 : World} {m : Mp} {H : AH} {w : World} {call : CallF} {R : Type}
theorem aIf_inv {v : Value} {x y : Option R} {r : R} (h : aIf v x y = some r) : ∃ b, v = .bool b ∧ (if b then x else y) = some r := by
  unfold aIf at h
  split at h
  · exact ⟨true, rfl, h⟩
  · exact ⟨false, rfl, h⟩
  · cases h
theorem LRel.arr {xs : Array Operand} {T : List Value} {a : Act} (hT : LRel m T a.tmps.toList) : (xs.toList.map (opv T)).toArray.size = (xs.map a.eval).size ∧ ∀ (i : Nat) (x y : Value), (xs.toList.map (opv T)).toArray[i]? = some x → (xs.map a.eval)[i]? = some y → VRel m x y := by
  refine ⟨by simp, fun i x y hx hy => ?_⟩
  rw [Array.getElem?_map] at hy
  have hx : (xs[i]?).map (opv T) = some x := by simpa using hx
  cases hi : xs[i]? with
  | none => rw [hi] at hx; cases hx
  | some o => rw [hi] at hx hy; cases hx; cases hy; exact opv_rel hT o
theorem op_sound (hcall : CallOK P call) (R0 : Rel P B0 w0 m H w) {T : List Value} {a : Act} (hT : LRel m T a.tmps.toList) {o : Oper} {K : Value → AH → Option R} {r : R} (h : aOp P call (opv T) o.op H K = some r) :
    ∃ v H', K v H' = some r ∧ OpSim P B0 w0 o a m H w v H' := by
  obtain ⟨dst, op, ty, ps, af, g⟩ := o
  cases op
  case move x => exact ⟨_, H, h, OpSim.still R0 (by simp [execOp]) (opv_rel hT x)⟩
  case assign x => exact ⟨_, H, h, OpSim.still R0 (by simp [execOp]) (opv_rel hT x)⟩
  case pick c x y =>
    obtain ⟨v, h1, h2⟩ := bind_some h
    have hc := opv_rel hT c
    unfold pickV at h1
    split at h1
    · rename_i hb; cases h1; rw [hb] at hc; exact ⟨_, H, h2, OpSim.still R0 (by simp [execOp, hc.bool_inv, asBool]) (opv_rel hT x)⟩
    · rename_i hb; cases h1; rw [hb] at hc; exact ⟨_, H, h2, OpSim.still R0 (by simp [execOp, hc.bool_inv, asBool]) (opv_rel hT y)⟩
    · cases h1
  case alloc t =>
    obtain ⟨p, h1, h2⟩ := bind_some h
    obtain ⟨u', m', w', q1, q2, q3, q4⟩ := newV_sound R0 (t := t) (u := p.1) (H' := p.2) h1 (.tuple #[])
    exact ⟨_, _, h2, OpSim.value (by simp [execOp, q1]) q2 q3 q4⟩
  case box t x =>
    obtain ⟨p, h1, h2⟩ := bind_some h
    obtain ⟨u', m', w', q1, q2, q3, q4⟩ := box_sound (P := P) R0 (t := t) (u := p.1) (H' := p.2) (opv_rel hT x) h1
    exact ⟨_, _, h2, OpSim.value (by simp [execOp, q1]) q2 q3 q4⟩
  case build t parts =>
    obtain ⟨v, h1, h2⟩ := bind_some h
    obtain ⟨v', q1, q2⟩ := build_sound (w := w) (parts_rel hT parts.toList) h1
    have e1 : (parts.toList.map fun p => (p.1, a.eval p.2)).toArray = parts.map fun p => (p.1, a.eval p.2) := by apply Array.ext'; simp
    rw [e1] at q1
    exact ⟨_, H, h2, OpSim.still R0 (by simp [execOp, q1]) q2⟩
  case buildSlice t n parts =>
    obtain ⟨p, h1, h2⟩ := bind_some h
    obtain ⟨u', m', w', q1, q2, q3, q4⟩ := buildS_sound R0 (parts_rel hT parts.toList) (u := p.1) (H' := p.2) h1
    have e1 : (parts.toList.map fun p => (p.1, a.eval p.2)).toArray = parts.map fun p => (p.1, a.eval p.2) := by apply Array.ext'; simp
    rw [e1] at q1
    exact ⟨_, _, h2, OpSim.value (by simp [execOp, q1]) q2 q3 q4⟩
  case load t x =>
    obtain ⟨v, h1, h2⟩ := bind_some h
    obtain ⟨v', q1, q2⟩ := ld_sound R0 (opv_rel hT x) h1
    exact ⟨_, H, h2, OpSim.still R0 (by simp [execOp, q1]) q2⟩
  case store t x y =>
    obtain ⟨H', h1, h2⟩ := bind_some h
    obtain ⟨w', q1, q2, q3⟩ := st_sound R0 (opv_rel hT x) (opv_rel hT y) h1
    exact ⟨_, H', h2, OpSim.skip (by simp [execOp, q1]) q2 q3⟩
  case nilCheck x =>
    obtain ⟨v, h1, h2⟩ := bind_some h
    obtain ⟨v', q1, q2⟩ := nilChk_sound (P := P) (w := w) (dst := dst) (ty := ty) (ps := ps) (af := af) (g := g) hT h1
    exact ⟨_, H, h2, OpSim.still R0 q1 q2⟩
  case binOp op t x y yt =>
    obtain ⟨v, h1, h2⟩ := bind_some h
    obtain ⟨v', q1, q2⟩ := bin_sound (w := w) (ρ := a.eval) (x := x) (y := y) (opv_rel hT x) (opv_rel hT y) h1
    exact ⟨_, H, h2, OpSim.still R0 (by simp only [execOp, Sem.run_bind, q1, Result.andThen_ok, Sem.run_pure]) q2⟩
  case unOp op t x =>
    obtain ⟨v, h1, h2⟩ := bind_some h
    obtain ⟨v', q1, q2⟩ := un_sound (w := w) (opv_rel hT x) h1
    exact ⟨_, H, h2, OpSim.still R0 (by simp [execOp, q1]) q2⟩
  case convert s d x =>
    simp only [aOp] at h
    cases hb : isBytesToString P s d with
    | true =>
      rw [hb] at h
      obtain ⟨v, h1, h2⟩ := bind_some h
      obtain ⟨v', q1, q2⟩ := cvS_sound R0 (opv_rel hT x) h1
      exact ⟨_, H, h2, OpSim.still R0 (by simp [execOp, q1]) q2⟩
    | false =>
      rw [hb] at h
      obtain ⟨v, h1, h2⟩ := bind_some h
      obtain ⟨v', q1, q2⟩ := cv_sound (w := w) (opv_rel hT x) h1
      exact ⟨_, H, h2, OpSim.still R0 (by simp [execOp, q1]) q2⟩
  case makeFunc fn first captured =>
    cases fn <;> first
      | cases h; done
      | (refine ⟨_, H, h, OpSim.still R0 (by simp [execOp, Instr.makeFunc]; rfl) ?_⟩
         exact .func _ _ _ _ _ (LRel.arr hT).1 (LRel.arr hT).2 (LRel.arr hT).1 (LRel.arr hT).2)
  case makeSlice t l c =>
    obtain ⟨p, h1, h2⟩ := bind_some h
    obtain ⟨u', m', w', q1, q2, q3, q4⟩ := mkS_sound R0 (opv_rel hT l) (opv_rel hT c) (u := p.1) (H' := p.2) h1
    exact ⟨_, _, h2, OpSim.value (by simp [execOp, q1]) q2 q3 q4⟩
  case slice t x lo hi mx =>
    cases mx with
    | some mx =>
      obtain ⟨v, h1, h2⟩ := bind_some h
      obtain ⟨v', q1, q2⟩ := slc3_sound (w := w) (opv_rel hT x) (opt_rel hT lo) (opt_rel hT hi) (opv_rel hT mx) h1
      exact ⟨_, H, h2, OpSim.still R0 (by simp [execOp, q1]) q2⟩
    | none =>
      obtain ⟨v, h1, h2⟩ := bind_some h
      obtain ⟨v', q1, q2⟩ := slc_sound (w := w) (opv_rel hT x) (opt_rel hT lo) (opt_rel hT hi) h1
      exact ⟨_, H, h2, OpSim.still R0 (by simp [execOp, q1]) q2⟩
  case fieldAddr s x i =>
    obtain ⟨v, h1, h2⟩ := bind_some h
    obtain ⟨v', q1, q2⟩ := fldA_sound R0 (opv_rel hT x) h1
    exact ⟨_, H, h2, OpSim.still R0 (by simp [execOp, q1]) q2⟩
  case field s x i =>
    obtain ⟨v, h1, h2⟩ := bind_some h
    obtain ⟨v', q1, q2⟩ := fld_sound (w := w) (opv_rel hT x) h1
    exact ⟨_, H, h2, OpSim.still R0 (by simp [execOp, q1]) q2⟩
  case indexAddr t x i =>
    obtain ⟨v, h1, h2⟩ := bind_some h
    obtain ⟨v', q1, q2⟩ := ixA_sound (w := w) (opv_rel hT x) (opv_rel hT i) h1
    exact ⟨_, H, h2, OpSim.still R0 (by simp [execOp, q1]) q2⟩
  case index t x i =>
    obtain ⟨v, h1, h2⟩ := bind_some h
    obtain ⟨v', q1, q2⟩ := ix_sound (w := w) (opv_rel hT x) (opv_rel hT i) h1
    exact ⟨_, H, h2, OpSim.still R0 (by simp [execOp, q1]) q2⟩
  case extract t i =>
    obtain ⟨v, h1, h2⟩ := bind_some h
    obtain ⟨v', q1, q2⟩ := ext_sound (P := P) (w := w) (opv_rel hT t) h1
    exact ⟨_, H, h2, OpSim.still R0 (by simp [execOp, q1]) q2⟩
  case call c => exact call_sound hcall R0 hT h
  all_goals cases h
end
end Go.AM
set_option linter.unusedVariables false
set_option linter.unusedSimpArgs false
namespace Go.AM
open Go.RowKit

def exOf : EX → Exit
  | .normal => .normal
  | .exit id => .exit id
  | .ret => .ret
/-- What is so behind a piece of code. -/
structure After (P : Program) (B0 : Nat) (w0 : World) (m : Mp) (H : AH) (w : World) (T' : List Value) (H' : AH) (m' : Mp) (a' : Act) (w' : World) : Prop where
  ext : Ext m H w m' H' w'
  rel : Rel P B0 w0 m' H' w'
  tmps : LRel m' T' a'.tmps.toList
  defers : a'.defers = []
def CodeSim (P : Program) (c : Code) (T : List Value) (H : AH) (e : EX) (T' : List Value) (H' : AH) : Prop :=
  ∀ (B0 : Nat) (w0 : World) (m : Mp) (a : Act) (w : World) (Q : Exit → Act → World → Prop), Rel P B0 w0 m H w → LRel m T a.tmps.toList → a.defers = [] → (∀ m' a' w', After P B0 w0 m H w T' H' m' a' w' → Q (exOf e) a' w') → c.wp P Q a w

section
variable {P : Program} {call : CallF}

theorem put_rel {m : Mp} {T : List Value} {a : Act} (hT : LRel m T a.tmps.toList) (dst : Option Tmp) {v v' : Value} (hv : VRel m v v') : LRel m (putT T dst v) (a.put dst v').tmps.toList := by
  cases dst with
  | none => exact hT
  | some d =>
    simp only [putT, Act.put, Array.toList_setIfInBounds]
    exact hT.set d hv
theorem put_defers (a : Act) (dst : Option Tmp) (v : Value) : (a.put dst v).defers = a.defers := by cases dst <;> rfl
theorem aCall_res {R : Type} (ρ : Operand → Value) (c : Call) (H : AH) (K : Value → AH → Option R) : aCall P call ρ c H K = (aCall P call ρ c H fun v H' => some (v, H')).bind fun p => K p.1 p.2 := by
  unfold aCall
  split
  · simp [Option.bind_assoc]
  · split <;> simp [Option.bind_assoc]
  · split <;> simp [Option.bind_assoc]
  · split <;> simp [Option.bind_assoc]
  · split <;> simp [Option.bind_assoc]
  · simp [Option.bind_assoc]
  · simp [Option.bind_assoc]
  · split <;> simp [Option.bind_assoc]
  · split <;> simp [Option.bind_assoc]
  · rfl
theorem aOp_res {R : Type} (ρ : Operand → Value) (op : Op) (H : AH) (K : Value → AH → Option R) : aOp P call ρ op H K = (aRes P call ρ op H).bind fun p => K p.1 p.2 := by
  unfold aRes
  cases op
  case call c => simp only [aOp]; exact aCall_res ρ c H K
  case convert s d x =>
    simp only [aOp]
    cases isBytesToString P s d <;> simp [Option.bind_assoc]
  case makeFunc fn first captured => cases fn <;> simp [aOp]
  case slice t x lo hi mx => cases mx <;> simp [aOp, Option.bind_assoc]
  all_goals simp [aOp, Option.bind_assoc]
theorem res_sound (hcall : CallOK P call) {T : List Value} {H : AH} {o : Oper} {v : Value} {H' : AH} (h : aRes P call (opv T) o.op H = some (v, H')) {B0 : Nat} {w0 : World} {m : Mp} {a : Act} {w : World} (R0 : Rel P B0 w0 m H w) (hT : LRel m T a.tmps.toList) :
    OpSim P B0 w0 o a m H w v H' := by
  obtain ⟨v1, H1, h1, h2⟩ := op_sound hcall R0 hT (K := fun v H' => some (v, H')) h
  cases h1
  exact h2
/-- A guard, by what the evaluator knows. -/
def Off (u : Value) (want : Bool) : Prop := (∃ b, u = .bool b ∧ b ≠ want) ∨ ∃ vs : Array Value, u = .tuple vs ∧ vs.size = 0
theorem gOp_inv {u : Value} {want : Bool} {x : Option (Value × AH)} {H : AH} {p : Value × AH} (h : gOp u want x H = some p) : (u = .bool want ∧ x = some p) ∨ (Off u want ∧ p = (undef, H)) := by
  unfold gOp at h
  split at h
  · rename_i b
    split at h
    · rename_i hb; subst hb; exact .inl ⟨rfl, h⟩
    · rename_i hb; cases h; exact .inr ⟨.inl ⟨b, rfl, hb⟩, rfl⟩
  · rename_i vs
    cases hs : vs.size == 0 with
    | true => rw [hs] at h; cases h; exact .inr ⟨.inr ⟨vs, rfl, by simpa using hs⟩, rfl⟩
    | false => rw [hs] at h; cases h
  · cases h
theorem Off.not {u : Value} {want : Bool} (h : Off u want) : u ≠ .bool want := by
  rintro rfl
  rcases h with ⟨b, hb, hne⟩ | ⟨vs, hv, _⟩
  · cases hb; exact hne rfl
  · cases hv
theorem yield_rel {ops : Array Oper} {m : Mp} {T : List Value} {a : Act} (hT : LRel m T a.tmps.toList) (j : Nat) : (∀ b, yieldV ops T j = .bool b → yielded ops a.tmps j = some b) ∧ (∀ vs : Array Value, yieldV ops T j = .tuple vs → yielded ops a.tmps j = none) := by
  have hu : VRel m (yieldV ops T j) (match (ops[j]?).bind (·.dst) with | some d => a.tmps.getD d undef | none => undef) := by
    unfold yieldV
    cases hd : (ops[j]?).bind (·.dst) with
    | none => exact VRel.undef _
    | some d => exact opv_rel hT (.tmp d)
  have hy : ∀ u, (match (ops[j]?).bind (·.dst) with | some d => a.tmps.getD d undef | none => undef) = u → yielded ops a.tmps j = match u with | .bool b => some b | _ => none := by
    intro u hu2
    subst hu2
    unfold yielded
    cases hd : (ops[j]?).bind (·.dst) with
    | none => simp [undef]
    | some d =>
      simp only [Option.bind_some]
      by_cases hlt : d < a.tmps.size
      · have e1 : a.tmps[d]? = some (a.tmps.getD d undef) := by simp [Array.getD, hlt]
        rw [e1]
        cases a.tmps.getD d undef <;> rfl
      · simp [Array.getD, hlt, undef]
  refine ⟨fun b hb => ?_, fun vs hv => ?_⟩
  · rw [hb] at hu
    rw [hy _ hu.bool_inv]
  · rw [hv] at hu
    obtain ⟨ys, he, _⟩ := hu.tuple_inv
    rw [hy _ he]
theorem wanted_of {ops : Array Oper} {tmps : Array Value} {o : Oper} {j : Nat} {want : Bool} (hg : o.guard = some (j, want)) {q : Option Bool} (hy : yielded ops tmps j = q) : Region.wanted o (yielded ops tmps) = (q == some want) := by
  unfold Region.wanted
  rw [hg]
  simp only [hy]
theorem After.start {P : Program} {B0 : Nat} {w0 : World} {m : Mp} {H : AH} {w : World} {T : List Value} {a : Act} (R0 : Rel P B0 w0 m H w) (hT : LRel m T a.tmps.toList) (hd : a.defers = []) : After P B0 w0 m H w T H m a w := ⟨Ext.refl _ _ _, R0, hT, hd⟩
theorem After.trans {P : Program} {B0 : Nat} {w0 : World} {m m1 m2 : Mp} {H H1 H2 : AH} {w w1 w2 : World} {T1 T2 : List Value} {a1 a2 : Act} (R0 : Rel P B0 w0 m H w) (h : Ext m H w m1 H1 w1) (k : After P B0 w0 m1 H1 w1 T2 H2 m2 a2 w2) : After P B0 w0 m H w T2 H2 m2 a2 w2 :=
  ⟨Ext.trans (fun b L hb => (R0.dom b L hb).1) h k.ext, k.rel, k.tmps, k.defers⟩
def OpsSim (P : Program) (ops : Array Oper) (idx : List Nat) (T : List Value) (H : AH) (T' : List Value) (H' : AH) : Prop :=
  ∀ (B0 : Nat) (w0 : World) (m : Mp) (a : Act) (w : World) (Q : Exit → Act → World → Prop), Rel P B0 w0 m H w → LRel m T a.tmps.toList → a.defers = [] → (∀ m' a' w', After P B0 w0 m H w T' H' m' a' w' → Q .normal a' w') → wpOps P ops Q idx a w
theorem evOps_sound (hcall : CallOK P call) (ops : Array Oper) {R : Type} {K : List Value → AH → Option R} {r : R} : ∀ (l : List Oper) (i : Nat) (T : List Value) (H : AH), (∀ j, l[j]? = ops[i + j]?) → evOps P call ops l T H K = some r →
    ∃ T' H', K T' H' = some r ∧ OpsSim P ops (List.range' i l.length) T H T' H'
  | [], i, T, H, hl, h => ⟨T, H, h, fun B0 w0 m a w Q R0 hT hd hq => hq m a w (After.start R0 hT hd)⟩
  | o :: l, i, T, H, hl, h => by
    have ho : ops[i]? = some o := by have := hl 0; simpa using this.symm
    have hl' : ∀ j, l[j]? = ops[i + 1 + j]? := fun j => by have := hl (j + 1); rw [show i + 1 + j = i + (j + 1) by omega]; simpa using this
    -- done
    have done : ∀ (hh : (aOp P call (opv T) o.op H fun v H' => evOps P call ops l (putT T o.dst v) H' K) = some r), ∃ T' H', K T' H' = some r ∧
        ∀ (B0 : Nat) (w0 : World) (m : Mp) (a : Act) (w : World) (Q : Exit → Act → World → Prop), Region.wanted o (yielded ops a.tmps) = true → Rel P B0 w0 m H w → LRel m T a.tmps.toList → a.defers = [] → (∀ m' a' w', After P B0 w0 m H w T' H' m' a' w' → Q .normal a' w') → wpOps P ops Q (List.range' i (o :: l).length) a w := by
      intro hh
      rw [aOp_res] at hh
      obtain ⟨⟨v, H1⟩, h1, h2⟩ := bind_some hh
      obtain ⟨T', H', h3, h4⟩ := evOps_sound hcall ops l (i + 1) _ _ hl' h2
      refine ⟨T', H', h3, fun B0 w0 m a w Q hw R0 hT hd hq => ?_⟩
      rw [List.length_cons, List.range'_succ]
      simp only [wpOps, ho]
      rw [if_pos hw]
      refine .inl (res_sound hcall h1 R0 hT _ _ fun m' v' w' E R' hv => ?_)
      exact h4 B0 w0 m' _ w' Q R' (put_rel (hT.mono E.mono) _ hv) (by rw [put_defers]; exact hd) fun m2 a2 w2 A => hq m2 a2 w2 (After.trans (T1 := T) (a1 := a) R0 E A)
    have skipped : ∀ (hh : evOps P call ops l (putT T o.dst undef) H K = some r), ∃ T' H', K T' H' = some r ∧
        ∀ (B0 : Nat) (w0 : World) (m : Mp) (a : Act) (w : World) (Q : Exit → Act → World → Prop), Region.wanted o (yielded ops a.tmps) = false → Rel P B0 w0 m H w → LRel m T a.tmps.toList → a.defers = [] → (∀ m' a' w', After P B0 w0 m H w T' H' m' a' w' → Q .normal a' w') → wpOps P ops Q (List.range' i (o :: l).length) a w := by
      intro hh
      obtain ⟨T', H', h3, h4⟩ := evOps_sound hcall ops l (i + 1) _ _ hl' hh
      refine ⟨T', H', h3, fun B0 w0 m a w Q hw R0 hT hd hq => ?_⟩
      rw [List.length_cons, List.range'_succ]
      simp only [wpOps, ho]
      rw [if_neg (by simp [hw])]
      exact h4 B0 w0 m _ w Q R0 (put_rel hT _ (VRel.undef _)) (by rw [put_defers]; exact hd) hq
    unfold evOps at h
    cases hg : o.guard with
    | none =>
      rw [hg] at h
      obtain ⟨T', H', h3, h4⟩ := done h
      exact ⟨T', H', h3, fun B0 w0 m a w Q R0 hT hd hq => h4 B0 w0 m a w Q (by unfold Region.wanted; rw [hg]) R0 hT hd hq⟩
    | some p =>
      obtain ⟨j, want⟩ := p
      rw [hg] at h
      obtain ⟨p, hp, h⟩ := bind_some h
      rcases gOp_inv hp with ⟨hu, h5⟩ | ⟨hu, rfl⟩
      · obtain ⟨T', H', h3, h4⟩ := done (by rw [aOp_res, h5]; exact h)
        exact ⟨T', H', h3, fun B0 w0 m a w Q R0 hT hd hq => h4 B0 w0 m a w Q (by rw [wanted_of hg ((yield_rel hT j).1 _ hu)]; simp) R0 hT hd hq⟩
      · obtain ⟨T', H', h3, h4⟩ := skipped h
        refine ⟨T', H', h3, fun B0 w0 m a w Q R0 hT hd hq => h4 B0 w0 m a w Q ?_ R0 hT hd hq⟩
        rcases hu with ⟨b, hu, hb⟩ | ⟨vs, hu, _⟩
        · rw [wanted_of hg ((yield_rel hT j).1 _ hu)]; simp [hb]
        · rw [wanted_of hg ((yield_rel hT j).2 _ hu)]; rfl

def LW (P : Program) (c : Code) (Q : Exit → Act → World → Prop) (a : Act) (w : World) : Prop :=
  ∀ (b : Frame) (k : List Item) (cs : List Frame), ∃ e a' w', Q e a' w' ∧ Arrives P (lone (b.at a (.code c :: .inLoop c :: k)) cs w) b k cs e a' w'
theorem wp_loop_of_LW {c : Code} {Q : Exit → Act → World → Prop} {a : Act} {w : World} (h : LW P c Q a w) : (Code.loop c).wp P Q a w := by
  intro b k cs
  obtain ⟨e, a', w', hq, harr⟩ := h b k cs
  exact ⟨e, a', w', hq, .of_steps (.one step_loop) harr⟩
theorem LW_unroll {c : Code} {Q : Exit → Act → World → Prop} {a : Act} {w : World} (h : c.wp P (Exit.then (LW P c Q) Q) a w) : LW P c Q a w := by
  intro b k cs
  obtain ⟨e, a₁, w₁, hq, harr⟩ := h b (.inLoop c :: k) cs
  cases e with
  | normal =>
    obtain ⟨e₂, a₂, w₂, hq₂, harr₂⟩ := hq b k cs
    exact ⟨e₂, a₂, w₂, hq₂, .of_steps (Steps.trans harr (.one step_inLoop)) harr₂⟩
  | exit id => exact ⟨_, a₁, w₁, hq, .pass (x := .inLoop c) rfl (fun _ _ => .inl (by simp)) harr⟩
  | goto l => exact ⟨_, a₁, w₁, hq, .pass (x := .inLoop c) rfl (fun _ _ => .inl (by simp)) harr⟩
  | ret => exact ⟨_, a₁, w₁, hq, .pass (x := .inLoop c) rfl (fun _ _ => .inl (by simp)) harr⟩
  | panic ch => exact ⟨_, a₁, w₁, hq, .pass (x := .inLoop c) rfl (fun _ _ => .inl (by simp)) harr⟩
  | outgrown => exact ⟨_, a₁, w₁, hq, .pass (x := .inLoop c) rfl (fun _ _ => .inl (by simp)) harr⟩
theorem maskT_rel {m : Mp} (keep : List Nat) : ∀ (T Ts : List Value) (i : Nat), LRel m T Ts → LRel m (maskT keep i T) Ts
  | [], Ts, i, h => h
  | x :: T, Ts, i, h => by
    obtain ⟨y, zs, rfl, hv, hr⟩ := h.cons_inv
    unfold maskT
    refine LRel.cons ?_ (maskT_rel keep T zs (i + 1) hr)
    cases keep.contains i
    · exact .unk _
    · exact hv
theorem cutT_rel {m : Mp} (tb : Tbl) (k : Nat) {T Ts : List Value} (h : LRel m T Ts) : LRel m (cutT tb k T) Ts := by
  unfold cutT
  split
  · exact maskT_rel _ _ _ _ h
  · exact h
theorem CodeSim.trans_cut {c d : Code} {T T1 T1' T2 : List Value} {H H1 H2 : AH} {e : EX} (hcut : ∀ (m : Mp) (Ts : List Value), LRel m T1 Ts → LRel m T1' Ts) (h : CodeSim P c T H .normal T1 H1) (k : CodeSim P d T1' H1 e T2 H2) : CodeSim P (.seq c d) T H e T2 H2 := by
  intro B0 w0 m a w Q R0 hT hd hq
  apply wp_seq
  refine h B0 w0 m a w _ R0 hT hd fun m1 a1 w1 A => ?_
  refine k B0 w0 m1 a1 w1 Q A.rel (hcut _ _ A.tmps) A.defers fun m2 a2 w2 A2 => hq m2 a2 w2 (After.trans (T1 := T1) (a1 := a1) R0 A.ext A2)
/-- A region that draws its order. -/
def DrawSim (P : Program) (ops : Array Oper) (T : List Value) (H : AH) (T' : List Value) (H' : AH) : Prop :=
  ∀ (B0 : Nat) (w0 : World) (m : Mp) (a : Act) (w : World) (Q : Exit → Act → World → Prop), Rel P B0 w0 m H w → LRel m T a.tmps.toList → a.defers = [] → (∀ m' a' w', After P B0 w0 m H w T' H' m' a' w' → Q .normal a' w') →
    wpAny P .any ops Q ops.size (Array.replicate ops.size false) a w
def DrawOK (P : Program) (call : CallF) : Prop :=
  ∀ (ops : Array Oper), regOK ops = true → ∀ (R : Type) (T : List Value) (H : AH) (K : List Value → AH → Option R) (r : R), evD P call ops (befL [] ops.toList) ops.toList 0 T H [] [] K = some r → ∃ T' H', K T' H' = some r ∧ DrawSim P ops T H T' H'
theorem evalK_sound (hcall : CallOK P call) (hdraw : DrawOK P call) (hmix : P.follows .mixedOrders = true) (n : Nat) (tb : Tbl) : ∀ (c : Code) {R : Type} (T : List Value) (H : AH) (K : EX → List Value → AH → Option R) (r : R),
    evalK P call n tb c T H K = some r → ∃ e T' H', K e T' H' = some r ∧ CodeSim P c T H e T' H' := by
  intro c
  induction c with
  | skip =>
    intro R T H K r h
    exact ⟨.normal, T, H, h, fun B0 w0 m a w Q R0 hT hd hq => wp_skip (hq m a w (After.start R0 hT hd))⟩
  | region id ops draw =>
    intro R T H K r h
    simp only [evalK] at h
    cases draw with
    | true =>
      simp only [cond_true] at h
      cases hr : regOK ops with
      | false => rw [hr] at h; cases h
      | true =>
        rw [hr] at h
        obtain ⟨T', H', h1, h2⟩ := hdraw ops hr R T H _ r h
        refine ⟨.normal, T', H', h1, fun B0 w0 m a w Q R0 hT hd hq => wp_region_any hmix ?_⟩
        exact h2 B0 w0 m a _ Q R0.drew hT hd fun m' a' w' A => hq m' a' w' ⟨Ext.trans (fun b L hb => (R0.dom b L hb).1) (Ext.refl m H w).drew A.ext, A.rel, A.tmps, A.defers⟩
    | false =>
      simp only [cond_false] at h
      obtain ⟨T', H', h1, h2⟩ := evOps_sound hcall ops ops.toList 0 T H (fun j => by simp) h
      refine ⟨.normal, T', H', h1, fun B0 w0 m a w Q R0 hT hd hq => wp_region ?_⟩
      have := h2 B0 w0 m a w Q R0 hT hd hq
      rwa [Array.length_toList, ← List.range_eq_range'] at this
  | seq x y ihx ihy =>
    intro R T H K r h
    simp only [evalK] at h
    obtain ⟨e, T1, H1, h1, h2⟩ := ihx T H _ r h
    cases e with
    | normal =>
      obtain ⟨e2, T2, H2, h3, h4⟩ := ihy _ _ _ r h1
      exact ⟨e2, T2, H2, h3, CodeSim.trans_cut (fun m Ts hh => cutT_rel tb _ hh) h2 h4⟩
    | exit id => exact ⟨.exit id, T1, H1, h1, fun B0 w0 m a w Q R0 hT hd hq => wp_seq (h2 B0 w0 m a w _ R0 hT hd fun m1 a1 w1 A => hq m1 a1 w1 A)⟩
    | ret => exact ⟨.ret, T1, H1, h1, fun B0 w0 m a w Q R0 hT hd hq => wp_seq (h2 B0 w0 m a w _ R0 hT hd fun m1 a1 w1 A => hq m1 a1 w1 A)⟩
  | cond c x y ihx ihy =>
    intro R T H K r h
    simp only [evalK] at h
    obtain ⟨b, hb, hr⟩ := aIf_inv h
    cases b with
    | true =>
      obtain ⟨e, T1, H1, h1, h2⟩ := ihx T H K r hr
      refine ⟨e, T1, H1, h1, fun B0 w0 m a w Q R0 hT hd hq => wp_cond_true ?_ (h2 B0 w0 m a w Q R0 hT hd hq)⟩
      have := opv_rel hT c
      rw [hb] at this
      exact this.bool_inv
    | false =>
      obtain ⟨e, T1, H1, h1, h2⟩ := ihy T H K r hr
      refine ⟨e, T1, H1, h1, fun B0 w0 m a w Q R0 hT hd hq => wp_cond_false ?_ (h2 B0 w0 m a w Q R0 hT hd hq)⟩
      have := opv_rel hT c
      rw [hb] at this
      exact this.bool_inv
  | block id b ih =>
    intro R T H K r h
    simp only [evalK] at h
    obtain ⟨e, T1, H1, h1, h2⟩ := ih T H _ r h
    cases e with
    | normal => exact ⟨.normal, T1, H1, h1, fun B0 w0 m a w Q R0 hT hd hq => wp_block (h2 B0 w0 m a w _ R0 hT hd fun m1 a1 w1 A => hq m1 a1 w1 A)⟩
    | ret => exact ⟨.ret, T1, H1, h1, fun B0 w0 m a w Q R0 hT hd hq => wp_block (h2 B0 w0 m a w _ R0 hT hd fun m1 a1 w1 A => hq m1 a1 w1 A)⟩
    | exit i =>
      by_cases hi : i = id
      · subst hi
        refine ⟨.normal, T1, H1, by simpa [kBlock] using h1, fun B0 w0 m a w Q R0 hT hd hq => wp_block (h2 B0 w0 m a w _ R0 hT hd fun m1 a1 w1 A => ?_)⟩
        show (if i = i then Q .normal a1 w1 else Q (.exit i) a1 w1)
        rw [if_pos rfl]
        exact hq m1 a1 w1 A
      · have hi' : (i == id) = false := by simpa using hi
        refine ⟨.exit i, T1, H1, by simpa [kBlock, hi'] using h1, fun B0 w0 m a w Q R0 hT hd hq => wp_block (h2 B0 w0 m a w _ R0 hT hd fun m1 a1 w1 A => ?_)⟩
        show (if i = id then Q .normal a1 w1 else Q (.exit i) a1 w1)
        rw [if_neg hi]
        exact hq m1 a1 w1 A
  | loop b ih =>
    intro R T H K r h
    simp only [evalK] at h
    obtain ⟨⟨e, T', H'⟩, h1, h2⟩ := bind_some h
    refine ⟨e, T', H', h2, ?_⟩
    have key : ∀ (k : Nat) (T : List Value) (H : AH), iterD (fun T H K => evalK P call n tb b T H K) (cutT tb (3 * firstId b + 1)) (cutT tb (3 * firstId b + 2)) k T H = some (e, T', H') →
        ∀ (B0 : Nat) (w0 : World) (m : Mp) (a : Act) (w : World) (Q : Exit → Act → World → Prop), Rel P B0 w0 m H w → LRel m T a.tmps.toList → a.defers = [] → (∀ m' a' w', After P B0 w0 m H w T' H' m' a' w' → Q (exOf e) a' w') → LW P b Q a w := by
      intro k
      induction k with
      | zero => intro T H hh; cases hh
      | succ k ihk =>
        intro T H hh
        simp only [iterD] at hh
        obtain ⟨e1, T1, H1, h3, h4⟩ := ih (R := Out) _ _ _ _ hh
        intro B0 w0 m a w Q R0 hT hd hq
        apply LW_unroll
        refine h4 B0 w0 m a w _ R0 hT hd fun m1 a1 w1 A => ?_
        cases e1 with
        | normal => exact ihk _ H1 h3 B0 w0 m1 a1 w1 Q A.rel (cutT_rel tb _ A.tmps) A.defers fun m2 a2 w2 A2 => hq m2 a2 w2 (After.trans (T1 := T1) (a1 := a1) R0 A.ext A2)
        | exit id => cases h3; exact hq m1 a1 w1 ⟨A.ext, A.rel, cutT_rel tb _ A.tmps, A.defers⟩
        | ret => cases h3; exact hq m1 a1 w1 ⟨A.ext, A.rel, cutT_rel tb _ A.tmps, A.defers⟩
    exact fun B0 w0 m a w Q R0 hT hd hq => wp_loop_of_LW (key n _ H h1 B0 w0 m a w Q R0 (cutT_rel tb _ hT) hd hq)
  | rangeFunc f params assign body => intro R T H K r h; cases h
  | exit id =>
    intro R T H K r h
    exact ⟨.exit id, T, H, h, fun B0 w0 m a w Q R0 hT hd hq => wp_exit (hq m a w (After.start R0 hT hd))⟩
  | scope b ih =>
    intro R T H K r h
    simp only [evalK] at h
    obtain ⟨e, T1, H1, h1, h2⟩ := ih T H K r h
    refine ⟨e, T1, H1, h1, fun B0 w0 m a w Q R0 hT hd hq => wp_scope_straight (h2 B0 w0 m a w _ R0 hT hd fun m1 a1 w1 A => ?_)⟩
    have := hq m1 a1 w1 A
    cases e <;> exact this
  | label l =>
    intro R T H K r h
    exact ⟨.normal, T, H, h, fun B0 w0 m a w Q R0 hT hd hq => wp_label (hq m a w (After.start R0 hT hd))⟩
  | goto l => intro R T H K r h; cases h
  | ret =>
    intro R T H K r h
    exact ⟨.ret, T, H, h, fun B0 w0 m a w Q R0 hT hd hq => wp_ret (hq m a w (After.start R0 hT hd))⟩
  | refuse why => intro R T H K r h; cases h
theorem resOne_sound {B0 : Nat} {w0 : World} {m : Mp} {H : AH} {w : World} (R0 : Rel P B0 w0 m H w) {T : List Value} {a : Act} (hT : LRel m T a.tmps.toList) {rv : ResultVar} {v : Value} (h : resOne P T H rv = some v) :
    ∃ v', (match rv with | .tmp t => pure (a.tmps.getD t undef) | .cell x t => do loadVar t (← asAddr (a.tmps.getD x undef)) : Sem Value).run P w = .ok v' w ∧ VRel m v v' := by
  cases rv with
  | tmp t => cases h; exact ⟨_, rfl, opv_rel hT (.tmp t)⟩
  | cell x t =>
    have hx := opv_rel hT (.tmp x)
    obtain ⟨v', h1, h2⟩ := ld_sound R0 hx h
    refine ⟨v', ?_, h2⟩
    simp only [Act.eval] at h1
    have h3 : ∀ u : Value, (Instr.loadAt t u).run P w = .ok v' w → (do loadVar t (← asAddr u) : Sem Value).run P w = .ok v' w := by
      intro u hu
      cases u with
      | pointer ad =>
        cases ad with
        | some ad => simpa [Instr.loadAt, Instr.sureAddr, asAddr] using hu
        | none => simp [Instr.loadAt, Instr.sureAddr, stuck] at hu
      | _ => simp [Instr.loadAt, Instr.sureAddr, stuck] at hu
    exact h3 _ h1
theorem resAll_sound {B0 : Nat} {w0 : World} {m : Mp} {H : AH} {w : World} (R0 : Rel P B0 w0 m H w) {T : List Value} {a : Act} (hT : LRel m T a.tmps.toList) : ∀ (rs : List ResultVar) (vs : List Value), resAll P T H rs = some vs →
    ∃ vs', (rs.mapM fun | .tmp t => pure (a.tmps.getD t undef) | .cell x t => do loadVar t (← asAddr (a.tmps.getD x undef)) : Sem (List Value)).run P w = .ok vs' w ∧ LRel m vs vs'
  | [], vs, h => by cases h; exact ⟨[], by simp, LRel.nil m⟩
  | r :: rs, vs, h => by
    unfold resAll at h
    obtain ⟨v, h1, h⟩ := bind_some h
    obtain ⟨us, h2, h⟩ := bind_some h
    cases h
    obtain ⟨v', q1, q2⟩ := resOne_sound R0 hT h1
    obtain ⟨us', q3, q4⟩ := resAll_sound R0 hT rs us h2
    exact ⟨v' :: us', by rw [List.mapM_cons]; simp only [Sem.run_bind, q1, q3, Result.andThen_ok, Sem.run_pure], LRel.cons q2 q4⟩
theorem results_sound {B0 : Nat} {w0 : World} {m : Mp} {H : AH} {w : World} (R0 : Rel P B0 w0 m H w) {T : List Value} {a : Act} (hT : LRel m T a.tmps.toList) {fn : Func} {vs : List Value} (h : resAll P T H fn.results.toList = some vs) :
    ∃ v', (results fn a.tmps).run P w = .ok v' w ∧ VRel m (oneOf vs) v' := by
  obtain ⟨vs', h1, h2⟩ := resAll_sound R0 hT _ _ h
  refine ⟨oneOf vs', ?_, ?_⟩
  · unfold results
    rw [Array.mapM_eq_mapM_toList]
    simp only [Sem.run_bind, Sem.run_map, Sem.run_pure]
    refine (congrArg (fun s : Result (List Value) => (s.andThen fun a w' => .ok a.toArray w').andThen fun a w' => .ok (if h : a.size = 1 then a[0] else .tuple a) w') h1).trans ?_
    cases vs' with
    | nil => rfl
    | cons v rest =>
      cases rest with
      | nil => rfl
      | cons u rest => simp [oneOf]
  · cases vs with
    | nil => rw [h2.nil_inv]; exact VRel.undef m
    | cons v rest =>
      obtain ⟨v', zs, rfl, hv, hr⟩ := h2.cons_inv
      cases rest with
      | nil => rw [hr.nil_inv]; exact hv
      | cons u rest =>
        obtain ⟨u', zs', rfl, hu, hr'⟩ := hr.cons_inv
        have hl := LRel.cons hv (LRel.cons hu hr')
        exact .tuple _ _ (by simpa using hl.1) fun i x y hx hy => hl.2 i x y (by simpa using hx) (by simpa using hy)
theorem LRel.of_flat_undef {m : Mp} (n : Nat) : LRel m (List.replicate n undef) (List.replicate n undef) := by
  induction n with
  | zero => exact LRel.nil m
  | succ n ih => rw [List.replicate_succ]; exact LRel.cons (VRel.undef m) ih
def GivenOK (P : Program) (gv : Given) : Prop := ∀ f g, gv f = some g → ∀ args H v H', g args H = some (v, H') → Enterable P f ∧ SimCall P f args H v H'
theorem runFn_sound (hcall : CallOK P call) (hdraw : DrawOK P call) (hmix : P.follows .mixedOrders = true) {n : Nat} {tb : Tbl} {f : FuncId} {fn : Func} (hf : P.funcs[f]? = some fn) {args : List Value} {H : AH} {v : Value} {H' : AH}
    (h : runFn P call n tb fn args H = some (v, H')) : Enterable P f ∧ SimCall P f args H v H' := by
  unfold runFn at h
  cases hb : fn.body.isSome && fn.name != "runtime.NumGoroutine" with
  | false => rw [hb] at h; cases h
  | true =>
    rw [hb] at h
    simp only [cond_true] at h
    rw [Bool.and_eq_true] at hb
    obtain ⟨hb1, hb2⟩ := hb
    refine ⟨⟨fn, hf, by simpa using hb2, hb1⟩, ?_⟩
    obtain ⟨c, hc⟩ := Option.isSome_iff_exists.1 hb1
    have hbody : bodyOf fn = c := by simp [bodyOf, hc]
    rw [hbody] at h
    obtain ⟨e, T', H1, h1, h2⟩ := evalK_sound hcall hdraw hmix n tb c _ _ _ _ h
    have hres : ∃ vs, resAll P T' H1 fn.results.toList = some vs ∧ oneOf vs = v ∧ H1 = H' := by
      cases e with
      | exit i => cases h1
      | normal => obtain ⟨vs, h3, h4⟩ := bind_some h1; cases h4; exact ⟨vs, h3, rfl, rfl⟩
      | ret => obtain ⟨vs, h3, h4⟩ := bind_some h1; cases h4; exact ⟨vs, h3, rfl, rfl⟩
    obtain ⟨vs, h3, h4, rfl⟩ := hres
    intro B0 w0 m w args' R0 hargs
    refine calls_of_wp hf hc (h2 B0 w0 m _ w _ R0 ?_ rfl fun m' a' w' A => ?_)
    · have hl : args'.toArray.size = args.length := by simp [hargs.1]
      simp only [Array.toList_append, Array.toList_replicate, args0]
      refine hargs.append ?_
      rw [hl]
      exact LRel.of_flat_undef _
    · obtain ⟨v', h5, h6⟩ := results_sound A.rel A.tmps h3
      have hpost : a'.defers = [] ∧ ∃ u, (results fn a'.tmps).run P w' = .ok u w' ∧ ∃ m' v', Ending.returned u = .returned v' ∧ VRel m' v v' ∧ Rel P B0 w0 m' H1 w' ∧ Ext m H w m' H1 w' :=
        ⟨A.defers, v', h5, m', v', rfl, by rw [← h4]; exact h6, A.rel, A.ext⟩
      cases e with
      | exit i => cases h1
      | normal => exact hpost
      | ret => exact hpost
theorem run_sound (hdraw : ∀ call, CallOK P call → DrawOK P call) (hmix : P.follows .mixedOrders = true) {tbs : FuncId → Tbl} {gv : Given} (hgv : GivenOK P gv) : ∀ k, CallOK P (run P tbs gv k)
  | 0 => fun f args H v H' h => by cases h
  | k + 1 => fun f args H v H' h => by
    unfold run at h
    split at h
    · rename_i g hg
      exact hgv f g hg args H v H' h
    · obtain ⟨fn, h1, h2⟩ := bind_some h
      have ih := run_sound (tbs := tbs) hdraw hmix hgv k
      exact runFn_sound ih (hdraw _ ih) hmix h1 h2
end
end Go.AM
set_option linter.unusedVariables false
set_option linter.unusedSimpArgs false
namespace Go.AM
open Go.RowKit
variable {P : Program} {B0 : Nat} {w0 : World} {m : Mp} {H : AH} {w : World}
def gCopy (P : Program) (Ts : List TypeId) (args : List Value) (H : AH) : Option (Value × AH) :=
  match args with
  | [.pointer (some ⟨b, 0, none⟩)] =>
    (blk H b).bind fun k => if k.kind = .fix ∧ k.elem ∈ Ts ∧ k.cells.length = szT P k.elem then
      (match k.cells with
      | .pointer none :: x => some (.tuple #[], put H b k (.pointer (some ⟨b, 0, none⟩) :: x))
      | .pointer (some ⟨b2, 0, none⟩) :: x => if b2 = b then some (.tuple #[], H) else none
      | _ => none) else none
  | _ => none
theorem setCell_row {w : World} {g : Nat} {c : Array Value} {e : TypeId} {fr : Nat × Nat} {v : Value} (h : w.heap[g]? = some (.cells c e fr)) : w.setCell ⟨g, 0, none⟩ v = w.setRow g (c.setIfInBounds 0 v) := by
  have hlt : g < w.heap.size := (Array.getElem?_eq_some_iff.1 h).1
  have hg := (Array.getElem?_eq_some_iff.1 h).2
  unfold World.setCell World.setRow
  congr 1
  apply Array.ext
  · simp
  · intro i h1 h2
    simp only [Array.getElem_modify]
    split
    · rename_i hi
      subst hi
      rw [hg]
      rfl
    · rfl
theorem gCopy_ok {f : Nat} {Ts : List TypeId} (hen : Enterable P f)
    (fresh : ∀ T ∈ Ts, ∀ (b : Nat) (w : World), w.cell? ⟨b, 0, none⟩ = some (.pointer none) → w.shape? b = some (T, szT P T) → w.frozen? ⟨b, 0, none⟩ = false → Calls P f #[.pointer (some ⟨b, 0, none⟩)] w fun e w' => e = .returned (.tuple #[]) ∧ w' = w.setCell ⟨b, 0, none⟩ (.pointer (some ⟨b, 0, none⟩)))
    (used : ∀ (b : Nat) (w : World), w.cell? ⟨b, 0, none⟩ = some (.pointer (some ⟨b, 0, none⟩)) → Calls P f #[.pointer (some ⟨b, 0, none⟩)] w fun e w' => e = .returned (.tuple #[]) ∧ w' = w) :
    ∀ args H v H', gCopy P Ts args H = some (v, H') → Enterable P f ∧ SimCall P f args H v H' := by
  intro args H v H' h
  refine ⟨hen, ?_⟩
  intro B0 w0 m w args' R hl
  unfold gCopy at h
  split at h
  · rename_i b
    cases hb : blk H b with
    | none => rw [hb] at h; cases h
    | some k =>
      rw [hb] at h
      simp only [Option.bind_some] at h
      split at h
      · rename_i hc
        obtain ⟨hk, hT, hlen⟩ := hc
        obtain ⟨y, zs, rfl, hy, hz⟩ := hl.cons_inv
        have := hz.nil_inv
        subst this
        obtain ⟨L, hm, rfl⟩ := hy.ptr_inv
        have hB := R.blks b L k hm hb
        obtain ⟨c, e, fr, hw, hlr, h3, h4, _⟩ := hB.there
        have hro : k.kind ≠ .ro := by rw [hk]; decide
        obtain ⟨rfl, rfl, _⟩ := h3 hro
        obtain ⟨hb0, hcs⟩ := h4 hk
        rw [hb0] at hlr ⊢
        rw [Nat.zero_add]
        rw [List.drop_zero, ← hcs] at hlr
        have htk : c.toList.take c.size = c.toList := List.take_of_length_le (by simp)
        rw [htk] at hlr
        show Calls P f #[.pointer (some ⟨L.blk, 0, none⟩)] w _
        split at h
        · rename_i x hcells
          cases h
          rw [hcells] at hlr hcs
          obtain ⟨y1, zs1, e1, hy1, hr1⟩ := hlr.cons_inv
          have e2 := VRel.flat_inv rfl hy1
          subst e2
          have hc0 : c[0]? = some (.pointer none) := by rw [← Array.getElem?_toList, e1]; rfl
          have hcell : w.cell? ⟨L.blk, 0, none⟩ = some (.pointer none) := by unfold World.cell?; rw [hw]; simp [hc0]
          have hshape : w.shape? L.blk = some (k.elem, szT P k.elem) := by
            have hlen' : c.size = szT P k.elem := by rw [hcs, ← hcells]; exact hlen
            unfold World.shape?; rw [hw]; show some (k.elem, c.size) = _; rw [hlen']
          have hfz : w.frozen? ⟨L.blk, 0, none⟩ = false := by unfold World.frozen?; rw [hw]; simp
          refine (fresh _ hT L.blk w hcell hshape hfz).mono fun e w' he => ?_
          obtain ⟨rfl, rfl⟩ := he
          rw [setCell_row hw]
          have hlr2 : LRel m (.pointer (some ⟨b, 0, none⟩) :: x) (((c.setIfInBounds 0 (.pointer (some ⟨L.blk, 0, none⟩))).toList.drop L.base).take (Value.pointer (some ⟨b, 0, none⟩) :: x).length) := by
            rw [hb0, List.drop_zero, Array.toList_setIfInBounds, e1]
            have hl1 := hr1.1
            have e3 : (Value.pointer none :: zs1).set 0 (.pointer (some ⟨L.blk, 0, none⟩)) = .pointer (some ⟨L.blk, 0, none⟩) :: zs1 := rfl
            rw [e3, List.take_of_length_le (by simp at hl1 ⊢; omega)]
            refine LRel.cons ?_ hr1
            have := VRel.ptr (m := m) b 0 L hm
            rw [hb0] at this
            exact this
          obtain ⟨q1, q2⟩ := R.write hm hb hro hw (.pointer (some ⟨b, 0, none⟩) :: x) (c.setIfInBounds 0 (.pointer (some ⟨L.blk, 0, none⟩))) (by simp) (by rw [hcells]; rfl) hlr2
          exact ⟨m, _, rfl, .tuple _ _ rfl (fun i x y h => by simp at h), q1, q2⟩
        · rename_i b2 x hcells
          split at h
          · rename_i hbb
            subst hbb
            cases h
            rw [hcells] at hlr
            obtain ⟨y1, zs1, e1, hy1, hr1⟩ := hlr.cons_inv
            obtain ⟨L2, hm2, rfl⟩ := hy1.ptr_inv
            rw [hm] at hm2
            cases hm2
            rw [hb0] at e1
            have hc0 : c[0]? = some (.pointer (some ⟨L.blk, 0, none⟩)) := by rw [← Array.getElem?_toList, e1]; rfl
            have hcell : w.cell? ⟨L.blk, 0, none⟩ = some (.pointer (some ⟨L.blk, 0, none⟩)) := by unfold World.cell?; rw [hw]; simp [hc0]
            refine (used L.blk w hcell).mono fun e w' he => ?_
            obtain ⟨rfl, hw'⟩ := he
            rw [hw']
            exact ⟨m, _, rfl, .tuple _ _ rfl (fun i x y h => by simp at h), R, Ext.refl m H w⟩
          · cases h
        · cases h
      · cases h
  · cases h
end Go.AM
set_option linter.unusedVariables false
set_option maxRecDepth 100000
namespace Go.AM.N
open Go Go.AM Go.Proofs
noncomputable section
def tbs : FuncId → Tbl
  | 4 => [(19, [2, 7, 8, 9]), (20, [2, 6, 7])]
  | 5 => [(34, [1, 2, 7, 8, 9, 10, 11]), (35, [1, 2, 6, 7, 9, 10])]
  | 9 => [(21, [2, 3, 7]), (34, [2, 3, 7, 8, 9, 10, 12]), (35, [2, 3, 6, 7, 8, 9, 10]), (49, [2, 3, 7, 8, 9, 10, 13]), (50, [3, 6, 7, 8, 9, 10])]
  | 12 => [(33, [1, 4, 5, 6]), (37, [4, 5, 6, 27, 28, 29]), (38, [4])]
  | 13 => [(22, [1, 5, 6]), (23, [5]), (40, [1, 7, 8]), (41, [7])]
  | 15 => [(24, [0, 2, 4, 5, 6, 7]), (25, [0, 2, 4, 5, 6, 7]), (26, [0, 2, 4])]
  | 16 => [(30, [0, 2, 4, 5]), (31, [0, 2, 4, 5]), (32, [0, 2, 3, 4])]
  | 18 => [(12, [1, 3]), (25, [1, 4, 34, 35, 36]), (26, [1, 2])]
  | 20 => [(10, [3, 12, 13, 14]), (11, [3])]
  | 21 => [(10, [1, 3, 4]), (11, [3])]
  | 22 => [(10, [0, 2, 3, 4]), (11, [2, 3])]
  | 24 => [(15, [1, 2, 3, 6, 7, 9]), (24, [1, 2, 3, 6, 7, 9, 10])]
  | 25 => [(18, [1, 2, 4, 5])]
  | 26 => [(13, [1, 3]), (14, [1, 2]), (31, [1, 5]), (32, [2])]
  | 27 => [(10, [1, 2, 3, 6, 7, 8]), (11, [1, 2, 3, 6, 7, 8]), (27, [1, 2, 3, 6, 7, 8, 9, 10])]
  | 28 => [(18, [1, 2, 4, 5])]
  | 29 => [(7, [1, 2, 5]), (8, [1, 2, 5])]
  | 30 => [(21, [1, 2, 4, 6, 7])]
  | 31 => [(18, [3, 5, 6, 8])]
  | 33 => [(21, [3, 5, 6, 8])]
  | 42 => [(13, [2, 3, 5]), (14, [2, 3, 4]), (28, [2, 3, 6]), (29, [4])]
  | 45 => [(7, [1, 2, 6]), (8, [4, 5, 6])]
  | 48 => [(10, [0, 3, 9, 10, 11]), (11, [0, 3]), (34, [6, 25, 26, 27]), (35, [6])]
  | 49 => [(10, [0, 3, 9, 10, 11]), (11, [0, 3]), (34, [6, 25, 26, 27]), (35, [6])]
  | 51 => [(7, [0, 1, 7, 8]), (8, [4])]
  | 52 => [(9, [0, 1]), (18, [0])]
  | 53 => [(9, [0, 1]), (18, [0])]
  | _ => []
noncomputable def gv : Given := fun f => if f = 50 then some (gCopy Try.prog [70]) else none
noncomputable abbrev rn (k : Nat) : CallF := run Try.prog tbs gv k
theorem f8_eq (k : Nat) (a0 a1 a2 : Value) (H : AH) : rn (k + 1) 8 [a0, a1, a2] H =
b2 (box 25 H a0) fun v1 h1 =>
b2 (box 25 h1 a1) fun v2 h2 =>
b2 (rn k 10 [] h2) fun v3 h3 =>
(un Try.prog .not v3).bind fun v4 =>
aIf v4
 (some ((.bool false), h3))
 ((ld Try.prog 25 h3 v1).bind fun v5 =>
 b2 (rn k 11 [v5] h3) fun v6 h6 =>
 (st Try.prog 25 h6 v1 v6).bind fun h7 =>
 (ld Try.prog 25 h7 v2).bind fun v8 =>
 b2 (rn k 11 [v8] h7) fun v9 h9 =>
 (st Try.prog 25 h9 v2 v9).bind fun h10 =>
 (ld Try.prog 25 h10 v1).bind fun v11 =>
 b2 (rn k 30 [v11] h10) fun v12 h12 =>
 (ext v12 0).bind fun v13 =>
 (ext v12 1).bind fun v14 =>
 (ext v12 2).bind fun v15 =>
 (ext v12 3).bind fun v16 =>
 b2 (newV Try.prog 25 h12) fun v17 h17 =>
 b2 (newV Try.prog 25 h17) fun v18 h18 =>
 (st Try.prog 25 h18 v17 v13).bind fun h19 =>
 (st Try.prog 25 h19 v18 v15).bind fun h20 =>
 (ld Try.prog 25 h20 v1).bind fun v21 =>
 (ld Try.prog 25 h20 v2).bind fun v22 =>
 b2 (rn k 31 [v21, a2, v22] h20) fun v23 h23 =>
 (ext v23 0).bind fun v24 =>
 (ext v23 1).bind fun v25 =>
 b2 (newV Try.prog 25 h23) fun v26 h26 =>
 (st Try.prog 25 h26 v26 v24).bind fun h27 =>
 (ld Try.prog 25 h27 v1).bind fun v28 =>
 b2 (rn k 14 [v28] h27) fun v29 h29 =>
 b2 (rn k 26 [v29] h29) fun v30 h30 =>
 (ld Try.prog 25 h30 v2).bind fun v31 =>
 b2 (rn k 14 [v31] h30) fun v32 h32 =>
 b2 (rn k 26 [v32] h32) fun v33 h33 =>
 (un Try.prog .not v30).bind fun v34 =>
 b2 (gOp v34 false (some (v33, h33)) h33) fun v35 h35 =>
 b2 (gOp v34 false ((un Try.prog .not v35).bind fun v => some (v, h35)) h35) fun v36 h36 =>
 (pickV v34 (.bool true) v36).bind fun v37 =>
 aIf v37
  (some (v3, h36))
  ((ld Try.prog 25 h36 v1).bind fun v38 =>
  b2 (rn k 14 [v38] h36) fun v39 h39 =>
  b2 (rn k 32 [v39] h39) fun v40 h40 =>
  (ext v40 0).bind fun v41 =>
  (ext v40 1).bind fun v42 =>
  (ext v40 2).bind fun v43 =>
  (ext v40 3).bind fun v44 =>
  b2 (newV Try.prog 33 h40) fun v45 h45 =>
  b2 (newV Try.prog 33 h45) fun v46 h46 =>
  (st Try.prog 33 h46 v45 v41).bind fun h47 =>
  (st Try.prog 33 h47 v46 v43).bind fun h48 =>
  (ld Try.prog 25 h48 v1).bind fun v49 =>
  b2 (rn k 14 [v49] h48) fun v50 h50 =>
  (ld Try.prog 25 h50 v2).bind fun v51 =>
  aChk (ld Try.prog 25 h48 v2 = some v51) <|
  b2 (rn k 14 [v51] h50) fun v52 h52 =>
  b2 (rn k 33 [v50, a2, v52] h52) fun v53 h53 =>
  (ext v53 0).bind fun v54 =>
  (ext v53 1).bind fun v55 =>
  b2 (newV Try.prog 33 h53) fun v56 h56 =>
  (st Try.prog 33 h56 v56 v54).bind fun h57 =>
  (ld Try.prog 25 h57 v17).bind fun v58 =>
  (ld Try.prog 33 h57 v45).bind fun v59 =>
  b2 (rn k 17 [v58, v59] h57) fun v60 h60 =>
  (ld Try.prog 25 h60 v18).bind fun v61 =>
  (ld Try.prog 33 h60 v46).bind fun v62 =>
  b2 (rn k 17 [v61, v62] h60) fun v63 h63 =>
  (ld Try.prog 25 h63 v26).bind fun v64 =>
  (ld Try.prog 33 h63 v56).bind fun v65 =>
  b2 (rn k 17 [v64, v65] h63) fun v66 h66 =>
  b2 (gOp v3 true (some (v60, h66)) h66) fun v67 h67 =>
  (pickV v3 v67 (.bool false)).bind fun v68 =>
  b2 (gOp v68 true (some (v14, h67)) h67) fun v69 h69 =>
  b2 (gOp v68 true (some (v42, h69)) h69) fun v70 h70 =>
  b2 (gOp v68 true ((bin Try.prog .eql 9 v69 v70).bind fun v => some (v, h70)) h70) fun v71 h71 =>
  (pickV v68 v71 (.bool false)).bind fun v72 =>
  b2 (gOp v72 true (some (v63, h71)) h71) fun v73 h73 =>
  (pickV v72 v73 (.bool false)).bind fun v74 =>
  b2 (gOp v74 true (some (v16, h73)) h73) fun v75 h75 =>
  b2 (gOp v74 true (some (v44, h75)) h75) fun v76 h76 =>
  b2 (gOp v74 true ((bin Try.prog .eql 4 v75 v76).bind fun v => some (v, h76)) h76) fun v77 h77 =>
  (pickV v74 v77 (.bool false)).bind fun v78 =>
  b2 (gOp v78 true (some (v66, h77)) h77) fun v79 h79 =>
  (pickV v78 v79 (.bool false)).bind fun v80 =>
  b2 (gOp v80 true (some (v25, h79)) h79) fun v81 h81 =>
  b2 (gOp v80 true (some (v55, h81)) h81) fun v82 h82 =>
  b2 (gOp v80 true ((bin Try.prog .eql 4 v81 v82).bind fun v => some (v, h82)) h82) fun v83 h83 =>
  (pickV v80 v83 (.bool false)).bind fun v84 =>
  some (v84, h83))) := by kernel_rfl
theorem f10_eq (k : Nat) (H : AH) : rn (k + 1) 10 [] H =
b2 (buildS Try.prog 22 H 1 [(0, (.string ⟨#[97, 98, 99]⟩))]) fun v1 h1 =>
b2 (buildS Try.prog 23 h1 1 [(0, (.int .i64 5))]) fun v2 h2 =>
(build Try.prog 25 [(0, (.bool true)), (1, v1), (2, v2)]).bind fun v3 =>
b2 (newV Try.prog 25 h2) fun v4 h4 =>
(st Try.prog 25 h4 v4 v3).bind fun h5 =>
(ld Try.prog 25 h5 v4).bind fun v6 =>
b2 (rn k 12 [v6] h5) fun v7 h7 =>
(ext v7 0).bind fun v8 =>
(ext v7 1).bind fun v9 =>
b2 (rn k 15 [v8] h7) fun v10 h10 =>
(ext v10 0).bind fun v11 =>
(ext v10 1).bind fun v12 =>
b2 (newV Try.prog 25 h10) fun v13 h13 =>
(st Try.prog 25 h13 v13 v11).bind fun h14 =>
(ld Try.prog 25 h14 v13).bind fun v15 =>
(ld Try.prog 25 h14 v4).bind fun v16 =>
b2 (rn k 14 [v16] h14) fun v17 h17 =>
aChk (ld Try.prog 25 h17 v13 = some v15) <|
b2 (rn k 17 [v15, v17] h17) fun v18 h18 =>
(ld Try.prog 25 h18 v4).bind fun v19 =>
b2 (rn k 20 [v19] h18) fun v20 h20 =>
(bin Try.prog .eql 3 v20 (.int .i64 7)).bind fun v21 =>
b2 (gOp v21 true (some (v8, h20)) h20) fun v22 h22 =>
b2 (gOp v21 true ((bin Try.prog .eql 9 v22 (.string ⟨#[1, 3, 97, 98, 99, 0, 5]⟩)).bind fun v => some (v, h22)) h22) fun v23 h23 =>
(pickV v21 v23 (.bool false)).bind fun v24 =>
b2 (gOp v24 true (some (v9, h23)) h23) fun v25 h25 =>
b2 (gOp v24 true ((bin Try.prog .eql 28 v25 (.int .i64 0)).bind fun v => some (v, h25)) h25) fun v26 h26 =>
(pickV v24 v26 (.bool false)).bind fun v27 =>
b2 (gOp v27 true (some (v18, h26)) h26) fun v28 h28 =>
(pickV v27 v28 (.bool false)).bind fun v29 =>
b2 (gOp v29 true (some (v12, h28)) h28) fun v30 h30 =>
b2 (gOp v29 true ((bin Try.prog .eql 28 v30 (.int .i64 0)).bind fun v => some (v, h30)) h30) fun v31 h31 =>
(pickV v29 v31 (.bool false)).bind fun v32 =>
b2 (gOp v32 true ((ld Try.prog 25 h31 v4).bind fun v => some (v, h31)) h31) fun v33 h33 =>
b2 (gOp v32 true (b2 (rn k 23 [v33, (.string ⟨#[97, 98, 99]⟩)] h33) fun v h => some (v, h)) h33) fun v34 h34 =>
b2 (gOp v32 true ((bin Try.prog .eql 3 v34 (.int .i64 0)).bind fun v => some (v, h34)) h34) fun v35 h35 =>
(pickV v32 v35 (.bool false)).bind fun v36 =>
b2 (gOp v36 true ((ld Try.prog 25 h35 v4).bind fun v => some (v, h35)) h35) fun v37 h37 =>
b2 (gOp v36 true (b2 (rn k 23 [v37, (.string ⟨#[98]⟩)] h37) fun v h => some (v, h)) h37) fun v38 h38 =>
b2 (gOp v36 true ((bin Try.prog .eql 3 v38 (.int .i64 (-1))).bind fun v => some (v, h38)) h38) fun v39 h39 =>
(pickV v36 v39 (.bool false)).bind fun v40 =>
some (v40, h39) := by kernel_rfl
theorem f11_eq (k : Nat) (a0 : Value) (H : AH) : rn (k + 1) 11 [a0] H =
b2 (box 25 H a0) fun v1 h1 =>
b2 (newV Try.prog 25 h1) fun v2 h2 =>
(fldA Try.prog 25 v1 1).bind fun v3 =>
(ld Try.prog 22 h2 v3).bind fun v4 =>
(fldA Try.prog 25 v1 1).bind fun v5 =>
(ld Try.prog 22 h2 v5).bind fun v6 =>
(lenV Try.prog 22 v6).bind fun v7 =>
(fold1 minV [v7, (.int .i64 12)]).bind fun v8 =>
(slc Try.prog 22 v4 none (some v8)).bind fun v9 =>
b2 (ap Try.prog 22 22 h2 (.slice none 0 0) v9) fun v10 h10 =>
(fldA Try.prog 25 v1 1).bind fun v11 =>
(st Try.prog 22 h10 v11 v10).bind fun h12 =>
(fldA Try.prog 25 v1 2).bind fun v13 =>
(ld Try.prog 23 h12 v13).bind fun v14 =>
(fldA Try.prog 25 v1 2).bind fun v15 =>
(ld Try.prog 23 h12 v15).bind fun v16 =>
(lenV Try.prog 23 v16).bind fun v17 =>
(fold1 minV [v17, (.int .i64 13)]).bind fun v18 =>
(slc Try.prog 23 v14 none (some v18)).bind fun v19 =>
b2 (ap Try.prog 23 23 h12 (.slice none 0 0) v19) fun v20 h20 =>
(fldA Try.prog 25 v1 2).bind fun v21 =>
(st Try.prog 23 h20 v21 v20).bind fun h22 =>
(ld Try.prog 25 h22 v1).bind fun v23 =>
(st Try.prog 25 h22 v2 v23).bind fun h24 =>
((ld Try.prog 25 h24 v2).bind fun v25 => some (v25 :: [])).bind fun vs => some (oneOf vs, h24) := by kernel_rfl
abbrev f12_T_J0 (s1 s4 s5 s6 : Value) : List Value := [unk, s1, unk, unk, s4, s5, s6, unk, unk, unk, unk, unk, unk, unk, unk, unk, unk, unk, unk, unk, unk, unk, unk, unk, unk, unk, unk, unk, unk, unk, unk, unk, unk, unk, unk, unk, unk, unk, unk, unk, unk, unk, unk, unk, unk, unk, unk, unk]
abbrev f12_T_L0 (s4 s5 s6 s27 s28 s29 : Value) : List Value := [unk, unk, unk, unk, s4, s5, s6, unk, unk, unk, unk, unk, unk, unk, unk, unk, unk, unk, unk, unk, unk, unk, unk, unk, unk, unk, unk, s27, s28, s29, unk, unk, unk, unk, unk, unk, unk, unk, unk, unk, unk, unk, unk, unk, unk, unk, unk, unk]
abbrev f12_X_L0 (s4 : Value) : List Value := [unk, unk, unk, unk, s4, unk, unk, unk, unk, unk, unk, unk, unk, unk, unk, unk, unk, unk, unk, unk, unk, unk, unk, unk, unk, unk, unk, unk, unk, unk, unk, unk, unk, unk, unk, unk, unk, unk, unk, unk, unk, unk, unk, unk, unk, unk, unk, unk]
@[irreducible] def f12_J0 (k : Nat) (s1 s4 s5 s6 : Value) (H : AH) : Option (Value × AH) := resume Try.prog (rn k) k (tbs 12) (bodyOf Try.f12) [1, 1, 1, 1, 1, 0] .normal (f12_T_J0 s1 s4 s5 s6) H (resK Try.prog Try.f12.results.toList)
@[irreducible] def f12_L0 (k : Nat) (s4 s5 s6 s27 s28 s29 : Value) (n : Nat) (H : AH) : Option Out := iterD (fun T H K => evalK Try.prog (rn k) k (tbs 12) (codeAt (bodyOf Try.f12) [1, 1, 1, 1, 1, 1, 0, 1, 0, 0]) T H K) (cutT (tbs 12) 37) (cutT (tbs 12) 38) n (f12_T_L0 s4 s5 s6 s27 s28 s29) H
@[irreducible] def f12_A0 (k : Nat) (e : EX) (T : List Value) (H : AH) : Option (Value × AH) := resume Try.prog (rn k) k (tbs 12) (bodyOf Try.f12) [1, 1, 1, 1, 1, 1, 0, 1, 0] e T H (resK Try.prog Try.f12.results.toList)
theorem f12_J0_eq (k : Nat) (s1 s4 s5 s6 : Value) (H : AH) : f12_J0 k s1 s4 s5 s6 H =
(fldA Try.prog 25 s1 1).bind fun v16 =>
(ld Try.prog 22 H v16).bind fun v17 =>
(lenV Try.prog 22 v17).bind fun v18 =>
(f12_L0 k s4 s5 s6 v17 v18 (.int .i64 0) k H).bind fun p => f12_A0 k p.1 p.2.1 p.2.2 := by kernel_rfl
theorem f12_L0_succ (k : Nat) (s4 s5 s6 s27 s28 s29 : Value) (n : Nat) (H : AH) : f12_L0 k s4 s5 s6 s27 s28 s29 (n + 1) H =
(bin Try.prog .lss 3 s29 s28).bind fun v19 =>
aIf v19
 ((ixA Try.prog 22 s27 s29).bind fun v20 =>
 (ld Try.prog 9 H v20).bind fun v21 =>
 (lenV Try.prog 9 v21).bind fun v22 =>
 (cv Try.prog 3 5 v22).bind fun v23 =>
 b2 (rn k 35 [s4, v23] H) fun v24 h24 =>
 b2 (rn k 36 [s4, v21] h24) fun v25 h25 =>
 (ixA Try.prog 23 s6 s29).bind fun v26 =>
 (ld Try.prog 3 h25 v26).bind fun v27 =>
 b2 (callV (rn k) s5 [v27] h25) fun v28 h28 =>
 (bin Try.prog .add 3 s29 (.int .i64 1)).bind fun v29 =>
 f12_L0 k s4 s5 s6 s27 s28 v29 n h28)
 (some ((.exit 0), (f12_X_L0 s4), H)) := by kernel_rfl
theorem f12_A0_x0 (k : Nat) (s4 : Value) (H : AH) : f12_A0 k (.exit 0) (f12_X_L0 s4) H =
b2 (rn k 37 [s4] H) fun v30 h30 =>
some ((.tuple #[v30, (.int .i64 0)]), h30) := by kernel_rfl
theorem f12_eq (k : Nat) (a0 : Value) (H : AH) : rn (k + 1) 12 [a0] H =
b2 (box 25 H a0) fun v1 h1 =>
(ld Try.prog 25 h1 v1).bind fun v2 =>
b2 (rn k 18 [v2] h1) fun v3 h3 =>
(un Try.prog .not v3).bind fun v4 =>
aIf v4
 (some ((.tuple #[(.string ⟨#[]⟩), (.int .i64 1)]), h3))
 (b2 (newV Try.prog 70 h3) fun v5 h5 =>
 (fldA Try.prog 25 v1 2).bind fun v6 =>
 (ld Try.prog 23 h5 v6).bind fun v7 =>
 (fldA Try.prog 25 v1 0).bind fun v8 =>
 (ld Try.prog 4 h5 v8).bind fun v9 =>
 aIf v9
  (b2 (rn k 35 [v5, (.int .u8 1)] h5) fun v10 h10 =>
  f12_J0 k v1 v5 (.func (.func 34) #[] #[v5]) v7 h10)
  (b2 (rn k 35 [v5, (.int .u8 0)] h5) fun v11 h11 =>
  (ixA Try.prog 23 v7 (.int .i64 0)).bind fun v12 =>
  (ld Try.prog 3 h11 v12).bind fun v13 =>
  b2 (rn k 34 [v13, v5] h11) fun v14 h14 =>
  (slc Try.prog 23 v7 (some (.int .i64 1)) none).bind fun v15 =>
  f12_J0 k v1 v5 (.func (.func 34) #[] #[v5]) v15 h14)) := by kernel_rfl
theorem f14_eq (k : Nat) (a0 : Value) (H : AH) : rn (k + 1) 14 [a0] H =
b2 (box 25 H a0) fun v1 h1 =>
b2 (newV Try.prog 33 h1) fun v2 h2 =>
(fldA Try.prog 25 v1 0).bind fun v3 =>
(ld Try.prog 4 h2 v3).bind fun v4 =>
(fldA Try.prog 25 v1 1).bind fun v5 =>
(ld Try.prog 22 h2 v5).bind fun v6 =>
(fldA Try.prog 25 v1 2).bind fun v7 =>
(ld Try.prog 23 h2 v7).bind fun v8 =>
(build Try.prog 33 [(0, v4), (1, v6), (2, v8)]).bind fun v9 =>
(st Try.prog 33 h2 v2 v9).bind fun h10 =>
((ld Try.prog 33 h10 v2).bind fun v11 => some (v11 :: [])).bind fun vs => some (oneOf vs, h10) := by kernel_rfl
abbrev f15_T_J0 (s0 s2 s4 s5 s6 s7 : Value) : List Value := [s0, unk, s2, unk, s4, s5, s6, s7, unk, unk, unk, unk, unk, unk, unk, unk, unk, unk, unk, unk, unk, unk, unk, unk, unk, unk, unk, unk, unk, unk, unk, unk, unk, unk, unk, unk, unk, unk, unk, unk, unk, unk, unk, unk, unk, unk, unk, unk, unk, unk, unk, unk, unk]
abbrev f15_T_L0 (s0 s2 s4 s5 s6 s7 : Value) : List Value := [s0, unk, s2, unk, s4, s5, s6, s7, unk, unk, unk, unk, unk, unk, unk, unk, unk, unk, unk, unk, unk, unk, unk, unk, unk, unk, unk, unk, unk, unk, unk, unk, unk, unk, unk, unk, unk, unk, unk, unk, unk, unk, unk, unk, unk, unk, unk, unk, unk, unk, unk, unk, unk]
abbrev f15_X_L0 (s0 s2 s4 : Value) : List Value := [s0, unk, s2, unk, s4, unk, unk, unk, unk, unk, unk, unk, unk, unk, unk, unk, unk, unk, unk, unk, unk, unk, unk, unk, unk, unk, unk, unk, unk, unk, unk, unk, unk, unk, unk, unk, unk, unk, unk, unk, unk, unk, unk, unk, unk, unk, unk, unk, unk, unk, unk, unk, unk]
@[irreducible] def f15_J0 (k : Nat) (s0 s2 s4 s5 s6 s7 : Value) (H : AH) : Option (Value × AH) := resume Try.prog (rn k) k (tbs 15) (bodyOf Try.f15) [1, 1, 1, 1, 1, 0] .normal (f15_T_J0 s0 s2 s4 s5 s6 s7) H (resK Try.prog Try.f15.results.toList)
@[irreducible] def f15_L0 (k : Nat) (s0 s2 s4 s5 s6 s7 : Value) (n : Nat) (H : AH) : Option Out := iterD (fun T H K => evalK Try.prog (rn k) k (tbs 15) (codeAt (bodyOf Try.f15) [1, 1, 1, 1, 1, 1, 0, 0, 0]) T H K) (cutT (tbs 15) 25) (cutT (tbs 15) 26) n (f15_T_L0 s0 s2 s4 s5 s6 s7) H
@[irreducible] def f15_A0 (k : Nat) (e : EX) (T : List Value) (H : AH) : Option (Value × AH) := resume Try.prog (rn k) k (tbs 15) (bodyOf Try.f15) [1, 1, 1, 1, 1, 1, 0, 0] e T H (resK Try.prog Try.f15.results.toList)
theorem f15_J0_eq (k : Nat) (s0 s2 s4 s5 s6 s7 : Value) (H : AH) : f15_J0 k s0 s2 s4 s5 s6 s7 H =
(f15_L0 k s0 s2 s4 s5 s6 s7 k H).bind fun p => f15_A0 k p.1 p.2.1 p.2.2 := by kernel_rfl
theorem f15_L0_succ (k : Nat) (s0 s2 s4 s5 s6 s7 : Value) (n : Nat) (H : AH) : f15_L0 k s0 s2 s4 s5 s6 s7 (n + 1) H =
(ld Try.prog 9 H s5).bind fun v16 =>
(bin Try.prog .neq 9 v16 (.string ⟨#[]⟩)).bind fun v17 =>
aIf v17
 ((ld Try.prog 80 H s6).bind fun v18 =>
 b2 (callV (rn k) v18 [(.int .i64 1)] H) fun v19 h19 =>
 (fldA Try.prog 25 s4 1).bind fun v20 =>
 (ld Try.prog 22 h19 v20).bind fun v21 =>
 (ld Try.prog 80 h19 s6).bind fun v22 =>
 (ix Try.prog 9 v19 (.int .i64 0)).bind fun v23 =>
 (cv Try.prog 5 3 v23).bind fun v24 =>
 b2 (callV (rn k) v22 [v24] h19) fun v25 h25 =>
 aChk (ld Try.prog 22 h25 v20 = some v21) <|
 b2 (buildS Try.prog 22 h25 1 [(0, v25)]) fun v26 h26 =>
 b2 (ap Try.prog 22 22 h26 v21 v26) fun v27 h27 =>
 (fldA Try.prog 25 s4 1).bind fun v28 =>
 (st Try.prog 22 h27 v28 v27).bind fun h29 =>
 b2 (callV (rn k) s7 [] h29) fun v30 h30 =>
 f15_L0 k s0 s2 s4 s5 s6 s7 n h30)
 (some ((.exit 0), (f15_X_L0 s0 s2 s4), H)) := by kernel_rfl
theorem f15_A0_x0 (k : Nat) (s0 s2 s4 : Value) (H : AH) : f15_A0 k (.exit 0) (f15_X_L0 s0 s2 s4) H =
(ld Try.prog 25 H s4).bind fun v31 =>
b2 (rn k 12 [v31] H) fun v32 h32 =>
(ext v32 0).bind fun v33 =>
(ext v32 1).bind fun v34 =>
(bin Try.prog .neq 28 v34 (.int .i64 0)).bind fun v35 =>
b2 (gOp v35 false (some (v33, h32)) h32) fun v36 h36 =>
b2 (gOp v35 false (some (s0, h36)) h36) fun v37 h37 =>
b2 (gOp v35 false ((bin Try.prog .neq 9 v36 v37).bind fun v => some (v, h37)) h37) fun v38 h38 =>
(pickV v35 (.bool true) v38).bind fun v39 =>
aIf v39
 ((build Try.prog 25 []).bind fun v40 =>
 (st Try.prog 25 h38 s2 v40).bind fun h41 =>
 ((ld Try.prog 25 h41 s2).bind fun v42 => some (v42 :: ((.int .i64 2) :: []))).bind fun vs => some (oneOf vs, h41))
 ((ld Try.prog 25 h38 s4).bind fun v43 =>
 (st Try.prog 25 h38 s2 v43).bind fun h44 =>
 ((ld Try.prog 25 h44 s2).bind fun v45 => some (v45 :: ((.int .i64 0) :: []))).bind fun vs => some (oneOf vs, h44)) := by kernel_rfl
theorem f15_eq (k : Nat) (a0 : Value) (H : AH) : rn (k + 1) 15 [a0] H =
b2 (newV Try.prog 25 H) fun v1 h1 =>
b2 (newV Try.prog 25 h1) fun v2 h2 =>
b2 (newV Try.prog 9 h2) fun v3 h3 =>
(st Try.prog 9 h3 v3 a0).bind fun h4 =>
b2 (newV Try.prog 80 h4) fun v5 h5 =>
(st Try.prog 80 h5 v5 (.func (.func 40) #[] #[v3])).bind fun h6 =>
(ld Try.prog 80 h6 v5).bind fun v7 =>
b2 (callV (rn k) v7 [(.int .i64 1)] h6) fun v8 h8 =>
(bin Try.prog .eql 9 v8 (.string ⟨#[1]⟩)).bind fun v9 =>
(fldA Try.prog 25 v2 0).bind fun v10 =>
(st Try.prog 4 h8 v10 v9).bind fun h11 =>
(fldA Try.prog 25 v2 0).bind fun v12 =>
(ld Try.prog 4 h11 v12).bind fun v13 =>
(un Try.prog .not v13).bind fun v14 =>
aIf v14
 (b2 (rn k 41 [v5, v2] h11) fun v15 h15 =>
 f15_J0 k a0 v1 v2 v3 v5 (.func (.func 41) #[] #[v5, v2]) h15)
 (f15_J0 k a0 v1 v2 v3 v5 (.func (.func 41) #[] #[v5, v2]) h11) := by kernel_rfl
theorem f17_eq (k : Nat) (a0 a1 : Value) (H : AH) : rn (k + 1) 17 [a0, a1] H =
b2 (box 25 H a0) fun v1 h1 =>
b2 (box 33 h1 a1) fun v2 h2 =>
(fldA Try.prog 25 v1 0).bind fun v3 =>
(ld Try.prog 4 h2 v3).bind fun v4 =>
(fldA Try.prog 25 v1 1).bind fun v5 =>
(ld Try.prog 22 h2 v5).bind fun v6 =>
(fldA Try.prog 25 v1 2).bind fun v7 =>
(ld Try.prog 23 h2 v7).bind fun v8 =>
(build Try.prog 33 [(0, v4), (1, v6), (2, v8)]).bind fun v9 =>
(ld Try.prog 33 h2 v2).bind fun v10 =>
b2 (rn k 42 [v9, v10] h2) fun v11 h11 =>
some (v11, h11) := by kernel_rfl
abbrev f18_T_J0 (s1 s3 : Value) : List Value := [unk, s1, unk, s3, unk, unk, unk, unk, unk, unk, unk, unk, unk, unk, unk, unk, unk, unk, unk, unk, unk, unk, unk, unk, unk, unk, unk, unk, unk, unk, unk, unk, unk, unk, unk, unk, unk, unk, unk, unk, unk, unk, unk, unk, unk, unk, unk, unk, unk, unk, unk, unk, unk, unk]
abbrev f18_T_L0 (s1 s4 s34 s35 s36 : Value) : List Value := [unk, s1, unk, unk, s4, unk, unk, unk, unk, unk, unk, unk, unk, unk, unk, unk, unk, unk, unk, unk, unk, unk, unk, unk, unk, unk, unk, unk, unk, unk, unk, unk, unk, unk, s34, s35, s36, unk, unk, unk, unk, unk, unk, unk, unk, unk, unk, unk, unk, unk, unk, unk, unk, unk]
abbrev f18_X_L0 (s1 s2 : Value) : List Value := [unk, s1, s2, unk, unk, unk, unk, unk, unk, unk, unk, unk, unk, unk, unk, unk, unk, unk, unk, unk, unk, unk, unk, unk, unk, unk, unk, unk, unk, unk, unk, unk, unk, unk, unk, unk, unk, unk, unk, unk, unk, unk, unk, unk, unk, unk, unk, unk, unk, unk, unk, unk, unk, unk]
@[irreducible] def f18_J0 (k : Nat) (s1 s3 : Value) (H : AH) : Option (Value × AH) := resume Try.prog (rn k) k (tbs 18) (bodyOf Try.f18) [1, 1, 0] .normal (f18_T_J0 s1 s3) H (resK Try.prog Try.f18.results.toList)
@[irreducible] def f18_L0 (k : Nat) (s1 s4 s34 s35 s36 : Value) (n : Nat) (H : AH) : Option Out := iterD (fun T H K => evalK Try.prog (rn k) k (tbs 18) (codeAt (bodyOf Try.f18) [1, 1, 1, 1, 1, 0, 1, 0, 0]) T H K) (cutT (tbs 18) 25) (cutT (tbs 18) 26) n (f18_T_L0 s1 s4 s34 s35 s36) H
@[irreducible] def f18_A0 (k : Nat) (e : EX) (T : List Value) (H : AH) : Option (Value × AH) := resume Try.prog (rn k) k (tbs 18) (bodyOf Try.f18) [1, 1, 1, 1, 1, 0, 1, 0] e T H (resK Try.prog Try.f18.results.toList)
theorem f18_J0_eq (k : Nat) (s1 s3 : Value) (H : AH) : f18_J0 k s1 s3 H =
(fldA Try.prog 25 s1 2).bind fun v9 =>
(ld Try.prog 23 H v9).bind fun v10 =>
(lenV Try.prog 23 v10).bind fun v11 =>
(bin Try.prog .neq 3 v11 s3).bind fun v12 =>
b2 (gOp v12 false ((fldA Try.prog 25 s1 0).bind fun v => some (v, H)) H) fun v13 h13 =>
b2 (gOp v12 false ((ld Try.prog 4 h13 v13).bind fun v => some (v, h13)) h13) fun v14 h14 =>
b2 (gOp v12 false (some (v14, h14)) h14) fun v15 h15 =>
b2 (gOp v15 true (some (s3, h15)) h15) fun v16 h16 =>
b2 (gOp v15 true ((bin Try.prog .eql 3 v16 (.int .i64 0)).bind fun v => some (v, h16)) h16) fun v17 h17 =>
b2 (gOp v12 false ((pickV v15 v17 (.bool false)).bind fun v => some (v, h17)) h17) fun v18 h18 =>
(pickV v12 (.bool true) v18).bind fun v19 =>
b2 (gOp v19 false ((ld Try.prog 25 h18 s1).bind fun v => some (v, h18)) h18) fun v20 h20 =>
b2 (gOp v19 false (b2 (rn k 20 [v20] h20) fun v h => some (v, h)) h20) fun v21 h21 =>
b2 (gOp v19 false ((bin Try.prog .gtr 3 v21 (.int .i64 120)).bind fun v => some (v, h21)) h21) fun v22 h22 =>
(pickV v19 (.bool true) v22).bind fun v23 =>
aIf v23
 (some ((.bool false), h22))
 ((fldA Try.prog 25 s1 1).bind fun v24 =>
 (ld Try.prog 22 h22 v24).bind fun v25 =>
 (lenV Try.prog 22 v25).bind fun v26 =>
 (f18_L0 k s1 (.string ⟨#[]⟩) v25 v26 (.int .i64 0) k h22).bind fun p => f18_A0 k p.1 p.2.1 p.2.2) := by kernel_rfl
theorem f18_L0_succ (k : Nat) (s1 s4 s34 s35 s36 : Value) (n : Nat) (H : AH) : f18_L0 k s1 s4 s34 s35 s36 (n + 1) H =
(bin Try.prog .lss 3 s36 s35).bind fun v27 =>
aIf v27
 ((ixA Try.prog 22 s34 s36).bind fun v28 =>
 (ld Try.prog 9 H v28).bind fun v29 =>
 (bin Try.prog .leq 9 v29 s4).bind fun v30 =>
 b2 (gOp v30 false (some (v29, H)) H) fun v31 h31 =>
 b2 (gOp v30 false ((lenV Try.prog 9 v31).bind fun v => some (v, h31)) h31) fun v32 h32 =>
 b2 (gOp v30 false ((bin Try.prog .gtr 3 v32 (.int .i64 16)).bind fun v => some (v, h32)) h32) fun v33 h33 =>
 (pickV v30 (.bool true) v33).bind fun v34 =>
 aIf v34
  (some (.ret, (f18_X_L0 s1 (.bool false)), h33))
  ((bin Try.prog .add 3 s36 (.int .i64 1)).bind fun v35 =>
  f18_L0 k s1 v29 s34 s35 v35 n h33))
 (some ((.exit 0), (f18_X_L0 s1 unk), H)) := by kernel_rfl
theorem f18_A0_x0 (k : Nat) (s1 s2 : Value) (H : AH) : f18_A0 k (.exit 0) (f18_X_L0 s1 s2) H =
(fldA Try.prog 25 s1 2).bind fun v36 =>
(ld Try.prog 23 H v36).bind fun v37 =>
b2 (rn k 43 [v37, (.func (.func 44) #[] #[])] H) fun v38 h38 =>
(un Try.prog .not v38).bind fun v39 =>
some (v39, h38) := by kernel_rfl
theorem f18_A0_ret (k : Nat) (s1 s2 : Value) (H : AH) : f18_A0 k .ret (f18_X_L0 s1 s2) H =
some (s2, H) := by kernel_rfl
theorem f18_eq (k : Nat) (a0 : Value) (H : AH) : rn (k + 1) 18 [a0] H =
b2 (box 25 H a0) fun v1 h1 =>
(fldA Try.prog 25 v1 1).bind fun v2 =>
(ld Try.prog 22 h1 v2).bind fun v3 =>
(lenV Try.prog 22 v3).bind fun v4 =>
(fldA Try.prog 25 v1 0).bind fun v5 =>
(ld Try.prog 4 h1 v5).bind fun v6 =>
(un Try.prog .not v6).bind fun v7 =>
aIf v7
 ((bin Try.prog .add 3 v4 (.int .i64 1)).bind fun v8 =>
 f18_J0 k v1 v8 h1)
 (f18_J0 k v1 v4 h1) := by kernel_rfl
abbrev f20_T_L0 (s3 s12 s13 s14 : Value) : List Value := [unk, unk, unk, s3, unk, unk, unk, unk, unk, unk, unk, unk, s12, s13, s14, unk, unk, unk, unk, unk, unk, unk, unk, unk, unk]
abbrev f20_X_L0 (s3 : Value) : List Value := [unk, unk, unk, s3, unk, unk, unk, unk, unk, unk, unk, unk, unk, unk, unk, unk, unk, unk, unk, unk, unk, unk, unk, unk, unk]
@[irreducible] def f20_L0 (k : Nat) (s3 s12 s13 s14 : Value) (n : Nat) (H : AH) : Option Out := iterD (fun T H K => evalK Try.prog (rn k) k (tbs 20) (codeAt (bodyOf Try.f20) [1, 1, 0, 1, 0, 0]) T H K) (cutT (tbs 20) 10) (cutT (tbs 20) 11) n (f20_T_L0 s3 s12 s13 s14) H
@[irreducible] def f20_A0 (k : Nat) (e : EX) (T : List Value) (H : AH) : Option (Value × AH) := resume Try.prog (rn k) k (tbs 20) (bodyOf Try.f20) [1, 1, 0, 1, 0] e T H (resK Try.prog Try.f20.results.toList)
theorem f20_L0_succ (k : Nat) (s3 s12 s13 s14 : Value) (n : Nat) (H : AH) : f20_L0 k s3 s12 s13 s14 (n + 1) H =
(bin Try.prog .lss 3 s14 s13).bind fun v10 =>
aIf v10
 ((ixA Try.prog 22 s12 s14).bind fun v11 =>
 (ld Try.prog 9 H v11).bind fun v12 =>
 (lenV Try.prog 9 v12).bind fun v13 =>
 (bin Try.prog .add 3 (.int .i64 1) v13).bind fun v14 =>
 (bin Try.prog .add 3 s3 v14).bind fun v15 =>
 (bin Try.prog .add 3 s14 (.int .i64 1)).bind fun v16 =>
 f20_L0 k v15 s12 s13 v16 n H)
 (some ((.exit 0), (f20_X_L0 s3), H)) := by kernel_rfl
theorem f20_A0_x0 (k : Nat) (s3 : Value) (H : AH) : f20_A0 k (.exit 0) (f20_X_L0 s3) H =
some (s3, H) := by kernel_rfl
theorem f20_eq (k : Nat) (a0 : Value) (H : AH) : rn (k + 1) 20 [a0] H =
b2 (box 25 H a0) fun v1 h1 =>
(fldA Try.prog 25 v1 2).bind fun v2 =>
(ld Try.prog 23 h1 v2).bind fun v3 =>
(lenV Try.prog 23 v3).bind fun v4 =>
(bin Try.prog .mul 3 (.int .i64 2) v4).bind fun v5 =>
(bin Try.prog .add 3 (.int .i64 1) v5).bind fun v6 =>
(fldA Try.prog 25 v1 1).bind fun v7 =>
(ld Try.prog 22 h1 v7).bind fun v8 =>
(lenV Try.prog 22 v8).bind fun v9 =>
(f20_L0 k v6 v8 v9 (.int .i64 0) k h1).bind fun p => f20_A0 k p.1 p.2.1 p.2.2 := by kernel_rfl
abbrev f21_T_L0 (s1 s3 s4 : Value) : List Value := [unk, s1, unk, s3, s4, unk, unk, unk, unk, unk, unk, unk, unk, unk, unk, unk, unk, unk, unk, unk, unk, unk, unk, unk, unk, unk, unk]
abbrev f21_X_L0 (s3 : Value) : List Value := [unk, unk, unk, s3, unk, unk, unk, unk, unk, unk, unk, unk, unk, unk, unk, unk, unk, unk, unk, unk, unk, unk, unk, unk, unk, unk, unk]
@[irreducible] def f21_L0 (k : Nat) (s1 s3 s4 : Value) (n : Nat) (H : AH) : Option Out := iterD (fun T H K => evalK Try.prog (rn k) k (tbs 21) (codeAt (bodyOf Try.f21) [1, 1, 0, 1, 0, 0]) T H K) (cutT (tbs 21) 10) (cutT (tbs 21) 11) n (f21_T_L0 s1 s3 s4) H
@[irreducible] def f21_A0 (k : Nat) (e : EX) (T : List Value) (H : AH) : Option (Value × AH) := resume Try.prog (rn k) k (tbs 21) (bodyOf Try.f21) [1, 1, 0, 1, 0] e T H (resK Try.prog Try.f21.results.toList)
theorem f21_L0_succ (k : Nat) (s1 s3 s4 : Value) (n : Nat) (H : AH) : f21_L0 k s1 s3 s4 (n + 1) H =
(fldA Try.prog 33 s1 1).bind fun v7 =>
(ld Try.prog 22 H v7).bind fun v8 =>
(lenV Try.prog 22 v8).bind fun v9 =>
(bin Try.prog .lss 3 s4 v9).bind fun v10 =>
aIf v10
 ((bin Try.prog .add 3 s3 (.int .i64 1)).bind fun v11 =>
 (fldA Try.prog 33 s1 1).bind fun v12 =>
 (ld Try.prog 22 H v12).bind fun v13 =>
 (ixA Try.prog 22 v13 s4).bind fun v14 =>
 (ld Try.prog 9 H v14).bind fun v15 =>
 (lenV Try.prog 9 v15).bind fun v16 =>
 (bin Try.prog .add 3 v11 v16).bind fun v17 =>
 (bin Try.prog .add 3 s4 (.int .i64 1)).bind fun v18 =>
 f21_L0 k s1 v17 v18 n H)
 (some ((.exit 0), (f21_X_L0 s3), H)) := by kernel_rfl
theorem f21_A0_x0 (k : Nat) (s3 : Value) (H : AH) : f21_A0 k (.exit 0) (f21_X_L0 s3) H =
some (s3, H) := by kernel_rfl
theorem f21_eq (k : Nat) (a0 : Value) (H : AH) : rn (k + 1) 21 [a0] H =
b2 (box 33 H a0) fun v1 h1 =>
(fldA Try.prog 33 v1 2).bind fun v2 =>
(ld Try.prog 23 h1 v2).bind fun v3 =>
(lenV Try.prog 23 v3).bind fun v4 =>
(bin Try.prog .mul 3 (.int .i64 2) v4).bind fun v5 =>
(bin Try.prog .add 3 (.int .i64 1) v5).bind fun v6 =>
(f21_L0 k v1 v6 (.int .i64 0) k h1).bind fun p => f21_A0 k p.1 p.2.1 p.2.2 := by kernel_rfl
theorem f23_eq (k : Nat) (a0 a1 : Value) (H : AH) : rn (k + 1) 23 [a0, a1] H =
b2 (box 25 H a0) fun v1 h1 =>
(ld Try.prog 25 h1 v1).bind fun v2 =>
b2 (rn k 45 [v2, a1] h1) fun v3 h3 =>
(ext v3 0).bind fun v4 =>
(ext v3 1).bind fun v5 =>
(fldA Try.prog 25 v1 0).bind fun v6 =>
(ld Try.prog 4 h3 v6).bind fun v7 =>
b2 (gOp v7 true (some (v5, h3)) h3) fun v8 h8 =>
b2 (gOp v7 true ((un Try.prog .not v8).bind fun v => some (v, h8)) h8) fun v9 h9 =>
(pickV v7 v9 (.bool false)).bind fun v10 =>
aIf v10
 (some ((.int .i64 (-1)), h9))
 ((fldA Try.prog 25 v1 0).bind fun v11 =>
 (ld Try.prog 4 h9 v11).bind fun v12 =>
 (un Try.prog .not v12).bind fun v13 =>
 b2 (gOp v13 true (some (v5, h9)) h9) fun v14 h14 =>
 (pickV v13 v14 (.bool false)).bind fun v15 =>
 aIf v15
  ((bin Try.prog .add 3 v4 (.int .i64 1)).bind fun v16 =>
  some (v16, h14))
  (some (v4, h14))) := by kernel_rfl
abbrev f26_T_L0 (s1 s3 : Value) : List Value := [unk, s1, unk, s3, unk, unk, unk, unk, unk, unk, unk, unk, unk, unk, unk, unk, unk, unk, unk, unk, unk, unk, unk, unk, unk, unk, unk, unk, unk, unk, unk, unk, unk, unk, unk, unk, unk, unk, unk, unk, unk, unk, unk, unk, unk, unk, unk, unk, unk, unk, unk, unk, unk, unk, unk, unk, unk, unk, unk, unk, unk, unk, unk, unk, unk, unk, unk, unk, unk, unk, unk, unk, unk, unk, unk, unk, unk, unk, unk, unk, unk, unk, unk, unk, unk, unk, unk]
abbrev f26_X_L0 (s1 s2 : Value) : List Value := [unk, s1, s2, unk, unk, unk, unk, unk, unk, unk, unk, unk, unk, unk, unk, unk, unk, unk, unk, unk, unk, unk, unk, unk, unk, unk, unk, unk, unk, unk, unk, unk, unk, unk, unk, unk, unk, unk, unk, unk, unk, unk, unk, unk, unk, unk, unk, unk, unk, unk, unk, unk, unk, unk, unk, unk, unk, unk, unk, unk, unk, unk, unk, unk, unk, unk, unk, unk, unk, unk, unk, unk, unk, unk, unk, unk, unk, unk, unk, unk, unk, unk, unk, unk, unk, unk, unk]
abbrev f26_T_L1 (s1 s5 : Value) : List Value := [unk, s1, unk, unk, unk, s5, unk, unk, unk, unk, unk, unk, unk, unk, unk, unk, unk, unk, unk, unk, unk, unk, unk, unk, unk, unk, unk, unk, unk, unk, unk, unk, unk, unk, unk, unk, unk, unk, unk, unk, unk, unk, unk, unk, unk, unk, unk, unk, unk, unk, unk, unk, unk, unk, unk, unk, unk, unk, unk, unk, unk, unk, unk, unk, unk, unk, unk, unk, unk, unk, unk, unk, unk, unk, unk, unk, unk, unk, unk, unk, unk, unk, unk, unk, unk, unk, unk]
abbrev f26_X_L1 (s2 : Value) : List Value := [unk, unk, s2, unk, unk, unk, unk, unk, unk, unk, unk, unk, unk, unk, unk, unk, unk, unk, unk, unk, unk, unk, unk, unk, unk, unk, unk, unk, unk, unk, unk, unk, unk, unk, unk, unk, unk, unk, unk, unk, unk, unk, unk, unk, unk, unk, unk, unk, unk, unk, unk, unk, unk, unk, unk, unk, unk, unk, unk, unk, unk, unk, unk, unk, unk, unk, unk, unk, unk, unk, unk, unk, unk, unk, unk, unk, unk, unk, unk, unk, unk, unk, unk, unk, unk, unk, unk]
@[irreducible] def f26_L0 (k : Nat) (s1 s3 : Value) (n : Nat) (H : AH) : Option Out := iterD (fun T H K => evalK Try.prog (rn k) k (tbs 26) (codeAt (bodyOf Try.f26) [1, 1, 0, 1, 0, 0]) T H K) (cutT (tbs 26) 13) (cutT (tbs 26) 14) n (f26_T_L0 s1 s3) H
@[irreducible] def f26_A0 (k : Nat) (e : EX) (T : List Value) (H : AH) : Option (Value × AH) := resume Try.prog (rn k) k (tbs 26) (bodyOf Try.f26) [1, 1, 0, 1, 0] e T H (resK Try.prog Try.f26.results.toList)
@[irreducible] def f26_L1 (k : Nat) (s1 s5 : Value) (n : Nat) (H : AH) : Option Out := iterD (fun T H K => evalK Try.prog (rn k) k (tbs 26) (codeAt (bodyOf Try.f26) [1, 1, 1, 0, 1, 0, 0]) T H K) (cutT (tbs 26) 31) (cutT (tbs 26) 32) n (f26_T_L1 s1 s5) H
@[irreducible] def f26_A1 (k : Nat) (e : EX) (T : List Value) (H : AH) : Option (Value × AH) := resume Try.prog (rn k) k (tbs 26) (bodyOf Try.f26) [1, 1, 1, 0, 1, 0] e T H (resK Try.prog Try.f26.results.toList)
theorem f26_L0_succ (k : Nat) (s1 s3 : Value) (n : Nat) (H : AH) : f26_L0 k s1 s3 (n + 1) H =
(fldA Try.prog 33 s1 1).bind fun v26 =>
(ld Try.prog 22 H v26).bind fun v27 =>
(lenV Try.prog 22 v27).bind fun v28 =>
(bin Try.prog .lss 3 s3 v28).bind fun v29 =>
aIf v29
 ((fldA Try.prog 33 s1 1).bind fun v30 =>
 (ld Try.prog 22 H v30).bind fun v31 =>
 (ixA Try.prog 22 v31 s3).bind fun v32 =>
 (ld Try.prog 9 H v32).bind fun v33 =>
 (lenV Try.prog 9 v33).bind fun v34 =>
 (bin Try.prog .lss 3 v34 (.int .i64 1)).bind fun v35 =>
 b2 (gOp v35 false (some (v33, H)) H) fun v36 h36 =>
 b2 (gOp v35 false ((lenV Try.prog 9 v36).bind fun v => some (v, h36)) h36) fun v37 h37 =>
 b2 (gOp v35 false ((bin Try.prog .gtr 3 v37 (.int .i64 16)).bind fun v => some (v, h37)) h37) fun v38 h38 =>
 (pickV v35 (.bool true) v38).bind fun v39 =>
 b2 (gOp v39 false (some (s3, h38)) h38) fun v40 h40 =>
 b2 (gOp v39 false ((bin Try.prog .gtr 3 v40 (.int .i64 0)).bind fun v => some (v, h40)) h40) fun v41 h41 =>
 b2 (gOp v39 false (some (v41, h41)) h41) fun v42 h42 =>
 b2 (gOp v42 true ((fldA Try.prog 33 s1 1).bind fun v => some (v, h42)) h42) fun v43 h43 =>
 b2 (gOp v42 true ((ld Try.prog 22 h43 v43).bind fun v => some (v, h43)) h43) fun v44 h44 =>
 b2 (gOp v42 true (some (s3, h44)) h44) fun v45 h45 =>
 b2 (gOp v42 true ((bin Try.prog .sub 3 v45 (.int .i64 1)).bind fun v => some (v, h45)) h45) fun v46 h46 =>
 b2 (gOp v42 true ((ixA Try.prog 22 v44 v46).bind fun v => some (v, h46)) h46) fun v47 h47 =>
 b2 (gOp v42 true ((ld Try.prog 9 h47 v47).bind fun v => some (v, h47)) h47) fun v48 h48 =>
 b2 (gOp v42 true (some (v33, h48)) h48) fun v49 h49 =>
 b2 (gOp v42 true ((bin Try.prog .geq 9 v48 v49).bind fun v => some (v, h49)) h49) fun v50 h50 =>
 b2 (gOp v39 false ((pickV v42 v50 (.bool false)).bind fun v => some (v, h50)) h50) fun v51 h51 =>
 (pickV v39 (.bool true) v51).bind fun v52 =>
 aIf v52
  (some (.ret, (f26_X_L0 s1 (.bool false)), h51))
  ((bin Try.prog .add 3 s3 (.int .i64 1)).bind fun v53 =>
  f26_L0 k s1 v53 n h51))
 (some ((.exit 0), (f26_X_L0 s1 unk), H)) := by kernel_rfl
theorem f26_A0_x0 (k : Nat) (s1 s2 : Value) (H : AH) : f26_A0 k (.exit 0) (f26_X_L0 s1 s2) H =
(f26_L1 k s1 (.int .i64 0) k H).bind fun p => f26_A1 k p.1 p.2.1 p.2.2 := by kernel_rfl
theorem f26_A0_ret (k : Nat) (s1 s2 : Value) (H : AH) : f26_A0 k .ret (f26_X_L0 s1 s2) H =
some (s2, H) := by kernel_rfl
theorem f26_L1_succ (k : Nat) (s1 s5 : Value) (n : Nat) (H : AH) : f26_L1 k s1 s5 (n + 1) H =
(fldA Try.prog 33 s1 2).bind fun v54 =>
(ld Try.prog 23 H v54).bind fun v55 =>
(lenV Try.prog 23 v55).bind fun v56 =>
(bin Try.prog .lss 3 s5 v56).bind fun v57 =>
aIf v57
 ((fldA Try.prog 33 s1 2).bind fun v58 =>
 (ld Try.prog 23 H v58).bind fun v59 =>
 (ixA Try.prog 23 v59 s5).bind fun v60 =>
 (ld Try.prog 3 H v60).bind fun v61 =>
 (bin Try.prog .lss 3 v61 (.int .i64 2)).bind fun v62 =>
 b2 (gOp v62 false ((fldA Try.prog 33 s1 2).bind fun v => some (v, H)) H) fun v63 h63 =>
 b2 (gOp v62 false ((ld Try.prog 23 h63 v63).bind fun v => some (v, h63)) h63) fun v64 h64 =>
 b2 (gOp v62 false (some (s5, h64)) h64) fun v65 h65 =>
 b2 (gOp v62 false ((ixA Try.prog 23 v64 v65).bind fun v => some (v, h65)) h65) fun v66 h66 =>
 b2 (gOp v62 false ((ld Try.prog 3 h66 v66).bind fun v => some (v, h66)) h66) fun v67 h67 =>
 b2 (gOp v62 false ((bin Try.prog .gtr 3 v67 (.int .i64 511)).bind fun v => some (v, h67)) h67) fun v68 h68 =>
 (pickV v62 (.bool true) v68).bind fun v69 =>
 aIf v69
  (some (.ret, (f26_X_L1 (.bool false)), h68))
  ((bin Try.prog .add 3 s5 (.int .i64 1)).bind fun v70 =>
  f26_L1 k s1 v70 n h68))
 (some ((.exit 2), (f26_X_L1 unk), H)) := by kernel_rfl
theorem f26_A1_x2 (k : Nat) (s2 : Value) (H : AH) : f26_A1 k (.exit 2) (f26_X_L1 s2) H =
some ((.bool true), H) := by kernel_rfl
theorem f26_A1_ret (k : Nat) (s2 : Value) (H : AH) : f26_A1 k .ret (f26_X_L1 s2) H =
some (s2, H) := by kernel_rfl
theorem f26_eq (k : Nat) (a0 : Value) (H : AH) : rn (k + 1) 26 [a0] H =
b2 (box 33 H a0) fun v1 h1 =>
(fldA Try.prog 33 v1 0).bind fun v2 =>
(ld Try.prog 4 h1 v2).bind fun v3 =>
b2 (gOp v3 true ((fldA Try.prog 33 v1 2).bind fun v => some (v, h1)) h1) fun v4 h4 =>
b2 (gOp v3 true ((ld Try.prog 23 h4 v4).bind fun v => some (v, h4)) h4) fun v5 h5 =>
b2 (gOp v3 true ((lenV Try.prog 23 v5).bind fun v => some (v, h5)) h5) fun v6 h6 =>
b2 (gOp v3 true ((fldA Try.prog 33 v1 1).bind fun v => some (v, h6)) h6) fun v7 h7 =>
b2 (gOp v3 true ((ld Try.prog 22 h7 v7).bind fun v => some (v, h7)) h7) fun v8 h8 =>
b2 (gOp v3 true ((lenV Try.prog 22 v8).bind fun v => some (v, h8)) h8) fun v9 h9 =>
b2 (gOp v3 true ((bin Try.prog .neq 3 v6 v9).bind fun v => some (v, h9)) h9) fun v10 h10 =>
(pickV v3 v10 (.bool false)).bind fun v11 =>
b2 (gOp v11 false ((fldA Try.prog 33 v1 0).bind fun v => some (v, h10)) h10) fun v12 h12 =>
b2 (gOp v11 false ((ld Try.prog 4 h12 v12).bind fun v => some (v, h12)) h12) fun v13 h13 =>
b2 (gOp v11 false ((un Try.prog .not v13).bind fun v => some (v, h13)) h13) fun v14 h14 =>
b2 (gOp v11 false (some (v14, h14)) h14) fun v15 h15 =>
b2 (gOp v15 true ((fldA Try.prog 33 v1 2).bind fun v => some (v, h15)) h15) fun v16 h16 =>
b2 (gOp v15 true ((ld Try.prog 23 h16 v16).bind fun v => some (v, h16)) h16) fun v17 h17 =>
b2 (gOp v15 true ((lenV Try.prog 23 v17).bind fun v => some (v, h17)) h17) fun v18 h18 =>
b2 (gOp v15 true ((fldA Try.prog 33 v1 1).bind fun v => some (v, h18)) h18) fun v19 h19 =>
b2 (gOp v15 true ((ld Try.prog 22 h19 v19).bind fun v => some (v, h19)) h19) fun v20 h20 =>
b2 (gOp v15 true ((lenV Try.prog 22 v20).bind fun v => some (v, h20)) h20) fun v21 h21 =>
b2 (gOp v15 true ((bin Try.prog .add 3 v21 (.int .i64 1)).bind fun v => some (v, h21)) h21) fun v22 h22 =>
b2 (gOp v15 true ((bin Try.prog .neq 3 v18 v22).bind fun v => some (v, h22)) h22) fun v23 h23 =>
b2 (gOp v11 false ((pickV v15 v23 (.bool false)).bind fun v => some (v, h23)) h23) fun v24 h24 =>
(pickV v11 (.bool true) v24).bind fun v25 =>
aIf v25
 (some ((.bool false), h24))
 ((f26_L0 k v1 (.int .i64 0) k h24).bind fun p => f26_A0 k p.1 p.2.1 p.2.2) := by kernel_rfl
abbrev f30_T_J0 (s1 s2 s4 s6 s7 : Value) : List Value := [unk, s1, s2, unk, s4, unk, s6, s7, unk, unk, unk, unk, unk, unk, unk, unk, unk, unk, unk, unk, unk, unk, unk, unk, unk, unk, unk, unk, unk, unk, unk, unk, unk, unk, unk, unk, unk, unk, unk, unk, unk, unk, unk, unk, unk, unk, unk, unk, unk, unk, unk, unk, unk, unk, unk, unk, unk, unk, unk, unk, unk, unk, unk, unk, unk, unk, unk, unk]
@[irreducible] def f30_J0 (k : Nat) (s1 s2 s4 s6 s7 : Value) (H : AH) : Option (Value × AH) := resume Try.prog (rn k) k (tbs 30) (bodyOf Try.f30) [1, 1, 1, 1, 0] .normal (f30_T_J0 s1 s2 s4 s6 s7) H (resK Try.prog Try.f30.results.toList)
theorem f30_J0_eq (k : Nat) (s1 s2 s4 s6 s7 : Value) (H : AH) : f30_J0 k s1 s2 s4 s6 s7 H =
(bin Try.prog .add 3 s6 s7).bind fun v21 =>
(fldA Try.prog 25 s1 2).bind fun v22 =>
(ld Try.prog 23 H v22).bind fun v23 =>
(lenV Try.prog 23 v23).bind fun v24 =>
(fold1 minV [v21, v24]).bind fun v25 =>
(fldA Try.prog 25 s1 0).bind fun v26 =>
(ld Try.prog 4 H v26).bind fun v27 =>
(fldA Try.prog 25 s1 1).bind fun v28 =>
(ld Try.prog 22 H v28).bind fun v29 =>
(slc Try.prog 22 v29 none (some s6)).bind fun v30 =>
b2 (rn k 46 [v30, s6, s6, (.slice none 0 0)] H) fun v31 h31 =>
aChk (ld Try.prog 4 h31 v26 = some v27) <|
(fldA Try.prog 25 s1 2).bind fun v32 =>
(ld Try.prog 23 h31 v32).bind fun v33 =>
aChk (ld Try.prog 23 H v32 = some v33) <|
(slc Try.prog 23 v33 none (some v25)).bind fun v34 =>
b2 (rn k 47 [v34, v25, v25, (.slice none 0 0)] h31) fun v35 h35 =>
aChk (ld Try.prog 4 h35 v26 = some v27) <|
(build Try.prog 25 [(0, v27), (1, v31), (2, v35)]).bind fun v36 =>
(st Try.prog 25 h35 s2 v36).bind fun h37 =>
(fldA Try.prog 25 s1 0).bind fun v38 =>
(ld Try.prog 4 h37 v38).bind fun v39 =>
(fldA Try.prog 25 s1 1).bind fun v40 =>
(ld Try.prog 22 h37 v40).bind fun v41 =>
(bin Try.prog .add 3 s6 s7).bind fun v42 =>
(slc Try.prog 22 v41 (some v42) none).bind fun v43 =>
b2 (rn k 46 [v43, (.int .i64 0), (.int .i64 0), (.slice none 0 0)] h37) fun v44 h44 =>
aChk (ld Try.prog 4 h44 v38 = some v39) <|
(fldA Try.prog 25 s1 2).bind fun v45 =>
(ld Try.prog 23 h44 v45).bind fun v46 =>
aChk (ld Try.prog 23 h37 v45 = some v46) <|
(slc Try.prog 23 v46 (some v25) none).bind fun v47 =>
b2 (rn k 47 [v47, (.int .i64 0), (.int .i64 0), (.slice none 0 0)] h44) fun v48 h48 =>
aChk (ld Try.prog 4 h48 v38 = some v39) <|
(build Try.prog 25 [(0, v39), (1, v44), (2, v48)]).bind fun v49 =>
(st Try.prog 25 h48 s4 v49).bind fun h50 =>
(ld Try.prog 25 h50 s2).bind fun v51 =>
(fldA Try.prog 25 s1 1).bind fun v52 =>
(ld Try.prog 22 h50 v52).bind fun v53 =>
(ixA Try.prog 22 v53 s6).bind fun v54 =>
(ld Try.prog 9 h50 v54).bind fun v55 =>
(ld Try.prog 25 h50 s4).bind fun v56 =>
(st Try.prog 25 h50 s2 v51).bind fun h57 =>
aChk (ld Try.prog 25 h57 s4 = some v56) <|
aChk (ld Try.prog 9 h57 v54 = some v55) <|
aChk (ld Try.prog 22 h57 v52 = some v53) <|
(st Try.prog 25 h57 s4 v56).bind fun h58 =>
((ld Try.prog 25 h58 s2).bind fun v59 => (((ld Try.prog 25 h58 s4).bind fun v60 => some (v60 :: ((.bool true) :: []))).bind fun vs => some (v55 :: vs)).bind fun vs => some (v59 :: vs)).bind fun vs => some (oneOf vs, h58) := by kernel_rfl
theorem f30_eq (k : Nat) (a0 : Value) (H : AH) : rn (k + 1) 30 [a0] H =
b2 (box 25 H a0) fun v1 h1 =>
b2 (newV Try.prog 25 h1) fun v2 h2 =>
b2 (newV Try.prog 25 h2) fun v3 h3 =>
(fldA Try.prog 25 v1 1).bind fun v4 =>
(ld Try.prog 22 h3 v4).bind fun v5 =>
(lenV Try.prog 22 v5).bind fun v6 =>
(bin Try.prog .lss 3 v6 (.int .i64 4)).bind fun v7 =>
aIf v7
 ((build Try.prog 25 []).bind fun v8 =>
 (build Try.prog 25 []).bind fun v9 =>
 (st Try.prog 25 h3 v2 v8).bind fun h10 =>
 (st Try.prog 25 h10 v3 v9).bind fun h11 =>
 ((ld Try.prog 25 h11 v2).bind fun v12 => (((ld Try.prog 25 h11 v3).bind fun v13 => some (v13 :: ((.bool false) :: []))).bind fun vs => some ((.string ⟨#[]⟩) :: vs)).bind fun vs => some (v12 :: vs)).bind fun vs => some (oneOf vs, h11))
 ((fldA Try.prog 25 v1 1).bind fun v14 =>
 (ld Try.prog 22 h3 v14).bind fun v15 =>
 (lenV Try.prog 22 v15).bind fun v16 =>
 (bin Try.prog .quo 3 v16 (.int .i64 2)).bind fun v17 =>
 (fldA Try.prog 25 v1 0).bind fun v18 =>
 (ld Try.prog 4 h3 v18).bind fun v19 =>
 (un Try.prog .not v19).bind fun v20 =>
 aIf v20
  (f30_J0 k v1 v2 v3 v17 (.int .i64 1) h3)
  (f30_J0 k v1 v2 v3 v17 (.int .i64 0) h3)) := by kernel_rfl
abbrev f31_T_J0 (s3 s5 s6 s8 : Value) : List Value := [unk, unk, unk, s3, unk, s5, s6, unk, s8, unk, unk, unk, unk, unk, unk, unk, unk, unk, unk, unk, unk, unk, unk, unk, unk, unk, unk, unk, unk, unk, unk, unk, unk, unk, unk, unk, unk, unk, unk, unk, unk, unk, unk, unk, unk, unk, unk, unk]
@[irreducible] def f31_J0 (k : Nat) (s3 s5 s6 s8 : Value) (H : AH) : Option (Value × AH) := resume Try.prog (rn k) k (tbs 31) (bodyOf Try.f31) [1, 1, 1, 0] .normal (f31_T_J0 s3 s5 s6 s8) H (resK Try.prog Try.f31.results.toList)
theorem f31_J0_eq (k : Nat) (s3 s5 s6 s8 : Value) (H : AH) : f31_J0 k s3 s5 s6 s8 H =
(fldA Try.prog 25 s3 0).bind fun v21 =>
(ld Try.prog 4 H v21).bind fun v22 =>
(fldA Try.prog 25 s5 1).bind fun v23 =>
(ld Try.prog 22 H v23).bind fun v24 =>
b2 (buildS Try.prog 92 H 2 [(0, s8), (1, v24)]) fun v25 h25 =>
b2 (rn k 48 [v25] h25) fun v26 h26 =>
aChk (ld Try.prog 4 h26 v21 = some v22) <|
(fldA Try.prog 25 s3 2).bind fun v27 =>
(ld Try.prog 23 h26 v27).bind fun v28 =>
aChk (ld Try.prog 23 h25 v27 = some v28) <|
(fldA Try.prog 25 s5 2).bind fun v29 =>
(ld Try.prog 23 h26 v29).bind fun v30 =>
aChk (ld Try.prog 23 h25 v29 = some v30) <|
b2 (buildS Try.prog 94 h26 2 [(0, v28), (1, v30)]) fun v31 h31 =>
b2 (rn k 49 [v31] h31) fun v32 h32 =>
aChk (ld Try.prog 4 h32 v21 = some v22) <|
(build Try.prog 25 [(0, v22), (1, v26), (2, v32)]).bind fun v33 =>
b2 (newV Try.prog 25 h32) fun v34 h34 =>
(st Try.prog 25 h34 v34 v33).bind fun h35 =>
(ld Try.prog 25 h35 v34).bind fun v36 =>
b2 (rn k 20 [v36] h35) fun v37 h37 =>
(bin Try.prog .gtr 3 v37 (.int .i64 120)).bind fun v38 =>
aIf v38
 ((build Try.prog 25 []).bind fun v39 =>
 (st Try.prog 25 h37 s6 v39).bind fun h40 =>
 ((ld Try.prog 25 h40 s6).bind fun v41 => some (v41 :: ((.bool false) :: []))).bind fun vs => some (oneOf vs, h40))
 ((ld Try.prog 25 h37 v34).bind fun v42 =>
 (st Try.prog 25 h37 s6 v42).bind fun h43 =>
 ((ld Try.prog 25 h43 s6).bind fun v44 => some (v44 :: ((.bool true) :: []))).bind fun vs => some (oneOf vs, h43)) := by kernel_rfl
theorem f31_eq (k : Nat) (a0 a1 a2 : Value) (H : AH) : rn (k + 1) 31 [a0, a1, a2] H =
b2 (box 25 H a0) fun v1 h1 =>
b2 (box 25 h1 a2) fun v2 h2 =>
b2 (newV Try.prog 25 h2) fun v3 h3 =>
(fldA Try.prog 25 v1 0).bind fun v4 =>
(ld Try.prog 4 h3 v4).bind fun v5 =>
(fldA Try.prog 25 v2 0).bind fun v6 =>
(ld Try.prog 4 h3 v6).bind fun v7 =>
(bin Try.prog .neq 4 v5 v7).bind fun v8 =>
aIf v8
 ((build Try.prog 25 []).bind fun v9 =>
 (st Try.prog 25 h3 v3 v9).bind fun h10 =>
 ((ld Try.prog 25 h10 v3).bind fun v11 => some (v11 :: ((.bool false) :: []))).bind fun vs => some (oneOf vs, h10))
 ((fldA Try.prog 25 v1 1).bind fun v12 =>
 (ld Try.prog 22 h3 v12).bind fun v13 =>
 (fldA Try.prog 25 v1 0).bind fun v14 =>
 (ld Try.prog 4 h3 v14).bind fun v15 =>
 (un Try.prog .not v15).bind fun v16 =>
 aIf v16
  ((lenV Try.prog 22 v13).bind fun v17 =>
  (lenV Try.prog 22 v13).bind fun v18 =>
  b2 (buildS Try.prog 22 h3 1 [(0, a1)]) fun v19 h19 =>
  b2 (rn k 46 [v13, v17, v18, v19] h19) fun v20 h20 =>
  f31_J0 k v1 v2 v3 v20 h20)
  (f31_J0 k v1 v2 v3 v13 h3)) := by kernel_rfl
end
end Go.AM.N
set_option linter.unusedVariables false
set_option maxRecDepth 100000
namespace Go.AM.N
open Go Go.AM Go.Proofs
noncomputable section
theorem f32_eq (k : Nat) (a0 : Value) (H : AH) : rn (k + 1) 32 [a0] H =
b2 (box 33 H a0) fun v1 h1 =>
b2 (newV Try.prog 33 h1) fun v2 h2 =>
b2 (newV Try.prog 33 h2) fun v3 h3 =>
(fldA Try.prog 33 v1 1).bind fun v4 =>
(ld Try.prog 22 h3 v4).bind fun v5 =>
(lenV Try.prog 22 v5).bind fun v6 =>
(bin Try.prog .lss 3 v6 (.int .i64 4)).bind fun v7 =>
aIf v7
 ((build Try.prog 33 []).bind fun v8 =>
 (build Try.prog 33 []).bind fun v9 =>
 (st Try.prog 33 h3 v2 v8).bind fun h10 =>
 (st Try.prog 33 h10 v3 v9).bind fun h11 =>
 ((ld Try.prog 33 h11 v2).bind fun v12 => (((ld Try.prog 33 h11 v3).bind fun v13 => some (v13 :: ((.bool false) :: []))).bind fun vs => some ((.string ⟨#[]⟩) :: vs)).bind fun vs => some (v12 :: vs)).bind fun vs => some (oneOf vs, h11))
 ((fldA Try.prog 33 v1 1).bind fun v14 =>
 (ld Try.prog 22 h3 v14).bind fun v15 =>
 (lenV Try.prog 22 v15).bind fun v16 =>
 (bin Try.prog .quo 3 v16 (.int .i64 2)).bind fun v17 =>
 (fldA Try.prog 33 v1 0).bind fun v18 =>
 (ld Try.prog 4 h3 v18).bind fun v19 =>
 (build Try.prog 33 [(0, v19)]).bind fun v20 =>
 b2 (newV Try.prog 33 h3) fun v21 h21 =>
 (st Try.prog 33 h21 v21 v20).bind fun h22 =>
 (fldA Try.prog 33 v1 0).bind fun v23 =>
 (ld Try.prog 4 h22 v23).bind fun v24 =>
 (build Try.prog 33 [(0, v24)]).bind fun v25 =>
 b2 (newV Try.prog 33 h22) fun v26 h26 =>
 (st Try.prog 33 h26 v26 v25).bind fun h27 =>
 (fldA Try.prog 33 v21 1).bind fun v28 =>
 (ld Try.prog 22 h27 v28).bind fun v29 =>
 (fldA Try.prog 33 v1 1).bind fun v30 =>
 (ld Try.prog 22 h27 v30).bind fun v31 =>
 (slc Try.prog 22 v31 none (some v17)).bind fun v32 =>
 b2 (ap Try.prog 22 22 h27 v29 v32) fun v33 h33 =>
 (fldA Try.prog 33 v21 1).bind fun v34 =>
 (st Try.prog 22 h33 v34 v33).bind fun h35 =>
 (fldA Try.prog 33 v1 0).bind fun v36 =>
 (ld Try.prog 4 h35 v36).bind fun v37 =>
 aIf v37
  ((fldA Try.prog 33 v21 2).bind fun v38 =>
  (ld Try.prog 23 h35 v38).bind fun v39 =>
  (fldA Try.prog 33 v1 2).bind fun v40 =>
  (ld Try.prog 23 h35 v40).bind fun v41 =>
  (slc Try.prog 23 v41 none (some v17)).bind fun v42 =>
  b2 (ap Try.prog 23 23 h35 v39 v42) fun v43 h43 =>
  (fldA Try.prog 33 v21 2).bind fun v44 =>
  (st Try.prog 23 h43 v44 v43).bind fun h45 =>
  (fldA Try.prog 33 v26 1).bind fun v46 =>
  (ld Try.prog 22 h45 v46).bind fun v47 =>
  (fldA Try.prog 33 v1 1).bind fun v48 =>
  (ld Try.prog 22 h45 v48).bind fun v49 =>
  (slc Try.prog 22 v49 (some v17) none).bind fun v50 =>
  b2 (ap Try.prog 22 22 h45 v47 v50) fun v51 h51 =>
  (fldA Try.prog 33 v26 1).bind fun v52 =>
  (st Try.prog 22 h51 v52 v51).bind fun h53 =>
  (fldA Try.prog 33 v26 2).bind fun v54 =>
  (ld Try.prog 23 h53 v54).bind fun v55 =>
  (fldA Try.prog 33 v1 2).bind fun v56 =>
  (ld Try.prog 23 h53 v56).bind fun v57 =>
  (slc Try.prog 23 v57 (some v17) none).bind fun v58 =>
  b2 (ap Try.prog 23 23 h53 v55 v58) fun v59 h59 =>
  (fldA Try.prog 33 v26 2).bind fun v60 =>
  (st Try.prog 23 h59 v60 v59).bind fun h61 =>
  (ld Try.prog 33 h61 v21).bind fun v62 =>
  (fldA Try.prog 33 v1 1).bind fun v63 =>
  (ld Try.prog 22 h61 v63).bind fun v64 =>
  (ixA Try.prog 22 v64 v17).bind fun v65 =>
  (ld Try.prog 9 h61 v65).bind fun v66 =>
  (ld Try.prog 33 h61 v26).bind fun v67 =>
  (st Try.prog 33 h61 v2 v62).bind fun h68 =>
  aChk (ld Try.prog 33 h68 v26 = some v67) <|
  aChk (ld Try.prog 9 h68 v65 = some v66) <|
  aChk (ld Try.prog 22 h68 v63 = some v64) <|
  (st Try.prog 33 h68 v3 v67).bind fun h69 =>
  ((ld Try.prog 33 h69 v2).bind fun v70 => (((ld Try.prog 33 h69 v3).bind fun v71 => some (v71 :: ((.bool true) :: []))).bind fun vs => some (v66 :: vs)).bind fun vs => some (v70 :: vs)).bind fun vs => some (oneOf vs, h69))
  ((fldA Try.prog 33 v21 2).bind fun v72 =>
  (ld Try.prog 23 h35 v72).bind fun v73 =>
  (fldA Try.prog 33 v1 2).bind fun v74 =>
  (ld Try.prog 23 h35 v74).bind fun v75 =>
  (bin Try.prog .add 3 v17 (.int .i64 1)).bind fun v76 =>
  (slc Try.prog 23 v75 none (some v76)).bind fun v77 =>
  b2 (ap Try.prog 23 23 h35 v73 v77) fun v78 h78 =>
  (fldA Try.prog 33 v21 2).bind fun v79 =>
  (st Try.prog 23 h78 v79 v78).bind fun h80 =>
  (fldA Try.prog 33 v26 1).bind fun v81 =>
  (ld Try.prog 22 h80 v81).bind fun v82 =>
  (fldA Try.prog 33 v1 1).bind fun v83 =>
  (ld Try.prog 22 h80 v83).bind fun v84 =>
  (bin Try.prog .add 3 v17 (.int .i64 1)).bind fun v85 =>
  (slc Try.prog 22 v84 (some v85) none).bind fun v86 =>
  b2 (ap Try.prog 22 22 h80 v82 v86) fun v87 h87 =>
  (fldA Try.prog 33 v26 1).bind fun v88 =>
  (st Try.prog 22 h87 v88 v87).bind fun h89 =>
  (fldA Try.prog 33 v26 2).bind fun v90 =>
  (ld Try.prog 23 h89 v90).bind fun v91 =>
  (fldA Try.prog 33 v1 2).bind fun v92 =>
  (ld Try.prog 23 h89 v92).bind fun v93 =>
  (bin Try.prog .add 3 v17 (.int .i64 1)).bind fun v94 =>
  (slc Try.prog 23 v93 (some v94) none).bind fun v95 =>
  b2 (ap Try.prog 23 23 h89 v91 v95) fun v96 h96 =>
  (fldA Try.prog 33 v26 2).bind fun v97 =>
  (st Try.prog 23 h96 v97 v96).bind fun h98 =>
  (ld Try.prog 33 h98 v21).bind fun v99 =>
  (fldA Try.prog 33 v1 1).bind fun v100 =>
  (ld Try.prog 22 h98 v100).bind fun v101 =>
  (ixA Try.prog 22 v101 v17).bind fun v102 =>
  (ld Try.prog 9 h98 v102).bind fun v103 =>
  (ld Try.prog 33 h98 v26).bind fun v104 =>
  (st Try.prog 33 h98 v2 v99).bind fun h105 =>
  aChk (ld Try.prog 33 h105 v26 = some v104) <|
  aChk (ld Try.prog 9 h105 v102 = some v103) <|
  aChk (ld Try.prog 22 h105 v100 = some v101) <|
  (st Try.prog 33 h105 v3 v104).bind fun h106 =>
  ((ld Try.prog 33 h106 v2).bind fun v107 => (((ld Try.prog 33 h106 v3).bind fun v108 => some (v108 :: ((.bool true) :: []))).bind fun vs => some (v103 :: vs)).bind fun vs => some (v107 :: vs)).bind fun vs => some (oneOf vs, h106))) := by kernel_rfl
abbrev f33_T_J0 (s3 s5 s6 s8 : Value) : List Value := [unk, unk, unk, s3, unk, s5, s6, unk, s8, unk, unk, unk, unk, unk, unk, unk, unk, unk, unk, unk, unk, unk, unk, unk, unk, unk, unk, unk, unk, unk, unk, unk, unk, unk, unk, unk, unk, unk, unk, unk, unk, unk, unk, unk, unk, unk, unk, unk, unk, unk, unk, unk, unk, unk, unk, unk]
@[irreducible] def f33_J0 (k : Nat) (s3 s5 s6 s8 : Value) (H : AH) : Option (Value × AH) := resume Try.prog (rn k) k (tbs 33) (bodyOf Try.f33) [1, 1, 1, 1, 0] .normal (f33_T_J0 s3 s5 s6 s8) H (resK Try.prog Try.f33.results.toList)
theorem f33_J0_eq (k : Nat) (s3 s5 s6 s8 : Value) (H : AH) : f33_J0 k s3 s5 s6 s8 H =
(fldA Try.prog 33 s8 1).bind fun v33 =>
(ld Try.prog 22 H v33).bind fun v34 =>
(fldA Try.prog 33 s5 1).bind fun v35 =>
(ld Try.prog 22 H v35).bind fun v36 =>
b2 (ap Try.prog 22 22 H v34 v36) fun v37 h37 =>
(fldA Try.prog 33 s8 1).bind fun v38 =>
(st Try.prog 22 h37 v38 v37).bind fun h39 =>
(fldA Try.prog 33 s8 2).bind fun v40 =>
(ld Try.prog 23 h39 v40).bind fun v41 =>
(fldA Try.prog 33 s3 2).bind fun v42 =>
(ld Try.prog 23 h39 v42).bind fun v43 =>
b2 (ap Try.prog 23 23 h39 v41 v43) fun v44 h44 =>
(fldA Try.prog 33 s8 2).bind fun v45 =>
(st Try.prog 23 h44 v45 v44).bind fun h46 =>
(fldA Try.prog 33 s8 2).bind fun v47 =>
(ld Try.prog 23 h46 v47).bind fun v48 =>
(fldA Try.prog 33 s5 2).bind fun v49 =>
(ld Try.prog 23 h46 v49).bind fun v50 =>
b2 (ap Try.prog 23 23 h46 v48 v50) fun v51 h51 =>
(fldA Try.prog 33 s8 2).bind fun v52 =>
(st Try.prog 23 h51 v52 v51).bind fun h53 =>
(ld Try.prog 33 h53 s8).bind fun v54 =>
b2 (rn k 21 [v54] h53) fun v55 h55 =>
(bin Try.prog .gtr 3 v55 (.int .i64 120)).bind fun v56 =>
aIf v56
 ((build Try.prog 33 []).bind fun v57 =>
 (st Try.prog 33 h55 s6 v57).bind fun h58 =>
 ((ld Try.prog 33 h58 s6).bind fun v59 => some (v59 :: ((.bool false) :: []))).bind fun vs => some (oneOf vs, h58))
 ((ld Try.prog 33 h55 s8).bind fun v60 =>
 (st Try.prog 33 h55 s6 v60).bind fun h61 =>
 ((ld Try.prog 33 h61 s6).bind fun v62 => some (v62 :: ((.bool true) :: []))).bind fun vs => some (oneOf vs, h61)) := by kernel_rfl
theorem f33_eq (k : Nat) (a0 a1 a2 : Value) (H : AH) : rn (k + 1) 33 [a0, a1, a2] H =
b2 (box 33 H a0) fun v1 h1 =>
b2 (box 33 h1 a2) fun v2 h2 =>
b2 (newV Try.prog 33 h2) fun v3 h3 =>
(fldA Try.prog 33 v1 0).bind fun v4 =>
(ld Try.prog 4 h3 v4).bind fun v5 =>
(fldA Try.prog 33 v2 0).bind fun v6 =>
(ld Try.prog 4 h3 v6).bind fun v7 =>
(bin Try.prog .neq 4 v5 v7).bind fun v8 =>
aIf v8
 ((build Try.prog 33 []).bind fun v9 =>
 (st Try.prog 33 h3 v3 v9).bind fun h10 =>
 ((ld Try.prog 33 h10 v3).bind fun v11 => some (v11 :: ((.bool false) :: []))).bind fun vs => some (oneOf vs, h10))
 ((fldA Try.prog 33 v1 0).bind fun v12 =>
 (ld Try.prog 4 h3 v12).bind fun v13 =>
 (build Try.prog 33 [(0, v13)]).bind fun v14 =>
 b2 (newV Try.prog 33 h3) fun v15 h15 =>
 (st Try.prog 33 h15 v15 v14).bind fun h16 =>
 (fldA Try.prog 33 v15 1).bind fun v17 =>
 (ld Try.prog 22 h16 v17).bind fun v18 =>
 (fldA Try.prog 33 v1 1).bind fun v19 =>
 (ld Try.prog 22 h16 v19).bind fun v20 =>
 b2 (ap Try.prog 22 22 h16 v18 v20) fun v21 h21 =>
 (fldA Try.prog 33 v15 1).bind fun v22 =>
 (st Try.prog 22 h21 v22 v21).bind fun h23 =>
 (fldA Try.prog 33 v1 0).bind fun v24 =>
 (ld Try.prog 4 h23 v24).bind fun v25 =>
 (un Try.prog .not v25).bind fun v26 =>
 aIf v26
  ((fldA Try.prog 33 v15 1).bind fun v27 =>
  (ld Try.prog 22 h23 v27).bind fun v28 =>
  b2 (buildS Try.prog 22 h23 1 [(0, a1)]) fun v29 h29 =>
  b2 (ap Try.prog 22 22 h29 v28 v29) fun v30 h30 =>
  (fldA Try.prog 33 v15 1).bind fun v31 =>
  (st Try.prog 22 h30 v31 v30).bind fun h32 =>
  f33_J0 k v1 v2 v3 v15 h32)
  (f33_J0 k v1 v2 v3 v15 h23)) := by kernel_rfl
theorem f34_eq (k : Nat) (a0 a1 : Value) (H : AH) : rn (k + 1) 34 [a0, a1] H =
(bin Try.prog .shr 3 a0 (.int .u64 8)).bind fun v1 =>
(cv Try.prog 3 5 v1).bind fun v2 =>
b2 (rn k 35 [a1, v2] H) fun v3 h3 =>
(cv Try.prog 3 5 a0).bind fun v4 =>
b2 (rn k 35 [a1, v4] h3) fun v5 h5 =>
some ((.tuple #[]), h5) := by kernel_rfl
theorem f35_eq (k : Nat) (a0 a1 : Value) (H : AH) : rn (k + 1) 35 [a0, a1] H =
b2 (rn k 50 [a0] H) fun v1 h1 =>
(nilChk a0).bind fun v2 =>
(fldA Try.prog 70 v2 1).bind fun v3 =>
(ld Try.prog 68 h1 v3).bind fun v4 =>
b2 (buildS Try.prog 68 h1 1 [(0, a1)]) fun v5 h5 =>
b2 (ap Try.prog 68 68 h5 v4 v5) fun v6 h6 =>
(nilChk a0).bind fun v7 =>
(fldA Try.prog 70 v7 1).bind fun v8 =>
(st Try.prog 68 h6 v8 v6).bind fun h9 =>
some (.nilIface, h9) := by kernel_rfl
theorem f36_eq (k : Nat) (a0 a1 : Value) (H : AH) : rn (k + 1) 36 [a0, a1] H =
b2 (rn k 50 [a0] H) fun v1 h1 =>
(nilChk a0).bind fun v2 =>
(fldA Try.prog 70 v2 1).bind fun v3 =>
(ld Try.prog 68 h1 v3).bind fun v4 =>
b2 (ap Try.prog 68 9 h1 v4 a1) fun v5 h5 =>
(nilChk a0).bind fun v6 =>
(fldA Try.prog 70 v6 1).bind fun v7 =>
(st Try.prog 68 h5 v7 v5).bind fun h8 =>
(lenV Try.prog 9 a1).bind fun v9 =>
some ((.tuple #[v9, .nilIface]), h8) := by kernel_rfl
theorem f37_eq (k : Nat) (a0 : Value) (H : AH) : rn (k + 1) 37 [a0] H =
(nilChk a0).bind fun v1 =>
(fldA Try.prog 70 v1 1).bind fun v2 =>
(ld Try.prog 68 H v2).bind fun v3 =>
(sdV v3).bind fun v4 =>
(nilChk a0).bind fun v5 =>
(fldA Try.prog 70 v5 1).bind fun v6 =>
(ld Try.prog 68 H v6).bind fun v7 =>
(lenV Try.prog 68 v7).bind fun v8 =>
b2 (usV Try.prog 90 H v4 v8) fun v9 h9 =>
some (v9, h9) := by kernel_rfl
theorem f40_eq (k : Nat) (a0 a1 : Value) (H : AH) : rn (k + 1) 40 [a0, a1] H =
(ld Try.prog 9 H a1).bind fun v1 =>
(lenV Try.prog 9 v1).bind fun v2 =>
(fold1 minV [a0, v2]).bind fun v3 =>
(ld Try.prog 9 H a1).bind fun v4 =>
(slc Try.prog 9 v4 none (some v3)).bind fun v5 =>
(ld Try.prog 9 H a1).bind fun v6 =>
(slc Try.prog 9 v6 (some v3) none).bind fun v7 =>
(st Try.prog 9 H a1 v7).bind fun h8 =>
some (v5, h8) := by kernel_rfl
theorem f41_eq (k : Nat) (a0 a1 : Value) (H : AH) : rn (k + 1) 41 [a0, a1] H =
(ld Try.prog 80 H a0).bind fun v1 =>
b2 (callV (rn k) v1 [(.int .i64 2)] H) fun v2 h2 =>
(lenV Try.prog 9 v2).bind fun v3 =>
(bin Try.prog .eql 3 v3 (.int .i64 2)).bind fun v4 =>
aIf v4
 ((fldA Try.prog 25 a1 2).bind fun v5 =>
 (ld Try.prog 23 h2 v5).bind fun v6 =>
 (ix Try.prog 9 v2 (.int .i64 0)).bind fun v7 =>
 (cv Try.prog 5 3 v7).bind fun v8 =>
 (bin Try.prog .shl 3 v8 (.int .u64 8)).bind fun v9 =>
 (ix Try.prog 9 v2 (.int .i64 1)).bind fun v10 =>
 (cv Try.prog 5 3 v10).bind fun v11 =>
 (bin Try.prog .or 3 v9 v11).bind fun v12 =>
 b2 (buildS Try.prog 23 h2 1 [(0, v12)]) fun v13 h13 =>
 b2 (ap Try.prog 23 23 h13 v6 v13) fun v14 h14 =>
 (fldA Try.prog 25 a1 2).bind fun v15 =>
 (st Try.prog 23 h14 v15 v14).bind fun h16 =>
 some ((.tuple #[]), h16))
 (some ((.tuple #[]), h2)) := by kernel_rfl
abbrev f42_T_L0 (s2 s3 s5 : Value) : List Value := [unk, unk, s2, s3, unk, s5, unk, unk, unk, unk, unk, unk, unk, unk, unk, unk, unk, unk, unk, unk, unk, unk, unk, unk, unk, unk, unk, unk, unk, unk, unk, unk, unk, unk, unk, unk, unk, unk, unk, unk, unk, unk, unk, unk, unk, unk, unk, unk, unk, unk, unk, unk, unk, unk, unk, unk, unk, unk, unk, unk, unk, unk, unk, unk, unk, unk]
abbrev f42_X_L0 (s2 s3 s4 : Value) : List Value := [unk, unk, s2, s3, s4, unk, unk, unk, unk, unk, unk, unk, unk, unk, unk, unk, unk, unk, unk, unk, unk, unk, unk, unk, unk, unk, unk, unk, unk, unk, unk, unk, unk, unk, unk, unk, unk, unk, unk, unk, unk, unk, unk, unk, unk, unk, unk, unk, unk, unk, unk, unk, unk, unk, unk, unk, unk, unk, unk, unk, unk, unk, unk, unk, unk, unk]
abbrev f42_T_L1 (s2 s3 s6 : Value) : List Value := [unk, unk, s2, s3, unk, unk, s6, unk, unk, unk, unk, unk, unk, unk, unk, unk, unk, unk, unk, unk, unk, unk, unk, unk, unk, unk, unk, unk, unk, unk, unk, unk, unk, unk, unk, unk, unk, unk, unk, unk, unk, unk, unk, unk, unk, unk, unk, unk, unk, unk, unk, unk, unk, unk, unk, unk, unk, unk, unk, unk, unk, unk, unk, unk, unk, unk]
abbrev f42_X_L1 (s4 : Value) : List Value := [unk, unk, unk, unk, s4, unk, unk, unk, unk, unk, unk, unk, unk, unk, unk, unk, unk, unk, unk, unk, unk, unk, unk, unk, unk, unk, unk, unk, unk, unk, unk, unk, unk, unk, unk, unk, unk, unk, unk, unk, unk, unk, unk, unk, unk, unk, unk, unk, unk, unk, unk, unk, unk, unk, unk, unk, unk, unk, unk, unk, unk, unk, unk, unk, unk, unk]
@[irreducible] def f42_L0 (k : Nat) (s2 s3 s5 : Value) (n : Nat) (H : AH) : Option Out := iterD (fun T H K => evalK Try.prog (rn k) k (tbs 42) (codeAt (bodyOf Try.f42) [1, 1, 0, 1, 0, 0]) T H K) (cutT (tbs 42) 13) (cutT (tbs 42) 14) n (f42_T_L0 s2 s3 s5) H
@[irreducible] def f42_A0 (k : Nat) (e : EX) (T : List Value) (H : AH) : Option (Value × AH) := resume Try.prog (rn k) k (tbs 42) (bodyOf Try.f42) [1, 1, 0, 1, 0] e T H (resK Try.prog Try.f42.results.toList)
@[irreducible] def f42_L1 (k : Nat) (s2 s3 s6 : Value) (n : Nat) (H : AH) : Option Out := iterD (fun T H K => evalK Try.prog (rn k) k (tbs 42) (codeAt (bodyOf Try.f42) [1, 1, 1, 0, 1, 0, 0]) T H K) (cutT (tbs 42) 28) (cutT (tbs 42) 29) n (f42_T_L1 s2 s3 s6) H
@[irreducible] def f42_A1 (k : Nat) (e : EX) (T : List Value) (H : AH) : Option (Value × AH) := resume Try.prog (rn k) k (tbs 42) (bodyOf Try.f42) [1, 1, 1, 0, 1, 0] e T H (resK Try.prog Try.f42.results.toList)
theorem f42_L0_succ (k : Nat) (s2 s3 s5 : Value) (n : Nat) (H : AH) : f42_L0 k s2 s3 s5 (n + 1) H =
(fldA Try.prog 33 s2 1).bind fun v24 =>
(ld Try.prog 22 H v24).bind fun v25 =>
(lenV Try.prog 22 v25).bind fun v26 =>
(bin Try.prog .lss 3 s5 v26).bind fun v27 =>
aIf v27
 ((fldA Try.prog 33 s2 1).bind fun v28 =>
 (ld Try.prog 22 H v28).bind fun v29 =>
 (ixA Try.prog 22 v29 s5).bind fun v30 =>
 (ld Try.prog 9 H v30).bind fun v31 =>
 (fldA Try.prog 33 s3 1).bind fun v32 =>
 (ld Try.prog 22 H v32).bind fun v33 =>
 (ixA Try.prog 22 v33 s5).bind fun v34 =>
 (ld Try.prog 9 H v34).bind fun v35 =>
 (bin Try.prog .neq 9 v31 v35).bind fun v36 =>
 aIf v36
  (some (.ret, (f42_X_L0 s2 s3 (.bool false)), H))
  ((bin Try.prog .add 3 s5 (.int .i64 1)).bind fun v37 =>
  f42_L0 k s2 s3 v37 n H))
 (some ((.exit 0), (f42_X_L0 s2 s3 unk), H)) := by kernel_rfl
theorem f42_A0_x0 (k : Nat) (s2 s3 s4 : Value) (H : AH) : f42_A0 k (.exit 0) (f42_X_L0 s2 s3 s4) H =
(f42_L1 k s2 s3 (.int .i64 0) k H).bind fun p => f42_A1 k p.1 p.2.1 p.2.2 := by kernel_rfl
theorem f42_A0_ret (k : Nat) (s2 s3 s4 : Value) (H : AH) : f42_A0 k .ret (f42_X_L0 s2 s3 s4) H =
some (s4, H) := by kernel_rfl
theorem f42_L1_succ (k : Nat) (s2 s3 s6 : Value) (n : Nat) (H : AH) : f42_L1 k s2 s3 s6 (n + 1) H =
(fldA Try.prog 33 s2 2).bind fun v38 =>
(ld Try.prog 23 H v38).bind fun v39 =>
(lenV Try.prog 23 v39).bind fun v40 =>
(bin Try.prog .lss 3 s6 v40).bind fun v41 =>
aIf v41
 ((fldA Try.prog 33 s2 2).bind fun v42 =>
 (ld Try.prog 23 H v42).bind fun v43 =>
 (ixA Try.prog 23 v43 s6).bind fun v44 =>
 (ld Try.prog 3 H v44).bind fun v45 =>
 (fldA Try.prog 33 s3 2).bind fun v46 =>
 (ld Try.prog 23 H v46).bind fun v47 =>
 (ixA Try.prog 23 v47 s6).bind fun v48 =>
 (ld Try.prog 3 H v48).bind fun v49 =>
 (bin Try.prog .neq 3 v45 v49).bind fun v50 =>
 aIf v50
  (some (.ret, (f42_X_L1 (.bool false)), H))
  ((bin Try.prog .add 3 s6 (.int .i64 1)).bind fun v51 =>
  f42_L1 k s2 s3 v51 n H))
 (some ((.exit 2), (f42_X_L1 unk), H)) := by kernel_rfl
theorem f42_A1_x2 (k : Nat) (s4 : Value) (H : AH) : f42_A1 k (.exit 2) (f42_X_L1 s4) H =
some ((.bool true), H) := by kernel_rfl
theorem f42_A1_ret (k : Nat) (s4 : Value) (H : AH) : f42_A1 k .ret (f42_X_L1 s4) H =
some (s4, H) := by kernel_rfl
theorem f42_eq (k : Nat) (a0 a1 : Value) (H : AH) : rn (k + 1) 42 [a0, a1] H =
b2 (box 33 H a0) fun v1 h1 =>
b2 (box 33 h1 a1) fun v2 h2 =>
(fldA Try.prog 33 v1 0).bind fun v3 =>
(ld Try.prog 4 h2 v3).bind fun v4 =>
(fldA Try.prog 33 v2 0).bind fun v5 =>
(ld Try.prog 4 h2 v5).bind fun v6 =>
(bin Try.prog .neq 4 v4 v6).bind fun v7 =>
b2 (gOp v7 false ((fldA Try.prog 33 v1 1).bind fun v => some (v, h2)) h2) fun v8 h8 =>
b2 (gOp v7 false ((ld Try.prog 22 h8 v8).bind fun v => some (v, h8)) h8) fun v9 h9 =>
b2 (gOp v7 false ((lenV Try.prog 22 v9).bind fun v => some (v, h9)) h9) fun v10 h10 =>
b2 (gOp v7 false ((fldA Try.prog 33 v2 1).bind fun v => some (v, h10)) h10) fun v11 h11 =>
b2 (gOp v7 false ((ld Try.prog 22 h11 v11).bind fun v => some (v, h11)) h11) fun v12 h12 =>
b2 (gOp v7 false ((lenV Try.prog 22 v12).bind fun v => some (v, h12)) h12) fun v13 h13 =>
b2 (gOp v7 false ((bin Try.prog .neq 3 v10 v13).bind fun v => some (v, h13)) h13) fun v14 h14 =>
(pickV v7 (.bool true) v14).bind fun v15 =>
b2 (gOp v15 false ((fldA Try.prog 33 v1 2).bind fun v => some (v, h14)) h14) fun v16 h16 =>
b2 (gOp v15 false ((ld Try.prog 23 h16 v16).bind fun v => some (v, h16)) h16) fun v17 h17 =>
b2 (gOp v15 false ((lenV Try.prog 23 v17).bind fun v => some (v, h17)) h17) fun v18 h18 =>
b2 (gOp v15 false ((fldA Try.prog 33 v2 2).bind fun v => some (v, h18)) h18) fun v19 h19 =>
b2 (gOp v15 false ((ld Try.prog 23 h19 v19).bind fun v => some (v, h19)) h19) fun v20 h20 =>
b2 (gOp v15 false ((lenV Try.prog 23 v20).bind fun v => some (v, h20)) h20) fun v21 h21 =>
b2 (gOp v15 false ((bin Try.prog .neq 3 v18 v21).bind fun v => some (v, h21)) h21) fun v22 h22 =>
(pickV v15 (.bool true) v22).bind fun v23 =>
aIf v23
 (some ((.bool false), h22))
 ((f42_L0 k v1 v2 (.int .i64 0) k h22).bind fun p => f42_A0 k p.1 p.2.1 p.2.2) := by kernel_rfl
theorem f43_eq (k : Nat) (a0 a1 : Value) (H : AH) : rn (k + 1) 43 [a0, a1] H =
b2 (rn k 51 [a0, a1] H) fun v1 h1 =>
(bin Try.prog .geq 3 v1 (.int .i64 0)).bind fun v2 =>
some (v2, h1) := by kernel_rfl
theorem f44_eq (k : Nat) (a0 : Value) (H : AH) : rn (k + 1) 44 [a0] H =
(bin Try.prog .lss 3 a0 (.int .i64 2)).bind fun v1 =>
b2 (gOp v1 false (some (a0, H)) H) fun v2 h2 =>
b2 (gOp v1 false ((bin Try.prog .gtr 3 v2 (.int .i64 511)).bind fun v => some (v, h2)) h2) fun v3 h3 =>
(pickV v1 (.bool true) v3).bind fun v4 =>
some (v4, h3) := by kernel_rfl
abbrev f45_T_L0 (s1 s2 s6 : Value) : List Value := [unk, s1, s2, unk, unk, unk, s6, unk, unk, unk, unk, unk, unk, unk, unk, unk, unk, unk, unk, unk, unk, unk, unk, unk, unk, unk, unk, unk, unk, unk, unk, unk]
abbrev f45_X_L0 (s4 s5 s6 : Value) : List Value := [unk, unk, unk, unk, s4, s5, s6, unk, unk, unk, unk, unk, unk, unk, unk, unk, unk, unk, unk, unk, unk, unk, unk, unk, unk, unk, unk, unk, unk, unk, unk, unk]
@[irreducible] def f45_L0 (k : Nat) (s1 s2 s6 : Value) (n : Nat) (H : AH) : Option Out := iterD (fun T H K => evalK Try.prog (rn k) k (tbs 45) (codeAt (bodyOf Try.f45) [1, 1, 0, 0, 0]) T H K) (cutT (tbs 45) 7) (cutT (tbs 45) 8) n (f45_T_L0 s1 s2 s6) H
@[irreducible] def f45_A0 (k : Nat) (e : EX) (T : List Value) (H : AH) : Option (Value × AH) := resume Try.prog (rn k) k (tbs 45) (bodyOf Try.f45) [1, 1, 0, 0] e T H (resK Try.prog Try.f45.results.toList)
theorem f45_L0_succ (k : Nat) (s1 s2 s6 : Value) (n : Nat) (H : AH) : f45_L0 k s1 s2 s6 (n + 1) H =
(fldA Try.prog 25 s2 1).bind fun v2 =>
(ld Try.prog 22 H v2).bind fun v3 =>
(lenV Try.prog 22 v3).bind fun v4 =>
(bin Try.prog .lss 3 s6 v4).bind fun v5 =>
b2 (gOp v5 true ((fldA Try.prog 25 s2 1).bind fun v => some (v, H)) H) fun v6 h6 =>
b2 (gOp v5 true ((ld Try.prog 22 h6 v6).bind fun v => some (v, h6)) h6) fun v7 h7 =>
b2 (gOp v5 true (some (s6, h7)) h7) fun v8 h8 =>
b2 (gOp v5 true ((ixA Try.prog 22 v7 v8).bind fun v => some (v, h8)) h8) fun v9 h9 =>
b2 (gOp v5 true ((ld Try.prog 9 h9 v9).bind fun v => some (v, h9)) h9) fun v10 h10 =>
b2 (gOp v5 true (some (s1, h10)) h10) fun v11 h11 =>
b2 (gOp v5 true ((bin Try.prog .leq 9 v10 v11).bind fun v => some (v, h11)) h11) fun v12 h12 =>
(pickV v5 v12 (.bool false)).bind fun v13 =>
aIf v13
 ((fldA Try.prog 25 s2 1).bind fun v14 =>
 (ld Try.prog 22 h12 v14).bind fun v15 =>
 (ixA Try.prog 22 v15 s6).bind fun v16 =>
 (ld Try.prog 9 h12 v16).bind fun v17 =>
 (bin Try.prog .eql 9 v17 s1).bind fun v18 =>
 aIf v18
  (some (.ret, (f45_X_L0 s6 (.bool true) s6), h12))
  ((bin Try.prog .add 3 s6 (.int .i64 1)).bind fun v19 =>
  f45_L0 k s1 s2 v19 n h12))
 (some ((.exit 0), (f45_X_L0 unk unk s6), h12)) := by kernel_rfl
theorem f45_A0_x0 (k : Nat) (s4 s5 s6 : Value) (H : AH) : f45_A0 k (.exit 0) (f45_X_L0 s4 s5 s6) H =
some ((.tuple #[s6, (.bool false)]), H) := by kernel_rfl
theorem f45_A0_ret (k : Nat) (s4 s5 s6 : Value) (H : AH) : f45_A0 k .ret (f45_X_L0 s4 s5 s6) H =
some ((.tuple #[s4, s5]), H) := by kernel_rfl
theorem f45_eq (k : Nat) (a0 a1 : Value) (H : AH) : rn (k + 1) 45 [a0, a1] H =
b2 (box 25 H a0) fun v1 h1 =>
(f45_L0 k a1 v1 (.int .i64 0) k h1).bind fun p => f45_A0 k p.1 p.2.1 p.2.2 := by kernel_rfl
theorem f46_eq (k : Nat) (a0 a1 a2 a3 : Value) (H : AH) : rn (k + 1) 46 [a0, a1, a2, a3] H =
(lenV Try.prog 22 a0).bind fun v1 =>
(fold1 minV [a1, v1]).bind fun v2 =>
(lenV Try.prog 22 a0).bind fun v3 =>
(fold1 minV [a2, v3]).bind fun v4 =>
(lenV Try.prog 22 a3).bind fun v5 =>
(bin Try.prog .add 3 v2 v5).bind fun v6 =>
(lenV Try.prog 22 a0).bind fun v7 =>
(bin Try.prog .add 3 v6 v7).bind fun v8 =>
(bin Try.prog .sub 3 v8 v4).bind fun v9 =>
b2 (mkS Try.prog 22 H v9 v9) fun v10 h10 =>
(slc Try.prog 22 a0 none (some v2)).bind fun v11 =>
b2 (cpy Try.prog 22 h10 v10 v11) fun v12 h12 =>
(slc Try.prog 22 v10 (some v2) none).bind fun v13 =>
b2 (cpy Try.prog 22 h12 v13 a3) fun v14 h14 =>
(lenV Try.prog 22 a3).bind fun v15 =>
(bin Try.prog .add 3 v2 v15).bind fun v16 =>
(slc Try.prog 22 v10 (some v16) none).bind fun v17 =>
(slc Try.prog 22 a0 (some v4) none).bind fun v18 =>
b2 (cpy Try.prog 22 h14 v17 v18) fun v19 h19 =>
some (v10, h19) := by kernel_rfl
theorem f47_eq (k : Nat) (a0 a1 a2 a3 : Value) (H : AH) : rn (k + 1) 47 [a0, a1, a2, a3] H =
(lenV Try.prog 23 a0).bind fun v1 =>
(fold1 minV [a1, v1]).bind fun v2 =>
(lenV Try.prog 23 a0).bind fun v3 =>
(fold1 minV [a2, v3]).bind fun v4 =>
(lenV Try.prog 23 a3).bind fun v5 =>
(bin Try.prog .add 3 v2 v5).bind fun v6 =>
(lenV Try.prog 23 a0).bind fun v7 =>
(bin Try.prog .add 3 v6 v7).bind fun v8 =>
(bin Try.prog .sub 3 v8 v4).bind fun v9 =>
b2 (mkS Try.prog 23 H v9 v9) fun v10 h10 =>
(slc Try.prog 23 a0 none (some v2)).bind fun v11 =>
b2 (cpy Try.prog 23 h10 v10 v11) fun v12 h12 =>
(slc Try.prog 23 v10 (some v2) none).bind fun v13 =>
b2 (cpy Try.prog 23 h12 v13 a3) fun v14 h14 =>
(lenV Try.prog 23 a3).bind fun v15 =>
(bin Try.prog .add 3 v2 v15).bind fun v16 =>
(slc Try.prog 23 v10 (some v16) none).bind fun v17 =>
(slc Try.prog 23 a0 (some v4) none).bind fun v18 =>
b2 (cpy Try.prog 23 h14 v17 v18) fun v19 h19 =>
some (v10, h19) := by kernel_rfl
abbrev f48_T_L0 (s0 s3 s9 s10 s11 : Value) : List Value := [s0, unk, unk, s3, unk, unk, unk, unk, unk, s9, s10, s11, unk, unk, unk, unk, unk, unk, unk, unk, unk, unk, unk, unk, unk, unk, unk, unk, unk, unk, unk, unk, unk, unk, unk, unk]
abbrev f48_X_L0 (s0 s3 : Value) : List Value := [s0, unk, unk, s3, unk, unk, unk, unk, unk, unk, unk, unk, unk, unk, unk, unk, unk, unk, unk, unk, unk, unk, unk, unk, unk, unk, unk, unk, unk, unk, unk, unk, unk, unk, unk, unk]
abbrev f48_T_L1 (s6 s25 s26 s27 : Value) : List Value := [unk, unk, unk, unk, unk, unk, s6, unk, unk, unk, unk, unk, unk, unk, unk, unk, unk, unk, unk, unk, unk, unk, unk, unk, unk, s25, s26, s27, unk, unk, unk, unk, unk, unk, unk, unk]
abbrev f48_X_L1 (s6 : Value) : List Value := [unk, unk, unk, unk, unk, unk, s6, unk, unk, unk, unk, unk, unk, unk, unk, unk, unk, unk, unk, unk, unk, unk, unk, unk, unk, unk, unk, unk, unk, unk, unk, unk, unk, unk, unk, unk]
@[irreducible] def f48_L0 (k : Nat) (s0 s3 s9 s10 s11 : Value) (n : Nat) (H : AH) : Option Out := iterD (fun T H K => evalK Try.prog (rn k) k (tbs 48) (codeAt (bodyOf Try.f48) [1, 1, 0, 1, 0, 0]) T H K) (cutT (tbs 48) 10) (cutT (tbs 48) 11) n (f48_T_L0 s0 s3 s9 s10 s11) H
@[irreducible] def f48_A0 (k : Nat) (e : EX) (T : List Value) (H : AH) : Option (Value × AH) := resume Try.prog (rn k) k (tbs 48) (bodyOf Try.f48) [1, 1, 0, 1, 0] e T H (resK Try.prog Try.f48.results.toList)
@[irreducible] def f48_L1 (k : Nat) (s6 s25 s26 s27 : Value) (n : Nat) (H : AH) : Option Out := iterD (fun T H K => evalK Try.prog (rn k) k (tbs 48) (codeAt (bodyOf Try.f48) [1, 1, 1, 1, 0, 1, 0, 0]) T H K) (cutT (tbs 48) 34) (cutT (tbs 48) 35) n (f48_T_L1 s6 s25 s26 s27) H
@[irreducible] def f48_A1 (k : Nat) (e : EX) (T : List Value) (H : AH) : Option (Value × AH) := resume Try.prog (rn k) k (tbs 48) (bodyOf Try.f48) [1, 1, 1, 1, 0, 1, 0] e T H (resK Try.prog Try.f48.results.toList)
theorem f48_L0_succ (k : Nat) (s0 s3 s9 s10 s11 : Value) (n : Nat) (H : AH) : f48_L0 k s0 s3 s9 s10 s11 (n + 1) H =
(bin Try.prog .lss 3 s11 s10).bind fun v2 =>
aIf v2
 ((ixA Try.prog 92 s9 s11).bind fun v3 =>
 (ld Try.prog 22 H v3).bind fun v4 =>
 (lenV Try.prog 22 v4).bind fun v5 =>
 (bin Try.prog .add 3 s3 v5).bind fun v6 =>
 (bin Try.prog .lss 3 v6 (.int .i64 0)).bind fun v7 =>
 aIf v7
  (none)
  ((bin Try.prog .add 3 s11 (.int .i64 1)).bind fun v8 =>
  f48_L0 k s0 v6 s9 s10 v8 n H))
 (some ((.exit 0), (f48_X_L0 s0 s3), H)) := by kernel_rfl
theorem f48_A0_x0 (k : Nat) (s0 s3 : Value) (H : AH) : f48_A0 k (.exit 0) (f48_X_L0 s0 s3) H =
b2 (rn k 52 [(.slice none 0 0), s3] H) fun v9 h9 =>
(lenV Try.prog 92 s0).bind fun v10 =>
(f48_L1 k v9 s0 v10 (.int .i64 0) k h9).bind fun p => f48_A1 k p.1 p.2.1 p.2.2 := by kernel_rfl
theorem f48_L1_succ (k : Nat) (s6 s25 s26 s27 : Value) (n : Nat) (H : AH) : f48_L1 k s6 s25 s26 s27 (n + 1) H =
(bin Try.prog .lss 3 s27 s26).bind fun v11 =>
aIf v11
 ((ixA Try.prog 92 s25 s27).bind fun v12 =>
 (ld Try.prog 22 H v12).bind fun v13 =>
 b2 (ap Try.prog 22 22 H s6 v13) fun v14 h14 =>
 (bin Try.prog .add 3 s27 (.int .i64 1)).bind fun v15 =>
 f48_L1 k v14 s25 s26 v15 n h14)
 (some ((.exit 2), (f48_X_L1 s6), H)) := by kernel_rfl
theorem f48_A1_x2 (k : Nat) (s6 : Value) (H : AH) : f48_A1 k (.exit 2) (f48_X_L1 s6) H =
some (s6, H) := by kernel_rfl
theorem f48_eq (k : Nat) (a0 : Value) (H : AH) : rn (k + 1) 48 [a0] H =
(lenV Try.prog 92 a0).bind fun v1 =>
(f48_L0 k a0 (.int .i64 0) a0 v1 (.int .i64 0) k H).bind fun p => f48_A0 k p.1 p.2.1 p.2.2 := by kernel_rfl
abbrev f49_T_L0 (s0 s3 s9 s10 s11 : Value) : List Value := [s0, unk, unk, s3, unk, unk, unk, unk, unk, s9, s10, s11, unk, unk, unk, unk, unk, unk, unk, unk, unk, unk, unk, unk, unk, unk, unk, unk, unk, unk, unk, unk, unk, unk, unk, unk]
abbrev f49_X_L0 (s0 s3 : Value) : List Value := [s0, unk, unk, s3, unk, unk, unk, unk, unk, unk, unk, unk, unk, unk, unk, unk, unk, unk, unk, unk, unk, unk, unk, unk, unk, unk, unk, unk, unk, unk, unk, unk, unk, unk, unk, unk]
abbrev f49_T_L1 (s6 s25 s26 s27 : Value) : List Value := [unk, unk, unk, unk, unk, unk, s6, unk, unk, unk, unk, unk, unk, unk, unk, unk, unk, unk, unk, unk, unk, unk, unk, unk, unk, s25, s26, s27, unk, unk, unk, unk, unk, unk, unk, unk]
abbrev f49_X_L1 (s6 : Value) : List Value := [unk, unk, unk, unk, unk, unk, s6, unk, unk, unk, unk, unk, unk, unk, unk, unk, unk, unk, unk, unk, unk, unk, unk, unk, unk, unk, unk, unk, unk, unk, unk, unk, unk, unk, unk, unk]
@[irreducible] def f49_L0 (k : Nat) (s0 s3 s9 s10 s11 : Value) (n : Nat) (H : AH) : Option Out := iterD (fun T H K => evalK Try.prog (rn k) k (tbs 49) (codeAt (bodyOf Try.f49) [1, 1, 0, 1, 0, 0]) T H K) (cutT (tbs 49) 10) (cutT (tbs 49) 11) n (f49_T_L0 s0 s3 s9 s10 s11) H
@[irreducible] def f49_A0 (k : Nat) (e : EX) (T : List Value) (H : AH) : Option (Value × AH) := resume Try.prog (rn k) k (tbs 49) (bodyOf Try.f49) [1, 1, 0, 1, 0] e T H (resK Try.prog Try.f49.results.toList)
@[irreducible] def f49_L1 (k : Nat) (s6 s25 s26 s27 : Value) (n : Nat) (H : AH) : Option Out := iterD (fun T H K => evalK Try.prog (rn k) k (tbs 49) (codeAt (bodyOf Try.f49) [1, 1, 1, 1, 0, 1, 0, 0]) T H K) (cutT (tbs 49) 34) (cutT (tbs 49) 35) n (f49_T_L1 s6 s25 s26 s27) H
@[irreducible] def f49_A1 (k : Nat) (e : EX) (T : List Value) (H : AH) : Option (Value × AH) := resume Try.prog (rn k) k (tbs 49) (bodyOf Try.f49) [1, 1, 1, 1, 0, 1, 0] e T H (resK Try.prog Try.f49.results.toList)
theorem f49_L0_succ (k : Nat) (s0 s3 s9 s10 s11 : Value) (n : Nat) (H : AH) : f49_L0 k s0 s3 s9 s10 s11 (n + 1) H =
(bin Try.prog .lss 3 s11 s10).bind fun v2 =>
aIf v2
 ((ixA Try.prog 94 s9 s11).bind fun v3 =>
 (ld Try.prog 23 H v3).bind fun v4 =>
 (lenV Try.prog 23 v4).bind fun v5 =>
 (bin Try.prog .add 3 s3 v5).bind fun v6 =>
 (bin Try.prog .lss 3 v6 (.int .i64 0)).bind fun v7 =>
 aIf v7
  (none)
  ((bin Try.prog .add 3 s11 (.int .i64 1)).bind fun v8 =>
  f49_L0 k s0 v6 s9 s10 v8 n H))
 (some ((.exit 0), (f49_X_L0 s0 s3), H)) := by kernel_rfl
theorem f49_A0_x0 (k : Nat) (s0 s3 : Value) (H : AH) : f49_A0 k (.exit 0) (f49_X_L0 s0 s3) H =
b2 (rn k 53 [(.slice none 0 0), s3] H) fun v9 h9 =>
(lenV Try.prog 94 s0).bind fun v10 =>
(f49_L1 k v9 s0 v10 (.int .i64 0) k h9).bind fun p => f49_A1 k p.1 p.2.1 p.2.2 := by kernel_rfl
theorem f49_L1_succ (k : Nat) (s6 s25 s26 s27 : Value) (n : Nat) (H : AH) : f49_L1 k s6 s25 s26 s27 (n + 1) H =
(bin Try.prog .lss 3 s27 s26).bind fun v11 =>
aIf v11
 ((ixA Try.prog 94 s25 s27).bind fun v12 =>
 (ld Try.prog 23 H v12).bind fun v13 =>
 b2 (ap Try.prog 23 23 H s6 v13) fun v14 h14 =>
 (bin Try.prog .add 3 s27 (.int .i64 1)).bind fun v15 =>
 f49_L1 k v14 s25 s26 v15 n h14)
 (some ((.exit 2), (f49_X_L1 s6), H)) := by kernel_rfl
theorem f49_A1_x2 (k : Nat) (s6 : Value) (H : AH) : f49_A1 k (.exit 2) (f49_X_L1 s6) H =
some (s6, H) := by kernel_rfl
theorem f49_eq (k : Nat) (a0 : Value) (H : AH) : rn (k + 1) 49 [a0] H =
(lenV Try.prog 94 a0).bind fun v1 =>
(f49_L0 k a0 (.int .i64 0) a0 v1 (.int .i64 0) k H).bind fun p => f49_A0 k p.1 p.2.1 p.2.2 := by kernel_rfl
abbrev f51_T_L0 (s0 s1 s7 s8 : Value) : List Value := [s0, s1, unk, unk, unk, unk, unk, s7, s8, unk, unk, unk, unk, unk, unk, unk, unk, unk, unk]
abbrev f51_X_L0 (s4 : Value) : List Value := [unk, unk, unk, unk, s4, unk, unk, unk, unk, unk, unk, unk, unk, unk, unk, unk, unk, unk, unk]
@[irreducible] def f51_L0 (k : Nat) (s0 s1 s7 s8 : Value) (n : Nat) (H : AH) : Option Out := iterD (fun T H K => evalK Try.prog (rn k) k (tbs 51) (codeAt (bodyOf Try.f51) [1, 0, 1, 0, 0]) T H K) (cutT (tbs 51) 7) (cutT (tbs 51) 8) n (f51_T_L0 s0 s1 s7 s8) H
@[irreducible] def f51_A0 (k : Nat) (e : EX) (T : List Value) (H : AH) : Option (Value × AH) := resume Try.prog (rn k) k (tbs 51) (bodyOf Try.f51) [1, 0, 1, 0] e T H (resK Try.prog Try.f51.results.toList)
theorem f51_L0_succ (k : Nat) (s0 s1 s7 s8 : Value) (n : Nat) (H : AH) : f51_L0 k s0 s1 s7 s8 (n + 1) H =
(bin Try.prog .lss 3 s8 s7).bind fun v2 =>
aIf v2
 ((ixA Try.prog 23 s0 s8).bind fun v3 =>
 (ld Try.prog 3 H v3).bind fun v4 =>
 b2 (callV (rn k) s1 [v4] H) fun v5 h5 =>
 aIf v5
  (some (.ret, (f51_X_L0 s8), h5))
  ((bin Try.prog .add 3 s8 (.int .i64 1)).bind fun v6 =>
  f51_L0 k s0 s1 s7 v6 n h5))
 (some ((.exit 0), (f51_X_L0 unk), H)) := by kernel_rfl
theorem f51_A0_x0 (k : Nat) (s4 : Value) (H : AH) : f51_A0 k (.exit 0) (f51_X_L0 s4) H =
some ((.int .i64 (-1)), H) := by kernel_rfl
theorem f51_A0_ret (k : Nat) (s4 : Value) (H : AH) : f51_A0 k .ret (f51_X_L0 s4) H =
some (s4, H) := by kernel_rfl
theorem f51_eq (k : Nat) (a0 a1 : Value) (H : AH) : rn (k + 1) 51 [a0, a1] H =
(lenV Try.prog 23 a0).bind fun v1 =>
(f51_L0 k a0 a1 v1 (.int .i64 0) k H).bind fun p => f51_A0 k p.1 p.2.1 p.2.2 := by kernel_rfl
abbrev f52_T_J0 (s0 s1 : Value) : List Value := [s0, s1, unk, unk, unk, unk, unk, unk, unk, unk, unk, unk, unk, unk, unk, unk, unk, unk, unk, unk, unk, unk, unk, unk, unk, unk, unk]
abbrev f52_T_J1 (s0 : Value) : List Value := [s0, unk, unk, unk, unk, unk, unk, unk, unk, unk, unk, unk, unk, unk, unk, unk, unk, unk, unk, unk, unk, unk, unk, unk, unk, unk, unk]
@[irreducible] def f52_J0 (k : Nat) (s0 s1 : Value) (H : AH) : Option (Value × AH) := resume Try.prog (rn k) k (tbs 52) (bodyOf Try.f52) [1, 0] .normal (f52_T_J0 s0 s1) H (resK Try.prog Try.f52.results.toList)
@[irreducible] def f52_J1 (k : Nat) (s0 : Value) (H : AH) : Option (Value × AH) := resume Try.prog (rn k) k (tbs 52) (bodyOf Try.f52) [1, 1, 0] .normal (f52_T_J1 s0) H (resK Try.prog Try.f52.results.toList)
theorem f52_J0_eq (k : Nat) (s0 s1 : Value) (H : AH) : f52_J0 k s0 s1 H =
(capV Try.prog 22 s0).bind fun v2 =>
(lenV Try.prog 22 s0).bind fun v3 =>
(bin Try.prog .sub 3 v2 v3).bind fun v4 =>
(bin Try.prog .sub 3 s1 v4).bind fun v5 =>
(bin Try.prog .gtr 3 v5 (.int .i64 0)).bind fun v6 =>
aIf v6
 ((capV Try.prog 22 s0).bind fun v7 =>
 (slc Try.prog 22 s0 none (some v7)).bind fun v8 =>
 b2 (ap Try.prog 22 3 H v8 v5) fun v9 h9 =>
 (lenV Try.prog 22 s0).bind fun v10 =>
 (slc Try.prog 22 v9 none (some v10)).bind fun v11 =>
 f52_J1 k v11 h9)
 (f52_J1 k s0 H) := by kernel_rfl
theorem f52_J1_eq (k : Nat) (s0 : Value) (H : AH) : f52_J1 k s0 H =
some (s0, H) := by kernel_rfl
theorem f52_eq (k : Nat) (a0 a1 : Value) (H : AH) : rn (k + 1) 52 [a0, a1] H =
(bin Try.prog .lss 3 a1 (.int .i64 0)).bind fun v1 =>
aIf v1
 (none)
 (f52_J0 k a0 a1 H) := by kernel_rfl
abbrev f53_T_J0 (s0 s1 : Value) : List Value := [s0, s1, unk, unk, unk, unk, unk, unk, unk, unk, unk, unk, unk, unk, unk, unk, unk, unk, unk, unk, unk, unk, unk, unk, unk, unk, unk]
abbrev f53_T_J1 (s0 : Value) : List Value := [s0, unk, unk, unk, unk, unk, unk, unk, unk, unk, unk, unk, unk, unk, unk, unk, unk, unk, unk, unk, unk, unk, unk, unk, unk, unk, unk]
@[irreducible] def f53_J0 (k : Nat) (s0 s1 : Value) (H : AH) : Option (Value × AH) := resume Try.prog (rn k) k (tbs 53) (bodyOf Try.f53) [1, 0] .normal (f53_T_J0 s0 s1) H (resK Try.prog Try.f53.results.toList)
@[irreducible] def f53_J1 (k : Nat) (s0 : Value) (H : AH) : Option (Value × AH) := resume Try.prog (rn k) k (tbs 53) (bodyOf Try.f53) [1, 1, 0] .normal (f53_T_J1 s0) H (resK Try.prog Try.f53.results.toList)
theorem f53_J0_eq (k : Nat) (s0 s1 : Value) (H : AH) : f53_J0 k s0 s1 H =
(capV Try.prog 23 s0).bind fun v2 =>
(lenV Try.prog 23 s0).bind fun v3 =>
(bin Try.prog .sub 3 v2 v3).bind fun v4 =>
(bin Try.prog .sub 3 s1 v4).bind fun v5 =>
(bin Try.prog .gtr 3 v5 (.int .i64 0)).bind fun v6 =>
aIf v6
 ((capV Try.prog 23 s0).bind fun v7 =>
 (slc Try.prog 23 s0 none (some v7)).bind fun v8 =>
 b2 (ap Try.prog 23 3 H v8 v5) fun v9 h9 =>
 (lenV Try.prog 23 s0).bind fun v10 =>
 (slc Try.prog 23 v9 none (some v10)).bind fun v11 =>
 f53_J1 k v11 h9)
 (f53_J1 k s0 H) := by kernel_rfl
theorem f53_J1_eq (k : Nat) (s0 : Value) (H : AH) : f53_J1 k s0 H =
some (s0, H) := by kernel_rfl
theorem f53_eq (k : Nat) (a0 a1 : Value) (H : AH) : rn (k + 1) 53 [a0, a1] H =
(bin Try.prog .lss 3 a1 (.int .i64 0)).bind fun v1 =>
aIf v1
 (none)
 (f53_J0 k a0 a1 H) := by kernel_rfl
end
end Go.AM.N

