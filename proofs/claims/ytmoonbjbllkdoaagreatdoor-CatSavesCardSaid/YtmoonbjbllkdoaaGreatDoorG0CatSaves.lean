/-
  Facts of the abstract evaluator and of the functions that the law reaches, part 0. Conditions: none.
-/
import Derived.Orders
import Derived.Scope
import Derived.Below
import Derived.Laws.MakeOwn
import Derived.Laws.OwnMore
import Derived.Test.YtmoonbjbllkdoaaGreatDoorProg
import Derived.KernelRfl
import Derived.Laws.BytesString
import Derived.Laws.CopyRow
import Derived.RangeFuncRecord
import Derived.Lib.FrozenHead
import Derived.Laws.StructEq
import Derived.Lib.AppendZeros
set_option linter.unusedVariables false
set_option linter.unusedSimpArgs false
set_option linter.unnecessarySimpa false
set_option exponentiation.threshold 200000
set_option maxRecDepth 100000
namespace Go.AM

def unk : Value := .chan (some 0)
def isCell : Value → Bool
  | .agg _ => false
  | .tuple _ => false
  | .chan _ => false
  | _ => true
def flat1 : Value → Bool
  | .bool _ => true
  | .int _ _ => true
  | .string _ => true
  | .float _ _ => true
  | .pointer none => true
  | .slice none 0 0 => true
  | .map none => true
  | .nilFunc => true
  | .nilIface => true
  | _ => false
def flat : Value → Bool
  | .agg cs => cs.toList.all flat1
  | v => flat1 v
def okCells : Value → Bool
  | .agg cs => cs.toList.all isCell
  | v => isCell v

inductive BK where
  | ro | fix | grow | buf | map | byt
  | loop (f key : Nat)
  deriving DecidableEq
def BK.row : BK → Bool
  | .map => false
  | .loop _ _ => false
  | _ => true
def BK.wr : BK → Bool
  | .fix => true
  | .byt => true
  | .grow => true
  | _ => false
def BK.gr : BK → Bool
  | .grow => true
  | .buf => true
  | _ => false
structure Blk where
  cells : List Value
  elem : TypeId
  kind : BK
abbrev AH := List (Option Blk)
def blk (H : AH) (b : Nat) : Option Blk := (H[b]?).bind id
def put (H : AH) (b : Nat) (k : Blk) (cs : List Value) : AH := H.set b (some ⟨cs, k.elem, k.kind⟩)
def kill (H : AH) (b : Nat) : AH := H.set b none
def mkB (H : AH) (cs : List Value) (e : TypeId) (kd : BK) : AH := H ++ [some ⟨cs, e, kd⟩]
def ptr (b off : Nat) : Value := .pointer (some ⟨b, off, none⟩)
def sl (b off len cap : Nat) : Value := .slice (some ⟨b, off, none⟩) len cap

def spl (xs : List Value) (off : Nat) (ys : List Value) : List Value := xs.take off ++ (ys ++ xs.drop (off + ys.length))
def rdN (k : Blk) (off n : Nat) : Option (List Value) := if off + n ≤ k.cells.length then some ((k.cells.drop off).take n) else none

def aggT (P : Program) (t : TypeId) : Option Bool :=
  match P.underlying t with
  | some (.struct _) => some true
  | some (.array _ _) => some true
  | some _ => some false
  | none => none
def szT (P : Program) (t : TypeId) : Nat := P.cellsOf t
def byT (P : Program) (t : TypeId) : Nat := P.bytesOf t
def zeroT (P : Program) (t : TypeId) : Option Value := (P.info? t).bind fun i => i.zero.bind fun z => if flat z then some z else none

def ldC (H : AH) (a : Value) : Option Value :=
  match a with
  | .pointer (some ⟨b, off, none⟩) => (blk H b).bind fun k => k.cells[off]?
  | _ => none
def ldA (n : Nat) (H : AH) (a : Value) : Option Value :=
  match a with
  | .pointer (some ⟨b, off, none⟩) => (blk H b).bind fun k => (rdN k off n).map fun cs => .agg cs.toArray
  | _ => none
def ld (P : Program) (t : TypeId) (H : AH) (a : Value) : Option Value :=
  match aggT P t with
  | some true => ldA (szT P t) H a
  | some false => ldC H a
  | none => none
def stC (H : AH) (a v : Value) : Option AH :=
  match a with
  | .pointer (some ⟨b, off, none⟩) => (blk H b).bind fun k => if k.kind.wr = true ∧ off < k.cells.length ∧ isCell v = true then some (put H b k (k.cells.set off v)) else none
  | _ => none
def stA (n : Nat) (H : AH) (a v : Value) : Option AH :=
  match a, v with
  | .pointer (some ⟨b, off, none⟩), .agg cs => (blk H b).bind fun k => if k.kind.wr = true ∧ off + n ≤ k.cells.length ∧ cs.size = n ∧ cs.toList.all isCell = true then some (put H b k (spl k.cells off cs.toList)) else none
  | _, _ => none
def st (P : Program) (t : TypeId) (H : AH) (a v : Value) : Option AH :=
  match aggT P t with
  | some true => stA (szT P t) H a v
  | some false => if szT P t = 1 then stC H a v else none
  | none => none
def box (t : TypeId) (H : AH) (v : Value) : Option (Value × AH) :=
  if okCells v = true then some (ptr H.length 0, mkB H v.cells.toList t .fix) else none
def newV (P : Program) (t : TypeId) (H : AH) : Option (Value × AH) := (zeroT P t).bind fun z => box t H z
def rep (z : List Value) : Nat → List Value
  | 0 => []
  | n + 1 => z ++ rep z n
def mkS (P : Program) (t : TypeId) (H : AH) (l c : Value) : Option (Value × AH) :=
  match P.underlying t, l, c with
  | some (.slice e), .int _ n, .int _ m =>
    (zeroT P e).bind fun z =>
      if 0 ≤ n ∧ n ≤ m ∧ m * byT P e ≤ 281474976710656 ∧ m ≤ 9223372036854775807 ∧ z.cells.size = szT P e ∧ okCells z = true then some (sl H.length 0 n.toNat m.toNat, mkB H (rep z.cells.toList m.toNat) e .fix) else none
  | _, _, _ => none

def fldA (P : Program) (s : TypeId) (a : Value) (i : Nat) : Option Value :=
  match P.underlying s, a with
  | some (.struct fs), .pointer (some ⟨b, off, none⟩) => (fs[i]?).bind fun f => if szT P f.type = 0 then none else some (ptr b (off + f.offset))
  | _, _ => none
def prt (P : Program) (t : TypeId) (cs : List Value) (off : Nat) : Option Value :=
  match aggT P t with
  | some true => some (.agg ((cs.drop off).take (szT P t)).toArray)
  | some false => cs[off]?
  | none => none
def fld (P : Program) (s : TypeId) (x : Value) (i : Nat) : Option Value :=
  match P.underlying s, x with
  | some (.struct fs), .agg cs => (fs[i]?).bind fun f => prt P f.type cs.toList f.offset
  | _, _ => none
def ixA (P : Program) (t : TypeId) (x i : Value) : Option Value :=
  match P.underlying t, x, i with
  | some (.slice e), .slice (some ⟨b, off, none⟩) len _, .int _ n => if (P.info? e).isSome = true ∧ 0 ≤ n ∧ n < len then some (ptr b (off + n.toNat * szT P e)) else none
  | some (.array len e), .pointer (some ⟨b, off, none⟩), .int _ n => if (P.info? e).isSome = true ∧ 0 ≤ n ∧ n < len then some (ptr b (off + n.toNat * szT P e)) else none
  | _, _, _ => none
def ix (P : Program) (t : TypeId) (x i : Value) : Option Value :=
  match P.underlying t, x, i with
  | some .string, .string s, .int _ n => if 0 ≤ n ∧ n < s.size then some (.int .u8 (s.data[n.toNat]?.getD 0).toNat) else none
  | some (.array len e), .agg cs, .int _ n => if (P.info? e).isSome = true ∧ 0 ≤ n ∧ n < len then prt P e cs.toList (n.toNat * szT P e) else none
  | _, _, _ => none
def intOr (v : Option Value) (d : Nat) : Option Int :=
  match v with
  | none => some d
  | some (.int _ n) => some n
  | some _ => none
def slc (P : Program) (t : TypeId) (x : Value) (lo hi : Option Value) : Option Value :=
  match P.underlying t, x with
  | some .string, .string s =>
    (intOr lo 0).bind fun l => (intOr hi s.size).bind fun h => if 0 ≤ l ∧ l ≤ h ∧ h ≤ s.size then some (.string (s.extract l.toNat h.toNat)) else none
  | some (.slice e), .slice (some ⟨b, off, none⟩) len cap =>
    (intOr lo 0).bind fun l => (intOr hi len).bind fun h => if (P.info? e).isSome = true ∧ 0 ≤ l ∧ l ≤ h ∧ h ≤ len then some (sl b (if cap = l.toNat then off else off + l.toNat * szT P e) (h.toNat - l.toNat) (cap - l.toNat)) else none
  | some (.slice e), .slice none 0 0 =>
    (intOr lo 0).bind fun l => (intOr hi 0).bind fun h => if (P.info? e).isSome = true ∧ l = 0 ∧ h = 0 then some (.slice none 0 0) else none
  | _, _ => none
def slc3 (P : Program) (t : TypeId) (H : AH) (x : Value) (lo hi : Option Value) (mx : Value) : Option Value :=
  match P.underlying t, x, intOr lo 0, hi, mx with
  | some (.slice e), .slice (some ⟨b, off, none⟩) len cap, some 0, some (.int _ h), .int _ m =>
    if (P.info? e).isSome = true then
      if h = 0 ∧ m = 0 then some (sl b off 0 0)
      else if h = (len : Int) ∧ m = (len : Int) then (blk H b).bind fun k => match k.kind with
        | .fix => some (sl b off len len)
        | _ => some (sl b off len cap)
      else none
    else none
  | some (.slice e), .slice none 0 0, some 0, some (.int _ 0), .int _ 0 => if (P.info? e).isSome = true then some (.slice none 0 0) else none
  | _, _, _, _, _ => none
def fillB (sizes : Nat → Option (Nat × Nat)) : List Value → List (Nat × Value) → Option (List Value)
  | cs, [] => some cs
  | cs, (i, v) :: r =>
    match sizes i with
    | none => none
    | some (off, n) => if v.cells.size = n ∧ off + n ≤ cs.length ∧ okCells v = true then fillB sizes (spl cs off v.cells.toList) r else none
def build (P : Program) (t : TypeId) (parts : List (Nat × Value)) : Option Value :=
  (zeroT P t).bind fun z =>
    match P.underlying t with
    | some (.struct fs) => if fs.toList.all (fun f => (P.info? f.type).isSome) = false then none else (fillB (fun i => (fs[i]?).map fun f => (f.offset, szT P f.type)) z.cells.toList parts).map fun cs => .agg cs.toArray
    | some (.array _ e) => if (P.info? e).isSome = false then none else (fillB (fun i => some (i * szT P e, szT P e)) z.cells.toList parts).map fun cs => .agg cs.toArray
    | _ => none
def buildS (P : Program) (t : TypeId) (H : AH) (len : Nat) (parts : List (Nat × Value)) : Option (Value × AH) :=
  match P.underlying t with
  | some (.slice e) =>
    (zeroT P e).bind fun z =>
      if len * szT P e ≤ 16777216 ∧ z.cells.size = szT P e then
        (fillB (fun i => some (i * szT P e, szT P e)) (rep z.cells.toList len) parts).map fun cs => (sl H.length 0 len len, mkB H cs e .fix)
      else none
  | _ => none

def still (P : Program) {α : Type} : Sem α → Option α
  | .pure a => some a
  | .program k => still P (k P)
  | _ => none
def isNilI : Value → Bool
  | .nilIface => true
  | _ => false
def nilEq : TypeDesc → Value → Value → Option Bool
  | .pointer _, .pointer (some _), .pointer none => some false
  | .pointer _, .pointer none, .pointer (some _) => some false
  | .slice _, .slice (some _) _ _, .slice none 0 0 => some false
  | .slice _, .slice none 0 0, .slice (some _) _ _ => some false
  | .func _ _ _, .func _ _ _, .nilFunc => some false
  | .func _ _ _, .nilFunc, .func _ _ _ => some false
  | _, _, _ => none
def eqL (P : Program) : List Field → Nat → List Value → List Value → Option Bool
  | [], _, [], [] => some true
  | f :: fs, i, x :: xs, y :: ys =>
    if f.offset = i ∧ f.name ≠ "_" ∧ aggT P f.type = some false then
      match P.underlying f.type, x, y with
      | some (.int _), .int k a, .int k' b => if k = k' then (eqL P fs (i + 1) xs ys).map fun r => decide (a = b) && r else none
      | some .bool, .bool a, .bool b => (eqL P fs (i + 1) xs ys).map fun r => (a == b) && r
      | some .string, .string a, .string b => (eqL P fs (i + 1) xs ys).map fun r => (a.toList == b.toList) && r
      | _, _, _ => none
    else none
  | _, _, _, _ => none
def aggEq (P : Program) (t : TypeId) (xs ys : List Value) : Option Bool :=
  if P.stoodInHeld t = false ∧ P.eqGuardType P.depth t = false then
    match P.underlying t with
    | some (.struct fs) => eqL P fs.toList 0 xs ys
    | _ => none
  else none
def bin (P : Program) (op : BinOp) (t : TypeId) (x y : Value) : Option Value :=
  if flat1 x = true ∧ flat1 y = true ∧ isNilI x = false then (still P (binOp op t x y)).bind fun v => if flat1 v = true then some v else none
  else match op, x, y with
    | .eql, .agg xs, .agg ys => (aggEq P t xs.toList ys.toList).map fun b => .bool b
    | .neq, .agg xs, .agg ys => (aggEq P t xs.toList ys.toList).map fun b => .bool !b
    | .eql, _, _ => (P.underlying t).bind fun D => (nilEq D x y).map fun b => .bool b
    | .neq, _, _ => (P.underlying t).bind fun D => (nilEq D x y).map fun b => .bool !b
    | _, _, _ => none
def un (P : Program) (op : UnOp) (x : Value) : Option Value :=
  if flat1 x = true then (still P (Op.unary op x)).bind fun v => if flat1 v = true then some v else none else none
def bytesOf : List Value → Option (List UInt8)
  | [] => some []
  | .int .u8 n :: r => (bytesOf r).map fun l => UInt8.ofNat n.toNat :: l
  | _ :: _ => none
def cellsOfBytes (s : ByteArray) : List Value := s.data.toList.map fun b => .int .u8 b.toNat
def sliceCells (sz : Nat) (H : AH) (x : Value) (n : Nat) : Option (List Value) :=
  match x with
  | .slice none 0 0 => if n = 0 then some [] else none
  | .slice (some ⟨b, off, none⟩) len _ => if n = 0 then some [] else if n ≤ len then (blk H b).bind fun k => rdN k off (n * sz) else none
  | .string s => if n ≤ s.size then some ((cellsOfBytes s).take n) else none
  | _ => none
def cv (P : Program) (src dst : TypeId) (x : Value) : Option Value :=
  match P.underlying src, P.underlying dst, x with
  | some _, some (.int k), .int _ n => some (.int k (k.wrap n))
  | some _, some .string, .string s => some (.string s)
  | _, _, _ => none
def cvS (P : Program) (src dst : TypeId) (H : AH) (x : Value) : Option Value :=
  match P.underlying src, P.underlying dst, x with
  | some (.slice e), some .string, .slice a len cap =>
    match P.underlying e with
    | some (.int .u8) => (sliceCells 1 H (.slice a len cap) len).bind fun cs => (bytesOf cs).map fun l => .string ⟨l.toArray⟩
    | _ => none
  | _, _, _ => none
def cvB (P : Program) (dst : TypeId) (H : AH) (x : Value) : Option (Value × AH) :=
  match P.underlying dst, x with
  | some (.slice e), .string s =>
    match P.underlying e with
    | some (.int .u8) => if 0 < s.size ∧ szT P e = 1 ∧ (P.info? e).isSome = true then some (sl H.length 0 s.size (s.size + 1), mkB H (cellsOfBytes s) e .byt) else none
    | _ => none
  | _, _ => none
def isStrToBytes (P : Program) (src dst : TypeId) : Bool :=
  match P.underlying src, P.underlying dst with
  | some .string, some (.slice _) => true
  | _, _ => false
def isBytesToString (P : Program) (src dst : TypeId) : Bool :=
  match P.underlying src, P.underlying dst with
  | some (.slice _), some .string => true
  | _, _ => false

def lenOf : Value → Option Nat
  | .slice none 0 0 => some 0
  | .slice (some _) n _ => some n
  | .string s => some s.size
  | _ => none
def isNotStr : Value → Bool
  | .string _ => false
  | _ => true
def gk (P : Program) (e : TypeId) : BK :=
  match P.underlying e with
  | some (.int .u8) => .buf
  | _ => .grow
def apS (kd : BK) (sz bytes : Nat) (e : TypeId) (H : AH) (s : Value) (n : Nat) (news : List Value) : Option (Value × AH) :=
  match s with
  | .slice none 0 0 => if n = 0 then some (.slice none 0 0, H) else if n * bytes ≤ 140737488355328 ∧ n ≤ 9223372036854775807 then some (sl H.length 0 n (n + 1), mkB H news e kd) else none
  | .slice (some ⟨b, off, none⟩) len cap =>
    if n = 0 then some (sl b off len cap, H)
    else if cap = 0 then (if n * bytes ≤ 140737488355328 ∧ n ≤ 9223372036854775807 then some (sl H.length 0 n (n + 1), mkB H news e kd) else none)
    else (blk H b).bind fun k => (rdN k off (len * sz)).bind fun old =>
      if (len + n) * bytes ≤ 140737488355328 ∧ len + n ≤ 9223372036854775807 ∧ k.elem = e then
        match k.kind with
        | .fix =>
          if len + n ≤ cap then (if off + (len + n) * sz ≤ k.cells.length then some (sl b off (len + n) cap, put H b k (spl k.cells (off + len * sz) news)) else none)
          else some (sl H.length 0 (len + n) (len + n + 1), mkB H (old ++ news) e kd)
        | .grow => if off = 0 then some (sl H.length 0 (len + n) (len + n + 1), mkB (kill H b) (old ++ news) e .grow) else none
        | .buf => if off = 0 ∧ k.cells.length = len * sz then some (sl H.length 0 (len + n) (len + n + 1), mkB (kill H b) (old ++ news) e .buf) else none
        | _ => none
      else none
  | _ => none
def ap (P : Program) (t u : TypeId) (H : AH) (s x : Value) : Option (Value × AH) :=
  match P.underlying t, P.underlying u with
  | some (.slice e), some (.slice _) => (zeroT P e).bind fun z => if 0 < szT P e ∧ z.cells.size = szT P e ∧ isNotStr x = true then (lenOf x).bind fun n => (sliceCells (szT P e) H x n).bind fun news => if news.all isCell = true then apS (gk P e) (szT P e) (byT P e) e H s n news else none else none
  | some (.slice e), some .string => (zeroT P e).bind fun z => if szT P e = 1 ∧ z.cells.size = szT P e then (lenOf x).bind fun n => (sliceCells (szT P e) H x n).bind fun news => if news.all isCell = true then apS (gk P e) (szT P e) (byT P e) e H s n news else none else none
  | some (.slice e), some (.int _) =>
    match s, x with
    | .slice none 0 0, .int _ n => (zeroT P e).bind fun z =>
      if szT P e = 1 ∧ z.cells.size = 1 ∧ 0 < n ∧ n ≤ 9223372036854775807 ∧ n * byT P e ≤ 140737488355328 then some (sl H.length 0 n.toNat (n.toNat + 1), mkB H (rep z.cells.toList n.toNat) e (gk P e)) else none
    | _, _ => none
  | _, _ => none
def cpy (P : Program) (t : TypeId) (H : AH) (d x : Value) : Option (Value × AH) :=
  match P.underlying t, d with
  | some (.slice e), .slice (some ⟨b, off, none⟩) len _ =>
    if (P.info? e).isSome = false then none else (lenOf x).bind fun n => (sliceCells (szT P e) H x (min n len)).bind fun cs =>
      if min n len = 0 then some (.int .i64 0, H)
      else (blk H b).bind fun k => if k.kind.wr = true ∧ off + cs.length ≤ k.cells.length ∧ cs.all isCell = true then some (.int .i64 (min n len : Nat), put H b k (spl k.cells off cs)) else none
  | some (.slice e), .slice none 0 0 => if (P.info? e).isSome = false then none else (lenOf x).bind fun _ => some (.int .i64 0, H)
  | _, _ => none
def sdV : Value → Option Value
  | .slice none 0 0 => some (.pointer none)
  | .slice (some ⟨b, off, none⟩) n _ => if n = 0 then none else some (.pointer (some ⟨b, off, none⟩))
  | _ => none
def usV (P : Program) (pt : TypeId) (H : AH) (p n : Value) : Option (Value × AH) :=
  match p, n with
  | .pointer none, .int .i64 0 => some (.string ⟨#[]⟩, H)
  | .pointer (some ⟨b, off, none⟩), .int .i64 n =>
    match P.underlying pt with
    | some (.pointer e) =>
      (blk H b).bind fun k => if 0 < n ∧ n ≤ 9223372036854775807 ∧ (k.kind.wr || k.kind == .buf) = true ∧ k.elem = e ∧ szT P e = 1 then (rdN k off n.toNat).bind fun cs => (bytesOf cs).map fun l => (.string ⟨l.toArray⟩, if k.kind = .buf then H else kill H b) else none
    | _ => none
  | _, _ => none
def lenV (P : Program) (t : TypeId) (x : Value) : Option Value :=
  match P.underlying t, x with
  | some .string, .string s => some (.int .i64 s.size)
  | some (.slice _), .slice _ n _ => some (.int .i64 n)
  | some (.array n _), _ => some (.int .i64 n)
  | _, _ => none
def mapB (H : AH) (b : Nat) : Option Blk := (blk H b).bind fun k => if k.kind = .map then some k else none
def mkM (t : TypeId) (H : AH) : Option (Value × AH) := some (.map (some H.length), mkB H [] t .map)
def keyEq : TypeDesc → Value → Value → Option Bool
  | .int _, .int k a, .int k' b => if k = k' then some (decide (a = b)) else none
  | .string, .string a, .string b => some (decide (a = b))
  | _, _, _ => none
def keyAt (D : TypeDesc) (key : Value) : List Value → Option (Option Nat)
  | k :: _ :: r => (keyEq D key k).bind fun b => (keyAt D key r).map fun o => bif b then some 0 else o.map (· + 2)
  | _ => some none
def keyOK : TypeDesc → Value → Bool
  | .int _, .int _ _ => true
  | .string, .string _ => true
  | _, _ => false
def mpU (P : Program) (t : TypeId) (H : AH) (m key v : Value) : Option AH :=
  match P.underlying t, m with
  | some (.map kt _), .map (some b) =>
    (P.underlying kt).bind fun D => (mapB H b).bind fun k =>
      if keyOK D key = true ∧ isCell v = true then (keyAt D key k.cells).map fun o => match o with
        | some i => put H b k (k.cells.set (i + 1) v)
        | none => put H b k (k.cells ++ [key, v])
      else none
  | _, _ => none
def mapCells (H : AH) : Value → Option (List Value)
  | .map none => some []
  | .map (some b) => (mapB H b).map fun k => k.cells
  | _ => none
def lkU (P : Program) (t : TypeId) (H : AH) (m key : Value) (two : Bool) : Option Value :=
  match P.underlying t with
  | some (.map kt et) =>
    (P.underlying kt).bind fun D => (mapCells H m).bind fun cs =>
      if keyOK D key = true then (keyAt D key cs).bind fun o => match o with
        | some i => (cs[i + 1]?).map fun v => if two = true then .tuple #[v, .bool true] else v
        | none => (zeroT P et).map fun z => if two = true then .tuple #[z, .bool false] else z
      else none
  | _ => none
def lenM (P : Program) (t : TypeId) (H : AH) (m : Value) : Option Value :=
  match P.underlying t with
  | some (.map _ _) => (mapCells H m).map fun cs => .int .i64 (cs.length / 2 : Nat)
  | _ => none
def isMapT (P : Program) (t : TypeId) : Bool :=
  match P.underlying t with
  | some (.map _ _) => true
  | _ => false
def capV (P : Program) (t : TypeId) (x : Value) : Option Value :=
  match P.underlying t, x with
  | some (.slice _), .slice none 0 0 => some (.int .i64 0)
  | _, _ => none
def minV (x y : Value) : Option Value :=
  match x, y with
  | .int k a, .int _ b => some (.int k (if b < a then b else a))
  | _, _ => none
def maxV (x y : Value) : Option Value :=
  match x, y with
  | .int k a, .int _ b => some (.int k (if b > a then b else a))
  | _, _ => none

def b2 {R : Type} (x : Option (Value × AH)) (f : Value → AH → Option R) : Option R := x.bind fun p => f p.1 p.2
abbrev CallF := FuncId → List Value → AH → Option (Value × AH)
def yOff : Nat := 1000000000000
def callV (call : CallF) (f : Value) (args : List Value) (H : AH) : Option (Value × AH) :=
  match f with
  | .func (.func g) first captured => bif Nat.blt g yOff then call g (first.toList ++ (args ++ captured.toList)) H else none
  | _ => none
def callY (call : CallF) (f : Value) (args : List Value) (H : AH) : Option (Value × AH) :=
  match f with
  | .func (.yield b) _ _ => call (yOff + b) args H
  | f => callV call f args H
def aIf {R : Type} (v : Value) (x y : Option R) : Option R :=
  match v with
  | .bool true => x
  | .bool false => y
  | _ => none
def gOp (u : Value) (want : Bool) (x : Option (Value × AH)) (H : AH) : Option (Value × AH) :=
  match u with
  | .bool b => if b = want then x else some (undef, H)
  | .tuple vs => bif vs.size == 0 then some (undef, H) else none
  | _ => none
def pickV (c x y : Value) : Option Value :=
  match c with
  | .bool true => some x
  | .bool false => some y
  | _ => none
def ext (v : Value) (i : Nat) : Option Value :=
  match v with
  | .tuple vs => vs[i]?
  | _ => none
def nilChk (v : Value) : Option Value :=
  match v with
  | .pointer (some a) => some (.pointer (some a))
  | .func (.func f) a b => some (.func (.func f) a b)
  | _ => none
def opv (T : List Value) : Operand → Value
  | .tmp t => T.getD t undef
  | .const v => if flat v = true then v else unk
  | .global _ => unk
  | .func f => .func (.func f) #[] #[]
def fold1 (f : Value → Value → Option Value) : List Value → Option Value
  | [] => none
  | x :: r => go x r
where go : Value → List Value → Option Value
  | x, [] => some x
  | x, y :: r => (f x y).bind fun z => go z r

section
variable {R : Type} (P : Program) (call : CallF)
def aCall (ρ : Operand → Value) (c : Call) (H : AH) (K : Value → AH → Option R) : Option R :=
  match c.callee with
  | .value f => (callV call (ρ f) (c.args.toList.map ρ) H).bind fun p => K p.1 p.2
  | .builtin .append =>
    match c.argTypes.toList, c.args.toList with
    | [t, u], [s, x] => (ap P t u H (ρ s) (ρ x)).bind fun p => K p.1 p.2
    | _, _ => none
  | .builtin .copy =>
    match c.argTypes.toList, c.args.toList with
    | [t, _], [s, x] => (cpy P t H (ρ s) (ρ x)).bind fun p => K p.1 p.2
    | _, _ => none
  | .builtin .len =>
    match c.argTypes.toList, c.args.toList with
    | [t], [x] => bif isMapT P t then (lenM P t H (ρ x)).bind fun v => K v H else (lenV P t (ρ x)).bind fun v => K v H
    | _, _ => none
  | .builtin .cap =>
    match c.argTypes.toList, c.args.toList with
    | [t], [x] => (capV P t (ρ x)).bind fun v => K v H
    | _, _ => none
  | .builtin .min => (fold1 minV (c.args.toList.map ρ)).bind fun v => K v H
  | .builtin .max => (fold1 maxV (c.args.toList.map ρ)).bind fun v => K v H
  | .builtin .unsafeSliceData =>
    match c.args.toList with
    | [x] => (sdV (ρ x)).bind fun v => K v H
    | _ => none
  | .builtin .unsafeString =>
    match c.argTypes.toList, c.args.toList with
    | [pt, _], [p, n] => (usV P pt H (ρ p) (ρ n)).bind fun q => K q.1 q.2
    | _, _ => none
  | _ => none
def aOp (ρ : Operand → Value) (o : Op) (H : AH) (K : Value → AH → Option R) : Option R :=
  match o with
  | .move x => K (ρ x) H
  | .assign x => K (ρ x) H
  | .pick c a b => (pickV (ρ c) (ρ a) (ρ b)).bind fun v => K v H
  | .alloc t => (newV P t H).bind fun p => K p.1 p.2
  | .box t x => (box t H (ρ x)).bind fun p => K p.1 p.2
  | .build t ps => (build P t (ps.toList.map fun p => (p.1, ρ p.2))).bind fun v => K v H
  | .buildSlice t n ps => (buildS P t H n (ps.toList.map fun p => (p.1, ρ p.2))).bind fun p => K p.1 p.2
  | .load t a => (ld P t H (ρ a)).bind fun v => K v H
  | .store t a x => (st P t H (ρ a) (ρ x)).bind fun H' => K undef H'
  | .nilCheck x => (nilChk (ρ x)).bind fun v => K v H
  | .binOp op t x y _ => (bin P op t (ρ x) (ρ y)).bind fun v => K v H
  | .unOp op _ x => (un P op (ρ x)).bind fun v => K v H
  | .convert s d x => bif isBytesToString P s d then (cvS P s d H (ρ x)).bind fun v => K v H else (cv P s d (ρ x)).bind fun v => K v H
  | .makeFunc (.func f) first captured => K (.func (.func f) (first.toList.map ρ).toArray (captured.toList.map ρ).toArray) H
  | .makeSlice t l c => (mkS P t H (ρ l) (ρ c)).bind fun p => K p.1 p.2
  | .slice t x lo hi none => (slc P t (ρ x) (lo.map ρ) (hi.map ρ)).bind fun v => K v H
  | .slice t x lo hi (some mx) => (slc3 P t H (ρ x) (lo.map ρ) (hi.map ρ) (ρ mx)).bind fun v => K v H
  | .fieldAddr s x i => (fldA P s (ρ x) i).bind fun v => K v H
  | .field s x i => (fld P s (ρ x) i).bind fun v => K v H
  | .indexAddr t x i => (ixA P t (ρ x) (ρ i)).bind fun v => K v H
  | .index t x i => (ix P t (ρ x) (ρ i)).bind fun v => K v H
  | .extract t i => (ext (ρ t) i).bind fun v => K v H
  | .makeMap t none => (mkM t H).bind fun p => K p.1 p.2
  | .mapUpdate t m k x => (mpU P t H (ρ m) (ρ k) (ρ x)).bind fun H' => K undef H'
  | .insert t m k x => (mpU P t H (ρ m) (ρ k) (ρ x)).bind fun H' => K undef H'
  | .lookup t m k two => (lkU P t H (ρ m) (ρ k) two).bind fun v => K v H
  | .call c => aCall P call ρ c H K
  | _ => none
def opY (ρ : Operand → Value) (o : Op) (H : AH) (K : Value → AH → Option R) : Option R :=
  match o with
  | .call ⟨.value f, args, _⟩ => (callY call (ρ f) (args.toList.map ρ) H).bind fun p => K p.1 p.2
  | .convert s d x => bif isStrToBytes P s d then (cvB P d H (ρ x)).bind fun p => K p.1 p.2 else aOp P call ρ (.convert s d x) H K
  | o => aOp P call ρ o H K
def putT (T : List Value) (d : Option Tmp) (v : Value) : List Value :=
  match d with
  | some d => T.set d v
  | none => T
def yieldV (ops : Array Oper) (T : List Value) (j : Nat) : Value :=
  match (ops[j]?).bind (·.dst) with
  | some d => T.getD d undef
  | none => undef

def aRes (ρ : Operand → Value) (op : Op) (H : AH) : Option (Value × AH) := aOp P call ρ op H fun v H' => some (v, H')
def evOps (ops : Array Oper) : List Oper → List Value → AH → (List Value → AH → Option R) → Option R
  | [], T, H, K => K T H
  | o :: r, T, H, K =>
    match o.guard with
    | none => opY P call (opv T) o.op H fun v H' => evOps ops r (putT T o.dst v) H' K
    | some (j, want) => (gOp (yieldV ops T j) want (opY P call (opv T) o.op H fun v H' => some (v, H')) H).bind fun p => evOps ops r (putT T o.dst p.1) p.2 K

open Classical in
noncomputable def aChk {R : Type} (p : Prop) (x : Option R) : Option R := if p then x else none
def isAlloc : Op → Bool
  | .alloc _ => true
  | .box _ _ => true
  | .buildSlice _ _ _ => true
  | .makeSlice _ _ _ => true
  | .makeMap _ _ => true
  | _ => false
def isEff : Op → Bool
  | .store _ _ _ => true
  | .mapUpdate _ _ _ _ => true
  | .insert _ _ _ _ => true
  | .call { callee := .builtin .len, .. } => false
  | .call { callee := .builtin .cap, .. } => false
  | .call { callee := .builtin .min, .. } => false
  | .call { callee := .builtin .max, .. } => false
  | .call { callee := .builtin .unsafeSliceData, .. } => false
  | .call _ => true
  | _ => false
def opRead (ρ : Operand → Value) : Op → Option (AH → Option Value)
  | .load t a => some fun H => ld P t H (ρ a)
  | .convert s d x => bif isBytesToString P s d then some fun H => cvS P s d H (ρ x) else none
  | .lookup t m k two => some fun H => lkU P t H (ρ m) (ρ k) two
  | .slice t x lo hi (some mx) => some fun H => slc3 P t H (ρ x) (lo.map ρ) (hi.map ρ) (ρ mx)
  | .call ⟨.builtin .len, args, ts⟩ =>
    match ts.toList, args.toList with
    | [t], [x] => bif isMapT P t then some fun H => lenM P t H (ρ x) else none
    | _, _ => none
  | _ => none
def maskOf (acc : List Nat) (o : Oper) : Nat := o.after.toList.foldl (fun s e => bif Region.binds .any e then s ||| (2 ^ e.on ||| acc.getD e.on 0) else s) 0
def befL (acc : List Nat) : List Oper → List Nat
  | [] => acc
  | o :: r => befL (acc ++ [maskOf acc o]) r
def ordB (bs : List Nat) (i j : Nat) : Bool := (bs.getD j 0).testBit i
def edgesOK (ops : Array Oper) : Bool := (List.range ops.size).all fun j => (ops[j]?).any fun o => o.after.all fun e => !Region.binds .any e || decide (e.on < j)
def regOK (ops : Array Oper) : Bool :=
  edgesOK ops &&
  (List.range ops.size).all fun j => (List.range j).all fun i =>
    ordB (befL [] ops.toList) i j || ((ops[i]?).any fun oi => (ops[j]?).any fun oj => !(isEff oi.op && isEff oj.op) && oi.apart ops oj && oj.apart ops oi)
def isDef : Op → Bool
  | .defer _ => true
  | _ => false
def noDef (ops : Array Oper) : Bool := ops.toList.all fun o => !isDef o.op
structure Rd where
  at_ : Nat
  ok : AH → Prop
noncomputable def chkReads (bs : List Nat) (j : Nat) (H : AH) (x : Option R) : List Rd → Option R
  | [] => x
  | r :: rs => bif ordB bs r.at_ j then chkReads bs j H x rs else aChk (r.ok H) (chkReads bs j H x rs)
def extH (X H H' : AH) : AH := X.take H.length ++ List.replicate (H.length - X.length) none ++ [blk H' H.length]
def extP (H H' : AH) (p : Nat × AH × AH) : Nat × AH × AH := (p.1, p.2.1, extH p.2.2 H H')
def isConv : Op → Bool
  | .convert _ _ _ => true
  | _ => false
def pastH (c : Bool) (p : Nat × AH × AH) : AH := bif c then p.2.2 else p.2.1
noncomputable def chkPast (bs : List Nat) (j : Nat) (ok : AH → Prop) (c : Bool) (x : Option R) : List (Nat × AH × AH) → Option R
  | [] => x
  | p :: ps => bif ordB bs p.1 j then chkPast bs j ok c x ps else aChk (ok (pastH c p)) (chkPast bs j ok c x ps)
noncomputable def evD (ops : Array Oper) (bs : List Nat) : List Oper → Nat → List Value → AH → List (Nat × AH × AH) → List Rd → (List Value → AH → Option R) → Option R
  | [], _, T, H, _, _, K => K T H
  | o :: r, j, T, H, past, reads, K =>
    match o.guard with
    | none =>
      match opRead P (opv T) o.op with
      | some f => (f H).bind fun v => chkPast bs j (fun X => f X = some v) (isConv o.op) (evD ops bs r (j + 1) (putT T o.dst v) H past (⟨j, fun X => f X = some v⟩ :: reads) K) past
      | none => aOp P call (opv T) o.op H fun v H' =>
        bif isEff o.op then chkReads bs j H' (evD ops bs r (j + 1) (putT T o.dst v) H' ((j, H, H) :: past) reads K) reads
        else bif isAlloc o.op then evD ops bs r (j + 1) (putT T o.dst v) H' (past.map (extP H H')) (⟨j, fun X => blk X H.length = blk H' H.length⟩ :: reads) K
        else evD ops bs r (j + 1) (putT T o.dst v) H' past reads K
    | some (g, want) =>
      match opRead P (opv T) o.op with
      | some f => (gOp (yieldV ops T g) want ((f H).bind fun v => some (v, H)) H).bind fun p => chkPast bs j (fun X => yieldV ops T g = .bool want → f X = some p.1) (isConv o.op) (evD ops bs r (j + 1) (putT T o.dst p.1) H past (⟨j, fun X => yieldV ops T g = .bool want → f X = some p.1⟩ :: reads) K) past
      | none => (gOp (yieldV ops T g) want (aRes P call (opv T) o.op H) H).bind fun p =>
        bif isEff o.op then chkReads bs j p.2 (evD ops bs r (j + 1) (putT T o.dst p.1) p.2 ((j, H, H) :: past) reads K) reads
        else bif isAlloc o.op then evD ops bs r (j + 1) (putT T o.dst p.1) p.2 (past.map (extP H p.2)) (⟨j, fun X => yieldV ops T g = .bool want → blk X H.length = blk p.2 H.length⟩ :: reads) K
        else evD ops bs r (j + 1) (putT T o.dst p.1) p.2 past reads K
end

inductive EX where
  | normal
  | exit (id : Nat)
  | ret
abbrev Out := EX × List Value × AH
def firstId : Code → Nat
  | .region id _ _ => id
  | .seq a _ => firstId a
  | .block _ b => firstId b
  | .loop b => firstId b
  | .scope b => firstId b
  | _ => 0
abbrev Tbl := List (Nat × List Nat)
def keepOf : Tbl → Nat → Option (List Nat)
  | [], _ => none
  | (k, l) :: r, j => bif k == j then some l else keepOf r j
def maskT (keep : List Nat) : Nat → List Value → List Value
  | _, [] => []
  | i, v :: r => (bif keep.contains i then v else unk) :: maskT keep (i + 1) r
def cutT (tb : Tbl) (key : Nat) (T : List Value) : List Value :=
  match keepOf tb key with
  | some l => maskT l 0 T
  | none => T
def loopK (next : List Value → AH → Option Out) (c1 c2 : List Value → List Value) (e : EX) (T : List Value) (H : AH) : Option Out :=
  match e with
  | .normal => next (c1 T) H
  | e => some (e, c2 T, H)
def iterD (step : List Value → AH → (EX → List Value → AH → Option Out) → Option Out) (c1 c2 : List Value → List Value) : Nat → List Value → AH → Option Out
  | 0, _, _ => none
  | n + 1, T, H => step T H (loopK (iterD step c1 c2 n) c1 c2)
def kSeq {R : Type} (f : List Value → AH → Option R) (K : EX → List Value → AH → Option R) (e : EX) (T : List Value) (H : AH) : Option R :=
  match e with
  | .normal => f T H
  | e => K e T H
def kBlock {R : Type} (id : Nat) (K : EX → List Value → AH → Option R) (e : EX) (T : List Value) (H : AH) : Option R :=
  match e with
  | .exit i => bif i == id then K .normal T H else K (.exit i) T H
  | e => K e T H

def rgs : Code → List (Array Tmp × Code × Code)
  | .seq a b => rgs a ++ rgs b
  | .cond _ a b => rgs a ++ rgs b
  | .block _ b => rgs b
  | .loop b => rgs b
  | .scope b => rgs b
  | .rangeFunc _ ps a b => (ps, a, b) :: (rgs a ++ rgs b)
  | _ => []
def rgFind (key : Nat) : List (Array Tmp × Code × Code) → Option (Array Tmp × Code × Code)
  | [] => none
  | r :: l => bif firstId r.2.2 == key then some r else rgFind key l
def rangeAt (P : Program) (f key : Nat) : Option (Array Tmp × Code × Code) := (P.funcs[f]?).bind fun fn => (fn.body).bind fun c => rgFind key (rgs c)
def fidOf (tb : Tbl) : Nat := (keepOf tb 2).elim 0 fun l => l.headD 0
def setSt (H : AH) (b c d : Nat) : Option AH :=
  (blk H b).bind fun k => match k.kind, k.cells with
    | .loop _ _, .int .i64 x :: T => if x = (c : Int) then some (put H b k (.int .i64 (d : Int) :: T)) else none
    | _, _ => none
def getSt (H : AH) (b : Nat) : Option Nat :=
  (blk H b).bind fun k => match k.kind, k.cells with
    | .loop _ _, .int .i64 x :: _ => some x.toNat
    | _, _ => none
def stX {R : Type} (c : Nat) (K : EX → Option R) : Option R :=
  match c with
  | 0 => K .normal
  | 1 => none
  | 2 => K .ret
  | n + 3 => K (.exit n)
def xSt : EX → Nat
  | .normal => 0
  | .ret => 2
  | .exit n => n + 3
def xB : EX → Bool
  | .normal => true
  | _ => false
def rgCall (call : CallF) (g : Value) (f key : Nat) (T : List Value) (H : AH) : Option (Value × AH) :=
  callV call g [.func (.yield H.length) #[] #[]] (mkB H (.int .i64 0 :: T) key (.loop f key))
def rgBack {R : Type} (b : Nat) (H : AH) (K : EX → AH → Option R) : Option R := (getSt H b).bind fun c => stX c fun e => K e (kill H b)
def putAll : List Tmp → List Value → List Value → List Value
  | p :: ps, v :: vs, T => putAll ps vs (T.set p v)
  | _, _, T => T

noncomputable section
variable (P : Program) (call : CallF) (n : Nat) (tb : Tbl)
def evalK : Code → {R : Type} → List Value → AH → (EX → List Value → AH → Option R) → Option R
  | .skip, _, T, H, K => K .normal T H
  | .label _, _, T, H, K => K .normal T H
  | .region _ ops draw, _, T, H, K =>
    bif draw then (bif regOK ops && noDef ops then evD P call ops (befL [] ops.toList) ops.toList 0 T H [] [] fun T H => K .normal T H else none)
    else evOps P call ops ops.toList T H fun T H => K .normal T H
  | .seq a b, _, T, H, K => evalK a T H (kSeq (fun T' H' => evalK b (cutT tb (3 * firstId b) T') H' K) K)
  | .cond c x y, _, T, H, K => aIf (opv T c) (evalK x T H K) (evalK y T H K)
  | .block id b, _, T, H, K => evalK b T H (kBlock id K)
  | .loop b, _, T, H, K => (iterD (fun T H K => evalK b T H K) (cutT tb (3 * firstId b + 1)) (cutT tb (3 * firstId b + 2)) n (cutT tb (3 * firstId b + 1) T) H).bind fun p => K p.1 p.2.1 p.2.2
  | .exit id, _, T, H, K => K (.exit id) T H
  | .scope b, _, T, H, K => evalK b T H K
  | .ret, _, T, H, K => K .ret T H
  | .rangeFunc g _ _ b, _, T, H, K => (rgCall call (opv T g) (fidOf tb) (firstId b) (cutT tb (3 * firstId b + 1) T) H).bind fun p => rgBack H.length p.2 fun e H' => K e (cutT tb (3 * firstId b + 2) T) H'
  | _, _, _, _, _ => none
def roundY (assign body : Code) (b : Nat) (T : List Value) (H : AH) : Option (Value × AH) :=
  evalK P call n tb assign T H fun e T1 H1 => match e with
    | .normal => (setSt H1 b 0 1).bind fun H2 => evalK P call n tb body T1 H2 fun e _ H3 => (setSt H3 b 1 (xSt e)).bind fun H4 => some (.bool (xB e), H4)
    | _ => none
def resume {R : Type} : Code → List Nat → EX → List Value → AH → (EX → List Value → AH → Option R) → Option R
  | .seq a b, 0 :: p, e, T, H, K => resume a p e T H (kSeq (fun T' H' => evalK P call n tb b (cutT tb (3 * firstId b) T') H' K) K)
  | .seq _ b, 1 :: p, e, T, H, K => resume b p e T H K
  | .cond _ x _, 1 :: p, e, T, H, K => resume x p e T H K
  | .cond _ _ y, 2 :: p, e, T, H, K => resume y p e T H K
  | .block id b, 0 :: p, e, T, H, K => resume b p e T H (kBlock id K)
  | .scope b, 0 :: p, e, T, H, K => resume b p e T H K
  | _, _, e, T, H, K => K e T H
def codeAt : Code → List Nat → Code
  | .seq a _, 0 :: p => codeAt a p
  | .seq _ b, 1 :: p => codeAt b p
  | .cond _ x _, 1 :: p => codeAt x p
  | .cond _ _ y, 2 :: p => codeAt y p
  | .block _ b, 0 :: p => codeAt b p
  | .scope b, 0 :: p => codeAt b p
  | .loop b, 0 :: p => codeAt b p
  | c, _ => c
def resOne (T : List Value) (H : AH) : ResultVar → Option Value
  | .tmp t => some (T.getD t undef)
  | .cell a t => ld P t H (T.getD a undef)
def resAll (T : List Value) (H : AH) : List ResultVar → Option (List Value)
  | [] => some []
  | r :: rs => (resOne P T H r).bind fun v => (resAll T H rs).bind fun vs => some (v :: vs)
def oneOf : List Value → Value
  | [v] => v
  | vs => .tuple vs.toArray
def resK (rs : List ResultVar) (e : EX) (T : List Value) (H : AH) : Option (Value × AH) :=
  match e with
  | .exit _ => none
  | _ => (resAll P T H rs).bind fun vs => some (oneOf vs, H)
def bodyOf (f : Func) : Code := f.body.getD .skip
def args0 (f : Func) (args : List Value) : List Value := args ++ List.replicate (f.ntmps - args.length) undef
def runFn (f : Func) (args : List Value) (H : AH) : Option (Value × AH) :=
  bif f.body.isSome && f.name != "runtime.NumGoroutine" then evalK P call n tb (bodyOf f) (args0 f args) H (resK P f.results.toList) else none
end
structure Mid where
  path : List Nat
  len : Nat
  ins : List Nat
  keep : List Nat
  f : List Value → AH → Option AH
noncomputable section
variable (P : Program) (call : CallF) (n : Nat) (tb : Tbl) (M : Mid)
def midT (T : List Value) : List Value := maskT M.keep 0 T
def midK {R : Type} (T : List Value) (H : AH) (K : EX → List Value → AH → Option R) : Option R :=
  bif Nat.beq T.length M.len then (M.f (M.ins.map fun i => T.getD i undef) H).bind fun H' => K .normal (midT M T) H' else none
def evalP : Code → List Nat → {R : Type} → List Value → AH → (EX → List Value → AH → Option R) → Option R
  | .seq a b, 0 :: p, _, T, H, K => evalP a p T H (kSeq (fun T' H' => evalK P call n tb b (cutT tb (3 * firstId b) T') H' K) K)
  | .seq a b, 1 :: p, _, T, H, K => evalK P call n tb a T H (kSeq (fun T' H' => evalP b p (cutT tb (3 * firstId b) T') H' K) K)
  | .cond c x y, 1 :: p, _, T, H, K => aIf (opv T c) (evalP x p T H K) (evalK P call n tb y T H K)
  | .cond c x y, 2 :: p, _, T, H, K => aIf (opv T c) (evalK P call n tb x T H K) (evalP y p T H K)
  | .block id b, 0 :: p, _, T, H, K => evalP b p T H (kBlock id K)
  | .scope b, 0 :: p, _, T, H, K => evalP b p T H K
  | _, [], _, T, H, K => midK M T H K
  | _, _, _, _, _, _ => none
def runMid (f : Func) (args : List Value) (H : AH) : Option (Value × AH) :=
  bif f.body.isSome && f.name != "runtime.NumGoroutine" then evalP P call n tb M (bodyOf f) M.path (args0 f args) H (resK P f.results.toList) else none
end
noncomputable def runY (P : Program) (call : CallF) (n : Nat) (tbs : FuncId → Tbl) (b : Nat) (args : List Value) (H : AH) : Option (Value × AH) :=
  (blk H b).bind fun k => match k.kind, k.cells with
    | .loop f key, _ :: T => (rangeAt P f key).bind fun r => bif args.length == r.1.size && ((rgs r.2.1).isEmpty && (rgs r.2.2).isEmpty) then roundY P call n (tbs f) r.2.1 r.2.2 b (putAll r.1.toList args T) H else none
    | _, _ => none
abbrev Given := FuncId → Option (CallF → Nat → List Value → AH → Option (Value × AH))
def plain (g : List Value → AH → Option (Value × AH)) : CallF → Nat → List Value → AH → Option (Value × AH) := fun _ _ => g
noncomputable def run (P : Program) (tbs : FuncId → Tbl) (gv : Given) : Nat → FuncId → List Value → AH → Option (Value × AH)
  | 0, _, _, _ => none
  | k + 1, f, args, H =>
    bif Nat.ble yOff f then runY P (run P tbs gv k) k tbs (f - yOff) args H
    else match gv f with
    | some g => g (run P tbs gv k) k args H
    | none => (P.funcs[f]?).bind fun fn => runFn P (run P tbs gv k) k (tbs f) fn args H
def nodupB : List Nat → Bool
  | [] => true
  | x :: l => !(l.contains x) && nodupB l
def rangesGo (tbs : FuncId → Tbl) : Nat → List Func → Bool
  | _, [] => true
  | i, fn :: l => (match fn.body with
    | none => true
    | some c => (rgs c).isEmpty || (fidOf (tbs i) == i && nodupB ((rgs c).map fun x => firstId x.2.2))) && rangesGo tbs (i + 1) l
def rangesB (P : Program) (tbs : FuncId → Tbl) : Bool := rangesGo tbs 0 P.funcs.toList
noncomputable def roundOf (P : Program) (call : CallF) (n : Nat) (tbs : FuncId → Tbl) (f key b : Nat) (T args : List Value) (H : AH) : Option (Value × AH) :=
  (rangeAt P f key).bind fun r => bif args.length == r.1.size && ((rgs r.2.1).isEmpty && (rgs r.2.2).isEmpty) then roundY P call n (tbs f) r.2.1 r.2.2 b (putAll r.1.toList args T) H else none
theorem run_round {P : Program} {tbs : FuncId → Tbl} {gv : Given} {k f key b e : Nat} {c : Value} {T args : List Value} {H : AH} (hb : blk H b = some ⟨c :: T, e, .loop f key⟩) :
    run P tbs gv (k + 1) (yOff + b) args H = roundOf P (run P tbs gv k) k tbs f key b T args H := by
  unfold run
  have h1 : Nat.ble yOff (yOff + b) = true := Nat.ble_eq_true_of_le (Nat.le_add_right _ _)
  rw [h1]
  simp only [cond_true, Nat.add_sub_cancel_left]
  unfold runY
  rw [hb]
  rfl
end Go.AM
namespace Go.AM
variable {α β R : Type} {P : Program}


def Ev (g : Nat → Nat → Option α) (Q : α → Prop) : Prop := ∃ r, Q r ∧ ∃ N, ∀ k n, N ≤ k → N ≤ n → g k n = some r

theorem Ev.ret {Q : α → Prop} {r : α} (h : Q r) : Ev (fun _ _ => some r) Q := ⟨r, h, 0, fun _ _ _ _ => rfl⟩
theorem Ev.mono {g : Nat → Nat → Option α} {Q Q' : α → Prop} (h : Ev g Q) (hq : ∀ r, Q r → Q' r) : Ev g Q' :=
  h.elim fun r hr => ⟨r, hq r hr.1, hr.2⟩
theorem Ev.eq {g h : Nat → Nat → Option α} {Q : α → Prop} (e : ∀ k n, g k n = h k n) (hh : Ev h Q) : Ev g Q := by
  obtain ⟨r, hr, N, hN⟩ := hh
  exact ⟨r, hr, N, fun k n a b => (e k n).trans (hN k n a b)⟩
theorem Ev.bind {g : Nat → Nat → Option α} {f : Nat → Nat → α → Option β} {Q1 : α → Prop} {Q : β → Prop} (h1 : Ev g Q1) (h2 : ∀ r, Q1 r → Ev (fun k n => f k n r) Q) :
    Ev (fun k n => (g k n).bind (f k n)) Q := by
  obtain ⟨r, hr, N, hN⟩ := h1
  obtain ⟨s, hs, M, hM⟩ := h2 r hr
  refine ⟨s, hs, max N M, fun k n a b => ?_⟩
  show (g k n).bind (f k n) = some s
  rw [hN k n (by omega) (by omega)]
  exact hM k n (by omega) (by omega)
theorem Ev.prim {E : Option α} {a : α} {f : Nat → Nat → α → Option β} {Q : β → Prop} (h : E = some a) (h2 : Ev (fun k n => f k n a) Q) : Ev (fun k n => E.bind (f k n)) Q :=
  Ev.eq (fun _ _ => by rw [h]; rfl) h2
theorem Ev.assoc {g : Nat → Nat → Option α} {f : Nat → Nat → α → Option β} {f2 : Nat → Nat → β → Option R} {Q : R → Prop} (h : Ev (fun k n => (g k n).bind fun x => (f k n x).bind (f2 k n)) Q) :
    Ev (fun k n => ((g k n).bind (f k n)).bind (f2 k n)) Q := Ev.eq (fun _ _ => Option.bind_assoc ..) h
theorem Ev.b2 {g : Nat → Nat → Option (Value × AH)} {f : Nat → Nat → Value → AH → Option R} {Q1 : Value × AH → Prop} {Q : R → Prop} (h1 : Ev g Q1) (h2 : ∀ v H, Q1 (v, H) → Ev (fun k n => f k n v H) Q) :
    Ev (fun k n => Go.AM.b2 (g k n) (f k n)) Q := Ev.bind h1 fun r hr => h2 r.1 r.2 hr
theorem Ev.prim2 {E : Option (Value × AH)} {v : Value} {H : AH} {f : Nat → Nat → Value → AH → Option R} {Q : R → Prop} (h : E = some (v, H)) (h2 : Ev (fun k n => f k n v H) Q) :
    Ev (fun k n => Go.AM.b2 E (f k n)) Q := Ev.eq (fun _ _ => by rw [h]; rfl) h2
theorem Ev.chk {x : Nat → Nat → Option α} {Q : α → Prop} {p : Prop} (hp : p) (h : Ev x Q) : Ev (fun k n => aChk p (x k n)) Q :=
  Ev.eq (fun _ _ => by unfold aChk; exact if_pos hp) h
theorem Ev.gDo {w : Bool} {E : Nat → Nat → Option (Value × AH)} {H : AH} {f : Nat → Nat → Value → AH → Option R} {Q : R → Prop} (h : Ev (fun k n => Go.AM.b2 (E k n) (f k n)) Q) :
    Ev (fun k n => Go.AM.b2 (gOp (.bool w) w (E k n) H) (f k n)) Q := Ev.eq (fun _ _ => by unfold gOp; simp) h
theorem Ev.gSkip {w : Bool} {E : Nat → Nat → Option (Value × AH)} {H : AH} {f : Nat → Nat → Value → AH → Option R} {Q : R → Prop} (h : Ev (fun k n => f k n undef H) Q) :
    Ev (fun k n => Go.AM.b2 (gOp (.bool w) (!w) (E k n) H) (f k n)) Q := Ev.eq (fun _ _ => by unfold gOp; cases w <;> simp [Go.AM.b2]) h
theorem Ev.gSkipT {E : Nat → Nat → Option (Value × AH)} {H : AH} {f : Nat → Nat → Value → AH → Option R} {Q : R → Prop} (h : Ev (fun k n => f k n undef H) Q) :
    Ev (fun k n => Go.AM.b2 (gOp (.bool false) true (E k n) H) (f k n)) Q := Ev.gSkip (w := false) h
theorem Ev.gSkipF {E : Nat → Nat → Option (Value × AH)} {H : AH} {f : Nat → Nat → Value → AH → Option R} {Q : R → Prop} (h : Ev (fun k n => f k n undef H) Q) :
    Ev (fun k n => Go.AM.b2 (gOp (.bool true) false (E k n) H) (f k n)) Q := Ev.gSkip (w := true) h
theorem Ev.gUndef {w : Bool} {E : Nat → Nat → Option (Value × AH)} {H : AH} {f : Nat → Nat → Value → AH → Option R} {Q : R → Prop} (h : Ev (fun k n => f k n undef H) Q) :
    Ev (fun k n => Go.AM.b2 (gOp undef w (E k n) H) (f k n)) Q := Ev.eq (fun _ _ => by unfold gOp undef; simp [Go.AM.b2]) h
theorem Ev.gPrim {E : Option α} {a : α} {g : α → Option (Value × AH)} {v : Value} {H : AH} {f : Nat → Nat → Value → AH → Option R} {Q : R → Prop} (h : E = some a) (hg : g a = some (v, H)) (h2 : Ev (fun k n => f k n v H) Q) :
    Ev (fun k n => Go.AM.b2 (E.bind g) (f k n)) Q := Ev.prim2 (by rw [h]; exact hg) h2
theorem Ev.gCall {g : Nat → Nat → Option (Value × AH)} {f : Nat → Nat → Value → AH → Option R} {Q : R → Prop} (h : Ev (fun k n => Go.AM.b2 (g k n) (f k n)) Q) :
    Ev (fun k n => Go.AM.b2 (Go.AM.b2 (g k n) fun v H => some (v, H)) (f k n)) Q := Ev.eq (fun k n => by
      show Option.bind (Option.bind (g k n) _) _ = Option.bind (g k n) _
      rw [Option.bind_assoc]; rfl) h
theorem Ev.loop {L : Nat → Nat → Option α} {Q : α → Prop} (h : Ev L Q) : Ev (fun k _ => L k k) Q := by
  obtain ⟨r, hr, N, hN⟩ := h
  exact ⟨r, hr, N, fun k n a _ => hN k k a a⟩
theorem Ev.succ {L T : Nat → Nat → Option α} {Q : α → Prop} (e : ∀ k n, L k (n + 1) = T k n) (h : Ev T Q) : Ev L Q := by
  obtain ⟨r, hr, N, hN⟩ := h
  refine ⟨r, hr, N + 1, fun k n a b => ?_⟩
  obtain ⟨m, rfl⟩ : ∃ m, n = m + 1 := ⟨n - 1, by omega⟩
  exact (e k m).trans (hN k m (by omega) (by omega))
theorem Ev.fn {F T : Nat → Option α} {Q : α → Prop} (e : ∀ k, F (k + 1) = T k) (h : Ev (fun k _ => T k) Q) : Ev (fun k _ => F k) Q := by
  obtain ⟨r, hr, N, hN⟩ := h
  refine ⟨r, hr, N + 1, fun k n a b => ?_⟩
  obtain ⟨m, rfl⟩ : ∃ m, k = m + 1 := ⟨k - 1, by omega⟩
  exact (e m).trans (hN m n (by omega) (by omega))

theorem blk_lt {H : AH} {b : Nat} {K : Blk} (h : blk H b = some K) : b < H.length := by
  unfold blk at h
  cases hh : H[b]? with
  | none => rw [hh] at h; exact absurd h (by simp)
  | some x => exact (List.getElem?_eq_some_iff.mp hh).1
theorem blk_mkB_old {H : AH} {cs e kd} {b : Nat} (h : b < H.length) : blk (mkB H cs e kd) b = blk H b := by
  unfold blk mkB; rw [List.getElem?_append_left h]
theorem blk_mkB_new {H : AH} {cs e kd} : blk (mkB H cs e kd) H.length = some ⟨cs, e, kd⟩ := by
  unfold blk mkB; simp
theorem blk_none_app {H : AH} {b : Nat} : blk (H ++ [none]) b = blk H b := by
  unfold blk
  by_cases h : b < H.length
  · rw [List.getElem?_append_left h]
  · rw [List.getElem?_append_right (by omega), List.getElem?_eq_none (l := H) (by omega)]
    by_cases h' : b - H.length = 0
    · rw [h']; rfl
    · rw [List.getElem?_eq_none (by simp; omega)]
theorem blk_put {H : AH} {b c : Nat} {k : Blk} {cs} (hb : b < H.length) : blk (put H b k cs) c = if c = b then some ⟨cs, k.elem, k.kind⟩ else blk H c := by
  unfold blk put
  by_cases h : c = b
  · subst h; rw [List.getElem?_set_self hb, if_pos rfl]; rfl
  · rw [List.getElem?_set_ne (fun e => h e.symm), if_neg h]
theorem blk_kill {H : AH} {b c : Nat} (hb : b < H.length) : blk (kill H b) c = if c = b then none else blk H c := by
  unfold blk kill
  by_cases h : c = b
  · subst h; rw [List.getElem?_set_self hb, if_pos rfl]; rfl
  · rw [List.getElem?_set_ne (fun e => h e.symm), if_neg h]
theorem length_put {H : AH} {b k cs} : (put H b k cs).length = H.length := by unfold put; simp
theorem length_kill {H : AH} {b} : (kill H b).length = H.length := by unfold kill; simp
theorem length_mkB {H : AH} {cs e kd} : (mkB H cs e kd).length = H.length + 1 := by unfold mkB; simp

structure Fr (H H' : AH) : Prop where
  len : H.length ≤ H'.length
  same : ∀ b, b < H.length → blk H' b = blk H b
def Mo (B B' : AH) : Prop := ∀ b K, blk B b = some K → blk B' b = some K
structure Le (B H : AH) : Prop where
  le : Mo B H
theorem Fr.refl (H : AH) : Fr H H := ⟨Nat.le_refl _, fun _ _ => rfl⟩
theorem Fr.trans {A B C : AH} (h1 : Fr A B) (h2 : Fr B C) : Fr A C := ⟨Nat.le_trans h1.len h2.len, fun b hb => (h2.same b (Nat.lt_of_lt_of_le hb h1.len)).trans (h1.same b hb)⟩
theorem Fr.mo {A B : AH} (h : Fr A B) : Mo A B := fun b K hb => (h.same b (blk_lt hb)).trans hb
theorem Mo.refl (B : AH) : Mo B B := fun _ _ h => h
theorem Mo.trans {A B C : AH} (h1 : Mo A B) (h2 : Mo B C) : Mo A C := fun b K h => h2 b K (h1 b K h)

class St (H0 B0 B : outParam AH) (L : outParam (List (Nat × Blk))) (H : AH) : Prop where
  le : Mo B H
  own : ∀ p, p ∈ L → blk H p.1 = some p.2 ∧ blk B p.1 = none ∧ H0.length ≤ p.1
  nd : (L.map Prod.fst).Nodup
  frH : Fr H0 H
  frB : ∀ b, b < H0.length → blk B b = blk B0 b

theorem St.start {B H : AH} (h : Le B H) : St H B B [] H :=
  ⟨h.le, fun _ h => absurd h (List.not_mem_nil), List.nodup_nil, Fr.refl _, fun _ _ => rfl⟩
theorem St.lel {H0 B0 B L H} (h : St H0 B0 B L H) : Le B H := ⟨h.le⟩
theorem St.get {H0 B0 B L H} {b : Nat} {K : Blk} (h : St H0 B0 B L H) (hm : (b, K) ∈ L) : blk H b = some K := (h.own _ hm).1
theorem St.drop {H0 B0 B L L' H} (h : St H0 B0 B L H) (hs : L'.Sublist L) : St H0 B0 B L' H :=
  ⟨h.le, fun p hp => h.own p (hs.subset hp), (hs.map _).nodup h.nd, h.frH, h.frB⟩
theorem St.perm {H0 B0 B L L' H} (h : St H0 B0 B L H) (hs : L'.Perm L) : St H0 B0 B L' H :=
  ⟨h.le, fun p hp => h.own p (hs.subset hp), (hs.map _).nodup_iff.mpr h.nd, h.frH, h.frB⟩
theorem St.fresh {H0 B0 B L H} (h : St H0 B0 B L H) : blk B H.length = none := by
  cases hb : blk B H.length with
  | none => rfl
  | some K => exact absurd (blk_lt (h.le _ _ hb)) (Nat.lt_irrefl _)
theorem St.mkB' {H0 B0 B L H} (h : St H0 B0 B L H) (cs : List Value) (e : TypeId) (kd : BK) : St H0 B0 B ((H.length, ⟨cs, e, kd⟩) :: L) (mkB H cs e kd) := by
  refine ⟨fun b K hb => ?_, fun p hp => ?_, ?_, ⟨?_, fun b hb => ?_⟩, h.frB⟩
  · have := h.le b K hb
    rw [blk_mkB_old (blk_lt this)]; exact this
  · cases hp with
    | head => exact ⟨blk_mkB_new, h.fresh, h.frH.len⟩
    | tail _ hp =>
      have hh := h.own p hp
      exact ⟨by rw [blk_mkB_old (blk_lt hh.1)]; exact hh.1, hh.2.1, hh.2.2⟩
  · refine List.nodup_cons.mpr ⟨fun hm => ?_, h.nd⟩
    obtain ⟨p, hp, he⟩ := List.mem_map.mp hm
    have := blk_lt (h.own p hp).1
    have he : p.1 = H.length := he
    omega
  · rw [length_mkB]; have := h.frH.len; omega
  · rw [blk_mkB_old (by have := h.frH.len; omega)]; exact h.frH.same b hb
theorem St.mkB {H0 B0 B L H} (h : St H0 B0 B L H) (cs : List Value) (e : TypeId) (kd : BK) :
    ∃ B', Mo B B' ∧ St H0 B0 B' ((H.length, ⟨cs, e, kd⟩) :: L) (mkB H cs e kd) := ⟨B, Mo.refl B, h.mkB' cs e kd⟩

theorem mem_fst {p : Nat × Blk} {b : Nat} {L : List (Nat × Blk)} (h : p ∈ L) (e : p.1 = b) : b ∈ L.map Prod.fst := List.mem_map.mpr ⟨p, h, e⟩
inductive Upd (b : Nat) (K K' : Blk) : List (Nat × Blk) → List (Nat × Blk) → Prop where
  | head (L) : Upd b K K' ((b, K) :: L) ((b, K') :: L)
  | tail (x) {L L'} (h : Upd b K K' L L') : Upd b K K' (x :: L) (x :: L')
theorem Upd.mem {b K K' L L'} (h : Upd b K K' L L') : (b, K) ∈ L := by
  induction h with
  | head => exact .head _
  | tail _ _ ih => exact .tail _ ih
theorem Upd.map {b K K' L L'} (h : Upd b K K' L L') : L'.map Prod.fst = L.map Prod.fst := by
  induction h with
  | head => rfl
  | tail x _ ih => simp [ih]
theorem Upd.inv {b K K' L L'} (h : Upd b K K' L L') (hn : (L.map Prod.fst).Nodup) : ∀ p, p ∈ L' → p = (b, K') ∨ (p ∈ L ∧ p.1 ≠ b) := by
  induction h with
  | head L =>
    intro p hp
    cases hp with
    | head => exact .inl rfl
    | tail _ hp => exact .inr ⟨.tail _ hp, fun e => (List.nodup_cons.mp hn).1 (mem_fst hp e)⟩
  | tail x hU ih =>
    intro p hp
    cases hp with
    | head => exact .inr ⟨.head _, fun e => (List.nodup_cons.mp hn).1 (mem_fst hU.mem e.symm)⟩
    | tail _ hp => exact (ih (List.nodup_cons.mp hn).2 p hp).imp id fun h => ⟨.tail _ h.1, h.2⟩
theorem St.put {H0 B0 B L L' H} {b : Nat} {K : Blk} {cs : List Value} (h : St H0 B0 B L H) (hu : Upd b K ⟨cs, K.elem, K.kind⟩ L L') : St H0 B0 B L' (put H b K cs) := by
  have hb := h.own _ hu.mem
  have hlt := blk_lt hb.1
  refine ⟨fun c K' hc => ?_, fun p hp => ?_, by rw [hu.map]; exact h.nd, ⟨by rw [length_put]; exact h.frH.len, fun c hc => ?_⟩, h.frB⟩
  · rw [blk_put hlt, if_neg]
    · exact h.le c K' hc
    · intro e; subst e; rw [hb.2.1] at hc; exact absurd hc (by simp)
  · rcases hu.inv h.nd p hp with rfl | ⟨hp', hne⟩
    · exact ⟨by rw [blk_put hlt, if_pos rfl], hb.2⟩
    · have := h.own p hp'
      exact ⟨by rw [blk_put hlt, if_neg hne]; exact this.1, this.2⟩
  · rw [blk_put hlt, if_neg (by have : H0.length ≤ b := hb.2.2; omega)]; exact h.frH.same c hc
theorem St.kill {H0 B0 B L H} {b : Nat} {K : Blk} (h : St H0 B0 B ((b, K) :: L) H) : St H0 B0 B L (kill H b) := by
  have hb := h.own _ (.head _)
  have hlt := blk_lt hb.1
  have hn := List.nodup_cons.mp h.nd
  refine ⟨fun c K' hc => ?_, fun p hp => ?_, hn.2, ⟨by rw [length_kill]; exact h.frH.len, fun c hc => ?_⟩, h.frB⟩
  · rw [blk_kill hlt, if_neg]
    · exact h.le c K' hc
    · intro e; subst e; rw [hb.2.1] at hc; exact absurd hc (by simp)
  · have := h.own p (.tail _ hp)
    exact ⟨by rw [blk_kill hlt, if_neg fun e => hn.1 (mem_fst hp e)]; exact this.1, this.2⟩
  · rw [blk_kill hlt, if_neg (by have : H0.length ≤ b := hb.2.2; omega)]; exact h.frH.same c hc
theorem setB (B : AH) (b : Nat) (K : Blk) : ∃ B', ∀ c, blk B' c = if c = b then some K else blk B c := by
  refine ⟨(B ++ List.replicate (b + 1) none).set b (some K), fun c => ?_⟩
  have hp : ∀ d, blk (B ++ List.replicate (b + 1) none) d = blk B d := fun d => by
    unfold blk
    by_cases h : d < B.length
    · rw [List.getElem?_append_left h]
    · rw [List.getElem?_append_right (by omega), List.getElem?_eq_none (l := B) (by omega), List.getElem?_replicate]
      split <;> rfl
  by_cases h : c = b
  · subst h; unfold blk; rw [List.getElem?_set_self (by simp; omega), if_pos rfl]; rfl
  · rw [if_neg h, ← hp c]; unfold blk; rw [List.getElem?_set_ne (fun e => h e.symm)]
theorem St.freeze {H0 B0 B L H} {b : Nat} {K : Blk} (h : St H0 B0 B ((b, K) :: L) H) : ∃ B', Mo B B' ∧ blk B' b = some K ∧ St H0 B0 B' L H := by
  have hb := h.own _ (.head _)
  have hn := List.nodup_cons.mp h.nd
  obtain ⟨B', hs⟩ := setB B b K
  refine ⟨B', fun c K' hc => ?_, by rw [hs, if_pos rfl], fun c K' hc => ?_, fun p hp => ?_, hn.2, h.frH, fun c hc => ?_⟩
  · rw [hs, if_neg]
    · exact hc
    · intro e; subst e; rw [hb.2.1] at hc; exact absurd hc (by simp)
  · rw [hs] at hc
    by_cases e : c = b
    · subst e; rw [if_pos rfl] at hc; rw [← hc]; exact hb.1
    · rw [if_neg e] at hc; exact h.le c K' hc
  · have := h.own p (.tail _ hp)
    exact ⟨this.1, by rw [hs, if_neg fun e => hn.1 (mem_fst hp e)]; exact this.2.1, this.2.2⟩
  · rw [hs, if_neg (by have : H0.length ≤ b := hb.2.2; omega)]; exact h.frB c hc
def ldK (P : Program) (t : TypeId) (cells : List Value) (off : Nat) : Option Value :=
  match aggT P t with
  | some true => if off + szT P t ≤ cells.length then some (.agg ((cells.drop off).take (szT P t)).toArray) else none
  | some false => cells[off]?
  | none => none
def stK (P : Program) (t : TypeId) (cells : List Value) (off : Nat) (v : Value) : Option (List Value) :=
  match aggT P t with
  | some true =>
    match v with
    | .agg cs => if off + szT P t ≤ cells.length ∧ cs.size = szT P t ∧ cs.toList.all isCell = true then some (spl cells off cs.toList) else none
    | _ => none
  | some false => if szT P t = 1 ∧ off < cells.length ∧ isCell v = true then some (cells.set off v) else none
  | none => none
theorem ld_blk {t : TypeId} {H : AH} {b off : Nat} {K : Blk} (h : blk H b = some K) : ld P t H (ptr b off) = ldK P t K.cells off := by
  unfold ld ldK
  cases aggT P t with
  | none => rfl
  | some a =>
    cases a with
    | true => simp only [ldA, ptr, h, Option.bind_some, rdN]; split <;> rfl
    | false => simp only [ldC, ptr, h, Option.bind_some]
theorem st_blk {t : TypeId} {H : AH} {b off : Nat} {K : Blk} {v : Value} {cs : List Value} (h : blk H b = some K) (hk : K.kind.wr = true) (hs : stK P t K.cells off v = some cs) : st P t H (ptr b off) v = some (put H b K cs) := by
  unfold st
  unfold stK at hs
  cases ha : aggT P t with
  | none => rw [ha] at hs; exact absurd hs (by simp)
  | some a =>
    rw [ha] at hs
    cases a with
    | true =>
      cases v with
      | agg c =>
        simp only at hs
        split at hs
        · rename_i hc
          simp only [stA, ptr, h, Option.bind_some, if_pos (show K.kind.wr = true ∧ off + szT P t ≤ K.cells.length ∧ c.size = szT P t ∧ c.toList.all isCell = true from ⟨hk, hc⟩)]
          rw [Option.some.inj hs]
        · exact absurd hs (by simp)
      | _ => exact absurd hs (by simp)
    | false =>
      simp only at hs
      split at hs
      · rename_i hc
        simp only [stC, ptr, h, Option.bind_some, if_pos hc.1, if_pos (show K.kind.wr = true ∧ off < K.cells.length ∧ isCell v = true from ⟨hk, hc.2⟩)]
        rw [Option.some.inj hs]
      · exact absurd hs (by simp)

theorem Ev.box {H0 B0 B L H} {v : Value} {t : TypeId} {f : Nat → Nat → Value → AH → Option R} {Q : R → Prop} (hS : St H0 B0 B L H) (hv : okCells v = true)
    (h : ∀ b B' H', Mo B B' → St H0 B0 B' ((b, ⟨v.cells.toList, t, .fix⟩) :: L) H' → Ev (fun k n => f k n (ptr b 0) H') Q) : Ev (fun k n => Go.AM.b2 (Go.AM.box t H v) (f k n)) Q := by
  obtain ⟨B', hm, hS'⟩ := hS.mkB v.cells.toList t .fix
  exact Ev.prim2 (by unfold Go.AM.box; rw [if_pos hv]) (h H.length B' _ hm hS')
theorem Ev.newV {H0 B0 B L H} {z : Value} {t : TypeId} {f : Nat → Nat → Value → AH → Option R} {Q : R → Prop} (hz : zeroT P t = some z) (hS : St H0 B0 B L H) (hv : okCells z = true)
    (h : ∀ b B' H', Mo B B' → St H0 B0 B' ((b, ⟨z.cells.toList, t, .fix⟩) :: L) H' → Ev (fun k n => f k n (ptr b 0) H') Q) : Ev (fun k n => Go.AM.b2 (Go.AM.newV P t H) (f k n)) Q := by
  have e : Go.AM.newV P t H = Go.AM.box t H z := by unfold Go.AM.newV; rw [hz]; rfl
  rw [e]; exact Ev.box hS hv h
theorem Ev.ld {H0 B0 B L H} {b off : Nat} {K : Blk} {v : Value} {t : TypeId} {f : Nat → Nat → Value → Option R} {Q : R → Prop} (hS : St H0 B0 B L H) (hm : (b, K) ∈ L) (hv : ldK P t K.cells off = some v)
    (h : Ev (fun k n => f k n v) Q) : Ev (fun k n => (Go.AM.ld P t H (ptr b off)).bind (f k n)) Q :=
  Ev.prim ((ld_blk (hS.get hm)).trans hv) h
theorem Ev.st {H0 B0 B L L' H} {b off : Nat} {K : Blk} {v : Value} {cs : List Value} {t : TypeId} {f : Nat → Nat → AH → Option R} {Q : R → Prop} (hS : St H0 B0 B L H) (hm : (b, K) ∈ L) (hs : stK P t K.cells off v = some cs)
    (hk : K.kind.wr = true) (hu : Upd b K ⟨cs, K.elem, K.kind⟩ L L') (h : ∀ H', St H0 B0 B L' H' → Ev (fun k n => f k n H') Q) : Ev (fun k n => (Go.AM.st P t H (ptr b off) v).bind (f k n)) Q :=
  Ev.prim (st_blk (hS.get hm) hk hs) (h _ (hS.put hu))
section
variable {t : TypeId} {k : IntKind} {x y : Int}
theorem bin_int {op : BinOp} {v : Value} (h : still P (binOp op t (.int k x) (.int k y)) = some v) (hv : flat1 v = true) : bin P op t (.int k x) (.int k y) = some v := by
  unfold bin; rw [if_pos ⟨rfl, rfl, rfl⟩, h, Option.bind_some, if_pos hv]
theorem bin_add : bin P .add t (.int k x) (.int k y) = some (.int k (k.wrap (x + y))) := bin_int (by simp [binOp, Op.intArith, still]; rfl) rfl
theorem bin_sub : bin P .sub t (.int k x) (.int k y) = some (.int k (k.wrap (x - y))) := bin_int (by simp [binOp, Op.intArith, still]; rfl) rfl
theorem bin_mul : bin P .mul t (.int k x) (.int k y) = some (.int k (k.wrap (x * y))) := bin_int (by simp [binOp, Op.intArith, still]; rfl) rfl
theorem bin_lss : bin P .lss t (.int k x) (.int k y) = some (.bool (decide (x < y))) := bin_int (by simp [binOp, Op.intCmp, still]; rfl) rfl
theorem bin_leq : bin P .leq t (.int k x) (.int k y) = some (.bool (decide (x ≤ y))) := bin_int (by simp [binOp, Op.intCmp, still]; rfl) rfl
theorem bin_gtr : bin P .gtr t (.int k x) (.int k y) = some (.bool (decide (y < x))) := bin_int (by simp [binOp, Op.intCmp, still]; rfl) rfl
theorem bin_geq : bin P .geq t (.int k x) (.int k y) = some (.bool (decide (y ≤ x))) := bin_int (by simp [binOp, Op.intCmp, still]; rfl) rfl
theorem bin_eql : bin P .eql t (.int k x) (.int k y) = some (.bool (decide (x = y))) := bin_int (by simp [binOp, Op.intCmp, still]; rfl) rfl
theorem bin_neq : bin P .neq t (.int k x) (.int k y) = some (.bool (decide (x ≠ y))) := bin_int (by simp [binOp, Op.intCmp, still]; rfl) rfl
theorem bin_quo (h : y ≠ 0) : bin P .quo t (.int k x) (.int k y) = some (.int k (k.wrap (x.tdiv y))) := bin_int (by simp [binOp, Op.intDiv, still, h]; rfl) rfl
theorem bin_rem (h : y ≠ 0) : bin P .rem t (.int k x) (.int k y) = some (.int k (x.tmod y)) := bin_int (by simp [binOp, Op.intDiv, still, h]; rfl) rfl
theorem bin_shl {k' : IntKind} (h : 0 ≤ y) : bin P .shl t (.int k x) (.int k' y) = some (.int k (k.wrap (x * 2 ^ (min y.toNat k.bits)))) := by
  unfold bin; rw [if_pos ⟨rfl, rfl, rfl⟩]
  simp only [binOp, Op.shift, if_neg (show ¬ y < 0 by omega)]; rfl
theorem bin_shr {k' : IntKind} (h : 0 ≤ y) : bin P .shr t (.int k x) (.int k' y) = some (.int k (x.fdiv (2 ^ (min y.toNat k.bits)))) := by
  unfold bin; rw [if_pos ⟨rfl, rfl, rfl⟩]
  simp only [binOp, Op.shift, if_neg (show ¬ y < 0 by omega)]; rfl
theorem bin_and : bin P .and t (.int k x) (.int k y) = some (.int k (k.wrap (BitVec.ofInt k.bits x &&& BitVec.ofInt k.bits y).toNat)) := bin_int (by simp [binOp, Op.intBits, still]; rfl) rfl
theorem bin_or : bin P .or t (.int k x) (.int k y) = some (.int k (k.wrap (BitVec.ofInt k.bits x ||| BitVec.ofInt k.bits y).toNat)) := bin_int (by simp [binOp, Op.intBits, still]; rfl) rfl
theorem un_not {b : Bool} : un P .not (.bool b) = some (.bool !b) := rfl
theorem un_neg : un P .neg (.int k x) = some (.int k (k.wrap (0 - x))) := by simp [un, flat1, Op.unary, Op.intArith, still]; rfl
end
end Go.AM
namespace Go.AM
def val : List Nat → Nat
  | [] => 0
  | x :: xs => x + 4294967296 * val xs
def small (xs : List Nat) : Prop := ∀ x, x ∈ xs → x < 4294967296
theorem small.tail {x : Nat} {xs : List Nat} (h : small (x :: xs)) : small xs := fun y hy => h y (.tail _ hy)
theorem small.head {x : Nat} {xs : List Nat} (h : small (x :: xs)) : x < 4294967296 := h x (.head _)
theorem small.take {xs : List Nat} (h : small xs) (n : Nat) : small (xs.take n) := fun x hx => h x (List.mem_of_mem_take hx)
theorem small.drop {xs : List Nat} (h : small xs) (n : Nat) : small (xs.drop n) := fun x hx => h x (List.mem_of_mem_drop hx)
end Go.AM
namespace Go.AM
variable {α β R : Type} {P : Program} {t : TypeId} {x y : Int}
theorem wrap64 {n : Int} (h : -9223372036854775808 ≤ n ∧ n < 9223372036854775808) : IntKind.i64.wrap n = n := by
  simp only [IntKind.wrap, IntKind.bits, IntKind.signed]; simp; omega
theorem wrapu64 {n : Int} : IntKind.u64.wrap n = n % 18446744073709551616 := by
  simp only [IntKind.wrap, IntKind.bits, IntKind.signed]; simp
theorem wrapu32 {n : Int} : IntKind.u32.wrap n = n % 4294967296 := by
  simp only [IntKind.wrap, IntKind.bits, IntKind.signed]; simp
theorem wrapu8 {n : Int} : IntKind.u8.wrap n = n % 256 := by
  simp only [IntKind.wrap, IntKind.bits, IntKind.signed]; simp
theorem bin_add64 (h : -9223372036854775808 ≤ x + y ∧ x + y < 9223372036854775808) : bin P .add t (.int .i64 x) (.int .i64 y) = some (.int .i64 (x + y)) := by rw [bin_add, wrap64 h]
theorem bin_sub64 (h : -9223372036854775808 ≤ x - y ∧ x - y < 9223372036854775808) : bin P .sub t (.int .i64 x) (.int .i64 y) = some (.int .i64 (x - y)) := by rw [bin_sub, wrap64 h]
theorem bin_mul64 (h : -9223372036854775808 ≤ x * y ∧ x * y < 9223372036854775808) : bin P .mul t (.int .i64 x) (.int .i64 y) = some (.int .i64 (x * y)) := by rw [bin_mul, wrap64 h]
theorem lenV_sl {e : TypeId} {p : Option Addr} {n c : Nat} (h : P.underlying t = some (.slice e)) : lenV P t (.slice p n c) = some (.int .i64 (n : Nat)) := by unfold lenV; rw [h]
theorem cv_int {s d : TypeId} {D : TypeDesc} {k k' : IntKind} (hs : P.underlying s = some D) (h : P.underlying d = some (.int k)) : cv P s d (.int k' x) = some (.int k (k.wrap x)) := by unfold cv; rw [hs, h]

def Sc (B : AH) (v : Value) (cs : List Value) : Prop :=
  (v = .slice none 0 0 ∧ cs = []) ∨ ∃ b off cap, v = sl b off cs.length cap ∧ cs.length ≤ cap ∧ (cs = [] ∨ ∃ K, blk B b = some K ∧ rdN K off cs.length = some cs)
theorem rdN_some {K : Blk} {off n : Nat} {cs : List Value} (h : rdN K off n = some cs) : off + n ≤ K.cells.length ∧ cs = (K.cells.drop off).take n := by
  unfold rdN at h; split at h
  · exact ⟨by assumption, (Option.some.inj h).symm⟩
  · cases h
theorem rdN_get {K : Blk} {off n i : Nat} {cs : List Value} (h : rdN K off n = some cs) (hi : i < n) : K.cells[off + i]? = cs[i]? := by
  obtain ⟨h1, rfl⟩ := rdN_some h
  rw [List.getElem?_take_of_lt hi, List.getElem?_drop]
theorem ixA_sl {e : TypeId} {b off len cap : Nat} {k : IntKind} (hU : P.underlying t = some (.slice e)) (hI : (P.info? e).isSome = true) (hz : szT P e = 1) (h : 0 ≤ x ∧ x < len) :
    ixA P t (sl b off len cap) (.int k x) = some (ptr b (off + x.toNat)) := by
  unfold ixA sl; rw [hU]; simp only; rw [if_pos ⟨hI, h.1, by omega⟩, hz, Nat.mul_one]
theorem Sc.ix {B : AH} {v : Value} {cs : List Value} {e : TypeId} {k : IntKind} (hU : P.underlying t = some (.slice e)) (hI : (P.info? e).isSome = true) (hz : szT P e = 1) (ha : aggT P e = some false) (h : Sc B v cs)
    (h0 : 0 ≤ x ∧ x < cs.length) : ∃ p, ixA P t v (.int k x) = some p ∧ ∀ H', (∀ b K, blk B b = some K → blk H' b = some K) → ld P e H' p = cs[x.toNat]? := by
  rcases h with ⟨rfl, rfl⟩ | ⟨b, off, cap, rfl, hc, h⟩
  · exact absurd h0.2 (by simp; omega)
  · refine ⟨_, ixA_sl hU hI hz h0, fun H' hH => ?_⟩
    rcases h with rfl | ⟨K, h1, h2⟩
    · exact absurd h0.2 (by simp; omega)
    · rw [ld_blk (hH _ _ h1), ldK, ha]
      exact rdN_get h2 (by omega)
abbrev u32 (n : Nat) : Value := .int .u32 (n : Int)
class RdN (B : outParam AH) (v : Value) (xs : outParam (List Nat)) : Prop where
  sc : Sc B v (xs.map u32)
  sm : small xs
theorem RdN.ix {B : AH} {v : Value} {xs : List Nat} {e : TypeId} {k : IntKind} (hU : P.underlying t = some (.slice e)) (hI : (P.info? e).isSome = true) (hz : szT P e = 1) (ha : aggT P e = some false) (h : RdN B v xs)
    (h0 : 0 ≤ x ∧ x < xs.length) : ∃ p, ixA P t v (.int k x) = some p ∧ ∀ H', Mo B H' → ld P e H' p = some (u32 (xs.getD x.toNat 0)) := by
  obtain ⟨p, h1, h2⟩ := h.1.ix (k := k) hU hI hz ha (by rw [List.length_map]; exact h0)
  refine ⟨p, h1, fun H' hH => ?_⟩
  rw [h2 H' hH, List.getElem?_map, List.getElem?_eq_getElem (by omega), List.getD_eq_getElem?_getD, List.getElem?_eq_getElem (by omega)]; rfl
end Go.AM
namespace Go.AM
variable {R : Type}
theorem ext_1 {a b : Value} {l : List Value} : ext (.tuple ⟨a :: b :: l⟩) 1 = some b := rfl
end Go.AM
namespace Go.AM
variable {α β R : Type} {P : Program} {t u e : TypeId} {z : Value} {sz : Nat} {x y : Int}
def gkz : Value → BK
  | .int .u8 _ => .buf
  | _ => .grow
theorem gkz_gr (z : Value) : gkz z = .grow ∨ gkz z = .buf := by
  unfold gkz
  split
  · exact .inr rfl
  · exact .inl rfl
class Elt (P : Program) (t : TypeId) (e : outParam TypeId) (z : outParam Value) (sz : outParam Nat) : Prop where
  U : P.underlying t = some (.slice e)
  I : (P.info? e).isSome = true
  S : szT P e = 1
  A : aggT P e = some false
  Z : zeroT P e = some z
  Y : byT P e = sz
  zc : isCell z = true
  zn : z.cells.toList = [z]
  K : gk P e = gkz z
theorem rep_one (z : Value) (n : Nat) : rep [z] n = List.replicate n z := by
  induction n with
  | zero => rfl
  | succ n ih => rw [rep, ih]; rfl
theorem size_cells {z : Value} (h : z.cells.toList = [z]) : z.cells.size = 1 := by rw [← Array.length_toList, h]; rfl
theorem okCells_of {z : Value} (h : isCell z = true) : okCells z = true := by
  cases z with
  | agg cs => exact absurd h (by simp [isCell])
  | _ => exact h

theorem Ev.mkS {H0 B0 B L H} {m : Nat} {f : Nat → Nat → Value → AH → Option R} {Q : R → Prop} (hE : Elt P t e z sz) (hS : St H0 B0 B L H) (hm : m * sz ≤ 281474976710656) (hm' : m ≤ 9223372036854775807)
    (h : ∀ b B' H', Mo B B' → St H0 B0 B' ((b, ⟨List.replicate m z, e, .fix⟩) :: L) H' → Ev (fun k n => f k n (sl b 0 m m) H') Q) :
    Ev (fun k n => Go.AM.b2 (Go.AM.mkS P t H (.int .i64 (m : Int)) (.int .i64 (m : Int))) (f k n)) Q := by
  obtain ⟨B', hm1, hS'⟩ := hS.mkB (List.replicate m z) e .fix
  refine Ev.prim2 ?_ (h H.length B' _ hm1 hS')
  unfold Go.AM.mkS
  rw [hE.U]; simp only [hE.Z, hE.Y, hE.S, hE.zn, Option.bind_some, rep_one]
  rw [if_pos ⟨by omega, by omega, by omega, by omega, size_cells hE.zn, okCells_of hE.zc⟩]
  simp
theorem Ev.buildS {H0 B0 B L H} {m : Nat} {parts : List (Nat × Value)} {cs : List Value} {f : Nat → Nat → Value → AH → Option R} {Q : R → Prop} (hE : Elt P t e z sz) (hS : St H0 B0 B L H) (hm : m ≤ 16777216)
    (hf : fillB (fun i => some (i * 1, 1)) (List.replicate m z) parts = some cs)
    (h : ∀ b B' H', Mo B B' → St H0 B0 B' ((b, ⟨cs, e, .fix⟩) :: L) H' → Ev (fun k n => f k n (sl b 0 m m) H') Q) :
    Ev (fun k n => Go.AM.b2 (Go.AM.buildS P t H m parts) (f k n)) Q := by
  obtain ⟨B', hm1, hS'⟩ := hS.mkB cs e .fix
  refine Ev.prim2 ?_ (h H.length B' _ hm1 hS')
  unfold Go.AM.buildS
  rw [hE.U]; simp only [hE.Z, hE.S, hE.zn, Option.bind_some, rep_one]
  rw [if_pos ⟨by omega, size_cells hE.zn⟩, hf]; rfl

theorem sliceCells_of {H : AH} {v : Value} {cs : List Value} (h : Sc H v cs) : sliceCells 1 H v cs.length = some cs := by
  rcases h with ⟨rfl, rfl⟩ | ⟨b, off, cap, rfl, hc, h⟩
  · rfl
  · show (if cs.length = 0 then some [] else if cs.length ≤ cs.length then (blk H b).bind fun k => rdN k off (cs.length * 1) else none) = some cs
    by_cases hn : cs.length = 0
    · rw [if_pos hn, List.length_eq_zero_iff.mp hn]
    · rw [if_neg hn, if_pos (Nat.le_refl _)]
      rcases h with rfl | ⟨K, h1, h2⟩
      · exact absurd rfl hn
      · rw [h1, Option.bind_some, Nat.mul_one, h2]
theorem lenOf_of {H : AH} {v : Value} {cs : List Value} (h : Sc H v cs) : lenOf v = some cs.length := by
  rcases h with ⟨rfl, rfl⟩ | ⟨b, off, cap, rfl, hc, h⟩ <;> rfl
theorem isNotStr_of {H : AH} {v : Value} {cs : List Value} (h : Sc H v cs) : isNotStr v = true := by
  rcases h with ⟨rfl, rfl⟩ | ⟨b, off, cap, rfl, hc, h⟩ <;> rfl
theorem ap_eq {u' : TypeId} {H : AH} {s v : Value} {ds : List Value} (hE : Elt P t e z sz) (hu : P.underlying u = some (.slice u')) (hx : Sc H v ds) (hd : ds.all isCell = true) :
    ap P t u H s v = apS (gkz z) 1 sz e H s ds.length ds := by
  unfold ap
  rw [hE.U, hu]
  simp only [hE.Z, hE.S, hE.Y, hE.K, Option.bind_some]
  rw [if_pos ⟨by omega, size_cells hE.zn, isNotStr_of hx⟩, lenOf_of hx, Option.bind_some, sliceCells_of hx, Option.bind_some, if_pos hd]
theorem Ev.apGrow {H0 B0 B L H} {u' : TypeId} {b cap : Nat} {cs : List Value} {v : Value} {ds : List Value} {f : Nat → Nat → Value → AH → Option R} {Q : R → Prop} (hE : Elt P t e z sz) (hu : P.underlying u = some (.slice u'))
    (hS : St H0 B0 B ((b, ⟨cs, e, gkz z⟩) :: L) H) (hc : cap ≠ 0) (hx : Sc H v ds) (hd : ds.all isCell = true) (hn : ds ≠ []) (hl : (cs.length + ds.length) * sz ≤ 140737488355328 ∧ cs.length + ds.length ≤ 9223372036854775807)
    (h : ∀ b B' H', Mo B B' → St H0 B0 B' ((b, ⟨cs ++ ds, e, gkz z⟩) :: L) H' → Ev (fun k n => f k n (sl b 0 (cs ++ ds).length ((cs ++ ds).length + 1)) H') Q) :
    Ev (fun k n => Go.AM.b2 (Go.AM.ap P t u H (sl b 0 cs.length cap) v) (f k n)) Q := by
  have hb := hS.get (.head _)
  obtain ⟨B', hm1, hS'⟩ := hS.kill.mkB (cs ++ ds) e (gkz z)
  rw [length_kill] at hS'
  refine Ev.prim2 ?_ (h H.length B' _ hm1 hS')
  rw [ap_eq hE hu hx hd]
  have hn' : ds.length ≠ 0 := fun e => hn (List.length_eq_zero_iff.mp e)
  rcases gkz_gr z with hg | hg <;>
    simp only [apS, sl, if_neg hn', if_neg hc, hb, hg, Option.bind_some, rdN, Nat.mul_one, Nat.zero_add, Nat.le_refl, if_true, List.drop_zero, List.take_length, hl, and_self, List.length_append]

theorem St.sc {H0 B0 B L H} {b cap : Nat} {cs : List Value} {kd : BK} (hS : St H0 B0 B L H) (hm : (b, ⟨cs, e, kd⟩) ∈ L) (hc : cs.length ≤ cap) : Sc H (sl b 0 cs.length cap) cs :=
  .inr ⟨b, 0, cap, rfl, hc, .inr ⟨_, hS.get hm, by simp [rdN]⟩⟩
theorem ixA_own {b off len cap : Nat} {k : IntKind} {i : Nat} (hE : Elt P t e z sz) (h : i < len) : ixA P t (sl b off len cap) (.int k (i : Int)) = some (ptr b (off + i)) := by
  rw [ixA_sl hE.U hE.I hE.S (by omega)]; simp
theorem ldK_own {cs : List Value} {i : Nat} (hE : Elt P t e z sz) : ldK P e cs i = cs[i]? := by unfold ldK; rw [hE.A]
theorem stK_own {cs : List Value} {i : Nat} {v : Value} (hE : Elt P t e z sz) (h : i < cs.length) (hv : isCell v = true) : stK P e cs i v = some (cs.set i v) := by
  unfold stK; rw [hE.A]; simp only; rw [if_pos ⟨hE.S, h, hv⟩]
end Go.AM
namespace Go.AM
variable {α β R : Type} {P : Program} {t s d : TypeId} {a b : Nat}
abbrev i64 (n : Nat) : Value := .int .i64 (n : Int)
abbrev u64 (n : Nat) : Value := .int .u64 (n : Int)
abbrev u8 (n : Nat) : Value := .int .u8 (n : Int)
theorem addN (h : a + b < 9223372036854775808) : bin P .add t (i64 a) (i64 b) = some (i64 (a + b)) := by rw [bin_add64 (by omega)]; rfl
theorem subN (h : b ≤ a ∧ a < 9223372036854775808) : bin P .sub t (i64 a) (i64 b) = some (i64 (a - b)) := by rw [bin_sub64 (by omega), show ((a : Int) - (b : Int)) = ((a - b : Nat) : Int) by omega]
theorem mulN (h : a * b < 9223372036854775808) : bin P .mul t (i64 a) (i64 b) = some (i64 (a * b)) := by
  rw [bin_mul64 (by rw [← Int.natCast_mul]; omega), ← Int.natCast_mul]
theorem lssN {k : IntKind} : bin P .lss t (.int k (a : Int)) (.int k (b : Int)) = some (.bool (decide (a < b))) := by rw [bin_lss]; simp
theorem gtrN {k : IntKind} : bin P .gtr t (.int k (a : Int)) (.int k (b : Int)) = some (.bool (decide (b < a))) := by rw [bin_gtr]; simp
theorem geqN {k : IntKind} : bin P .geq t (.int k (a : Int)) (.int k (b : Int)) = some (.bool (decide (b ≤ a))) := by rw [bin_geq]; simp
theorem eqlN {k : IntKind} : bin P .eql t (.int k (a : Int)) (.int k (b : Int)) = some (.bool (decide (a = b))) := by
  rw [bin_eql]; congr 2; exact decide_eq_decide.mpr (by omega)
theorem neqN {k : IntKind} : bin P .neq t (.int k (a : Int)) (.int k (b : Int)) = some (.bool (decide (a ≠ b))) := by
  rw [bin_neq]; congr 2; exact decide_eq_decide.mpr (by omega)
theorem quoN (h : b ≠ 0 ∧ a < 9223372036854775808) : bin P .quo t (i64 a) (i64 b) = some (i64 (a / b)) := by
  rw [bin_quo (by omega)]
  have e : (a : Int).tdiv (b : Int) = ((a / b : Nat) : Int) := by rw [Int.tdiv_eq_ediv_of_nonneg (by omega)]; omega
  have : a / b ≤ a := Nat.div_le_self ..
  rw [e]; generalize a / b = q at this ⊢; rw [wrap64 (by omega)]
theorem remN {k : IntKind} (h : b ≠ 0) : bin P .rem t (.int k (a : Int)) (.int k (b : Int)) = some (.int k ((a % b : Nat) : Int)) := by
  rw [bin_rem (by omega)]
  have e : (a : Int).tmod (b : Int) = ((a % b : Nat) : Int) := by rw [Int.tmod_eq_emod_of_nonneg (by omega)]; omega
  rw [e]
theorem addQ (h : a + b < 18446744073709551616) : bin P .add t (u64 a) (u64 b) = some (u64 (a + b)) := by
  rw [bin_add, wrapu64, show ((a : Int) + (b : Int)) % 18446744073709551616 = ((a + b : Nat) : Int) by omega]
theorem mulQ (h : a * b < 18446744073709551616) : bin P .mul t (u64 a) (u64 b) = some (u64 (a * b)) := by
  rw [bin_mul, wrapu64, ← Int.natCast_mul, show ((a * b : Nat) : Int) % 18446744073709551616 = ((a * b : Nat) : Int) by omega]
theorem toU64 {D : TypeDesc} {k : IntKind} (h : a < 18446744073709551616) (hs : P.underlying s = some D) (hd : P.underlying d = some (.int .u64)) : cv P s d (.int k (a : Int)) = some (u64 a) := by
  rw [cv_int hs hd, wrapu64, show (a : Int) % 18446744073709551616 = (a : Int) by omega]
theorem toU32 {D : TypeDesc} {k : IntKind} (hs : P.underlying s = some D) (hd : P.underlying d = some (.int .u32)) : cv P s d (.int k (a : Int)) = some (u32 (a % 4294967296)) := by
  rw [cv_int hs hd, wrapu32]; rfl
theorem toU8 {D : TypeDesc} {k : IntKind} (hs : P.underlying s = some D) (hd : P.underlying d = some (.int .u8)) : cv P s d (.int k (a : Int)) = some (u8 (a % 256)) := by
  rw [cv_int hs hd, wrapu8]; rfl
theorem toI64 {D : TypeDesc} {k : IntKind} (h : a < 9223372036854775808) (hs : P.underlying s = some D) (hd : P.underlying d = some (.int .i64)) : cv P s d (.int k (a : Int)) = some (i64 a) := by
  rw [cv_int hs hd, wrap64 (by omega)]
theorem shrN {k k' : IntKind} (h : b < k.bits) : bin P .shr t (.int k (a : Int)) (.int k' (b : Int)) = some (.int k ((a / 2 ^ b : Nat) : Int)) := by
  rw [bin_shr (by omega), show min (b : Int).toNat k.bits = b by rw [Int.toNat_natCast]; omega, Int.fdiv_eq_ediv_of_nonneg _ (by exact Int.le_of_lt (Int.pow_pos (by decide)))]
  rw [Int.natCast_ediv, Int.natCast_pow]; rfl
theorem andW (h : a < 4294967296 ∧ b < 4294967296) : bin P .and t (u32 a) (u32 b) = some (u32 (a &&& b)) := by
  rw [bin_and]
  have e : (BitVec.ofInt IntKind.u32.bits (a : Int) &&& BitVec.ofInt IntKind.u32.bits (b : Int)).toNat = a &&& b := by
    rw [BitVec.toNat_and, BitVec.ofInt_natCast, BitVec.ofInt_natCast, BitVec.toNat_ofNat, BitVec.toNat_ofNat, show 2 ^ IntKind.u32.bits = 4294967296 from rfl, Nat.mod_eq_of_lt h.1, Nat.mod_eq_of_lt h.2]
  have : a &&& b ≤ a := Nat.and_le_left
  rw [e, wrapu32, show ((a &&& b : Nat) : Int) % 4294967296 = ((a &&& b : Nat) : Int) by omega]
theorem xorW (h : a < 4294967296 ∧ b < 4294967296) : bin P .xor t (u32 a) (u32 b) = some (u32 (a ^^^ b)) := by
  have h0 : bin P .xor t (u32 a) (u32 b) = some (.int .u32 (IntKind.u32.wrap (BitVec.ofInt IntKind.u32.bits (a : Int) ^^^ BitVec.ofInt IntKind.u32.bits (b : Int)).toNat)) := bin_int (by simp [binOp, Op.intBits, still]; rfl) rfl
  rw [h0]
  have e : (BitVec.ofInt IntKind.u32.bits (a : Int) ^^^ BitVec.ofInt IntKind.u32.bits (b : Int)).toNat = a ^^^ b := by
    rw [BitVec.toNat_xor, BitVec.ofInt_natCast, BitVec.ofInt_natCast, BitVec.toNat_ofNat, BitVec.toNat_ofNat, show 2 ^ IntKind.u32.bits = 4294967296 from rfl, Nat.mod_eq_of_lt h.1, Nat.mod_eq_of_lt h.2]
  have : a ^^^ b < 2 ^ 32 := Nat.xor_lt_two_pow h.1 h.2
  rw [e, wrapu32, show ((a ^^^ b : Nat) : Int) % 4294967296 = ((a ^^^ b : Nat) : Int) by omega]
theorem notW (h : a < 4294967296) : un P .xor (u32 a) = some (u32 (4294967295 ^^^ a)) := by
  have h0 : un P .xor (u32 a) = some (.int .u32 (IntKind.u32.wrap (BitVec.ofInt IntKind.u32.bits (4294967295 : Int) ^^^ BitVec.ofInt IntKind.u32.bits (a : Int)).toNat)) := by
    simp only [un, flat1, Op.unary, Op.intBits, still, if_true]; rfl
  rw [h0]
  have e : (BitVec.ofInt IntKind.u32.bits (4294967295 : Int) ^^^ BitVec.ofInt IntKind.u32.bits (a : Int)).toNat = 4294967295 ^^^ a := by
    rw [BitVec.toNat_xor, BitVec.ofInt_natCast, BitVec.toNat_ofNat, show 2 ^ IntKind.u32.bits = 4294967296 from rfl, Nat.mod_eq_of_lt h]; rfl
  have : 4294967295 ^^^ a < 2 ^ 32 := Nat.xor_lt_two_pow (by decide) h
  rw [e, wrapu32, show ((4294967295 ^^^ a : Nat) : Int) % 4294967296 = ((4294967295 ^^^ a : Nat) : Int) by omega]
end Go.AM
namespace Go.AM
variable {α β R : Type} {P : Program} {t s d : TypeId} {a n : Nat}
section
variable {k : IntKind}
theorem lssL : bin P .lss t (.int k (a : Int)) (.int k (@OfNat.ofNat Int n instOfNat)) = some (.bool (decide (a < @OfNat.ofNat Nat n (instOfNatNat n)))) := lssN
theorem gtrL : bin P .gtr t (.int k (a : Int)) (.int k (@OfNat.ofNat Int n instOfNat)) = some (.bool (decide (@OfNat.ofNat Nat n (instOfNatNat n) < a))) := gtrN
theorem geqL : bin P .geq t (.int k (a : Int)) (.int k (@OfNat.ofNat Int n instOfNat)) = some (.bool (decide (@OfNat.ofNat Nat n (instOfNatNat n) ≤ a))) := geqN
theorem eqlL : bin P .eql t (.int k (a : Int)) (.int k (@OfNat.ofNat Int n instOfNat)) = some (.bool (decide (a = @OfNat.ofNat Nat n (instOfNatNat n)))) := eqlN
theorem neqL : bin P .neq t (.int k (a : Int)) (.int k (@OfNat.ofNat Int n instOfNat)) = some (.bool (decide (a ≠ @OfNat.ofNat Nat n (instOfNatNat n)))) := neqN
theorem remL (h : @OfNat.ofNat Nat n (instOfNatNat n) ≠ 0) : bin P .rem t (.int k (a : Int)) (.int k (@OfNat.ofNat Int n instOfNat)) = some (.int k ((a % @OfNat.ofNat Nat n (instOfNatNat n) : Nat) : Int)) := remN h
theorem shrL {k' : IntKind} (h : @OfNat.ofNat Nat n (instOfNatNat n) < k.bits) : bin P .shr t (.int k (a : Int)) (.int k' (@OfNat.ofNat Int n instOfNat)) = some (.int k ((a / 2 ^ @OfNat.ofNat Nat n (instOfNatNat n) : Nat) : Int)) := shrN h
end
theorem addL (h : a + @OfNat.ofNat Nat n (instOfNatNat n) < 9223372036854775808) : bin P .add t (i64 a) (.int .i64 (@OfNat.ofNat Int n instOfNat)) = some (i64 (a + @OfNat.ofNat Nat n (instOfNatNat n))) := addN h
theorem subL (h : @OfNat.ofNat Nat n (instOfNatNat n) ≤ a ∧ a < 9223372036854775808) : bin P .sub t (i64 a) (.int .i64 (@OfNat.ofNat Int n instOfNat)) = some (i64 (a - @OfNat.ofNat Nat n (instOfNatNat n))) := subN h
theorem lmul (h : @OfNat.ofNat Nat n (instOfNatNat n) * a < 9223372036854775808) : bin P .mul t (.int .i64 (@OfNat.ofNat Int n instOfNat)) (i64 a) = some (i64 (@OfNat.ofNat Nat n (instOfNatNat n) * a)) := mulN h
theorem mulL (h : a * @OfNat.ofNat Nat n (instOfNatNat n) < 9223372036854775808) : bin P .mul t (i64 a) (.int .i64 (@OfNat.ofNat Int n instOfNat)) = some (i64 (a * @OfNat.ofNat Nat n (instOfNatNat n))) := mulN h
theorem quoL (h : @OfNat.ofNat Nat n (instOfNatNat n) ≠ 0 ∧ a < 9223372036854775808) : bin P .quo t (i64 a) (.int .i64 (@OfNat.ofNat Int n instOfNat)) = some (i64 (a / @OfNat.ofNat Nat n (instOfNatNat n))) := quoN h
end Go.AM

namespace Go.AM
variable {R : Type} {P : Program} {t : TypeId}
theorem cells_one {v : Value} (h : isCell v = true) : v.cells.toList = [v] := by
  cases v with
  | agg cs => exact absurd h (by simp [isCell])
  | tuple cs => exact absurd h (by simp [isCell])
  | _ => rfl
end Go.AM
namespace Go.AM
variable {α β R : Type} {P : Program}

class PrimEq (E : Option α) (a : outParam α) : Prop where
  eq : E = some a
class PrimC (E : Option α) (p : outParam Prop) (a : outParam α) : Prop where
  eq : p → E = some a
class IsCell (v : Value) : Prop where
  is : isCell v = true
class Nth (cs : List Value) (i : Nat) (v : outParam Value) : Prop where
  eq : cs[i]? = some v
class InL (b : Nat) (K : outParam Blk) (L : List (Nat × Blk)) : Prop where
  mem : (b, K) ∈ L
class UpL (b : Nat) (K : outParam Blk) (K' : Blk) (L : List (Nat × Blk)) (L' : outParam (List (Nat × Blk))) : Prop where
  upd : Upd b K K' L L'
class CellsOf (v : Value) (l : outParam (List Value)) : Prop where
  eq : v.cells.toList = l
  ok : okCells v = true
class ZeroOf (P : Program) (t : TypeId) (z : outParam Value) : Prop where
  eq : zeroT P t = some z
class AggOf (P : Program) (t : TypeId) (b : outParam Bool) : Prop where
  eq : aggT P t = some b
class SzOf (P : Program) (t : TypeId) (n : outParam Nat) : Prop where
  eq : szT P t = n
class Cut (cs : List Value) (off n : Nat) (l : outParam (List Value)) : Prop where
  le : off + n ≤ cs.length
  eq : (cs.drop off).take n = l
class AllCell (l : List Value) : Prop where
  all : l.all isCell = true
class Und (P : Program) (t : TypeId) (D : outParam TypeDesc) : Prop where
  eq : P.underlying t = some D

instance {n : Int} {k : IntKind} : IsCell (.int k n) := ⟨rfl⟩
instance {b : Bool} : IsCell (.bool b) := ⟨rfl⟩
instance {s : ByteArray} : IsCell (.string s) := ⟨rfl⟩
instance {p : Option Addr} {n c : Nat} : IsCell (.slice p n c) := ⟨rfl⟩
instance {b o n c : Nat} : IsCell (sl b o n c) := ⟨rfl⟩
instance {b o : Nat} : IsCell (ptr b o) := ⟨rfl⟩
instance {p : Option Addr} : IsCell (.pointer p) := ⟨rfl⟩
instance {c : Fn} {x y : Array Value} : IsCell (.func c x y) := ⟨rfl⟩
instance : AllCell [] := ⟨rfl⟩
instance {v : Value} {l : List Value} [h : IsCell v] [k : AllCell l] : AllCell (v :: l) := ⟨by simp only [List.all_cons, h.is, k.all]; rfl⟩
instance {l : List Value} [h : AllCell l] : CellsOf (.agg (List.toArray l)) l := ⟨rfl, h.all⟩
instance (priority := low) {v : Value} [h : IsCell v] : CellsOf v [v] := ⟨cells_one h.is, okCells_of h.is⟩
instance {a : Value} {l : List Value} : Nth (a :: l) 0 a := ⟨rfl⟩
instance {a v : Value} {l : List Value} {n : Nat} [h : Nth l n v] : Nth (a :: l) (n + 1) v := ⟨h.eq⟩
instance {b : Nat} {K : Blk} {L : List (Nat × Blk)} : InL b K ((b, K) :: L) := ⟨.head _⟩
instance (priority := low) {b : Nat} {K : Blk} {x : Nat × Blk} {L : List (Nat × Blk)} [h : InL b K L] : InL b K (x :: L) := ⟨.tail _ h.mem⟩
instance {b : Nat} {K K' : Blk} {L : List (Nat × Blk)} : UpL b K K' ((b, K) :: L) ((b, K') :: L) := ⟨.head _⟩
instance (priority := low) {b : Nat} {K K' : Blk} {x : Nat × Blk} {L L' : List (Nat × Blk)} [h : UpL b K K' L L'] : UpL b K K' (x :: L) (x :: L') := ⟨.tail _ h.upd⟩
class CutN (cs : List Value) (n : Nat) (l : outParam (List Value)) : Prop where
  le : n ≤ cs.length
  eq : cs.take n = l
instance {cs : List Value} : CutN cs 0 [] := ⟨Nat.zero_le _, rfl⟩
instance {a : Value} {cs l : List Value} {n : Nat} [h : CutN cs n l] : CutN (a :: cs) (n + 1) (a :: l) := ⟨Nat.succ_le_succ h.le, by rw [List.take_succ_cons, h.eq]⟩
instance {cs l : List Value} {n : Nat} [h : CutN cs n l] : Cut cs 0 n l := ⟨by rw [Nat.zero_add]; exact h.le, h.eq⟩
class SplN (cs l : List Value) (r : outParam (List Value)) : Prop where
  le : l.length ≤ cs.length
  eq : l ++ cs.drop l.length = r
instance {cs : List Value} : SplN cs [] cs := ⟨Nat.zero_le _, rfl⟩
instance {a b : Value} {cs l r : List Value} [h : SplN cs l r] : SplN (a :: cs) (b :: l) (b :: r) := ⟨Nat.succ_le_succ h.le, by rw [List.length_cons, List.drop_succ_cons, List.cons_append, h.eq]⟩
class Spl (cs : List Value) (off : Nat) (l : List Value) (r : outParam (List Value)) : Prop where
  le : off + l.length ≤ cs.length
  eq : spl cs off l = r
instance {cs l r : List Value} [h : SplN cs l r] : Spl cs 0 l r := ⟨by rw [Nat.zero_add]; exact h.le, by unfold spl; rw [List.take_zero, List.nil_append, Nat.zero_add]; exact h.eq⟩
instance {a : Value} {cs l r : List Value} {off : Nat} [h : Spl cs off l r] : Spl (a :: cs) (off + 1) l (a :: r) :=
  ⟨by have := h.le; simp only [List.length_cons]; omega, by have := h.eq; unfold spl at this ⊢; rw [← this, Nat.add_right_comm, List.drop_succ_cons, List.take_succ_cons, List.cons_append]⟩

instance {t : TypeId} {cs : List Value} {off : Nat} {v : Value} [h : AggOf P t false] [k : Nth cs off v] : PrimEq (ldK P t cs off) v := ⟨by unfold ldK; rw [h.eq]; exact k.eq⟩
instance {t : TypeId} {cs l : List Value} {off n : Nat} [h : AggOf P t true] [s : SzOf P t n] [k : Cut cs off n l] : PrimEq (ldK P t cs off) (.agg (List.toArray l)) := ⟨by
  unfold ldK; rw [h.eq, s.eq]; simp only; rw [if_pos k.le, k.eq]⟩
instance {t : TypeId} {cs r : List Value} {off : Nat} {v : Value} [h : AggOf P t false] [s : SzOf P t 1] [c : IsCell v] [k : Spl cs off [v] r] : PrimEq (stK P t cs off v) r := ⟨by
  have hl : off < cs.length := by have := k.le; simp only [List.length_cons, List.length_nil] at this; omega
  unfold stK; rw [h.eq]; simp only; rw [if_pos ⟨s.eq, hl, c.is⟩, ← k.eq]
  unfold spl
  rw [List.set_eq_take_append_cons_drop, if_pos hl]; rfl⟩
instance {t : TypeId} {cs l r : List Value} {off n : Nat} [h : AggOf P t true] [s : SzOf P t n] [c : AllCell l] [k : Spl cs off l r] [hn : CutN l n l] : PrimEq (stK P t cs off (.agg (List.toArray l))) r := ⟨by
  have e : l.length = n := by have h1 := hn.le; have h2 := congrArg List.length hn.eq; rw [List.length_take] at h2; omega
  unfold stK; rw [h.eq]; simp only; rw [if_pos ⟨by rw [s.eq, ← e]; exact k.le, by rw [s.eq, ← e]; rfl, c.all⟩, ← k.eq]⟩
instance {H0 B0 B : AH} {L : List (Nat × Blk)} {H : AH} {b off : Nat} {K : Blk} {v : Value} {t : TypeId} [hS : St H0 B0 B L H] [hm : InL b K L] [hv : PrimEq (ldK P t K.cells off) v] : PrimEq (ld P t H (ptr b off)) v :=
  ⟨(ld_blk (hS.get hm.mem)).trans hv.eq⟩
theorem Ev.stC {H0 B0 B : AH} {L L' : List (Nat × Blk)} {H : AH} {b off : Nat} {cs0 : List Value} {e : TypeId} {v : Value} {cs : List Value} {t : TypeId} {f : Nat → Nat → AH → Option R} {Q : R → Prop} [hS : St H0 B0 B L H] [hm : InL b ⟨cs0, e, .fix⟩ L] [hs : PrimEq (stK P t cs0 off v) cs]
    [hu : UpL b ⟨cs0, e, .fix⟩ ⟨cs, e, .fix⟩ L L'] (h : ∀ H', St H0 B0 B L' H' → Ev (fun k n => f k n H') Q) : Ev (fun k n => (Go.AM.st P t H (ptr b off) v).bind (f k n)) Q :=
  Ev.st hS hm.mem hs.eq rfl hu.upd h
theorem Ev.newC {H0 B0 B : AH} {L : List (Nat × Blk)} {H : AH} {t : TypeId} {z : Value} {l : List Value} {f : Nat → Nat → Value → AH → Option R} {Q : R → Prop} [hz : ZeroOf P t z] [hl : CellsOf z l] [hS : St H0 B0 B L H]
    (h : ∀ b H', St H0 B0 B ((b, ⟨l, t, .fix⟩) :: L) H' → Ev (fun k n => f k n (ptr b 0) H') Q) : Ev (fun k n => Go.AM.b2 (Go.AM.newV P t H) (f k n)) Q := by
  have e : Go.AM.newV P t H = Go.AM.box t H z := by unfold Go.AM.newV; rw [hz.eq]; rfl
  rw [e]
  exact Ev.prim2 (by unfold Go.AM.box; rw [if_pos hl.ok, hl.eq]) (h H.length _ (hS.mkB' l t .fix))
theorem Ev.boxC {H0 B0 B : AH} {L : List (Nat × Blk)} {H : AH} {t : TypeId} {v : Value} {l : List Value} {f : Nat → Nat → Value → AH → Option R} {Q : R → Prop} [hl : CellsOf v l] [hS : St H0 B0 B L H]
    (h : ∀ b H', St H0 B0 B ((b, ⟨l, t, .fix⟩) :: L) H' → Ev (fun k n => f k n (ptr b 0) H') Q) : Ev (fun k n => Go.AM.b2 (Go.AM.box t H v) (f k n)) Q :=
  Ev.prim2 (by unfold Go.AM.box; rw [if_pos hl.ok, hl.eq]) (h H.length _ (hS.mkB' l t .fix))

section
variable {t s d : TypeId} {a b n : Nat} {x y : Int} {k k' : IntKind}
instance (priority := 900) : PrimEq (bin P .lss t (.int k (a : Int)) (.int k (no_index (@OfNat.ofNat Int n instOfNat)))) (.bool (decide (a < @OfNat.ofNat Nat n (instOfNatNat n)))) := ⟨lssL⟩
instance (priority := 900) : PrimEq (bin P .gtr t (.int k (a : Int)) (.int k (no_index (@OfNat.ofNat Int n instOfNat)))) (.bool (decide (@OfNat.ofNat Nat n (instOfNatNat n) < a))) := ⟨gtrL⟩
instance (priority := 900) : PrimEq (bin P .geq t (.int k (a : Int)) (.int k (no_index (@OfNat.ofNat Int n instOfNat)))) (.bool (decide (@OfNat.ofNat Nat n (instOfNatNat n) ≤ a))) := ⟨geqL⟩
instance (priority := 900) : PrimEq (bin P .eql t (.int k (a : Int)) (.int k (no_index (@OfNat.ofNat Int n instOfNat)))) (.bool (decide (a = @OfNat.ofNat Nat n (instOfNatNat n)))) := ⟨eqlL⟩
instance (priority := 900) : PrimEq (bin P .neq t (.int k (a : Int)) (.int k (no_index (@OfNat.ofNat Int n instOfNat)))) (.bool (decide (a ≠ @OfNat.ofNat Nat n (instOfNatNat n)))) := ⟨neqL⟩
instance (priority := 2000) : PrimEq (bin P .eql t (.int k x) (.int k x)) (.bool true) := ⟨by rw [bin_eql, decide_eq_true rfl]⟩
instance (priority := 2000) : PrimEq (bin P .neq t (.int k x) (.int k x)) (.bool false) := ⟨by rw [bin_neq, decide_eq_false (fun h => h rfl)]⟩
instance : PrimEq (bin P .lss t (.int k (a : Int)) (.int k (b : Int))) (.bool (decide (a < b))) := ⟨lssN⟩
instance : PrimEq (bin P .geq t (.int k (a : Int)) (.int k (b : Int))) (.bool (decide (b ≤ a))) := ⟨geqN⟩
instance : PrimEq (bin P .eql t (.int k (a : Int)) (.int k (b : Int))) (.bool (decide (a = b))) := ⟨eqlN⟩
instance : PrimEq (bin P .neq t (.int k (a : Int)) (.int k (b : Int))) (.bool (decide (a ≠ b))) := ⟨neqN⟩
instance (priority := 100) : PrimEq (bin P .lss t (.int k x) (.int k y)) (.bool (decide (x < y))) := ⟨bin_lss⟩
instance (priority := 100) : PrimEq (bin P .leq t (.int k x) (.int k y)) (.bool (decide (x ≤ y))) := ⟨bin_leq⟩
instance (priority := 100) : PrimEq (bin P .gtr t (.int k x) (.int k y)) (.bool (decide (y < x))) := ⟨bin_gtr⟩
instance (priority := 100) : PrimEq (bin P .geq t (.int k x) (.int k y)) (.bool (decide (y ≤ x))) := ⟨bin_geq⟩
instance (priority := 100) : PrimEq (bin P .eql t (.int k x) (.int k y)) (.bool (decide (x = y))) := ⟨bin_eql⟩
instance (priority := 100) : PrimEq (bin P .neq t (.int k x) (.int k y)) (.bool (decide (x ≠ y))) := ⟨bin_neq⟩
instance (priority := low) {b : Bool} : PrimEq (un P .not (.bool b)) (.bool (!b)) := ⟨un_not⟩
instance : PrimEq (un P .not (.bool true)) (.bool false) := ⟨un_not⟩
instance : PrimEq (un P .not (.bool false)) (.bool true) := ⟨un_not⟩
instance : PrimEq (un P .neg (.int k x)) (.int k (k.wrap (0 - x))) := ⟨un_neg⟩
end
instance {x y : Value} : PrimEq (pickV (.bool true) x y) x := ⟨rfl⟩
instance {x y : Value} : PrimEq (pickV (.bool false) x y) y := ⟨rfl⟩
instance {b o : Nat} : PrimEq (nilChk (ptr b o)) (ptr b o) := ⟨rfl⟩
instance {a : Value} {l : List Value} : PrimEq (ext (.tuple (List.toArray (a :: l))) 0) a := ⟨rfl⟩
instance {a b : Value} {l : List Value} : PrimEq (ext (.tuple (List.toArray (a :: b :: l))) 1) b := ⟨rfl⟩
instance {a b c : Value} {l : List Value} : PrimEq (ext (.tuple (List.toArray (a :: b :: c :: l))) 2) c := ⟨rfl⟩
instance {t e : TypeId} {b o n c : Nat} [h : Und P t (.slice e)] : PrimEq (lenV P t (sl b o n c)) (i64 n) := ⟨lenV_sl h.eq⟩
instance {t e : TypeId} [h : Und P t (.slice e)] : PrimEq (lenV P t (.slice none 0 0)) (.int .i64 0) := ⟨by unfold lenV; rw [h.eq]; rfl⟩
instance {x y : Value} {v : Value} [h : PrimEq (maxV x y) v] : PrimEq (fold1 maxV [x, y]) v := ⟨by show Option.bind _ _ = _; rw [h.eq]; rfl⟩
instance {x y : Value} {v : Value} [h : PrimEq (minV x y) v] : PrimEq (fold1 minV [x, y]) v := ⟨by show Option.bind _ _ = _; rw [h.eq]; rfl⟩
instance {k k' : IntKind} {x y : Int} : PrimEq (maxV (.int k x) (.int k' y)) (.int k (if y > x then y else x)) := ⟨rfl⟩
instance {k k' : IntKind} {x y : Int} : PrimEq (minV (.int k x) (.int k' y)) (.int k (if y < x then y else x)) := ⟨rfl⟩

class Step (g : Nat → Nat → Option R) (g' : outParam (Nat → Nat → Option R)) : Prop where
  step : ∀ {Q : R → Prop}, Ev g' Q → Ev g Q
theorem Ev.s {g g' : Nat → Nat → Option R} {Q : R → Prop} [h : Step g g'] (k : Ev g' Q) : Ev g Q := h.step k
instance {v : Value} {H : AH} {f : Nat → Nat → Value → AH → Option R} : Step (fun k n => Go.AM.b2 (some (v, H)) (f k n)) (fun k n => f k n v H) := ⟨fun h => h⟩
instance {a : α} {f : Nat → Nat → α → Option R} : Step (fun k n => (some a).bind (f k n)) (fun k n => f k n a) := ⟨fun h => h⟩
instance {x y : Nat → Nat → Option R} : Step (fun k n => aIf (.bool true) (x k n) (y k n)) x := ⟨fun h => h⟩
instance {x y : Nat → Nat → Option R} : Step (fun k n => aIf (.bool false) (x k n) (y k n)) y := ⟨fun h => h⟩
instance {x y : Nat → Nat → Option R} : Step (fun k n => aIf (.bool (!true)) (x k n) (y k n)) y := ⟨fun h => h⟩
instance {x y : Nat → Nat → Option R} : Step (fun k n => aIf (.bool (!false)) (x k n) (y k n)) x := ⟨fun h => h⟩
instance (priority := low) {E : Option α} {a : α} {f : Nat → Nat → α → Option R} [h : PrimEq E a] : Step (fun k n => E.bind (f k n)) (fun k n => f k n a) := ⟨fun h2 => Ev.prim h.eq h2⟩
instance {E : Nat → Nat → Option (Value × AH)} {H : AH} {f : Nat → Nat → Value → AH → Option R} : Step (fun k n => Go.AM.b2 (gOp (.bool true) true (E k n) H) (f k n)) (fun k n => Go.AM.b2 (E k n) (f k n)) := ⟨fun h => Ev.gDo h⟩
instance {E : Nat → Nat → Option (Value × AH)} {H : AH} {f : Nat → Nat → Value → AH → Option R} : Step (fun k n => Go.AM.b2 (gOp (.bool false) false (E k n) H) (f k n)) (fun k n => Go.AM.b2 (E k n) (f k n)) := ⟨fun h => Ev.gDo h⟩
instance {E : Nat → Nat → Option (Value × AH)} {H : AH} {f : Nat → Nat → Value → AH → Option R} : Step (fun k n => Go.AM.b2 (gOp (.bool true) false (E k n) H) (f k n)) (fun k n => f k n undef H) := ⟨fun h => Ev.gSkipF h⟩
instance {E : Nat → Nat → Option (Value × AH)} {H : AH} {f : Nat → Nat → Value → AH → Option R} : Step (fun k n => Go.AM.b2 (gOp (.bool false) true (E k n) H) (f k n)) (fun k n => f k n undef H) := ⟨fun h => Ev.gSkipT h⟩
instance {w : Bool} {E : Nat → Nat → Option (Value × AH)} {H : AH} {f : Nat → Nat → Value → AH → Option R} : Step (fun k n => Go.AM.b2 (gOp undef w (E k n) H) (f k n)) (fun k n => f k n undef H) := ⟨fun h => Ev.gUndef h⟩
instance {E : Nat → Nat → Option (Value × AH)} {H : AH} {f : Nat → Nat → Value → AH → Option R} : Step (fun k n => Go.AM.b2 (gOp (.bool (!true)) false (E k n) H) (f k n)) (fun k n => Go.AM.b2 (E k n) (f k n)) := ⟨fun h => Ev.gDo h⟩
instance {E : Nat → Nat → Option (Value × AH)} {H : AH} {f : Nat → Nat → Value → AH → Option R} : Step (fun k n => Go.AM.b2 (gOp (.bool (!false)) false (E k n) H) (f k n)) (fun k n => f k n undef H) := ⟨fun h => Ev.gSkipF h⟩
instance {E : Option Value} {a : Value} {H : AH} {f : Nat → Nat → Value → AH → Option R} [h : PrimEq E a] : Step (fun k n => Go.AM.b2 (E.bind fun v => some (v, H)) (f k n)) (fun k n => f k n a H) := ⟨fun h2 => Ev.gPrim h.eq rfl h2⟩
instance {g : Nat → Nat → Option (Value × AH)} {f : Nat → Nat → Value → AH → Option R} : Step (fun k n => Go.AM.b2 (Go.AM.b2 (g k n) fun v H => some (v, H)) (f k n)) (fun k n => Go.AM.b2 (g k n) (f k n)) := ⟨fun h => Ev.gCall h⟩
instance {g : Nat → Nat → Option α} {f : Nat → Nat → α → Option β} {f2 : Nat → Nat → β → Option R} : Step (fun k n => ((g k n).bind (f k n)).bind (f2 k n)) (fun k n => (g k n).bind fun x => (f k n x).bind (f2 k n)) := ⟨fun h => Ev.assoc h⟩
instance {x : Nat → Nat → Option R} {E : Option α} {a : α} [h : PrimEq E a] : Step (fun k n => aChk (E = some a) (x k n)) x := ⟨fun h2 => Ev.chk h.eq h2⟩
theorem Ev.sc {E : Option α} {p : Prop} {a : α} {f : Nat → Nat → α → Option R} {Q : R → Prop} [h : PrimC E p a] (hp : p) (k : Ev (fun k n => f k n a) Q) : Ev (fun k n => E.bind (f k n)) Q := Ev.prim (h.eq hp) k
section
variable {t s d : TypeId} {a b n : Nat} {x y : Int} {k k' : IntKind}
instance (priority := 900) : PrimC (bin P .add t (i64 a) (.int .i64 (no_index (@OfNat.ofNat Int n instOfNat)))) (a + @OfNat.ofNat Nat n (instOfNatNat n) < 9223372036854775808) (i64 (a + @OfNat.ofNat Nat n (instOfNatNat n))) := ⟨addL⟩
instance (priority := 900) : PrimC (bin P .sub t (i64 a) (.int .i64 (no_index (@OfNat.ofNat Int n instOfNat)))) (@OfNat.ofNat Nat n (instOfNatNat n) ≤ a ∧ a < 9223372036854775808) (i64 (a - @OfNat.ofNat Nat n (instOfNatNat n))) := ⟨subL⟩
instance (priority := 900) : PrimC (bin P .mul t (i64 a) (.int .i64 (no_index (@OfNat.ofNat Int n instOfNat)))) (a * @OfNat.ofNat Nat n (instOfNatNat n) < 9223372036854775808) (i64 (a * @OfNat.ofNat Nat n (instOfNatNat n))) := ⟨mulL⟩
instance (priority := 900) : PrimC (bin P .mul t (.int .i64 (no_index (@OfNat.ofNat Int n instOfNat))) (i64 a)) (@OfNat.ofNat Nat n (instOfNatNat n) * a < 9223372036854775808) (i64 (@OfNat.ofNat Nat n (instOfNatNat n) * a)) := ⟨lmul⟩
instance (priority := 900) : PrimC (bin P .quo t (i64 a) (.int .i64 (no_index (@OfNat.ofNat Int n instOfNat)))) (@OfNat.ofNat Nat n (instOfNatNat n) ≠ 0 ∧ a < 9223372036854775808) (i64 (a / @OfNat.ofNat Nat n (instOfNatNat n))) := ⟨quoL⟩
instance (priority := 900) : PrimC (bin P .rem t (.int k (a : Int)) (.int k (no_index (@OfNat.ofNat Int n instOfNat)))) (@OfNat.ofNat Nat n (instOfNatNat n) ≠ 0) (.int k ((a % @OfNat.ofNat Nat n (instOfNatNat n) : Nat) : Int)) := ⟨remL⟩
instance : PrimC (bin P .add t (i64 a) (i64 b)) (a + b < 9223372036854775808) (i64 (a + b)) := ⟨addN⟩
instance : PrimC (bin P .sub t (i64 a) (i64 b)) (b ≤ a ∧ a < 9223372036854775808) (i64 (a - b)) := ⟨subN⟩
instance (priority := 100) : PrimC (bin P .add t (.int .i64 x) (.int .i64 y)) (-9223372036854775808 ≤ x + y ∧ x + y < 9223372036854775808) (.int .i64 (x + y)) := ⟨bin_add64⟩
instance (priority := 100) : PrimC (bin P .sub t (.int .i64 x) (.int .i64 y)) (-9223372036854775808 ≤ x - y ∧ x - y < 9223372036854775808) (.int .i64 (x - y)) := ⟨bin_sub64⟩
end
end Go.AM
namespace Go.AM
section
variable {P : Program} {α R : Type}
theorem zA {g g' : Nat → Nat → Option R} {Q : R → Prop} [h : Step g g'] (k : Ev g' Q) : Ev g Q := h.step k
theorem zB {H0 B0 B : AH} {L : List (Nat × Blk)} {H : AH} {t : TypeId} {z : Value} {l : List Value} {f : Nat → Nat → Value → AH → Option R} {Q : R → Prop} [hz : ZeroOf P t z] [hl : CellsOf z l] [hS : St H0 B0 B L H]
    (h : ∀ b H', St H0 B0 B ((b, ⟨l, t, .fix⟩) :: L) H' → Ev (fun k n => f k n (ptr b 0) H') Q) : Ev (fun k n => Go.AM.b2 (Go.AM.newV P t H) (f k n)) Q := Ev.newC h
theorem zC {H0 B0 B : AH} {L : List (Nat × Blk)} {H : AH} {t : TypeId} {v : Value} {l : List Value} {f : Nat → Nat → Value → AH → Option R} {Q : R → Prop} [hl : CellsOf v l] [hS : St H0 B0 B L H]
    (h : ∀ b H', St H0 B0 B ((b, ⟨l, t, .fix⟩) :: L) H' → Ev (fun k n => f k n (ptr b 0) H') Q) : Ev (fun k n => Go.AM.b2 (Go.AM.box t H v) (f k n)) Q := Ev.boxC h
theorem zD {H0 B0 B : AH} {L L' : List (Nat × Blk)} {H : AH} {b off : Nat} {cs0 : List Value} {e : TypeId} {v : Value} {cs : List Value} {t : TypeId} {f : Nat → Nat → AH → Option R} {Q : R → Prop} [hS : St H0 B0 B L H] [hm : InL b ⟨cs0, e, .fix⟩ L] [hs : PrimEq (stK P t cs0 off v) cs]
    [hu : UpL b ⟨cs0, e, .fix⟩ ⟨cs, e, .fix⟩ L L'] (h : ∀ H', St H0 B0 B L' H' → Ev (fun k n => f k n H') Q) : Ev (fun k n => (Go.AM.st P t H (ptr b off) v).bind (f k n)) Q := Ev.stC h
theorem zE {E : Option α} {p : Prop} {a : α} {f : Nat → Nat → α → Option R} {Q : R → Prop} [h : PrimC E p a] (k : Ev (fun k n => f k n a) Q) (hp : p := by omega) : Ev (fun k n => E.bind (f k n)) Q := Ev.prim (h.eq hp) k
theorem zF {E : Option Value} {p : Prop} {a : Value} {H : AH} {f : Nat → Nat → Value → AH → Option R} {Q : R → Prop} [h : PrimC E p a] (k : Ev (fun k n => f k n a H) Q) (hp : p := by omega) : Ev (fun k n => Go.AM.b2 (E.bind fun v => some (v, H)) (f k n)) Q := Ev.gPrim (h.eq hp) rfl k
end
end Go.AM
namespace Go.AM
variable {α β R : Type} {P : Program}
class PlusL (a b : Nat) (r : outParam Nat) : Prop where
  eq : a + b = r
instance (priority := low) {a b : Nat} : PlusL a b (a + b) := ⟨rfl⟩
instance {b : Nat} : PlusL 0 b b := ⟨Nat.zero_add b⟩
instance {a : Nat} : PlusL a 0 a := ⟨rfl⟩
class FieldOf (P : Program) (s : TypeId) (i : Nat) (off : outParam Nat) (ft : outParam TypeId) : Prop where
  ex : ∃ fs f, P.underlying s = some (.struct fs) ∧ fs[i]? = some f ∧ f.offset = off ∧ f.type = ft
  nz : szT P ft ≠ 0
class StructOf (P : Program) (s : TypeId) (l : outParam (List Value)) : Prop where
  zero : zeroT P s = some (.agg (List.toArray l))
  ex : ∃ fs, P.underlying s = some (.struct fs) ∧ fs.toList.all (fun f => (P.info? f.type).isSome) = true
instance {s : TypeId} {l : List Value} [h : StructOf P s l] : ZeroOf P s (.agg (List.toArray l)) := ⟨h.zero⟩
instance {s ft : TypeId} {i off b o r : Nat} [h : FieldOf P s i off ft] [p : PlusL o off r] : PrimEq (fldA P s (ptr b o) i) (ptr b r) := ⟨by
  obtain ⟨fs, f, h1, h2, h3, h4⟩ := h.ex
  unfold fldA ptr; rw [h1]; simp only [h2, Option.bind_some]; rw [if_neg (by rw [h4]; exact h.nz), h3, p.eq]⟩
class FillP (P : Program) (s : TypeId) (cs : List Value) (parts : List (Nat × Value)) (r : outParam (List Value)) : Prop where
  eq : ∀ fs, P.underlying s = some (.struct fs) → fillB (fun i => (fs[i]?).map fun f => (f.offset, szT P f.type)) cs parts = some r
instance {s : TypeId} {cs : List Value} : FillP P s cs [] cs := ⟨fun _ _ => rfl⟩
instance {s ft : TypeId} {i off n : Nat} {v : Value} {l cs cs' r : List Value} {ps : List (Nat × Value)} [h : FieldOf P s i off ft] [z : SzOf P ft n] [c : CellsOf v l] [k : CutN l n l] [sp : Spl cs off l cs'] [f : FillP P s cs' ps r] :
    FillP P s cs ((i, v) :: ps) r := ⟨fun fs hf => by
  obtain ⟨fs', g, h1, h2, h3, h4⟩ := h.ex
  rw [hf] at h1; cases h1
  have e : l.length = n := by have h1 := k.le; have h2 := congrArg List.length k.eq; rw [List.length_take] at h2; omega
  have e2 : v.cells.size = n := by rw [← e, ← c.eq]; rfl
  unfold fillB
  simp only [h2, Option.map_some, h3, h4, z.eq]
  rw [if_pos ⟨e2, by rw [← e]; exact sp.le, c.ok⟩, c.eq, sp.eq]
  exact f.eq fs hf⟩
instance {s : TypeId} {l r : List Value} {parts : List (Nat × Value)} [h : StructOf P s l] [f : FillP P s l parts r] : PrimEq (build P s parts) (.agg (List.toArray r)) := ⟨by
  obtain ⟨fs, h1, h2⟩ := h.ex
  unfold build; rw [h.zero]; simp only [Option.bind_some, h1]
  rw [if_neg (by rw [h2]; simp)]
  have := f.eq fs h1
  simp only [Value.cells]
  rw [this]; rfl⟩
section
variable {s d : TypeId} {D : TypeDesc} {a : Nat} {x : Int} {k k' : IntKind}
instance [hs : Und P s D] [hd : Und P d (.int .u32)] : PrimEq (cv P s d (.int k (a : Int))) (u32 (a % 4294967296)) := ⟨toU32 hs.eq hd.eq⟩
instance [hs : Und P s D] [hd : Und P d (.int .u8)] : PrimEq (cv P s d (.int k (a : Int))) (u8 (a % 256)) := ⟨toU8 hs.eq hd.eq⟩
instance [hs : Und P s D] [hd : Und P d (.int .u64)] : PrimC (cv P s d (.int k (a : Int))) (a < 18446744073709551616) (u64 a) := ⟨fun h => toU64 h hs.eq hd.eq⟩
instance [hs : Und P s D] [hd : Und P d (.int .i64)] : PrimC (cv P s d (.int k (a : Int))) (a < 9223372036854775808) (i64 a) := ⟨fun h => toI64 h hs.eq hd.eq⟩
end
class LdB (P : Program) (e : TypeId) (p : Value) (B : outParam AH) (v : outParam Value) : Prop where
  eq : ∀ H', Mo B H' → ld P e H' p = some v
instance {e : TypeId} {p v : Value} {H0 B0 B H : AH} {L : List (Nat × Blk)} [h : LdB P e p B v] [hS : St H0 B0 B L H] : PrimEq (ld P e H p) v := ⟨h.eq H hS.le⟩
section
variable {t e : TypeId} {z : Value} {sz : Nat} {H0 B0 B H : AH} {L : List (Nat × Blk)} {v : Value} {xs : List Nat} {k : IntKind}
class Rep (n : Nat) (z : Value) (l : outParam (List Value)) : Prop where
  eq : List.replicate n z = l
instance {z : Value} : Rep 0 z [] := ⟨rfl⟩
instance {z : Value} {n : Nat} {l : List Value} [h : Rep n z l] : Rep (n + 1) z (z :: l) := ⟨by rw [List.replicate_succ, h.eq]⟩
class FillL (cs : List Value) (parts : List (Nat × Value)) (r : outParam (List Value)) : Prop where
  eq : fillB (fun i => some (i * 1, 1)) cs parts = some r
instance {cs : List Value} : FillL cs [] cs := ⟨rfl⟩
instance {i : Nat} {v : Value} {cs cs' r : List Value} {ps : List (Nat × Value)} [c : IsCell v] [sp : Spl cs i [v] cs'] [f : FillL cs' ps r] : FillL cs ((i, v) :: ps) r := ⟨by
  have h1 := cells_one c.is
  have h2 := f.eq
  simp only [Nat.mul_one] at h2
  unfold fillB
  simp only [Nat.mul_one]
  rw [if_pos ⟨size_cells h1, by have := sp.le; simpa using this, okCells_of c.is⟩, h1, sp.eq]
  exact h2⟩
theorem Ev.bsC {m : Nat} {parts : List (Nat × Value)} {l cs : List Value} {f : Nat → Nat → Value → AH → Option R} {Q : R → Prop} [hE : Elt P t e z sz] [hS : St H0 B0 B L H] [hr : Rep m z l] [hf : FillL l parts cs] (hm : m ≤ 16777216)
    (h : ∀ b H', St H0 B0 B ((b, ⟨cs, e, .fix⟩) :: L) H' → Ev (fun k n => f k n (sl b 0 m m) H') Q) : Ev (fun k n => Go.AM.b2 (Go.AM.buildS P t H m parts) (f k n)) Q := by
  refine Ev.prim2 ?_ (h H.length _ (hS.mkB' cs e .fix))
  unfold Go.AM.buildS
  rw [hE.U]; simp only [hE.Z, hE.S, hE.zn, Option.bind_some, rep_one]
  rw [if_pos ⟨by omega, size_cells hE.zn⟩, hr.eq, hf.eq]; rfl
end
end Go.AM
namespace Go.AM
variable {α β R : Type} {P : Program}
class InfoOf (P : Program) (t : TypeId) : Prop where
  is : (P.info? t).isSome = true
class TimesL (a b : Nat) (r : outParam Nat) : Prop where
  eq : a * b = r
instance {b : Nat} : TimesL b 1 b := ⟨Nat.mul_one b⟩
instance {t e : TypeId} {sz b len cap i ofs : Nat} {k : IntKind} [hU : Und P t (.slice e)] [hs : SzOf P e sz] [hi : InfoOf P e] [ht : TimesL i sz ofs] : PrimC (ixA P t (sl b 0 len cap) (.int k (i : Int))) (i < len) (ptr b ofs) := ⟨fun h => by
  unfold ixA sl; rw [hU.eq]; simp only; rw [if_pos ⟨hi.is, by omega, by omega⟩, hs.eq, Int.toNat_natCast, ht.eq, Nat.zero_add]⟩
theorem St.drop1 {H0 B0 B : AH} {x : Nat × Blk} {L : List (Nat × Blk)} {H : AH} (h : St H0 B0 B (x :: L) H) : St H0 B0 B L H := h.drop (List.sublist_cons_self x L)
theorem Upd.fix {b : Nat} {K K' : Blk} {L L' L'' : List (Nat × Blk)} (h : Upd b K K' L L') (hn : (L.map Prod.fst).Nodup) (h' : Upd b K K' L L'') : L'' = L' := by
  induction h generalizing L'' with
  | head L =>
    cases h' with
    | head => rfl
    | tail _ h' => exact absurd (mem_fst h'.mem rfl) (List.nodup_cons.mp hn).1
  | tail x h ih =>
    cases h' with
    | head => exact absurd (mem_fst h.mem rfl) (List.nodup_cons.mp hn).1
    | tail _ h' => rw [ih (List.nodup_cons.mp hn).2 h']
theorem Mo.le {B H : AH} (h : Mo B H) : Le B H := ⟨h⟩
end Go.AM
namespace Go.AM
variable {α β R : Type} {P : Program}
class MoC (B : outParam AH) (B' : AH) : Prop where
  mo : Mo B B'
end Go.AM
namespace Go.AM
variable {α β R : Type} {P : Program}
section
variable {t e : TypeId} {z : Value} {sz : Nat}
def Acc (e : TypeId) (H0 B0 B : AH) (L : List (Nat × Blk)) (H : AH) (v : Value) (ds : List Nat) : Prop :=
  (ds = [] ∧ (v = .slice none 0 0 ∨ ∃ b off, v = sl b off 0 0) ∧ St H0 B0 B L H) ∨
  (ds ≠ [] ∧ ∃ b kd cap, v = sl b 0 ds.length cap ∧ (kd = .grow ∧ cap ≠ 0 ∧ ds.length ≤ cap ∨ kd = .fix ∧ cap = ds.length) ∧ St H0 B0 B ((b, ⟨ds.map u32, e, kd⟩) :: L) H)
theorem Acc.le {H0 B0 B L H v ds} (h : Acc e H0 B0 B L H v ds) : Le B H := by
  rcases h with ⟨_, _, hS⟩ | ⟨_, b, kd, cap, _, _, hS⟩
  · exact hS.lel
  · exact hS.lel
theorem Acc.st {H0 B0 B L H v ds} (h : Acc e H0 B0 B L H v ds) : St H0 B0 B L H := by
  rcases h with ⟨_, _, hS⟩ | ⟨_, b, kd, cap, _, _, hS⟩
  · exact hS
  · exact hS.drop1
theorem drop2 {x y : Nat × Blk} {L : List (Nat × Blk)} {H0 B0 B H} (h : St H0 B0 B (x :: y :: L) H) : St H0 B0 B (x :: L) H := h.drop (.cons_cons _ (List.sublist_cons_self _ _))
end
end Go.AM
namespace Go.AM
variable {R : Type} {P : Program}
abbrev str (l : List UInt8) : Value := .string ⟨l.toArray⟩
instance {t : TypeId} {l : List UInt8} [h : Und P t .string] : PrimEq (lenV P t (str l)) (i64 l.length) := ⟨by unfold lenV; rw [h.eq]; rfl⟩
theorem ix_str {t : TypeId} {l : List UInt8} {k : IntKind} {n : Int} [h : Und P t .string] (i : Nat) (hn : n = (i : Int)) (hi : i < l.length) : ix P t (str l) (.int k n) = some (u8 (l.getD i 0).toNat) := by
  subst hn
  unfold ix; rw [h.eq]
  have : ByteArray.size ⟨l.toArray⟩ = l.length := rfl
  simp only [this]
  rw [if_pos ⟨by omega, by omega⟩]
  simp [List.getD_eq_getElem?_getD]
theorem slc_str {t : TypeId} {l : List UInt8} {k : IntKind} {n : Int} [h : Und P t .string] (i : Nat) (hn : n = (i : Int)) (hi : i ≤ l.length) : slc P t (str l) (some (.int k n)) none = some (str (l.drop i)) := by
  subst hn
  unfold slc; rw [h.eq]
  have : ByteArray.size ⟨l.toArray⟩ = l.length := rfl
  simp only [this, intOr, Option.bind_some]
  rw [if_pos ⟨by omega, by omega, by omega⟩]
  congr 2
  simp [ByteArray.extract, ByteArray.copySlice]
  rw [List.take_of_length_le (by simp)]
theorem toList_loop (a : Array UInt8) : ∀ (n i : Nat) (r : List UInt8), i + n = a.size → ByteArray.toList.loop ⟨a⟩ i r = r.reverse ++ a.toList.drop i := by
  intro n
  induction n with
  | zero =>
    intro i r h
    have h1 : ¬ i < ByteArray.size ⟨a⟩ := by show ¬ i < a.size; omega
    unfold ByteArray.toList.loop
    rw [if_neg h1, List.drop_eq_nil_of_le (by simp; omega), List.append_nil]
  | succ n ih =>
    intro i r h
    have h1 : i < ByteArray.size ⟨a⟩ := by show i < a.size; omega
    have h2 : i < a.size := by omega
    unfold ByteArray.toList.loop
    rw [if_pos h1, ih (i + 1) _ (by omega), List.reverse_cons, List.append_assoc]
    congr 1
    have e : a.toList.drop i = a.toList[i]'(by simpa using h2) :: a.toList.drop (i + 1) := List.drop_eq_getElem_cons (by simpa using h2)
    rw [e]
    have e2 : ByteArray.get! ⟨a⟩ i = a[i] := by
      show a[i]! = a[i]
      rw [getElem!_pos a i h2]
    rw [e2]
    simp
theorem toList_str (l : List UInt8) : ByteArray.toList ⟨l.toArray⟩ = l := by
  unfold ByteArray.toList
  rw [toList_loop l.toArray l.length 0 [] (by simp)]
  simp
theorem add_str {t : TypeId} {a b : List UInt8} (h : a.length + b.length ≤ 9223372036854775807) : bin P .add t (str a) (str b) = some (str (a ++ b)) := by
  have e : binOp .add t (str a) (str b) = .pure (str (a ++ b)) := by
    show Op.stringOp .add _ _ = _
    unfold Op.stringOp
    have e1 : ByteArray.size ⟨a.toArray⟩ = a.length := rfl
    have e2 : ByteArray.size ⟨b.toArray⟩ = b.length := rfl
    have e3 : IntKind.i64.max = 9223372036854775807 := rfl
    simp only [e1, e2, e3]
    rw [if_neg (by omega)]
    have e4 : ((⟨a.toArray⟩ : ByteArray) ++ (⟨b.toArray⟩ : ByteArray)) = ⟨(a ++ b).toArray⟩ := by
      refine ByteArray.ext ?_
      simp
    rw [e4]; rfl
  unfold bin
  rw [if_pos ⟨rfl, rfl, rfl⟩, e]
  rfl
theorem eql_str {t : TypeId} {a b : List UInt8} : bin P .eql t (str a) (str b) = some (.bool (decide (a = b))) := by
  have e : binOp .eql t (str a) (str b) = .pure (.bool (decide (a = b))) := by
    show Op.stringOp .eql _ _ = _
    unfold Op.stringOp
    simp only [toList_str]
    show Sem.pure _ = _
    congr 2
    exact Bool.eq_iff_iff.mpr (by simp)
  unfold bin
  rw [if_pos ⟨rfl, rfl, rfl⟩, e]
  rfl
instance {t : TypeId} {a b : List UInt8} : PrimEq (bin P .eql t (str a) (str b)) (.bool (decide (a = b))) := ⟨eql_str⟩
instance (priority := 2000) {t : TypeId} {a : List UInt8} : PrimEq (bin P .eql t (str a) (str a)) (.bool true) := ⟨by rw [eql_str, decide_eq_true rfl]⟩
theorem bytesOf_map (l : List Nat) : bytesOf (l.map u8) = some (l.map fun n => UInt8.ofNat n) := by
  induction l with
  | nil => rfl
  | cons a l ih => show (bytesOf (l.map u8)).map _ = _; rw [ih]; rfl
instance {t : TypeId} {a b : List UInt8} : PrimC (bin P .add t (str a) (str b)) (a.length + b.length ≤ 9223372036854775807) (str (a ++ b)) := ⟨add_str⟩
end Go.AM
namespace Go.AM
variable {α β R : Type} {P : Program}
def gkl : List Value → BK
  | [v] => gkz v
  | _ => .grow
theorem gkl_gr (z : List Value) : gkl z = .grow ∨ gkl z = .buf := by
  unfold gkl
  split
  · exact gkz_gr _
  · exact .inl rfl
class EltS (P : Program) (t : TypeId) (e : outParam TypeId) (z : outParam (List Value)) (sz by_ : outParam Nat) : Prop where
  U : P.underlying t = some (.slice e)
  I : (P.info? e).isSome = true
  S : szT P e = sz
  Y : byT P e = by_
  Z : ∃ zv, zeroT P e = some zv ∧ zv.cells.toList = z
  n : z.length = sz
  p : 0 < sz
  K : gk P e = gkl z
instance {t e : TypeId} {z : Value} {sz : Nat} [h : Elt P t e z sz] : EltS P t e [z] 1 sz := ⟨h.U, h.I, h.S, h.Y, ⟨z, h.Z, h.zn⟩, rfl, by decide, h.K⟩
section
variable {t u e u' : TypeId} {z : List Value} {sz by_ : Nat}
def ScN (B : AH) (v : Value) (n sz : Nat) (cs : List Value) : Prop :=
  (v = .slice none 0 0 ∧ n = 0 ∧ cs = []) ∨ ∃ b off cap, v = sl b off n cap ∧ n ≤ cap ∧ cs.length = n * sz ∧ (n = 0 ∨ ∃ K, blk B b = some K ∧ rdN K off (n * sz) = some cs)
theorem ScN.mono {B B' : AH} {v : Value} {n : Nat} {cs : List Value} (hm : Mo B B') (h : ScN B v n sz cs) : ScN B' v n sz cs := by
  rcases h with h | ⟨b, off, cap, h1, hc, hl, h2⟩
  · exact .inl h
  · exact .inr ⟨b, off, cap, h1, hc, hl, h2.imp id fun ⟨K, h3, h4⟩ => ⟨K, hm _ _ h3, h4⟩⟩
theorem ScN.cell {B : AH} {v : Value} {n : Nat} {cs : List Value} (h : ScN B v n sz cs) : IsCell v := by
  rcases h with ⟨rfl, _⟩ | ⟨b, off, cap, rfl, _⟩ <;> exact inferInstance
theorem ScN.nil {B : AH} : ScN B (.slice none 0 0) 0 sz [] := .inl ⟨rfl, rfl, rfl⟩
theorem ScN.length {B : AH} {v : Value} {n : Nat} {cs : List Value} (h : ScN B v n sz cs) : cs.length = n * sz := by
  rcases h with ⟨_, rfl, rfl⟩ | ⟨_, _, _, _, _, h, _⟩
  · simp
  · exact h
theorem ScN.len {B : AH} {v : Value} {n : Nat} {cs : List Value} {e : TypeId} (hU : P.underlying t = some (.slice e)) (h : ScN B v n sz cs) : lenV P t v = some (i64 n) := by
  rcases h with ⟨rfl, rfl, _⟩ | ⟨b, off, cap, rfl, _⟩
  · exact lenV_sl hU
  · exact lenV_sl hU
theorem ScN.lenOf {B : AH} {v : Value} {n : Nat} {cs : List Value} (h : ScN B v n sz cs) : AM.lenOf v = some n := by
  rcases h with ⟨rfl, rfl, _⟩ | ⟨b, off, cap, rfl, _⟩ <;> rfl
theorem ScN.notStr {B : AH} {v : Value} {n : Nat} {cs : List Value} (h : ScN B v n sz cs) : isNotStr v = true := by
  rcases h with ⟨rfl, rfl, _⟩ | ⟨b, off, cap, rfl, _⟩ <;> rfl
theorem ScN.cells {H : AH} {v : Value} {n : Nat} {cs : List Value} (h : ScN H v n sz cs) : sliceCells sz H v n = some cs := by
  rcases h with ⟨rfl, rfl, rfl⟩ | ⟨b, off, cap, rfl, hc, hl, h⟩
  · rfl
  · show (if n = 0 then some [] else if n ≤ n then (blk H b).bind fun k => rdN k off (n * sz) else none) = some cs
    by_cases hn : n = 0
    · rw [if_pos hn]
      rw [hn, Nat.zero_mul] at hl
      rw [List.length_eq_zero_iff.mp hl]
    · rw [if_neg hn, if_pos (Nat.le_refl _)]
      rcases h with rfl | ⟨K, h1, h2⟩
      · exact absurd rfl hn
      · rw [h1, Option.bind_some, h2]
def nth (sz : Nat) (cs : List Value) (i : Nat) : List Value := (cs.drop (i * sz)).take sz
theorem nth_lt {i n : Nat} (h : i < n) : i * sz + sz ≤ n * sz := by
  rw [← Nat.succ_mul]; exact Nat.mul_le_mul_right _ h
theorem ScN.ix {B : AH} {v : Value} {n i : Nat} {cs : List Value} {k : IntKind} (hU : P.underlying t = some (.slice e)) (hI : (P.info? e).isSome = true) (hS : szT P e = sz) (h : ScN B v n sz cs) (hi : i < n) :
    ∃ b o, ixA P t v (.int k (i : Int)) = some (ptr b o) ∧ ∃ K, blk B b = some K ∧ o + sz ≤ K.cells.length ∧ (K.cells.drop o).take sz = nth sz cs i := by
  rcases h with ⟨rfl, rfl, rfl⟩ | ⟨b, off, cap, rfl, hc, hl, h⟩
  · omega
  · rcases h with rfl | ⟨K, h1, h2⟩
    · omega
    refine ⟨b, off + i * sz, ?_, K, h1, ?_, ?_⟩
    · unfold ixA sl; rw [hU]; simp only; rw [if_pos ⟨hI, by omega, by omega⟩, hS, Int.toNat_natCast]
    · have := (rdN_some h2).1
      have := nth_lt (sz := sz) hi
      omega
    · obtain ⟨h3, h4⟩ := rdN_some h2
      have := nth_lt (sz := sz) hi
      rw [h4]
      unfold nth
      rw [List.drop_take, List.drop_drop, List.take_take, Nat.min_eq_left (by omega)]
theorem ScN.slc {B : AH} {v : Value} {n i j : Nat} {cs : List Value} {lo hi : Option Value} (hU : P.underlying t = some (.slice e)) (hI : (P.info? e).isSome = true) (hS : szT P e = sz) (h : ScN B v n sz cs) (h1 : intOr lo 0 = some (i : Int)) (h2 : intOr hi n = some (j : Int)) (hij : i ≤ j) (hjn : j ≤ n) :
    ∃ v', Go.AM.slc P t v lo hi = some v' ∧ ScN B v' (j - i) sz ((cs.drop (i * sz)).take ((j - i) * sz)) := by
  rcases h with ⟨rfl, rfl, rfl⟩ | ⟨b, off, cap, rfl, hc, hl, h⟩
  · have hj : j = 0 := by omega
    have hi0 : i = 0 := by omega
    subst hj hi0
    refine ⟨.slice none 0 0, ?_, .inl ⟨rfl, rfl, by simp⟩⟩
    unfold Go.AM.slc; rw [hU]; simp only [h1, h2, Option.bind_some]
    rw [if_pos ⟨hI, rfl, rfl⟩]
  · have hle : i * sz + (j - i) * sz ≤ n * sz := by rw [← Nat.add_mul]; exact Nat.mul_le_mul_right _ (by omega)
    refine ⟨sl b (if cap = i then off else off + i * sz) (j - i) (cap - i), ?_, .inr ⟨b, _, _, rfl, by omega, by rw [List.length_take, List.length_drop]; omega, ?_⟩⟩
    · unfold Go.AM.slc sl; rw [hU]; simp only [h1, h2, Option.bind_some]
      rw [if_pos ⟨hI, by omega, by omega, by omega⟩, hS]
      simp
    · rcases h with rfl | ⟨K, h3, h4⟩
      · exact .inl (by omega)
      · by_cases h0 : j - i = 0
        · exact .inl h0
        · refine .inr ⟨K, h3, ?_⟩
          obtain ⟨h5, h6⟩ := rdN_some h4
          rw [if_neg (by omega), rdN, if_pos (by omega)]
          conv => rhs; rw [h6]
          rw [List.drop_take, List.take_take, List.drop_drop, Nat.min_eq_left (by omega)]
theorem Ev.ixN {B : AH} {v x : Value} {n : Nat} {cs : List Value} {k : IntKind} {z0 : Value} {sz0 : Nat} {f : Nat → Nat → Value → Option R} {Q : R → Prop} {i : Int} [hE : Elt P t e z0 sz0] (h : ScN B v n 1 cs) (j : Nat) (hi : i = (j : Int)) (hj : j < n) (hx : cs[j]? = some x)
    (hk : ∀ p, LdB P e p B x → Ev (fun k n => f k n p) Q) : Ev (fun k' n => (ixA P t v (.int k i)).bind (f k' n)) Q := by
  subst hi
  obtain ⟨b, o, h1, K, h2, h3, h4⟩ := h.ix (k := k) hE.U hE.I hE.S hj
  refine Ev.prim h1 (hk _ ⟨fun H' hm => ?_⟩)
  have hl := h.length
  unfold nth at h4
  rw [Nat.mul_one] at h4
  have e1 : K.cells[o]? = some x := by
    have e2 := congrArg (fun l => l[0]?) h4
    simp only [List.getElem?_take_of_lt (show 0 < 1 by decide), List.getElem?_drop, Nat.add_zero] at e2
    rw [e2, hx]
  rw [ld_blk (hm _ _ h2)]
  unfold ldK
  rw [hE.A]; exact e1
theorem ap_eqS {H : AH} {s v : Value} {n : Nat} {ds : List Value} [hE : EltS P t e z sz by_] (hu : P.underlying u = some (.slice u')) (hx : ScN H v n sz ds) (hd : ds.all isCell = true) :
    ap P t u H s v = apS (gkl z) sz by_ e H s n ds := by
  obtain ⟨zv, hz1, hz2⟩ := hE.Z
  have hsz : zv.cells.size = sz := by rw [← Array.length_toList, hz2, hE.n]
  unfold ap
  rw [hE.U, hu]
  simp only [hz1, hE.S, hE.Y, hE.K, Option.bind_some]
  rw [if_pos ⟨hE.p, hsz, hx.notStr⟩, hx.lenOf, Option.bind_some, hx.cells, Option.bind_some, if_pos hd]
def GAcc (e : TypeId) (sz : Nat) (H0 B0 B : AH) (L : List (Nat × Blk)) (H : AH) (v : Value) (n : Nat) (cs : List Value) : Prop :=
  (n = 0 ∧ cs = [] ∧ (v = .slice none 0 0 ∨ ∃ b off, v = sl b off 0 0) ∧ St H0 B0 B L H) ∨
  (n ≠ 0 ∧ cs.length = n * sz ∧ ∃ b kd cap, v = sl b 0 n cap ∧ ((kd = .grow ∨ kd = .buf) ∧ cap ≠ 0 ∧ n ≤ cap ∨ kd = .fix ∧ cap = n) ∧ St H0 B0 B ((b, ⟨cs, e, kd⟩) :: L) H)
theorem GAcc.nil {H0 B0 B L H} (hS : St H0 B0 B L H) : GAcc e sz H0 B0 B L H (.slice none 0 0) 0 [] := .inl ⟨rfl, rfl, .inl rfl, hS⟩
theorem GAcc.st {H0 B0 B L H v n cs} (h : GAcc e sz H0 B0 B L H v n cs) : St H0 B0 B L H := by
  rcases h with ⟨_, _, _, hS⟩ | ⟨_, _, b, kd, cap, _, _, hS⟩
  · exact hS
  · exact hS.drop1
theorem GAcc.cell {H0 B0 B L H v n cs} (h : GAcc e sz H0 B0 B L H v n cs) : IsCell v := by
  rcases h with ⟨_, _, rfl | ⟨b, off, rfl⟩, _⟩ | ⟨_, _, b, kd, cap, rfl, _⟩ <;> exact inferInstance
theorem GAcc.length {H0 B0 B L H v n cs} (h : GAcc e sz H0 B0 B L H v n cs) : cs.length = n * sz := by
  rcases h with ⟨rfl, rfl, _⟩ | ⟨_, h, _⟩
  · simp
  · exact h
theorem GAcc.now {H0 B0 B L H v n cs} (h : GAcc e sz H0 B0 B L H v n cs) : ScN H v n sz cs := by
  rcases h with ⟨rfl, rfl, rfl | ⟨b, off, rfl⟩, hS⟩ | ⟨hn, hl, b, kd, cap, rfl, hk, hS⟩
  · exact .inl ⟨rfl, rfl, rfl⟩
  · exact .inr ⟨b, off, 0, rfl, Nat.le_refl _, by simp, .inl rfl⟩
  · refine .inr ⟨b, 0, cap, rfl, by rcases hk with ⟨_, _, h⟩ | ⟨_, h⟩ <;> omega, hl, .inr ⟨_, hS.get (.head _), ?_⟩⟩
    unfold rdN
    rw [if_pos (by simp only; omega), List.drop_zero, List.take_of_length_le (by simp only; omega)]
theorem GAcc.ap {H0 B0 B : AH} {L : List (Nat × Blk)} {H : AH} {v w : Value} {n m : Nat} {cs ds : List Value} [hE : EltS P t e z sz by_] (hu : P.underlying u = some (.slice u')) (h : GAcc e sz H0 B0 B L H v n cs) (hx : ScN H w m sz ds) (hd : ds.all isCell = true)
    (hl : (n + m) * by_ ≤ 140737488355328 ∧ n + m ≤ 9223372036854775807) : ∃ v' H' B', AM.ap P t u H v w = some (v', H') ∧ MoC B B' ∧ GAcc e sz H0 B0 B' L H' v' (n + m) (cs ++ ds) := by
  rw [ap_eqS hu hx hd]
  have hml := hx.length
  by_cases hm : m = 0
  · subst hm
    have hds : ds = [] := List.length_eq_zero_iff.mp (by rw [hml]; simp)
    subst hds
    refine ⟨v, H, B, ?_, ⟨Mo.refl B⟩, by rw [Nat.add_zero, List.append_nil]; exact h⟩
    rcases h with ⟨rfl, rfl, rfl | ⟨b, off, rfl⟩, hS⟩ | ⟨hn, hl, b, kd, cap, rfl, hk, hS⟩ <;> rfl
  rcases h with ⟨rfl, rfl, hv, hS⟩ | ⟨hn, hcl, b, kd, cap, rfl, hk, hS⟩
  · obtain ⟨B', hm1, hS'⟩ := hS.mkB ds e (gkl z)
    have hl' : m * by_ ≤ 140737488355328 ∧ m ≤ 9223372036854775807 := by simpa using hl
    refine ⟨sl H.length 0 m (m + 1), _, B', ?_, ⟨hm1⟩, .inr ⟨by omega, by simpa using hml, H.length, gkl z, m + 1, by rw [Nat.zero_add], .inl ⟨gkl_gr z, by omega, by omega⟩, hS'⟩⟩
    rcases hv with rfl | ⟨b, off, rfl⟩
    · simp only [apS, if_neg hm, if_pos hl']
    · simp only [apS, sl, if_neg hm, if_pos hl', if_true]
  · have hrd : rdN ⟨cs, e, kd⟩ 0 (n * sz) = some cs := by
      unfold rdN
      rw [if_pos (by simp only; omega), List.drop_zero, List.take_of_length_le (by simp only; omega)]
    have hb := hS.get (.head _)
    rcases hk with ⟨hkd, hc, hcl2⟩ | ⟨rfl, hcap⟩
    · obtain ⟨B', hm1, hS'⟩ := hS.kill.mkB (cs ++ ds) e kd
      rw [length_kill] at hS'
      refine ⟨sl H.length 0 (n + m) (n + m + 1), _, B', ?_, ⟨hm1⟩, .inr ⟨by omega, by rw [List.length_append, hcl, hml, Nat.add_mul], H.length, kd, _, rfl, .inl ⟨hkd, by omega, by omega⟩, hS'⟩⟩
      rcases hkd with rfl | rfl
      · simp only [apS, sl, if_neg hm, if_neg hc, hb, Option.bind_some, hrd, hl, and_self, if_true]
      · simp only [apS, sl, if_neg hm, if_neg hc, hb, Option.bind_some, hrd, hl, hcl, and_self, if_true]
    · obtain ⟨B', hm1, hS'⟩ := hS.mkB (cs ++ ds) e (gkl z)
      have hS'' : St H0 B0 B' ((H.length, ⟨cs ++ ds, e, gkl z⟩) :: L) (mkB H (cs ++ ds) e (gkl z)) := drop2 hS'
      refine ⟨sl H.length 0 (n + m) (n + m + 1), _, B', ?_, ⟨hm1⟩, .inr ⟨by omega, by rw [List.length_append, hcl, hml, Nat.add_mul], H.length, gkl z, _, rfl, .inl ⟨gkl_gr z, by omega, by omega⟩, hS''⟩⟩
      simp only [apS, sl, if_neg hm, if_neg (show cap ≠ 0 by omega), hb, Option.bind_some, hrd, hl, and_self, if_true]
      rw [if_neg (by omega)]
theorem GAcc.push {H0 B0 B : AH} {L : List (Nat × Blk)} {H : AH} {v x : Value} {n : Nat} {cs ds : List Value} {f : Nat → Nat → Value → AH → Option R} {Q : R → Prop} [hE : EltS P t e z sz by_] (h : GAcc e sz H0 B0 B L H v n cs) (hx : x.cells.toList = ds) (hxl : ds.length = sz) (hxc : okCells x = true) (hd : ds.all isCell = true)
    (hsz : sz ≤ 16777216) (hl : (n + 1) * by_ ≤ 140737488355328 ∧ n + 1 ≤ 9223372036854775807) (hk : ∀ v' B' H', MoC B B' → GAcc e sz H0 B0 B' L H' v' (n + 1) (cs ++ ds) → Ev (fun k n => f k n v' H') Q) :
    Ev (fun k n => Go.AM.b2 (Go.AM.buildS P t H 1 [(0, x)]) fun w h => Go.AM.b2 (Go.AM.ap P t t h v w) (f k n)) Q := by
  obtain ⟨zv, hz1, hz2⟩ := hE.Z
  have hzs : zv.cells.size = sz := by rw [← Array.length_toList, hz2, hE.n]
  have hxs : x.cells.size = sz := by rw [← Array.length_toList, hx, hxl]
  have hb : Go.AM.buildS P t H 1 [(0, x)] = some (sl H.length 0 1 1, mkB H ds e .fix) := by
    unfold Go.AM.buildS
    rw [hE.U]; simp only [hz1, Option.bind_some, hE.S]
    rw [if_pos ⟨by omega, hzs⟩]
    simp only [fillB, rep, hz2, List.append_nil, Nat.zero_mul]
    rw [if_pos ⟨hxs, by rw [hE.n]; omega, hxc⟩]
    have : spl z 0 x.cells.toList = ds := by
      unfold spl; rw [List.take_zero, List.nil_append, Nat.zero_add, hx, List.drop_eq_nil_of_le (by rw [hE.n]; omega), List.append_nil]
    rw [this]; rfl
  refine Ev.prim2 hb ?_
  have hG : GAcc e sz H0 B0 B L (mkB H ds e .fix) v n cs := by
    rcases h with ⟨h1, h2, h3, hS⟩ | ⟨hn, hcl, b, kd, cap, h1, h2, hS⟩
    · exact .inl ⟨h1, h2, h3, (hS.mkB' ds e .fix).drop1⟩
    · exact .inr ⟨hn, hcl, b, kd, cap, h1, h2, (hS.mkB' ds e .fix).drop1⟩
  have hw : ScN (mkB H ds e .fix) (sl H.length 0 1 1) 1 sz ds := by
    refine .inr ⟨H.length, 0, 1, rfl, Nat.le_refl _, by omega, .inr ⟨_, blk_mkB_new, ?_⟩⟩
    unfold rdN
    rw [if_pos (by simp only; omega), List.drop_zero, List.take_of_length_le (by simp only; omega)]
  obtain ⟨v', H', B', q1, q2, q3⟩ := hG.ap (P := P) (t := t) (u := t) hE.U hw hd hl
  exact Ev.prim2 q1 (hk v' B' H' q2 q3)
theorem GAcc.more {H0 B0 B : AH} {L : List (Nat × Blk)} {H : AH} {v w : Value} {n m : Nat} {cs ds : List Value} {f : Nat → Nat → Value → AH → Option R} {Q : R → Prop} [hE : EltS P t e z sz by_] (hu : P.underlying u = some (.slice u')) (h : GAcc e sz H0 B0 B L H v n cs) (hx : ScN H w m sz ds) (hd : ds.all isCell = true)
    (hl : (n + m) * by_ ≤ 140737488355328 ∧ n + m ≤ 9223372036854775807) (hk : ∀ v' B' H', MoC B B' → GAcc e sz H0 B0 B' L H' v' (n + m) (cs ++ ds) → Ev (fun k n => f k n v' H') Q) :
    Ev (fun k n => Go.AM.b2 (Go.AM.ap P t u H v w) (f k n)) Q := by
  obtain ⟨v', H', B', q1, q2, q3⟩ := h.ap (P := P) (t := t) (u := u) hu hx hd hl
  exact Ev.prim2 q1 (hk v' B' H' q2 q3)
theorem GAcc.freeze {H0 B0 B : AH} {L : List (Nat × Blk)} {H : AH} {v : Value} {n : Nat} {cs : List Value} (h : GAcc e sz H0 B0 B L H v n cs) : ∃ B', MoC B B' ∧ ScN B' v n sz cs ∧ St H0 B0 B' L H := by
  rcases h with ⟨rfl, rfl, hv, hS⟩ | ⟨hn, hcl, b, kd, cap, rfl, hk, hS⟩
  · refine ⟨B, ⟨Mo.refl B⟩, ?_, hS⟩
    rcases hv with rfl | ⟨b, off, rfl⟩
    · exact ScN.nil
    · exact .inr ⟨b, off, 0, rfl, Nat.le_refl _, by simp, .inl rfl⟩
  · obtain ⟨B', h1, h2, h3⟩ := hS.freeze
    refine ⟨B', ⟨h1⟩, .inr ⟨b, 0, cap, rfl, by rcases hk with ⟨_, _, h⟩ | ⟨_, h⟩ <;> omega, hcl, .inr ⟨_, h2, ?_⟩⟩, h3⟩
    unfold rdN
    rw [if_pos (by simp only; omega), List.drop_zero, List.take_of_length_le (by simp only; omega)]
theorem GAcc.split {H0 B0 B : AH} {L : List (Nat × Blk)} {H : AH} {v : Value} {n : Nat} {cs : List Value} (h : GAcc e sz H0 B0 B L H v n cs) :
    ∃ Lx, St H0 B0 B Lx H ∧ (∀ B' H', St H0 B0 B' Lx H' → GAcc e sz H0 B0 B' L H' v n cs) ∧ ∀ p ∈ L, p ∈ Lx := by
  rcases h with ⟨h1, h2, hv, hS⟩ | ⟨hne, hcl, b2, kd, cap, hv, hkc, hS⟩
  · exact ⟨L, hS, fun B' H' hS' => .inl ⟨h1, h2, hv, hS'⟩, fun p hp => hp⟩
  · exact ⟨_, hS, fun B' H' hS' => .inr ⟨hne, hcl, b2, kd, cap, hv, hkc, hS'⟩, fun p hp => .tail _ hp⟩
theorem GAcc.stC {t' e' : TypeId} {H0 B0 B : AH} {L L' : List (Nat × Blk)} {H : AH} {v : Value} {n : Nat} {cs : List Value} {b off : Nat} {cs0 cs1 : List Value} {w : Value} {f : Nat → Nat → AH → Option R} {Q : R → Prop} (h : GAcc e sz H0 B0 B L H v n cs) [hm : InL b ⟨cs0, e', .fix⟩ L] [hs : PrimEq (stK P t' cs0 off w) cs1]
    [hu : UpL b ⟨cs0, e', .fix⟩ ⟨cs1, e', .fix⟩ L L'] (hk : ∀ H', GAcc e sz H0 B0 B L' H' v n cs → Ev (fun k n => f k n H') Q) : Ev (fun k n => (Go.AM.st P t' H (ptr b off) w).bind (f k n)) Q := by
  rcases h with ⟨h1, h2, hv, hS⟩ | ⟨hne, hcl, b2, kd, cap, hv, hkc, hS⟩
  · exact Ev.st hS hm.mem hs.eq rfl hu.upd fun H' hS' => hk H' (.inl ⟨h1, h2, hv, hS'⟩)
  · exact Ev.st hS (.tail _ hm.mem) hs.eq rfl (.tail _ hu.upd) fun H' hS' => hk H' (.inr ⟨hne, hcl, b2, kd, cap, hv, hkc, hS'⟩)
end
end Go.AM
namespace Go.AM.E
open Go Go.AM Go.Proofs
instance : Und Tryz.prog 3 (.int .i64) := ⟨Tryz.underlying3⟩
instance : AggOf Tryz.prog 3 false := ⟨by kernel_rfl⟩
instance : SzOf Tryz.prog 3 1 := ⟨by kernel_rfl⟩
instance : AggOf Tryz.prog 4 false := ⟨by kernel_rfl⟩
instance : SzOf Tryz.prog 4 1 := ⟨by kernel_rfl⟩
instance {a b : Bool} : PrimEq (bin Tryz.prog .neq 4 (.bool a) (.bool b)) (.bool (a != b)) := ⟨by cases a <;> cases b <;> kernel_rfl⟩
instance : Und Tryz.prog 5 (.int .u8) := ⟨Tryz.underlying5⟩
instance : InfoOf Tryz.prog 5 := ⟨by kernel_rfl⟩
instance : SzOf Tryz.prog 5 1 := ⟨by kernel_rfl⟩
instance : Und Tryz.prog 9 (.string) := ⟨Tryz.underlying9⟩
instance : AggOf Tryz.prog 9 false := ⟨by kernel_rfl⟩
instance : SzOf Tryz.prog 9 1 := ⟨by kernel_rfl⟩
instance : ZeroOf Tryz.prog 9 (.string ByteArray.empty) := ⟨by kernel_rfl⟩
instance : Und Tryz.prog 22 (.slice 71) := ⟨Tryz.underlying22⟩
instance : AggOf Tryz.prog 22 false := ⟨by kernel_rfl⟩
instance : SzOf Tryz.prog 22 1 := ⟨by kernel_rfl⟩
instance : EltS Tryz.prog 22 71 [.int .i64 0, .int .i64 0] 2 16 := ⟨Tryz.underlying22, by kernel_rfl, by kernel_rfl, by kernel_rfl, ⟨.agg #[.int .i64 0, .int .i64 0], by kernel_rfl, rfl⟩, rfl, by decide, by kernel_rfl⟩
instance : AggOf Tryz.prog 24 true := ⟨by kernel_rfl⟩
instance : SzOf Tryz.prog 24 2 := ⟨by kernel_rfl⟩
instance : StructOf Tryz.prog 24 [.int .i64 0, .slice none 0 0] := ⟨by kernel_rfl, _, Tryz.underlying24, by kernel_rfl⟩
instance : FieldOf Tryz.prog 24 0 0 3 := ⟨⟨_, _, Tryz.underlying24, rfl, rfl, rfl⟩, by decide +kernel⟩
instance : FieldOf Tryz.prog 24 1 1 22 := ⟨⟨_, _, Tryz.underlying24, rfl, rfl, rfl⟩, by decide +kernel⟩
instance : Und Tryz.prog 27 (.pointer 35) := ⟨Tryz.underlying27⟩
instance : Und Tryz.prog 30 (.pointer 98) := ⟨Tryz.underlying30⟩
instance : AggOf Tryz.prog 30 false := ⟨by kernel_rfl⟩
instance : SzOf Tryz.prog 30 1 := ⟨by kernel_rfl⟩
instance : Und Tryz.prog 31 (.pointer 54) := ⟨Tryz.underlying31⟩
instance : AggOf Tryz.prog 31 false := ⟨by kernel_rfl⟩
instance : SzOf Tryz.prog 31 1 := ⟨by kernel_rfl⟩
instance : Und Tryz.prog 32 (.pointer 103) := ⟨Tryz.underlying32⟩
instance : AggOf Tryz.prog 32 false := ⟨by kernel_rfl⟩
instance : SzOf Tryz.prog 32 1 := ⟨by kernel_rfl⟩
instance : AggOf Tryz.prog 33 false := ⟨by kernel_rfl⟩
instance : SzOf Tryz.prog 33 1 := ⟨by kernel_rfl⟩
instance : StructOf Tryz.prog 35 [.pointer none, .pointer none, .pointer none, .pointer none] := ⟨by kernel_rfl, _, Tryz.underlying35, by kernel_rfl⟩
instance : FieldOf Tryz.prog 35 0 0 30 := ⟨⟨_, _, Tryz.underlying35, rfl, rfl, rfl⟩, by decide +kernel⟩
instance : FieldOf Tryz.prog 35 1 1 31 := ⟨⟨_, _, Tryz.underlying35, rfl, rfl, rfl⟩, by decide +kernel⟩
instance : FieldOf Tryz.prog 35 2 2 32 := ⟨⟨_, _, Tryz.underlying35, rfl, rfl, rfl⟩, by decide +kernel⟩
instance : FieldOf Tryz.prog 35 3 3 33 := ⟨⟨_, _, Tryz.underlying35, rfl, rfl, rfl⟩, by decide +kernel⟩
instance : AggOf Tryz.prog 36 false := ⟨by kernel_rfl⟩
instance : SzOf Tryz.prog 36 1 := ⟨by kernel_rfl⟩
instance : ZeroOf Tryz.prog 36 (.int .i64 0) := ⟨by kernel_rfl⟩
instance : Und Tryz.prog 39 (.slice 94) := ⟨Tryz.underlying39⟩
instance : AggOf Tryz.prog 39 false := ⟨by kernel_rfl⟩
instance : SzOf Tryz.prog 39 1 := ⟨by kernel_rfl⟩
instance : EltS Tryz.prog 39 94 [.int .i64 0, .int .i64 0] 2 16 := ⟨Tryz.underlying39, by kernel_rfl, by kernel_rfl, by kernel_rfl, ⟨.agg #[.int .i64 0, .int .i64 0], by kernel_rfl, rfl⟩, rfl, by decide, by kernel_rfl⟩
instance : AggOf Tryz.prog 41 true := ⟨by kernel_rfl⟩
instance : SzOf Tryz.prog 41 2 := ⟨by kernel_rfl⟩
instance : StructOf Tryz.prog 41 [.int .i64 0, .slice none 0 0] := ⟨by kernel_rfl, _, Tryz.underlying41, by kernel_rfl⟩
instance : FieldOf Tryz.prog 41 0 0 3 := ⟨⟨_, _, Tryz.underlying41, rfl, rfl, rfl⟩, by decide +kernel⟩
instance : FieldOf Tryz.prog 41 1 1 39 := ⟨⟨_, _, Tryz.underlying41, rfl, rfl, rfl⟩, by decide +kernel⟩
instance : Und Tryz.prog 51 (.slice 9) := ⟨Tryz.underlying51⟩
instance : AggOf Tryz.prog 51 false := ⟨by kernel_rfl⟩
instance : SzOf Tryz.prog 51 1 := ⟨by kernel_rfl⟩
instance : Elt Tryz.prog 51 9 (.string ByteArray.empty) 16 := ⟨Tryz.underlying51, by kernel_rfl, by kernel_rfl, by kernel_rfl, by kernel_rfl, by kernel_rfl, rfl, rfl, by kernel_rfl⟩
instance : Und Tryz.prog 52 (.slice 160) := ⟨Tryz.underlying52⟩
instance : AggOf Tryz.prog 52 false := ⟨by kernel_rfl⟩
instance : SzOf Tryz.prog 52 1 := ⟨by kernel_rfl⟩
instance : EltS Tryz.prog 52 160 [.int .i64 0, .string ByteArray.empty] 2 24 := ⟨Tryz.underlying52, by kernel_rfl, by kernel_rfl, by kernel_rfl, ⟨.agg #[.int .i64 0, .string ByteArray.empty], by kernel_rfl, rfl⟩, rfl, by decide, by kernel_rfl⟩
instance : StructOf Tryz.prog 54 [.slice none 0 0, .slice none 0 0, .int .i64 0, .bool false] := ⟨by kernel_rfl, _, Tryz.underlying54, by kernel_rfl⟩
instance : FieldOf Tryz.prog 54 0 0 51 := ⟨⟨_, _, Tryz.underlying54, rfl, rfl, rfl⟩, by decide +kernel⟩
instance : FieldOf Tryz.prog 54 1 1 52 := ⟨⟨_, _, Tryz.underlying54, rfl, rfl, rfl⟩, by decide +kernel⟩
instance : FieldOf Tryz.prog 54 2 2 3 := ⟨⟨_, _, Tryz.underlying54, rfl, rfl, rfl⟩, by decide +kernel⟩
instance : FieldOf Tryz.prog 54 3 3 4 := ⟨⟨_, _, Tryz.underlying54, rfl, rfl, rfl⟩, by decide +kernel⟩
instance : AggOf Tryz.prog 71 true := ⟨by kernel_rfl⟩
instance : SzOf Tryz.prog 71 2 := ⟨by kernel_rfl⟩
instance : StructOf Tryz.prog 71 [.int .i64 0, .int .i64 0] := ⟨by kernel_rfl, _, Tryz.underlying71, by kernel_rfl⟩
instance : FieldOf Tryz.prog 71 0 0 3 := ⟨⟨_, _, Tryz.underlying71, rfl, rfl, rfl⟩, by decide +kernel⟩
instance : FieldOf Tryz.prog 71 1 1 3 := ⟨⟨_, _, Tryz.underlying71, rfl, rfl, rfl⟩, by decide +kernel⟩
instance : Und Tryz.prog 81 (.slice 4) := ⟨Tryz.underlying81⟩
instance : AggOf Tryz.prog 81 false := ⟨by kernel_rfl⟩
instance : SzOf Tryz.prog 81 1 := ⟨by kernel_rfl⟩
instance : Elt Tryz.prog 81 4 (.bool false) 1 := ⟨Tryz.underlying81, by kernel_rfl, by kernel_rfl, by kernel_rfl, by kernel_rfl, by kernel_rfl, rfl, rfl, by kernel_rfl⟩
instance : Und Tryz.prog 82 (.slice 3) := ⟨Tryz.underlying82⟩
instance : AggOf Tryz.prog 82 false := ⟨by kernel_rfl⟩
instance : SzOf Tryz.prog 82 1 := ⟨by kernel_rfl⟩
instance : Elt Tryz.prog 82 3 (.int .i64 0) 8 := ⟨Tryz.underlying82, by kernel_rfl, by kernel_rfl, by kernel_rfl, by kernel_rfl, by kernel_rfl, rfl, rfl, by kernel_rfl⟩
instance : StructOf Tryz.prog 84 [.pointer none, .int .i64 0, .int .i64 0, .slice none 0 0, .slice none 0 0, .bool false] := ⟨by kernel_rfl, _, Tryz.underlying84, by kernel_rfl⟩
instance : FieldOf Tryz.prog 84 0 0 31 := ⟨⟨_, _, Tryz.underlying84, rfl, rfl, rfl⟩, by decide +kernel⟩
instance : FieldOf Tryz.prog 84 1 1 3 := ⟨⟨_, _, Tryz.underlying84, rfl, rfl, rfl⟩, by decide +kernel⟩
instance : FieldOf Tryz.prog 84 2 2 3 := ⟨⟨_, _, Tryz.underlying84, rfl, rfl, rfl⟩, by decide +kernel⟩
instance : FieldOf Tryz.prog 84 3 3 81 := ⟨⟨_, _, Tryz.underlying84, rfl, rfl, rfl⟩, by decide +kernel⟩
instance : FieldOf Tryz.prog 84 4 4 82 := ⟨⟨_, _, Tryz.underlying84, rfl, rfl, rfl⟩, by decide +kernel⟩
instance : FieldOf Tryz.prog 84 5 5 4 := ⟨⟨_, _, Tryz.underlying84, rfl, rfl, rfl⟩, by decide +kernel⟩
instance : AggOf Tryz.prog 94 true := ⟨by kernel_rfl⟩
instance : SzOf Tryz.prog 94 2 := ⟨by kernel_rfl⟩
instance : StructOf Tryz.prog 94 [.int .i64 0, .int .i64 0] := ⟨by kernel_rfl, _, Tryz.underlying94, by kernel_rfl⟩
instance : FieldOf Tryz.prog 94 0 0 3 := ⟨⟨_, _, Tryz.underlying94, rfl, rfl, rfl⟩, by decide +kernel⟩
instance : FieldOf Tryz.prog 94 1 1 3 := ⟨⟨_, _, Tryz.underlying94, rfl, rfl, rfl⟩, by decide +kernel⟩
instance : Und Tryz.prog 95 (.slice 5) := ⟨Tryz.underlying95⟩
instance : AggOf Tryz.prog 95 false := ⟨by kernel_rfl⟩
instance : SzOf Tryz.prog 95 1 := ⟨by kernel_rfl⟩
instance : Elt Tryz.prog 95 5 (.int .u8 0) 1 := ⟨Tryz.underlying95, by kernel_rfl, by kernel_rfl, by kernel_rfl, by kernel_rfl, by kernel_rfl, rfl, rfl, by kernel_rfl⟩
instance : Und Tryz.prog 96 (.slice 158) := ⟨Tryz.underlying96⟩
instance : AggOf Tryz.prog 96 false := ⟨by kernel_rfl⟩
instance : SzOf Tryz.prog 96 1 := ⟨by kernel_rfl⟩
instance : EltS Tryz.prog 96 158 [.int .i64 0, .string ByteArray.empty] 2 24 := ⟨Tryz.underlying96, by kernel_rfl, by kernel_rfl, by kernel_rfl, ⟨.agg #[.int .i64 0, .string ByteArray.empty], by kernel_rfl, rfl⟩, rfl, by decide, by kernel_rfl⟩
instance : StructOf Tryz.prog 98 [.slice none 0 0, .slice none 0 0, .int .i64 0, .bool false] := ⟨by kernel_rfl, _, Tryz.underlying98, by kernel_rfl⟩
instance : FieldOf Tryz.prog 98 0 0 95 := ⟨⟨_, _, Tryz.underlying98, rfl, rfl, rfl⟩, by decide +kernel⟩
instance : FieldOf Tryz.prog 98 1 1 96 := ⟨⟨_, _, Tryz.underlying98, rfl, rfl, rfl⟩, by decide +kernel⟩
instance : FieldOf Tryz.prog 98 2 2 3 := ⟨⟨_, _, Tryz.underlying98, rfl, rfl, rfl⟩, by decide +kernel⟩
instance : FieldOf Tryz.prog 98 3 3 4 := ⟨⟨_, _, Tryz.underlying98, rfl, rfl, rfl⟩, by decide +kernel⟩
instance : Und Tryz.prog 99 (.map 3 4) := ⟨Tryz.underlying99⟩
instance : AggOf Tryz.prog 99 false := ⟨by kernel_rfl⟩
instance : SzOf Tryz.prog 99 1 := ⟨by kernel_rfl⟩
instance : AggOf Tryz.prog 101 true := ⟨by kernel_rfl⟩
instance : SzOf Tryz.prog 101 3 := ⟨by kernel_rfl⟩
instance : StructOf Tryz.prog 101 [.int .i64 0, .int .i64 0, .map none] := ⟨by kernel_rfl, _, Tryz.underlying101, by kernel_rfl⟩
instance : FieldOf Tryz.prog 101 0 0 3 := ⟨⟨_, _, Tryz.underlying101, rfl, rfl, rfl⟩, by decide +kernel⟩
instance : FieldOf Tryz.prog 101 1 1 3 := ⟨⟨_, _, Tryz.underlying101, rfl, rfl, rfl⟩, by decide +kernel⟩
instance : FieldOf Tryz.prog 101 2 2 99 := ⟨⟨_, _, Tryz.underlying101, rfl, rfl, rfl⟩, by decide +kernel⟩
instance : StructOf Tryz.prog 103 [.int .i64 0, .int .i64 0, .map none, .pointer none, .slice none 0 0, .bool false] := ⟨by kernel_rfl, _, Tryz.underlying103, by kernel_rfl⟩
instance : FieldOf Tryz.prog 103 0 0 101 := ⟨⟨_, _, Tryz.underlying103, rfl, rfl, rfl⟩, by decide +kernel⟩
instance : FieldOf Tryz.prog 103 1 3 30 := ⟨⟨_, _, Tryz.underlying103, rfl, rfl, rfl⟩, by decide +kernel⟩
instance : FieldOf Tryz.prog 103 2 4 82 := ⟨⟨_, _, Tryz.underlying103, rfl, rfl, rfl⟩, by decide +kernel⟩
instance : FieldOf Tryz.prog 103 3 5 4 := ⟨⟨_, _, Tryz.underlying103, rfl, rfl, rfl⟩, by decide +kernel⟩
instance : AggOf Tryz.prog 124 false := ⟨by kernel_rfl⟩
instance : StructOf Tryz.prog 129 [.pointer none, .slice none 0 0] := ⟨by kernel_rfl, _, Tryz.underlying129, by kernel_rfl⟩
instance : FieldOf Tryz.prog 129 1 1 95 := ⟨⟨_, _, Tryz.underlying129, rfl, rfl, rfl⟩, by decide +kernel⟩
instance : AggOf Tryz.prog 134 true := ⟨by kernel_rfl⟩
instance : SzOf Tryz.prog 134 3 := ⟨by kernel_rfl⟩
instance : StructOf Tryz.prog 134 [.int .i64 0, .string ByteArray.empty, .int .i64 0] := ⟨by kernel_rfl, _, Tryz.underlying134, by kernel_rfl⟩
instance : FieldOf Tryz.prog 134 0 0 3 := ⟨⟨_, _, Tryz.underlying134, rfl, rfl, rfl⟩, by decide +kernel⟩
instance : FieldOf Tryz.prog 134 1 1 9 := ⟨⟨_, _, Tryz.underlying134, rfl, rfl, rfl⟩, by decide +kernel⟩
instance : FieldOf Tryz.prog 134 2 2 36 := ⟨⟨_, _, Tryz.underlying134, rfl, rfl, rfl⟩, by decide +kernel⟩
instance : Und Tryz.prog 142 (.int .u64) := ⟨Tryz.underlying142⟩
instance : Und Tryz.prog 148 (.slice 124) := ⟨Tryz.underlying148⟩
instance : AggOf Tryz.prog 158 true := ⟨by kernel_rfl⟩
instance : SzOf Tryz.prog 158 2 := ⟨by kernel_rfl⟩
instance : StructOf Tryz.prog 158 [.int .i64 0, .string ByteArray.empty] := ⟨by kernel_rfl, _, Tryz.underlying158, by kernel_rfl⟩
instance : FieldOf Tryz.prog 158 0 0 3 := ⟨⟨_, _, Tryz.underlying158, rfl, rfl, rfl⟩, by decide +kernel⟩
instance : FieldOf Tryz.prog 158 1 1 9 := ⟨⟨_, _, Tryz.underlying158, rfl, rfl, rfl⟩, by decide +kernel⟩
instance : StructOf Tryz.prog 160 [.int .i64 0, .string ByteArray.empty] := ⟨by kernel_rfl, _, Tryz.underlying160, by kernel_rfl⟩
instance : FieldOf Tryz.prog 160 0 0 3 := ⟨⟨_, _, Tryz.underlying160, rfl, rfl, rfl⟩, by decide +kernel⟩
instance : FieldOf Tryz.prog 160 1 1 9 := ⟨⟨_, _, Tryz.underlying160, rfl, rfl, rfl⟩, by decide +kernel⟩
instance : Und Tryz.prog 171 (.int .u32) := ⟨Tryz.underlying171⟩
instance : Elt Tryz.prog 180 171 (.int .u32 0) 4 := ⟨Tryz.underlying180, by kernel_rfl, by kernel_rfl, by kernel_rfl, by kernel_rfl, by kernel_rfl, rfl, rfl, by kernel_rfl⟩
end Go.AM.E
namespace Go.AM
open Go.RowKit

structure Loc where
  blk : Nat
  base : Nat
  kind : BK
  csize : Nat
  esz : Nat
abbrev Mp := Nat → Option Loc

inductive VRel (m : Mp) : Value → Value → Prop
  | unk (v : Value) : VRel m (.chan (some 0)) v
  | flat (v : Value) : flat1 v = true → VRel m v v
  | ptr (b off : Nat) (L : Loc) : m b = some L → L.kind.row = true → VRel m (.pointer (some ⟨b, off, none⟩)) (.pointer (some ⟨L.blk, L.base + off, none⟩))
  | slice (b off off' len cap cap' : Nat) (L : Loc) : m b = some L → L.kind.row = true → len ≤ cap → len ≤ cap' → (off' = L.base + off ∨ len = 0) → (L.kind = .fix → off' = L.base + off ∧ cap' = cap) →
      (L.kind.gr = true → off = 0 → 0 < cap → off' + cap' * L.esz ≤ L.csize) → (L.kind ≠ .fix → len < cap ∨ (cap = 0 ∧ cap' = 0)) → VRel m (.slice (some ⟨b, off, none⟩) len cap) (.slice (some ⟨L.blk, off', none⟩) len cap')
  | zsl (b off : Nat) (a : Addr) : 0 < off → VRel m (.slice (some ⟨b, off, none⟩) 0 0) (.slice (some a) 0 0)
  | map (b : Nat) (L : Loc) : m b = some L → L.kind = .map → VRel m (.map (some b)) (.map (some L.blk))
  | yld (b : Nat) (L : Loc) : m b = some L → (∃ f key, L.kind = .loop f key) → VRel m (.func (.yield b) #[] #[]) (.func (.yield L.blk) #[] #[])
  | agg (xs ys : Array Value) : xs.size = ys.size → (∀ (i : Nat) (x y : Value), xs[i]? = some x → ys[i]? = some y → VRel m x y) → VRel m (.agg xs) (.agg ys)
  | tuple (xs ys : Array Value) : xs.size = ys.size → (∀ (i : Nat) (x y : Value), xs[i]? = some x → ys[i]? = some y → VRel m x y) → VRel m (.tuple xs) (.tuple ys)
  | func (f : FuncId) (a b a' b' : Array Value) : a.size = a'.size → (∀ (i : Nat) (x y : Value), a[i]? = some x → a'[i]? = some y → VRel m x y) → b.size = b'.size → (∀ (i : Nat) (x y : Value), b[i]? = some x → b'[i]? = some y → VRel m x y) →
      VRel m (.func (.func f) a b) (.func (.func f) a' b')

theorem VRel.mono {m m' : Mp} (hm : ∀ b L, m b = some L → m' b = some L) {x y : Value} (h : VRel m x y) : VRel m' x y := by
  induction h with
  | unk v => exact .unk v
  | flat v h => exact .flat v h
  | ptr b off L h h0 => exact .ptr b off L (hm _ _ h) h0
  | zsl b off a h => exact .zsl b off a h
  | map b L h h0 => exact .map b L (hm _ _ h) h0
  | yld b L h h0 => exact .yld b L (hm _ _ h) h0
  | slice b off off' len cap cap' L h h0 h1 h2 h3 h4 h5 h6 => exact .slice b off off' len cap cap' L (hm _ _ h) h0 h1 h2 h3 h4 h5 h6
  | agg xs ys h _ ih => exact .agg xs ys h ih
  | tuple xs ys h _ ih => exact .tuple xs ys h ih
  | func f a b a' b' h1 _ h2 _ ih1 ih2 => exact .func f a b a' b' h1 ih1 h2 ih2

theorem VRel.undef (m : Mp) : VRel m undef undef := .tuple _ _ rfl fun i x y h _ => by simp at h

def LRel (m : Mp) (xs ys : List Value) : Prop := xs.length = ys.length ∧ ∀ (i : Nat) (x y : Value), xs[i]? = some x → ys[i]? = some y → VRel m x y
theorem LRel.mono {m m' : Mp} (hm : ∀ b L, m b = some L → m' b = some L) {xs ys : List Value} (h : LRel m xs ys) : LRel m' xs ys := ⟨h.1, fun i x y hx hy => (h.2 i x y hx hy).mono hm⟩
theorem LRel.nil (m : Mp) : LRel m [] [] := ⟨rfl, fun i x y h => by simp at h⟩
theorem LRel.cons {m : Mp} {x y : Value} {xs ys : List Value} (h : VRel m x y) (hs : LRel m xs ys) : LRel m (x :: xs) (y :: ys) := by
  refine ⟨by simp [hs.1], fun i a b ha hb => ?_⟩
  cases i with
  | zero => simp at ha hb; subst ha hb; exact h
  | succ i => simp at ha hb; exact hs.2 i a b ha hb
theorem LRel.cons_inv {m : Mp} {x : Value} {xs ys : List Value} (h : LRel m (x :: xs) ys) : ∃ y zs, ys = y :: zs ∧ VRel m x y ∧ LRel m xs zs := by
  cases ys with
  | nil => have := h.1; simp at this
  | cons y zs => exact ⟨y, zs, rfl, h.2 0 x y rfl rfl, by have := h.1; simpa using this, fun i a b ha hb => h.2 (i + 1) a b (by simpa using ha) (by simpa using hb)⟩
theorem LRel.nil_inv {m : Mp} {ys : List Value} (h : LRel m [] ys) : ys = [] := List.eq_nil_of_length_eq_zero (by rw [← h.1]; rfl)
theorem LRel.append {m : Mp} {xs ys xs' ys' : List Value} (h : LRel m xs ys) (h' : LRel m xs' ys') : LRel m (xs ++ xs') (ys ++ ys') := by
  refine ⟨by simp [h.1, h'.1], fun i a b ha hb => ?_⟩
  rw [List.getElem?_append] at ha hb
  rw [← h.1] at hb
  split at ha
  · rename_i hi; rw [if_pos hi] at hb; exact h.2 i a b ha hb
  · rename_i hi; rw [if_neg hi] at hb; exact h'.2 _ a b ha hb
theorem LRel.take {m : Mp} {xs ys : List Value} (h : LRel m xs ys) (n : Nat) : LRel m (xs.take n) (ys.take n) := by
  refine ⟨by simp [h.1], fun i a b ha hb => ?_⟩
  rw [List.getElem?_take] at ha hb
  split at ha
  · rename_i hi; rw [if_pos hi] at hb; exact h.2 i a b ha hb
  · cases ha
theorem LRel.drop {m : Mp} {xs ys : List Value} (h : LRel m xs ys) (n : Nat) : LRel m (xs.drop n) (ys.drop n) := by
  refine ⟨by simp [h.1], fun i a b ha hb => ?_⟩
  rw [List.getElem?_drop] at ha hb
  exact h.2 _ a b ha hb
theorem LRel.set {m : Mp} {xs ys : List Value} (h : LRel m xs ys) (n : Nat) {x y : Value} (hv : VRel m x y) : LRel m (xs.set n x) (ys.set n y) := by
  refine ⟨by simp [h.1], fun i a b ha hb => ?_⟩
  by_cases hn : n = i
  · subst hn
    have h1 : n < xs.length := by
      rcases Nat.lt_or_ge n xs.length with h1 | h1
      · exact h1
      · rw [List.getElem?_eq_none (by simpa using h1)] at ha; cases ha
    rw [List.getElem?_set_self h1] at ha
    rw [List.getElem?_set_self (by rw [← h.1]; exact h1)] at hb
    cases ha
    cases hb
    exact hv
  · rw [List.getElem?_set_ne hn] at ha hb
    exact h.2 i a b ha hb
theorem LRel.map {m : Mp} {α : Type} (f g : α → Value) (l : List α) (h : ∀ a ∈ l, VRel m (f a) (g a)) : LRel m (l.map f) (l.map g) := by
  induction l with
  | nil => exact LRel.nil m
  | cons a l ih => exact LRel.cons (h a (by simp)) (ih fun b hb => h b (by simp [hb]))
theorem LRel.spl {m : Mp} {xs ys us vs : List Value} (h : LRel m xs ys) (h' : LRel m us vs) (o : Nat) : LRel m (spl xs o us) (spl ys o vs) := by
  unfold AM.spl
  rw [← h'.1]
  exact (h.take o).append (h'.append (h.drop _))
theorem length_spl (xs : List Value) (o : Nat) (ys : List Value) (h : o + ys.length ≤ xs.length) : (spl xs o ys).length = xs.length := by
  unfold spl; simp; omega
theorem LRel.of_flat {m : Mp} : ∀ (l : List Value), l.all flat1 = true → LRel m l l := fun l h => ⟨rfl, fun i x y hx hy => by
  rw [hx] at hy
  cases hy
  exact .flat x (List.all_eq_true.1 h x (List.mem_of_getElem? hx))⟩

theorem VRel.aggL {m : Mp} {xs ys : Array Value} (h : LRel m xs.toList ys.toList) : VRel m (.agg xs) (.agg ys) :=
  .agg xs ys (by simpa using h.1) fun i x y hx hy => h.2 i x y (by simpa using hx) (by simpa using hy)
theorem VRel.agg_inv {m : Mp} {xs : Array Value} {v : Value} (h : VRel m (.agg xs) v) : ∃ ys, v = .agg ys ∧ LRel m xs.toList ys.toList := by
  cases h with
  | flat v h => simp [flat1] at h
  | agg xs ys h1 h2 => exact ⟨ys, rfl, by simpa using h1, fun i x y hx hy => h2 i x y (by simpa using hx) (by simpa using hy)⟩
theorem VRel.tuple_inv {m : Mp} {xs : Array Value} {v : Value} (h : VRel m (.tuple xs) v) : ∃ ys, v = .tuple ys ∧ LRel m xs.toList ys.toList := by
  cases h with
  | flat v h => simp [flat1] at h
  | tuple xs ys h1 h2 => exact ⟨ys, rfl, by simpa using h1, fun i x y hx hy => h2 i x y (by simpa using hx) (by simpa using hy)⟩
theorem VRel.flat_inv {m : Mp} {x v : Value} (hf : flat1 x = true) (h : VRel m x v) : v = x := by
  cases h <;> first | rfl | simp [flat1] at hf
theorem VRel.of_flat {m : Mp} {v : Value} (h : AM.flat v = true) : VRel m v v := by
  unfold AM.flat at h
  split at h
  · exact VRel.aggL (LRel.of_flat _ h)
  · exact .flat _ h
theorem VRel.ptr_inv {m : Mp} {b off : Nat} {v : Value} (h : VRel m (.pointer (some ⟨b, off, none⟩)) v) : ∃ L, m b = some L ∧ v = .pointer (some ⟨L.blk, L.base + off, none⟩) ∧ L.kind.row = true := by
  cases h with
  | flat v h => simp [flat1] at h
  | ptr b off L h h0 => exact ⟨L, h, rfl, h0⟩
theorem VRel.slice_inv {m : Mp} {b off len cap : Nat} {v : Value} (h : VRel m (.slice (some ⟨b, off, none⟩) len cap) v) : (len = 0 ∧ cap = 0 ∧ 0 < off ∧ ∃ a, v = .slice (some a) 0 0) ∨ (∃ L off' cap', m b = some L ∧ v = .slice (some ⟨L.blk, off', none⟩) len cap' ∧ len ≤ cap ∧ len ≤ cap' ∧
    (off' = L.base + off ∨ len = 0) ∧ (L.kind = .fix → off' = L.base + off ∧ cap' = cap) ∧ (L.kind.gr = true → off = 0 → 0 < cap → off' + cap' * L.esz ≤ L.csize) ∧ (L.kind ≠ .fix → len < cap ∨ (cap = 0 ∧ cap' = 0)) ∧ L.kind.row = true) := by
  cases h with
  | flat v h => simp [flat1] at h
  | zsl b off a h => exact .inl ⟨rfl, rfl, h, a, rfl⟩
  | slice b off off' len cap cap' L h h0 h1 h2 h3 h4 h5 h6 => exact .inr ⟨L, off', cap', h, rfl, h1, h2, h3, h4, h5, h6, h0⟩
theorem VRel.map_inv {m : Mp} {b : Nat} {v : Value} (h : VRel m (.map (some b)) v) : ∃ L, m b = some L ∧ v = .map (some L.blk) ∧ L.kind = .map := by
  cases h with
  | flat v h => simp [flat1] at h
  | map b L h h0 => exact ⟨L, h, rfl, h0⟩
theorem VRel.yld_inv {m : Mp} {b : Nat} {xs ys : Array Value} {v : Value} (h : VRel m (.func (.yield b) xs ys) v) : ∃ L, m b = some L ∧ v = .func (.yield L.blk) #[] #[] ∧ (∃ f key, L.kind = .loop f key) ∧ xs = #[] ∧ ys = #[] := by
  cases h with
  | flat v h => simp [flat1] at h
  | yld b L h h0 => exact ⟨L, h, rfl, h0, rfl, rfl⟩
theorem VRel.isCell {m : Mp} {x y : Value} (h : VRel m x y) (hc : AM.isCell x = true) : y.oneCell' = true ∧ y.cells = #[y] := by
  cases h <;> first
    | (simp [AM.isCell] at hc; done)
    | exact ⟨rfl, rfl⟩
    | (rename_i hf; cases x <;> simp [flat1] at hf <;> exact ⟨rfl, rfl⟩)
theorem VRel.cells {m : Mp} {x y : Value} (h : VRel m x y) (hc : okCells x = true) : LRel m x.cells.toList y.cells.toList ∧ ∀ u ∈ y.cells.toList, u.oneCell' = true := by
  by_cases ha : ∃ cs, x = .agg cs
  · obtain ⟨cs, rfl⟩ := ha
    obtain ⟨ys, rfl, hl⟩ := h.agg_inv
    refine ⟨hl, fun u hu => ?_⟩
    obtain ⟨i, hi⟩ := List.getElem?_of_mem hu
    have hlt : i < cs.toList.length := by rw [hl.1]; exact (List.getElem?_eq_some_iff.1 hi).1
    have hx := List.getElem?_eq_getElem hlt
    exact (VRel.isCell (hl.2 i _ _ hx hi) (List.all_eq_true.1 hc _ (List.mem_of_getElem? hx))).1
  · have hx : x.cells = #[x] := by cases x <;> first | rfl | exact (ha ⟨_, rfl⟩).elim
    have hc' : AM.isCell x = true := by unfold okCells at hc; cases x <;> first | exact hc | exact (ha ⟨_, rfl⟩).elim
    obtain ⟨h1, h2⟩ := h.isCell hc'
    rw [hx, h2]
    exact ⟨LRel.cons h (LRel.nil m), fun u hu => by simp at hu; subst hu; exact h1⟩

def StOK (c : Nat) (st : LoopState) (pe : Option Code) : Prop :=
  match c with
  | 0 => st = .ready ∧ pe = none
  | 1 => st = .busy
  | 2 => st = .done ∧ pe = some .ret
  | n + 3 => st = .done ∧ pe = some (.exit n)
structure BRel (P : Program) (B0 : Nat) (m : Mp) (L : Loc) (k : Blk) (w : World) : Prop where
  kind : L.kind = k.kind
  there : k.kind.row = true → ∃ c e fr, w.heap[L.blk]? = some (.cells c e fr) ∧ LRel m k.cells ((c.toList.drop L.base).take k.cells.length) ∧ (k.kind ≠ .ro → (k.kind ≠ .buf → k.kind ≠ .byt → fr = (0, 0)) ∧ e = k.elem ∧ L.base ≤ c.size) ∧ (k.kind = .fix → L.base = 0 ∧ c.size = k.cells.length) ∧
    (k.kind.gr = true → c.size = L.csize) ∧ (k.kind = .buf → fr.2 ≤ L.base + k.cells.length ∧ (k.cells = [] → fr.2 = 0)) ∧ (k.kind = .byt → fr = (0, 0) ∨ c.size ≤ fr.1)
  mp : k.kind = .map → ∃ es clock es0, w.heap[L.blk]? = some (.map es clock) ∧ es.toList.Perm es0 ∧ (es0.map (·.key)).Nodup ∧ ((∀ e ∈ es0, e.born < clock) ∧ (es0.map (·.born)).Nodup) ∧ LRel m k.cells (es0.flatMap fun e => [e.key, e.val])
  lp : ∀ f key, k.kind = .loop f key → ∃ rc : Loop, w.heap[L.blk]? = some (.loop rc) ∧ rangeAt P f key = some (rc.params, rc.assign, rc.body) ∧ ∃ (c : Nat) (T : List Value), k.cells = .int .i64 (c : Int) :: T ∧ LRel m T rc.tmps.toList ∧ StOK c rc.state rc.pending
  own : k.kind ≠ .ro → B0 ≤ L.blk
  esz : k.kind.gr = true → L.esz = szT P k.elem
structure Rel (P : Program) (B0 : Nat) (w0 : World) (m : Mp) (H : AH) (w : World) : Prop where
  below : Below B0 w0 w
  hB : B0 ≤ w.heap.size
  dom : ∀ b L, m b = some L → b < H.length ∧ L.blk < w.heap.size
  blks : ∀ b L k, m b = some L → blk H b = some k → BRel P B0 m L k w
  inj : ∀ b1 b2 L1 L2 k1 k2, m b1 = some L1 → m b2 = some L2 → blk H b1 = some k1 → blk H b2 = some k2 → k1.kind ≠ .ro → b1 ≠ b2 → L1.blk ≠ L2.blk
structure Ext (m : Mp) (H : AH) (w : World) (m' : Mp) (H' : AH) (w' : World) : Prop where
  mono : ∀ b L, m b = some L → m' b = some L
  len : H.length ≤ H'.length
  size : w.heap.size ≤ w'.heap.size
  alive : ∀ b k', b < H.length → blk H' b = some k' → ∃ k, blk H b = some k ∧ k.kind = k'.kind
  new : ∀ b L, m' b = some L → m b = some L ∨ (H.length ≤ b ∧ (w.heap.size ≤ L.blk ∨ ∃ b0 L0 k0, m b0 = some L0 ∧ blk H b0 = some k0 ∧ k0.kind ≠ .ro ∧ L0.blk = L.blk))
  frame : ∀ B, B < w.heap.size → (∀ b L k, m b = some L → blk H b = some k → k.kind ≠ .ro → L.blk ≠ B) → w'.heap[B]? = w.heap[B]?
theorem Ext.refl (m : Mp) (H : AH) (w : World) : Ext m H w m H w := ⟨fun _ _ h => h, Nat.le_refl _, Nat.le_refl _, fun _ k' _ h => ⟨k', h, rfl⟩, fun _ _ h => .inl h, fun _ _ _ => rfl⟩
theorem Ext.trans {m m' m'' : Mp} {H H' H'' : AH} {w w' w'' : World} (hd : ∀ b L, m b = some L → b < H.length) (h : Ext m H w m' H' w') (k : Ext m' H' w' m'' H'' w'') : Ext m H w m'' H'' w'' := by
  refine ⟨fun b L hb => k.mono b L (h.mono b L hb), Nat.le_trans h.len k.len, Nat.le_trans h.size k.size, ?_, ?_, ?_⟩
  · intro b k'' hb hk
    obtain ⟨k', h1, h2⟩ := k.alive b k'' (Nat.lt_of_lt_of_le hb h.len) hk
    obtain ⟨k0, h3, h4⟩ := h.alive b k' hb h1
    exact ⟨k0, h3, h4.trans h2⟩
  · intro b L hb
    rcases k.new b L hb with h1 | ⟨h1, h2⟩
    · exact h.new b L h1
    · refine .inr ⟨Nat.le_trans h.len h1, ?_⟩
      rcases h2 with h2 | ⟨b0, L0, k0, h3, h4, h5, h6⟩
      · exact .inl (Nat.le_trans h.size h2)
      · rcases h.new b0 L0 h3 with h7 | ⟨h7, h8⟩
        · obtain ⟨k1, h9, h10⟩ := h.alive b0 k0 (hd _ _ h7) h4
          exact .inr ⟨b0, L0, k1, h7, h9, by rw [h10]; exact h5, h6⟩
        · rw [h6] at h8
          exact h8
  · intro B hB hr
    rw [k.frame B (Nat.lt_of_lt_of_le hB h.size), h.frame B hB hr]
    intro b L k' hb hk hne
    rcases h.new b L hb with h1 | ⟨h1, h2⟩
    · obtain ⟨k0, h3, h4⟩ := h.alive b k' (hd _ _ h1) hk
      exact hr b L k0 h1 h3 (by rw [h4]; exact hne)
    · rcases h2 with h2 | ⟨b0, L0, k0, h3, h4, h5, h6⟩
      · omega
      · rw [← h6]; exact hr b0 L0 k0 h3 h4 h5
end Go.AM
namespace Go.AM
open Go.RowKit

theorem blk_lt' {H : AH} {b : Nat} {k : Blk} (h : blk H b = some k) : b < H.length := by
  unfold blk at h
  rcases Nat.lt_or_ge b H.length with h1 | h1
  · exact h1
  · rw [List.getElem?_eq_none h1] at h; cases h
theorem blk_eq {H : AH} {b : Nat} {k : Blk} : blk H b = some k ↔ H[b]? = some (some k) := by
  unfold blk
  cases h : H[b]? with
  | none => simp
  | some x => simp
theorem blk_mkB_old' {H : AH} {b : Nat} (cs : List Value) (e : TypeId) (kd : BK) (h : b < H.length) : blk (mkB H cs e kd) b = blk H b := by
  unfold blk mkB
  rw [List.getElem?_append_left h]
theorem blk_mkB_new' (H : AH) (cs : List Value) (e : TypeId) (kd : BK) : blk (mkB H cs e kd) H.length = some ⟨cs, e, kd⟩ := by
  unfold blk mkB
  simp
theorem length_mkB' (H : AH) (cs : List Value) (e : TypeId) (kd : BK) : (mkB H cs e kd).length = H.length + 1 := by simp [mkB]
theorem blk_put_same {H : AH} {b : Nat} (k : Blk) (cs : List Value) (h : b < H.length) : blk (put H b k cs) b = some ⟨cs, k.elem, k.kind⟩ := by
  unfold blk put
  rw [List.getElem?_set_self h]
  rfl
theorem blk_put_ne {H : AH} {b c : Nat} (k : Blk) (cs : List Value) (h : b ≠ c) : blk (put H b k cs) c = blk H c := by
  unfold blk put
  rw [List.getElem?_set_ne h]
theorem length_put' (H : AH) (b : Nat) (k : Blk) (cs : List Value) : (put H b k cs).length = H.length := by simp [put]
theorem blk_kill_same (H : AH) (b : Nat) : blk (kill H b) b = none := by
  unfold blk kill
  rcases Nat.lt_or_ge b H.length with h1 | h1
  · rw [List.getElem?_set_self h1]; rfl
  · rw [List.getElem?_eq_none (by simpa using h1)]; rfl
theorem blk_kill_ne {H : AH} {b c : Nat} (h : b ≠ c) : blk (kill H b) c = blk H c := by
  unfold blk kill
  rw [List.getElem?_set_ne h]
theorem length_kill' (H : AH) (b : Nat) : (kill H b).length = H.length := by simp [kill]

section
variable {P : Program} {B0 : Nat} {w0 : World} {m : Mp} {H : AH} {w : World}

theorem addAddr (b o j : Nat) : (⟨b, o, none⟩ : Addr).add j = ⟨b, o + j, none⟩ := Addr.add_lit b o j
theorem BRel.at {L : Loc} {k : Blk} {w' : World} {m' : Mp} (h : BRel P B0 m L k w) (hm : ∀ b L, m b = some L → m' b = some L) (e : w'.heap[L.blk]? = w.heap[L.blk]?) : BRel P B0 m' L k w' := by
  refine ⟨h.kind, fun hk => ?_, fun hk => ?_, fun f key hk => ?_, h.own, h.esz⟩
  · obtain ⟨c, e2, fr, hw, r1, r2⟩ := h.there hk
    exact ⟨c, e2, fr, by rw [e]; exact hw, r1.mono hm, r2⟩
  · obtain ⟨es, ck, es0, hw, r1, r2, r3, r⟩ := h.mp hk
    exact ⟨es, ck, es0, by rw [e]; exact hw, r1, r2, r3, r.mono hm⟩
  · obtain ⟨rc, hw, r1, c, T, r2, r3, r4⟩ := h.lp f key hk
    exact ⟨rc, by rw [e]; exact hw, r1, c, T, r2, r3.mono hm, r4⟩
theorem BRel.noMap {L : Loc} {k : Blk} (h : BRel P B0 m L k w) {c : Array Value} {e : TypeId} {fr : Nat × Nat} (hw : w.heap[L.blk]? = some (.cells c e fr)) : k.kind.row = true := by
  have h1 : k.kind ≠ .map := by
    intro hk
    obtain ⟨es, ck, _, h1, _⟩ := h.mp hk
    rw [hw] at h1
    cases h1
  have h2 : ∀ f key, k.kind ≠ .loop f key := by
    intro f key hk
    obtain ⟨rc, h1, _⟩ := h.lp f key hk
    rw [hw] at h1
    cases h1
  cases hk : k.kind <;> first | rfl | exact absurd hk h1 | exact absurd hk (h2 _ _)
theorem BK.row_map {k : BK} (h : k.row = true) : k ≠ .map ∧ ∀ f key, k ≠ .loop f key := by
  cases k <;> first | (cases h; done) | exact ⟨by simp, by simp⟩
theorem BK.wr_row {k : BK} (h : k.wr = true) : k.row = true ∧ k ≠ .ro ∧ k ≠ .buf := by
  cases k <;> first | (cases h; done) | exact ⟨rfl, by simp, by simp⟩
theorem BK.gr_row {k : BK} (h : k.gr = true) : k.row = true ∧ k ≠ .ro ∧ k ≠ .fix := by
  cases k <;> first | (cases h; done) | exact ⟨rfl, by simp, by simp⟩
theorem BRel.row {L : Loc} {k : Blk} (h : BRel P B0 m L k w) (h0 : L.kind.row = true) {off n : Nat} {cs : List Value} (hr : rdN k off n = some cs) :
    ∃ ds, LRel m cs ds ∧ ∀ (j : Nat) (u : Value), ds[j]? = some u → w.cell? ((⟨L.blk, L.base + off, none⟩ : Addr).add j) = some u := by
  obtain ⟨c, e, fr, hw, hl, _⟩ := h.there (by rw [← h.kind]; exact h0)
  unfold rdN at hr
  split at hr
  · rename_i hle
    cases hr
    refine ⟨_, (hl.drop off).take n, fun j u hu => ?_⟩
    rw [addAddr]
    unfold World.cell?
    rw [hw]
    rw [List.getElem?_take] at hu
    split at hu
    · rename_i hj
      rw [List.getElem?_drop, List.getElem?_take, if_pos (by omega), List.getElem?_drop] at hu
      simp only [Option.isSome_none, Bool.false_eq_true, if_false]
      rw [← Array.getElem?_toList, ← hu]
      congr 1
      omega
    · cases hu
  · cases hr
theorem BRel.cell {L : Loc} {k : Blk} (h : BRel P B0 m L k w) (h0 : L.kind.row = true) {off : Nat} {x : Value} (hx : k.cells[off]? = some x) :
    ∃ y, VRel m x y ∧ w.cell? ⟨L.blk, L.base + off, none⟩ = some y := by
  have hlt := (List.getElem?_eq_some_iff.1 hx).1
  obtain ⟨ds, hl, hc⟩ := h.row h0 (off := off) (n := 1) (cs := (k.cells.drop off).take 1) (by unfold rdN; rw [if_pos (by omega)])
  have h0 : ((k.cells.drop off).take 1)[0]? = some x := by simp [hx]
  have hlen := hl.1
  cases ds with
  | nil => simp at hlen; omega
  | cons y ds => exact ⟨y, hl.2 0 x y h0 rfl, by simpa [addAddr] using hc 0 y rfl⟩

theorem setRow_size (w : World) (g : Nat) (cs : Array Value) : (w.setRow g cs).heap.size = w.heap.size := by simp [World.setRow]
theorem setRow_ne (w : World) {g k : Nat} (cs : Array Value) (h : g ≠ k) : (w.setRow g cs).heap[k]? = w.heap[k]? := by
  simp only [World.setRow, Array.getElem?_modify]
  rw [if_neg h]
theorem Rel.write (h : Rel P B0 w0 m H w) {b : Nat} {L : Loc} {k : Blk} (hm : m b = some L) (hb : blk H b = some k) (hk : k.kind ≠ .ro) {c : Array Value} {e : TypeId} {fr : Nat × Nat} (hw : w.heap[L.blk]? = some (.cells c e fr))
    (cs : List Value) (c' : Array Value) (hs : c'.size = c.size) (hlen : cs.length = k.cells.length) (hl : LRel m cs ((c'.toList.drop L.base).take cs.length)) :
    Rel P B0 w0 m (put H b k cs) (w.setRow L.blk c') ∧ Ext m H w m (put H b k cs) (w.setRow L.blk c') := by
  have hB := (h.blks b L k hm hb)
  have hfr : Ext m H w m (put H b k cs) (w.setRow L.blk c') := by
    refine ⟨fun _ _ h => h, Nat.le_of_eq (length_put' ..).symm, Nat.le_of_eq (setRow_size ..).symm, ?_, fun _ _ h => .inl h, ?_⟩
    · intro b2 k2 _ hk2
      by_cases hbb : b = b2
      · subst hbb
        rw [blk_put_same _ _ (blk_lt' hb)] at hk2
        cases hk2
        exact ⟨k, hb, rfl⟩
      · rw [blk_put_ne _ _ hbb] at hk2
        exact ⟨k2, hk2, rfl⟩
    · intro B _ hr
      exact setRow_ne _ _ (hr b L k hm hb hk)
  refine ⟨⟨?_, ?_, ?_, ?_, ?_⟩, hfr⟩
  · refine h.below.trans ⟨rfl, rfl, rfl, hfr.size, fun j hj => setRow_ne _ _ ?_⟩
    have := hB.own hk
    omega
  · rw [setRow_size]; exact h.hB
  · intro b2 L2 h2
    rw [length_put', setRow_size]
    exact h.dom b2 L2 h2
  · intro b2 L2 k2 hm2 hk2
    by_cases hbb : b = b2
    · subst hbb
      rw [hm] at hm2
      cases hm2
      rw [blk_put_same _ _ (blk_lt' hb)] at hk2
      cases hk2
      have hnm := hB.noMap hw
      obtain ⟨c0, e0, fr0, hw0, _, h3, h4, h5, h6⟩ := hB.there hnm
      rw [hw] at hw0
      cases hw0
      exact ⟨hB.kind, fun _ => ⟨c', e, fr, setRow_heap w _ _ _ _ _ hw, hl, (fun hx => by rw [hs]; exact h3 hx), fun hf => ⟨(h4 hf).1, by rw [hs, (h4 hf).2, hlen]⟩, fun hg => by rw [hs, h5 hg], ⟨fun hbf => ⟨by show fr.2 ≤ L.base + cs.length; rw [hlen]; exact (h6.1 hbf).1, fun hn => (h6.1 hbf).2 (List.eq_nil_of_length_eq_zero (by rw [← hlen]; show cs.length = 0; rw [show cs = [] from hn]; rfl))⟩, fun hy => by rw [hs]; exact h6.2 hy⟩⟩, fun hx => absurd hx (BK.row_map hnm).1, fun f key hx => absurd hx ((BK.row_map hnm).2 f key), hB.own, hB.esz⟩
    · rw [blk_put_ne _ _ hbb] at hk2
      have hne : L.blk ≠ L2.blk := h.inj b b2 L L2 k k2 hm hm2 hb hk2 hk hbb
      exact (h.blks b2 L2 k2 hm2 hk2).at (fun _ _ h => h) (setRow_ne _ _ hne)
  · intro b1 b2 L1 L2 k1 k2 hm1 hm2 hk1 hk2 hne hbb
    have up : ∀ b3 k3, blk (put H b k cs) b3 = some k3 → ∃ k4, blk H b3 = some k4 ∧ k4.kind = k3.kind := fun b3 k3 h3 => hfr.alive b3 k3 (by have := blk_lt' h3; rwa [length_put'] at this) h3
    obtain ⟨k3, h3, h4⟩ := up b1 k1 hk1
    obtain ⟨k4, h5, _⟩ := up b2 k2 hk2
    exact h.inj b1 b2 L1 L2 k3 k4 hm1 hm2 h3 h5 (by rw [h4]; exact hne) hbb
def upd (m : Mp) (b : Nat) (L : Loc) : Mp := fun i => if i = b then some L else m i
theorem upd_same (m : Mp) (b : Nat) (L : Loc) : upd m b L b = some L := by simp [upd]
theorem upd_mono (h : ∀ b L, m b = some L → b < H.length) (L0 : Loc) : ∀ b L, m b = some L → upd m H.length L0 b = some L := by
  intro b L hb
  unfold upd
  rw [if_neg (by have := h b L hb; omega)]
  exact hb
theorem Rel.drew (h : Rel P B0 w0 m H w) : Rel P B0 w0 m H w.drew :=
  ⟨h.below.drew, h.hB, h.dom, fun b L k h1 h2 => (h.blks b L k h1 h2).at (fun _ _ h => h) rfl, h.inj⟩
theorem Ext.drew {m' : Mp} {H' : AH} {w' : World} (h : Ext m H w m' H' w') : Ext m H w m' H' w'.drew := ⟨h.mono, h.len, h.size, h.alive, h.new, h.frame⟩
theorem Ext.drewL {m' : Mp} {H' : AH} {w' : World} (h : Ext m H w.drew m' H' w') : Ext m H w m' H' w' := ⟨h.mono, h.len, h.size, h.alive, h.new, h.frame⟩
theorem Rel.make (h : Rel P B0 w0 m H w) (cs : List Value) (e : TypeId) (kd : BK) (c : Array Value) (hkd : kd ≠ .ro) (hl : LRel m cs (c.toList.take cs.length)) (hf : kd = .fix → c.size = cs.length) (hkm : kd.row = true := by decide) :
    let L : Loc := ⟨w.heap.size, 0, kd, c.size, szT P e⟩
    Rel P B0 w0 (upd m H.length L) (mkB H cs e kd) (w.alloc (.cells c e)) ∧ Ext m H w (upd m H.length L) (mkB H cs e kd) (w.alloc (.cells c e)) := by
  intro L
  have hmono := upd_mono (m := m) (H := H) (fun b L hb => (h.dom b L hb).1) L
  have old : ∀ b2 L2, upd m H.length L b2 = some L2 → (b2 = H.length ∧ L2 = L) ∨ (b2 ≠ H.length ∧ m b2 = some L2) := by
    intro b2 L2 h2
    unfold upd at h2
    split at h2
    · rename_i hb; cases h2; exact .inl ⟨hb, rfl⟩
    · rename_i hb; exact .inr ⟨hb, h2⟩
  have hfr : Ext m H w (upd m H.length L) (mkB H cs e kd) (w.alloc (.cells c e)) := by
    refine ⟨hmono, by rw [length_mkB']; omega, by simp, ?_, ?_, fun B hB _ => Below.heap_alloc w _ _ hB⟩
    · intro b2 k2 hb2 hk2
      rw [blk_mkB_old' _ _ _ hb2] at hk2
      exact ⟨k2, hk2, rfl⟩
    · intro b2 L2 h2
      rcases old b2 L2 h2 with ⟨rfl, rfl⟩ | ⟨_, h3⟩
      · exact .inr ⟨Nat.le_refl _, .inl (Nat.le_refl _)⟩
      · exact .inl h3
  refine ⟨⟨h.below.alloc h.hB _, by simp; exact Nat.le_succ_of_le h.hB, ?_, ?_, ?_⟩, hfr⟩
  · intro b2 L2 h2
    rw [length_mkB']
    simp only [World.size_alloc]
    rcases old b2 L2 h2 with ⟨rfl, rfl⟩ | ⟨_, h3⟩
    · exact ⟨by omega, by show w.heap.size < _; omega⟩
    · have := h.dom b2 L2 h3; omega
  · intro b2 L2 k2 h2 hk2
    rcases old b2 L2 h2 with ⟨rfl, rfl⟩ | ⟨hne, h3⟩
    · rw [blk_mkB_new'] at hk2
      cases hk2
      refine ⟨rfl, fun _ => ⟨c, e, (0, 0), heap_alloc_new w _, ?_, fun _ => ⟨fun _ _ => rfl, rfl, Nat.zero_le _⟩, fun hk => ⟨rfl, hf hk⟩, fun _ => rfl, fun _ => ⟨Nat.zero_le _, fun _ => rfl⟩, fun _ => .inl rfl⟩, fun hx => absurd hx (BK.row_map hkm).1, fun f key hx => absurd hx ((BK.row_map hkm).2 f key), fun _ => h.hB, fun _ => rfl⟩
      show LRel _ cs ((c.toList.drop 0).take cs.length)
      rw [List.drop_zero]
      exact hl.mono hmono
    · have hlt := (h.dom b2 L2 h3)
      rw [blk_mkB_old' _ _ _ hlt.1] at hk2
      exact (h.blks b2 L2 k2 h3 hk2).at hmono (Below.heap_alloc w _ _ hlt.2)
  · intro b1 b2 L1 L2 k1 k2 hm1 hm2 hk1 hk2 hne hbb
    rcases old b1 L1 hm1 with ⟨rfl, rfl⟩ | ⟨hn1, h1⟩
    · rcases old b2 L2 hm2 with ⟨rfl, rfl⟩ | ⟨hn2, h2⟩
      · exact (hbb rfl).elim
      · have := (h.dom b2 L2 h2).2
        show w.heap.size ≠ L2.blk
        omega
    · have hd1 := h.dom b1 L1 h1
      rw [blk_mkB_old' _ _ _ hd1.1] at hk1
      rcases old b2 L2 hm2 with ⟨rfl, rfl⟩ | ⟨hn2, h2⟩
      · show L1.blk ≠ w.heap.size
        omega
      · have hd2 := h.dom b2 L2 h2
        rw [blk_mkB_old' _ _ _ hd2.1] at hk2
        exact h.inj b1 b2 L1 L2 k1 k2 h1 h2 hk1 hk2 hne hbb
theorem Rel.killed (h : Rel P B0 w0 m H w) (b : Nat) : Rel P B0 w0 m (kill H b) w ∧ Ext m H w m (kill H b) w := by
  have up : ∀ b3 k3, blk (kill H b) b3 = some k3 → blk H b3 = some k3 := by
    intro b3 k3 h3
    by_cases hb : b = b3
    · subst hb; rw [blk_kill_same] at h3; cases h3
    · rwa [blk_kill_ne hb] at h3
  refine ⟨⟨h.below, h.hB, fun b2 L2 h2 => by rw [length_kill']; exact h.dom b2 L2 h2, fun b2 L2 k2 h2 hk2 => h.blks b2 L2 k2 h2 (up _ _ hk2), fun b1 b2 L1 L2 k1 k2 hm1 hm2 hk1 hk2 => h.inj b1 b2 L1 L2 k1 k2 hm1 hm2 (up _ _ hk1) (up _ _ hk2)⟩,
    ⟨fun _ _ h => h, Nat.le_of_eq (length_kill' ..).symm, Nat.le_refl _, fun b2 k2 _ hk2 => ⟨k2, up _ _ hk2, rfl⟩, fun _ _ h => .inl h, fun _ _ _ => rfl⟩⟩
theorem Rel.regrow (h : Rel P B0 w0 m H w) {b : Nat} {L : Loc} {k : Blk} (hm : m b = some L) (hb : blk H b = some k) (hk : k.kind.gr = true) {c : Array Value} {e : TypeId} {fr : Nat × Nat} (hw : w.heap[L.blk]? = some (.cells c e fr))
    (base : Nat) (cs : List Value) (c' : Array Value) (hs : c'.size = c.size) (hbs : base ≤ c'.size) (hl : LRel m cs ((c'.toList.drop base).take cs.length)) (hfz : k.kind = .buf → fr.2 ≤ base + cs.length ∧ (cs = [] → fr.2 = 0)) :
    let L' : Loc := ⟨L.blk, base, k.kind, L.csize, L.esz⟩
    Rel P B0 w0 (upd m H.length L') (mkB (kill H b) cs k.elem k.kind) (w.setRow L.blk c') ∧ Ext m H w (upd m H.length L') (mkB (kill H b) cs k.elem k.kind) (w.setRow L.blk c') := by
  intro L'
  have hk' : k.kind ≠ .ro := (BK.gr_row hk).2.1
  have hkr : k.kind.row = true := (BK.gr_row hk).1
  have hmono := upd_mono (m := m) (H := H) (fun b L hb => (h.dom b L hb).1) L'
  have old : ∀ b2 L2, upd m H.length L' b2 = some L2 → (b2 = H.length ∧ L2 = L') ∨ (b2 ≠ H.length ∧ m b2 = some L2) := by
    intro b2 L2 h2
    unfold upd at h2
    split at h2
    · rename_i hb; cases h2; exact .inl ⟨hb, rfl⟩
    · rename_i hb; exact .inr ⟨hb, h2⟩
  have hlk : (kill H b).length = H.length := length_kill' ..
  have back : ∀ b3 k3, b3 < H.length → blk (mkB (kill H b) cs k.elem k.kind) b3 = some k3 → b ≠ b3 ∧ blk H b3 = some k3 := by
    intro b3 k3 h3 hk3
    rw [blk_mkB_old' _ _ _ (by rw [hlk]; exact h3)] at hk3
    by_cases hbb : b = b3
    · subst hbb; rw [blk_kill_same] at hk3; cases hk3
    · exact ⟨hbb, by rwa [blk_kill_ne hbb] at hk3⟩
  have hB := h.blks b L k hm hb
  have hfr : Ext m H w (upd m H.length L') (mkB (kill H b) cs k.elem k.kind) (w.setRow L.blk c') := by
    refine ⟨hmono, by rw [length_mkB', hlk]; omega, Nat.le_of_eq (setRow_size ..).symm, ?_, ?_, ?_⟩
    · intro b2 k2 hb2 hk2
      exact ⟨k2, (back b2 k2 hb2 hk2).2, rfl⟩
    · intro b2 L2 h2
      rcases old b2 L2 h2 with ⟨rfl, rfl⟩ | ⟨_, h3⟩
      · exact .inr ⟨Nat.le_refl _, .inr ⟨b, L, k, hm, hb, hk', rfl⟩⟩
      · exact .inl h3
    · intro B _ hr
      exact setRow_ne _ _ (hr b L k hm hb hk')
  refine ⟨⟨?_, by rw [setRow_size]; exact h.hB, ?_, ?_, ?_⟩, hfr⟩
  · refine h.below.trans ⟨rfl, rfl, rfl, hfr.size, fun j hj => setRow_ne _ _ ?_⟩
    have := hB.own hk'
    omega
  · intro b2 L2 h2
    rw [length_mkB', hlk, setRow_size]
    rcases old b2 L2 h2 with ⟨rfl, rfl⟩ | ⟨_, h3⟩
    · have := (h.dom b L hm).2
      exact ⟨by omega, this⟩
    · have := h.dom b2 L2 h3; omega
  · intro b2 L2 k2 h2 hk2
    rcases old b2 L2 h2 with ⟨rfl, rfl⟩ | ⟨hne, h3⟩
    · rw [← hlk, blk_mkB_new'] at hk2
      cases hk2
      obtain ⟨c0, e0, fr0, hw0, _, h4, _, h6, _⟩ := hB.there (hB.noMap hw)
      rw [hw] at hw0
      cases hw0
      exact ⟨rfl, fun _ => ⟨c', e, fr, setRow_heap w _ _ _ _ _ hw, hl.mono hmono, fun _ => ⟨(h4 hk').1, (h4 hk').2.1, hbs⟩, (fun hx => absurd hx (BK.gr_row hk).2.2), fun _ => by rw [hs]; exact h6 hk, fun hx => hfz hx, fun hx => by have h9 := hk; rw [show k.kind = .byt from hx] at h9; cases h9⟩, (fun hx => absurd hx (BK.row_map hkr).1), (fun f key hx => absurd hx ((BK.row_map hkr).2 f key)), fun _ => hB.own hk', fun _ => hB.esz hk⟩
    · have hlt := (h.dom b2 L2 h3)
      obtain ⟨hbb, hk3⟩ := back b2 k2 hlt.1 hk2
      have hne2 : L.blk ≠ L2.blk := h.inj b b2 L L2 k k2 hm h3 hb hk3 hk' hbb
      exact (h.blks b2 L2 k2 h3 hk3).at hmono (setRow_ne _ _ hne2)
  · intro b1 b2 L1 L2 k1 k2 hm1 hm2 hk1 hk2 hne hbb
    rcases old b1 L1 hm1 with ⟨rfl, rfl⟩ | ⟨hn1, h1⟩
    · rcases old b2 L2 hm2 with ⟨rfl, rfl⟩ | ⟨hn2, h2⟩
      · exact (hbb rfl).elim
      · obtain ⟨hb2, hk3⟩ := back b2 k2 (h.dom b2 L2 h2).1 hk2
        exact h.inj b b2 L L2 k k2 hm h2 hb hk3 hk' hb2
    · obtain ⟨hb1, hk3⟩ := back b1 k1 (h.dom b1 L1 h1).1 hk1
      rcases old b2 L2 hm2 with ⟨rfl, rfl⟩ | ⟨hn2, h2⟩
      · exact h.inj b1 b L1 L k1 k h1 hm hk3 hb hne (Ne.symm hb1)
      · obtain ⟨_, hk4⟩ := back b2 k2 (h.dom b2 L2 h2).1 hk2
        exact h.inj b1 b2 L1 L2 k1 k2 h1 h2 hk3 hk4 hne hbb
end
end Go.AM
namespace Go.AM
open Go.RowKit
section
variable {P : Program} {B0 : Nat} {w0 : World} {m : Mp} {H : AH} {w : World}
theorem Rel.turn (h : Rel P B0 w0 m H w) {b : Nat} {L : Loc} {k : Blk} (hm : m b = some L) (hb : blk H b = some k) (hk : k.kind ≠ .ro) (cs : List Value) (o : Obj)
    (hB' : BRel P B0 m L ⟨cs, k.elem, k.kind⟩ (w.putObj L.blk o)) :
    Rel P B0 w0 m (put H b k cs) (w.putObj L.blk o) ∧ Ext m H w m (put H b k cs) (w.putObj L.blk o) := by
  have hB := (h.blks b L k hm hb)
  have hfr : Ext m H w m (put H b k cs) (w.putObj L.blk o) := by
    refine ⟨fun _ _ h => h, Nat.le_of_eq (length_put' ..).symm, Nat.le_of_eq World.putObj_size.symm, ?_, fun _ _ h => .inl h, ?_⟩
    · intro b2 k2 _ hk2
      by_cases hbb : b = b2
      · subst hbb
        rw [blk_put_same _ _ (blk_lt' hb)] at hk2
        cases hk2
        exact ⟨k, hb, rfl⟩
      · rw [blk_put_ne _ _ hbb] at hk2
        exact ⟨k2, hk2, rfl⟩
    · intro B _ hr
      exact World.putObj_heap_other (Ne.symm (hr b L k hm hb hk))
  refine ⟨⟨?_, ?_, ?_, ?_, ?_⟩, hfr⟩
  · refine h.below.trans ⟨rfl, rfl, rfl, hfr.size, fun j hj => World.putObj_heap_other ?_⟩
    have := hB.own hk
    omega
  · rw [World.putObj_size]; exact h.hB
  · intro b2 L2 h2
    rw [length_put', World.putObj_size]
    exact h.dom b2 L2 h2
  · intro b2 L2 k2 hm2 hk2
    by_cases hbb : b = b2
    · subst hbb
      rw [hm] at hm2
      cases hm2
      rw [blk_put_same _ _ (blk_lt' hb)] at hk2
      cases hk2
      exact hB'
    · rw [blk_put_ne _ _ hbb] at hk2
      have hne : L.blk ≠ L2.blk := h.inj b b2 L L2 k k2 hm hm2 hb hk2 hk hbb
      exact (h.blks b2 L2 k2 hm2 hk2).at (fun _ _ h => h) (World.putObj_heap_other (Ne.symm hne))
  · intro b1 b2 L1 L2 k1 k2 hm1 hm2 hk1 hk2 hne hbb
    have up : ∀ b3 k3, blk (put H b k cs) b3 = some k3 → ∃ k4, blk H b3 = some k4 ∧ k4.kind = k3.kind := fun b3 k3 h3 => hfr.alive b3 k3 (by have := blk_lt' h3; rwa [length_put'] at this) h3
    obtain ⟨k3, h3, h4⟩ := up b1 k1 hk1
    obtain ⟨k4, h5, _⟩ := up b2 k2 hk2
    exact h.inj b1 b2 L1 L2 k3 k4 hm1 hm2 h3 h5 (by rw [h4]; exact hne) hbb
theorem Rel.makeO (h : Rel P B0 w0 m H w) (cs : List Value) (e : TypeId) (kd : BK) (o : Obj) (L : Loc) (hL : L.blk = w.heap.size) (hnew : ∀ m', (∀ b L, m b = some L → m' b = some L) → BRel P B0 m' L ⟨cs, e, kd⟩ (w.alloc o)) :
    Rel P B0 w0 (upd m H.length L) (mkB H cs e kd) (w.alloc o) ∧ Ext m H w (upd m H.length L) (mkB H cs e kd) (w.alloc o) := by
  have hmono := upd_mono (m := m) (H := H) (fun b L hb => (h.dom b L hb).1) L
  have old : ∀ b2 L2, upd m H.length L b2 = some L2 → (b2 = H.length ∧ L2 = L) ∨ (b2 ≠ H.length ∧ m b2 = some L2) := by
    intro b2 L2 h2
    unfold upd at h2
    split at h2
    · rename_i hb; cases h2; exact .inl ⟨hb, rfl⟩
    · rename_i hb; exact .inr ⟨hb, h2⟩
  have hfr : Ext m H w (upd m H.length L) (mkB H cs e kd) (w.alloc o) := by
    refine ⟨hmono, by rw [length_mkB']; omega, by simp, ?_, ?_, fun B hB _ => Below.heap_alloc w _ _ hB⟩
    · intro b2 k2 hb2 hk2
      rw [blk_mkB_old' _ _ _ hb2] at hk2
      exact ⟨k2, hk2, rfl⟩
    · intro b2 L2 h2
      rcases old b2 L2 h2 with ⟨rfl, rfl⟩ | ⟨_, h3⟩
      · exact .inr ⟨Nat.le_refl _, .inl (Nat.le_of_eq hL.symm)⟩
      · exact .inl h3
  refine ⟨⟨h.below.alloc h.hB _, by simp; exact Nat.le_succ_of_le h.hB, ?_, ?_, ?_⟩, hfr⟩
  · intro b2 L2 h2
    rw [length_mkB']
    simp only [World.size_alloc]
    rcases old b2 L2 h2 with ⟨rfl, rfl⟩ | ⟨_, h3⟩
    · exact ⟨by omega, by omega⟩
    · have := h.dom b2 L2 h3; omega
  · intro b2 L2 k2 h2 hk2
    rcases old b2 L2 h2 with ⟨rfl, rfl⟩ | ⟨hne, h3⟩
    · rw [blk_mkB_new'] at hk2
      cases hk2
      exact hnew _ hmono
    · have hlt := (h.dom b2 L2 h3)
      rw [blk_mkB_old' _ _ _ hlt.1] at hk2
      exact (h.blks b2 L2 k2 h3 hk2).at hmono (Below.heap_alloc w _ _ hlt.2)
  · intro b1 b2 L1 L2 k1 k2 hm1 hm2 hk1 hk2 hne hbb
    rcases old b1 L1 hm1 with ⟨rfl, rfl⟩ | ⟨hn1, h1⟩
    · rcases old b2 L2 hm2 with ⟨rfl, rfl⟩ | ⟨hn2, h2⟩
      · exact (hbb rfl).elim
      · have := (h.dom b2 L2 h2).2
        omega
    · have hd1 := h.dom b1 L1 h1
      rw [blk_mkB_old' _ _ _ hd1.1] at hk1
      rcases old b2 L2 hm2 with ⟨rfl, rfl⟩ | ⟨hn2, h2⟩
      · omega
      · have hd2 := h.dom b2 L2 h2
        rw [blk_mkB_old' _ _ _ hd2.1] at hk2
        exact h.inj b1 b2 L1 L2 k1 k2 h1 h2 hk1 hk2 hne hbb
end
end Go.AM
namespace Go.AM
open Go.RowKit

theorem info_of_underlying {P : Program} {t : TypeId} {d : TypeDesc} (h : P.underlying t = some d) : ∃ i, P.info? t = some i := by
  unfold Program.underlying at h
  cases hi : P.info? t with
  | none => rw [hi] at h; cases h
  | some i => exact ⟨i, rfl⟩
theorem szT_eq {P : Program} {t : TypeId} {i : TypeInfo} (h : P.info? t = some i) : szT P t = i.size := by simp [szT, Program.cellsOf, h]
theorem byT_eq {P : Program} {t : TypeId} {i : TypeInfo} (h : P.info? t = some i) : byT P t = i.bytes := by simp [byT, Program.bytesOf, h]
theorem run_sizeOf {P : Program} {t : TypeId} {i : TypeInfo} (h : P.info? t = some i) (w : World) : (sizeOf t).run P w = .ok (szT P t) w := by
  simp [sizeOf, typeInfo, h, szT_eq h]
theorem aggT_true {P : Program} {t : TypeId} (h : aggT P t = some true) (w : World) : (isAgg t).run P w = .ok true w ∧ ∃ i, P.info? t = some i := by
  unfold aggT at h
  split at h
  · rename_i fs hd; exact ⟨by simp [isAgg, run_underlying hd], info_of_underlying hd⟩
  · rename_i n e hd; exact ⟨by simp [isAgg, run_underlying hd], info_of_underlying hd⟩
  · cases h
  · cases h
theorem aggT_false {P : Program} {t : TypeId} (h : aggT P t = some false) (w : World) : (isAgg t).run P w = .ok false w ∧ ∃ i, P.info? t = some i := by
  unfold aggT at h
  split at h
  · cases h
  · cases h
  · rename_i d h1 h2 hd
    refine ⟨?_, info_of_underlying hd⟩
    cases d <;> first | (simp [isAgg, run_underlying hd]; done) | exact (h1 _ rfl).elim | exact (h2 _ _ rfl).elim
  · cases h
theorem zeroT_inv {P : Program} {t : TypeId} {z : Value} (h : zeroT P t = some z) : ∃ i, P.info? t = some i ∧ i.zero = some z ∧ flat z = true := by
  unfold zeroT at h
  cases hi : P.info? t with
  | none => rw [hi] at h; cases h
  | some i =>
    rw [hi] at h
    cases hz : i.zero with
    | none => simp [hz] at h
    | some z' =>
      simp only [hz, Option.bind_some] at h
      split at h
      · rename_i hf; cases h; exact ⟨i, rfl, hz, hf⟩
      · cases h
theorem run_zeroValue {P : Program} {t : TypeId} {z : Value} {i : TypeInfo} (h : P.info? t = some i) (hz : i.zero = some z) (w : World) : (zeroValue t).run P w = .ok z w := by
  simp [zeroValue, typeInfo, h, hz]

section
variable {P : Program} {B0 : Nat} {w0 : World} {m : Mp} {H : AH} {w : World}

theorem ldC_inv {a v : Value} (h : ldC H a = some v) : ∃ b off k, a = .pointer (some ⟨b, off, none⟩) ∧ blk H b = some k ∧ k.cells[off]? = some v := by
  unfold ldC at h
  split at h
  · rename_i b off
    cases hb : blk H b with
    | none => rw [hb] at h; cases h
    | some k => rw [hb] at h; exact ⟨b, off, k, rfl, hb, h⟩
  · cases h
theorem ld_sound (R : Rel P B0 w0 m H w) {t : TypeId} {a a' v : Value} (ha : VRel m a a') (h : ld P t H a = some v) :
    ∃ v', (Instr.loadAt t a').run P w = .ok v' w ∧ VRel m v v' := by
  unfold ld at h
  split at h
  · rename_i hg
    obtain ⟨h1, i, hi⟩ := aggT_true hg w
    unfold ldA at h
    split at h
    · rename_i b off
      cases hb : blk H b with
      | none => rw [hb] at h; cases h
      | some k =>
        rw [hb] at h
        simp only [Option.bind_some] at h
        cases hr : rdN k off (szT P t) with
        | none => rw [hr] at h; cases h
        | some cs =>
          rw [hr] at h
          cases h
          obtain ⟨L, hm, rfl, hnm⟩ := ha.ptr_inv
          obtain ⟨ds, hl, hc⟩ := (R.blks b L k hm hb).row hnm hr
          have hlen : ds.length = szT P t := by
            rw [← hl.1]
            unfold rdN at hr
            split at hr
            · cases hr; simp; omega
            · cases hr
          refine ⟨.agg ds.toArray, ?_, VRel.aggL (by simpa using hl)⟩
          have := run_loadCells_list (P := P) w _ ds hc
          rw [hlen] at this
          simp [Instr.loadAt, Instr.sureAddr, loadVar, h1, run_sizeOf hi, this]
    · cases h
  · rename_i hg
    obtain ⟨h1, i, hi⟩ := aggT_false hg w
    obtain ⟨b, off, k, rfl, hb, hx⟩ := ldC_inv h
    obtain ⟨L, hm, rfl, hnm⟩ := ha.ptr_inv
    obtain ⟨y, hy, hc⟩ := (R.blks b L k hm hb).cell hnm hx
    exact ⟨y, by simp [Instr.loadAt, Instr.sureAddr, loadVar, h1, hc], hy⟩
  · cases h

theorem storeCells_off (P : Program) (g o : Nat) (t : TypeId) (fz : Nat × Nat) : ∀ (vs : List Value) (i : Nat) (cur : Array Value) (w : World), w.heap[g]? = some (.cells cur t fz) → (fz.2 ≤ o + i ∨ cur.size ≤ fz.1) → o + i + vs.length ≤ cur.size → (∀ v ∈ vs, v.oneCell' = true) →
    (storeCells ⟨g, o, none⟩ vs i).run P w = .ok () (w.setRow g (cur.toList.take (o + i) ++ vs ++ cur.toList.drop (o + i + vs.length)).toArray)
  | [], i, cur, w, hg, _, _, _ => by
    simp only [storeCells, List.append_nil, List.length_nil, Nat.add_zero, List.take_append_drop, Array.toArray_toList]
    rw [setRow_self w g cur t fz hg]
    rfl
  | v :: rest, i, cur, w, hg, hfz, hl, h1 => by
    have hi : o + i < cur.size := by simp at hl; omega
    have hadd : (⟨g, o, none⟩ : Addr).add i = ⟨g, o + i, none⟩ := by unfold Addr.add; split <;> simp_all
    have hcell : w.cell? ⟨g, o + i, none⟩ = some cur[o + i] := by simp [World.cell?, hg, hi]
    have hfro : w.frozen? ⟨g, o + i, none⟩ = false := by
      obtain ⟨lo, hi'⟩ := fz
      simp only [World.frozen?, hg, Bool.and_eq_false_iff, decide_eq_false_iff_not]
      simp only at hfz
      omega
    have hst : (store ((⟨g, o, none⟩ : Addr).add i) v).run P w = .ok () (w.setRow g (cur.setIfInBounds (o + i) v)) := by
      rw [hadd, run_store P w _ v _ (h1 v (by simp)), hcell]
      simp [hfro, setCell_eq_setRow w g (o + i) cur t fz v hg]
    have ih := storeCells_off P g o t fz rest (i + 1) (cur.setIfInBounds (o + i) v) (w.setRow g (cur.setIfInBounds (o + i) v)) (setRow_heap w g cur _ t _ hg) (by simp; omega) (by simp at hl ⊢; omega) (fun x hx => h1 x (by simp [hx]))
    simp only [storeCells, Sem.run_bind, hst, Result.andThen_ok, ih, setRow_setRow]
    congr 3
    have e := list_seg_step cur.toList (o + i) v rest (by simp at hl ⊢; omega)
    simpa [Array.toList_setIfInBounds, Nat.add_assoc] using e
theorem store_sound (R : Rel P B0 w0 m H w) {b off : Nat} {k : Blk} {L : Loc} (hm : m b = some L) (hb : blk H b = some k) (hkw : k.kind.wr = true) {cs ds : List Value} (hle : off + cs.length ≤ k.cells.length) (hl : LRel m cs ds) (h1 : ∀ u ∈ ds, u.oneCell' = true) :
    ∃ w', (storeCells ⟨L.blk, L.base + off, none⟩ ds).run P w = .ok () w' ∧ Rel P B0 w0 m (put H b k (spl k.cells off cs)) w' ∧ Ext m H w m (put H b k (spl k.cells off cs)) w' := by
  have hk := (BK.wr_row hkw).2.1
  obtain ⟨c, e, fr, hw, hlr, h3, h4, h5⟩ := (R.blks b L k hm hb).there (BK.wr_row hkw).1
  obtain ⟨h3a, _, hbs⟩ := h3 hk
  have hfr : fr.2 = 0 ∨ c.size ≤ fr.1 := by
    by_cases hy : k.kind = .byt
    · exact (h5.2.2 hy).imp (fun h => by rw [h]) id
    · rw [h3a (BK.wr_row hkw).2.2 hy]; exact .inl rfl
  have hsz : L.base + k.cells.length ≤ c.size := by
    have := hlr.1
    simp at this
    omega
  have hst := storeCells_off P L.blk (L.base + off) e fr ds 0 c w hw (by omega) (by have := hl.1; omega) h1
  have hlen := length_spl k.cells off cs hle
  refine ⟨_, hst, R.write hm hb hk hw _ _ ?_ hlen ?_⟩
  · have := hl.1
    simp
    omega
  · rw [hlen]
    have e1 : ((c.toList.take (L.base + off + 0) ++ ds ++ c.toList.drop (L.base + off + 0 + ds.length)).toArray.toList.drop L.base).take k.cells.length = spl ((c.toList.drop L.base).take k.cells.length) off ds := by
      have hd := hl.1
      have hcl : c.toList.length = c.size := by simp
      apply List.ext_getElem?
      intro j
      unfold AM.spl
      simp only [List.getElem?_take, List.getElem?_drop, List.getElem?_append, List.length_take, List.length_drop, Nat.add_zero, List.length_append]
      rw [hcl]
      by_cases hj : j < k.cells.length
      · rw [if_pos hj]
        by_cases h6 : j < off
        · rw [if_pos (by omega), if_pos (by omega), if_pos (by omega), if_pos (by omega), if_pos (by omega), if_pos (by omega)]
        · by_cases h7 : j < off + ds.length
          · rw [if_pos (by omega), if_neg (by omega), if_neg (by omega), if_pos (by omega)]
            congr 1
            omega
          · rw [if_neg (by omega), if_neg (by omega), if_neg (by omega), if_pos (by omega)]
            congr 1
            omega
      · rw [if_neg hj]
        by_cases h7 : j < off + ds.length
        · omega
        · rw [if_neg (by omega), if_neg (by omega), if_neg (by omega)]
    rw [e1]
    exact hlr.spl hl off
theorem st_sound (R : Rel P B0 w0 m H w) {t : TypeId} {a a' v v' : Value} {H' : AH} (ha : VRel m a a') (hv : VRel m v v') (h : st P t H a v = some H') :
    ∃ w', (Instr.storeAt t a' v').run P w = .ok () w' ∧ Rel P B0 w0 m H' w' ∧ Ext m H w m H' w' := by
  unfold st at h
  split at h
  · rename_i hg
    obtain ⟨h1, i, hi⟩ := aggT_true hg w
    unfold stA at h
    split at h
    · rename_i b off cs
      cases hb : blk H b with
      | none => rw [hb] at h; cases h
      | some k =>
        rw [hb] at h
        simp only [Option.bind_some] at h
        split at h
        · rename_i hc
          obtain ⟨c1, c2, c3, c4⟩ := hc
          cases h
          obtain ⟨L, hm, rfl, hnm⟩ := ha.ptr_inv
          obtain ⟨q1, q2⟩ := hv.cells (x := .agg cs) c4
          obtain ⟨w', h5, h6, h7⟩ := store_sound R hm hb c1 (off := off) (cs := cs.toList) (by simpa [c3] using c2) q1 q2
          have hsz : v'.cells.size = szT P t := by have := q1.1; simp [Value.cells] at this; simp [Value.cells]; omega
          exact ⟨w', by simp [Instr.storeAt, Instr.sureAddr, storeVar, run_sizeOf hi, hsz, h5], h6, h7⟩
        · cases h
    · cases h
  · rename_i hg
    obtain ⟨h1, i, hi⟩ := aggT_false hg w
    split at h
    · rename_i hs
      unfold stC at h
      split at h
      · rename_i b off
        cases hb : blk H b with
        | none => rw [hb] at h; cases h
        | some k =>
          rw [hb] at h
          simp only [Option.bind_some] at h
          split at h
          · rename_i hc
            obtain ⟨c1, c2, c3⟩ := hc
            cases h
            obtain ⟨L, hm, rfl, hnm⟩ := ha.ptr_inv
            obtain ⟨q1, q2⟩ := hv.isCell c3
            obtain ⟨w', h5, h6, h7⟩ := store_sound R hm hb c1 (off := off) (cs := [v]) (ds := [v']) (by simp; omega) (LRel.cons hv (LRel.nil m)) (by simp [q1])
            have e1 : spl k.cells off [v] = k.cells.set off v := by
              unfold spl
              rw [List.set_eq_take_append_cons_drop, if_pos c2]
              simp
            rw [e1] at h6 h7
            exact ⟨w', by simp [Instr.storeAt, Instr.sureAddr, storeVar, run_sizeOf hi, hs, q2, h5], h6, h7⟩
          · cases h
      · cases h
    · cases h
  · cases h
theorem VRel.newPtr {L : Loc} {b : Nat} (hm : m b = some L) (h0 : L.base = 0) (hnm : L.kind.row = true := by simp [BK.row]) : VRel m (AM.ptr b 0) (.pointer (some ⟨L.blk, 0, none⟩)) := by
  have := VRel.ptr (m := m) b 0 L hm hnm
  rw [h0] at this
  exact this
theorem box_sound (R : Rel P B0 w0 m H w) {t : TypeId} {v v' u : Value} {H' : AH} (hv : VRel m v v') (h : box t H v = some (u, H')) :
    ∃ u' m' w', (Instr.box t v').run P w = .ok u' w' ∧ VRel m' u u' ∧ Rel P B0 w0 m' H' w' ∧ Ext m H w m' H' w' := by
  unfold box at h
  split at h
  · rename_i hc
    cases h
    obtain ⟨q1, q2⟩ := hv.cells hc
    have hsz : v'.cells.size = v.cells.toList.length := by have := q1.1; simp at this ⊢; omega
    obtain ⟨h1, h2⟩ := R.make (P := P) v.cells.toList t .fix v'.cells (by decide) (by rw [List.take_of_length_le (by simp; simp at hsz; omega)]; exact q1) (fun _ => hsz)
    exact ⟨_, _, _, by simp [Instr.box, newVar, newRow], VRel.newPtr (upd_same _ _ _) rfl, h1, h2⟩
  · cases h
theorem newV_sound (R : Rel P B0 w0 m H w) {t : TypeId} {u : Value} {H' : AH} (h : newV P t H = some (u, H')) (old : Value) :
    ∃ u' m' w', (Instr.alloc t true old).run P w = .ok u' w' ∧ VRel m' u u' ∧ Rel P B0 w0 m' H' w' ∧ Ext m H w m' H' w' := by
  unfold newV at h
  cases hz : zeroT P t with
  | none => rw [hz] at h; cases h
  | some z =>
    rw [hz] at h
    obtain ⟨i, hi, h1, h2⟩ := zeroT_inv hz
    obtain ⟨u', m', w', h3, h4⟩ := box_sound R (VRel.of_flat h2) h
    refine ⟨u', m', w', ?_, h4⟩
    simp [Instr.box] at h3
    simp [Instr.alloc, run_zeroValue hi h1, h3]
end
end Go.AM
namespace Go.AM
open Go.RowKit

theorem rep_length (z : List Value) : ∀ n, (rep z n).length = n * z.length
  | 0 => by simp [rep]
  | n + 1 => by rw [rep, List.length_append, rep_length z n, Nat.add_mul, Nat.one_mul, Nat.add_comm]
theorem rep_get (z : List Value) : ∀ (n j : Nat), j < n * z.length → (rep z n)[j]? = z[j % z.length]?
  | 0, j, h => by omega
  | n + 1, j, h => by
    rw [rep, List.getElem?_append]
    split
    · rename_i hj; rw [Nat.mod_eq_of_lt hj]
    · rename_i hj
      rw [rep_get z n (j - z.length) (by rw [Nat.add_mul] at h; omega)]
      congr 1
      rw [Nat.mod_eq_sub_mod (a := j) (by omega)]
theorem madeCells_toList (z : Array Value) (n : Nat) : (madeCells z (n * z.size)).toList = rep z.toList n := by
  apply List.ext_getElem?
  intro j
  have hs : (madeCells z (n * z.size)).toList.length = n * z.size := by simp [madeCells]
  by_cases hj : j < n * z.size
  · rw [rep_get z.toList n j (by simpa using hj)]
    have hz : 0 < z.size := by
      rcases Nat.eq_zero_or_pos z.size with h | h
      · rw [h] at hj; omega
      · exact h
    have hm : j % z.size < z.size := Nat.mod_lt _ hz
    simp only [madeCells, Array.toList_map, Array.toList_range, List.getElem?_map, List.getElem?_range hj, Option.map_some, Array.length_toList]
    rw [Array.getElem?_toList]
    simp [hm]
  · rw [List.getElem?_eq_none (by omega), List.getElem?_eq_none (by rw [rep_length]; simp; omega)]

section
variable {P : Program} {B0 : Nat} {w0 : World} {m : Mp} {H : AH} {w : World}

theorem flat_cells {z : Value} (h : flat z = true) : LRel m z.cells.toList z.cells.toList := by
  have := VRel.of_flat (m := m) h
  unfold flat at h
  split at h
  · exact LRel.of_flat _ h
  · rename_i hz
    have : z.cells = #[z] := by cases z <;> first | rfl | exact (hz _ rfl).elim
    rw [this]
    exact LRel.cons (.flat _ h) (LRel.nil m)
theorem LRel.rep {xs ys : List Value} (h : LRel m xs ys) : ∀ n, LRel m (rep xs n) (rep ys n)
  | 0 => LRel.nil m
  | n + 1 => h.append (LRel.rep h n)
theorem VRel.int_inv {k : IntKind} {n : Int} {v : Value} (h : VRel m (.int k n) v) : v = .int k n := h.flat_inv rfl
theorem VRel.bool_inv {b : Bool} {v : Value} (h : VRel m (.bool b) v) : v = .bool b := h.flat_inv rfl
theorem VRel.str_inv {s : ByteArray} {v : Value} (h : VRel m (.string s) v) : v = .string s := h.flat_inv rfl
theorem VRel.newSl {L : Loc} {b n c c' : Nat} (hm : m b = some L) (h0 : L.base = 0) (h1 : n ≤ c) (h2 : n ≤ c') (h3 : L.kind = .fix → c' = c) (h4 : L.kind.gr = true → c' * L.esz ≤ L.csize) (h5 : L.kind ≠ .fix → n < c) (hnm : L.kind.row = true := by simp [BK.row]) : VRel m (sl b 0 n c) (.slice (some ⟨L.blk, 0, none⟩) n c') :=
  .slice b 0 0 n c c' L hm hnm h1 h2 (.inl (by omega)) (fun hk => ⟨by omega, h3 hk⟩) (fun hk _ _ => by have := h4 hk; omega) (fun hk => .inl (h5 hk))
theorem mkS_sound (R : Rel P B0 w0 m H w) {t : TypeId} {l l' c c' u : Value} {H' : AH} (hl : VRel m l l') (hc : VRel m c c') (h : mkS P t H l c = some (u, H')) :
    ∃ u' m' w', (Instr.makeSlice t l' c').run P w = .ok u' w' ∧ VRel m' u u' ∧ Rel P B0 w0 m' H' w' ∧ Ext m H w m' H' w' := by
  unfold mkS at h
  split at h
  · rename_i e k1 n k2 q hd
    cases hz : zeroT P e with
    | none => rw [hz] at h; cases h
    | some z =>
      rw [hz] at h
      simp only [Option.bind_some] at h
      split at h
      · rename_i hcond
        obtain ⟨c1, c2, c3, c4, c5, c6⟩ := hcond
        cases h
        obtain ⟨i, hi, hz1, hz2⟩ := zeroT_inv hz
        cases hl.int_inv
        cases hc.int_inv
        rw [byT_eq hi] at c3
        rw [szT_eq hi] at c5
        have hrun := run_make (P := P) w t e i z hd hi hz1 k1 k2 n q c1 c2 (by rw [Int.mul_comm]; exact c3) c4
        rw [← c5] at hrun
        have hml := madeCells_toList z.cells q.toNat
        obtain ⟨h1, h2⟩ := R.make (P := P) (rep z.cells.toList q.toNat) e .fix (madeCells z.cells (q.toNat * z.cells.size)) (by decide)
          (by rw [hml, List.take_of_length_le (Nat.le_refl _)]; exact (flat_cells hz2).rep _) (fun _ => by rw [size_madeCells, rep_length]; simp)
        exact ⟨_, _, _, hrun, VRel.newSl (upd_same _ _ _) rfl (by omega) (by omega) (fun _ => rfl) (fun hk => by cases hk) (fun hk => (hk rfl).elim), h1, h2⟩
      · cases h
  · cases h
theorem fldA_sound (R : Rel P B0 w0 m H w) {s : TypeId} {a a' v : Value} {i : Nat} (ha : VRel m a a') (h : fldA P s a i = some v) : ∃ v', (Instr.fieldAt s a' i).run P w = .ok v' w ∧ VRel m v v' := by
  unfold fldA at h
  split at h
  · rename_i fs b off hd
    cases hf : fs[i]? with
    | none => rw [hf] at h; cases h
    | some f =>
      rw [hf] at h
      simp only [Option.bind_some] at h
      split at h
      · cases h
      · rename_i hz
        cases h
        obtain ⟨L, hm, rfl, hnm⟩ := ha.ptr_inv
        have hinfo : ∃ j, P.info? f.type = some j := by
          cases hj : P.info? f.type with
          | some j => exact ⟨j, rfl⟩
          | none => exfalso; apply hz; simp [szT, Program.cellsOf, hj]
        obtain ⟨j, hj⟩ := hinfo
        refine ⟨.pointer (some ⟨L.blk, L.base + (off + f.offset), none⟩), ?_, .ptr b (off + f.offset) L hm hnm⟩
        simp [Instr.fieldAt, run_underlying hd, hf, Instr.sureAddr, fieldPlace, run_sizeOf hj, hz, Addr.add_lit, Nat.add_assoc]
  · cases h
theorem prt_sound {t : TypeId} {cs ds : List Value} {off : Nat} {v : Value} (hl : LRel m cs ds) (h : prt P t cs off = some v) : ∃ v', (part t ds.toArray off).run P w = .ok v' w ∧ VRel m v v' := by
  unfold prt at h
  split at h
  · rename_i hg
    obtain ⟨h1, i, hi⟩ := aggT_true hg w
    cases h
    refine ⟨.agg ((ds.drop off).take (szT P t)).toArray, ?_, VRel.aggL (by simpa using (hl.drop off).take _)⟩
    simp [part, h1, run_sizeOf hi]
  · rename_i hg
    obtain ⟨h1, i, hi⟩ := aggT_false hg w
    have hlt := (List.getElem?_eq_some_iff.1 h).1
    have hd : ds[off]? = some (ds[off]'(by rw [← hl.1]; exact hlt)) := List.getElem?_eq_getElem _
    exact ⟨_, by simp [part, h1, hd], hl.2 off _ _ h hd⟩
  · cases h
theorem fld_sound {s : TypeId} {x x' v : Value} {i : Nat} (hx : VRel m x x') (h : fld P s x i = some v) : ∃ v', (Instr.field s x' i).run P w = .ok v' w ∧ VRel m v v' := by
  unfold fld at h
  split at h
  · rename_i fs cs hd
    cases hf : fs[i]? with
    | none => rw [hf] at h; cases h
    | some f =>
      rw [hf] at h
      obtain ⟨ys, rfl, hl⟩ := hx.agg_inv
      obtain ⟨v', h1, h2⟩ := prt_sound (P := P) (w := w) hl h
      exact ⟨v', by simpa [Instr.field, run_underlying hd, hf, asAgg] using h1, h2⟩
  · cases h
theorem isSome_info {t : TypeId} (h : (P.info? t).isSome = true) : ∃ i, P.info? t = some i := Option.isSome_iff_exists.1 h
theorem run_boundsCode (i : Int) (y : Nat) (k : IntKind) (c : BoundsCode) (h : 0 ≤ i ∧ i ≤ y) : (Instr.sliceBound (.int k i) y c).run P w = .ok i.toNat w := by
  simp [Instr.sliceBound, asIntOf, h]
theorem ixA_sound {t : TypeId} {x x' i i' v : Value} (hx : VRel m x x') (hi : VRel m i i') (h : ixA P t x i = some v) : ∃ v', (Instr.indexAt t x' i').run P w = .ok v' w ∧ VRel m v v' := by
  unfold ixA at h
  split at h
  · rename_i e b off len cap k n hd
    split at h
    · rename_i hc
      cases h
      cases hi.int_inv
      rcases hx.slice_inv with ⟨rfl, rfl, _⟩ | ⟨L, off', cap', hm, rfl, h1, h2, h3, h4, h5, h6, hnm⟩
      · omega
      obtain ⟨ie, hie⟩ := isSome_info hc.1
      rcases h3 with h3 | h3
      · subst h3
        refine ⟨.pointer (some ⟨L.blk, L.base + (off + n.toNat * szT P e), none⟩), ?_, .ptr b _ L hm hnm⟩
        simp [Instr.indexAt, asIntOf, run_underlying hd, hc.2, run_sizeOf hie, Addr.add_lit, Nat.add_assoc]
      · omega
    · cases h
  · rename_i len e b off k n hd
    split at h
    · rename_i hc
      cases h
      cases hi.int_inv
      obtain ⟨L, hm, rfl, hnm⟩ := hx.ptr_inv
      obtain ⟨ie, hie⟩ := isSome_info hc.1
      refine ⟨.pointer (some ⟨L.blk, L.base + (off + n.toNat * szT P e), none⟩), ?_, .ptr b _ L hm hnm⟩
      simp [Instr.indexAt, asIntOf, run_underlying hd, hc.2, Instr.sureAddr, run_sizeOf hie, Addr.add_lit, Nat.add_assoc]
    · cases h
  · cases h
theorem ix_sound {t : TypeId} {x x' i i' v : Value} (hx : VRel m x x') (hi : VRel m i i') (h : ix P t x i = some v) : ∃ v', (Instr.index t x' i').run P w = .ok v' w ∧ VRel m v v' := by
  unfold ix at h
  split at h
  · rename_i s k n hd
    split at h
    · rename_i hc
      cases h
      cases hi.int_inv
      cases hx.str_inv
      have hlt : n.toNat < s.size := by omega
      have e1 : s[n.toNat]? = some s[n.toNat] := by rw [getElem?_pos s n.toNat hlt]
      have e2 : s.data[n.toNat]?.getD 0 = s[n.toNat] := by
        rw [Array.getElem?_eq_getElem (by exact hlt)]; rfl
      exact ⟨_, by simp [Instr.index, asIntOf, run_underlying hd, hc.1, e1]; rfl, by rw [e2]; exact .flat _ rfl⟩
    · cases h
  · rename_i len e cs k n hd
    split at h
    · rename_i hc
      cases hi.int_inv
      obtain ⟨ys, rfl, hl⟩ := hx.agg_inv
      obtain ⟨ie, hie⟩ := isSome_info hc.1
      obtain ⟨v', h1, h2⟩ := prt_sound (P := P) (w := w) hl h
      exact ⟨v', by simpa [Instr.index, asIntOf, run_underlying hd, hc.2, run_sizeOf hie] using h1, h2⟩
    · cases h
  · cases h
def ORel (m : Mp) (x x' : Option Value) : Prop := (x = none ∧ x' = none) ∨ ∃ v v', x = some v ∧ x' = some v' ∧ VRel m v v'
theorem intOr_inv {x x' : Option Value} {d : Nat} {n : Int} (hx : ORel m x x') (h : intOr x d = some n) : (x' = none ∧ n = d) ∨ ∃ k, x' = some (.int k n) := by
  rcases hx with ⟨rfl, rfl⟩ | ⟨v, v', rfl, rfl, hv⟩
  · simp [intOr] at h; exact .inl ⟨rfl, h.symm⟩
  · unfold intOr at h
    split at h
    · rename_i he; cases he
    · rename_i k n' he; cases he; cases h; cases hv.int_inv; exact .inr ⟨k, rfl⟩
    · cases h
theorem sliceBounds_run {lo hi : Option Value} {l h : Int} {len cap d : Nat} (s : Bool) (hl : (lo = none ∧ l = 0) ∨ ∃ k, lo = some (.int k l)) (hh : (hi = none ∧ h = len) ∨ ∃ k, hi = some (.int k h)) (h0 : 0 ≤ l) (h1 : l ≤ h) (h2 : h ≤ cap) :
    (Instr.sliceBounds s len cap lo hi none).run P w = .ok (l.toNat, h.toNat, cap) w := by
  have e1 : (0 : Int) ≤ h := by omega
  rcases hl with ⟨rfl, rfl⟩ | ⟨k, rfl⟩ <;> rcases hh with ⟨rfl, rfl⟩ | ⟨k2, rfl⟩
  · simp [Instr.sliceBounds]
  · simp [Instr.sliceBounds, Instr.sliceBound, asIntOf, e1, h2]
  · simp [Instr.sliceBounds, Instr.sliceBound, asIntOf, h0]
    omega
  · have : l ≤ (h.toNat : Int) := by omega
    simp only [Instr.sliceBounds, Instr.sliceBound, asIntOf, Sem.run_bind, Sem.run_pure, Result.andThen_ok, Sem.run_ite, h0, e1, h2, this, and_self, if_true, Option.isSome_none, Bool.false_eq_true, if_false]
theorem slc_sound {t : TypeId} {x x' v : Value} {lo lo' hi hi' : Option Value} (hx : VRel m x x') (hlo : ORel m lo lo') (hhi : ORel m hi hi') (h : slc P t x lo hi = some v) :
    ∃ v', (Instr.sliceAt t x' lo' hi' none).run P w = .ok v' w ∧ VRel m v v' := by
  unfold slc at h
  split at h
  · rename_i s hd
    cases hl : intOr lo 0 with
    | none => rw [hl] at h; cases h
    | some l =>
      rw [hl] at h
      simp only [Option.bind_some] at h
      cases hh : intOr hi s.size with
      | none => rw [hh] at h; cases h
      | some q =>
        rw [hh] at h
        simp only [Option.bind_some] at h
        split at h
        · rename_i hc
          cases h
          cases hx.str_inv
          have := sliceBounds_run (P := P) (w := w) (d := 0) (len := s.size) (cap := s.size) false (by simpa using intOr_inv hlo hl) (intOr_inv hhi hh) hc.1 hc.2.1 hc.2.2
          exact ⟨_, by simp [Instr.sliceAt, Instr.slice, run_underlying hd, this], .flat _ rfl⟩
        · cases h
  · rename_i e b off len cap hd
    cases hl : intOr lo 0 with
    | none => rw [hl] at h; cases h
    | some l =>
      rw [hl] at h
      simp only [Option.bind_some] at h
      cases hh : intOr hi len with
      | none => rw [hh] at h; cases h
      | some q =>
        rw [hh] at h
        simp only [Option.bind_some] at h
        split at h
        · rename_i hc
          cases h
          rcases hx.slice_inv with ⟨rfl, rfl, hz, a, rfl⟩ | ⟨L, off', cap', hm, rfl, h1, h2, h3, h4, h5, h6, hnm⟩
          · obtain ⟨ie, hie⟩ := isSome_info hc.1
            have hl0 : l = 0 := by omega
            have hq0 : q = 0 := by omega
            subst hl0
            subst hq0
            have := sliceBounds_run (P := P) (w := w) (d := 0) (len := 0) (cap := 0) true (l := 0) (h := 0) (intOr_inv hlo hl) (intOr_inv hhi hh) (by omega) (by omega) (by omega)
            refine ⟨.slice (some a) 0 0, by simp [Instr.sliceAt, Instr.slice, run_underlying hd, this, run_sizeOf hie], ?_⟩
            exact .zsl b off a hz
          obtain ⟨ie, hie⟩ := isSome_info hc.1
          have := sliceBounds_run (P := P) (w := w) (d := 0) (len := len) (cap := cap') true (by simpa using intOr_inv hlo hl) (intOr_inv hhi hh) hc.2.1 hc.2.2.1 (by omega)
          refine ⟨.slice (some ⟨L.blk, if cap' = l.toNat then off' else off' + l.toNat * szT P e, none⟩) (q.toNat - l.toNat) (cap' - l.toNat), ?_, ?_⟩
          · simp only [Instr.sliceAt, Instr.slice, Sem.run_bind, run_underlying hd, Result.andThen_ok, this, run_sizeOf hie, Sem.run_pure]
            by_cases he : cap' = l.toNat
            · simp [he]
            · simp [he, Addr.add_lit]
          · refine .slice _ _ _ _ _ _ L hm hnm (by omega) (by omega) ?_ ?_ ?_ (fun hk => by rcases h6 hk with h7 | h7 <;> omega)
            · rcases h3 with h3 | h3
              · by_cases he : cap' = l.toNat
                · exact .inr (by omega)
                · by_cases he2 : cap = l.toNat
                  · exact .inr (by omega)
                  · rw [if_neg he, if_neg he2]; exact .inl (by omega)
              · exact .inr (by omega)
            · intro hk
              obtain ⟨h8, h7⟩ := h4 hk
              subst h7
              refine ⟨?_, rfl⟩
              split <;> omega
            · intro hk ho hcp
              have hle : (cap' - l.toNat) * L.esz ≤ cap' * L.esz := Nat.mul_le_mul_right _ (Nat.sub_le _ _)
              rw [if_neg (by omega)] at ho
              have h8 := h5 hk (by omega) (by omega)
              have hz : l.toNat * szT P e = 0 := by omega
              rw [hz]
              split <;> omega
        · cases h
  · rename_i e hd
    cases hl : intOr lo 0 with
    | none => rw [hl] at h; cases h
    | some l =>
      rw [hl] at h
      simp only [Option.bind_some] at h
      cases hh : intOr hi 0 with
      | none => rw [hh] at h; cases h
      | some q =>
        rw [hh] at h
        simp only [Option.bind_some] at h
        split at h
        · rename_i hc
          cases h
          obtain ⟨hc1, rfl, rfl⟩ := hc
          obtain ⟨ie, hie⟩ := isSome_info hc1
          cases hx.flat_inv rfl
          have := sliceBounds_run (P := P) (w := w) (d := 0) (len := 0) (cap := 0) true (l := 0) (h := 0) (intOr_inv hlo hl) (intOr_inv hhi hh) (by omega) (by omega) (by omega)
          exact ⟨.slice none 0 0, by simp [Instr.sliceAt, Instr.slice, run_underlying hd, this, run_sizeOf hie], .flat _ rfl⟩
        · cases h
  · cases h
theorem slc3_sound {B0 : Nat} {w0 : World} {H : AH} (R : Rel P B0 w0 m H w) {t : TypeId} {x x' v mx mx' : Value} {lo lo' hi hi' : Option Value} (hx : VRel m x x') (hlo : ORel m lo lo') (hhi : ORel m hi hi') (hmx : VRel m mx mx') (h : slc3 P t H x lo hi mx = some v) :
    ∃ v', (Instr.sliceAt t x' lo' hi' (some mx')).run P w = .ok v' w ∧ VRel m v v' := by
  unfold slc3 at h
  split at h
  · rename_i e b off len cap k hv k2 mv hd hl0
    split at h
    · rename_i hc
      obtain ⟨ie, hie⟩ := isSome_info hc
      cases hmx.int_inv
      obtain ⟨u, rfl, hu⟩ : ∃ u, hi' = some u ∧ VRel m (.int k hv) u := by
        rcases hhi with ⟨hh, _⟩ | ⟨v, v', hh, rfl, hv⟩
        · cases hh
        · cases hh; exact ⟨v', rfl, hv⟩
      cases hu.int_inv
      rcases hx.slice_inv with ⟨rfl, rfl, hz, a, rfl⟩ | ⟨L, off', cap', hm, rfl, h1, h2, h3, h4, h5, h6, hnm⟩
      · have hz0 : hv = 0 ∧ mv = 0 := by
          by_cases hq : hv = 0 ∧ mv = 0
          · exact hq
          · rw [if_neg hq] at h
            split at h
            · rename_i hh
              exact absurd ⟨by simpa using hh.1, by simpa using hh.2⟩ hq
            · cases h
        obtain ⟨rfl, rfl⟩ := hz0
        rw [if_pos ⟨rfl, rfl⟩] at h
        cases h
        refine ⟨.slice (some a) 0 0, ?_, .zsl b off a hz⟩
        rcases intOr_inv hlo hl0 with ⟨rfl, _⟩ | ⟨k3, rfl⟩ <;> simp [Instr.sliceAt, Instr.slice, run_underlying hd, Instr.sliceBounds, Instr.sliceBound, asIntOf, run_sizeOf hie]
      split at h
      · rename_i hz
        obtain ⟨rfl, rfl⟩ := hz
        cases h
        refine ⟨.slice (some ⟨L.blk, off', none⟩) 0 0, ?_, .slice b off off' 0 0 0 L hm hnm (Nat.le_refl _) (Nat.le_refl _) (.inr rfl) (fun hk => ⟨(h4 hk).1, rfl⟩) (fun _ _ hh => absurd hh (by decide)) (fun _ => .inr ⟨rfl, rfl⟩)⟩
        rcases intOr_inv hlo hl0 with ⟨rfl, _⟩ | ⟨k3, rfl⟩ <;> simp [Instr.sliceAt, Instr.slice, run_underlying hd, Instr.sliceBounds, Instr.sliceBound, asIntOf, run_sizeOf hie]
      · split at h
        · rename_i hz
          obtain ⟨rfl, rfl⟩ := hz
          obtain ⟨kb, hb, hk⟩ := Option.bind_eq_some_iff.1 h
          have hkk := (R.blks b L kb hm hb).1
          have run : (Instr.sliceAt t (.slice (some ⟨L.blk, off', none⟩) len cap') lo' (some (.int k (len : Int))) (some (.int k2 (len : Int)))).run P w = .ok (.slice (some ⟨L.blk, off', none⟩) len len) w := by
            rcases intOr_inv hlo hl0 with ⟨rfl, _⟩ | ⟨k3, rfl⟩ <;> simp [Instr.sliceAt, Instr.slice, run_underlying hd, Instr.sliceBounds, Instr.sliceBound, asIntOf, run_sizeOf hie, h2, Addr.add_lit]
          have hgr : L.kind.gr = true → off = 0 → 0 < cap → off' + len * L.esz ≤ L.csize := fun hg ho hcp => Nat.le_trans (Nat.add_le_add_left (Nat.mul_le_mul_right _ h2) _) (h5 hg ho hcp)
          by_cases hf : kb.kind = .fix
          · rw [hf] at hk
            cases hk
            exact ⟨_, run, .slice b off off' len len len L hm hnm (Nat.le_refl _) (Nat.le_refl _) h3 (fun hq => ⟨(h4 hq).1, rfl⟩) (fun hg => by rw [hkk, hf] at hg; cases hg) (fun hq => absurd (hkk.trans hf) hq)⟩
          · have hk2 : v = sl b off len cap := by
              revert hk
              cases hkd : kb.kind <;> intro hk <;> first | exact absurd hkd hf | (cases hk; rfl)
            subst hk2
            exact ⟨_, run, .slice b off off' len cap len L hm hnm h1 (Nat.le_refl _) h3 (fun hq => absurd (hkk.symm.trans hq) hf) hgr (fun hq => by rcases h6 hq with h7 | h7 <;> omega)⟩
        · cases h
    · cases h
  · rename_i e k k2 hd hl0
    split at h
    · rename_i hc
      cases h
      obtain ⟨ie, hie⟩ := isSome_info hc
      cases hx.flat_inv rfl
      cases hmx.int_inv
      obtain ⟨u, rfl, hu⟩ : ∃ u, hi' = some u ∧ VRel m (.int k 0) u := by
        rcases hhi with ⟨hh, _⟩ | ⟨v, v', hh, rfl, hv⟩
        · cases hh
        · cases hh; exact ⟨v', rfl, hv⟩
      cases hu.int_inv
      refine ⟨.slice none 0 0, ?_, .flat _ rfl⟩
      rcases intOr_inv hlo hl0 with ⟨rfl, _⟩ | ⟨k3, rfl⟩ <;> simp [Instr.sliceAt, Instr.slice, run_underlying hd, Instr.sliceBounds, Instr.sliceBound, asIntOf, run_sizeOf hie]
    · cases h
  · cases h
end
end Go.AM
namespace Go.AM
open Go.RowKit

section
variable {P : Program} {B0 : Nat} {w0 : World} {m : Mp} {H : AH} {w : World}

theorem foldl_set_spl : ∀ (l : List Value) (j off : Nat) (cs : Array Value), off + j + l.length ≤ cs.size →
    ((l.zipIdx j).foldl (fun (cs : Array Value) (p : Value × Nat) => cs.setIfInBounds (off + p.2) p.1) cs).toList = spl cs.toList (off + j) l
  | [], j, off, cs, _ => by simp [spl]
  | v :: l, j, off, cs, h => by
    simp only [List.length_cons] at h
    rw [List.zipIdx_cons, List.foldl_cons, foldl_set_spl l (j + 1) off _ (by simp; omega)]
    have hcl : cs.toList.length = cs.size := by simp
    unfold spl
    rw [Array.toList_setIfInBounds]
    apply List.ext_getElem?
    intro i
    simp only [List.getElem?_append, List.getElem?_take, List.getElem?_drop, List.getElem?_set, List.length_take, List.length_set, List.length_cons]
    rw [hcl]
    by_cases h1 : i < off + j
    · rw [if_pos (by omega), if_pos (by omega), if_neg (by omega), if_pos (by omega), if_pos (by omega)]
    · by_cases h2 : i = off + j
      · subst h2
        have e1 : min (off + (j + 1)) cs.size = off + (j + 1) := by omega
        have e2 : min (off + j) cs.size = off + j := by omega
        rw [e1, e2]
        simp [show off + j < off + (j + 1) by omega, show off + j < cs.size by omega]
      · by_cases h3 : i < off + j + 1 + l.length
        · rw [if_neg (by omega), if_pos (by omega), if_neg (by omega), if_pos (by omega)]
          rw [show i - min (off + j) cs.size = (i - min (off + (j + 1)) cs.size) + 1 by omega, List.getElem?_cons_succ]
        · rw [if_neg (by omega), if_neg (by omega), if_neg (by omega), if_neg (by omega)]
          rw [if_neg (by omega)]
          congr 1
          omega
def PRel (m : Mp) : List (Nat × Value) → List (Nat × Value) → Prop
  | [], [] => True
  | p :: ps, q :: qs => p.1 = q.1 ∧ VRel m p.2 q.2 ∧ PRel m ps qs
  | _, _ => False
theorem fill_sound (place : Nat → Option (Nat × Nat)) : ∀ (ps qs : List (Nat × Value)) (cs : List Value) (ds : Array Value) (es : List Value), PRel m ps qs → LRel m cs ds.toList → fillB place cs ps = some es →
    ∃ fs, Instr.fill place ds qs = some fs ∧ LRel m es fs.toList
  | [], [], cs, ds, es, _, hl, h => by
    cases h
    exact ⟨ds, rfl, hl⟩
  | (i, v) :: ps, (j, u) :: qs, cs, ds, es, hp, hl, h => by
    obtain ⟨rfl, hv, hr⟩ := hp
    unfold fillB at h
    unfold Instr.fill
    cases hpl : place i with
    | none => rw [hpl] at h; cases h
    | some on =>
      obtain ⟨off, n⟩ := on
      rw [hpl] at h
      simp only at h ⊢
      split at h
      · rename_i hc
        obtain ⟨c1, c2, c3⟩ := hc
        obtain ⟨q1, q2⟩ := hv.cells c3
        have hsz : u.cells.size = n := by have := q1.1; simp at this; omega
        have hds : ds.size = cs.length := by have := hl.1; simp at this; omega
        rw [if_neg (by simp [hsz]; omega)]
        refine fill_sound place ps qs _ _ es hr ?_ h
        rw [← Array.foldl_toList, Array.toList_zipIdx]
        have := foldl_set_spl u.cells.toList 0 off ds (by simp [hsz]; omega)
        rw [this]
        exact hl.spl q1 _
      · cases h
  | [], _ :: _, _, _, _, hp, _, _ => hp.elim
  | _ :: _, [], _, _, _, hp, _, _ => hp.elim
theorem build_sound {t : TypeId} {ps qs : List (Nat × Value)} {v : Value} (hp : PRel m ps qs) (h : build P t ps = some v) : ∃ v', (Instr.build t qs.toArray).run P w = .ok v' w ∧ VRel m v v' := by
  unfold build at h
  cases hz : zeroT P t with
  | none => rw [hz] at h; cases h
  | some z =>
    rw [hz] at h
    simp only [Option.bind_some] at h
    obtain ⟨i, hi, hz1, hz2⟩ := zeroT_inv hz
    split at h
    · rename_i fs hd
      split at h
      · cases h
      · rename_i hall
        simp only [Bool.not_eq_false] at hall
        cases hf : fillB (fun i => (fs[i]?).map fun f => (f.offset, szT P f.type)) z.cells.toList ps with
        | none => rw [hf] at h; cases h
        | some cs =>
          rw [hf] at h
          cases h
          obtain ⟨es, h1, h2⟩ := fill_sound (m := m) _ ps qs _ z.cells _ hp (flat_cells hz2) hf
          refine ⟨.agg es, run_build w t qs.toArray es ?_, VRel.aggL (by simpa using h2)⟩
          unfold Program.built
          rw [hi, hd]
          simp only
          have hm : fs.toList.mapM (fun f => (P.info? f.type).map fun i => (f.offset, i.size)) = some (fs.toList.map fun f => (f.offset, szT P f.type)) := by
            have : ∀ l : List Field, l.all (fun f => (P.info? f.type).isSome) = true → l.mapM (fun f => (P.info? f.type).map fun i => (f.offset, i.size)) = some (l.map fun f => (f.offset, szT P f.type)) := by
              intro l
              induction l with
              | nil => intro _; rfl
              | cons f l ih =>
                intro h
                simp only [List.all_cons, Bool.and_eq_true] at h
                obtain ⟨j, hj⟩ := isSome_info h.1
                simp [List.mapM_cons, hj, ih h.2, szT_eq hj]
            exact this _ hall
          rw [hz1, hm]
          simp only
          rw [← h1]
          congr 1
          funext x
          simp
    · rename_i n e hd
      split at h
      · cases h
      · rename_i hall
        simp only [Bool.not_eq_false] at hall
        obtain ⟨j, hj⟩ := isSome_info hall
        cases hf : fillB (fun i => some (i * szT P e, szT P e)) z.cells.toList ps with
        | none => rw [hf] at h; cases h
        | some cs =>
          rw [hf] at h
          cases h
          obtain ⟨es, h1, h2⟩ := fill_sound (m := m) _ ps qs _ z.cells _ hp (flat_cells hz2) hf
          refine ⟨.agg es, run_build w t qs.toArray es ?_, VRel.aggL (by simpa using h2)⟩
          unfold Program.built
          rw [hi, hd]
          simp only [hz1, hj]
          rw [szT_eq hj] at h1
          exact h1
    · cases h
theorem buildS_sound (R : Rel P B0 w0 m H w) {t : TypeId} {len : Nat} {ps qs : List (Nat × Value)} {u : Value} {H' : AH} (hp : PRel m ps qs) (h : buildS P t H len ps = some (u, H')) :
    ∃ u' m' w', (Instr.buildSlice t len qs.toArray).run P w = .ok u' w' ∧ VRel m' u u' ∧ Rel P B0 w0 m' H' w' ∧ Ext m H w m' H' w' := by
  unfold buildS at h
  split at h
  · rename_i e hd
    cases hz : zeroT P e with
    | none => rw [hz] at h; cases h
    | some z =>
      rw [hz] at h
      simp only [Option.bind_some] at h
      obtain ⟨i, hi, hz1, hz2⟩ := zeroT_inv hz
      split at h
      · rename_i hc
        cases hf : fillB (fun i => some (i * szT P e, szT P e)) (rep z.cells.toList len) ps with
        | none => rw [hf] at h; cases h
        | some cs =>
          rw [hf] at h
          cases h
          have hml := madeCells_toList z.cells len
          rw [hc.2] at hml
          obtain ⟨es, h1, h2⟩ := fill_sound (m := m) _ ps qs _ (madeCells z.cells (len * szT P e)) _ hp (by rw [hml]; exact (flat_cells hz2).rep _) hf
          obtain ⟨h3, h4⟩ := R.make (P := P) cs e .fix es (by decide) (by rw [List.take_of_length_le (by have := h2.1; simp at this ⊢; omega)]; exact h2) (fun _ => by have := h2.1; simp at this; omega)
          refine ⟨_, _, _, ?_, VRel.newSl (upd_same _ _ _) rfl (Nat.le_refl _) (Nat.le_refl _) (fun _ => rfl) (fun hk => by cases hk) (fun hk => (hk rfl).elim), h3, h4⟩
          have hle : ¬ (16777216 < len * szT P e) := by omega
          by_cases h0 : len * szT P e = 0
          · have e0 : madeCells z.cells 0 = #[] := by simp [madeCells]
            rw [h0, e0] at h1
            simp [Instr.buildSlice, run_underlying hd, run_sizeOf hi, h0, newRow, Array.range_zero']
            rw [h1]
            simp
          · simp [Instr.buildSlice, run_underlying hd, run_sizeOf hi, h0, hle, run_zeroValue hi hz1, newRow]
            unfold madeCells at h1
            rw [h1]
            simp
      · cases h
  · cases h
theorem still_run {α : Type} : ∀ (s : Sem α) (a : α), still P s = some a → ∀ w, s.run P w = .ok a w := by
  intro s
  induction s with
  | pure a => intro b h w; cases h; rfl
  | program k ih => intro b h w; exact ih P b h w
  | _ => intro b h; cases h
theorem VRel.ptr_some {ad : Addr} {v : Value} (h : VRel m (.pointer (some ad)) v) : ∃ ad', v = .pointer (some ad') := by
  cases h with
  | flat v h => simp [flat1] at h
  | ptr b off L h => exact ⟨_, rfl⟩
theorem VRel.slice_some {ad : Addr} {n c : Nat} {v : Value} (h : VRel m (.slice (some ad) n c) v) : ∃ ad' c', v = .slice (some ad') n c' := by
  cases h with
  | flat v h => simp [flat1] at h
  | slice b off off' len cap cap' L h h1 h2 h3 h4 h5 h6 => exact ⟨_, _, rfl⟩
  | zsl b off a h => exact ⟨_, _, rfl⟩
theorem VRel.func_some {f : Fn} {a b : Array Value} {v : Value} (h : VRel m (.func f a b) v) : ∃ f' a' b', v = .func f' a' b' := by
  cases h with
  | flat v h => simp [flat1] at h
  | func f a b a' b' h1 h2 h3 h4 => exact ⟨_, _, _, rfl⟩
  | yld b L h h0 => exact ⟨_, _, _, rfl⟩
theorem VRel.func_someF {f : FuncId} {a b : Array Value} {v : Value} (h : VRel m (.func (.func f) a b) v) : ∃ a' b', v = .func (.func f) a' b' := by
  cases h with
  | flat v h => simp [flat1] at h
  | func f a b a' b' h1 h2 h3 h4 => exact ⟨_, _, rfl⟩
theorem eqGuard_of {op : BinOp} {t : TypeId} {x y : Operand} {a b : Value} (h : (match a with | .nilIface => false | .agg _ => false | _ => true) = true) : eqGuard op t x y a b = pure () := by
  cases a <;> first | (simp at h; done) | (cases op <;> rfl)
theorem nilEq_sound {t : TypeId} {D : TypeDesc} {a b a' b' : Value} {c : Bool} (hd : P.underlying t = some D) (ha : VRel m a a') (hb : VRel m b b') (h : nilEq D a b = some c) :
    (Op.equal t a' b').run P w = .ok c w ∧ ∀ (op : BinOp) (x y : Operand), eqGuard op t x y a' b' = pure () := by
  obtain ⟨d, e0⟩ : ∃ d, ∀ x y : Value, Op.equal t x y = Op.equalIn (d + 1) t x y := ⟨9999, fun _ _ => rfl⟩
  unfold nilEq at h
  split at h
  · cases h
    obtain ⟨ad', rfl⟩ := ha.ptr_some
    cases hb.flat_inv rfl
    exact ⟨by rw [e0]; simp only [Op.equalIn, Sem.run_bind, run_underlying hd, Result.andThen_ok, Sem.run_pure], fun _ _ _ => eqGuard_of rfl⟩
  · cases h
    obtain ⟨ad', rfl⟩ := hb.ptr_some
    cases ha.flat_inv rfl
    exact ⟨by rw [e0]; simp only [Op.equalIn, Sem.run_bind, run_underlying hd, Result.andThen_ok, Sem.run_pure, Option.isNone_some], fun _ _ _ => eqGuard_of rfl⟩
  · cases h
    obtain ⟨ad', c', rfl⟩ := ha.slice_some
    cases hb.flat_inv rfl
    exact ⟨by rw [e0]; simp only [Op.equalIn, Sem.run_bind, run_underlying hd, Result.andThen_ok, Sem.run_pure], fun _ _ _ => eqGuard_of rfl⟩
  · cases h
    obtain ⟨ad', c', rfl⟩ := hb.slice_some
    cases ha.flat_inv rfl
    exact ⟨by rw [e0]; simp only [Op.equalIn, Sem.run_bind, run_underlying hd, Result.andThen_ok, Sem.run_pure, Option.isNone_some], fun _ _ _ => eqGuard_of rfl⟩
  · cases h
    obtain ⟨f', a', b', rfl⟩ := ha.func_some
    cases hb.flat_inv rfl
    exact ⟨by rw [e0]; simp only [Op.equalIn, Sem.run_bind, run_underlying hd, Result.andThen_ok, Sem.run_pure], fun _ _ _ => eqGuard_of rfl⟩
  · cases h
    obtain ⟨f', a', b', rfl⟩ := hb.func_some
    cases ha.flat_inv rfl
    exact ⟨by rw [e0]; simp only [Op.equalIn, Sem.run_bind, run_underlying hd, Result.andThen_ok, Sem.run_pure], fun _ _ _ => eqGuard_of rfl⟩
  · cases h
theorem binOp_eql (t : TypeId) (a b : Value) (h : ∀ k n, a ≠ .int k n) (h2 : ∀ k n, a ≠ .float k n) (h3 : ∀ s, a ≠ .string s) (h4 : ∀ k n q, a ≠ .complex k n q) : binOp .eql t a b = (do pure (.bool (← Op.equal t a b))) := by
  cases a <;> first
    | exact (h _ _ rfl).elim
    | exact (h2 _ _ rfl).elim
    | exact (h3 _ rfl).elim
    | exact (h4 _ _ _ rfl).elim
    | rfl
theorem binOp_neq (t : TypeId) (a b : Value) (h : ∀ k n, a ≠ .int k n) (h2 : ∀ k n, a ≠ .float k n) (h3 : ∀ s, a ≠ .string s) (h4 : ∀ k n q, a ≠ .complex k n q) : binOp .neq t a b = (do pure (.bool (!(← Op.equal t a b)))) := by
  cases a <;> first
    | exact (h _ _ rfl).elim
    | exact (h2 _ _ rfl).elim
    | exact (h3 _ rfl).elim
    | exact (h4 _ _ _ rfl).elim
    | rfl
theorem nilEq_left {D : TypeDesc} {a b a' : Value} {c : Bool} (ha : VRel m a a') (h : nilEq D a b = some c) : (∀ k n, a' ≠ .int k n) ∧ (∀ k n, a' ≠ .float k n) ∧ (∀ s, a' ≠ .string s) ∧ (∀ k n q, a' ≠ .complex k n q) := by
  unfold nilEq at h
  split at h
  · obtain ⟨ad', rfl⟩ := ha.ptr_some; simp
  · cases ha.flat_inv rfl; simp
  · obtain ⟨ad', c', rfl⟩ := ha.slice_some; simp
  · cases ha.flat_inv rfl; simp
  · obtain ⟨f', a', b', rfl⟩ := ha.func_some; simp
  · cases ha.flat_inv rfl; simp
  · cases h
theorem flat_eq3 {m : Mp} : ∀ {xs ys : List Value}, xs.all flat1 = true → LRel m xs ys → ys = xs
  | [], ys, _, h => h.nil_inv
  | x :: xs, ys, hf, h => by
    obtain ⟨y, zs, rfl, hy, hz⟩ := h.cons_inv
    simp only [List.all_cons, Bool.and_eq_true] at hf
    rw [hy.flat_inv hf.1, flat_eq3 hf.2 hz]
theorem eqL_flat : ∀ (fs : List Field) (i : Nat) (xs ys : List Value) (c : Bool), eqL P fs i xs ys = some c → xs.all flat1 = true ∧ ys.all flat1 = true
  | [], _, [], [], _, _ => ⟨rfl, rfl⟩
  | [], _, [], _ :: _, _, h => by simp [eqL] at h
  | [], _, _ :: _, _, _, h => by simp [eqL] at h
  | f :: fs, _, [], _, _, h => by simp [eqL] at h
  | f :: fs, _, _ :: _, [], _, h => by simp [eqL] at h
  | f :: fs, i, x :: xs, y :: ys, c, h => by
    unfold eqL at h
    split at h
    · split at h
      · split at h
        · obtain ⟨r, hr, _⟩ := Option.map_eq_some_iff.1 h
          have := eqL_flat fs _ xs ys r hr
          exact ⟨by simp [flat1, this.1], by simp [flat1, this.2]⟩
        · cases h
      · obtain ⟨r, hr, _⟩ := Option.map_eq_some_iff.1 h
        have := eqL_flat fs _ xs ys r hr
        exact ⟨by simp [flat1, this.1], by simp [flat1, this.2]⟩
      · obtain ⟨r, hr, _⟩ := Option.map_eq_some_iff.1 h
        have := eqL_flat fs _ xs ys r hr
        exact ⟨by simp [flat1, this.1], by simp [flat1, this.2]⟩
      · cases h
    · cases h
theorem eqL_run (d : Nat) (X Y : Array Value) : ∀ (fs : List Field) (i : Nat) (xs ys : List Value) (c : Bool), eqL P fs i xs ys = some c → X.toList.drop i = xs → Y.toList.drop i = ys → ∀ w : World, (Op.eqFields (d + 1) X Y fs).run P w = .ok c w
  | [], _, [], [], c, h, _, _, w => by
    cases h
    simp [Op.eqFields]
  | [], _, [], _ :: _, _, h, _, _, _ => by simp [eqL] at h
  | [], _, _ :: _, _, _, h, _, _, _ => by simp [eqL] at h
  | f :: fs, _, [], _, _, h, _, _, _ => by simp [eqL] at h
  | f :: fs, _, _ :: _, [], _, h, _, _, _ => by simp [eqL] at h
  | f :: fs, i, x :: xs, y :: ys, c, h, hX, hY, w => by
    have hx1 : X.toList.drop (i + 1) = xs := by rw [← List.drop_drop, hX]; rfl
    have hy1 : Y.toList.drop (i + 1) = ys := by rw [← List.drop_drop, hY]; rfl
    have hx0 : X[i]? = some x := by
      have : (X.toList.drop i)[0]? = some x := by rw [hX]; rfl
      rw [List.getElem?_drop] at this
      simpa using this
    have hy0 : Y[i]? = some y := by
      have : (Y.toList.drop i)[0]? = some y := by rw [hY]; rfl
      rw [List.getElem?_drop] at this
      simpa using this
    unfold eqL at h
    split at h
    · rename_i hc
      obtain ⟨ho, hn, ha⟩ := hc
      have px : (part f.type X f.offset).run P w = .ok x w := by
        obtain ⟨h1, ii, hi⟩ := aggT_false ha w
        rw [ho]
        simp [part, h1, hx0]
      have py : (part f.type Y f.offset).run P w = .ok y w := by
        obtain ⟨h1, ii, hi⟩ := aggT_false ha w
        rw [ho]
        simp [part, h1, hy0]
      have go : ∀ (e r : Bool), (Op.equalIn (d + 1) f.type x y).run P w = .ok e w → eqL P fs (i + 1) xs ys = some r → (Op.eqFields (d + 1) X Y (f :: fs)).run P w = .ok (e && r) w := by
        intro e r he hr
        have ih := eqL_run d X Y fs (i + 1) xs ys r hr hx1 hy1 w
        simp only [Op.eqFields, Sem.run_ite, if_pos hn, Sem.run_bind, px, py, he, Result.andThen_ok]
        cases e
        · simp
        · simp [ih]
      split at h
      · rename_i hu
        split at h
        · rename_i hk
          subst hk
          obtain ⟨r, hr, rfl⟩ := Option.map_eq_some_iff.1 h
          refine go _ r ?_ hr
          rw [run_equalIn_int w d f.type _ _ _ _ hu]
          rfl
        · cases h
      · rename_i hu
        obtain ⟨r, hr, rfl⟩ := Option.map_eq_some_iff.1 h
        exact go _ r (run_equalIn_bool' w d f.type _ _ hu) hr
      · rename_i hu
        obtain ⟨r, hr, rfl⟩ := Option.map_eq_some_iff.1 h
        exact go _ r (run_equalIn_string w d f.type _ _ hu) hr
      · cases h
    · cases h
theorem aggEq_sound {t : TypeId} {xs ys : Array Value} {a' b' : Value} {c : Bool} (ha : VRel m (.agg xs) a') (hb : VRel m (.agg ys) b') (h : aggEq P t xs.toList ys.toList = some c) :
    a' = .agg xs ∧ b' = .agg ys ∧ (Op.equalIn 10000 t (.agg xs) (.agg ys)).run P w = .ok c w ∧ ∀ (op : BinOp) (x y : Operand), (eqGuard op t x y (.agg xs) (.agg ys)).run P w = .ok () w := by
  unfold aggEq at h
  split at h
  · rename_i hc
    split at h
    · rename_i fs hu
      obtain ⟨f1, f2⟩ := eqL_flat _ _ _ _ _ h
      obtain ⟨X, rfl, hX⟩ := ha.agg_inv
      obtain ⟨Y, rfl, hY⟩ := hb.agg_inv
      have e1 : X = xs := by
        have := flat_eq3 f1 hX
        exact Array.toList_inj.1 this
      have e2 : Y = ys := by
        have := flat_eq3 f2 hY
        exact Array.toList_inj.1 this
      subst e1
      subst e2
      have hfo : P.fieldsOf t = fs := by unfold Program.fieldsOf; rw [hu]
      refine ⟨rfl, rfl, ?_, fun op x y => run_eqGuard_agg w op t x y _ _ hc.2⟩
      rw [run_equalIn_agg w 9999 t X Y (by rw [hfo]; exact hu) hc.1, hfo]
      exact eqL_run 9998 X Y fs.toList 0 _ _ c h rfl rfl w
    · cases h
  · cases h
theorem bin_sound {op : BinOp} {t : TypeId} {ρ : Operand → Value} {x y : Operand} {a b v : Value} (ha : VRel m a (ρ x)) (hb : VRel m b (ρ y)) (h : bin P op t a b = some v) :
    ∃ v', (do eqGuard op t x y (ρ x) (ρ y); binOp op t (ρ x) (ρ y)).run P w = .ok v' w ∧ VRel m v v' := by
  unfold bin at h
  split at h
  · rename_i hf
    obtain ⟨f1, f2, f3⟩ := hf
    rw [ha.flat_inv f1, hb.flat_inv f2]
    cases hs : still P (binOp op t a b) with
    | none => rw [hs] at h; cases h
    | some u =>
      rw [hs] at h
      simp only [Option.bind_some] at h
      split at h
      · rename_i hfu
        cases h
        refine ⟨v, ?_, .flat _ hfu⟩
        have hg : eqGuard op t x y a b = pure () := by
          cases a <;> first | (simp [isNilI] at f3; done) | (simp [flat1] at f1; done) | (cases op <;> rfl)
        rw [hg]
        simp [still_run _ _ hs w]
      · cases h
  · split at h
    · obtain ⟨c, hc, rfl⟩ := Option.map_eq_some_iff.1 h
      obtain ⟨e1, e2, e3, e4⟩ := aggEq_sound (w := w) ha hb hc
      rw [e1, e2]
      refine ⟨.bool c, ?_, .flat _ rfl⟩
      rw [Sem.run_bind, e4, Result.andThen_ok, run_eql_struct, e3]
      rfl
    · obtain ⟨c, hc, rfl⟩ := Option.map_eq_some_iff.1 h
      obtain ⟨e1, e2, e3, e4⟩ := aggEq_sound (w := w) ha hb hc
      rw [e1, e2]
      refine ⟨.bool !c, ?_, .flat _ rfl⟩
      rw [Sem.run_bind, e4, Result.andThen_ok, run_neq_struct, e3]
      rfl
    · cases hd : P.underlying t with
      | none => rw [hd] at h; cases h
      | some D =>
        rw [hd] at h
        simp only [Option.bind_some] at h
        cases hn : nilEq D a b with
        | none => rw [hn] at h; cases h
        | some c =>
          rw [hn] at h
          cases h
          obtain ⟨h1, h2⟩ := nilEq_sound (w := w) hd ha hb hn
          obtain ⟨q1, q2, q3, q4⟩ := nilEq_left ha hn
          refine ⟨.bool c, ?_, .flat _ rfl⟩
          rw [h2, binOp_eql _ _ _ q1 q2 q3 q4]
          simp [h1]
    · cases hd : P.underlying t with
      | none => rw [hd] at h; cases h
      | some D =>
        rw [hd] at h
        simp only [Option.bind_some] at h
        cases hn : nilEq D a b with
        | none => rw [hn] at h; cases h
        | some c =>
          rw [hn] at h
          cases h
          obtain ⟨h1, h2⟩ := nilEq_sound (w := w) hd ha hb hn
          obtain ⟨q1, q2, q3, q4⟩ := nilEq_left ha hn
          refine ⟨.bool !c, ?_, .flat _ rfl⟩
          rw [h2, binOp_neq _ _ _ q1 q2 q3 q4]
          simp [h1]
    · cases h
theorem un_sound {op : UnOp} {a a' v : Value} (ha : VRel m a a') (h : un P op a = some v) : ∃ v', (Op.unary op a').run P w = .ok v' w ∧ VRel m v v' := by
  unfold un at h
  split at h
  · rename_i hf
    rw [ha.flat_inv hf]
    cases hs : still P (Op.unary op a) with
    | none => rw [hs] at h; cases h
    | some u =>
      rw [hs] at h
      simp only [Option.bind_some] at h
      split at h
      · rename_i hfu; cases h; exact ⟨v, still_run _ _ hs w, .flat _ hfu⟩
      · cases h
  · cases h
theorem cv_sound {s d : TypeId} {a a' v : Value} (ha : VRel m a a') (h : cv P s d a = some v) : ∃ v', (convert s d a').run P w = .ok v' w ∧ VRel m v v' := by
  unfold cv at h
  split at h
  · rename_i hs hd
    cases h
    cases ha.int_inv
    exact ⟨_, by simp [convert, run_underlying hs, run_underlying hd, Conv.intToInt], .flat _ rfl⟩
  · rename_i hs hd
    cases h
    cases ha.str_inv
    refine ⟨_, ?_, .flat _ rfl⟩
    simp [convert, run_underlying hs, run_underlying hd]
  · cases h
end
end Go.AM
namespace Go.AM
open Go.RowKit

section
variable {P : Program} {B0 : Nat} {w0 : World} {m : Mp} {H : AH} {w : World}

theorem rdN_len {k : Blk} {off n : Nat} {cs : List Value} (h : rdN k off n = some cs) : cs.length = n := by
  unfold rdN at h
  split at h
  · cases h; simp; omega
  · cases h
theorem cellsOfBytes_len (s : ByteArray) : (cellsOfBytes s).length = s.size := by simp [cellsOfBytes]
theorem cells_sound (R : Rel P B0 w0 m H w) {sz n : Nat} {x x' : Value} {cs : List Value} (hx : VRel m x x') (h : sliceCells sz H x n = some cs) :
    ∃ ds, LRel m cs ds ∧ (Builtin.firstCells sz n x').run P w = .ok ds.toArray w ∧ (Builtin.firstCells sz n x').run P w.drew = .ok ds.toArray w.drew ∧ ((∀ s, x ≠ .string s) ∨ sz = 1 → ds.length = n * sz) := by
  unfold sliceCells at h
  split at h
  · split at h
    · rename_i h0
      subst h0
      cases h
      cases hx.flat_inv rfl
      exact ⟨[], LRel.nil m, by simp [Builtin.firstCells], by simp [Builtin.firstCells], fun _ => by simp⟩
    · cases h
  · rename_i b off len cap
    rcases hx.slice_inv with ⟨rfl, rfl, hz, a, rfl⟩ | ⟨L, off', cap', hm, rfl, h1, h2, h3, h4, h5, h6, hnm⟩
    · split at h
      · rename_i h0
        subst h0
        cases h
        exact ⟨[], LRel.nil m, by simp [Builtin.firstCells, loadCells, loadCellsFrom], by simp [Builtin.firstCells, loadCells, loadCellsFrom], fun _ => by simp⟩
      · split at h
        · omega
        · cases h
    split at h
    · rename_i h0
      subst h0
      cases h
      exact ⟨[], LRel.nil m, by simp [Builtin.firstCells, loadCells, loadCellsFrom], by simp [Builtin.firstCells, loadCells, loadCellsFrom], fun _ => by simp⟩
    · split at h
      · cases hb : blk H b with
        | none => rw [hb] at h; cases h
        | some k =>
          rw [hb] at h
          simp only [Option.bind_some] at h
          obtain ⟨ds, hl, hc⟩ := (R.blks b L k hm hb).row hnm h
          have hlen : ds.length = n * sz := by rw [← hl.1]; exact rdN_len h
          rcases h3 with rfl | h3
          · have e1 := run_loadCells_list (P := P) w _ ds hc
            have e2 := run_loadCells_list (P := P) w.drew _ ds hc
            rw [hlen] at e1 e2
            exact ⟨ds, hl, by simp [Builtin.firstCells, e1], by simp [Builtin.firstCells, e2], fun _ => hlen⟩
          · omega
      · cases h
  · rename_i s
    split at h
    · rename_i hn
      cases h
      cases hx.str_inv
      have e : ((s.extract 0 n).data.map fun b => Value.int .u8 b.toNat) = ((cellsOfBytes s).take n).toArray := by
        apply Array.ext'
        simp [cellsOfBytes, ByteArray.data_extract]
      refine ⟨_, LRel.of_flat _ ?_, by simp only [Builtin.firstCells]; rw [e]; rfl, by simp only [Builtin.firstCells]; rw [e]; rfl, fun hh => ?_⟩
      · rw [List.all_eq_true]
        intro v hv
        have := List.mem_of_mem_take hv
        simp only [cellsOfBytes, List.mem_map] at this
        obtain ⟨b, _, rfl⟩ := this
        rfl
      · rcases hh with hh | rfl
        · exact (hh s rfl).elim
        · rw [List.length_take, cellsOfBytes_len]; omega
    · cases h
  · cases h
theorem bytesOf_inv : ∀ (cs : List Value) (l : List UInt8), bytesOf cs = some l → ∃ ns : List Int, cs = ns.map (Value.int .u8) ∧ l = ns.map fun n => UInt8.ofNat n.toNat
  | [], l, h => by cases h; exact ⟨[], rfl, rfl⟩
  | v :: r, l, h => by
    unfold bytesOf at h
    split at h
    · rename_i he; cases he
    · rename_i n r' he
      cases he
      cases hr : bytesOf r with
      | none => rw [hr] at h; cases h
      | some l' =>
        rw [hr] at h
        cases h
        obtain ⟨ns, h1, h2⟩ := bytesOf_inv r l' hr
        exact ⟨n :: ns, by simp [h1], by simp [h2]⟩
    · cases h
theorem foldl_push (ns : List Int) : ∀ r : ByteArray, ns.foldl (fun r n => r.push (UInt8.ofNat n.toNat)) r = ⟨r.data ++ (ns.map fun n => UInt8.ofNat n.toNat).toArray⟩ := by
  induction ns with
  | nil => intro r; simp
  | cons n ns ih => intro r; rw [List.foldl_cons, ih]; simp [ByteArray.push]
theorem LRel.flat_eq {ns : List Int} {ds : List Value} (h : LRel m (ns.map (Value.int .u8)) ds) : ds = ns.map (Value.int .u8) := by
  apply List.ext_getElem?
  intro i
  rcases Nat.lt_or_ge i ns.length with h1 | h1
  · have h2 : i < ds.length := by rw [← h.1]; simpa using h1
    have e1 : (ns.map (Value.int .u8))[i]? = some (.int .u8 ns[i]) := by simp [h1]
    have := h.2 i _ _ e1 (List.getElem?_eq_getElem h2)
    rw [e1, List.getElem?_eq_getElem h2, this.int_inv]
  · rw [List.getElem?_eq_none (by rw [← h.1]; simpa using h1), List.getElem?_eq_none (by simpa using h1)]
theorem cvS_sound (R : Rel P B0 w0 m H w) {s d : TypeId} {a a' v : Value} (ha : VRel m a a') (h : cvS P s d H a = some v) : ∃ v', (convert s d a').run P w = .ok v' w ∧ VRel m v v' := by
  unfold cvS at h
  split at h
  · rename_i e ad len cap hs hd
    split at h
    · rename_i he
      cases hc : sliceCells 1 H (.slice ad len cap) len with
      | none => rw [hc] at h; cases h
      | some cs =>
        rw [hc] at h
        simp only [Option.bind_some] at h
        cases hb : bytesOf cs with
        | none => rw [hb] at h; cases h
        | some l =>
          rw [hb] at h
          cases h
          obtain ⟨ns, rfl, rfl⟩ := bytesOf_inv cs l hb
          obtain ⟨ds, h1, h2, _, h3⟩ := cells_sound R ha hc
          have hds := h1.flat_eq
          subst hds
          refine ⟨_, ?_, .flat _ rfl⟩
          cases ad with
          | none =>
            have hz : len = 0 ∧ cap = 0 := by
              unfold sliceCells at hc
              split at hc
              · rename_i he; cases he; exact ⟨rfl, rfl⟩
              · rename_i he; cases he
              · rename_i he; cases he
              · cases hc
            obtain ⟨rfl, rfl⟩ := hz
            have hn : ns = [] := by have := h3 (.inl fun s hs => by cases hs); simpa using this
            subst hn
            cases ha.flat_inv rfl
            rw [run_convert_bytes_string w s d e none 0 0 hs he hd]
            simp [Conv.bytesToString]
            rfl
          | some ad =>
            obtain ⟨ad', c', rfl⟩ := ha.slice_some
            rw [run_convert_bytes_string w s d e (some ad') len c' hs he hd]
            have e1 : (loadCells ad' len).run P w = .ok (ns.map (Value.int .u8)).toArray w := by simpa [Builtin.firstCells] using h2
            rw [run_bytesToString w ad' len c' ns e1, foldl_push]
            simp
    · cases h
  · cases h
theorem lenOf_sound {x x' : Value} {n : Nat} (hx : VRel m x x') (h : lenOf x = some n) (w : World) : (Builtin.lenOf x').run P w = .ok n w := by
  unfold lenOf at h
  split at h
  · cases h; cases hx.flat_inv rfl; rfl
  · cases h
    rename_i ad n c
    cases hx with
    | flat v hf => simp [flat1] at hf
    | slice => rfl
    | zsl => rfl
  · cases h; cases hx.str_inv; rfl
  · cases h
theorem run_ap_room {t u ty e : TypeId} {i : TypeInfo} {D : TypeDesc} (ht : P.underlying t = some (.slice e)) (hu : P.underlying u = some D) (hD : (∃ e', D = .slice e') ∨ D = .string) (hi : P.info? e = some i) {x : Value} {n : Nat} (hn : (Builtin.lenOf x).run P w = .ok n w)
    {g o sLen sCap : Nat} {news : List Value} (hf : (Builtin.firstCells i.size n x).run P w = .ok news.toArray w) (hroom : sLen + n ≤ sCap) {w' : World} (hst : (storeCells ⟨g, o + sLen * i.size, none⟩ news).run P w = .ok () w') :
    (Builtin.append_ #[t, u] ty #[.slice (some ⟨g, o, none⟩) sLen sCap, x]).run P w = .ok (.slice (some ⟨g, o, none⟩) (sLen + n) sCap) w' := by
  rcases hD with ⟨e', rfl⟩ | rfl <;> simp [Builtin.append_, run_underlying ht, run_underlying hu, sizeOf, typeInfo, hi, hn, hroom, hf, Addr.add_lit, hst]
theorem run_ap_grow {t u ty e : TypeId} {i : TypeInfo} {z : Value} {D : TypeDesc} (ht : P.underlying t = some (.slice e)) (hu : P.underlying u = some D) (hD : (∃ e', D = .slice e') ∨ D = .string) (hi : P.info? e = some i) (hz : i.zero = some z) {x : Value} {n : Nat} (hn : (Builtin.lenOf x).run P w = .ok n w)
    {b : Option Addr} {sLen sCap : Nat} {olds news : List Value} (hfo : (Builtin.firstCells i.size sLen (.slice b sLen sCap)).run P w.drew = .ok olds.toArray w.drew) (hf : (Builtin.firstCells i.size n x).run P w.drew = .ok news.toArray w.drew)
    (hg : sCap < sLen + n) (h63 : sLen + n ≤ 9223372036854775807) (hfit : (sLen + n) * i.bytes ≤ 140737488355328) :
    (Builtin.append_ #[t, u] ty #[.slice b sLen sCap, x]).run P w =
      .ok (.slice (some ⟨w.heap.size, 0, none⟩) (sLen + n) (grownCap w (sLen + n) sCap e))
        (w.drew.alloc (.cells (olds ++ news ++ (Builtin.zeroCells z.cells (grownCap w (sLen + n) sCap e - (sLen + n))).toList).toArray e)) := by
  have hnn : ¬ (sLen + n ≤ sCap) := by omega
  have h63' : ¬ (9223372036854775807 < ((sLen : Int) + (n : Int))) := by omega
  have h48 := growslice_fits hg hfit
  have h48' : ¬ (281474976710656 < Builtin.nextslicecap (sLen + n) sCap * i.bytes) := by omega
  rcases hD with ⟨e', rfl⟩ | rfl <;> (simp [Builtin.append_, run_underlying ht, run_underlying hu, sizeOf, typeInfo, zeroValue, hi, hz, hn, hnn, h63', h48', Question.forced, hf, hfo, newRow, grownCap]; congr 2; apply Array.ext'; simp)
theorem oneCells {xs ys : List Value} (h : LRel m xs ys) (ha : xs.all isCell = true) : ∀ u ∈ ys, u.oneCell' = true := by
  intro u hu
  obtain ⟨i, hi⟩ := List.getElem?_of_mem hu
  have hlt : i < xs.length := by rw [h.1]; exact (List.getElem?_eq_some_iff.1 hi).1
  have hx := List.getElem?_eq_getElem hlt
  exact (VRel.isCell (h.2 i _ _ hx hi) (List.all_eq_true.1 ha _ (List.mem_of_getElem? hx))).1
theorem grow_new {H0 : AH} (R : Rel P B0 w0 m H0 w) {kd : BK} (hkd : kd.gr = true) {e : TypeId} {i : TypeInfo} {z : Value} (hi : P.info? e = some i) (hzs : z.cells.size = i.size) {cs ks : List Value} {N cap : Nat} (hl : LRel m cs ks) (hN : ks.length = N * i.size) (hcap : N ≤ cap) :
    ∃ m', VRel m' (sl H0.length 0 N (N + 1)) (.slice (some ⟨w.heap.size, 0, none⟩) N cap) ∧ Rel P B0 w0 m' (mkB H0 cs e kd) (w.drew.alloc (.cells (ks ++ (Builtin.zeroCells z.cells (cap - N)).toList).toArray e)) ∧
      Ext m H0 w m' (mkB H0 cs e kd) (w.drew.alloc (.cells (ks ++ (Builtin.zeroCells z.cells (cap - N)).toList).toArray e)) := by
  obtain ⟨h3, h4⟩ := R.drew.make (P := P) cs e kd (ks ++ (Builtin.zeroCells z.cells (cap - N)).toList).toArray (BK.gr_row hkd).2.1 (by
    show LRel m cs ((ks ++ _).take cs.length)
    rw [hl.1, List.take_left]
    exact hl) (fun hk => absurd hk (BK.gr_row hkd).2.2) (BK.gr_row hkd).1
  refine ⟨_, VRel.newSl (upd_same _ _ _) rfl (Nat.le_succ _) hcap (fun hk => absurd hk (BK.gr_row hkd).2.2) ?_ (fun _ => Nat.lt_succ_self _) (BK.gr_row hkd).1, h3, h4.drewL⟩
  intro _
  show cap * szT P e ≤ (ks ++ (Builtin.zeroCells z.cells (cap - N)).toList).toArray.size
  simp only [List.size_toArray, List.length_append, Array.length_toList, size_zeroCells, hN, hzs, szT_eq hi]
  rw [← Nat.add_mul]
  exact Nat.mul_le_mul_right _ (by omega)
theorem apS_sound (R : Rel P B0 w0 m H w) {t u ty e : TypeId} {i : TypeInfo} {z : Value} {D : TypeDesc} (ht : P.underlying t = some (.slice e)) (hu : P.underlying u = some D) (hD : (∃ e', D = .slice e') ∨ D = .string) (hi : P.info? e = some i) (hz : i.zero = some z)
    (hzs : z.cells.size = i.size) {s s' x x' v : Value} {n : Nat} {news : List Value} {H' : AH} (hs : VRel m s s') (hx : VRel m x x') (hsz0 : 0 < i.size) (hn : lenOf x = some n) (hc : sliceCells i.size H x n = some news) (hd1 : (∀ s, x ≠ .string s) ∨ i.size = 1) (hone : news.all isCell = true)
    {kd : BK} (hkd : kd.gr = true) (h : apS kd i.size i.bytes e H s n news = some (v, H')) :
    ∃ v' m' w', (Builtin.append_ #[t, u] ty #[s', x']).run P w = .ok v' w' ∧ VRel m' v v' ∧ Rel P B0 w0 m' H' w' ∧ Ext m H w m' H' w' := by
  have hnl := lenOf_sound (P := P) hx hn w
  obtain ⟨ds, hl, hf1, hf2, hdl⟩ := cells_sound R hx hc
  have hdl := hdl hd1
  have h1 := oneCells hl hone
  unfold apS at h
  split at h
  · cases hs.flat_inv rfl
    split at h
    · rename_i h0
      subst h0
      cases h
      have hd0 : ds = [] := by simpa using hdl
      subst hd0
      refine ⟨.slice none 0 0, m, w, ?_, .flat _ rfl, R, Ext.refl _ _ _⟩
      rcases hD with ⟨e', rfl⟩ | rfl <;> simp [Builtin.append_, run_underlying ht, run_underlying hu, sizeOf, typeInfo, hi, hnl, hf1]
    · rename_i h0
      split at h
      · rename_i hb
        cases h
        have hrun := run_ap_grow (P := P) (w := w) (ty := ty) (b := none) (sLen := 0) (sCap := 0) (olds := []) ht hu hD hi hz hnl (by simp [Builtin.firstCells]) hf2 (by omega) (by omega) (by rw [Nat.zero_add]; exact hb.1)
        simp only [Nat.zero_add, List.nil_append] at hrun
        obtain ⟨m', q1, q2, q3⟩ := grow_new R hkd hi hzs hl hdl (grownCap_ge w n 0 e)
        exact ⟨_, m', _, hrun, q1, q2, q3⟩
      · cases h
  · rename_i b off len cap
    have hs0 := hs
    rcases hs.slice_inv with ⟨rfl, rfl, hzz, a, rfl⟩ | ⟨L, off', cap', hm, rfl, g1, g2, g3, g4, g5, g8, hnm⟩
    · split at h
      · rename_i h0
        subst h0
        cases h
        have hd0 : ds = [] := by simpa using hdl
        subst hd0
        refine ⟨.slice (some a) 0 0, m, w, ?_, hs0, R, Ext.refl _ _ _⟩
        rcases hD with ⟨e', rfl⟩ | rfl <;> simp [Builtin.append_, run_underlying ht, run_underlying hu, sizeOf, typeInfo, hi, hnl, hf1, storeCells]
      · rename_i hn0
        rw [if_pos rfl] at h
        split at h
        · rename_i hb
          cases h
          have hrun := run_ap_grow (P := P) (w := w) (ty := ty) (b := some a) (sLen := 0) (sCap := 0) (olds := []) ht hu hD hi hz hnl (by simp [Builtin.firstCells, loadCells, loadCellsFrom]) hf2 (by omega) (by omega) (by rw [Nat.zero_add]; exact hb.1)
          simp only [Nat.zero_add, List.nil_append] at hrun
          obtain ⟨m', q1, q2, q3⟩ := grow_new R hkd hi hzs hl hdl (grownCap_ge w n 0 e)
          exact ⟨_, m', _, hrun, q1, q2, q3⟩
        · cases h
    split at h
    · rename_i h0
      subst h0
      cases h
      have hd0 : ds = [] := by simpa using hdl
      subst hd0
      exact ⟨_, m, w, run_ap_room ht hu hD hi hnl hf1 (by omega) (by simp [storeCells]), hs0, R, Ext.refl _ _ _⟩
    · rename_i hn0
      split at h
      · rename_i hc0
        subst hc0
        have hl0 : len = 0 := by omega
        subst hl0
        have hc0 : cap' = 0 := by
          by_cases hk : L.kind = .fix
          · exact (g4 hk).2
          · rcases g8 hk with g9 | g9
            · omega
            · exact g9.2
        subst hc0
        split at h
        · rename_i hb
          cases h
          have hrun := run_ap_grow (P := P) (w := w) (ty := ty) (b := some ⟨L.blk, off', none⟩) (sLen := 0) (sCap := 0) (olds := []) ht hu hD hi hz hnl (by simp [Builtin.firstCells, loadCells, loadCellsFrom]) hf2 (by omega) (by omega) (by rw [Nat.zero_add]; exact hb.1)
          simp only [Nat.zero_add, List.nil_append] at hrun
          obtain ⟨m', q1, q2, q3⟩ := grow_new R hkd hi hzs hl hdl (grownCap_ge w n 0 e)
          exact ⟨_, m', _, hrun, q1, q2, q3⟩
        · cases h
      rename_i hcap0
      cases hb : blk H b with
      | none => rw [hb] at h; cases h
      | some k =>
        rw [hb] at h
        simp only [Option.bind_some] at h
        cases hr : rdN k off (len * i.size) with
        | none => rw [hr] at h; cases h
        | some old =>
          rw [hr] at h
          simp only [Option.bind_some] at h
          have hol := rdN_len hr
          -- the elder cells, as they are read
          have holds : ∃ os, LRel m old os ∧ os.length = len * i.size ∧ (Builtin.firstCells i.size len (.slice (some ⟨L.blk, off', none⟩) len cap')).run P w.drew = .ok os.toArray w.drew := by
            have hsc : sliceCells i.size H (.slice (some ⟨b, off, none⟩) len cap) len = some old := by
              unfold sliceCells
              simp only
              split
              · rename_i hl0
                subst hl0
                have : old = [] := by simpa using hol
                rw [this]
              · rw [if_pos (Nat.le_refl _), hb]
                exact hr
            obtain ⟨os, q1, _, q3, q4⟩ := cells_sound R hs0 hsc
            exact ⟨os, q1, q4 (.inl fun s hs => by cases hs), q3⟩
          obtain ⟨os, q1, q2, q3⟩ := holds
          split at h
          · rename_i hcond
            obtain ⟨c1, c2, c3⟩ := hcond
            have gr : off = 0 → ∀ (hk : k.kind.gr = true) (hfull : k.kind = .buf → k.cells.length = len * i.size), ∃ v' m' w', (Builtin.append_ #[t, u] ty #[.slice (some ⟨L.blk, off', none⟩) len cap', x']).run P w = .ok v' w' ∧ VRel m' (sl H.length 0 (len + n) (len + n + 1)) v' ∧
                Rel P B0 w0 m' (mkB (kill H b) (old ++ news) e k.kind) w' ∧ Ext m H w m' (mkB (kill H b) (old ++ news) e k.kind) w' := by
              intro hoff hk hfull
              subst hoff
              have hcp : 0 < cap := by omega
              have hkk := (R.blks b L k hm hb).kind
              have hcs := g5 (by rw [hkk]; exact hk) rfl hcp
              by_cases hle : len + n ≤ cap'
              · obtain ⟨c, e', fr, hw, hlr, h3, h4, h5⟩ := (R.blks b L k hm hb).there (BK.gr_row hk).1
                obtain ⟨h3a, he, hbs⟩ := h3 (BK.gr_row hk).2.1
                have hcsz := h5.1 hk
                have hesz : L.esz = i.size := by rw [(R.blks b L k hm hb).esz hk, c3, szT_eq hi]
                have hin : off' + len * i.size + ds.length ≤ c.size := by
                  rw [hdl, hcsz, Nat.add_assoc, ← Nat.add_mul]
                  have : (len + n) * i.size ≤ cap' * i.size := Nat.mul_le_mul_right _ hle
                  rw [hesz] at hcs
                  omega
                have hfz : fr.2 ≤ off' + len * i.size := by
                  by_cases hkb : k.kind = .buf
                  · obtain ⟨z1, z2⟩ := h5.2.1 hkb
                    rcases g3 with g3 | g3
                    · rw [g3]; have := hfull hkb; omega
                    · rw [z2 (List.eq_nil_of_length_eq_zero (by rw [hfull hkb, g3, Nat.zero_mul]))]; omega
                  · rw [h3a hkb (fun hy => by rw [hy] at hk; cases hk)]; exact Nat.zero_le _
                have hst := run_storeCells_atF P L.blk (off' + len * i.size) e' fr ds 0 c w hw (by omega) (by omega) h1
                have hrun := run_ap_room (P := P) (w := w) (ty := ty) ht hu hD hi hnl hf1 hle hst
                simp only [Nat.add_zero] at hst hrun
                have hcl : c.toList.length = c.size := by simp
                have hold : LRel m old ((c.toList.drop off').take (len * i.size)) := by
                  unfold rdN at hr
                  split at hr
                  · rename_i hle2
                    cases hr
                    rcases g3 with g3 | g3
                    · have := (hlr.drop 0).take (len * i.size)
                      simp only [List.drop_zero] at this
                      rw [List.take_take, Nat.min_eq_left (by omega)] at this
                      rw [List.drop_zero, g3, Nat.add_zero]
                      exact this
                    · subst g3
                      simp only [Nat.zero_mul, List.take_zero]
                      exact LRel.nil m
                  · cases hr
                have hcut : ((c.toList.take (off' + len * i.size) ++ ds ++ c.toList.drop (off' + len * i.size + ds.length)).toArray.toList.drop off').take (old ++ news).length = (c.toList.drop off').take (len * i.size) ++ ds := by
                  have hnl2 : (old ++ news).length = len * i.size + ds.length := by rw [List.length_append, hol, hl.1]
                  rw [hnl2]
                  apply List.ext_getElem?
                  intro j
                  simp only [List.getElem?_take, List.getElem?_drop, List.getElem?_append, List.length_take, List.length_drop, List.length_append]
                  rw [hcl]
                  by_cases j1 : j < len * i.size
                  · rw [if_pos (by omega), if_pos (by omega), if_pos (by omega), if_pos (by omega), if_pos (by omega), if_pos (by omega)]
                  · by_cases j2 : j < len * i.size + ds.length
                    · rw [if_pos (by omega), if_pos (by omega), if_neg (by omega), if_neg (by omega)]
                      congr 1
                      omega
                    · rw [if_neg (by omega), if_neg (by omega), List.getElem?_eq_none (by omega)]
                obtain ⟨r2, r3⟩ := R.regrow (P := P) hm hb hk hw off' (old ++ news) (c.toList.take (off' + len * i.size) ++ ds ++ c.toList.drop (off' + len * i.size + ds.length)).toArray (by simp; omega) (by simp; omega) (by
                  rw [hcut]
                  exact hold.append hl) (fun _ => ⟨by rw [List.length_append, hol]; omega, fun hnil => by have := congrArg List.length hnil; rw [List.length_append, hl.1, hdl] at this; have : 0 < n * i.size := Nat.mul_pos (by omega) hsz0; simp at *; omega⟩)
                rw [c3] at r2 r3
                refine ⟨_, _, _, hrun, ?_, r2, r3⟩
                refine .slice H.length 0 off' (len + n) (len + n + 1) cap' ⟨L.blk, off', k.kind, L.csize, L.esz⟩ (upd_same _ _ _) (BK.gr_row hk).1 (Nat.le_succ _) hle (.inl rfl) (fun hx => absurd hx (BK.gr_row hk).2.2) (fun _ _ _ => hcs) (fun _ => .inl (Nat.lt_succ_self _))
              · have hrun := run_ap_grow (P := P) (w := w) (ty := ty) (olds := os) ht hu hD hi hz hnl q3 hf2 (show cap' < len + n by omega) c2 c1
                obtain ⟨R2, X2⟩ := R.killed b
                obtain ⟨m', r1, r2, r3⟩ := grow_new R2 hk hi hzs (q1.append hl) (N := len + n) (cap := grownCap w (len + n) cap' e) (by rw [List.length_append, q2, hdl, Nat.add_mul]) (grownCap_ge w _ _ e)
                rw [length_kill'] at r1
                exact ⟨_, m', _, hrun, r1, r2, Ext.trans (fun b L hb => (R.dom b L hb).1) X2 r3⟩
            split at h
            · rename_i hk
              have hLk : L.kind = .fix := by rw [(R.blks b L k hm hb).kind]; exact hk
              obtain ⟨g6, g7⟩ := g4 hLk
              subst g7 g6
              split at h
              · rename_i hle
                split at h
                · rename_i hfit
                  cases h
                  have hnews : news.length = n * i.size := by rw [hl.1, hdl]
                  have hfit' : off + len * i.size + news.length ≤ k.cells.length := by rw [hnews, Nat.add_assoc, ← Nat.add_mul]; exact hfit
                  obtain ⟨w', r1, r2, r3⟩ := store_sound R hm hb (by rw [hk]; rfl) (off := off + len * i.size) hfit' hl h1
                  rw [← Nat.add_assoc] at r1
                  refine ⟨_, m, w', run_ap_room ht hu hD hi hnl hf1 hle r1, ?_, r2, r3⟩
                  exact .slice b off _ (len + n) cap' cap' L hm hnm hle hle (.inl rfl) (fun _ => ⟨rfl, rfl⟩) (fun hx => by rw [hLk] at hx; cases hx) (fun hx => (hx hLk).elim)
                · cases h
              · rename_i hle
                cases h
                have hrun := run_ap_grow (P := P) (w := w) (ty := ty) (olds := os) ht hu hD hi hz hnl q3 hf2 (show cap' < len + n by omega) c2 c1
                obtain ⟨m', r1, r2, r3⟩ := grow_new R hkd hi hzs (q1.append hl) (N := len + n) (cap := grownCap w (len + n) cap' e) (by rw [List.length_append, q2, hdl, Nat.add_mul]) (grownCap_ge w _ _ e)
                exact ⟨_, m', _, hrun, r1, r2, r3⟩
            · rename_i hk
              split at h
              · rename_i hoff
                cases h
                have := gr hoff (by rw [hk]; rfl) (fun hx => by rw [hk] at hx; cases hx)
                rw [hk] at this
                exact this
              · cases h
            · rename_i hk
              split at h
              · rename_i hoff
                cases h
                have := gr hoff.1 (by rw [hk]; rfl) (fun _ => hoff.2)
                rw [hk] at this
                exact this
              · cases h
            · cases h
          · cases h
  · cases h
end
theorem zeroCells_one (a : Array Value) (ha : a.size = 1) (n : Nat) : (Builtin.zeroCells a n).toList = rep a.toList n := by
  obtain ⟨l⟩ := a
  obtain ⟨c, rfl⟩ := List.length_eq_one_iff.mp (show l.length = 1 from ha)
  have e : rep [c] n = List.replicate n c := by
    induction n with
    | zero => rfl
    | succ n ih => rw [rep, ih]; rfl
  show _ = rep [c] n
  rw [e]
  unfold Builtin.zeroCells
  have h1 : (⟨[c]⟩ : Array Value).size = 1 := rfl
  rw [h1, Nat.mul_one]
  apply List.ext_getElem?
  intro i
  by_cases h : i < n
  · simp [h, Nat.mod_one]
  · simp [h]
theorem apZ_sound {kd : BK} (hkd : kd.gr = true) {P : Program} {B0 : Nat} {w0 : World} {m : Mp} {H : AH} {w : World} (R : Rel P B0 w0 m H w) {t u ty e : TypeId} {i : TypeInfo} {z : Value} {kn k : IntKind} {n : Int} (ht : P.underlying t = some (.slice e)) (hu : P.underlying u = some (.int kn)) (hi : P.info? e = some i) (hz : i.zero = some z) (hz2 : flat z = true)
    (hzs : z.cells.size = 1) (hsz : i.size = 1) {s' x' : Value} (hs : VRel m (.slice none 0 0) s') (hx : VRel m (.int k n) x') (h0 : 0 < n) (h63 : n ≤ 9223372036854775807) (h48 : n * i.bytes ≤ 140737488355328) :
    ∃ v' m' w', (Builtin.append_ #[t, u] ty #[s', x']).run P w = .ok v' w' ∧ VRel m' (sl H.length 0 n.toNat (n.toNat + 1)) v' ∧ Rel P B0 w0 m' (mkB H (rep z.cells.toList n.toNat) e kd) w' ∧ Ext m H w m' (mkB H (rep z.cells.toList n.toNat) e kd) w' := by
  cases hs.flat_inv rfl
  cases hx.int_inv
  obtain ⟨q, rfl⟩ := Int.eq_ofNat_of_zero_le (show 0 ≤ n by omega)
  rw [Int.toNat_natCast]
  have h48' : q * i.bytes ≤ 140737488355328 := by
    rw [← Int.natCast_mul] at h48
    omega
  have hrun := Lib.run_append_nil_zeros (P := P) w t u ty e i z k kn ht hu hi hz q (by omega) (by omega) h63 (by omega)
  have hzc := zeroCells_one z.cells hzs q
  have hN : (rep z.cells.toList q).length = q * i.size := by rw [← hzc, Array.length_toList, size_zeroCells, hzs, hsz]
  obtain ⟨m', q1, q2, q3⟩ := grow_new (cs := rep z.cells.toList q) (ks := rep z.cells.toList q) R hkd hi (by rw [hzs, hsz]) ((flat_cells hz2).rep q) hN (grownCap_ge w q 0 e)
  have harr : Builtin.zeroCells z.cells q ++ Builtin.zeroCells z.cells (grownCap w q 0 e - q) = (rep z.cells.toList q ++ (Builtin.zeroCells z.cells (grownCap w q 0 e - q)).toList).toArray := by
    apply Array.ext'
    simp [hzc]
  rw [harr] at hrun
  exact ⟨_, m', _, hrun, q1, q2, q3⟩
end Go.AM
namespace Go.AM
open Go.RowKit

section
variable {P : Program} {B0 : Nat} {w0 : World} {m : Mp} {H : AH} {w : World}

theorem run_cpy {t u ty e : TypeId} {i : TypeInfo} (hd : P.underlying t = some (.slice e)) (hi : P.info? e = some i) {x : Value} {n len cap : Nat} {ad : Option Addr} {ds : List Value} {w' : World} (hn : (Builtin.lenOf x).run P w = .ok n w)
    (hf : (Builtin.firstCells i.size (min n len) x).run P w = .ok ds.toArray w) (hst : ∀ a, ad = some a → (storeCells a ds).run P w = .ok () w') (hno : ad = none → w' = w) :
    (Builtin.copy_ #[t, u] ty #[.slice ad len cap, x]).run P w = .ok (goInt (min n len : Nat)) w' := by
  have hm : n.min len = min n len := rfl
  cases ad with
  | none => cases hno rfl; simp [Builtin.copy_, run_underlying hd, hn, sizeOf, typeInfo, hi, hm, hf]
  | some a => simp [Builtin.copy_, run_underlying hd, hn, sizeOf, typeInfo, hi, hm, hf, hst a rfl]
theorem sliceCells_zero {sz : Nat} {x : Value} {cs : List Value} (h : sliceCells sz H x 0 = some cs) : cs = [] := by
  unfold sliceCells at h
  split at h
  · rw [if_pos rfl] at h; cases h; rfl
  · rw [if_pos rfl] at h; cases h; rfl
  · split at h
    · cases h; rfl
    · cases h
  · cases h
theorem cpy_sound (R : Rel P B0 w0 m H w) {t u ty : TypeId} {s s' x x' v : Value} {H' : AH} (hs : VRel m s s') (hx : VRel m x x') (h : cpy P t H s x = some (v, H')) :
    ∃ v' w', (Builtin.copy_ #[t, u] ty #[s', x']).run P w = .ok v' w' ∧ VRel m v v' ∧ Rel P B0 w0 m H' w' ∧ Ext m H w m H' w' := by
  unfold cpy at h
  split at h
  · rename_i e b off len cap hd
    split at h
    · cases h
    · rename_i hinf
      simp only [Bool.not_eq_false] at hinf
      obtain ⟨i, hi⟩ := isSome_info hinf
      cases hn : lenOf x with
      | none => rw [hn] at h; cases h
      | some n =>
        rw [hn] at h
        simp only [Option.bind_some] at h
        cases hc : sliceCells (szT P e) H x (min n len) with
        | none => rw [hc] at h; cases h
        | some cs =>
          rw [hc] at h
          simp only [Option.bind_some] at h
          have hnl := lenOf_sound (P := P) hx hn w
          obtain ⟨ds, hl, hf1, _, _⟩ := cells_sound R hx hc
          rw [szT_eq hi] at hf1
          rcases hs.slice_inv with ⟨rfl, rfl, hz, a, rfl⟩ | ⟨L, off', cap', hm, rfl, g1, g2, g3, g4, g5, g8, hnm⟩
          · rw [if_pos (Nat.min_zero n)] at h
            cases h
            rw [Nat.min_zero] at hc
            have := sliceCells_zero hc
            subst this
            have hds : ds = [] := hl.nil_inv
            subst hds
            refine ⟨_, w, run_cpy hd hi hnl hf1 (fun a _ => by simp [storeCells]) (fun h => by cases h), ?_, R, Ext.refl _ _ _⟩
            rw [Nat.min_zero]
            exact .flat _ rfl
          split at h
          · rename_i h0
            cases h
            rw [h0] at hc
            have := sliceCells_zero hc
            subst this
            have hds : ds = [] := hl.nil_inv
            subst hds
            refine ⟨_, w, run_cpy hd hi hnl hf1 (fun a _ => by simp [storeCells]) (fun h => by cases h), ?_, R, Ext.refl _ _ _⟩
            rw [h0]
            exact .flat _ rfl
          · rename_i h0
            cases hb : blk H b with
            | none => rw [hb] at h; cases h
            | some k =>
              rw [hb] at h
              simp only [Option.bind_some] at h
              split at h
              · rename_i hcond
                obtain ⟨c1, c2, c4⟩ := hcond
                cases h
                have h1 := oneCells hl c4
                have g3 : off' = L.base + off := by omega
                subst g3
                obtain ⟨w', r1, r2, r3⟩ := store_sound R hm hb c1 (off := off) c2 hl h1
                exact ⟨_, w', run_cpy hd hi hnl hf1 (fun a ha => by cases ha; exact r1) (fun h => by cases h), .flat _ rfl, r2, r3⟩
              · cases h
  · rename_i e hd
    split at h
    · cases h
    · rename_i hinf
      simp only [Bool.not_eq_false] at hinf
      obtain ⟨i, hi⟩ := isSome_info hinf
      cases hn : lenOf x with
      | none => rw [hn] at h; cases h
      | some n =>
        rw [hn] at h
        cases h
        cases hs.flat_inv rfl
        have hnl := lenOf_sound (P := P) hx hn w
        have hf : (Builtin.firstCells i.size (min n 0) x').run P w = .ok (([] : List Value).toArray) w := by
          rw [Nat.min_zero]
          unfold lenOf at hn
          split at hn
          · cases hx.flat_inv rfl; simp [Builtin.firstCells]
          · obtain ⟨ad', c', rfl⟩ := hx.slice_some; simp [Builtin.firstCells, loadCells, loadCellsFrom]
          · cases hx.str_inv; simp [Builtin.firstCells]
          · cases hn
        refine ⟨_, w, run_cpy hd hi hnl hf (fun a ha => by cases ha) (fun _ => rfl), ?_, R, Ext.refl _ _ _⟩
        rw [Nat.min_zero]
        exact .flat _ rfl
  · cases h
theorem lenV_sound {t u ty : TypeId} {x x' v : Value} (hx : VRel m x x') (h : lenV P t x = some v) : (Builtin.len_ #[t] ty #[x']).run P w = .ok v w ∧ flat1 v = true := by
  unfold lenV at h
  split at h
  · rename_i s hd
    cases h
    cases hx.str_inv
    exact ⟨by simp [Builtin.len_, run_underlying hd, goInt], rfl⟩
  · rename_i e a n c hd
    cases h
    cases hx with
    | flat v hf =>
      exact ⟨by simp [Builtin.len_, run_underlying hd, goInt], rfl⟩
    | slice => exact ⟨by simp [Builtin.len_, run_underlying hd, goInt], rfl⟩
    | zsl => exact ⟨by simp [Builtin.len_, run_underlying hd, goInt], rfl⟩
  · rename_i n e hd
    cases h
    exact ⟨by simp [Builtin.len_, run_underlying hd, goInt], rfl⟩
  · cases h
theorem capV_sound {t u ty : TypeId} {x x' v : Value} (hx : VRel m x x') (h : capV P t x = some v) : (Builtin.cap_ #[t] ty #[x']).run P w = .ok v w ∧ flat1 v = true := by
  unfold capV at h
  split at h
  · rename_i e hd
    cases h
    have := VRel.flat_inv (x := .slice none 0 0) rfl hx
    subst this
    exact ⟨by simp [Builtin.cap_, run_underlying hd, goInt], rfl⟩
  · cases h
theorem min2_sound {x y x' y' v : Value} (hx : VRel m x x') (hy : VRel m y y') (h : minV x y = some v) : (Builtin.min2 x' y').run P w = .ok v w ∧ flat1 v = true := by
  unfold minV at h
  split at h
  · cases h; cases hx.int_inv; cases hy.int_inv; exact ⟨by simp [Builtin.min2], rfl⟩
  · cases h
theorem max2_sound {x y x' y' v : Value} (hx : VRel m x x') (hy : VRel m y y') (h : maxV x y = some v) : (Builtin.max2 x' y').run P w = .ok v w ∧ flat1 v = true := by
  unfold maxV at h
  split at h
  · cases h; cases hx.int_inv; cases hy.int_inv; exact ⟨by simp [Builtin.max2], rfl⟩
  · cases h
theorem foldgo_sound (f : Value → Value → Option Value) (g : Value → Value → Sem Value) (hfg : ∀ {x y x' y' v : Value}, VRel m x x' → VRel m y y' → f x y = some v → (g x' y').run P w = .ok v w ∧ flat1 v = true) :
    ∀ (xs ys : List Value) (x x' v : Value), VRel m x x' → LRel m xs ys → fold1.go f x xs = some v → ∃ v', (ys.foldlM g x').run P w = .ok v' w ∧ VRel m v v'
  | [], ys, x, x', v, hx, hl, h => by
    cases hl.nil_inv
    cases h
    exact ⟨x', by simp [List.foldlM], hx⟩
  | y :: xs, ys, x, x', v, hx, hl, h => by
    obtain ⟨y', zs, rfl, hy, hr⟩ := hl.cons_inv
    unfold fold1.go at h
    cases hf : f x y with
    | none => rw [hf] at h; cases h
    | some u =>
      rw [hf] at h
      obtain ⟨h1, h2⟩ := hfg hx hy hf
      obtain ⟨v', h3, h4⟩ := foldgo_sound f g hfg xs zs u u v (.flat _ h2) hr h
      exact ⟨v', by simp [List.foldlM_cons, h1, h3], h4⟩
theorem min_sound {ts : Array TypeId} {ty : TypeId} {xs ys : List Value} {v : Value} (hl : LRel m xs ys) (h : fold1 minV xs = some v) : ∃ v', (Builtin.min_ ts ty ys.toArray).run P w = .ok v' w ∧ VRel m v v' := by
  cases xs with
  | nil => cases h
  | cons x xs =>
    obtain ⟨x', zs, rfl, hx, hr⟩ := hl.cons_inv
    obtain ⟨v', h1, h2⟩ := foldgo_sound (P := P) (w := w) minV Builtin.min2 (fun hx hy h => min2_sound hx hy h) xs zs x x' v hx hr h
    exact ⟨v', by simpa [Builtin.min_] using h1, h2⟩
theorem max_sound {ts : Array TypeId} {ty : TypeId} {xs ys : List Value} {v : Value} (hl : LRel m xs ys) (h : fold1 maxV xs = some v) : ∃ v', (Builtin.max_ ts ty ys.toArray).run P w = .ok v' w ∧ VRel m v v' := by
  cases xs with
  | nil => cases h
  | cons x xs =>
    obtain ⟨x', zs, rfl, hx, hr⟩ := hl.cons_inv
    obtain ⟨v', h1, h2⟩ := foldgo_sound (P := P) (w := w) maxV Builtin.max2 (fun hx hy h => max2_sound hx hy h) xs zs x x' v hx hr h
    exact ⟨v', by simpa [Builtin.max_] using h1, h2⟩
theorem ext_sound {a a' v : Value} {i : Nat} (ha : VRel m a a') (h : ext a i = some v) : ∃ v', (Instr.extract a' i).run P w = .ok v' w ∧ VRel m v v' := by
  unfold ext at h
  split at h
  · rename_i vs
    obtain ⟨ys, rfl, hl⟩ := ha.tuple_inv
    have hlt := (Array.getElem?_eq_some_iff.1 h).1
    have hlt2 : i < ys.size := by have := hl.1; simp at this; omega
    have e1 : ys[i]? = some ys[i] := Array.getElem?_eq_getElem hlt2
    exact ⟨ys[i], by simp [Instr.extract, e1], hl.2 i _ _ (by simpa using h) (by simpa using e1)⟩
  · cases h
end
end Go.AM
