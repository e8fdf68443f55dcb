/-
  Facts of the abstract evaluator and of the functions that the law reaches, part 0. Conditions: none.
-/
import Derived.Orders
import Derived.Scope
import Derived.Below
import Derived.Laws.MakeOwn
import Derived.Laws.OwnMore
import Derived.Test.YtcajlbgdjaekgaaProg
import Derived.KernelRfl
set_option linter.unusedVariables false
set_option linter.unusedSimpArgs false
set_option linter.unnecessarySimpa false
set_option exponentiation.threshold 200000
set_option maxRecDepth 100000
namespace Go.AM

/-- What is not known (a slot that nobody reads any more): no operation takes it. -/
def unk : Value := .chan (some 0)
def isCell : Value → Bool
  | .agg _ => false
  | .tuple _ => false
  | .chan _ => false
  | _ => true
def flat1 : Value → Bool
  | .bool _ => true
  | .int _ _ => true
  | .string _ => true
  | .float _ _ => true
  | .pointer none => true
  | .slice none 0 0 => true
  | .map none => true
  | .nilFunc => true
  | .nilIface => true
  | _ => false
def flat : Value → Bool
  | .agg cs => cs.toList.all flat1
  | v => flat1 v
def okCells : Value → Bool
  | .agg cs => cs.toList.all isCell
  | v => isCell v

inductive BK where
  | ro | fix | grow | buf | map
  | loop (f key : Nat)
  deriving DecidableEq
/-- A row of cells. -/
def BK.row : BK → Bool
  | .map => false
  | .loop _ _ => false
  | _ => true
/-- Its cells may be written. -/
def BK.wr : BK → Bool
  | .fix => true
  | .grow => true
  | _ => false
/-- It was made by append. -/
def BK.gr : BK → Bool
  | .grow => true
  | .buf => true
  | _ => false
structure Blk where
  cells : List Value
  elem : TypeId
  kind : BK
abbrev AH := List (Option Blk)
def blk (H : AH) (b : Nat) : Option Blk := (H[b]?).bind id
def put (H : AH) (b : Nat) (k : Blk) (cs : List Value) : AH := H.set b (some ⟨cs, k.elem, k.kind⟩)
def kill (H : AH) (b : Nat) : AH := H.set b none
def mkB (H : AH) (cs : List Value) (e : TypeId) (kd : BK) : AH := H ++ [some ⟨cs, e, kd⟩]
def ptr (b off : Nat) : Value := .pointer (some ⟨b, off, none⟩)
def sl (b off len cap : Nat) : Value := .slice (some ⟨b, off, none⟩) len cap

def spl (xs : List Value) (off : Nat) (ys : List Value) : List Value := xs.take off ++ (ys ++ xs.drop (off + ys.length))
def rdN (k : Blk) (off n : Nat) : Option (List Value) := if off + n ≤ k.cells.length then some ((k.cells.drop off).take n) else none

def aggT (P : Program) (t : TypeId) : Option Bool :=
  match P.underlying t with
  | some (.struct _) => some true
  | some (.array _ _) => some true
  | some _ => some false
  | none => none
def szT (P : Program) (t : TypeId) : Nat := P.cellsOf t
def byT (P : Program) (t : TypeId) : Nat := P.bytesOf t
def zeroT (P : Program) (t : TypeId) : Option Value := (P.info? t).bind fun i => i.zero.bind fun z => if flat z then some z else none

def ldC (H : AH) (a : Value) : Option Value :=
  match a with
  | .pointer (some ⟨b, off, none⟩) => (blk H b).bind fun k => k.cells[off]?
  | _ => none
def ldA (n : Nat) (H : AH) (a : Value) : Option Value :=
  match a with
  | .pointer (some ⟨b, off, none⟩) => (blk H b).bind fun k => (rdN k off n).map fun cs => .agg cs.toArray
  | _ => none
def ld (P : Program) (t : TypeId) (H : AH) (a : Value) : Option Value :=
  match aggT P t with
  | some true => ldA (szT P t) H a
  | some false => ldC H a
  | none => none
def stC (H : AH) (a v : Value) : Option AH :=
  match a with
  | .pointer (some ⟨b, off, none⟩) => (blk H b).bind fun k => if k.kind.wr = true ∧ off < k.cells.length ∧ isCell v = true then some (put H b k (k.cells.set off v)) else none
  | _ => none
def stA (n : Nat) (H : AH) (a v : Value) : Option AH :=
  match a, v with
  | .pointer (some ⟨b, off, none⟩), .agg cs => (blk H b).bind fun k => if k.kind.wr = true ∧ off + n ≤ k.cells.length ∧ cs.size = n ∧ cs.toList.all isCell = true then some (put H b k (spl k.cells off cs.toList)) else none
  | _, _ => none
def st (P : Program) (t : TypeId) (H : AH) (a v : Value) : Option AH :=
  match aggT P t with
  | some true => stA (szT P t) H a v
  | some false => if szT P t = 1 then stC H a v else none
  | none => none
def box (t : TypeId) (H : AH) (v : Value) : Option (Value × AH) :=
  if okCells v = true then some (ptr H.length 0, mkB H v.cells.toList t .fix) else none
def newV (P : Program) (t : TypeId) (H : AH) : Option (Value × AH) := (zeroT P t).bind fun z => box t H z
def rep (z : List Value) : Nat → List Value
  | 0 => []
  | n + 1 => z ++ rep z n
def mkS (P : Program) (t : TypeId) (H : AH) (l c : Value) : Option (Value × AH) :=
  match P.underlying t, l, c with
  | some (.slice e), .int _ n, .int _ m =>
    (zeroT P e).bind fun z =>
      if 0 ≤ n ∧ n ≤ m ∧ m * byT P e ≤ 281474976710656 ∧ m ≤ 9223372036854775807 ∧ z.cells.size = szT P e ∧ okCells z = true then some (sl H.length 0 n.toNat m.toNat, mkB H (rep z.cells.toList m.toNat) e .fix) else none
  | _, _, _ => none

def fldA (P : Program) (s : TypeId) (a : Value) (i : Nat) : Option Value :=
  match P.underlying s, a with
  | some (.struct fs), .pointer (some ⟨b, off, none⟩) => (fs[i]?).bind fun f => if szT P f.type = 0 then none else some (ptr b (off + f.offset))
  | _, _ => none
def prt (P : Program) (t : TypeId) (cs : List Value) (off : Nat) : Option Value :=
  match aggT P t with
  | some true => some (.agg ((cs.drop off).take (szT P t)).toArray)
  | some false => cs[off]?
  | none => none
def fld (P : Program) (s : TypeId) (x : Value) (i : Nat) : Option Value :=
  match P.underlying s, x with
  | some (.struct fs), .agg cs => (fs[i]?).bind fun f => prt P f.type cs.toList f.offset
  | _, _ => none
def ixA (P : Program) (t : TypeId) (x i : Value) : Option Value :=
  match P.underlying t, x, i with
  | some (.slice e), .slice (some ⟨b, off, none⟩) len _, .int _ n => if (P.info? e).isSome = true ∧ 0 ≤ n ∧ n < len then some (ptr b (off + n.toNat * szT P e)) else none
  | some (.array len e), .pointer (some ⟨b, off, none⟩), .int _ n => if (P.info? e).isSome = true ∧ 0 ≤ n ∧ n < len then some (ptr b (off + n.toNat * szT P e)) else none
  | _, _, _ => none
def ix (P : Program) (t : TypeId) (x i : Value) : Option Value :=
  match P.underlying t, x, i with
  | some .string, .string s, .int _ n => if 0 ≤ n ∧ n < s.size then some (.int .u8 (s.data[n.toNat]?.getD 0).toNat) else none
  | some (.array len e), .agg cs, .int _ n => if (P.info? e).isSome = true ∧ 0 ≤ n ∧ n < len then prt P e cs.toList (n.toNat * szT P e) else none
  | _, _, _ => none
def intOr (v : Option Value) (d : Nat) : Option Int :=
  match v with
  | none => some d
  | some (.int _ n) => some n
  | some _ => none
def slc (P : Program) (t : TypeId) (x : Value) (lo hi : Option Value) : Option Value :=
  match P.underlying t, x with
  | some .string, .string s =>
    (intOr lo 0).bind fun l => (intOr hi s.size).bind fun h => if 0 ≤ l ∧ l ≤ h ∧ h ≤ s.size then some (.string (s.extract l.toNat h.toNat)) else none
  | some (.slice e), .slice (some ⟨b, off, none⟩) len cap =>
    (intOr lo 0).bind fun l => (intOr hi len).bind fun h => if (P.info? e).isSome = true ∧ 0 ≤ l ∧ l ≤ h ∧ h ≤ len then some (sl b (if cap = l.toNat then off else off + l.toNat * szT P e) (h.toNat - l.toNat) (cap - l.toNat)) else none
  | some (.slice e), .slice none 0 0 =>
    (intOr lo 0).bind fun l => (intOr hi 0).bind fun h => if (P.info? e).isSome = true ∧ l = 0 ∧ h = 0 then some (.slice none 0 0) else none
  | _, _ => none
/-- 's[:0:0]': no room behind it. -/
def slc3 (P : Program) (t : TypeId) (x : Value) (lo hi : Option Value) (mx : Value) : Option Value :=
  match P.underlying t, x, intOr lo 0, hi, mx with
  | some (.slice e), .slice (some ⟨b, off, none⟩) _ _, some 0, some (.int _ 0), .int _ 0 => if (P.info? e).isSome = true then some (sl b off 0 0) else none
  | some (.slice e), .slice none 0 0, some 0, some (.int _ 0), .int _ 0 => if (P.info? e).isSome = true then some (.slice none 0 0) else none
  | _, _, _, _, _ => none
def fillB (sizes : Nat → Option (Nat × Nat)) : List Value → List (Nat × Value) → Option (List Value)
  | cs, [] => some cs
  | cs, (i, v) :: r =>
    match sizes i with
    | none => none
    | some (off, n) => if v.cells.size = n ∧ off + n ≤ cs.length ∧ okCells v = true then fillB sizes (spl cs off v.cells.toList) r else none
def build (P : Program) (t : TypeId) (parts : List (Nat × Value)) : Option Value :=
  (zeroT P t).bind fun z =>
    match P.underlying t with
    | some (.struct fs) => if fs.toList.all (fun f => (P.info? f.type).isSome) = false then none else (fillB (fun i => (fs[i]?).map fun f => (f.offset, szT P f.type)) z.cells.toList parts).map fun cs => .agg cs.toArray
    | some (.array _ e) => if (P.info? e).isSome = false then none else (fillB (fun i => some (i * szT P e, szT P e)) z.cells.toList parts).map fun cs => .agg cs.toArray
    | _ => none
def buildS (P : Program) (t : TypeId) (H : AH) (len : Nat) (parts : List (Nat × Value)) : Option (Value × AH) :=
  match P.underlying t with
  | some (.slice e) =>
    (zeroT P e).bind fun z =>
      if len * szT P e ≤ 16777216 ∧ z.cells.size = szT P e then
        (fillB (fun i => some (i * szT P e, szT P e)) (rep z.cells.toList len) parts).map fun cs => (sl H.length 0 len len, mkB H cs e .fix)
      else none
  | _ => none

/-- What an operation tells that neither reads memory nor asks the tape. -/
def still (P : Program) {α : Type} : Sem α → Option α
  | .pure a => some a
  | .program k => still P (k P)
  | _ => none
def isNilI : Value → Bool
  | .nilIface => true
  | _ => false
/-- Against nil. -/
def nilEq : TypeDesc → Value → Value → Option Bool
  | .pointer _, .pointer (some _), .pointer none => some false
  | .pointer _, .pointer none, .pointer (some _) => some false
  | .slice _, .slice (some _) _ _, .slice none 0 0 => some false
  | .slice _, .slice none 0 0, .slice (some _) _ _ => some false
  | .func _ _ _, .func _ _ _, .nilFunc => some false
  | .func _ _ _, .nilFunc, .func _ _ _ => some false
  | _, _, _ => none
def bin (P : Program) (op : BinOp) (t : TypeId) (x y : Value) : Option Value :=
  if flat1 x = true ∧ flat1 y = true ∧ isNilI x = false then (still P (binOp op t x y)).bind fun v => if flat1 v = true then some v else none
  else match op with
    | .eql => (P.underlying t).bind fun D => (nilEq D x y).map fun b => .bool b
    | .neq => (P.underlying t).bind fun D => (nilEq D x y).map fun b => .bool !b
    | _ => none
def un (P : Program) (op : UnOp) (x : Value) : Option Value :=
  if flat1 x = true then (still P (Op.unary op x)).bind fun v => if flat1 v = true then some v else none else none
def bytesOf : List Value → Option (List UInt8)
  | [] => some []
  | .int .u8 n :: r => (bytesOf r).map fun l => UInt8.ofNat n.toNat :: l
  | _ :: _ => none
def cellsOfBytes (s : ByteArray) : List Value := s.data.toList.map fun b => .int .u8 b.toNat
def sliceCells (sz : Nat) (H : AH) (x : Value) (n : Nat) : Option (List Value) :=
  match x with
  | .slice none 0 0 => if n = 0 then some [] else none
  | .slice (some ⟨b, off, none⟩) len _ => if n = 0 then some [] else if n ≤ len then (blk H b).bind fun k => rdN k off (n * sz) else none
  | .string s => if n ≤ s.size then some ((cellsOfBytes s).take n) else none
  | _ => none
/-- Conversions that read no memory and make none. -/
def cv (P : Program) (src dst : TypeId) (x : Value) : Option Value :=
  match P.underlying src, P.underlying dst, x with
  | some _, some (.int k), .int _ n => some (.int k (k.wrap n))
  | some _, some .string, .string s => some (.string s)
  | _, _, _ => none
/-- A slice of bytes as a string. -/
def cvS (P : Program) (src dst : TypeId) (H : AH) (x : Value) : Option Value :=
  match P.underlying src, P.underlying dst, x with
  | some (.slice e), some .string, .slice a len cap =>
    match P.underlying e with
    | some (.int .u8) => (sliceCells 1 H (.slice a len cap) len).bind fun cs => (bytesOf cs).map fun l => .string ⟨l.toArray⟩
    | _ => none
  | _, _, _ => none
def isBytesToString (P : Program) (src dst : TypeId) : Bool :=
  match P.underlying src, P.underlying dst with
  | some (.slice _), some .string => true
  | _, _ => false

def lenOf : Value → Option Nat
  | .slice none 0 0 => some 0
  | .slice (some _) n _ => some n
  | .string s => some s.size
  | _ => none
def isNotStr : Value → Bool
  | .string _ => false
  | _ => true
/-- Bytes that were appended may be read as a string (their cells are not written any more). -/
def gk (P : Program) (e : TypeId) : BK :=
  match P.underlying e with
  | some (.int .u8) => .buf
  | _ => .grow
def apS (kd : BK) (sz bytes : Nat) (e : TypeId) (H : AH) (s : Value) (n : Nat) (news : List Value) : Option (Value × AH) :=
  match s with
  | .slice none 0 0 => if n = 0 then some (.slice none 0 0, H) else if n * bytes ≤ 140737488355328 ∧ n ≤ 9223372036854775807 then some (sl H.length 0 n (n + 1), mkB H news e kd) else none
  | .slice (some ⟨b, off, none⟩) len cap =>
    if n = 0 then some (sl b off len cap, H)
    else if cap = 0 then (if n * bytes ≤ 140737488355328 ∧ n ≤ 9223372036854775807 then some (sl H.length 0 n (n + 1), mkB H news e kd) else none)
    else (blk H b).bind fun k => (rdN k off (len * sz)).bind fun old =>
      if (len + n) * bytes ≤ 140737488355328 ∧ len + n ≤ 9223372036854775807 ∧ k.elem = e then
        match k.kind with
        | .fix =>
          if len + n ≤ cap then (if off + (len + n) * sz ≤ k.cells.length then some (sl b off (len + n) cap, put H b k (spl k.cells (off + len * sz) news)) else none)
          else some (sl H.length 0 (len + n) (len + n + 1), mkB H (old ++ news) e kd)
        | .grow => if off = 0 then some (sl H.length 0 (len + n) (len + n + 1), mkB (kill H b) (old ++ news) e .grow) else none
        | .buf => if off = 0 ∧ k.cells.length = len * sz then some (sl H.length 0 (len + n) (len + n + 1), mkB (kill H b) (old ++ news) e .buf) else none
        | _ => none
      else none
  | _ => none
def ap (P : Program) (t u : TypeId) (H : AH) (s x : Value) : Option (Value × AH) :=
  match P.underlying t, P.underlying u with
  | some (.slice e), some (.slice _) => (zeroT P e).bind fun z => if 0 < szT P e ∧ z.cells.size = szT P e ∧ isNotStr x = true then (lenOf x).bind fun n => (sliceCells (szT P e) H x n).bind fun news => if news.all isCell = true then apS (gk P e) (szT P e) (byT P e) e H s n news else none else none
  | some (.slice e), some .string => (zeroT P e).bind fun z => if szT P e = 1 ∧ z.cells.size = szT P e then (lenOf x).bind fun n => (sliceCells (szT P e) H x n).bind fun news => if news.all isCell = true then apS (gk P e) (szT P e) (byT P e) e H s n news else none else none
  | some (.slice e), some (.int _) =>
    match s, x with
    | .slice none 0 0, .int _ n => (zeroT P e).bind fun z =>
      if szT P e = 1 ∧ z.cells.size = 1 ∧ 0 < n ∧ n ≤ 9223372036854775807 ∧ n * byT P e ≤ 140737488355328 then some (sl H.length 0 n.toNat (n.toNat + 1), mkB H (rep z.cells.toList n.toNat) e (gk P e)) else none
    | _, _ => none
  | _, _ => none
def cpy (P : Program) (t : TypeId) (H : AH) (d x : Value) : Option (Value × AH) :=
  match P.underlying t, d with
  | some (.slice e), .slice (some ⟨b, off, none⟩) len _ =>
    if (P.info? e).isSome = false then none else (lenOf x).bind fun n => (sliceCells (szT P e) H x (min n len)).bind fun cs =>
      if min n len = 0 then some (.int .i64 0, H)
      else (blk H b).bind fun k => if k.kind.wr = true ∧ off + cs.length ≤ k.cells.length ∧ cs.all isCell = true then some (.int .i64 (min n len : Nat), put H b k (spl k.cells off cs)) else none
  | some (.slice e), .slice none 0 0 => if (P.info? e).isSome = false then none else (lenOf x).bind fun _ => some (.int .i64 0, H)
  | _, _ => none
/-- unsafe.SliceData, unsafe.String: what the string was read from is given up. -/
def sdV : Value → Option Value
  | .slice none 0 0 => some (.pointer none)
  | .slice (some ⟨b, off, none⟩) n _ => if n = 0 then none else some (.pointer (some ⟨b, off, none⟩))
  | _ => none
def usV (P : Program) (pt : TypeId) (H : AH) (p n : Value) : Option (Value × AH) :=
  match p, n with
  | .pointer none, .int .i64 0 => some (.string ⟨#[]⟩, H)
  | .pointer (some ⟨b, off, none⟩), .int .i64 n =>
    match P.underlying pt with
    | some (.pointer e) =>
      (blk H b).bind fun k => if 0 < n ∧ n ≤ 9223372036854775807 ∧ (k.kind.wr || k.kind == .buf) = true ∧ k.elem = e ∧ szT P e = 1 then (rdN k off n.toNat).bind fun cs => (bytesOf cs).map fun l => (.string ⟨l.toArray⟩, if k.kind = .buf then H else kill H b) else none
    | _ => none
  | _, _ => none
def lenV (P : Program) (t : TypeId) (x : Value) : Option Value :=
  match P.underlying t, x with
  | some .string, .string s => some (.int .i64 s.size)
  | some (.slice _), .slice _ n _ => some (.int .i64 n)
  | some (.array n _), _ => some (.int .i64 n)
  | _, _ => none
def mapB (H : AH) (b : Nat) : Option Blk := (blk H b).bind fun k => if k.kind = .map then some k else none
def mkM (t : TypeId) (H : AH) : Option (Value × AH) := some (.map (some H.length), mkB H [] t .map)
/-- Keys of a kind that is told apart at once. -/
def keyEq : TypeDesc → Value → Value → Option Bool
  | .int _, .int k a, .int k' b => if k = k' then some (decide (a = b)) else none
  | .string, .string a, .string b => some (decide (a = b))
  | _, _, _ => none
def keyAt (D : TypeDesc) (key : Value) : List Value → Option (Option Nat)
  | k :: _ :: r => (keyEq D key k).bind fun b => bif b then some (some 0) else (keyAt D key r).map fun o => o.map (· + 2)
  | _ => some none
def keyOK : TypeDesc → Value → Bool
  | .int _, .int _ _ => true
  | .string, .string _ => true
  | _, _ => false
def mpU (P : Program) (t : TypeId) (H : AH) (m key v : Value) : Option AH :=
  match P.underlying t, m with
  | some (.map kt _), .map (some b) =>
    (P.underlying kt).bind fun D => (mapB H b).bind fun k =>
      if keyOK D key = true ∧ isCell v = true then (keyAt D key k.cells).map fun o => match o with
        | some i => put H b k (k.cells.set (i + 1) v)
        | none => put H b k (k.cells ++ [key, v])
      else none
  | _, _ => none
def mapCells (H : AH) : Value → Option (List Value)
  | .map none => some []
  | .map (some b) => (mapB H b).map fun k => k.cells
  | _ => none
def lkU (P : Program) (t : TypeId) (H : AH) (m key : Value) (two : Bool) : Option Value :=
  match P.underlying t with
  | some (.map kt et) =>
    (P.underlying kt).bind fun D => (mapCells H m).bind fun cs =>
      if keyOK D key = true then (keyAt D key cs).bind fun o => match o with
        | some i => (cs[i + 1]?).map fun v => if two = true then .tuple #[v, .bool true] else v
        | none => (zeroT P et).map fun z => if two = true then .tuple #[z, .bool false] else z
      else none
  | _ => none
/-- How many entries a map has. -/
def lenM (P : Program) (t : TypeId) (H : AH) (m : Value) : Option Value :=
  match P.underlying t with
  | some (.map _ _) => (mapCells H m).map fun cs => .int .i64 (cs.length / 2 : Nat)
  | _ => none
def isMapT (P : Program) (t : TypeId) : Bool :=
  match P.underlying t with
  | some (.map _ _) => true
  | _ => false
/-- cap: of nil alone (no capacities are kept). -/
def capV (P : Program) (t : TypeId) (x : Value) : Option Value :=
  match P.underlying t, x with
  | some (.slice _), .slice none 0 0 => some (.int .i64 0)
  | _, _ => none
def minV (x y : Value) : Option Value :=
  match x, y with
  | .int k a, .int _ b => some (.int k (if b < a then b else a))
  | _, _ => none
def maxV (x y : Value) : Option Value :=
  match x, y with
  | .int k a, .int _ b => some (.int k (if b > a then b else a))
  | _, _ => none

def b2 {R : Type} (x : Option (Value × AH)) (f : Value → AH → Option R) : Option R := x.bind fun p => f p.1 p.2
abbrev CallF := FuncId → List Value → AH → Option (Value × AH)
/-- From this number on: the round of a range over a function, by its block. -/
def yOff : Nat := 1000000000000
def callV (call : CallF) (f : Value) (args : List Value) (H : AH) : Option (Value × AH) :=
  match f with
  | .func (.func g) first captured => bif Nat.blt g yOff then call g (first.toList ++ (args ++ captured.toList)) H else none
  | _ => none
def callY (call : CallF) (f : Value) (args : List Value) (H : AH) : Option (Value × AH) :=
  match f with
  | .func (.yield b) _ _ => call (yOff + b) args H
  | f => callV call f args H
def aIf {R : Type} (v : Value) (x y : Option R) : Option R :=
  match v with
  | .bool true => x
  | .bool false => y
  | _ => none
/-- A guarded operation: done, or passed over. -/
def gOp (u : Value) (want : Bool) (x : Option (Value × AH)) (H : AH) : Option (Value × AH) :=
  match u with
  | .bool b => if b = want then x else some (undef, H)
  | .tuple vs => bif vs.size == 0 then some (undef, H) else none
  | _ => none
def pickV (c x y : Value) : Option Value :=
  match c with
  | .bool true => some x
  | .bool false => some y
  | _ => none
def ext (v : Value) (i : Nat) : Option Value :=
  match v with
  | .tuple vs => vs[i]?
  | _ => none
def nilChk (v : Value) : Option Value :=
  match v with
  | .pointer (some a) => some (.pointer (some a))
  | .func (.func f) a b => some (.func (.func f) a b)
  | _ => none
def opv (T : List Value) : Operand → Value
  | .tmp t => T.getD t undef
  | .const v => if flat v = true then v else unk
  | .global _ => unk
  | .func f => .func (.func f) #[] #[]
def fold1 (f : Value → Value → Option Value) : List Value → Option Value
  | [] => none
  | x :: r => go x r
where go : Value → List Value → Option Value
  | x, [] => some x
  | x, y :: r => (f x y).bind fun z => go z r

section
variable {R : Type} (P : Program) (call : CallF)
def aCall (ρ : Operand → Value) (c : Call) (H : AH) (K : Value → AH → Option R) : Option R :=
  match c.callee with
  | .value f => (callV call (ρ f) (c.args.toList.map ρ) H).bind fun p => K p.1 p.2
  | .builtin .append =>
    match c.argTypes.toList, c.args.toList with
    | [t, u], [s, x] => (ap P t u H (ρ s) (ρ x)).bind fun p => K p.1 p.2
    | _, _ => none
  | .builtin .copy =>
    match c.argTypes.toList, c.args.toList with
    | [t, _], [s, x] => (cpy P t H (ρ s) (ρ x)).bind fun p => K p.1 p.2
    | _, _ => none
  | .builtin .len =>
    match c.argTypes.toList, c.args.toList with
    | [t], [x] => bif isMapT P t then (lenM P t H (ρ x)).bind fun v => K v H else (lenV P t (ρ x)).bind fun v => K v H
    | _, _ => none
  | .builtin .cap =>
    match c.argTypes.toList, c.args.toList with
    | [t], [x] => (capV P t (ρ x)).bind fun v => K v H
    | _, _ => none
  | .builtin .min => (fold1 minV (c.args.toList.map ρ)).bind fun v => K v H
  | .builtin .max => (fold1 maxV (c.args.toList.map ρ)).bind fun v => K v H
  | .builtin .unsafeSliceData =>
    match c.args.toList with
    | [x] => (sdV (ρ x)).bind fun v => K v H
    | _ => none
  | .builtin .unsafeString =>
    match c.argTypes.toList, c.args.toList with
    | [pt, _], [p, n] => (usV P pt H (ρ p) (ρ n)).bind fun q => K q.1 q.2
    | _, _ => none
  | _ => none
def aOp (ρ : Operand → Value) (o : Op) (H : AH) (K : Value → AH → Option R) : Option R :=
  match o with
  | .move x => K (ρ x) H
  | .assign x => K (ρ x) H
  | .pick c a b => (pickV (ρ c) (ρ a) (ρ b)).bind fun v => K v H
  | .alloc t => (newV P t H).bind fun p => K p.1 p.2
  | .box t x => (box t H (ρ x)).bind fun p => K p.1 p.2
  | .build t ps => (build P t (ps.toList.map fun p => (p.1, ρ p.2))).bind fun v => K v H
  | .buildSlice t n ps => (buildS P t H n (ps.toList.map fun p => (p.1, ρ p.2))).bind fun p => K p.1 p.2
  | .load t a => (ld P t H (ρ a)).bind fun v => K v H
  | .store t a x => (st P t H (ρ a) (ρ x)).bind fun H' => K undef H'
  | .nilCheck x => (nilChk (ρ x)).bind fun v => K v H
  | .binOp op t x y _ => (bin P op t (ρ x) (ρ y)).bind fun v => K v H
  | .unOp op _ x => (un P op (ρ x)).bind fun v => K v H
  | .convert s d x => bif isBytesToString P s d then (cvS P s d H (ρ x)).bind fun v => K v H else (cv P s d (ρ x)).bind fun v => K v H
  | .makeFunc (.func f) first captured => K (.func (.func f) (first.toList.map ρ).toArray (captured.toList.map ρ).toArray) H
  | .makeSlice t l c => (mkS P t H (ρ l) (ρ c)).bind fun p => K p.1 p.2
  | .slice t x lo hi none => (slc P t (ρ x) (lo.map ρ) (hi.map ρ)).bind fun v => K v H
  | .slice t x lo hi (some mx) => (slc3 P t (ρ x) (lo.map ρ) (hi.map ρ) (ρ mx)).bind fun v => K v H
  | .fieldAddr s x i => (fldA P s (ρ x) i).bind fun v => K v H
  | .field s x i => (fld P s (ρ x) i).bind fun v => K v H
  | .indexAddr t x i => (ixA P t (ρ x) (ρ i)).bind fun v => K v H
  | .index t x i => (ix P t (ρ x) (ρ i)).bind fun v => K v H
  | .extract t i => (ext (ρ t) i).bind fun v => K v H
  | .makeMap t none => (mkM t H).bind fun p => K p.1 p.2
  | .mapUpdate t m k x => (mpU P t H (ρ m) (ρ k) (ρ x)).bind fun H' => K undef H'
  | .lookup t m k two => (lkU P t H (ρ m) (ρ k) two).bind fun v => K v H
  | .call c => aCall P call ρ c H K
  | _ => none
/-- A call of a function's value may be the call of a round. -/
def opY (ρ : Operand → Value) (o : Op) (H : AH) (K : Value → AH → Option R) : Option R :=
  match o with
  | .call ⟨.value f, args, _⟩ => (callY call (ρ f) (args.toList.map ρ) H).bind fun p => K p.1 p.2
  | o => aOp P call ρ o H K
def putT (T : List Value) (d : Option Tmp) (v : Value) : List Value :=
  match d with
  | some d => T.set d v
  | none => T
def yieldV (ops : Array Oper) (T : List Value) (j : Nat) : Value :=
  match (ops[j]?).bind (·.dst) with
  | some d => T.getD d undef
  | none => undef

def aRes (ρ : Operand → Value) (op : Op) (H : AH) : Option (Value × AH) := aOp P call ρ op H fun v H' => some (v, H')
def evOps (ops : Array Oper) : List Oper → List Value → AH → (List Value → AH → Option R) → Option R
  | [], T, H, K => K T H
  | o :: r, T, H, K =>
    match o.guard with
    | none => opY P call (opv T) o.op H fun v H' => evOps ops r (putT T o.dst v) H' K
    | some (j, want) => (gOp (yieldV ops T j) want (opY P call (opv T) o.op H fun v H' => some (v, H')) H).bind fun p => evOps ops r (putT T o.dst p.1) p.2 K

open Classical in
noncomputable def aChk {R : Type} (p : Prop) (x : Option R) : Option R := if p then x else none
def isAlloc : Op → Bool
  | .alloc _ => true
  | .box _ _ => true
  | .buildSlice _ _ _ => true
  | .makeSlice _ _ _ => true
  | .makeMap _ _ => true
  | _ => false
def isEff : Op → Bool
  | .store _ _ _ => true
  | .mapUpdate _ _ _ _ => true
  | .call { callee := .builtin .len, .. } => false
  | .call { callee := .builtin .cap, .. } => false
  | .call { callee := .builtin .min, .. } => false
  | .call { callee := .builtin .max, .. } => false
  | .call { callee := .builtin .unsafeSliceData, .. } => false
  | .call _ => true
  | _ => false
def opRead (ρ : Operand → Value) : Op → Option (AH → Option Value)
  | .load t a => some fun H => ld P t H (ρ a)
  | .convert s d x => bif isBytesToString P s d then some fun H => cvS P s d H (ρ x) else none
  | .lookup t m k two => some fun H => lkU P t H (ρ m) (ρ k) two
  | .call ⟨.builtin .len, args, ts⟩ =>
    match ts.toList, args.toList with
    | [t], [x] => bif isMapT P t then some fun H => lenM P t H (ρ x) else none
    | _, _ => none
  | _ => none
/-- What comes ahead of each operation, as bits. -/
def maskOf (acc : List Nat) (o : Oper) : Nat := o.after.toList.foldl (fun s e => bif Region.binds .any e then s ||| (2 ^ e.on ||| acc.getD e.on 0) else s) 0
def befL (acc : List Nat) : List Oper → List Nat
  | [] => acc
  | o :: r => befL (acc ++ [maskOf acc o]) r
def ordB (bs : List Nat) (i j : Nat) : Bool := (bs.getD j 0).testBit i
def edgesOK (ops : Array Oper) : Bool := (List.range ops.size).all fun j => (ops[j]?).any fun o => o.after.all fun e => !Region.binds .any e || decide (e.on < j)
def regOK (ops : Array Oper) : Bool :=
  edgesOK ops &&
  (List.range ops.size).all fun j => (List.range j).all fun i =>
    ordB (befL [] ops.toList) i j || ((ops[i]?).any fun oi => (ops[j]?).any fun oj => !(isEff oi.op && isEff oj.op) && oi.apart ops oj && oj.apart ops oi)
def isDef : Op → Bool
  | .defer _ => true
  | _ => false
def noDef (ops : Array Oper) : Bool := ops.toList.all fun o => !isDef o.op
structure Rd where
  at_ : Nat
  ok : AH → Prop
noncomputable def chkReads (bs : List Nat) (j : Nat) (H : AH) (x : Option R) : List Rd → Option R
  | [] => x
  | r :: rs => bif ordB bs r.at_ j then chkReads bs j H x rs else aChk (r.ok H) (chkReads bs j H x rs)
noncomputable def chkPast (bs : List Nat) (j : Nat) (ok : AH → Prop) (x : Option R) : List (Nat × AH) → Option R
  | [] => x
  | p :: ps => bif ordB bs p.1 j then chkPast bs j ok x ps else aChk (ok p.2) (chkPast bs j ok x ps)
noncomputable def evD (ops : Array Oper) (bs : List Nat) : List Oper → Nat → List Value → AH → List (Nat × AH) → List Rd → (List Value → AH → Option R) → Option R
  | [], _, T, H, _, _, K => K T H
  | o :: r, j, T, H, past, reads, K =>
    match o.guard with
    | none =>
      match opRead P (opv T) o.op with
      | some f => (f H).bind fun v => chkPast bs j (fun X => f X = some v) (evD ops bs r (j + 1) (putT T o.dst v) H past (⟨j, fun X => f X = some v⟩ :: reads) K) past
      | none => aOp P call (opv T) o.op H fun v H' =>
        bif isEff o.op then chkReads bs j H' (evD ops bs r (j + 1) (putT T o.dst v) H' ((j, H) :: past) reads K) reads
        else bif isAlloc o.op then evD ops bs r (j + 1) (putT T o.dst v) H' past (⟨j, fun X => blk X H.length = blk H' H.length⟩ :: reads) K
        else evD ops bs r (j + 1) (putT T o.dst v) H' past reads K
    | some (g, want) =>
      match opRead P (opv T) o.op with
      | some f => (gOp (yieldV ops T g) want ((f H).bind fun v => some (v, H)) H).bind fun p => chkPast bs j (fun X => yieldV ops T g = .bool want → f X = some p.1) (evD ops bs r (j + 1) (putT T o.dst p.1) H past (⟨j, fun X => yieldV ops T g = .bool want → f X = some p.1⟩ :: reads) K) past
      | none => (gOp (yieldV ops T g) want (aRes P call (opv T) o.op H) H).bind fun p =>
        bif isEff o.op then chkReads bs j p.2 (evD ops bs r (j + 1) (putT T o.dst p.1) p.2 ((j, H) :: past) reads K) reads
        else bif isAlloc o.op then evD ops bs r (j + 1) (putT T o.dst p.1) p.2 past (⟨j, fun X => yieldV ops T g = .bool want → blk X H.length = blk p.2 H.length⟩ :: reads) K
        else evD ops bs r (j + 1) (putT T o.dst p.1) p.2 past reads K
end

inductive EX where
  | normal
  | exit (id : Nat)
  | ret
abbrev Out := EX × List Value × AH
def firstId : Code → Nat
  | .region id _ _ => id
  | .seq a _ => firstId a
  | .block _ b => firstId b
  | .loop b => firstId b
  | .scope b => firstId b
  | _ => 0
abbrev Tbl := List (Nat × List Nat)
def keepOf : Tbl → Nat → Option (List Nat)
  | [], _ => none
  | (k, l) :: r, j => bif k == j then some l else keepOf r j
def maskT (keep : List Nat) : Nat → List Value → List Value
  | _, [] => []
  | i, v :: r => (bif keep.contains i then v else unk) :: maskT keep (i + 1) r
def cutT (tb : Tbl) (key : Nat) (T : List Value) : List Value :=
  match keepOf tb key with
  | some l => maskT l 0 T
  | none => T
/-- The rounds of a loop. -/
def loopK (next : List Value → AH → Option Out) (c1 c2 : List Value → List Value) (e : EX) (T : List Value) (H : AH) : Option Out :=
  match e with
  | .normal => next (c1 T) H
  | e => some (e, c2 T, H)
def iterD (step : List Value → AH → (EX → List Value → AH → Option Out) → Option Out) (c1 c2 : List Value → List Value) : Nat → List Value → AH → Option Out
  | 0, _, _ => none
  | n + 1, T, H => step T H (loopK (iterD step c1 c2 n) c1 c2)
def kSeq {R : Type} (f : List Value → AH → Option R) (K : EX → List Value → AH → Option R) (e : EX) (T : List Value) (H : AH) : Option R :=
  match e with
  | .normal => f T H
  | e => K e T H
def kBlock {R : Type} (id : Nat) (K : EX → List Value → AH → Option R) (e : EX) (T : List Value) (H : AH) : Option R :=
  match e with
  | .exit i => bif i == id then K .normal T H else K (.exit i) T H
  | e => K e T H

def rgs : Code → List (Array Tmp × Code × Code)
  | .seq a b => rgs a ++ rgs b
  | .cond _ a b => rgs a ++ rgs b
  | .block _ b => rgs b
  | .loop b => rgs b
  | .scope b => rgs b
  | .rangeFunc _ ps a b => (ps, a, b) :: (rgs a ++ rgs b)
  | _ => []
def rgFind (key : Nat) : List (Array Tmp × Code × Code) → Option (Array Tmp × Code × Code)
  | [] => none
  | r :: l => bif firstId r.2.2 == key then some r else rgFind key l
def rangeAt (P : Program) (f key : Nat) : Option (Array Tmp × Code × Code) := (P.funcs[f]?).bind fun fn => (fn.body).bind fun c => rgFind key (rgs c)
/-- The function that a table of slots is of. -/
def fidOf (tb : Tbl) : Nat := (keepOf tb 2).elim 0 fun l => l.headD 0
def setSt (H : AH) (b c d : Nat) : Option AH :=
  (blk H b).bind fun k => match k.kind, k.cells with
    | .loop _ _, .int .i64 x :: T => if x = (c : Int) then some (put H b k (.int .i64 (d : Int) :: T)) else none
    | _, _ => none
def getSt (H : AH) (b : Nat) : Option Nat :=
  (blk H b).bind fun k => match k.kind, k.cells with
    | .loop _ _, .int .i64 x :: _ => some x.toNat
    | _, _ => none
def stX {R : Type} (c : Nat) (K : EX → Option R) : Option R :=
  match c with
  | 0 => K .normal
  | 1 => none
  | 2 => K .ret
  | n + 3 => K (.exit n)
def xSt : EX → Nat
  | .normal => 0
  | .ret => 2
  | .exit n => n + 3
def xB : EX → Bool
  | .normal => true
  | _ => false
/-- The call of what is ranged over. -/
def rgCall (call : CallF) (g : Value) (f key : Nat) (T : List Value) (H : AH) : Option (Value × AH) :=
  callV call g [.func (.yield H.length) #[] #[]] (mkB H (.int .i64 0 :: T) key (.loop f key))
def rgBack {R : Type} (b : Nat) (H : AH) (K : EX → AH → Option R) : Option R := (getSt H b).bind fun c => stX c fun e => K e (kill H b)
def putAll : List Tmp → List Value → List Value → List Value
  | p :: ps, v :: vs, T => putAll ps vs (T.set p v)
  | _, _, T => T

noncomputable section
variable (P : Program) (call : CallF) (n : Nat) (tb : Tbl)
def evalK : Code → {R : Type} → List Value → AH → (EX → List Value → AH → Option R) → Option R
  | .skip, _, T, H, K => K .normal T H
  | .label _, _, T, H, K => K .normal T H
  | .region _ ops draw, _, T, H, K =>
    bif draw then (bif regOK ops && noDef ops then evD P call ops (befL [] ops.toList) ops.toList 0 T H [] [] fun T H => K .normal T H else none)
    else evOps P call ops ops.toList T H fun T H => K .normal T H
  | .seq a b, _, T, H, K => evalK a T H (kSeq (fun T' H' => evalK b (cutT tb (3 * firstId b) T') H' K) K)
  | .cond c x y, _, T, H, K => aIf (opv T c) (evalK x T H K) (evalK y T H K)
  | .block id b, _, T, H, K => evalK b T H (kBlock id K)
  | .loop b, _, T, H, K => (iterD (fun T H K => evalK b T H K) (cutT tb (3 * firstId b + 1)) (cutT tb (3 * firstId b + 2)) n (cutT tb (3 * firstId b + 1) T) H).bind fun p => K p.1 p.2.1 p.2.2
  | .exit id, _, T, H, K => K (.exit id) T H
  | .scope b, _, T, H, K => evalK b T H K
  | .ret, _, T, H, K => K .ret T H
  | .rangeFunc g _ _ b, _, T, H, K => (rgCall call (opv T g) (fidOf tb) (firstId b) (cutT tb (3 * firstId b + 1) T) H).bind fun p => rgBack H.length p.2 fun e H' => K e (cutT tb (3 * firstId b + 2) T) H'
  | _, _, _, _, _ => none
/-- One round of a range over a function. -/
def roundY (assign body : Code) (b : Nat) (T : List Value) (H : AH) : Option (Value × AH) :=
  evalK P call n tb assign T H fun e T1 H1 => match e with
    | .normal => (setSt H1 b 0 1).bind fun H2 => evalK P call n tb body T1 H2 fun e _ H3 => (setSt H3 b 1 (xSt e)).bind fun H4 => some (.bool (xB e), H4)
    | _ => none
/-- What is left of a code behind one of its parts. -/
def resume {R : Type} : Code → List Nat → EX → List Value → AH → (EX → List Value → AH → Option R) → Option R
  | .seq a b, 0 :: p, e, T, H, K => resume a p e T H (kSeq (fun T' H' => evalK P call n tb b (cutT tb (3 * firstId b) T') H' K) K)
  | .seq _ b, 1 :: p, e, T, H, K => resume b p e T H K
  | .cond _ x _, 1 :: p, e, T, H, K => resume x p e T H K
  | .cond _ _ y, 2 :: p, e, T, H, K => resume y p e T H K
  | .block id b, 0 :: p, e, T, H, K => resume b p e T H (kBlock id K)
  | .scope b, 0 :: p, e, T, H, K => resume b p e T H K
  | _, _, e, T, H, K => K e T H
/-- The part of a code at a place. -/
def codeAt : Code → List Nat → Code
  | .seq a _, 0 :: p => codeAt a p
  | .seq _ b, 1 :: p => codeAt b p
  | .cond _ x _, 1 :: p => codeAt x p
  | .cond _ _ y, 2 :: p => codeAt y p
  | .block _ b, 0 :: p => codeAt b p
  | .scope b, 0 :: p => codeAt b p
  | .loop b, 0 :: p => codeAt b p
  | c, _ => c
def resOne (T : List Value) (H : AH) : ResultVar → Option Value
  | .tmp t => some (T.getD t undef)
  | .cell a t => ld P t H (T.getD a undef)
def resAll (T : List Value) (H : AH) : List ResultVar → Option (List Value)
  | [] => some []
  | r :: rs => (resOne P T H r).bind fun v => (resAll T H rs).bind fun vs => some (v :: vs)
def oneOf : List Value → Value
  | [v] => v
  | vs => .tuple vs.toArray
def resK (rs : List ResultVar) (e : EX) (T : List Value) (H : AH) : Option (Value × AH) :=
  match e with
  | .exit _ => none
  | _ => (resAll P T H rs).bind fun vs => some (oneOf vs, H)
def bodyOf (f : Func) : Code := f.body.getD .skip
def args0 (f : Func) (args : List Value) : List Value := args ++ List.replicate (f.ntmps - args.length) undef
def runFn (f : Func) (args : List Value) (H : AH) : Option (Value × AH) :=
  bif f.body.isSome && f.name != "runtime.NumGoroutine" then evalK P call n tb (bodyOf f) (args0 f args) H (resK P f.results.toList) else none
end
noncomputable def runY (P : Program) (call : CallF) (n : Nat) (tbs : FuncId → Tbl) (b : Nat) (args : List Value) (H : AH) : Option (Value × AH) :=
  (blk H b).bind fun k => match k.kind, k.cells with
    | .loop f key, _ :: T => (rangeAt P f key).bind fun r => bif args.length == r.1.size && ((rgs r.2.1).isEmpty && (rgs r.2.2).isEmpty) then roundY P call n (tbs f) r.2.1 r.2.2 b (putAll r.1.toList args T) H else none
    | _, _ => none
/-- Functions whose contract is given from elsewhere. -/
abbrev Given := FuncId → Option (List Value → AH → Option (Value × AH))
noncomputable def run (P : Program) (tbs : FuncId → Tbl) (gv : Given) : Nat → FuncId → List Value → AH → Option (Value × AH)
  | 0, _, _, _ => none
  | k + 1, f, args, H =>
    bif Nat.ble yOff f then runY P (run P tbs gv k) k tbs (f - yOff) args H
    else match gv f with
    | some g => g args H
    | none => (P.funcs[f]?).bind fun fn => runFn P (run P tbs gv k) k (tbs f) fn args H
def nodupB : List Nat → Bool
  | [] => true
  | x :: l => !(l.contains x) && nodupB l
def rangesGo (tbs : FuncId → Tbl) : Nat → List Func → Bool
  | _, [] => true
  | i, fn :: l => (match fn.body with
    | none => true
    | some c => (rgs c).isEmpty || (fidOf (tbs i) == i && nodupB ((rgs c).map fun x => firstId x.2.2))) && rangesGo tbs (i + 1) l
def rangesB (P : Program) (tbs : FuncId → Tbl) : Bool := rangesGo tbs 0 P.funcs.toList
noncomputable def roundOf (P : Program) (call : CallF) (n : Nat) (tbs : FuncId → Tbl) (f key b : Nat) (T args : List Value) (H : AH) : Option (Value × AH) :=
  (rangeAt P f key).bind fun r => bif args.length == r.1.size && ((rgs r.2.1).isEmpty && (rgs r.2.2).isEmpty) then roundY P call n (tbs f) r.2.1 r.2.2 b (putAll r.1.toList args T) H else none
theorem run_round {P : Program} {tbs : FuncId → Tbl} {gv : Given} {k f key b e : Nat} {c : Value} {T args : List Value} {H : AH} (hb : blk H b = some ⟨c :: T, e, .loop f key⟩) :
    run P tbs gv (k + 1) (yOff + b) args H = roundOf P (run P tbs gv k) k tbs f key b T args H := by
  unfold run
  have h1 : Nat.ble yOff (yOff + b) = true := Nat.ble_eq_true_of_le (Nat.le_add_right _ _)
  rw [h1]
  simp only [cond_true, Nat.add_sub_cancel_left]
  unfold runY
  rw [hb]
  rfl
end Go.AM
set_option linter.unusedVariables false
set_option linter.unusedSimpArgs false
namespace Go.AM
variable {α β R : Type} {P : Program}


def Ev (g : Nat → Nat → Option α) (Q : α → Prop) : Prop := ∃ r, Q r ∧ ∃ N, ∀ k n, N ≤ k → N ≤ n → g k n = some r

theorem Ev.ret {Q : α → Prop} {r : α} (h : Q r) : Ev (fun _ _ => some r) Q := ⟨r, h, 0, fun _ _ _ _ => rfl⟩
theorem Ev.mono {g : Nat → Nat → Option α} {Q Q' : α → Prop} (h : Ev g Q) (hq : ∀ r, Q r → Q' r) : Ev g Q' :=
  h.elim fun r hr => ⟨r, hq r hr.1, hr.2⟩
theorem Ev.eq {g h : Nat → Nat → Option α} {Q : α → Prop} (e : ∀ k n, g k n = h k n) (hh : Ev h Q) : Ev g Q := by
  obtain ⟨r, hr, N, hN⟩ := hh
  exact ⟨r, hr, N, fun k n a b => (e k n).trans (hN k n a b)⟩
theorem Ev.bind {g : Nat → Nat → Option α} {f : Nat → Nat → α → Option β} {Q1 : α → Prop} {Q : β → Prop} (h1 : Ev g Q1) (h2 : ∀ r, Q1 r → Ev (fun k n => f k n r) Q) :
    Ev (fun k n => (g k n).bind (f k n)) Q := by
  obtain ⟨r, hr, N, hN⟩ := h1
  obtain ⟨s, hs, M, hM⟩ := h2 r hr
  refine ⟨s, hs, max N M, fun k n a b => ?_⟩
  show (g k n).bind (f k n) = some s
  rw [hN k n (by omega) (by omega)]
  exact hM k n (by omega) (by omega)
theorem Ev.prim {E : Option α} {a : α} {f : Nat → Nat → α → Option β} {Q : β → Prop} (h : E = some a) (h2 : Ev (fun k n => f k n a) Q) : Ev (fun k n => E.bind (f k n)) Q :=
  Ev.eq (fun _ _ => by rw [h]; rfl) h2
theorem Ev.assoc {g : Nat → Nat → Option α} {f : Nat → Nat → α → Option β} {f2 : Nat → Nat → β → Option R} {Q : R → Prop} (h : Ev (fun k n => (g k n).bind fun x => (f k n x).bind (f2 k n)) Q) :
    Ev (fun k n => ((g k n).bind (f k n)).bind (f2 k n)) Q := Ev.eq (fun _ _ => Option.bind_assoc ..) h
theorem Ev.b2 {g : Nat → Nat → Option (Value × AH)} {f : Nat → Nat → Value → AH → Option R} {Q1 : Value × AH → Prop} {Q : R → Prop} (h1 : Ev g Q1) (h2 : ∀ v H, Q1 (v, H) → Ev (fun k n => f k n v H) Q) :
    Ev (fun k n => Go.AM.b2 (g k n) (f k n)) Q := Ev.bind h1 fun r hr => h2 r.1 r.2 hr
theorem Ev.prim2 {E : Option (Value × AH)} {v : Value} {H : AH} {f : Nat → Nat → Value → AH → Option R} {Q : R → Prop} (h : E = some (v, H)) (h2 : Ev (fun k n => f k n v H) Q) :
    Ev (fun k n => Go.AM.b2 E (f k n)) Q := Ev.eq (fun _ _ => by rw [h]; rfl) h2
theorem Ev.chk {x : Nat → Nat → Option α} {Q : α → Prop} {p : Prop} (hp : p) (h : Ev x Q) : Ev (fun k n => aChk p (x k n)) Q :=
  Ev.eq (fun _ _ => by unfold aChk; exact if_pos hp) h
/-- A guarded operation that is done. -/
theorem Ev.gDo {w : Bool} {E : Nat → Nat → Option (Value × AH)} {H : AH} {f : Nat → Nat → Value → AH → Option R} {Q : R → Prop} (h : Ev (fun k n => Go.AM.b2 (E k n) (f k n)) Q) :
    Ev (fun k n => Go.AM.b2 (gOp (.bool w) w (E k n) H) (f k n)) Q := Ev.eq (fun _ _ => by unfold gOp; simp) h
theorem Ev.gSkip {w : Bool} {E : Nat → Nat → Option (Value × AH)} {H : AH} {f : Nat → Nat → Value → AH → Option R} {Q : R → Prop} (h : Ev (fun k n => f k n undef H) Q) :
    Ev (fun k n => Go.AM.b2 (gOp (.bool w) (!w) (E k n) H) (f k n)) Q := Ev.eq (fun _ _ => by unfold gOp; cases w <;> simp [Go.AM.b2]) h
theorem Ev.gSkipT {E : Nat → Nat → Option (Value × AH)} {H : AH} {f : Nat → Nat → Value → AH → Option R} {Q : R → Prop} (h : Ev (fun k n => f k n undef H) Q) :
    Ev (fun k n => Go.AM.b2 (gOp (.bool false) true (E k n) H) (f k n)) Q := Ev.gSkip (w := false) h
theorem Ev.gSkipF {E : Nat → Nat → Option (Value × AH)} {H : AH} {f : Nat → Nat → Value → AH → Option R} {Q : R → Prop} (h : Ev (fun k n => f k n undef H) Q) :
    Ev (fun k n => Go.AM.b2 (gOp (.bool true) false (E k n) H) (f k n)) Q := Ev.gSkip (w := true) h
theorem Ev.gUndef {w : Bool} {E : Nat → Nat → Option (Value × AH)} {H : AH} {f : Nat → Nat → Value → AH → Option R} {Q : R → Prop} (h : Ev (fun k n => f k n undef H) Q) :
    Ev (fun k n => Go.AM.b2 (gOp undef w (E k n) H) (f k n)) Q := Ev.eq (fun _ _ => by unfold gOp undef; simp [Go.AM.b2]) h
/-- What lies under a guard: 'E.bind fun v => some (v, H)'. -/
theorem Ev.gPrim {E : Option α} {a : α} {g : α → Option (Value × AH)} {v : Value} {H : AH} {f : Nat → Nat → Value → AH → Option R} {Q : R → Prop} (h : E = some a) (hg : g a = some (v, H)) (h2 : Ev (fun k n => f k n v H) Q) :
    Ev (fun k n => Go.AM.b2 (E.bind g) (f k n)) Q := Ev.prim2 (by rw [h]; exact hg) h2
theorem Ev.gCall {g : Nat → Nat → Option (Value × AH)} {f : Nat → Nat → Value → AH → Option R} {Q : R → Prop} (h : Ev (fun k n => Go.AM.b2 (g k n) (f k n)) Q) :
    Ev (fun k n => Go.AM.b2 (Go.AM.b2 (g k n) fun v H => some (v, H)) (f k n)) Q := Ev.eq (fun k n => by
      show Option.bind (Option.bind (g k n) _) _ = Option.bind (g k n) _
      rw [Option.bind_assoc]; rfl) h
/-- A loop has as much fuel as its function. -/
theorem Ev.loop {L : Nat → Nat → Option α} {Q : α → Prop} (h : Ev L Q) : Ev (fun k _ => L k k) Q := by
  obtain ⟨r, hr, N, hN⟩ := h
  exact ⟨r, hr, N, fun k n a _ => hN k k a a⟩
theorem Ev.succ {L T : Nat → Nat → Option α} {Q : α → Prop} (e : ∀ k n, L k (n + 1) = T k n) (h : Ev T Q) : Ev L Q := by
  obtain ⟨r, hr, N, hN⟩ := h
  refine ⟨r, hr, N + 1, fun k n a b => ?_⟩
  obtain ⟨m, rfl⟩ : ∃ m, n = m + 1 := ⟨n - 1, by omega⟩
  exact (e k m).trans (hN k m (by omega) (by omega))
theorem Ev.fn {F T : Nat → Option α} {Q : α → Prop} (e : ∀ k, F (k + 1) = T k) (h : Ev (fun k _ => T k) Q) : Ev (fun k _ => F k) Q := by
  obtain ⟨r, hr, N, hN⟩ := h
  refine ⟨r, hr, N + 1, fun k n a b => ?_⟩
  obtain ⟨m, rfl⟩ : ∃ m, k = m + 1 := ⟨k - 1, by omega⟩
  exact (e m).trans (hN m n (by omega) (by omega))

theorem blk_lt {H : AH} {b : Nat} {K : Blk} (h : blk H b = some K) : b < H.length := by
  unfold blk at h
  cases hh : H[b]? with
  | none => rw [hh] at h; exact absurd h (by simp)
  | some x => exact (List.getElem?_eq_some_iff.mp hh).1
theorem blk_mkB_old {H : AH} {cs e kd} {b : Nat} (h : b < H.length) : blk (mkB H cs e kd) b = blk H b := by
  unfold blk mkB; rw [List.getElem?_append_left h]
theorem blk_mkB_new {H : AH} {cs e kd} : blk (mkB H cs e kd) H.length = some ⟨cs, e, kd⟩ := by
  unfold blk mkB; simp
theorem blk_put {H : AH} {b c : Nat} {k : Blk} {cs} (hb : b < H.length) : blk (put H b k cs) c = if c = b then some ⟨cs, k.elem, k.kind⟩ else blk H c := by
  unfold blk put
  by_cases h : c = b
  · subst h; rw [List.getElem?_set_self hb, if_pos rfl]; rfl
  · rw [List.getElem?_set_ne (fun e => h e.symm), if_neg h]
theorem blk_kill {H : AH} {b c : Nat} (hb : b < H.length) : blk (kill H b) c = if c = b then none else blk H c := by
  unfold blk kill
  by_cases h : c = b
  · subst h; rw [List.getElem?_set_self hb, if_pos rfl]; rfl
  · rw [List.getElem?_set_ne (fun e => h e.symm), if_neg h]
theorem length_put {H : AH} {b k cs} : (put H b k cs).length = H.length := by unfold put; simp
theorem length_kill {H : AH} {b} : (kill H b).length = H.length := by unfold kill; simp
theorem length_mkB {H : AH} {cs e kd} : (mkB H cs e kd).length = H.length + 1 := by unfold mkB; simp

/-- More is there; what was there, or was not, is as it was. -/
structure Fr (H H' : AH) : Prop where
  len : H.length ≤ H'.length
  same : ∀ b, b < H.length → blk H' b = blk H b
/-- What was there is as it was. -/
def Mo (B B' : AH) : Prop := ∀ b K, blk B b = some K → blk B' b = some K
structure Le (B H : AH) : Prop where
  le : Mo B H
theorem Fr.refl (H : AH) : Fr H H := ⟨Nat.le_refl _, fun _ _ => rfl⟩
theorem Fr.trans {A B C : AH} (h1 : Fr A B) (h2 : Fr B C) : Fr A C := ⟨Nat.le_trans h1.len h2.len, fun b hb => (h2.same b (Nat.lt_of_lt_of_le hb h1.len)).trans (h1.same b hb)⟩
theorem Fr.mo {A B : AH} (h : Fr A B) : Mo A B := fun b K hb => (h.same b (blk_lt hb)).trans hb
theorem Mo.refl (B : AH) : Mo B B := fun _ _ h => h
theorem Mo.trans {A B C : AH} (h1 : Mo A B) (h2 : Mo B C) : Mo A C := fun b K h => h2 b K (h1 b K h)

/-- H0, B0: what it was at first. B: what nobody changes any more. L: ours. -/
class St (H0 B0 B : outParam AH) (L : outParam (List (Nat × Blk))) (H : AH) : Prop where
  le : Mo B H
  own : ∀ p, p ∈ L → blk H p.1 = some p.2 ∧ blk B p.1 = none ∧ H0.length ≤ p.1
  nd : (L.map Prod.fst).Nodup
  frH : Fr H0 H
  frB : ∀ b, b < H0.length → blk B b = blk B0 b

/-- How a function's answer stands to what it was at first. -/
def An (B H : AH) (Post : AH → Value → Prop) (r : Value × AH) : Prop := ∃ B', (∀ b, b < H.length → blk B' b = blk B b) ∧ Le B' r.2 ∧ Fr H r.2 ∧ Post B' r.1

theorem St.start {B H : AH} (h : Le B H) : St H B B [] H :=
  ⟨h.le, fun _ h => absurd h (List.not_mem_nil), List.nodup_nil, Fr.refl _, fun _ _ => rfl⟩
theorem St.lel {H0 B0 B L H} (h : St H0 B0 B L H) : Le B H := ⟨h.le⟩
theorem St.get {H0 B0 B L H} {b : Nat} {K : Blk} (h : St H0 B0 B L H) (hm : (b, K) ∈ L) : blk H b = some K := (h.own _ hm).1
theorem St.drop {H0 B0 B L L' H} (h : St H0 B0 B L H) (hs : L'.Sublist L) : St H0 B0 B L' H :=
  ⟨h.le, fun p hp => h.own p (hs.subset hp), (hs.map _).nodup h.nd, h.frH, h.frB⟩
theorem St.perm {H0 B0 B L L' H} (h : St H0 B0 B L H) (hs : L'.Perm L) : St H0 B0 B L' H :=
  ⟨h.le, fun p hp => h.own p (hs.subset hp), (hs.map _).nodup_iff.mpr h.nd, h.frH, h.frB⟩
theorem St.fresh {H0 B0 B L H} (h : St H0 B0 B L H) : blk B H.length = none := by
  cases hb : blk B H.length with
  | none => rfl
  | some K => exact absurd (blk_lt (h.le _ _ hb)) (Nat.lt_irrefl _)
theorem St.mkB' {H0 B0 B L H} (h : St H0 B0 B L H) (cs : List Value) (e : TypeId) (kd : BK) : St H0 B0 B ((H.length, ⟨cs, e, kd⟩) :: L) (mkB H cs e kd) := by
  refine ⟨fun b K hb => ?_, fun p hp => ?_, ?_, ⟨?_, fun b hb => ?_⟩, h.frB⟩
  · have := h.le b K hb
    rw [blk_mkB_old (blk_lt this)]; exact this
  · cases hp with
    | head => exact ⟨blk_mkB_new, h.fresh, h.frH.len⟩
    | tail _ hp =>
      have hh := h.own p hp
      exact ⟨by rw [blk_mkB_old (blk_lt hh.1)]; exact hh.1, hh.2.1, hh.2.2⟩
  · refine List.nodup_cons.mpr ⟨fun hm => ?_, h.nd⟩
    obtain ⟨p, hp, he⟩ := List.mem_map.mp hm
    have := blk_lt (h.own p hp).1
    have he : p.1 = H.length := he
    omega
  · rw [length_mkB]; have := h.frH.len; omega
  · rw [blk_mkB_old (by have := h.frH.len; omega)]; exact h.frH.same b hb
theorem St.mkB {H0 B0 B L H} (h : St H0 B0 B L H) (cs : List Value) (e : TypeId) (kd : BK) :
    ∃ B', Mo B B' ∧ St H0 B0 B' ((H.length, ⟨cs, e, kd⟩) :: L) (mkB H cs e kd) := ⟨B, Mo.refl B, h.mkB' cs e kd⟩

theorem mem_fst {p : Nat × Blk} {b : Nat} {L : List (Nat × Blk)} (h : p ∈ L) (e : p.1 = b) : b ∈ L.map Prod.fst := List.mem_map.mpr ⟨p, h, e⟩
/-- One of ours is another. -/
inductive Upd (b : Nat) (K K' : Blk) : List (Nat × Blk) → List (Nat × Blk) → Prop where
  | head (L) : Upd b K K' ((b, K) :: L) ((b, K') :: L)
  | tail (x) {L L'} (h : Upd b K K' L L') : Upd b K K' (x :: L) (x :: L')
theorem Upd.mem {b K K' L L'} (h : Upd b K K' L L') : (b, K) ∈ L := by
  induction h with
  | head => exact .head _
  | tail _ _ ih => exact .tail _ ih
theorem Upd.map {b K K' L L'} (h : Upd b K K' L L') : L'.map Prod.fst = L.map Prod.fst := by
  induction h with
  | head => rfl
  | tail x _ ih => simp [ih]
theorem Upd.inv {b K K' L L'} (h : Upd b K K' L L') (hn : (L.map Prod.fst).Nodup) : ∀ p, p ∈ L' → p = (b, K') ∨ (p ∈ L ∧ p.1 ≠ b) := by
  induction h with
  | head L =>
    intro p hp
    cases hp with
    | head => exact .inl rfl
    | tail _ hp => exact .inr ⟨.tail _ hp, fun e => (List.nodup_cons.mp hn).1 (mem_fst hp e)⟩
  | tail x hU ih =>
    intro p hp
    cases hp with
    | head => exact .inr ⟨.head _, fun e => (List.nodup_cons.mp hn).1 (mem_fst hU.mem e.symm)⟩
    | tail _ hp => exact (ih (List.nodup_cons.mp hn).2 p hp).imp id fun h => ⟨.tail _ h.1, h.2⟩
theorem St.put {H0 B0 B L L' H} {b : Nat} {K : Blk} {cs : List Value} (h : St H0 B0 B L H) (hu : Upd b K ⟨cs, K.elem, K.kind⟩ L L') : St H0 B0 B L' (put H b K cs) := by
  have hb := h.own _ hu.mem
  have hlt := blk_lt hb.1
  refine ⟨fun c K' hc => ?_, fun p hp => ?_, by rw [hu.map]; exact h.nd, ⟨by rw [length_put]; exact h.frH.len, fun c hc => ?_⟩, h.frB⟩
  · rw [blk_put hlt, if_neg]
    · exact h.le c K' hc
    · intro e; subst e; rw [hb.2.1] at hc; exact absurd hc (by simp)
  · rcases hu.inv h.nd p hp with rfl | ⟨hp', hne⟩
    · exact ⟨by rw [blk_put hlt, if_pos rfl], hb.2⟩
    · have := h.own p hp'
      exact ⟨by rw [blk_put hlt, if_neg hne]; exact this.1, this.2⟩
  · rw [blk_put hlt, if_neg (by have : H0.length ≤ b := hb.2.2; omega)]; exact h.frH.same c hc
theorem St.kill {H0 B0 B L H} {b : Nat} {K : Blk} (h : St H0 B0 B ((b, K) :: L) H) : St H0 B0 B L (kill H b) := by
  have hb := h.own _ (.head _)
  have hlt := blk_lt hb.1
  have hn := List.nodup_cons.mp h.nd
  refine ⟨fun c K' hc => ?_, fun p hp => ?_, hn.2, ⟨by rw [length_kill]; exact h.frH.len, fun c hc => ?_⟩, h.frB⟩
  · rw [blk_kill hlt, if_neg]
    · exact h.le c K' hc
    · intro e; subst e; rw [hb.2.1] at hc; exact absurd hc (by simp)
  · have := h.own p (.tail _ hp)
    exact ⟨by rw [blk_kill hlt, if_neg fun e => hn.1 (mem_fst hp e)]; exact this.1, this.2⟩
  · rw [blk_kill hlt, if_neg (by have : H0.length ≤ b := hb.2.2; omega)]; exact h.frH.same c hc
theorem setB (B : AH) (b : Nat) (K : Blk) : ∃ B', ∀ c, blk B' c = if c = b then some K else blk B c := by
  refine ⟨(B ++ List.replicate (b + 1) none).set b (some K), fun c => ?_⟩
  have hp : ∀ d, blk (B ++ List.replicate (b + 1) none) d = blk B d := fun d => by
    unfold blk
    by_cases h : d < B.length
    · rw [List.getElem?_append_left h]
    · rw [List.getElem?_append_right (by omega), List.getElem?_eq_none (l := B) (by omega), List.getElem?_replicate]
      split <;> rfl
  by_cases h : c = b
  · subst h; unfold blk; rw [List.getElem?_set_self (by simp; omega), if_pos rfl]; rfl
  · rw [if_neg h, ← hp c]; unfold blk; rw [List.getElem?_set_ne (fun e => h e.symm)]
/-- From now on nobody changes it. -/
theorem St.freeze {H0 B0 B L H} {b : Nat} {K : Blk} (h : St H0 B0 B ((b, K) :: L) H) : ∃ B', Mo B B' ∧ blk B' b = some K ∧ St H0 B0 B' L H := by
  have hb := h.own _ (.head _)
  have hn := List.nodup_cons.mp h.nd
  obtain ⟨B', hs⟩ := setB B b K
  refine ⟨B', fun c K' hc => ?_, by rw [hs, if_pos rfl], fun c K' hc => ?_, fun p hp => ?_, hn.2, h.frH, fun c hc => ?_⟩
  · rw [hs, if_neg]
    · exact hc
    · intro e; subst e; rw [hb.2.1] at hc; exact absurd hc (by simp)
  · rw [hs] at hc
    by_cases e : c = b
    · subst e; rw [if_pos rfl] at hc; rw [← hc]; exact hb.1
    · rw [if_neg e] at hc; exact h.le c K' hc
  · have := h.own p (.tail _ hp)
    exact ⟨this.1, by rw [hs, if_neg fun e => hn.1 (mem_fst hp e)]; exact this.2.1, this.2.2⟩
  · rw [hs, if_neg (by have : H0.length ≤ b := hb.2.2; omega)]; exact h.frB c hc
theorem St.call {H0 B0 B L H} {Post : AH → Value → Prop} {r : Value × AH} (h : St H0 B0 B L H) (ha : An B H Post r) : ∃ B', Mo B B' ∧ St H0 B0 B' L r.2 ∧ Post B' r.1 := by
  obtain ⟨B', f1, f2, f3, f4⟩ := ha
  refine ⟨B', fun b K hb => (f1 b (blk_lt (h.le b K hb))).trans hb, ⟨f2.le, fun p hp => ?_, h.nd, h.frH.trans f3, fun b hb => (f1 b (Nat.lt_of_lt_of_le hb h.frH.len)).trans (h.frB b hb)⟩, f4⟩
  have hh := h.own p hp
  have hlt := blk_lt hh.1
  exact ⟨(f3.same _ hlt).trans hh.1, (f1 _ hlt).trans hh.2.1, hh.2.2⟩
theorem St.an {H0 B0 B L H} {Post : AH → Value → Prop} {v : Value} (h : St H0 B0 B L H) (hp : Post B v) : An B0 H0 Post (v, H) := ⟨B, h.frB, h.lel, h.frH, hp⟩

def ldK (P : Program) (t : TypeId) (cells : List Value) (off : Nat) : Option Value :=
  match aggT P t with
  | some true => if off + szT P t ≤ cells.length then some (.agg ((cells.drop off).take (szT P t)).toArray) else none
  | some false => cells[off]?
  | none => none
def stK (P : Program) (t : TypeId) (cells : List Value) (off : Nat) (v : Value) : Option (List Value) :=
  match aggT P t with
  | some true =>
    match v with
    | .agg cs => if off + szT P t ≤ cells.length ∧ cs.size = szT P t ∧ cs.toList.all isCell = true then some (spl cells off cs.toList) else none
    | _ => none
  | some false => if szT P t = 1 ∧ off < cells.length ∧ isCell v = true then some (cells.set off v) else none
  | none => none
theorem ld_blk {t : TypeId} {H : AH} {b off : Nat} {K : Blk} (h : blk H b = some K) : ld P t H (ptr b off) = ldK P t K.cells off := by
  unfold ld ldK
  cases aggT P t with
  | none => rfl
  | some a =>
    cases a with
    | true => simp only [ldA, ptr, h, Option.bind_some, rdN]; split <;> rfl
    | false => simp only [ldC, ptr, h, Option.bind_some]
theorem st_blk {t : TypeId} {H : AH} {b off : Nat} {K : Blk} {v : Value} {cs : List Value} (h : blk H b = some K) (hk : K.kind.wr = true) (hs : stK P t K.cells off v = some cs) : st P t H (ptr b off) v = some (put H b K cs) := by
  unfold st
  unfold stK at hs
  cases ha : aggT P t with
  | none => rw [ha] at hs; exact absurd hs (by simp)
  | some a =>
    rw [ha] at hs
    cases a with
    | true =>
      cases v with
      | agg c =>
        simp only at hs
        split at hs
        · rename_i hc
          simp only [stA, ptr, h, Option.bind_some, if_pos (show K.kind.wr = true ∧ off + szT P t ≤ K.cells.length ∧ c.size = szT P t ∧ c.toList.all isCell = true from ⟨hk, hc⟩)]
          rw [Option.some.inj hs]
        · exact absurd hs (by simp)
      | _ => exact absurd hs (by simp)
    | false =>
      simp only at hs
      split at hs
      · rename_i hc
        simp only [stC, ptr, h, Option.bind_some, if_pos hc.1, if_pos (show K.kind.wr = true ∧ off < K.cells.length ∧ isCell v = true from ⟨hk, hc.2⟩)]
        rw [Option.some.inj hs]
      · exact absurd hs (by simp)

theorem Ev.box {H0 B0 B L H} {v : Value} {t : TypeId} {f : Nat → Nat → Value → AH → Option R} {Q : R → Prop} (hS : St H0 B0 B L H) (hv : okCells v = true)
    (h : ∀ b B' H', Mo B B' → St H0 B0 B' ((b, ⟨v.cells.toList, t, .fix⟩) :: L) H' → Ev (fun k n => f k n (ptr b 0) H') Q) : Ev (fun k n => Go.AM.b2 (Go.AM.box t H v) (f k n)) Q := by
  obtain ⟨B', hm, hS'⟩ := hS.mkB v.cells.toList t .fix
  exact Ev.prim2 (by unfold Go.AM.box; rw [if_pos hv]) (h H.length B' _ hm hS')
theorem Ev.newV {H0 B0 B L H} {z : Value} {t : TypeId} {f : Nat → Nat → Value → AH → Option R} {Q : R → Prop} (hz : zeroT P t = some z) (hS : St H0 B0 B L H) (hv : okCells z = true)
    (h : ∀ b B' H', Mo B B' → St H0 B0 B' ((b, ⟨z.cells.toList, t, .fix⟩) :: L) H' → Ev (fun k n => f k n (ptr b 0) H') Q) : Ev (fun k n => Go.AM.b2 (Go.AM.newV P t H) (f k n)) Q := by
  have e : Go.AM.newV P t H = Go.AM.box t H z := by unfold Go.AM.newV; rw [hz]; rfl
  rw [e]; exact Ev.box hS hv h
theorem Ev.ld {H0 B0 B L H} {b off : Nat} {K : Blk} {v : Value} {t : TypeId} {f : Nat → Nat → Value → Option R} {Q : R → Prop} (hS : St H0 B0 B L H) (hm : (b, K) ∈ L) (hv : ldK P t K.cells off = some v)
    (h : Ev (fun k n => f k n v) Q) : Ev (fun k n => (Go.AM.ld P t H (ptr b off)).bind (f k n)) Q :=
  Ev.prim ((ld_blk (hS.get hm)).trans hv) h
theorem Ev.st {H0 B0 B L L' H} {b off : Nat} {K : Blk} {v : Value} {cs : List Value} {t : TypeId} {f : Nat → Nat → AH → Option R} {Q : R → Prop} (hS : St H0 B0 B L H) (hm : (b, K) ∈ L) (hs : stK P t K.cells off v = some cs)
    (hk : K.kind.wr = true) (hu : Upd b K ⟨cs, K.elem, K.kind⟩ L L') (h : ∀ H', St H0 B0 B L' H' → Ev (fun k n => f k n H') Q) : Ev (fun k n => (Go.AM.st P t H (ptr b off) v).bind (f k n)) Q :=
  Ev.prim (st_blk (hS.get hm) hk hs) (h _ (hS.put hu))
theorem Ev.call {H0 B0 B L H} {g : Nat → Nat → Option (Value × AH)} {Post : AH → Value → Prop} {f : Nat → Nat → Value → AH → Option R} {Q : R → Prop} (hS : St H0 B0 B L H)
    (hc : Le B H → Ev g (An B H Post)) (h : ∀ v B' H', Mo B B' → St H0 B0 B' L H' → Post B' v → Ev (fun k n => f k n v H') Q) : Ev (fun k n => Go.AM.b2 (g k n) (f k n)) Q :=
  Ev.b2 (hc hS.lel) fun v H' ha => by
    obtain ⟨B', hm, hS', hp⟩ := hS.call ha
    exact h v B' H' hm hS' hp
theorem Ev.done {H0 B0 B L H} {Post : AH → Value → Prop} {v : Value} (hS : St H0 B0 B L H) (hp : Post B v) : Ev (fun _ _ => some (v, H)) (An B0 H0 Post) := Ev.ret (hS.an hp)

section
variable {t : TypeId} {k : IntKind} {x y : Int}
theorem bin_int {op : BinOp} {v : Value} (h : still P (binOp op t (.int k x) (.int k y)) = some v) (hv : flat1 v = true) : bin P op t (.int k x) (.int k y) = some v := by
  unfold bin; rw [if_pos ⟨rfl, rfl, rfl⟩, h, Option.bind_some, if_pos hv]
theorem bin_add : bin P .add t (.int k x) (.int k y) = some (.int k (k.wrap (x + y))) := bin_int (by simp [binOp, Op.intArith, still]; rfl) rfl
theorem bin_sub : bin P .sub t (.int k x) (.int k y) = some (.int k (k.wrap (x - y))) := bin_int (by simp [binOp, Op.intArith, still]; rfl) rfl
theorem bin_mul : bin P .mul t (.int k x) (.int k y) = some (.int k (k.wrap (x * y))) := bin_int (by simp [binOp, Op.intArith, still]; rfl) rfl
theorem bin_lss : bin P .lss t (.int k x) (.int k y) = some (.bool (decide (x < y))) := bin_int (by simp [binOp, Op.intCmp, still]; rfl) rfl
theorem bin_leq : bin P .leq t (.int k x) (.int k y) = some (.bool (decide (x ≤ y))) := bin_int (by simp [binOp, Op.intCmp, still]; rfl) rfl
theorem bin_gtr : bin P .gtr t (.int k x) (.int k y) = some (.bool (decide (y < x))) := bin_int (by simp [binOp, Op.intCmp, still]; rfl) rfl
theorem bin_geq : bin P .geq t (.int k x) (.int k y) = some (.bool (decide (y ≤ x))) := bin_int (by simp [binOp, Op.intCmp, still]; rfl) rfl
theorem bin_eql : bin P .eql t (.int k x) (.int k y) = some (.bool (decide (x = y))) := bin_int (by simp [binOp, Op.intCmp, still]; rfl) rfl
theorem bin_neq : bin P .neq t (.int k x) (.int k y) = some (.bool (decide (x ≠ y))) := bin_int (by simp [binOp, Op.intCmp, still]; rfl) rfl
theorem bin_quo (h : y ≠ 0) : bin P .quo t (.int k x) (.int k y) = some (.int k (k.wrap (x.tdiv y))) := bin_int (by simp [binOp, Op.intDiv, still, h]; rfl) rfl
theorem bin_rem (h : y ≠ 0) : bin P .rem t (.int k x) (.int k y) = some (.int k (x.tmod y)) := bin_int (by simp [binOp, Op.intDiv, still, h]; rfl) rfl
theorem bin_and : bin P .and t (.int k x) (.int k y) = some (.int k (k.wrap (BitVec.ofInt k.bits x &&& BitVec.ofInt k.bits y).toNat)) := bin_int (by simp [binOp, Op.intBits, still]; rfl) rfl
theorem un_not {b : Bool} : un P .not (.bool b) = some (.bool !b) := rfl
theorem un_neg : un P .neg (.int k x) = some (.int k (k.wrap (0 - x))) := by simp [un, flat1, Op.unary, Op.intArith, still]; rfl
end
end Go.AM
set_option linter.unusedVariables false
namespace Go.AM
def val : List Nat → Nat
  | [] => 0
  | x :: xs => x + 4294967296 * val xs
def small (xs : List Nat) : Prop := ∀ x, x ∈ xs → x < 4294967296
theorem small.tail {x : Nat} {xs : List Nat} (h : small (x :: xs)) : small xs := fun y hy => h y (.tail _ hy)
theorem small.head {x : Nat} {xs : List Nat} (h : small (x :: xs)) : x < 4294967296 := h x (.head _)
theorem small.append {xs ys : List Nat} (h : small xs) (h' : small ys) : small (xs ++ ys) := fun x hx => (List.mem_append.mp hx).elim (h x) (h' x)
theorem small.take {xs : List Nat} (h : small xs) (n : Nat) : small (xs.take n) := fun x hx => h x (List.mem_of_mem_take hx)
theorem small.drop {xs : List Nat} (h : small xs) (n : Nat) : small (xs.drop n) := fun x hx => h x (List.mem_of_mem_drop hx)
theorem small.set {xs : List Nat} (h : small xs) (n : Nat) {y : Nat} (hy : y < 4294967296) : small (xs.set n y) := fun x hx => (List.mem_or_eq_of_mem_set hx).elim (h x) fun e => e ▸ hy
theorem small.getD {xs : List Nat} (h : small xs) (i : Nat) : xs.getD i 0 < 4294967296 := by
  by_cases hi : i < xs.length
  · rw [List.getD_eq_getElem?_getD, List.getElem?_eq_getElem hi]; exact h _ (List.getElem_mem hi)
  · rw [List.getD_eq_getElem?_getD, List.getElem?_eq_none (by omega)]; decide
end Go.AM
set_option linter.unusedVariables false
set_option linter.unusedSimpArgs false
namespace Go.AM
variable {α β R : Type} {P : Program} {t : TypeId} {x y : Int}
theorem wrap64 {n : Int} (h : -9223372036854775808 ≤ n ∧ n < 9223372036854775808) : IntKind.i64.wrap n = n := by
  simp only [IntKind.wrap, IntKind.bits, IntKind.signed]; simp; omega
theorem wrapu64 {n : Int} : IntKind.u64.wrap n = n % 18446744073709551616 := by
  simp only [IntKind.wrap, IntKind.bits, IntKind.signed]; simp
theorem wrapu32 {n : Int} : IntKind.u32.wrap n = n % 4294967296 := by
  simp only [IntKind.wrap, IntKind.bits, IntKind.signed]; simp
theorem wrapu8 {n : Int} : IntKind.u8.wrap n = n % 256 := by
  simp only [IntKind.wrap, IntKind.bits, IntKind.signed]; simp
theorem bin_add64 (h : -9223372036854775808 ≤ x + y ∧ x + y < 9223372036854775808) : bin P .add t (.int .i64 x) (.int .i64 y) = some (.int .i64 (x + y)) := by rw [bin_add, wrap64 h]
theorem bin_sub64 (h : -9223372036854775808 ≤ x - y ∧ x - y < 9223372036854775808) : bin P .sub t (.int .i64 x) (.int .i64 y) = some (.int .i64 (x - y)) := by rw [bin_sub, wrap64 h]
theorem bin_mul64 (h : -9223372036854775808 ≤ x * y ∧ x * y < 9223372036854775808) : bin P .mul t (.int .i64 x) (.int .i64 y) = some (.int .i64 (x * y)) := by rw [bin_mul, wrap64 h]
theorem lenV_sl {e : TypeId} {p : Option Addr} {n c : Nat} (h : P.underlying t = some (.slice e)) : lenV P t (.slice p n c) = some (.int .i64 (n : Nat)) := by unfold lenV; rw [h]
theorem cv_int {s d : TypeId} {D : TypeDesc} {k k' : IntKind} (hs : P.underlying s = some D) (h : P.underlying d = some (.int k)) : cv P s d (.int k' x) = some (.int k (k.wrap x)) := by unfold cv; rw [hs, h]

def Sc (B : AH) (v : Value) (cs : List Value) : Prop :=
  (v = .slice none 0 0 ∧ cs = []) ∨ ∃ b off cap, v = sl b off cs.length cap ∧ cs.length ≤ cap ∧ (cs = [] ∨ ∃ K, blk B b = some K ∧ rdN K off cs.length = some cs)
theorem Sc.mono {B B' : AH} {v : Value} {cs : List Value} (hm : Mo B B') (h : Sc B v cs) : Sc B' v cs := by
  rcases h with h | ⟨b, off, cap, h1, hc, h2⟩
  · exact .inl h
  · exact .inr ⟨b, off, cap, h1, hc, h2.imp id fun ⟨K, h3, h4⟩ => ⟨K, hm _ _ h3, h4⟩⟩
theorem Sc.nil {B : AH} : Sc B (.slice none 0 0) [] := .inl ⟨rfl, rfl⟩
theorem rdN_some {K : Blk} {off n : Nat} {cs : List Value} (h : rdN K off n = some cs) : off + n ≤ K.cells.length ∧ cs = (K.cells.drop off).take n := by
  unfold rdN at h; split at h
  · exact ⟨by assumption, (Option.some.inj h).symm⟩
  · cases h
theorem rdN_get {K : Blk} {off n i : Nat} {cs : List Value} (h : rdN K off n = some cs) (hi : i < n) : K.cells[off + i]? = cs[i]? := by
  obtain ⟨h1, rfl⟩ := rdN_some h
  rw [List.getElem?_take_of_lt hi, List.getElem?_drop]
theorem Sc.len {B : AH} {v : Value} {cs : List Value} {e : TypeId} (hU : P.underlying t = some (.slice e)) (h : Sc B v cs) : lenV P t v = some (.int .i64 (cs.length : Nat)) := by
  rcases h with ⟨rfl, rfl⟩ | ⟨b, off, cap, rfl, _, _⟩
  · exact lenV_sl hU
  · exact lenV_sl hU
theorem ixA_sl {e : TypeId} {b off len cap : Nat} {k : IntKind} (hU : P.underlying t = some (.slice e)) (hI : (P.info? e).isSome = true) (hz : szT P e = 1) (h : 0 ≤ x ∧ x < len) :
    ixA P t (sl b off len cap) (.int k x) = some (ptr b (off + x.toNat)) := by
  unfold ixA sl; rw [hU]; simp only; rw [if_pos ⟨hI, h.1, by omega⟩, hz, Nat.mul_one]
theorem Sc.ix {B : AH} {v : Value} {cs : List Value} {e : TypeId} {k : IntKind} (hU : P.underlying t = some (.slice e)) (hI : (P.info? e).isSome = true) (hz : szT P e = 1) (ha : aggT P e = some false) (h : Sc B v cs)
    (h0 : 0 ≤ x ∧ x < cs.length) : ∃ p, ixA P t v (.int k x) = some p ∧ ∀ H', (∀ b K, blk B b = some K → blk H' b = some K) → ld P e H' p = cs[x.toNat]? := by
  rcases h with ⟨rfl, rfl⟩ | ⟨b, off, cap, rfl, hc, h⟩
  · exact absurd h0.2 (by simp; omega)
  · refine ⟨_, ixA_sl hU hI hz h0, fun H' hH => ?_⟩
    rcases h with rfl | ⟨K, h1, h2⟩
    · exact absurd h0.2 (by simp; omega)
    · rw [ld_blk (hH _ _ h1), ldK, ha]
      exact rdN_get h2 (by omega)
/-- To its end. -/
theorem Sc.from {B : AH} {v : Value} {cs : List Value} {e : TypeId} {k : IntKind} (hU : P.underlying t = some (.slice e)) (hI : (P.info? e).isSome = true) (hz : szT P e = 1) (h : Sc B v cs) (h0 : 0 ≤ x ∧ x ≤ cs.length) :
    ∃ v', slc P t v (some (.int k x)) none = some v' ∧ Sc B v' (cs.drop x.toNat) := by
  rcases h with ⟨rfl, rfl⟩ | ⟨b, off, cap, rfl, hc, h⟩
  · have : x = 0 := by simp at h0; omega
    subst this
    exact ⟨.slice none 0 0, by unfold slc; rw [hU]; simp [intOr, hI], .inl ⟨rfl, rfl⟩⟩
  · refine ⟨sl b (if cap = x.toNat then off else off + x.toNat) (cs.drop x.toNat).length (cap - x.toNat), ?_, .inr ⟨b, _, _, rfl, by rw [List.length_drop]; omega, ?_⟩⟩
    · unfold slc sl; rw [hU]; simp only [intOr, Option.bind_some]
      rw [if_pos ⟨hI, by omega, by omega, by omega⟩, hz, Nat.mul_one]
      simp
    · by_cases hd : cs.drop x.toNat = []
      · exact .inl hd
      rcases h with rfl | ⟨K, h1, h2⟩
      · exact .inl (by simp)
      · refine .inr ⟨K, h1, ?_⟩
        obtain ⟨h3, h4⟩ := rdN_some h2
        have hl : x.toNat < cs.length := Nat.lt_of_not_le fun hh => hd (List.drop_eq_nil_of_le hh)
        rw [if_neg (by omega), rdN, List.length_drop, if_pos (by omega)]
        conv => rhs; rw [h4]
        rw [List.drop_take, List.drop_drop]

/-- Digits. -/
abbrev u32 (n : Nat) : Value := .int .u32 (n : Int)
class RdN (B : outParam AH) (v : Value) (xs : outParam (List Nat)) : Prop where
  sc : Sc B v (xs.map u32)
  sm : small xs
theorem RdN.mono {B B' : AH} {v : Value} {xs : List Nat} (hm : Mo B B') (h : RdN B v xs) : RdN B' v xs := ⟨h.1.mono hm, h.2⟩
theorem RdN.nil {B : AH} : RdN B (.slice none 0 0) [] := ⟨Sc.nil, fun _ h => absurd h List.not_mem_nil⟩
theorem RdN.len {B : AH} {v : Value} {xs : List Nat} {e : TypeId} (hU : P.underlying t = some (.slice e)) (h : RdN B v xs) : lenV P t v = some (.int .i64 (xs.length : Nat)) := by
  have := h.1.len hU; rwa [List.length_map] at this
theorem RdN.ix {B : AH} {v : Value} {xs : List Nat} {e : TypeId} {k : IntKind} (hU : P.underlying t = some (.slice e)) (hI : (P.info? e).isSome = true) (hz : szT P e = 1) (ha : aggT P e = some false) (h : RdN B v xs)
    (h0 : 0 ≤ x ∧ x < xs.length) : ∃ p, ixA P t v (.int k x) = some p ∧ ∀ H', Mo B H' → ld P e H' p = some (u32 (xs.getD x.toNat 0)) := by
  obtain ⟨p, h1, h2⟩ := h.1.ix (k := k) hU hI hz ha (by rw [List.length_map]; exact h0)
  refine ⟨p, h1, fun H' hH => ?_⟩
  rw [h2 H' hH, List.getElem?_map, List.getElem?_eq_getElem (by omega), List.getD_eq_getElem?_getD, List.getElem?_eq_getElem (by omega)]; rfl
end Go.AM
set_option linter.unusedVariables false
set_option linter.unusedSimpArgs false
namespace Go.AM
variable {α β R : Type} {P : Program} {t u e : TypeId} {z : Value} {sz : Nat} {x y : Int}
/-- What append makes of such elements. -/
def gkz : Value → BK
  | .int .u8 _ => .buf
  | _ => .grow
theorem gkz_gr (z : Value) : gkz z = .grow ∨ gkz z = .buf := by
  unfold gkz
  split
  · exact .inr rfl
  · exact .inl rfl
/-- A type of slices of single cells. -/
class Elt (P : Program) (t : TypeId) (e : outParam TypeId) (z : outParam Value) (sz : outParam Nat) : Prop where
  U : P.underlying t = some (.slice e)
  I : (P.info? e).isSome = true
  S : szT P e = 1
  A : aggT P e = some false
  Z : zeroT P e = some z
  Y : byT P e = sz
  zc : isCell z = true
  zn : z.cells.toList = [z]
  K : gk P e = gkz z
theorem rep_one (z : Value) (n : Nat) : rep [z] n = List.replicate n z := by
  induction n with
  | zero => rfl
  | succ n ih => rw [rep, ih]; rfl
theorem size_cells {z : Value} (h : z.cells.toList = [z]) : z.cells.size = 1 := by rw [← Array.length_toList, h]; rfl
theorem okCells_of {z : Value} (h : isCell z = true) : okCells z = true := by
  cases z with
  | agg cs => exact absurd h (by simp [isCell])
  | _ => exact h

theorem Ev.mkS {H0 B0 B L H} {m : Nat} {f : Nat → Nat → Value → AH → Option R} {Q : R → Prop} (hE : Elt P t e z sz) (hS : St H0 B0 B L H) (hm : m * sz ≤ 281474976710656) (hm' : m ≤ 9223372036854775807)
    (h : ∀ b B' H', Mo B B' → St H0 B0 B' ((b, ⟨List.replicate m z, e, .fix⟩) :: L) H' → Ev (fun k n => f k n (sl b 0 m m) H') Q) :
    Ev (fun k n => Go.AM.b2 (Go.AM.mkS P t H (.int .i64 (m : Int)) (.int .i64 (m : Int))) (f k n)) Q := by
  obtain ⟨B', hm1, hS'⟩ := hS.mkB (List.replicate m z) e .fix
  refine Ev.prim2 ?_ (h H.length B' _ hm1 hS')
  unfold Go.AM.mkS
  rw [hE.U]; simp only [hE.Z, hE.Y, hE.S, hE.zn, Option.bind_some, rep_one]
  rw [if_pos ⟨by omega, by omega, by omega, by omega, size_cells hE.zn, okCells_of hE.zc⟩]
  simp
theorem Ev.buildS {H0 B0 B L H} {m : Nat} {parts : List (Nat × Value)} {cs : List Value} {f : Nat → Nat → Value → AH → Option R} {Q : R → Prop} (hE : Elt P t e z sz) (hS : St H0 B0 B L H) (hm : m ≤ 16777216)
    (hf : fillB (fun i => some (i * 1, 1)) (List.replicate m z) parts = some cs)
    (h : ∀ b B' H', Mo B B' → St H0 B0 B' ((b, ⟨cs, e, .fix⟩) :: L) H' → Ev (fun k n => f k n (sl b 0 m m) H') Q) :
    Ev (fun k n => Go.AM.b2 (Go.AM.buildS P t H m parts) (f k n)) Q := by
  obtain ⟨B', hm1, hS'⟩ := hS.mkB cs e .fix
  refine Ev.prim2 ?_ (h H.length B' _ hm1 hS')
  unfold Go.AM.buildS
  rw [hE.U]; simp only [hE.Z, hE.S, hE.zn, Option.bind_some, rep_one]
  rw [if_pos ⟨by omega, size_cells hE.zn⟩, hf]; rfl

theorem sliceCells_of {H : AH} {v : Value} {cs : List Value} (h : Sc H v cs) : sliceCells 1 H v cs.length = some cs := by
  rcases h with ⟨rfl, rfl⟩ | ⟨b, off, cap, rfl, hc, h⟩
  · rfl
  · show (if cs.length = 0 then some [] else if cs.length ≤ cs.length then (blk H b).bind fun k => rdN k off (cs.length * 1) else none) = some cs
    by_cases hn : cs.length = 0
    · rw [if_pos hn, List.length_eq_zero_iff.mp hn]
    · rw [if_neg hn, if_pos (Nat.le_refl _)]
      rcases h with rfl | ⟨K, h1, h2⟩
      · exact absurd rfl hn
      · rw [h1, Option.bind_some, Nat.mul_one, h2]
theorem lenOf_of {H : AH} {v : Value} {cs : List Value} (h : Sc H v cs) : lenOf v = some cs.length := by
  rcases h with ⟨rfl, rfl⟩ | ⟨b, off, cap, rfl, hc, h⟩ <;> rfl
theorem isNotStr_of {H : AH} {v : Value} {cs : List Value} (h : Sc H v cs) : isNotStr v = true := by
  rcases h with ⟨rfl, rfl⟩ | ⟨b, off, cap, rfl, hc, h⟩ <;> rfl
theorem ap_eq {u' : TypeId} {H : AH} {s v : Value} {ds : List Value} (hE : Elt P t e z sz) (hu : P.underlying u = some (.slice u')) (hx : Sc H v ds) (hd : ds.all isCell = true) :
    ap P t u H s v = apS (gkz z) 1 sz e H s ds.length ds := by
  unfold ap
  rw [hE.U, hu]
  simp only [hE.Z, hE.S, hE.Y, hE.K, Option.bind_some]
  rw [if_pos ⟨by omega, size_cells hE.zn, isNotStr_of hx⟩, lenOf_of hx, Option.bind_some, sliceCells_of hx, Option.bind_some, if_pos hd]
/-- Onto what has no room. -/
theorem Ev.apNew {H0 B0 B L H} {u' : TypeId} {s v : Value} {ds : List Value} {f : Nat → Nat → Value → AH → Option R} {Q : R → Prop} (hE : Elt P t e z sz) (hu : P.underlying u = some (.slice u')) (hS : St H0 B0 B L H)
    (hs : s = .slice none 0 0 ∨ ∃ b off n, s = sl b off n 0) (hx : Sc H v ds) (hd : ds.all isCell = true) (hn : ds ≠ []) (hl : ds.length * sz ≤ 140737488355328 ∧ ds.length ≤ 9223372036854775807)
    (h : ∀ b B' H', Mo B B' → St H0 B0 B' ((b, ⟨ds, e, gkz z⟩) :: L) H' → Ev (fun k n => f k n (sl b 0 ds.length (ds.length + 1)) H') Q) :
    Ev (fun k n => Go.AM.b2 (Go.AM.ap P t u H s v) (f k n)) Q := by
  obtain ⟨B', hm1, hS'⟩ := hS.mkB ds e (gkz z)
  refine Ev.prim2 ?_ (h H.length B' _ hm1 hS')
  rw [ap_eq hE hu hx hd]
  have hn' : ds.length ≠ 0 := fun e => hn (List.length_eq_zero_iff.mp e)
  rcases hs with rfl | ⟨b, off, n, rfl⟩
  · simp only [apS, if_neg hn', if_pos hl]
  · simp only [apS, sl, if_neg hn', if_pos hl, if_true]
/-- Onto what is full. -/
theorem Ev.apFull {H0 B0 B L H} {u' : TypeId} {b : Nat} {cs : List Value} {v : Value} {ds : List Value} {f : Nat → Nat → Value → AH → Option R} {Q : R → Prop} (hE : Elt P t e z sz) (hu : P.underlying u = some (.slice u')) (hS : St H0 B0 B L H)
    (hb : blk H b = some ⟨cs, e, .fix⟩) (hc : cs ≠ []) (hx : Sc H v ds) (hd : ds.all isCell = true) (hn : ds ≠ []) (hl : (cs.length + ds.length) * sz ≤ 140737488355328 ∧ cs.length + ds.length ≤ 9223372036854775807)
    (h : ∀ b B' H', Mo B B' → St H0 B0 B' ((b, ⟨cs ++ ds, e, gkz z⟩) :: L) H' → Ev (fun k n => f k n (sl b 0 (cs ++ ds).length ((cs ++ ds).length + 1)) H') Q) :
    Ev (fun k n => Go.AM.b2 (Go.AM.ap P t u H (sl b 0 cs.length cs.length) v) (f k n)) Q := by
  obtain ⟨B', hm1, hS'⟩ := hS.mkB (cs ++ ds) e (gkz z)
  refine Ev.prim2 ?_ (h H.length B' _ hm1 hS')
  rw [ap_eq hE hu hx hd]
  have hn' : ds.length ≠ 0 := fun e => hn (List.length_eq_zero_iff.mp e)
  have hc' : cs.length ≠ 0 := fun e => hc (List.length_eq_zero_iff.mp e)
  simp only [apS, sl, if_neg hn', if_neg hc', hb, Option.bind_some, rdN, Nat.mul_one, Nat.zero_add, Nat.le_refl, if_true, List.drop_zero, List.take_length, hl, and_self, List.length_append]
  rw [if_neg (by omega)]
/-- Onto what was grown. -/
theorem Ev.apGrow {H0 B0 B L H} {u' : TypeId} {b cap : Nat} {cs : List Value} {v : Value} {ds : List Value} {f : Nat → Nat → Value → AH → Option R} {Q : R → Prop} (hE : Elt P t e z sz) (hu : P.underlying u = some (.slice u'))
    (hS : St H0 B0 B ((b, ⟨cs, e, gkz z⟩) :: L) H) (hc : cap ≠ 0) (hx : Sc H v ds) (hd : ds.all isCell = true) (hn : ds ≠ []) (hl : (cs.length + ds.length) * sz ≤ 140737488355328 ∧ cs.length + ds.length ≤ 9223372036854775807)
    (h : ∀ b B' H', Mo B B' → St H0 B0 B' ((b, ⟨cs ++ ds, e, gkz z⟩) :: L) H' → Ev (fun k n => f k n (sl b 0 (cs ++ ds).length ((cs ++ ds).length + 1)) H') Q) :
    Ev (fun k n => Go.AM.b2 (Go.AM.ap P t u H (sl b 0 cs.length cap) v) (f k n)) Q := by
  have hb := hS.get (.head _)
  obtain ⟨B', hm1, hS'⟩ := hS.kill.mkB (cs ++ ds) e (gkz z)
  rw [length_kill] at hS'
  refine Ev.prim2 ?_ (h H.length B' _ hm1 hS')
  rw [ap_eq hE hu hx hd]
  have hn' : ds.length ≠ 0 := fun e => hn (List.length_eq_zero_iff.mp e)
  rcases gkz_gr z with hg | hg <;>
    simp only [apS, sl, if_neg hn', if_neg hc, hb, hg, Option.bind_some, rdN, Nat.mul_one, Nat.zero_add, Nat.le_refl, if_true, List.drop_zero, List.take_length, hl, and_self, List.length_append]

theorem St.sc {H0 B0 B L H} {b cap : Nat} {cs : List Value} {kd : BK} (hS : St H0 B0 B L H) (hm : (b, ⟨cs, e, kd⟩) ∈ L) (hc : cs.length ≤ cap) : Sc H (sl b 0 cs.length cap) cs :=
  .inr ⟨b, 0, cap, rfl, hc, .inr ⟨_, hS.get hm, by simp [rdN]⟩⟩
theorem Sc.up {B H : AH} {v : Value} {cs : List Value} (h : Sc B v cs) (hL : Mo B H) : Sc H v cs := h.mono hL
/-- Nobody changes it any more. -/
theorem St.freezeSc {H0 B0 B L H} {b cap : Nat} {cs : List Value} {kd : BK} (hS : St H0 B0 B ((b, ⟨cs, e, kd⟩) :: L) H) (hc : cs.length ≤ cap) : ∃ B', Mo B B' ∧ Sc B' (sl b 0 cs.length cap) cs ∧ St H0 B0 B' L H := by
  obtain ⟨B', h1, h2, h3⟩ := hS.freeze
  exact ⟨B', h1, .inr ⟨b, 0, cap, rfl, hc, .inr ⟨_, h2, by simp [rdN]⟩⟩, h3⟩

theorem ixA_own {b off len cap : Nat} {k : IntKind} {i : Nat} (hE : Elt P t e z sz) (h : i < len) : ixA P t (sl b off len cap) (.int k (i : Int)) = some (ptr b (off + i)) := by
  rw [ixA_sl hE.U hE.I hE.S (by omega)]; simp
theorem stK_own {cs : List Value} {i : Nat} {v : Value} (hE : Elt P t e z sz) (h : i < cs.length) (hv : isCell v = true) : stK P e cs i v = some (cs.set i v) := by
  unfold stK; rw [hE.A]; simp only; rw [if_pos ⟨hE.S, h, hv⟩]
theorem St.freezeN {H0 B0 B L H} {b cap n : Nat} {xs : List Nat} {kd : BK} (hS : St H0 B0 B ((b, ⟨xs.map u32, e, kd⟩) :: L) H) (hs : small xs) (hn : n = xs.length) (hc : xs.length ≤ cap) : ∃ B', Mo B B' ∧ RdN B' (sl b 0 n cap) xs ∧ St H0 B0 B' L H := by
  obtain ⟨B', h1, h2, h3⟩ := hS.freezeSc (cap := cap) (by rw [List.length_map]; exact hc)
  rw [List.length_map, ← hn] at h2
  exact ⟨B', h1, ⟨h2, hs⟩, h3⟩
theorem all_u32 (xs : List Nat) : (xs.map u32).all isCell = true := by simp [isCell]
end Go.AM
set_option linter.unusedVariables false
set_option linter.unusedSimpArgs false
namespace Go.AM
variable {α β R : Type} {P : Program} {t s d : TypeId} {a b : Nat}
abbrev i64 (n : Nat) : Value := .int .i64 (n : Int)
abbrev u64 (n : Nat) : Value := .int .u64 (n : Int)
abbrev u8 (n : Nat) : Value := .int .u8 (n : Int)
theorem addN (h : a + b < 9223372036854775808) : bin P .add t (i64 a) (i64 b) = some (i64 (a + b)) := by rw [bin_add64 (by omega)]; rfl
theorem subN (h : b ≤ a ∧ a < 9223372036854775808) : bin P .sub t (i64 a) (i64 b) = some (i64 (a - b)) := by rw [bin_sub64 (by omega), show ((a : Int) - (b : Int)) = ((a - b : Nat) : Int) by omega]
theorem mulN (h : a * b < 9223372036854775808) : bin P .mul t (i64 a) (i64 b) = some (i64 (a * b)) := by
  rw [bin_mul64 (by rw [← Int.natCast_mul]; omega), ← Int.natCast_mul]
theorem lssN {k : IntKind} : bin P .lss t (.int k (a : Int)) (.int k (b : Int)) = some (.bool (decide (a < b))) := by rw [bin_lss]; simp
theorem leqN {k : IntKind} : bin P .leq t (.int k (a : Int)) (.int k (b : Int)) = some (.bool (decide (a ≤ b))) := by rw [bin_leq]; simp
theorem gtrN {k : IntKind} : bin P .gtr t (.int k (a : Int)) (.int k (b : Int)) = some (.bool (decide (b < a))) := by rw [bin_gtr]; simp
theorem geqN {k : IntKind} : bin P .geq t (.int k (a : Int)) (.int k (b : Int)) = some (.bool (decide (b ≤ a))) := by rw [bin_geq]; simp
theorem eqlN {k : IntKind} : bin P .eql t (.int k (a : Int)) (.int k (b : Int)) = some (.bool (decide (a = b))) := by
  rw [bin_eql]; congr 2; exact decide_eq_decide.mpr (by omega)
theorem neqN {k : IntKind} : bin P .neq t (.int k (a : Int)) (.int k (b : Int)) = some (.bool (decide (a ≠ b))) := by
  rw [bin_neq]; congr 2; exact decide_eq_decide.mpr (by omega)
theorem quoN (h : b ≠ 0 ∧ a < 9223372036854775808) : bin P .quo t (i64 a) (i64 b) = some (i64 (a / b)) := by
  rw [bin_quo (by omega)]
  have e : (a : Int).tdiv (b : Int) = ((a / b : Nat) : Int) := by rw [Int.tdiv_eq_ediv_of_nonneg (by omega)]; omega
  have : a / b ≤ a := Nat.div_le_self ..
  rw [e]; generalize a / b = q at this ⊢; rw [wrap64 (by omega)]
theorem remN {k : IntKind} (h : b ≠ 0) : bin P .rem t (.int k (a : Int)) (.int k (b : Int)) = some (.int k ((a % b : Nat) : Int)) := by
  rw [bin_rem (by omega)]
  have e : (a : Int).tmod (b : Int) = ((a % b : Nat) : Int) := by rw [Int.tmod_eq_emod_of_nonneg (by omega)]; omega
  rw [e]
theorem quoQ (h : b ≠ 0 ∧ a < 18446744073709551616) : bin P .quo t (u64 a) (u64 b) = some (u64 (a / b)) := by
  rw [bin_quo (by omega)]
  have e : (a : Int).tdiv (b : Int) = ((a / b : Nat) : Int) := by rw [Int.tdiv_eq_ediv_of_nonneg (by omega)]; omega
  have : a / b ≤ a := Nat.div_le_self ..
  rw [e]; generalize a / b = q at this ⊢; rw [wrapu64, show (q : Int) % 18446744073709551616 = (q : Int) by omega]
theorem addQ (h : a + b < 18446744073709551616) : bin P .add t (u64 a) (u64 b) = some (u64 (a + b)) := by
  rw [bin_add, wrapu64, show ((a : Int) + (b : Int)) % 18446744073709551616 = ((a + b : Nat) : Int) by omega]
theorem subQ (h : b ≤ a ∧ a < 18446744073709551616) : bin P .sub t (u64 a) (u64 b) = some (u64 (a - b)) := by
  rw [bin_sub, wrapu64, show ((a : Int) - (b : Int)) % 18446744073709551616 = ((a - b : Nat) : Int) by omega]
theorem mulQ (h : a * b < 18446744073709551616) : bin P .mul t (u64 a) (u64 b) = some (u64 (a * b)) := by
  rw [bin_mul, wrapu64, ← Int.natCast_mul, show ((a * b : Nat) : Int) % 18446744073709551616 = ((a * b : Nat) : Int) by omega]
theorem toU64 {D : TypeDesc} {k : IntKind} (h : a < 18446744073709551616) (hs : P.underlying s = some D) (hd : P.underlying d = some (.int .u64)) : cv P s d (.int k (a : Int)) = some (u64 a) := by
  rw [cv_int hs hd, wrapu64, show (a : Int) % 18446744073709551616 = (a : Int) by omega]
theorem toU32 {D : TypeDesc} {k : IntKind} (hs : P.underlying s = some D) (hd : P.underlying d = some (.int .u32)) : cv P s d (.int k (a : Int)) = some (u32 (a % 4294967296)) := by
  rw [cv_int hs hd, wrapu32]; rfl
theorem toU8 {D : TypeDesc} {k : IntKind} (hs : P.underlying s = some D) (hd : P.underlying d = some (.int .u8)) : cv P s d (.int k (a : Int)) = some (u8 (a % 256)) := by
  rw [cv_int hs hd, wrapu8]; rfl
theorem toI64 {D : TypeDesc} {k : IntKind} (h : a < 9223372036854775808) (hs : P.underlying s = some D) (hd : P.underlying d = some (.int .i64)) : cv P s d (.int k (a : Int)) = some (i64 a) := by
  rw [cv_int hs hd, wrap64 (by omega)]
def Pu (H : AH) (Post : Value → Prop) (r : Value × AH) : Prop := ∃ v, r = (v, H) ∧ Post v
theorem Pu.an {B H : AH} {Post : Value → Prop} {g : Nat → Nat → Option (Value × AH)} (hL : Le B H) (h : Ev g (Pu H Post)) : Ev g (An B H fun _ => Post) :=
  h.mono fun r ⟨v, e, hv⟩ => by subst e; exact (St.start hL).an hv
end Go.AM
set_option linter.unusedVariables false
namespace Go.AM
variable {α β R : Type} {P : Program} {t s d : TypeId} {a n : Nat}
section
variable {k : IntKind}
theorem lssL : bin P .lss t (.int k (a : Int)) (.int k (@OfNat.ofNat Int n instOfNat)) = some (.bool (decide (a < @OfNat.ofNat Nat n (instOfNatNat n)))) := lssN
theorem leqL : bin P .leq t (.int k (a : Int)) (.int k (@OfNat.ofNat Int n instOfNat)) = some (.bool (decide (a ≤ @OfNat.ofNat Nat n (instOfNatNat n)))) := leqN
theorem gtrL : bin P .gtr t (.int k (a : Int)) (.int k (@OfNat.ofNat Int n instOfNat)) = some (.bool (decide (@OfNat.ofNat Nat n (instOfNatNat n) < a))) := gtrN
theorem geqL : bin P .geq t (.int k (a : Int)) (.int k (@OfNat.ofNat Int n instOfNat)) = some (.bool (decide (@OfNat.ofNat Nat n (instOfNatNat n) ≤ a))) := geqN
theorem eqlL : bin P .eql t (.int k (a : Int)) (.int k (@OfNat.ofNat Int n instOfNat)) = some (.bool (decide (a = @OfNat.ofNat Nat n (instOfNatNat n)))) := eqlN
theorem neqL : bin P .neq t (.int k (a : Int)) (.int k (@OfNat.ofNat Int n instOfNat)) = some (.bool (decide (a ≠ @OfNat.ofNat Nat n (instOfNatNat n)))) := neqN
theorem remL (h : @OfNat.ofNat Nat n (instOfNatNat n) ≠ 0) : bin P .rem t (.int k (a : Int)) (.int k (@OfNat.ofNat Int n instOfNat)) = some (.int k ((a % @OfNat.ofNat Nat n (instOfNatNat n) : Nat) : Int)) := remN h
end
theorem addL (h : a + @OfNat.ofNat Nat n (instOfNatNat n) < 9223372036854775808) : bin P .add t (i64 a) (.int .i64 (@OfNat.ofNat Int n instOfNat)) = some (i64 (a + @OfNat.ofNat Nat n (instOfNatNat n))) := addN h
theorem subL (h : @OfNat.ofNat Nat n (instOfNatNat n) ≤ a ∧ a < 9223372036854775808) : bin P .sub t (i64 a) (.int .i64 (@OfNat.ofNat Int n instOfNat)) = some (i64 (a - @OfNat.ofNat Nat n (instOfNatNat n))) := subN h
theorem lmul (h : @OfNat.ofNat Nat n (instOfNatNat n) * a < 9223372036854775808) : bin P .mul t (.int .i64 (@OfNat.ofNat Int n instOfNat)) (i64 a) = some (i64 (@OfNat.ofNat Nat n (instOfNatNat n) * a)) := mulN h
theorem mulL (h : a * @OfNat.ofNat Nat n (instOfNatNat n) < 9223372036854775808) : bin P .mul t (i64 a) (.int .i64 (@OfNat.ofNat Int n instOfNat)) = some (i64 (a * @OfNat.ofNat Nat n (instOfNatNat n))) := mulN h
theorem quoL (h : @OfNat.ofNat Nat n (instOfNatNat n) ≠ 0 ∧ a < 9223372036854775808) : bin P .quo t (i64 a) (.int .i64 (@OfNat.ofNat Int n instOfNat)) = some (i64 (a / @OfNat.ofNat Nat n (instOfNatNat n))) := quoN h
end Go.AM
namespace Go.AM
variable {P : Program} {t e : TypeId} {z : Value} {sz : Nat}
theorem RdN.ixN {B : AH} {v : Value} {xs : List Nat} {k : IntKind} {i : Nat} (h : RdN B v xs) (hE : Elt P t e z sz) (h0 : i < xs.length) : ∃ p, ixA P t v (.int k (i : Int)) = some p ∧ ∀ H', Mo B H' → ld P e H' p = some (u32 (xs.getD i 0)) := by
  obtain ⟨p, h1, h2⟩ := h.ix (x := (i : Int)) (k := k) hE.U hE.I hE.S hE.A (by omega)
  exact ⟨p, h1, fun H' hm => by have := h2 H' hm; rwa [Int.toNat_natCast] at this⟩
theorem RdN.lenN {B : AH} {v : Value} {xs : List Nat} (h : RdN B v xs) (hE : Elt P t e z sz) : lenV P t v = some (i64 xs.length) := h.len hE.U
end Go.AM
set_option linter.unusedVariables false
set_option linter.unusedVariables false
namespace Go.AM
variable {R : Type} {P : Program} {t : TypeId}
theorem cells_one {v : Value} (h : isCell v = true) : v.cells.toList = [v] := by
  cases v with
  | agg cs => exact absurd h (by simp [isCell])
  | tuple cs => exact absurd h (by simp [isCell])
  | _ => rfl
theorem RdN.cell {B : AH} {v : Value} {xs : List Nat} (h : RdN B v xs) : isCell v = true := by
  rcases h.1 with ⟨rfl, _⟩ | ⟨b, off, cap, rfl, _⟩ <;> rfl
end Go.AM
set_option linter.unusedVariables false
set_option linter.unusedSimpArgs false
namespace Go.AM
variable {α β R : Type} {P : Program}

class PrimEq (E : Option α) (a : outParam α) : Prop where
  eq : E = some a
class PrimC (E : Option α) (p : outParam Prop) (a : outParam α) : Prop where
  eq : p → E = some a
class IsCell (v : Value) : Prop where
  is : isCell v = true
class Nth (cs : List Value) (i : Nat) (v : outParam Value) : Prop where
  eq : cs[i]? = some v
class InL (b : Nat) (K : outParam Blk) (L : List (Nat × Blk)) : Prop where
  mem : (b, K) ∈ L
class UpL (b : Nat) (K : outParam Blk) (K' : Blk) (L : List (Nat × Blk)) (L' : outParam (List (Nat × Blk))) : Prop where
  upd : Upd b K K' L L'
class CellsOf (v : Value) (l : outParam (List Value)) : Prop where
  eq : v.cells.toList = l
  ok : okCells v = true
/-- A type's nought. -/
class ZeroOf (P : Program) (t : TypeId) (z : outParam Value) : Prop where
  eq : zeroT P t = some z
class AggOf (P : Program) (t : TypeId) (b : outParam Bool) : Prop where
  eq : aggT P t = some b
class SzOf (P : Program) (t : TypeId) (n : outParam Nat) : Prop where
  eq : szT P t = n
/-- Cells from one on. -/
class Cut (cs : List Value) (off n : Nat) (l : outParam (List Value)) : Prop where
  le : off + n ≤ cs.length
  eq : (cs.drop off).take n = l
class AllCell (l : List Value) : Prop where
  all : l.all isCell = true
class Und (P : Program) (t : TypeId) (D : outParam TypeDesc) : Prop where
  eq : P.underlying t = some D

instance {n : Int} {k : IntKind} : IsCell (.int k n) := ⟨rfl⟩
instance {b : Bool} : IsCell (.bool b) := ⟨rfl⟩
instance {s : ByteArray} : IsCell (.string s) := ⟨rfl⟩
instance {p : Option Addr} {n c : Nat} : IsCell (.slice p n c) := ⟨rfl⟩
instance {b o n c : Nat} : IsCell (sl b o n c) := ⟨rfl⟩
instance {b o : Nat} : IsCell (ptr b o) := ⟨rfl⟩
instance {p : Option Addr} : IsCell (.pointer p) := ⟨rfl⟩
instance {c : Fn} {x y : Array Value} : IsCell (.func c x y) := ⟨rfl⟩
instance : IsCell .nilFunc := ⟨rfl⟩
instance {B : AH} {v : Value} {xs : List Nat} [h : RdN B v xs] : IsCell v := ⟨h.cell⟩
instance : AllCell [] := ⟨rfl⟩
instance {v : Value} {l : List Value} [h : IsCell v] [k : AllCell l] : AllCell (v :: l) := ⟨by simp only [List.all_cons, h.is, k.all]; rfl⟩
instance {l : List Value} [h : AllCell l] : CellsOf (.agg (List.toArray l)) l := ⟨rfl, h.all⟩
instance (priority := low) {v : Value} [h : IsCell v] : CellsOf v [v] := ⟨cells_one h.is, okCells_of h.is⟩
instance {a : Value} {l : List Value} : Nth (a :: l) 0 a := ⟨rfl⟩
instance {a v : Value} {l : List Value} {n : Nat} [h : Nth l n v] : Nth (a :: l) (n + 1) v := ⟨h.eq⟩
instance {b : Nat} {K : Blk} {L : List (Nat × Blk)} : InL b K ((b, K) :: L) := ⟨.head _⟩
instance (priority := low) {b : Nat} {K : Blk} {x : Nat × Blk} {L : List (Nat × Blk)} [h : InL b K L] : InL b K (x :: L) := ⟨.tail _ h.mem⟩
instance {b : Nat} {K K' : Blk} {L : List (Nat × Blk)} : UpL b K K' ((b, K) :: L) ((b, K') :: L) := ⟨.head _⟩
instance (priority := low) {b : Nat} {K K' : Blk} {x : Nat × Blk} {L L' : List (Nat × Blk)} [h : UpL b K K' L L'] : UpL b K K' (x :: L) (x :: L') := ⟨.tail _ h.upd⟩
class CutN (cs : List Value) (n : Nat) (l : outParam (List Value)) : Prop where
  le : n ≤ cs.length
  eq : cs.take n = l
instance {cs : List Value} : CutN cs 0 [] := ⟨Nat.zero_le _, rfl⟩
instance {a : Value} {cs l : List Value} {n : Nat} [h : CutN cs n l] : CutN (a :: cs) (n + 1) (a :: l) := ⟨Nat.succ_le_succ h.le, by rw [List.take_succ_cons, h.eq]⟩
instance {cs l : List Value} {n : Nat} [h : CutN cs n l] : Cut cs 0 n l := ⟨by rw [Nat.zero_add]; exact h.le, h.eq⟩
instance {a : Value} {cs l : List Value} {off n : Nat} [h : Cut cs off n l] : Cut (a :: cs) (off + 1) n l := ⟨by have := h.le; simp only [List.length_cons]; omega, h.eq⟩
/-- Cells put over others. -/
class SplN (cs l : List Value) (r : outParam (List Value)) : Prop where
  le : l.length ≤ cs.length
  eq : l ++ cs.drop l.length = r
instance {cs : List Value} : SplN cs [] cs := ⟨Nat.zero_le _, rfl⟩
instance {a b : Value} {cs l r : List Value} [h : SplN cs l r] : SplN (a :: cs) (b :: l) (b :: r) := ⟨Nat.succ_le_succ h.le, by rw [List.length_cons, List.drop_succ_cons, List.cons_append, h.eq]⟩
class Spl (cs : List Value) (off : Nat) (l : List Value) (r : outParam (List Value)) : Prop where
  le : off + l.length ≤ cs.length
  eq : spl cs off l = r
instance {cs l r : List Value} [h : SplN cs l r] : Spl cs 0 l r := ⟨by rw [Nat.zero_add]; exact h.le, by unfold spl; rw [List.take_zero, List.nil_append, Nat.zero_add]; exact h.eq⟩
instance {a : Value} {cs l r : List Value} {off : Nat} [h : Spl cs off l r] : Spl (a :: cs) (off + 1) l (a :: r) :=
  ⟨by have := h.le; simp only [List.length_cons]; omega, by have := h.eq; unfold spl at this ⊢; rw [← this, Nat.add_right_comm, List.drop_succ_cons, List.take_succ_cons, List.cons_append]⟩

instance {t : TypeId} {cs : List Value} {off : Nat} {v : Value} [h : AggOf P t false] [k : Nth cs off v] : PrimEq (ldK P t cs off) v := ⟨by unfold ldK; rw [h.eq]; exact k.eq⟩
instance {t : TypeId} {cs l : List Value} {off n : Nat} [h : AggOf P t true] [s : SzOf P t n] [k : Cut cs off n l] : PrimEq (ldK P t cs off) (.agg (List.toArray l)) := ⟨by
  unfold ldK; rw [h.eq, s.eq]; simp only; rw [if_pos k.le, k.eq]⟩
instance {t : TypeId} {cs r : List Value} {off : Nat} {v : Value} [h : AggOf P t false] [s : SzOf P t 1] [c : IsCell v] [k : Spl cs off [v] r] : PrimEq (stK P t cs off v) r := ⟨by
  have hl : off < cs.length := by have := k.le; simp only [List.length_cons, List.length_nil] at this; omega
  unfold stK; rw [h.eq]; simp only; rw [if_pos ⟨s.eq, hl, c.is⟩, ← k.eq]
  unfold spl
  rw [List.set_eq_take_append_cons_drop, if_pos hl]; rfl⟩
instance {t : TypeId} {cs l r : List Value} {off n : Nat} [h : AggOf P t true] [s : SzOf P t n] [c : AllCell l] [k : Spl cs off l r] [hn : CutN l n l] : PrimEq (stK P t cs off (.agg (List.toArray l))) r := ⟨by
  have e : l.length = n := by have h1 := hn.le; have h2 := congrArg List.length hn.eq; rw [List.length_take] at h2; omega
  unfold stK; rw [h.eq]; simp only; rw [if_pos ⟨by rw [s.eq, ← e]; exact k.le, by rw [s.eq, ← e]; rfl, c.all⟩, ← k.eq]⟩
instance {H0 B0 B : AH} {L : List (Nat × Blk)} {H : AH} {b off : Nat} {K : Blk} {v : Value} {t : TypeId} [hS : St H0 B0 B L H] [hm : InL b K L] [hv : PrimEq (ldK P t K.cells off) v] : PrimEq (ld P t H (ptr b off)) v :=
  ⟨(ld_blk (hS.get hm.mem)).trans hv.eq⟩
theorem Ev.stC {H0 B0 B : AH} {L L' : List (Nat × Blk)} {H : AH} {b off : Nat} {cs0 : List Value} {e : TypeId} {v : Value} {cs : List Value} {t : TypeId} {f : Nat → Nat → AH → Option R} {Q : R → Prop} [hS : St H0 B0 B L H] [hm : InL b ⟨cs0, e, .fix⟩ L] [hs : PrimEq (stK P t cs0 off v) cs]
    [hu : UpL b ⟨cs0, e, .fix⟩ ⟨cs, e, .fix⟩ L L'] (h : ∀ H', St H0 B0 B L' H' → Ev (fun k n => f k n H') Q) : Ev (fun k n => (Go.AM.st P t H (ptr b off) v).bind (f k n)) Q :=
  Ev.st hS hm.mem hs.eq rfl hu.upd h
theorem Ev.newC {H0 B0 B : AH} {L : List (Nat × Blk)} {H : AH} {t : TypeId} {z : Value} {l : List Value} {f : Nat → Nat → Value → AH → Option R} {Q : R → Prop} [hz : ZeroOf P t z] [hl : CellsOf z l] [hS : St H0 B0 B L H]
    (h : ∀ b H', St H0 B0 B ((b, ⟨l, t, .fix⟩) :: L) H' → Ev (fun k n => f k n (ptr b 0) H') Q) : Ev (fun k n => Go.AM.b2 (Go.AM.newV P t H) (f k n)) Q := by
  have e : Go.AM.newV P t H = Go.AM.box t H z := by unfold Go.AM.newV; rw [hz.eq]; rfl
  rw [e]
  exact Ev.prim2 (by unfold Go.AM.box; rw [if_pos hl.ok, hl.eq]) (h H.length _ (hS.mkB' l t .fix))
theorem Ev.boxC {H0 B0 B : AH} {L : List (Nat × Blk)} {H : AH} {t : TypeId} {v : Value} {l : List Value} {f : Nat → Nat → Value → AH → Option R} {Q : R → Prop} [hl : CellsOf v l] [hS : St H0 B0 B L H]
    (h : ∀ b H', St H0 B0 B ((b, ⟨l, t, .fix⟩) :: L) H' → Ev (fun k n => f k n (ptr b 0) H') Q) : Ev (fun k n => Go.AM.b2 (Go.AM.box t H v) (f k n)) Q :=
  Ev.prim2 (by unfold Go.AM.box; rw [if_pos hl.ok, hl.eq]) (h H.length _ (hS.mkB' l t .fix))

section
variable {t s d : TypeId} {a b n : Nat} {x y : Int} {k k' : IntKind}
instance (priority := 900) : PrimEq (bin P .lss t (.int k (a : Int)) (.int k (no_index (@OfNat.ofNat Int n instOfNat)))) (.bool (decide (a < @OfNat.ofNat Nat n (instOfNatNat n)))) := ⟨lssL⟩
instance (priority := 900) : PrimEq (bin P .leq t (.int k (a : Int)) (.int k (no_index (@OfNat.ofNat Int n instOfNat)))) (.bool (decide (a ≤ @OfNat.ofNat Nat n (instOfNatNat n)))) := ⟨leqL⟩
instance (priority := 900) : PrimEq (bin P .gtr t (.int k (a : Int)) (.int k (no_index (@OfNat.ofNat Int n instOfNat)))) (.bool (decide (@OfNat.ofNat Nat n (instOfNatNat n) < a))) := ⟨gtrL⟩
instance (priority := 900) : PrimEq (bin P .geq t (.int k (a : Int)) (.int k (no_index (@OfNat.ofNat Int n instOfNat)))) (.bool (decide (@OfNat.ofNat Nat n (instOfNatNat n) ≤ a))) := ⟨geqL⟩
instance (priority := 900) : PrimEq (bin P .eql t (.int k (a : Int)) (.int k (no_index (@OfNat.ofNat Int n instOfNat)))) (.bool (decide (a = @OfNat.ofNat Nat n (instOfNatNat n)))) := ⟨eqlL⟩
instance (priority := 900) : PrimEq (bin P .neq t (.int k (a : Int)) (.int k (no_index (@OfNat.ofNat Int n instOfNat)))) (.bool (decide (a ≠ @OfNat.ofNat Nat n (instOfNatNat n)))) := ⟨neqL⟩
instance (priority := 2000) : PrimEq (bin P .eql t (.int k x) (.int k x)) (.bool true) := ⟨by rw [bin_eql, decide_eq_true rfl]⟩
instance (priority := 2000) : PrimEq (bin P .neq t (.int k x) (.int k x)) (.bool false) := ⟨by rw [bin_neq, decide_eq_false (fun h => h rfl)]⟩
instance : PrimEq (bin P .lss t (.int k (a : Int)) (.int k (b : Int))) (.bool (decide (a < b))) := ⟨lssN⟩
instance : PrimEq (bin P .leq t (.int k (a : Int)) (.int k (b : Int))) (.bool (decide (a ≤ b))) := ⟨leqN⟩
instance : PrimEq (bin P .gtr t (.int k (a : Int)) (.int k (b : Int))) (.bool (decide (b < a))) := ⟨gtrN⟩
instance : PrimEq (bin P .geq t (.int k (a : Int)) (.int k (b : Int))) (.bool (decide (b ≤ a))) := ⟨geqN⟩
instance : PrimEq (bin P .eql t (.int k (a : Int)) (.int k (b : Int))) (.bool (decide (a = b))) := ⟨eqlN⟩
instance : PrimEq (bin P .neq t (.int k (a : Int)) (.int k (b : Int))) (.bool (decide (a ≠ b))) := ⟨neqN⟩
instance (priority := 100) : PrimEq (bin P .lss t (.int k x) (.int k y)) (.bool (decide (x < y))) := ⟨bin_lss⟩
instance (priority := 100) : PrimEq (bin P .leq t (.int k x) (.int k y)) (.bool (decide (x ≤ y))) := ⟨bin_leq⟩
instance (priority := 100) : PrimEq (bin P .gtr t (.int k x) (.int k y)) (.bool (decide (y < x))) := ⟨bin_gtr⟩
instance (priority := 100) : PrimEq (bin P .geq t (.int k x) (.int k y)) (.bool (decide (y ≤ x))) := ⟨bin_geq⟩
instance (priority := 100) : PrimEq (bin P .eql t (.int k x) (.int k y)) (.bool (decide (x = y))) := ⟨bin_eql⟩
instance (priority := 100) : PrimEq (bin P .neq t (.int k x) (.int k y)) (.bool (decide (x ≠ y))) := ⟨bin_neq⟩
instance (priority := low) {b : Bool} : PrimEq (un P .not (.bool b)) (.bool (!b)) := ⟨un_not⟩
instance : PrimEq (un P .not (.bool true)) (.bool false) := ⟨un_not⟩
instance : PrimEq (un P .not (.bool false)) (.bool true) := ⟨un_not⟩
instance : PrimEq (un P .neg (.int k x)) (.int k (k.wrap (0 - x))) := ⟨un_neg⟩
end
instance {x y : Value} : PrimEq (pickV (.bool true) x y) x := ⟨rfl⟩
instance {x y : Value} : PrimEq (pickV (.bool false) x y) y := ⟨rfl⟩
instance {b o : Nat} : PrimEq (nilChk (ptr b o)) (ptr b o) := ⟨rfl⟩
instance {f : FuncId} {a b : Array Value} : PrimEq (nilChk (.func (.func f) a b)) (.func (.func f) a b) := ⟨rfl⟩
instance {a : Value} {l : List Value} : PrimEq (ext (.tuple (List.toArray (a :: l))) 0) a := ⟨rfl⟩
instance {a b : Value} {l : List Value} : PrimEq (ext (.tuple (List.toArray (a :: b :: l))) 1) b := ⟨rfl⟩
instance {a b c : Value} {l : List Value} : PrimEq (ext (.tuple (List.toArray (a :: b :: c :: l))) 2) c := ⟨rfl⟩
instance {t e : TypeId} {b o n c : Nat} [h : Und P t (.slice e)] : PrimEq (lenV P t (sl b o n c)) (i64 n) := ⟨lenV_sl h.eq⟩
instance {t e : TypeId} [h : Und P t (.slice e)] : PrimEq (lenV P t (.slice none 0 0)) (.int .i64 0) := ⟨by unfold lenV; rw [h.eq]; rfl⟩
instance (priority := low) {t e : TypeId} {z : Value} {sz : Nat} {B : AH} {v : Value} {xs : List Nat} [hE : Elt P t e z sz] [h : RdN B v xs] : PrimEq (lenV P t v) (i64 xs.length) := ⟨h.lenN hE⟩
instance {x y : Value} {v : Value} [h : PrimEq (maxV x y) v] : PrimEq (fold1 maxV [x, y]) v := ⟨by show Option.bind _ _ = _; rw [h.eq]; rfl⟩
instance {x y : Value} {v : Value} [h : PrimEq (minV x y) v] : PrimEq (fold1 minV [x, y]) v := ⟨by show Option.bind _ _ = _; rw [h.eq]; rfl⟩
instance {k k' : IntKind} {x y : Int} : PrimEq (maxV (.int k x) (.int k' y)) (.int k (if y > x then y else x)) := ⟨rfl⟩
instance {k k' : IntKind} {x y : Int} : PrimEq (minV (.int k x) (.int k' y)) (.int k (if y < x then y else x)) := ⟨rfl⟩

class Step (g : Nat → Nat → Option R) (g' : outParam (Nat → Nat → Option R)) : Prop where
  step : ∀ {Q : R → Prop}, Ev g' Q → Ev g Q
theorem Ev.s {g g' : Nat → Nat → Option R} {Q : R → Prop} [h : Step g g'] (k : Ev g' Q) : Ev g Q := h.step k
instance {v : Value} {H : AH} {f : Nat → Nat → Value → AH → Option R} : Step (fun k n => Go.AM.b2 (some (v, H)) (f k n)) (fun k n => f k n v H) := ⟨fun h => h⟩
instance {a : α} {f : Nat → Nat → α → Option R} : Step (fun k n => (some a).bind (f k n)) (fun k n => f k n a) := ⟨fun h => h⟩
instance {x y : Nat → Nat → Option R} : Step (fun k n => aIf (.bool true) (x k n) (y k n)) x := ⟨fun h => h⟩
instance {x y : Nat → Nat → Option R} : Step (fun k n => aIf (.bool false) (x k n) (y k n)) y := ⟨fun h => h⟩
instance {x y : Nat → Nat → Option R} : Step (fun k n => aIf (.bool (!true)) (x k n) (y k n)) y := ⟨fun h => h⟩
instance {x y : Nat → Nat → Option R} : Step (fun k n => aIf (.bool (!false)) (x k n) (y k n)) x := ⟨fun h => h⟩
instance (priority := low) {E : Option α} {a : α} {f : Nat → Nat → α → Option R} [h : PrimEq E a] : Step (fun k n => E.bind (f k n)) (fun k n => f k n a) := ⟨fun h2 => Ev.prim h.eq h2⟩
instance {E : Nat → Nat → Option (Value × AH)} {H : AH} {f : Nat → Nat → Value → AH → Option R} : Step (fun k n => Go.AM.b2 (gOp (.bool true) true (E k n) H) (f k n)) (fun k n => Go.AM.b2 (E k n) (f k n)) := ⟨fun h => Ev.gDo h⟩
instance {E : Nat → Nat → Option (Value × AH)} {H : AH} {f : Nat → Nat → Value → AH → Option R} : Step (fun k n => Go.AM.b2 (gOp (.bool false) false (E k n) H) (f k n)) (fun k n => Go.AM.b2 (E k n) (f k n)) := ⟨fun h => Ev.gDo h⟩
instance {E : Nat → Nat → Option (Value × AH)} {H : AH} {f : Nat → Nat → Value → AH → Option R} : Step (fun k n => Go.AM.b2 (gOp (.bool true) false (E k n) H) (f k n)) (fun k n => f k n undef H) := ⟨fun h => Ev.gSkipF h⟩
instance {E : Nat → Nat → Option (Value × AH)} {H : AH} {f : Nat → Nat → Value → AH → Option R} : Step (fun k n => Go.AM.b2 (gOp (.bool false) true (E k n) H) (f k n)) (fun k n => f k n undef H) := ⟨fun h => Ev.gSkipT h⟩
instance {w : Bool} {E : Nat → Nat → Option (Value × AH)} {H : AH} {f : Nat → Nat → Value → AH → Option R} : Step (fun k n => Go.AM.b2 (gOp undef w (E k n) H) (f k n)) (fun k n => f k n undef H) := ⟨fun h => Ev.gUndef h⟩
instance {E : Nat → Nat → Option (Value × AH)} {H : AH} {f : Nat → Nat → Value → AH → Option R} : Step (fun k n => Go.AM.b2 (gOp (.bool (!true)) true (E k n) H) (f k n)) (fun k n => f k n undef H) := ⟨fun h => Ev.gSkipT h⟩
instance {E : Nat → Nat → Option (Value × AH)} {H : AH} {f : Nat → Nat → Value → AH → Option R} : Step (fun k n => Go.AM.b2 (gOp (.bool (!false)) true (E k n) H) (f k n)) (fun k n => Go.AM.b2 (E k n) (f k n)) := ⟨fun h => Ev.gDo h⟩
instance {E : Nat → Nat → Option (Value × AH)} {H : AH} {f : Nat → Nat → Value → AH → Option R} : Step (fun k n => Go.AM.b2 (gOp (.bool (!true)) false (E k n) H) (f k n)) (fun k n => Go.AM.b2 (E k n) (f k n)) := ⟨fun h => Ev.gDo h⟩
instance {E : Nat → Nat → Option (Value × AH)} {H : AH} {f : Nat → Nat → Value → AH → Option R} : Step (fun k n => Go.AM.b2 (gOp (.bool (!false)) false (E k n) H) (f k n)) (fun k n => f k n undef H) := ⟨fun h => Ev.gSkipF h⟩
instance {E : Option Value} {a : Value} {H : AH} {f : Nat → Nat → Value → AH → Option R} [h : PrimEq E a] : Step (fun k n => Go.AM.b2 (E.bind fun v => some (v, H)) (f k n)) (fun k n => f k n a H) := ⟨fun h2 => Ev.gPrim h.eq rfl h2⟩
instance {g : Nat → Nat → Option (Value × AH)} {f : Nat → Nat → Value → AH → Option R} : Step (fun k n => Go.AM.b2 (Go.AM.b2 (g k n) fun v H => some (v, H)) (f k n)) (fun k n => Go.AM.b2 (g k n) (f k n)) := ⟨fun h => Ev.gCall h⟩
instance {g : Nat → Nat → Option α} {f : Nat → Nat → α → Option β} {f2 : Nat → Nat → β → Option R} : Step (fun k n => ((g k n).bind (f k n)).bind (f2 k n)) (fun k n => (g k n).bind fun x => (f k n x).bind (f2 k n)) := ⟨fun h => Ev.assoc h⟩
instance {x : Nat → Nat → Option R} {E : Option α} {a : α} [h : PrimEq E a] : Step (fun k n => aChk (E = some a) (x k n)) x := ⟨fun h2 => Ev.chk h.eq h2⟩
instance {x : Nat → Nat → Option R} {q : Prop} {E : Option α} {a : α} [h : PrimEq E a] : Step (fun k n => aChk (q → E = some a) (x k n)) x := ⟨fun h2 => Ev.chk (fun _ => h.eq) h2⟩
instance (priority := high) {x : Nat → Nat → Option R} {p : Prop} : Step (fun k n => aChk (Value.bool false = .bool true → p) (x k n)) x := ⟨fun h2 => Ev.chk (fun h => by cases h) h2⟩
/-- With a condition. -/
theorem Ev.sc {E : Option α} {p : Prop} {a : α} {f : Nat → Nat → α → Option R} {Q : R → Prop} [h : PrimC E p a] (hp : p) (k : Ev (fun k n => f k n a) Q) : Ev (fun k n => E.bind (f k n)) Q := Ev.prim (h.eq hp) k
theorem Ev.scg {E : Option Value} {p : Prop} {a : Value} {H : AH} {f : Nat → Nat → Value → AH → Option R} {Q : R → Prop} [h : PrimC E p a] (hp : p) (k : Ev (fun k n => f k n a H) Q) : Ev (fun k n => Go.AM.b2 (E.bind fun v => some (v, H)) (f k n)) Q := Ev.gPrim (h.eq hp) rfl k
section
variable {t s d : TypeId} {a b n : Nat} {x y : Int} {k k' : IntKind}
instance (priority := 900) : PrimC (bin P .add t (i64 a) (.int .i64 (no_index (@OfNat.ofNat Int n instOfNat)))) (a + @OfNat.ofNat Nat n (instOfNatNat n) < 9223372036854775808) (i64 (a + @OfNat.ofNat Nat n (instOfNatNat n))) := ⟨addL⟩
instance (priority := 900) : PrimC (bin P .sub t (i64 a) (.int .i64 (no_index (@OfNat.ofNat Int n instOfNat)))) (@OfNat.ofNat Nat n (instOfNatNat n) ≤ a ∧ a < 9223372036854775808) (i64 (a - @OfNat.ofNat Nat n (instOfNatNat n))) := ⟨subL⟩
instance (priority := 900) : PrimC (bin P .mul t (i64 a) (.int .i64 (no_index (@OfNat.ofNat Int n instOfNat)))) (a * @OfNat.ofNat Nat n (instOfNatNat n) < 9223372036854775808) (i64 (a * @OfNat.ofNat Nat n (instOfNatNat n))) := ⟨mulL⟩
instance (priority := 900) : PrimC (bin P .mul t (.int .i64 (no_index (@OfNat.ofNat Int n instOfNat))) (i64 a)) (@OfNat.ofNat Nat n (instOfNatNat n) * a < 9223372036854775808) (i64 (@OfNat.ofNat Nat n (instOfNatNat n) * a)) := ⟨lmul⟩
instance (priority := 900) : PrimC (bin P .quo t (i64 a) (.int .i64 (no_index (@OfNat.ofNat Int n instOfNat)))) (@OfNat.ofNat Nat n (instOfNatNat n) ≠ 0 ∧ a < 9223372036854775808) (i64 (a / @OfNat.ofNat Nat n (instOfNatNat n))) := ⟨quoL⟩
instance (priority := 900) : PrimC (bin P .rem t (.int k (a : Int)) (.int k (no_index (@OfNat.ofNat Int n instOfNat)))) (@OfNat.ofNat Nat n (instOfNatNat n) ≠ 0) (.int k ((a % @OfNat.ofNat Nat n (instOfNatNat n) : Nat) : Int)) := ⟨remL⟩
instance : PrimC (bin P .add t (i64 a) (i64 b)) (a + b < 9223372036854775808) (i64 (a + b)) := ⟨addN⟩
instance : PrimC (bin P .sub t (i64 a) (i64 b)) (b ≤ a ∧ a < 9223372036854775808) (i64 (a - b)) := ⟨subN⟩
instance : PrimC (bin P .mul t (i64 a) (i64 b)) (a * b < 9223372036854775808) (i64 (a * b)) := ⟨mulN⟩
instance : PrimC (bin P .quo t (i64 a) (i64 b)) (b ≠ 0 ∧ a < 9223372036854775808) (i64 (a / b)) := ⟨quoN⟩
instance : PrimC (bin P .rem t (.int k (a : Int)) (.int k (b : Int))) (b ≠ 0) (.int k ((a % b : Nat) : Int)) := ⟨remN⟩
instance : PrimC (bin P .add t (u64 a) (u64 b)) (a + b < 18446744073709551616) (u64 (a + b)) := ⟨addQ⟩
instance : PrimC (bin P .sub t (u64 a) (u64 b)) (b ≤ a ∧ a < 18446744073709551616) (u64 (a - b)) := ⟨subQ⟩
instance : PrimC (bin P .mul t (u64 a) (u64 b)) (a * b < 18446744073709551616) (u64 (a * b)) := ⟨mulQ⟩
instance (priority := 100) : PrimC (bin P .add t (.int .i64 x) (.int .i64 y)) (-9223372036854775808 ≤ x + y ∧ x + y < 9223372036854775808) (.int .i64 (x + y)) := ⟨bin_add64⟩
instance (priority := 100) : PrimC (bin P .sub t (.int .i64 x) (.int .i64 y)) (-9223372036854775808 ≤ x - y ∧ x - y < 9223372036854775808) (.int .i64 (x - y)) := ⟨bin_sub64⟩
instance (priority := 100) : PrimC (bin P .mul t (.int .i64 x) (.int .i64 y)) (-9223372036854775808 ≤ x * y ∧ x * y < 9223372036854775808) (.int .i64 (x * y)) := ⟨bin_mul64⟩
end
end Go.AM
set_option linter.unusedVariables false
set_option linter.unusedSimpArgs false
namespace Go.AM
variable {α β R : Type} {P : Program}
class PlusL (a b : Nat) (r : outParam Nat) : Prop where
  eq : a + b = r
instance (priority := low) {a b : Nat} : PlusL a b (a + b) := ⟨rfl⟩
instance {b : Nat} : PlusL 0 b b := ⟨Nat.zero_add b⟩
instance {a : Nat} : PlusL a 0 a := ⟨rfl⟩
instance : PlusL 1 1 2 := ⟨rfl⟩
instance : PlusL 1 2 3 := ⟨rfl⟩
instance : PlusL 1 3 4 := ⟨rfl⟩
instance : PlusL 1 4 5 := ⟨rfl⟩
instance : PlusL 1 5 6 := ⟨rfl⟩
instance : PlusL 1 6 7 := ⟨rfl⟩
instance : PlusL 1 7 8 := ⟨rfl⟩
instance : PlusL 1 8 9 := ⟨rfl⟩
instance : PlusL 2 1 3 := ⟨rfl⟩
instance : PlusL 2 2 4 := ⟨rfl⟩
instance : PlusL 2 3 5 := ⟨rfl⟩
instance : PlusL 2 4 6 := ⟨rfl⟩
instance : PlusL 2 5 7 := ⟨rfl⟩
instance : PlusL 2 6 8 := ⟨rfl⟩
instance : PlusL 2 7 9 := ⟨rfl⟩
instance : PlusL 2 8 10 := ⟨rfl⟩
instance : PlusL 3 1 4 := ⟨rfl⟩
instance : PlusL 3 2 5 := ⟨rfl⟩
instance : PlusL 3 3 6 := ⟨rfl⟩
instance : PlusL 3 4 7 := ⟨rfl⟩
instance : PlusL 3 5 8 := ⟨rfl⟩
instance : PlusL 3 6 9 := ⟨rfl⟩
instance : PlusL 3 7 10 := ⟨rfl⟩
instance : PlusL 3 8 11 := ⟨rfl⟩
instance : PlusL 4 1 5 := ⟨rfl⟩
instance : PlusL 4 2 6 := ⟨rfl⟩
instance : PlusL 4 3 7 := ⟨rfl⟩
instance : PlusL 4 4 8 := ⟨rfl⟩
instance : PlusL 4 5 9 := ⟨rfl⟩
instance : PlusL 4 6 10 := ⟨rfl⟩
instance : PlusL 4 7 11 := ⟨rfl⟩
instance : PlusL 4 8 12 := ⟨rfl⟩
instance : PlusL 5 1 6 := ⟨rfl⟩
instance : PlusL 5 2 7 := ⟨rfl⟩
instance : PlusL 5 3 8 := ⟨rfl⟩
instance : PlusL 5 4 9 := ⟨rfl⟩
instance : PlusL 5 5 10 := ⟨rfl⟩
instance : PlusL 5 6 11 := ⟨rfl⟩
instance : PlusL 5 7 12 := ⟨rfl⟩
instance : PlusL 5 8 13 := ⟨rfl⟩
instance : PlusL 6 1 7 := ⟨rfl⟩
instance : PlusL 6 2 8 := ⟨rfl⟩
instance : PlusL 6 3 9 := ⟨rfl⟩
instance : PlusL 6 4 10 := ⟨rfl⟩
instance : PlusL 6 5 11 := ⟨rfl⟩
instance : PlusL 6 6 12 := ⟨rfl⟩
instance : PlusL 6 7 13 := ⟨rfl⟩
instance : PlusL 6 8 14 := ⟨rfl⟩
instance : PlusL 7 1 8 := ⟨rfl⟩
instance : PlusL 7 2 9 := ⟨rfl⟩
instance : PlusL 7 3 10 := ⟨rfl⟩
instance : PlusL 7 4 11 := ⟨rfl⟩
instance : PlusL 7 5 12 := ⟨rfl⟩
instance : PlusL 7 6 13 := ⟨rfl⟩
instance : PlusL 7 7 14 := ⟨rfl⟩
instance : PlusL 7 8 15 := ⟨rfl⟩
instance : PlusL 8 1 9 := ⟨rfl⟩
instance : PlusL 8 2 10 := ⟨rfl⟩
instance : PlusL 8 3 11 := ⟨rfl⟩
instance : PlusL 8 4 12 := ⟨rfl⟩
instance : PlusL 8 5 13 := ⟨rfl⟩
instance : PlusL 8 6 14 := ⟨rfl⟩
instance : PlusL 8 7 15 := ⟨rfl⟩
instance : PlusL 8 8 16 := ⟨rfl⟩
class FieldOf (P : Program) (s : TypeId) (i : Nat) (off : outParam Nat) (ft : outParam TypeId) : Prop where
  ex : ∃ fs f, P.underlying s = some (.struct fs) ∧ fs[i]? = some f ∧ f.offset = off ∧ f.type = ft
  nz : szT P ft ≠ 0
class StructOf (P : Program) (s : TypeId) (l : outParam (List Value)) : Prop where
  zero : zeroT P s = some (.agg (List.toArray l))
  ex : ∃ fs, P.underlying s = some (.struct fs) ∧ fs.toList.all (fun f => (P.info? f.type).isSome) = true
instance {s : TypeId} {l : List Value} [h : StructOf P s l] : ZeroOf P s (.agg (List.toArray l)) := ⟨h.zero⟩
instance {s ft : TypeId} {i off b o r : Nat} [h : FieldOf P s i off ft] [p : PlusL o off r] : PrimEq (fldA P s (ptr b o) i) (ptr b r) := ⟨by
  obtain ⟨fs, f, h1, h2, h3, h4⟩ := h.ex
  unfold fldA ptr; rw [h1]; simp only [h2, Option.bind_some]; rw [if_neg (by rw [h4]; exact h.nz), h3, p.eq]⟩
instance {s ft : TypeId} {i off : Nat} {l : List Value} {v : Value} [h : FieldOf P s i off ft] [a : AggOf P ft false] [n : Nth l off v] : PrimEq (fld P s (.agg (List.toArray l)) i) v := ⟨by
  obtain ⟨fs, f, h1, h2, h3, h4⟩ := h.ex
  unfold fld; rw [h1]; simp only [h2, Option.bind_some]; unfold prt; rw [h4, a.eq, h3]; exact n.eq⟩
instance {s ft : TypeId} {i off n : Nat} {l r : List Value} [h : FieldOf P s i off ft] [a : AggOf P ft true] [z : SzOf P ft n] [c : Cut l off n r] : PrimEq (fld P s (.agg (List.toArray l)) i) (.agg (List.toArray r)) := ⟨by
  obtain ⟨fs, f, h1, h2, h3, h4⟩ := h.ex
  unfold fld; rw [h1]; simp only [h2, Option.bind_some]; unfold prt; rw [h4, a.eq, h3, z.eq]; simp only; rw [c.eq]⟩
class FillP (P : Program) (s : TypeId) (cs : List Value) (parts : List (Nat × Value)) (r : outParam (List Value)) : Prop where
  eq : ∀ fs, P.underlying s = some (.struct fs) → fillB (fun i => (fs[i]?).map fun f => (f.offset, szT P f.type)) cs parts = some r
instance {s : TypeId} {cs : List Value} : FillP P s cs [] cs := ⟨fun _ _ => rfl⟩
instance {s ft : TypeId} {i off n : Nat} {v : Value} {l cs cs' r : List Value} {ps : List (Nat × Value)} [h : FieldOf P s i off ft] [z : SzOf P ft n] [c : CellsOf v l] [k : CutN l n l] [sp : Spl cs off l cs'] [f : FillP P s cs' ps r] :
    FillP P s cs ((i, v) :: ps) r := ⟨fun fs hf => by
  obtain ⟨fs', g, h1, h2, h3, h4⟩ := h.ex
  rw [hf] at h1; cases h1
  have e : l.length = n := by have h1 := k.le; have h2 := congrArg List.length k.eq; rw [List.length_take] at h2; omega
  have e2 : v.cells.size = n := by rw [← e, ← c.eq]; rfl
  unfold fillB
  simp only [h2, Option.map_some, h3, h4, z.eq]
  rw [if_pos ⟨e2, by rw [← e]; exact sp.le, c.ok⟩, c.eq, sp.eq]
  exact f.eq fs hf⟩
instance {s : TypeId} {l r : List Value} {parts : List (Nat × Value)} [h : StructOf P s l] [f : FillP P s l parts r] : PrimEq (build P s parts) (.agg (List.toArray r)) := ⟨by
  obtain ⟨fs, h1, h2⟩ := h.ex
  unfold build; rw [h.zero]; simp only [Option.bind_some, h1]
  rw [if_neg (by rw [h2]; simp)]
  have := f.eq fs h1
  simp only [Value.cells]
  rw [this]; rfl⟩
section
variable {s d : TypeId} {D : TypeDesc} {a : Nat} {x : Int} {k k' : IntKind}
instance [hs : Und P s D] [hd : Und P d (.int .u32)] : PrimEq (cv P s d (.int k (a : Int))) (u32 (a % 4294967296)) := ⟨toU32 hs.eq hd.eq⟩
instance [hs : Und P s D] [hd : Und P d (.int .u8)] : PrimEq (cv P s d (.int k (a : Int))) (u8 (a % 256)) := ⟨toU8 hs.eq hd.eq⟩
instance [hs : Und P s D] [hd : Und P d (.int .u64)] : PrimC (cv P s d (.int k (a : Int))) (a < 18446744073709551616) (u64 a) := ⟨fun h => toU64 h hs.eq hd.eq⟩
instance [hs : Und P s D] [hd : Und P d (.int .i64)] : PrimC (cv P s d (.int k (a : Int))) (a < 9223372036854775808) (i64 a) := ⟨fun h => toI64 h hs.eq hd.eq⟩
end
class LdB (P : Program) (e : TypeId) (p : Value) (B : outParam AH) (v : outParam Value) : Prop where
  eq : ∀ H', Mo B H' → ld P e H' p = some v
instance {e : TypeId} {p v : Value} {H0 B0 B H : AH} {L : List (Nat × Blk)} [h : LdB P e p B v] [hS : St H0 B0 B L H] : PrimEq (ld P e H p) v := ⟨h.eq H hS.le⟩
section
variable {t e : TypeId} {z : Value} {sz : Nat} {H0 B0 B H : AH} {L : List (Nat × Blk)} {v : Value} {xs : List Nat} {k : IntKind}
class Rep (n : Nat) (z : Value) (l : outParam (List Value)) : Prop where
  eq : List.replicate n z = l
instance {z : Value} : Rep 0 z [] := ⟨rfl⟩
instance {z : Value} {n : Nat} {l : List Value} [h : Rep n z l] : Rep (n + 1) z (z :: l) := ⟨by rw [List.replicate_succ, h.eq]⟩
class FillL (cs : List Value) (parts : List (Nat × Value)) (r : outParam (List Value)) : Prop where
  eq : fillB (fun i => some (i * 1, 1)) cs parts = some r
instance {cs : List Value} : FillL cs [] cs := ⟨rfl⟩
instance {i : Nat} {v : Value} {cs cs' r : List Value} {ps : List (Nat × Value)} [c : IsCell v] [sp : Spl cs i [v] cs'] [f : FillL cs' ps r] : FillL cs ((i, v) :: ps) r := ⟨by
  have h1 := cells_one c.is
  have h2 := f.eq
  simp only [Nat.mul_one] at h2
  unfold fillB
  simp only [Nat.mul_one]
  rw [if_pos ⟨size_cells h1, by have := sp.le; simpa using this, okCells_of c.is⟩, h1, sp.eq]
  exact h2⟩
theorem Ev.bsC {m : Nat} {parts : List (Nat × Value)} {l cs : List Value} {f : Nat → Nat → Value → AH → Option R} {Q : R → Prop} [hE : Elt P t e z sz] [hS : St H0 B0 B L H] [hr : Rep m z l] [hf : FillL l parts cs] (hm : m ≤ 16777216)
    (h : ∀ b H', St H0 B0 B ((b, ⟨cs, e, .fix⟩) :: L) H' → Ev (fun k n => f k n (sl b 0 m m) H') Q) : Ev (fun k n => Go.AM.b2 (Go.AM.buildS P t H m parts) (f k n)) Q := by
  refine Ev.prim2 ?_ (h H.length _ (hS.mkB' cs e .fix))
  unfold Go.AM.buildS
  rw [hE.U]; simp only [hE.Z, hE.S, hE.zn, Option.bind_some, rep_one]
  rw [if_pos ⟨by omega, size_cells hE.zn⟩, hr.eq, hf.eq]; rfl
end
end Go.AM
set_option linter.unusedVariables false
set_option linter.unusedSimpArgs false
namespace Go.AM
variable {α β R : Type} {P : Program}
/-- A call that changes what is the caller's. -/
def AnS (H0 B0 B : AH) (L : List (Nat × Blk)) (Post : AH → Value → Prop) (r : Value × AH) : Prop := ∃ B', Mo B B' ∧ St H0 B0 B' L r.2 ∧ Post B' r.1
theorem AnS.an {H0 B0 B : AH} {L : List (Nat × Blk)} {Post : AH → Value → Prop} {g : Nat → Nat → Option (Value × AH)} (h : Ev g (AnS H0 B0 B L Post)) : Ev g (An B0 H0 Post) :=
  h.mono fun r ⟨B', hm, hS, hp⟩ => hS.an hp
class InfoOf (P : Program) (t : TypeId) : Prop where
  is : (P.info? t).isSome = true
class TimesL (a b : Nat) (r : outParam Nat) : Prop where
  eq : a * b = r
instance (priority := low) {a b : Nat} : TimesL a b (a * b) := ⟨rfl⟩
instance {b : Nat} : TimesL 0 b 0 := ⟨Nat.zero_mul b⟩
instance {b : Nat} : TimesL 1 b b := ⟨Nat.one_mul b⟩
instance {b : Nat} : TimesL b 1 b := ⟨Nat.mul_one b⟩
instance : TimesL 2 2 4 := ⟨rfl⟩
instance : TimesL 2 3 6 := ⟨rfl⟩
instance : TimesL 2 4 8 := ⟨rfl⟩
instance : TimesL 2 5 10 := ⟨rfl⟩
instance : TimesL 2 6 12 := ⟨rfl⟩
instance : TimesL 2 7 14 := ⟨rfl⟩
instance : TimesL 2 8 16 := ⟨rfl⟩
instance : TimesL 3 2 6 := ⟨rfl⟩
instance : TimesL 3 3 9 := ⟨rfl⟩
instance : TimesL 3 4 12 := ⟨rfl⟩
instance : TimesL 3 5 15 := ⟨rfl⟩
instance : TimesL 3 6 18 := ⟨rfl⟩
instance : TimesL 3 7 21 := ⟨rfl⟩
instance : TimesL 3 8 24 := ⟨rfl⟩
instance : TimesL 4 2 8 := ⟨rfl⟩
instance : TimesL 4 3 12 := ⟨rfl⟩
instance : TimesL 4 4 16 := ⟨rfl⟩
instance : TimesL 4 5 20 := ⟨rfl⟩
instance : TimesL 4 6 24 := ⟨rfl⟩
instance : TimesL 4 7 28 := ⟨rfl⟩
instance : TimesL 4 8 32 := ⟨rfl⟩
instance : TimesL 5 2 10 := ⟨rfl⟩
instance : TimesL 5 3 15 := ⟨rfl⟩
instance : TimesL 5 4 20 := ⟨rfl⟩
instance : TimesL 5 5 25 := ⟨rfl⟩
instance : TimesL 5 6 30 := ⟨rfl⟩
instance : TimesL 5 7 35 := ⟨rfl⟩
instance : TimesL 5 8 40 := ⟨rfl⟩
instance : TimesL 6 2 12 := ⟨rfl⟩
instance : TimesL 6 3 18 := ⟨rfl⟩
instance : TimesL 6 4 24 := ⟨rfl⟩
instance : TimesL 6 5 30 := ⟨rfl⟩
instance : TimesL 6 6 36 := ⟨rfl⟩
instance : TimesL 6 7 42 := ⟨rfl⟩
instance : TimesL 6 8 48 := ⟨rfl⟩
instance : TimesL 7 2 14 := ⟨rfl⟩
instance : TimesL 7 3 21 := ⟨rfl⟩
instance : TimesL 7 4 28 := ⟨rfl⟩
instance : TimesL 7 5 35 := ⟨rfl⟩
instance : TimesL 7 6 42 := ⟨rfl⟩
instance : TimesL 7 7 49 := ⟨rfl⟩
instance : TimesL 7 8 56 := ⟨rfl⟩
class AppL (a b : List Value) (r : outParam (List Value)) : Prop where
  eq : a ++ b = r
instance {b : List Value} : AppL [] b b := ⟨rfl⟩
instance {x : Value} {a b r : List Value} [h : AppL a b r] : AppL (x :: a) b (x :: r) := ⟨by rw [List.cons_append, h.eq]⟩
class RepA (n : Nat) (z : List Value) (l : outParam (List Value)) : Prop where
  eq : rep z n = l
instance {z : List Value} : RepA 0 z [] := ⟨rfl⟩
instance {z : List Value} {n : Nat} {l r : List Value} [h : RepA n z l] [k : AppL z l r] : RepA (n + 1) z r := ⟨by rw [rep, h.eq, k.eq]⟩
class FillE (sz : Nat) (cs : List Value) (parts : List (Nat × Value)) (r : outParam (List Value)) : Prop where
  eq : fillB (fun i => some (i * sz, sz)) cs parts = some r
instance {sz : Nat} {cs : List Value} : FillE sz cs [] cs := ⟨rfl⟩
instance {sz i o : Nat} {v : Value} {l cs cs' r : List Value} {ps : List (Nat × Value)} [t : TimesL i sz o] [c : CellsOf v l] [k : CutN l sz l] [sp : Spl cs o l cs'] [f : FillE sz cs' ps r] : FillE sz cs ((i, v) :: ps) r := ⟨by
  have e : l.length = sz := by have h1 := k.le; have h2 := congrArg List.length k.eq; rw [List.length_take] at h2; omega
  have e2 : v.cells.size = sz := by rw [← e, ← c.eq]; rfl
  have hf := f.eq
  have hl := sp.le
  have hs := sp.eq
  unfold fillB
  simp only [t.eq]
  rw [if_pos ⟨e2, by rw [← e]; exact hl, c.ok⟩, c.eq, hs]
  exact hf⟩
instance {t e : TypeId} {sz b len cap i ofs : Nat} {k : IntKind} [hU : Und P t (.slice e)] [hs : SzOf P e sz] [hi : InfoOf P e] [ht : TimesL i sz ofs] : PrimC (ixA P t (sl b 0 len cap) (.int k (i : Int))) (i < len) (ptr b ofs) := ⟨fun h => by
  unfold ixA sl; rw [hU.eq]; simp only; rw [if_pos ⟨hi.is, by omega, by omega⟩, hs.eq, Int.toNat_natCast, ht.eq, Nat.zero_add]⟩
instance (priority := 900) {t e : TypeId} {sz b len cap n ofs : Nat} {k : IntKind} [hU : Und P t (.slice e)] [hs : SzOf P e sz] [hi : InfoOf P e] [ht : TimesL n sz ofs] : PrimC (ixA P t (sl b 0 len cap) (.int k (no_index (@OfNat.ofNat Int n instOfNat)))) (n < len) (ptr b ofs) := ⟨fun h => by
  have e : (@OfNat.ofNat Int n instOfNat) = ((n : Nat) : Int) := rfl
  rw [e]
  unfold ixA sl; rw [hU.eq]; simp only; rw [if_pos ⟨hi.is, by omega, by omega⟩, hs.eq, Int.toNat_natCast, ht.eq, Nat.zero_add]⟩
theorem St.drop1 {H0 B0 B : AH} {x : Nat × Blk} {L : List (Nat × Blk)} {H : AH} (h : St H0 B0 B (x :: L) H) : St H0 B0 B L H := h.drop (List.sublist_cons_self x L)
theorem Upd.make {b : Nat} {K K' : Blk} {L : List (Nat × Blk)} (h : (b, K) ∈ L) : ∃ L', Upd b K K' L L' := by
  induction L with
  | nil => cases h
  | cons x L ih =>
    cases h with
    | head => exact ⟨_, .head _⟩
    | tail _ h => exact (ih h).elim fun L' h' => ⟨_, .tail x h'⟩
theorem Upd.fix {b : Nat} {K K' : Blk} {L L' L'' : List (Nat × Blk)} (h : Upd b K K' L L') (hn : (L.map Prod.fst).Nodup) (h' : Upd b K K' L L'') : L'' = L' := by
  induction h generalizing L'' with
  | head L =>
    cases h' with
    | head => rfl
    | tail _ h' => exact absurd (mem_fst h'.mem rfl) (List.nodup_cons.mp hn).1
  | tail x h ih =>
    cases h' with
    | head => exact absurd (mem_fst h.mem rfl) (List.nodup_cons.mp hn).1
    | tail _ h' => rw [ih (List.nodup_cons.mp hn).2 h']
theorem Upd.other {b c : Nat} {K K' K2 : Blk} {L L' : List (Nat × Blk)} (h : Upd b K K' L L') (hc : (c, K2) ∈ L) (hn : c ≠ b) : (c, K2) ∈ L' := by
  induction h with
  | head L =>
    cases hc with
    | head => exact absurd rfl hn
    | tail _ hc => exact .tail _ hc
  | tail x h ih =>
    cases hc with
    | head => exact .head _
    | tail _ hc => exact .tail _ (ih hc)
theorem Mo.le {B H : AH} (h : Mo B H) : Le B H := ⟨h⟩
end Go.AM
set_option linter.unusedVariables false
namespace Go.AM
variable {α β R : Type} {P : Program}
class MoC (B : outParam AH) (B' : AH) : Prop where
  mo : Mo B B'
class MoT (B B' : AH) : Prop where
  mo : Mo B B'
instance {B : AH} : MoT B B := ⟨Mo.refl B⟩
instance (priority := low) {A B C : AH} [h : MoC B C] [k : MoT A B] : MoT A C := ⟨k.mo.trans h.mo⟩
/-- Digits that stand, from some time on. -/
class RdT (B : AH) (v : Value) (xs : outParam (List Nat)) : Prop where
  rd : RdN B v xs
instance {B0 B : AH} {v : Value} {xs : List Nat} [h : RdN B0 v xs] [t : MoT B0 B] : RdT B v xs := ⟨h.mono t.mo⟩
instance {B : AH} : RdT B (.slice none 0 0) [] := ⟨RdN.nil⟩
end Go.AM
set_option linter.unusedVariables false
namespace Go.AM
variable {α β R : Type} {P : Program}
section
variable {t e : TypeId} {z : Value} {sz : Nat}
def Acc (e : TypeId) (H0 B0 B : AH) (L : List (Nat × Blk)) (H : AH) (v : Value) (ds : List Nat) : Prop :=
  (ds = [] ∧ (v = .slice none 0 0 ∨ ∃ b off, v = sl b off 0 0) ∧ St H0 B0 B L H) ∨
  (ds ≠ [] ∧ ∃ b kd cap, v = sl b 0 ds.length cap ∧ (kd = .grow ∧ cap ≠ 0 ∧ ds.length ≤ cap ∨ kd = .fix ∧ cap = ds.length) ∧ St H0 B0 B ((b, ⟨ds.map u32, e, kd⟩) :: L) H)
theorem Acc.nil {H0 B0 B L H} (hS : St H0 B0 B L H) : Acc e H0 B0 B L H (.slice none 0 0) [] := .inl ⟨rfl, .inl rfl, hS⟩
theorem Acc.le {H0 B0 B L H v ds} (h : Acc e H0 B0 B L H v ds) : Le B H := by
  rcases h with ⟨_, _, hS⟩ | ⟨_, b, kd, cap, _, _, hS⟩
  · exact hS.lel
  · exact hS.lel
theorem Acc.st {H0 B0 B L H v ds} (h : Acc e H0 B0 B L H v ds) : St H0 B0 B L H := by
  rcases h with ⟨_, _, hS⟩ | ⟨_, b, kd, cap, _, _, hS⟩
  · exact hS
  · exact hS.drop1
theorem drop2 {x y : Nat × Blk} {L : List (Nat × Blk)} {H0 B0 B H} (h : St H0 B0 B (x :: y :: L) H) : St H0 B0 B (x :: L) H := h.drop (.cons_cons _ (List.sublist_cons_self _ _))
theorem drop3 {x y z : Nat × Blk} {L : List (Nat × Blk)} {H0 B0 B H} (h : St H0 B0 B (x :: y :: z :: L) H) : St H0 B0 B (x :: L) H := drop2 (drop2 h)
/-- One more digit. -/
theorem Acc.push {H0 B0 B : AH} {L : List (Nat × Blk)} {H : AH} {v : Value} {ds : List Nat} {d : Nat} {f : Nat → Nat → Value → AH → Option R} {Q : R → Prop} [hE : Elt P t e (.int .u32 0) sz] (h : Acc e H0 B0 B L H v ds)
    (hl : (ds.length + 1) * sz ≤ 140737488355328 ∧ ds.length + 1 ≤ 9223372036854775807) (hk : ∀ v' B' H', MoC B B' → Acc e H0 B0 B' L H' v' (ds ++ [d]) → Ev (fun k n => f k n v' H') Q) :
    Ev (fun k n => Go.AM.b2 (Go.AM.buildS P t H 1 [(0, u32 d)]) fun w h => Go.AM.b2 (Go.AM.ap P t t h v w) (f k n)) Q := by
  have e1 : ([d].map u32).length = 1 := rfl
  have hlen : (ds.map u32).length = ds.length := List.length_map ..
  rcases h with ⟨rfl, hv, hS⟩ | ⟨hne, b, kd, cap, rfl, hkc, hS⟩
  · refine Ev.bsC (P := P) (t := t) (by decide) fun bw H1 hS1 => ?_
    have hx : Sc H1 (sl bw 0 1 1) ([d].map u32) := hS1.sc (.head _) (Nat.le_refl 1)
    refine Ev.apNew hE hE.U hS1 (hv.imp id fun ⟨b, off, h⟩ => ⟨b, off, 0, h⟩) hx (all_u32 _) (by simp) ⟨by simpa using hl.1, by simp⟩ fun b' B' H' hm hS' => ?_
    exact hk _ B' H' ⟨hm⟩ (.inr ⟨by simp, b', .grow, 2, rfl, .inl ⟨rfl, by decide, by simp⟩, drop2 hS'⟩)
  · refine Ev.bsC (P := P) (t := t) (by decide) fun bw H1 hS1 => ?_
    have hx : Sc H1 (sl bw 0 1 1) ([d].map u32) := hS1.sc (.head _) (Nat.le_refl 1)
    rcases hkc with ⟨rfl, hc, hcl⟩ | ⟨rfl, rfl⟩
    · have hS2 : St H0 B0 B ((b, ⟨ds.map u32, e, .grow⟩) :: (bw, ⟨[u32 d], e, .fix⟩) :: L) H1 := hS1.perm (List.Perm.swap _ _ _)
      have hk2 := Ev.apGrow (b := b) (cap := cap) (cs := ds.map u32) (v := sl bw 0 1 1) (ds := [d].map u32) (f := f) (Q := Q) hE hE.U hS2 hc hx (all_u32 _) (by simp) (by rw [hlen, e1]; exact hl) (fun b' B' H' hm hS' => by
        have := hk (sl b' 0 (ds ++ [d]).length ((ds ++ [d]).length + 1)) B' H' ⟨hm⟩ (.inr ⟨by simp, b', .grow, _, rfl, .inl ⟨rfl, by omega, by omega⟩, by rw [List.map_append]; exact drop2 hS'⟩)
        have e2 : (ds.map u32 ++ [d].map u32).length = (ds ++ [d]).length := by simp
        rw [e2]; exact this)
      rw [hlen] at hk2
      exact hk2
    · have hk2 := Ev.apFull (b := b) (cs := ds.map u32) (v := sl bw 0 1 1) (ds := [d].map u32) (f := f) (Q := Q) hE hE.U hS1 (hS1.get (.tail _ (.head _))) (by simpa using hne) hx (all_u32 _) (by simp) (by rw [hlen, e1]; exact hl) (fun b' B' H' hm hS' => by
        have := hk (sl b' 0 (ds ++ [d]).length ((ds ++ [d]).length + 1)) B' H' ⟨hm⟩ (.inr ⟨by simp, b', .grow, _, rfl, .inl ⟨rfl, by omega, by omega⟩, by rw [List.map_append]; exact drop3 hS'⟩)
        have e2 : (ds.map u32 ++ [d].map u32).length = (ds ++ [d]).length := by simp
        rw [e2]; exact this)
      rw [hlen] at hk2
      exact hk2
/-- It is done. -/
theorem Acc.freeze {H0 B0 B : AH} {L : List (Nat × Blk)} {H : AH} {v : Value} {ds : List Nat} (h : Acc e H0 B0 B L H v ds) (hs : small ds) : ∃ B', MoC B B' ∧ RdN B' v ds ∧ St H0 B0 B' L H := by
  rcases h with ⟨rfl, hv, hS⟩ | ⟨hne, b, kd, cap, rfl, hkc, hS⟩
  · refine ⟨B, ⟨Mo.refl B⟩, ?_, hS⟩
    rcases hv with rfl | ⟨b, off, rfl⟩
    · exact RdN.nil
    · exact ⟨.inr ⟨b, off, 0, rfl, Nat.le_refl _, .inl rfl⟩, hs⟩
  · obtain ⟨B', h1, h2, h3⟩ := hS.freezeN hs rfl (cap := cap) (by rcases hkc with ⟨_, _, h⟩ | ⟨_, h⟩ <;> omega)
    exact ⟨B', ⟨h1⟩, h2, h3⟩
/-- A call beside it. -/
theorem Acc.mo {H0 B0 B : AH} {L : List (Nat × Blk)} {H : AH} {v : Value} {ds : List Nat} (h : Acc e H0 B0 B L H v ds) {r : Value × AH} {Post : AH → Value → Prop} (ha : An B H Post r) : ∃ B', Mo B B' ∧ Acc e H0 B0 B' L r.2 v ds ∧ Post B' r.1 := by
  rcases h with ⟨rfl, hv, hS⟩ | ⟨hne, b, kd, cap, rfl, hkc, hS⟩
  · obtain ⟨B', h1, h2, h3⟩ := hS.call ha
    exact ⟨B', h1, .inl ⟨rfl, hv, h2⟩, h3⟩
  · obtain ⟨B', h1, h2, h3⟩ := hS.call ha
    exact ⟨B', h1, .inr ⟨hne, b, kd, cap, rfl, hkc, h2⟩, h3⟩
end
end Go.AM
set_option linter.unusedVariables false
namespace Go.AM
variable {R : Type} {P : Program}
abbrev str (l : List UInt8) : Value := .string ⟨l.toArray⟩
theorem str_of (s : ByteArray) : Value.string s = str s.data.toList := by
  obtain ⟨⟨l⟩⟩ := s; rfl
instance {t : TypeId} {l : List UInt8} [h : Und P t .string] : PrimEq (lenV P t (str l)) (i64 l.length) := ⟨by unfold lenV; rw [h.eq]; rfl⟩
theorem ix_str {t : TypeId} {l : List UInt8} {k : IntKind} {n : Int} [h : Und P t .string] (i : Nat) (hn : n = (i : Int)) (hi : i < l.length) : ix P t (str l) (.int k n) = some (u8 (l.getD i 0).toNat) := by
  subst hn
  unfold ix; rw [h.eq]
  have : ByteArray.size ⟨l.toArray⟩ = l.length := rfl
  simp only [this]
  rw [if_pos ⟨by omega, by omega⟩]
  simp [List.getD_eq_getElem?_getD]
theorem slc_str {t : TypeId} {l : List UInt8} {k : IntKind} {n : Int} [h : Und P t .string] (i : Nat) (hn : n = (i : Int)) (hi : i ≤ l.length) : slc P t (str l) (some (.int k n)) none = some (str (l.drop i)) := by
  subst hn
  unfold slc; rw [h.eq]
  have : ByteArray.size ⟨l.toArray⟩ = l.length := rfl
  simp only [this, intOr, Option.bind_some]
  rw [if_pos ⟨by omega, by omega, by omega⟩]
  congr 2
  simp [ByteArray.extract, ByteArray.copySlice]
  rw [List.take_of_length_le (by simp)]
theorem toList_loop (a : Array UInt8) : ∀ (n i : Nat) (r : List UInt8), i + n = a.size → ByteArray.toList.loop ⟨a⟩ i r = r.reverse ++ a.toList.drop i := by
  intro n
  induction n with
  | zero =>
    intro i r h
    have h1 : ¬ i < ByteArray.size ⟨a⟩ := by show ¬ i < a.size; omega
    unfold ByteArray.toList.loop
    rw [if_neg h1, List.drop_eq_nil_of_le (by simp; omega), List.append_nil]
  | succ n ih =>
    intro i r h
    have h1 : i < ByteArray.size ⟨a⟩ := by show i < a.size; omega
    have h2 : i < a.size := by omega
    unfold ByteArray.toList.loop
    rw [if_pos h1, ih (i + 1) _ (by omega), List.reverse_cons, List.append_assoc]
    congr 1
    have e : a.toList.drop i = a.toList[i]'(by simpa using h2) :: a.toList.drop (i + 1) := List.drop_eq_getElem_cons (by simpa using h2)
    rw [e]
    have e2 : ByteArray.get! ⟨a⟩ i = a[i] := by
      show a[i]! = a[i]
      rw [getElem!_pos a i h2]
    rw [e2]
    simp
theorem toList_str (l : List UInt8) : ByteArray.toList ⟨l.toArray⟩ = l := by
  unfold ByteArray.toList
  rw [toList_loop l.toArray l.length 0 [] (by simp)]
  simp
theorem add_str {t : TypeId} {a b : List UInt8} (h : a.length + b.length ≤ 9223372036854775807) : bin P .add t (str a) (str b) = some (str (a ++ b)) := by
  have e : binOp .add t (str a) (str b) = .pure (str (a ++ b)) := by
    show Op.stringOp .add _ _ = _
    unfold Op.stringOp
    have e1 : ByteArray.size ⟨a.toArray⟩ = a.length := rfl
    have e2 : ByteArray.size ⟨b.toArray⟩ = b.length := rfl
    have e3 : IntKind.i64.max = 9223372036854775807 := rfl
    simp only [e1, e2, e3]
    rw [if_neg (by omega)]
    have e4 : ((⟨a.toArray⟩ : ByteArray) ++ (⟨b.toArray⟩ : ByteArray)) = ⟨(a ++ b).toArray⟩ := by
      refine ByteArray.ext ?_
      simp
    rw [e4]; rfl
  unfold bin
  rw [if_pos ⟨rfl, rfl, rfl⟩, e]
  rfl
theorem eql_str {t : TypeId} {a b : List UInt8} : bin P .eql t (str a) (str b) = some (.bool (decide (a = b))) := by
  have e : binOp .eql t (str a) (str b) = .pure (.bool (decide (a = b))) := by
    show Op.stringOp .eql _ _ = _
    unfold Op.stringOp
    simp only [toList_str]
    show Sem.pure _ = _
    congr 2
    exact Bool.eq_iff_iff.mpr (by simp)
  unfold bin
  rw [if_pos ⟨rfl, rfl, rfl⟩, e]
  rfl
instance {t : TypeId} {a b : List UInt8} : PrimEq (bin P .eql t (str a) (str b)) (.bool (decide (a = b))) := ⟨eql_str⟩
instance (priority := 2000) {t : TypeId} {a : List UInt8} : PrimEq (bin P .eql t (str a) (str a)) (.bool true) := ⟨by rw [eql_str, decide_eq_true rfl]⟩
theorem bytesOf_map (l : List Nat) : bytesOf (l.map u8) = some (l.map fun n => UInt8.ofNat n) := by
  induction l with
  | nil => rfl
  | cons a l ih => show (bytesOf (l.map u8)).map _ = _; rw [ih]; rfl
theorem Acc.cell {e : TypeId} {H0 B0 B L H v ds} (h : Acc e H0 B0 B L H v ds) : IsCell v := by
  rcases h with ⟨_, rfl | ⟨b, off, rfl⟩, _⟩ | ⟨_, b, kd, cap, rfl, _, _⟩
  · exact inferInstance
  · exact inferInstance
  · exact inferInstance
theorem Acc.stC {t e e' : TypeId} {H0 B0 B : AH} {L L' : List (Nat × Blk)} {H : AH} {v : Value} {ds : List Nat} {b off : Nat} {cs0 cs : List Value} {w : Value} {f : Nat → Nat → AH → Option R} {Q : R → Prop} (h : Acc e H0 B0 B L H v ds) [hm : InL b ⟨cs0, e', .fix⟩ L] [hs : PrimEq (stK P t cs0 off w) cs]
    [hu : UpL b ⟨cs0, e', .fix⟩ ⟨cs, e', .fix⟩ L L'] (hk : ∀ H', Acc e H0 B0 B L' H' v ds → Ev (fun k n => f k n H') Q) : Ev (fun k n => (Go.AM.st P t H (ptr b off) w).bind (f k n)) Q := by
  rcases h with ⟨h1, hv, hS⟩ | ⟨hne, b2, kd, cap, hv, hkc, hS⟩
  · exact Ev.st hS hm.mem hs.eq rfl hu.upd fun H' hS' => hk H' (.inl ⟨h1, hv, hS'⟩)
  · exact Ev.st hS (.tail _ hm.mem) hs.eq rfl (.tail _ hu.upd) fun H' hS' => hk H' (.inr ⟨hne, b2, kd, cap, hv, hkc, hS'⟩)
instance {t : TypeId} {a b : List UInt8} : PrimC (bin P .add t (str a) (str b)) (a.length + b.length ≤ 9223372036854775807) (str (a ++ b)) := ⟨add_str⟩
end Go.AM
set_option linter.unusedVariables false
set_option linter.unusedSimpArgs false
namespace Go.AM
variable {α β R : Type} {P : Program}
/-- What append makes of such elements. -/
def gkl : List Value → BK
  | [v] => gkz v
  | _ => .grow
theorem gkl_gr (z : List Value) : gkl z = .grow ∨ gkl z = .buf := by
  unfold gkl
  split
  · exact gkz_gr _
  · exact .inl rfl
/-- A type of slices, by the cells of its elements. -/
class EltS (P : Program) (t : TypeId) (e : outParam TypeId) (z : outParam (List Value)) (sz by_ : outParam Nat) : Prop where
  U : P.underlying t = some (.slice e)
  I : (P.info? e).isSome = true
  S : szT P e = sz
  Y : byT P e = by_
  Z : ∃ zv, zeroT P e = some zv ∧ zv.cells.toList = z
  n : z.length = sz
  p : 0 < sz
  K : gk P e = gkl z
instance {t e : TypeId} {z : Value} {sz : Nat} [h : Elt P t e z sz] : EltS P t e [z] 1 sz := ⟨h.U, h.I, h.S, h.Y, ⟨z, h.Z, h.zn⟩, rfl, by decide, h.K⟩
section
variable {t u e u' : TypeId} {z : List Value} {sz by_ : Nat}
/-- A slice that stands: so many elements, their cells. -/
def ScN (B : AH) (v : Value) (n sz : Nat) (cs : List Value) : Prop :=
  (v = .slice none 0 0 ∧ n = 0 ∧ cs = []) ∨ ∃ b off cap, v = sl b off n cap ∧ n ≤ cap ∧ cs.length = n * sz ∧ (n = 0 ∨ ∃ K, blk B b = some K ∧ rdN K off (n * sz) = some cs)
theorem ScN.mono {B B' : AH} {v : Value} {n : Nat} {cs : List Value} (hm : Mo B B') (h : ScN B v n sz cs) : ScN B' v n sz cs := by
  rcases h with h | ⟨b, off, cap, h1, hc, hl, h2⟩
  · exact .inl h
  · exact .inr ⟨b, off, cap, h1, hc, hl, h2.imp id fun ⟨K, h3, h4⟩ => ⟨K, hm _ _ h3, h4⟩⟩
theorem ScN.cell {B : AH} {v : Value} {n : Nat} {cs : List Value} (h : ScN B v n sz cs) : IsCell v := by
  rcases h with ⟨rfl, _⟩ | ⟨b, off, cap, rfl, _⟩ <;> exact inferInstance
theorem ScN.nil {B : AH} : ScN B (.slice none 0 0) 0 sz [] := .inl ⟨rfl, rfl, rfl⟩
theorem ScN.length {B : AH} {v : Value} {n : Nat} {cs : List Value} (h : ScN B v n sz cs) : cs.length = n * sz := by
  rcases h with ⟨_, rfl, rfl⟩ | ⟨_, _, _, _, _, h, _⟩
  · simp
  · exact h
theorem ScN.len {B : AH} {v : Value} {n : Nat} {cs : List Value} {e : TypeId} (hU : P.underlying t = some (.slice e)) (h : ScN B v n sz cs) : lenV P t v = some (i64 n) := by
  rcases h with ⟨rfl, rfl, _⟩ | ⟨b, off, cap, rfl, _⟩
  · exact lenV_sl hU
  · exact lenV_sl hU
theorem ScN.lenOf {B : AH} {v : Value} {n : Nat} {cs : List Value} (h : ScN B v n sz cs) : AM.lenOf v = some n := by
  rcases h with ⟨rfl, rfl, _⟩ | ⟨b, off, cap, rfl, _⟩ <;> rfl
theorem ScN.notStr {B : AH} {v : Value} {n : Nat} {cs : List Value} (h : ScN B v n sz cs) : isNotStr v = true := by
  rcases h with ⟨rfl, rfl, _⟩ | ⟨b, off, cap, rfl, _⟩ <;> rfl
theorem ScN.cells {H : AH} {v : Value} {n : Nat} {cs : List Value} (h : ScN H v n sz cs) : sliceCells sz H v n = some cs := by
  rcases h with ⟨rfl, rfl, rfl⟩ | ⟨b, off, cap, rfl, hc, hl, h⟩
  · rfl
  · show (if n = 0 then some [] else if n ≤ n then (blk H b).bind fun k => rdN k off (n * sz) else none) = some cs
    by_cases hn : n = 0
    · rw [if_pos hn]
      rw [hn, Nat.zero_mul] at hl
      rw [List.length_eq_zero_iff.mp hl]
    · rw [if_neg hn, if_pos (Nat.le_refl _)]
      rcases h with rfl | ⟨K, h1, h2⟩
      · exact absurd rfl hn
      · rw [h1, Option.bind_some, h2]
/-- The i-th element's cells. -/
def nth (sz : Nat) (cs : List Value) (i : Nat) : List Value := (cs.drop (i * sz)).take sz
theorem nth_lt {i n : Nat} (h : i < n) : i * sz + sz ≤ n * sz := by
  rw [← Nat.succ_mul]; exact Nat.mul_le_mul_right _ h
/-- Where an element stands. -/
theorem ScN.ix {B : AH} {v : Value} {n i : Nat} {cs : List Value} {k : IntKind} (hU : P.underlying t = some (.slice e)) (hI : (P.info? e).isSome = true) (hS : szT P e = sz) (h : ScN B v n sz cs) (hi : i < n) :
    ∃ b o, ixA P t v (.int k (i : Int)) = some (ptr b o) ∧ ∃ K, blk B b = some K ∧ o + sz ≤ K.cells.length ∧ (K.cells.drop o).take sz = nth sz cs i := by
  rcases h with ⟨rfl, rfl, rfl⟩ | ⟨b, off, cap, rfl, hc, hl, h⟩
  · omega
  · rcases h with rfl | ⟨K, h1, h2⟩
    · omega
    refine ⟨b, off + i * sz, ?_, K, h1, ?_, ?_⟩
    · unfold ixA sl; rw [hU]; simp only; rw [if_pos ⟨hI, by omega, by omega⟩, hS, Int.toNat_natCast]
    · have := (rdN_some h2).1
      have := nth_lt (sz := sz) hi
      omega
    · obtain ⟨h3, h4⟩ := rdN_some h2
      have := nth_lt (sz := sz) hi
      rw [h4]
      unfold nth
      rw [List.drop_take, List.drop_drop, List.take_take, Nat.min_eq_left (by omega)]
/-- A part of it. -/
theorem ScN.slc {B : AH} {v : Value} {n i j : Nat} {cs : List Value} {lo hi : Option Value} (hU : P.underlying t = some (.slice e)) (hI : (P.info? e).isSome = true) (hS : szT P e = sz) (h : ScN B v n sz cs) (h1 : intOr lo 0 = some (i : Int)) (h2 : intOr hi n = some (j : Int)) (hij : i ≤ j) (hjn : j ≤ n) :
    ∃ v', Go.AM.slc P t v lo hi = some v' ∧ ScN B v' (j - i) sz ((cs.drop (i * sz)).take ((j - i) * sz)) := by
  rcases h with ⟨rfl, rfl, rfl⟩ | ⟨b, off, cap, rfl, hc, hl, h⟩
  · have hj : j = 0 := by omega
    have hi0 : i = 0 := by omega
    subst hj hi0
    refine ⟨.slice none 0 0, ?_, .inl ⟨rfl, rfl, by simp⟩⟩
    unfold Go.AM.slc; rw [hU]; simp only [h1, h2, Option.bind_some]
    rw [if_pos ⟨hI, rfl, rfl⟩]
  · have hle : i * sz + (j - i) * sz ≤ n * sz := by rw [← Nat.add_mul]; exact Nat.mul_le_mul_right _ (by omega)
    refine ⟨sl b (if cap = i then off else off + i * sz) (j - i) (cap - i), ?_, .inr ⟨b, _, _, rfl, by omega, by rw [List.length_take, List.length_drop]; omega, ?_⟩⟩
    · unfold Go.AM.slc sl; rw [hU]; simp only [h1, h2, Option.bind_some]
      rw [if_pos ⟨hI, by omega, by omega, by omega⟩, hS]
      simp
    · rcases h with rfl | ⟨K, h3, h4⟩
      · exact .inl (by omega)
      · by_cases h0 : j - i = 0
        · exact .inl h0
        · refine .inr ⟨K, h3, ?_⟩
          obtain ⟨h5, h6⟩ := rdN_some h4
          rw [if_neg (by omega), rdN, if_pos (by omega)]
          conv => rhs; rw [h6]
          rw [List.drop_take, List.take_take, List.drop_drop, Nat.min_eq_left (by omega)]
theorem Ev.ixN {B : AH} {v x : Value} {n : Nat} {cs : List Value} {k : IntKind} {z0 : Value} {sz0 : Nat} {f : Nat → Nat → Value → Option R} {Q : R → Prop} {i : Int} [hE : Elt P t e z0 sz0] (h : ScN B v n 1 cs) (j : Nat) (hi : i = (j : Int)) (hj : j < n) (hx : cs[j]? = some x)
    (hk : ∀ p, LdB P e p B x → Ev (fun k n => f k n p) Q) : Ev (fun k' n => (ixA P t v (.int k i)).bind (f k' n)) Q := by
  subst hi
  obtain ⟨b, o, h1, K, h2, h3, h4⟩ := h.ix (k := k) hE.U hE.I hE.S hj
  refine Ev.prim h1 (hk _ ⟨fun H' hm => ?_⟩)
  have hl := h.length
  unfold nth at h4
  rw [Nat.mul_one] at h4
  have e1 : K.cells[o]? = some x := by
    have e2 := congrArg (fun l => l[0]?) h4
    simp only [List.getElem?_take_of_lt (show 0 < 1 by decide), List.getElem?_drop, Nat.add_zero] at e2
    rw [e2, hx]
  rw [ld_blk (hm _ _ h2)]
  unfold ldK
  rw [hE.A]; exact e1
theorem ap_eqS {H : AH} {s v : Value} {n : Nat} {ds : List Value} [hE : EltS P t e z sz by_] (hu : P.underlying u = some (.slice u')) (hx : ScN H v n sz ds) (hd : ds.all isCell = true) :
    ap P t u H s v = apS (gkl z) sz by_ e H s n ds := by
  obtain ⟨zv, hz1, hz2⟩ := hE.Z
  have hsz : zv.cells.size = sz := by rw [← Array.length_toList, hz2, hE.n]
  unfold ap
  rw [hE.U, hu]
  simp only [hz1, hE.S, hE.Y, hE.K, Option.bind_some]
  rw [if_pos ⟨hE.p, hsz, hx.notStr⟩, hx.lenOf, Option.bind_some, hx.cells, Option.bind_some, if_pos hd]
/-- What grows: so many elements, their cells. -/
def GAcc (e : TypeId) (sz : Nat) (H0 B0 B : AH) (L : List (Nat × Blk)) (H : AH) (v : Value) (n : Nat) (cs : List Value) : Prop :=
  (n = 0 ∧ cs = [] ∧ (v = .slice none 0 0 ∨ ∃ b off, v = sl b off 0 0) ∧ St H0 B0 B L H) ∨
  (n ≠ 0 ∧ cs.length = n * sz ∧ ∃ b kd cap, v = sl b 0 n cap ∧ ((kd = .grow ∨ kd = .buf) ∧ cap ≠ 0 ∧ n ≤ cap ∨ kd = .fix ∧ cap = n) ∧ St H0 B0 B ((b, ⟨cs, e, kd⟩) :: L) H)
theorem GAcc.nil {H0 B0 B L H} (hS : St H0 B0 B L H) : GAcc e sz H0 B0 B L H (.slice none 0 0) 0 [] := .inl ⟨rfl, rfl, .inl rfl, hS⟩
theorem GAcc.st {H0 B0 B L H v n cs} (h : GAcc e sz H0 B0 B L H v n cs) : St H0 B0 B L H := by
  rcases h with ⟨_, _, _, hS⟩ | ⟨_, _, b, kd, cap, _, _, hS⟩
  · exact hS
  · exact hS.drop1
theorem GAcc.cell {H0 B0 B L H v n cs} (h : GAcc e sz H0 B0 B L H v n cs) : IsCell v := by
  rcases h with ⟨_, _, rfl | ⟨b, off, rfl⟩, _⟩ | ⟨_, _, b, kd, cap, rfl, _⟩ <;> exact inferInstance
theorem GAcc.len {H0 B0 B L H v n cs} {e' : TypeId} (hU : P.underlying t = some (.slice e')) (h : GAcc e sz H0 B0 B L H v n cs) : lenV P t v = some (i64 n) := by
  rcases h with ⟨rfl, _, rfl | ⟨b, off, rfl⟩, _⟩ | ⟨_, _, b, kd, cap, rfl, _⟩ <;> exact lenV_sl hU
theorem GAcc.length {H0 B0 B L H v n cs} (h : GAcc e sz H0 B0 B L H v n cs) : cs.length = n * sz := by
  rcases h with ⟨rfl, rfl, _⟩ | ⟨_, h, _⟩
  · simp
  · exact h
/-- What it holds, read now. -/
theorem GAcc.now {H0 B0 B L H v n cs} (h : GAcc e sz H0 B0 B L H v n cs) : ScN H v n sz cs := by
  rcases h with ⟨rfl, rfl, rfl | ⟨b, off, rfl⟩, hS⟩ | ⟨hn, hl, b, kd, cap, rfl, hk, hS⟩
  · exact .inl ⟨rfl, rfl, rfl⟩
  · exact .inr ⟨b, off, 0, rfl, Nat.le_refl _, by simp, .inl rfl⟩
  · refine .inr ⟨b, 0, cap, rfl, by rcases hk with ⟨_, _, h⟩ | ⟨_, h⟩ <;> omega, hl, .inr ⟨_, hS.get (.head _), ?_⟩⟩
    unfold rdN
    rw [if_pos (by simp only; omega), List.drop_zero, List.take_of_length_le (by simp only; omega)]
/-- Cells are put behind. -/
theorem GAcc.ap {H0 B0 B : AH} {L : List (Nat × Blk)} {H : AH} {v w : Value} {n m : Nat} {cs ds : List Value} [hE : EltS P t e z sz by_] (hu : P.underlying u = some (.slice u')) (h : GAcc e sz H0 B0 B L H v n cs) (hx : ScN H w m sz ds) (hd : ds.all isCell = true)
    (hl : (n + m) * by_ ≤ 140737488355328 ∧ n + m ≤ 9223372036854775807) : ∃ v' H' B', AM.ap P t u H v w = some (v', H') ∧ MoC B B' ∧ GAcc e sz H0 B0 B' L H' v' (n + m) (cs ++ ds) := by
  rw [ap_eqS hu hx hd]
  have hml := hx.length
  by_cases hm : m = 0
  · subst hm
    have hds : ds = [] := List.length_eq_zero_iff.mp (by rw [hml]; simp)
    subst hds
    refine ⟨v, H, B, ?_, ⟨Mo.refl B⟩, by rw [Nat.add_zero, List.append_nil]; exact h⟩
    rcases h with ⟨rfl, rfl, rfl | ⟨b, off, rfl⟩, hS⟩ | ⟨hn, hl, b, kd, cap, rfl, hk, hS⟩ <;> rfl
  rcases h with ⟨rfl, rfl, hv, hS⟩ | ⟨hn, hcl, b, kd, cap, rfl, hk, hS⟩
  · obtain ⟨B', hm1, hS'⟩ := hS.mkB ds e (gkl z)
    have hl' : m * by_ ≤ 140737488355328 ∧ m ≤ 9223372036854775807 := by simpa using hl
    refine ⟨sl H.length 0 m (m + 1), _, B', ?_, ⟨hm1⟩, .inr ⟨by omega, by simpa using hml, H.length, gkl z, m + 1, by rw [Nat.zero_add], .inl ⟨gkl_gr z, by omega, by omega⟩, hS'⟩⟩
    rcases hv with rfl | ⟨b, off, rfl⟩
    · simp only [apS, if_neg hm, if_pos hl']
    · simp only [apS, sl, if_neg hm, if_pos hl', if_true]
  · have hrd : rdN ⟨cs, e, kd⟩ 0 (n * sz) = some cs := by
      unfold rdN
      rw [if_pos (by simp only; omega), List.drop_zero, List.take_of_length_le (by simp only; omega)]
    have hb := hS.get (.head _)
    rcases hk with ⟨hkd, hc, hcl2⟩ | ⟨rfl, hcap⟩
    · obtain ⟨B', hm1, hS'⟩ := hS.kill.mkB (cs ++ ds) e kd
      rw [length_kill] at hS'
      refine ⟨sl H.length 0 (n + m) (n + m + 1), _, B', ?_, ⟨hm1⟩, .inr ⟨by omega, by rw [List.length_append, hcl, hml, Nat.add_mul], H.length, kd, _, rfl, .inl ⟨hkd, by omega, by omega⟩, hS'⟩⟩
      rcases hkd with rfl | rfl
      · simp only [apS, sl, if_neg hm, if_neg hc, hb, Option.bind_some, hrd, hl, and_self, if_true]
      · simp only [apS, sl, if_neg hm, if_neg hc, hb, Option.bind_some, hrd, hl, hcl, and_self, if_true]
    · obtain ⟨B', hm1, hS'⟩ := hS.mkB (cs ++ ds) e (gkl z)
      have hS'' : St H0 B0 B' ((H.length, ⟨cs ++ ds, e, gkl z⟩) :: L) (mkB H (cs ++ ds) e (gkl z)) := drop2 hS'
      refine ⟨sl H.length 0 (n + m) (n + m + 1), _, B', ?_, ⟨hm1⟩, .inr ⟨by omega, by rw [List.length_append, hcl, hml, Nat.add_mul], H.length, gkl z, _, rfl, .inl ⟨gkl_gr z, by omega, by omega⟩, hS''⟩⟩
      simp only [apS, sl, if_neg hm, if_neg (show cap ≠ 0 by omega), hb, Option.bind_some, hrd, hl, and_self, if_true]
      rw [if_neg (by omega)]
/-- One more element. -/
theorem GAcc.push {H0 B0 B : AH} {L : List (Nat × Blk)} {H : AH} {v x : Value} {n : Nat} {cs ds : List Value} {f : Nat → Nat → Value → AH → Option R} {Q : R → Prop} [hE : EltS P t e z sz by_] (h : GAcc e sz H0 B0 B L H v n cs) (hx : x.cells.toList = ds) (hxl : ds.length = sz) (hxc : okCells x = true) (hd : ds.all isCell = true)
    (hsz : sz ≤ 16777216) (hl : (n + 1) * by_ ≤ 140737488355328 ∧ n + 1 ≤ 9223372036854775807) (hk : ∀ v' B' H', MoC B B' → GAcc e sz H0 B0 B' L H' v' (n + 1) (cs ++ ds) → Ev (fun k n => f k n v' H') Q) :
    Ev (fun k n => Go.AM.b2 (Go.AM.buildS P t H 1 [(0, x)]) fun w h => Go.AM.b2 (Go.AM.ap P t t h v w) (f k n)) Q := by
  obtain ⟨zv, hz1, hz2⟩ := hE.Z
  have hzs : zv.cells.size = sz := by rw [← Array.length_toList, hz2, hE.n]
  have hxs : x.cells.size = sz := by rw [← Array.length_toList, hx, hxl]
  have hb : Go.AM.buildS P t H 1 [(0, x)] = some (sl H.length 0 1 1, mkB H ds e .fix) := by
    unfold Go.AM.buildS
    rw [hE.U]; simp only [hz1, Option.bind_some, hE.S]
    rw [if_pos ⟨by omega, hzs⟩]
    simp only [fillB, rep, hz2, List.append_nil, Nat.zero_mul]
    rw [if_pos ⟨hxs, by rw [hE.n]; omega, hxc⟩]
    have : spl z 0 x.cells.toList = ds := by
      unfold spl; rw [List.take_zero, List.nil_append, Nat.zero_add, hx, List.drop_eq_nil_of_le (by rw [hE.n]; omega), List.append_nil]
    rw [this]; rfl
  refine Ev.prim2 hb ?_
  have hG : GAcc e sz H0 B0 B L (mkB H ds e .fix) v n cs := by
    rcases h with ⟨h1, h2, h3, hS⟩ | ⟨hn, hcl, b, kd, cap, h1, h2, hS⟩
    · exact .inl ⟨h1, h2, h3, (hS.mkB' ds e .fix).drop1⟩
    · exact .inr ⟨hn, hcl, b, kd, cap, h1, h2, (hS.mkB' ds e .fix).drop1⟩
  have hw : ScN (mkB H ds e .fix) (sl H.length 0 1 1) 1 sz ds := by
    refine .inr ⟨H.length, 0, 1, rfl, Nat.le_refl _, by omega, .inr ⟨_, blk_mkB_new, ?_⟩⟩
    unfold rdN
    rw [if_pos (by simp only; omega), List.drop_zero, List.take_of_length_le (by simp only; omega)]
  obtain ⟨v', H', B', q1, q2, q3⟩ := hG.ap (P := P) (t := t) (u := t) hE.U hw hd hl
  exact Ev.prim2 q1 (hk v' B' H' q2 q3)
/-- It is done. -/
theorem GAcc.freeze {H0 B0 B : AH} {L : List (Nat × Blk)} {H : AH} {v : Value} {n : Nat} {cs : List Value} (h : GAcc e sz H0 B0 B L H v n cs) : ∃ B', MoC B B' ∧ ScN B' v n sz cs ∧ St H0 B0 B' L H := by
  rcases h with ⟨rfl, rfl, hv, hS⟩ | ⟨hn, hcl, b, kd, cap, rfl, hk, hS⟩
  · refine ⟨B, ⟨Mo.refl B⟩, ?_, hS⟩
    rcases hv with rfl | ⟨b, off, rfl⟩
    · exact ScN.nil
    · exact .inr ⟨b, off, 0, rfl, Nat.le_refl _, by simp, .inl rfl⟩
  · obtain ⟨B', h1, h2, h3⟩ := hS.freeze
    refine ⟨B', ⟨h1⟩, .inr ⟨b, 0, cap, rfl, by rcases hk with ⟨_, _, h⟩ | ⟨_, h⟩ <;> omega, hcl, .inr ⟨_, h2, ?_⟩⟩, h3⟩
    unfold rdN
    rw [if_pos (by simp only; omega), List.drop_zero, List.take_of_length_le (by simp only; omega)]
/-- A call beside it. -/
theorem GAcc.mo {H0 B0 B : AH} {L : List (Nat × Blk)} {H : AH} {v : Value} {n : Nat} {cs : List Value} (h : GAcc e sz H0 B0 B L H v n cs) {r : Value × AH} {Post : AH → Value → Prop} (ha : An B H Post r) : ∃ B', MoC B B' ∧ GAcc e sz H0 B0 B' L r.2 v n cs ∧ Post B' r.1 := by
  rcases h with ⟨h1, h2, hv, hS⟩ | ⟨hn, hcl, b, kd, cap, h1, hk, hS⟩
  · obtain ⟨B', q1, q2, q3⟩ := hS.call ha
    exact ⟨B', ⟨q1⟩, .inl ⟨h1, h2, hv, q2⟩, q3⟩
  · obtain ⟨B', q1, q2, q3⟩ := hS.call ha
    exact ⟨B', ⟨q1⟩, .inr ⟨hn, hcl, b, kd, cap, h1, hk, q2⟩, q3⟩
theorem GAcc.call {H0 B0 B : AH} {L : List (Nat × Blk)} {H : AH} {v : Value} {n : Nat} {cs : List Value} {g : Nat → Nat → Option (Value × AH)} {Post : AH → Value → Prop} {f : Nat → Nat → Value → AH → Option R} {Q : R → Prop} (h : GAcc e sz H0 B0 B L H v n cs)
    (hc : Le B H → Ev g (An B H Post)) (hk : ∀ w B' H', MoC B B' → GAcc e sz H0 B0 B' L H' v n cs → Post B' w → Ev (fun k n => f k n w H') Q) : Ev (fun k n => Go.AM.b2 (g k n) (f k n)) Q :=
  Ev.b2 (hc h.st.lel) fun w H' ha => by
    obtain ⟨B', q1, q2, q3⟩ := h.mo ha
    exact hk w B' H' q1 q2 q3
/-- Its blocks, as any others; and back again. -/
theorem GAcc.split {H0 B0 B : AH} {L : List (Nat × Blk)} {H : AH} {v : Value} {n : Nat} {cs : List Value} (h : GAcc e sz H0 B0 B L H v n cs) :
    ∃ Lx, St H0 B0 B Lx H ∧ (∀ B' H', St H0 B0 B' Lx H' → GAcc e sz H0 B0 B' L H' v n cs) ∧ ∀ p ∈ L, p ∈ Lx := by
  rcases h with ⟨h1, h2, hv, hS⟩ | ⟨hne, hcl, b2, kd, cap, hv, hkc, hS⟩
  · exact ⟨L, hS, fun B' H' hS' => .inl ⟨h1, h2, hv, hS'⟩, fun p hp => hp⟩
  · exact ⟨_, hS, fun B' H' hS' => .inr ⟨hne, hcl, b2, kd, cap, hv, hkc, hS'⟩, fun p hp => .tail _ hp⟩
/-- A store beside it. -/
theorem GAcc.stC {t' e' : TypeId} {H0 B0 B : AH} {L L' : List (Nat × Blk)} {H : AH} {v : Value} {n : Nat} {cs : List Value} {b off : Nat} {cs0 cs1 : List Value} {w : Value} {f : Nat → Nat → AH → Option R} {Q : R → Prop} (h : GAcc e sz H0 B0 B L H v n cs) [hm : InL b ⟨cs0, e', .fix⟩ L] [hs : PrimEq (stK P t' cs0 off w) cs1]
    [hu : UpL b ⟨cs0, e', .fix⟩ ⟨cs1, e', .fix⟩ L L'] (hk : ∀ H', GAcc e sz H0 B0 B L' H' v n cs → Ev (fun k n => f k n H') Q) : Ev (fun k n => (Go.AM.st P t' H (ptr b off) w).bind (f k n)) Q := by
  rcases h with ⟨h1, h2, hv, hS⟩ | ⟨hne, hcl, b2, kd, cap, hv, hkc, hS⟩
  · exact Ev.st hS hm.mem hs.eq rfl hu.upd fun H' hS' => hk H' (.inl ⟨h1, h2, hv, hS'⟩)
  · exact Ev.st hS (.tail _ hm.mem) hs.eq rfl (.tail _ hu.upd) fun H' hS' => hk H' (.inr ⟨hne, hcl, b2, kd, cap, hv, hkc, hS'⟩)
end
end Go.AM
set_option maxRecDepth 100000
namespace Go.AM.K
open Go Go.AM Go.Proofs
instance : Und Try.prog 3 (.int .i64) := ⟨Try.underlying3⟩
instance : InfoOf Try.prog 3 := ⟨by kernel_rfl⟩
instance : AggOf Try.prog 3 false := ⟨by kernel_rfl⟩
instance : SzOf Try.prog 3 1 := ⟨by kernel_rfl⟩
instance : ZeroOf Try.prog 3 (.int .i64 0) := ⟨by kernel_rfl⟩
instance : Und Try.prog 4 (.bool) := ⟨Try.underlying4⟩
instance : InfoOf Try.prog 4 := ⟨by kernel_rfl⟩
instance : AggOf Try.prog 4 false := ⟨by kernel_rfl⟩
instance : SzOf Try.prog 4 1 := ⟨by kernel_rfl⟩
instance : ZeroOf Try.prog 4 (.bool false) := ⟨by kernel_rfl⟩
instance {a b : Bool} : PrimEq (bin Try.prog .eql 4 (.bool a) (.bool b)) (.bool (a == b)) := ⟨by cases a <;> cases b <;> kernel_rfl⟩
instance {a b : Bool} : PrimEq (bin Try.prog .neq 4 (.bool a) (.bool b)) (.bool (a != b)) := ⟨by cases a <;> cases b <;> kernel_rfl⟩
instance : Und Try.prog 5 (.int .u8) := ⟨Try.underlying5⟩
instance : InfoOf Try.prog 5 := ⟨by kernel_rfl⟩
instance : AggOf Try.prog 5 false := ⟨by kernel_rfl⟩
instance : SzOf Try.prog 5 1 := ⟨by kernel_rfl⟩
instance : ZeroOf Try.prog 5 (.int .u8 0) := ⟨by kernel_rfl⟩
instance : Und Try.prog 9 (.string) := ⟨Try.underlying9⟩
instance : InfoOf Try.prog 9 := ⟨by kernel_rfl⟩
instance : AggOf Try.prog 9 false := ⟨by kernel_rfl⟩
instance : SzOf Try.prog 9 1 := ⟨by kernel_rfl⟩
instance : ZeroOf Try.prog 9 (.string ByteArray.empty) := ⟨by kernel_rfl⟩
instance : Und Try.prog 22 (.slice 9) := ⟨Try.underlying22⟩
instance : InfoOf Try.prog 22 := ⟨by kernel_rfl⟩
instance : AggOf Try.prog 22 false := ⟨by kernel_rfl⟩
instance : SzOf Try.prog 22 1 := ⟨by kernel_rfl⟩
instance : ZeroOf Try.prog 22 (.slice none 0 0) := ⟨by kernel_rfl⟩
instance : Elt Try.prog 22 9 (.string ByteArray.empty) 16 := ⟨Try.underlying22, by kernel_rfl, by kernel_rfl, by kernel_rfl, by kernel_rfl, by kernel_rfl, rfl, rfl, by kernel_rfl⟩
instance : Und Try.prog 23 (.slice 3) := ⟨Try.underlying23⟩
instance : InfoOf Try.prog 23 := ⟨by kernel_rfl⟩
instance : AggOf Try.prog 23 false := ⟨by kernel_rfl⟩
instance : SzOf Try.prog 23 1 := ⟨by kernel_rfl⟩
instance : ZeroOf Try.prog 23 (.slice none 0 0) := ⟨by kernel_rfl⟩
instance : Elt Try.prog 23 3 (.int .i64 0) 8 := ⟨Try.underlying23, by kernel_rfl, by kernel_rfl, by kernel_rfl, by kernel_rfl, by kernel_rfl, rfl, rfl, by kernel_rfl⟩
instance : Und Try.prog 25 (.pointer 42) := ⟨Try.underlying25⟩
instance : InfoOf Try.prog 25 := ⟨by kernel_rfl⟩
instance : AggOf Try.prog 25 false := ⟨by kernel_rfl⟩
instance : SzOf Try.prog 25 1 := ⟨by kernel_rfl⟩
instance : ZeroOf Try.prog 25 (.pointer none) := ⟨by kernel_rfl⟩
instance : Und Try.prog 26 (.int .i64) := ⟨Try.underlying26⟩
instance : InfoOf Try.prog 26 := ⟨by kernel_rfl⟩
instance : AggOf Try.prog 26 false := ⟨by kernel_rfl⟩
instance : SzOf Try.prog 26 1 := ⟨by kernel_rfl⟩
instance : ZeroOf Try.prog 26 (.int .i64 0) := ⟨by kernel_rfl⟩
instance : InfoOf Try.prog 29 := ⟨by kernel_rfl⟩
instance : AggOf Try.prog 29 true := ⟨by kernel_rfl⟩
instance : SzOf Try.prog 29 6 := ⟨by kernel_rfl⟩
instance : Und Try.prog 30 (.slice 5) := ⟨Try.underlying30⟩
instance : InfoOf Try.prog 30 := ⟨by kernel_rfl⟩
instance : AggOf Try.prog 30 false := ⟨by kernel_rfl⟩
instance : SzOf Try.prog 30 1 := ⟨by kernel_rfl⟩
instance : ZeroOf Try.prog 30 (.slice none 0 0) := ⟨by kernel_rfl⟩
instance : Elt Try.prog 30 5 (.int .u8 0) 1 := ⟨Try.underlying30, by kernel_rfl, by kernel_rfl, by kernel_rfl, by kernel_rfl, by kernel_rfl, rfl, rfl, by kernel_rfl⟩
instance : Und Try.prog 40 (.slice 45) := ⟨Try.underlying40⟩
instance : InfoOf Try.prog 40 := ⟨by kernel_rfl⟩
instance : AggOf Try.prog 40 false := ⟨by kernel_rfl⟩
instance : SzOf Try.prog 40 1 := ⟨by kernel_rfl⟩
instance : ZeroOf Try.prog 40 (.slice none 0 0) := ⟨by kernel_rfl⟩
instance : EltS Try.prog 40 45 [.int .i64 0, .string ByteArray.empty] 2 24 := ⟨Try.underlying40, by kernel_rfl, by kernel_rfl, by kernel_rfl, ⟨.agg #[.int .i64 0, .string ByteArray.empty], by kernel_rfl, rfl⟩, rfl, by decide, by kernel_rfl⟩
instance : InfoOf Try.prog 42 := ⟨by kernel_rfl⟩
instance : AggOf Try.prog 42 true := ⟨by kernel_rfl⟩
instance : SzOf Try.prog 42 4 := ⟨by kernel_rfl⟩
instance : StructOf Try.prog 42 [.slice none 0 0, .slice none 0 0, .int .i64 0, .bool false] := ⟨by kernel_rfl, _, Try.underlying42, by kernel_rfl⟩
instance : FieldOf Try.prog 42 0 0 30 := ⟨⟨_, _, Try.underlying42, rfl, rfl, rfl⟩, by decide +kernel⟩
instance : FieldOf Try.prog 42 1 1 40 := ⟨⟨_, _, Try.underlying42, rfl, rfl, rfl⟩, by decide +kernel⟩
instance : FieldOf Try.prog 42 2 2 3 := ⟨⟨_, _, Try.underlying42, rfl, rfl, rfl⟩, by decide +kernel⟩
instance : FieldOf Try.prog 42 3 3 4 := ⟨⟨_, _, Try.underlying42, rfl, rfl, rfl⟩, by decide +kernel⟩
instance : InfoOf Try.prog 45 := ⟨by kernel_rfl⟩
instance : AggOf Try.prog 45 true := ⟨by kernel_rfl⟩
instance : SzOf Try.prog 45 2 := ⟨by kernel_rfl⟩
instance : StructOf Try.prog 45 [.int .i64 0, .string ByteArray.empty] := ⟨by kernel_rfl, _, Try.underlying45, by kernel_rfl⟩
instance : FieldOf Try.prog 45 0 0 3 := ⟨⟨_, _, Try.underlying45, rfl, rfl, rfl⟩, by decide +kernel⟩
instance : FieldOf Try.prog 45 1 1 9 := ⟨⟨_, _, Try.underlying45, rfl, rfl, rfl⟩, by decide +kernel⟩
end Go.AM.K
set_option linter.unusedVariables false
set_option maxRecDepth 100000
namespace Go.AM.K
open Go Go.AM Go.Proofs
noncomputable section
def tbs : FuncId → Tbl
  | 3 => [(28, [0, 1, 2, 7, 8, 10, 11]), (29, [0, 1, 2, 7, 8, 10]), (42, [0, 1, 2, 7, 8, 10]), (46, [0, 1, 2, 7, 8, 10, 12]), (47, [1, 2, 6, 7, 8, 10]), (67, [1, 2, 7, 8, 10, 14]), (68, [6, 7, 8]), (76, [1, 2, 7, 8, 10, 14, 15]), (77, [1, 2, 6, 7, 8, 10, 14])]
  | 4 => [(25, [0, 1, 2, 3, 4, 11, 12, 14]), (26, [0, 1, 2, 3, 4, 10, 11, 12]), (43, [0, 1, 2, 3, 4, 11, 12, 15, 16]), (44, [0, 1, 2, 3, 4, 10, 11, 12, 15]), (64, [0, 1, 2, 3, 11, 12, 15, 17, 18]), (65, [10, 11, 12, 15, 17]), (91, [0, 1, 2, 3, 11, 12, 15, 17, 18, 19, 21, 22, 23, 24]), (92, [0, 1, 2, 3, 11, 12, 15, 17, 18, 19, 21, 22, 23])]
  | 7 => [(10, [0, 3, 4]), (11, [3])]
  | 9 => [(2, [9]), (22, [3, 4, 5]), (23, [0, 3, 4, 5])]
  | 11 => [(6, [0, 1, 2, 3]), (10, [0, 1, 2, 3, 18, 19, 20]), (11, [0])]
  | 18 => [(4, [0, 6, 7, 8]), (5, [0])]
  | 20 => [(4, [0, 1, 3]), (5, [])]
  | _ => []
noncomputable def gv : Given := fun _ => none
noncomputable abbrev rn (k : Nat) : CallF := run Try.prog tbs gv k
theorem ranges : rangesB Try.prog tbs = true := by kernel_rfl
abbrev f4_T_L0 (s0 s1 s2 s3 s4 s11 s12 s14 : Value) : List Value := [s0, s1, s2, s3, s4, unk, unk, unk, unk, unk, unk, s11, s12, unk, s14, unk, unk, unk, unk, unk, unk, unk, unk, unk, unk, unk, unk, unk, unk, unk, unk, unk, unk, unk, unk, unk, unk, unk, unk, unk, unk, unk, unk, unk, unk, unk, unk, unk, unk, unk, unk, unk, unk, unk, unk, unk, unk, unk, unk, unk, unk, unk, unk, unk, unk, unk, unk, unk, unk, unk, unk, unk, unk, unk, unk, unk, unk, unk, unk, unk, unk, unk, unk, unk, unk, unk, unk, unk, unk, unk, unk, unk, unk, unk, unk, unk, unk, unk, unk, unk, unk, unk, unk, unk, unk, unk, unk, unk, unk, unk, unk, unk, unk, unk, unk, unk, unk, unk, unk, unk, unk, unk, unk, unk, unk, unk, unk, unk, unk, unk, unk, unk, unk, unk, unk, unk, unk, unk, unk, unk, unk, unk, unk, unk, unk, unk, unk, unk, unk, unk, unk, unk, unk, unk, unk, unk, unk, unk, unk, unk, unk, unk, unk, unk, unk, unk, unk, unk, unk, unk, unk, unk, unk, unk, unk, unk, unk, unk, unk, unk, unk, unk, unk, unk, unk, unk, unk, unk, unk, unk, unk, unk, unk, unk, unk, unk, unk, unk, unk, unk]
abbrev f4_X_L0 (s0 s1 s2 s3 s4 s10 s11 s12 : Value) : List Value := [s0, s1, s2, s3, s4, unk, unk, unk, unk, unk, s10, s11, s12, unk, unk, unk, unk, unk, unk, unk, unk, unk, unk, unk, unk, unk, unk, unk, unk, unk, unk, unk, unk, unk, unk, unk, unk, unk, unk, unk, unk, unk, unk, unk, unk, unk, unk, unk, unk, unk, unk, unk, unk, unk, unk, unk, unk, unk, unk, unk, unk, unk, unk, unk, unk, unk, unk, unk, unk, unk, unk, unk, unk, unk, unk, unk, unk, unk, unk, unk, unk, unk, unk, unk, unk, unk, unk, unk, unk, unk, unk, unk, unk, unk, unk, unk, unk, unk, unk, unk, unk, unk, unk, unk, unk, unk, unk, unk, unk, unk, unk, unk, unk, unk, unk, unk, unk, unk, unk, unk, unk, unk, unk, unk, unk, unk, unk, unk, unk, unk, unk, unk, unk, unk, unk, unk, unk, unk, unk, unk, unk, unk, unk, unk, unk, unk, unk, unk, unk, unk, unk, unk, unk, unk, unk, unk, unk, unk, unk, unk, unk, unk, unk, unk, unk, unk, unk, unk, unk, unk, unk, unk, unk, unk, unk, unk, unk, unk, unk, unk, unk, unk, unk, unk, unk, unk, unk, unk, unk, unk, unk, unk, unk, unk, unk, unk, unk, unk, unk, unk]
abbrev f4_T_L1 (s0 s1 s2 s3 s4 s11 s12 s15 s16 : Value) : List Value := [s0, s1, s2, s3, s4, unk, unk, unk, unk, unk, unk, s11, s12, unk, unk, s15, s16, unk, unk, unk, unk, unk, unk, unk, unk, unk, unk, unk, unk, unk, unk, unk, unk, unk, unk, unk, unk, unk, unk, unk, unk, unk, unk, unk, unk, unk, unk, unk, unk, unk, unk, unk, unk, unk, unk, unk, unk, unk, unk, unk, unk, unk, unk, unk, unk, unk, unk, unk, unk, unk, unk, unk, unk, unk, unk, unk, unk, unk, unk, unk, unk, unk, unk, unk, unk, unk, unk, unk, unk, unk, unk, unk, unk, unk, unk, unk, unk, unk, unk, unk, unk, unk, unk, unk, unk, unk, unk, unk, unk, unk, unk, unk, unk, unk, unk, unk, unk, unk, unk, unk, unk, unk, unk, unk, unk, unk, unk, unk, unk, unk, unk, unk, unk, unk, unk, unk, unk, unk, unk, unk, unk, unk, unk, unk, unk, unk, unk, unk, unk, unk, unk, unk, unk, unk, unk, unk, unk, unk, unk, unk, unk, unk, unk, unk, unk, unk, unk, unk, unk, unk, unk, unk, unk, unk, unk, unk, unk, unk, unk, unk, unk, unk, unk, unk, unk, unk, unk, unk, unk, unk, unk, unk, unk, unk, unk, unk, unk, unk, unk, unk]
abbrev f4_X_L1 (s0 s1 s2 s3 s4 s10 s11 s12 s15 : Value) : List Value := [s0, s1, s2, s3, s4, unk, unk, unk, unk, unk, s10, s11, s12, unk, unk, s15, unk, unk, unk, unk, unk, unk, unk, unk, unk, unk, unk, unk, unk, unk, unk, unk, unk, unk, unk, unk, unk, unk, unk, unk, unk, unk, unk, unk, unk, unk, unk, unk, unk, unk, unk, unk, unk, unk, unk, unk, unk, unk, unk, unk, unk, unk, unk, unk, unk, unk, unk, unk, unk, unk, unk, unk, unk, unk, unk, unk, unk, unk, unk, unk, unk, unk, unk, unk, unk, unk, unk, unk, unk, unk, unk, unk, unk, unk, unk, unk, unk, unk, unk, unk, unk, unk, unk, unk, unk, unk, unk, unk, unk, unk, unk, unk, unk, unk, unk, unk, unk, unk, unk, unk, unk, unk, unk, unk, unk, unk, unk, unk, unk, unk, unk, unk, unk, unk, unk, unk, unk, unk, unk, unk, unk, unk, unk, unk, unk, unk, unk, unk, unk, unk, unk, unk, unk, unk, unk, unk, unk, unk, unk, unk, unk, unk, unk, unk, unk, unk, unk, unk, unk, unk, unk, unk, unk, unk, unk, unk, unk, unk, unk, unk, unk, unk, unk, unk, unk, unk, unk, unk, unk, unk, unk, unk, unk, unk, unk, unk, unk, unk, unk, unk]
abbrev f4_T_L2 (s0 s1 s2 s3 s11 s12 s15 s17 s18 : Value) : List Value := [s0, s1, s2, s3, unk, unk, unk, unk, unk, unk, unk, s11, s12, unk, unk, s15, unk, s17, s18, unk, unk, unk, unk, unk, unk, unk, unk, unk, unk, unk, unk, unk, unk, unk, unk, unk, unk, unk, unk, unk, unk, unk, unk, unk, unk, unk, unk, unk, unk, unk, unk, unk, unk, unk, unk, unk, unk, unk, unk, unk, unk, unk, unk, unk, unk, unk, unk, unk, unk, unk, unk, unk, unk, unk, unk, unk, unk, unk, unk, unk, unk, unk, unk, unk, unk, unk, unk, unk, unk, unk, unk, unk, unk, unk, unk, unk, unk, unk, unk, unk, unk, unk, unk, unk, unk, unk, unk, unk, unk, unk, unk, unk, unk, unk, unk, unk, unk, unk, unk, unk, unk, unk, unk, unk, unk, unk, unk, unk, unk, unk, unk, unk, unk, unk, unk, unk, unk, unk, unk, unk, unk, unk, unk, unk, unk, unk, unk, unk, unk, unk, unk, unk, unk, unk, unk, unk, unk, unk, unk, unk, unk, unk, unk, unk, unk, unk, unk, unk, unk, unk, unk, unk, unk, unk, unk, unk, unk, unk, unk, unk, unk, unk, unk, unk, unk, unk, unk, unk, unk, unk, unk, unk, unk, unk, unk, unk, unk, unk, unk, unk]
abbrev f4_X_L2 (s10 s11 s12 s15 s17 : Value) : List Value := [unk, unk, unk, unk, unk, unk, unk, unk, unk, unk, s10, s11, s12, unk, unk, s15, unk, s17, unk, unk, unk, unk, unk, unk, unk, unk, unk, unk, unk, unk, unk, unk, unk, unk, unk, unk, unk, unk, unk, unk, unk, unk, unk, unk, unk, unk, unk, unk, unk, unk, unk, unk, unk, unk, unk, unk, unk, unk, unk, unk, unk, unk, unk, unk, unk, unk, unk, unk, unk, unk, unk, unk, unk, unk, unk, unk, unk, unk, unk, unk, unk, unk, unk, unk, unk, unk, unk, unk, unk, unk, unk, unk, unk, unk, unk, unk, unk, unk, unk, unk, unk, unk, unk, unk, unk, unk, unk, unk, unk, unk, unk, unk, unk, unk, unk, unk, unk, unk, unk, unk, unk, unk, unk, unk, unk, unk, unk, unk, unk, unk, unk, unk, unk, unk, unk, unk, unk, unk, unk, unk, unk, unk, unk, unk, unk, unk, unk, unk, unk, unk, unk, unk, unk, unk, unk, unk, unk, unk, unk, unk, unk, unk, unk, unk, unk, unk, unk, unk, unk, unk, unk, unk, unk, unk, unk, unk, unk, unk, unk, unk, unk, unk, unk, unk, unk, unk, unk, unk, unk, unk, unk, unk, unk, unk, unk, unk, unk, unk, unk, unk]
abbrev f4_T_L3 (s0 s1 s2 s3 s11 s12 s15 s17 s18 s19 s21 s22 s23 s24 : Value) : List Value := [s0, s1, s2, s3, unk, unk, unk, unk, unk, unk, unk, s11, s12, unk, unk, s15, unk, s17, s18, s19, unk, s21, s22, s23, s24, unk, unk, unk, unk, unk, unk, unk, unk, unk, unk, unk, unk, unk, unk, unk, unk, unk, unk, unk, unk, unk, unk, unk, unk, unk, unk, unk, unk, unk, unk, unk, unk, unk, unk, unk, unk, unk, unk, unk, unk, unk, unk, unk, unk, unk, unk, unk, unk, unk, unk, unk, unk, unk, unk, unk, unk, unk, unk, unk, unk, unk, unk, unk, unk, unk, unk, unk, unk, unk, unk, unk, unk, unk, unk, unk, unk, unk, unk, unk, unk, unk, unk, unk, unk, unk, unk, unk, unk, unk, unk, unk, unk, unk, unk, unk, unk, unk, unk, unk, unk, unk, unk, unk, unk, unk, unk, unk, unk, unk, unk, unk, unk, unk, unk, unk, unk, unk, unk, unk, unk, unk, unk, unk, unk, unk, unk, unk, unk, unk, unk, unk, unk, unk, unk, unk, unk, unk, unk, unk, unk, unk, unk, unk, unk, unk, unk, unk, unk, unk, unk, unk, unk, unk, unk, unk, unk, unk, unk, unk, unk, unk, unk, unk, unk, unk, unk, unk, unk, unk, unk, unk, unk, unk, unk, unk]
abbrev f4_X_L3 (s0 s1 s2 s3 s11 s12 s15 s17 s18 s19 s21 s22 s23 : Value) : List Value := [s0, s1, s2, s3, unk, unk, unk, unk, unk, unk, unk, s11, s12, unk, unk, s15, unk, s17, s18, s19, unk, s21, s22, s23, unk, unk, unk, unk, unk, unk, unk, unk, unk, unk, unk, unk, unk, unk, unk, unk, unk, unk, unk, unk, unk, unk, unk, unk, unk, unk, unk, unk, unk, unk, unk, unk, unk, unk, unk, unk, unk, unk, unk, unk, unk, unk, unk, unk, unk, unk, unk, unk, unk, unk, unk, unk, unk, unk, unk, unk, unk, unk, unk, unk, unk, unk, unk, unk, unk, unk, unk, unk, unk, unk, unk, unk, unk, unk, unk, unk, unk, unk, unk, unk, unk, unk, unk, unk, unk, unk, unk, unk, unk, unk, unk, unk, unk, unk, unk, unk, unk, unk, unk, unk, unk, unk, unk, unk, unk, unk, unk, unk, unk, unk, unk, unk, unk, unk, unk, unk, unk, unk, unk, unk, unk, unk, unk, unk, unk, unk, unk, unk, unk, unk, unk, unk, unk, unk, unk, unk, unk, unk, unk, unk, unk, unk, unk, unk, unk, unk, unk, unk, unk, unk, unk, unk, unk, unk, unk, unk, unk, unk, unk, unk, unk, unk, unk, unk, unk, unk, unk, unk, unk, unk, unk, unk, unk, unk, unk, unk]
@[irreducible] def f4_L0 (k : Nat) (s0 s1 s2 s3 s4 s11 s12 s14 : Value) (n : Nat) (H : AH) : Option Out := iterD (fun T H K => evalK Try.prog (rn k) k (tbs 4) (codeAt (bodyOf Try.f4) [1, 1, 1, 1, 1, 0, 1, 0, 0]) T H K) (cutT (tbs 4) 25) (cutT (tbs 4) 26) n (f4_T_L0 s0 s1 s2 s3 s4 s11 s12 s14) H
@[irreducible] def f4_A0 (k : Nat) (e : EX) (T : List Value) (H : AH) : Option (Value × AH) := resume Try.prog (rn k) k (tbs 4) (bodyOf Try.f4) [1, 1, 1, 1, 1, 0, 1, 0] e T H (resK Try.prog Try.f4.results.toList)
@[irreducible] def f4_L1 (k : Nat) (s0 s1 s2 s3 s4 s11 s12 s15 s16 : Value) (n : Nat) (H : AH) : Option Out := iterD (fun T H K => evalK Try.prog (rn k) k (tbs 4) (codeAt (bodyOf Try.f4) [1, 1, 1, 1, 1, 1, 1, 0, 1, 0, 0]) T H K) (cutT (tbs 4) 43) (cutT (tbs 4) 44) n (f4_T_L1 s0 s1 s2 s3 s4 s11 s12 s15 s16) H
@[irreducible] def f4_A1 (k : Nat) (e : EX) (T : List Value) (H : AH) : Option (Value × AH) := resume Try.prog (rn k) k (tbs 4) (bodyOf Try.f4) [1, 1, 1, 1, 1, 1, 1, 0, 1, 0] e T H (resK Try.prog Try.f4.results.toList)
@[irreducible] def f4_L2 (k : Nat) (s0 s1 s2 s3 s11 s12 s15 s17 s18 : Value) (n : Nat) (H : AH) : Option Out := iterD (fun T H K => evalK Try.prog (rn k) k (tbs 4) (codeAt (bodyOf Try.f4) [1, 1, 1, 1, 1, 1, 1, 1, 1, 1, 0, 1, 0, 0]) T H K) (cutT (tbs 4) 64) (cutT (tbs 4) 65) n (f4_T_L2 s0 s1 s2 s3 s11 s12 s15 s17 s18) H
@[irreducible] def f4_A2 (k : Nat) (e : EX) (T : List Value) (H : AH) : Option (Value × AH) := resume Try.prog (rn k) k (tbs 4) (bodyOf Try.f4) [1, 1, 1, 1, 1, 1, 1, 1, 1, 1, 0, 1, 0] e T H (resK Try.prog Try.f4.results.toList)
@[irreducible] def f4_L3 (k : Nat) (s0 s1 s2 s3 s11 s12 s15 s17 s18 s19 s21 s22 s23 s24 : Value) (n : Nat) (H : AH) : Option Out := iterD (fun T H K => evalK Try.prog (rn k) k (tbs 4) (codeAt (bodyOf Try.f4) [1, 1, 1, 1, 1, 1, 1, 1, 1, 1, 0, 1, 0, 0, 1, 0, 0, 1, 1, 1, 1, 1, 0, 1, 0, 0]) T H K) (cutT (tbs 4) 91) (cutT (tbs 4) 92) n (f4_T_L3 s0 s1 s2 s3 s11 s12 s15 s17 s18 s19 s21 s22 s23 s24) H
@[irreducible] def f4_A3 (k : Nat) (n : Nat) (e : EX) (T : List Value) (H : AH) : Option Out := resume Try.prog (rn k) k (tbs 4) (codeAt (bodyOf Try.f4) [1, 1, 1, 1, 1, 1, 1, 1, 1, 1, 0, 1, 0, 0]) [1, 0, 0, 1, 1, 1, 1, 1, 0, 1, 0] e T H (loopK (iterD (fun T H K => evalK Try.prog (rn k) k (tbs 4) (codeAt (bodyOf Try.f4) [1, 1, 1, 1, 1, 1, 1, 1, 1, 1, 0, 1, 0, 0]) T H K) (cutT (tbs 4) 64) (cutT (tbs 4) 65) n) (cutT (tbs 4) 64) (cutT (tbs 4) 65))
theorem f4_L0_succ (k : Nat) (s0 s1 s2 s3 s4 s11 s12 s14 : Value) (n : Nat) (H : AH) : f4_L0 k s0 s1 s2 s3 s4 s11 s12 s14 (n + 1) H =
(bin Try.prog .lss 3 s14 (.int .i64 8)).bind fun v10 =>
aIf v10
 ((cv Try.prog 3 5 s14).bind fun v11 =>
 b2 (buildS Try.prog 30 H 1 [(0, v11)]) fun v12 h12 =>
 (cvS Try.prog 30 9 h12 v12).bind fun v13 =>
 (bin Try.prog .add 9 s0 v13).bind fun v14 =>
 b2 (rn k 7 [v14] h12) fun v15 h15 =>
 b2 (rn k 8 [s12, s14, v15] h15) fun v16 h16 =>
 (bin Try.prog .neq 26 v16 (.int .i64 0)).bind fun v17 =>
 aIf v17
  (some (.ret, (f4_X_L0 s0 s1 s2 s3 s4 (.bool false) s11 s12), h16))
  ((bin Try.prog .add 3 s14 (.int .i64 1)).bind fun v18 =>
  f4_L0 k s0 s1 s2 s3 s4 s11 s12 v18 n h16))
 (some ((.exit 0), (f4_X_L0 s0 s1 s2 s3 s4 unk s11 s12), H)) := by kernel_rfl
theorem f4_A0_x0 (k : Nat) (s0 s1 s2 s3 s4 s10 s11 s12 : Value) (H : AH) : f4_A0 k (.exit 0) (f4_X_L0 s0 s1 s2 s3 s4 s10 s11 s12) H =
b2 (rn k 10 [s12] H) fun v19 h19 =>
(f4_L1 k s0 s1 s2 s3 s4 s11 s12 v19 (.int .i64 0) k h19).bind fun p => f4_A1 k p.1 p.2.1 p.2.2 := by kernel_rfl
theorem f4_L1_succ (k : Nat) (s0 s1 s2 s3 s4 s11 s12 s15 s16 : Value) (n : Nat) (H : AH) : f4_L1 k s0 s1 s2 s3 s4 s11 s12 s15 s16 (n + 1) H =
(bin Try.prog .lss 3 s16 (.int .i64 8)).bind fun v20 =>
aIf v20
 ((bin Try.prog .add 3 s16 (.int .i64 9)).bind fun v21 =>
 (cv Try.prog 3 5 v21).bind fun v22 =>
 b2 (buildS Try.prog 30 H 1 [(0, v22)]) fun v23 h23 =>
 (cvS Try.prog 30 9 h23 v23).bind fun v24 =>
 (bin Try.prog .add 9 s1 v24).bind fun v25 =>
 b2 (rn k 7 [v25] h23) fun v26 h26 =>
 b2 (rn k 8 [s12, s16, v26] h26) fun v27 h27 =>
 (bin Try.prog .neq 26 v27 (.int .i64 0)).bind fun v28 =>
 aIf v28
  (some (.ret, (f4_X_L1 s0 s1 s2 s3 s4 (.bool false) s11 s12 s15), h27))
  ((bin Try.prog .add 3 s16 (.int .i64 1)).bind fun v29 =>
  f4_L1 k s0 s1 s2 s3 s4 s11 s12 s15 v29 n h27))
 (some ((.exit 2), (f4_X_L1 s0 s1 s2 s3 s4 unk s11 s12 s15), H)) := by kernel_rfl
theorem f4_A1_x2 (k : Nat) (s0 s1 s2 s3 s4 s10 s11 s12 s15 : Value) (H : AH) : f4_A1 k (.exit 2) (f4_X_L1 s0 s1 s2 s3 s4 s10 s11 s12 s15) H =
b2 (rn k 12 [s12] H) fun v30 h30 =>
b2 (rn k 11 [s12, s2, s3, s4] h30) fun v31 h31 =>
(f4_L2 k s0 s1 s2 s3 s11 s12 s15 v30 (.int .i64 0) k h31).bind fun p => f4_A2 k p.1 p.2.1 p.2.2 := by kernel_rfl
theorem f4_L2_succ (k : Nat) (s0 s1 s2 s3 s11 s12 s15 s17 s18 : Value) (n : Nat) (H : AH) : f4_L2 k s0 s1 s2 s3 s11 s12 s15 s17 s18 (n + 1) H =
(bin Try.prog .lss 3 s18 (.int .i64 8)).bind fun v32 =>
aIf v32
 (b2 (rn k 9 [s12, s18] H) fun v33 h33 =>
 (ext v33 0).bind fun v34 =>
 (ext v33 1).bind fun v35 =>
 (cv Try.prog 3 5 s18).bind fun v36 =>
 b2 (buildS Try.prog 30 h33 1 [(0, v36)]) fun v37 h37 =>
 (cvS Try.prog 30 9 h37 v37).bind fun v38 =>
 (bin Try.prog .add 9 s0 v38).bind fun v39 =>
 b2 (rn k 7 [v39] h37) fun v40 h40 =>
 (bin Try.prog .add 3 s18 (.int .i64 9)).bind fun v41 =>
 (cv Try.prog 3 5 v41).bind fun v42 =>
 b2 (buildS Try.prog 30 h40 1 [(0, v42)]) fun v43 h43 =>
 (cvS Try.prog 30 9 h43 v43).bind fun v44 =>
 (bin Try.prog .add 9 s1 v44).bind fun v45 =>
 b2 (rn k 7 [v45] h43) fun v46 h46 =>
 (bin Try.prog .neq 26 v35 (.int .i64 0)).bind fun v47 =>
 b2 (gOp v47 false (some (v34, h46)) h46) fun v48 h48 =>
 b2 (gOp v47 false ((lenV Try.prog 9 v48).bind fun v => some (v, h48)) h48) fun v49 h49 =>
 b2 (gOp v47 false ((bin Try.prog .neq 3 v49 (.int .i64 64)).bind fun v => some (v, h49)) h49) fun v50 h50 =>
 (pickV v47 (.bool true) v50).bind fun v51 =>
 aIf v51
  (some (.ret, (f4_X_L2 (.bool false) s11 s12 s15 s17), h50))
  ((f4_L3 k s0 s1 s2 s3 s11 s12 s15 s17 s18 v34 v40 v46 (.bool false) (.int .i64 0) k h50).bind fun p => f4_A3 k n p.1 p.2.1 p.2.2))
 (some ((.exit 4), (f4_X_L2 unk s11 s12 s15 s17), H)) := by kernel_rfl
theorem f4_A2_x4 (k : Nat) (s10 s11 s12 s15 s17 : Value) (H : AH) : f4_A2 k (.exit 4) (f4_X_L2 s10 s11 s12 s15 s17) H =
b2 (gOp s11 true (some (s15, H)) H) fun v52 h52 =>
b2 (gOp s11 true ((bin Try.prog .eql 26 v52 (.int .i64 0)).bind fun v => some (v, h52)) h52) fun v53 h53 =>
(pickV s11 v53 (.bool false)).bind fun v54 =>
b2 (gOp v54 true (some (s17, h53)) h53) fun v55 h55 =>
b2 (gOp v54 true ((bin Try.prog .eql 3 v55 (.int .i64 8)).bind fun v => some (v, h55)) h55) fun v56 h56 =>
(pickV v54 v56 (.bool false)).bind fun v57 =>
b2 (gOp v57 true (some (s12, h56)) h56) fun v58 h58 =>
b2 (gOp v57 true (b2 (rn k 12 [v58] h58) fun v h => some (v, h)) h58) fun v59 h59 =>
b2 (gOp v57 true ((bin Try.prog .eql 3 v59 (.int .i64 0)).bind fun v => some (v, h59)) h59) fun v60 h60 =>
(pickV v57 v60 (.bool false)).bind fun v61 =>
b2 (gOp v61 true (some (s12, h60)) h60) fun v62 h62 =>
b2 (gOp v61 true (b2 (rn k 13 [v62] h62) fun v h => some (v, h)) h62) fun v63 h63 =>
b2 (gOp v61 true ((un Try.prog .not v63).bind fun v => some (v, h63)) h63) fun v64 h64 =>
(pickV v61 v64 (.bool false)).bind fun v65 =>
some (v65, h64) := by kernel_rfl
theorem f4_L3_succ (k : Nat) (s0 s1 s2 s3 s11 s12 s15 s17 s18 s19 s21 s22 s23 s24 : Value) (n : Nat) (H : AH) : f4_L3 k s0 s1 s2 s3 s11 s12 s15 s17 s18 s19 s21 s22 s23 s24 (n + 1) H =
(bin Try.prog .leq 3 s24 (.int .i64 64)).bind fun v66 =>
aIf v66
 (b2 (gOp s23 false (some (s19, H)) H) fun v67 h67 =>
 b2 (gOp s23 false (some (s22, h67)) h67) fun v68 h68 =>
 b2 (gOp s23 false (some (s24, h68)) h68) fun v69 h69 =>
 b2 (gOp s23 false ((slc Try.prog 9 v68 none (some v69)).bind fun v => some (v, h69)) h69) fun v70 h70 =>
 b2 (gOp s23 false (some (s21, h70)) h70) fun v71 h71 =>
 b2 (gOp s23 false (some (s24, h71)) h71) fun v72 h72 =>
 b2 (gOp s23 false ((slc Try.prog 9 v71 (some v72) none).bind fun v => some (v, h72)) h72) fun v73 h73 =>
 b2 (gOp s23 false ((bin Try.prog .add 9 v70 v73).bind fun v => some (v, h73)) h73) fun v74 h74 =>
 b2 (gOp s23 false ((bin Try.prog .eql 9 v67 v74).bind fun v => some (v, h74)) h74) fun v75 h75 =>
 (pickV s23 (.bool true) v75).bind fun v76 =>
 (bin Try.prog .add 3 s24 (.int .i64 1)).bind fun v77 =>
 f4_L3 k s0 s1 s2 s3 s11 s12 s15 s17 s18 s19 s21 s22 v76 v77 n h75)
 (some ((.exit 6), (f4_X_L3 s0 s1 s2 s3 s11 s12 s15 s17 s18 s19 s21 s22 s23), H)) := by kernel_rfl
theorem f4_A3_x6 (k : Nat) (n : Nat) (s0 s1 s2 s3 s11 s12 s15 s17 s18 s19 s21 s22 s23 : Value) (H : AH) : f4_A3 k n (.exit 6) (f4_X_L3 s0 s1 s2 s3 s11 s12 s15 s17 s18 s19 s21 s22 s23) H =
(bin Try.prog .eql 3 s18 s3).bind fun v78 =>
b2 (gOp v78 true (some (s23, H)) H) fun v79 h79 =>
b2 (gOp v78 true ((un Try.prog .not v79).bind fun v => some (v, h79)) h79) fun v80 h80 =>
(pickV v78 v80 (.bool false)).bind fun v81 =>
b2 (gOp v81 false (some (s18, h80)) h80) fun v82 h82 =>
b2 (gOp v81 false (some (s3, h82)) h82) fun v83 h83 =>
b2 (gOp v81 false ((bin Try.prog .neq 3 v82 v83).bind fun v => some (v, h83)) h83) fun v84 h84 =>
b2 (gOp v81 false (some (v84, h84)) h84) fun v85 h85 =>
b2 (gOp v85 true (some (s18, h85)) h85) fun v86 h86 =>
b2 (gOp v85 true (some (s2, h86)) h86) fun v87 h87 =>
b2 (gOp v85 true ((lenV Try.prog 23 v87).bind fun v => some (v, h87)) h87) fun v88 h88 =>
b2 (gOp v85 true ((bin Try.prog .lss 3 v86 v88).bind fun v => some (v, h88)) h88) fun v89 h89 =>
b2 (gOp v81 false ((pickV v85 v89 (.bool false)).bind fun v => some (v, h89)) h89) fun v90 h90 =>
b2 (gOp v81 false (some (v90, h90)) h90) fun v91 h91 =>
b2 (gOp v91 true (some (s2, h91)) h91) fun v92 h92 =>
b2 (gOp v91 true (some (s18, h92)) h92) fun v93 h93 =>
b2 (gOp v91 true ((ixA Try.prog 23 v92 v93).bind fun v => some (v, h93)) h93) fun v94 h94 =>
b2 (gOp v91 true ((ld Try.prog 3 h94 v94).bind fun v => some (v, h94)) h94) fun v95 h95 =>
b2 (gOp v91 true ((bin Try.prog .rem 3 v95 (.int .i64 2)).bind fun v => some (v, h95)) h95) fun v96 h96 =>
b2 (gOp v91 true ((bin Try.prog .neq 3 v96 (.int .i64 0)).bind fun v => some (v, h96)) h96) fun v97 h97 =>
b2 (gOp v81 false ((pickV v91 v97 (.bool false)).bind fun v => some (v, h97)) h97) fun v98 h98 =>
b2 (gOp v81 false (some (v98, h98)) h98) fun v99 h99 =>
b2 (gOp v99 true (some (s19, h99)) h99) fun v100 h100 =>
b2 (gOp v99 true (some (s22, h100)) h100) fun v101 h101 =>
b2 (gOp v99 true ((bin Try.prog .neq 9 v100 v101).bind fun v => some (v, h101)) h101) fun v102 h102 =>
b2 (gOp v81 false ((pickV v99 v102 (.bool false)).bind fun v => some (v, h102)) h102) fun v103 h103 =>
(pickV v81 (.bool true) v103).bind fun v104 =>
b2 (gOp v104 false (some (s18, h103)) h103) fun v105 h105 =>
b2 (gOp v104 false (some (s3, h105)) h105) fun v106 h106 =>
b2 (gOp v104 false ((bin Try.prog .neq 3 v105 v106).bind fun v => some (v, h106)) h106) fun v107 h107 =>
b2 (gOp v104 false (some (v107, h107)) h107) fun v108 h108 =>
b2 (gOp v108 true (some (s18, h108)) h108) fun v109 h109 =>
b2 (gOp v108 true (some (s2, h109)) h109) fun v110 h110 =>
b2 (gOp v108 true ((lenV Try.prog 23 v110).bind fun v => some (v, h110)) h110) fun v111 h111 =>
b2 (gOp v108 true ((bin Try.prog .geq 3 v109 v111).bind fun v => some (v, h111)) h111) fun v112 h112 =>
b2 (gOp v108 true (some (v112, h112)) h112) fun v113 h113 =>
b2 (gOp v113 false (some (s2, h113)) h113) fun v114 h114 =>
b2 (gOp v113 false (some (s18, h114)) h114) fun v115 h115 =>
b2 (gOp v113 false ((ixA Try.prog 23 v114 v115).bind fun v => some (v, h115)) h115) fun v116 h116 =>
b2 (gOp v113 false ((ld Try.prog 3 h116 v116).bind fun v => some (v, h116)) h116) fun v117 h117 =>
b2 (gOp v113 false ((bin Try.prog .rem 3 v117 (.int .i64 2)).bind fun v => some (v, h117)) h117) fun v118 h118 =>
b2 (gOp v113 false ((bin Try.prog .eql 3 v118 (.int .i64 0)).bind fun v => some (v, h118)) h118) fun v119 h119 =>
b2 (gOp v108 true ((pickV v113 (.bool true) v119).bind fun v => some (v, h119)) h119) fun v120 h120 =>
b2 (gOp v104 false ((pickV v108 v120 (.bool false)).bind fun v => some (v, h120)) h120) fun v121 h121 =>
b2 (gOp v104 false (some (v121, h121)) h121) fun v122 h122 =>
b2 (gOp v122 true (some (s19, h122)) h122) fun v123 h123 =>
b2 (gOp v122 true (some (s21, h123)) h123) fun v124 h124 =>
b2 (gOp v122 true ((bin Try.prog .neq 9 v123 v124).bind fun v => some (v, h124)) h124) fun v125 h125 =>
b2 (gOp v104 false ((pickV v122 v125 (.bool false)).bind fun v => some (v, h125)) h125) fun v126 h126 =>
(pickV v104 (.bool true) v126).bind fun v127 =>
aIf v127
 (some (.ret, (f4_X_L2 (.bool false) s11 s12 s15 s17), h126))
 ((bin Try.prog .add 3 s18 (.int .i64 1)).bind fun v128 =>
 f4_L2 k s0 s1 s2 s3 s11 s12 s15 s17 v128 n h126) := by kernel_rfl
theorem f4_eq (k : Nat) (a0 a1 a2 a3 a4 : Value) (H : AH) : rn (k + 1) 4 [a0, a1, a2, a3, a4] H =
b2 (rn k 5 [] H) fun v1 h1 =>
(un Try.prog .not v1).bind fun v2 =>
aIf v2
 (some ((.bool false), h1))
 (b2 (rn k 6 [(.int .i64 8)] h1) fun v3 h3 =>
 (ext v3 0).bind fun v4 =>
 (ext v3 1).bind fun v5 =>
 (bin Try.prog .eql 25 v4 (.pointer none)).bind fun v6 =>
 b2 (gOp v6 false (some (v5, h3)) h3) fun v7 h7 =>
 b2 (gOp v6 false ((bin Try.prog .neq 26 v7 (.int .i64 0)).bind fun v => some (v, h7)) h7) fun v8 h8 =>
 (pickV v6 (.bool true) v8).bind fun v9 =>
 aIf v9
  (some ((.bool false), h8))
  ((f4_L0 k a0 a1 a2 a3 a4 v1 v4 (.int .i64 0) k h8).bind fun p => f4_A0 k p.1 p.2.1 p.2.2)) := by kernel_rfl
theorem f5_eq (k : Nat) (H : AH) : rn (k + 1) 5 [] H =
b2 (rn k 6 [(.int .i64 2)] H) fun v1 h1 =>
(ext v1 0).bind fun v2 =>
(ext v1 1).bind fun v3 =>
(bin Try.prog .eql 25 v2 (.pointer none)).bind fun v4 =>
b2 (gOp v4 false (some (v3, h1)) h1) fun v5 h5 =>
b2 (gOp v4 false ((bin Try.prog .neq 26 v5 (.int .i64 0)).bind fun v => some (v, h5)) h5) fun v6 h6 =>
(pickV v4 (.bool true) v6).bind fun v7 =>
aIf v7
 (some ((.bool false), h6))
 (b2 (mkS Try.prog 30 h6 (.int .i64 63) (.int .i64 63)) fun v8 h8 =>
 (cvS Try.prog 30 9 h8 v8).bind fun v9 =>
 (bin Try.prog .add 9 v9 (.string ⟨#[120]⟩)).bind fun v10 =>
 b2 (rn k 8 [v2, (.int .i64 1), v10] h8) fun v11 h11 =>
 b2 (rn k 9 [v2, (.int .i64 1)] h11) fun v12 h12 =>
 (ext v12 0).bind fun v13 =>
 (ext v12 1).bind fun v14 =>
 b2 (rn k 11 [v2, (.slice none 0 0), (.int .i64 (-1)), (.int .i64 0)] h12) fun v15 h15 =>
 b2 (rn k 9 [v2, (.int .i64 1)] h15) fun v16 h16 =>
 (ext v16 0).bind fun v17 =>
 (ext v16 1).bind fun v18 =>
 (bin Try.prog .eql 26 v11 (.int .i64 0)).bind fun v19 =>
 b2 (gOp v19 true (some (v13, h16)) h16) fun v20 h20 =>
 b2 (gOp v19 true (some (v10, h20)) h20) fun v21 h21 =>
 b2 (gOp v19 true ((bin Try.prog .eql 9 v20 v21).bind fun v => some (v, h21)) h21) fun v22 h22 =>
 (pickV v19 v22 (.bool false)).bind fun v23 =>
 b2 (gOp v23 true (some (v14, h22)) h22) fun v24 h24 =>
 b2 (gOp v23 true ((bin Try.prog .eql 26 v24 (.int .i64 0)).bind fun v => some (v, h24)) h24) fun v25 h25 =>
 (pickV v23 v25 (.bool false)).bind fun v26 =>
 b2 (gOp v26 true (some (v17, h25)) h25) fun v27 h27 =>
 b2 (gOp v26 true (b2 (mkS Try.prog 30 h27 (.int .i64 64) (.int .i64 64)) fun v h => some (v, h)) h27) fun v28 h28 =>
 b2 (gOp v26 true ((cvS Try.prog 30 9 h28 v28).bind fun v => some (v, h28)) h28) fun v29 h29 =>
 b2 (gOp v26 true ((bin Try.prog .eql 9 v27 v29).bind fun v => some (v, h29)) h29) fun v30 h30 =>
 (pickV v26 v30 (.bool false)).bind fun v31 =>
 b2 (gOp v31 true (some (v18, h30)) h30) fun v32 h32 =>
 b2 (gOp v31 true ((bin Try.prog .eql 26 v32 (.int .i64 0)).bind fun v => some (v, h32)) h32) fun v33 h33 =>
 (pickV v31 v33 (.bool false)).bind fun v34 =>
 b2 (gOp v34 true (some (v2, h33)) h33) fun v35 h35 =>
 b2 (gOp v34 true (some (v10, h35)) h35) fun v36 h36 =>
 b2 (gOp v34 true (b2 (rn k 8 [v35, (.int .i64 2), v36] h36) fun v h => some (v, h)) h36) fun v37 h37 =>
 b2 (gOp v34 true ((bin Try.prog .eql 26 v37 (.int .i64 1)).bind fun v => some (v, h37)) h37) fun v38 h38 =>
 (pickV v34 v38 (.bool false)).bind fun v39 =>
 b2 (gOp v39 true (some (v2, h38)) h38) fun v40 h40 =>
 b2 (gOp v39 true (b2 (rn k 14 [v40] h40) fun v h => some (v, h)) h40) fun v41 h41 =>
 b2 (gOp v39 true ((bin Try.prog .eql 3 v41 (.int .i64 2)).bind fun v => some (v, h41)) h41) fun v42 h42 =>
 (pickV v39 v42 (.bool false)).bind fun v43 =>
 some (v43, h42)) := by kernel_rfl
theorem f6_eq (k : Nat) (a0 : Value) (H : AH) : rn (k + 1) 6 [a0] H =
(bin Try.prog .lss 3 a0 (.int .i64 1)).bind fun v1 =>
b2 (gOp v1 false (some (a0, H)) H) fun v2 h2 =>
b2 (gOp v1 false ((bin Try.prog .gtr 3 v2 (.int .i64 1024)).bind fun v => some (v, h2)) h2) fun v3 h3 =>
(pickV v1 (.bool true) v3).bind fun v4 =>
aIf v4
 (some ((.tuple #[(.pointer none), (.int .i64 1)]), h3))
 ((bin Try.prog .mul 3 a0 (.int .i64 64)).bind fun v5 =>
 b2 (mkS Try.prog 30 h3 v5 v5) fun v6 h6 =>
 (build Try.prog 42 [(0, v6), (2, (.int .i64 (-1)))]).bind fun v7 =>
 b2 (box 42 h6 v7) fun v8 h8 =>
 some ((.tuple #[v8, (.int .i64 0)]), h8)) := by kernel_rfl
abbrev f7_T_L0 (s0 s3 s4 : Value) : List Value := [s0, unk, unk, s3, s4, unk, unk, unk, unk, unk, unk, unk, unk, unk, unk, unk, unk, unk, unk, unk, unk, unk, unk, unk, unk, unk]
abbrev f7_X_L0 (s3 : Value) : List Value := [unk, unk, unk, s3, unk, unk, unk, unk, unk, unk, unk, unk, unk, unk, unk, unk, unk, unk, unk, unk, unk, unk, unk, unk, unk, unk]
@[irreducible] def f7_L0 (k : Nat) (s0 s3 s4 : Value) (n : Nat) (H : AH) : Option Out := iterD (fun T H K => evalK Try.prog (rn k) k (tbs 7) (codeAt (bodyOf Try.f7) [1, 1, 0, 1, 0, 0]) T H K) (cutT (tbs 7) 10) (cutT (tbs 7) 11) n (f7_T_L0 s0 s3 s4) H
@[irreducible] def f7_A0 (k : Nat) (e : EX) (T : List Value) (H : AH) : Option (Value × AH) := resume Try.prog (rn k) k (tbs 7) (bodyOf Try.f7) [1, 1, 0, 1, 0] e T H (resK Try.prog Try.f7.results.toList)
theorem f7_L0_succ (k : Nat) (s0 s3 s4 : Value) (n : Nat) (H : AH) : f7_L0 k s0 s3 s4 (n + 1) H =
(bin Try.prog .lss 3 s4 (.int .i64 64)).bind fun v2 =>
b2 (gOp v2 true (some (s0, H)) H) fun v3 h3 =>
b2 (gOp v2 true ((lenV Try.prog 9 v3).bind fun v => some (v, h3)) h3) fun v4 h4 =>
b2 (gOp v2 true ((bin Try.prog .gtr 3 v4 (.int .i64 0)).bind fun v => some (v, h4)) h4) fun v5 h5 =>
(pickV v2 v5 (.bool false)).bind fun v6 =>
aIf v6
 ((lenV Try.prog 9 s0).bind fun v7 =>
 (bin Try.prog .rem 3 s4 v7).bind fun v8 =>
 (ix Try.prog 9 s0 v8).bind fun v9 =>
 (ixA Try.prog 30 s3 s4).bind fun v10 =>
 (st Try.prog 5 h5 v10 v9).bind fun h11 =>
 (bin Try.prog .add 3 s4 (.int .i64 1)).bind fun v12 =>
 f7_L0 k s0 s3 v12 n h11)
 (some ((.exit 0), (f7_X_L0 s3), h5)) := by kernel_rfl
theorem f7_A0_x0 (k : Nat) (s3 : Value) (H : AH) : f7_A0 k (.exit 0) (f7_X_L0 s3) H =
(cvS Try.prog 30 9 H s3).bind fun v13 =>
some (v13, H) := by kernel_rfl
theorem f7_eq (k : Nat) (a0 : Value) (H : AH) : rn (k + 1) 7 [a0] H =
b2 (mkS Try.prog 30 H (.int .i64 64) (.int .i64 64)) fun v1 h1 =>
(f7_L0 k a0 v1 (.int .i64 0) k h1).bind fun p => f7_A0 k p.1 p.2.1 p.2.2 := by kernel_rfl
theorem f8_eq (k : Nat) (a0 a1 a2 : Value) (H : AH) : rn (k + 1) 8 [a0, a1, a2] H =
b2 (box 25 H a0) fun v1 h1 =>
b2 (box 3 h1 a1) fun v2 h2 =>
b2 (box 9 h2 a2) fun v3 h3 =>
(ld Try.prog 25 h3 v1).bind fun v4 =>
(nilChk v4).bind fun v5 =>
(fldA Try.prog 42 v5 3).bind fun v6 =>
(ld Try.prog 4 h3 v6).bind fun v7 =>
aIf v7
 (some ((.int .i64 7), h3))
 ((ld Try.prog 3 h3 v2).bind fun v8 =>
 (bin Try.prog .lss 3 v8 (.int .i64 0)).bind fun v9 =>
 b2 (gOp v9 false ((ld Try.prog 3 h3 v2).bind fun v => some (v, h3)) h3) fun v10 h10 =>
 b2 (gOp v9 false ((ld Try.prog 25 h3 v1).bind fun v => some (v, h3)) h3) fun v11 h11 =>
 b2 (gOp v9 false (b2 (rn k 14 [v11] h3) fun v h => some (v, h)) h3) fun v12 h12 =>
 aChk (v9 = .bool false → ld Try.prog 3 h12 v2 = some v10) <|
 b2 (gOp v9 false ((bin Try.prog .geq 3 v10 v12).bind fun v => some (v, h12)) h12) fun v13 h13 =>
 (pickV v9 (.bool true) v13).bind fun v14 =>
 b2 (gOp v14 false ((ld Try.prog 9 h13 v3).bind fun v => some (v, h13)) h13) fun v15 h15 =>
 b2 (gOp v14 false ((lenV Try.prog 9 v15).bind fun v => some (v, h13)) h13) fun v16 h16 =>
 b2 (gOp v14 false ((bin Try.prog .neq 3 v16 (.int .i64 64)).bind fun v => some (v, h16)) h16) fun v17 h17 =>
 (pickV v14 (.bool true) v17).bind fun v18 =>
 aIf v18
  (some ((.int .i64 1), h17))
  ((ld Try.prog 25 h17 v1).bind fun v19 =>
  b2 (rn k 15 [v19, (.func (.func 16) #[] #[v1, v2, v3])] h17) fun v20 h20 =>
  some (v20, h20))) := by kernel_rfl
abbrev f9_T_R0 (s3 s4 s5 : Value) : List Value := [unk, unk, unk, s3, s4, s5, unk, unk, unk, unk, unk, unk, unk, unk, unk, unk, unk, unk, unk, unk, unk, unk, unk, unk, unk, unk, unk, unk, unk, unk, unk, unk, unk, unk, unk, unk, unk, unk, unk, unk, unk, unk, unk, unk, unk, unk]
abbrev f9_X_R0 (s0 s3 s4 s5 : Value) : List Value := [s0, unk, unk, s3, s4, s5, unk, unk, unk, unk, unk, unk, unk, unk, unk, unk, unk, unk, unk, unk, unk, unk, unk, unk, unk, unk, unk, unk, unk, unk, unk, unk, unk, unk, unk, unk, unk, unk, unk, unk, unk, unk, unk, unk, unk, unk]
@[irreducible] def f9_B0 (k : Nat) (s0 s3 s4 s5 : Value) (e : EX) (H : AH) : Option (Value × AH) := resume Try.prog (rn k) k (tbs 9) (bodyOf Try.f9) [1, 1, 0, 1, 0] e (f9_X_R0 s0 s3 s4 s5) H (resK Try.prog Try.f9.results.toList)
theorem f9_B0_normal (k : Nat) (s0 s3 s4 s5 : Value) (H : AH) : f9_B0 k s0 s3 s4 s5 .normal H =
(nilChk s0).bind fun v26 =>
(fldA Try.prog 42 v26 0).bind fun v27 =>
(ld Try.prog 30 H v27).bind fun v28 =>
(ld Try.prog 3 H s3).bind fun v29 =>
(bin Try.prog .mul 3 v29 (.int .i64 64)).bind fun v30 =>
(ld Try.prog 3 H s3).bind fun v31 =>
(bin Try.prog .add 3 v31 (.int .i64 1)).bind fun v32 =>
(bin Try.prog .mul 3 v32 (.int .i64 64)).bind fun v33 =>
(slc Try.prog 30 v28 (some v30) (some v33)).bind fun v34 =>
(cvS Try.prog 30 9 H v34).bind fun v35 =>
(st Try.prog 9 H s4 v35).bind fun h36 =>
(st Try.prog 26 h36 s5 (.int .i64 0)).bind fun h37 =>
((ld Try.prog 9 h37 s4).bind fun v38 => ((ld Try.prog 26 h37 s5).bind fun v39 => some (v39 :: [])).bind fun vs => some (v38 :: vs)).bind fun vs => some (oneOf vs, h37) := by kernel_rfl
theorem f9_B0_ret (k : Nat) (s0 s3 s4 s5 : Value) (H : AH) : f9_B0 k s0 s3 s4 s5 .ret H =
((ld Try.prog 9 H s4).bind fun v40 => ((ld Try.prog 26 H s5).bind fun v41 => some (v41 :: [])).bind fun vs => some (v40 :: vs)).bind fun vs => some (oneOf vs, H) := by kernel_rfl
theorem f9_Y0_eq (k : Nat) (s3 s4 s5 : Value) (x0 x1 : Value) (b : Nat) (H : AH) (hb : blk H b = some ⟨.int .i64 0 :: f9_T_R0 s3 s4 s5, 7, .loop 9 7⟩) : rn (k + 1) (yOff + b) [x0, x1] H =
b2 (newV Try.prog 45 H) fun v42 h42 =>
(st Try.prog 45 h42 v42 x1).bind fun h43 =>
(setSt h43 b 0 1).bind fun h0 =>
(fldA Try.prog 45 v42 0).bind fun v44 =>
(ld Try.prog 3 h0 v44).bind fun v45 =>
(ld Try.prog 3 h0 s3).bind fun v46 =>
(bin Try.prog .eql 3 v45 v46).bind fun v47 =>
aIf v47
 ((fldA Try.prog 45 v42 1).bind fun v48 =>
 (ld Try.prog 9 h0 v48).bind fun v49 =>
 (st Try.prog 9 h0 s4 v49).bind fun h50 =>
 (st Try.prog 26 h50 s5 (.int .i64 0)).bind fun h51 =>
 (setSt h51 b 1 2).bind fun h => some (.bool false, h))
 ((setSt h0 b 1 0).bind fun h => some (.bool true, h)) := (run_round hb).trans (by kernel_rfl)
theorem f9_eq (k : Nat) (a0 a1 : Value) (H : AH) : rn (k + 1) 9 [a0, a1] H =
b2 (box 3 H a1) fun v1 h1 =>
b2 (newV Try.prog 9 h1) fun v2 h2 =>
b2 (newV Try.prog 26 h2) fun v3 h3 =>
(nilChk a0).bind fun v4 =>
(fldA Try.prog 42 v4 3).bind fun v5 =>
(ld Try.prog 4 h3 v5).bind fun v6 =>
aIf v6
 ((st Try.prog 9 h3 v2 (.string ⟨#[]⟩)).bind fun h7 =>
 (st Try.prog 26 h7 v3 (.int .i64 7)).bind fun h8 =>
 ((ld Try.prog 9 h8 v2).bind fun v9 => ((ld Try.prog 26 h8 v3).bind fun v10 => some (v10 :: [])).bind fun vs => some (v9 :: vs)).bind fun vs => some (oneOf vs, h8))
 ((ld Try.prog 3 h3 v1).bind fun v11 =>
 (bin Try.prog .lss 3 v11 (.int .i64 0)).bind fun v12 =>
 b2 (gOp v12 false ((ld Try.prog 3 h3 v1).bind fun v => some (v, h3)) h3) fun v13 h13 =>
 b2 (gOp v12 false (some (a0, h3)) h3) fun v14 h14 =>
 b2 (gOp v12 false (b2 (rn k 14 [v14] h14) fun v h => some (v, h)) h14) fun v15 h15 =>
 aChk (v12 = .bool false → ld Try.prog 3 h15 v1 = some v13) <|
 b2 (gOp v12 false ((bin Try.prog .geq 3 v13 v15).bind fun v => some (v, h15)) h15) fun v16 h16 =>
 (pickV v12 (.bool true) v16).bind fun v17 =>
 aIf v17
  ((st Try.prog 9 h16 v2 (.string ⟨#[]⟩)).bind fun h18 =>
  (st Try.prog 26 h18 v3 (.int .i64 1)).bind fun h19 =>
  ((ld Try.prog 9 h19 v2).bind fun v20 => ((ld Try.prog 26 h19 v3).bind fun v21 => some (v21 :: [])).bind fun vs => some (v20 :: vs)).bind fun vs => some (oneOf vs, h19))
  ((nilChk a0).bind fun v22 =>
  (fldA Try.prog 42 v22 1).bind fun v23 =>
  (ld Try.prog 40 h16 v23).bind fun v24 =>
  b2 (rn k 17 [v24] h16) fun v25 h25 =>
  b2 (callV (rn k) v25 [(.func (.yield (List.length h25)) #[] #[])] (mkB h25 (.int .i64 0 :: (f9_T_R0 v1 v2 v3)) 7 (.loop 9 7))) fun v h => rgBack (List.length h25) h fun e h => f9_B0 k a0 v1 v2 v3 e h)) := by kernel_rfl
theorem f10_eq (k : Nat) (a0 : Value) (H : AH) : rn (k + 1) 10 [a0] H =
b2 (box 25 H a0) fun v1 h1 =>
(ld Try.prog 25 h1 v1).bind fun v2 =>
(nilChk v2).bind fun v3 =>
(fldA Try.prog 42 v3 3).bind fun v4 =>
(ld Try.prog 4 h1 v4).bind fun v5 =>
aIf v5
 (some ((.int .i64 7), h1))
 ((ld Try.prog 25 h1 v1).bind fun v6 =>
 b2 (rn k 15 [v6, (.func (.func 18) #[] #[v1])] h1) fun v7 h7 =>
 some (v7, h7)) := by kernel_rfl
abbrev f11_T_J0 (s0 s1 s2 s3 : Value) : List Value := [s0, s1, s2, s3, unk, unk, unk, unk, unk, unk, unk, unk, unk, unk, unk, unk, unk, unk, unk, unk, unk, unk, unk, unk, unk, unk, unk, unk, unk, unk, unk, unk, unk, unk, unk, unk, unk, unk, unk, unk, unk, unk, unk, unk, unk, unk, unk, unk, unk, unk, unk, unk, unk, unk, unk, unk, unk, unk, unk, unk, unk, unk, unk, unk, unk, unk, unk]
abbrev f11_T_L0 (s0 s1 s2 s3 s18 s19 s20 : Value) : List Value := [s0, s1, s2, s3, unk, unk, unk, unk, unk, unk, unk, unk, unk, unk, unk, unk, unk, unk, s18, s19, s20, unk, unk, unk, unk, unk, unk, unk, unk, unk, unk, unk, unk, unk, unk, unk, unk, unk, unk, unk, unk, unk, unk, unk, unk, unk, unk, unk, unk, unk, unk, unk, unk, unk, unk, unk, unk, unk, unk, unk, unk, unk, unk, unk, unk, unk, unk]
abbrev f11_X_L0 (s0 : Value) : List Value := [s0, unk, unk, unk, unk, unk, unk, unk, unk, unk, unk, unk, unk, unk, unk, unk, unk, unk, unk, unk, unk, unk, unk, unk, unk, unk, unk, unk, unk, unk, unk, unk, unk, unk, unk, unk, unk, unk, unk, unk, unk, unk, unk, unk, unk, unk, unk, unk, unk, unk, unk, unk, unk, unk, unk, unk, unk, unk, unk, unk, unk, unk, unk, unk, unk, unk, unk]
@[irreducible] def f11_J0 (k : Nat) (s0 s1 s2 s3 : Value) (H : AH) : Option (Value × AH) := resume Try.prog (rn k) k (tbs 11) (bodyOf Try.f11) [0] .normal (f11_T_J0 s0 s1 s2 s3) H (resK Try.prog Try.f11.results.toList)
@[irreducible] def f11_L0 (k : Nat) (s0 s1 s2 s3 s18 s19 s20 : Value) (n : Nat) (H : AH) : Option Out := iterD (fun T H K => evalK Try.prog (rn k) k (tbs 11) (codeAt (bodyOf Try.f11) [1, 0, 1, 0, 0]) T H K) (cutT (tbs 11) 10) (cutT (tbs 11) 11) n (f11_T_L0 s0 s1 s2 s3 s18 s19 s20) H
@[irreducible] def f11_A0 (k : Nat) (e : EX) (T : List Value) (H : AH) : Option (Value × AH) := resume Try.prog (rn k) k (tbs 11) (bodyOf Try.f11) [1, 0, 1, 0] e T H (resK Try.prog Try.f11.results.toList)
theorem f11_J0_eq (k : Nat) (s0 s1 s2 s3 : Value) (H : AH) : f11_J0 k s0 s1 s2 s3 H =
(nilChk s0).bind fun v4 =>
(fldA Try.prog 42 v4 1).bind fun v5 =>
(ld Try.prog 40 H v5).bind fun v6 =>
(lenV Try.prog 40 v6).bind fun v7 =>
(f11_L0 k s0 s1 s2 s3 v6 v7 (.int .i64 0) k H).bind fun p => f11_A0 k p.1 p.2.1 p.2.2 := by kernel_rfl
theorem f11_L0_succ (k : Nat) (s0 s1 s2 s3 s18 s19 s20 : Value) (n : Nat) (H : AH) : f11_L0 k s0 s1 s2 s3 s18 s19 s20 (n + 1) H =
(bin Try.prog .lss 3 s20 s19).bind fun v8 =>
aIf v8
 ((ixA Try.prog 40 s18 s20).bind fun v9 =>
 (ld Try.prog 45 H v9).bind fun v10 =>
 b2 (newV Try.prog 45 H) fun v11 h11 =>
 (st Try.prog 45 h11 v11 v10).bind fun h12 =>
 (bin Try.prog .eql 3 s20 s2).bind fun v13 =>
 aIf v13
  ((fldA Try.prog 45 v11 0).bind fun v14 =>
  (ld Try.prog 3 h12 v14).bind fun v15 =>
  (fldA Try.prog 45 v11 1).bind fun v16 =>
  (ld Try.prog 9 h12 v16).bind fun v17 =>
  (bin Try.prog .rem 3 s3 (.int .i64 65)).bind fun v18 =>
  (slc Try.prog 9 v17 none (some v18)).bind fun v19 =>
  b2 (rn k 19 [s0, v15, v19] h12) fun v20 h20 =>
  (bin Try.prog .add 3 s20 (.int .i64 1)).bind fun v21 =>
  f11_L0 k s0 s1 s2 s3 s18 s19 v21 n h20)
  ((lenV Try.prog 23 s1).bind fun v22 =>
  (bin Try.prog .lss 3 s20 v22).bind fun v23 =>
  b2 (gOp v23 true (some (s1, h12)) h12) fun v24 h24 =>
  b2 (gOp v23 true (some (s20, h24)) h24) fun v25 h25 =>
  b2 (gOp v23 true ((ixA Try.prog 23 v24 v25).bind fun v => some (v, h25)) h25) fun v26 h26 =>
  b2 (gOp v23 true ((ld Try.prog 3 h26 v26).bind fun v => some (v, h26)) h26) fun v27 h27 =>
  b2 (gOp v23 true ((bin Try.prog .and 3 v27 (.int .i64 1)).bind fun v => some (v, h27)) h27) fun v28 h28 =>
  b2 (gOp v23 true ((bin Try.prog .neq 3 v28 (.int .i64 0)).bind fun v => some (v, h28)) h28) fun v29 h29 =>
  (pickV v23 v29 (.bool false)).bind fun v30 =>
  aIf v30
   ((fldA Try.prog 45 v11 0).bind fun v31 =>
   (ld Try.prog 3 h29 v31).bind fun v32 =>
   (fldA Try.prog 45 v11 1).bind fun v33 =>
   (ld Try.prog 9 h29 v33).bind fun v34 =>
   b2 (rn k 19 [s0, v32, v34] h29) fun v35 h35 =>
   (bin Try.prog .add 3 s20 (.int .i64 1)).bind fun v36 =>
   f11_L0 k s0 s1 s2 s3 s18 s19 v36 n h35)
   ((bin Try.prog .add 3 s20 (.int .i64 1)).bind fun v37 =>
   f11_L0 k s0 s1 s2 s3 s18 s19 v37 n h29)))
 (some ((.exit 0), (f11_X_L0 s0), H)) := by kernel_rfl
theorem f11_A0_x0 (k : Nat) (s0 : Value) (H : AH) : f11_A0 k (.exit 0) (f11_X_L0 s0) H =
(nilChk s0).bind fun v38 =>
(fldA Try.prog 42 v38 1).bind fun v39 =>
(st Try.prog 40 H v39 (.slice none 0 0)).bind fun h40 =>
(nilChk s0).bind fun v41 =>
(fldA Try.prog 42 v41 2).bind fun v42 =>
(st Try.prog 3 h40 v42 (.int .i64 (-1))).bind fun h43 =>
(nilChk s0).bind fun v44 =>
(fldA Try.prog 42 v44 3).bind fun v45 =>
(st Try.prog 4 h43 v45 (.bool false)).bind fun h46 =>
some ((.tuple #[]), h46) := by kernel_rfl
theorem f11_eq (k : Nat) (a0 a1 a2 a3 : Value) (H : AH) : rn (k + 1) 11 [a0, a1, a2, a3] H =
(bin Try.prog .lss 3 a3 (.int .i64 0)).bind fun v1 =>
aIf v1
 ((bin Try.prog .add 3 a3 (.int .i64 1)).bind fun v2 =>
 (un Try.prog .neg v2).bind fun v3 =>
 f11_J0 k a0 a1 a2 v3 H)
 (f11_J0 k a0 a1 a2 a3 H) := by kernel_rfl
theorem f12_eq (k : Nat) (a0 : Value) (H : AH) : rn (k + 1) 12 [a0] H =
(nilChk a0).bind fun v1 =>
(fldA Try.prog 42 v1 1).bind fun v2 =>
(ld Try.prog 40 H v2).bind fun v3 =>
(lenV Try.prog 40 v3).bind fun v4 =>
some (v4, H) := by kernel_rfl
theorem f13_eq (k : Nat) (a0 : Value) (H : AH) : rn (k + 1) 13 [a0] H =
(nilChk a0).bind fun v1 =>
(fldA Try.prog 42 v1 3).bind fun v2 =>
(ld Try.prog 4 H v2).bind fun v3 =>
some (v3, H) := by kernel_rfl
theorem f14_eq (k : Nat) (a0 : Value) (H : AH) : rn (k + 1) 14 [a0] H =
(nilChk a0).bind fun v1 =>
(fldA Try.prog 42 v1 0).bind fun v2 =>
(ld Try.prog 30 H v2).bind fun v3 =>
(lenV Try.prog 30 v3).bind fun v4 =>
(bin Try.prog .quo 3 v4 (.int .i64 64)).bind fun v5 =>
some (v5, H) := by kernel_rfl
theorem f15_eq (k : Nat) (a0 a1 : Value) (H : AH) : rn (k + 1) 15 [a0, a1] H =
(nilChk a0).bind fun v1 =>
(fldA Try.prog 42 v1 2).bind fun v2 =>
(ld Try.prog 3 H v2).bind fun v3 =>
(bin Try.prog .eql 3 v3 (.int .i64 0)).bind fun v4 =>
aIf v4
 ((nilChk a0).bind fun v5 =>
 (fldA Try.prog 42 v5 3).bind fun v6 =>
 (st Try.prog 4 H v6 (.bool true)).bind fun h7 =>
 some ((.int .i64 7), h7))
 ((nilChk a0).bind fun v8 =>
 (fldA Try.prog 42 v8 2).bind fun v9 =>
 (ld Try.prog 3 H v9).bind fun v10 =>
 (bin Try.prog .sub 3 v10 (.int .i64 1)).bind fun v11 =>
 (fold1 maxV [v11, (.int .i64 (-1))]).bind fun v12 =>
 (nilChk a0).bind fun v13 =>
 (fldA Try.prog 42 v13 2).bind fun v14 =>
 (st Try.prog 3 H v14 v12).bind fun h15 =>
 b2 (callY (rn k) a1 [] h15) fun v16 h16 =>
 some ((.int .i64 0), h16)) := by kernel_rfl
theorem f16_eq (k : Nat) (a0 a1 a2 : Value) (H : AH) : rn (k + 1) 16 [a0, a1, a2] H =
(ld Try.prog 25 H a0).bind fun v1 =>
(ld Try.prog 25 H a0).bind fun v2 =>
(nilChk v2).bind fun v3 =>
(fldA Try.prog 42 v3 1).bind fun v4 =>
(ld Try.prog 40 H v4).bind fun v5 =>
(ld Try.prog 3 H a1).bind fun v6 =>
(ld Try.prog 9 H a2).bind fun v7 =>
(build Try.prog 45 [(0, v6), (1, v7)]).bind fun v8 =>
b2 (buildS Try.prog 40 H 1 [(0, v8)]) fun v9 h9 =>
b2 (ap Try.prog 40 40 h9 v5 v9) fun v10 h10 =>
aChk (ld Try.prog 25 h10 a0 = some v1) <|
(nilChk v1).bind fun v11 =>
(fldA Try.prog 42 v11 1).bind fun v12 =>
(st Try.prog 40 h10 v12 v10).bind fun h13 =>
some ((.tuple #[]), h13) := by kernel_rfl
theorem f17_eq (k : Nat) (a0 : Value) (H : AH) : rn (k + 1) 17 [a0] H =
b2 (box 40 H a0) fun v1 h1 =>
some ((.func (.func 20) #[] #[v1]), h1) := by kernel_rfl
abbrev f18_T_L0 (s0 s6 s7 s8 : Value) : List Value := [s0, unk, unk, unk, unk, unk, s6, s7, s8, unk, unk, unk, unk, unk, unk, unk, unk, unk, unk, unk, unk, unk]
abbrev f18_X_L0 (s0 : Value) : List Value := [s0, unk, unk, unk, unk, unk, unk, unk, unk, unk, unk, unk, unk, unk, unk, unk, unk, unk, unk, unk, unk, unk]
@[irreducible] def f18_L0 (k : Nat) (s0 s6 s7 s8 : Value) (n : Nat) (H : AH) : Option Out := iterD (fun T H K => evalK Try.prog (rn k) k (tbs 18) (codeAt (bodyOf Try.f18) [0, 1, 0, 0]) T H K) (cutT (tbs 18) 4) (cutT (tbs 18) 5) n (f18_T_L0 s0 s6 s7 s8) H
@[irreducible] def f18_A0 (k : Nat) (e : EX) (T : List Value) (H : AH) : Option (Value × AH) := resume Try.prog (rn k) k (tbs 18) (bodyOf Try.f18) [0, 1, 0] e T H (resK Try.prog Try.f18.results.toList)
theorem f18_L0_succ (k : Nat) (s0 s6 s7 s8 : Value) (n : Nat) (H : AH) : f18_L0 k s0 s6 s7 s8 (n + 1) H =
(bin Try.prog .lss 3 s8 s7).bind fun v6 =>
aIf v6
 ((ixA Try.prog 40 s6 s8).bind fun v7 =>
 (ld Try.prog 45 H v7).bind fun v8 =>
 b2 (newV Try.prog 45 H) fun v9 h9 =>
 (st Try.prog 45 h9 v9 v8).bind fun h10 =>
 (ld Try.prog 25 h10 s0).bind fun v11 =>
 (fldA Try.prog 45 v9 0).bind fun v12 =>
 (ld Try.prog 3 h10 v12).bind fun v13 =>
 (fldA Try.prog 45 v9 1).bind fun v14 =>
 (ld Try.prog 9 h10 v14).bind fun v15 =>
 b2 (rn k 19 [v11, v13, v15] h10) fun v16 h16 =>
 (bin Try.prog .add 3 s8 (.int .i64 1)).bind fun v17 =>
 f18_L0 k s0 s6 s7 v17 n h16)
 (some ((.exit 0), (f18_X_L0 s0), H)) := by kernel_rfl
theorem f18_A0_x0 (k : Nat) (s0 : Value) (H : AH) : f18_A0 k (.exit 0) (f18_X_L0 s0) H =
(ld Try.prog 25 H s0).bind fun v18 =>
(nilChk v18).bind fun v19 =>
(fldA Try.prog 42 v19 1).bind fun v20 =>
(st Try.prog 40 H v20 (.slice none 0 0)).bind fun h21 =>
some ((.tuple #[]), h21) := by kernel_rfl
theorem f18_eq (k : Nat) (a0 : Value) (H : AH) : rn (k + 1) 18 [a0] H =
(ld Try.prog 25 H a0).bind fun v1 =>
(nilChk v1).bind fun v2 =>
(fldA Try.prog 42 v2 1).bind fun v3 =>
(ld Try.prog 40 H v3).bind fun v4 =>
(lenV Try.prog 40 v4).bind fun v5 =>
(f18_L0 k a0 v4 v5 (.int .i64 0) k H).bind fun p => f18_A0 k p.1 p.2.1 p.2.2 := by kernel_rfl
theorem f19_eq (k : Nat) (a0 a1 a2 : Value) (H : AH) : rn (k + 1) 19 [a0, a1, a2] H =
(nilChk a0).bind fun v1 =>
(fldA Try.prog 42 v1 0).bind fun v2 =>
(ld Try.prog 30 H v2).bind fun v3 =>
(bin Try.prog .mul 3 a1 (.int .i64 64)).bind fun v4 =>
(slc Try.prog 30 v3 (some v4) none).bind fun v5 =>
b2 (cpy Try.prog 30 H v5 a2) fun v6 h6 =>
some ((.tuple #[]), h6) := by kernel_rfl
abbrev f20_T_L0 (s0 s1 s3 : Value) : List Value := [s0, s1, unk, s3, unk, unk, unk, unk, unk, unk, unk, unk, unk, unk, unk, unk, unk, unk, unk]
abbrev f20_X_L0 : List Value := [unk, unk, unk, unk, unk, unk, unk, unk, unk, unk, unk, unk, unk, unk, unk, unk, unk, unk, unk]
@[irreducible] def f20_L0 (k : Nat) (s0 s1 s3 : Value) (n : Nat) (H : AH) : Option Out := iterD (fun T H K => evalK Try.prog (rn k) k (tbs 20) (codeAt (bodyOf Try.f20) [1, 0, 0]) T H K) (cutT (tbs 20) 4) (cutT (tbs 20) 5) n (f20_T_L0 s0 s1 s3) H
@[irreducible] def f20_A0 (k : Nat) (e : EX) (T : List Value) (H : AH) : Option (Value × AH) := resume Try.prog (rn k) k (tbs 20) (bodyOf Try.f20) [1, 0] e T H (resK Try.prog Try.f20.results.toList)
theorem f20_L0_succ (k : Nat) (s0 s1 s3 : Value) (n : Nat) (H : AH) : f20_L0 k s0 s1 s3 (n + 1) H =
(bin Try.prog .geq 3 s3 (.int .i64 0)).bind fun v4 =>
aIf v4
 ((ld Try.prog 40 H s1).bind fun v5 =>
 (ixA Try.prog 40 v5 s3).bind fun v6 =>
 (ld Try.prog 45 H v6).bind fun v7 =>
 b2 (callY (rn k) s0 [s3, v7] H) fun v8 h8 =>
 (un Try.prog .not v8).bind fun v9 =>
 aIf v9
  (some (.ret, f20_X_L0, h8))
  ((bin Try.prog .sub 3 s3 (.int .i64 1)).bind fun v10 =>
  f20_L0 k s0 s1 v10 n h8))
 (some ((.exit 0), f20_X_L0, H)) := by kernel_rfl
theorem f20_A0_x0 (k : Nat) (H : AH) : f20_A0 k (.exit 0) f20_X_L0 H =
some ((.tuple #[]), H) := by kernel_rfl
theorem f20_A0_ret (k : Nat) (H : AH) : f20_A0 k .ret f20_X_L0 H =
some ((.tuple #[]), H) := by kernel_rfl
theorem f20_eq (k : Nat) (a0 a1 : Value) (H : AH) : rn (k + 1) 20 [a0, a1] H =
(ld Try.prog 40 H a1).bind fun v1 =>
(lenV Try.prog 40 v1).bind fun v2 =>
(bin Try.prog .sub 3 v2 (.int .i64 1)).bind fun v3 =>
(f20_L0 k a0 a1 v3 k H).bind fun p => f20_A0 k p.1 p.2.1 p.2.2 := by kernel_rfl
end
end Go.AM.K
set_option linter.unusedVariables false
namespace Go.AM
variable {P : Program} {t : TypeId} {a n : Nat} {k : IntKind}
theorem lsubL (h : a ≤ @OfNat.ofNat Nat n (instOfNatNat n) ∧ @OfNat.ofNat Nat n (instOfNatNat n) < 9223372036854775808) : bin P .sub t (.int .i64 (@OfNat.ofNat Int n instOfNat)) (i64 a) = some (i64 (@OfNat.ofNat Nat n (instOfNatNat n) - a)) := subN h
theorem laddQ (h : @OfNat.ofNat Nat n (instOfNatNat n) + a < 18446744073709551616) : bin P .add t (.int .u64 (@OfNat.ofNat Int n instOfNat)) (u64 a) = some (u64 (@OfNat.ofNat Nat n (instOfNatNat n) + a)) := addQ h
theorem laddL (h : @OfNat.ofNat Nat n (instOfNatNat n) + a < 9223372036854775808) : bin P .add t (.int .i64 (@OfNat.ofNat Int n instOfNat)) (i64 a) = some (i64 (@OfNat.ofNat Nat n (instOfNatNat n) + a)) := addN h
instance (priority := 900) : PrimC (bin P .add t (.int .i64 (no_index (@OfNat.ofNat Int n instOfNat))) (i64 a)) (@OfNat.ofNat Nat n (instOfNatNat n) + a < 9223372036854775808) (i64 (@OfNat.ofNat Nat n (instOfNatNat n) + a)) := ⟨laddL⟩
theorem quoQL (h : @OfNat.ofNat Nat n (instOfNatNat n) ≠ 0 ∧ a < 18446744073709551616) : bin P .quo t (u64 a) (.int .u64 (@OfNat.ofNat Int n instOfNat)) = some (u64 (a / @OfNat.ofNat Nat n (instOfNatNat n))) := quoQ h
instance (priority := 900) : PrimC (bin P .sub t (.int .i64 (no_index (@OfNat.ofNat Int n instOfNat))) (i64 a)) (a ≤ @OfNat.ofNat Nat n (instOfNatNat n) ∧ @OfNat.ofNat Nat n (instOfNatNat n) < 9223372036854775808) (i64 (@OfNat.ofNat Nat n (instOfNatNat n) - a)) := ⟨lsubL⟩
instance (priority := 900) : PrimC (bin P .add t (.int .u64 (no_index (@OfNat.ofNat Int n instOfNat))) (u64 a)) (@OfNat.ofNat Nat n (instOfNatNat n) + a < 18446744073709551616) (u64 (@OfNat.ofNat Nat n (instOfNatNat n) + a)) := ⟨laddQ⟩
instance (priority := 900) : PrimC (bin P .quo t (u64 a) (.int .u64 (no_index (@OfNat.ofNat Int n instOfNat)))) (@OfNat.ofNat Nat n (instOfNatNat n) ≠ 0 ∧ a < 18446744073709551616) (u64 (a / @OfNat.ofNat Nat n (instOfNatNat n))) := ⟨quoQL⟩
end Go.AM
namespace Go.AM
variable {P : Program}
/-- Bytes that stand, as a string. -/
theorem ScN.cvS {t d e : TypeId} {H : AH} {v : Value} {n : Nat} {ds : List Nat} [h1 : Und P t (.slice e)] [h2 : Und P d .string] [h3 : Und P e (.int .u8)] (h : ScN H v n 1 (ds.map u8)) : cvS P t d H v = some (str (ds.map fun n => UInt8.ofNat n)) := by
  have hl := h.length
  rw [List.length_map, Nat.mul_one] at hl
  unfold AM.cvS
  rw [h1.eq, h2.eq]
  have hc := h.cells
  rcases h with ⟨rfl, hn, hcs⟩ | ⟨b, off, cap, rfl, hc', hl', hx⟩
  · have : ds = [] := by simpa using hcs
    subst this
    simp only [h3.eq, sliceCells]
    rfl
  · simp only [h3.eq, sl]
    have hc2 : sliceCells 1 H (.slice (some ⟨b, off, none⟩) n cap) n = some (ds.map u8) := hc
    rw [hc2, Option.bind_some, bytesOf_map]; rfl
end Go.AM
namespace Go.AM
variable {P : Program}
theorem slc_strT {t : TypeId} {l : List UInt8} {k : IntKind} {i : Nat} [h : Und P t .string] (hi : i ≤ l.length) : slc P t (str l) none (some (.int k (i : Int))) = some (str (l.take i)) := by
  unfold slc; rw [h.eq]
  have : ByteArray.size ⟨l.toArray⟩ = l.length := rfl
  simp only [this, intOr, Option.bind_some]
  rw [if_pos ⟨by omega, by omega, by omega⟩]
  congr 2
  simp [ByteArray.extract, ByteArray.copySlice]
theorem neq_str {t : TypeId} {a b : List UInt8} : bin P .neq t (str a) (str b) = some (.bool (decide (a ≠ b))) := by
  have e : binOp .neq t (str a) (str b) = .pure (.bool (decide (a ≠ b))) := by
    show Op.stringOp .neq _ _ = _
    unfold Op.stringOp
    simp only [toList_str]
    show Sem.pure _ = _
    congr 2
    exact Bool.eq_iff_iff.mpr (by simp)
  unfold bin
  rw [if_pos ⟨rfl, rfl, rfl⟩, e]
  rfl
instance {t : TypeId} {a b : List UInt8} : PrimEq (bin P .neq t (str a) (str b)) (.bool (decide (a ≠ b))) := ⟨neq_str⟩
instance (priority := 2000) {t : TypeId} {a : List UInt8} : PrimEq (bin P .neq t (str a) (str a)) (.bool false) := ⟨by rw [neq_str, decide_eq_false (fun h => h rfl)]⟩
end Go.AM
set_option linter.unusedVariables false
set_option linter.unusedSimpArgs false
namespace Go.AM
variable {P : Program} {R : Type}
abbrev slt (a b : List UInt8) : Bool := Go.Op.bytesLess a b
theorem slt_irr : ∀ a : List UInt8, slt a a = false
  | [] => rfl
  | a :: l => by
    have := slt_irr l
    show (decide (a < a) || (a == a && Go.Op.bytesLess l l)) = false
    rw [show Go.Op.bytesLess l l = false from this]
    simp
theorem slt_asym : ∀ a b : List UInt8, slt a b = true → slt b a = false
  | _, [], h => by cases ‹List UInt8› <;> simp [slt, Go.Op.bytesLess] at h
  | [], b :: y, _ => rfl
  | a :: x, b :: y, h => by
    simp only [slt, Go.Op.bytesLess, Bool.or_eq_true, Bool.and_eq_true, decide_eq_true_eq, beq_iff_eq] at h
    simp only [slt, Go.Op.bytesLess, Bool.or_eq_false_iff, Bool.and_eq_false_iff, decide_eq_false_iff_not, beq_eq_false_iff_ne]
    rcases h with h | ⟨rfl, h⟩
    · exact ⟨fun h2 => by rw [UInt8.lt_iff_toNat_lt] at h h2; omega, .inl fun e => by subst e; rw [UInt8.lt_iff_toNat_lt] at h; omega⟩
    · exact ⟨fun h2 => by rw [UInt8.lt_iff_toNat_lt] at h2; omega, .inr (slt_asym x y h)⟩
theorem slt_tri : ∀ a b : List UInt8, slt a b = false → slt b a = false → a = b
  | [], [], _, _ => rfl
  | [], b :: y, h, _ => by simp [slt, Go.Op.bytesLess] at h
  | a :: x, [], _, h => by simp [slt, Go.Op.bytesLess] at h
  | a :: x, b :: y, h, h2 => by
    simp only [slt, Go.Op.bytesLess, Bool.or_eq_false_iff, Bool.and_eq_false_iff, decide_eq_false_iff_not, beq_eq_false_iff_ne] at h h2
    have e : a = b := by
      apply UInt8.toNat_inj.mp
      have h3 := h.1; have h4 := h2.1
      rw [UInt8.lt_iff_toNat_lt] at h3 h4
      omega
    subst e
    rcases h.2 with h3 | h3
    · exact absurd rfl h3
    · rcases h2.2 with h4 | h4
      · exact absurd rfl h4
      · rw [slt_tri x y h3 h4]
theorem sor_eq (a b : List UInt8) : (Go.Op.bytesLess a b || (a == b)) = !slt b a := by
  cases h : slt b a with
  | true =>
    have h1 := slt_asym _ _ h
    rw [show Go.Op.bytesLess a b = false from h1]
    have : (a == b) = false := by
      rw [beq_eq_false_iff_ne]; intro e; subst e; rw [slt_irr] at h; cases h
    rw [this]; rfl
  | false =>
    cases h2 : slt a b with
    | true => rw [show Go.Op.bytesLess a b = true from h2]; rfl
    | false => rw [slt_tri a b h2 h]; simp
section
variable {t : TypeId} {a b : List UInt8}
theorem lss_str : bin P .lss t (str a) (str b) = some (.bool (slt a b)) := by
  have e : binOp .lss t (str a) (str b) = .pure (.bool (slt a b)) := by
    show Op.stringOp .lss _ _ = _
    unfold Op.stringOp
    simp only [toList_str]
    rfl
  unfold bin
  rw [if_pos ⟨rfl, rfl, rfl⟩, e]
  rfl
theorem leq_str : bin P .leq t (str a) (str b) = some (.bool (!slt b a)) := by
  have e : binOp .leq t (str a) (str b) = .pure (.bool (!slt b a)) := by
    show Op.stringOp .leq _ _ = _
    unfold Op.stringOp
    simp only [toList_str]
    show Sem.pure _ = _
    congr 2
    exact sor_eq a b
  unfold bin
  rw [if_pos ⟨rfl, rfl, rfl⟩, e]
  rfl
theorem gtr_str : bin P .gtr t (str a) (str b) = some (.bool (slt b a)) := by
  have e : binOp .gtr t (str a) (str b) = .pure (.bool (slt b a)) := by
    show Op.stringOp .gtr _ _ = _
    unfold Op.stringOp
    simp only [toList_str]
    show Sem.pure _ = _
    congr 2
    rw [sor_eq a b, Bool.not_not]
  unfold bin
  rw [if_pos ⟨rfl, rfl, rfl⟩, e]
  rfl
theorem geq_str : bin P .geq t (str a) (str b) = some (.bool (!slt a b)) := by
  have e : binOp .geq t (str a) (str b) = .pure (.bool (!slt a b)) := by
    show Op.stringOp .geq _ _ = _
    unfold Op.stringOp
    simp only [toList_str]
    rfl
  unfold bin
  rw [if_pos ⟨rfl, rfl, rfl⟩, e]
  rfl
instance : PrimEq (bin P .lss t (str a) (str b)) (.bool (slt a b)) := ⟨lss_str⟩
instance : PrimEq (bin P .leq t (str a) (str b)) (.bool (!slt b a)) := ⟨leq_str⟩
instance : PrimEq (bin P .gtr t (str a) (str b)) (.bool (slt b a)) := ⟨gtr_str⟩
instance : PrimEq (bin P .geq t (str a) (str b)) (.bool (!slt a b)) := ⟨geq_str⟩
end
abbrev i64v (n : Int) : Value := .int .i64 n
class FL (B : outParam AH) (v : Value) {α : outParam Type} (f : outParam (α → Value)) (l : outParam (List α)) : Prop where
  sc : ScN B v l.length 1 (l.map f)
class FT (B : AH) (v : Value) {α : outParam Type} (f : outParam (α → Value)) (l : outParam (List α)) : Prop where
  fl : FL B v f l
section
variable {α : Type} {f : α → Value} {l : List α} {B B0 H0 H : AH} {v w : Value} {t u e u' : TypeId} {z : Value} {sz by_ : Nat}
theorem FL.mono {B' : AH} (hm : Mo B B') (h : FL B v f l) : FL B' v f l := ⟨h.sc.mono hm⟩
instance [h : FL B0 v f l] [k : MoT B0 B] : FT B v f l := ⟨h.mono k.mo⟩
theorem FL.nil : FL B (.slice none 0 0) f [] := ⟨ScN.nil⟩
instance fl_cell [h : FL B v f l] : IsCell v := h.sc.cell
instance (priority := low) fl_len [hE : Elt P t e z sz] [h : FL B v f l] : PrimEq (lenV P t v) (i64 l.length) := ⟨h.sc.len hE.U⟩
theorem FL.one {b : Nat} {a : α} {L : List (Nat × Blk)} {kd : BK} (hS : St H0 B0 B L H) (hm : (b, ⟨[f a], e, kd⟩) ∈ L) : FL H (sl b 0 1 1) f [a] :=
  ⟨.inr ⟨b, 0, 1, rfl, Nat.le_refl _, rfl, .inr ⟨_, hS.get hm, rfl⟩⟩⟩
theorem Ev.ixF {g : Nat → Nat → Value → Option R} {Q : R → Prop} {k : IntKind} {i : Int} {a : α} [hE : Elt P t e z sz] [h : FL B v f l] (j : Nat) (hi : i = (j : Int)) (ha : l[j]? = some a)
    (hk : ∀ p, LdB P e p B (f a) → Ev (fun k n => g k n p) Q) : Ev (fun k' n => (ixA P t v (.int k i)).bind (g k' n)) Q :=
  Ev.ixN h.sc j hi (List.getElem?_eq_some_iff.mp ha).1 (by rw [List.getElem?_map, ha]; rfl) hk
theorem GAcc.fl {L : List (Nat × Blk)} {n : Nat} (h : GAcc e 1 H0 B0 B L H v n (l.map f)) : ∃ B', MoC B B' ∧ FL B' v f l ∧ St H0 B0 B' L H := by
  have hl := h.length
  rw [List.length_map, Nat.mul_one] at hl
  obtain ⟨B', h1, h2, h3⟩ := h.freeze
  exact ⟨B', h1, ⟨by rw [hl]; exact h2⟩, h3⟩
end
end Go.AM
set_option linter.unusedVariables false
set_option linter.unusedSimpArgs false
namespace Go.AM
variable {P : Program} {R : Type}
section
variable {B B0 H0 H : AH} {v : Value} {cs : List Value} {e : TypeId}
def GR (e : TypeId) (v : Value) (cs : List Value) (Lx : List (Nat × Blk)) : Prop :=
  (cs = [] ∧ (v = .slice none 0 0 ∨ ∃ b off, v = sl b off 0 0) ∧ Lx = []) ∨ (cs ≠ [] ∧ ∃ b kd cap, v = sl b 0 cs.length cap ∧ ((kd = .grow ∨ kd = .buf) ∧ cap ≠ 0 ∧ cs.length ≤ cap ∨ kd = .fix ∧ cap = cs.length) ∧ Lx = [(b, ⟨cs, e, kd⟩)])
theorem GR.nil : GR e (.slice none 0 0) [] [] := .inl ⟨rfl, .inl rfl, rfl⟩
theorem GR.cell {Lx : List (Nat × Blk)} (h : GR e v cs Lx) : IsCell v := by
  rcases h with ⟨_, rfl | ⟨b, off, rfl⟩, _⟩ | ⟨_, b, kd, cap, rfl, _, _⟩ <;> exact inferInstance
theorem GR.acc {L Lx : List (Nat × Blk)} (h : GR e v cs Lx) (hS : St H0 B0 B (Lx ++ L) H) : GAcc e 1 H0 B0 B L H v cs.length cs := by
  rcases h with ⟨rfl, hv, rfl⟩ | ⟨hne, b, kd, cap, hv, hk, rfl⟩
  · exact .inl ⟨rfl, rfl, hv, hS⟩
  · exact .inr ⟨fun h => hne (List.length_eq_zero_iff.mp h), by omega, b, kd, cap, hv, hk, hS⟩
theorem GAcc.gr {L : List (Nat × Blk)} {n : Nat} (h : GAcc e 1 H0 B0 B L H v n cs) : ∃ Lx, GR e v cs Lx ∧ St H0 B0 B (Lx ++ L) H := by
  rcases h with ⟨_, rfl, hv, hS⟩ | ⟨hn, hl, b, kd, cap, hv, hk, hS⟩
  · exact ⟨[], .inl ⟨rfl, hv, rfl⟩, hS⟩
  · rw [Nat.mul_one] at hl
    subst hl
    exact ⟨[(b, ⟨cs, e, kd⟩)], .inr ⟨fun h => hn (by rw [h]; rfl), b, kd, cap, hv, hk, rfl⟩, hS⟩
end
theorem Ev.ixFg {α : Type} {f : α → Value} {l : List α} {B H : AH} {v : Value} {t e : TypeId} {z : Value} {sz : Nat} {g : Nat → Nat → Value → AH → Option R} {Q : R → Prop} {k : IntKind} {i : Int} {a : α} [hE : Elt P t e z sz] [h : FL B v f l] (j : Nat) (hi : i = (j : Int)) (ha : l[j]? = some a)
    (hk : ∀ p, LdB P e p B (f a) → Ev (fun k n => g k n p H) Q) : Ev (fun k' n => Go.AM.b2 ((ixA P t v (.int k i)).bind fun v => some (v, H)) (g k' n)) Q := by
  have h2 := Ev.ixF (P := P) (t := t) (k := k) (v := v) (g := fun k n p => g k n p H) (Q := Q) j hi ha hk
  refine Ev.eq (fun k' n => ?_) h2
  cases ixA P t v (.int k i) <;> rfl
end Go.AM
set_option linter.unusedVariables false
set_option linter.unusedSimpArgs false
namespace Go.AM
variable {P : Program} {R : Type}
theorem slc_own {t e : TypeId} {z : Value} {sz b m i : Nat} [hE : Elt P t e z sz] (h : i ≤ m) : slc P t (sl b 0 m m) (some (i64 i)) none = some (sl b (if m = i then 0 else i) (m - i) (m - i)) := by
  unfold slc sl
  rw [hE.U]; simp only [intOr, Option.bind_some]
  rw [if_pos ⟨hE.I, by omega, by omega, by omega⟩, hE.S]
  simp
end Go.AM
set_option linter.unusedVariables false
set_option linter.unusedSimpArgs false
namespace Go.AM
structure Dsk where
  n : Nat
  bytes : List UInt8
  cache : List (Nat × List UInt8)
  fuse : Int
  down : Bool
structure Dsk.OK (D : Dsk) : Prop where
  n1 : 1 ≤ D.n
  n2 : D.n ≤ 1024
  len : D.bytes.length = 64 * D.n
  ca : ∀ p ∈ D.cache, p.1 < D.n ∧ p.2.length = 64
  fu : -1 ≤ D.fuse ∧ D.fuse < 9223372036854775808
def layB (bs : List UInt8) (a : Nat) (s : List UInt8) : List UInt8 := bs.take (64 * a) ++ (s ++ bs.drop (64 * a + s.length))
def Dsk.sector (D : Dsk) (i : Nat) : List UInt8 := (D.bytes.drop (64 * i)).take 64
def Dsk.new (n : Nat) : Dsk := ⟨n, List.replicate (64 * n) 0, [], -1, false⟩
def Dsk.act (D : Dsk) (f : Dsk → Dsk) : Int × Dsk := if D.fuse = 0 then (7, { D with down := true }) else (0, f { D with fuse := max (D.fuse - 1) (-1) })
def Dsk.put (i : Nat) (s : List UInt8) (D : Dsk) : Dsk := { D with cache := D.cache ++ [(i, s)] }
def Dsk.write (D : Dsk) (i : Int) (s : List UInt8) : Int × Dsk :=
  if D.down = true then (7, D) else if i < 0 ∨ (D.n : Int) ≤ i ∨ s.length ≠ 64 then (1, D) else D.act (Dsk.put i.toNat s)
def find (l : List (Nat × List UInt8)) (i : Nat) : Option (List UInt8) := (l.reverse.find? fun p => p.1 == i).map (·.2)
def Dsk.look (D : Dsk) (i : Nat) : List UInt8 := (find D.cache i).getD (D.sector i)
def Dsk.read (D : Dsk) (i : Int) : List UInt8 × Int := if D.down = true then ([], 7) else if i < 0 ∨ (D.n : Int) ≤ i then ([], 1) else (D.look i.toNat, 0)
def layAll (l : List (Nat × List UInt8)) (bs : List UInt8) : List UInt8 := l.foldl (fun bs p => layB bs p.1 p.2) bs
def Dsk.flush (D : Dsk) : Dsk := { D with bytes := layAll D.cache D.bytes, cache := [] }
def Dsk.barrier (D : Dsk) : Int × Dsk := if D.down = true then (7, D) else D.act Dsk.flush
def cutOf (c : Int) : Nat := ((if c < 0 then -(c + 1) else c) % 65).toNat
def tears (keep : List Int) (torn : Int) (cut : Nat) (k : Nat) (p : Nat × List UInt8) (bs : List UInt8) : List UInt8 :=
  if (k : Int) = torn then layB bs p.1 (p.2.take cut) else if k < keep.length ∧ (keep.getD k 0) % 2 ≠ 0 then layB bs p.1 p.2 else bs
def crashGo (keep : List Int) (torn : Int) (cut : Nat) : Nat → List (Nat × List UInt8) → List UInt8 → List UInt8
  | _, [], bs => bs
  | k, p :: r, bs => crashGo keep torn cut (k + 1) r (tears keep torn cut k p bs)
def Dsk.crash (D : Dsk) (keep : List Int) (torn cut : Int) : Dsk := { D with bytes := crashGo keep torn (cutOf cut) 0 D.cache D.bytes, cache := [], fuse := -1, down := false }
theorem layB_len {bs : List UInt8} {a : Nat} {s : List UInt8} (h : 64 * a + s.length ≤ bs.length) : (layB bs a s).length = bs.length := by
  unfold layB
  simp only [List.length_append, List.length_take, List.length_drop]
  omega
theorem layAll_len : ∀ (l : List (Nat × List UInt8)) (bs : List UInt8) (n : Nat), bs.length = 64 * n → (∀ p ∈ l, p.1 < n ∧ p.2.length = 64) → (layAll l bs).length = 64 * n
  | [], bs, n, h, _ => h
  | p :: l, bs, n, h, hp => by
    have h1 := hp p (by simp)
    exact layAll_len l (layB bs p.1 p.2) n (by rw [layB_len (by omega)]; exact h) fun q hq => hp q (by simp [hq])
theorem tears_len {keep : List Int} {torn : Int} {cut k : Nat} {p : Nat × List UInt8} {bs : List UInt8} {n : Nat} (h : bs.length = 64 * n) (hp : p.1 < n ∧ p.2.length = 64) : (tears keep torn cut k p bs).length = 64 * n := by
  unfold tears
  split
  · rw [layB_len (by rw [List.length_take]; omega)]; exact h
  · split
    · rw [layB_len (by omega)]; exact h
    · exact h
theorem crashGo_len {keep : List Int} {torn : Int} {cut : Nat} : ∀ (l : List (Nat × List UInt8)) (k : Nat) (bs : List UInt8) (n : Nat), bs.length = 64 * n → (∀ p ∈ l, p.1 < n ∧ p.2.length = 64) → (crashGo keep torn cut k l bs).length = 64 * n
  | [], k, bs, n, h, _ => h
  | p :: l, k, bs, n, h, hp => crashGo_len l (k + 1) _ n (tears_len h (hp p (by simp))) fun q hq => hp q (by simp [hq])
theorem Dsk.ok_new {n : Nat} (h1 : 1 ≤ n) (h2 : n ≤ 1024) : (Dsk.new n).OK := ⟨h1, h2, by simp [Dsk.new], (fun p h => by cases h), by simp [Dsk.new]⟩
theorem Dsk.OK.actD {D : Dsk} (h : D.OK) : Dsk.OK { D with fuse := max (D.fuse - 1) (-1) } := ⟨h.n1, h.n2, h.len, h.ca, by have := h.fu; show -1 ≤ max (D.fuse - 1) (-1) ∧ max (D.fuse - 1) (-1) < _; omega⟩
theorem Dsk.OK.act {D : Dsk} (h : D.OK) {f : Dsk → Dsk} (hf : ∀ E : Dsk, E.n = D.n → E.bytes = D.bytes → E.cache = D.cache → E.OK → (f E).OK) : (D.act f).2.OK := by
  unfold Dsk.act
  split
  · exact ⟨h.n1, h.n2, h.len, h.ca, h.fu⟩
  · exact hf _ rfl rfl rfl h.actD
theorem Dsk.OK.put {D : Dsk} (h : D.OK) {i : Nat} {s : List UInt8} (hi : i < D.n) (hs : s.length = 64) : (D.put i s).OK := by
  refine ⟨h.n1, h.n2, h.len, fun p hp => ?_, h.fu⟩
  rcases List.mem_append.1 hp with hp | hp
  · exact h.ca p hp
  · simp at hp; subst hp; exact ⟨hi, hs⟩
theorem Dsk.OK.flush {D : Dsk} (h : D.OK) : D.flush.OK := ⟨h.n1, h.n2, layAll_len _ _ _ h.len h.ca, (fun p hp => by cases hp), h.fu⟩
theorem Dsk.OK.write {D : Dsk} (h : D.OK) (i : Int) (s : List UInt8) : (D.write i s).2.OK := by
  unfold Dsk.write
  split
  · exact h
  · split
    · exact h
    · rename_i hc
      have h1 : 0 ≤ i := by omega
      have h2 : i < D.n := by omega
      exact h.act fun E e1 _ _ hE => hE.put (by rw [e1]; omega) (by omega)
theorem Dsk.OK.barrier {D : Dsk} (h : D.OK) : D.barrier.2.OK := by
  unfold Dsk.barrier
  split
  · exact h
  · exact h.act fun E _ _ _ hE => hE.flush
theorem Dsk.OK.crash {D : Dsk} (h : D.OK) (keep : List Int) (torn cut : Int) : (D.crash keep torn cut).OK := ⟨h.n1, h.n2, crashGo_len _ _ _ _ h.len h.ca, (fun p hp => by cases hp), by simp [Dsk.crash]⟩

instance (priority := high) {R : Type} {x : Nat → Nat → Option R} {p : Prop} : Step (fun k n => aChk (Value.bool true = .bool false → p) (x k n)) x := ⟨fun h2 => Ev.chk (fun h => by cases h) h2⟩
instance (priority := high) {R α : Type} {x : Nat → Nat → Option R} {b : Bool} {E : Option α} {v : α} [h : PrimEq E v] : Step (fun k n => aChk (Value.bool b = .bool b → E = some v) (x k n)) x := ⟨fun h2 => Ev.chk (fun _ => h.eq) h2⟩
theorem perm22 {α : Type} (a b c d : α) : [a, b, c, d].Perm [c, d, a, b] := List.perm_append_comm (l₁ := [a, b]) (l₂ := [c, d])
theorem b2_id (x : Option (Value × AH)) : (b2 x fun v h => some (v, h)) = x := by
  cases x <;> rfl
instance {P : Program} {t e : TypeId} {d o : Nat} [h : Und P t (.pointer e)] : PrimEq (bin P .eql t (ptr d o) (.pointer none)) (.bool false) := ⟨by
  unfold bin ptr
  rw [if_neg (by simp [flat1])]
  simp only [h.eq, Option.bind_some, nilEq]
  rfl⟩
instance {P : Program} {t e : TypeId} {d o : Nat} [h : Und P t (.pointer e)] : PrimEq (bin P .neq t (ptr d o) (.pointer none)) (.bool true) := ⟨by
  unfold bin ptr
  rw [if_neg (by simp [flat1])]
  simp only [h.eq, Option.bind_some, nilEq]
  rfl⟩
theorem max_int {k : IntKind} {a b : Int} : fold1 maxV [.int k a, .int k b] = some (.int k (max a b)) := by
  show some (Value.int k (if b > a then b else a)) = _
  congr 2
  omega
theorem min_int {k : IntKind} {a b : Int} : fold1 minV [.int k a, .int k b] = some (.int k (min a b)) := by
  show some (Value.int k (if b < a then b else a)) = _
  congr 2
  omega
instance (priority := low) {k : IntKind} {a b : Int} : PrimEq (fold1 maxV [.int k a, .int k b]) (.int k (max a b)) := ⟨max_int⟩
instance (priority := low) {k : IntKind} {a b : Int} : PrimEq (fold1 minV [.int k a, .int k b]) (.int k (min a b)) := ⟨min_int⟩
def fillN (s : List UInt8) : List UInt8 := if s = [] then List.replicate 64 0 else (List.range 64).map fun i => s.getD (i % s.length) 0
theorem fillN_len (s : List UInt8) : (fillN s).length = 64 := by
  unfold fillN
  split
  · simp
  · simp
section
variable {P : Program} {R : Type} {H0 B0 B H : AH} {L L' : List (Nat × Blk)}
theorem Ev.setSt {b c d : Nat} {T : List Value} {el : TypeId} {f key : Nat} {g : Nat → Nat → AH → Option R} {Q : R → Prop} (hS : St H0 B0 B L H) (hm : (b, ⟨.int .i64 (c : Int) :: T, el, .loop f key⟩) ∈ L)
    (hu : Upd b ⟨.int .i64 (c : Int) :: T, el, .loop f key⟩ ⟨.int .i64 (d : Int) :: T, el, .loop f key⟩ L L') (h : ∀ H', St H0 B0 B L' H' → Ev (fun k n => g k n H') Q) : Ev (fun k n => (AM.setSt H b c d).bind (g k n)) Q := by
  refine Ev.prim ?_ (h _ (hS.put (cs := .int .i64 (d : Int) :: T) hu))
  unfold AM.setSt
  rw [hS.get hm]
  simp only [Option.bind_some, if_true]
theorem Ev.rgBack {b : Nat} {e : EX} {T : List Value} {el : TypeId} {f key : Nat} {K : Nat → Nat → EX → AH → Option R} {Q : R → Prop} (hS : St H0 B0 B ((b, ⟨.int .i64 (xSt e : Nat) :: T, el, .loop f key⟩) :: L) H)
    (h : ∀ H', St H0 B0 B L H' → Ev (fun k n => K k n e H') Q) : Ev (fun k n => AM.rgBack b H (K k n)) Q := by
  refine Ev.eq (fun k n => ?_) (h _ hS.kill)
  unfold AM.rgBack getSt
  rw [hS.get (.head _)]
  simp only [Option.bind_some]
  cases e <;> rfl
end
theorem take_ex {α : Type} {l : List α} {m : Nat} (h : m < l.length) : ∃ x, l[m]? = some x ∧ l.take (m + 1) = l.take m ++ [x] := by
  refine ⟨l[m], List.getElem?_eq_getElem h, ?_⟩
  rw [List.take_add_one, List.getElem?_eq_getElem h]
  rfl
theorem find_snoc (l : List (Nat × List UInt8)) (a : Nat) (s : List UInt8) (i : Nat) : find (l ++ [(a, s)]) i = if a = i then some s else find l i := by
  unfold find
  simp only [List.reverse_append, List.reverse_cons, List.reverse_nil, List.nil_append, List.cons_append, List.find?_cons]
  by_cases h : a = i
  · simp [h]
  · rw [if_neg h, show (a == i) = false by simpa using h]
theorem crashGo_snoc {keep : List Int} {torn : Int} {cut : Nat} : ∀ (l : List (Nat × List UInt8)) (k : Nat) (p : Nat × List UInt8) (bs : List UInt8), crashGo keep torn cut k (l ++ [p]) bs = tears keep torn cut (k + l.length) p (crashGo keep torn cut k l bs)
  | [], k, p, bs => rfl
  | q :: l, k, p, bs => by
    show crashGo keep torn cut (k + 1) (l ++ [p]) _ = _
    rw [crashGo_snoc l (k + 1) p, List.length_cons, show k + 1 + l.length = k + (l.length + 1) by omega]
    rfl
theorem and_one {k : IntKind} {P : Program} {t : TypeId} {x : Int} (hk : k = .i64) : bin P .and t (.int k x) (.int k 1) = some (.int k (x % 2)) := by
  subst hk
  rw [bin_and]
  congr 2
  have e1 : IntKind.i64.bits = 64 := rfl
  rw [e1]
  have e2 : (BitVec.ofInt 64 x &&& BitVec.ofInt 64 1).toNat = (x % 2).toNat := by
    rw [BitVec.toNat_and]
    have e3 : (BitVec.ofInt 64 1).toNat = 1 := by decide
    rw [e3, Nat.and_one_is_mod, BitVec.toNat_ofInt]
    omega
  rw [e2]
  have e4 : IntKind.i64.wrap (((x % 2).toNat : Nat) : Int) = (((x % 2).toNat : Nat) : Int) := wrap64 (by omega)
  rw [e4]
  omega
variable {P : Program} {R : Type} {H0 B0 B H : AH} {L : List (Nat × Blk)}
def GRS (e : TypeId) (sz : Nat) (v : Value) (n : Nat) (cs : List Value) (Lx : List (Nat × Blk)) : Prop :=
  (n = 0 ∧ cs = [] ∧ (v = .slice none 0 0 ∨ ∃ b off, v = sl b off 0 0) ∧ Lx = []) ∨
  (n ≠ 0 ∧ cs.length = n * sz ∧ ∃ b kd cap, v = sl b 0 n cap ∧ ((kd = .grow ∨ kd = .buf) ∧ cap ≠ 0 ∧ n ≤ cap ∨ kd = .fix ∧ cap = n) ∧ Lx = [(b, ⟨cs, e, kd⟩)])
section
variable {e : TypeId} {sz n : Nat} {v : Value} {cs : List Value} {Lx : List (Nat × Blk)}
theorem GRS.nil : GRS e sz (.slice none 0 0) 0 [] [] := .inl ⟨rfl, rfl, .inl rfl, rfl⟩
theorem GRS.cell (h : GRS e sz v n cs Lx) : IsCell v := by
  rcases h with ⟨_, _, rfl | ⟨b, off, rfl⟩, _⟩ | ⟨_, _, b, kd, cap, rfl, _, _⟩ <;> exact inferInstance
theorem GRS.len {t e' : TypeId} (hU : P.underlying t = some (.slice e')) (h : GRS e sz v n cs Lx) : lenV P t v = some (i64 n) := by
  rcases h with ⟨rfl, _, rfl | ⟨b, off, rfl⟩, _⟩ | ⟨_, _, b, kd, cap, rfl, _⟩ <;> exact lenV_sl hU
theorem GRS.length (h : GRS e sz v n cs Lx) : cs.length = n * sz := by
  rcases h with ⟨rfl, rfl, _⟩ | ⟨_, h, _⟩
  · simp
  · exact h
theorem GRS.acc (h : GRS e sz v n cs Lx) (hS : St H0 B0 B (Lx ++ L) H) : GAcc e sz H0 B0 B L H v n cs := by
  rcases h with ⟨rfl, rfl, hv, rfl⟩ | ⟨hne, hl, b, kd, cap, hv, hk, rfl⟩
  · exact .inl ⟨rfl, rfl, hv, hS⟩
  · exact .inr ⟨hne, hl, b, kd, cap, hv, hk, hS⟩
theorem GAcc.grs (h : GAcc e sz H0 B0 B L H v n cs) : ∃ Lx, GRS e sz v n cs Lx ∧ St H0 B0 B (Lx ++ L) H := by
  rcases h with ⟨h1, h2, hv, hS⟩ | ⟨hn, hl, b, kd, cap, hv, hk, hS⟩
  · exact ⟨[], .inl ⟨h1, h2, hv, rfl⟩, hS⟩
  · exact ⟨[(b, ⟨cs, e, kd⟩)], .inr ⟨hn, hl, b, kd, cap, hv, hk, rfl⟩, hS⟩
/-- What it holds, wherever its block stands among ours. -/
theorem GRS.now {Ly : List (Nat × Blk)} (h : GRS e sz v n cs Lx) (hS : St H0 B0 B Ly H) (hsub : ∀ p ∈ Lx, p ∈ Ly) : ScN H v n sz cs := by
  rcases h with ⟨rfl, rfl, rfl | ⟨b, off, rfl⟩, _⟩ | ⟨hn, hl, b, kd, cap, rfl, hk, rfl⟩
  · exact .inl ⟨rfl, rfl, rfl⟩
  · exact .inr ⟨b, off, 0, rfl, Nat.le_refl _, by simp, .inl rfl⟩
  · refine .inr ⟨b, 0, cap, rfl, by rcases hk with ⟨_, _, h⟩ | ⟨_, h⟩ <;> omega, hl, .inr ⟨⟨cs, e, kd⟩, hS.get (hsub _ (by simp)), ?_⟩⟩
    unfold rdN
    rw [if_pos (by simp only; omega), List.drop_zero, List.take_of_length_le (by simp only; omega)]
end
/-- A row's element, read where it stands. -/
theorem ScN.ldAt {P : Program} {t e : TypeId} {z : List Value} {sz by_ : Nat} [hE : EltS P t e z sz by_] {H : AH} {v : Value} {n i : Nat} {cs : List Value} {k : IntKind} (h : ScN H v n sz cs) (hi : i < n) (ha : aggT P e = some true) :
    ∃ p, ixA P t v (.int k (i : Int)) = some p ∧ ld P e H p = some (.agg ((cs.drop (i * sz)).take sz).toArray) := by
  rcases h with ⟨_, h, _⟩ | ⟨b, off, cap, rfl, hc, hl, h⟩
  · omega
  · rcases h with h | ⟨K, h1, h2⟩
    · omega
    refine ⟨ptr b (off + i * sz), ?_, ?_⟩
    · unfold ixA sl
      rw [hE.U]
      simp only
      rw [if_pos ⟨hE.I, by omega, by omega⟩, hE.S]
      simp
    · unfold AM.ld ldA AM.ptr
      rw [ha]
      simp only
      rw [h1, Option.bind_some, hE.S]
      obtain ⟨h3, h4⟩ := rdN_some h2
      have hle : i * sz + sz ≤ n * sz := by rw [← Nat.succ_mul]; exact Nat.mul_le_mul_right _ hi
      unfold rdN
      rw [if_pos (by omega), Option.map_some]
      congr 2
      conv => rhs; rw [h4]
      rw [List.drop_take, List.take_take, List.drop_drop, Nat.min_eq_left (by omega)]
def caCells (l : List (Nat × List UInt8)) : List Value := l.flatMap fun p => [i64 p.1, str p.2]
theorem caCells_at {l : List (Nat × List UInt8)} {i a : Nat} {s : List UInt8} (h : l[i]? = some (a, s)) : ((caCells l).drop (i * 2)).take 2 = [i64 a, str s] := by
  induction l generalizing i with
  | nil => simp at h
  | cons p l ih =>
    cases i with
    | zero => simp at h; subst h; rfl
    | succ i =>
      rw [show (i + 1) * 2 = (i * 2 + 1) + 1 by omega]
      exact ih (by simpa using h)
theorem lay_at {l : List (Nat × List UInt8)} {i a : Nat} {s bs : List UInt8} (h : l[i]? = some (a, s)) : layAll (l.take (i + 1)) bs = layB (layAll (l.take i) bs) a s := by
  unfold layAll
  rw [List.take_add_one, h]
  simp
abbrev byts (l : List UInt8) : List Value := (l.map UInt8.toNat).map u8
theorem byts_len (l : List UInt8) : (byts l).length = l.length := by simp
def IsDisk (tD tB tW : TypeId) (p : Value) (D : Dsk) (Ls : List (Nat × Blk)) : Prop :=
  ∃ d bb cv Lc, p = ptr d 0 ∧ GRS tW 2 cv D.cache.length (caCells D.cache) Lc ∧
    Ls = (d, ⟨[sl bb 0 (64 * D.n) (64 * D.n), cv, .int .i64 D.fuse, .bool D.down], tD, .fix⟩) :: (bb, ⟨byts D.bytes, tB, .fix⟩) :: Lc
section
variable {t u e : TypeId} {z : Value} {sz : Nat}
theorem byts_back (l : List UInt8) : (l.map UInt8.toNat).map (fun n => UInt8.ofNat n) = l := by
  rw [List.map_map]
  conv => rhs; rw [← List.map_id l]
  exact List.map_congr_left fun x _ => by simp
theorem all_byts (l : List UInt8) : (byts l).all isCell = true := by simp [isCell]
theorem byts_take (l : List UInt8) (n : Nat) : byts (l.take n) = (byts l).take n := by simp [List.map_take]
theorem byts_drop (l : List UInt8) (n : Nat) : byts (l.drop n) = (byts l).drop n := by simp [List.map_drop]
theorem byts_app (a b : List UInt8) : byts (a ++ b) = byts a ++ byts b := by simp
theorem byts_rep (n : Nat) : byts (List.replicate n 0) = List.replicate n (.int .u8 0) := by simp
theorem byts_lay (bs s : List UInt8) (a : Nat) : byts (layB bs a s) = spl (byts bs) (64 * a) (byts s) := by
  unfold layB spl
  rw [byts_app, byts_app, byts_take, byts_drop, byts_len]
theorem cellsOf_str (l : List UInt8) : cellsOfBytes ⟨l.toArray⟩ = byts l := by
  unfold cellsOfBytes
  simp
theorem upd_same_list {b : Nat} {K : Blk} {L L' : List (Nat × Blk)} (h : Upd b K K L L') : L' = L := by
  generalize hK : K = K' at h
  induction h with
  | head => rw [← hK]
  | tail x _ ih => rw [ih]
/-- A string's bytes into a row of ours. -/
theorem Ev.cpyStr {L L' : List (Nat × Blk)} {b off n cap : Nat} {cs : List Value} {kd : BK} {l : List UInt8} {g : Nat → Nat → Value → AH → Option R} {Q : R → Prop} [hE : Elt P t e z sz] (hS : St H0 B0 B L H) (hm : (b, ⟨cs, e, kd⟩) ∈ L)
    (hn : l.length ≤ n) (ho : off + l.length ≤ cs.length) (hk : kd.wr = true) (hu : Upd b ⟨cs, e, kd⟩ ⟨spl cs off (byts l), e, kd⟩ L L') (hq : ∀ H', St H0 B0 B L' H' → Ev (fun k m => g k m (i64 l.length) H') Q) :
    Ev (fun k m => Go.AM.b2 (Go.AM.cpy P t H (sl b off n cap) (str l)) (g k m)) Q := by
  have hmin : min l.length n = l.length := Nat.min_eq_left hn
  have e1 : sliceCells 1 H (str l) l.length = some (byts l) := by
    show (if l.length ≤ l.length then some ((cellsOfBytes ⟨l.toArray⟩).take l.length) else none) = _
    rw [if_pos (Nat.le_refl _), cellsOf_str, List.take_of_length_le (by rw [byts_len]; exact Nat.le_refl _)]
  have e2 : lenOf (str l) = some l.length := rfl
  by_cases h0 : l.length = 0
  · have : l = [] := List.length_eq_zero_iff.mp h0
    subst this
    have hsp : spl cs off (byts []) = cs := by simp [spl]
    rw [hsp] at hu
    have hLL := upd_same_list hu
    subst hLL
    refine Ev.prim2 ?_ (hq H hS)
    unfold Go.AM.cpy sl
    rw [hE.U]; simp only
    rw [hE.I, if_neg (by simp), e2, Option.bind_some, hmin, hE.S, e1, Option.bind_some, if_pos h0]; rfl
  · refine Ev.prim2 ?_ (hq _ (hS.put (cs := spl cs off (byts l)) hu))
    unfold Go.AM.cpy sl
    rw [hE.U]; simp only
    rw [hE.I, if_neg (by simp), e2, Option.bind_some, hmin, hE.S, e1, Option.bind_some, if_neg h0, hS.get hm, Option.bind_some]
    simp only
    rw [if_pos ⟨hk, by rw [byts_len]; omega, all_byts l⟩]
theorem slc_own2 [hE : Elt P t e z sz] {b m i j : Nat} (h : i ≤ j ∧ j ≤ m) : slc P t (sl b 0 m m) (some (i64 i)) (some (i64 j)) = some (sl b (if m = i then 0 else i) (j - i) (m - i)) := by
  unfold slc sl
  rw [hE.U]; simp only [intOr, Option.bind_some]
  rw [if_pos ⟨hE.I, by omega, by omega, by omega⟩, hE.S]
  simp
/-- A part of a row of bytes of ours, as a string. -/
theorem cvS_part {d : TypeId} [h1 : Und P t (.slice e)] [h2 : Und P d .string] [h3 : Und P e (.int .u8)] {L : List (Nat × Blk)} {b off n cap : Nat} {bs : List UInt8} {kd : BK} (hS : St H0 B0 B L H) (hm : (b, ⟨byts bs, e, kd⟩) ∈ L) (hn : n ≤ cap) (ho : off + n ≤ bs.length) :
    cvS P t d H (sl b off n cap) = some (str ((bs.drop off).take n)) := by
  have h : ScN H (sl b off n cap) n 1 ((((bs.drop off).take n).map UInt8.toNat).map u8) := by
    refine .inr ⟨b, off, cap, rfl, hn, by simp; omega, .inr ⟨_, hS.get hm, ?_⟩⟩
    unfold rdN
    rw [if_pos (by simp only [byts_len]; omega), Nat.mul_one]
    show some ((byts bs).drop off |>.take n) = some (byts ((bs.drop off).take n))
    rw [byts_take, byts_drop]
  have := h.cvS (P := P) (t := t) (d := d)
  rwa [byts_back] at this
end
end Go.AM
set_option linter.unusedVariables false
set_option linter.unusedSimpArgs false
namespace Go.AM
variable {P : Program} {R α : Type} {f : α → Value} {t e : TypeId} {z : Value} {sz : Nat}
variable {B B0 H0 H : AH} {v w : Value} {ks l : List α} {X La Lb : List (Nat × Blk)} {g : Nat → Nat → Value → AH → Option R} {Q : R → Prop}
theorem permA (X La Lb : List (Nat × Blk)) : (La ++ (X ++ Lb)).Perm (X ++ (La ++ Lb)) := by
  rw [← List.append_assoc, ← List.append_assoc]
  exact List.Perm.append_right _ List.perm_append_comm
end Go.AM
set_option linter.unusedVariables false
set_option linter.unusedSimpArgs false
set_option maxRecDepth 100000
namespace Go.AM.K
open Go Go.AM Go.Proofs
attribute [local irreducible] run bin un ld st box newV mkS fldA fld ixA ix slc slc3 build buildS cv cvS ap cpy lenV gOp pickV b2 aIf aChk evalK resume iterD Option.bind

section
variable {B B0 H0 H : AH} {L : List (Nat × Blk)}
abbrev DK := IsDisk 42 5 45
/-- Behind a call that leaves a disk. -/
def DkP (H0 B0 B : AH) (L : List (Nat × Blk)) (p v : Value) (D : Dsk) (r : Value × AH) : Prop := r.1 = v ∧ ∃ Ls B', MoC B B' ∧ DK p D Ls ∧ St H0 B0 B' (Ls ++ L) r.2
theorem Sectors_spec {p : Value} {D : Dsk} {Ls Lx : List (Nat × Blk)} (hD : DK p D Ls) (hO : D.OK) (hS : St H0 B0 B Lx H) (hsub : ∀ x ∈ Ls, x ∈ Lx) :
    Ev (fun k _ => rn k 14 [p] H) (fun r => r = (i64 D.n, H)) := by
  obtain ⟨d, bb, cv, Lc, rfl, hG, rfl⟩ := hD
  have hi : InL d ⟨[sl bb 0 (64 * D.n) (64 * D.n), cv, .int .i64 D.fuse, .bool D.down], 42, .fix⟩ Lx := ⟨hsub _ (.head _)⟩
  refine Ev.fn (fun k => f14_eq k _ H) ?_
  have h1 := hO.n1
  have h2 := hO.n2
  repeat (first | refine Ev.s ?_ | refine Ev.newC fun _ _ _ => ?_ | refine Ev.boxC fun _ _ _ => ?_ | refine Ev.stC fun _ _ => ?_ | refine Ev.sc (by omega) ?_ | refine Ev.scg (by omega) ?_)
  have : 64 * D.n / 64 = D.n := by omega
  rw [this]
  exact Ev.ret rfl
theorem Waiting_spec {p : Value} {D : Dsk} {Ls Lx : List (Nat × Blk)} (hD : DK p D Ls) (hS : St H0 B0 B Lx H) (hsub : ∀ x ∈ Ls, x ∈ Lx) :
    Ev (fun k _ => rn k 12 [p] H) (fun r => r = (i64 D.cache.length, H)) := by
  obtain ⟨d, bb, cv, Lc, rfl, hG, rfl⟩ := hD
  have hi : InL d ⟨[sl bb 0 (64 * D.n) (64 * D.n), cv, .int .i64 D.fuse, .bool D.down], 42, .fix⟩ Lx := ⟨hsub _ (.head _)⟩
  refine Ev.fn (fun k => f12_eq k _ H) ?_
  have := hG.cell
  repeat (first | refine Ev.s ?_ | refine Ev.newC fun _ _ _ => ?_ | refine Ev.boxC fun _ _ _ => ?_ | refine Ev.stC fun _ _ => ?_ | refine Ev.sc (by omega) ?_ | refine Ev.scg (by omega) ?_)
  refine Ev.prim (hG.len (Und.eq (P := Try.prog) (t := 40))) ?_
  exact Ev.ret rfl
theorem Down_spec {p : Value} {D : Dsk} {Ls Lx : List (Nat × Blk)} (hD : DK p D Ls) (hS : St H0 B0 B Lx H) (hsub : ∀ x ∈ Ls, x ∈ Lx) :
    Ev (fun k _ => rn k 13 [p] H) (fun r => r = (.bool D.down, H)) := by
  obtain ⟨d, bb, cv, Lc, rfl, hG, rfl⟩ := hD
  have hi : InL d ⟨[sl bb 0 (64 * D.n) (64 * D.n), cv, .int .i64 D.fuse, .bool D.down], 42, .fix⟩ Lx := ⟨hsub _ (.head _)⟩
  refine Ev.fn (fun k => f13_eq k _ H) ?_
  repeat (first | refine Ev.s ?_ | refine Ev.newC fun _ _ _ => ?_ | refine Ev.boxC fun _ _ _ => ?_ | refine Ev.stC fun _ _ => ?_ | refine Ev.sc (by omega) ?_ | refine Ev.scg (by omega) ?_)
  exact Ev.ret rfl
theorem lay_spec {d bb n a : Nat} {cv x y : Value} {bs s : List UInt8} (h2 : n ≤ 1024) (hl : bs.length = 64 * n) (ha : a < n) (hs : s.length ≤ 64)
    (hS : St H0 B0 B ((d, ⟨[sl bb 0 (64 * n) (64 * n), cv, x, y], 42, .fix⟩) :: (bb, ⟨byts bs, 5, .fix⟩) :: L) H) :
    Ev (fun k _ => rn k 19 [ptr d 0, i64 a, str s] H) (fun r => r.1 = .tuple #[] ∧ St H0 B0 B ((d, ⟨[sl bb 0 (64 * n) (64 * n), cv, x, y], 42, .fix⟩) :: (bb, ⟨byts (layB bs a s), 5, .fix⟩) :: L) r.2) := by
  refine Ev.fn (fun k => f19_eq k _ _ _ H) ?_
  repeat (first | refine Ev.s ?_ | refine Ev.newC fun _ _ _ => ?_ | refine Ev.boxC fun _ _ _ => ?_ | refine Ev.stC fun _ _ => ?_ | refine Ev.sc (by omega) ?_ | refine Ev.scg (by omega) ?_)
  refine Ev.prim (slc_own (t := 30) (by omega)) ?_
  rw [if_neg (by omega)]
  refine Ev.cpyStr (t := 30) hS (.tail _ (.head _)) (by omega) (by rw [byts_len]; omega) rfl (.tail _ (.head _)) fun H' hS' => ?_
  refine Ev.ret ⟨rfl, ?_⟩
  rw [byts_lay, Nat.mul_comm 64 a]
  exact hS'
theorem act_spec {d : Nat} {bv cv f : Value} {fu : Int} {dn : Bool} {Q : Value × AH → Prop} (hfu : -1 ≤ fu ∧ fu < 9223372036854775808) (hS : St H0 B0 B ((d, ⟨[bv, cv, .int .i64 fu, .bool dn], 42, .fix⟩) :: L) H)
    (h0 : fu = 0 → ∀ H', St H0 B0 B ((d, ⟨[bv, cv, .int .i64 fu, .bool true], 42, .fix⟩) :: L) H' → Q (.int .i64 7, H'))
    (h1 : fu ≠ 0 → ∀ H', St H0 B0 B ((d, ⟨[bv, cv, .int .i64 (max (fu - 1) (-1)), .bool dn], 42, .fix⟩) :: L) H' → Ev (fun k _ => callY (rn k) f [] H') (fun r => Q (.int .i64 0, r.2))) :
    Ev (fun k _ => rn k 15 [ptr d 0, f] H) Q := by
  refine Ev.fn (fun k => f15_eq k _ _ H) ?_
  repeat (first | refine Ev.s ?_ | refine Ev.newC fun _ _ _ => ?_ | refine Ev.boxC fun _ _ _ => ?_ | refine Ev.stC fun _ _ => ?_ | refine Ev.sc (by omega) ?_ | refine Ev.scg (by omega) ?_)
  by_cases hf : fu = 0
  · rw [decide_eq_true hf]
    repeat (first | refine Ev.s ?_ | refine Ev.newC fun _ _ _ => ?_ | refine Ev.boxC fun _ _ _ => ?_ | refine Ev.stC fun _ _ => ?_ | refine Ev.sc (by omega) ?_ | refine Ev.scg (by omega) ?_)
    exact Ev.ret (h0 hf _ (by assumption))
  · rw [decide_eq_false hf]
    repeat (first | refine Ev.s ?_ | refine Ev.newC fun _ _ _ => ?_ | refine Ev.boxC fun _ _ _ => ?_ | refine Ev.stC fun _ _ => ?_ | refine Ev.sc (by omega) ?_ | refine Ev.scg (by omega) ?_)
    rename_i H1 hS1
    rw [show (if -1 > fu - 1 then (-1 : Int) else fu - 1) = max (fu - 1) (-1) by omega] at hS1
    refine Ev.b2 (h1 hf _ hS1) fun v H' hq => ?_
    exact Ev.ret hq
theorem callY_fn {k : Nat} {g : FuncId} {xs ys : List Value} {args : List Value} {H : AH} (hg : g < yOff) : callY (rn k) (.func (.func g) ⟨xs⟩ ⟨ys⟩) args H = rn k g (xs ++ (args ++ ys)) H := by
  unfold callY callV
  simp only [show Nat.blt g yOff = true by rw [Nat.blt_eq]; exact hg, cond_true]
theorem front3 {x y z d : Nat × Blk} (h : St H0 B0 B (x :: y :: z :: d :: L) H) : St H0 B0 B (d :: x :: y :: z :: L) H := h.perm (List.perm_middle (l₁ := [x, y, z])).symm
theorem back3 {x y z d : Nat × Blk} (h : St H0 B0 B (d :: x :: y :: z :: L) H) : St H0 B0 B (d :: L) H := (h.perm (List.perm_middle (l₁ := [x, y, z]))).drop1.drop1.drop1
theorem toFront {X La : List (Nat × Blk)} (h : St H0 B0 B (La ++ (X ++ L)) H) : St H0 B0 B (X ++ (La ++ L)) H := h.perm (permA La X L)
theorem caCells_snoc (l : List (Nat × List UInt8)) (q : Nat) (s : List UInt8) : caCells (l ++ [(q, s)]) = caCells l ++ [i64 q, str s] := by simp [caCells]
theorem drop_3 {x y z : Nat × Blk} (h : St H0 B0 B (x :: y :: z :: L) H) : St H0 B0 B L H := h.drop1.drop1.drop1
end
end Go.AM.K
set_option linter.unusedVariables false
set_option linter.unusedSimpArgs false
set_option maxRecDepth 100000
namespace Go.AM.K
open Go Go.AM Go.Proofs
attribute [local irreducible] run bin un ld st box newV mkS fldA fld ixA ix slc slc3 build buildS cv cvS ap cpy lenV gOp pickV b2 aIf aChk evalK resume iterD Option.bind

section
variable {B B0 H0 H : AH} {L : List (Nat × Blk)}
theorem Write_spec {p : Value} {D : Dsk} {Ls : List (Nat × Blk)} {i : Int} {s : List UInt8} (hD : DK p D Ls) (hO : D.OK) (hc : D.cache.length < 1000000000000) (hS : St H0 B0 B (Ls ++ L) H) :
    Ev (fun k _ => rn k 8 [p, .int .i64 i, str s] H) (DkP H0 B0 B L p (.int .i64 (D.write i s).1) (D.write i s).2) := by
  have hD0 := hD
  obtain ⟨n, bytes, cache, fu, dn⟩ := D
  obtain ⟨d, bb, cv, Lc, rfl, hG, rfl⟩ := hD
  have h1 := hO.n1
  have h2 := hO.n2
  have hfu := hO.fu
  dsimp only at hS hc h1 h2 hfu hG hD0
  simp only [List.cons_append] at hS
  have hcell := hG.cell
  refine Ev.fn (fun k => f8_eq k _ _ _ H) ?_
  have back : ∀ H', St H0 B0 B ((d, ⟨[sl bb 0 (64 * n) (64 * n), cv, .int .i64 fu, .bool dn], 42, .fix⟩) :: (bb, ⟨byts bytes, 5, .fix⟩) :: (Lc ++ L)) H' → ∃ Ls B', MoC B B' ∧ DK (ptr d 0) ⟨n, bytes, cache, fu, dn⟩ Ls ∧ St H0 B0 B' (Ls ++ L) H' := fun H' h => ⟨_, B, ⟨Mo.refl B⟩, hD0, h⟩
  repeat (first | refine Ev.s ?_ | refine Ev.newC fun _ _ _ => ?_ | refine Ev.boxC fun _ _ _ => ?_ | refine Ev.stC fun _ _ => ?_ | refine Ev.sc (by omega) ?_ | refine Ev.scg (by omega) ?_)
  rename_i b1 H1 hS1 b2 H2 hS2 b3 H3 hS3
  unfold Dsk.write
  dsimp only
  cases dn with
  | true =>
    repeat (first | refine Ev.s ?_ | refine Ev.newC fun _ _ _ => ?_ | refine Ev.boxC fun _ _ _ => ?_ | refine Ev.stC fun _ _ => ?_ | refine Ev.sc (by omega) ?_ | refine Ev.scg (by omega) ?_)
    exact Ev.ret ⟨rfl, back _ (drop_3 hS3)⟩
  | false =>
    repeat (first | refine Ev.s ?_ | refine Ev.newC fun _ _ _ => ?_ | refine Ev.boxC fun _ _ _ => ?_ | refine Ev.stC fun _ _ => ?_ | refine Ev.sc (by omega) ?_ | refine Ev.scg (by omega) ?_)
    rw [if_neg (fun h => by cases h)]
    by_cases hi : i < 0
    · rw [decide_eq_true hi, if_pos (.inl hi)]
      repeat (first | refine Ev.s ?_ | refine Ev.newC fun _ _ _ => ?_ | refine Ev.boxC fun _ _ _ => ?_ | refine Ev.stC fun _ _ => ?_ | refine Ev.sc (by omega) ?_ | refine Ev.scg (by omega) ?_)
      exact Ev.ret ⟨rfl, back _ (drop_3 hS3)⟩
    rw [decide_eq_false hi]
    obtain ⟨q, rfl⟩ : ∃ q : Nat, i = q := ⟨i.toNat, by omega⟩
    repeat (first | refine Ev.s ?_ | refine Ev.newC fun _ _ _ => ?_ | refine Ev.boxC fun _ _ _ => ?_ | refine Ev.stC fun _ _ => ?_ | refine Ev.sc (by omega) ?_ | refine Ev.scg (by omega) ?_)
    refine Ev.b2 (Sectors_spec hD0 hO hS3 ?_) ?_
    · intro x hx
      exact .tail _ (.tail _ (.tail _ (by rw [← List.cons_append, ← List.cons_append]; exact List.mem_append_left _ hx)))
    rintro _ _ ⟨rfl, rfl⟩
    repeat (first | refine Ev.s ?_ | refine Ev.newC fun _ _ _ => ?_ | refine Ev.boxC fun _ _ _ => ?_ | refine Ev.stC fun _ _ => ?_ | refine Ev.sc (by omega) ?_ | refine Ev.scg (by omega) ?_)
    by_cases hq : n ≤ q
    · rw [decide_eq_true hq, if_pos (.inr (.inl (by omega)))]
      repeat (first | refine Ev.s ?_ | refine Ev.newC fun _ _ _ => ?_ | refine Ev.boxC fun _ _ _ => ?_ | refine Ev.stC fun _ _ => ?_ | refine Ev.sc (by omega) ?_ | refine Ev.scg (by omega) ?_)
      exact Ev.ret ⟨rfl, back _ (drop_3 hS3)⟩
    rw [decide_eq_false hq]
    repeat (first | refine Ev.s ?_ | refine Ev.newC fun _ _ _ => ?_ | refine Ev.boxC fun _ _ _ => ?_ | refine Ev.stC fun _ _ => ?_ | refine Ev.sc (by omega) ?_ | refine Ev.scg (by omega) ?_)
    by_cases hl : s.length = 64
    · rw [decide_eq_false (fun h => h hl), if_neg (by omega)]
      repeat (first | refine Ev.s ?_ | refine Ev.newC fun _ _ _ => ?_ | refine Ev.boxC fun _ _ _ => ?_ | refine Ev.stC fun _ _ => ?_ | refine Ev.sc (by omega) ?_ | refine Ev.scg (by omega) ?_)
      rw [show (fun k n : Nat => AM.b2 (rn k 15 [ptr d 0, .func (.func 16) #[] #[ptr b1 0, ptr b2 0, ptr b3 0]] H3) fun v20 h20 => some (v20, h20)) = fun k n => rn k 15 [ptr d 0, .func (.func 16) #[] #[ptr b1 0, ptr b2 0, ptr b3 0]] H3 from funext fun k => funext fun _ => b2_id _]
      refine act_spec hfu (front3 hS3) (fun h0 H' hS' => ?_) (fun h0 H' hS' => ?_)
      · unfold Dsk.act
        dsimp only
        rw [if_pos h0]
        exact ⟨rfl, _, B, ⟨Mo.refl B⟩, ⟨d, bb, cv, Lc, rfl, hG, rfl⟩, back3 hS'⟩
      · unfold Dsk.act
        dsimp only
        rw [if_neg h0]
        simp only [callY_fn (show 16 < yOff by unfold yOff; omega)]
        clear hS hS1 hS2 hS3 back
        refine Ev.fn (fun k => f16_eq k _ _ _ H') ?_
        repeat (first | refine Ev.s ?_ | refine Ev.newC fun _ _ _ => ?_ | refine Ev.boxC fun _ _ _ => ?_ | refine Ev.stC fun _ _ => ?_ | refine Ev.sc (by omega) ?_ | refine Ev.scg (by omega) ?_)
        have hS4 := toFront (X := Lc) (La := [(d, _), (b3, _), (b2, _), (b1, _), (bb, _)]) (L := L) hS'
        refine GAcc.push (ds := [i64 q, str s]) (hG.acc hS4) rfl rfl rfl rfl (by omega) (by omega) fun v' B' H5 hm hA => ?_
        obtain ⟨Lx, hG5, hS5⟩ := hA.grs
        have hS6 := toFront (X := [(d, _), (b3, _), (b2, _), (b1, _), (bb, _)]) (La := Lx) (L := L) hS5
        simp only [List.cons_append, List.nil_append] at hS6
        have hcell5 := hG5.cell
        clear hS' hS4 hS5 hA
        repeat (first | refine Ev.s ?_ | refine Ev.newC fun _ _ _ => ?_ | refine Ev.boxC fun _ _ _ => ?_ | refine Ev.stC fun _ _ => ?_ | refine Ev.sc (by omega) ?_ | refine Ev.scg (by omega) ?_)
        rename_i H6 hS7
        refine Ev.ret ⟨rfl, _, B', hm, ⟨d, bb, v', Lx, rfl, ?_, rfl⟩, back3 hS7⟩
        unfold Dsk.put
        dsimp only
        rw [caCells_snoc, List.length_append]
        exact hG5
    · rw [decide_eq_true hl, if_pos (.inr (.inr hl))]
      repeat (first | refine Ev.s ?_ | refine Ev.newC fun _ _ _ => ?_ | refine Ev.boxC fun _ _ _ => ?_ | refine Ev.stC fun _ _ => ?_ | refine Ev.sc (by omega) ?_ | refine Ev.scg (by omega) ?_)
      exact Ev.ret ⟨rfl, back _ (drop_3 hS3)⟩
end
end Go.AM.K
set_option linter.unusedVariables false
set_option linter.unusedSimpArgs false
set_option maxRecDepth 100000
namespace Go.AM.K
open Go Go.AM Go.Proofs
attribute [local irreducible] run bin un ld st box newV mkS fldA fld ixA ix slc slc3 build buildS cv cvS ap cpy lenV gOp pickV b2 aIf aChk evalK resume iterD Option.bind

section
variable {B B0 H0 H : AH} {L : List (Nat × Blk)}
theorem New_spec {n : Nat} (h1 : 1 ≤ n) (h2 : n ≤ 1024) (hS : St H0 B0 B L H) :
    Ev (fun k _ => rn k 6 [i64 n] H) (fun r => ∃ p Ls B', r.1 = .tuple #[p, .int .i64 0] ∧ MoC B B' ∧ DK p (Dsk.new n) Ls ∧ St H0 B0 B' (Ls ++ L) r.2) := by
  refine Ev.fn (fun k => f6_eq k _ H) ?_
  repeat (first | refine Ev.s ?_ | refine Ev.newC fun _ _ _ => ?_ | refine Ev.boxC fun _ _ _ => ?_ | refine Ev.stC fun _ _ => ?_ | refine Ev.sc (by omega) ?_ | refine Ev.scg (by omega) ?_)
  rw [decide_eq_false (by omega)]
  repeat (first | refine Ev.s ?_ | refine Ev.newC fun _ _ _ => ?_ | refine Ev.boxC fun _ _ _ => ?_ | refine Ev.stC fun _ _ => ?_ | refine Ev.sc (by omega) ?_ | refine Ev.scg (by omega) ?_)
  rw [decide_eq_false (by omega)]
  repeat (first | refine Ev.s ?_ | refine Ev.newC fun _ _ _ => ?_ | refine Ev.boxC fun _ _ _ => ?_ | refine Ev.stC fun _ _ => ?_ | refine Ev.sc (by omega) ?_ | refine Ev.scg (by omega) ?_)
  refine Ev.mkS (t := 30) inferInstance hS (by omega) (by omega) fun bb B' H' hm hS' => ?_
  clear hS
  repeat (first | refine Ev.s ?_ | refine Ev.newC fun _ _ _ => ?_ | refine Ev.boxC fun _ _ _ => ?_ | refine Ev.stC fun _ _ => ?_ | refine Ev.sc (by omega) ?_ | refine Ev.scg (by omega) ?_)
  rename_i d H1 hS1
  refine Ev.ret ⟨_, _, B', rfl, ⟨hm⟩, ⟨d, bb, _, [], rfl, .inl ⟨rfl, rfl, .inl rfl, rfl⟩, rfl⟩, ?_⟩
  unfold Dsk.new
  dsimp only
  rw [byts_rep, Nat.mul_comm 64 n]
  exact hS1
/-- The barrier's rounds. -/
theorem barrier_loop {b1 d bb : Nat} {cv : Value} {Lc : List (Nat × Blk)} {D : Dsk} (hO : D.OK) (hG : GRS 45 2 cv D.cache.length (caCells D.cache) Lc) (hc : D.cache.length < 1000000000000) :
    ∀ (m i : Nat) (B H : AH), i + m = D.cache.length → St H0 B0 B ((b1, ⟨[ptr d 0], 25, .fix⟩) :: (d, ⟨[sl bb 0 (64 * D.n) (64 * D.n), cv, .int .i64 D.fuse, .bool D.down], 42, .fix⟩) :: (bb, ⟨byts (layAll (D.cache.take i) D.bytes), 5, .fix⟩) :: (Lc ++ L)) H →
    Ev (fun k K => f18_L0 k (ptr b1 0) cv (i64 D.cache.length) (i64 i) K H) (fun o => ∃ B' H', o = (.exit 0, f18_X_L0 (ptr b1 0), H') ∧ MoC B B' ∧
      St H0 B0 B' ((b1, ⟨[ptr d 0], 25, .fix⟩) :: (d, ⟨[sl bb 0 (64 * D.n) (64 * D.n), cv, .int .i64 D.fuse, .bool D.down], 42, .fix⟩) :: (bb, ⟨byts (layAll D.cache D.bytes), 5, .fix⟩) :: (Lc ++ L)) H') := by
  intro m
  induction m with
  | zero =>
    intro i B H hi hS
    refine Ev.succ (fun k K => f18_L0_succ k _ _ _ _ K H) ?_
    repeat (first | refine Ev.s ?_ | refine Ev.newC fun _ _ _ => ?_ | refine Ev.boxC fun _ _ _ => ?_ | refine Ev.stC fun _ _ => ?_ | refine Ev.sc (by omega) ?_ | refine Ev.scg (by omega) ?_)
    rw [decide_eq_false (by omega)]
    repeat (first | refine Ev.s ?_ | refine Ev.newC fun _ _ _ => ?_ | refine Ev.boxC fun _ _ _ => ?_ | refine Ev.stC fun _ _ => ?_ | refine Ev.sc (by omega) ?_ | refine Ev.scg (by omega) ?_)
    rw [List.take_of_length_le (by omega)] at hS
    exact Ev.ret ⟨B, H, rfl, ⟨Mo.refl B⟩, hS⟩
  | succ m ih =>
    intro i B H hi hS
    refine Ev.succ (fun k K => f18_L0_succ k _ _ _ _ K H) ?_
    repeat (first | refine Ev.s ?_ | refine Ev.newC fun _ _ _ => ?_ | refine Ev.boxC fun _ _ _ => ?_ | refine Ev.stC fun _ _ => ?_ | refine Ev.sc (by omega) ?_ | refine Ev.scg (by omega) ?_)
    rw [decide_eq_true (by omega)]
    repeat (first | refine Ev.s ?_ | refine Ev.newC fun _ _ _ => ?_ | refine Ev.boxC fun _ _ _ => ?_ | refine Ev.stC fun _ _ => ?_ | refine Ev.sc (by omega) ?_ | refine Ev.scg (by omega) ?_)
    obtain ⟨⟨a, s⟩, ha⟩ : ∃ x, D.cache[i]? = some x := ⟨_, List.getElem?_eq_getElem (by omega)⟩
    have hmem := hO.ca (a, s) (List.mem_of_getElem? ha)
    dsimp only at hmem
    have hN := hG.now hS (fun p hp => .tail _ (.tail _ (.tail _ (List.mem_append_left _ hp))))
    obtain ⟨p, q1, q2⟩ := hN.ldAt (P := Try.prog) (t := 40) (k := .i64) (i := i) (by omega) (AggOf.eq (P := Try.prog) (t := 45))
    rw [caCells_at ha] at q2
    refine Ev.prim q1 ?_
    refine Ev.prim q2 ?_
    repeat (first | refine Ev.s ?_ | refine Ev.newC fun _ _ _ => ?_ | refine Ev.boxC fun _ _ _ => ?_ | refine Ev.stC fun _ _ => ?_ | refine Ev.sc (by omega) ?_ | refine Ev.scg (by omega) ?_)
    rename_i b2 H2 hS2 H3 hS3
    have hS4 := hS3.perm (show ([(d, _), (bb, _), (b2, _), (b1, _)] ++ (Lc ++ L)).Perm _ from (List.Perm.append_right _ (perm22 _ _ _ _)))
    refine Ev.b2 (lay_spec (n := D.n) hO.n2 (layAll_len _ _ _ hO.len fun p hp => hO.ca p (List.mem_of_mem_take hp)) hmem.1 (by omega) hS4) ?_
    rintro _ H5 ⟨_, hS5⟩
    dsimp only at hS5
    rw [← lay_at ha] at hS5
    repeat (first | refine Ev.s ?_ | refine Ev.newC fun _ _ _ => ?_ | refine Ev.boxC fun _ _ _ => ?_ | refine Ev.stC fun _ _ => ?_ | refine Ev.sc (by omega) ?_ | refine Ev.scg (by omega) ?_)
    have hS6 := (hS5.perm (show ([(b2, _), (b1, _), (d, _), (bb, _)] ++ (Lc ++ L)).Perm _ from (List.Perm.append_right _ (perm22 _ _ _ _)))).drop1
    exact ih (i + 1) B H5 (by omega) hS6
theorem Barrier1_spec {b1 d bb : Nat} {cv : Value} {Lc : List (Nat × Blk)} {D : Dsk} (hO : D.OK) (hG : GRS 45 2 cv D.cache.length (caCells D.cache) Lc) (hc : D.cache.length < 1000000000000)
    (hS : St H0 B0 B ((b1, ⟨[ptr d 0], 25, .fix⟩) :: (d, ⟨[sl bb 0 (64 * D.n) (64 * D.n), cv, .int .i64 D.fuse, .bool D.down], 42, .fix⟩) :: (bb, ⟨byts D.bytes, 5, .fix⟩) :: (Lc ++ L)) H) :
    Ev (fun k _ => rn k 18 [ptr b1 0] H) (DkP H0 B0 B L (ptr d 0) (.tuple #[]) D.flush) := by
  refine Ev.fn (fun k => f18_eq k _ H) ?_
  have hcell := hG.cell
  repeat (first | refine Ev.s ?_ | refine Ev.newC fun _ _ _ => ?_ | refine Ev.boxC fun _ _ _ => ?_ | refine Ev.stC fun _ _ => ?_ | refine Ev.sc (by omega) ?_ | refine Ev.scg (by omega) ?_)
  refine Ev.prim (hG.len (Und.eq (P := Try.prog) (t := 40))) ?_
  refine Ev.bind (Ev.loop (barrier_loop hO hG hc D.cache.length 0 B H (by omega) hS)) ?_
  rintro _ ⟨B', H', rfl, hm, hS'⟩
  refine Ev.eq (fun k _ => f18_A0_x0 k _ _) ?_
  clear hS
  repeat (first | refine Ev.s ?_ | refine Ev.newC fun _ _ _ => ?_ | refine Ev.boxC fun _ _ _ => ?_ | refine Ev.stC fun _ _ => ?_ | refine Ev.sc (by omega) ?_ | refine Ev.scg (by omega) ?_)
  rename_i H1 hS1
  have hS2 := (toFront (X := Lc) (La := [(b1, _), (d, _), (bb, _)]) (L := L) hS1)
  refine Ev.ret ⟨rfl, _, B', hm, ⟨d, bb, _, [], rfl, .inl ⟨rfl, rfl, .inl rfl, rfl⟩, rfl⟩, ?_⟩
  have hS3 : St H0 B0 B' ([(b1, _), (d, _), (bb, _)] ++ L) H1 := hS2.drop (List.sublist_append_right _ _)
  exact hS3.drop1
theorem Barrier_spec {p : Value} {D : Dsk} {Ls : List (Nat × Blk)} (hD : DK p D Ls) (hO : D.OK) (hc : D.cache.length < 1000000000000) (hS : St H0 B0 B (Ls ++ L) H) :
    Ev (fun k _ => rn k 10 [p] H) (DkP H0 B0 B L p (.int .i64 D.barrier.1) D.barrier.2) := by
  have hD0 := hD
  obtain ⟨n, bytes, cache, fu, dn⟩ := D
  obtain ⟨d, bb, cv, Lc, rfl, hG, rfl⟩ := hD
  have hfu := hO.fu
  dsimp only at hS hc hfu hG hD0
  simp only [List.cons_append] at hS
  have hcell := hG.cell
  refine Ev.fn (fun k => f10_eq k _ H) ?_
  repeat (first | refine Ev.s ?_ | refine Ev.newC fun _ _ _ => ?_ | refine Ev.boxC fun _ _ _ => ?_ | refine Ev.stC fun _ _ => ?_ | refine Ev.sc (by omega) ?_ | refine Ev.scg (by omega) ?_)
  rename_i b1 H1 hS1
  unfold Dsk.barrier
  dsimp only
  cases dn with
  | true =>
    repeat (first | refine Ev.s ?_ | refine Ev.newC fun _ _ _ => ?_ | refine Ev.boxC fun _ _ _ => ?_ | refine Ev.stC fun _ _ => ?_ | refine Ev.sc (by omega) ?_ | refine Ev.scg (by omega) ?_)
    exact Ev.ret ⟨rfl, _, B, ⟨Mo.refl B⟩, hD0, hS1.drop1⟩
  | false =>
    repeat (first | refine Ev.s ?_ | refine Ev.newC fun _ _ _ => ?_ | refine Ev.boxC fun _ _ _ => ?_ | refine Ev.stC fun _ _ => ?_ | refine Ev.sc (by omega) ?_ | refine Ev.scg (by omega) ?_)
    rw [if_neg (fun h => by cases h)]
    rw [show (fun k n : Nat => AM.b2 (rn k 15 [ptr d 0, .func (.func 18) #[] #[ptr b1 0]] H1) fun v20 h20 => some (v20, h20)) = fun k n => rn k 15 [ptr d 0, .func (.func 18) #[] #[ptr b1 0]] H1 from funext fun k => funext fun _ => b2_id _]
    refine act_spec hfu (hS1.perm (List.Perm.swap _ _ _)) (fun h0 H' hS' => ?_) (fun h0 H' hS' => ?_)
    · unfold Dsk.act
      dsimp only
      rw [if_pos h0]
      exact ⟨rfl, _, B, ⟨Mo.refl B⟩, ⟨d, bb, cv, Lc, rfl, hG, rfl⟩, (hS'.perm (List.Perm.swap _ _ _)).drop1⟩
    · unfold Dsk.act
      dsimp only
      rw [if_neg h0]
      simp only [callY_fn (show 18 < yOff by unfold yOff; omega)]
      refine (Barrier1_spec (D := ⟨n, bytes, cache, max (fu - 1) (-1), false⟩) hO.actD hG hc (hS'.perm (List.Perm.swap _ _ _))).mono ?_
      rintro ⟨v, H2⟩ ⟨_, hq⟩
      exact ⟨rfl, hq⟩
end
end Go.AM.K
set_option linter.unusedVariables false
set_option linter.unusedSimpArgs false
set_option maxRecDepth 100000
namespace Go.AM.K
open Go Go.AM Go.Proofs
attribute [local irreducible] run bin un ld st box newV mkS fldA fld ixA ix slc slc3 build buildS cv cvS ap cpy lenV gOp pickV b2 aIf aChk evalK resume iterD Option.bind

section
variable {B B0 H0 H : AH} {L : List (Nat × Blk)}
theorem callV_fn {k : Nat} {g : FuncId} {xs ys : List Value} {args : List Value} {H : AH} (hg : g < yOff) : callV (rn k) (.func (.func g) ⟨xs⟩ ⟨ys⟩) args H = rn k g (xs ++ (args ++ ys)) H := by
  unfold callV
  simp only [show Nat.blt g yOff = true by rw [Nat.blt_eq]; exact hg, cond_true]
abbrev RdT9 (b1 b2 b3 : Nat) : List Value := f9_T_R0 (ptr b1 0) (ptr b2 0) (ptr b3 0)
theorem read_loop {b bx b1 b2 b3 i : Nat} {cv : Value} {cache : List (Nat × List UInt8)} {Lc : List (Nat × Blk)} (hG : GRS 45 2 cv cache.length (caCells cache) Lc) (hc : cache.length < 1000000000000) :
    ∀ (m : Nat) (B H : AH), m ≤ cache.length → St H0 B0 B ((b, ⟨.int .i64 (0 : Nat) :: RdT9 b1 b2 b3, 7, .loop 9 7⟩) :: (bx, ⟨[cv], 40, .fix⟩) :: (b3, ⟨[.int .i64 0], 26, .fix⟩) :: (b2, ⟨[.string ByteArray.empty], 9, .fix⟩) :: (b1, ⟨[i64 i], 3, .fix⟩) :: (Lc ++ L)) H →
    Ev (fun k K => f20_L0 k (.func (.yield b) #[] #[]) (ptr bx 0) (.int .i64 ((m : Int) - 1)) K H) (fun o => ∃ B' H', MoC B B' ∧
      ((find (cache.take m) i = none ∧ o = (.exit 0, f20_X_L0, H') ∧ St H0 B0 B' ((b, ⟨.int .i64 (xSt .normal : Nat) :: RdT9 b1 b2 b3, 7, .loop 9 7⟩) :: (bx, ⟨[cv], 40, .fix⟩) :: (b3, ⟨[.int .i64 0], 26, .fix⟩) :: (b2, ⟨[.string ByteArray.empty], 9, .fix⟩) :: (b1, ⟨[i64 i], 3, .fix⟩) :: (Lc ++ L)) H') ∨
       ∃ s, find (cache.take m) i = some s ∧ o = (.ret, f20_X_L0, H') ∧ St H0 B0 B' ((b, ⟨.int .i64 (xSt .ret : Nat) :: RdT9 b1 b2 b3, 7, .loop 9 7⟩) :: (bx, ⟨[cv], 40, .fix⟩) :: (b3, ⟨[.int .i64 0], 26, .fix⟩) :: (b2, ⟨[str s], 9, .fix⟩) :: (b1, ⟨[i64 i], 3, .fix⟩) :: (Lc ++ L)) H')) := by
  intro m
  induction m with
  | zero =>
    intro B H hm hS
    refine Ev.succ (fun k K => f20_L0_succ k _ _ _ K H) ?_
    repeat (first | refine Ev.s ?_ | refine Ev.newC fun _ _ _ => ?_ | refine Ev.boxC fun _ _ _ => ?_ | refine Ev.stC fun _ _ => ?_ | refine Ev.sc (by omega) ?_ | refine Ev.scg (by omega) ?_)
    rw [decide_eq_false (by omega)]
    repeat (first | refine Ev.s ?_ | refine Ev.newC fun _ _ _ => ?_ | refine Ev.boxC fun _ _ _ => ?_ | refine Ev.stC fun _ _ => ?_ | refine Ev.sc (by omega) ?_ | refine Ev.scg (by omega) ?_)
    exact Ev.ret ⟨B, H, ⟨Mo.refl B⟩, .inl ⟨rfl, rfl, hS⟩⟩
  | succ m ih =>
    intro B H hm hS
    refine Ev.succ (fun k K => f20_L0_succ k _ _ _ K H) ?_
    rw [show ((m + 1 : Nat) : Int) - 1 = (m : Int) by omega]
    have hcell := hG.cell
    repeat (first | refine Ev.s ?_ | refine Ev.newC fun _ _ _ => ?_ | refine Ev.boxC fun _ _ _ => ?_ | refine Ev.stC fun _ _ => ?_ | refine Ev.sc (by omega) ?_ | refine Ev.scg (by omega) ?_)
    rw [decide_eq_true (by omega)]
    repeat (first | refine Ev.s ?_ | refine Ev.newC fun _ _ _ => ?_ | refine Ev.boxC fun _ _ _ => ?_ | refine Ev.stC fun _ _ => ?_ | refine Ev.sc (by omega) ?_ | refine Ev.scg (by omega) ?_)
    obtain ⟨⟨a, s⟩, ha, htk⟩ := take_ex (l := cache) (m := m) (by omega)
    have hN := hG.now hS (fun p hp => .tail _ (.tail _ (.tail _ (.tail _ (.tail _ (List.mem_append_left _ hp))))))
    obtain ⟨p, q1, q2⟩ := ScN.ldAt (P := Try.prog) (t := 40) (k := .i64) (i := m) hN (by omega) (AggOf.eq (P := Try.prog) (t := 45))
    rw [caCells_at ha] at q2
    refine Ev.prim q1 ?_
    refine Ev.prim q2 ?_
    rw [htk, find_snoc]
    refine Ev.b2 (Q1 := fun r => ∃ B', MoC B B' ∧ ((a ≠ i ∧ r.1 = .bool true ∧ St H0 B0 B' ((b, ⟨.int .i64 (0 : Nat) :: RdT9 b1 b2 b3, 7, .loop 9 7⟩) :: (bx, ⟨[cv], 40, .fix⟩) :: (b3, ⟨[.int .i64 0], 26, .fix⟩) :: (b2, ⟨[.string ByteArray.empty], 9, .fix⟩) :: (b1, ⟨[i64 i], 3, .fix⟩) :: (Lc ++ L)) r.2) ∨
        (a = i ∧ r.1 = .bool false ∧ St H0 B0 B' ((b, ⟨.int .i64 (xSt .ret : Nat) :: RdT9 b1 b2 b3, 7, .loop 9 7⟩) :: (bx, ⟨[cv], 40, .fix⟩) :: (b3, ⟨[.int .i64 0], 26, .fix⟩) :: (b2, ⟨[str s], 9, .fix⟩) :: (b1, ⟨[i64 i], 3, .fix⟩) :: (Lc ++ L)) r.2)))
      (Ev.fn (fun k => f9_Y0_eq k _ _ _ _ _ b H (hS.get (.head _))) ?_) ?_
    · repeat (first | refine Ev.s ?_ | refine Ev.newC fun _ _ _ => ?_ | refine Ev.boxC fun _ _ _ => ?_ | refine Ev.stC fun _ _ => ?_ | refine Ev.sc (by omega) ?_ | refine Ev.scg (by omega) ?_)
      rename_i bv H1 hS1 H2 hS2
      refine Ev.setSt (c := 0) (d := 1) hS2 (.tail _ (.head _)) (.tail _ (.head _)) fun H3 hS3 => ?_
      clear hS hS1 hS2 hN q1 q2
      repeat (first | refine Ev.s ?_ | refine Ev.newC fun _ _ _ => ?_ | refine Ev.boxC fun _ _ _ => ?_ | refine Ev.stC fun _ _ => ?_ | refine Ev.sc (by omega) ?_ | refine Ev.scg (by omega) ?_)
      by_cases hai : a = i
      · rw [decide_eq_true hai]
        repeat (first | refine Ev.s ?_ | refine Ev.newC fun _ _ _ => ?_ | refine Ev.boxC fun _ _ _ => ?_ | refine Ev.stC fun _ _ => ?_ | refine Ev.sc (by omega) ?_ | refine Ev.scg (by omega) ?_)
        rename_i H4 hS4 H5 hS5
        refine Ev.setSt (c := 1) (d := 2) hS5 (.tail _ (.head _)) (.tail _ (.head _)) fun H6 hS6 => ?_
        exact Ev.ret ⟨B, ⟨Mo.refl B⟩, .inr ⟨hai, rfl, hS6.drop1⟩⟩
      · rw [decide_eq_false hai]
        repeat (first | refine Ev.s ?_ | refine Ev.newC fun _ _ _ => ?_ | refine Ev.boxC fun _ _ _ => ?_ | refine Ev.stC fun _ _ => ?_ | refine Ev.sc (by omega) ?_ | refine Ev.scg (by omega) ?_)
        refine Ev.setSt (c := 1) (d := 0) hS3 (.tail _ (.head _)) (.tail _ (.head _)) fun H6 hS6 => ?_
        exact Ev.ret ⟨B, ⟨Mo.refl B⟩, .inl ⟨hai, rfl, hS6.drop1⟩⟩
    · rintro v H' ⟨B', hm1, ⟨hai, rfl, hS'⟩ | ⟨hai, rfl, hS'⟩⟩
      · rw [if_neg hai]
        clear hS
        repeat (first | refine Ev.s ?_ | refine Ev.newC fun _ _ _ => ?_ | refine Ev.boxC fun _ _ _ => ?_ | refine Ev.stC fun _ _ => ?_ | refine Ev.sc (by omega) ?_ | refine Ev.scg (by omega) ?_)
        refine Ev.prim (bin_sub64 (by omega)) ?_
        refine (ih B' H' (by omega) hS').mono ?_
        rintro o ⟨B2, H2, hm2, h⟩
        exact ⟨B2, H2, ⟨hm1.mo.trans hm2.mo⟩, h⟩
      · rw [if_pos hai]
        clear hS
        repeat (first | refine Ev.s ?_ | refine Ev.newC fun _ _ _ => ?_ | refine Ev.boxC fun _ _ _ => ?_ | refine Ev.stC fun _ _ => ?_ | refine Ev.sc (by omega) ?_ | refine Ev.scg (by omega) ?_)
        exact Ev.ret ⟨B', H', hm1, .inr ⟨s, rfl, rfl, hS'⟩⟩
theorem Read_spec {p : Value} {D : Dsk} {Ls : List (Nat × Blk)} {i : Int} (hD : DK p D Ls) (hO : D.OK) (hc : D.cache.length < 1000000000000) (hS : St H0 B0 B (Ls ++ L) H) :
    Ev (fun k _ => rn k 9 [p, .int .i64 i] H) (fun r => r.1 = .tuple #[str (D.read i).1, .int .i64 (D.read i).2] ∧ ∃ B', MoC B B' ∧ St H0 B0 B' (Ls ++ L) r.2) := by
  have hD0 := hD
  obtain ⟨n, bytes, cache, fu, dn⟩ := D
  obtain ⟨d, bb, cv, Lc, rfl, hG, rfl⟩ := hD
  have h1 := hO.n1
  have h2 := hO.n2
  have hlen := hO.len
  dsimp only at hS hc hG hD0 h1 h2 hlen
  simp only [List.cons_append] at hS ⊢
  have hcell := hG.cell
  refine Ev.fn (fun k => f9_eq k _ _ H) ?_
  repeat (first | refine Ev.s ?_ | refine Ev.newC fun _ _ _ => ?_ | refine Ev.boxC fun _ _ _ => ?_ | refine Ev.stC fun _ _ => ?_ | refine Ev.sc (by omega) ?_ | refine Ev.scg (by omega) ?_)
  rename_i b1 H1 hS1 b2 H2 hS2 b3 H3 hS3
  unfold Dsk.read
  dsimp only
  cases dn with
  | true =>
    clear hS hS1 hS2
    repeat (first | refine Ev.s ?_ | refine Ev.newC fun _ _ _ => ?_ | refine Ev.boxC fun _ _ _ => ?_ | refine Ev.stC fun _ _ => ?_ | refine Ev.sc (by omega) ?_ | refine Ev.scg (by omega) ?_)
    rename_i H4 hS4 H5 hS5
    exact Ev.ret ⟨rfl, B, ⟨Mo.refl B⟩, drop_3 hS5⟩
  | false =>
    clear hS hS1 hS2
    repeat (first | refine Ev.s ?_ | refine Ev.newC fun _ _ _ => ?_ | refine Ev.boxC fun _ _ _ => ?_ | refine Ev.stC fun _ _ => ?_ | refine Ev.sc (by omega) ?_ | refine Ev.scg (by omega) ?_)
    rw [if_neg (fun h => by cases h)]
    by_cases hi : i < 0
    · rw [decide_eq_true hi, if_pos (.inl hi)]
      repeat (first | refine Ev.s ?_ | refine Ev.newC fun _ _ _ => ?_ | refine Ev.boxC fun _ _ _ => ?_ | refine Ev.stC fun _ _ => ?_ | refine Ev.sc (by omega) ?_ | refine Ev.scg (by omega) ?_)
      rename_i H4 hS4 H5 hS5
      exact Ev.ret ⟨rfl, B, ⟨Mo.refl B⟩, drop_3 hS5⟩
    rw [decide_eq_false hi]
    obtain ⟨q, rfl⟩ : ∃ q : Nat, i = q := ⟨i.toNat, by omega⟩
    repeat (first | refine Ev.s ?_ | refine Ev.newC fun _ _ _ => ?_ | refine Ev.boxC fun _ _ _ => ?_ | refine Ev.stC fun _ _ => ?_ | refine Ev.sc (by omega) ?_ | refine Ev.scg (by omega) ?_)
    refine Ev.b2 (Sectors_spec hD0 hO hS3 ?_) ?_
    · intro x hx
      exact .tail _ (.tail _ (.tail _ (by rw [← List.cons_append, ← List.cons_append]; exact List.mem_append_left _ hx)))
    rintro _ _ ⟨rfl, rfl⟩
    repeat (first | refine Ev.s ?_ | refine Ev.newC fun _ _ _ => ?_ | refine Ev.boxC fun _ _ _ => ?_ | refine Ev.stC fun _ _ => ?_ | refine Ev.sc (by omega) ?_ | refine Ev.scg (by omega) ?_)
    by_cases hq : n ≤ q
    · rw [decide_eq_true hq, if_pos (.inr (by omega))]
      repeat (first | refine Ev.s ?_ | refine Ev.newC fun _ _ _ => ?_ | refine Ev.boxC fun _ _ _ => ?_ | refine Ev.stC fun _ _ => ?_ | refine Ev.sc (by omega) ?_ | refine Ev.scg (by omega) ?_)
      rename_i H4 hS4 H5 hS5
      exact Ev.ret ⟨rfl, B, ⟨Mo.refl B⟩, drop_3 hS5⟩
    rw [decide_eq_false hq, if_neg (by omega)]
    repeat (first | refine Ev.s ?_ | refine Ev.newC fun _ _ _ => ?_ | refine Ev.boxC fun _ _ _ => ?_ | refine Ev.stC fun _ _ => ?_ | refine Ev.sc (by omega) ?_ | refine Ev.scg (by omega) ?_)
    refine Ev.b2 (Q1 := fun r => ∃ bx, r.1 = .func (.func 20) #[] #[ptr bx 0] ∧ St H0 B0 B ((bx, ⟨[cv], 40, .fix⟩) :: (b3, ⟨[.int .i64 0], 26, .fix⟩) :: (b2, ⟨[.string ByteArray.empty], 9, .fix⟩) :: (b1, ⟨[i64 q], 3, .fix⟩) :: (d, ⟨[sl bb 0 (64 * n) (64 * n), cv, .int .i64 fu, .bool false], 42, .fix⟩) :: (bb, ⟨byts bytes, 5, .fix⟩) :: (Lc ++ L)) r.2)
      (Ev.fn (fun k => f17_eq k _ H3) ?_) ?_
    · repeat (first | refine Ev.s ?_ | refine Ev.newC fun _ _ _ => ?_ | refine Ev.boxC fun _ _ _ => ?_ | refine Ev.stC fun _ _ => ?_ | refine Ev.sc (by omega) ?_ | refine Ev.scg (by omega) ?_)
      rename_i bx H4 hS4
      exact Ev.ret ⟨bx, rfl, hS4⟩
    rintro _ H4 ⟨bx, rfl, hS4⟩
    simp only [callV_fn (show 20 < yOff by unfold yOff; omega), List.nil_append, List.cons_append]
    have hS5 := hS4.mkB' (.int .i64 0 :: RdT9 b1 b2 b3) 7 (.loop 9 7)
    clear hS3
    have hS6 := toFront (X := Lc) (La := [(H4.length, ⟨.int .i64 0 :: RdT9 b1 b2 b3, 7, .loop 9 7⟩), (bx, ⟨[cv], 40, .fix⟩), (b3, ⟨[.int .i64 0], 26, .fix⟩), (b2, ⟨[.string ByteArray.empty], 9, .fix⟩), (b1, ⟨[i64 q], 3, .fix⟩), (d, ⟨[sl bb 0 (64 * n) (64 * n), cv, .int .i64 fu, .bool false], 42, .fix⟩), (bb, ⟨byts bytes, 5, .fix⟩)]) (L := L) hS5
    have hS7 := toFront (X := [(H4.length, ⟨.int .i64 0 :: RdT9 b1 b2 b3, 7, .loop 9 7⟩), (bx, ⟨[cv], 40, .fix⟩), (b3, ⟨[.int .i64 0], 26, .fix⟩), (b2, ⟨[.string ByteArray.empty], 9, .fix⟩), (b1, ⟨[i64 q], 3, .fix⟩)]) (La := Lc) (L := [(d, ⟨[sl bb 0 (64 * n) (64 * n), cv, .int .i64 fu, .bool false], 42, .fix⟩), (bb, ⟨byts bytes, 5, .fix⟩)] ++ L) hS6
    simp only [List.cons_append, List.nil_append] at hS7
    clear hS4 hS5 hS6
    have key : Ev (fun k _ => rn k 20 [.func (.yield H4.length) #[] #[], ptr bx 0] (mkB H4 (.int .i64 0 :: RdT9 b1 b2 b3) 7 (.loop 9 7))) (fun r => ∃ B', MoC B B' ∧
        ((find cache q = none ∧ St H0 B0 B' ((H4.length, ⟨.int .i64 (xSt .normal : Nat) :: RdT9 b1 b2 b3, 7, .loop 9 7⟩) :: (bx, ⟨[cv], 40, .fix⟩) :: (b3, ⟨[.int .i64 0], 26, .fix⟩) :: (b2, ⟨[.string ByteArray.empty], 9, .fix⟩) :: (b1, ⟨[i64 q], 3, .fix⟩) :: (Lc ++ ([(d, ⟨[sl bb 0 (64 * n) (64 * n), cv, .int .i64 fu, .bool false], 42, .fix⟩), (bb, ⟨byts bytes, 5, .fix⟩)] ++ L))) r.2) ∨
         ∃ s, find cache q = some s ∧ St H0 B0 B' ((H4.length, ⟨.int .i64 (xSt .ret : Nat) :: RdT9 b1 b2 b3, 7, .loop 9 7⟩) :: (bx, ⟨[cv], 40, .fix⟩) :: (b3, ⟨[.int .i64 0], 26, .fix⟩) :: (b2, ⟨[str s], 9, .fix⟩) :: (b1, ⟨[i64 q], 3, .fix⟩) :: (Lc ++ ([(d, ⟨[sl bb 0 (64 * n) (64 * n), cv, .int .i64 fu, .bool false], 42, .fix⟩), (bb, ⟨byts bytes, 5, .fix⟩)] ++ L))) r.2)) := by
      refine Ev.fn (fun k => f20_eq k _ _ _) ?_
      repeat (first | refine Ev.s ?_ | refine Ev.newC fun _ _ _ => ?_ | refine Ev.boxC fun _ _ _ => ?_ | refine Ev.stC fun _ _ => ?_ | refine Ev.sc (by omega) ?_ | refine Ev.scg (by omega) ?_)
      refine Ev.prim (hG.len (Und.eq (P := Try.prog) (t := 40))) ?_
      refine Ev.prim (bin_sub64 (by omega)) ?_
      refine Ev.bind (Ev.loop (read_loop hG hc cache.length B _ (Nat.le_refl _) hS7)) ?_
      rw [List.take_length]
      rintro _ ⟨B', H', hm, ⟨hf, rfl, hS'⟩ | ⟨s, hf, rfl, hS'⟩⟩
      · refine Ev.eq (fun k _ => f20_A0_x0 k _) ?_
        exact Ev.ret ⟨B', hm, .inl ⟨hf, hS'⟩⟩
      · refine Ev.eq (fun k _ => f20_A0_ret k _) ?_
        exact Ev.ret ⟨B', hm, .inr ⟨s, hf, hS'⟩⟩
    refine Ev.b2 key ?_
    clear hS7
    rintro _ H5 ⟨B', hm, ⟨hf, hS'⟩ | ⟨s, hf, hS'⟩⟩
    · refine Ev.rgBack hS' fun H6 hS6 => ?_
      refine Ev.eq (fun k _ => f9_B0_normal k _ _ _ _ H6) ?_
      clear hS'
      have hS7 := hS6.perm (show ([(bx, _), (b3, _), (b2, _), (b1, _)] ++ ([(d, _), (bb, _)] ++ (Lc ++ L))).Perm _ from List.Perm.append_left _ (permA [(d, _), (bb, _)] Lc L).symm)
      simp only [List.cons_append, List.nil_append] at hS7
      clear hS6
      repeat (first | refine Ev.s ?_ | refine Ev.newC fun _ _ _ => ?_ | refine Ev.boxC fun _ _ _ => ?_ | refine Ev.stC fun _ _ => ?_ | refine Ev.sc (by omega) ?_ | refine Ev.scg (by omega) ?_)
      refine Ev.prim (slc_own2 (t := 30) (by omega)) ?_
      rw [if_neg (by omega)]
      refine Ev.prim (cvS_part (d := 9) (bs := bytes) hS7 (.tail _ (.tail _ (.tail _ (.tail _ (.tail _ (.head _)))))) (by omega) (by omega)) ?_
      repeat (first | refine Ev.s ?_ | refine Ev.newC fun _ _ _ => ?_ | refine Ev.boxC fun _ _ _ => ?_ | refine Ev.stC fun _ _ => ?_ | refine Ev.sc (by omega) ?_ | refine Ev.scg (by omega) ?_)
      rename_i H8 hS8 H9 hS9
      refine Ev.ret ⟨?_, B', hm, hS9.drop1.drop1.drop1.drop1⟩
      unfold Dsk.look Dsk.sector
      dsimp only
      rw [Int.toNat_natCast, hf]
      simp only [Option.getD_none, Nat.mul_comm 64 q, show (q + 1) * 64 - q * 64 = 64 by omega]
      rfl
    · refine Ev.rgBack hS' fun H6 hS6 => ?_
      refine Ev.eq (fun k _ => f9_B0_ret k _ _ _ _ H6) ?_
      clear hS'
      have hS7 := hS6.perm (show ([(bx, _), (b3, _), (b2, _), (b1, _)] ++ ([(d, _), (bb, _)] ++ (Lc ++ L))).Perm _ from List.Perm.append_left _ (permA [(d, _), (bb, _)] Lc L).symm)
      simp only [List.cons_append, List.nil_append] at hS7
      clear hS6
      repeat (first | refine Ev.s ?_ | refine Ev.newC fun _ _ _ => ?_ | refine Ev.boxC fun _ _ _ => ?_ | refine Ev.stC fun _ _ => ?_ | refine Ev.sc (by omega) ?_ | refine Ev.scg (by omega) ?_)
      refine Ev.ret ⟨?_, B', hm, hS7.drop1.drop1.drop1.drop1⟩
      unfold Dsk.look
      dsimp only
      rw [Int.toNat_natCast, hf]
      rfl
end
end Go.AM.K
