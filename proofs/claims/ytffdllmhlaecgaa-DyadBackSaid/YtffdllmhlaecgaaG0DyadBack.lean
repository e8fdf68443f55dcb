/-
  Facts of the abstract evaluator and of the functions that the law reaches, part 0. Conditions: none.
-/
import Derived.Orders
import Derived.Scope
import Derived.Below
import Derived.Laws.MakeOwn
import Derived.Laws.OwnMore
import Derived.Test.YtffdllmhlaecgaaProg
import Derived.KernelRfl
set_option linter.unusedVariables false
set_option linter.unusedSimpArgs false
set_option linter.unnecessarySimpa false
set_option exponentiation.threshold 200000
set_option maxRecDepth 100000
namespace Go.AM

/-- What is not known (a slot that nobody reads any more): no operation takes it. -/
def unk : Value := .chan (some 0)
def isCell : Value → Bool
  | .agg _ => false
  | .tuple _ => false
  | .chan _ => false
  | _ => true
def flat1 : Value → Bool
  | .bool _ => true
  | .int _ _ => true
  | .string _ => true
  | .float _ _ => true
  | .pointer none => true
  | .slice none 0 0 => true
  | .map none => true
  | .nilFunc => true
  | .nilIface => true
  | _ => false
def flat : Value → Bool
  | .agg cs => cs.toList.all flat1
  | v => flat1 v
def okCells : Value → Bool
  | .agg cs => cs.toList.all isCell
  | v => isCell v

inductive BK where
  | ro | fix | grow
  deriving DecidableEq
structure Blk where
  cells : List Value
  elem : TypeId
  kind : BK
abbrev AH := List (Option Blk)
def blk (H : AH) (b : Nat) : Option Blk := (H[b]?).bind id
def put (H : AH) (b : Nat) (k : Blk) (cs : List Value) : AH := H.set b (some ⟨cs, k.elem, k.kind⟩)
def kill (H : AH) (b : Nat) : AH := H.set b none
def mkB (H : AH) (cs : List Value) (e : TypeId) (kd : BK) : AH := H ++ [some ⟨cs, e, kd⟩]
def ptr (b off : Nat) : Value := .pointer (some ⟨b, off, none⟩)
def sl (b off len cap : Nat) : Value := .slice (some ⟨b, off, none⟩) len cap

def spl (xs : List Value) (off : Nat) (ys : List Value) : List Value := xs.take off ++ (ys ++ xs.drop (off + ys.length))
def rdN (k : Blk) (off n : Nat) : Option (List Value) := if off + n ≤ k.cells.length then some ((k.cells.drop off).take n) else none

def aggT (P : Program) (t : TypeId) : Option Bool :=
  match P.underlying t with
  | some (.struct _) => some true
  | some (.array _ _) => some true
  | some _ => some false
  | none => none
def szT (P : Program) (t : TypeId) : Nat := P.cellsOf t
def byT (P : Program) (t : TypeId) : Nat := P.bytesOf t
def zeroT (P : Program) (t : TypeId) : Option Value := (P.info? t).bind fun i => i.zero.bind fun z => if flat z then some z else none

def ldC (H : AH) (a : Value) : Option Value :=
  match a with
  | .pointer (some ⟨b, off, none⟩) => (blk H b).bind fun k => k.cells[off]?
  | _ => none
def ldA (n : Nat) (H : AH) (a : Value) : Option Value :=
  match a with
  | .pointer (some ⟨b, off, none⟩) => (blk H b).bind fun k => (rdN k off n).map fun cs => .agg cs.toArray
  | _ => none
def ld (P : Program) (t : TypeId) (H : AH) (a : Value) : Option Value :=
  match aggT P t with
  | some true => ldA (szT P t) H a
  | some false => ldC H a
  | none => none
def stC (H : AH) (a v : Value) : Option AH :=
  match a with
  | .pointer (some ⟨b, off, none⟩) => (blk H b).bind fun k => if k.kind ≠ .ro ∧ off < k.cells.length ∧ isCell v = true then some (put H b k (k.cells.set off v)) else none
  | _ => none
def stA (n : Nat) (H : AH) (a v : Value) : Option AH :=
  match a, v with
  | .pointer (some ⟨b, off, none⟩), .agg cs => (blk H b).bind fun k => if k.kind ≠ .ro ∧ off + n ≤ k.cells.length ∧ cs.size = n ∧ cs.toList.all isCell = true then some (put H b k (spl k.cells off cs.toList)) else none
  | _, _ => none
def st (P : Program) (t : TypeId) (H : AH) (a v : Value) : Option AH :=
  match aggT P t with
  | some true => stA (szT P t) H a v
  | some false => if szT P t = 1 then stC H a v else none
  | none => none
def box (t : TypeId) (H : AH) (v : Value) : Option (Value × AH) :=
  if okCells v = true then some (ptr H.length 0, mkB H v.cells.toList t .fix) else none
def newV (P : Program) (t : TypeId) (H : AH) : Option (Value × AH) := (zeroT P t).bind fun z => box t H z
def rep (z : List Value) : Nat → List Value
  | 0 => []
  | n + 1 => z ++ rep z n
def mkS (P : Program) (t : TypeId) (H : AH) (l c : Value) : Option (Value × AH) :=
  match P.underlying t, l, c with
  | some (.slice e), .int _ n, .int _ m =>
    (zeroT P e).bind fun z =>
      if 0 ≤ n ∧ n ≤ m ∧ m * byT P e ≤ 281474976710656 ∧ m ≤ 9223372036854775807 ∧ z.cells.size = szT P e ∧ okCells z = true then some (sl H.length 0 n.toNat m.toNat, mkB H (rep z.cells.toList m.toNat) e .fix) else none
  | _, _, _ => none

def fldA (P : Program) (s : TypeId) (a : Value) (i : Nat) : Option Value :=
  match P.underlying s, a with
  | some (.struct fs), .pointer (some ⟨b, off, none⟩) => (fs[i]?).bind fun f => if szT P f.type = 0 then none else some (ptr b (off + f.offset))
  | _, _ => none
def prt (P : Program) (t : TypeId) (cs : List Value) (off : Nat) : Option Value :=
  match aggT P t with
  | some true => some (.agg ((cs.drop off).take (szT P t)).toArray)
  | some false => cs[off]?
  | none => none
def fld (P : Program) (s : TypeId) (x : Value) (i : Nat) : Option Value :=
  match P.underlying s, x with
  | some (.struct fs), .agg cs => (fs[i]?).bind fun f => prt P f.type cs.toList f.offset
  | _, _ => none
def ixA (P : Program) (t : TypeId) (x i : Value) : Option Value :=
  match P.underlying t, x, i with
  | some (.slice e), .slice (some ⟨b, off, none⟩) len _, .int _ n => if (P.info? e).isSome = true ∧ 0 ≤ n ∧ n < len then some (ptr b (off + n.toNat * szT P e)) else none
  | some (.array len e), .pointer (some ⟨b, off, none⟩), .int _ n => if (P.info? e).isSome = true ∧ 0 ≤ n ∧ n < len then some (ptr b (off + n.toNat * szT P e)) else none
  | _, _, _ => none
def ix (P : Program) (t : TypeId) (x i : Value) : Option Value :=
  match P.underlying t, x, i with
  | some .string, .string s, .int _ n => if 0 ≤ n ∧ n < s.size then some (.int .u8 (s.data[n.toNat]?.getD 0).toNat) else none
  | some (.array len e), .agg cs, .int _ n => if (P.info? e).isSome = true ∧ 0 ≤ n ∧ n < len then prt P e cs.toList (n.toNat * szT P e) else none
  | _, _, _ => none
def intOr (v : Option Value) (d : Nat) : Option Int :=
  match v with
  | none => some d
  | some (.int _ n) => some n
  | some _ => none
def slc (P : Program) (t : TypeId) (x : Value) (lo hi : Option Value) : Option Value :=
  match P.underlying t, x with
  | some .string, .string s =>
    (intOr lo 0).bind fun l => (intOr hi s.size).bind fun h => if 0 ≤ l ∧ l ≤ h ∧ h ≤ s.size then some (.string (s.extract l.toNat h.toNat)) else none
  | some (.slice e), .slice (some ⟨b, off, none⟩) len cap =>
    (intOr lo 0).bind fun l => (intOr hi len).bind fun h => if (P.info? e).isSome = true ∧ 0 ≤ l ∧ l ≤ h ∧ h ≤ len then some (sl b (if cap = l.toNat then off else off + l.toNat * szT P e) (h.toNat - l.toNat) (cap - l.toNat)) else none
  | some (.slice e), .slice none 0 0 =>
    (intOr lo 0).bind fun l => (intOr hi 0).bind fun h => if (P.info? e).isSome = true ∧ l = 0 ∧ h = 0 then some (.slice none 0 0) else none
  | _, _ => none
/-- 's[:0:0]': no room behind it. -/
def slc3 (P : Program) (t : TypeId) (x : Value) (lo hi : Option Value) (mx : Value) : Option Value :=
  match P.underlying t, x, intOr lo 0, hi, mx with
  | some (.slice e), .slice (some ⟨b, off, none⟩) _ _, some 0, some (.int _ 0), .int _ 0 => if (P.info? e).isSome = true then some (sl b off 0 0) else none
  | some (.slice e), .slice none 0 0, some 0, some (.int _ 0), .int _ 0 => if (P.info? e).isSome = true then some (.slice none 0 0) else none
  | _, _, _, _, _ => none
def fillB (sizes : Nat → Option (Nat × Nat)) : List Value → List (Nat × Value) → Option (List Value)
  | cs, [] => some cs
  | cs, (i, v) :: r =>
    match sizes i with
    | none => none
    | some (off, n) => if v.cells.size = n ∧ off + n ≤ cs.length ∧ okCells v = true then fillB sizes (spl cs off v.cells.toList) r else none
def build (P : Program) (t : TypeId) (parts : List (Nat × Value)) : Option Value :=
  (zeroT P t).bind fun z =>
    match P.underlying t with
    | some (.struct fs) => if fs.toList.all (fun f => (P.info? f.type).isSome) = false then none else (fillB (fun i => (fs[i]?).map fun f => (f.offset, szT P f.type)) z.cells.toList parts).map fun cs => .agg cs.toArray
    | some (.array _ e) => if (P.info? e).isSome = false then none else (fillB (fun i => some (i * szT P e, szT P e)) z.cells.toList parts).map fun cs => .agg cs.toArray
    | _ => none
def buildS (P : Program) (t : TypeId) (H : AH) (len : Nat) (parts : List (Nat × Value)) : Option (Value × AH) :=
  match P.underlying t with
  | some (.slice e) =>
    (zeroT P e).bind fun z =>
      if len * szT P e ≤ 16777216 ∧ z.cells.size = szT P e then
        (fillB (fun i => some (i * szT P e, szT P e)) (rep z.cells.toList len) parts).map fun cs => (sl H.length 0 len len, mkB H cs e .fix)
      else none
  | _ => none

/-- What an operation tells that neither reads memory nor asks the tape. -/
def still (P : Program) {α : Type} : Sem α → Option α
  | .pure a => some a
  | .program k => still P (k P)
  | _ => none
def isNilI : Value → Bool
  | .nilIface => true
  | _ => false
/-- Against nil. -/
def nilEq : TypeDesc → Value → Value → Option Bool
  | .pointer _, .pointer (some _), .pointer none => some false
  | .pointer _, .pointer none, .pointer (some _) => some false
  | .slice _, .slice (some _) _ _, .slice none 0 0 => some false
  | .slice _, .slice none 0 0, .slice (some _) _ _ => some false
  | .func _ _ _, .func _ _ _, .nilFunc => some false
  | .func _ _ _, .nilFunc, .func _ _ _ => some false
  | _, _, _ => none
def bin (P : Program) (op : BinOp) (t : TypeId) (x y : Value) : Option Value :=
  if flat1 x = true ∧ flat1 y = true ∧ isNilI x = false then (still P (binOp op t x y)).bind fun v => if flat1 v = true then some v else none
  else match op with
    | .eql => (P.underlying t).bind fun D => (nilEq D x y).map fun b => .bool b
    | .neq => (P.underlying t).bind fun D => (nilEq D x y).map fun b => .bool !b
    | _ => none
def un (P : Program) (op : UnOp) (x : Value) : Option Value :=
  if flat1 x = true then (still P (Op.unary op x)).bind fun v => if flat1 v = true then some v else none else none
def bytesOf : List Value → Option (List UInt8)
  | [] => some []
  | .int .u8 n :: r => (bytesOf r).map fun l => UInt8.ofNat n.toNat :: l
  | _ :: _ => none
def cellsOfBytes (s : ByteArray) : List Value := s.data.toList.map fun b => .int .u8 b.toNat
def sliceCells (sz : Nat) (H : AH) (x : Value) (n : Nat) : Option (List Value) :=
  match x with
  | .slice none 0 0 => if n = 0 then some [] else none
  | .slice (some ⟨b, off, none⟩) len _ => if n = 0 then some [] else if n ≤ len then (blk H b).bind fun k => rdN k off (n * sz) else none
  | .string s => if n ≤ s.size then some ((cellsOfBytes s).take n) else none
  | _ => none
/-- Conversions that read no memory and make none. -/
def cv (P : Program) (src dst : TypeId) (x : Value) : Option Value :=
  match P.underlying src, P.underlying dst, x with
  | some _, some (.int k), .int _ n => some (.int k (k.wrap n))
  | some _, some .string, .string s => some (.string s)
  | _, _, _ => none
/-- A slice of bytes as a string. -/
def cvS (P : Program) (src dst : TypeId) (H : AH) (x : Value) : Option Value :=
  match P.underlying src, P.underlying dst, x with
  | some (.slice e), some .string, .slice a len cap =>
    match P.underlying e with
    | some (.int .u8) => (sliceCells 1 H (.slice a len cap) len).bind fun cs => (bytesOf cs).map fun l => .string ⟨l.toArray⟩
    | _ => none
  | _, _, _ => none
def isBytesToString (P : Program) (src dst : TypeId) : Bool :=
  match P.underlying src, P.underlying dst with
  | some (.slice _), some .string => true
  | _, _ => false

def lenOf : Value → Option Nat
  | .slice none 0 0 => some 0
  | .slice (some _) n _ => some n
  | .string s => some s.size
  | _ => none
def isNotStr : Value → Bool
  | .string _ => false
  | _ => true
def apS (sz bytes : Nat) (e : TypeId) (H : AH) (s : Value) (n : Nat) (news : List Value) : Option (Value × AH) :=
  match s with
  | .slice none 0 0 => if n = 0 then some (.slice none 0 0, H) else if n * bytes ≤ 140737488355328 ∧ n ≤ 9223372036854775807 then some (sl H.length 0 n (n + 1), mkB H news e .grow) else none
  | .slice (some ⟨b, off, none⟩) len cap =>
    if n = 0 then some (sl b off len cap, H)
    else if cap = 0 then (if n * bytes ≤ 140737488355328 ∧ n ≤ 9223372036854775807 then some (sl H.length 0 n (n + 1), mkB H news e .grow) else none)
    else (blk H b).bind fun k => (rdN k off (len * sz)).bind fun old =>
      if (len + n) * bytes ≤ 140737488355328 ∧ len + n ≤ 9223372036854775807 ∧ k.elem = e then
        match k.kind with
        | .ro => none
        | .fix =>
          if len + n ≤ cap then (if off + (len + n) * sz ≤ k.cells.length then some (sl b off (len + n) cap, put H b k (spl k.cells (off + len * sz) news)) else none)
          else some (sl H.length 0 (len + n) (len + n + 1), mkB H (old ++ news) e .grow)
        | .grow => if off = 0 then some (sl H.length 0 (len + n) (len + n + 1), mkB (kill H b) (old ++ news) e .grow) else none
      else none
  | _ => none
def ap (P : Program) (t u : TypeId) (H : AH) (s x : Value) : Option (Value × AH) :=
  match P.underlying t, P.underlying u with
  | some (.slice e), some (.slice _) => (zeroT P e).bind fun z => if 0 < szT P e ∧ z.cells.size = szT P e ∧ isNotStr x = true then (lenOf x).bind fun n => (sliceCells (szT P e) H x n).bind fun news => if news.all isCell = true then apS (szT P e) (byT P e) e H s n news else none else none
  | some (.slice e), some .string => (zeroT P e).bind fun z => if szT P e = 1 ∧ z.cells.size = szT P e then (lenOf x).bind fun n => (sliceCells (szT P e) H x n).bind fun news => if news.all isCell = true then apS (szT P e) (byT P e) e H s n news else none else none
  | _, _ => none
def cpy (P : Program) (t : TypeId) (H : AH) (d x : Value) : Option (Value × AH) :=
  match P.underlying t, d with
  | some (.slice e), .slice (some ⟨b, off, none⟩) len _ =>
    if (P.info? e).isSome = false then none else (lenOf x).bind fun n => (sliceCells (szT P e) H x (min n len)).bind fun cs =>
      if min n len = 0 then some (.int .i64 0, H)
      else (blk H b).bind fun k => if k.kind ≠ .ro ∧ off + cs.length ≤ k.cells.length ∧ cs.all isCell = true then some (.int .i64 (min n len : Nat), put H b k (spl k.cells off cs)) else none
  | some (.slice e), .slice none 0 0 => if (P.info? e).isSome = false then none else (lenOf x).bind fun _ => some (.int .i64 0, H)
  | _, _ => none
def lenV (P : Program) (t : TypeId) (x : Value) : Option Value :=
  match P.underlying t, x with
  | some .string, .string s => some (.int .i64 s.size)
  | some (.slice _), .slice _ n _ => some (.int .i64 n)
  | some (.array n _), _ => some (.int .i64 n)
  | _, _ => none
def minV (x y : Value) : Option Value :=
  match x, y with
  | .int k a, .int _ b => some (.int k (if b < a then b else a))
  | _, _ => none
def maxV (x y : Value) : Option Value :=
  match x, y with
  | .int k a, .int _ b => some (.int k (if b > a then b else a))
  | _, _ => none

def b2 {R : Type} (x : Option (Value × AH)) (f : Value → AH → Option R) : Option R := x.bind fun p => f p.1 p.2
abbrev CallF := FuncId → List Value → AH → Option (Value × AH)
def callV (call : CallF) (f : Value) (args : List Value) (H : AH) : Option (Value × AH) :=
  match f with
  | .func (.func g) first captured => call g (first.toList ++ (args ++ captured.toList)) H
  | _ => none
def aIf {R : Type} (v : Value) (x y : Option R) : Option R :=
  match v with
  | .bool true => x
  | .bool false => y
  | _ => none
/-- A guarded operation: done, or passed over. -/
def gOp (u : Value) (want : Bool) (x : Option (Value × AH)) (H : AH) : Option (Value × AH) :=
  match u with
  | .bool b => if b = want then x else some (undef, H)
  | .tuple vs => bif vs.size == 0 then some (undef, H) else none
  | _ => none
def pickV (c x y : Value) : Option Value :=
  match c with
  | .bool true => some x
  | .bool false => some y
  | _ => none
def ext (v : Value) (i : Nat) : Option Value :=
  match v with
  | .tuple vs => vs[i]?
  | _ => none
def nilChk (v : Value) : Option Value :=
  match v with
  | .pointer (some a) => some (.pointer (some a))
  | .func (.func f) a b => some (.func (.func f) a b)
  | _ => none
def opv (T : List Value) : Operand → Value
  | .tmp t => T.getD t undef
  | .const v => if flat v = true then v else unk
  | .global _ => unk
  | .func f => .func (.func f) #[] #[]
def fold1 (f : Value → Value → Option Value) : List Value → Option Value
  | [] => none
  | x :: r => go x r
where go : Value → List Value → Option Value
  | x, [] => some x
  | x, y :: r => (f x y).bind fun z => go z r

section
variable {R : Type} (P : Program) (call : CallF)
def aCall (ρ : Operand → Value) (c : Call) (H : AH) (K : Value → AH → Option R) : Option R :=
  match c.callee with
  | .value f => (callV call (ρ f) (c.args.toList.map ρ) H).bind fun p => K p.1 p.2
  | .builtin .append =>
    match c.argTypes.toList, c.args.toList with
    | [t, u], [s, x] => (ap P t u H (ρ s) (ρ x)).bind fun p => K p.1 p.2
    | _, _ => none
  | .builtin .copy =>
    match c.argTypes.toList, c.args.toList with
    | [t, _], [s, x] => (cpy P t H (ρ s) (ρ x)).bind fun p => K p.1 p.2
    | _, _ => none
  | .builtin .len =>
    match c.argTypes.toList, c.args.toList with
    | [t], [x] => (lenV P t (ρ x)).bind fun v => K v H
    | _, _ => none
  | .builtin .min => (fold1 minV (c.args.toList.map ρ)).bind fun v => K v H
  | .builtin .max => (fold1 maxV (c.args.toList.map ρ)).bind fun v => K v H
  | _ => none
def aOp (ρ : Operand → Value) (o : Op) (H : AH) (K : Value → AH → Option R) : Option R :=
  match o with
  | .move x => K (ρ x) H
  | .assign x => K (ρ x) H
  | .pick c a b => (pickV (ρ c) (ρ a) (ρ b)).bind fun v => K v H
  | .alloc t => (newV P t H).bind fun p => K p.1 p.2
  | .box t x => (box t H (ρ x)).bind fun p => K p.1 p.2
  | .build t ps => (build P t (ps.toList.map fun p => (p.1, ρ p.2))).bind fun v => K v H
  | .buildSlice t n ps => (buildS P t H n (ps.toList.map fun p => (p.1, ρ p.2))).bind fun p => K p.1 p.2
  | .load t a => (ld P t H (ρ a)).bind fun v => K v H
  | .store t a x => (st P t H (ρ a) (ρ x)).bind fun H' => K undef H'
  | .nilCheck x => (nilChk (ρ x)).bind fun v => K v H
  | .binOp op t x y _ => (bin P op t (ρ x) (ρ y)).bind fun v => K v H
  | .unOp op _ x => (un P op (ρ x)).bind fun v => K v H
  | .convert s d x => bif isBytesToString P s d then (cvS P s d H (ρ x)).bind fun v => K v H else (cv P s d (ρ x)).bind fun v => K v H
  | .makeFunc (.func f) first captured => K (.func (.func f) (first.toList.map ρ).toArray (captured.toList.map ρ).toArray) H
  | .makeSlice t l c => (mkS P t H (ρ l) (ρ c)).bind fun p => K p.1 p.2
  | .slice t x lo hi none => (slc P t (ρ x) (lo.map ρ) (hi.map ρ)).bind fun v => K v H
  | .slice t x lo hi (some mx) => (slc3 P t (ρ x) (lo.map ρ) (hi.map ρ) (ρ mx)).bind fun v => K v H
  | .fieldAddr s x i => (fldA P s (ρ x) i).bind fun v => K v H
  | .field s x i => (fld P s (ρ x) i).bind fun v => K v H
  | .indexAddr t x i => (ixA P t (ρ x) (ρ i)).bind fun v => K v H
  | .index t x i => (ix P t (ρ x) (ρ i)).bind fun v => K v H
  | .extract t i => (ext (ρ t) i).bind fun v => K v H
  | .call c => aCall P call ρ c H K
  | _ => none
def putT (T : List Value) (d : Option Tmp) (v : Value) : List Value :=
  match d with
  | some d => T.set d v
  | none => T
def yieldV (ops : Array Oper) (T : List Value) (j : Nat) : Value :=
  match (ops[j]?).bind (·.dst) with
  | some d => T.getD d undef
  | none => undef

def aRes (ρ : Operand → Value) (op : Op) (H : AH) : Option (Value × AH) := aOp P call ρ op H fun v H' => some (v, H')
def evOps (ops : Array Oper) : List Oper → List Value → AH → (List Value → AH → Option R) → Option R
  | [], T, H, K => K T H
  | o :: r, T, H, K =>
    match o.guard with
    | none => aOp P call (opv T) o.op H fun v H' => evOps ops r (putT T o.dst v) H' K
    | some (j, want) => (gOp (yieldV ops T j) want (aRes P call (opv T) o.op H) H).bind fun p => evOps ops r (putT T o.dst p.1) p.2 K

open Classical in
noncomputable def aChk {R : Type} (p : Prop) (x : Option R) : Option R := if p then x else none
def isAlloc : Op → Bool
  | .alloc _ => true
  | .box _ _ => true
  | .buildSlice _ _ _ => true
  | .makeSlice _ _ _ => true
  | _ => false
def isEff : Op → Bool
  | .store _ _ _ => true
  | .call { callee := .builtin .len, .. } => false
  | .call { callee := .builtin .min, .. } => false
  | .call { callee := .builtin .max, .. } => false
  | .call _ => true
  | _ => false
def opRead (ρ : Operand → Value) : Op → Option (AH → Option Value)
  | .load t a => some fun H => ld P t H (ρ a)
  | .convert s d x => bif isBytesToString P s d then some fun H => cvS P s d H (ρ x) else none
  | _ => none
/-- What comes ahead of each operation, as bits. -/
def maskOf (acc : List Nat) (o : Oper) : Nat := o.after.toList.foldl (fun s e => bif Region.binds .any e then s ||| (2 ^ e.on ||| acc.getD e.on 0) else s) 0
def befL (acc : List Nat) : List Oper → List Nat
  | [] => acc
  | o :: r => befL (acc ++ [maskOf acc o]) r
def ordB (bs : List Nat) (i j : Nat) : Bool := (bs.getD j 0).testBit i
def edgesOK (ops : Array Oper) : Bool := (List.range ops.size).all fun j => (ops[j]?).any fun o => o.after.all fun e => !Region.binds .any e || decide (e.on < j)
def regOK (ops : Array Oper) : Bool :=
  edgesOK ops &&
  (List.range ops.size).all fun j => (List.range j).all fun i =>
    ordB (befL [] ops.toList) i j || ((ops[i]?).any fun oi => (ops[j]?).any fun oj => !(isEff oi.op && isEff oj.op) && oi.apart ops oj && oj.apart ops oi)
structure Rd where
  at_ : Nat
  ok : AH → Prop
noncomputable def chkReads (bs : List Nat) (j : Nat) (H : AH) (x : Option R) : List Rd → Option R
  | [] => x
  | r :: rs => bif ordB bs r.at_ j then chkReads bs j H x rs else aChk (r.ok H) (chkReads bs j H x rs)
noncomputable def chkPast (bs : List Nat) (j : Nat) (ok : AH → Prop) (x : Option R) : List (Nat × AH) → Option R
  | [] => x
  | p :: ps => bif ordB bs p.1 j then chkPast bs j ok x ps else aChk (ok p.2) (chkPast bs j ok x ps)
noncomputable def evD (ops : Array Oper) (bs : List Nat) : List Oper → Nat → List Value → AH → List (Nat × AH) → List Rd → (List Value → AH → Option R) → Option R
  | [], _, T, H, _, _, K => K T H
  | o :: r, j, T, H, past, reads, K =>
    match o.guard with
    | none =>
      match opRead P (opv T) o.op with
      | some f => (f H).bind fun v => chkPast bs j (fun X => f X = some v) (evD ops bs r (j + 1) (putT T o.dst v) H past (⟨j, fun X => f X = some v⟩ :: reads) K) past
      | none => aOp P call (opv T) o.op H fun v H' =>
        bif isEff o.op then chkReads bs j H' (evD ops bs r (j + 1) (putT T o.dst v) H' ((j, H) :: past) reads K) reads
        else bif isAlloc o.op then evD ops bs r (j + 1) (putT T o.dst v) H' past (⟨j, fun X => blk X H.length = blk H' H.length⟩ :: reads) K
        else evD ops bs r (j + 1) (putT T o.dst v) H' past reads K
    | some (g, want) =>
      match opRead P (opv T) o.op with
      | some f => (gOp (yieldV ops T g) want ((f H).bind fun v => some (v, H)) H).bind fun p => chkPast bs j (fun X => yieldV ops T g = .bool want → f X = some p.1) (evD ops bs r (j + 1) (putT T o.dst p.1) H past (⟨j, fun X => yieldV ops T g = .bool want → f X = some p.1⟩ :: reads) K) past
      | none => (gOp (yieldV ops T g) want (aRes P call (opv T) o.op H) H).bind fun p =>
        bif isEff o.op then chkReads bs j p.2 (evD ops bs r (j + 1) (putT T o.dst p.1) p.2 ((j, H) :: past) reads K) reads
        else bif isAlloc o.op then evD ops bs r (j + 1) (putT T o.dst p.1) p.2 past (⟨j, fun X => yieldV ops T g = .bool want → blk X H.length = blk p.2 H.length⟩ :: reads) K
        else evD ops bs r (j + 1) (putT T o.dst p.1) p.2 past reads K
end

inductive EX where
  | normal
  | exit (id : Nat)
  | ret
abbrev Out := EX × List Value × AH
def firstId : Code → Nat
  | .region id _ _ => id
  | .seq a _ => firstId a
  | .block _ b => firstId b
  | .loop b => firstId b
  | .scope b => firstId b
  | _ => 0
abbrev Tbl := List (Nat × List Nat)
def keepOf : Tbl → Nat → Option (List Nat)
  | [], _ => none
  | (k, l) :: r, j => bif k == j then some l else keepOf r j
def maskT (keep : List Nat) : Nat → List Value → List Value
  | _, [] => []
  | i, v :: r => (bif keep.contains i then v else unk) :: maskT keep (i + 1) r
def cutT (tb : Tbl) (key : Nat) (T : List Value) : List Value :=
  match keepOf tb key with
  | some l => maskT l 0 T
  | none => T
/-- The rounds of a loop. -/
def loopK (next : List Value → AH → Option Out) (c1 c2 : List Value → List Value) (e : EX) (T : List Value) (H : AH) : Option Out :=
  match e with
  | .normal => next (c1 T) H
  | e => some (e, c2 T, H)
def iterD (step : List Value → AH → (EX → List Value → AH → Option Out) → Option Out) (c1 c2 : List Value → List Value) : Nat → List Value → AH → Option Out
  | 0, _, _ => none
  | n + 1, T, H => step T H (loopK (iterD step c1 c2 n) c1 c2)
def kSeq {R : Type} (f : List Value → AH → Option R) (K : EX → List Value → AH → Option R) (e : EX) (T : List Value) (H : AH) : Option R :=
  match e with
  | .normal => f T H
  | e => K e T H
def kBlock {R : Type} (id : Nat) (K : EX → List Value → AH → Option R) (e : EX) (T : List Value) (H : AH) : Option R :=
  match e with
  | .exit i => bif i == id then K .normal T H else K (.exit i) T H
  | e => K e T H

noncomputable section
variable (P : Program) (call : CallF) (n : Nat) (tb : Tbl)
def evalK : Code → {R : Type} → List Value → AH → (EX → List Value → AH → Option R) → Option R
  | .skip, _, T, H, K => K .normal T H
  | .label _, _, T, H, K => K .normal T H
  | .region _ ops draw, _, T, H, K =>
    bif draw then (bif regOK ops then evD P call ops (befL [] ops.toList) ops.toList 0 T H [] [] fun T H => K .normal T H else none)
    else evOps P call ops ops.toList T H fun T H => K .normal T H
  | .seq a b, _, T, H, K => evalK a T H (kSeq (fun T' H' => evalK b (cutT tb (3 * firstId b) T') H' K) K)
  | .cond c x y, _, T, H, K => aIf (opv T c) (evalK x T H K) (evalK y T H K)
  | .block id b, _, T, H, K => evalK b T H (kBlock id K)
  | .loop b, _, T, H, K => (iterD (fun T H K => evalK b T H K) (cutT tb (3 * firstId b + 1)) (cutT tb (3 * firstId b + 2)) n (cutT tb (3 * firstId b + 1) T) H).bind fun p => K p.1 p.2.1 p.2.2
  | .exit id, _, T, H, K => K (.exit id) T H
  | .scope b, _, T, H, K => evalK b T H K
  | .ret, _, T, H, K => K .ret T H
  | _, _, _, _, _ => none
/-- What is left of a code behind one of its parts. -/
def resume {R : Type} : Code → List Nat → EX → List Value → AH → (EX → List Value → AH → Option R) → Option R
  | .seq a b, 0 :: p, e, T, H, K => resume a p e T H (kSeq (fun T' H' => evalK P call n tb b (cutT tb (3 * firstId b) T') H' K) K)
  | .seq _ b, 1 :: p, e, T, H, K => resume b p e T H K
  | .cond _ x _, 1 :: p, e, T, H, K => resume x p e T H K
  | .cond _ _ y, 2 :: p, e, T, H, K => resume y p e T H K
  | .block id b, 0 :: p, e, T, H, K => resume b p e T H (kBlock id K)
  | .scope b, 0 :: p, e, T, H, K => resume b p e T H K
  | _, _, e, T, H, K => K e T H
/-- The part of a code at a place. -/
def codeAt : Code → List Nat → Code
  | .seq a _, 0 :: p => codeAt a p
  | .seq _ b, 1 :: p => codeAt b p
  | .cond _ x _, 1 :: p => codeAt x p
  | .cond _ _ y, 2 :: p => codeAt y p
  | .block _ b, 0 :: p => codeAt b p
  | .scope b, 0 :: p => codeAt b p
  | .loop b, 0 :: p => codeAt b p
  | c, _ => c
def resOne (T : List Value) (H : AH) : ResultVar → Option Value
  | .tmp t => some (T.getD t undef)
  | .cell a t => ld P t H (T.getD a undef)
def resAll (T : List Value) (H : AH) : List ResultVar → Option (List Value)
  | [] => some []
  | r :: rs => (resOne P T H r).bind fun v => (resAll T H rs).bind fun vs => some (v :: vs)
def oneOf : List Value → Value
  | [v] => v
  | vs => .tuple vs.toArray
def resK (rs : List ResultVar) (e : EX) (T : List Value) (H : AH) : Option (Value × AH) :=
  match e with
  | .exit _ => none
  | _ => (resAll P T H rs).bind fun vs => some (oneOf vs, H)
def bodyOf (f : Func) : Code := f.body.getD .skip
def args0 (f : Func) (args : List Value) : List Value := args ++ List.replicate (f.ntmps - args.length) undef
def runFn (f : Func) (args : List Value) (H : AH) : Option (Value × AH) :=
  bif f.body.isSome && f.name != "runtime.NumGoroutine" then evalK P call n tb (bodyOf f) (args0 f args) H (resK P f.results.toList) else none
end
/-- Functions whose contract is given from elsewhere. -/
abbrev Given := FuncId → Option (List Value → AH → Option (Value × AH))
noncomputable def run (P : Program) (tbs : FuncId → Tbl) (gv : Given) : Nat → FuncId → List Value → AH → Option (Value × AH)
  | 0, _, _, _ => none
  | k + 1, f, args, H =>
    match gv f with
    | some g => g args H
    | none => (P.funcs[f]?).bind fun fn => runFn P (run P tbs gv k) k (tbs f) fn args H
end Go.AM
set_option linter.unusedVariables false
set_option maxRecDepth 100000
namespace Go.AM.Y
open Go Go.AM Go.Proofs
noncomputable section
@[irreducible] def long0 : ByteArray := ⟨#[0, 1, 2, 2, 3, 3, 3, 3, 4, 4, 4, 4, 4, 4, 4, 4, 5, 5, 5, 5, 5, 5, 5, 5, 5, 5, 5, 5, 5, 5, 5, 5, 6, 6, 6, 6, 6, 6, 6, 6, 6, 6, 6, 6, 6, 6, 6, 6, 6, 6, 6, 6, 6, 6, 6, 6, 6, 6, 6, 6, 6, 6, 6, 6, 7, 7, 7, 7, 7, 7, 7, 7, 7, 7, 7, 7, 7, 7, 7, 7, 7, 7, 7, 7, 7, 7, 7, 7, 7, 7, 7, 7, 7, 7, 7, 7, 7, 7, 7, 7, 7, 7, 7, 7, 7, 7, 7, 7, 7, 7, 7, 7, 7, 7, 7, 7, 7, 7, 7, 7, 7, 7, 7, 7, 7, 7, 7, 7, 8, 8, 8, 8, 8, 8, 8, 8, 8, 8, 8, 8, 8, 8, 8, 8, 8, 8, 8, 8, 8, 8, 8, 8, 8, 8, 8, 8, 8, 8, 8, 8, 8, 8, 8, 8, 8, 8, 8, 8, 8, 8, 8, 8, 8, 8, 8, 8, 8, 8, 8, 8, 8, 8, 8, 8, 8, 8, 8, 8, 8, 8, 8, 8, 8, 8, 8, 8, 8, 8, 8, 8, 8, 8, 8, 8, 8, 8, 8, 8, 8, 8, 8, 8, 8, 8, 8, 8, 8, 8, 8, 8, 8, 8, 8, 8, 8, 8, 8, 8, 8, 8, 8, 8, 8, 8, 8, 8, 8, 8, 8, 8, 8, 8, 8, 8, 8, 8, 8, 8, 8, 8, 8, 8, 8, 8, 8, 8]⟩
def tbs : FuncId → Tbl
  | 10 => [(27, [3, 9, 10, 11, 12])]
  | 11 => [(21, [1, 5, 6])]
  | 12 => [(45, [7, 8, 10, 11, 12, 13, 14, 15, 16, 17])]
  | 16 => [(12, [1, 2, 3])]
  | 17 => [(9, [0])]
  | 18 => [(12, [6, 8])]
  | 22 => [(21, [8, 10])]
  | 24 => [(21, [6, 8])]
  | 25 => [(33, [1, 2, 3, 6, 9])]
  | 27 => [(12, [4, 6])]
  | 29 => [(12, [4, 6])]
  | 31 => [(12, [4, 6])]
  | 33 => [(12, [4, 6])]
  | 50 => [(25, [2, 5, 6]), (26, [2, 5])]
  | 51 => [(18, [4, 5, 6])]
  | 52 => [(12, [0, 2, 3])]
  | 53 => [(24, [5, 6])]
  | 55 => [(7, [0, 7, 8, 9]), (8, [0])]
  | 57 => [(10, [0, 1, 2, 3, 4, 6, 14, 15]), (11, [0, 1, 2, 3, 4, 6, 14]), (21, [0, 1, 2, 3, 4, 6]), (27, [0, 1, 2, 3])]
  | 62 => [(24, [0, 1, 2, 3, 5, 12]), (30, [0, 1, 2, 12])]
  | 63 => [(9, [0])]
  | 67 => [(4, [0, 1]), (5, [0, 1])]
  | 68 => [(19, [4, 5]), (20, [4])]
  | 70 => [(40, [7, 10, 11, 13, 14, 15]), (41, [10, 13, 14]), (55, [7, 10, 11, 13, 14, 15, 16, 17, 18]), (56, [7, 10, 11, 13, 15, 16, 17])]
  | 71 => [(16, [0, 2]), (17, [0, 2])]
  | 72 => [(13, [4, 5, 6]), (14, [4, 5])]
  | 74 => [(21, [2, 3, 4])]
  | 76 => [(16, [1, 4, 5, 6]), (17, [1, 4, 5, 6])]
  | 78 => [(16, [0, 1, 2, 6, 7]), (17, [0, 1, 2, 6, 7]), (22, [0, 1, 2, 6, 7]), (23, [0, 1, 2, 6, 7])]
  | 79 => [(13, [1, 5, 22, 23, 24]), (14, [5]), (25, [1, 5, 6, 7, 8, 22, 23, 24, 29, 30, 31]), (26, [1, 5, 6, 8, 22, 23, 24])]
  | 83 => [(18, [1, 4])]
  | 84 => [(28, [0, 2, 5, 37, 38]), (29, [0, 2, 5])]
  | 94 => [(36, [1, 4, 6, 9])]
  | 96 => [(9, [0, 1]), (19, [0, 1, 5, 6, 21, 22]), (20, [0, 5, 6]), (33, [0, 1, 5, 6, 7, 8, 21, 22])]
  | 97 => [(22, [0, 1, 23, 24]), (23, [4])]
  | 98 => [(22, [0, 1, 6, 7, 23, 24]), (23, [6, 7]), (36, [0, 1, 6, 7, 8, 9, 23, 24])]
  | 102 => [(28, [0, 1, 5, 27, 28]), (29, [5]), (42, [0, 1, 5, 6, 7, 27, 28])]
  | 103 => [(13, [2, 3, 5]), (14, [4])]
  | 104 => [(22, [0, 1, 5, 6]), (23, [5])]
  | 105 => [(19, [0, 1, 6, 7, 8]), (20, [6, 7])]
  | 106 => [(7, [0, 1, 5]), (8, [4])]
  | 107 => [(13, [0, 1, 5, 6, 7]), (14, [5])]
  | 108 => [(4, [0]), (5, [0])]
  | 109 => [(12, [0, 2]), (21, [0, 2])]
  | 111 => [(13, [0, 1, 4, 7, 14, 15]), (14, [4, 7])]
  | 112 => [(28, [1, 4, 7, 8, 9, 12]), (29, [4, 7, 8, 9]), (40, [1, 4, 7, 8, 9, 12, 14, 15]), (41, [1, 4, 7, 8, 9, 12, 14]), (60, [1, 4, 7, 8, 9, 12, 14])]
  | 113 => [(19, [1, 6, 25, 26, 27]), (20, [6])]
  | 114 => [(7, [0, 3]), (8, [0, 3])]
  | 115 => [(7, [1, 2, 4, 5]), (8, [2, 4, 5])]
  | 116 => [(13, [0, 1, 6, 7, 8]), (14, [6, 7])]
  | 117 => [(21, [1, 5, 6])]
  | 118 => [(19, [0, 1, 6, 7, 8]), (20, [6])]
  | 119 => [(10, [0, 1, 5, 6]), (11, [5]), (22, [0, 1, 5, 6, 7, 8]), (23, [0, 1, 5, 6, 7])]
  | 123 => [(10, [3, 10, 11, 12]), (11, [3])]
  | 130 => [(9, [0, 1, 2])]
  | 132 => [(13, [0, 1, 2, 7, 8, 12, 13, 14]), (14, [0, 1, 7, 8])]
  | 133 => [(7, [0, 1, 4, 7, 8, 9]), (8, [0, 1, 4])]
  | _ => []
def gv : Given := fun _ => none
noncomputable abbrev rn (k : Nat) : CallF := run Try.prog tbs gv k
theorem f7_eq (k : Nat) (a0 a1 a2 : Value) (H : AH) : rn (k + 1) 7 [a0, a1, a2] H =
b2 (box 26 H a0) fun v1 h1 =>
b2 (rn k 15 [] h1) fun v2 h2 =>
(un Try.prog .not v2).bind fun v3 =>
aIf v3
 (some ((.bool false), h2))
 ((ld Try.prog 26 h2 v1).bind fun v4 =>
 b2 (rn k 16 [v4] h2) fun v5 h5 =>
 b2 (newV Try.prog 26 h5) fun v6 h6 =>
 (st Try.prog 26 h6 v6 v5).bind fun h7 =>
 (ld Try.prog 26 h7 v6).bind fun v8 =>
 b2 (rn k 35 [v8] h7) fun v9 h9 =>
 (ext v9 0).bind fun v10 =>
 (ext v9 1).bind fun v11 =>
 (bin Try.prog .add 9 v10 a1).bind fun v12 =>
 b2 (rn k 36 [v12] h9) fun v13 h13 =>
 (ext v13 0).bind fun v14 =>
 (ext v13 1).bind fun v15 =>
 (ext v13 2).bind fun v16 =>
 b2 (newV Try.prog 26 h13) fun v17 h17 =>
 (st Try.prog 26 h17 v17 v14).bind fun h18 =>
 (ld Try.prog 26 h18 v17).bind fun v19 =>
 (ld Try.prog 26 h18 v6).bind fun v20 =>
 b2 (rn k 19 [v19, v20] h18) fun v21 h21 =>
 b2 (rn k 36 [a2] h21) fun v22 h22 =>
 (ext v22 0).bind fun v23 =>
 (ext v22 1).bind fun v24 =>
 (ext v22 2).bind fun v25 =>
 b2 (newV Try.prog 26 h22) fun v26 h26 =>
 (st Try.prog 26 h26 v26 v23).bind fun h27 =>
 (ld Try.prog 26 h27 v26).bind fun v28 =>
 b2 (rn k 35 [v28] h27) fun v29 h29 =>
 (ext v29 0).bind fun v30 =>
 (ext v29 1).bind fun v31 =>
 b2 (gOp v2 true (some (v11, h29)) h29) fun v32 h32 =>
 b2 (gOp v2 true ((bin Try.prog .eql 30 v32 (.int .i64 0)).bind fun v => some (v, h32)) h32) fun v33 h33 =>
 (pickV v2 v33 (.bool false)).bind fun v34 =>
 b2 (gOp v34 true (some (v16, h33)) h33) fun v35 h35 =>
 b2 (gOp v34 true ((bin Try.prog .eql 30 v35 (.int .i64 0)).bind fun v => some (v, h35)) h35) fun v36 h36 =>
 (pickV v34 v36 (.bool false)).bind fun v37 =>
 b2 (gOp v37 true (some (v21, h36)) h36) fun v38 h38 =>
 (pickV v37 v38 (.bool false)).bind fun v39 =>
 b2 (gOp v39 true (some (v15, h38)) h38) fun v40 h40 =>
 b2 (gOp v39 true (some (a1, h40)) h40) fun v41 h41 =>
 b2 (gOp v39 true ((bin Try.prog .eql 9 v40 v41).bind fun v => some (v, h41)) h41) fun v42 h42 =>
 (pickV v39 v42 (.bool false)).bind fun v43 =>
 b2 (gOp v43 true (some (v25, h42)) h42) fun v44 h44 =>
 b2 (gOp v43 true ((bin Try.prog .neq 30 v44 (.int .i64 0)).bind fun v => some (v, h44)) h44) fun v45 h45 =>
 b2 (gOp v43 true (some (v45, h45)) h45) fun v46 h46 =>
 b2 (gOp v46 false (some (v31, h46)) h46) fun v47 h47 =>
 b2 (gOp v46 false ((bin Try.prog .eql 30 v47 (.int .i64 0)).bind fun v => some (v, h47)) h47) fun v48 h48 =>
 b2 (gOp v46 false (some (v48, h48)) h48) fun v49 h49 =>
 b2 (gOp v49 true (some (v30, h49)) h49) fun v50 h50 =>
 b2 (gOp v49 true (some (v24, h50)) h50) fun v51 h51 =>
 b2 (gOp v49 true ((bin Try.prog .add 9 v50 v51).bind fun v => some (v, h51)) h51) fun v52 h52 =>
 b2 (gOp v49 true (some (a2, h52)) h52) fun v53 h53 =>
 b2 (gOp v49 true ((bin Try.prog .eql 9 v52 v53).bind fun v => some (v, h53)) h53) fun v54 h54 =>
 b2 (gOp v46 false ((pickV v49 v54 (.bool false)).bind fun v => some (v, h54)) h54) fun v55 h55 =>
 b2 (gOp v46 false (some (v55, h55)) h55) fun v56 h56 =>
 b2 (gOp v56 true ((ld Try.prog 26 h56 v26).bind fun v => some (v, h56)) h56) fun v57 h57 =>
 b2 (gOp v56 true (b2 (rn k 37 [v57] h57) fun v h => some (v, h)) h57) fun v58 h58 =>
 b2 (gOp v46 false ((pickV v56 v58 (.bool false)).bind fun v => some (v, h58)) h58) fun v59 h59 =>
 b2 (gOp v43 true ((pickV v46 (.bool true) v59).bind fun v => some (v, h59)) h59) fun v60 h60 =>
 (pickV v43 v60 (.bool false)).bind fun v61 =>
 some (v61, h60)) := by kernel_rfl
theorem f15_eq (k : Nat) (H : AH) : rn (k + 1) 15 [] H =
b2 (rn k 41 [(.int .i64 13)] H) fun v1 h1 =>
b2 (rn k 18 [v1, (.int .i64 3), (.bool false)] h1) fun v2 h2 =>
(ext v2 0).bind fun v3 =>
(ext v2 1).bind fun v4 =>
b2 (newV Try.prog 26 h2) fun v5 h5 =>
(st Try.prog 26 h5 v5 v3).bind fun h6 =>
b2 (rn k 41 [(.int .i64 13)] h6) fun v7 h7 =>
b2 (rn k 18 [v7, (.int .i64 3), (.bool true)] h7) fun v8 h8 =>
(ext v8 0).bind fun v9 =>
(ext v8 1).bind fun v10 =>
b2 (newV Try.prog 26 h8) fun v11 h11 =>
(st Try.prog 26 h11 v11 v9).bind fun h12 =>
b2 (rn k 41 [(.int .i64 1)] h12) fun v13 h13 =>
b2 (rn k 41 [(.int .i64 3)] h13) fun v14 h14 =>
b2 (rn k 22 [v13, v14, (.int .i64 4), (.bool false)] h14) fun v15 h15 =>
(ext v15 0).bind fun v16 =>
(ext v15 1).bind fun v17 =>
b2 (newV Try.prog 26 h15) fun v18 h18 =>
(st Try.prog 26 h18 v18 v16).bind fun h19 =>
(ld Try.prog 26 h19 v5).bind fun v20 =>
b2 (rn k 41 [(.int .i64 12)] h19) fun v21 h21 =>
aChk (ld Try.prog 26 h21 v5 = some v20) <|
b2 (rn k 19 [v20, v21] h21) fun v22 h22 =>
(ld Try.prog 26 h22 v11).bind fun v23 =>
b2 (rn k 41 [(.int .i64 14)] h22) fun v24 h24 =>
aChk (ld Try.prog 26 h24 v11 = some v23) <|
b2 (rn k 19 [v23, v24] h24) fun v25 h25 =>
(ld Try.prog 26 h25 v18).bind fun v26 =>
b2 (buildS Try.prog 22 h25 1 [(0, (.int .u32 5))]) fun v27 h27 =>
(build Try.prog 24 [(1, v27)]).bind fun v28 =>
(build Try.prog 26 [(0, v28), (1, (.int .i64 (-4)))]).bind fun v29 =>
b2 (rn k 19 [v26, v29] h27) fun v30 h30 =>
b2 (gOp v22 true (some (v25, h30)) h30) fun v31 h31 =>
(pickV v22 v31 (.bool false)).bind fun v32 =>
b2 (gOp v32 true (some (v30, h31)) h31) fun v33 h33 =>
(pickV v32 v33 (.bool false)).bind fun v34 =>
b2 (gOp v34 true (some (v4, h33)) h33) fun v35 h35 =>
b2 (gOp v34 true ((bin Try.prog .eql 30 v35 (.int .i64 0)).bind fun v => some (v, h35)) h35) fun v36 h36 =>
(pickV v34 v36 (.bool false)).bind fun v37 =>
b2 (gOp v37 true (some (v10, h36)) h36) fun v38 h38 =>
b2 (gOp v37 true ((bin Try.prog .eql 30 v38 (.int .i64 0)).bind fun v => some (v, h38)) h38) fun v39 h39 =>
(pickV v37 v39 (.bool false)).bind fun v40 =>
b2 (gOp v40 true (some (v17, h39)) h39) fun v41 h41 =>
b2 (gOp v40 true ((bin Try.prog .eql 30 v41 (.int .i64 0)).bind fun v => some (v, h41)) h41) fun v42 h42 =>
(pickV v40 v42 (.bool false)).bind fun v43 =>
b2 (gOp v43 true ((build Try.prog 26 [(1, (.int .i64 1))]).bind fun v => some (v, h42)) h42) fun v44 h44 =>
b2 (gOp v43 true (b2 (rn k 37 [v44] h44) fun v h => some (v, h)) h44) fun v45 h45 =>
b2 (gOp v43 true ((un Try.prog .not v45).bind fun v => some (v, h45)) h45) fun v46 h46 =>
(pickV v43 v46 (.bool false)).bind fun v47 =>
some (v47, h46) := by kernel_rfl
abbrev f16_T_J0 (s1 s2 s3 : Value) : List Value := [unk, s1, s2, s3, unk, unk, unk, unk, unk, unk, unk, unk, unk, unk, unk, unk, unk, unk, unk, unk, unk, unk, unk, unk, unk, unk, unk, unk, unk, unk, unk, unk, unk, unk]
@[irreducible] def f16_J0 (k : Nat) (s1 s2 s3 : Value) (H : AH) : Option (Value × AH) := resume Try.prog (rn k) k (tbs 16) (bodyOf Try.f16) [1, 1, 0] .normal (f16_T_J0 s1 s2 s3) H (resK Try.prog Try.f16.results.toList)
theorem f16_J0_eq (k : Nat) (s1 s2 s3 : Value) (H : AH) : f16_J0 k s1 s2 s3 H =
(fldA Try.prog 26 s1 0).bind fun v8 =>
(fldA Try.prog 24 v8 0).bind fun v9 =>
(ld Try.prog 4 H v9).bind fun v10 =>
(fldA Try.prog 26 s1 0).bind fun v11 =>
(fldA Try.prog 24 v11 1).bind fun v12 =>
(ld Try.prog 22 H v12).bind fun v13 =>
(fldA Try.prog 26 s1 0).bind fun v14 =>
(fldA Try.prog 24 v14 1).bind fun v15 =>
(ld Try.prog 22 H v15).bind fun v16 =>
(lenV Try.prog 22 v16).bind fun v17 =>
(fold1 minV [v17, (.int .i64 6)]).bind fun v18 =>
(slc Try.prog 22 v13 none (some v18)).bind fun v19 =>
b2 (rn k 54 [v10, v19] H) fun v20 h20 =>
(bin Try.prog .rem 3 s3 (.int .i64 601)).bind fun v21 =>
(bin Try.prog .sub 3 v21 (.int .i64 300)).bind fun v22 =>
b2 (rn k 39 [v20, v22] h20) fun v23 h23 =>
(ext v23 0).bind fun v24 =>
(ext v23 1).bind fun v25 =>
b2 (newV Try.prog 26 h23) fun v26 h26 =>
(st Try.prog 26 h26 v26 v24).bind fun h27 =>
(ld Try.prog 26 h27 v26).bind fun v28 =>
(st Try.prog 26 h27 s2 v28).bind fun h29 =>
((ld Try.prog 26 h29 s2).bind fun v30 => some (v30 :: [])).bind fun vs => some (oneOf vs, h29) := by kernel_rfl
theorem f16_eq (k : Nat) (a0 : Value) (H : AH) : rn (k + 1) 16 [a0] H =
b2 (box 26 H a0) fun v1 h1 =>
b2 (newV Try.prog 26 h1) fun v2 h2 =>
(fldA Try.prog 26 v1 1).bind fun v3 =>
(ld Try.prog 3 h2 v3).bind fun v4 =>
(bin Try.prog .lss 3 v4 (.int .i64 0)).bind fun v5 =>
aIf v5
 ((bin Try.prog .add 3 v4 (.int .i64 1)).bind fun v6 =>
 (un Try.prog .neg v6).bind fun v7 =>
 f16_J0 k v1 v2 v7 h2)
 (f16_J0 k v1 v2 v4 h2) := by kernel_rfl
abbrev f18_T_J0 (s6 s8 : Value) : List Value := [unk, unk, unk, unk, unk, unk, s6, unk, s8, unk, unk, unk, unk, unk, unk, unk, unk, unk, unk, unk, unk, unk, unk, unk, unk, unk, unk, unk, unk, unk, unk, unk, unk, unk, unk, unk, unk, unk, unk, unk]
@[irreducible] def f18_J0 (k : Nat) (s6 s8 : Value) (H : AH) : Option (Value × AH) := resume Try.prog (rn k) k (tbs 18) (bodyOf Try.f18) [1, 1, 0] .normal (f18_T_J0 s6 s8) H (resK Try.prog Try.f18.results.toList)
theorem f18_J0_eq (k : Nat) (s6 s8 : Value) (H : AH) : f18_J0 k s6 s8 H =
b2 (rn k 58 [s8] H) fun v25 h25 =>
(ext v25 0).bind fun v26 =>
(ext v25 1).bind fun v27 =>
(st Try.prog 26 h25 s6 v26).bind fun h28 =>
((ld Try.prog 26 h28 s6).bind fun v29 => some (v29 :: (v27 :: []))).bind fun vs => some (oneOf vs, h28) := by kernel_rfl
theorem f18_eq (k : Nat) (a0 a1 a2 : Value) (H : AH) : rn (k + 1) 18 [a0, a1, a2] H =
b2 (box 26 H a0) fun v1 h1 =>
b2 (newV Try.prog 26 h1) fun v2 h2 =>
(build Try.prog 73 []).bind fun v3 =>
b2 (box 73 h2 v3) fun v4 h4 =>
(ld Try.prog 26 h4 v1).bind fun v5 =>
b2 (buildS Try.prog 114 h4 1 [(0, v5)]) fun v6 h6 =>
b2 (rn k 55 [v4, v6] h6) fun v7 h7 =>
b2 (gOp v7 true (some (v4, h7)) h7) fun v8 h8 =>
b2 (gOp v7 true (some (a1, h8)) h8) fun v9 h9 =>
b2 (gOp v7 true (b2 (rn k 56 [v8, v9] h9) fun v h => some (v, h)) h9) fun v10 h10 =>
(pickV v7 v10 (.bool false)).bind fun v11 =>
aIf v11
 ((fldA Try.prog 26 v1 0).bind fun v12 =>
 (fldA Try.prog 24 v12 0).bind fun v13 =>
 (ld Try.prog 4 h10 v13).bind fun v14 =>
 (fldA Try.prog 26 v1 0).bind fun v15 =>
 (fldA Try.prog 24 v15 1).bind fun v16 =>
 (ld Try.prog 22 h10 v16).bind fun v17 =>
 (fldA Try.prog 26 v1 1).bind fun v18 =>
 (ld Try.prog 3 h10 v18).bind fun v19 =>
 (fldA Try.prog 26 v1 0).bind fun v20 =>
 (fldA Try.prog 24 v20 0).bind fun v21 =>
 (ld Try.prog 4 h10 v21).bind fun v22 =>
 (bin Try.prog .neq 4 a2 v22).bind fun v23 =>
 b2 (rn k 57 [v4, v14, v17, v19, (.bool false), a1, v23] h10) fun v24 h24 =>
 f18_J0 k v2 v4 h24)
 (f18_J0 k v2 v4 h10) := by kernel_rfl
theorem f19_eq (k : Nat) (a0 a1 : Value) (H : AH) : rn (k + 1) 19 [a0, a1] H =
b2 (box 26 H a0) fun v1 h1 =>
b2 (box 26 h1 a1) fun v2 h2 =>
(ld Try.prog 26 h2 v1).bind fun v3 =>
(ld Try.prog 26 h2 v2).bind fun v4 =>
b2 (rn k 59 [v3, v4] h2) fun v5 h5 =>
some (v5, h5) := by kernel_rfl
abbrev f22_T_J0 (s8 s10 : Value) : List Value := [unk, unk, unk, unk, unk, unk, unk, unk, s8, unk, s10, unk, unk, unk, unk, unk, unk, unk, unk, unk, unk, unk, unk, unk, unk, unk, unk, unk, unk, unk, unk, unk, unk, unk, unk, unk, unk, unk, unk, unk, unk, unk, unk, unk, unk, unk, unk, unk, unk, unk, unk, unk, unk, unk, unk, unk, unk, unk, unk, unk, unk, unk, unk, unk, unk, unk, unk, unk, unk, unk, unk, unk, unk, unk, unk, unk, unk, unk, unk, unk, unk, unk, unk, unk, unk, unk, unk, unk, unk, unk, unk, unk, unk, unk, unk, unk, unk]
@[irreducible] def f22_J0 (k : Nat) (s8 s10 : Value) (H : AH) : Option (Value × AH) := resume Try.prog (rn k) k (tbs 22) (bodyOf Try.f22) [1, 1, 0] .normal (f22_T_J0 s8 s10) H (resK Try.prog Try.f22.results.toList)
theorem f22_J0_eq (k : Nat) (s8 s10 : Value) (H : AH) : f22_J0 k s8 s10 H =
b2 (rn k 58 [s10] H) fun v66 h66 =>
(ext v66 0).bind fun v67 =>
(ext v66 1).bind fun v68 =>
(st Try.prog 26 h66 s8 v67).bind fun h69 =>
((ld Try.prog 26 h69 s8).bind fun v70 => some (v70 :: (v68 :: []))).bind fun vs => some (oneOf vs, h69) := by kernel_rfl
theorem f22_eq (k : Nat) (a0 a1 a2 a3 : Value) (H : AH) : rn (k + 1) 22 [a0, a1, a2, a3] H =
b2 (box 26 H a0) fun v1 h1 =>
b2 (box 26 h1 a1) fun v2 h2 =>
b2 (newV Try.prog 26 h2) fun v3 h3 =>
(build Try.prog 73 []).bind fun v4 =>
b2 (box 73 h3 v4) fun v5 h5 =>
(ld Try.prog 26 h5 v1).bind fun v6 =>
(ld Try.prog 26 h5 v2).bind fun v7 =>
b2 (buildS Try.prog 114 h5 2 [(0, v6), (1, v7)]) fun v8 h8 =>
b2 (rn k 55 [v5, v8] h8) fun v9 h9 =>
b2 (gOp v9 true (some (v5, h9)) h9) fun v10 h10 =>
b2 (gOp v9 true (some (a2, h10)) h10) fun v11 h11 =>
b2 (gOp v9 true (b2 (rn k 56 [v10, v11] h11) fun v h => some (v, h)) h11) fun v12 h12 =>
(pickV v9 v12 (.bool false)).bind fun v13 =>
b2 (gOp v13 true (some (v5, h12)) h12) fun v14 h14 =>
b2 (gOp v13 true ((nilChk v14).bind fun v => some (v, h14)) h14) fun v15 h15 =>
b2 (gOp v13 true ((fldA Try.prog 73 v15 0).bind fun v => some (v, h15)) h15) fun v16 h16 =>
b2 (gOp v13 true ((ld Try.prog 26 h16 v2).bind fun v => some (v, h16)) h16) fun v17 h17 =>
b2 (gOp v13 true (b2 (rn k 64 [v17] h16) fun v h => some (v, h)) h16) fun v18 h18 =>
b2 (gOp v13 true ((un Try.prog .not v18).bind fun v => some (v, h18)) h18) fun v19 h19 =>
b2 (gOp v13 true (b2 (rn k 63 [v16, v19, (.int .i64 3)] h19) fun v h => some (v, h)) h19) fun v20 h20 =>
(pickV v13 v20 (.bool false)).bind fun v21 =>
b2 (gOp v21 true ((ld Try.prog 26 h20 v1).bind fun v => some (v, h20)) h20) fun v22 h22 =>
b2 (gOp v21 true (b2 (rn k 64 [v22] h20) fun v h => some (v, h)) h20) fun v23 h23 =>
b2 (gOp v21 true ((un Try.prog .not v23).bind fun v => some (v, h23)) h23) fun v24 h24 =>
(pickV v21 v24 (.bool false)).bind fun v25 =>
aIf v25
 ((bin Try.prog .add 3 a2 (.int .i64 2)).bind fun v26 =>
 (fldA Try.prog 26 v2 0).bind fun v27 =>
 (fldA Try.prog 24 v27 1).bind fun v28 =>
 (ld Try.prog 22 h24 v28).bind fun v29 =>
 b2 (rn k 65 [v29] h24) fun v30 h30 =>
 (bin Try.prog .add 3 v26 v30).bind fun v31 =>
 (fldA Try.prog 26 v1 0).bind fun v32 =>
 (fldA Try.prog 24 v32 1).bind fun v33 =>
 (ld Try.prog 22 h30 v33).bind fun v34 =>
 aChk (ld Try.prog 22 h24 v33 = some v34) <|
 b2 (rn k 65 [v34] h30) fun v35 h35 =>
 (bin Try.prog .sub 3 v31 v35).bind fun v36 =>
 (fold1 maxV [(.int .i64 0), v36]).bind fun v37 =>
 (fldA Try.prog 26 v1 0).bind fun v38 =>
 (fldA Try.prog 24 v38 0).bind fun v39 =>
 (ld Try.prog 4 h35 v39).bind fun v40 =>
 (fldA Try.prog 26 v2 0).bind fun v41 =>
 (fldA Try.prog 24 v41 0).bind fun v42 =>
 (ld Try.prog 4 h35 v42).bind fun v43 =>
 (bin Try.prog .neq 4 v40 v43).bind fun v44 =>
 (fldA Try.prog 26 v1 0).bind fun v45 =>
 (fldA Try.prog 24 v45 1).bind fun v46 =>
 (ld Try.prog 22 h35 v46).bind fun v47 =>
 b2 (rn k 67 [v47, v37] h35) fun v48 h48 =>
 (fldA Try.prog 26 v2 0).bind fun v49 =>
 (fldA Try.prog 24 v49 1).bind fun v50 =>
 (ld Try.prog 22 h48 v50).bind fun v51 =>
 aChk (ld Try.prog 22 h35 v50 = some v51) <|
 b2 (rn k 66 [v48, v51] h48) fun v52 h52 =>
 (ext v52 0).bind fun v53 =>
 (ext v52 1).bind fun v54 =>
 (ext v52 2).bind fun v55 =>
 (fldA Try.prog 26 v1 1).bind fun v56 =>
 (ld Try.prog 3 h52 v56).bind fun v57 =>
 (fldA Try.prog 26 v2 1).bind fun v58 =>
 (ld Try.prog 3 h52 v58).bind fun v59 =>
 (bin Try.prog .sub 3 v57 v59).bind fun v60 =>
 (bin Try.prog .sub 3 v60 v37).bind fun v61 =>
 (lenV Try.prog 22 v54).bind fun v62 =>
 (bin Try.prog .gtr 3 v62 (.int .i64 0)).bind fun v63 =>
 (bin Try.prog .neq 4 a3 v44).bind fun v64 =>
 b2 (rn k 57 [v5, v44, v53, v61, v63, a2, v64] h52) fun v65 h65 =>
 f22_J0 k v3 v5 h65)
 (f22_J0 k v3 v5 h24) := by kernel_rfl
theorem f35_eq (k : Nat) (a0 : Value) (H : AH) : rn (k + 1) 35 [a0] H =
b2 (box 26 H a0) fun v1 h1 =>
(ld Try.prog 26 h1 v1).bind fun v2 =>
(build Try.prog 73 [(1, v2)]).bind fun v3 =>
b2 (box 73 h1 v3) fun v4 h4 =>
(ld Try.prog 26 h4 v1).bind fun v5 =>
b2 (buildS Try.prog 114 h4 1 [(0, v5)]) fun v6 h6 =>
b2 (rn k 55 [v4, v6] h6) fun v7 h7 =>
(un Try.prog .not v7).bind fun v8 =>
b2 (gOp v8 false (some (v4, h7)) h7) fun v9 h9 =>
b2 (gOp v8 false ((nilChk v9).bind fun v => some (v, h9)) h9) fun v10 h10 =>
b2 (gOp v8 false ((fldA Try.prog 73 v10 0).bind fun v => some (v, h10)) h10) fun v11 h11 =>
b2 (gOp v8 false ((ld Try.prog 26 h11 v1).bind fun v => some (v, h11)) h11) fun v12 h12 =>
b2 (gOp v8 false (b2 (rn k 82 [v12] h11) fun v h => some (v, h)) h11) fun v13 h13 =>
b2 (gOp v8 false (b2 (rn k 63 [v11, v13, (.int .i64 4)] h13) fun v h => some (v, h)) h13) fun v14 h14 =>
b2 (gOp v8 false ((un Try.prog .not v14).bind fun v => some (v, h14)) h14) fun v15 h15 =>
(pickV v8 (.bool true) v15).bind fun v16 =>
aIf v16
 ((nilChk v4).bind fun v17 =>
 (fldA Try.prog 73 v17 0).bind fun v18 =>
 (fldA Try.prog 71 v18 0).bind fun v19 =>
 (ld Try.prog 30 h15 v19).bind fun v20 =>
 some ((.tuple #[(.string ⟨#[]⟩), v20]), h15))
 ((fldA Try.prog 26 v1 0).bind fun v21 =>
 (ld Try.prog 24 h15 v21).bind fun v22 =>
 b2 (rn k 83 [v22] h15) fun v23 h23 =>
 (ext v23 0).bind fun v24 =>
 (ext v23 1).bind fun v25 =>
 (bin Try.prog .neq 30 v25 (.int .i64 0)).bind fun v26 =>
 aIf v26
  (some ((.tuple #[(.string ⟨#[]⟩), v25]), h23))
  ((fldA Try.prog 26 v1 1).bind fun v27 =>
  (ld Try.prog 3 h23 v27).bind fun v28 =>
  b2 (rn k 52 [v28] h23) fun v29 h29 =>
  b2 (rn k 83 [v29] h29) fun v30 h30 =>
  (ext v30 0).bind fun v31 =>
  (ext v30 1).bind fun v32 =>
  (bin Try.prog .add 9 v24 v31).bind fun v33 =>
  some ((.tuple #[v33, (.int .i64 0)]), h30))) := by kernel_rfl
theorem f36_eq (k : Nat) (a0 : Value) (H : AH) : rn (k + 1) 36 [a0] H =
b2 (newV Try.prog 26 H) fun v1 h1 =>
b2 (rn k 84 [a0] h1) fun v2 h2 =>
(ext v2 0).bind fun v3 =>
(ext v2 1).bind fun v4 =>
(ext v2 2).bind fun v5 =>
b2 (newV Try.prog 24 h2) fun v6 h6 =>
(st Try.prog 24 h6 v6 v3).bind fun h7 =>
(bin Try.prog .neq 30 v5 (.int .i64 0)).bind fun v8 =>
aIf v8
 ((build Try.prog 26 []).bind fun v9 =>
 (st Try.prog 26 h7 v1 v9).bind fun h10 =>
 ((ld Try.prog 26 h10 v1).bind fun v11 => some (v11 :: ((.string ⟨#[]⟩) :: ((.int .i64 2) :: [])))).bind fun vs => some (oneOf vs, h10))
 (b2 (rn k 84 [v4] h7) fun v12 h12 =>
 (ext v12 0).bind fun v13 =>
 (ext v12 1).bind fun v14 =>
 (ext v12 2).bind fun v15 =>
 b2 (newV Try.prog 24 h12) fun v16 h16 =>
 (st Try.prog 24 h16 v16 v13).bind fun h17 =>
 (ld Try.prog 24 h17 v16).bind fun v18 =>
 b2 (rn k 85 [v18] h17) fun v19 h19 =>
 (ext v19 0).bind fun v20 =>
 (ext v19 1).bind fun v21 =>
 (ld Try.prog 24 h19 v6).bind fun v22 =>
 (build Try.prog 26 [(0, v22), (1, v20)]).bind fun v23 =>
 (st Try.prog 26 h19 v1 v23).bind fun h24 =>
 (bin Try.prog .neq 30 v15 (.int .i64 0)).bind fun v25 =>
 b2 (gOp v25 false (some (v21, h24)) h24) fun v26 h26 =>
 b2 (gOp v25 false ((un Try.prog .not v26).bind fun v => some (v, h26)) h26) fun v27 h27 =>
 (pickV v25 (.bool true) v27).bind fun v28 =>
 b2 (gOp v28 false ((ld Try.prog 26 h27 v1).bind fun v => some (v, h27)) h27) fun v29 h29 =>
 b2 (gOp v28 false (b2 (rn k 37 [v29] h29) fun v h => some (v, h)) h29) fun v30 h30 =>
 b2 (gOp v28 false ((un Try.prog .not v30).bind fun v => some (v, h30)) h30) fun v31 h31 =>
 (pickV v28 (.bool true) v31).bind fun v32 =>
 b2 (gOp v32 false ((ld Try.prog 26 h31 v1).bind fun v => some (v, h31)) h31) fun v33 h33 =>
 b2 (gOp v32 false (b2 (rn k 82 [v33] h33) fun v h => some (v, h)) h33) fun v34 h34 =>
 b2 (gOp v32 false ((un Try.prog .not v34).bind fun v => some (v, h34)) h34) fun v35 h35 =>
 (pickV v32 (.bool true) v35).bind fun v36 =>
 aIf v36
  ((build Try.prog 26 []).bind fun v37 =>
  (st Try.prog 26 h35 v1 v37).bind fun h38 =>
  ((ld Try.prog 26 h38 v1).bind fun v39 => some (v39 :: ((.string ⟨#[]⟩) :: ((.int .i64 2) :: [])))).bind fun vs => some (oneOf vs, h38))
  ((ld Try.prog 26 h35 v1).bind fun v40 =>
  (st Try.prog 26 h35 v1 v40).bind fun h41 =>
  ((ld Try.prog 26 h41 v1).bind fun v42 => some (v42 :: (v14 :: ((.int .i64 0) :: [])))).bind fun vs => some (oneOf vs, h41))) := by kernel_rfl
theorem f37_eq (k : Nat) (a0 : Value) (H : AH) : rn (k + 1) 37 [a0] H =
b2 (box 26 H a0) fun v1 h1 =>
(fldA Try.prog 26 v1 0).bind fun v2 =>
(ld Try.prog 24 h1 v2).bind fun v3 =>
b2 (rn k 86 [v3] h1) fun v4 h4 =>
(un Try.prog .not v4).bind fun v5 =>
aIf v5
 (some ((.bool false), h4))
 ((ld Try.prog 26 h4 v1).bind fun v6 =>
 b2 (rn k 64 [v6] h4) fun v7 h7 =>
 aIf v7
  ((fldA Try.prog 26 v1 1).bind fun v8 =>
  (ld Try.prog 3 h7 v8).bind fun v9 =>
  (bin Try.prog .eql 3 v9 (.int .i64 0)).bind fun v10 =>
  some (v10, h7))
  ((fldA Try.prog 26 v1 0).bind fun v11 =>
  (fldA Try.prog 24 v11 1).bind fun v12 =>
  (ld Try.prog 22 h7 v12).bind fun v13 =>
  (ixA Try.prog 22 v13 (.int .i64 0)).bind fun v14 =>
  (ld Try.prog 67 h7 v14).bind fun v15 =>
  (bin Try.prog .and 67 v15 (.int .u32 1)).bind fun v16 =>
  (bin Try.prog .neq 67 v16 (.int .u32 0)).bind fun v17 =>
  b2 (gOp v17 true ((fldA Try.prog 26 v1 1).bind fun v => some (v, h7)) h7) fun v18 h18 =>
  b2 (gOp v17 true ((ld Try.prog 3 h18 v18).bind fun v => some (v, h18)) h18) fun v19 h19 =>
  b2 (gOp v17 true (b2 (rn k 81 [v19, (.int .i64 (-131072)), (.int .i64 131072)] h19) fun v h => some (v, h)) h19) fun v20 h20 =>
  (pickV v17 v20 (.bool false)).bind fun v21 =>
  some (v21, h20))) := by kernel_rfl
theorem f39_eq (k : Nat) (a0 a1 : Value) (H : AH) : rn (k + 1) 39 [a0, a1] H =
b2 (box 24 H a0) fun v1 h1 =>
b2 (newV Try.prog 26 h1) fun v2 h2 =>
b2 (rn k 81 [a1, (.int .i64 (-100000)), (.int .i64 100000)] h2) fun v3 h3 =>
(un Try.prog .not v3).bind fun v4 =>
aIf v4
 ((build Try.prog 26 []).bind fun v5 =>
 (st Try.prog 26 h3 v2 v5).bind fun h6 =>
 ((ld Try.prog 26 h6 v2).bind fun v7 => some (v7 :: ((.bool false) :: []))).bind fun vs => some (oneOf vs, h6))
 ((fldA Try.prog 24 v1 0).bind fun v8 =>
 (ld Try.prog 4 h3 v8).bind fun v9 =>
 (fldA Try.prog 24 v1 1).bind fun v10 =>
 (ld Try.prog 22 h3 v10).bind fun v11 =>
 b2 (rn k 78 [v9, v11, a1] h3) fun v12 h12 =>
 b2 (newV Try.prog 26 h12) fun v13 h13 =>
 (st Try.prog 26 h13 v13 v12).bind fun h14 =>
 (ld Try.prog 26 h14 v13).bind fun v15 =>
 b2 (rn k 82 [v15] h14) fun v16 h16 =>
 (un Try.prog .not v16).bind fun v17 =>
 aIf v17
  ((build Try.prog 26 []).bind fun v18 =>
  (st Try.prog 26 h16 v2 v18).bind fun h19 =>
  ((ld Try.prog 26 h19 v2).bind fun v20 => some (v20 :: ((.bool false) :: []))).bind fun vs => some (oneOf vs, h19))
  ((ld Try.prog 26 h16 v13).bind fun v21 =>
  (st Try.prog 26 h16 v2 v21).bind fun h22 =>
  ((ld Try.prog 26 h22 v2).bind fun v23 => some (v23 :: ((.bool true) :: []))).bind fun vs => some (oneOf vs, h22))) := by kernel_rfl
theorem f41_eq (k : Nat) (a0 : Value) (H : AH) : rn (k + 1) 41 [a0] H =
b2 (newV Try.prog 26 H) fun v1 h1 =>
b2 (rn k 52 [a0] h1) fun v2 h2 =>
b2 (newV Try.prog 24 h2) fun v3 h3 =>
(st Try.prog 24 h3 v3 v2).bind fun h4 =>
(fldA Try.prog 24 v3 0).bind fun v5 =>
(ld Try.prog 4 h4 v5).bind fun v6 =>
(fldA Try.prog 24 v3 1).bind fun v7 =>
(ld Try.prog 22 h4 v7).bind fun v8 =>
b2 (rn k 78 [v6, v8, (.int .i64 0)] h4) fun v9 h9 =>
(st Try.prog 26 h9 v1 v9).bind fun h10 =>
((ld Try.prog 26 h10 v1).bind fun v11 => some (v11 :: [])).bind fun vs => some (oneOf vs, h10) := by kernel_rfl
end
end Go.AM.Y
set_option linter.unusedVariables false
set_option maxRecDepth 100000
namespace Go.AM.Y
open Go Go.AM Go.Proofs
noncomputable section
abbrev f52_T_J0 (s0 s2 s3 : Value) : List Value := [s0, unk, s2, s3, unk, unk, unk, unk, unk, unk, unk, unk, unk, unk, unk]
@[irreducible] def f52_J0 (k : Nat) (s0 s2 s3 : Value) (H : AH) : Option (Value × AH) := resume Try.prog (rn k) k (tbs 52) (bodyOf Try.f52) [1, 1, 0] .normal (f52_T_J0 s0 s2 s3) H (resK Try.prog Try.f52.results.toList)
theorem f52_J0_eq (k : Nat) (s0 s2 s3 : Value) (H : AH) : f52_J0 k s0 s2 s3 H =
(bin Try.prog .lss 3 s0 (.int .i64 0)).bind fun v5 =>
b2 (rn k 99 [s3] H) fun v6 h6 =>
b2 (rn k 54 [v5, v6] h6) fun v7 h7 =>
(st Try.prog 24 h7 s2 v7).bind fun h8 =>
((ld Try.prog 24 h8 s2).bind fun v9 => some (v9 :: [])).bind fun vs => some (oneOf vs, h8) := by kernel_rfl
theorem f52_eq (k : Nat) (a0 : Value) (H : AH) : rn (k + 1) 52 [a0] H =
b2 (newV Try.prog 24 H) fun v1 h1 =>
(cv Try.prog 3 111 a0).bind fun v2 =>
(bin Try.prog .lss 3 a0 (.int .i64 0)).bind fun v3 =>
aIf v3
 ((un Try.prog .neg v2).bind fun v4 =>
 f52_J0 k a0 v1 v4 h1)
 (f52_J0 k a0 v1 v2 h1) := by kernel_rfl
theorem f54_eq (k : Nat) (a0 a1 : Value) (H : AH) : rn (k + 1) 54 [a0, a1] H =
b2 (newV Try.prog 24 H) fun v1 h1 =>
(build Try.prog 24 [(0, a0), (1, a1)]).bind fun v2 =>
b2 (rn k 95 [v2] h1) fun v3 h3 =>
b2 (rn k 100 [v3] h3) fun v4 h4 =>
(st Try.prog 24 h4 v1 v4).bind fun h5 =>
((ld Try.prog 24 h5 v1).bind fun v6 => some (v6 :: [])).bind fun vs => some (oneOf vs, h5) := by kernel_rfl
abbrev f55_T_L0 (s0 s7 s8 s9 : Value) : List Value := [s0, unk, unk, unk, unk, unk, unk, s7, s8, s9, unk, unk, unk, unk, unk, unk, unk, unk, unk, unk, unk, unk, unk, unk, unk, unk]
abbrev f55_X_L0 (s0 : Value) : List Value := [s0, unk, unk, unk, unk, unk, unk, unk, unk, unk, unk, unk, unk, unk, unk, unk, unk, unk, unk, unk, unk, unk, unk, unk, unk, unk]
@[irreducible] def f55_L0 (k : Nat) (s0 s7 s8 s9 : Value) (n : Nat) (H : AH) : Option Out := iterD (fun T H K => evalK Try.prog (rn k) k (tbs 55) (codeAt (bodyOf Try.f55) [1, 0, 1, 0, 0]) T H K) (cutT (tbs 55) 7) (cutT (tbs 55) 8) n (f55_T_L0 s0 s7 s8 s9) H
@[irreducible] def f55_A0 (k : Nat) (e : EX) (T : List Value) (H : AH) : Option (Value × AH) := resume Try.prog (rn k) k (tbs 55) (bodyOf Try.f55) [1, 0, 1, 0] e T H (resK Try.prog Try.f55.results.toList)
theorem f55_L0_succ (k : Nat) (s0 s7 s8 s9 : Value) (n : Nat) (H : AH) : f55_L0 k s0 s7 s8 s9 (n + 1) H =
(bin Try.prog .lss 3 s9 s8).bind fun v2 =>
aIf v2
 ((ixA Try.prog 114 s7 s9).bind fun v3 =>
 (ld Try.prog 26 H v3).bind fun v4 =>
 b2 (newV Try.prog 26 H) fun v5 h5 =>
 (st Try.prog 26 h5 v5 v4).bind fun h6 =>
 (nilChk s0).bind fun v7 =>
 (fldA Try.prog 73 v7 0).bind fun v8 =>
 (ld Try.prog 26 h6 v5).bind fun v9 =>
 b2 (rn k 37 [v9] h6) fun v10 h10 =>
 b2 (rn k 63 [v8, v10, (.int .i64 1)] h10) fun v11 h11 =>
 (bin Try.prog .add 3 s9 (.int .i64 1)).bind fun v12 =>
 f55_L0 k s0 s7 s8 v12 n h11)
 (some ((.exit 0), (f55_X_L0 s0), H)) := by kernel_rfl
theorem f55_A0_x0 (k : Nat) (s0 : Value) (H : AH) : f55_A0 k (.exit 0) (f55_X_L0 s0) H =
(nilChk s0).bind fun v13 =>
(fldA Try.prog 73 v13 0).bind fun v14 =>
(fldA Try.prog 71 v14 0).bind fun v15 =>
(ld Try.prog 30 H v15).bind fun v16 =>
(bin Try.prog .eql 30 v16 (.int .i64 0)).bind fun v17 =>
some (v17, H) := by kernel_rfl
theorem f55_eq (k : Nat) (a0 a1 : Value) (H : AH) : rn (k + 1) 55 [a0, a1] H =
(lenV Try.prog 114 a1).bind fun v1 =>
(f55_L0 k a0 a1 v1 (.int .i64 0) k H).bind fun p => f55_A0 k p.1 p.2.1 p.2.2 := by kernel_rfl
theorem f56_eq (k : Nat) (a0 a1 : Value) (H : AH) : rn (k + 1) 56 [a0, a1] H =
(nilChk a0).bind fun v1 =>
(fldA Try.prog 73 v1 0).bind fun v2 =>
b2 (rn k 81 [a1, (.int .i64 2), (.int .i64 400)] H) fun v3 h3 =>
b2 (rn k 63 [v2, v3, (.int .i64 1)] h3) fun v4 h4 =>
some (v4, h4) := by kernel_rfl
abbrev f57_T_L0 (s0 s1 s2 s3 s4 s6 s14 s15 : Value) : List Value := [s0, s1, s2, s3, s4, unk, s6, unk, unk, unk, unk, unk, unk, unk, s14, s15, unk, unk, unk, unk, unk, unk, unk, unk, unk, unk, unk, unk, unk, unk, unk, unk, unk, unk, unk, unk, unk, unk, unk, unk, unk, unk, unk, unk, unk, unk, unk, unk, unk, unk, unk, unk, unk, unk]
abbrev f57_X_L0 (s0 s1 s2 s3 s4 s6 s14 : Value) : List Value := [s0, s1, s2, s3, s4, unk, s6, unk, unk, unk, unk, unk, unk, unk, s14, unk, unk, unk, unk, unk, unk, unk, unk, unk, unk, unk, unk, unk, unk, unk, unk, unk, unk, unk, unk, unk, unk, unk, unk, unk, unk, unk, unk, unk, unk, unk, unk, unk, unk, unk, unk, unk, unk, unk]
abbrev f57_T_J0 (s0 s1 s2 s3 s4 s6 : Value) : List Value := [s0, s1, s2, s3, s4, unk, s6, unk, unk, unk, unk, unk, unk, unk, unk, unk, unk, unk, unk, unk, unk, unk, unk, unk, unk, unk, unk, unk, unk, unk, unk, unk, unk, unk, unk, unk, unk, unk, unk, unk, unk, unk, unk, unk, unk, unk, unk, unk, unk, unk, unk, unk, unk, unk]
abbrev f57_T_J1 (s0 s1 s2 s3 : Value) : List Value := [s0, s1, s2, s3, unk, unk, unk, unk, unk, unk, unk, unk, unk, unk, unk, unk, unk, unk, unk, unk, unk, unk, unk, unk, unk, unk, unk, unk, unk, unk, unk, unk, unk, unk, unk, unk, unk, unk, unk, unk, unk, unk, unk, unk, unk, unk, unk, unk, unk, unk, unk, unk, unk, unk]
@[irreducible] def f57_L0 (k : Nat) (s0 s1 s2 s3 s4 s6 s14 s15 : Value) (n : Nat) (H : AH) : Option Out := iterD (fun T H K => evalK Try.prog (rn k) k (tbs 57) (codeAt (bodyOf Try.f57) [0, 1, 1, 1, 0, 1, 0, 0]) T H K) (cutT (tbs 57) 10) (cutT (tbs 57) 11) n (f57_T_L0 s0 s1 s2 s3 s4 s6 s14 s15) H
@[irreducible] def f57_A0 (k : Nat) (e : EX) (T : List Value) (H : AH) : Option (Value × AH) := resume Try.prog (rn k) k (tbs 57) (bodyOf Try.f57) [0, 1, 1, 1, 0, 1, 0] e T H (resK Try.prog Try.f57.results.toList)
@[irreducible] def f57_J0 (k : Nat) (s0 s1 s2 s3 s4 s6 : Value) (H : AH) : Option (Value × AH) := resume Try.prog (rn k) k (tbs 57) (bodyOf Try.f57) [0] .normal (f57_T_J0 s0 s1 s2 s3 s4 s6) H (resK Try.prog Try.f57.results.toList)
@[irreducible] def f57_J1 (k : Nat) (s0 s1 s2 s3 : Value) (H : AH) : Option (Value × AH) := resume Try.prog (rn k) k (tbs 57) (bodyOf Try.f57) [1, 0] .normal (f57_T_J1 s0 s1 s2 s3) H (resK Try.prog Try.f57.results.toList)
theorem f57_L0_succ (k : Nat) (s0 s1 s2 s3 s4 s6 s14 s15 : Value) (n : Nat) (H : AH) : f57_L0 k s0 s1 s2 s3 s4 s6 s14 s15 (n + 1) H =
(bin Try.prog .lss 3 s15 s14).bind fun v4 =>
b2 (gOp v4 true (some (s4, H)) H) fun v5 h5 =>
b2 (gOp v4 true ((un Try.prog .not v5).bind fun v => some (v, h5)) h5) fun v6 h6 =>
(pickV v4 v6 (.bool false)).bind fun v7 =>
aIf v7
 (b2 (rn k 101 [s2, s15] h6) fun v8 h8 =>
 (bin Try.prog .add 3 s15 (.int .i64 1)).bind fun v9 =>
 f57_L0 k s0 s1 s2 s3 v8 s6 s14 v9 n h8)
 (some ((.exit 0), (f57_X_L0 s0 s1 s2 s3 s4 s6 s14), h6)) := by kernel_rfl
theorem f57_A0_x0 (k : Nat) (s0 s1 s2 s3 s4 s6 s14 : Value) (H : AH) : f57_A0 k (.exit 0) (f57_X_L0 s0 s1 s2 s3 s4 s6 s14) H =
b2 (rn k 102 [s2, s14] H) fun v10 h10 =>
(bin Try.prog .add 3 s3 s14).bind fun v11 =>
f57_J0 k s0 s1 v10 v11 s4 s6 h10 := by kernel_rfl
theorem f57_J0_eq (k : Nat) (s0 s1 s2 s3 s4 s6 : Value) (H : AH) : f57_J0 k s0 s1 s2 s3 s4 s6 H =
b2 (gOp s4 true (some (s6, H)) H) fun v12 h12 =>
(pickV s4 v12 (.bool false)).bind fun v13 =>
aIf v13
 (b2 (rn k 99 [(.int .u64 1)] h12) fun v14 h14 =>
 b2 (rn k 96 [s2, v14] h14) fun v15 h15 =>
 f57_J1 k s0 s1 v15 s3 h15)
 (f57_J1 k s0 s1 s2 s3 h12) := by kernel_rfl
theorem f57_J1_eq (k : Nat) (s0 s1 s2 s3 : Value) (H : AH) : f57_J1 k s0 s1 s2 s3 H =
b2 (rn k 78 [s1, s2, s3] H) fun v16 h16 =>
(nilChk s0).bind fun v17 =>
(fldA Try.prog 73 v17 1).bind fun v18 =>
(st Try.prog 26 h16 v18 v16).bind fun h19 =>
some ((.tuple #[]), h19) := by kernel_rfl
theorem f57_eq (k : Nat) (a0 a1 a2 a3 a4 a5 a6 : Value) (H : AH) : rn (k + 1) 57 [a0, a1, a2, a3, a4, a5, a6] H =
b2 (rn k 65 [a2] H) fun v1 h1 =>
(bin Try.prog .sub 3 v1 a5).bind fun v2 =>
(bin Try.prog .gtr 3 v2 (.int .i64 0)).bind fun v3 =>
aIf v3
 ((f57_L0 k a0 a1 a2 a3 a4 a6 v2 (.int .i64 0) k h1).bind fun p => f57_A0 k p.1 p.2.1 p.2.2)
 (f57_J0 k a0 a1 a2 a3 a4 a6 h1) := by kernel_rfl
theorem f58_eq (k : Nat) (a0 : Value) (H : AH) : rn (k + 1) 58 [a0] H =
b2 (newV Try.prog 26 H) fun v1 h1 =>
(nilChk a0).bind fun v2 =>
(fldA Try.prog 73 v2 0).bind fun v3 =>
(nilChk a0).bind fun v4 =>
(fldA Try.prog 73 v4 0).bind fun v5 =>
(fldA Try.prog 71 v5 0).bind fun v6 =>
(ld Try.prog 30 h1 v6).bind fun v7 =>
(bin Try.prog .neq 30 v7 (.int .i64 0)).bind fun v8 =>
b2 (gOp v8 false (some (a0, h1)) h1) fun v9 h9 =>
b2 (gOp v8 false ((nilChk v9).bind fun v => some (v, h9)) h9) fun v10 h10 =>
b2 (gOp v8 false ((fldA Try.prog 73 v10 1).bind fun v => some (v, h10)) h10) fun v11 h11 =>
b2 (gOp v8 false ((ld Try.prog 26 h11 v11).bind fun v => some (v, h11)) h11) fun v12 h12 =>
b2 (gOp v8 false (b2 (rn k 82 [v12] h11) fun v h => some (v, h)) h11) fun v13 h13 =>
(pickV v8 (.bool true) v13).bind fun v14 =>
b2 (rn k 63 [v3, v14, (.int .i64 4)] h13) fun v15 h15 =>
(un Try.prog .not v15).bind fun v16 =>
aIf v16
 ((build Try.prog 26 []).bind fun v17 =>
 (nilChk a0).bind fun v18 =>
 (fldA Try.prog 73 v18 0).bind fun v19 =>
 (fldA Try.prog 71 v19 0).bind fun v20 =>
 (ld Try.prog 30 h15 v20).bind fun v21 =>
 (st Try.prog 26 h15 v1 v17).bind fun h22 =>
 aChk (ld Try.prog 30 h22 v20 = some v21) <|
 ((ld Try.prog 26 h22 v1).bind fun v23 => some (v23 :: (v21 :: []))).bind fun vs => some (oneOf vs, h22))
 ((nilChk a0).bind fun v24 =>
 (fldA Try.prog 73 v24 1).bind fun v25 =>
 (ld Try.prog 26 h15 v25).bind fun v26 =>
 (st Try.prog 26 h15 v1 v26).bind fun h27 =>
 ((ld Try.prog 26 h27 v1).bind fun v28 => some (v28 :: ((.int .i64 0) :: []))).bind fun vs => some (oneOf vs, h27)) := by kernel_rfl
theorem f59_eq (k : Nat) (a0 a1 : Value) (H : AH) : rn (k + 1) 59 [a0, a1] H =
b2 (box 26 H a0) fun v1 h1 =>
b2 (box 26 h1 a1) fun v2 h2 =>
(fldA Try.prog 26 v1 1).bind fun v3 =>
(ld Try.prog 3 h2 v3).bind fun v4 =>
(fldA Try.prog 26 v2 1).bind fun v5 =>
(ld Try.prog 3 h2 v5).bind fun v6 =>
(bin Try.prog .eql 3 v4 v6).bind fun v7 =>
b2 (gOp v7 true ((fldA Try.prog 26 v1 0).bind fun v => some (v, h2)) h2) fun v8 h8 =>
b2 (gOp v7 true ((ld Try.prog 24 h8 v8).bind fun v => some (v, h8)) h8) fun v9 h9 =>
b2 (gOp v7 true ((fldA Try.prog 26 v2 0).bind fun v => some (v, h9)) h9) fun v10 h10 =>
b2 (gOp v7 true ((ld Try.prog 24 h10 v10).bind fun v => some (v, h10)) h10) fun v11 h11 =>
b2 (gOp v7 true (b2 (rn k 103 [v9, v11] h11) fun v h => some (v, h)) h11) fun v12 h12 =>
(pickV v7 v12 (.bool false)).bind fun v13 =>
some (v13, h12) := by kernel_rfl
abbrev f63_T_J0 (s0 : Value) : List Value := [s0, unk, unk, unk, unk, unk, unk, unk, unk, unk, unk, unk, unk, unk, unk, unk, unk, unk, unk, unk, unk, unk, unk, unk, unk]
@[irreducible] def f63_J0 (k : Nat) (s0 : Value) (H : AH) : Option (Value × AH) := resume Try.prog (rn k) k (tbs 63) (bodyOf Try.f63) [1, 0] .normal (f63_T_J0 s0) H (resK Try.prog Try.f63.results.toList)
theorem f63_J0_eq (k : Nat) (s0 : Value) (H : AH) : f63_J0 k s0 H =
(nilChk s0).bind fun v11 =>
(fldA Try.prog 71 v11 0).bind fun v12 =>
(ld Try.prog 30 H v12).bind fun v13 =>
(bin Try.prog .eql 30 v13 (.int .i64 0)).bind fun v14 =>
some (v14, H) := by kernel_rfl
theorem f63_eq (k : Nat) (a0 a1 a2 : Value) (H : AH) : rn (k + 1) 63 [a0, a1, a2] H =
(un Try.prog .not a1).bind fun v1 =>
b2 (gOp v1 true (some (a0, H)) H) fun v2 h2 =>
b2 (gOp v1 true ((nilChk v2).bind fun v => some (v, h2)) h2) fun v3 h3 =>
b2 (gOp v1 true ((fldA Try.prog 71 v3 0).bind fun v => some (v, h3)) h3) fun v4 h4 =>
b2 (gOp v1 true ((ld Try.prog 30 h4 v4).bind fun v => some (v, h4)) h4) fun v5 h5 =>
b2 (gOp v1 true ((bin Try.prog .eql 30 v5 (.int .i64 0)).bind fun v => some (v, h5)) h5) fun v6 h6 =>
(pickV v1 v6 (.bool false)).bind fun v7 =>
aIf v7
 ((nilChk a0).bind fun v8 =>
 (fldA Try.prog 71 v8 0).bind fun v9 =>
 (st Try.prog 30 h6 v9 a2).bind fun h10 =>
 f63_J0 k a0 h10)
 (f63_J0 k a0 h6) := by kernel_rfl
theorem f64_eq (k : Nat) (a0 : Value) (H : AH) : rn (k + 1) 64 [a0] H =
b2 (box 26 H a0) fun v1 h1 =>
(fldA Try.prog 26 v1 0).bind fun v2 =>
(fldA Try.prog 24 v2 1).bind fun v3 =>
(ld Try.prog 22 h1 v3).bind fun v4 =>
(lenV Try.prog 22 v4).bind fun v5 =>
(bin Try.prog .eql 3 v5 (.int .i64 0)).bind fun v6 =>
some (v6, h1) := by kernel_rfl
theorem f65_eq (k : Nat) (a0 : Value) (H : AH) : rn (k + 1) 65 [a0] H =
b2 (rn k 108 [a0] H) fun v1 h1 =>
(lenV Try.prog 22 v1).bind fun v2 =>
(bin Try.prog .eql 3 v2 (.int .i64 0)).bind fun v3 =>
aIf v3
 (some ((.int .i64 0), h1))
 ((lenV Try.prog 22 v1).bind fun v4 =>
 (bin Try.prog .sub 3 v4 (.int .i64 1)).bind fun v5 =>
 (bin Try.prog .mul 3 (.int .i64 32) v5).bind fun v6 =>
 (lenV Try.prog 22 v1).bind fun v7 =>
 (bin Try.prog .sub 3 v7 (.int .i64 1)).bind fun v8 =>
 (ixA Try.prog 22 v1 v8).bind fun v9 =>
 (ld Try.prog 67 h1 v9).bind fun v10 =>
 b2 (rn k 109 [v10] h1) fun v11 h11 =>
 (bin Try.prog .add 3 v6 v11).bind fun v12 =>
 some (v12, h11)) := by kernel_rfl
theorem f66_eq (k : Nat) (a0 a1 : Value) (H : AH) : rn (k + 1) 66 [a0, a1] H =
b2 (rn k 110 [a1] H) fun v1 h1 =>
b2 (rn k 110 [a0] h1) fun v2 h2 =>
(lenV Try.prog 22 v1).bind fun v3 =>
(bin Try.prog .eql 3 v3 (.int .i64 0)).bind fun v4 =>
aIf v4
 (some ((.tuple #[(.slice none 0 0), (.slice none 0 0), (.bool false)]), h2))
 (b2 (rn k 97 [v2, v1] h2) fun v5 h5 =>
 (bin Try.prog .lss 3 v5 (.int .i64 0)).bind fun v6 =>
 aIf v6
  (some ((.tuple #[(.slice none 0 0), v2, (.bool true)]), h5))
  ((lenV Try.prog 22 v1).bind fun v7 =>
  (bin Try.prog .eql 3 v7 (.int .i64 1)).bind fun v8 =>
  aIf v8
   ((ixA Try.prog 22 v1 (.int .i64 0)).bind fun v9 =>
   (ld Try.prog 67 h5 v9).bind fun v10 =>
   b2 (rn k 111 [v2, v10] h5) fun v11 h11 =>
   (ext v11 0).bind fun v12 =>
   (ext v11 1).bind fun v13 =>
   (ext v11 2).bind fun v14 =>
   some ((.tuple #[v12, v13, v14]), h11))
   (b2 (rn k 112 [v2, v1] h5) fun v15 h15 =>
   (ext v15 0).bind fun v16 =>
   (ext v15 1).bind fun v17 =>
   (ext v15 2).bind fun v18 =>
   some ((.tuple #[v16, v17, v18]), h15)))) := by kernel_rfl
abbrev f67_T_L0 (s0 s1 : Value) : List Value := [s0, s1, unk, unk, unk, unk, unk, unk, unk, unk, unk, unk, unk, unk, unk, unk, unk, unk, unk, unk, unk, unk]
abbrev f67_X_L0 (s0 s1 : Value) : List Value := [s0, s1, unk, unk, unk, unk, unk, unk, unk, unk, unk, unk, unk, unk, unk, unk, unk, unk, unk, unk, unk, unk]
@[irreducible] def f67_L0 (k : Nat) (s0 s1 : Value) (n : Nat) (H : AH) : Option Out := iterD (fun T H K => evalK Try.prog (rn k) k (tbs 67) (codeAt (bodyOf Try.f67) [1, 0, 0, 0]) T H K) (cutT (tbs 67) 4) (cutT (tbs 67) 5) n (f67_T_L0 s0 s1) H
@[irreducible] def f67_A0 (k : Nat) (e : EX) (T : List Value) (H : AH) : Option (Value × AH) := resume Try.prog (rn k) k (tbs 67) (bodyOf Try.f67) [1, 0, 0] e T H (resK Try.prog Try.f67.results.toList)
theorem f67_L0_succ (k : Nat) (s0 s1 : Value) (n : Nat) (H : AH) : f67_L0 k s0 s1 (n + 1) H =
(bin Try.prog .gtr 3 s1 (.int .i64 100000)).bind fun v1 =>
aIf v1
 (b2 (rn k 113 [s0, (.int .i64 100000)] H) fun v2 h2 =>
 (ext v2 0).bind fun v3 =>
 (ext v2 1).bind fun v4 =>
 (bin Try.prog .sub 3 s1 (.int .i64 100000)).bind fun v5 =>
 f67_L0 k v3 v5 n h2)
 (some ((.exit 0), (f67_X_L0 s0 s1), H)) := by kernel_rfl
theorem f67_A0_x0 (k : Nat) (s0 s1 : Value) (H : AH) : f67_A0 k (.exit 0) (f67_X_L0 s0 s1) H =
(fold1 maxV [s1, (.int .i64 0)]).bind fun v6 =>
b2 (rn k 113 [s0, v6] H) fun v7 h7 =>
(ext v7 0).bind fun v8 =>
(ext v7 1).bind fun v9 =>
some (v8, h7) := by kernel_rfl
theorem f67_eq (k : Nat) (a0 a1 : Value) (H : AH) : rn (k + 1) 67 [a0, a1] H =
(f67_L0 k a0 a1 k H).bind fun p => f67_A0 k p.1 p.2.1 p.2.2 := by kernel_rfl
theorem f73_eq (k : Nat) (a0 : Value) (H : AH) : rn (k + 1) 73 [a0] H =
b2 (box 26 H a0) fun v1 h1 =>
(fldA Try.prog 26 v1 1).bind fun v2 =>
(ld Try.prog 3 h1 v2).bind fun v3 =>
(fldA Try.prog 26 v1 0).bind fun v4 =>
(fldA Try.prog 24 v4 1).bind fun v5 =>
(ld Try.prog 22 h1 v5).bind fun v6 =>
b2 (rn k 65 [v6] h1) fun v7 h7 =>
aChk (ld Try.prog 3 h7 v2 = some v3) <|
(bin Try.prog .add 3 v3 v7).bind fun v8 =>
some (v8, h7) := by kernel_rfl
abbrev f78_T_L0 (s0 s1 s2 s6 s7 : Value) : List Value := [s0, s1, s2, unk, unk, unk, s6, s7, unk, unk, unk, unk, unk, unk, unk, unk, unk, unk, unk, unk, unk, unk, unk, unk, unk, unk, unk, unk, unk, unk, unk, unk, unk, unk, unk, unk, unk]
abbrev f78_X_L0 (s0 s1 s2 s6 s7 : Value) : List Value := [s0, s1, s2, unk, unk, unk, s6, s7, unk, unk, unk, unk, unk, unk, unk, unk, unk, unk, unk, unk, unk, unk, unk, unk, unk, unk, unk, unk, unk, unk, unk, unk, unk, unk, unk, unk, unk]
abbrev f78_T_L1 (s0 s1 s2 s6 s7 : Value) : List Value := [s0, s1, s2, unk, unk, unk, s6, s7, unk, unk, unk, unk, unk, unk, unk, unk, unk, unk, unk, unk, unk, unk, unk, unk, unk, unk, unk, unk, unk, unk, unk, unk, unk, unk, unk, unk, unk]
abbrev f78_X_L1 (s0 s1 s2 s6 s7 : Value) : List Value := [s0, s1, s2, unk, unk, unk, s6, s7, unk, unk, unk, unk, unk, unk, unk, unk, unk, unk, unk, unk, unk, unk, unk, unk, unk, unk, unk, unk, unk, unk, unk, unk, unk, unk, unk, unk, unk]
@[irreducible] def f78_L0 (k : Nat) (s0 s1 s2 s6 s7 : Value) (n : Nat) (H : AH) : Option Out := iterD (fun T H K => evalK Try.prog (rn k) k (tbs 78) (codeAt (bodyOf Try.f78) [1, 1, 1, 1, 0, 0, 0]) T H K) (cutT (tbs 78) 16) (cutT (tbs 78) 17) n (f78_T_L0 s0 s1 s2 s6 s7) H
@[irreducible] def f78_A0 (k : Nat) (e : EX) (T : List Value) (H : AH) : Option (Value × AH) := resume Try.prog (rn k) k (tbs 78) (bodyOf Try.f78) [1, 1, 1, 1, 0, 0] e T H (resK Try.prog Try.f78.results.toList)
@[irreducible] def f78_L1 (k : Nat) (s0 s1 s2 s6 s7 : Value) (n : Nat) (H : AH) : Option Out := iterD (fun T H K => evalK Try.prog (rn k) k (tbs 78) (codeAt (bodyOf Try.f78) [1, 1, 1, 1, 1, 0, 0, 0]) T H K) (cutT (tbs 78) 22) (cutT (tbs 78) 23) n (f78_T_L1 s0 s1 s2 s6 s7) H
@[irreducible] def f78_A1 (k : Nat) (e : EX) (T : List Value) (H : AH) : Option (Value × AH) := resume Try.prog (rn k) k (tbs 78) (bodyOf Try.f78) [1, 1, 1, 1, 1, 0, 0] e T H (resK Try.prog Try.f78.results.toList)
theorem f78_L0_succ (k : Nat) (s0 s1 s2 s6 s7 : Value) (n : Nat) (H : AH) : f78_L0 k s0 s1 s2 s6 s7 (n + 1) H =
(bin Try.prog .quo 3 s7 (.int .i64 32)).bind fun v8 =>
(ixA Try.prog 22 s1 v8).bind fun v9 =>
(ld Try.prog 67 H v9).bind fun v10 =>
(bin Try.prog .eql 67 v10 (.int .u32 0)).bind fun v11 =>
aIf v11
 ((bin Try.prog .add 3 s7 (.int .i64 32)).bind fun v12 =>
 f78_L0 k s0 s1 s2 s6 v12 n H)
 (some ((.exit 0), (f78_X_L0 s0 s1 s2 s6 s7), H)) := by kernel_rfl
theorem f78_A0_x0 (k : Nat) (s0 s1 s2 s6 s7 : Value) (H : AH) : f78_A0 k (.exit 0) (f78_X_L0 s0 s1 s2 s6 s7) H =
(f78_L1 k s0 s1 s2 s6 s7 k H).bind fun p => f78_A1 k p.1 p.2.1 p.2.2 := by kernel_rfl
theorem f78_L1_succ (k : Nat) (s0 s1 s2 s6 s7 : Value) (n : Nat) (H : AH) : f78_L1 k s0 s1 s2 s6 s7 (n + 1) H =
b2 (rn k 101 [s1, s7] H) fun v13 h13 =>
(un Try.prog .not v13).bind fun v14 =>
aIf v14
 ((bin Try.prog .add 3 s7 (.int .i64 1)).bind fun v15 =>
 f78_L1 k s0 s1 s2 s6 v15 n h13)
 (some ((.exit 2), (f78_X_L1 s0 s1 s2 s6 s7), h13)) := by kernel_rfl
theorem f78_A1_x2 (k : Nat) (s0 s1 s2 s6 s7 : Value) (H : AH) : f78_A1 k (.exit 2) (f78_X_L1 s0 s1 s2 s6 s7) H =
b2 (rn k 102 [s1, s7] H) fun v16 h16 =>
b2 (rn k 54 [s0, v16] h16) fun v17 h17 =>
(bin Try.prog .add 3 s2 s7).bind fun v18 =>
(build Try.prog 26 [(0, v17), (1, v18)]).bind fun v19 =>
(st Try.prog 26 h17 s6 v19).bind fun h20 =>
((ld Try.prog 26 h20 s6).bind fun v21 => some (v21 :: [])).bind fun vs => some (oneOf vs, h20) := by kernel_rfl
theorem f78_eq (k : Nat) (a0 a1 a2 : Value) (H : AH) : rn (k + 1) 78 [a0, a1, a2] H =
b2 (newV Try.prog 26 H) fun v1 h1 =>
b2 (rn k 110 [a1] h1) fun v2 h2 =>
(lenV Try.prog 22 v2).bind fun v3 =>
(bin Try.prog .eql 3 v3 (.int .i64 0)).bind fun v4 =>
aIf v4
 ((build Try.prog 26 []).bind fun v5 =>
 (st Try.prog 26 h2 v1 v5).bind fun h6 =>
 ((ld Try.prog 26 h6 v1).bind fun v7 => some (v7 :: [])).bind fun vs => some (oneOf vs, h6))
 ((f78_L0 k a0 v2 a2 v1 (.int .i64 0) k h2).bind fun p => f78_A0 k p.1 p.2.1 p.2.2) := by kernel_rfl
theorem f81_eq (k : Nat) (a0 a1 a2 : Value) (H : AH) : rn (k + 1) 81 [a0, a1, a2] H =
(bin Try.prog .geq 3 a0 a1).bind fun v1 =>
b2 (gOp v1 true (some (a0, H)) H) fun v2 h2 =>
b2 (gOp v1 true (some (a2, h2)) h2) fun v3 h3 =>
b2 (gOp v1 true ((bin Try.prog .leq 3 v2 v3).bind fun v => some (v, h3)) h3) fun v4 h4 =>
(pickV v1 v4 (.bool false)).bind fun v5 =>
some (v5, h4) := by kernel_rfl
theorem f82_eq (k : Nat) (a0 : Value) (H : AH) : rn (k + 1) 82 [a0] H =
b2 (box 26 H a0) fun v1 h1 =>
(ld Try.prog 26 h1 v1).bind fun v2 =>
b2 (rn k 64 [v2] h1) fun v3 h3 =>
b2 (gOp v3 false ((ld Try.prog 26 h3 v1).bind fun v => some (v, h3)) h3) fun v4 h4 =>
b2 (gOp v3 false (b2 (rn k 73 [v4] h4) fun v h => some (v, h)) h4) fun v5 h5 =>
b2 (gOp v3 false (b2 (rn k 81 [v5, (.int .i64 (-65536)), (.int .i64 65536)] h5) fun v h => some (v, h)) h5) fun v6 h6 =>
b2 (gOp v3 false (some (v6, h6)) h6) fun v7 h7 =>
b2 (gOp v7 true ((fldA Try.prog 26 v1 1).bind fun v => some (v, h7)) h7) fun v8 h8 =>
b2 (gOp v7 true ((ld Try.prog 3 h8 v8).bind fun v => some (v, h8)) h8) fun v9 h9 =>
b2 (gOp v7 true (b2 (rn k 81 [v9, (.int .i64 (-131072)), (.int .i64 131072)] h9) fun v h => some (v, h)) h9) fun v10 h10 =>
b2 (gOp v3 false ((pickV v7 v10 (.bool false)).bind fun v => some (v, h10)) h10) fun v11 h11 =>
b2 (gOp v3 false (some (v11, h11)) h11) fun v12 h12 =>
b2 (gOp v12 true ((fldA Try.prog 26 v1 0).bind fun v => some (v, h12)) h12) fun v13 h13 =>
b2 (gOp v12 true ((fldA Try.prog 24 v13 1).bind fun v => some (v, h13)) h13) fun v14 h14 =>
b2 (gOp v12 true ((ld Try.prog 22 h14 v14).bind fun v => some (v, h14)) h14) fun v15 h15 =>
b2 (gOp v12 true (b2 (rn k 65 [v15] h15) fun v h => some (v, h)) h15) fun v16 h16 =>
b2 (gOp v12 true ((bin Try.prog .leq 3 v16 (.int .i64 262144)).bind fun v => some (v, h16)) h16) fun v17 h17 =>
b2 (gOp v3 false ((pickV v12 v17 (.bool false)).bind fun v => some (v, h17)) h17) fun v18 h18 =>
(pickV v3 (.bool true) v18).bind fun v19 =>
some (v19, h18) := by kernel_rfl
abbrev f83_T_J0 (s1 s4 : Value) : List Value := [unk, s1, unk, unk, s4, unk, unk, unk, unk, unk, unk, unk, unk, unk, unk, unk, unk, unk, unk, unk, unk, unk, unk, unk, unk, unk, unk, unk, unk, unk, unk, unk, unk]
@[irreducible] def f83_J0 (k : Nat) (s1 s4 : Value) (H : AH) : Option (Value × AH) := resume Try.prog (rn k) k (tbs 83) (bodyOf Try.f83) [1, 1, 1, 0] .normal (f83_T_J0 s1 s4) H (resK Try.prog Try.f83.results.toList)
theorem f83_J0_eq (k : Nat) (s1 s4 : Value) (H : AH) : f83_J0 k s1 s4 H =
(bin Try.prog .shr 3 s4 (.int .u64 8)).bind fun v17 =>
(cv Try.prog 3 5 v17).bind fun v18 =>
(cv Try.prog 3 5 s4).bind fun v19 =>
b2 (buildS Try.prog 126 H 2 [(0, v18), (1, v19)]) fun v20 h20 =>
(cvS Try.prog 126 9 h20 v20).bind fun v21 =>
(fldA Try.prog 24 s1 1).bind fun v22 =>
(ld Try.prog 22 h20 v22).bind fun v23 =>
b2 (rn k 123 [v23] h20) fun v24 h24 =>
aChk (cvS Try.prog 126 9 h24 v20 = some v21) <|
aChk (blk h24 (List.length H) = blk h20 (List.length H)) <|
(bin Try.prog .add 9 v21 v24).bind fun v25 =>
some ((.tuple #[v25, (.int .i64 0)]), h24) := by kernel_rfl
theorem f83_eq (k : Nat) (a0 : Value) (H : AH) : rn (k + 1) 83 [a0] H =
b2 (box 24 H a0) fun v1 h1 =>
(ld Try.prog 24 h1 v1).bind fun v2 =>
b2 (rn k 86 [v2] h1) fun v3 h3 =>
(un Try.prog .not v3).bind fun v4 =>
b2 (gOp v4 false ((fldA Try.prog 24 v1 1).bind fun v => some (v, h3)) h3) fun v5 h5 =>
b2 (gOp v4 false ((ld Try.prog 22 h5 v5).bind fun v => some (v, h5)) h5) fun v6 h6 =>
b2 (gOp v4 false ((lenV Try.prog 22 v6).bind fun v => some (v, h6)) h6) fun v7 h7 =>
b2 (gOp v4 false ((bin Try.prog .gtr 3 v7 (.int .i64 400)).bind fun v => some (v, h7)) h7) fun v8 h8 =>
(pickV v4 (.bool true) v8).bind fun v9 =>
aIf v9
 (some ((.tuple #[(.string ⟨#[]⟩), (.int .i64 1)]), h8))
 ((fldA Try.prog 24 v1 1).bind fun v10 =>
 (ld Try.prog 22 h8 v10).bind fun v11 =>
 (lenV Try.prog 22 v11).bind fun v12 =>
 (bin Try.prog .mul 3 (.int .i64 2) v12).bind fun v13 =>
 (fldA Try.prog 24 v1 0).bind fun v14 =>
 (ld Try.prog 4 h8 v14).bind fun v15 =>
 aIf v15
  ((bin Try.prog .add 3 v13 (.int .i64 1)).bind fun v16 =>
  f83_J0 k v1 v16 h8)
  (f83_J0 k v1 v13 h8)) := by kernel_rfl
abbrev f84_T_L0 (s0 s2 s5 s37 s38 : Value) : List Value := [s0, unk, s2, unk, unk, s5, unk, unk, unk, unk, unk, unk, unk, unk, unk, unk, unk, unk, unk, unk, unk, unk, unk, unk, unk, unk, unk, unk, unk, unk, unk, unk, unk, unk, unk, unk, unk, s37, s38, unk, unk, unk, unk, unk, unk, unk, unk, unk, unk, unk, unk, unk, unk, unk, unk, unk, unk, unk, unk, unk, unk, unk, unk, unk, unk, unk, unk, unk, unk, unk, unk, unk, unk, unk, unk, unk, unk, unk, unk, unk]
abbrev f84_X_L0 (s0 s2 s5 : Value) : List Value := [s0, unk, s2, unk, unk, s5, unk, unk, unk, unk, unk, unk, unk, unk, unk, unk, unk, unk, unk, unk, unk, unk, unk, unk, unk, unk, unk, unk, unk, unk, unk, unk, unk, unk, unk, unk, unk, unk, unk, unk, unk, unk, unk, unk, unk, unk, unk, unk, unk, unk, unk, unk, unk, unk, unk, unk, unk, unk, unk, unk, unk, unk, unk, unk, unk, unk, unk, unk, unk, unk, unk, unk, unk, unk, unk, unk, unk, unk, unk, unk]
@[irreducible] def f84_L0 (k : Nat) (s0 s2 s5 s37 s38 : Value) (n : Nat) (H : AH) : Option Out := iterD (fun T H K => evalK Try.prog (rn k) k (tbs 84) (codeAt (bodyOf Try.f84) [1, 1, 1, 1, 1, 0, 1, 0, 0]) T H K) (cutT (tbs 84) 28) (cutT (tbs 84) 29) n (f84_T_L0 s0 s2 s5 s37 s38) H
@[irreducible] def f84_A0 (k : Nat) (e : EX) (T : List Value) (H : AH) : Option (Value × AH) := resume Try.prog (rn k) k (tbs 84) (bodyOf Try.f84) [1, 1, 1, 1, 1, 0, 1, 0] e T H (resK Try.prog Try.f84.results.toList)
theorem f84_L0_succ (k : Nat) (s0 s2 s5 s37 s38 : Value) (n : Nat) (H : AH) : f84_L0 k s0 s2 s5 s37 s38 (n + 1) H =
(bin Try.prog .lss 3 s38 s37).bind fun v29 =>
aIf v29
 ((bin Try.prog .mul 3 (.int .i64 4) s38).bind fun v30 =>
 (bin Try.prog .add 3 (.int .i64 2) v30).bind fun v31 =>
 (slc Try.prog 9 s0 (some v31) none).bind fun v32 =>
 (fldA Try.prog 24 s2 1).bind fun v33 =>
 (ld Try.prog 22 H v33).bind fun v34 =>
 (ix Try.prog 9 v32 (.int .i64 0)).bind fun v35 =>
 (cv Try.prog 5 67 v35).bind fun v36 =>
 (ix Try.prog 9 v32 (.int .i64 1)).bind fun v37 =>
 (cv Try.prog 5 67 v37).bind fun v38 =>
 (bin Try.prog .shl 67 v38 (.int .u64 8)).bind fun v39 =>
 (bin Try.prog .or 67 v36 v39).bind fun v40 =>
 (ix Try.prog 9 v32 (.int .i64 2)).bind fun v41 =>
 (cv Try.prog 5 67 v41).bind fun v42 =>
 (bin Try.prog .shl 67 v42 (.int .u64 16)).bind fun v43 =>
 (bin Try.prog .or 67 v40 v43).bind fun v44 =>
 (ix Try.prog 9 v32 (.int .i64 3)).bind fun v45 =>
 (cv Try.prog 5 67 v45).bind fun v46 =>
 (bin Try.prog .shl 67 v46 (.int .u64 24)).bind fun v47 =>
 (bin Try.prog .or 67 v44 v47).bind fun v48 =>
 b2 (buildS Try.prog 22 H 1 [(0, v48)]) fun v49 h49 =>
 b2 (ap Try.prog 22 22 h49 v34 v49) fun v50 h50 =>
 (fldA Try.prog 24 s2 1).bind fun v51 =>
 (st Try.prog 22 h50 v51 v50).bind fun h52 =>
 (bin Try.prog .add 3 s38 (.int .i64 1)).bind fun v53 =>
 f84_L0 k s0 s2 s5 s37 v53 n h52)
 (some ((.exit 0), (f84_X_L0 s0 s2 s5), H)) := by kernel_rfl
theorem f84_A0_x0 (k : Nat) (s0 s2 s5 : Value) (H : AH) : f84_A0 k (.exit 0) (f84_X_L0 s0 s2 s5) H =
(ld Try.prog 24 H s2).bind fun v54 =>
b2 (rn k 86 [v54] H) fun v55 h55 =>
(un Try.prog .not v55).bind fun v56 =>
aIf v56
 ((build Try.prog 24 []).bind fun v57 =>
 (st Try.prog 24 h55 s2 v57).bind fun h58 =>
 ((ld Try.prog 24 h58 s2).bind fun v59 => some (v59 :: ((.string ⟨#[]⟩) :: ((.int .i64 2) :: [])))).bind fun vs => some (oneOf vs, h58))
 ((ld Try.prog 24 h55 s2).bind fun v60 =>
 (bin Try.prog .mul 3 (.int .i64 4) s5).bind fun v61 =>
 (bin Try.prog .add 3 (.int .i64 2) v61).bind fun v62 =>
 (slc Try.prog 9 s0 (some v62) none).bind fun v63 =>
 (st Try.prog 24 h55 s2 v60).bind fun h64 =>
 ((ld Try.prog 24 h64 s2).bind fun v65 => some (v65 :: (v63 :: ((.int .i64 0) :: [])))).bind fun vs => some (oneOf vs, h64)) := by kernel_rfl
theorem f84_eq (k : Nat) (a0 : Value) (H : AH) : rn (k + 1) 84 [a0] H =
b2 (newV Try.prog 24 H) fun v1 h1 =>
(lenV Try.prog 9 a0).bind fun v2 =>
(bin Try.prog .lss 3 v2 (.int .i64 2)).bind fun v3 =>
aIf v3
 ((build Try.prog 24 []).bind fun v4 =>
 (st Try.prog 24 h1 v1 v4).bind fun h5 =>
 ((ld Try.prog 24 h5 v1).bind fun v6 => some (v6 :: ((.string ⟨#[]⟩) :: ((.int .i64 2) :: [])))).bind fun vs => some (oneOf vs, h5))
 ((ix Try.prog 9 a0 (.int .i64 0)).bind fun v7 =>
 (cv Try.prog 5 3 v7).bind fun v8 =>
 (bin Try.prog .shl 3 v8 (.int .u64 8)).bind fun v9 =>
 (ix Try.prog 9 a0 (.int .i64 1)).bind fun v10 =>
 (cv Try.prog 5 3 v10).bind fun v11 =>
 (bin Try.prog .or 3 v9 v11).bind fun v12 =>
 (bin Try.prog .and 3 v12 (.int .i64 1)).bind fun v13 =>
 (bin Try.prog .neq 3 v13 (.int .i64 0)).bind fun v14 =>
 (fldA Try.prog 24 v1 0).bind fun v15 =>
 (st Try.prog 4 h1 v15 v14).bind fun h16 =>
 (bin Try.prog .quo 3 v12 (.int .i64 2)).bind fun v17 =>
 (bin Try.prog .gtr 3 v17 (.int .i64 400)).bind fun v18 =>
 b2 (gOp v18 false (some (a0, h16)) h16) fun v19 h19 =>
 b2 (gOp v18 false ((lenV Try.prog 9 v19).bind fun v => some (v, h19)) h19) fun v20 h20 =>
 b2 (gOp v18 false ((bin Try.prog .sub 3 v20 (.int .i64 2)).bind fun v => some (v, h20)) h20) fun v21 h21 =>
 b2 (gOp v18 false (some (v17, h21)) h21) fun v22 h22 =>
 b2 (gOp v18 false ((bin Try.prog .mul 3 (.int .i64 4) v22).bind fun v => some (v, h22)) h22) fun v23 h23 =>
 b2 (gOp v18 false ((bin Try.prog .lss 3 v21 v23).bind fun v => some (v, h23)) h23) fun v24 h24 =>
 (pickV v18 (.bool true) v24).bind fun v25 =>
 aIf v25
  ((build Try.prog 24 []).bind fun v26 =>
  (st Try.prog 24 h24 v1 v26).bind fun h27 =>
  ((ld Try.prog 24 h27 v1).bind fun v28 => some (v28 :: ((.string ⟨#[]⟩) :: ((.int .i64 2) :: [])))).bind fun vs => some (oneOf vs, h27))
  ((f84_L0 k a0 v1 v17 v17 (.int .i64 0) k h24).bind fun p => f84_A0 k p.1 p.2.1 p.2.2)) := by kernel_rfl
theorem f85_eq (k : Nat) (a0 : Value) (H : AH) : rn (k + 1) 85 [a0] H =
b2 (box 24 H a0) fun v1 h1 =>
(ld Try.prog 24 h1 v1).bind fun v2 =>
b2 (rn k 95 [v2] h1) fun v3 h3 =>
b2 (newV Try.prog 106 h3) fun v4 h4 =>
(st Try.prog 106 h4 v4 v3).bind fun h5 =>
(fldA Try.prog 106 v4 0).bind fun v6 =>
(fldA Try.prog 104 v6 0).bind fun v7 =>
(ld Try.prog 22 h5 v7).bind fun v8 =>
b2 (rn k 124 [v8] h5) fun v9 h9 =>
(ext v9 0).bind fun v10 =>
(ext v9 1).bind fun v11 =>
b2 (gOp v11 true ((fldA Try.prog 106 v4 1).bind fun v => some (v, h9)) h9) fun v12 h12 =>
b2 (gOp v11 true ((ld Try.prog 4 h12 v12).bind fun v => some (v, h12)) h12) fun v13 h13 =>
(pickV v11 v13 (.bool false)).bind fun v14 =>
b2 (gOp v14 true (some (v10, h13)) h13) fun v15 h15 =>
b2 (gOp v14 true ((bin Try.prog .leq 111 v15 (.int .u64 9223372036854775808)).bind fun v => some (v, h15)) h15) fun v16 h16 =>
(pickV v14 v16 (.bool false)).bind fun v17 =>
aIf v17
 ((un Try.prog .neg v10).bind fun v18 =>
 (cv Try.prog 111 3 v18).bind fun v19 =>
 some ((.tuple #[v19, (.bool true)]), h16))
 (b2 (gOp v11 true ((fldA Try.prog 106 v4 1).bind fun v => some (v, h16)) h16) fun v20 h20 =>
 b2 (gOp v11 true ((ld Try.prog 4 h20 v20).bind fun v => some (v, h20)) h20) fun v21 h21 =>
 b2 (gOp v11 true ((un Try.prog .not v21).bind fun v => some (v, h21)) h21) fun v22 h22 =>
 (pickV v11 v22 (.bool false)).bind fun v23 =>
 b2 (gOp v23 true (some (v10, h22)) h22) fun v24 h24 =>
 b2 (gOp v23 true ((bin Try.prog .lss 111 v24 (.int .u64 9223372036854775808)).bind fun v => some (v, h24)) h24) fun v25 h25 =>
 (pickV v23 v25 (.bool false)).bind fun v26 =>
 aIf v26
  ((cv Try.prog 111 3 v10).bind fun v27 =>
  some ((.tuple #[v27, (.bool true)]), h25))
  (some ((.tuple #[(.int .i64 0), (.bool false)]), h25))) := by kernel_rfl
theorem f86_eq (k : Nat) (a0 : Value) (H : AH) : rn (k + 1) 86 [a0] H =
b2 (box 24 H a0) fun v1 h1 =>
(fldA Try.prog 24 v1 1).bind fun v2 =>
(ld Try.prog 22 h1 v2).bind fun v3 =>
(lenV Try.prog 22 v3).bind fun v4 =>
(bin Try.prog .eql 3 v4 (.int .i64 0)).bind fun v5 =>
aIf v5
 ((fldA Try.prog 24 v1 0).bind fun v6 =>
 (ld Try.prog 4 h1 v6).bind fun v7 =>
 (un Try.prog .not v7).bind fun v8 =>
 some (v8, h1))
 ((fldA Try.prog 24 v1 1).bind fun v9 =>
 (ld Try.prog 22 h1 v9).bind fun v10 =>
 (fldA Try.prog 24 v1 1).bind fun v11 =>
 (ld Try.prog 22 h1 v11).bind fun v12 =>
 (lenV Try.prog 22 v12).bind fun v13 =>
 (bin Try.prog .sub 3 v13 (.int .i64 1)).bind fun v14 =>
 (ixA Try.prog 22 v10 v14).bind fun v15 =>
 (ld Try.prog 67 h1 v15).bind fun v16 =>
 (bin Try.prog .neq 67 v16 (.int .u32 0)).bind fun v17 =>
 some (v17, h1)) := by kernel_rfl
theorem f95_eq (k : Nat) (a0 : Value) (H : AH) : rn (k + 1) 95 [a0] H =
b2 (box 24 H a0) fun v1 h1 =>
b2 (newV Try.prog 106 h1) fun v2 h2 =>
(fldA Try.prog 24 v1 1).bind fun v3 =>
(ld Try.prog 22 h2 v3).bind fun v4 =>
b2 (rn k 110 [v4] h2) fun v5 h5 =>
(build Try.prog 104 [(0, v5)]).bind fun v6 =>
(fldA Try.prog 24 v1 0).bind fun v7 =>
(ld Try.prog 4 h5 v7).bind fun v8 =>
b2 (gOp v8 true (some (v5, h5)) h5) fun v9 h9 =>
b2 (gOp v8 true ((lenV Try.prog 22 v9).bind fun v => some (v, h9)) h9) fun v10 h10 =>
b2 (gOp v8 true ((bin Try.prog .gtr 3 v10 (.int .i64 0)).bind fun v => some (v, h10)) h10) fun v11 h11 =>
(pickV v8 v11 (.bool false)).bind fun v12 =>
(build Try.prog 106 [(0, v6), (1, v12)]).bind fun v13 =>
(st Try.prog 106 h11 v2 v13).bind fun h14 =>
((ld Try.prog 106 h14 v2).bind fun v15 => some (v15 :: [])).bind fun vs => some (oneOf vs, h14) := by kernel_rfl
abbrev f96_T_J0 (s0 s1 : Value) : List Value := [s0, s1, unk, unk, unk, unk, unk, unk, unk, unk, unk, unk, unk, unk, unk, unk, unk, unk, unk, unk, unk, unk, unk, unk, unk, unk, unk, unk, unk, unk, unk, unk, unk, unk, unk, unk, unk, unk, unk, unk, unk, unk, unk, unk, unk, unk, unk, unk, unk, unk, unk, unk, unk, unk]
abbrev f96_T_L0 (s0 s1 s5 s6 s21 s22 : Value) : List Value := [s0, s1, unk, unk, unk, s5, s6, unk, unk, unk, unk, unk, unk, unk, unk, unk, unk, unk, unk, unk, unk, s21, s22, unk, unk, unk, unk, unk, unk, unk, unk, unk, unk, unk, unk, unk, unk, unk, unk, unk, unk, unk, unk, unk, unk, unk, unk, unk, unk, unk, unk, unk, unk, unk]
abbrev f96_X_L0 (s0 s5 s6 : Value) : List Value := [s0, unk, unk, unk, unk, s5, s6, unk, unk, unk, unk, unk, unk, unk, unk, unk, unk, unk, unk, unk, unk, unk, unk, unk, unk, unk, unk, unk, unk, unk, unk, unk, unk, unk, unk, unk, unk, unk, unk, unk, unk, unk, unk, unk, unk, unk, unk, unk, unk, unk, unk, unk, unk, unk]
abbrev f96_T_J1 (s0 s1 s5 s6 s7 s8 s21 s22 : Value) : List Value := [s0, s1, unk, unk, unk, s5, s6, s7, s8, unk, unk, unk, unk, unk, unk, unk, unk, unk, unk, unk, unk, s21, s22, unk, unk, unk, unk, unk, unk, unk, unk, unk, unk, unk, unk, unk, unk, unk, unk, unk, unk, unk, unk, unk, unk, unk, unk, unk, unk, unk, unk, unk, unk, unk]
@[irreducible] def f96_J0 (k : Nat) (s0 s1 : Value) (H : AH) : Option (Value × AH) := resume Try.prog (rn k) k (tbs 96) (bodyOf Try.f96) [1, 0] .normal (f96_T_J0 s0 s1) H (resK Try.prog Try.f96.results.toList)
@[irreducible] def f96_L0 (k : Nat) (s0 s1 s5 s6 s21 s22 : Value) (n : Nat) (H : AH) : Option Out := iterD (fun T H K => evalK Try.prog (rn k) k (tbs 96) (codeAt (bodyOf Try.f96) [1, 1, 1, 1, 0, 1, 0, 0]) T H K) (cutT (tbs 96) 19) (cutT (tbs 96) 20) n (f96_T_L0 s0 s1 s5 s6 s21 s22) H
@[irreducible] def f96_A0 (k : Nat) (e : EX) (T : List Value) (H : AH) : Option (Value × AH) := resume Try.prog (rn k) k (tbs 96) (bodyOf Try.f96) [1, 1, 1, 1, 0, 1, 0] e T H (resK Try.prog Try.f96.results.toList)
@[irreducible] def f96_J1 (k : Nat) (n : Nat) (s0 s1 s5 s6 s7 s8 s21 s22 : Value) (H : AH) : Option Out := resume Try.prog (rn k) k (tbs 96) (codeAt (bodyOf Try.f96) [1, 1, 1, 1, 0, 1, 0, 0]) [1, 1, 0, 0, 1, 1, 0] .normal (f96_T_J1 s0 s1 s5 s6 s7 s8 s21 s22) H (loopK (iterD (fun T H K => evalK Try.prog (rn k) k (tbs 96) (codeAt (bodyOf Try.f96) [1, 1, 1, 1, 0, 1, 0, 0]) T H K) (cutT (tbs 96) 19) (cutT (tbs 96) 20) n) (cutT (tbs 96) 19) (cutT (tbs 96) 20))
theorem f96_J0_eq (k : Nat) (s0 s1 : Value) (H : AH) : f96_J0 k s0 s1 H =
(lenV Try.prog 22 s0).bind fun v4 =>
(bin Try.prog .add 3 v4 (.int .i64 1)).bind fun v5 =>
b2 (mkS Try.prog 22 H v5 v5) fun v6 h6 =>
(lenV Try.prog 22 s0).bind fun v7 =>
(f96_L0 k s0 s1 v6 (.int .u32 0) v7 (.int .i64 0) k h6).bind fun p => f96_A0 k p.1 p.2.1 p.2.2 := by kernel_rfl
theorem f96_L0_succ (k : Nat) (s0 s1 s5 s6 s21 s22 : Value) (n : Nat) (H : AH) : f96_L0 k s0 s1 s5 s6 s21 s22 (n + 1) H =
(bin Try.prog .lss 3 s22 s21).bind fun v8 =>
aIf v8
 ((lenV Try.prog 22 s1).bind fun v9 =>
 (bin Try.prog .lss 3 s22 v9).bind fun v10 =>
 aIf v10
  ((ixA Try.prog 22 s1 s22).bind fun v11 =>
  (ld Try.prog 67 H v11).bind fun v12 =>
  f96_J1 k n s0 s1 s5 s6 s22 v12 s21 s22 H)
  (f96_J1 k n s0 s1 s5 s6 s22 (.int .u32 0) s21 s22 H))
 (some ((.exit 0), (f96_X_L0 s0 s5 s6), H)) := by kernel_rfl
theorem f96_A0_x0 (k : Nat) (s0 s5 s6 : Value) (H : AH) : f96_A0 k (.exit 0) (f96_X_L0 s0 s5 s6) H =
(lenV Try.prog 22 s0).bind fun v13 =>
(ixA Try.prog 22 s5 v13).bind fun v14 =>
(st Try.prog 67 H v14 s6).bind fun h15 =>
b2 (rn k 108 [s5] h15) fun v16 h16 =>
some (v16, h16) := by kernel_rfl
theorem f96_J1_eq (k : Nat) (n : Nat) (s0 s1 s5 s6 s7 s8 s21 s22 : Value) (H : AH) : f96_J1 k n s0 s1 s5 s6 s7 s8 s21 s22 H =
(ixA Try.prog 22 s0 s7).bind fun v17 =>
(ld Try.prog 67 H v17).bind fun v18 =>
b2 (rn k 125 [v18, s8, s6] H) fun v19 h19 =>
(ext v19 0).bind fun v20 =>
(ext v19 1).bind fun v21 =>
(ixA Try.prog 22 s5 s7).bind fun v22 =>
(st Try.prog 67 h19 v22 v20).bind fun h23 =>
(bin Try.prog .add 3 s22 (.int .i64 1)).bind fun v24 =>
f96_L0 k s0 s1 s5 v21 s21 v24 n h23 := by kernel_rfl
theorem f96_eq (k : Nat) (a0 a1 : Value) (H : AH) : rn (k + 1) 96 [a0, a1] H =
(lenV Try.prog 22 a0).bind fun v1 =>
(lenV Try.prog 22 a1).bind fun v2 =>
(bin Try.prog .lss 3 v1 v2).bind fun v3 =>
aIf v3
 (f96_J0 k a1 a0 H)
 (f96_J0 k a0 a1 H) := by kernel_rfl
abbrev f97_T_L0 (s0 s1 s23 s24 : Value) : List Value := [s0, s1, unk, unk, unk, unk, unk, unk, unk, unk, unk, unk, unk, unk, unk, unk, unk, unk, unk, unk, unk, unk, unk, s23, s24, unk, unk, unk, unk, unk, unk, unk, unk, unk, unk, unk, unk, unk, unk, unk, unk, unk, unk, unk, unk, unk, unk, unk, unk, unk, unk, unk]
abbrev f97_X_L0 (s4 : Value) : List Value := [unk, unk, unk, unk, s4, unk, unk, unk, unk, unk, unk, unk, unk, unk, unk, unk, unk, unk, unk, unk, unk, unk, unk, unk, unk, unk, unk, unk, unk, unk, unk, unk, unk, unk, unk, unk, unk, unk, unk, unk, unk, unk, unk, unk, unk, unk, unk, unk, unk, unk, unk, unk]
@[irreducible] def f97_L0 (k : Nat) (s0 s1 s23 s24 : Value) (n : Nat) (H : AH) : Option Out := iterD (fun T H K => evalK Try.prog (rn k) k (tbs 97) (codeAt (bodyOf Try.f97) [1, 1, 1, 0, 1, 0, 0]) T H K) (cutT (tbs 97) 22) (cutT (tbs 97) 23) n (f97_T_L0 s0 s1 s23 s24) H
@[irreducible] def f97_A0 (k : Nat) (e : EX) (T : List Value) (H : AH) : Option (Value × AH) := resume Try.prog (rn k) k (tbs 97) (bodyOf Try.f97) [1, 1, 1, 0, 1, 0] e T H (resK Try.prog Try.f97.results.toList)
theorem f97_L0_succ (k : Nat) (s0 s1 s23 s24 : Value) (n : Nat) (H : AH) : f97_L0 k s0 s1 s23 s24 (n + 1) H =
(bin Try.prog .lss 3 s24 s23).bind fun v10 =>
aIf v10
 ((lenV Try.prog 22 s0).bind fun v11 =>
 (bin Try.prog .sub 3 v11 (.int .i64 1)).bind fun v12 =>
 (bin Try.prog .sub 3 v12 s24).bind fun v13 =>
 (ixA Try.prog 22 s0 v13).bind fun v14 =>
 (ld Try.prog 67 H v14).bind fun v15 =>
 (lenV Try.prog 22 s1).bind fun v16 =>
 (bin Try.prog .sub 3 v16 (.int .i64 1)).bind fun v17 =>
 (bin Try.prog .sub 3 v17 s24).bind fun v18 =>
 (ixA Try.prog 22 s1 v18).bind fun v19 =>
 (ld Try.prog 67 H v19).bind fun v20 =>
 (bin Try.prog .lss 67 v15 v20).bind fun v21 =>
 aIf v21
  (some (.ret, (f97_X_L0 (.int .i64 (-1))), H))
  ((bin Try.prog .gtr 67 v15 v20).bind fun v22 =>
  aIf v22
   (some (.ret, (f97_X_L0 (.int .i64 1)), H))
   ((bin Try.prog .add 3 s24 (.int .i64 1)).bind fun v23 =>
   f97_L0 k s0 s1 s23 v23 n H)))
 (some ((.exit 0), (f97_X_L0 unk), H)) := by kernel_rfl
theorem f97_A0_x0 (k : Nat) (s4 : Value) (H : AH) : f97_A0 k (.exit 0) (f97_X_L0 s4) H =
some ((.int .i64 0), H) := by kernel_rfl
theorem f97_A0_ret (k : Nat) (s4 : Value) (H : AH) : f97_A0 k .ret (f97_X_L0 s4) H =
some (s4, H) := by kernel_rfl
theorem f97_eq (k : Nat) (a0 a1 : Value) (H : AH) : rn (k + 1) 97 [a0, a1] H =
b2 (rn k 108 [a0] H) fun v1 h1 =>
b2 (rn k 108 [a1] h1) fun v2 h2 =>
(lenV Try.prog 22 v1).bind fun v3 =>
(lenV Try.prog 22 v2).bind fun v4 =>
(bin Try.prog .neq 3 v3 v4).bind fun v5 =>
aIf v5
 ((lenV Try.prog 22 v1).bind fun v6 =>
 (lenV Try.prog 22 v2).bind fun v7 =>
 (bin Try.prog .lss 3 v6 v7).bind fun v8 =>
 aIf v8
  (some ((.int .i64 (-1)), h2))
  (some ((.int .i64 1), h2)))
 ((lenV Try.prog 22 v1).bind fun v9 =>
 (f97_L0 k v1 v2 v9 (.int .i64 0) k h2).bind fun p => f97_A0 k p.1 p.2.1 p.2.2) := by kernel_rfl
theorem f99_eq (k : Nat) (a0 : Value) (H : AH) : rn (k + 1) 99 [a0] H =
(cv Try.prog 111 67 a0).bind fun v1 =>
(bin Try.prog .shr 111 a0 (.int .u64 32)).bind fun v2 =>
(cv Try.prog 111 67 v2).bind fun v3 =>
b2 (buildS Try.prog 22 H 2 [(0, v1), (1, v3)]) fun v4 h4 =>
b2 (rn k 108 [v4] h4) fun v5 h5 =>
some (v5, h5) := by kernel_rfl
theorem f100_eq (k : Nat) (a0 : Value) (H : AH) : rn (k + 1) 100 [a0] H =
b2 (box 106 H a0) fun v1 h1 =>
b2 (newV Try.prog 24 h1) fun v2 h2 =>
(fldA Try.prog 106 v1 1).bind fun v3 =>
(ld Try.prog 4 h2 v3).bind fun v4 =>
b2 (gOp v4 true ((fldA Try.prog 106 v1 0).bind fun v => some (v, h2)) h2) fun v5 h5 =>
b2 (gOp v4 true ((ld Try.prog 104 h5 v5).bind fun v => some (v, h5)) h5) fun v6 h6 =>
b2 (gOp v4 true (b2 (rn k 127 [v6] h5) fun v h => some (v, h)) h5) fun v7 h7 =>
b2 (gOp v4 true ((un Try.prog .not v7).bind fun v => some (v, h7)) h7) fun v8 h8 =>
(pickV v4 v8 (.bool false)).bind fun v9 =>
(fldA Try.prog 106 v1 0).bind fun v10 =>
(fldA Try.prog 104 v10 0).bind fun v11 =>
(ld Try.prog 22 h8 v11).bind fun v12 =>
aChk (ld Try.prog 22 h5 v11 = some v12) <|
(build Try.prog 24 [(0, v9), (1, v12)]).bind fun v13 =>
(st Try.prog 24 h8 v2 v13).bind fun h14 =>
((ld Try.prog 24 h14 v2).bind fun v15 => some (v15 :: [])).bind fun vs => some (oneOf vs, h14) := by kernel_rfl
theorem f101_eq (k : Nat) (a0 a1 : Value) (H : AH) : rn (k + 1) 101 [a0, a1] H =
(bin Try.prog .geq 3 a1 (.int .i64 0)).bind fun v1 =>
b2 (gOp v1 true (some (a1, H)) H) fun v2 h2 =>
b2 (gOp v1 true ((bin Try.prog .quo 3 v2 (.int .i64 32)).bind fun v => some (v, h2)) h2) fun v3 h3 =>
b2 (gOp v1 true (some (a0, h3)) h3) fun v4 h4 =>
b2 (gOp v1 true ((lenV Try.prog 22 v4).bind fun v => some (v, h4)) h4) fun v5 h5 =>
b2 (gOp v1 true ((bin Try.prog .lss 3 v3 v5).bind fun v => some (v, h5)) h5) fun v6 h6 =>
(pickV v1 v6 (.bool false)).bind fun v7 =>
b2 (gOp v7 true (some (a0, h6)) h6) fun v8 h8 =>
b2 (gOp v7 true (some (a1, h8)) h8) fun v9 h9 =>
b2 (gOp v7 true ((bin Try.prog .quo 3 v9 (.int .i64 32)).bind fun v => some (v, h9)) h9) fun v10 h10 =>
b2 (gOp v7 true ((ixA Try.prog 22 v8 v10).bind fun v => some (v, h10)) h10) fun v11 h11 =>
b2 (gOp v7 true ((ld Try.prog 67 h11 v11).bind fun v => some (v, h11)) h11) fun v12 h12 =>
b2 (gOp v7 true (some (a1, h11)) h11) fun v13 h13 =>
b2 (gOp v7 true ((bin Try.prog .rem 3 v13 (.int .i64 32)).bind fun v => some (v, h13)) h13) fun v14 h14 =>
b2 (gOp v7 true ((bin Try.prog .shl 67 (.int .u32 1) v14).bind fun v => some (v, h14)) h14) fun v15 h15 =>
b2 (gOp v7 true ((bin Try.prog .and 67 v12 v15).bind fun v => some (v, h15)) h15) fun v16 h16 =>
b2 (gOp v7 true ((bin Try.prog .neq 67 v16 (.int .u32 0)).bind fun v => some (v, h16)) h16) fun v17 h17 =>
(pickV v7 v17 (.bool false)).bind fun v18 =>
some (v18, h17) := by kernel_rfl
abbrev f102_T_L0 (s0 s1 s5 s27 s28 : Value) : List Value := [s0, s1, unk, unk, unk, s5, unk, unk, unk, unk, unk, unk, unk, unk, unk, unk, unk, unk, unk, unk, unk, unk, unk, unk, unk, unk, unk, s27, s28, unk, unk, unk, unk, unk, unk, unk, unk, unk, unk, unk, unk, unk, unk, unk, unk, unk, unk, unk, unk, unk, unk, unk, unk, unk, unk, unk, unk, unk, unk, unk, unk]
abbrev f102_X_L0 (s5 : Value) : List Value := [unk, unk, unk, unk, unk, s5, unk, unk, unk, unk, unk, unk, unk, unk, unk, unk, unk, unk, unk, unk, unk, unk, unk, unk, unk, unk, unk, unk, unk, unk, unk, unk, unk, unk, unk, unk, unk, unk, unk, unk, unk, unk, unk, unk, unk, unk, unk, unk, unk, unk, unk, unk, unk, unk, unk, unk, unk, unk, unk, unk, unk]
abbrev f102_T_J0 (s0 s1 s5 s6 s7 s27 s28 : Value) : List Value := [s0, s1, unk, unk, unk, s5, s6, s7, unk, unk, unk, unk, unk, unk, unk, unk, unk, unk, unk, unk, unk, unk, unk, unk, unk, unk, unk, s27, s28, unk, unk, unk, unk, unk, unk, unk, unk, unk, unk, unk, unk, unk, unk, unk, unk, unk, unk, unk, unk, unk, unk, unk, unk, unk, unk, unk, unk, unk, unk, unk, unk]
@[irreducible] def f102_L0 (k : Nat) (s0 s1 s5 s27 s28 : Value) (n : Nat) (H : AH) : Option Out := iterD (fun T H K => evalK Try.prog (rn k) k (tbs 102) (codeAt (bodyOf Try.f102) [1, 1, 1, 1, 1, 1, 0, 1, 0, 0]) T H K) (cutT (tbs 102) 28) (cutT (tbs 102) 29) n (f102_T_L0 s0 s1 s5 s27 s28) H
@[irreducible] def f102_A0 (k : Nat) (e : EX) (T : List Value) (H : AH) : Option (Value × AH) := resume Try.prog (rn k) k (tbs 102) (bodyOf Try.f102) [1, 1, 1, 1, 1, 1, 0, 1, 0] e T H (resK Try.prog Try.f102.results.toList)
@[irreducible] def f102_J0 (k : Nat) (n : Nat) (s0 s1 s5 s6 s7 s27 s28 : Value) (H : AH) : Option Out := resume Try.prog (rn k) k (tbs 102) (codeAt (bodyOf Try.f102) [1, 1, 1, 1, 1, 1, 0, 1, 0, 0]) [1, 1, 0, 0, 1, 1, 0] .normal (f102_T_J0 s0 s1 s5 s6 s7 s27 s28) H (loopK (iterD (fun T H K => evalK Try.prog (rn k) k (tbs 102) (codeAt (bodyOf Try.f102) [1, 1, 1, 1, 1, 1, 0, 1, 0, 0]) T H K) (cutT (tbs 102) 28) (cutT (tbs 102) 29) n) (cutT (tbs 102) 28) (cutT (tbs 102) 29))
theorem f102_L0_succ (k : Nat) (s0 s1 s5 s27 s28 : Value) (n : Nat) (H : AH) : f102_L0 k s0 s1 s5 s27 s28 (n + 1) H =
(bin Try.prog .lss 3 s28 s27).bind fun v12 =>
aIf v12
 ((ixA Try.prog 22 s0 s28).bind fun v13 =>
 (ld Try.prog 67 H v13).bind fun v14 =>
 (cv Try.prog 67 111 v14).bind fun v15 =>
 (bin Try.prog .add 3 s28 (.int .i64 1)).bind fun v16 =>
 (lenV Try.prog 22 s0).bind fun v17 =>
 (bin Try.prog .lss 3 v16 v17).bind fun v18 =>
 aIf v18
  ((bin Try.prog .add 3 s28 (.int .i64 1)).bind fun v19 =>
  (ixA Try.prog 22 s0 v19).bind fun v20 =>
  (ld Try.prog 67 H v20).bind fun v21 =>
  (cv Try.prog 67 111 v21).bind fun v22 =>
  (bin Try.prog .shl 111 v22 (.int .u64 32)).bind fun v23 =>
  (bin Try.prog .or 111 v15 v23).bind fun v24 =>
  f102_J0 k n s0 s1 s5 s28 v24 s27 s28 H)
  (f102_J0 k n s0 s1 s5 s28 v15 s27 s28 H))
 (some ((.exit 0), (f102_X_L0 s5), H)) := by kernel_rfl
theorem f102_A0_x0 (k : Nat) (s5 : Value) (H : AH) : f102_A0 k (.exit 0) (f102_X_L0 s5) H =
b2 (rn k 108 [s5] H) fun v25 h25 =>
some (v25, h25) := by kernel_rfl
theorem f102_J0_eq (k : Nat) (n : Nat) (s0 s1 s5 s6 s7 s27 s28 : Value) (H : AH) : f102_J0 k n s0 s1 s5 s6 s7 s27 s28 H =
(bin Try.prog .rem 3 s1 (.int .i64 32)).bind fun v26 =>
(bin Try.prog .shr 111 s7 v26).bind fun v27 =>
(cv Try.prog 111 67 v27).bind fun v28 =>
(ixA Try.prog 22 s5 s6).bind fun v29 =>
(st Try.prog 67 H v29 v28).bind fun h30 =>
(bin Try.prog .add 3 s28 (.int .i64 1)).bind fun v31 =>
f102_L0 k s0 s1 s5 s27 v31 n h30 := by kernel_rfl
theorem f102_eq (k : Nat) (a0 a1 : Value) (H : AH) : rn (k + 1) 102 [a0, a1] H =
b2 (rn k 108 [a0] H) fun v1 h1 =>
(bin Try.prog .lss 3 a1 (.int .i64 0)).bind fun v2 =>
aIf v2
 (b2 (rn k 128 [v1] h1) fun v3 h3 =>
 some (v3, h3))
 ((bin Try.prog .quo 3 a1 (.int .i64 32)).bind fun v4 =>
 (lenV Try.prog 22 v1).bind fun v5 =>
 (bin Try.prog .geq 3 v4 v5).bind fun v6 =>
 aIf v6
  (some ((.slice none 0 0), h1))
  ((bin Try.prog .quo 3 a1 (.int .i64 32)).bind fun v7 =>
  (slc Try.prog 22 v1 (some v7) none).bind fun v8 =>
  (lenV Try.prog 22 v8).bind fun v9 =>
  b2 (mkS Try.prog 22 h1 v9 v9) fun v10 h10 =>
  (lenV Try.prog 22 v8).bind fun v11 =>
  (f102_L0 k v8 a1 v10 v11 (.int .i64 0) k h10).bind fun p => f102_A0 k p.1 p.2.1 p.2.2)) := by kernel_rfl
abbrev f103_T_L0 (s2 s3 s5 : Value) : List Value := [unk, unk, s2, s3, unk, s5, unk, unk, unk, unk, unk, unk, unk, unk, unk, unk, unk, unk, unk, unk, unk, unk, unk, unk, unk, unk, unk, unk, unk, unk, unk, unk, unk, unk, unk, unk, unk, unk]
abbrev f103_X_L0 (s4 : Value) : List Value := [unk, unk, unk, unk, s4, unk, unk, unk, unk, unk, unk, unk, unk, unk, unk, unk, unk, unk, unk, unk, unk, unk, unk, unk, unk, unk, unk, unk, unk, unk, unk, unk, unk, unk, unk, unk, unk, unk]
@[irreducible] def f103_L0 (k : Nat) (s2 s3 s5 : Value) (n : Nat) (H : AH) : Option Out := iterD (fun T H K => evalK Try.prog (rn k) k (tbs 103) (codeAt (bodyOf Try.f103) [1, 1, 0, 1, 0, 0]) T H K) (cutT (tbs 103) 13) (cutT (tbs 103) 14) n (f103_T_L0 s2 s3 s5) H
@[irreducible] def f103_A0 (k : Nat) (e : EX) (T : List Value) (H : AH) : Option (Value × AH) := resume Try.prog (rn k) k (tbs 103) (bodyOf Try.f103) [1, 1, 0, 1, 0] e T H (resK Try.prog Try.f103.results.toList)
theorem f103_L0_succ (k : Nat) (s2 s3 s5 : Value) (n : Nat) (H : AH) : f103_L0 k s2 s3 s5 (n + 1) H =
(fldA Try.prog 24 s2 1).bind fun v16 =>
(ld Try.prog 22 H v16).bind fun v17 =>
(lenV Try.prog 22 v17).bind fun v18 =>
(bin Try.prog .lss 3 s5 v18).bind fun v19 =>
aIf v19
 ((fldA Try.prog 24 s2 1).bind fun v20 =>
 (ld Try.prog 22 H v20).bind fun v21 =>
 (ixA Try.prog 22 v21 s5).bind fun v22 =>
 (ld Try.prog 67 H v22).bind fun v23 =>
 (fldA Try.prog 24 s3 1).bind fun v24 =>
 (ld Try.prog 22 H v24).bind fun v25 =>
 (ixA Try.prog 22 v25 s5).bind fun v26 =>
 (ld Try.prog 67 H v26).bind fun v27 =>
 (bin Try.prog .neq 67 v23 v27).bind fun v28 =>
 aIf v28
  (some (.ret, (f103_X_L0 (.bool false)), H))
  ((bin Try.prog .add 3 s5 (.int .i64 1)).bind fun v29 =>
  f103_L0 k s2 s3 v29 n H))
 (some ((.exit 0), (f103_X_L0 unk), H)) := by kernel_rfl
theorem f103_A0_x0 (k : Nat) (s4 : Value) (H : AH) : f103_A0 k (.exit 0) (f103_X_L0 s4) H =
some ((.bool true), H) := by kernel_rfl
theorem f103_A0_ret (k : Nat) (s4 : Value) (H : AH) : f103_A0 k .ret (f103_X_L0 s4) H =
some (s4, H) := by kernel_rfl
theorem f103_eq (k : Nat) (a0 a1 : Value) (H : AH) : rn (k + 1) 103 [a0, a1] H =
b2 (box 24 H a0) fun v1 h1 =>
b2 (box 24 h1 a1) fun v2 h2 =>
(fldA Try.prog 24 v1 0).bind fun v3 =>
(ld Try.prog 4 h2 v3).bind fun v4 =>
(fldA Try.prog 24 v2 0).bind fun v5 =>
(ld Try.prog 4 h2 v5).bind fun v6 =>
(bin Try.prog .neq 4 v4 v6).bind fun v7 =>
b2 (gOp v7 false ((fldA Try.prog 24 v1 1).bind fun v => some (v, h2)) h2) fun v8 h8 =>
b2 (gOp v7 false ((ld Try.prog 22 h8 v8).bind fun v => some (v, h8)) h8) fun v9 h9 =>
b2 (gOp v7 false ((lenV Try.prog 22 v9).bind fun v => some (v, h9)) h9) fun v10 h10 =>
b2 (gOp v7 false ((fldA Try.prog 24 v2 1).bind fun v => some (v, h10)) h10) fun v11 h11 =>
b2 (gOp v7 false ((ld Try.prog 22 h11 v11).bind fun v => some (v, h11)) h11) fun v12 h12 =>
b2 (gOp v7 false ((lenV Try.prog 22 v12).bind fun v => some (v, h12)) h12) fun v13 h13 =>
b2 (gOp v7 false ((bin Try.prog .neq 3 v10 v13).bind fun v => some (v, h13)) h13) fun v14 h14 =>
(pickV v7 (.bool true) v14).bind fun v15 =>
aIf v15
 (some ((.bool false), h14))
 ((f103_L0 k v1 v2 (.int .i64 0) k h14).bind fun p => f103_A0 k p.1 p.2.1 p.2.2) := by kernel_rfl
end
end Go.AM.Y
set_option linter.unusedVariables false
set_option maxRecDepth 100000
namespace Go.AM.Y
open Go Go.AM Go.Proofs
noncomputable section
abbrev f108_T_L0 (s0 : Value) : List Value := [s0, unk, unk, unk, unk, unk, unk, unk, unk, unk, unk, unk, unk, unk, unk, unk, unk, unk, unk, unk, unk]
abbrev f108_X_L0 (s0 : Value) : List Value := [s0, unk, unk, unk, unk, unk, unk, unk, unk, unk, unk, unk, unk, unk, unk, unk, unk, unk, unk, unk, unk]
@[irreducible] def f108_L0 (k : Nat) (s0 : Value) (n : Nat) (H : AH) : Option Out := iterD (fun T H K => evalK Try.prog (rn k) k (tbs 108) (codeAt (bodyOf Try.f108) [1, 0, 0, 0]) T H K) (cutT (tbs 108) 4) (cutT (tbs 108) 5) n (f108_T_L0 s0) H
@[irreducible] def f108_A0 (k : Nat) (e : EX) (T : List Value) (H : AH) : Option (Value × AH) := resume Try.prog (rn k) k (tbs 108) (bodyOf Try.f108) [1, 0, 0] e T H (resK Try.prog Try.f108.results.toList)
theorem f108_L0_succ (k : Nat) (s0 : Value) (n : Nat) (H : AH) : f108_L0 k s0 (n + 1) H =
(lenV Try.prog 22 s0).bind fun v1 =>
(bin Try.prog .gtr 3 v1 (.int .i64 0)).bind fun v2 =>
b2 (gOp v2 true (some (s0, H)) H) fun v3 h3 =>
b2 (gOp v2 true (some (s0, h3)) h3) fun v4 h4 =>
b2 (gOp v2 true ((lenV Try.prog 22 v4).bind fun v => some (v, h4)) h4) fun v5 h5 =>
b2 (gOp v2 true ((bin Try.prog .sub 3 v5 (.int .i64 1)).bind fun v => some (v, h5)) h5) fun v6 h6 =>
b2 (gOp v2 true ((ixA Try.prog 22 v3 v6).bind fun v => some (v, h6)) h6) fun v7 h7 =>
b2 (gOp v2 true ((ld Try.prog 67 h7 v7).bind fun v => some (v, h7)) h7) fun v8 h8 =>
b2 (gOp v2 true ((bin Try.prog .eql 67 v8 (.int .u32 0)).bind fun v => some (v, h8)) h8) fun v9 h9 =>
(pickV v2 v9 (.bool false)).bind fun v10 =>
aIf v10
 ((lenV Try.prog 22 s0).bind fun v11 =>
 (bin Try.prog .sub 3 v11 (.int .i64 1)).bind fun v12 =>
 (slc Try.prog 22 s0 none (some v12)).bind fun v13 =>
 f108_L0 k v13 n h9)
 (some ((.exit 0), (f108_X_L0 s0), h9)) := by kernel_rfl
theorem f108_A0_x0 (k : Nat) (s0 : Value) (H : AH) : f108_A0 k (.exit 0) (f108_X_L0 s0) H =
some (s0, H) := by kernel_rfl
theorem f108_eq (k : Nat) (a0 : Value) (H : AH) : rn (k + 1) 108 [a0] H =
(f108_L0 k a0 k H).bind fun p => f108_A0 k p.1 p.2.1 p.2.2 := by kernel_rfl
abbrev f109_T_J0 (s0 s2 : Value) : List Value := [s0, unk, s2, unk, unk, unk, unk, unk, unk, unk, unk, unk, unk, unk, unk, unk, unk, unk, unk]
abbrev f109_T_J1 (s0 s2 : Value) : List Value := [s0, unk, s2, unk, unk, unk, unk, unk, unk, unk, unk, unk, unk, unk, unk, unk, unk, unk, unk]
@[irreducible] def f109_J0 (k : Nat) (s0 s2 : Value) (H : AH) : Option (Value × AH) := resume Try.prog (rn k) k (tbs 109) (bodyOf Try.f109) [1, 0] .normal (f109_T_J0 s0 s2) H (resK Try.prog Try.f109.results.toList)
@[irreducible] def f109_J1 (k : Nat) (s0 s2 : Value) (H : AH) : Option (Value × AH) := resume Try.prog (rn k) k (tbs 109) (bodyOf Try.f109) [1, 1, 0] .normal (f109_T_J1 s0 s2) H (resK Try.prog Try.f109.results.toList)
theorem f109_J0_eq (k : Nat) (s0 s2 : Value) (H : AH) : f109_J0 k s0 s2 H =
(bin Try.prog .geq 67 s0 (.int .u32 256)).bind fun v3 =>
aIf v3
 ((bin Try.prog .shr 67 s0 (.int .u64 8)).bind fun v4 =>
 (bin Try.prog .add 3 s2 (.int .i64 8)).bind fun v5 =>
 f109_J1 k v4 v5 H)
 (f109_J1 k s0 s2 H) := by kernel_rfl
theorem f109_J1_eq (k : Nat) (s0 s2 : Value) (H : AH) : f109_J1 k s0 s2 H =
(cv Try.prog 67 5 s0).bind fun v6 =>
(ix Try.prog 9 (.string long0) v6).bind fun v7 =>
(cv Try.prog 5 3 v7).bind fun v8 =>
(bin Try.prog .add 3 s2 v8).bind fun v9 =>
some (v9, H) := by kernel_rfl
theorem f109_eq (k : Nat) (a0 : Value) (H : AH) : rn (k + 1) 109 [a0] H =
(bin Try.prog .geq 67 a0 (.int .u32 65536)).bind fun v1 =>
aIf v1
 ((bin Try.prog .shr 67 a0 (.int .u64 16)).bind fun v2 =>
 f109_J0 k v2 (.int .i64 16) H)
 (f109_J0 k a0 (.int .i64 0) H) := by kernel_rfl
theorem f110_eq (k : Nat) (a0 : Value) (H : AH) : rn (k + 1) 110 [a0] H =
b2 (rn k 108 [a0] H) fun v1 h1 =>
b2 (rn k 128 [v1] h1) fun v2 h2 =>
some (v2, h2) := by kernel_rfl
abbrev f111_T_L0 (s0 s1 s4 s7 s14 s15 : Value) : List Value := [s0, s1, unk, unk, s4, unk, unk, s7, unk, unk, unk, unk, unk, unk, s14, s15, unk, unk, unk, unk, unk, unk, unk, unk, unk, unk, unk, unk, unk, unk, unk, unk, unk, unk, unk, unk, unk, unk, unk, unk, unk, unk]
abbrev f111_X_L0 (s4 s7 : Value) : List Value := [unk, unk, unk, unk, s4, unk, unk, s7, unk, unk, unk, unk, unk, unk, unk, unk, unk, unk, unk, unk, unk, unk, unk, unk, unk, unk, unk, unk, unk, unk, unk, unk, unk, unk, unk, unk, unk, unk, unk, unk, unk, unk]
@[irreducible] def f111_L0 (k : Nat) (s0 s1 s4 s7 s14 s15 : Value) (n : Nat) (H : AH) : Option Out := iterD (fun T H K => evalK Try.prog (rn k) k (tbs 111) (codeAt (bodyOf Try.f111) [1, 1, 1, 0, 1, 0, 0]) T H K) (cutT (tbs 111) 13) (cutT (tbs 111) 14) n (f111_T_L0 s0 s1 s4 s7 s14 s15) H
@[irreducible] def f111_A0 (k : Nat) (e : EX) (T : List Value) (H : AH) : Option (Value × AH) := resume Try.prog (rn k) k (tbs 111) (bodyOf Try.f111) [1, 1, 1, 0, 1, 0] e T H (resK Try.prog Try.f111.results.toList)
theorem f111_L0_succ (k : Nat) (s0 s1 s4 s7 s14 s15 : Value) (n : Nat) (H : AH) : f111_L0 k s0 s1 s4 s7 s14 s15 (n + 1) H =
(bin Try.prog .lss 3 s15 s14).bind fun v4 =>
aIf v4
 ((lenV Try.prog 22 s0).bind fun v5 =>
 (bin Try.prog .sub 3 v5 (.int .i64 1)).bind fun v6 =>
 (bin Try.prog .sub 3 v6 s15).bind fun v7 =>
 (ixA Try.prog 22 s0 v7).bind fun v8 =>
 (ld Try.prog 67 H v8).bind fun v9 =>
 b2 (rn k 130 [s7, v9, s1] H) fun v10 h10 =>
 (ext v10 0).bind fun v11 =>
 (ext v10 1).bind fun v12 =>
 (ixA Try.prog 22 s4 v7).bind fun v13 =>
 (st Try.prog 67 h10 v13 v11).bind fun h14 =>
 (bin Try.prog .add 3 s15 (.int .i64 1)).bind fun v15 =>
 f111_L0 k s0 s1 s4 v12 s14 v15 n h14)
 (some ((.exit 0), (f111_X_L0 s4 s7), H)) := by kernel_rfl
theorem f111_A0_x0 (k : Nat) (s4 s7 : Value) (H : AH) : f111_A0 k (.exit 0) (f111_X_L0 s4 s7) H =
b2 (rn k 110 [s4] H) fun v16 h16 =>
(cv Try.prog 67 111 s7).bind fun v17 =>
b2 (rn k 99 [v17] h16) fun v18 h18 =>
some ((.tuple #[v16, v18, (.bool true)]), h18) := by kernel_rfl
theorem f111_eq (k : Nat) (a0 a1 : Value) (H : AH) : rn (k + 1) 111 [a0, a1] H =
(lenV Try.prog 22 a0).bind fun v1 =>
b2 (mkS Try.prog 22 H v1 v1) fun v2 h2 =>
(lenV Try.prog 22 a0).bind fun v3 =>
(f111_L0 k a0 a1 v2 (.int .u32 0) v3 (.int .i64 0) k h2).bind fun p => f111_A0 k p.1 p.2.1 p.2.2 := by kernel_rfl
abbrev f112_T_L0 (s1 s4 s7 s8 s9 s12 : Value) : List Value := [unk, s1, unk, unk, s4, unk, unk, s7, s8, s9, unk, unk, s12, unk, unk, unk, unk, unk, unk, unk, unk, unk, unk, unk, unk, unk, unk, unk, unk, unk, unk, unk, unk, unk, unk, unk, unk, unk, unk, unk, unk, unk, unk, unk, unk, unk, unk, unk, unk, unk, unk, unk, unk, unk, unk, unk, unk, unk, unk, unk, unk, unk, unk, unk, unk, unk, unk, unk, unk, unk, unk, unk, unk, unk, unk, unk, unk, unk, unk, unk, unk, unk, unk, unk, unk, unk, unk, unk, unk, unk, unk, unk, unk, unk, unk, unk, unk, unk, unk, unk, unk, unk, unk, unk, unk, unk, unk, unk, unk, unk, unk, unk, unk, unk, unk, unk, unk, unk, unk, unk, unk, unk, unk, unk, unk, unk, unk, unk, unk, unk, unk, unk, unk, unk, unk, unk, unk, unk, unk, unk, unk, unk, unk, unk, unk, unk, unk, unk, unk, unk, unk, unk, unk, unk, unk, unk, unk, unk, unk, unk]
abbrev f112_X_L0 (s4 s7 s8 s9 : Value) : List Value := [unk, unk, unk, unk, s4, unk, unk, s7, s8, s9, unk, unk, unk, unk, unk, unk, unk, unk, unk, unk, unk, unk, unk, unk, unk, unk, unk, unk, unk, unk, unk, unk, unk, unk, unk, unk, unk, unk, unk, unk, unk, unk, unk, unk, unk, unk, unk, unk, unk, unk, unk, unk, unk, unk, unk, unk, unk, unk, unk, unk, unk, unk, unk, unk, unk, unk, unk, unk, unk, unk, unk, unk, unk, unk, unk, unk, unk, unk, unk, unk, unk, unk, unk, unk, unk, unk, unk, unk, unk, unk, unk, unk, unk, unk, unk, unk, unk, unk, unk, unk, unk, unk, unk, unk, unk, unk, unk, unk, unk, unk, unk, unk, unk, unk, unk, unk, unk, unk, unk, unk, unk, unk, unk, unk, unk, unk, unk, unk, unk, unk, unk, unk, unk, unk, unk, unk, unk, unk, unk, unk, unk, unk, unk, unk, unk, unk, unk, unk, unk, unk, unk, unk, unk, unk, unk, unk, unk, unk, unk, unk]
abbrev f112_T_L1 (s1 s4 s7 s8 s9 s12 s14 s15 : Value) : List Value := [unk, s1, unk, unk, s4, unk, unk, s7, s8, s9, unk, unk, s12, unk, s14, s15, unk, unk, unk, unk, unk, unk, unk, unk, unk, unk, unk, unk, unk, unk, unk, unk, unk, unk, unk, unk, unk, unk, unk, unk, unk, unk, unk, unk, unk, unk, unk, unk, unk, unk, unk, unk, unk, unk, unk, unk, unk, unk, unk, unk, unk, unk, unk, unk, unk, unk, unk, unk, unk, unk, unk, unk, unk, unk, unk, unk, unk, unk, unk, unk, unk, unk, unk, unk, unk, unk, unk, unk, unk, unk, unk, unk, unk, unk, unk, unk, unk, unk, unk, unk, unk, unk, unk, unk, unk, unk, unk, unk, unk, unk, unk, unk, unk, unk, unk, unk, unk, unk, unk, unk, unk, unk, unk, unk, unk, unk, unk, unk, unk, unk, unk, unk, unk, unk, unk, unk, unk, unk, unk, unk, unk, unk, unk, unk, unk, unk, unk, unk, unk, unk, unk, unk, unk, unk, unk, unk, unk, unk, unk, unk]
abbrev f112_X_L1 (s1 s4 s7 s8 s9 s12 s14 : Value) : List Value := [unk, s1, unk, unk, s4, unk, unk, s7, s8, s9, unk, unk, s12, unk, s14, unk, unk, unk, unk, unk, unk, unk, unk, unk, unk, unk, unk, unk, unk, unk, unk, unk, unk, unk, unk, unk, unk, unk, unk, unk, unk, unk, unk, unk, unk, unk, unk, unk, unk, unk, unk, unk, unk, unk, unk, unk, unk, unk, unk, unk, unk, unk, unk, unk, unk, unk, unk, unk, unk, unk, unk, unk, unk, unk, unk, unk, unk, unk, unk, unk, unk, unk, unk, unk, unk, unk, unk, unk, unk, unk, unk, unk, unk, unk, unk, unk, unk, unk, unk, unk, unk, unk, unk, unk, unk, unk, unk, unk, unk, unk, unk, unk, unk, unk, unk, unk, unk, unk, unk, unk, unk, unk, unk, unk, unk, unk, unk, unk, unk, unk, unk, unk, unk, unk, unk, unk, unk, unk, unk, unk, unk, unk, unk, unk, unk, unk, unk, unk, unk, unk, unk, unk, unk, unk, unk, unk, unk, unk, unk, unk]
abbrev f112_T_J0 (s1 s4 s7 s8 s9 s12 s14 : Value) : List Value := [unk, s1, unk, unk, s4, unk, unk, s7, s8, s9, unk, unk, s12, unk, s14, unk, unk, unk, unk, unk, unk, unk, unk, unk, unk, unk, unk, unk, unk, unk, unk, unk, unk, unk, unk, unk, unk, unk, unk, unk, unk, unk, unk, unk, unk, unk, unk, unk, unk, unk, unk, unk, unk, unk, unk, unk, unk, unk, unk, unk, unk, unk, unk, unk, unk, unk, unk, unk, unk, unk, unk, unk, unk, unk, unk, unk, unk, unk, unk, unk, unk, unk, unk, unk, unk, unk, unk, unk, unk, unk, unk, unk, unk, unk, unk, unk, unk, unk, unk, unk, unk, unk, unk, unk, unk, unk, unk, unk, unk, unk, unk, unk, unk, unk, unk, unk, unk, unk, unk, unk, unk, unk, unk, unk, unk, unk, unk, unk, unk, unk, unk, unk, unk, unk, unk, unk, unk, unk, unk, unk, unk, unk, unk, unk, unk, unk, unk, unk, unk, unk, unk, unk, unk, unk, unk, unk, unk, unk, unk, unk]
@[irreducible] def f112_L0 (k : Nat) (s1 s4 s7 s8 s9 s12 : Value) (n : Nat) (H : AH) : Option Out := iterD (fun T H K => evalK Try.prog (rn k) k (tbs 112) (codeAt (bodyOf Try.f112) [1, 1, 1, 1, 1, 1, 1, 1, 0, 1, 0, 0]) T H K) (cutT (tbs 112) 28) (cutT (tbs 112) 29) n (f112_T_L0 s1 s4 s7 s8 s9 s12) H
@[irreducible] def f112_A0 (k : Nat) (e : EX) (T : List Value) (H : AH) : Option (Value × AH) := resume Try.prog (rn k) k (tbs 112) (bodyOf Try.f112) [1, 1, 1, 1, 1, 1, 1, 1, 0, 1, 0] e T H (resK Try.prog Try.f112.results.toList)
@[irreducible] def f112_L1 (k : Nat) (s1 s4 s7 s8 s9 s12 s14 s15 : Value) (n : Nat) (H : AH) : Option Out := iterD (fun T H K => evalK Try.prog (rn k) k (tbs 112) (codeAt (bodyOf Try.f112) [1, 1, 1, 1, 1, 1, 1, 1, 0, 1, 0, 0, 1, 0, 0, 0, 1, 1, 1, 0, 0, 0]) T H K) (cutT (tbs 112) 40) (cutT (tbs 112) 41) n (f112_T_L1 s1 s4 s7 s8 s9 s12 s14 s15) H
@[irreducible] def f112_A1 (k : Nat) (n : Nat) (e : EX) (T : List Value) (H : AH) : Option Out := resume Try.prog (rn k) k (tbs 112) (codeAt (bodyOf Try.f112) [1, 1, 1, 1, 1, 1, 1, 1, 0, 1, 0, 0]) [1, 0, 0, 0, 1, 1, 1, 0, 0] e T H (loopK (iterD (fun T H K => evalK Try.prog (rn k) k (tbs 112) (codeAt (bodyOf Try.f112) [1, 1, 1, 1, 1, 1, 1, 1, 0, 1, 0, 0]) T H K) (cutT (tbs 112) 28) (cutT (tbs 112) 29) n) (cutT (tbs 112) 28) (cutT (tbs 112) 29))
@[irreducible] def f112_J0 (k : Nat) (n : Nat) (s1 s4 s7 s8 s9 s12 s14 : Value) (H : AH) : Option Out := resume Try.prog (rn k) k (tbs 112) (codeAt (bodyOf Try.f112) [1, 1, 1, 1, 1, 1, 1, 1, 0, 1, 0, 0]) [1, 0, 0, 0, 1, 1, 1, 1, 0] .normal (f112_T_J0 s1 s4 s7 s8 s9 s12 s14) H (loopK (iterD (fun T H K => evalK Try.prog (rn k) k (tbs 112) (codeAt (bodyOf Try.f112) [1, 1, 1, 1, 1, 1, 1, 1, 0, 1, 0, 0]) T H K) (cutT (tbs 112) 28) (cutT (tbs 112) 29) n) (cutT (tbs 112) 28) (cutT (tbs 112) 29))
theorem f112_L0_succ (k : Nat) (s1 s4 s7 s8 s9 s12 : Value) (n : Nat) (H : AH) : f112_L0 k s1 s4 s7 s8 s9 s12 (n + 1) H =
(bin Try.prog .geq 3 s12 (.int .i64 0)).bind fun v23 =>
aIf v23
 ((bin Try.prog .add 3 s12 s8).bind fun v24 =>
 (ixA Try.prog 22 s9 v24).bind fun v25 =>
 (ld Try.prog 67 H v25).bind fun v26 =>
 (cv Try.prog 67 111 v26).bind fun v27 =>
 (bin Try.prog .shl 111 v27 (.int .u64 32)).bind fun v28 =>
 (bin Try.prog .add 3 s12 s8).bind fun v29 =>
 (bin Try.prog .sub 3 v29 (.int .i64 1)).bind fun v30 =>
 (ixA Try.prog 22 s9 v30).bind fun v31 =>
 (ld Try.prog 67 H v31).bind fun v32 =>
 (cv Try.prog 67 111 v32).bind fun v33 =>
 (bin Try.prog .or 111 v28 v33).bind fun v34 =>
 (bin Try.prog .sub 3 s8 (.int .i64 1)).bind fun v35 =>
 (ixA Try.prog 22 s1 v35).bind fun v36 =>
 (ld Try.prog 67 H v36).bind fun v37 =>
 (cv Try.prog 67 111 v37).bind fun v38 =>
 (bin Try.prog .quo 111 v34 v38).bind fun v39 =>
 (bin Try.prog .sub 3 s8 (.int .i64 1)).bind fun v40 =>
 (ixA Try.prog 22 s1 v40).bind fun v41 =>
 (ld Try.prog 67 H v41).bind fun v42 =>
 (cv Try.prog 67 111 v42).bind fun v43 =>
 (bin Try.prog .rem 111 v34 v43).bind fun v44 =>
 (f112_L1 k s1 s4 s7 s8 s9 s12 v39 v44 k H).bind fun p => f112_A1 k n p.1 p.2.1 p.2.2)
 (some ((.exit 0), (f112_X_L0 s4 s7 s8 s9), H)) := by kernel_rfl
theorem f112_A0_x0 (k : Nat) (s4 s7 s8 s9 : Value) (H : AH) : f112_A0 k (.exit 0) (f112_X_L0 s4 s7 s8 s9) H =
b2 (rn k 110 [s4] H) fun v45 h45 =>
(slc Try.prog 22 s9 none (some s8)).bind fun v46 =>
b2 (rn k 102 [v46, s7] h45) fun v47 h47 =>
some ((.tuple #[v45, v47, (.bool true)]), h47) := by kernel_rfl
theorem f112_L1_succ (k : Nat) (s1 s4 s7 s8 s9 s12 s14 s15 : Value) (n : Nat) (H : AH) : f112_L1 k s1 s4 s7 s8 s9 s12 s14 s15 (n + 1) H =
(bin Try.prog .geq 111 s14 (.int .u64 4294967296)).bind fun v48 =>
b2 (gOp v48 false (some (s14, H)) H) fun v49 h49 =>
b2 (gOp v48 false (some (s1, h49)) h49) fun v50 h50 =>
b2 (gOp v48 false (some (s8, h50)) h50) fun v51 h51 =>
b2 (gOp v48 false ((bin Try.prog .sub 3 v51 (.int .i64 2)).bind fun v => some (v, h51)) h51) fun v52 h52 =>
b2 (gOp v48 false ((ixA Try.prog 22 v50 v52).bind fun v => some (v, h52)) h52) fun v53 h53 =>
b2 (gOp v48 false ((ld Try.prog 67 h53 v53).bind fun v => some (v, h53)) h53) fun v54 h54 =>
b2 (gOp v48 false ((cv Try.prog 67 111 v54).bind fun v => some (v, h53)) h53) fun v55 h55 =>
b2 (gOp v48 false ((bin Try.prog .mul 111 v49 v55).bind fun v => some (v, h55)) h55) fun v56 h56 =>
b2 (gOp v48 false (some (s15, h56)) h56) fun v57 h57 =>
b2 (gOp v48 false ((bin Try.prog .shl 111 v57 (.int .u64 32)).bind fun v => some (v, h57)) h57) fun v58 h58 =>
b2 (gOp v48 false (some (s9, h58)) h58) fun v59 h59 =>
b2 (gOp v48 false (some (s12, h59)) h59) fun v60 h60 =>
b2 (gOp v48 false (some (s8, h60)) h60) fun v61 h61 =>
b2 (gOp v48 false ((bin Try.prog .add 3 v60 v61).bind fun v => some (v, h61)) h61) fun v62 h62 =>
b2 (gOp v48 false ((bin Try.prog .sub 3 v62 (.int .i64 2)).bind fun v => some (v, h62)) h62) fun v63 h63 =>
b2 (gOp v48 false ((ixA Try.prog 22 v59 v63).bind fun v => some (v, h63)) h63) fun v64 h64 =>
b2 (gOp v48 false ((ld Try.prog 67 h64 v64).bind fun v => some (v, h64)) h64) fun v65 h65 =>
b2 (gOp v48 false ((cv Try.prog 67 111 v65).bind fun v => some (v, h64)) h64) fun v66 h66 =>
b2 (gOp v48 false ((bin Try.prog .or 111 v58 v66).bind fun v => some (v, h66)) h66) fun v67 h67 =>
b2 (gOp v48 false ((bin Try.prog .gtr 111 v56 v67).bind fun v => some (v, h67)) h67) fun v68 h68 =>
(pickV v48 (.bool true) v68).bind fun v69 =>
aIf v69
 ((bin Try.prog .sub 111 s14 (.int .u64 1)).bind fun v70 =>
 (bin Try.prog .sub 3 s8 (.int .i64 1)).bind fun v71 =>
 (ixA Try.prog 22 s1 v71).bind fun v72 =>
 (ld Try.prog 67 h68 v72).bind fun v73 =>
 (cv Try.prog 67 111 v73).bind fun v74 =>
 (bin Try.prog .add 111 s15 v74).bind fun v75 =>
 (bin Try.prog .geq 111 v75 (.int .u64 4294967296)).bind fun v76 =>
 aIf v76
  (some ((.exit 2), (f112_X_L1 s1 s4 s7 s8 s9 s12 v70), h68))
  (f112_L1 k s1 s4 s7 s8 s9 s12 v70 v75 n h68))
 (some ((.exit 2), (f112_X_L1 s1 s4 s7 s8 s9 s12 s14), h68)) := by kernel_rfl
theorem f112_A1_x2 (k : Nat) (n : Nat) (s1 s4 s7 s8 s9 s12 s14 : Value) (H : AH) : f112_A1 k n (.exit 2) (f112_X_L1 s1 s4 s7 s8 s9 s12 s14) H =
(bin Try.prog .add 3 s12 s8).bind fun v77 =>
(bin Try.prog .add 3 v77 (.int .i64 1)).bind fun v78 =>
(slc Try.prog 22 s9 (some s12) (some v78)).bind fun v79 =>
b2 (rn k 132 [v79, s1, s14] H) fun v80 h80 =>
aIf v80
 ((bin Try.prog .sub 111 s14 (.int .u64 1)).bind fun v81 =>
 (bin Try.prog .add 3 s12 s8).bind fun v82 =>
 (bin Try.prog .add 3 v82 (.int .i64 1)).bind fun v83 =>
 (slc Try.prog 22 s9 (some s12) (some v83)).bind fun v84 =>
 b2 (rn k 133 [v84, s1] h80) fun v85 h85 =>
 f112_J0 k n s1 s4 s7 s8 s9 s12 v81 h85)
 (f112_J0 k n s1 s4 s7 s8 s9 s12 s14 h80) := by kernel_rfl
theorem f112_J0_eq (k : Nat) (n : Nat) (s1 s4 s7 s8 s9 s12 s14 : Value) (H : AH) : f112_J0 k n s1 s4 s7 s8 s9 s12 s14 H =
(cv Try.prog 111 67 s14).bind fun v86 =>
(ixA Try.prog 22 s4 s12).bind fun v87 =>
(st Try.prog 67 H v87 v86).bind fun h88 =>
(bin Try.prog .sub 3 s12 (.int .i64 1)).bind fun v89 =>
f112_L0 k s1 s4 s7 s8 s9 v89 n h88 := by kernel_rfl
theorem f112_eq (k : Nat) (a0 a1 : Value) (H : AH) : rn (k + 1) 112 [a0, a1] H =
(lenV Try.prog 22 a1).bind fun v1 =>
(bin Try.prog .sub 3 v1 (.int .i64 1)).bind fun v2 =>
(ixA Try.prog 22 a1 v2).bind fun v3 =>
(ld Try.prog 67 H v3).bind fun v4 =>
b2 (rn k 131 [v4] H) fun v5 h5 =>
b2 (rn k 113 [a1, v5] h5) fun v6 h6 =>
(ext v6 0).bind fun v7 =>
(ext v6 1).bind fun v8 =>
(lenV Try.prog 22 v7).bind fun v9 =>
(lenV Try.prog 22 a0).bind fun v10 =>
(bin Try.prog .add 3 v10 (.int .i64 1)).bind fun v11 =>
b2 (mkS Try.prog 22 h6 v11 v11) fun v12 h12 =>
b2 (rn k 113 [a0, v5] h12) fun v13 h13 =>
(ext v13 0).bind fun v14 =>
(ext v13 1).bind fun v15 =>
b2 (cpy Try.prog 22 h13 v12 v14) fun v16 h16 =>
(lenV Try.prog 22 a0).bind fun v17 =>
(bin Try.prog .sub 3 v17 v9).bind fun v18 =>
(bin Try.prog .add 3 v18 (.int .i64 1)).bind fun v19 =>
b2 (mkS Try.prog 22 h16 v19 v19) fun v20 h20 =>
(lenV Try.prog 22 a0).bind fun v21 =>
(bin Try.prog .sub 3 v21 v9).bind fun v22 =>
(f112_L0 k v7 v20 v5 v9 v12 v22 k h20).bind fun p => f112_A0 k p.1 p.2.1 p.2.2 := by kernel_rfl
abbrev f113_T_L0 (s1 s6 s25 s26 s27 : Value) : List Value := [unk, s1, unk, unk, unk, unk, s6, unk, unk, unk, unk, unk, unk, unk, unk, unk, unk, unk, unk, unk, unk, unk, unk, unk, unk, s25, s26, s27, unk, unk, unk, unk, unk, unk, unk, unk, unk, unk, unk, unk, unk, unk, unk, unk, unk, unk, unk, unk, unk, unk, unk, unk, unk, unk, unk, unk, unk, unk, unk, unk, unk]
abbrev f113_X_L0 (s6 : Value) : List Value := [unk, unk, unk, unk, unk, unk, s6, unk, unk, unk, unk, unk, unk, unk, unk, unk, unk, unk, unk, unk, unk, unk, unk, unk, unk, unk, unk, unk, unk, unk, unk, unk, unk, unk, unk, unk, unk, unk, unk, unk, unk, unk, unk, unk, unk, unk, unk, unk, unk, unk, unk, unk, unk, unk, unk, unk, unk, unk, unk, unk, unk]
@[irreducible] def f113_L0 (k : Nat) (s1 s6 s25 s26 s27 : Value) (n : Nat) (H : AH) : Option Out := iterD (fun T H K => evalK Try.prog (rn k) k (tbs 113) (codeAt (bodyOf Try.f113) [1, 1, 1, 1, 0, 1, 0, 0]) T H K) (cutT (tbs 113) 19) (cutT (tbs 113) 20) n (f113_T_L0 s1 s6 s25 s26 s27) H
@[irreducible] def f113_A0 (k : Nat) (e : EX) (T : List Value) (H : AH) : Option (Value × AH) := resume Try.prog (rn k) k (tbs 113) (bodyOf Try.f113) [1, 1, 1, 1, 0, 1, 0] e T H (resK Try.prog Try.f113.results.toList)
theorem f113_L0_succ (k : Nat) (s1 s6 s25 s26 s27 : Value) (n : Nat) (H : AH) : f113_L0 k s1 s6 s25 s26 s27 (n + 1) H =
(bin Try.prog .lss 3 s27 s26).bind fun v12 =>
aIf v12
 ((ixA Try.prog 22 s25 s27).bind fun v13 =>
 (ld Try.prog 67 H v13).bind fun v14 =>
 (cv Try.prog 67 111 v14).bind fun v15 =>
 (bin Try.prog .rem 3 s1 (.int .i64 32)).bind fun v16 =>
 (bin Try.prog .shl 111 v15 v16).bind fun v17 =>
 (bin Try.prog .quo 3 s1 (.int .i64 32)).bind fun v18 =>
 (bin Try.prog .add 3 v18 s27).bind fun v19 =>
 (ixA Try.prog 22 s6 v19).bind fun v20 =>
 (ld Try.prog 67 H v20).bind fun v21 =>
 (cv Try.prog 111 67 v17).bind fun v22 =>
 (bin Try.prog .or 67 v21 v22).bind fun v23 =>
 (ixA Try.prog 22 s6 v19).bind fun v24 =>
 (st Try.prog 67 H v24 v23).bind fun h25 =>
 (bin Try.prog .quo 3 s1 (.int .i64 32)).bind fun v26 =>
 (bin Try.prog .add 3 v26 s27).bind fun v27 =>
 (bin Try.prog .add 3 v27 (.int .i64 1)).bind fun v28 =>
 (bin Try.prog .shr 111 v17 (.int .u64 32)).bind fun v29 =>
 (cv Try.prog 111 67 v29).bind fun v30 =>
 (ixA Try.prog 22 s6 v28).bind fun v31 =>
 (st Try.prog 67 h25 v31 v30).bind fun h32 =>
 (bin Try.prog .add 3 s27 (.int .i64 1)).bind fun v33 =>
 f113_L0 k s1 s6 s25 s26 v33 n h32)
 (some ((.exit 0), (f113_X_L0 s6), H)) := by kernel_rfl
theorem f113_A0_x0 (k : Nat) (s6 : Value) (H : AH) : f113_A0 k (.exit 0) (f113_X_L0 s6) H =
b2 (rn k 108 [s6] H) fun v34 h34 =>
some ((.tuple #[v34, (.bool true)]), h34) := by kernel_rfl
theorem f113_eq (k : Nat) (a0 a1 : Value) (H : AH) : rn (k + 1) 113 [a0, a1] H =
(bin Try.prog .lss 3 a1 (.int .i64 0)).bind fun v1 =>
b2 (gOp v1 false (some (a1, H)) H) fun v2 h2 =>
b2 (gOp v1 false ((bin Try.prog .gtr 3 v2 (.int .i64 100000)).bind fun v => some (v, h2)) h2) fun v3 h3 =>
(pickV v1 (.bool true) v3).bind fun v4 =>
aIf v4
 (some ((.tuple #[(.slice none 0 0), (.bool false)]), h3))
 (b2 (rn k 108 [a0] h3) fun v5 h5 =>
 (bin Try.prog .quo 3 a1 (.int .i64 32)).bind fun v6 =>
 (lenV Try.prog 22 v5).bind fun v7 =>
 (bin Try.prog .add 3 v6 v7).bind fun v8 =>
 (bin Try.prog .add 3 v8 (.int .i64 1)).bind fun v9 =>
 b2 (mkS Try.prog 22 h5 v9 v9) fun v10 h10 =>
 (lenV Try.prog 22 v5).bind fun v11 =>
 (f113_L0 k a1 v10 v5 v11 (.int .i64 0) k h10).bind fun p => f113_A0 k p.1 p.2.1 p.2.2) := by kernel_rfl
abbrev f123_T_L0 (s3 s10 s11 s12 : Value) : List Value := [unk, unk, unk, s3, unk, unk, unk, unk, unk, unk, s10, s11, s12, unk, unk, unk, unk, unk, unk, unk, unk, unk, unk, unk, unk, unk, unk, unk, unk, unk, unk, unk, unk]
abbrev f123_X_L0 (s3 : Value) : List Value := [unk, unk, unk, s3, unk, unk, unk, unk, unk, unk, unk, unk, unk, unk, unk, unk, unk, unk, unk, unk, unk, unk, unk, unk, unk, unk, unk, unk, unk, unk, unk, unk, unk]
@[irreducible] def f123_L0 (k : Nat) (s3 s10 s11 s12 : Value) (n : Nat) (H : AH) : Option Out := iterD (fun T H K => evalK Try.prog (rn k) k (tbs 123) (codeAt (bodyOf Try.f123) [1, 1, 0, 1, 0, 0]) T H K) (cutT (tbs 123) 10) (cutT (tbs 123) 11) n (f123_T_L0 s3 s10 s11 s12) H
@[irreducible] def f123_A0 (k : Nat) (e : EX) (T : List Value) (H : AH) : Option (Value × AH) := resume Try.prog (rn k) k (tbs 123) (bodyOf Try.f123) [1, 1, 0, 1, 0] e T H (resK Try.prog Try.f123.results.toList)
theorem f123_L0_succ (k : Nat) (s3 s10 s11 s12 : Value) (n : Nat) (H : AH) : f123_L0 k s3 s10 s11 s12 (n + 1) H =
(bin Try.prog .lss 3 s12 s11).bind fun v5 =>
aIf v5
 ((ixA Try.prog 22 s10 s12).bind fun v6 =>
 (ld Try.prog 67 H v6).bind fun v7 =>
 (cv Try.prog 67 5 v7).bind fun v8 =>
 (bin Try.prog .shr 67 v7 (.int .u64 8)).bind fun v9 =>
 (cv Try.prog 67 5 v9).bind fun v10 =>
 (bin Try.prog .shr 67 v7 (.int .u64 16)).bind fun v11 =>
 (cv Try.prog 67 5 v11).bind fun v12 =>
 (bin Try.prog .shr 67 v7 (.int .u64 24)).bind fun v13 =>
 (cv Try.prog 67 5 v13).bind fun v14 =>
 b2 (buildS Try.prog 126 H 4 [(0, v8), (1, v10), (2, v12), (3, v14)]) fun v15 h15 =>
 b2 (ap Try.prog 126 126 h15 s3 v15) fun v16 h16 =>
 (bin Try.prog .add 3 s12 (.int .i64 1)).bind fun v17 =>
 f123_L0 k v16 s10 s11 v17 n h16)
 (some ((.exit 0), (f123_X_L0 s3), H)) := by kernel_rfl
theorem f123_A0_x0 (k : Nat) (s3 : Value) (H : AH) : f123_A0 k (.exit 0) (f123_X_L0 s3) H =
(cvS Try.prog 126 9 H s3).bind fun v18 =>
some (v18, H) := by kernel_rfl
theorem f123_eq (k : Nat) (a0 : Value) (H : AH) : rn (k + 1) 123 [a0] H =
(lenV Try.prog 22 a0).bind fun v1 =>
(bin Try.prog .mul 3 (.int .i64 4) v1).bind fun v2 =>
b2 (mkS Try.prog 126 H (.int .i64 0) v2) fun v3 h3 =>
(lenV Try.prog 22 a0).bind fun v4 =>
(f123_L0 k v3 a0 v4 (.int .i64 0) k h3).bind fun p => f123_A0 k p.1 p.2.1 p.2.2 := by kernel_rfl
theorem f124_eq (k : Nat) (a0 : Value) (H : AH) : rn (k + 1) 124 [a0] H =
b2 (rn k 108 [a0] H) fun v1 h1 =>
(lenV Try.prog 22 v1).bind fun v2 =>
(bin Try.prog .eql 3 v2 (.int .i64 0)).bind fun v3 =>
aIf v3
 (some ((.tuple #[(.int .u64 0), (.bool true)]), h1))
 ((bin Try.prog .eql 3 v2 (.int .i64 1)).bind fun v4 =>
 aIf v4
  ((ixA Try.prog 22 v1 (.int .i64 0)).bind fun v5 =>
  (ld Try.prog 67 h1 v5).bind fun v6 =>
  (cv Try.prog 67 111 v6).bind fun v7 =>
  some ((.tuple #[v7, (.bool true)]), h1))
  ((bin Try.prog .eql 3 v2 (.int .i64 2)).bind fun v8 =>
  aIf v8
   ((ixA Try.prog 22 v1 (.int .i64 1)).bind fun v9 =>
   (ld Try.prog 67 h1 v9).bind fun v10 =>
   (cv Try.prog 67 111 v10).bind fun v11 =>
   (bin Try.prog .shl 111 v11 (.int .u64 32)).bind fun v12 =>
   (ixA Try.prog 22 v1 (.int .i64 0)).bind fun v13 =>
   (ld Try.prog 67 h1 v13).bind fun v14 =>
   (cv Try.prog 67 111 v14).bind fun v15 =>
   (bin Try.prog .or 111 v12 v15).bind fun v16 =>
   some ((.tuple #[v16, (.bool true)]), h1))
   (some ((.tuple #[(.int .u64 0), (.bool false)]), h1)))) := by kernel_rfl
theorem f125_eq (k : Nat) (a0 a1 a2 : Value) (H : AH) : rn (k + 1) 125 [a0, a1, a2] H =
(cv Try.prog 67 111 a0).bind fun v1 =>
(cv Try.prog 67 111 a1).bind fun v2 =>
(bin Try.prog .add 111 v1 v2).bind fun v3 =>
(cv Try.prog 67 111 a2).bind fun v4 =>
(bin Try.prog .add 111 v3 v4).bind fun v5 =>
(cv Try.prog 111 67 v5).bind fun v6 =>
(bin Try.prog .shr 111 v5 (.int .u64 32)).bind fun v7 =>
(cv Try.prog 111 67 v7).bind fun v8 =>
some ((.tuple #[v6, v8]), H) := by kernel_rfl
theorem f126_eq (k : Nat) (a0 a1 a2 : Value) (H : AH) : rn (k + 1) 126 [a0, a1, a2] H =
(bin Try.prog .sub 67 a0 a1).bind fun v1 =>
(bin Try.prog .sub 67 v1 a2).bind fun v2 =>
(un Try.prog .xor a0).bind fun v3 =>
(bin Try.prog .and 67 v3 a1).bind fun v4 =>
(bin Try.prog .xor 67 a0 a1).bind fun v5 =>
(un Try.prog .xor v5).bind fun v6 =>
(bin Try.prog .and 67 v6 v2).bind fun v7 =>
(bin Try.prog .or 67 v4 v7).bind fun v8 =>
(bin Try.prog .shr 67 v8 (.int .u64 31)).bind fun v9 =>
some ((.tuple #[v2, v9]), H) := by kernel_rfl
theorem f127_eq (k : Nat) (a0 : Value) (H : AH) : rn (k + 1) 127 [a0] H =
b2 (box 104 H a0) fun v1 h1 =>
(fldA Try.prog 104 v1 0).bind fun v2 =>
(ld Try.prog 22 h1 v2).bind fun v3 =>
(lenV Try.prog 22 v3).bind fun v4 =>
(bin Try.prog .eql 3 v4 (.int .i64 0)).bind fun v5 =>
some (v5, h1) := by kernel_rfl
theorem f128_eq (k : Nat) (a0 : Value) (H : AH) : rn (k + 1) 128 [a0] H =
(bin Try.prog .eql 22 a0 (.slice none 0 0)).bind fun v1 =>
aIf v1
 (some ((.slice none 0 0), H))
 (b2 (buildS Try.prog 22 H 0 []) fun v2 h2 =>
 b2 (ap Try.prog 22 22 h2 v2 a0) fun v3 h3 =>
 some (v3, h3)) := by kernel_rfl
abbrev f130_T_J0 (s0 s1 s2 : Value) : List Value := [s0, s1, s2, unk, unk, unk, unk, unk, unk, unk, unk, unk, unk, unk, unk, unk, unk, unk, unk, unk, unk, unk, unk, unk, unk, unk, unk, unk, unk, unk, unk, unk, unk]
@[irreducible] def f130_J0 (k : Nat) (s0 s1 s2 : Value) (H : AH) : Option (Value × AH) := resume Try.prog (rn k) k (tbs 130) (bodyOf Try.f130) [1, 0] .normal (f130_T_J0 s0 s1 s2) H (resK Try.prog Try.f130.results.toList)
theorem f130_J0_eq (k : Nat) (s0 s1 s2 : Value) (H : AH) : f130_J0 k s0 s1 s2 H =
(cv Try.prog 67 111 s0).bind fun v7 =>
(bin Try.prog .shl 111 v7 (.int .u64 32)).bind fun v8 =>
(cv Try.prog 67 111 s1).bind fun v9 =>
(bin Try.prog .or 111 v8 v9).bind fun v10 =>
(cv Try.prog 67 111 s2).bind fun v11 =>
(bin Try.prog .quo 111 v10 v11).bind fun v12 =>
(cv Try.prog 111 67 v12).bind fun v13 =>
(cv Try.prog 67 111 s2).bind fun v14 =>
(bin Try.prog .rem 111 v10 v14).bind fun v15 =>
(cv Try.prog 111 67 v15).bind fun v16 =>
some ((.tuple #[v13, v16]), H) := by kernel_rfl
theorem f130_eq (k : Nat) (a0 a1 a2 : Value) (H : AH) : rn (k + 1) 130 [a0, a1, a2] H =
(bin Try.prog .neq 67 a2 (.int .u32 0)).bind fun v1 =>
b2 (gOp v1 true (some (a2, H)) H) fun v2 h2 =>
b2 (gOp v1 true (some (a0, h2)) h2) fun v3 h3 =>
b2 (gOp v1 true ((bin Try.prog .leq 67 v2 v3).bind fun v => some (v, h3)) h3) fun v4 h4 =>
(pickV v1 v4 (.bool false)).bind fun v5 =>
aIf v5
 (none)
 (f130_J0 k a0 a1 a2 h4) := by kernel_rfl
theorem f131_eq (k : Nat) (a0 : Value) (H : AH) : rn (k + 1) 131 [a0] H =
b2 (rn k 109 [a0] H) fun v1 h1 =>
(bin Try.prog .sub 3 (.int .i64 32) v1).bind fun v2 =>
some (v2, h1) := by kernel_rfl
abbrev f132_T_L0 (s0 s1 s2 s7 s8 s12 s13 s14 : Value) : List Value := [s0, s1, s2, unk, unk, unk, unk, s7, s8, unk, unk, unk, s12, s13, s14, unk, unk, unk, unk, unk, unk, unk, unk, unk, unk, unk, unk, unk, unk, unk, unk, unk, unk, unk, unk, unk, unk, unk, unk, unk, unk, unk, unk, unk, unk, unk, unk, unk, unk, unk, unk, unk, unk, unk, unk, unk, unk, unk, unk, unk]
abbrev f132_X_L0 (s0 s1 s7 s8 : Value) : List Value := [s0, s1, unk, unk, unk, unk, unk, s7, s8, unk, unk, unk, unk, unk, unk, unk, unk, unk, unk, unk, unk, unk, unk, unk, unk, unk, unk, unk, unk, unk, unk, unk, unk, unk, unk, unk, unk, unk, unk, unk, unk, unk, unk, unk, unk, unk, unk, unk, unk, unk, unk, unk, unk, unk, unk, unk, unk, unk, unk, unk]
@[irreducible] def f132_L0 (k : Nat) (s0 s1 s2 s7 s8 s12 s13 s14 : Value) (n : Nat) (H : AH) : Option Out := iterD (fun T H K => evalK Try.prog (rn k) k (tbs 132) (codeAt (bodyOf Try.f132) [1, 1, 1, 0, 1, 0, 0]) T H K) (cutT (tbs 132) 13) (cutT (tbs 132) 14) n (f132_T_L0 s0 s1 s2 s7 s8 s12 s13 s14) H
@[irreducible] def f132_A0 (k : Nat) (e : EX) (T : List Value) (H : AH) : Option (Value × AH) := resume Try.prog (rn k) k (tbs 132) (bodyOf Try.f132) [1, 1, 1, 0, 1, 0] e T H (resK Try.prog Try.f132.results.toList)
theorem f132_L0_succ (k : Nat) (s0 s1 s2 s7 s8 s12 s13 s14 : Value) (n : Nat) (H : AH) : f132_L0 k s0 s1 s2 s7 s8 s12 s13 s14 (n + 1) H =
(bin Try.prog .lss 3 s14 s13).bind fun v2 =>
aIf v2
 ((ixA Try.prog 22 s12 s14).bind fun v3 =>
 (ld Try.prog 67 H v3).bind fun v4 =>
 (cv Try.prog 67 111 v4).bind fun v5 =>
 (bin Try.prog .mul 111 v5 s2).bind fun v6 =>
 (bin Try.prog .add 111 v6 s7).bind fun v7 =>
 (bin Try.prog .shr 111 v7 (.int .u64 32)).bind fun v8 =>
 (ixA Try.prog 22 s0 s14).bind fun v9 =>
 (ld Try.prog 67 H v9).bind fun v10 =>
 (cv Try.prog 111 67 v7).bind fun v11 =>
 b2 (rn k 126 [v10, v11, s8] H) fun v12 h12 =>
 (ext v12 0).bind fun v13 =>
 (ext v12 1).bind fun v14 =>
 (ixA Try.prog 22 s0 s14).bind fun v15 =>
 (st Try.prog 67 h12 v15 v13).bind fun h16 =>
 (bin Try.prog .add 3 s14 (.int .i64 1)).bind fun v17 =>
 f132_L0 k s0 s1 s2 v8 v14 s12 s13 v17 n h16)
 (some ((.exit 0), (f132_X_L0 s0 s1 s7 s8), H)) := by kernel_rfl
theorem f132_A0_x0 (k : Nat) (s0 s1 s7 s8 : Value) (H : AH) : f132_A0 k (.exit 0) (f132_X_L0 s0 s1 s7 s8) H =
(lenV Try.prog 22 s1).bind fun v18 =>
(lenV Try.prog 22 s1).bind fun v19 =>
(ixA Try.prog 22 s0 v19).bind fun v20 =>
(ld Try.prog 67 H v20).bind fun v21 =>
(cv Try.prog 111 67 s7).bind fun v22 =>
b2 (rn k 126 [v21, v22, s8] H) fun v23 h23 =>
(ext v23 0).bind fun v24 =>
(ext v23 1).bind fun v25 =>
(ixA Try.prog 22 s0 v18).bind fun v26 =>
(st Try.prog 67 h23 v26 v24).bind fun h27 =>
(bin Try.prog .gtr 67 v25 (.int .u32 0)).bind fun v28 =>
some (v28, h27) := by kernel_rfl
theorem f132_eq (k : Nat) (a0 a1 a2 : Value) (H : AH) : rn (k + 1) 132 [a0, a1, a2] H =
(lenV Try.prog 22 a1).bind fun v1 =>
(f132_L0 k a0 a1 a2 (.int .u64 0) (.int .u32 0) a1 v1 (.int .i64 0) k H).bind fun p => f132_A0 k p.1 p.2.1 p.2.2 := by kernel_rfl
abbrev f133_T_L0 (s0 s1 s4 s7 s8 s9 : Value) : List Value := [s0, s1, unk, unk, s4, unk, unk, s7, s8, s9, unk, unk, unk, unk, unk, unk, unk, unk, unk, unk, unk, unk, unk, unk, unk, unk, unk, unk, unk, unk, unk, unk, unk, unk, unk, unk]
abbrev f133_X_L0 (s0 s1 s4 : Value) : List Value := [s0, s1, unk, unk, s4, unk, unk, unk, unk, unk, unk, unk, unk, unk, unk, unk, unk, unk, unk, unk, unk, unk, unk, unk, unk, unk, unk, unk, unk, unk, unk, unk, unk, unk, unk, unk]
@[irreducible] def f133_L0 (k : Nat) (s0 s1 s4 s7 s8 s9 : Value) (n : Nat) (H : AH) : Option Out := iterD (fun T H K => evalK Try.prog (rn k) k (tbs 133) (codeAt (bodyOf Try.f133) [1, 0, 1, 0, 0]) T H K) (cutT (tbs 133) 7) (cutT (tbs 133) 8) n (f133_T_L0 s0 s1 s4 s7 s8 s9) H
@[irreducible] def f133_A0 (k : Nat) (e : EX) (T : List Value) (H : AH) : Option (Value × AH) := resume Try.prog (rn k) k (tbs 133) (bodyOf Try.f133) [1, 0, 1, 0] e T H (resK Try.prog Try.f133.results.toList)
theorem f133_L0_succ (k : Nat) (s0 s1 s4 s7 s8 s9 : Value) (n : Nat) (H : AH) : f133_L0 k s0 s1 s4 s7 s8 s9 (n + 1) H =
(bin Try.prog .lss 3 s9 s8).bind fun v2 =>
aIf v2
 ((ixA Try.prog 22 s7 s9).bind fun v3 =>
 (ld Try.prog 67 H v3).bind fun v4 =>
 (ixA Try.prog 22 s0 s9).bind fun v5 =>
 (ld Try.prog 67 H v5).bind fun v6 =>
 b2 (rn k 125 [v6, v4, s4] H) fun v7 h7 =>
 (ext v7 0).bind fun v8 =>
 (ext v7 1).bind fun v9 =>
 (ixA Try.prog 22 s0 s9).bind fun v10 =>
 (st Try.prog 67 h7 v10 v8).bind fun h11 =>
 (bin Try.prog .add 3 s9 (.int .i64 1)).bind fun v12 =>
 f133_L0 k s0 s1 v9 s7 s8 v12 n h11)
 (some ((.exit 0), (f133_X_L0 s0 s1 s4), H)) := by kernel_rfl
theorem f133_A0_x0 (k : Nat) (s0 s1 s4 : Value) (H : AH) : f133_A0 k (.exit 0) (f133_X_L0 s0 s1 s4) H =
(lenV Try.prog 22 s1).bind fun v13 =>
(ixA Try.prog 22 s0 v13).bind fun v14 =>
(ld Try.prog 67 H v14).bind fun v15 =>
(bin Try.prog .add 67 v15 s4).bind fun v16 =>
(ixA Try.prog 22 s0 v13).bind fun v17 =>
(st Try.prog 67 H v17 v16).bind fun h18 =>
some ((.tuple #[]), h18) := by kernel_rfl
theorem f133_eq (k : Nat) (a0 a1 : Value) (H : AH) : rn (k + 1) 133 [a0, a1] H =
(lenV Try.prog 22 a1).bind fun v1 =>
(f133_L0 k a0 a1 (.int .u32 0) a1 v1 (.int .i64 0) k H).bind fun p => f133_A0 k p.1 p.2.1 p.2.2 := by kernel_rfl
end
end Go.AM.Y
set_option linter.unusedVariables false
set_option linter.unusedSimpArgs false
namespace Go.AM
variable {α β R : Type} {P : Program}


def Ev (g : Nat → Nat → Option α) (Q : α → Prop) : Prop := ∃ r, Q r ∧ ∃ N, ∀ k n, N ≤ k → N ≤ n → g k n = some r

theorem Ev.ret {Q : α → Prop} {r : α} (h : Q r) : Ev (fun _ _ => some r) Q := ⟨r, h, 0, fun _ _ _ _ => rfl⟩
theorem Ev.mono {g : Nat → Nat → Option α} {Q Q' : α → Prop} (h : Ev g Q) (hq : ∀ r, Q r → Q' r) : Ev g Q' :=
  h.elim fun r hr => ⟨r, hq r hr.1, hr.2⟩
theorem Ev.eq {g h : Nat → Nat → Option α} {Q : α → Prop} (e : ∀ k n, g k n = h k n) (hh : Ev h Q) : Ev g Q := by
  obtain ⟨r, hr, N, hN⟩ := hh
  exact ⟨r, hr, N, fun k n a b => (e k n).trans (hN k n a b)⟩
theorem Ev.bind {g : Nat → Nat → Option α} {f : Nat → Nat → α → Option β} {Q1 : α → Prop} {Q : β → Prop} (h1 : Ev g Q1) (h2 : ∀ r, Q1 r → Ev (fun k n => f k n r) Q) :
    Ev (fun k n => (g k n).bind (f k n)) Q := by
  obtain ⟨r, hr, N, hN⟩ := h1
  obtain ⟨s, hs, M, hM⟩ := h2 r hr
  refine ⟨s, hs, max N M, fun k n a b => ?_⟩
  show (g k n).bind (f k n) = some s
  rw [hN k n (by omega) (by omega)]
  exact hM k n (by omega) (by omega)
theorem Ev.prim {E : Option α} {a : α} {f : Nat → Nat → α → Option β} {Q : β → Prop} (h : E = some a) (h2 : Ev (fun k n => f k n a) Q) : Ev (fun k n => E.bind (f k n)) Q :=
  Ev.eq (fun _ _ => by rw [h]; rfl) h2
theorem Ev.assoc {g : Nat → Nat → Option α} {f : Nat → Nat → α → Option β} {f2 : Nat → Nat → β → Option R} {Q : R → Prop} (h : Ev (fun k n => (g k n).bind fun x => (f k n x).bind (f2 k n)) Q) :
    Ev (fun k n => ((g k n).bind (f k n)).bind (f2 k n)) Q := Ev.eq (fun _ _ => Option.bind_assoc ..) h
theorem Ev.b2 {g : Nat → Nat → Option (Value × AH)} {f : Nat → Nat → Value → AH → Option R} {Q1 : Value × AH → Prop} {Q : R → Prop} (h1 : Ev g Q1) (h2 : ∀ v H, Q1 (v, H) → Ev (fun k n => f k n v H) Q) :
    Ev (fun k n => Go.AM.b2 (g k n) (f k n)) Q := Ev.bind h1 fun r hr => h2 r.1 r.2 hr
theorem Ev.prim2 {E : Option (Value × AH)} {v : Value} {H : AH} {f : Nat → Nat → Value → AH → Option R} {Q : R → Prop} (h : E = some (v, H)) (h2 : Ev (fun k n => f k n v H) Q) :
    Ev (fun k n => Go.AM.b2 E (f k n)) Q := Ev.eq (fun _ _ => by rw [h]; rfl) h2
theorem Ev.tt {x y : Nat → Nat → Option α} {Q : α → Prop} (h : Ev x Q) : Ev (fun k n => aIf (.bool true) (x k n) (y k n)) Q := h
theorem Ev.ff {x y : Nat → Nat → Option α} {Q : α → Prop} (h : Ev y Q) : Ev (fun k n => aIf (.bool false) (x k n) (y k n)) Q := h
theorem Ev.ifb {x y : Nat → Nat → Option α} {Q : α → Prop} {b : Bool} (h1 : b = true → Ev x Q) (h2 : b = false → Ev y Q) : Ev (fun k n => aIf (.bool b) (x k n) (y k n)) Q := by
  cases b
  · exact h2 rfl
  · exact h1 rfl
theorem Ev.ifp {x y : Nat → Nat → Option α} {Q : α → Prop} {p : Prop} {_ : Decidable p} (h1 : p → Ev x Q) (h2 : ¬ p → Ev y Q) : Ev (fun k n => aIf (.bool (decide p)) (x k n) (y k n)) Q :=
  Ev.ifb (fun h => h1 (of_decide_eq_true h)) (fun h => h2 (of_decide_eq_false h))
theorem Ev.chk {x : Nat → Nat → Option α} {Q : α → Prop} {p : Prop} (hp : p) (h : Ev x Q) : Ev (fun k n => aChk p (x k n)) Q :=
  Ev.eq (fun _ _ => by unfold aChk; exact if_pos hp) h
/-- A guarded operation that is done. -/
theorem Ev.gDo {w : Bool} {E : Nat → Nat → Option (Value × AH)} {H : AH} {f : Nat → Nat → Value → AH → Option R} {Q : R → Prop} (h : Ev (fun k n => Go.AM.b2 (E k n) (f k n)) Q) :
    Ev (fun k n => Go.AM.b2 (gOp (.bool w) w (E k n) H) (f k n)) Q := Ev.eq (fun _ _ => by unfold gOp; simp) h
theorem Ev.gSkip {w : Bool} {E : Nat → Nat → Option (Value × AH)} {H : AH} {f : Nat → Nat → Value → AH → Option R} {Q : R → Prop} (h : Ev (fun k n => f k n undef H) Q) :
    Ev (fun k n => Go.AM.b2 (gOp (.bool w) (!w) (E k n) H) (f k n)) Q := Ev.eq (fun _ _ => by unfold gOp; cases w <;> simp [Go.AM.b2]) h
theorem Ev.gSkipT {E : Nat → Nat → Option (Value × AH)} {H : AH} {f : Nat → Nat → Value → AH → Option R} {Q : R → Prop} (h : Ev (fun k n => f k n undef H) Q) :
    Ev (fun k n => Go.AM.b2 (gOp (.bool false) true (E k n) H) (f k n)) Q := Ev.gSkip (w := false) h
theorem Ev.gSkipF {E : Nat → Nat → Option (Value × AH)} {H : AH} {f : Nat → Nat → Value → AH → Option R} {Q : R → Prop} (h : Ev (fun k n => f k n undef H) Q) :
    Ev (fun k n => Go.AM.b2 (gOp (.bool true) false (E k n) H) (f k n)) Q := Ev.gSkip (w := true) h
theorem Ev.gUndef {w : Bool} {E : Nat → Nat → Option (Value × AH)} {H : AH} {f : Nat → Nat → Value → AH → Option R} {Q : R → Prop} (h : Ev (fun k n => f k n undef H) Q) :
    Ev (fun k n => Go.AM.b2 (gOp undef w (E k n) H) (f k n)) Q := Ev.eq (fun _ _ => by unfold gOp undef; simp [Go.AM.b2]) h
/-- What lies under a guard: 'E.bind fun v => some (v, H)'. -/
theorem Ev.gPrim {E : Option α} {a : α} {g : α → Option (Value × AH)} {v : Value} {H : AH} {f : Nat → Nat → Value → AH → Option R} {Q : R → Prop} (h : E = some a) (hg : g a = some (v, H)) (h2 : Ev (fun k n => f k n v H) Q) :
    Ev (fun k n => Go.AM.b2 (E.bind g) (f k n)) Q := Ev.prim2 (by rw [h]; exact hg) h2
theorem Ev.gCall {g : Nat → Nat → Option (Value × AH)} {f : Nat → Nat → Value → AH → Option R} {Q : R → Prop} (h : Ev (fun k n => Go.AM.b2 (g k n) (f k n)) Q) :
    Ev (fun k n => Go.AM.b2 (Go.AM.b2 (g k n) fun v H => some (v, H)) (f k n)) Q := Ev.eq (fun k n => by
      show Option.bind (Option.bind (g k n) _) _ = Option.bind (g k n) _
      rw [Option.bind_assoc]; rfl) h
/-- A loop has as much fuel as its function. -/
theorem Ev.loop {L : Nat → Nat → Option α} {Q : α → Prop} (h : Ev L Q) : Ev (fun k _ => L k k) Q := by
  obtain ⟨r, hr, N, hN⟩ := h
  exact ⟨r, hr, N, fun k n a _ => hN k k a a⟩
theorem Ev.succ {L T : Nat → Nat → Option α} {Q : α → Prop} (e : ∀ k n, L k (n + 1) = T k n) (h : Ev T Q) : Ev L Q := by
  obtain ⟨r, hr, N, hN⟩ := h
  refine ⟨r, hr, N + 1, fun k n a b => ?_⟩
  obtain ⟨m, rfl⟩ : ∃ m, n = m + 1 := ⟨n - 1, by omega⟩
  exact (e k m).trans (hN k m (by omega) (by omega))
theorem Ev.fn {F T : Nat → Option α} {Q : α → Prop} (e : ∀ k, F (k + 1) = T k) (h : Ev (fun k _ => T k) Q) : Ev (fun k _ => F k) Q := by
  obtain ⟨r, hr, N, hN⟩ := h
  refine ⟨r, hr, N + 1, fun k n a b => ?_⟩
  obtain ⟨m, rfl⟩ : ∃ m, k = m + 1 := ⟨k - 1, by omega⟩
  exact (e m).trans (hN m n (by omega) (by omega))

theorem blk_lt {H : AH} {b : Nat} {K : Blk} (h : blk H b = some K) : b < H.length := by
  unfold blk at h
  cases hh : H[b]? with
  | none => rw [hh] at h; exact absurd h (by simp)
  | some x => exact (List.getElem?_eq_some_iff.mp hh).1
theorem blk_mkB_old {H : AH} {cs e kd} {b : Nat} (h : b < H.length) : blk (mkB H cs e kd) b = blk H b := by
  unfold blk mkB; rw [List.getElem?_append_left h]
theorem blk_mkB_new {H : AH} {cs e kd} : blk (mkB H cs e kd) H.length = some ⟨cs, e, kd⟩ := by
  unfold blk mkB; simp
theorem blk_put {H : AH} {b c : Nat} {k : Blk} {cs} (hb : b < H.length) : blk (put H b k cs) c = if c = b then some ⟨cs, k.elem, k.kind⟩ else blk H c := by
  unfold blk put
  by_cases h : c = b
  · subst h; rw [List.getElem?_set_self hb, if_pos rfl]; rfl
  · rw [List.getElem?_set_ne (fun e => h e.symm), if_neg h]
theorem blk_kill {H : AH} {b c : Nat} (hb : b < H.length) : blk (kill H b) c = if c = b then none else blk H c := by
  unfold blk kill
  by_cases h : c = b
  · subst h; rw [List.getElem?_set_self hb, if_pos rfl]; rfl
  · rw [List.getElem?_set_ne (fun e => h e.symm), if_neg h]
theorem length_put {H : AH} {b k cs} : (put H b k cs).length = H.length := by unfold put; simp
theorem length_kill {H : AH} {b} : (kill H b).length = H.length := by unfold kill; simp
theorem length_mkB {H : AH} {cs e kd} : (mkB H cs e kd).length = H.length + 1 := by unfold mkB; simp

/-- More is there; what was there, or was not, is as it was. -/
structure Fr (H H' : AH) : Prop where
  len : H.length ≤ H'.length
  same : ∀ b, b < H.length → blk H' b = blk H b
/-- What was there is as it was. -/
def Mo (B B' : AH) : Prop := ∀ b K, blk B b = some K → blk B' b = some K
structure Le (B H : AH) : Prop where
  le : Mo B H
theorem Fr.refl (H : AH) : Fr H H := ⟨Nat.le_refl _, fun _ _ => rfl⟩
theorem Fr.trans {A B C : AH} (h1 : Fr A B) (h2 : Fr B C) : Fr A C := ⟨Nat.le_trans h1.len h2.len, fun b hb => (h2.same b (Nat.lt_of_lt_of_le hb h1.len)).trans (h1.same b hb)⟩
theorem Fr.mo {A B : AH} (h : Fr A B) : Mo A B := fun b K hb => (h.same b (blk_lt hb)).trans hb
theorem Mo.refl (B : AH) : Mo B B := fun _ _ h => h
theorem Mo.trans {A B C : AH} (h1 : Mo A B) (h2 : Mo B C) : Mo A C := fun b K h => h2 b K (h1 b K h)

/-- H0, B0: what it was at first. B: what nobody changes any more. L: ours. -/
class St (H0 B0 B : outParam AH) (L : outParam (List (Nat × Blk))) (H : AH) : Prop where
  le : Mo B H
  own : ∀ p, p ∈ L → blk H p.1 = some p.2 ∧ blk B p.1 = none ∧ H0.length ≤ p.1
  nd : (L.map Prod.fst).Nodup
  frH : Fr H0 H
  frB : ∀ b, b < H0.length → blk B b = blk B0 b

/-- How a function's answer stands to what it was at first. -/
def An (B H : AH) (Post : AH → Value → Prop) (r : Value × AH) : Prop := ∃ B', (∀ b, b < H.length → blk B' b = blk B b) ∧ Le B' r.2 ∧ Fr H r.2 ∧ Post B' r.1

theorem St.start {B H : AH} (h : Le B H) : St H B B [] H :=
  ⟨h.le, fun _ h => absurd h (List.not_mem_nil), List.nodup_nil, Fr.refl _, fun _ _ => rfl⟩
theorem St.lel {H0 B0 B L H} (h : St H0 B0 B L H) : Le B H := ⟨h.le⟩
theorem St.get {H0 B0 B L H} {b : Nat} {K : Blk} (h : St H0 B0 B L H) (hm : (b, K) ∈ L) : blk H b = some K := (h.own _ hm).1
theorem St.drop {H0 B0 B L L' H} (h : St H0 B0 B L H) (hs : L'.Sublist L) : St H0 B0 B L' H :=
  ⟨h.le, fun p hp => h.own p (hs.subset hp), (hs.map _).nodup h.nd, h.frH, h.frB⟩
theorem St.perm {H0 B0 B L L' H} (h : St H0 B0 B L H) (hs : L'.Perm L) : St H0 B0 B L' H :=
  ⟨h.le, fun p hp => h.own p (hs.subset hp), (hs.map _).nodup_iff.mpr h.nd, h.frH, h.frB⟩
theorem St.fresh {H0 B0 B L H} (h : St H0 B0 B L H) : blk B H.length = none := by
  cases hb : blk B H.length with
  | none => rfl
  | some K => exact absurd (blk_lt (h.le _ _ hb)) (Nat.lt_irrefl _)
theorem St.mkB' {H0 B0 B L H} (h : St H0 B0 B L H) (cs : List Value) (e : TypeId) (kd : BK) : St H0 B0 B ((H.length, ⟨cs, e, kd⟩) :: L) (mkB H cs e kd) := by
  refine ⟨fun b K hb => ?_, fun p hp => ?_, ?_, ⟨?_, fun b hb => ?_⟩, h.frB⟩
  · have := h.le b K hb
    rw [blk_mkB_old (blk_lt this)]; exact this
  · cases hp with
    | head => exact ⟨blk_mkB_new, h.fresh, h.frH.len⟩
    | tail _ hp =>
      have hh := h.own p hp
      exact ⟨by rw [blk_mkB_old (blk_lt hh.1)]; exact hh.1, hh.2.1, hh.2.2⟩
  · refine List.nodup_cons.mpr ⟨fun hm => ?_, h.nd⟩
    obtain ⟨p, hp, he⟩ := List.mem_map.mp hm
    have := blk_lt (h.own p hp).1
    have he : p.1 = H.length := he
    omega
  · rw [length_mkB]; have := h.frH.len; omega
  · rw [blk_mkB_old (by have := h.frH.len; omega)]; exact h.frH.same b hb
theorem St.mkB {H0 B0 B L H} (h : St H0 B0 B L H) (cs : List Value) (e : TypeId) (kd : BK) :
    ∃ B', Mo B B' ∧ St H0 B0 B' ((H.length, ⟨cs, e, kd⟩) :: L) (mkB H cs e kd) := ⟨B, Mo.refl B, h.mkB' cs e kd⟩

theorem mem_fst {p : Nat × Blk} {b : Nat} {L : List (Nat × Blk)} (h : p ∈ L) (e : p.1 = b) : b ∈ L.map Prod.fst := List.mem_map.mpr ⟨p, h, e⟩
/-- One of ours is another. -/
inductive Upd (b : Nat) (K K' : Blk) : List (Nat × Blk) → List (Nat × Blk) → Prop where
  | head (L) : Upd b K K' ((b, K) :: L) ((b, K') :: L)
  | tail (x) {L L'} (h : Upd b K K' L L') : Upd b K K' (x :: L) (x :: L')
theorem Upd.mem {b K K' L L'} (h : Upd b K K' L L') : (b, K) ∈ L := by
  induction h with
  | head => exact .head _
  | tail _ _ ih => exact .tail _ ih
theorem Upd.map {b K K' L L'} (h : Upd b K K' L L') : L'.map Prod.fst = L.map Prod.fst := by
  induction h with
  | head => rfl
  | tail x _ ih => simp [ih]
theorem Upd.inv {b K K' L L'} (h : Upd b K K' L L') (hn : (L.map Prod.fst).Nodup) : ∀ p, p ∈ L' → p = (b, K') ∨ (p ∈ L ∧ p.1 ≠ b) := by
  induction h with
  | head L =>
    intro p hp
    cases hp with
    | head => exact .inl rfl
    | tail _ hp => exact .inr ⟨.tail _ hp, fun e => (List.nodup_cons.mp hn).1 (mem_fst hp e)⟩
  | tail x hU ih =>
    intro p hp
    cases hp with
    | head => exact .inr ⟨.head _, fun e => (List.nodup_cons.mp hn).1 (mem_fst hU.mem e.symm)⟩
    | tail _ hp => exact (ih (List.nodup_cons.mp hn).2 p hp).imp id fun h => ⟨.tail _ h.1, h.2⟩
theorem St.put {H0 B0 B L L' H} {b : Nat} {K : Blk} {cs : List Value} (h : St H0 B0 B L H) (hu : Upd b K ⟨cs, K.elem, K.kind⟩ L L') : St H0 B0 B L' (put H b K cs) := by
  have hb := h.own _ hu.mem
  have hlt := blk_lt hb.1
  refine ⟨fun c K' hc => ?_, fun p hp => ?_, by rw [hu.map]; exact h.nd, ⟨by rw [length_put]; exact h.frH.len, fun c hc => ?_⟩, h.frB⟩
  · rw [blk_put hlt, if_neg]
    · exact h.le c K' hc
    · intro e; subst e; rw [hb.2.1] at hc; exact absurd hc (by simp)
  · rcases hu.inv h.nd p hp with rfl | ⟨hp', hne⟩
    · exact ⟨by rw [blk_put hlt, if_pos rfl], hb.2⟩
    · have := h.own p hp'
      exact ⟨by rw [blk_put hlt, if_neg hne]; exact this.1, this.2⟩
  · rw [blk_put hlt, if_neg (by have : H0.length ≤ b := hb.2.2; omega)]; exact h.frH.same c hc
theorem St.kill {H0 B0 B L H} {b : Nat} {K : Blk} (h : St H0 B0 B ((b, K) :: L) H) : St H0 B0 B L (kill H b) := by
  have hb := h.own _ (.head _)
  have hlt := blk_lt hb.1
  have hn := List.nodup_cons.mp h.nd
  refine ⟨fun c K' hc => ?_, fun p hp => ?_, hn.2, ⟨by rw [length_kill]; exact h.frH.len, fun c hc => ?_⟩, h.frB⟩
  · rw [blk_kill hlt, if_neg]
    · exact h.le c K' hc
    · intro e; subst e; rw [hb.2.1] at hc; exact absurd hc (by simp)
  · have := h.own p (.tail _ hp)
    exact ⟨by rw [blk_kill hlt, if_neg fun e => hn.1 (mem_fst hp e)]; exact this.1, this.2⟩
  · rw [blk_kill hlt, if_neg (by have : H0.length ≤ b := hb.2.2; omega)]; exact h.frH.same c hc
theorem setB (B : AH) (b : Nat) (K : Blk) : ∃ B', ∀ c, blk B' c = if c = b then some K else blk B c := by
  refine ⟨(B ++ List.replicate (b + 1) none).set b (some K), fun c => ?_⟩
  have hp : ∀ d, blk (B ++ List.replicate (b + 1) none) d = blk B d := fun d => by
    unfold blk
    by_cases h : d < B.length
    · rw [List.getElem?_append_left h]
    · rw [List.getElem?_append_right (by omega), List.getElem?_eq_none (l := B) (by omega), List.getElem?_replicate]
      split <;> rfl
  by_cases h : c = b
  · subst h; unfold blk; rw [List.getElem?_set_self (by simp; omega), if_pos rfl]; rfl
  · rw [if_neg h, ← hp c]; unfold blk; rw [List.getElem?_set_ne (fun e => h e.symm)]
/-- From now on nobody changes it. -/
theorem St.freeze {H0 B0 B L H} {b : Nat} {K : Blk} (h : St H0 B0 B ((b, K) :: L) H) : ∃ B', Mo B B' ∧ blk B' b = some K ∧ St H0 B0 B' L H := by
  have hb := h.own _ (.head _)
  have hn := List.nodup_cons.mp h.nd
  obtain ⟨B', hs⟩ := setB B b K
  refine ⟨B', fun c K' hc => ?_, by rw [hs, if_pos rfl], fun c K' hc => ?_, fun p hp => ?_, hn.2, h.frH, fun c hc => ?_⟩
  · rw [hs, if_neg]
    · exact hc
    · intro e; subst e; rw [hb.2.1] at hc; exact absurd hc (by simp)
  · rw [hs] at hc
    by_cases e : c = b
    · subst e; rw [if_pos rfl] at hc; rw [← hc]; exact hb.1
    · rw [if_neg e] at hc; exact h.le c K' hc
  · have := h.own p (.tail _ hp)
    exact ⟨this.1, by rw [hs, if_neg fun e => hn.1 (mem_fst hp e)]; exact this.2.1, this.2.2⟩
  · rw [hs, if_neg (by have : H0.length ≤ b := hb.2.2; omega)]; exact h.frB c hc
theorem St.call {H0 B0 B L H} {Post : AH → Value → Prop} {r : Value × AH} (h : St H0 B0 B L H) (ha : An B H Post r) : ∃ B', Mo B B' ∧ St H0 B0 B' L r.2 ∧ Post B' r.1 := by
  obtain ⟨B', f1, f2, f3, f4⟩ := ha
  refine ⟨B', fun b K hb => (f1 b (blk_lt (h.le b K hb))).trans hb, ⟨f2.le, fun p hp => ?_, h.nd, h.frH.trans f3, fun b hb => (f1 b (Nat.lt_of_lt_of_le hb h.frH.len)).trans (h.frB b hb)⟩, f4⟩
  have hh := h.own p hp
  have hlt := blk_lt hh.1
  exact ⟨(f3.same _ hlt).trans hh.1, (f1 _ hlt).trans hh.2.1, hh.2.2⟩
theorem St.an {H0 B0 B L H} {Post : AH → Value → Prop} {v : Value} (h : St H0 B0 B L H) (hp : Post B v) : An B0 H0 Post (v, H) := ⟨B, h.frB, h.lel, h.frH, hp⟩

def ldK (P : Program) (t : TypeId) (cells : List Value) (off : Nat) : Option Value :=
  match aggT P t with
  | some true => if off + szT P t ≤ cells.length then some (.agg ((cells.drop off).take (szT P t)).toArray) else none
  | some false => cells[off]?
  | none => none
def stK (P : Program) (t : TypeId) (cells : List Value) (off : Nat) (v : Value) : Option (List Value) :=
  match aggT P t with
  | some true =>
    match v with
    | .agg cs => if off + szT P t ≤ cells.length ∧ cs.size = szT P t ∧ cs.toList.all isCell = true then some (spl cells off cs.toList) else none
    | _ => none
  | some false => if szT P t = 1 ∧ off < cells.length ∧ isCell v = true then some (cells.set off v) else none
  | none => none
theorem ld_blk {t : TypeId} {H : AH} {b off : Nat} {K : Blk} (h : blk H b = some K) : ld P t H (ptr b off) = ldK P t K.cells off := by
  unfold ld ldK
  cases aggT P t with
  | none => rfl
  | some a =>
    cases a with
    | true => simp only [ldA, ptr, h, Option.bind_some, rdN]; split <;> rfl
    | false => simp only [ldC, ptr, h, Option.bind_some]
theorem st_blk {t : TypeId} {H : AH} {b off : Nat} {K : Blk} {v : Value} {cs : List Value} (h : blk H b = some K) (hk : K.kind ≠ .ro) (hs : stK P t K.cells off v = some cs) : st P t H (ptr b off) v = some (put H b K cs) := by
  unfold st
  unfold stK at hs
  cases ha : aggT P t with
  | none => rw [ha] at hs; exact absurd hs (by simp)
  | some a =>
    rw [ha] at hs
    cases a with
    | true =>
      cases v with
      | agg c =>
        simp only at hs
        split at hs
        · rename_i hc
          simp only [stA, ptr, h, Option.bind_some, if_pos (show K.kind ≠ .ro ∧ off + szT P t ≤ K.cells.length ∧ c.size = szT P t ∧ c.toList.all isCell = true from ⟨hk, hc⟩)]
          rw [Option.some.inj hs]
        · exact absurd hs (by simp)
      | _ => exact absurd hs (by simp)
    | false =>
      simp only at hs
      split at hs
      · rename_i hc
        simp only [stC, ptr, h, Option.bind_some, if_pos hc.1, if_pos (show K.kind ≠ .ro ∧ off < K.cells.length ∧ isCell v = true from ⟨hk, hc.2⟩)]
        rw [Option.some.inj hs]
      · exact absurd hs (by simp)

theorem Ev.box {H0 B0 B L H} {v : Value} {t : TypeId} {f : Nat → Nat → Value → AH → Option R} {Q : R → Prop} (hS : St H0 B0 B L H) (hv : okCells v = true)
    (h : ∀ b B' H', Mo B B' → St H0 B0 B' ((b, ⟨v.cells.toList, t, .fix⟩) :: L) H' → Ev (fun k n => f k n (ptr b 0) H') Q) : Ev (fun k n => Go.AM.b2 (Go.AM.box t H v) (f k n)) Q := by
  obtain ⟨B', hm, hS'⟩ := hS.mkB v.cells.toList t .fix
  exact Ev.prim2 (by unfold Go.AM.box; rw [if_pos hv]) (h H.length B' _ hm hS')
theorem Ev.newV {H0 B0 B L H} {z : Value} {t : TypeId} {f : Nat → Nat → Value → AH → Option R} {Q : R → Prop} (hz : zeroT P t = some z) (hS : St H0 B0 B L H) (hv : okCells z = true)
    (h : ∀ b B' H', Mo B B' → St H0 B0 B' ((b, ⟨z.cells.toList, t, .fix⟩) :: L) H' → Ev (fun k n => f k n (ptr b 0) H') Q) : Ev (fun k n => Go.AM.b2 (Go.AM.newV P t H) (f k n)) Q := by
  have e : Go.AM.newV P t H = Go.AM.box t H z := by unfold Go.AM.newV; rw [hz]; rfl
  rw [e]; exact Ev.box hS hv h
theorem Ev.ld {H0 B0 B L H} {b off : Nat} {K : Blk} {v : Value} {t : TypeId} {f : Nat → Nat → Value → Option R} {Q : R → Prop} (hS : St H0 B0 B L H) (hm : (b, K) ∈ L) (hv : ldK P t K.cells off = some v)
    (h : Ev (fun k n => f k n v) Q) : Ev (fun k n => (Go.AM.ld P t H (ptr b off)).bind (f k n)) Q :=
  Ev.prim ((ld_blk (hS.get hm)).trans hv) h
theorem Ev.st {H0 B0 B L L' H} {b off : Nat} {K : Blk} {v : Value} {cs : List Value} {t : TypeId} {f : Nat → Nat → AH → Option R} {Q : R → Prop} (hS : St H0 B0 B L H) (hm : (b, K) ∈ L) (hs : stK P t K.cells off v = some cs)
    (hk : K.kind ≠ .ro) (hu : Upd b K ⟨cs, K.elem, K.kind⟩ L L') (h : ∀ H', St H0 B0 B L' H' → Ev (fun k n => f k n H') Q) : Ev (fun k n => (Go.AM.st P t H (ptr b off) v).bind (f k n)) Q :=
  Ev.prim (st_blk (hS.get hm) hk hs) (h _ (hS.put hu))
theorem Ev.call {H0 B0 B L H} {g : Nat → Nat → Option (Value × AH)} {Post : AH → Value → Prop} {f : Nat → Nat → Value → AH → Option R} {Q : R → Prop} (hS : St H0 B0 B L H)
    (hc : Le B H → Ev g (An B H Post)) (h : ∀ v B' H', Mo B B' → St H0 B0 B' L H' → Post B' v → Ev (fun k n => f k n v H') Q) : Ev (fun k n => Go.AM.b2 (g k n) (f k n)) Q :=
  Ev.b2 (hc hS.lel) fun v H' ha => by
    obtain ⟨B', hm, hS', hp⟩ := hS.call ha
    exact h v B' H' hm hS' hp
theorem Ev.done {H0 B0 B L H} {Post : AH → Value → Prop} {v : Value} (hS : St H0 B0 B L H) (hp : Post B v) : Ev (fun _ _ => some (v, H)) (An B0 H0 Post) := Ev.ret (hS.an hp)

section
variable {t : TypeId} {k : IntKind} {x y : Int}
theorem bin_int {op : BinOp} {v : Value} (h : still P (binOp op t (.int k x) (.int k y)) = some v) (hv : flat1 v = true) : bin P op t (.int k x) (.int k y) = some v := by
  unfold bin; rw [if_pos ⟨rfl, rfl, rfl⟩, h, Option.bind_some, if_pos hv]
theorem bin_add : bin P .add t (.int k x) (.int k y) = some (.int k (k.wrap (x + y))) := bin_int (by simp [binOp, Op.intArith, still]; rfl) rfl
theorem bin_sub : bin P .sub t (.int k x) (.int k y) = some (.int k (k.wrap (x - y))) := bin_int (by simp [binOp, Op.intArith, still]; rfl) rfl
theorem bin_mul : bin P .mul t (.int k x) (.int k y) = some (.int k (k.wrap (x * y))) := bin_int (by simp [binOp, Op.intArith, still]; rfl) rfl
theorem bin_lss : bin P .lss t (.int k x) (.int k y) = some (.bool (decide (x < y))) := bin_int (by simp [binOp, Op.intCmp, still]; rfl) rfl
theorem bin_leq : bin P .leq t (.int k x) (.int k y) = some (.bool (decide (x ≤ y))) := bin_int (by simp [binOp, Op.intCmp, still]; rfl) rfl
theorem bin_gtr : bin P .gtr t (.int k x) (.int k y) = some (.bool (decide (y < x))) := bin_int (by simp [binOp, Op.intCmp, still]; rfl) rfl
theorem bin_geq : bin P .geq t (.int k x) (.int k y) = some (.bool (decide (y ≤ x))) := bin_int (by simp [binOp, Op.intCmp, still]; rfl) rfl
theorem bin_eql : bin P .eql t (.int k x) (.int k y) = some (.bool (decide (x = y))) := bin_int (by simp [binOp, Op.intCmp, still]; rfl) rfl
theorem bin_neq : bin P .neq t (.int k x) (.int k y) = some (.bool (decide (x ≠ y))) := bin_int (by simp [binOp, Op.intCmp, still]; rfl) rfl
theorem bin_quo (h : y ≠ 0) : bin P .quo t (.int k x) (.int k y) = some (.int k (k.wrap (x.tdiv y))) := bin_int (by simp [binOp, Op.intDiv, still, h]; rfl) rfl
theorem bin_rem (h : y ≠ 0) : bin P .rem t (.int k x) (.int k y) = some (.int k (x.tmod y)) := bin_int (by simp [binOp, Op.intDiv, still, h]; rfl) rfl
theorem bin_shl {k' : IntKind} (h : 0 ≤ y) : bin P .shl t (.int k x) (.int k' y) = some (.int k (k.wrap (x * 2 ^ (min y.toNat k.bits)))) := by
  unfold bin; rw [if_pos ⟨rfl, rfl, rfl⟩]
  simp only [binOp, Op.shift, if_neg (show ¬ y < 0 by omega)]; rfl
theorem bin_shr {k' : IntKind} (h : 0 ≤ y) : bin P .shr t (.int k x) (.int k' y) = some (.int k (x.fdiv (2 ^ (min y.toNat k.bits)))) := by
  unfold bin; rw [if_pos ⟨rfl, rfl, rfl⟩]
  simp only [binOp, Op.shift, if_neg (show ¬ y < 0 by omega)]; rfl
theorem bin_and : bin P .and t (.int k x) (.int k y) = some (.int k (k.wrap (BitVec.ofInt k.bits x &&& BitVec.ofInt k.bits y).toNat)) := bin_int (by simp [binOp, Op.intBits, still]; rfl) rfl
theorem bin_or : bin P .or t (.int k x) (.int k y) = some (.int k (k.wrap (BitVec.ofInt k.bits x ||| BitVec.ofInt k.bits y).toNat)) := bin_int (by simp [binOp, Op.intBits, still]; rfl) rfl
theorem un_not {b : Bool} : un P .not (.bool b) = some (.bool !b) := rfl
theorem un_neg : un P .neg (.int k x) = some (.int k (k.wrap (0 - x))) := by simp [un, flat1, Op.unary, Op.intArith, still]; rfl
end
end Go.AM
set_option linter.unusedVariables false
namespace Go.AM
def val : List Nat → Nat
  | [] => 0
  | x :: xs => x + 4294967296 * val xs
def limbs (n : Nat) : List Nat := if h : n = 0 then [] else n % 4294967296 :: limbs (n / 4294967296)
termination_by n
decreasing_by exact Nat.div_lt_self (Nat.pos_of_ne_zero h) (by decide)
def small (xs : List Nat) : Prop := ∀ x, x ∈ xs → x < 4294967296
theorem limbs_zero : limbs 0 = [] := by rw [limbs]; rfl
theorem limbs_pos {n : Nat} (h : n ≠ 0) : limbs n = n % 4294967296 :: limbs (n / 4294967296) := by rw [limbs, dif_neg h]
theorem val_limbs (n : Nat) : val (limbs n) = n := by
  induction n using Nat.strongRecOn with
  | ind n ih =>
    by_cases h : n = 0
    · subst h; rw [limbs_zero]; rfl
    · rw [limbs_pos h, val, ih _ (Nat.div_lt_self (Nat.pos_of_ne_zero h) (by decide))]; omega
theorem small_limbs (n : Nat) : small (limbs n) := by
  induction n using Nat.strongRecOn with
  | ind n ih =>
    by_cases h : n = 0
    · subst h; rw [limbs_zero]; intro x hx; cases hx
    · rw [limbs_pos h]
      intro x hx
      cases hx with
      | head => exact Nat.mod_lt _ (by decide)
      | tail _ hx => exact ih _ (Nat.div_lt_self (Nat.pos_of_ne_zero h) (by decide)) x hx
theorem small.tail {x : Nat} {xs : List Nat} (h : small (x :: xs)) : small xs := fun y hy => h y (.tail _ hy)
theorem small.head {x : Nat} {xs : List Nat} (h : small (x :: xs)) : x < 4294967296 := h x (.head _)
theorem val_append (xs ys : List Nat) : val (xs ++ ys) = val xs + 4294967296 ^ xs.length * val ys := by
  induction xs with
  | nil => simp [val]
  | cons x xs ih => simp only [List.cons_append, val, ih, List.length_cons, Nat.pow_succ]; rw [Nat.mul_add, ← Nat.mul_assoc, Nat.mul_comm 4294967296 (4294967296 ^ xs.length)]; omega
theorem val_lt {xs : List Nat} (h : small xs) : val xs < 4294967296 ^ xs.length := by
  induction xs with
  | nil => simp [val]
  | cons x xs ih =>
    have h1 := ih h.tail
    have h2 := h.head
    simp only [val, List.length_cons, Nat.pow_succ]
    generalize 4294967296 ^ xs.length = p at h1
    have : 4294967296 * (val xs + 1) ≤ 4294967296 * p := Nat.mul_le_mul_left _ h1
    rw [Nat.mul_comm p]; omega
theorem limbs_val_cons {x : Nat} {xs : List Nat} (hx : x < 4294967296) (h : x ≠ 0 ∨ xs ≠ []) (ih : limbs (val xs) = xs) : limbs (val (x :: xs)) = x :: xs := by
  have hne : val (x :: xs) ≠ 0 := by
    simp only [val]
    intro e
    have e1 : x = 0 := by omega
    have e2 : val xs = 0 := by omega
    rcases h with h | h
    · exact h e1
    · rw [e2, limbs_zero] at ih; exact h ih.symm
  rw [limbs_pos hne]
  have e1 : val (x :: xs) % 4294967296 = x := by simp only [val]; omega
  have e2 : val (x :: xs) / 4294967296 = val xs := by simp only [val]; omega
  rw [e1, e2, ih]
/-- No nought at the end: it is as it has to be. -/
theorem limbs_val {xs : List Nat} (h : small xs) (ht : ∀ y, xs.getLast? = some y → y ≠ 0) : limbs (val xs) = xs := by
  induction xs with
  | nil => exact limbs_zero
  | cons x xs ih =>
    cases xs with
    | nil => exact limbs_val_cons h.head (.inl (ht x rfl)) limbs_zero
    | cons z zs => exact limbs_val_cons h.head (.inr (by simp)) (ih h.tail fun y hy => ht y (by rw [List.getLast?_cons_cons]; exact hy))
theorem val_snoc_zero (xs : List Nat) : val (xs ++ [0]) = val xs := by rw [val_append]; simp [val]
theorem limbs_getLast {n : Nat} : ∀ y, (limbs n).getLast? = some y → y ≠ 0 := by
  induction n using Nat.strongRecOn with
  | ind n ih =>
    intro y hy
    by_cases h : n = 0
    · subst h; rw [limbs_zero] at hy; cases hy
    · rw [limbs_pos h] at hy
      by_cases h2 : n / 4294967296 = 0
      · rw [h2, limbs_zero] at hy; have e : n % 4294967296 = y := by simpa using hy
        omega
      · rw [limbs_pos h2, List.getLast?_cons_cons, ← limbs_pos h2] at hy
        exact ih _ (Nat.div_lt_self (Nat.pos_of_ne_zero h) (by decide)) y hy
theorem limbs_eq_nil {n : Nat} : limbs n = [] ↔ n = 0 := by
  constructor
  · intro h; have := val_limbs n; rw [h] at this; exact this.symm
  · intro h; subst h; exact limbs_zero
theorem limbs_length_le {n k : Nat} (h : n < 4294967296 ^ k) : (limbs n).length ≤ k := by
  induction k generalizing n with
  | zero => have : n = 0 := by simpa using h
            subst this; rw [limbs_zero]; simp
  | succ k ih =>
    by_cases h0 : n = 0
    · subst h0; rw [limbs_zero]; simp
    · rw [limbs_pos h0, List.length_cons]
      exact Nat.succ_le_succ (ih (Nat.div_lt_of_lt_mul (by rw [Nat.pow_succ, Nat.mul_comm] at h; exact h)))
theorem small.append {xs ys : List Nat} (h : small xs) (h' : small ys) : small (xs ++ ys) := fun x hx => (List.mem_append.mp hx).elim (h x) (h' x)
theorem small.take {xs : List Nat} (h : small xs) (n : Nat) : small (xs.take n) := fun x hx => h x (List.mem_of_mem_take hx)
theorem small.drop {xs : List Nat} (h : small xs) (n : Nat) : small (xs.drop n) := fun x hx => h x (List.mem_of_mem_drop hx)
theorem small.set {xs : List Nat} (h : small xs) (n : Nat) {y : Nat} (hy : y < 4294967296) : small (xs.set n y) := fun x hx => (List.mem_or_eq_of_mem_set hx).elim (h x) fun e => e ▸ hy
theorem small_replicate (n : Nat) : small (List.replicate n 0) := fun x hx => by rw [(List.mem_replicate.mp hx).2]; decide
theorem small.getD {xs : List Nat} (h : small xs) (i : Nat) : xs.getD i 0 < 4294967296 := by
  by_cases hi : i < xs.length
  · rw [List.getD_eq_getElem?_getD, List.getElem?_eq_getElem hi]; exact h _ (List.getElem_mem hi)
  · rw [List.getD_eq_getElem?_getD, List.getElem?_eq_none (by omega)]; decide
theorem val_replicate (n : Nat) : val (List.replicate n 0) = 0 := by
  induction n with
  | zero => rfl
  | succ n ih => rw [List.replicate_succ, val, ih]
theorem val_take_succ {xs : List Nat} {i : Nat} (h : i < xs.length) : val (xs.take (i + 1)) = val (xs.take i) + 4294967296 ^ i * xs.getD i 0 := by
  rw [List.take_succ_eq_append_getElem h, val_append, List.length_take, Nat.min_eq_left (by omega : i ≤ xs.length)]
  simp [val, h]
theorem val_drop (xs : List Nat) (i : Nat) : val xs = val (xs.take i) + 4294967296 ^ i * val (xs.drop i) := by
  by_cases h : i ≤ xs.length
  · have := val_append (xs.take i) (xs.drop i)
    rw [List.take_append_drop, List.length_take, Nat.min_eq_left h] at this; exact this
  · rw [List.take_of_length_le (by omega), List.drop_eq_nil_of_le (by omega)]; simp [val]
end Go.AM
namespace Go.AM
theorem val_take_succ' (xs : List Nat) (i : Nat) : val (xs.take (i + 1)) = val (xs.take i) + 4294967296 ^ i * xs.getD i 0 := by
  by_cases h : i < xs.length
  · exact val_take_succ h
  · rw [List.take_of_length_le (by omega), List.take_of_length_le (by omega), List.getD_eq_getElem?_getD, List.getElem?_eq_none (by omega)]; simp
theorem val_take_set {zs : List Nat} {i w : Nat} (h : i < zs.length) : val ((zs.set i w).take (i + 1)) = val (zs.take i) + 4294967296 ^ i * w := by
  rw [val_take_succ' , List.take_set_of_le (Nat.le_refl i), List.getD_eq_getElem?_getD, List.getElem?_set_self h]; rfl
theorem mul_step {p w c x : Nat} (h : w + 4294967296 * c = x) : p * w + p * 4294967296 * c = p * x := by
  rw [← h, Nat.mul_add, Nat.mul_assoc]
end Go.AM
set_option linter.unusedVariables false
set_option linter.unusedSimpArgs false
namespace Go.AM
variable {α β R : Type} {P : Program} {t : TypeId} {x y : Int}
theorem wrap64 {n : Int} (h : -9223372036854775808 ≤ n ∧ n < 9223372036854775808) : IntKind.i64.wrap n = n := by
  simp only [IntKind.wrap, IntKind.bits, IntKind.signed]; simp; omega
theorem wrapu64 {n : Int} : IntKind.u64.wrap n = n % 18446744073709551616 := by
  simp only [IntKind.wrap, IntKind.bits, IntKind.signed]; simp
theorem wrapu32 {n : Int} : IntKind.u32.wrap n = n % 4294967296 := by
  simp only [IntKind.wrap, IntKind.bits, IntKind.signed]; simp
theorem wrapu8 {n : Int} : IntKind.u8.wrap n = n % 256 := by
  simp only [IntKind.wrap, IntKind.bits, IntKind.signed]; simp
theorem bin_add64 (h : -9223372036854775808 ≤ x + y ∧ x + y < 9223372036854775808) : bin P .add t (.int .i64 x) (.int .i64 y) = some (.int .i64 (x + y)) := by rw [bin_add, wrap64 h]
theorem bin_sub64 (h : -9223372036854775808 ≤ x - y ∧ x - y < 9223372036854775808) : bin P .sub t (.int .i64 x) (.int .i64 y) = some (.int .i64 (x - y)) := by rw [bin_sub, wrap64 h]
theorem bin_mul64 (h : -9223372036854775808 ≤ x * y ∧ x * y < 9223372036854775808) : bin P .mul t (.int .i64 x) (.int .i64 y) = some (.int .i64 (x * y)) := by rw [bin_mul, wrap64 h]
theorem pick_t {a b : Value} : pickV (.bool true) a b = some a := rfl
theorem pick_f {a b : Value} : pickV (.bool false) a b = some b := rfl
theorem lenV_sl {e : TypeId} {p : Option Addr} {n c : Nat} (h : P.underlying t = some (.slice e)) : lenV P t (.slice p n c) = some (.int .i64 (n : Nat)) := by unfold lenV; rw [h]
theorem Ev.some2 {v : Value} {H : AH} {f : Nat → Nat → Value → AH → Option R} {Q : R → Prop} (h2 : Ev (fun k n => f k n v H) Q) : Ev (fun k n => Go.AM.b2 (some (v, H)) (f k n)) Q := h2
theorem Ev.some1 {a : α} {f : Nat → Nat → α → Option R} {Q : R → Prop} (h2 : Ev (fun k n => f k n a) Q) : Ev (fun k n => (some a).bind (f k n)) Q := h2
theorem cv_int {s d : TypeId} {D : TypeDesc} {k k' : IntKind} (hs : P.underlying s = some D) (h : P.underlying d = some (.int k)) : cv P s d (.int k' x) = some (.int k (k.wrap x)) := by unfold cv; rw [hs, h]

def Sc (B : AH) (v : Value) (cs : List Value) : Prop :=
  (v = .slice none 0 0 ∧ cs = []) ∨ ∃ b off cap, v = sl b off cs.length cap ∧ cs.length ≤ cap ∧ (cs = [] ∨ ∃ K, blk B b = some K ∧ rdN K off cs.length = some cs)
theorem Sc.mono {B B' : AH} {v : Value} {cs : List Value} (hm : Mo B B') (h : Sc B v cs) : Sc B' v cs := by
  rcases h with h | ⟨b, off, cap, h1, hc, h2⟩
  · exact .inl h
  · exact .inr ⟨b, off, cap, h1, hc, h2.imp id fun ⟨K, h3, h4⟩ => ⟨K, hm _ _ h3, h4⟩⟩
theorem Sc.nil {B : AH} : Sc B (.slice none 0 0) [] := .inl ⟨rfl, rfl⟩
theorem rdN_some {K : Blk} {off n : Nat} {cs : List Value} (h : rdN K off n = some cs) : off + n ≤ K.cells.length ∧ cs = (K.cells.drop off).take n := by
  unfold rdN at h; split at h
  · exact ⟨by assumption, (Option.some.inj h).symm⟩
  · cases h
theorem rdN_get {K : Blk} {off n i : Nat} {cs : List Value} (h : rdN K off n = some cs) (hi : i < n) : K.cells[off + i]? = cs[i]? := by
  obtain ⟨h1, rfl⟩ := rdN_some h
  rw [List.getElem?_take_of_lt hi, List.getElem?_drop]
theorem Sc.len {B : AH} {v : Value} {cs : List Value} {e : TypeId} (hU : P.underlying t = some (.slice e)) (h : Sc B v cs) : lenV P t v = some (.int .i64 (cs.length : Nat)) := by
  rcases h with ⟨rfl, rfl⟩ | ⟨b, off, cap, rfl, _, _⟩
  · exact lenV_sl hU
  · exact lenV_sl hU
theorem ixA_sl {e : TypeId} {b off len cap : Nat} {k : IntKind} (hU : P.underlying t = some (.slice e)) (hI : (P.info? e).isSome = true) (hz : szT P e = 1) (h : 0 ≤ x ∧ x < len) :
    ixA P t (sl b off len cap) (.int k x) = some (ptr b (off + x.toNat)) := by
  unfold ixA sl; rw [hU]; simp only; rw [if_pos ⟨hI, h.1, by omega⟩, hz, Nat.mul_one]
theorem Sc.ix {B : AH} {v : Value} {cs : List Value} {e : TypeId} {k : IntKind} (hU : P.underlying t = some (.slice e)) (hI : (P.info? e).isSome = true) (hz : szT P e = 1) (ha : aggT P e = some false) (h : Sc B v cs)
    (h0 : 0 ≤ x ∧ x < cs.length) : ∃ p, ixA P t v (.int k x) = some p ∧ ∀ H', (∀ b K, blk B b = some K → blk H' b = some K) → ld P e H' p = cs[x.toNat]? := by
  rcases h with ⟨rfl, rfl⟩ | ⟨b, off, cap, rfl, hc, h⟩
  · exact absurd h0.2 (by simp; omega)
  · refine ⟨_, ixA_sl hU hI hz h0, fun H' hH => ?_⟩
    rcases h with rfl | ⟨K, h1, h2⟩
    · exact absurd h0.2 (by simp; omega)
    · rw [ld_blk (hH _ _ h1), ldK, ha]
      exact rdN_get h2 (by omega)
/-- From its beginning. -/
theorem Sc.upto {B : AH} {v : Value} {cs : List Value} {e : TypeId} {k : IntKind} (hU : P.underlying t = some (.slice e)) (hI : (P.info? e).isSome = true) (h : Sc B v cs) (h0 : 0 ≤ x ∧ x ≤ cs.length) :
    ∃ v', slc P t v none (some (.int k x)) = some v' ∧ Sc B v' (cs.take x.toNat) := by
  rcases h with ⟨rfl, rfl⟩ | ⟨b, off, cap, rfl, hc, h⟩
  · have : x = 0 := by simp at h0; omega
    subst this
    exact ⟨.slice none 0 0, by unfold slc; rw [hU]; simp [intOr, hI], .inl ⟨rfl, rfl⟩⟩
  · refine ⟨sl b off x.toNat cap, ?_, .inr ⟨b, off, cap, by rw [List.length_take, Nat.min_eq_left (by omega)], by rw [List.length_take]; omega, ?_⟩⟩
    · unfold slc sl; rw [hU]; simp only [intOr, Option.bind_some]
      rw [if_pos ⟨hI, by omega, by omega, by omega⟩]
      simp
    · rcases h with rfl | ⟨K, h1, h2⟩
      · exact .inl (by simp)
      · refine .inr ⟨K, h1, ?_⟩
        obtain ⟨h3, h4⟩ := rdN_some h2
        rw [List.length_take, Nat.min_eq_left (by omega), rdN, if_pos (by omega)]
        conv => rhs; rw [h4]
        rw [List.take_take, Nat.min_eq_left (by omega)]
/-- To its end. -/
theorem Sc.from {B : AH} {v : Value} {cs : List Value} {e : TypeId} {k : IntKind} (hU : P.underlying t = some (.slice e)) (hI : (P.info? e).isSome = true) (hz : szT P e = 1) (h : Sc B v cs) (h0 : 0 ≤ x ∧ x ≤ cs.length) :
    ∃ v', slc P t v (some (.int k x)) none = some v' ∧ Sc B v' (cs.drop x.toNat) := by
  rcases h with ⟨rfl, rfl⟩ | ⟨b, off, cap, rfl, hc, h⟩
  · have : x = 0 := by simp at h0; omega
    subst this
    exact ⟨.slice none 0 0, by unfold slc; rw [hU]; simp [intOr, hI], .inl ⟨rfl, rfl⟩⟩
  · refine ⟨sl b (if cap = x.toNat then off else off + x.toNat) (cs.drop x.toNat).length (cap - x.toNat), ?_, .inr ⟨b, _, _, rfl, by rw [List.length_drop]; omega, ?_⟩⟩
    · unfold slc sl; rw [hU]; simp only [intOr, Option.bind_some]
      rw [if_pos ⟨hI, by omega, by omega, by omega⟩, hz, Nat.mul_one]
      simp
    · by_cases hd : cs.drop x.toNat = []
      · exact .inl hd
      rcases h with rfl | ⟨K, h1, h2⟩
      · exact .inl (by simp)
      · refine .inr ⟨K, h1, ?_⟩
        obtain ⟨h3, h4⟩ := rdN_some h2
        have hl : x.toNat < cs.length := Nat.lt_of_not_le fun hh => hd (List.drop_eq_nil_of_le hh)
        rw [if_neg (by omega), rdN, List.length_drop, if_pos (by omega)]
        conv => rhs; rw [h4]
        rw [List.drop_take, List.drop_drop]

/-- Digits. -/
abbrev u32 (n : Nat) : Value := .int .u32 (n : Int)
class RdN (B : outParam AH) (v : Value) (xs : outParam (List Nat)) : Prop where
  sc : Sc B v (xs.map u32)
  sm : small xs
theorem RdN.mono {B B' : AH} {v : Value} {xs : List Nat} (hm : Mo B B') (h : RdN B v xs) : RdN B' v xs := ⟨h.1.mono hm, h.2⟩
theorem RdN.nil {B : AH} : RdN B (.slice none 0 0) [] := ⟨Sc.nil, fun _ h => absurd h List.not_mem_nil⟩
theorem RdN.len {B : AH} {v : Value} {xs : List Nat} {e : TypeId} (hU : P.underlying t = some (.slice e)) (h : RdN B v xs) : lenV P t v = some (.int .i64 (xs.length : Nat)) := by
  have := h.1.len hU; rwa [List.length_map] at this
theorem RdN.ix {B : AH} {v : Value} {xs : List Nat} {e : TypeId} {k : IntKind} (hU : P.underlying t = some (.slice e)) (hI : (P.info? e).isSome = true) (hz : szT P e = 1) (ha : aggT P e = some false) (h : RdN B v xs)
    (h0 : 0 ≤ x ∧ x < xs.length) : ∃ p, ixA P t v (.int k x) = some p ∧ ∀ H', Mo B H' → ld P e H' p = some (u32 (xs.getD x.toNat 0)) := by
  obtain ⟨p, h1, h2⟩ := h.1.ix (k := k) hU hI hz ha (by rw [List.length_map]; exact h0)
  refine ⟨p, h1, fun H' hH => ?_⟩
  rw [h2 H' hH, List.getElem?_map, List.getElem?_eq_getElem (by omega), List.getD_eq_getElem?_getD, List.getElem?_eq_getElem (by omega)]; rfl
theorem RdN.upto {B : AH} {v : Value} {xs : List Nat} {e : TypeId} {k : IntKind} (hU : P.underlying t = some (.slice e)) (hI : (P.info? e).isSome = true) (h : RdN B v xs) (h0 : 0 ≤ x ∧ x ≤ xs.length) :
    ∃ v', slc P t v none (some (.int k x)) = some v' ∧ RdN B v' (xs.take x.toNat) := by
  obtain ⟨v', h1, h2⟩ := h.1.upto (k := k) hU hI (by rw [List.length_map]; exact h0)
  exact ⟨v', h1, by rw [← List.map_take] at h2; exact ⟨h2, h.2.take _⟩⟩
end Go.AM
namespace Go.AM
variable {α β R : Type} {P : Program} {t : TypeId} {x y : Int}
theorem bin_eql_sl {e : TypeId} {b off n c : Nat} (hU : P.underlying t = some (.slice e)) : bin P .eql t (sl b off n c) (.slice none 0 0) = some (.bool false) := by
  unfold bin sl
  rw [if_neg (by simp [flat1])]
  simp only [hU, Option.bind_some, nilEq]; rfl
theorem int_eq {k : IntKind} {a a' : Int} (h1 : a = a') : Value.int k a = .int k a' := by rw [h1]
end Go.AM
namespace Go.AM
variable {R : Type}
theorem Ev.callP {g : Nat → Nat → Option (Value × AH)} {v : Value} {H : AH} {f : Nat → Nat → Value → AH → Option R} {Q : R → Prop} (hg : Ev g (fun r => r = (v, H))) (h : Ev (fun k n => f k n v H) Q) : Ev (fun k n => Go.AM.b2 (g k n) (f k n)) Q :=
  Ev.b2 hg fun v' H' e => by cases e; exact h
theorem ext_0 {a : Value} {l : List Value} : ext (.tuple ⟨a :: l⟩) 0 = some a := rfl
theorem ext_1 {a b : Value} {l : List Value} : ext (.tuple ⟨a :: b :: l⟩) 1 = some b := rfl
theorem ext_2 {a b c : Value} {l : List Value} : ext (.tuple ⟨a :: b :: c :: l⟩) 2 = some c := rfl
end Go.AM
set_option linter.unusedVariables false
set_option linter.unusedSimpArgs false
namespace Go.AM
variable {α β R : Type} {P : Program} {t u e : TypeId} {z : Value} {sz : Nat} {x y : Int}
/-- A type of slices of single cells. -/
class Elt (P : Program) (t : TypeId) (e : outParam TypeId) (z : outParam Value) (sz : outParam Nat) : Prop where
  U : P.underlying t = some (.slice e)
  I : (P.info? e).isSome = true
  S : szT P e = 1
  A : aggT P e = some false
  Z : zeroT P e = some z
  Y : byT P e = sz
  zc : isCell z = true
  zn : z.cells.toList = [z]
theorem rep_one (z : Value) (n : Nat) : rep [z] n = List.replicate n z := by
  induction n with
  | zero => rfl
  | succ n ih => rw [rep, ih]; rfl
theorem size_cells {z : Value} (h : z.cells.toList = [z]) : z.cells.size = 1 := by rw [← Array.length_toList, h]; rfl
theorem okCells_of {z : Value} (h : isCell z = true) : okCells z = true := by
  cases z with
  | agg cs => exact absurd h (by simp [isCell])
  | _ => exact h

theorem Ev.mkS {H0 B0 B L H} {m : Nat} {f : Nat → Nat → Value → AH → Option R} {Q : R → Prop} (hE : Elt P t e z sz) (hS : St H0 B0 B L H) (hm : m * sz ≤ 281474976710656) (hm' : m ≤ 9223372036854775807)
    (h : ∀ b B' H', Mo B B' → St H0 B0 B' ((b, ⟨List.replicate m z, e, .fix⟩) :: L) H' → Ev (fun k n => f k n (sl b 0 m m) H') Q) :
    Ev (fun k n => Go.AM.b2 (Go.AM.mkS P t H (.int .i64 (m : Int)) (.int .i64 (m : Int))) (f k n)) Q := by
  obtain ⟨B', hm1, hS'⟩ := hS.mkB (List.replicate m z) e .fix
  refine Ev.prim2 ?_ (h H.length B' _ hm1 hS')
  unfold Go.AM.mkS
  rw [hE.U]; simp only [hE.Z, hE.Y, hE.S, hE.zn, Option.bind_some, rep_one]
  rw [if_pos ⟨by omega, by omega, by omega, by omega, size_cells hE.zn, okCells_of hE.zc⟩]
  simp
theorem Ev.buildS {H0 B0 B L H} {m : Nat} {parts : List (Nat × Value)} {cs : List Value} {f : Nat → Nat → Value → AH → Option R} {Q : R → Prop} (hE : Elt P t e z sz) (hS : St H0 B0 B L H) (hm : m ≤ 16777216)
    (hf : fillB (fun i => some (i * 1, 1)) (List.replicate m z) parts = some cs)
    (h : ∀ b B' H', Mo B B' → St H0 B0 B' ((b, ⟨cs, e, .fix⟩) :: L) H' → Ev (fun k n => f k n (sl b 0 m m) H') Q) :
    Ev (fun k n => Go.AM.b2 (Go.AM.buildS P t H m parts) (f k n)) Q := by
  obtain ⟨B', hm1, hS'⟩ := hS.mkB cs e .fix
  refine Ev.prim2 ?_ (h H.length B' _ hm1 hS')
  unfold Go.AM.buildS
  rw [hE.U]; simp only [hE.Z, hE.S, hE.zn, Option.bind_some, rep_one]
  rw [if_pos ⟨by omega, size_cells hE.zn⟩, hf]; rfl

theorem sliceCells_of {H : AH} {v : Value} {cs : List Value} (h : Sc H v cs) : sliceCells 1 H v cs.length = some cs := by
  rcases h with ⟨rfl, rfl⟩ | ⟨b, off, cap, rfl, hc, h⟩
  · rfl
  · show (if cs.length = 0 then some [] else if cs.length ≤ cs.length then (blk H b).bind fun k => rdN k off (cs.length * 1) else none) = some cs
    by_cases hn : cs.length = 0
    · rw [if_pos hn, List.length_eq_zero_iff.mp hn]
    · rw [if_neg hn, if_pos (Nat.le_refl _)]
      rcases h with rfl | ⟨K, h1, h2⟩
      · exact absurd rfl hn
      · rw [h1, Option.bind_some, Nat.mul_one, h2]
theorem lenOf_of {H : AH} {v : Value} {cs : List Value} (h : Sc H v cs) : lenOf v = some cs.length := by
  rcases h with ⟨rfl, rfl⟩ | ⟨b, off, cap, rfl, hc, h⟩ <;> rfl
theorem isNotStr_of {H : AH} {v : Value} {cs : List Value} (h : Sc H v cs) : isNotStr v = true := by
  rcases h with ⟨rfl, rfl⟩ | ⟨b, off, cap, rfl, hc, h⟩ <;> rfl
theorem ap_eq {u' : TypeId} {H : AH} {s v : Value} {ds : List Value} (hE : Elt P t e z sz) (hu : P.underlying u = some (.slice u')) (hx : Sc H v ds) (hd : ds.all isCell = true) :
    ap P t u H s v = apS 1 sz e H s ds.length ds := by
  unfold ap
  rw [hE.U, hu]
  simp only [hE.Z, hE.S, hE.Y, Option.bind_some]
  rw [if_pos ⟨by omega, size_cells hE.zn, isNotStr_of hx⟩, lenOf_of hx, Option.bind_some, sliceCells_of hx, Option.bind_some, if_pos hd]
/-- Onto what has no room. -/
theorem Ev.apNew {H0 B0 B L H} {u' : TypeId} {s v : Value} {ds : List Value} {f : Nat → Nat → Value → AH → Option R} {Q : R → Prop} (hE : Elt P t e z sz) (hu : P.underlying u = some (.slice u')) (hS : St H0 B0 B L H)
    (hs : s = .slice none 0 0 ∨ ∃ b off n, s = sl b off n 0) (hx : Sc H v ds) (hd : ds.all isCell = true) (hn : ds ≠ []) (hl : ds.length * sz ≤ 140737488355328 ∧ ds.length ≤ 9223372036854775807)
    (h : ∀ b B' H', Mo B B' → St H0 B0 B' ((b, ⟨ds, e, .grow⟩) :: L) H' → Ev (fun k n => f k n (sl b 0 ds.length (ds.length + 1)) H') Q) :
    Ev (fun k n => Go.AM.b2 (Go.AM.ap P t u H s v) (f k n)) Q := by
  obtain ⟨B', hm1, hS'⟩ := hS.mkB ds e .grow
  refine Ev.prim2 ?_ (h H.length B' _ hm1 hS')
  rw [ap_eq hE hu hx hd]
  have hn' : ds.length ≠ 0 := fun e => hn (List.length_eq_zero_iff.mp e)
  rcases hs with rfl | ⟨b, off, n, rfl⟩
  · simp only [apS, if_neg hn', if_pos hl]
  · simp only [apS, sl, if_neg hn', if_pos hl, if_true]
/-- Of nothing. -/
theorem Ev.apNone {H : AH} {u' : TypeId} {s v : Value} {f : Nat → Nat → Value → AH → Option R} {Q : R → Prop} (hE : Elt P t e z sz) (hu : P.underlying u = some (.slice u'))
    (hs : s = .slice none 0 0 ∨ ∃ b off n c, s = sl b off n c) (hx : Sc H v []) (h : Ev (fun k n => f k n s H) Q) :
    Ev (fun k n => Go.AM.b2 (Go.AM.ap P t u H s v) (f k n)) Q := by
  refine Ev.prim2 ?_ h
  rw [ap_eq hE hu hx rfl]
  rcases hs with rfl | ⟨b, off, n, c, rfl⟩ <;> rfl
/-- Onto what is full. -/
theorem Ev.apFull {H0 B0 B L H} {u' : TypeId} {b : Nat} {cs : List Value} {v : Value} {ds : List Value} {f : Nat → Nat → Value → AH → Option R} {Q : R → Prop} (hE : Elt P t e z sz) (hu : P.underlying u = some (.slice u')) (hS : St H0 B0 B L H)
    (hb : blk H b = some ⟨cs, e, .fix⟩) (hc : cs ≠ []) (hx : Sc H v ds) (hd : ds.all isCell = true) (hn : ds ≠ []) (hl : (cs.length + ds.length) * sz ≤ 140737488355328 ∧ cs.length + ds.length ≤ 9223372036854775807)
    (h : ∀ b B' H', Mo B B' → St H0 B0 B' ((b, ⟨cs ++ ds, e, .grow⟩) :: L) H' → Ev (fun k n => f k n (sl b 0 (cs ++ ds).length ((cs ++ ds).length + 1)) H') Q) :
    Ev (fun k n => Go.AM.b2 (Go.AM.ap P t u H (sl b 0 cs.length cs.length) v) (f k n)) Q := by
  obtain ⟨B', hm1, hS'⟩ := hS.mkB (cs ++ ds) e .grow
  refine Ev.prim2 ?_ (h H.length B' _ hm1 hS')
  rw [ap_eq hE hu hx hd]
  have hn' : ds.length ≠ 0 := fun e => hn (List.length_eq_zero_iff.mp e)
  have hc' : cs.length ≠ 0 := fun e => hc (List.length_eq_zero_iff.mp e)
  simp only [apS, sl, if_neg hn', if_neg hc', hb, Option.bind_some, rdN, Nat.mul_one, Nat.zero_add, Nat.le_refl, if_true, List.drop_zero, List.take_length, hl, and_self, List.length_append]
  rw [if_neg (by omega)]
/-- Onto what was grown. -/
theorem Ev.apGrow {H0 B0 B L H} {u' : TypeId} {b cap : Nat} {cs : List Value} {v : Value} {ds : List Value} {f : Nat → Nat → Value → AH → Option R} {Q : R → Prop} (hE : Elt P t e z sz) (hu : P.underlying u = some (.slice u'))
    (hS : St H0 B0 B ((b, ⟨cs, e, .grow⟩) :: L) H) (hc : cap ≠ 0) (hx : Sc H v ds) (hd : ds.all isCell = true) (hn : ds ≠ []) (hl : (cs.length + ds.length) * sz ≤ 140737488355328 ∧ cs.length + ds.length ≤ 9223372036854775807)
    (h : ∀ b B' H', Mo B B' → St H0 B0 B' ((b, ⟨cs ++ ds, e, .grow⟩) :: L) H' → Ev (fun k n => f k n (sl b 0 (cs ++ ds).length ((cs ++ ds).length + 1)) H') Q) :
    Ev (fun k n => Go.AM.b2 (Go.AM.ap P t u H (sl b 0 cs.length cap) v) (f k n)) Q := by
  have hb := hS.get (.head _)
  obtain ⟨B', hm1, hS'⟩ := hS.kill.mkB (cs ++ ds) e .grow
  rw [length_kill] at hS'
  refine Ev.prim2 ?_ (h H.length B' _ hm1 hS')
  rw [ap_eq hE hu hx hd]
  have hn' : ds.length ≠ 0 := fun e => hn (List.length_eq_zero_iff.mp e)
  simp only [apS, sl, if_neg hn', if_neg hc, hb, Option.bind_some, rdN, Nat.mul_one, Nat.zero_add, Nat.le_refl, if_true, List.drop_zero, List.take_length, hl, and_self, List.length_append]

theorem St.sc {H0 B0 B L H} {b cap : Nat} {cs : List Value} {kd : BK} (hS : St H0 B0 B L H) (hm : (b, ⟨cs, e, kd⟩) ∈ L) (hc : cs.length ≤ cap) : Sc H (sl b 0 cs.length cap) cs :=
  .inr ⟨b, 0, cap, rfl, hc, .inr ⟨_, hS.get hm, by simp [rdN]⟩⟩
theorem Sc.up {B H : AH} {v : Value} {cs : List Value} (h : Sc B v cs) (hL : Mo B H) : Sc H v cs := h.mono hL
/-- Nobody changes it any more. -/
theorem St.freezeSc {H0 B0 B L H} {b cap : Nat} {cs : List Value} {kd : BK} (hS : St H0 B0 B ((b, ⟨cs, e, kd⟩) :: L) H) (hc : cs.length ≤ cap) : ∃ B', Mo B B' ∧ Sc B' (sl b 0 cs.length cap) cs ∧ St H0 B0 B' L H := by
  obtain ⟨B', h1, h2, h3⟩ := hS.freeze
  exact ⟨B', h1, .inr ⟨b, 0, cap, rfl, hc, .inr ⟨_, h2, by simp [rdN]⟩⟩, h3⟩

theorem ixA_own {b off len cap : Nat} {k : IntKind} {i : Nat} (hE : Elt P t e z sz) (h : i < len) : ixA P t (sl b off len cap) (.int k (i : Int)) = some (ptr b (off + i)) := by
  rw [ixA_sl hE.U hE.I hE.S (by omega)]; simp
theorem ldK_own {cs : List Value} {i : Nat} (hE : Elt P t e z sz) : ldK P e cs i = cs[i]? := by unfold ldK; rw [hE.A]
theorem stK_own {cs : List Value} {i : Nat} {v : Value} (hE : Elt P t e z sz) (h : i < cs.length) (hv : isCell v = true) : stK P e cs i v = some (cs.set i v) := by
  unfold stK; rw [hE.A]; simp only; rw [if_pos ⟨hE.S, h, hv⟩]
theorem Ev.ldW {H0 B0 B L H} {b i j : Nat} {xs : List Nat} {kd : BK} {f : Nat → Nat → Value → Option R} {Q : R → Prop} (hE : Elt P t e z sz) (hS : St H0 B0 B L H) (hm : (b, ⟨xs.map u32, e, kd⟩) ∈ L) (hi : j < xs.length) (hij : i = j)
    (h : Ev (fun k n => f k n (u32 (xs.getD j 0))) Q) : Ev (fun k n => (Go.AM.ld P e H (ptr b i)).bind (f k n)) Q := by
  subst hij
  refine Ev.ld hS hm ?_ h
  rw [ldK_own hE, List.getElem?_map, List.getElem?_eq_getElem hi, List.getD_eq_getElem?_getD, List.getElem?_eq_getElem hi]; rfl
theorem Ev.stW {H0 B0 B L L' H} {b i j : Nat} {v : Value} {w : Nat} {xs : List Nat} {kd : BK} {f : Nat → Nat → AH → Option R} {Q : R → Prop} (hE : Elt P t e z sz) (hS : St H0 B0 B L H) (hm : (b, ⟨xs.map u32, e, kd⟩) ∈ L)
    (hi : j < xs.length) (hij : i = j) (hv : v = u32 w) (hk : kd ≠ .ro) (hu : Upd b ⟨xs.map u32, e, kd⟩ ⟨(xs.set j w).map u32, e, kd⟩ L L') (h : ∀ H', St H0 B0 B L' H' → Ev (fun k n => f k n H') Q) :
    Ev (fun k n => (Go.AM.st P e H (ptr b i) v).bind (f k n)) Q := by
  subst hij; subst hv
  refine Ev.st hS hm (stK_own hE (by rw [List.length_map]; exact hi) rfl) hk ?_ h
  rw [List.map_set] at hu; exact hu
theorem map_replicate (n : Nat) : List.replicate n (.int .u32 0) = (List.replicate n 0).map u32 := by simp [u32]
theorem St.freezeN {H0 B0 B L H} {b cap n : Nat} {xs : List Nat} {kd : BK} (hS : St H0 B0 B ((b, ⟨xs.map u32, e, kd⟩) :: L) H) (hs : small xs) (hn : n = xs.length) (hc : xs.length ≤ cap) : ∃ B', Mo B B' ∧ RdN B' (sl b 0 n cap) xs ∧ St H0 B0 B' L H := by
  obtain ⟨B', h1, h2, h3⟩ := hS.freezeSc (cap := cap) (by rw [List.length_map]; exact hc)
  rw [List.length_map, ← hn] at h2
  exact ⟨B', h1, ⟨h2, hs⟩, h3⟩
theorem all_u32 (xs : List Nat) : (xs.map u32).all isCell = true := by simp [isCell]
end Go.AM
set_option linter.unusedVariables false
set_option linter.unusedSimpArgs false
namespace Go.AM
variable {α β R : Type} {P : Program} {t s d : TypeId} {a b : Nat}
abbrev i64 (n : Nat) : Value := .int .i64 (n : Int)
abbrev u64 (n : Nat) : Value := .int .u64 (n : Int)
abbrev u8 (n : Nat) : Value := .int .u8 (n : Int)
theorem addN (h : a + b < 9223372036854775808) : bin P .add t (i64 a) (i64 b) = some (i64 (a + b)) := by rw [bin_add64 (by omega)]; rfl
theorem subN (h : b ≤ a ∧ a < 9223372036854775808) : bin P .sub t (i64 a) (i64 b) = some (i64 (a - b)) := by rw [bin_sub64 (by omega), show ((a : Int) - (b : Int)) = ((a - b : Nat) : Int) by omega]
theorem mulN (h : a * b < 9223372036854775808) : bin P .mul t (i64 a) (i64 b) = some (i64 (a * b)) := by
  rw [bin_mul64 (by rw [← Int.natCast_mul]; omega), ← Int.natCast_mul]
theorem lssN {k : IntKind} : bin P .lss t (.int k (a : Int)) (.int k (b : Int)) = some (.bool (decide (a < b))) := by rw [bin_lss]; simp
theorem leqN {k : IntKind} : bin P .leq t (.int k (a : Int)) (.int k (b : Int)) = some (.bool (decide (a ≤ b))) := by rw [bin_leq]; simp
theorem gtrN {k : IntKind} : bin P .gtr t (.int k (a : Int)) (.int k (b : Int)) = some (.bool (decide (b < a))) := by rw [bin_gtr]; simp
theorem geqN {k : IntKind} : bin P .geq t (.int k (a : Int)) (.int k (b : Int)) = some (.bool (decide (b ≤ a))) := by rw [bin_geq]; simp
theorem eqlN {k : IntKind} : bin P .eql t (.int k (a : Int)) (.int k (b : Int)) = some (.bool (decide (a = b))) := by
  rw [bin_eql]; congr 2; exact decide_eq_decide.mpr (by omega)
theorem neqN {k : IntKind} : bin P .neq t (.int k (a : Int)) (.int k (b : Int)) = some (.bool (decide (a ≠ b))) := by
  rw [bin_neq]; congr 2; exact decide_eq_decide.mpr (by omega)
theorem quoN (h : b ≠ 0 ∧ a < 9223372036854775808) : bin P .quo t (i64 a) (i64 b) = some (i64 (a / b)) := by
  rw [bin_quo (by omega)]
  have e : (a : Int).tdiv (b : Int) = ((a / b : Nat) : Int) := by rw [Int.tdiv_eq_ediv_of_nonneg (by omega)]; omega
  have : a / b ≤ a := Nat.div_le_self ..
  rw [e]; generalize a / b = q at this ⊢; rw [wrap64 (by omega)]
theorem remN {k : IntKind} (h : b ≠ 0) : bin P .rem t (.int k (a : Int)) (.int k (b : Int)) = some (.int k ((a % b : Nat) : Int)) := by
  rw [bin_rem (by omega)]
  have e : (a : Int).tmod (b : Int) = ((a % b : Nat) : Int) := by rw [Int.tmod_eq_emod_of_nonneg (by omega)]; omega
  rw [e]
theorem quoQ (h : b ≠ 0 ∧ a < 18446744073709551616) : bin P .quo t (u64 a) (u64 b) = some (u64 (a / b)) := by
  rw [bin_quo (by omega)]
  have e : (a : Int).tdiv (b : Int) = ((a / b : Nat) : Int) := by rw [Int.tdiv_eq_ediv_of_nonneg (by omega)]; omega
  have : a / b ≤ a := Nat.div_le_self ..
  rw [e]; generalize a / b = q at this ⊢; rw [wrapu64, show (q : Int) % 18446744073709551616 = (q : Int) by omega]
theorem addQ (h : a + b < 18446744073709551616) : bin P .add t (u64 a) (u64 b) = some (u64 (a + b)) := by
  rw [bin_add, wrapu64, show ((a : Int) + (b : Int)) % 18446744073709551616 = ((a + b : Nat) : Int) by omega]
theorem subQ (h : b ≤ a ∧ a < 18446744073709551616) : bin P .sub t (u64 a) (u64 b) = some (u64 (a - b)) := by
  rw [bin_sub, wrapu64, show ((a : Int) - (b : Int)) % 18446744073709551616 = ((a - b : Nat) : Int) by omega]
theorem mulQ (h : a * b < 18446744073709551616) : bin P .mul t (u64 a) (u64 b) = some (u64 (a * b)) := by
  rw [bin_mul, wrapu64, ← Int.natCast_mul, show ((a * b : Nat) : Int) % 18446744073709551616 = ((a * b : Nat) : Int) by omega]
theorem toU64 {D : TypeDesc} {k : IntKind} (h : a < 18446744073709551616) (hs : P.underlying s = some D) (hd : P.underlying d = some (.int .u64)) : cv P s d (.int k (a : Int)) = some (u64 a) := by
  rw [cv_int hs hd, wrapu64, show (a : Int) % 18446744073709551616 = (a : Int) by omega]
theorem toU32 {D : TypeDesc} {k : IntKind} (hs : P.underlying s = some D) (hd : P.underlying d = some (.int .u32)) : cv P s d (.int k (a : Int)) = some (u32 (a % 4294967296)) := by
  rw [cv_int hs hd, wrapu32]; rfl
theorem toU8 {D : TypeDesc} {k : IntKind} (hs : P.underlying s = some D) (hd : P.underlying d = some (.int .u8)) : cv P s d (.int k (a : Int)) = some (u8 (a % 256)) := by
  rw [cv_int hs hd, wrapu8]; rfl
theorem toI64 {D : TypeDesc} {k : IntKind} (h : a < 9223372036854775808) (hs : P.underlying s = some D) (hd : P.underlying d = some (.int .i64)) : cv P s d (.int k (a : Int)) = some (i64 a) := by
  rw [cv_int hs hd, wrap64 (by omega)]
theorem shrN {k k' : IntKind} (h : b < k.bits) : bin P .shr t (.int k (a : Int)) (.int k' (b : Int)) = some (.int k ((a / 2 ^ b : Nat) : Int)) := by
  rw [bin_shr (by omega), show min (b : Int).toNat k.bits = b by rw [Int.toNat_natCast]; omega, Int.fdiv_eq_ediv_of_nonneg _ (by exact Int.le_of_lt (Int.pow_pos (by decide)))]
  rw [Int.natCast_ediv, Int.natCast_pow]; rfl
theorem shlQ {k' : IntKind} (h : b < 64 ∧ a * 2 ^ b < 18446744073709551616) : bin P .shl t (u64 a) (.int k' (b : Int)) = some (u64 (a * 2 ^ b)) := by
  rw [bin_shl (by omega), show min (b : Int).toNat IntKind.u64.bits = b by rw [Int.toNat_natCast, show IntKind.u64.bits = 64 from rfl]; omega, wrapu64]
  have e : (a : Int) * 2 ^ b = ((a * 2 ^ b : Nat) : Int) := by rw [Int.natCast_mul, Int.natCast_pow]; rfl
  rw [e, show ((a * 2 ^ b : Nat) : Int) % 18446744073709551616 = ((a * 2 ^ b : Nat) : Int) by omega]
theorem shlW {k' : IntKind} (h : b < 32) : bin P .shl t (u32 a) (.int k' (b : Int)) = some (u32 (a * 2 ^ b % 4294967296)) := by
  rw [bin_shl (by omega), show min (b : Int).toNat IntKind.u32.bits = b by rw [Int.toNat_natCast, show IntKind.u32.bits = 32 from rfl]; omega, wrapu32]
  have e : (a : Int) * 2 ^ b = ((a * 2 ^ b : Nat) : Int) := by rw [Int.natCast_mul, Int.natCast_pow]; rfl
  rw [e]; rfl
theorem orQ (h : a < 18446744073709551616 ∧ b < 18446744073709551616) : bin P .or t (u64 a) (u64 b) = some (u64 (a ||| b)) := by
  rw [bin_or]
  have e : (BitVec.ofInt IntKind.u64.bits (a : Int) ||| BitVec.ofInt IntKind.u64.bits (b : Int)).toNat = a ||| b := by
    rw [BitVec.toNat_or, BitVec.ofInt_natCast, BitVec.ofInt_natCast, BitVec.toNat_ofNat, BitVec.toNat_ofNat, show 2 ^ IntKind.u64.bits = 18446744073709551616 from rfl, Nat.mod_eq_of_lt h.1, Nat.mod_eq_of_lt h.2]
  have : a ||| b < 2 ^ 64 := Nat.or_lt_two_pow h.1 h.2
  rw [e, wrapu64, show ((a ||| b : Nat) : Int) % 18446744073709551616 = ((a ||| b : Nat) : Int) by omega]
theorem orW (h : a < 4294967296 ∧ b < 4294967296) : bin P .or t (u32 a) (u32 b) = some (u32 (a ||| b)) := by
  rw [bin_or]
  have e : (BitVec.ofInt IntKind.u32.bits (a : Int) ||| BitVec.ofInt IntKind.u32.bits (b : Int)).toNat = a ||| b := by
    rw [BitVec.toNat_or, BitVec.ofInt_natCast, BitVec.ofInt_natCast, BitVec.toNat_ofNat, BitVec.toNat_ofNat, show 2 ^ IntKind.u32.bits = 4294967296 from rfl, Nat.mod_eq_of_lt h.1, Nat.mod_eq_of_lt h.2]
  have : a ||| b < 2 ^ 32 := Nat.or_lt_two_pow h.1 h.2
  rw [e, wrapu32, show ((a ||| b : Nat) : Int) % 4294967296 = ((a ||| b : Nat) : Int) by omega]
theorem andW (h : a < 4294967296 ∧ b < 4294967296) : bin P .and t (u32 a) (u32 b) = some (u32 (a &&& b)) := by
  rw [bin_and]
  have e : (BitVec.ofInt IntKind.u32.bits (a : Int) &&& BitVec.ofInt IntKind.u32.bits (b : Int)).toNat = a &&& b := by
    rw [BitVec.toNat_and, BitVec.ofInt_natCast, BitVec.ofInt_natCast, BitVec.toNat_ofNat, BitVec.toNat_ofNat, show 2 ^ IntKind.u32.bits = 4294967296 from rfl, Nat.mod_eq_of_lt h.1, Nat.mod_eq_of_lt h.2]
  have : a &&& b ≤ a := Nat.and_le_left
  rw [e, wrapu32, show ((a &&& b : Nat) : Int) % 4294967296 = ((a &&& b : Nat) : Int) by omega]
theorem xorW (h : a < 4294967296 ∧ b < 4294967296) : bin P .xor t (u32 a) (u32 b) = some (u32 (a ^^^ b)) := by
  have h0 : bin P .xor t (u32 a) (u32 b) = some (.int .u32 (IntKind.u32.wrap (BitVec.ofInt IntKind.u32.bits (a : Int) ^^^ BitVec.ofInt IntKind.u32.bits (b : Int)).toNat)) := bin_int (by simp [binOp, Op.intBits, still]; rfl) rfl
  rw [h0]
  have e : (BitVec.ofInt IntKind.u32.bits (a : Int) ^^^ BitVec.ofInt IntKind.u32.bits (b : Int)).toNat = a ^^^ b := by
    rw [BitVec.toNat_xor, BitVec.ofInt_natCast, BitVec.ofInt_natCast, BitVec.toNat_ofNat, BitVec.toNat_ofNat, show 2 ^ IntKind.u32.bits = 4294967296 from rfl, Nat.mod_eq_of_lt h.1, Nat.mod_eq_of_lt h.2]
  have : a ^^^ b < 2 ^ 32 := Nat.xor_lt_two_pow h.1 h.2
  rw [e, wrapu32, show ((a ^^^ b : Nat) : Int) % 4294967296 = ((a ^^^ b : Nat) : Int) by omega]
theorem notW (h : a < 4294967296) : un P .xor (u32 a) = some (u32 (4294967295 ^^^ a)) := by
  have h0 : un P .xor (u32 a) = some (.int .u32 (IntKind.u32.wrap (BitVec.ofInt IntKind.u32.bits (4294967295 : Int) ^^^ BitVec.ofInt IntKind.u32.bits (a : Int)).toNat)) := by
    simp only [un, flat1, Op.unary, Op.intBits, still, if_true]; rfl
  rw [h0]
  have e : (BitVec.ofInt IntKind.u32.bits (4294967295 : Int) ^^^ BitVec.ofInt IntKind.u32.bits (a : Int)).toNat = 4294967295 ^^^ a := by
    rw [BitVec.toNat_xor, BitVec.ofInt_natCast, BitVec.toNat_ofNat, show 2 ^ IntKind.u32.bits = 4294967296 from rfl, Nat.mod_eq_of_lt h]; rfl
  have : 4294967295 ^^^ a < 2 ^ 32 := Nat.xor_lt_two_pow (by decide) h
  rw [e, wrapu32, show ((4294967295 ^^^ a : Nat) : Int) % 4294967296 = ((4294967295 ^^^ a : Nat) : Int) by omega]
theorem subW : bin P .sub t (u32 a) (u32 b) = some (u32 ((a + (4294967296 - b % 4294967296)) % 4294967296)) := by
  rw [bin_sub, wrapu32]; congr 2; omega
theorem addW : bin P .add t (u32 a) (u32 b) = some (u32 ((a + b) % 4294967296)) := by
  rw [bin_add, wrapu32]; congr 2

def Pu (H : AH) (Post : Value → Prop) (r : Value × AH) : Prop := ∃ v, r = (v, H) ∧ Post v
theorem Ev.callU {g : Nat → Nat → Option (Value × AH)} {H : AH} {Post : Value → Prop} {f : Nat → Nat → Value → AH → Option R} {Q : R → Prop} (hg : Ev g (Pu H Post)) (h : ∀ v, Post v → Ev (fun k n => f k n v H) Q) :
    Ev (fun k n => Go.AM.b2 (g k n) (f k n)) Q := Ev.b2 hg fun v' H' ⟨v, e, hv⟩ => by cases e; exact h _ hv
theorem Ev.doneU {H : AH} {Post : Value → Prop} {v : Value} (h : Post v) : Ev (fun _ _ => some (v, H)) (Pu H Post) := Ev.ret ⟨v, rfl, h⟩
theorem Pu.an {B H : AH} {Post : Value → Prop} {g : Nat → Nat → Option (Value × AH)} (hL : Le B H) (h : Ev g (Pu H Post)) : Ev g (An B H fun _ => Post) :=
  h.mono fun r ⟨v, e, hv⟩ => by subst e; exact (St.start hL).an hv
end Go.AM
set_option linter.unusedVariables false
namespace Go.AM
variable {α β R : Type} {P : Program} {t s d : TypeId} {a n : Nat}
section
variable {k : IntKind}
theorem lssL : bin P .lss t (.int k (a : Int)) (.int k (@OfNat.ofNat Int n instOfNat)) = some (.bool (decide (a < @OfNat.ofNat Nat n (instOfNatNat n)))) := lssN
theorem leqL : bin P .leq t (.int k (a : Int)) (.int k (@OfNat.ofNat Int n instOfNat)) = some (.bool (decide (a ≤ @OfNat.ofNat Nat n (instOfNatNat n)))) := leqN
theorem gtrL : bin P .gtr t (.int k (a : Int)) (.int k (@OfNat.ofNat Int n instOfNat)) = some (.bool (decide (@OfNat.ofNat Nat n (instOfNatNat n) < a))) := gtrN
theorem geqL : bin P .geq t (.int k (a : Int)) (.int k (@OfNat.ofNat Int n instOfNat)) = some (.bool (decide (@OfNat.ofNat Nat n (instOfNatNat n) ≤ a))) := geqN
theorem eqlL : bin P .eql t (.int k (a : Int)) (.int k (@OfNat.ofNat Int n instOfNat)) = some (.bool (decide (a = @OfNat.ofNat Nat n (instOfNatNat n)))) := eqlN
theorem neqL : bin P .neq t (.int k (a : Int)) (.int k (@OfNat.ofNat Int n instOfNat)) = some (.bool (decide (a ≠ @OfNat.ofNat Nat n (instOfNatNat n)))) := neqN
theorem remL (h : @OfNat.ofNat Nat n (instOfNatNat n) ≠ 0) : bin P .rem t (.int k (a : Int)) (.int k (@OfNat.ofNat Int n instOfNat)) = some (.int k ((a % @OfNat.ofNat Nat n (instOfNatNat n) : Nat) : Int)) := remN h
theorem shrL {k' : IntKind} (h : @OfNat.ofNat Nat n (instOfNatNat n) < k.bits) : bin P .shr t (.int k (a : Int)) (.int k' (@OfNat.ofNat Int n instOfNat)) = some (.int k ((a / 2 ^ @OfNat.ofNat Nat n (instOfNatNat n) : Nat) : Int)) := shrN h
end
theorem addL (h : a + @OfNat.ofNat Nat n (instOfNatNat n) < 9223372036854775808) : bin P .add t (i64 a) (.int .i64 (@OfNat.ofNat Int n instOfNat)) = some (i64 (a + @OfNat.ofNat Nat n (instOfNatNat n))) := addN h
theorem subL (h : @OfNat.ofNat Nat n (instOfNatNat n) ≤ a ∧ a < 9223372036854775808) : bin P .sub t (i64 a) (.int .i64 (@OfNat.ofNat Int n instOfNat)) = some (i64 (a - @OfNat.ofNat Nat n (instOfNatNat n))) := subN h
theorem lmul (h : @OfNat.ofNat Nat n (instOfNatNat n) * a < 9223372036854775808) : bin P .mul t (.int .i64 (@OfNat.ofNat Int n instOfNat)) (i64 a) = some (i64 (@OfNat.ofNat Nat n (instOfNatNat n) * a)) := mulN h
theorem mulL (h : a * @OfNat.ofNat Nat n (instOfNatNat n) < 9223372036854775808) : bin P .mul t (i64 a) (.int .i64 (@OfNat.ofNat Int n instOfNat)) = some (i64 (a * @OfNat.ofNat Nat n (instOfNatNat n))) := mulN h
theorem quoL (h : @OfNat.ofNat Nat n (instOfNatNat n) ≠ 0 ∧ a < 9223372036854775808) : bin P .quo t (i64 a) (.int .i64 (@OfNat.ofNat Int n instOfNat)) = some (i64 (a / @OfNat.ofNat Nat n (instOfNatNat n))) := quoN h
theorem shlQL {k' : IntKind} (h : @OfNat.ofNat Nat n (instOfNatNat n) < 64 ∧ a * 2 ^ @OfNat.ofNat Nat n (instOfNatNat n) < 18446744073709551616) : bin P .shl t (u64 a) (.int k' (@OfNat.ofNat Int n instOfNat)) = some (u64 (a * 2 ^ @OfNat.ofNat Nat n (instOfNatNat n))) := shlQ h
end Go.AM
namespace Go.AM
variable {P : Program} {t e : TypeId} {z : Value} {sz : Nat}
theorem RdN.ixN {B : AH} {v : Value} {xs : List Nat} {k : IntKind} {i : Nat} (h : RdN B v xs) (hE : Elt P t e z sz) (h0 : i < xs.length) : ∃ p, ixA P t v (.int k (i : Int)) = some p ∧ ∀ H', Mo B H' → ld P e H' p = some (u32 (xs.getD i 0)) := by
  obtain ⟨p, h1, h2⟩ := h.ix (x := (i : Int)) (k := k) hE.U hE.I hE.S hE.A (by omega)
  exact ⟨p, h1, fun H' hm => by have := h2 H' hm; rwa [Int.toNat_natCast] at this⟩
theorem RdN.uptoN {B : AH} {v : Value} {xs : List Nat} {k : IntKind} {i : Nat} (h : RdN B v xs) (hE : Elt P t e z sz) (h0 : i ≤ xs.length) : ∃ v', slc P t v none (some (.int k (i : Int))) = some v' ∧ RdN B v' (xs.take i) := by
  obtain ⟨v', h1, h2⟩ := h.upto (x := (i : Int)) (k := k) hE.U hE.I (by omega)
  exact ⟨v', h1, by rwa [Int.toNat_natCast] at h2⟩
theorem RdN.fromN {B : AH} {v : Value} {xs : List Nat} {k : IntKind} {i : Nat} (h : RdN B v xs) (hE : Elt P t e z sz) (h0 : i ≤ xs.length) : ∃ v', slc P t v (some (.int k (i : Int))) none = some v' ∧ RdN B v' (xs.drop i) := by
  obtain ⟨v', h1, h2⟩ := h.1.from (x := (i : Int)) (k := k) hE.U hE.I hE.S (by rw [List.length_map]; omega)
  rw [Int.toNat_natCast, ← List.map_drop] at h2
  exact ⟨v', h1, h2, h.2.drop i⟩
theorem RdN.lenN {B : AH} {v : Value} {xs : List Nat} (h : RdN B v xs) (hE : Elt P t e z sz) : lenV P t v = some (i64 xs.length) := h.len hE.U
theorem and1 {x : Int} (h : -9223372036854775808 ≤ x ∧ x < 9223372036854775808) {P : Program} {t : TypeId} : bin P .and t (.int .i64 x) (.int .i64 1) = some (.int .i64 (x % 2)) := by
  rw [bin_and]
  have e : ((BitVec.ofInt IntKind.i64.bits x) &&& (BitVec.ofInt IntKind.i64.bits 1)).toNat = (x % 2).toNat := by
    rw [BitVec.toNat_and]
    have h1 : (BitVec.ofInt IntKind.i64.bits 1).toNat = 1 := by decide
    have h2 : (BitVec.ofInt IntKind.i64.bits x).toNat = (x % 18446744073709551616).toNat := by
      rw [BitVec.toNat_ofInt]; rfl
    rw [h1, h2, Nat.and_one_is_mod]
    omega
  rw [e, wrap64 (by omega)]
  congr 2
  omega
end Go.AM
set_option linter.unusedVariables false
set_option maxRecDepth 100000
namespace Go.AM.Y
open Go Go.AM Go.Proofs
attribute [local irreducible] run bin un ld st box newV mkS fldA fld ixA ix slc slc3 build buildS cv cvS ap cpy lenV gOp pickV b2 aIf aChk evalK resume iterD Option.bind
theorem Us : Try.prog.underlying 22 = some (.slice 67) := by kernel_rfl
theorem Uw : Try.prog.underlying 67 = some (.int .u32) := by kernel_rfl
theorem Uq : Try.prog.underlying 111 = some (.int .u64) := by kernel_rfl
theorem Ui : Try.prog.underlying 3 = some (.int .i64) := by kernel_rfl
theorem Iw : (Try.prog.info? 67).isSome = true := by kernel_rfl
theorem Sw : szT Try.prog 67 = 1 := by kernel_rfl
theorem Bw : byT Try.prog 67 = 4 := by kernel_rfl
theorem Aw : aggT Try.prog 67 = some false := by kernel_rfl
theorem Zw : zeroT Try.prog 67 = some (.int .u32 0) := by kernel_rfl
theorem Ew : Elt Try.prog 22 67 (.int .u32 0) 4 := ⟨Us, Iw, Sw, Aw, Zw, Bw, rfl, rfl⟩

theorem trim_loop {B H : AH} (hL : Le B H) : ∀ (m : Nat) (xs : List Nat) (a : Value), xs.length = m → m < 1099511627776 → RdN B a xs →
    Ev (fun k n => f108_L0 k a n H) (fun o => ∃ v, o = (.exit 0, f108_X_L0 v, H) ∧ RdN B v (limbs (val xs))) := by
  intro m
  induction m with
  | zero =>
    intro xs a hx hm ha
    refine Ev.succ (fun k n => f108_L0_succ k a n H) ?_
    refine Ev.prim (ha.len Us) ?_
    refine Ev.prim bin_gtr ?_
    rw [show decide ((0 : Int) < (xs.length : Nat)) = false from decide_eq_false (by omega)]
    repeat (first | refine Ev.some2 ?_ | refine Ev.some1 ?_ | refine Ev.gDo ?_ | refine Ev.gSkipT ?_ | refine Ev.gSkipF ?_ | refine Ev.gUndef ?_ | refine Ev.gCall ?_ | refine Ev.tt ?_ | refine Ev.ff ?_ | refine Ev.gPrim (by (first | with_reducible exact lssL | with_reducible exact gtrL | with_reducible exact eqlL | with_reducible exact neqL | with_reducible exact leqL | with_reducible exact geqL | with_reducible exact lssN | with_reducible exact gtrN | with_reducible exact eqlN | with_reducible exact neqN | with_reducible exact leqN | with_reducible exact geqN | (with_reducible refine addL ?_; omega) | (with_reducible refine subL ?_; omega) | (with_reducible refine quoL ?_; omega) | (with_reducible refine mulL ?_; omega) | (with_reducible refine lmul ?_; omega) | (with_reducible refine addN ?_; omega) | (with_reducible refine subN ?_; omega) | (with_reducible refine quoN ?_; omega) | (with_reducible refine mulN ?_; omega) | (with_reducible refine addQ ?_; omega) | (with_reducible refine subQ ?_; omega) | (with_reducible refine mulQ ?_; omega) | (with_reducible refine shlQL ?_; omega) | (with_reducible refine shlQ ?_; omega) | (with_reducible refine remL ?_; decide) | (with_reducible refine shrL ?_; decide) | (with_reducible refine remN ?_; omega) | (with_reducible refine toU64 ?_ Uw Uq; omega) | (with_reducible exact toU32 Uq Uw) | exact bin_lss | exact bin_gtr | exact bin_eql | exact bin_neq | exact bin_leq | exact bin_geq | exact lenV_sl Us | exact ext_0 | exact ext_1 | exact ext_2 | exact pick_t | exact pick_f | exact bin_add64 (by omega) | exact bin_sub64 (by omega) | exact un_not | exact cv_int Uq Uw | exact cv_int Uw Uq | exact bin_add | exact bin_sub | exact bin_mul | rfl)) rfl ?_ | refine Ev.prim (by (first | with_reducible exact lssL | with_reducible exact gtrL | with_reducible exact eqlL | with_reducible exact neqL | with_reducible exact leqL | with_reducible exact geqL | with_reducible exact lssN | with_reducible exact gtrN | with_reducible exact eqlN | with_reducible exact neqN | with_reducible exact leqN | with_reducible exact geqN | (with_reducible refine addL ?_; omega) | (with_reducible refine subL ?_; omega) | (with_reducible refine quoL ?_; omega) | (with_reducible refine mulL ?_; omega) | (with_reducible refine lmul ?_; omega) | (with_reducible refine addN ?_; omega) | (with_reducible refine subN ?_; omega) | (with_reducible refine quoN ?_; omega) | (with_reducible refine mulN ?_; omega) | (with_reducible refine addQ ?_; omega) | (with_reducible refine subQ ?_; omega) | (with_reducible refine mulQ ?_; omega) | (with_reducible refine shlQL ?_; omega) | (with_reducible refine shlQ ?_; omega) | (with_reducible refine remL ?_; decide) | (with_reducible refine shrL ?_; decide) | (with_reducible refine remN ?_; omega) | (with_reducible refine toU64 ?_ Uw Uq; omega) | (with_reducible exact toU32 Uq Uw) | exact bin_lss | exact bin_gtr | exact bin_eql | exact bin_neq | exact bin_leq | exact bin_geq | exact lenV_sl Us | exact ext_0 | exact ext_1 | exact ext_2 | exact pick_t | exact pick_f | exact bin_add64 (by omega) | exact bin_sub64 (by omega) | exact un_not | exact cv_int Uq Uw | exact cv_int Uw Uq | exact bin_add | exact bin_sub | exact bin_mul | rfl)) ?_)
    have : xs = [] := List.length_eq_zero_iff.mp hx
    subst this
    exact Ev.ret ⟨a, rfl, by rw [show val [] = 0 from rfl, limbs_zero]; exact ha⟩
  | succ m ih =>
    intro xs a hx hm ha
    refine Ev.succ (fun k n => f108_L0_succ k a n H) ?_
    refine Ev.prim (ha.len Us) ?_
    refine Ev.prim bin_gtr ?_
    rw [show decide ((0 : Int) < (xs.length : Nat)) = true from decide_eq_true (by omega)]
    obtain ⟨p, hp1, hp2⟩ := ha.ixN (k := .i64) (i := xs.length - 1) Ew (by omega)
    repeat (first | refine Ev.some2 ?_ | refine Ev.some1 ?_ | refine Ev.gDo ?_ | refine Ev.gSkipT ?_ | refine Ev.gSkipF ?_ | refine Ev.gUndef ?_ | refine Ev.gCall ?_ | refine Ev.tt ?_ | refine Ev.ff ?_ | refine Ev.gPrim (by (first | with_reducible exact lssL | with_reducible exact gtrL | with_reducible exact eqlL | with_reducible exact neqL | with_reducible exact leqL | with_reducible exact geqL | with_reducible exact lssN | with_reducible exact gtrN | with_reducible exact eqlN | with_reducible exact neqN | with_reducible exact leqN | with_reducible exact geqN | (with_reducible refine addL ?_; omega) | (with_reducible refine subL ?_; omega) | (with_reducible refine quoL ?_; omega) | (with_reducible refine mulL ?_; omega) | (with_reducible refine lmul ?_; omega) | (with_reducible refine addN ?_; omega) | (with_reducible refine subN ?_; omega) | (with_reducible refine quoN ?_; omega) | (with_reducible refine mulN ?_; omega) | (with_reducible refine addQ ?_; omega) | (with_reducible refine subQ ?_; omega) | (with_reducible refine mulQ ?_; omega) | (with_reducible refine shlQL ?_; omega) | (with_reducible refine shlQ ?_; omega) | (with_reducible refine remL ?_; decide) | (with_reducible refine shrL ?_; decide) | (with_reducible refine remN ?_; omega) | (with_reducible refine toU64 ?_ Uw Uq; omega) | (with_reducible exact toU32 Uq Uw) | exact bin_lss | exact bin_gtr | exact bin_eql | exact bin_neq | exact bin_leq | exact bin_geq | exact lenV_sl Us | exact ext_0 | exact ext_1 | exact ext_2 | exact pick_t | exact pick_f | exact bin_add64 (by omega) | exact bin_sub64 (by omega) | exact un_not | exact cv_int Uq Uw | exact cv_int Uw Uq | exact bin_add | exact bin_sub | exact bin_mul | rfl)) rfl ?_ | refine Ev.prim (by (first | with_reducible exact lssL | with_reducible exact gtrL | with_reducible exact eqlL | with_reducible exact neqL | with_reducible exact leqL | with_reducible exact geqL | with_reducible exact lssN | with_reducible exact gtrN | with_reducible exact eqlN | with_reducible exact neqN | with_reducible exact leqN | with_reducible exact geqN | (with_reducible refine addL ?_; omega) | (with_reducible refine subL ?_; omega) | (with_reducible refine quoL ?_; omega) | (with_reducible refine mulL ?_; omega) | (with_reducible refine lmul ?_; omega) | (with_reducible refine addN ?_; omega) | (with_reducible refine subN ?_; omega) | (with_reducible refine quoN ?_; omega) | (with_reducible refine mulN ?_; omega) | (with_reducible refine addQ ?_; omega) | (with_reducible refine subQ ?_; omega) | (with_reducible refine mulQ ?_; omega) | (with_reducible refine shlQL ?_; omega) | (with_reducible refine shlQ ?_; omega) | (with_reducible refine remL ?_; decide) | (with_reducible refine shrL ?_; decide) | (with_reducible refine remN ?_; omega) | (with_reducible refine toU64 ?_ Uw Uq; omega) | (with_reducible exact toU32 Uq Uw) | exact bin_lss | exact bin_gtr | exact bin_eql | exact bin_neq | exact bin_leq | exact bin_geq | exact lenV_sl Us | exact ext_0 | exact ext_1 | exact ext_2 | exact pick_t | exact pick_f | exact bin_add64 (by omega) | exact bin_sub64 (by omega) | exact un_not | exact cv_int Uq Uw | exact cv_int Uw Uq | exact bin_add | exact bin_sub | exact bin_mul | rfl)) ?_)
    refine Ev.gPrim (ha.len Us) rfl ?_
    repeat (first | refine Ev.some2 ?_ | refine Ev.some1 ?_ | refine Ev.gDo ?_ | refine Ev.gSkipT ?_ | refine Ev.gSkipF ?_ | refine Ev.gUndef ?_ | refine Ev.gCall ?_ | refine Ev.tt ?_ | refine Ev.ff ?_ | refine Ev.gPrim (by (first | with_reducible exact lssL | with_reducible exact gtrL | with_reducible exact eqlL | with_reducible exact neqL | with_reducible exact leqL | with_reducible exact geqL | with_reducible exact lssN | with_reducible exact gtrN | with_reducible exact eqlN | with_reducible exact neqN | with_reducible exact leqN | with_reducible exact geqN | (with_reducible refine addL ?_; omega) | (with_reducible refine subL ?_; omega) | (with_reducible refine quoL ?_; omega) | (with_reducible refine mulL ?_; omega) | (with_reducible refine lmul ?_; omega) | (with_reducible refine addN ?_; omega) | (with_reducible refine subN ?_; omega) | (with_reducible refine quoN ?_; omega) | (with_reducible refine mulN ?_; omega) | (with_reducible refine addQ ?_; omega) | (with_reducible refine subQ ?_; omega) | (with_reducible refine mulQ ?_; omega) | (with_reducible refine shlQL ?_; omega) | (with_reducible refine shlQ ?_; omega) | (with_reducible refine remL ?_; decide) | (with_reducible refine shrL ?_; decide) | (with_reducible refine remN ?_; omega) | (with_reducible refine toU64 ?_ Uw Uq; omega) | (with_reducible exact toU32 Uq Uw) | exact bin_lss | exact bin_gtr | exact bin_eql | exact bin_neq | exact bin_leq | exact bin_geq | exact lenV_sl Us | exact ext_0 | exact ext_1 | exact ext_2 | exact pick_t | exact pick_f | exact bin_add64 (by omega) | exact bin_sub64 (by omega) | exact un_not | exact cv_int Uq Uw | exact cv_int Uw Uq | exact bin_add | exact bin_sub | exact bin_mul | rfl)) rfl ?_ | refine Ev.prim (by (first | with_reducible exact lssL | with_reducible exact gtrL | with_reducible exact eqlL | with_reducible exact neqL | with_reducible exact leqL | with_reducible exact geqL | with_reducible exact lssN | with_reducible exact gtrN | with_reducible exact eqlN | with_reducible exact neqN | with_reducible exact leqN | with_reducible exact geqN | (with_reducible refine addL ?_; omega) | (with_reducible refine subL ?_; omega) | (with_reducible refine quoL ?_; omega) | (with_reducible refine mulL ?_; omega) | (with_reducible refine lmul ?_; omega) | (with_reducible refine addN ?_; omega) | (with_reducible refine subN ?_; omega) | (with_reducible refine quoN ?_; omega) | (with_reducible refine mulN ?_; omega) | (with_reducible refine addQ ?_; omega) | (with_reducible refine subQ ?_; omega) | (with_reducible refine mulQ ?_; omega) | (with_reducible refine shlQL ?_; omega) | (with_reducible refine shlQ ?_; omega) | (with_reducible refine remL ?_; decide) | (with_reducible refine shrL ?_; decide) | (with_reducible refine remN ?_; omega) | (with_reducible refine toU64 ?_ Uw Uq; omega) | (with_reducible exact toU32 Uq Uw) | exact bin_lss | exact bin_gtr | exact bin_eql | exact bin_neq | exact bin_leq | exact bin_geq | exact lenV_sl Us | exact ext_0 | exact ext_1 | exact ext_2 | exact pick_t | exact pick_f | exact bin_add64 (by omega) | exact bin_sub64 (by omega) | exact un_not | exact cv_int Uq Uw | exact cv_int Uw Uq | exact bin_add | exact bin_sub | exact bin_mul | rfl)) ?_)
    refine Ev.gPrim hp1 rfl ?_
    repeat (first | refine Ev.some2 ?_ | refine Ev.some1 ?_ | refine Ev.gDo ?_ | refine Ev.gSkipT ?_ | refine Ev.gSkipF ?_ | refine Ev.gUndef ?_ | refine Ev.gCall ?_ | refine Ev.tt ?_ | refine Ev.ff ?_ | refine Ev.gPrim (by (first | with_reducible exact lssL | with_reducible exact gtrL | with_reducible exact eqlL | with_reducible exact neqL | with_reducible exact leqL | with_reducible exact geqL | with_reducible exact lssN | with_reducible exact gtrN | with_reducible exact eqlN | with_reducible exact neqN | with_reducible exact leqN | with_reducible exact geqN | (with_reducible refine addL ?_; omega) | (with_reducible refine subL ?_; omega) | (with_reducible refine quoL ?_; omega) | (with_reducible refine mulL ?_; omega) | (with_reducible refine lmul ?_; omega) | (with_reducible refine addN ?_; omega) | (with_reducible refine subN ?_; omega) | (with_reducible refine quoN ?_; omega) | (with_reducible refine mulN ?_; omega) | (with_reducible refine addQ ?_; omega) | (with_reducible refine subQ ?_; omega) | (with_reducible refine mulQ ?_; omega) | (with_reducible refine shlQL ?_; omega) | (with_reducible refine shlQ ?_; omega) | (with_reducible refine remL ?_; decide) | (with_reducible refine shrL ?_; decide) | (with_reducible refine remN ?_; omega) | (with_reducible refine toU64 ?_ Uw Uq; omega) | (with_reducible exact toU32 Uq Uw) | exact bin_lss | exact bin_gtr | exact bin_eql | exact bin_neq | exact bin_leq | exact bin_geq | exact lenV_sl Us | exact ext_0 | exact ext_1 | exact ext_2 | exact pick_t | exact pick_f | exact bin_add64 (by omega) | exact bin_sub64 (by omega) | exact un_not | exact cv_int Uq Uw | exact cv_int Uw Uq | exact bin_add | exact bin_sub | exact bin_mul | rfl)) rfl ?_ | refine Ev.prim (by (first | with_reducible exact lssL | with_reducible exact gtrL | with_reducible exact eqlL | with_reducible exact neqL | with_reducible exact leqL | with_reducible exact geqL | with_reducible exact lssN | with_reducible exact gtrN | with_reducible exact eqlN | with_reducible exact neqN | with_reducible exact leqN | with_reducible exact geqN | (with_reducible refine addL ?_; omega) | (with_reducible refine subL ?_; omega) | (with_reducible refine quoL ?_; omega) | (with_reducible refine mulL ?_; omega) | (with_reducible refine lmul ?_; omega) | (with_reducible refine addN ?_; omega) | (with_reducible refine subN ?_; omega) | (with_reducible refine quoN ?_; omega) | (with_reducible refine mulN ?_; omega) | (with_reducible refine addQ ?_; omega) | (with_reducible refine subQ ?_; omega) | (with_reducible refine mulQ ?_; omega) | (with_reducible refine shlQL ?_; omega) | (with_reducible refine shlQ ?_; omega) | (with_reducible refine remL ?_; decide) | (with_reducible refine shrL ?_; decide) | (with_reducible refine remN ?_; omega) | (with_reducible refine toU64 ?_ Uw Uq; omega) | (with_reducible exact toU32 Uq Uw) | exact bin_lss | exact bin_gtr | exact bin_eql | exact bin_neq | exact bin_leq | exact bin_geq | exact lenV_sl Us | exact ext_0 | exact ext_1 | exact ext_2 | exact pick_t | exact pick_f | exact bin_add64 (by omega) | exact bin_sub64 (by omega) | exact un_not | exact cv_int Uq Uw | exact cv_int Uw Uq | exact bin_add | exact bin_sub | exact bin_mul | rfl)) ?_)
    refine Ev.gPrim (hp2 H hL.le) rfl ?_
    repeat (first | refine Ev.some2 ?_ | refine Ev.some1 ?_ | refine Ev.gDo ?_ | refine Ev.gSkipT ?_ | refine Ev.gSkipF ?_ | refine Ev.gUndef ?_ | refine Ev.gCall ?_ | refine Ev.tt ?_ | refine Ev.ff ?_ | refine Ev.gPrim (by (first | with_reducible exact lssL | with_reducible exact gtrL | with_reducible exact eqlL | with_reducible exact neqL | with_reducible exact leqL | with_reducible exact geqL | with_reducible exact lssN | with_reducible exact gtrN | with_reducible exact eqlN | with_reducible exact neqN | with_reducible exact leqN | with_reducible exact geqN | (with_reducible refine addL ?_; omega) | (with_reducible refine subL ?_; omega) | (with_reducible refine quoL ?_; omega) | (with_reducible refine mulL ?_; omega) | (with_reducible refine lmul ?_; omega) | (with_reducible refine addN ?_; omega) | (with_reducible refine subN ?_; omega) | (with_reducible refine quoN ?_; omega) | (with_reducible refine mulN ?_; omega) | (with_reducible refine addQ ?_; omega) | (with_reducible refine subQ ?_; omega) | (with_reducible refine mulQ ?_; omega) | (with_reducible refine shlQL ?_; omega) | (with_reducible refine shlQ ?_; omega) | (with_reducible refine remL ?_; decide) | (with_reducible refine shrL ?_; decide) | (with_reducible refine remN ?_; omega) | (with_reducible refine toU64 ?_ Uw Uq; omega) | (with_reducible exact toU32 Uq Uw) | exact bin_lss | exact bin_gtr | exact bin_eql | exact bin_neq | exact bin_leq | exact bin_geq | exact lenV_sl Us | exact ext_0 | exact ext_1 | exact ext_2 | exact pick_t | exact pick_f | exact bin_add64 (by omega) | exact bin_sub64 (by omega) | exact un_not | exact cv_int Uq Uw | exact cv_int Uw Uq | exact bin_add | exact bin_sub | exact bin_mul | rfl)) rfl ?_ | refine Ev.prim (by (first | with_reducible exact lssL | with_reducible exact gtrL | with_reducible exact eqlL | with_reducible exact neqL | with_reducible exact leqL | with_reducible exact geqL | with_reducible exact lssN | with_reducible exact gtrN | with_reducible exact eqlN | with_reducible exact neqN | with_reducible exact leqN | with_reducible exact geqN | (with_reducible refine addL ?_; omega) | (with_reducible refine subL ?_; omega) | (with_reducible refine quoL ?_; omega) | (with_reducible refine mulL ?_; omega) | (with_reducible refine lmul ?_; omega) | (with_reducible refine addN ?_; omega) | (with_reducible refine subN ?_; omega) | (with_reducible refine quoN ?_; omega) | (with_reducible refine mulN ?_; omega) | (with_reducible refine addQ ?_; omega) | (with_reducible refine subQ ?_; omega) | (with_reducible refine mulQ ?_; omega) | (with_reducible refine shlQL ?_; omega) | (with_reducible refine shlQ ?_; omega) | (with_reducible refine remL ?_; decide) | (with_reducible refine shrL ?_; decide) | (with_reducible refine remN ?_; omega) | (with_reducible refine toU64 ?_ Uw Uq; omega) | (with_reducible exact toU32 Uq Uw) | exact bin_lss | exact bin_gtr | exact bin_eql | exact bin_neq | exact bin_leq | exact bin_geq | exact lenV_sl Us | exact ext_0 | exact ext_1 | exact ext_2 | exact pick_t | exact pick_f | exact bin_add64 (by omega) | exact bin_sub64 (by omega) | exact un_not | exact cv_int Uq Uw | exact cv_int Uw Uq | exact bin_add | exact bin_sub | exact bin_mul | rfl)) ?_)
    rw [show xs.length - 1 = m by omega]
    have hd : xs = xs.dropLast ++ [xs.getD m 0] := by
      have h1 : xs ≠ [] := by intro e; subst e; cases hx
      conv => lhs; rw [← List.dropLast_concat_getLast h1]
      rw [List.getLast_eq_getElem, List.getD_eq_getElem?_getD, List.getElem?_eq_getElem (by omega)]
      simp [hx]
    refine Ev.ifp (fun h => ?_) (fun h => ?_)
    · repeat (first | refine Ev.some2 ?_ | refine Ev.some1 ?_ | refine Ev.gDo ?_ | refine Ev.gSkipT ?_ | refine Ev.gSkipF ?_ | refine Ev.gUndef ?_ | refine Ev.gCall ?_ | refine Ev.tt ?_ | refine Ev.ff ?_ | refine Ev.gPrim (by (first | with_reducible exact lssL | with_reducible exact gtrL | with_reducible exact eqlL | with_reducible exact neqL | with_reducible exact leqL | with_reducible exact geqL | with_reducible exact lssN | with_reducible exact gtrN | with_reducible exact eqlN | with_reducible exact neqN | with_reducible exact leqN | with_reducible exact geqN | (with_reducible refine addL ?_; omega) | (with_reducible refine subL ?_; omega) | (with_reducible refine quoL ?_; omega) | (with_reducible refine mulL ?_; omega) | (with_reducible refine lmul ?_; omega) | (with_reducible refine addN ?_; omega) | (with_reducible refine subN ?_; omega) | (with_reducible refine quoN ?_; omega) | (with_reducible refine mulN ?_; omega) | (with_reducible refine addQ ?_; omega) | (with_reducible refine subQ ?_; omega) | (with_reducible refine mulQ ?_; omega) | (with_reducible refine shlQL ?_; omega) | (with_reducible refine shlQ ?_; omega) | (with_reducible refine remL ?_; decide) | (with_reducible refine shrL ?_; decide) | (with_reducible refine remN ?_; omega) | (with_reducible refine toU64 ?_ Uw Uq; omega) | (with_reducible exact toU32 Uq Uw) | exact bin_lss | exact bin_gtr | exact bin_eql | exact bin_neq | exact bin_leq | exact bin_geq | exact lenV_sl Us | exact ext_0 | exact ext_1 | exact ext_2 | exact pick_t | exact pick_f | exact bin_add64 (by omega) | exact bin_sub64 (by omega) | exact un_not | exact cv_int Uq Uw | exact cv_int Uw Uq | exact bin_add | exact bin_sub | exact bin_mul | rfl)) rfl ?_ | refine Ev.prim (by (first | with_reducible exact lssL | with_reducible exact gtrL | with_reducible exact eqlL | with_reducible exact neqL | with_reducible exact leqL | with_reducible exact geqL | with_reducible exact lssN | with_reducible exact gtrN | with_reducible exact eqlN | with_reducible exact neqN | with_reducible exact leqN | with_reducible exact geqN | (with_reducible refine addL ?_; omega) | (with_reducible refine subL ?_; omega) | (with_reducible refine quoL ?_; omega) | (with_reducible refine mulL ?_; omega) | (with_reducible refine lmul ?_; omega) | (with_reducible refine addN ?_; omega) | (with_reducible refine subN ?_; omega) | (with_reducible refine quoN ?_; omega) | (with_reducible refine mulN ?_; omega) | (with_reducible refine addQ ?_; omega) | (with_reducible refine subQ ?_; omega) | (with_reducible refine mulQ ?_; omega) | (with_reducible refine shlQL ?_; omega) | (with_reducible refine shlQ ?_; omega) | (with_reducible refine remL ?_; decide) | (with_reducible refine shrL ?_; decide) | (with_reducible refine remN ?_; omega) | (with_reducible refine toU64 ?_ Uw Uq; omega) | (with_reducible exact toU32 Uq Uw) | exact bin_lss | exact bin_gtr | exact bin_eql | exact bin_neq | exact bin_leq | exact bin_geq | exact lenV_sl Us | exact ext_0 | exact ext_1 | exact ext_2 | exact pick_t | exact pick_f | exact bin_add64 (by omega) | exact bin_sub64 (by omega) | exact un_not | exact cv_int Uq Uw | exact cv_int Uw Uq | exact bin_add | exact bin_sub | exact bin_mul | rfl)) ?_)
      refine Ev.prim (ha.len Us) ?_
      repeat (first | refine Ev.some2 ?_ | refine Ev.some1 ?_ | refine Ev.gDo ?_ | refine Ev.gSkipT ?_ | refine Ev.gSkipF ?_ | refine Ev.gUndef ?_ | refine Ev.gCall ?_ | refine Ev.tt ?_ | refine Ev.ff ?_ | refine Ev.gPrim (by (first | with_reducible exact lssL | with_reducible exact gtrL | with_reducible exact eqlL | with_reducible exact neqL | with_reducible exact leqL | with_reducible exact geqL | with_reducible exact lssN | with_reducible exact gtrN | with_reducible exact eqlN | with_reducible exact neqN | with_reducible exact leqN | with_reducible exact geqN | (with_reducible refine addL ?_; omega) | (with_reducible refine subL ?_; omega) | (with_reducible refine quoL ?_; omega) | (with_reducible refine mulL ?_; omega) | (with_reducible refine lmul ?_; omega) | (with_reducible refine addN ?_; omega) | (with_reducible refine subN ?_; omega) | (with_reducible refine quoN ?_; omega) | (with_reducible refine mulN ?_; omega) | (with_reducible refine addQ ?_; omega) | (with_reducible refine subQ ?_; omega) | (with_reducible refine mulQ ?_; omega) | (with_reducible refine shlQL ?_; omega) | (with_reducible refine shlQ ?_; omega) | (with_reducible refine remL ?_; decide) | (with_reducible refine shrL ?_; decide) | (with_reducible refine remN ?_; omega) | (with_reducible refine toU64 ?_ Uw Uq; omega) | (with_reducible exact toU32 Uq Uw) | exact bin_lss | exact bin_gtr | exact bin_eql | exact bin_neq | exact bin_leq | exact bin_geq | exact lenV_sl Us | exact ext_0 | exact ext_1 | exact ext_2 | exact pick_t | exact pick_f | exact bin_add64 (by omega) | exact bin_sub64 (by omega) | exact un_not | exact cv_int Uq Uw | exact cv_int Uw Uq | exact bin_add | exact bin_sub | exact bin_mul | rfl)) rfl ?_ | refine Ev.prim (by (first | with_reducible exact lssL | with_reducible exact gtrL | with_reducible exact eqlL | with_reducible exact neqL | with_reducible exact leqL | with_reducible exact geqL | with_reducible exact lssN | with_reducible exact gtrN | with_reducible exact eqlN | with_reducible exact neqN | with_reducible exact leqN | with_reducible exact geqN | (with_reducible refine addL ?_; omega) | (with_reducible refine subL ?_; omega) | (with_reducible refine quoL ?_; omega) | (with_reducible refine mulL ?_; omega) | (with_reducible refine lmul ?_; omega) | (with_reducible refine addN ?_; omega) | (with_reducible refine subN ?_; omega) | (with_reducible refine quoN ?_; omega) | (with_reducible refine mulN ?_; omega) | (with_reducible refine addQ ?_; omega) | (with_reducible refine subQ ?_; omega) | (with_reducible refine mulQ ?_; omega) | (with_reducible refine shlQL ?_; omega) | (with_reducible refine shlQ ?_; omega) | (with_reducible refine remL ?_; decide) | (with_reducible refine shrL ?_; decide) | (with_reducible refine remN ?_; omega) | (with_reducible refine toU64 ?_ Uw Uq; omega) | (with_reducible exact toU32 Uq Uw) | exact bin_lss | exact bin_gtr | exact bin_eql | exact bin_neq | exact bin_leq | exact bin_geq | exact lenV_sl Us | exact ext_0 | exact ext_1 | exact ext_2 | exact pick_t | exact pick_f | exact bin_add64 (by omega) | exact bin_sub64 (by omega) | exact un_not | exact cv_int Uq Uw | exact cv_int Uw Uq | exact bin_add | exact bin_sub | exact bin_mul | rfl)) ?_)
      obtain ⟨v, hv1, hv2⟩ := ha.uptoN (k := .i64) (i := xs.length - 1) Ew (by omega)
      refine Ev.prim hv1 ?_
      rw [← List.dropLast_eq_take] at hv2
      have hz : xs.getD m 0 = 0 := by omega
      rw [hz] at hd
      have e : val xs = val xs.dropLast := by conv => lhs; rw [hd, val_snoc_zero]
      rw [e]
      exact ih _ _ (by simp; omega) (by omega) hv2
    · repeat (first | refine Ev.some2 ?_ | refine Ev.some1 ?_ | refine Ev.gDo ?_ | refine Ev.gSkipT ?_ | refine Ev.gSkipF ?_ | refine Ev.gUndef ?_ | refine Ev.gCall ?_ | refine Ev.tt ?_ | refine Ev.ff ?_ | refine Ev.gPrim (by (first | with_reducible exact lssL | with_reducible exact gtrL | with_reducible exact eqlL | with_reducible exact neqL | with_reducible exact leqL | with_reducible exact geqL | with_reducible exact lssN | with_reducible exact gtrN | with_reducible exact eqlN | with_reducible exact neqN | with_reducible exact leqN | with_reducible exact geqN | (with_reducible refine addL ?_; omega) | (with_reducible refine subL ?_; omega) | (with_reducible refine quoL ?_; omega) | (with_reducible refine mulL ?_; omega) | (with_reducible refine lmul ?_; omega) | (with_reducible refine addN ?_; omega) | (with_reducible refine subN ?_; omega) | (with_reducible refine quoN ?_; omega) | (with_reducible refine mulN ?_; omega) | (with_reducible refine addQ ?_; omega) | (with_reducible refine subQ ?_; omega) | (with_reducible refine mulQ ?_; omega) | (with_reducible refine shlQL ?_; omega) | (with_reducible refine shlQ ?_; omega) | (with_reducible refine remL ?_; decide) | (with_reducible refine shrL ?_; decide) | (with_reducible refine remN ?_; omega) | (with_reducible refine toU64 ?_ Uw Uq; omega) | (with_reducible exact toU32 Uq Uw) | exact bin_lss | exact bin_gtr | exact bin_eql | exact bin_neq | exact bin_leq | exact bin_geq | exact lenV_sl Us | exact ext_0 | exact ext_1 | exact ext_2 | exact pick_t | exact pick_f | exact bin_add64 (by omega) | exact bin_sub64 (by omega) | exact un_not | exact cv_int Uq Uw | exact cv_int Uw Uq | exact bin_add | exact bin_sub | exact bin_mul | rfl)) rfl ?_ | refine Ev.prim (by (first | with_reducible exact lssL | with_reducible exact gtrL | with_reducible exact eqlL | with_reducible exact neqL | with_reducible exact leqL | with_reducible exact geqL | with_reducible exact lssN | with_reducible exact gtrN | with_reducible exact eqlN | with_reducible exact neqN | with_reducible exact leqN | with_reducible exact geqN | (with_reducible refine addL ?_; omega) | (with_reducible refine subL ?_; omega) | (with_reducible refine quoL ?_; omega) | (with_reducible refine mulL ?_; omega) | (with_reducible refine lmul ?_; omega) | (with_reducible refine addN ?_; omega) | (with_reducible refine subN ?_; omega) | (with_reducible refine quoN ?_; omega) | (with_reducible refine mulN ?_; omega) | (with_reducible refine addQ ?_; omega) | (with_reducible refine subQ ?_; omega) | (with_reducible refine mulQ ?_; omega) | (with_reducible refine shlQL ?_; omega) | (with_reducible refine shlQ ?_; omega) | (with_reducible refine remL ?_; decide) | (with_reducible refine shrL ?_; decide) | (with_reducible refine remN ?_; omega) | (with_reducible refine toU64 ?_ Uw Uq; omega) | (with_reducible exact toU32 Uq Uw) | exact bin_lss | exact bin_gtr | exact bin_eql | exact bin_neq | exact bin_leq | exact bin_geq | exact lenV_sl Us | exact ext_0 | exact ext_1 | exact ext_2 | exact pick_t | exact pick_f | exact bin_add64 (by omega) | exact bin_sub64 (by omega) | exact un_not | exact cv_int Uq Uw | exact cv_int Uw Uq | exact bin_add | exact bin_sub | exact bin_mul | rfl)) ?_)
      refine Ev.ret ⟨a, rfl, ?_⟩
      rw [limbs_val ha.2 (fun y hy => ?_)]
      · exact ha
      · rw [hd, List.getLast?_append] at hy
        have hy : xs.getD m 0 = y := by simpa using hy
        omega
theorem trim_pure {B H : AH} {xs : List Nat} {a : Value} (hm : xs.length < 1099511627776) (ha : RdN B a xs) (hL : Le B H) : Ev (fun k _ => rn k 108 [a] H) (Pu H fun v => RdN B v (limbs (val xs))) := by
  refine Ev.fn (fun k => f108_eq k a H) ?_
  refine Ev.bind (Ev.loop (trim_loop hL _ xs a rfl hm ha)) ?_
  rintro _ ⟨v, rfl, hv⟩
  refine Ev.eq (fun k _ => f108_A0_x0 k v H) ?_
  exact Ev.doneU hv
theorem trim_spec {B H : AH} {xs : List Nat} {a : Value} (hm : xs.length < 1099511627776) (ha : RdN B a xs) (hL : Le B H) : Ev (fun k _ => rn k 108 [a] H) (An B H fun B' v => RdN B' v (limbs (val xs))) :=
  (trim_pure hm ha hL).mono fun r ⟨v, e, hv⟩ => by subst e; exact (St.start hL).an hv
theorem clone_spec {B H : AH} {xs : List Nat} {a : Value} (hm : xs.length < 1099511627776) (ha : RdN B a xs) (hL : Le B H) : Ev (fun k _ => rn k 128 [a] H) (An B H fun B' v => RdN B' v xs) := by
  refine Ev.fn (fun k => f128_eq k a H) ?_
  have hS := St.start hL
  obtain ⟨ha1, ha2⟩ := ha
  rcases ha1 with ⟨rfl, hx⟩ | ⟨b, off, cap, rfl, hc, h⟩
  · refine Ev.prim (a := .bool true) (by kernel_rfl) ?_
    repeat (first | refine Ev.some2 ?_ | refine Ev.some1 ?_ | refine Ev.gDo ?_ | refine Ev.gSkipT ?_ | refine Ev.gSkipF ?_ | refine Ev.gUndef ?_ | refine Ev.gCall ?_ | refine Ev.tt ?_ | refine Ev.ff ?_ | refine Ev.gPrim (by (first | with_reducible exact lssL | with_reducible exact gtrL | with_reducible exact eqlL | with_reducible exact neqL | with_reducible exact leqL | with_reducible exact geqL | with_reducible exact lssN | with_reducible exact gtrN | with_reducible exact eqlN | with_reducible exact neqN | with_reducible exact leqN | with_reducible exact geqN | (with_reducible refine addL ?_; omega) | (with_reducible refine subL ?_; omega) | (with_reducible refine quoL ?_; omega) | (with_reducible refine mulL ?_; omega) | (with_reducible refine lmul ?_; omega) | (with_reducible refine addN ?_; omega) | (with_reducible refine subN ?_; omega) | (with_reducible refine quoN ?_; omega) | (with_reducible refine mulN ?_; omega) | (with_reducible refine addQ ?_; omega) | (with_reducible refine subQ ?_; omega) | (with_reducible refine mulQ ?_; omega) | (with_reducible refine shlQL ?_; omega) | (with_reducible refine shlQ ?_; omega) | (with_reducible refine remL ?_; decide) | (with_reducible refine shrL ?_; decide) | (with_reducible refine remN ?_; omega) | (with_reducible refine toU64 ?_ Uw Uq; omega) | (with_reducible exact toU32 Uq Uw) | exact bin_lss | exact bin_gtr | exact bin_eql | exact bin_neq | exact bin_leq | exact bin_geq | exact lenV_sl Us | exact ext_0 | exact ext_1 | exact ext_2 | exact pick_t | exact pick_f | exact bin_add64 (by omega) | exact bin_sub64 (by omega) | exact un_not | exact cv_int Uq Uw | exact cv_int Uw Uq | exact bin_add | exact bin_sub | exact bin_mul | rfl)) rfl ?_ | refine Ev.prim (by (first | with_reducible exact lssL | with_reducible exact gtrL | with_reducible exact eqlL | with_reducible exact neqL | with_reducible exact leqL | with_reducible exact geqL | with_reducible exact lssN | with_reducible exact gtrN | with_reducible exact eqlN | with_reducible exact neqN | with_reducible exact leqN | with_reducible exact geqN | (with_reducible refine addL ?_; omega) | (with_reducible refine subL ?_; omega) | (with_reducible refine quoL ?_; omega) | (with_reducible refine mulL ?_; omega) | (with_reducible refine lmul ?_; omega) | (with_reducible refine addN ?_; omega) | (with_reducible refine subN ?_; omega) | (with_reducible refine quoN ?_; omega) | (with_reducible refine mulN ?_; omega) | (with_reducible refine addQ ?_; omega) | (with_reducible refine subQ ?_; omega) | (with_reducible refine mulQ ?_; omega) | (with_reducible refine shlQL ?_; omega) | (with_reducible refine shlQ ?_; omega) | (with_reducible refine remL ?_; decide) | (with_reducible refine shrL ?_; decide) | (with_reducible refine remN ?_; omega) | (with_reducible refine toU64 ?_ Uw Uq; omega) | (with_reducible exact toU32 Uq Uw) | exact bin_lss | exact bin_gtr | exact bin_eql | exact bin_neq | exact bin_leq | exact bin_geq | exact lenV_sl Us | exact ext_0 | exact ext_1 | exact ext_2 | exact pick_t | exact pick_f | exact bin_add64 (by omega) | exact bin_sub64 (by omega) | exact un_not | exact cv_int Uq Uw | exact cv_int Uw Uq | exact bin_add | exact bin_sub | exact bin_mul | rfl)) ?_)
    exact Ev.done hS ⟨.inl ⟨rfl, hx⟩, ha2⟩
  · refine Ev.prim (bin_eql_sl Us) ?_
    repeat (first | refine Ev.some2 ?_ | refine Ev.some1 ?_ | refine Ev.gDo ?_ | refine Ev.gSkipT ?_ | refine Ev.gSkipF ?_ | refine Ev.gUndef ?_ | refine Ev.gCall ?_ | refine Ev.tt ?_ | refine Ev.ff ?_ | refine Ev.gPrim (by (first | with_reducible exact lssL | with_reducible exact gtrL | with_reducible exact eqlL | with_reducible exact neqL | with_reducible exact leqL | with_reducible exact geqL | with_reducible exact lssN | with_reducible exact gtrN | with_reducible exact eqlN | with_reducible exact neqN | with_reducible exact leqN | with_reducible exact geqN | (with_reducible refine addL ?_; omega) | (with_reducible refine subL ?_; omega) | (with_reducible refine quoL ?_; omega) | (with_reducible refine mulL ?_; omega) | (with_reducible refine lmul ?_; omega) | (with_reducible refine addN ?_; omega) | (with_reducible refine subN ?_; omega) | (with_reducible refine quoN ?_; omega) | (with_reducible refine mulN ?_; omega) | (with_reducible refine addQ ?_; omega) | (with_reducible refine subQ ?_; omega) | (with_reducible refine mulQ ?_; omega) | (with_reducible refine shlQL ?_; omega) | (with_reducible refine shlQ ?_; omega) | (with_reducible refine remL ?_; decide) | (with_reducible refine shrL ?_; decide) | (with_reducible refine remN ?_; omega) | (with_reducible refine toU64 ?_ Uw Uq; omega) | (with_reducible exact toU32 Uq Uw) | exact bin_lss | exact bin_gtr | exact bin_eql | exact bin_neq | exact bin_leq | exact bin_geq | exact lenV_sl Us | exact ext_0 | exact ext_1 | exact ext_2 | exact pick_t | exact pick_f | exact bin_add64 (by omega) | exact bin_sub64 (by omega) | exact un_not | exact cv_int Uq Uw | exact cv_int Uw Uq | exact bin_add | exact bin_sub | exact bin_mul | rfl)) rfl ?_ | refine Ev.prim (by (first | with_reducible exact lssL | with_reducible exact gtrL | with_reducible exact eqlL | with_reducible exact neqL | with_reducible exact leqL | with_reducible exact geqL | with_reducible exact lssN | with_reducible exact gtrN | with_reducible exact eqlN | with_reducible exact neqN | with_reducible exact leqN | with_reducible exact geqN | (with_reducible refine addL ?_; omega) | (with_reducible refine subL ?_; omega) | (with_reducible refine quoL ?_; omega) | (with_reducible refine mulL ?_; omega) | (with_reducible refine lmul ?_; omega) | (with_reducible refine addN ?_; omega) | (with_reducible refine subN ?_; omega) | (with_reducible refine quoN ?_; omega) | (with_reducible refine mulN ?_; omega) | (with_reducible refine addQ ?_; omega) | (with_reducible refine subQ ?_; omega) | (with_reducible refine mulQ ?_; omega) | (with_reducible refine shlQL ?_; omega) | (with_reducible refine shlQ ?_; omega) | (with_reducible refine remL ?_; decide) | (with_reducible refine shrL ?_; decide) | (with_reducible refine remN ?_; omega) | (with_reducible refine toU64 ?_ Uw Uq; omega) | (with_reducible exact toU32 Uq Uw) | exact bin_lss | exact bin_gtr | exact bin_eql | exact bin_neq | exact bin_leq | exact bin_geq | exact lenV_sl Us | exact ext_0 | exact ext_1 | exact ext_2 | exact pick_t | exact pick_f | exact bin_add64 (by omega) | exact bin_sub64 (by omega) | exact un_not | exact cv_int Uq Uw | exact cv_int Uw Uq | exact bin_add | exact bin_sub | exact bin_mul | rfl)) ?_)
    refine Ev.buildS (cs := []) Ew hS (by decide) rfl fun b2 B2 H2 hm2 hS2 => ?_
    have hr : Sc B2 (sl b off (xs.map u32).length cap) (xs.map u32) := Sc.mono hm2 (.inr ⟨b, off, cap, rfl, hc, h⟩)
    by_cases he : xs = []
    · subst he
      refine Ev.apNone Ew Us (.inr ⟨_, _, _, _, rfl⟩) (hr.up hS2.le) ?_
      exact Ev.done hS2 ⟨.inr ⟨b2, 0, 0, rfl, Nat.le_refl _, .inl rfl⟩, ha2⟩
    · refine Ev.apNew Ew Us hS2 (.inr ⟨_, _, _, rfl⟩) (hr.up hS2.le) (all_u32 xs) (by simpa using he) (by rw [List.length_map]; omega) fun b3 B3 H3 hm3 hS3 => ?_
      obtain ⟨B4, hm4, hr4, hS4⟩ := hS3.freezeN (n := (xs.map u32).length) ha2 (List.length_map ..) (cap := (xs.map u32).length + 1) (by rw [List.length_map]; omega)
      exact Ev.done hS4 hr4
theorem Trim_spec {B H : AH} {xs : List Nat} {a : Value} (hm : xs.length < 1099511627776) (ha : RdN B a xs) (hL : Le B H) : Ev (fun k _ => rn k 110 [a] H) (An B H fun B' v => RdN B' v (limbs (val xs))) := by
  refine Ev.fn (fun k => f110_eq k a H) ?_
  refine Ev.call (St.start hL) (trim_spec hm ha) fun v B1 H1 hm1 hS1 h1 => ?_
  have := limbs_length_le (val_lt ha.2)
  refine Ev.call hS1 (clone_spec (by omega) h1) fun v2 B2 H2 hm2 hS2 h2 => ?_
  exact Ev.done hS2 h2
theorem From_spec {B H : AH} {n : Nat} (hn : n < 18446744073709551616) (hL : Le B H) : Ev (fun k _ => rn k 99 [.int .u64 n] H) (An B H fun B' v => RdN B' v (limbs n)) := by
  refine Ev.fn (fun k => f99_eq k _ H) ?_
  have hS := St.start hL
  repeat (first | refine Ev.some2 ?_ | refine Ev.some1 ?_ | refine Ev.gDo ?_ | refine Ev.gSkipT ?_ | refine Ev.gSkipF ?_ | refine Ev.gUndef ?_ | refine Ev.gCall ?_ | refine Ev.tt ?_ | refine Ev.ff ?_ | refine Ev.gPrim (by (first | with_reducible exact lssL | with_reducible exact gtrL | with_reducible exact eqlL | with_reducible exact neqL | with_reducible exact leqL | with_reducible exact geqL | with_reducible exact lssN | with_reducible exact gtrN | with_reducible exact eqlN | with_reducible exact neqN | with_reducible exact leqN | with_reducible exact geqN | (with_reducible refine addL ?_; omega) | (with_reducible refine subL ?_; omega) | (with_reducible refine quoL ?_; omega) | (with_reducible refine mulL ?_; omega) | (with_reducible refine lmul ?_; omega) | (with_reducible refine addN ?_; omega) | (with_reducible refine subN ?_; omega) | (with_reducible refine quoN ?_; omega) | (with_reducible refine mulN ?_; omega) | (with_reducible refine addQ ?_; omega) | (with_reducible refine subQ ?_; omega) | (with_reducible refine mulQ ?_; omega) | (with_reducible refine shlQL ?_; omega) | (with_reducible refine shlQ ?_; omega) | (with_reducible refine remL ?_; decide) | (with_reducible refine shrL ?_; decide) | (with_reducible refine remN ?_; omega) | (with_reducible refine toU64 ?_ Uw Uq; omega) | (with_reducible exact toU32 Uq Uw) | exact bin_lss | exact bin_gtr | exact bin_eql | exact bin_neq | exact bin_leq | exact bin_geq | exact lenV_sl Us | exact ext_0 | exact ext_1 | exact ext_2 | exact pick_t | exact pick_f | exact bin_add64 (by omega) | exact bin_sub64 (by omega) | exact un_not | exact cv_int Uq Uw | exact cv_int Uw Uq | exact bin_add | exact bin_sub | exact bin_mul | rfl)) rfl ?_ | refine Ev.prim (by (first | with_reducible exact lssL | with_reducible exact gtrL | with_reducible exact eqlL | with_reducible exact neqL | with_reducible exact leqL | with_reducible exact geqL | with_reducible exact lssN | with_reducible exact gtrN | with_reducible exact eqlN | with_reducible exact neqN | with_reducible exact leqN | with_reducible exact geqN | (with_reducible refine addL ?_; omega) | (with_reducible refine subL ?_; omega) | (with_reducible refine quoL ?_; omega) | (with_reducible refine mulL ?_; omega) | (with_reducible refine lmul ?_; omega) | (with_reducible refine addN ?_; omega) | (with_reducible refine subN ?_; omega) | (with_reducible refine quoN ?_; omega) | (with_reducible refine mulN ?_; omega) | (with_reducible refine addQ ?_; omega) | (with_reducible refine subQ ?_; omega) | (with_reducible refine mulQ ?_; omega) | (with_reducible refine shlQL ?_; omega) | (with_reducible refine shlQ ?_; omega) | (with_reducible refine remL ?_; decide) | (with_reducible refine shrL ?_; decide) | (with_reducible refine remN ?_; omega) | (with_reducible refine toU64 ?_ Uw Uq; omega) | (with_reducible exact toU32 Uq Uw) | exact bin_lss | exact bin_gtr | exact bin_eql | exact bin_neq | exact bin_leq | exact bin_geq | exact lenV_sl Us | exact ext_0 | exact ext_1 | exact ext_2 | exact pick_t | exact pick_f | exact bin_add64 (by omega) | exact bin_sub64 (by omega) | exact un_not | exact cv_int Uq Uw | exact cv_int Uw Uq | exact bin_add | exact bin_sub | exact bin_mul | rfl)) ?_)
  refine Ev.buildS (cs := [n % 4294967296, n / 4294967296].map u32) Ew hS (by decide) ?_ fun b2 B2 H2 hm2 hS2 => ?_
  · rw [Nat.mod_eq_of_lt (show n / 2 ^ 32 < 4294967296 by omega)]
    rfl
  · obtain ⟨B3, hm3, h3, hS3⟩ := hS2.freezeN (n := 2) (cap := 2) (xs := [n % 4294967296, n / 4294967296]) (by intro x hx; simp at hx; omega) rfl (Nat.le_refl _)
    refine Ev.call hS3 (trim_spec (by simp) h3) fun v B1 H1 hm1 hS1 h1 => ?_
    refine Ev.done hS1 ?_
    rw [show val [n % 4294967296, n / 4294967296] = n by simp only [val]; omega] at h1
    exact h1
theorem Add32_spec {H : AH} {a b c : Nat} (ha : a < 4294967296) (hb : b < 4294967296) (hc : c < 4294967296) :
    Ev (fun k _ => rn k 125 [u32 a, u32 b, u32 c] H) (fun r => r = (.tuple #[u32 ((a + b + c) % 4294967296), u32 ((a + b + c) / 4294967296)], H)) := by
  refine Ev.fn (fun k => f125_eq k _ _ _ H) ?_
  repeat (first | refine Ev.some2 ?_ | refine Ev.some1 ?_ | refine Ev.gDo ?_ | refine Ev.gSkipT ?_ | refine Ev.gSkipF ?_ | refine Ev.gUndef ?_ | refine Ev.gCall ?_ | refine Ev.tt ?_ | refine Ev.ff ?_ | refine Ev.gPrim (by (first | with_reducible exact lssL | with_reducible exact gtrL | with_reducible exact eqlL | with_reducible exact neqL | with_reducible exact leqL | with_reducible exact geqL | with_reducible exact lssN | with_reducible exact gtrN | with_reducible exact eqlN | with_reducible exact neqN | with_reducible exact leqN | with_reducible exact geqN | (with_reducible refine addL ?_; omega) | (with_reducible refine subL ?_; omega) | (with_reducible refine quoL ?_; omega) | (with_reducible refine mulL ?_; omega) | (with_reducible refine lmul ?_; omega) | (with_reducible refine addN ?_; omega) | (with_reducible refine subN ?_; omega) | (with_reducible refine quoN ?_; omega) | (with_reducible refine mulN ?_; omega) | (with_reducible refine addQ ?_; omega) | (with_reducible refine subQ ?_; omega) | (with_reducible refine mulQ ?_; omega) | (with_reducible refine shlQL ?_; omega) | (with_reducible refine shlQ ?_; omega) | (with_reducible refine remL ?_; decide) | (with_reducible refine shrL ?_; decide) | (with_reducible refine remN ?_; omega) | (with_reducible refine toU64 ?_ Uw Uq; omega) | (with_reducible exact toU32 Uq Uw) | exact bin_lss | exact bin_gtr | exact bin_eql | exact bin_neq | exact bin_leq | exact bin_geq | exact lenV_sl Us | exact ext_0 | exact ext_1 | exact ext_2 | exact pick_t | exact pick_f | exact bin_add64 (by omega) | exact bin_sub64 (by omega) | exact un_not | exact cv_int Uq Uw | exact cv_int Uw Uq | exact bin_add | exact bin_sub | exact bin_mul | rfl)) rfl ?_ | refine Ev.prim (by (first | with_reducible exact lssL | with_reducible exact gtrL | with_reducible exact eqlL | with_reducible exact neqL | with_reducible exact leqL | with_reducible exact geqL | with_reducible exact lssN | with_reducible exact gtrN | with_reducible exact eqlN | with_reducible exact neqN | with_reducible exact leqN | with_reducible exact geqN | (with_reducible refine addL ?_; omega) | (with_reducible refine subL ?_; omega) | (with_reducible refine quoL ?_; omega) | (with_reducible refine mulL ?_; omega) | (with_reducible refine lmul ?_; omega) | (with_reducible refine addN ?_; omega) | (with_reducible refine subN ?_; omega) | (with_reducible refine quoN ?_; omega) | (with_reducible refine mulN ?_; omega) | (with_reducible refine addQ ?_; omega) | (with_reducible refine subQ ?_; omega) | (with_reducible refine mulQ ?_; omega) | (with_reducible refine shlQL ?_; omega) | (with_reducible refine shlQ ?_; omega) | (with_reducible refine remL ?_; decide) | (with_reducible refine shrL ?_; decide) | (with_reducible refine remN ?_; omega) | (with_reducible refine toU64 ?_ Uw Uq; omega) | (with_reducible exact toU32 Uq Uw) | exact bin_lss | exact bin_gtr | exact bin_eql | exact bin_neq | exact bin_leq | exact bin_geq | exact lenV_sl Us | exact ext_0 | exact ext_1 | exact ext_2 | exact pick_t | exact pick_f | exact bin_add64 (by omega) | exact bin_sub64 (by omega) | exact un_not | exact cv_int Uq Uw | exact cv_int Uw Uq | exact bin_add | exact bin_sub | exact bin_mul | rfl)) ?_)
  rw [Nat.mod_eq_of_lt (show (a + b + c) / 2 ^ 32 < 4294967296 by omega)]
  exact Ev.ret rfl
theorem add_loop {H0 B0 B : AH} {xs ys : List Nat} {a b : Value} {bo : Nat} (ha : RdN B a xs) (hb : RdN B b ys) (hxy : ys.length ≤ xs.length) (hm : xs.length < 549755813888) :
    ∀ (m i : Nat) (j : Int) (zs : List Nat) (c : Nat) (H : AH), i + m = xs.length → j = i → zs.length = xs.length + 1 → small zs → c ≤ 1 → val (zs.take i) + 4294967296 ^ i * c = val (xs.take i) + val (ys.take i) →
    St H0 B0 B [(bo, ⟨zs.map u32, 67, .fix⟩)] H →
    Ev (fun k n => f96_L0 k a b (sl bo 0 (xs.length + 1) (xs.length + 1)) (u32 c) (.int .i64 (xs.length : Nat)) (.int .i64 j) n H)
      (fun o => ∃ zs c H, o = (.exit 0, f96_X_L0 a (sl bo 0 (xs.length + 1) (xs.length + 1)) (u32 c), H) ∧ zs.length = xs.length + 1 ∧ small zs ∧ c ≤ 1 ∧ val (zs.take xs.length) + 4294967296 ^ xs.length * c = val xs + val ys ∧
        St H0 B0 B [(bo, ⟨zs.map u32, 67, .fix⟩)] H) := by
  intro m
  induction m with
  | zero =>
    intro i j zs c H hi hj hz hsm hc hv hS
    refine Ev.succ (fun k n => f96_L0_succ k _ _ _ _ _ _ n H) ?_
    refine Ev.prim bin_lss ?_
    refine Ev.ifp (fun h => absurd h (by omega)) fun _ => ?_
    refine Ev.ret ⟨zs, c, H, rfl, hz, hsm, hc, ?_, hS⟩
    have : i = xs.length := by omega
    subst this
    rw [List.take_of_length_le (Nat.le_refl _) (l := xs), List.take_of_length_le hxy] at hv
    exact hv
  | succ m ih =>
    intro i j zs c H hi hj hz hsm hc hv hS
    subst hj
    refine Ev.succ (fun k n => f96_L0_succ k _ _ _ _ _ _ n H) ?_
    refine Ev.prim bin_lss ?_
    refine Ev.ifp (fun _ => ?_) fun h => absurd (by omega) h
    have hJ : ∀ y : Nat, y = ys.getD i 0 → Ev (fun k n => f96_J1 k n a b (sl bo 0 (xs.length + 1) (xs.length + 1)) (u32 c) (.int .i64 (i : Nat)) (u32 y) (.int .i64 (xs.length : Nat)) (.int .i64 (i : Nat)) H)
      (fun o => ∃ zs c H, o = (.exit 0, f96_X_L0 a (sl bo 0 (xs.length + 1) (xs.length + 1)) (u32 c), H) ∧ zs.length = xs.length + 1 ∧ small zs ∧ c ≤ 1 ∧ val (zs.take xs.length) + 4294967296 ^ xs.length * c = val xs + val ys ∧
        St H0 B0 B [(bo, ⟨zs.map u32, 67, .fix⟩)] H) := by
      intro y hy
      have hx := ha.2.getD i
      have hy' := hb.2.getD i
      refine Ev.eq (fun k n => f96_J1_eq k n _ _ _ _ _ _ _ _ H) ?_
      obtain ⟨p, hp1, hp2⟩ := ha.ix (x := (i : Int)) (k := .i64) Us Iw Sw Aw (by omega)
      refine Ev.prim hp1 ?_
      refine Ev.prim (hp2 H hS.le) ?_
      rw [show ((i : Int)).toNat = i by omega]
      refine Ev.callP (Add32_spec hx (by omega) (by omega)) ?_
      repeat (first | refine Ev.some2 ?_ | refine Ev.some1 ?_ | refine Ev.gDo ?_ | refine Ev.gSkipT ?_ | refine Ev.gSkipF ?_ | refine Ev.gUndef ?_ | refine Ev.gCall ?_ | refine Ev.tt ?_ | refine Ev.ff ?_ | refine Ev.gPrim (by (first | with_reducible exact lssL | with_reducible exact gtrL | with_reducible exact eqlL | with_reducible exact neqL | with_reducible exact leqL | with_reducible exact geqL | with_reducible exact lssN | with_reducible exact gtrN | with_reducible exact eqlN | with_reducible exact neqN | with_reducible exact leqN | with_reducible exact geqN | (with_reducible refine addL ?_; omega) | (with_reducible refine subL ?_; omega) | (with_reducible refine quoL ?_; omega) | (with_reducible refine mulL ?_; omega) | (with_reducible refine lmul ?_; omega) | (with_reducible refine addN ?_; omega) | (with_reducible refine subN ?_; omega) | (with_reducible refine quoN ?_; omega) | (with_reducible refine mulN ?_; omega) | (with_reducible refine addQ ?_; omega) | (with_reducible refine subQ ?_; omega) | (with_reducible refine mulQ ?_; omega) | (with_reducible refine shlQL ?_; omega) | (with_reducible refine shlQ ?_; omega) | (with_reducible refine remL ?_; decide) | (with_reducible refine shrL ?_; decide) | (with_reducible refine remN ?_; omega) | (with_reducible refine toU64 ?_ Uw Uq; omega) | (with_reducible exact toU32 Uq Uw) | exact bin_lss | exact bin_gtr | exact bin_eql | exact bin_neq | exact bin_leq | exact bin_geq | exact lenV_sl Us | exact ext_0 | exact ext_1 | exact ext_2 | exact pick_t | exact pick_f | exact bin_add64 (by omega) | exact bin_sub64 (by omega) | exact un_not | exact cv_int Uq Uw | exact cv_int Uw Uq | exact bin_add | exact bin_sub | exact bin_mul | rfl)) rfl ?_ | refine Ev.prim (by (first | with_reducible exact lssL | with_reducible exact gtrL | with_reducible exact eqlL | with_reducible exact neqL | with_reducible exact leqL | with_reducible exact geqL | with_reducible exact lssN | with_reducible exact gtrN | with_reducible exact eqlN | with_reducible exact neqN | with_reducible exact leqN | with_reducible exact geqN | (with_reducible refine addL ?_; omega) | (with_reducible refine subL ?_; omega) | (with_reducible refine quoL ?_; omega) | (with_reducible refine mulL ?_; omega) | (with_reducible refine lmul ?_; omega) | (with_reducible refine addN ?_; omega) | (with_reducible refine subN ?_; omega) | (with_reducible refine quoN ?_; omega) | (with_reducible refine mulN ?_; omega) | (with_reducible refine addQ ?_; omega) | (with_reducible refine subQ ?_; omega) | (with_reducible refine mulQ ?_; omega) | (with_reducible refine shlQL ?_; omega) | (with_reducible refine shlQ ?_; omega) | (with_reducible refine remL ?_; decide) | (with_reducible refine shrL ?_; decide) | (with_reducible refine remN ?_; omega) | (with_reducible refine toU64 ?_ Uw Uq; omega) | (with_reducible exact toU32 Uq Uw) | exact bin_lss | exact bin_gtr | exact bin_eql | exact bin_neq | exact bin_leq | exact bin_geq | exact lenV_sl Us | exact ext_0 | exact ext_1 | exact ext_2 | exact pick_t | exact pick_f | exact bin_add64 (by omega) | exact bin_sub64 (by omega) | exact un_not | exact cv_int Uq Uw | exact cv_int Uw Uq | exact bin_add | exact bin_sub | exact bin_mul | rfl)) ?_)
      refine Ev.prim (ixA_own Ew (by omega)) ?_
      refine Ev.stW Ew hS (by (first | exact .head _ | exact .tail _ (.head _) | exact .tail _ (.tail _ (.head _)) | exact .tail _ (.tail _ (.tail _ (.head _))) | exact .tail _ (.tail _ (.tail _ (.tail _ (.head _)))))) (j := i) (by omega) (by omega) rfl (by simp) (.head _) fun H' hS' => ?_
      repeat (first | refine Ev.some2 ?_ | refine Ev.some1 ?_ | refine Ev.gDo ?_ | refine Ev.gSkipT ?_ | refine Ev.gSkipF ?_ | refine Ev.gUndef ?_ | refine Ev.gCall ?_ | refine Ev.tt ?_ | refine Ev.ff ?_ | refine Ev.gPrim (by (first | with_reducible exact lssL | with_reducible exact gtrL | with_reducible exact eqlL | with_reducible exact neqL | with_reducible exact leqL | with_reducible exact geqL | with_reducible exact lssN | with_reducible exact gtrN | with_reducible exact eqlN | with_reducible exact neqN | with_reducible exact leqN | with_reducible exact geqN | (with_reducible refine addL ?_; omega) | (with_reducible refine subL ?_; omega) | (with_reducible refine quoL ?_; omega) | (with_reducible refine mulL ?_; omega) | (with_reducible refine lmul ?_; omega) | (with_reducible refine addN ?_; omega) | (with_reducible refine subN ?_; omega) | (with_reducible refine quoN ?_; omega) | (with_reducible refine mulN ?_; omega) | (with_reducible refine addQ ?_; omega) | (with_reducible refine subQ ?_; omega) | (with_reducible refine mulQ ?_; omega) | (with_reducible refine shlQL ?_; omega) | (with_reducible refine shlQ ?_; omega) | (with_reducible refine remL ?_; decide) | (with_reducible refine shrL ?_; decide) | (with_reducible refine remN ?_; omega) | (with_reducible refine toU64 ?_ Uw Uq; omega) | (with_reducible exact toU32 Uq Uw) | exact bin_lss | exact bin_gtr | exact bin_eql | exact bin_neq | exact bin_leq | exact bin_geq | exact lenV_sl Us | exact ext_0 | exact ext_1 | exact ext_2 | exact pick_t | exact pick_f | exact bin_add64 (by omega) | exact bin_sub64 (by omega) | exact un_not | exact cv_int Uq Uw | exact cv_int Uw Uq | exact bin_add | exact bin_sub | exact bin_mul | rfl)) rfl ?_ | refine Ev.prim (by (first | with_reducible exact lssL | with_reducible exact gtrL | with_reducible exact eqlL | with_reducible exact neqL | with_reducible exact leqL | with_reducible exact geqL | with_reducible exact lssN | with_reducible exact gtrN | with_reducible exact eqlN | with_reducible exact neqN | with_reducible exact leqN | with_reducible exact geqN | (with_reducible refine addL ?_; omega) | (with_reducible refine subL ?_; omega) | (with_reducible refine quoL ?_; omega) | (with_reducible refine mulL ?_; omega) | (with_reducible refine lmul ?_; omega) | (with_reducible refine addN ?_; omega) | (with_reducible refine subN ?_; omega) | (with_reducible refine quoN ?_; omega) | (with_reducible refine mulN ?_; omega) | (with_reducible refine addQ ?_; omega) | (with_reducible refine subQ ?_; omega) | (with_reducible refine mulQ ?_; omega) | (with_reducible refine shlQL ?_; omega) | (with_reducible refine shlQ ?_; omega) | (with_reducible refine remL ?_; decide) | (with_reducible refine shrL ?_; decide) | (with_reducible refine remN ?_; omega) | (with_reducible refine toU64 ?_ Uw Uq; omega) | (with_reducible exact toU32 Uq Uw) | exact bin_lss | exact bin_gtr | exact bin_eql | exact bin_neq | exact bin_leq | exact bin_geq | exact lenV_sl Us | exact ext_0 | exact ext_1 | exact ext_2 | exact pick_t | exact pick_f | exact bin_add64 (by omega) | exact bin_sub64 (by omega) | exact un_not | exact cv_int Uq Uw | exact cv_int Uw Uq | exact bin_add | exact bin_sub | exact bin_mul | rfl)) ?_)
      refine ih (i + 1) _ _ _ H' (by omega) (by omega) (by simp [hz]) (hsm.set _ (Nat.mod_lt _ (by decide))) (by omega) ?_ hS'
      rw [val_take_set (by omega), val_take_succ' xs, val_take_succ' ys, Nat.pow_succ, Nat.add_assoc, mul_step (Nat.mod_add_div _ _), ← hy]
      simp only [Nat.mul_add]
      omega
    refine Ev.prim (hb.len Us) ?_
    refine Ev.prim bin_lss ?_
    refine Ev.ifp (fun h => ?_) fun h => ?_
    · obtain ⟨p, hp1, hp2⟩ := hb.ix (x := (i : Int)) (k := .i64) Us Iw Sw Aw (by omega)
      refine Ev.prim hp1 ?_
      refine Ev.prim (hp2 H hS.le) ?_
      exact hJ _ rfl
    · exact hJ 0 (by rw [List.getD_eq_getElem?_getD, List.getElem?_eq_none (by omega)]; rfl)
theorem Add_spec {B H : AH} {xs ys : List Nat} {a b : Value} (ha : RdN B a xs) (hb : RdN B b ys) (hm : xs.length < 549755813888) (hm' : ys.length < 549755813888) (hL : Le B H) :
    Ev (fun k _ => rn k 96 [a, b] H) (An B H fun B' v => RdN B' v (limbs (val xs + val ys))) := by
  have hJ : ∀ (xs ys : List Nat) (a b : Value), RdN B a xs → RdN B b ys → xs.length < 549755813888 → ys.length ≤ xs.length → Ev (fun k _ => f96_J0 k a b H) (An B H fun B' v => RdN B' v (limbs (val xs + val ys))) := by
    intro xs ys a b ha hb hm hxy
    refine Ev.eq (fun k _ => f96_J0_eq k _ _ H) ?_
    refine Ev.prim (ha.len Us) ?_
    refine Ev.prim (bin_add64 (by omega)) ?_
    rw [show (xs.length : Int) + 1 = ((xs.length + 1 : Nat) : Int) by omega]
    refine Ev.mkS Ew (St.start hL) (by omega) (by omega) fun bo B1 H1 hm1 hS1 => ?_
    rw [map_replicate] at hS1
    refine Ev.prim (ha.len Us) ?_
    refine Ev.bind (Ev.loop (add_loop (ha.mono hm1) (hb.mono hm1) hxy hm xs.length 0 0 (List.replicate (xs.length + 1) 0) 0 H1 (by omega) rfl (by simp) (small_replicate _) (by omega) (by simp [val]) hS1)) ?_
    rintro _ ⟨zs, c, H2, rfl, hz, hsm, hc, hv, hS2⟩
    refine Ev.eq (fun k _ => f96_A0_x0 k _ _ _ H2) ?_
    refine Ev.prim (ha.len Us) ?_
    refine Ev.prim (ixA_own Ew (by omega)) ?_
    refine Ev.stW Ew hS2 (by (first | exact .head _ | exact .tail _ (.head _) | exact .tail _ (.tail _ (.head _)) | exact .tail _ (.tail _ (.tail _ (.head _))) | exact .tail _ (.tail _ (.tail _ (.tail _ (.head _)))))) (j := xs.length) (by omega) (by omega) rfl (by simp) (.head _) fun H3 hS3 => ?_
    obtain ⟨B4, hm4, hr4, hS4⟩ := hS3.freezeN (n := xs.length + 1) (cap := xs.length + 1) (hsm.set _ (by omega)) (by simp [hz]) (by simp [hz])
    refine Ev.call hS4 (trim_spec (by simp [hz]; omega) hr4) fun v B5 H5 hm5 hS5 h5 => ?_
    refine Ev.done hS5 ?_
    have e := val_take_set (zs := zs) (i := xs.length) (w := c) (by omega)
    rw [List.take_of_length_le (by simp [hz]), hv] at e
    rw [← e]; exact h5
  refine Ev.fn (fun k => f96_eq k _ _ H) ?_
  refine Ev.prim (ha.len Us) ?_
  refine Ev.prim (hb.len Us) ?_
  refine Ev.prim bin_lss ?_
  refine Ev.ifp (fun h => ?_) fun h => ?_
  · rw [Nat.add_comm]; exact hJ ys xs b a hb ha (by omega) (by omega)
  · exact hJ xs ys a b ha hb (by omega) (by omega)
end Go.AM.Y
set_option linter.unusedVariables false
namespace Go.AM
theorem limbs_length_lt {a b : Nat} (h : (limbs a).length < (limbs b).length) : a < b := by
  have h1 := val_lt (small_limbs a)
  rw [val_limbs] at h1
  by_cases h2 : a < b
  · exact h2
  · have : b < 4294967296 ^ (limbs a).length := by omega
    have := limbs_length_le this
    omega
theorem limbs_length_mono {a b : Nat} (h : a ≤ b) : (limbs a).length ≤ (limbs b).length := by
  have h1 := val_lt (small_limbs b)
  rw [val_limbs] at h1
  exact limbs_length_le (by omega)
theorem val_take_lt {xs : List Nat} (h : small xs) (i : Nat) : val (xs.take i) < 4294967296 ^ i := by
  have := val_lt (h.take i)
  exact Nat.lt_of_lt_of_le this (Nat.pow_le_pow_right (by decide) (by rw [List.length_take]; omega))
theorem val_div_mod {xs : List Nat} (h : small xs) (i : Nat) : val xs / 4294967296 ^ i = val (xs.drop i) ∧ val xs % 4294967296 ^ i = val (xs.take i) := by
  have h1 := val_drop xs i
  have h2 := val_take_lt h i
  constructor
  · rw [h1, Nat.add_mul_div_left _ _ (Nat.pow_pos (by decide)), Nat.div_eq_of_lt h2, Nat.zero_add]
  · rw [h1, Nat.add_mul_mod_self_left, Nat.mod_eq_of_lt h2]
theorem val_head (xs : List Nat) (h : small xs) : val xs % 4294967296 = xs.getD 0 0 := by
  cases xs with
  | nil => rfl
  | cons x xs => have := h.head; simp only [val]; simp; omega
theorem val_digit {xs : List Nat} (h : small xs) (i : Nat) : val xs / 4294967296 ^ i % 4294967296 = xs.getD i 0 := by
  rw [(val_div_mod h i).1, val_head _ (h.drop i), List.getD_eq_getElem?_getD, List.getD_eq_getElem?_getD, List.getElem?_drop]; simp
theorem testBit_val {xs : List Nat} (h : small xs) (i : Nat) : (val xs).testBit i = (xs.getD (i / 32) 0).testBit (i % 32) := by
  rw [← val_digit h, show (4294967296 : Nat) = 2 ^ 32 by decide, ← Nat.pow_mul, Nat.testBit_mod_two_pow, Nat.testBit_div_two_pow]
  have : i % 32 < 32 := Nat.mod_lt _ (by decide)
  rw [decide_eq_true this, Bool.true_and]; congr 1; omega

def nbits (n : Nat) : Nat := if n = 0 then 0 else n.log2 + 1
theorem nbits_zero : nbits 0 = 0 := rfl
theorem nbits_le {n k : Nat} : nbits n ≤ k ↔ n < 2 ^ k := by
  unfold nbits
  by_cases h : n = 0
  · rw [if_pos h]; subst h; simp [Nat.pow_pos]
  · rw [if_neg h, Nat.add_one_le_iff, Nat.log2_lt h]
theorem lt_nbits {n k : Nat} : k < nbits n ↔ 2 ^ k ≤ n := by
  rw [← Nat.not_le, nbits_le, Nat.not_lt]
theorem nbits_eq {n k : Nat} (h1 : 2 ^ k ≤ n) (h2 : n < 2 ^ (k + 1)) : nbits n = k + 1 := by
  have := nbits_le.mpr h2
  have := lt_nbits.mpr h1
  omega
theorem lt_nbits_self (n : Nat) : n < 2 ^ nbits n := nbits_le.mp (Nat.le_refl _)
theorem nbits_ge {n : Nat} (h : n ≠ 0) : 2 ^ (nbits n - 1) ≤ n := lt_nbits.mp (by
  have : 0 < nbits n := lt_nbits.mpr (by simp; omega)
  omega)
theorem nbits_pos {n : Nat} (h : n ≠ 0) : 0 < nbits n := lt_nbits.mpr (by simp; omega)
theorem nbits_mul_add {q r k : Nat} (hq : q ≠ 0) (hr : r < 2 ^ k) : nbits (r + 2 ^ k * q) = nbits q + k := by
  have h1 := nbits_ge hq
  have h2 := lt_nbits_self q
  have h3 := nbits_pos hq
  obtain ⟨m, hm⟩ : ∃ m, nbits q = m + 1 := ⟨nbits q - 1, by omega⟩
  rw [hm] at h1 h2 ⊢
  rw [Nat.add_sub_cancel] at h1
  rw [show m + 1 + k = m + k + 1 by omega]
  refine nbits_eq ?_ ?_
  · rw [Nat.pow_add, Nat.mul_comm]
    exact Nat.le_trans (Nat.mul_le_mul_left _ h1) (by omega)
  · rw [show m + k + 1 = k + (m + 1) by omega, Nat.pow_add]
    calc r + 2 ^ k * q < 2 ^ k + 2 ^ k * q := by omega
      _ = 2 ^ k * (q + 1) := by rw [Nat.mul_add, Nat.mul_one]; omega
      _ ≤ 2 ^ k * 2 ^ (m + 1) := Nat.mul_le_mul_left _ h2
theorem nbits_div {n k : Nat} (h : 2 ^ k ≤ n) : nbits n = nbits (n / 2 ^ k) + k := by
  have hp : 0 < 2 ^ k := Nat.pow_pos (by decide)
  have h1 : n / 2 ^ k ≠ 0 := by
    have := Nat.div_le_div_right (c := 2 ^ k) h
    rw [Nat.div_self hp] at this; omega
  conv => lhs; rw [← Nat.mod_add_div n (2 ^ k)]
  exact nbits_mul_add h1 (Nat.mod_lt _ hp)
theorem nbits_mul_pow {n k : Nat} (h : n ≠ 0) : nbits (n * 2 ^ k) = nbits n + k := by
  have := nbits_mul_add (r := 0) (k := k) h (Nat.pow_pos (by decide))
  rwa [Nat.zero_add, Nat.mul_comm] at this
/-- By the digit at the top. -/
theorem nbits_limbs {n : Nat} (h : n ≠ 0) : nbits n = 32 * ((limbs n).length - 1) + nbits ((limbs n).getD ((limbs n).length - 1) 0) := by
  have hl : limbs n ≠ [] := fun e => h (limbs_eq_nil.mp e)
  have hl' : (limbs n).length ≠ 0 := fun e => hl (List.length_eq_zero_iff.mp e)
  have h1 := val_drop (limbs n) ((limbs n).length - 1)
  have h2 := val_take_lt (small_limbs n) ((limbs n).length - 1)
  have hd : (limbs n).drop ((limbs n).length - 1) = [(limbs n).getD ((limbs n).length - 1) 0] := by
    rw [List.drop_eq_getElem_cons (by omega), List.drop_eq_nil_of_le (by omega), List.getD_eq_getElem?_getD, List.getElem?_eq_getElem (by omega)]; rfl
  have hne : (limbs n).getD ((limbs n).length - 1) 0 ≠ 0 := by
    refine limbs_getLast (n := n) _ ?_
    rw [List.getLast?_eq_getElem?, List.getD_eq_getElem?_getD, List.getElem?_eq_getElem (by omega)]; rfl
  rw [val_limbs, hd] at h1
  simp only [val, Nat.mul_zero, Nat.add_zero] at h1
  conv => lhs; rw [h1]
  rw [show (4294967296 : Nat) = 2 ^ 32 by decide, ← Nat.pow_mul] at h2 ⊢
  rw [nbits_mul_add hne h2, Nat.add_comm]
theorem val_set {zs : List Nat} {j w : Nat} (h : j < zs.length) : val (zs.set j w) + 4294967296 ^ j * zs.getD j 0 = val zs + 4294967296 ^ j * w := by
  have h1 := val_drop (zs.set j w) (j + 1)
  have h2 := val_drop zs (j + 1)
  rw [val_take_set h, List.drop_set_of_lt (by omega)] at h1
  rw [val_take_succ h] at h2
  omega
theorem getD_set_self {zs : List Nat} {j w : Nat} (h : j < zs.length) : (zs.set j w).getD j 0 = w := by
  rw [List.getD_eq_getElem?_getD, List.getElem?_set_self h]; rfl
theorem getD_zeros (m i : Nat) : (List.replicate m 0).getD i 0 = 0 := by
  rw [List.getD_eq_getElem?_getD, List.getElem?_replicate]; split <;> rfl
/-- How two numbers stand. -/
def cmpN (a b : Nat) : Int := if a < b then -1 else if b < a then 1 else 0
theorem val_take_cmp {xs ys : List Nat} (hx : small xs) (hy : small ys) (m : Nat) (h : xs.getD m 0 < ys.getD m 0) : val (xs.take (m + 1)) < val (ys.take (m + 1)) := by
  rw [val_take_succ', val_take_succ']
  have h1 := val_take_lt hx m
  have h2 : 4294967296 ^ m * (xs.getD m 0 + 1) ≤ 4294967296 ^ m * ys.getD m 0 := Nat.mul_le_mul_left _ h
  rw [Nat.mul_add, Nat.mul_one] at h2
  omega
theorem tb31 {a : Nat} (h : a < 4294967296) : a.testBit 31 = decide (2147483648 ≤ a) := by
  rw [Nat.testBit_eq_decide_div_mod_eq]; exact decide_eq_decide.mpr (by omega)
theorem top31 {x : Nat} (h : x < 4294967296) : x / 2 ^ 31 = (x.testBit 31).toNat := by
  rw [tb31 h]
  by_cases h' : 2147483648 ≤ x
  · rw [decide_eq_true h']; simp; omega
  · rw [decide_eq_false h']; simp; omega
theorem borrow31 {a b c d : Nat} (ha : a < 4294967296) (hb : b < 4294967296) (hc : c ≤ 1) (hd : d = (a + 8589934592 - b - c) % 4294967296) :
    (((4294967295 ^^^ a) &&& b) ||| ((4294967295 ^^^ (a ^^^ b)) &&& d)) / 2 ^ 31 = if a < b + c then 1 else 0 := by
  have hd' : d < 4294967296 := by omega
  have e1 : ∀ x y : Nat, x < 4294967296 → y < 4294967296 → x ^^^ y < 4294967296 := fun x y h h' => Nat.xor_lt_two_pow (n := 32) h h'
  have e2 : ∀ x y : Nat, y < 4294967296 → x &&& y < 4294967296 := fun x y h => Nat.lt_of_le_of_lt Nat.and_le_right h
  have e3 : ∀ x y : Nat, x < 4294967296 → y < 4294967296 → x ||| y < 4294967296 := fun x y h h' => Nat.or_lt_two_pow (n := 32) h h'
  rw [top31 (e3 _ _ (e2 _ _ hb) (e2 _ _ hd')), Nat.testBit_or, Nat.testBit_and, Nat.testBit_and, Nat.testBit_xor, Nat.testBit_xor, Nat.testBit_xor, tb31 ha, tb31 hb, tb31 hd', tb31 (a := 4294967295) (by decide)]
  by_cases h1 : 2147483648 ≤ a <;> by_cases h2 : 2147483648 ≤ b <;> by_cases h3 : 2147483648 ≤ d <;> simp [h1, h2, h3] <;> omega
end Go.AM
