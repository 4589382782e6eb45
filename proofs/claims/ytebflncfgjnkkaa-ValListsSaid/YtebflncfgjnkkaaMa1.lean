/- THE ABSTRACT MACHINE, first part: its values, its store, its operations, its code. A call is reckoned with plain data: what came in is read as lists; what a call makes lies in boxes and rows that its own frame names. -/
import Derived.Orders
import Derived.Below
namespace Go.Proofs.Ytebflncfgjnkkaa.M
set_option linter.unusedSimpArgs false
set_option linter.unusedVariables false
open Go Classical

/-- The name of a row that a frame holds: made by the operation that fills slot t; or kept in the box of slot t, cell o. -/
inductive AK where
  | slot (t : Nat)
  | cell (t o : Nat)
  deriving DecidableEq
def AK.tmp : AK → Nat
  | .slot t => t
  | .cell t _ => t
def AK.isCell : AK → Bool
  | .slot _ => false
  | .cell _ _ => true

/-- Values. n: how many frames up (0: this one). -/
inductive PV where
  | bool (b : Bool)
  | int (k : IntKind) (n : Int)
  | str (s : List UInt8)
  | nils (sz : Nat)
  | list (sz : Nat) (rows : List (List PV)) (full : Bool)
  | agg (vs : List PV)
  | tup (vs : List PV)
  | ptr (n t o : Nat)
  | rowp (row : List PV) (o : Nat)
  | elem (n : Nat) (a : AK) (i o ver gen : Nat)
  | sl (n : Nat) (a : AK) (off len ver gen : Nat) (full : Bool)
  | func (f : Nat) (caps : List PV)
  | iface (t : Nat) (v : PV)
  | nili
  | undef
  | junk

mutual
/-- Seen from one frame further in. -/
def PV.up : PV → PV
  | .bool b => .bool b
  | .int k n => .int k n
  | .str s => .str s
  | .nils z => .nils z
  | .list z r f => .list z r f
  | .agg vs => .agg (PV.upL vs)
  | .tup vs => .tup (PV.upL vs)
  | .ptr n t o => .ptr (n + 1) t o
  | .rowp r o => .rowp r o
  | .elem n a i o v g => .elem (n + 1) a i o v g
  | .sl n a o l v g f => .sl (n + 1) a o l v g f
  | .func f caps => .func f (PV.upL caps)
  | .iface t v => .iface t v.up
  | .nili => .nili
  | .undef => .undef
  | .junk => .junk
def PV.upL : List PV → List PV
  | [] => []
  | v :: vs => v.up :: PV.upL vs
end
mutual
/-- Seen from one frame further out, if it does not lie in this one. -/
def PV.dn : PV → Option PV
  | .bool b => some (.bool b)
  | .int k n => some (.int k n)
  | .str s => some (.str s)
  | .nils z => some (.nils z)
  | .list z r f => some (.list z r f)
  | .agg vs => (PV.dnL vs).map .agg
  | .tup vs => (PV.dnL vs).map .tup
  | .ptr n t o => match n with | 0 => none | n + 1 => some (.ptr n t o)
  | .rowp r o => some (.rowp r o)
  | .elem n a i o v g => match n with | 0 => none | n + 1 => some (.elem n a i o v g)
  | .sl n a o l v g f => match n with | 0 => none | n + 1 => some (.sl n a o l v g f)
  | .func f caps => (PV.dnL caps).map (.func f)
  | .iface t v => v.dn.map (.iface t)
  | .nili => some .nili
  | .undef => some .undef
  | .junk => some .junk
def PV.dnL : List PV → Option (List PV)
  | [] => some []
  | v :: vs => match v.dn, PV.dnL vs with | some v, some vs => some (v :: vs) | _, _ => none
end
def PV.upN : Nat → PV → PV
  | 0, v => v
  | n + 1, v => (PV.upN n v).up
def PV.dnN : Nat → PV → Option PV
  | 0, v => some v
  | n + 1, v => (v.dn).bind (PV.dnN n)
mutual
/-- What names the box, or a row, of slot d is forgotten. -/
def PV.kill (d : Nat) : PV → PV
  | .bool b => .bool b
  | .int k n => .int k n
  | .str s => .str s
  | .nils z => .nils z
  | .list z r f => .list z r f
  | .agg vs => .agg (PV.killL d vs)
  | .tup vs => .tup (PV.killL d vs)
  | .ptr n t o => if n = 0 ∧ t = d then .junk else .ptr n t o
  | .rowp r o => .rowp r o
  | .elem n a i o v g => if n = 0 ∧ a.tmp = d then .junk else .elem n a i o v g
  | .sl n a o l v g f => if n = 0 ∧ a.tmp = d then .junk else .sl n a o l v g f
  | .func f caps => .func f (PV.killL d caps)
  | .iface t v => .iface t (v.kill d)
  | .nili => .nili
  | .undef => .undef
  | .junk => .junk
def PV.killL (d : Nat) : List PV → List PV
  | [] => []
  | v :: vs => v.kill d :: PV.killL d vs
end
/-- A cell's value that names no frame. -/
def PV.pure : PV → Bool
  | .bool _ | .int _ _ | .str _ | .nils _ | .list _ _ _ | .nili => true
  | .func _ caps => caps.isEmpty
  | .iface _ v => v.pure
  | _ => false
mutual
/-- A value in which no row is. -/
def PV.plain : PV → Bool
  | .bool _ | .int _ _ | .str _ | .nili | .undef => true
  | .agg vs => PV.plainL vs
  | .tup vs => PV.plainL vs
  | .iface _ v => v.plain
  | _ => false
def PV.plainL : List PV → Bool
  | [] => true
  | v :: vs => v.plain && PV.plainL vs
end
def PV.cells : PV → List PV
  | .agg vs => vs
  | v => [v]
def PV.one : PV → Bool
  | .agg _ | .tup _ | .undef | .junk => false
  | _ => true

structure Arr where
  sz : Nat
  rows : List (List PV)
  frz : Bool
  gen : Nat
structure Fr where
  box : Nat → Option (List PV)
  arr : AK → Option Arr
abbrev Sto := List Fr
def Fr.e : Fr := ⟨fun _ => none, fun _ => none⟩
def upd {α : Type} (f : Nat → α) (a : Nat) (v : α) : Nat → α := fun b => if b = a then v else f b
def updK {α : Type} (f : AK → α) (a : AK) (v : α) : AK → α := fun b => if b = a then v else f b
def getBox : Sto → Nat → Nat → Option (List PV)
  | [], _, _ => none
  | f :: _, 0, t => f.box t
  | _ :: S, n + 1, t => getBox S n t
def setBox : Sto → Nat → Nat → List PV → Sto
  | [], _, _, _ => []
  | f :: S, 0, t, v => { f with box := upd f.box t (some v) } :: S
  | f :: S, n + 1, t, v => f :: setBox S n t v
def getArr : Sto → Nat → AK → Option Arr
  | [], _, _ => none
  | f :: _, 0, k => f.arr k
  | _ :: S, n + 1, k => getArr S n k
def setArr : Sto → Nat → AK → Arr → Sto
  | [], _, _, _ => []
  | f :: S, 0, k, v => { f with arr := updK f.arr k (some v) } :: S
  | f :: S, n + 1, k, v => f :: setArr S n k v
/-- The frame forgets the box, and the rows, of slot d. -/
def Fr.kill (d : Nat) (f : Fr) : Fr :=
  ⟨fun t => if t = d then none else (f.box t).map (PV.killL d), fun k => if k.tmp = d then none else f.arr k⟩
def killS (d : Nat) : Sto → Sto
  | [] => []
  | f :: S => f.kill d :: S

structure Ac where
  e : Nat → PV
  S : Sto
def killE (d : Nat) (e : Nat → PV) : Nat → PV := fun t => (e t).kill d
def Ac.kill (d : Nat) (ac : Ac) : Ac := ⟨killE d ac.e, killS d ac.S⟩
def Ac.put (ac : Ac) (d : Option Nat) (v : PV) : Ac :=
  match d with
  | some d => { ac with e := upd ac.e d v }
  | none => ac

inductive X where
  | t (n : Nat)
  | c (v : PV)
def Ac.ev (ac : Ac) : X → PV
  | .t n => ac.e n
  | .c v => v
inductive Cv where
  | int (k : IntKind)
  | chr
  | id
  | bytes
/-- A field's kind: a bool, a number, a text. -/
inductive FK where
  | b | i | s
inductive VO where
  | mov (x : X)
  | pick (c a b : X)
  | bin (op : BinOp) (x y : X)
  | binb (neg : Bool) (x y : X)
  | eqs (neg : Bool) (ks : List FK) (x y : X)
  | un (op : UnOp) (x : X)
  | conv (c : Cv) (x : X)
  | mkif (t : Nat) (x : X)
  | func (f : Nat) (caps : List X)
  | build (zero : List PV) (parts : List (Nat × Nat × X))
  | load (k : Option Nat) (x : X)
  | nchk (x : X)
  | faddr (off : Nat) (x : X)
  | field (off : Nat) (k : Option Nat) (x : X)
  | iaddr (sz : Nat) (x i : X)
  | istr (x i : X)
  | slc (sz : Nat) (x : X) (lo hi mx : Option X)
  | sls (x : X) (lo hi : Option X)
  | extract (i : Nat) (x : X)
  | len (s : Bool) (x : X)
  | mm (mx : Bool) (x y : X)
  | isnil (neg : Bool) (x : X)
inductive SOp where
  | v (o : VO)
  | nilv (sz : Nat)
  | alloc (zero : List PV)
  | box (x : X)
  | bslice (sz n : Nat) (zero : List PV) (parts : List (Nat × X))
  | store (k : Nat) (x v : X)
  | append (sz bytes : Nat) (x y : X)
  | call (f : X) (args : List X)
  | panic (x : X)
structure SOper where
  dst : Option Nat
  guard : Option (Nat × Bool)
  op : SOp
inductive SC where
  | skip
  | reg (ops : List SOper)
  | dreg (ops : List SOper) (tot : List Bool)
  | seq (a b : SC)
  | cond (x : X) (a b : SC)
  | block (id : Nat) (c : SC)
  | loop (c : SC)
  | exit (id : Nat)
  | ret
inductive RX where
  | t (n : Nat)
  | cell (t : Nat) (k : Option Nat)
structure SFunc where
  nargs : Nat
  ntmps : Nat
  code : SC
  res : List RX

/-- A slice's rows. -/
def view (S : Sto) : PV → Option (Nat × List (List PV) × Bool)
  | .nils z => some (z, [], true)
  | .list z rows f => some (z, rows, f)
  | .sl n a off len ver gen f =>
    match getArr S n a with
    | some A => if A.gen = gen ∧ A.rows.length = ver then some (A.sz, (A.rows.drop off).take len, f) else none
    | none => none
  | _ => none
/-- Handed on as what can no more be written. -/
def hand1 (S : Sto) (v : PV) : Option (PV × Sto) :=
  match v with
  | .nils z => some (.list z [] false, S)
  | .list z rows _ => some (.list z rows false, S)
  | .sl n a off len ver gen _ =>
    match getArr S n a with
    | some A => if A.gen = gen ∧ A.rows.length = ver then some (.list A.sz ((A.rows.drop off).take len) false, setArr S n a { A with frz := true }) else none
    | none => none
  | v => some (v, S)
def handL (S : Sto) : List PV → Option (List PV × Sto)
  | [] => some ([], S)
  | v :: vs =>
    match hand1 S v with
    | some (v, S) => match handL S vs with | some (vs, S) => some (v :: vs, S) | none => none
    | none => none
def hand (S : Sto) (v : PV) : Option (PV × Sto) :=
  match v with
  | .agg vs => match handL S vs with | some (vs, S) => some (.agg vs, S) | none => none
  | v => hand1 S v
def handA (S : Sto) : List PV → Option (List PV × Sto)
  | [] => some ([], S)
  | v :: vs =>
    match hand S v with
    | some (v, S) => match handA S vs with | some (vs, S) => some (v :: vs, S) | none => none
    | none => none
def PV.isSl : PV → Bool
  | .sl .. => true
  | _ => false
def PV.hasSl : PV → Bool
  | .agg vs => vs.any PV.isSl
  | v => v.isSl
def allPure (vs : List PV) : Bool := vs.all PV.pure

def setAt : List PV → Nat → List PV → List PV
  | cs, _, [] => cs
  | cs, o, v :: vs => setAt (cs.set o v) (o + 1) vs
def pickC (k : Option Nat) (cs : List PV) (o : Nat) : Option PV :=
  match k with
  | none => cs[o]?
  | some k => if o + k ≤ cs.length then some (.agg ((cs.drop o).take k)) else none
def ld (S : Sto) (k : Option Nat) : PV → Option PV
  | .ptr n t o => match getBox S n t with | some cs => (pickC k cs o).map (PV.upN n) | none => none
  | .rowp row o => pickC k row o
  | .elem n a i o ver gen =>
    match getArr S n a with
    | some A => if A.gen = gen ∧ A.rows.length = ver then match A.rows[i]? with | some row => pickC k row o | none => none else none
    | none => none
  | _ => none
def fillP (cs : List PV) (ev : X → PV) : List (Nat × Nat × X) → Option (List PV)
  | [] => some cs
  | (off, sz, x) :: r => if (ev x).cells.length = sz ∧ off + sz ≤ cs.length ∧ (ev x).cells.all PV.one then fillP (setAt cs off (ev x).cells) ev r else none

def bytesLess : List UInt8 → List UInt8 → Bool := Op.bytesLess
def maxInt : Nat := 9223372036854775807
def binInt (op : BinOp) (k : IntKind) (a b : Int) : Option PV :=
  match op with
  | .add => some (.int k (k.wrap (a + b)))
  | .sub => some (.int k (k.wrap (a - b)))
  | .mul => some (.int k (k.wrap (a * b)))
  | .quo => if b = 0 then none else some (.int k (k.wrap (a.tdiv b)))
  | .rem => if b = 0 then none else some (.int k (a.tmod b))
  | .eql => some (.bool (decide (a = b)))
  | .neq => some (.bool (decide (a ≠ b)))
  | .lss => some (.bool (decide (a < b)))
  | .leq => some (.bool (decide (a ≤ b)))
  | .gtr => some (.bool (decide (b < a)))
  | .geq => some (.bool (decide (b ≤ a)))
  | _ => none
def binStr (op : BinOp) (a b : List UInt8) : Option PV :=
  match op with
  | .add => if a.length + b.length ≤ maxInt then some (.str (a ++ b)) else none
  | .eql => some (.bool (decide (a = b)))
  | .neq => some (.bool (decide (a ≠ b)))
  | .lss => some (.bool (bytesLess a b))
  | .leq => some (.bool (bytesLess a b || decide (a = b)))
  | .gtr => some (.bool (!(bytesLess a b || decide (a = b))))
  | .geq => some (.bool (!(bytesLess a b)))
  | _ => none
def binP (op : BinOp) (a b : PV) : Option PV :=
  match a, b with
  | .int k a, .int k' b =>
    match op with
    | .shl => none
    | .shr => if 0 ≤ b then some (.int k (a / 2 ^ min b.toNat k.bits)) else none
    | .add => if k = k' then binInt .add k a b else none
    | .sub => if k = k' then binInt .sub k a b else none
    | .mul => if k = k' then binInt .mul k a b else none
    | .quo => if k = k' then binInt .quo k a b else none
    | .rem => if k = k' then binInt .rem k a b else none
    | .eql => if k = k' then binInt .eql k a b else none
    | .neq => if k = k' then binInt .neq k a b else none
    | .lss => if k = k' then binInt .lss k a b else none
    | .leq => if k = k' then binInt .leq k a b else none
    | .gtr => if k = k' then binInt .gtr k a b else none
    | .geq => if k = k' then binInt .geq k a b else none
    | _ => none
  | .str a, .str b => binStr op a b
  | _, _ => none
def binB (neg : Bool) (a b : PV) : Option PV :=
  match a, b with
  | .bool a, .bool b => some (.bool (if neg then decide (a ≠ b) else decide (a = b)))
  | _, _ => none
def unP (op : UnOp) (a : PV) : Option PV :=
  match op, a with
  | .neg, .int k n => some (.int k (k.wrap (0 - n)))
  | .not, .bool b => some (.bool (!b))
  | _, _ => none
/-- Two structs' cells, all of them plain, are alike. -/
def eqCells : List FK → List PV → List PV → Option Bool
  | [], [], [] => some true
  | .i :: ks, .int k a :: r, .int k' b :: s => if k = k' then (eqCells ks r s).map (decide (a = b) && ·) else none
  | .s :: ks, .str a :: r, .str b :: s => (eqCells ks r s).map (decide (a = b) && ·)
  | .b :: ks, .bool a :: r, .bool b :: s => (eqCells ks r s).map (decide (a = b) && ·)
  | _, _, _ => none
def bytesOf : List (List PV) → Option (List UInt8)
  | [] => some []
  | [.int .u8 n] :: r => (bytesOf r).map (UInt8.ofNat n.toNat :: ·)
  | _ => none
def convP (S : Sto) (c : Cv) (v : PV) : Option PV :=
  match c, v with
  | .int k, .int _ n => some (.int k (k.wrap n))
  | .chr, .int _ n => if 0 ≤ n ∧ n < 128 then some (.str [UInt8.ofNat n.toNat]) else none
  | .id, .str s => some (.str s)
  | .bytes, v => match view S v with | some (_, rows, _) => (bytesOf rows).map .str | none => none
  | _, _ => none
def idx (d : Nat) : Option PV → Option Nat
  | none => some d
  | some (.int _ i) => if 0 ≤ i then some i.toNat else none
  | _ => none
def fullOf (mx : Option PV) (f : Bool) (b l : Nat) : Bool :=
  match mx with
  | none => f && decide (b = l)
  | some _ => true
def slcGo (lo hi mx : Option PV) (l : Nat) (full : Bool) (k : Nat → Nat → Bool → PV) : Option PV :=
  match idx 0 lo, idx l hi, idx l mx with
  | some a, some b, some m => if a ≤ b ∧ b ≤ m ∧ m ≤ l ∧ (mx.isNone ∨ hi.isSome ∧ m = b) then some (k a (b - a) (fullOf mx full b l)) else none
  | _, _, _ => none
def slcP (S : Sto) (sz : Nat) (v : PV) (lo hi mx : Option PV) : Option PV :=
  match v with
  | .nils z => slcGo lo hi mx 0 true fun _ _ _ => .nils z
  | .list z rows f => if z = sz then slcGo lo hi mx rows.length f fun a n f => .list z ((rows.drop a).take n) f else none
  | .sl n t off len ver gen f =>
    match getArr S n t with
    | some A => if A.gen = gen ∧ A.rows.length = ver ∧ A.sz = sz then slcGo lo hi mx len f fun a m f => .sl n t (off + a) m ver gen f else none
    | none => none
  | _ => none
def slsP (v : PV) (lo hi : Option PV) : Option PV :=
  match v with
  | .str s =>
    match idx 0 lo, idx s.length hi with
    | some a, some b => if a ≤ b ∧ b ≤ s.length then some (.str ((s.drop a).take (b - a))) else none
    | _, _ => none
  | _ => none
def iaddrP (S : Sto) (sz : Nat) (v i : PV) : Option PV :=
  match i with
  | .int _ i =>
    if 0 ≤ i then
      match v with
      | .list z rows _ => if z = sz then match rows[i.toNat]? with | some row => some (.rowp row 0) | none => none else none
      | .sl n a off len ver gen _ =>
        match getArr S n a with
        | some A => if A.gen = gen ∧ A.rows.length = ver ∧ A.sz = sz ∧ i.toNat < len then some (.elem n a (off + i.toNat) 0 ver gen) else none
        | none => none
      | _ => none
    else none
  | _ => none
def lenS : PV → Option PV
  | .str s => some (.int .i64 s.length)
  | _ => none
def lenP (S : Sto) (v : PV) : Option PV :=
  match v with
  | .nils _ => some (.int .i64 0)
  | .list _ rows _ => some (.int .i64 rows.length)
  | .sl n a _ len ver gen _ =>
    match getArr S n a with
    | some A => if A.gen = gen ∧ A.rows.length = ver then some (.int .i64 len) else none
    | none => none
  | _ => none
def vop (ev : X → PV) (S : Sto) : VO → Option PV
  | .mov x => some (ev x)
  | .pick c a b => match ev c with | .bool t => some (if t then ev a else ev b) | _ => none
  | .bin op x y => binP op (ev x) (ev y)
  | .binb neg x y => binB neg (ev x) (ev y)
  | .eqs neg ks x y =>
    match ev x, ev y with
    | .agg a, .agg b => (eqCells ks a b).map fun t => .bool (if neg then !t else t)
    | _, _ => none
  | .un op x => unP op (ev x)
  | .conv c x => convP S c (ev x)
  | .mkif t x => if (ev x).one then some (.iface t (ev x)) else none
  | .func f caps => if caps.all (fun x => (ev x).one) then some (.func f (caps.map ev)) else none
  | .build zero parts => (fillP zero ev parts).map .agg
  | .load k x => ld S k (ev x)
  | .nchk x => match ev x with | .ptr n t o => some (.ptr n t o) | .rowp r o => some (.rowp r o) | _ => none
  | .faddr off x =>
    match ev x with
    | .ptr n t o => some (.ptr n t (o + off))
    | .rowp r o => some (.rowp r (o + off))
    | .elem n a i o v g =>
      match getArr S n a with
      | some A => if A.gen = g ∧ A.rows.length = v then some (.elem n a i (o + off) v g) else none
      | none => none
    | _ => none
  | .field off k x => match ev x with | .agg vs => pickC k vs off | _ => none
  | .iaddr sz x i => iaddrP S sz (ev x) (ev i)
  | .istr x i =>
    match ev x, ev i with
    | .str s, .int _ i => if 0 ≤ i then (s[i.toNat]?).map fun b => .int .u8 b.toNat else none
    | _, _ => none
  | .slc sz x lo hi mx => slcP S sz (ev x) (lo.map ev) (hi.map ev) (mx.map ev)
  | .sls x lo hi => slsP (ev x) (lo.map ev) (hi.map ev)
  | .extract i x => match ev x with | .tup vs => vs[i]? | _ => none
  | .len s x => if s = true then lenS (ev x) else lenP S (ev x)
  | .mm mx x y =>
    match ev x, ev y with
    | .int k a, .int _ b => some (.int k (if mx then (if a < b then b else a) else (if b < a then b else a)))
    | _, _ => none
  | .isnil neg x => match ev x with | .list _ (_ :: _) _ => some (.bool neg) | _ => none

noncomputable section
/-- What a call gives back: a value; or a row of its own. -/
inductive Ret where
  | v (x : PV)
  | arr (sz : Nat) (rows : List (List PV)) (frz : Bool)
def Ret.plain : Ret → Bool
  | .v x => x.plain
  | .arr .. => false
inductive CO where
  | ok (r : Ret) (S : Sto)
  | pan (v : PV) (S : Sto)
  | bad
inductive OO where
  | ok (ac : Ac)
  | pan (v : PV) (S : Sto)
  | bad
inductive EO where
  | nor (ac : Ac)
  | ext (id : Nat) (ac : Ac)
  | ret (ac : Ac)
  | pan (v : PV) (S : Sto)
  | bad
abbrev Oracle := Nat → List PV → Sto → CO

/-- The cells of a new box: rows that are nil are kept by the box. -/
def initC (d : Nat) : Nat → List PV → List PV
  | _, [] => []
  | i, .nils _ :: vs => .sl 0 (.cell d i) 0 0 0 0 false :: initC d (i + 1) vs
  | i, v :: vs => v :: initC d (i + 1) vs
def initA (d : Nat) : Nat → List PV → (AK → Option Arr) → (AK → Option Arr)
  | _, [], a => a
  | i, .nils z :: vs, a => initA d (i + 1) vs (updK a (.cell d i) (some ⟨z, [], false, 0⟩))
  | i, _ :: vs, a => initA d (i + 1) vs a
/-- Nothing has been put into the rows of a box that is laid ready. -/
def okA (d : Nat) : Nat → List PV → (AK → Option Arr) → Prop
  | _, [], _ => True
  | i, .nils z :: vs, a => a (.cell d i) = some ⟨z, [], false, 0⟩ ∧ okA d (i + 1) vs a
  | i, _ :: vs, a => okA d (i + 1) vs a
def newBox (d : Nat) (cs : List PV) : Sto → Sto
  | [] => []
  | f :: S => ⟨upd f.box d (some (initC d 0 cs)), initA d 0 cs f.arr⟩ :: S
/-- A row of the operation that fills slot d. kd: what was named so is forgotten first; else nothing may be. -/
def newArr (kd : Bool) (d : Nat) (A : Arr) (ac : Ac) : OO :=
  if kd then
    .ok ⟨upd (killE d ac.e) d (.sl 0 (.slot d) 0 A.rows.length A.rows.length A.gen false), setArr (killS d ac.S) 0 (.slot d) A⟩
  else
    match getArr ac.S 0 (.slot d) with
    | none => .ok ⟨upd ac.e d (.sl 0 (.slot d) 0 A.rows.length A.rows.length A.gen false), setArr ac.S 0 (.slot d) A⟩
    | some _ => .bad
/-- One cell of a box is written. -/
def stCell (S : Sto) (n t o : Nat) (v : PV) : Option (PV × Sto) :=
  match v with
  | .nils z =>
    let g := match getArr S n (.cell t o) with | some A => A.gen + 1 | none => 0
    some (.sl 0 (.cell t o) 0 0 0 g false, setArr S n (.cell t o) ⟨z, [], false, g⟩)
  | .list z rows _ => some (.list z rows false, S)
  | .sl m a off len ver gen f => if m = n ∧ a = .cell t o ∧ off = 0 ∧ len = ver ∧ f = false then some (.sl 0 a 0 len ver gen false, S) else hand1 S v
  | v => (PV.dnN n v).map (·, S)
def stCells (S : Sto) (n t : Nat) : Nat → List PV → Option (List PV × Sto)
  | _, [] => some ([], S)
  | o, v :: vs =>
    match stCell S n t o v with
    | some (v, S) => match stCells S n t (o + 1) vs with | some (vs, S) => some (v :: vs, S) | none => none
    | none => none
def storeP (S : Sto) (k : Nat) (p v : PV) : Option Sto :=
  if v.cells.length = k ∧ v.cells.all PV.one then
    match p with
    | .ptr n t o =>
      match getBox S n t with
      | some cs =>
        if o + k ≤ cs.length then
          match stCells S n t o v.cells with
          | some (vs, S) => some (setBox S n t (setAt cs o vs))
          | none => none
        else none
      | none => none
    | .elem n a i o ver gen =>
      match handL S v.cells with
      | some (vs, S) =>
        match getArr S n a with
        | some A =>
          if A.gen = gen ∧ A.rows.length = ver ∧ A.frz = false ∧ allPure vs then
            match A.rows[i]? with
            | some row => if o + k ≤ row.length then some (setArr S n a { A with rows := A.rows.set i (setAt row o vs) }) else none
            | none => none
          else none
        | none => none
      | none => none
    | _ => none
  else none
def srcRows (S : Sto) (sz : Nat) : PV → Option (List (List PV))
  | .str s => if sz = 1 then some (s.map fun b => [.int .u8 b.toNat]) else none
  | .nils _ => some []
  | v => match view S v with | some (z, rows, _) => if z = sz then some rows else none | none => none
def bigRow (n bytes : Nat) : Prop := n * bytes ≤ 1099511627776 ∧ n ≤ 1099511627776 ∧ bytes ≤ 65536
def appendP (kd : Bool) (d : Nat) (sz bytes : Nat) (x y : PV) (ac : Ac) : OO :=
  match srcRows ac.S sz y with
  | none => .bad
  | some src =>
    match x with
    | .nils _ => if bigRow src.length bytes then newArr kd d ⟨sz, src, false, 0⟩ ac else .bad
    | .list z rows true => if z = sz ∧ bigRow (rows.length + src.length) bytes then newArr kd d ⟨sz, rows ++ src, true, 0⟩ ac else .bad
    | .sl n a off len ver gen full =>
      match getArr ac.S n a with
      | none => .bad
      | some A =>
        if A.gen = gen ∧ A.rows.length = ver ∧ A.sz = sz ∧ bigRow (len + src.length) bytes then
          if full then newArr kd d ⟨sz, (A.rows.drop off).take len ++ src, true, 0⟩ { ac with S := setArr ac.S n a { A with frz := true } }
          else if off = 0 ∧ len = ver ∧ (n = 0 ∨ a.isCell) then
            .ok ⟨upd ac.e d (.sl n a 0 (len + src.length) (ver + src.length) gen false), setArr ac.S n a { A with rows := A.rows ++ src }⟩
          else .bad
        else .bad
    | _ => .bad
def rowsP (S : Sto) (ev : X → PV) (sz : Nat) : List (List PV) → List (Nat × X) → Option (List (List PV) × Sto)
  | rows, [] => some (rows, S)
  | rows, (i, x) :: r =>
    match handL S (ev x).cells with
    | some (vs, S) => if vs.length = sz ∧ allPure vs ∧ i < rows.length then rowsP S ev sz (rows.set i vs) r else none
    | none => none
def callP (cl : Oracle) (kd : Bool) (d : Option Nat) (f : PV) (args : List PV) (ac : Ac) : OO :=
  match f with
  | .func f caps =>
    match handA ac.S (args ++ caps) with
    | some (as, S1) =>
      match cl f as S1 with
      | .ok r S' =>
        let S2 := if (args ++ caps).any PV.hasSl && as.all (fun v => v.cells.all PV.pure) && r.plain then ac.S else S'
        match r with
        | .v x => .ok (({ ac with S := S2 } : Ac).put d x)
        | .arr sz rows frz =>
          match d with
          | some d => newArr kd d ⟨sz, rows, frz, 0⟩ { ac with S := S2 }
          | none => .ok { ac with S := S2 }
      | .pan v S => .pan v S
      | .bad => .bad
    | none => .bad
  | _ => .bad
def ex (cl : Oracle) (kd : Bool) (d : Option Nat) (op : SOp) (ac : Ac) : OO :=
  match op with
  | .v o => match vop ac.ev ac.S o with | some v => .ok (ac.put d v) | none => .bad
  | .nilv sz => match d with | some d => newArr kd d ⟨sz, [], false, 0⟩ ac | none => .bad
  | .alloc zero =>
    match d with
    | some d =>
      if kd then .ok ⟨upd (killE d ac.e) d (.ptr 0 d 0), newBox d zero (killS d ac.S)⟩
      else if getBox ac.S 0 d = some (initC d 0 zero) ∧ okA d 0 zero (getArr ac.S 0) then .ok (ac.put (some d) (.ptr 0 d 0)) else .bad
    | none => .bad
  | .box x =>
    match d with
    | some d => if kd ∧ (ac.ev x).cells.all PV.one then .ok ⟨upd (killE d ac.e) d (.ptr 0 d 0), newBox d (PV.killL d (ac.ev x).cells) (killS d ac.S)⟩ else .bad
    | none => .bad
  | .bslice sz n zero parts =>
    if n = 0 then .ok (ac.put d (.nils sz)) else
    match rowsP ac.S ac.ev sz (List.replicate n zero) parts with
    | some (rows, S) => .ok (({ ac with S := S } : Ac).put d (.list sz rows true))
    | none => .bad
  | .store k x v =>
    match d, storeP ac.S k (ac.ev x) (ac.ev v) with
    | none, some S => .ok { ac with S := S }
    | _, _ => .bad
  | .append sz bytes x y => match d with | some d => appendP kd d sz bytes (ac.ev x) (ac.ev y) ac | none => .bad
  | .call f args => callP cl kd d (ac.ev f) (args.map ac.ev) ac
  | .panic x => match ac.ev x with | .iface t v => .pan (.iface t v) ac.S | _ => .bad
def stp (cl : Oracle) (kd : Bool) (o : SOper) (ac : Ac) : OO :=
  match o.guard with
  | none => ex cl kd o.dst o.op ac
  | some (g, want) =>
    match ac.e g with
    | .bool b => if b = want then ex cl kd o.dst o.op ac else .ok (ac.put o.dst .undef)
    | .undef => .ok (ac.put o.dst .undef)
    | _ => .bad
def evOps (cl : Oracle) : List SOper → Ac → EO
  | [], ac => .nor ac
  | o :: l, ac =>
    match stp cl true o ac with
    | .ok ac => evOps cl l ac
    | .pan v S => .pan v S
    | .bad => .bad
def thOps (cl : Oracle) (r : OO) (l : List SOper) : EO :=
  match r with
  | .ok ac => evOps cl l ac
  | .pan v S => .pan v S
  | .bad => .bad
theorem evOps_cons (cl : Oracle) (o : SOper) (l : List SOper) (ac : Ac) : evOps cl (o :: l) ac = thOps cl (stp cl true o ac) l := rfl
end
end Go.Proofs.Ytebflncfgjnkkaa.M
