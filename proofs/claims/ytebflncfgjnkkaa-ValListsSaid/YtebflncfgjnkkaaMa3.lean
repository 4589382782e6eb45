/- THE ABSTRACT MACHINE, third part: a loaded function, turned into the machine's code. -/
import Derived.Test.YtebflncfgjnkkaaMa2
import GoSem.Claims
import Derived.CheckFast
namespace Go.Proofs.Ytebflncfgjnkkaa.M
set_option linter.unusedSimpArgs false
set_option linter.unusedVariables false
open Go
/-- A variable's cells: of a struct, so many; of another type, one. -/
def kOf (P : Program) (t : TypeId) : Option (Option Nat) :=
  match P.underlying t with
  | some (.struct _) => some (some (P.cellsOf t))
  | some (.array _ _) | none => none
  | some _ => if P.cellsOf t = 1 then some none else none
def elemSz (P : Program) (t : TypeId) : Option Nat :=
  match P.underlying t with
  | some (.slice e) => some (P.cellsOf e)
  | _ => none
def cV (P : Program) (t : TypeId) : Value → Option PV
  | .bool b => some (.bool b)
  | .int k n => some (.int k n)
  | .string s => some (.str s.data.toList)
  | .slice none 0 0 => some (.nils ((elemSz P t).getD 0))
  | .nilIface => some .nili
  | _ => none
def cX (P : Program) (t : TypeId) : Operand → Option X
  | .tmp n => some (.t n)
  | .const v => (cV P t v).map .c
  | .func f => some (.c (.func f []))
  | .global _ => none
def cZ (P : Program) (t : TypeId) : Option (List PV) :=
  match (P.info? t).bind (·.zero), P.cellTypes P.depth t with
  | some v, some ts => if ts.length = v.cells.size ∧ v.cells.size = P.cellsOf t then (v.cells.toList.zip ts).mapM fun (v, t) => cV P t v else none
  | _, _ => none
def cXs (P : Program) : List Operand → List TypeId → Option (List X)
  | [], _ => some []
  | x :: xs, ts =>
    match cX P (ts.headD 0) x, cXs P xs ts.tail with
    | some x, some xs => some (x :: xs)
    | _, _ => none
def cParts (P : Program) (fs : Array Field) : List (Nat × Operand) → Option (List (Nat × Nat × X))
  | [] => some []
  | (i, x) :: r =>
    match fs[i]? with
    | some f =>
      match cX P f.type x, cParts P fs r with
      | some x, some r => some ((f.offset, P.cellsOf f.type, x) :: r)
      | _, _ => none
    | none => none
def cRows (P : Program) (e : TypeId) : List (Nat × Operand) → Option (List (Nat × X))
  | [] => some []
  | (i, x) :: r =>
    match cX P e x, cRows P e r with
    | some x, some r => some ((i, x) :: r)
    | _, _ => none
def cOpt (P : Program) : Option Operand → Option (Option X)
  | none => some none
  | some x => (cX P 0 x).map some
def fkOf (P : Program) (t : TypeId) : Option FK :=
  match P.underlying t with
  | some .bool => some .b
  | some (.int _) => some .i
  | some .string => some .s
  | _ => none
def flatK (P : Program) : Nat → List Field → Option (List FK)
  | _, [] => some []
  | i, f :: fs =>
    if f.offset = i ∧ f.name ≠ "_" then
      match fkOf P f.type, flatK P (i + 1) fs with
      | some k, some ks => some (k :: ks)
      | _, _ => none
    else none
/-- The kinds of a flat struct's fields. -/
def flat (P : Program) (t : TypeId) (fs : Array Field) : Option (List FK) := if P.stoodInHeld t = false ∧ P.eqGuardType P.depth t = false ∧ P.cellsOf t = fs.size then flatK P 0 fs.toList else none
def isNilSlice : Operand → Bool
  | .const (.slice none 0 0) => true
  | _ => false
def cCall (P : Program) (c : Call) : Option SOp :=
  match c.callee with
  | .value f =>
    match cX P 0 f, cXs P c.args.toList c.argTypes.toList with
    | some f, some xs => some (.call f xs)
    | _, _ => none
  | .builtin .len =>
    match c.args.toList, c.argTypes.toList with
    | [x], [t] =>
      match P.underlying t, cX P t x with
      | some .string, some x => some (.v (.len true x))
      | some (.slice _), some x => some (.v (.len false x))
      | _, _ => none
    | _, _ => none
  | .builtin .append =>
    match c.args.toList, c.argTypes.toList with
    | [x, y], [t, u] =>
      match P.underlying t, P.underlying u, cX P t x, cX P u y with
      | some (.slice e), some .string, some x, some y | some (.slice e), some (.slice _), some x, some y => if P.cellsOf e ≠ 0 ∧ (cZ P e).isSome then some (.append (P.cellsOf e) (P.bytesOf e) x y) else none
      | _, _, _, _ => none
    | _, _ => none
  | .builtin .min =>
    match c.args.toList with
    | [x, y] => match cX P 0 x, cX P 0 y with | some x, some y => some (.v (.mm false x y)) | _, _ => none
    | _ => none
  | .builtin .max =>
    match c.args.toList with
    | [x, y] => match cX P 0 x, cX P 0 y with | some x, some y => some (.v (.mm true x y)) | _, _ => none
    | _ => none
  | _ => none
def cOp (P : Program) (o : Oper) : Option SOp :=
  match o.op with
  | .move x => (cX P o.type x).map fun x => .v (.mov x)
  | .assign x => if isNilSlice x then (elemSz P o.type).map .nilv else (cX P o.type x).map fun x => .v (.mov x)
  | .pick c a b => match cX P 0 c, cX P o.type a, cX P o.type b with | some c, some a, some b => some (.v (.pick c a b)) | _, _, _ => none
  | .alloc t => (cZ P t).map .alloc
  | .box _ x => (cX P 0 x).map .box
  | .build t parts =>
    match P.underlying t, cZ P t with
    | some (.struct fs), some z => if fs.toList.all (fun f => (P.info? f.type).isSome) then (cParts P fs parts.toList).map fun ps => .v (.build z ps) else none
    | _, _ => none
  | .buildSlice t n parts =>
    match P.underlying t with
    | some (.slice e) => if n * P.cellsOf e ≤ 2 ^ 24 ∧ P.cellsOf e ≠ 0 ∧ (n = 0 → parts.toList = []) then match cZ P e, cRows P e parts.toList with | some z, some ps => some (.bslice (P.cellsOf e) n z ps) | _, _ => none else none
    | _ => none
  | .load t x => match kOf P t, cX P 0 x with | some k, some x => some (.v (.load k x)) | _, _ => none
  | .store t x v => match kOf P t, cX P 0 x, cX P t v with | some k, some x, some v => some (.store (k.getD 1) x v) | _, _, _ => none
  | .nilCheck x => (cX P 0 x).map fun x => .v (.nchk x)
  | .binOp op t x y u =>
    match cX P t x, cX P u y with
    | some x', some y' =>
      match op, P.underlying t with
      | .eql, some (.struct fs) => (flat P t fs).map fun ks => .v (.eqs false ks x' y')
      | .neq, some (.struct fs) => (flat P t fs).map fun ks => .v (.eqs true ks x' y')
      | .eql, some .bool => some (.v (.binb false x' y'))
      | .neq, some .bool => some (.v (.binb true x' y'))
      | .eql, some (.slice _) => if isNilSlice y then some (.v (.isnil false x')) else none
      | .neq, some (.slice _) => if isNilSlice y then some (.v (.isnil true x')) else none
      | op, some _ => some (.v (.bin op x' y'))
      | _, none => none
    | _, _ => none
  | .unOp op _ x => (cX P 0 x).map fun x => .v (.un op x)
  | .convert s t x =>
    match P.underlying s, P.underlying t, cX P s x with
    | some (.int _), some (.int k), some x => some (.v (.conv (.int k) x))
    | some (.int _), some .string, some x => some (.v (.conv .chr x))
    | some .string, some .string, some x => some (.v (.conv .id x))
    | some (.slice e), some .string, some x => match P.underlying e with | some (.int .u8) => some (.v (.conv .bytes x)) | _ => none
    | _, _, _ => none
  | .makeInterface t x =>
    match P.underlying t with
    | some (.interface _) | none => none
    | some _ => (cX P t x).map fun x => .v (.mkif t x)
  | .makeFunc fn first caps =>
    match fn, first.toList with
    | .func f, [] => (cXs P caps.toList []).map fun cs => .v (.func f cs)
    | _, _ => none
  | .slice t x lo hi mx =>
    match P.underlying t, cX P t x, cOpt P lo, cOpt P hi, cOpt P mx with
    | some .string, some x, some lo, some hi, some none => some (.v (.sls x lo hi))
    | some (.slice e), some x, some lo, some hi, some mx => if (P.info? e).isSome then some (.v (.slc (P.cellsOf e) x lo hi mx)) else none
    | _, _, _, _, _ => none
  | .fieldAddr t x f =>
    match P.underlying t with
    | some (.struct fs) => match fs[f]?, cX P 0 x with | some f, some x => if P.cellsOf f.type = 0 then none else if (P.info? f.type).isSome then some (.v (.faddr f.offset x)) else none | _, _ => none
    | _ => none
  | .field t x f =>
    match P.underlying t with
    | some (.struct fs) =>
      match fs[f]? with
      | some f => match kOf P f.type, cX P 0 x with | some k, some x => some (.v (.field f.offset k x)) | _, _ => none
      | none => none
    | _ => none
  | .indexAddr t x i =>
    match P.underlying t with
    | some (.slice e) => match cX P t x, cX P 0 i with | some x, some i => if (P.info? e).isSome then some (.v (.iaddr (P.cellsOf e) x i)) else none | _, _ => none
    | _ => none
  | .index t x i =>
    match P.underlying t with
    | some .string => match cX P t x, cX P 0 i with | some x, some i => some (.v (.istr x i)) | _, _ => none
    | _ => none
  | .extract x i => (cX P 0 x).map fun x => .v (.extract i x)
  | .call c => cCall P c
  | .panic x => (cX P 0 x).map .panic
  | _ => none
def cOper (P : Program) (n : Nat) (ops : Array Oper) (o : Oper) : Option SOper :=
  match cOp P o with
  | none => none
  | some op =>
    if o.dst.all (· < n) then
      match o.guard with
      | none => some ⟨o.dst, none, op⟩
      | some (j, b) => match (ops[j]?).bind (·.dst) with | some d => some ⟨o.dst, some (d, b), op⟩ | none => none
    else none
def cOpers (P : Program) (n : Nat) (ops : Array Oper) : List Oper → Option (List SOper)
  | [] => some []
  | o :: l =>
    match cOper P n ops o, cOpers P n ops l with
    | some o, some l => some (o :: l)
    | _, _ => none
/-- It neither reads nor writes the store. -/
def SOp.inert : SOp → Bool
  | .v (.mov _) | .v (.pick _ _ _) | .v (.bin _ _ _) | .v (.binb _ _ _) | .v (.eqs _ _ _ _) | .v (.un _ _) | .v (.conv (.int _) _) | .v (.conv .chr _) | .v (.conv .id _) | .v (.mkif _ _) | .v (.func _ _) | .v (.build _ _)
  | .v (.nchk _) | .v (.field _ _ _) | .v (.istr _ _) | .v (.sls _ _ _) | .v (.extract _ _) | .v (.mm _ _ _) | .v (.isnil _ _) => true
  | _ => false
def cmpB (b : Array Nat) (i j : Nat) : Bool := (b.getD (max i j) 0).testBit (min i j)
def X.tm : X → List Nat
  | .t n => [n]
  | .c _ => []
def tmO : Option X → List Nat
  | some x => x.tm
  | none => []
/-- The slots that an operation looks at. -/
def VO.tm : VO → List Nat
  | .mov x | .un _ x | .conv _ x | .mkif _ x | .load _ x | .nchk x | .faddr _ x | .field _ _ x | .extract _ x | .len _ x | .isnil _ x => x.tm
  | .pick c a b => c.tm ++ (a.tm ++ b.tm)
  | .bin _ x y | .binb _ x y | .eqs _ _ x y | .iaddr _ x y | .istr x y | .mm _ x y => x.tm ++ y.tm
  | .func _ caps => caps.flatMap X.tm
  | .build _ parts => parts.flatMap fun p => p.2.2.tm
  | .slc _ x lo hi mx => x.tm ++ (tmO lo ++ (tmO hi ++ tmO mx))
  | .sls x lo hi => x.tm ++ (tmO lo ++ tmO hi)
def SOp.tm : SOp → List Nat
  | .v o => o.tm
  | .nilv _ | .alloc _ => []
  | .box x | .panic x => x.tm
  | .bslice _ _ _ parts => parts.flatMap fun p => p.2.tm
  | .store _ x y | .append _ _ x y => x.tm ++ y.tm
  | .call f args => f.tm ++ args.flatMap X.tm
def SOper.looks (o : SOper) : List Nat :=
  match o.guard with
  | some (g, _) => g :: o.op.tm
  | none => o.op.tm
def totB (b : Array Nat) (l : List SOper) (i : Nat) : Bool := (l.zipIdx).all fun p => p.2 == i || p.1.op.inert || cmpB b i p.2
def looksOk (b : Array Nat) (l : List SOper) : Bool := (l.zipIdx).all fun p => p.1.looks.all fun t => (l.zipIdx).all fun q => q.2 == p.2 || q.1.dst != some t || cmpB b p.2 q.2
def fwdOk (ops : Array Oper) : Bool := (ops.toList.zipIdx).all fun p => p.1.after.toList.all fun e => !Region.binds .any e || decide (e.on < p.2)
/-- The destinations of a region of open order are each one operation's; what fills a slot is before, or behind, all that look at it. -/
def dstOk (l : List SOper) : Bool := (l.zipIdx).all fun p => (l.zipIdx).all fun q => q.2 == p.2 || p.1.dst.isNone || q.1.dst != p.1.dst
def drawOk (ops : Array Oper) (l : List SOper) (b : Array Nat) : Bool := dstOk l && (looksOk b l && fwdOk ops)
def cCode (P : Program) (n : Nat) : Code → Option SC
  | .skip => some .skip
  | .region _ ops false => (cOpers P n ops ops.toList).map .reg
  | .region _ ops true =>
    match cOpers P n ops ops.toList with
    | some l => let b := CheckFast.beforeF ops; if drawOk ops l b then some (.dreg l ((List.range l.length).map (totB b l))) else none
    | none => none
  | .seq a b => match cCode P n a, cCode P n b with | some a, some b => some (.seq a b) | _, _ => none
  | .cond x a b => match cX P 0 x, cCode P n a, cCode P n b with | some x, some a, some b => some (.cond x a b) | _, _, _ => none
  | .block id c => (cCode P n c).map (.block id)
  | .loop c => (cCode P n c).map .loop
  | .exit id => some (.exit id)
  | .ret => some .ret
  | _ => none
def cRes (P : Program) (n : Nat) : List ResultVar → Option (List RX)
  | [] => some []
  | .tmp t :: r => if t < n then (cRes P n r).map (.t t :: ·) else none
  | .cell a t :: r => match kOf P t, cRes P n r with | some k, some r => if a < n then some (.cell a k :: r) else none | _, _ => none
def comp (P : Program) (fn : Func) : Option SFunc :=
  match fn.body with
  | some c =>
    match cCode P fn.ntmps c, cRes P fn.ntmps fn.results.toList with
    | some c, some r => if fn.params.size + fn.nfree ≤ fn.ntmps ∧ fn.name ≠ "runtime.NumGoroutine" then some ⟨fn.params.size + fn.nfree, fn.ntmps, c, r⟩ else none
    | _, _ => none
  | none => none
end Go.Proofs.Ytebflncfgjnkkaa.M
