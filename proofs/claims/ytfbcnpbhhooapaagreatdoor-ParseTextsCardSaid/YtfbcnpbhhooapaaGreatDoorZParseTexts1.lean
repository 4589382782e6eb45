/- Parts of a proof, one behind another: Ma1, Ma2, Ma3, Ma4, Ma36, Ma5, Ma6, Ma7, Ma8, Ma9, Ma10, Ma11, Ma12, Ma13, Ma14, Ma15, Ma16, Ma17, Ma18, Ma19, Ma20. -/
import Derived.Orders
import Derived.Below
import GoSem.Claims
import Derived.CheckFast
import Derived.Deep.MidRow
import Derived.Deep.AppendSrc
import Derived.Shelf.Abstract
import Derived.Laws.Small
import Derived.Laws.Unary
import Derived.Laws.Strings
import Derived.Laws.Runes
import Derived.Laws.StructEq
import Derived.Laws.Shifts
import Derived.Laws.BytesString
import Derived.Laws.Slices
import Derived.Laws.Cover3
import Derived.Great.BuildSlice
set_option linter.unusedSimpArgs false
set_option linter.unusedVariables false
set_option linter.unusedSectionVars false
namespace Go.Proofs.YtfbcnpbhhooapaaGreatDoor.M
open Go Classical
inductive AK where
 | slot (t:Nat)
 | cell (t o:Nat)
 deriving DecidableEq
def AK.tmp:AK→Nat
 | .slot t=>t
 | .cell t _=>t
def AK.isCell:AK→Bool
 | .slot _=>false
 | .cell _ _=>true
inductive PV where
 | bool (b:Bool)
 | int (k:IntKind) (n:Int)
 | str (s:List UInt8)
 | nils (sz:Nat)
 | list (sz:Nat) (rows:List (List PV)) (full:Bool)
 | agg (vs:List PV)
 | tup (vs:List PV)
 | ptr (n t o:Nat)
 | rowp (row:List PV) (o:Nat)
 | elem (n:Nat) (a:AK) (i o ver gen:Nat)
 | sl (n:Nat) (a:AK) (off len ver gen:Nat) (full:Bool)
 | func (f:Nat) (caps:List PV)
 | iface (t:Nat) (v:PV)
 | nili
 | nile
 | undef
 | junk
mutual
def PV.up:PV→PV
 | .bool b=>.bool b
 | .int k n=>.int k n
 | .str s=>.str s
 | .nils z=>.nils z
 | .list z r f=>.list z r f
 | .agg vs=>.agg (PV.upL vs)
 | .tup vs=>.tup (PV.upL vs)
 | .ptr n t o=>.ptr (n+1) t o
 | .rowp r o=>.rowp r o
 | .elem n a i o v g=>.elem (n+1) a i o v g
 | .sl n a o l v g f=>.sl (n+1) a o l v g f
 | .func f caps=>.func f (PV.upL caps)
 | .iface t v=>.iface t v.up
 | .nili=>.nili
 | .nile=>.nile
 | .undef=>.undef
 | .junk=>.junk
def PV.upL:List PV→List PV
 | []=>[]
 | v::vs=>v.up::PV.upL vs
end
mutual
def PV.dn:PV→Option PV
 | .bool b=>some (.bool b)
 | .int k n=>some (.int k n)
 | .str s=>some (.str s)
 | .nils z=>some (.nils z)
 | .list z r f=>some (.list z r f)
 | .agg vs=>(PV.dnL vs).map .agg
 | .tup vs=>(PV.dnL vs).map .tup
 | .ptr n t o=>match n with | 0=>none | n+1=>some (.ptr n t o)
 | .rowp r o=>some (.rowp r o)
 | .elem n a i o v g=>match n with | 0=>none | n+1=>some (.elem n a i o v g)
 | .sl n a o l v g f=>match n with | 0=>none | n+1=>some (.sl n a o l v g f)
 | .func f caps=>(PV.dnL caps).map (.func f)
 | .iface t v=>v.dn.map (.iface t)
 | .nili=>some .nili
 | .nile=>some .nile
 | .undef=>some .undef
 | .junk=>some .junk
def PV.dnL:List PV→Option (List PV)
 | []=>some []
 | v::vs=>match v.dn,PV.dnL vs with | some v,some vs=>some (v::vs) | _,_=>none
end
def PV.upN:Nat→PV→PV
 | 0,v=>v
 | n+1,v=>(PV.upN n v).up
def PV.dnN:Nat→PV→Option PV
 | 0,v=>some v
 | n+1,v=>(v.dn).bind (PV.dnN n)
mutual
def PV.kill (d:Nat):PV→PV
 | .bool b=>.bool b
 | .int k n=>.int k n
 | .str s=>.str s
 | .nils z=>.nils z
 | .list z r f=>.list z r f
 | .agg vs=>.agg (PV.killL d vs)
 | .tup vs=>.tup (PV.killL d vs)
 | .ptr n t o=>if n=0∧t=d then .junk else .ptr n t o
 | .rowp r o=>.rowp r o
 | .elem n a i o v g=>if n=0∧a.tmp=d then .junk else .elem n a i o v g
 | .sl n a o l v g f=>if n=0∧a.tmp=d then .junk else .sl n a o l v g f
 | .func f caps=>.func f (PV.killL d caps)
 | .iface t v=>.iface t (v.kill d)
 | .nili=>.nili
 | .nile=>.nile
 | .undef=>.undef
 | .junk=>.junk
def PV.killL (d:Nat):List PV→List PV
 | []=>[]
 | v::vs=>v.kill d::PV.killL d vs
end
def PV.pure:PV→Bool
 | .bool _ | .int _ _ | .str _ | .nils _ | .list _ _ _ | .nili | .nile=>true
 | .func _ caps=>caps.isEmpty
 | .iface _ v=>v.pure
 | _=>false
mutual
def PV.plain:PV→Bool
 | .bool _ | .int _ _ | .str _ | .nili | .nile | .undef=>true
 | .agg vs=>PV.plainL vs
 | .tup vs=>PV.plainL vs
 | .iface _ v=>v.plain
 | _=>false
def PV.plainL:List PV→Bool
 | []=>true
 | v::vs=>v.plain && PV.plainL vs
end
def PV.cells:PV→List PV
 | .agg vs=>vs
 | v=>[v]
def PV.one:PV→Bool
 | .agg _ | .tup _ | .undef | .junk=>false
 | _=>true
structure Arr where
 sz:Nat
 rows:List (List PV)
 frz:Bool
 gen:Nat
structure Fr where
 box:Nat→Option (List PV)
 arr:AK→Option Arr
abbrev Sto:=List Fr
def Fr.e:Fr:=⟨fun _=>none,fun _=>none⟩
def upd {α:Type} (f:Nat→α) (a:Nat) (v:α):Nat→α:=fun b=>if b=a then v else f b
def zd6 {α:Type} (f:AK→α) (a:AK) (v:α):AK→α:=fun b=>if b=a then v else f b
def getBox:Sto→Nat→Nat→Option (List PV)
 | [],_,_=>none
 | f::_,0,t=>f.box t
 | _::S,n+1,t=>getBox S n t
def setBox:Sto→Nat→Nat→List PV→Sto
 | [],_,_,_=>[]
 | f::S,0,t,v=>{ f with box:=upd f.box t (some v) }::S
 | f::S,n+1,t,v=>f::setBox S n t v
def getArr:Sto→Nat→AK→Option Arr
 | [],_,_=>none
 | f::_,0,k=>f.arr k
 | _::S,n+1,k=>getArr S n k
def setArr:Sto→Nat→AK→Arr→Sto
 | [],_,_,_=>[]
 | f::S,0,k,v=>{ f with arr:=zd6 f.arr k (some v) }::S
 | f::S,n+1,k,v=>f::setArr S n k v
def Fr.kill (d:Nat) (f:Fr):Fr :=
 ⟨fun t=>if t=d then none else (f.box t).map (PV.killL d),fun k=>if k.tmp=d then none else f.arr k⟩
def killS (d:Nat):Sto→Sto
 | []=>[]
 | f::S=>f.kill d::S
structure Ac where
 e:Nat→PV
 S:Sto
def zdy (d:Nat) (e:Nat→PV):Nat→PV:=fun t=>(e t).kill d
def Ac.kill (d:Nat) (ac:Ac):Ac:=⟨zdy d ac.e,killS d ac.S⟩
def Ac.put (ac:Ac) (d:Option Nat) (v:PV):Ac :=
 match d with
 | some d=>{ ac with e:=upd ac.e d v }
 | none=>ac
inductive X where
 | t (n:Nat)
 | c (v:PV)
def Ac.ev (ac:Ac):X→PV
 | .t n=>ac.e n
 | .c v=>v
inductive Cv where
 | int (k:IntKind)
 | chr
 | id
 | bytes
inductive FK where
 | b | i | s
inductive VO where
 | mov (x:X)
 | pick (c a b:X)
 | bin (op:BinOp) (x y:X)
 | binb (neg:Bool) (x y:X)
 | eqs (neg:Bool) (ks:List FK) (x y:X)
 | un (op:UnOp) (x:X)
 | conv (c:Cv) (x:X)
 | mkif (t:Nat) (x:X)
 | func (f:Nat) (caps:List X)
 | build (zero:List PV) (parts:List (Nat × Nat × X))
 | load (k:Option Nat) (x:X)
 | nchk (x:X)
 | faddr (off:Nat) (x:X)
 | field (off:Nat) (k:Option Nat) (x:X)
 | iaddr (sz:Nat) (x i:X)
 | istr (x i:X)
 | slc (sz:Nat) (x:X) (lo hi mx:Option X)
 | sls (x:X) (lo hi:Option X)
 | extract (i:Nat) (x:X)
 | len (s:Bool) (x:X)
 | mm (mx:Bool) (x y:X)
 | isnil (neg:Bool) (x:X)
 | isnile (neg:Bool) (x:X)
 | meth (f:Nat) (firsts:List X)
inductive SOp where
 | v (o:VO)
 | nilv (sz:Nat)
 | alloc (zero:List PV)
 | box (x:X)
 | bslice (sz n:Nat) (zero:List PV) (parts:List (Nat × X))
 | store (k:Nat) (x v:X)
 | append (sz bytes:Nat) (x y:X)
 | call (f:X) (args:List X)
 | panic (x:X)
 | w (o:VO)
structure SOper where
 dst:Option Nat
 guard:Option (Nat × Bool)
 op:SOp
mutual
inductive BT where
 | e
 | n (i:Nat) (t:BT) (r:BTs)
inductive BTs where
 | e
 | n (i:Nat) (t:BT) (r:BTs)
end
inductive SC where
 | skip
 | reg (ops:List SOper)
 | dreg (ops:List SOper) (tot:List Bool)
 | seq (a b:SC)
 | cond (x:X) (a b:SC)
 | block (id:Nat) (c:SC)
 | loop (c:SC)
 | exit (id:Nat)
 | ret
 | sreg (F:List Nat) (ops:List SOper) (tot:List Bool)
 | treg (ops:List SOper) (ds:List Nat) (T:BT)
inductive RX where
 | t (n:Nat)
 | cell (t:Nat) (k:Option Nat)
structure zh where
 nargs:Nat
 ntmps:Nat
 code:SC
 res:List RX
def view (S:Sto):PV→Option (Nat × List (List PV) × Bool)
 | .nils z=>some (z,[],true)
 | .list z rows f=>some (z,rows,f)
 | .sl n a off len ver gen f =>
  match getArr S n a with
  | some A=>if A.gen=gen∧A.rows.length=ver then some (A.sz,(A.rows.drop off).take len,f) else none
  | none=>none
 | _=>none
def hand1 (S:Sto) (v:PV):Option (PV × Sto) :=
 match v with
 | .nils z=>some (.list z [] false,S)
 | .list z rows _=>some (.list z rows false,S)
 | .sl n a off len ver gen _ =>
  match getArr S n a with
  | some A=>if A.gen=gen∧A.rows.length=ver then some (.list A.sz ((A.rows.drop off).take len) false,setArr S n a { A with frz:=true }) else none
  | none=>none
 | v=>some (v,S)
def handL (S:Sto):List PV→Option (List PV × Sto)
 | []=>some ([],S)
 | v::vs =>
  match hand1 S v with
  | some (v,S)=>match handL S vs with | some (vs,S)=>some (v::vs,S) | none=>none
  | none=>none
def hand (S:Sto) (v:PV):Option (PV × Sto) :=
 match v with
 | .agg vs=>match handL S vs with | some (vs,S)=>some (.agg vs,S) | none=>none
 | v=>hand1 S v
def handA (S:Sto):List PV→Option (List PV × Sto)
 | []=>some ([],S)
 | v::vs =>
  match hand S v with
  | some (v,S)=>match handA S vs with | some (vs,S)=>some (v::vs,S) | none=>none
  | none=>none
def PV.isSl:PV→Bool
 | .sl ..=>true
 | _=>false
def PV.hasSl:PV→Bool
 | .agg vs=>vs.any PV.isSl
 | v=>v.isSl
def allPure (vs:List PV):Bool:=vs.all PV.pure
def setAt:List PV→Nat→List PV→List PV
 | cs,_,[]=>cs
 | cs,o,v::vs=>setAt (cs.set o v) (o+1) vs
def pickC (k:Option Nat) (cs:List PV) (o:Nat):Option PV :=
 match k with
 | none=>cs[o]?
 | some k=>if o+k≤cs.length then some (.agg ((cs.drop o).take k)) else none
def ld (S:Sto) (k:Option Nat):PV→Option PV
 | .ptr n t o=>match getBox S n t with | some cs=>(pickC k cs o).map (PV.upN n) | none=>none
 | .rowp row o=>pickC k row o
 | .elem n a i o ver gen =>
  match getArr S n a with
  | some A=>if A.gen=gen∧A.rows.length=ver then match A.rows[i]? with | some row=>pickC k row o | none=>none else none
  | none=>none
 | _=>none
def fillP (cs:List PV) (ev:X→PV):List (Nat × Nat × X)→Option (List PV)
 | []=>some cs
 | (off,sz,x)::r=>if (ev x).cells.length=sz∧off+sz≤cs.length∧(ev x).cells.all PV.one then fillP (setAt cs off (ev x).cells) ev r else none
def bytesLess:List UInt8→List UInt8→Bool:=Op.bytesLess
def zaO:Nat:=9223372036854775807
def binInt (op:BinOp) (k:IntKind) (a b:Int):Option PV :=
 match op with
 | .add=>some (.int k (k.wrap (a+b)))
 | .sub=>some (.int k (k.wrap (a - b)))
 | .mul=>some (.int k (k.wrap (a*b)))
 | .quo=>if b=0 then none else some (.int k (k.wrap (a.tdiv b)))
 | .rem=>if b=0 then none else some (.int k (a.tmod b))
 | .eql=>some (.bool (decide (a=b)))
 | .neq=>some (.bool (decide (a≠b)))
 | .lss=>some (.bool (decide (a < b)))
 | .leq=>some (.bool (decide (a≤b)))
 | .gtr=>some (.bool (decide (b < a)))
 | .geq=>some (.bool (decide (b≤a)))
 | _=>none
def binStr (op:BinOp) (a b:List UInt8):Option PV :=
 match op with
 | .add=>if a.length+b.length≤zaO then some (.str (a++b)) else none
 | .eql=>some (.bool (decide (a=b)))
 | .neq=>some (.bool (decide (a≠b)))
 | .lss=>some (.bool (bytesLess a b))
 | .leq=>some (.bool (bytesLess a b || decide (a=b)))
 | .gtr=>some (.bool (!(bytesLess a b || decide (a=b))))
 | .geq=>some (.bool (!(bytesLess a b)))
 | _=>none
def binP (op:BinOp) (a b:PV):Option PV :=
 match a,b with
 | .int k a,.int k' b =>
  match op with
  | .shl=>none
  | .shr=>if 0≤b then some (.int k (a / 2 ^ min b.toNat k.bits)) else none
  | .add=>if k=k' then binInt .add k a b else none
  | .sub=>if k=k' then binInt .sub k a b else none
  | .mul=>if k=k' then binInt .mul k a b else none
  | .quo=>if k=k' then binInt .quo k a b else none
  | .rem=>if k=k' then binInt .rem k a b else none
  | .eql=>if k=k' then binInt .eql k a b else none
  | .neq=>if k=k' then binInt .neq k a b else none
  | .lss=>if k=k' then binInt .lss k a b else none
  | .leq=>if k=k' then binInt .leq k a b else none
  | .gtr=>if k=k' then binInt .gtr k a b else none
  | .geq=>if k=k' then binInt .geq k a b else none
  | _=>none
 | .str a,.str b=>binStr op a b
 | _,_=>none
def binB (neg:Bool) (a b:PV):Option PV :=
 match a,b with
 | .bool a,.bool b=>some (.bool (if neg then decide (a≠b) else decide (a=b)))
 | _,_=>none
def unP (op:UnOp) (a:PV):Option PV :=
 match op,a with
 | .neg,.int k n=>some (.int k (k.wrap (0 - n)))
 | .not,.bool b=>some (.bool (!b))
 | _,_=>none
def eqCells:List FK→List PV→List PV→Option Bool
 | [],[],[]=>some true
 | .i::ks,.int k a::r,.int k' b::s=>if k=k' then (eqCells ks r s).map (decide (a=b) && ·) else none
 | .s::ks,.str a::r,.str b::s=>(eqCells ks r s).map (decide (a=b) && ·)
 | .b::ks,.bool a::r,.bool b::s=>(eqCells ks r s).map (decide (a=b) && ·)
 | _,_,_=>none
def bytesOf:List (List PV)→Option (List UInt8)
 | []=>some []
 | [.int .u8 n]::r=>(bytesOf r).map (UInt8.ofNat n.toNat::·)
 | _=>none
def convP (S:Sto) (c:Cv) (v:PV):Option PV :=
 match c,v with
 | .int k,.int _ n=>some (.int k (k.wrap n))
 | .chr,.int _ n=>if 0≤n∧n < 128 then some (.str [UInt8.ofNat n.toNat]) else none
 | .id,.str s=>some (.str s)
 | .bytes,v=>match view S v with | some (_,rows,_)=>(bytesOf rows).map .str | none=>none
 | _,_=>none
def zi4 (neg:Bool):PV→Option PV
 | .iface _ _=>some (.bool neg)
 | .nile=>some (.bool (!neg))
 | _=>none
def idx (d:Nat):Option PV→Option Nat
 | none=>some d
 | some (.int _ i)=>if 0≤i then some i.toNat else none
 | _=>none
def fullOf (mx:Option PV) (f:Bool) (b l:Nat):Bool :=
 match mx with
 | none=>f && decide (b=l)
 | some _=>true
def slcGo (lo hi mx:Option PV) (l:Nat) (full:Bool) (k:Nat→Nat→Bool→PV):Option PV :=
 match idx 0 lo,idx l hi,idx l mx with
 | some a,some b,some m=>if a≤b∧b≤m∧m≤l∧(mx.isNone∨hi.isSome∧m=b) then some (k a (b - a) (fullOf mx full b l)) else none
 | _,_,_=>none
def slcP (S:Sto) (sz:Nat) (v:PV) (lo hi mx:Option PV):Option PV :=
 match v with
 | .nils z=>slcGo lo hi mx 0 true fun _ _ _=>.nils z
 | .list z rows f=>if z=sz then slcGo lo hi mx rows.length f fun a n f=>.list z ((rows.drop a).take n) f else none
 | .sl n t off len ver gen f =>
  match getArr S n t with
  | some A=>if A.gen=gen∧A.rows.length=ver∧A.sz=sz then slcGo lo hi mx len f fun a m f=>.sl n t (off+a) m ver gen f else none
  | none=>none
 | _=>none
def slsP (v:PV) (lo hi:Option PV):Option PV :=
 match v with
 | .str s =>
  match idx 0 lo,idx s.length hi with
  | some a,some b=>if a≤b∧b≤s.length then some (.str ((s.drop a).take (b - a))) else none
  | _,_=>none
 | _=>none
def iaddrP (S:Sto) (sz:Nat) (v i:PV):Option PV :=
 match i with
 | .int _ i =>
  if 0≤i then
   match v with
   | .list z rows _=>if z=sz then match rows[i.toNat]? with | some row=>some (.rowp row 0) | none=>none else none
   | .sl n a off len ver gen _ =>
    match getArr S n a with
    | some A=>if A.gen=gen∧A.rows.length=ver∧A.sz=sz∧i.toNat < len then some (.elem n a (off+i.toNat) 0 ver gen) else none
    | none=>none
   | _=>none
  else none
 | _=>none
def lenS:PV→Option PV
 | .str s=>some (.int .i64 s.length)
 | _=>none
def lenP (S:Sto) (v:PV):Option PV :=
 match v with
 | .nils _=>some (.int .i64 0)
 | .list _ rows _=>some (.int .i64 rows.length)
 | .sl n a _ len ver gen _ =>
  match getArr S n a with
  | some A=>if A.gen=gen∧A.rows.length=ver then some (.int .i64 len) else none
  | none=>none
 | _=>none
def vop (ev:X→PV) (S:Sto):VO→Option PV
 | .mov x=>some (ev x)
 | .pick c a b=>match ev c with | .bool t=>some (if t then ev a else ev b) | _=>none
 | .bin op x y=>binP op (ev x) (ev y)
 | .binb neg x y=>binB neg (ev x) (ev y)
 | .eqs neg ks x y =>
  match ev x,ev y with
  | .agg a,.agg b=>(eqCells ks a b).map fun t=>.bool (if neg then !t else t)
  | _,_=>none
 | .un op x=>unP op (ev x)
 | .conv c x=>convP S c (ev x)
 | .mkif t x=>if (ev x).one then some (.iface t (ev x)) else none
 | .func f caps=>if caps.all (fun x=>(ev x).one) then some (.func f (caps.map ev)) else none
 | .build zero parts=>(fillP zero ev parts).map .agg
 | .load k x=>ld S k (ev x)
 | .nchk x=>match ev x with | .ptr n t o=>some (.ptr n t o) | .rowp r o=>some (.rowp r o) | _=>none
 | .faddr off x =>
  match ev x with
  | .ptr n t o=>some (.ptr n t (o+off))
  | .rowp r o=>some (.rowp r (o+off))
  | .elem n a i o v g =>
   match getArr S n a with
   | some A=>if A.gen=g∧A.rows.length=v then some (.elem n a i (o+off) v g) else none
   | none=>none
  | _=>none
 | .field off k x=>match ev x with | .agg vs=>pickC k vs off | _=>none
 | .iaddr sz x i=>iaddrP S sz (ev x) (ev i)
 | .istr x i =>
  match ev x,ev i with
  | .str s,.int _ i=>if 0≤i then (s[i.toNat]?).map fun b=>.int .u8 b.toNat else none
  | _,_=>none
 | .slc sz x lo hi mx=>slcP S sz (ev x) (lo.map ev) (hi.map ev) (mx.map ev)
 | .sls x lo hi=>slsP (ev x) (lo.map ev) (hi.map ev)
 | .extract i x=>match ev x with | .tup vs=>vs[i]? | _=>none
 | .len s x=>if s=true then lenS (ev x) else lenP S (ev x)
 | .mm mx x y =>
  match ev x,ev y with
  | .int k a,.int _ b=>some (.int k (if mx then (if a < b then b else a) else (if b < a then b else a)))
  | _,_=>none
 | .isnil neg x=>match ev x with | .list _ (_::_) _=>some (.bool neg) | _=>none
 | .isnile neg x=>zi4 neg (ev x)
 | .meth f firsts=>some (.func f [.tup (firsts.map ev)])
noncomputable section
inductive Ret where
 | v (x:PV)
 | arr (sz:Nat) (rows:List (List PV)) (frz:Bool)
def Ret.plain:Ret→Bool
 | .v x=>x.plain
 | .arr ..=>false
inductive CO where
 | ok (r:Ret) (S:Sto)
 | pan (v:PV) (S:Sto)
 | bad
inductive OO where
 | ok (ac:Ac)
 | pan (v:PV) (S:Sto)
 | bad
inductive EO where
 | nor (ac:Ac)
 | ext (id:Nat) (ac:Ac)
 | ret (ac:Ac)
 | pan (v:PV) (S:Sto)
 | bad
abbrev zi:=Nat→List PV→Sto→CO
def initC (d:Nat):Nat→List PV→List PV
 | _,[]=>[]
 | i,.nils _::vs=>.sl 0 (.cell d i) 0 0 0 0 false::initC d (i+1) vs
 | i,v::vs=>v::initC d (i+1) vs
def initA (d:Nat):Nat→List PV→(AK→Option Arr)→(AK→Option Arr)
 | _,[],a=>a
 | i,.nils z::vs,a=>initA d (i+1) vs (zd6 a (.cell d i) (some ⟨z,[],false,0⟩))
 | i,_::vs,a=>initA d (i+1) vs a
def okA (d:Nat):Nat→List PV→(AK→Option Arr)→Prop
 | _,[],_=>True
 | i,.nils z::vs,a=>a (.cell d i)=some ⟨z,[],false,0⟩∧okA d (i+1) vs a
 | i,_::vs,a=>okA d (i+1) vs a
def newBox (d:Nat) (cs:List PV):Sto→Sto
 | []=>[]
 | f::S=>⟨upd f.box d (some (initC d 0 cs)),initA d 0 cs f.arr⟩::S
def newArr (kd:Bool) (d:Nat) (A:Arr) (ac:Ac):OO :=
 if kd then
  .ok ⟨upd (zdy d ac.e) d (.sl 0 (.slot d) 0 A.rows.length A.rows.length A.gen false),setArr (killS d ac.S) 0 (.slot d) A⟩
 else
  match getArr ac.S 0 (.slot d) with
  | none=>.ok ⟨upd ac.e d (.sl 0 (.slot d) 0 A.rows.length A.rows.length A.gen false),setArr ac.S 0 (.slot d) A⟩
  | some _=>.bad
def stCell (S:Sto) (n t o:Nat) (v:PV):Option (PV × Sto) :=
 match v with
 | .nils z =>
  let g:=match getArr S n (.cell t o) with | some A=>A.gen+1 | none=>0
  some (.sl 0 (.cell t o) 0 0 0 g false,setArr S n (.cell t o) ⟨z,[],false,g⟩)
 | .list z rows _=>some (.list z rows false,S)
 | .sl m a off len ver gen f=>if m=n∧a=.cell t o∧off=0∧len=ver∧f=false then some (.sl 0 a 0 len ver gen false,S) else hand1 S v
 | v=>(PV.dnN n v).map (·,S)
def stCells (S:Sto) (n t:Nat):Nat→List PV→Option (List PV × Sto)
 | _,[]=>some ([],S)
 | o,v::vs =>
  match stCell S n t o v with
  | some (v,S)=>match stCells S n t (o+1) vs with | some (vs,S)=>some (v::vs,S) | none=>none
  | none=>none
def storeP (S:Sto) (k:Nat) (p v:PV):Option Sto :=
 if v.cells.length=k∧v.cells.all PV.one then
  match p with
  | .ptr n t o =>
   match getBox S n t with
   | some cs =>
    if o+k≤cs.length then
     match stCells S n t o v.cells with
     | some (vs,S)=>some (setBox S n t (setAt cs o vs))
     | none=>none
    else none
   | none=>none
  | .elem n a i o ver gen =>
   match handL S v.cells with
   | some (vs,S) =>
    match getArr S n a with
    | some A =>
     if A.gen=gen∧A.rows.length=ver∧A.frz=false∧allPure vs then
      match A.rows[i]? with
      | some row=>if o+k≤row.length then some (setArr S n a { A with rows:=A.rows.set i (setAt row o vs) }) else none
      | none=>none
     else none
    | none=>none
   | none=>none
  | _=>none
 else none
def srcRows (S:Sto) (sz:Nat):PV→Option (List (List PV))
 | .str s=>if sz=1 then some (s.map fun b=>[.int .u8 b.toNat]) else none
 | .nils _=>some []
 | v=>match view S v with | some (z,rows,_)=>if z=sz then some rows else none | none=>none
def bigRow (n bytes:Nat):Prop:=n*bytes≤1099511627776∧n≤1099511627776∧bytes≤65536
def appendP (kd:Bool) (d:Nat) (sz bytes:Nat) (x y:PV) (ac:Ac):OO :=
 match srcRows ac.S sz y with
 | none=>.bad
 | some src =>
  match x with
  | .nils _=>if bigRow src.length bytes then newArr kd d ⟨sz,src,false,0⟩ ac else .bad
  | .list z rows true=>if z=sz∧bigRow (rows.length+src.length) bytes then newArr kd d ⟨sz,rows++src,true,0⟩ ac else .bad
  | .sl n a off len ver gen full =>
   match getArr ac.S n a with
   | none=>.bad
   | some A =>
    if A.gen=gen∧A.rows.length=ver∧A.sz=sz∧bigRow (len+src.length) bytes then
     if full then newArr kd d ⟨sz,(A.rows.drop off).take len++src,true,0⟩ { ac with S:=setArr ac.S n a { A with frz:=true } }
     else if off=0∧len=ver∧(n=0∨a.isCell) then
      .ok ⟨upd ac.e d (.sl n a 0 (len+src.length) (ver+src.length) gen false),setArr ac.S n a { A with rows:=A.rows++src }⟩
     else .bad
    else .bad
  | _=>.bad
def rowsP (S:Sto) (ev:X→PV) (sz:Nat):List (List PV)→List (Nat × X)→Option (List (List PV) × Sto)
 | rows,[]=>some (rows,S)
 | rows,(i,x)::r =>
  match handL S (ev x).cells with
  | some (vs,S)=>if vs.length=sz∧allPure vs∧i < rows.length then rowsP S ev sz (rows.set i vs) r else none
  | none=>none
def zW (args:List PV):List PV→List PV
 | [.tup vs]=>vs++args
 | caps=>args++caps
def callP (cl:zi) (kd:Bool) (d:Option Nat) (f:PV) (args:List PV) (ac:Ac):OO :=
 match f with
 | .func f caps =>
  match handA ac.S (zW args caps) with
  | some (as_,S1) =>
   match cl f as_ S1 with
   | .ok r S' =>
    let S2:=if (zW args caps).any PV.hasSl && as_.all (fun v=>v.cells.all PV.pure) && r.plain then ac.S else S'
    match r with
    | .v x=>.ok (({ ac with S:=S2 }:Ac).put d x)
    | .arr sz rows frz =>
     match d with
     | some d=>if kd then newArr kd d ⟨sz,rows,frz,0⟩ { ac with S:=S2 } else .ok (({ ac with S:=S2 }:Ac).put (some d) (.list sz rows false))
     | none=>.ok { ac with S:=S2 }
   | .pan v S=>.pan v S
   | .bad=>.bad
  | none=>.bad
 | _=>.bad
def ex (cl:zi) (kd:Bool) (d:Option Nat) (op:SOp) (ac:Ac):OO :=
 match op with
 | .v o=>match vop ac.ev ac.S o with | some v=>.ok (ac.put d v) | none=>.bad
 | .nilv sz=>match d with | some d=>newArr kd d ⟨sz,[],false,0⟩ ac | none=>.bad
 | .alloc zero =>
  match d with
  | some d =>
   if kd then .ok ⟨upd (zdy d ac.e) d (.ptr 0 d 0),newBox d zero (killS d ac.S)⟩
   else if getBox ac.S 0 d=some (initC d 0 zero)∧okA d 0 zero (getArr ac.S 0) then .ok (ac.put (some d) (.ptr 0 d 0)) else .bad
  | none=>.bad
 | .box x =>
  match d with
  | some d=>if kd∧(ac.ev x).cells.all PV.one then .ok ⟨upd (zdy d ac.e) d (.ptr 0 d 0),newBox d (PV.killL d (ac.ev x).cells) (killS d ac.S)⟩ else .bad
  | none=>.bad
 | .bslice sz n zero parts =>
  if n=0 then .ok (ac.put d (.nils sz)) else
  match rowsP ac.S ac.ev sz (List.replicate n zero) parts with
  | some (rows,S)=>.ok (({ ac with S:=S }:Ac).put d (.list sz rows true))
  | none=>.bad
 | .store k x v =>
  match d,storeP ac.S k (ac.ev x) (ac.ev v) with
  | none,some S=>.ok { ac with S:=S }
  | _,_=>.bad
 | .append sz bytes x y=>match d with | some d=>appendP kd d sz bytes (ac.ev x) (ac.ev y) ac | none=>.bad
 | .call f args=>callP cl kd d (ac.ev f) (args.map ac.ev) ac
 | .panic x=>match ac.ev x with | .iface t v=>.pan (.iface t v) ac.S | _=>.bad
 | .w o=>match vop ac.ev [] o with | some v=>.ok (ac.put d v) | none=>.bad
def stp (cl:zi) (kd:Bool) (o:SOper) (ac:Ac):OO :=
 match o.guard with
 | none=>ex cl kd o.dst o.op ac
 | some (g,want) =>
  match ac.e g with
  | .bool b=>if b=want then ex cl kd o.dst o.op ac else .ok (ac.put o.dst .undef)
  | .undef=>.ok (ac.put o.dst .undef)
  | _=>.bad
def frzC:List Nat→Ac→EO
 | [],ac=>.nor ac
 | t::F,ac=>match hand ac.S (ac.e t) with | some (v,S)=>frzC F ⟨upd ac.e t v,S⟩ | none=>.bad
def zQ (cl:zi):List SOper→Ac→EO
 | [],ac=>.nor ac
 | o::l,ac =>
  match stp cl true o ac with
  | .ok ac=>zQ cl l ac
  | .pan v S=>.pan v S
  | .bad=>.bad
def zmE (cl:zi) (r:OO) (l:List SOper):EO :=
 match r with
 | .ok ac=>zQ cl l ac
 | .pan v S=>.pan v S
 | .bad=>.bad
theorem zqm (cl:zi) (o:SOper) (l:List SOper) (ac:Ac):zQ cl (o::l) ac=zmE cl (stp cl true o ac) l:=rfl
end
@[reducible] def vO (d:Nat) (o:VO):SOper:=⟨some d,none,.v o⟩
@[reducible] def mO (d k:Nat):SOper:=⟨some d,none,.v (.mov (.t k))⟩
@[reducible] def gO (d g:Nat) (b:Bool) (o:VO):SOper:=⟨some d,some (g,b),.v o⟩
@[reducible] def kO (d f:Nat) (a:List X):SOper:=⟨some d,none,.call (.c (.func f [])) a⟩
@[reducible] def nO (d k:Nat):SOper:=⟨some d,none,.v (.nchk (.t k))⟩
@[reducible] def fO (d f k:Nat):SOper:=⟨some d,none,.v (.faddr f (.t k))⟩
@[reducible] def lO (d k:Nat):SOper:=⟨some d,none,.v (.load none (.t k))⟩
@[reducible] def sO (n a b:Nat):SOper:=⟨none,none,.store n (.t a) (.t b)⟩
@[reducible] def bO (d:Nat) (o:BinOp) (a b:Nat):SOper:=⟨some d,none,.v (.bin o (.t a) (.t b))⟩
@[reducible] def bC (d:Nat) (o:BinOp) (a:Nat) (n:Int):SOper:=⟨some d,none,.v (.bin o (.t a) (.c (.int .i64 n)))⟩
@[reducible] def uO (d k:Nat):SOper:=⟨some d,none,.v (.un .not (.t k))⟩
@[reducible] def cI (n:Int):X:=.c (.int .i64 n)
theorem abO:(∀ d o,vO d o=⟨some d,none,.v o⟩)∧(∀ d k,mO d k=⟨some d,none,.v (.mov (.t k))⟩)∧(∀ d g b o,gO d g b o=⟨some d,some (g,b),.v o⟩)∧(∀ d f a,kO d f a=⟨some d,none,.call (.c (.func f [])) a⟩)∧(∀ d k,nO d k=⟨some d,none,.v (.nchk (.t k))⟩)∧(∀ d f k,fO d f k=⟨some d,none,.v (.faddr f (.t k))⟩)∧(∀ d k,lO d k=⟨some d,none,.v (.load none (.t k))⟩)∧(∀ n a b,sO n a b=⟨none,none,.store n (.t a) (.t b)⟩)∧(∀ d o a b,bO d o a b=⟨some d,none,.v (.bin o (.t a) (.t b))⟩)∧(∀ d o a n,bC d o a n=⟨some d,none,.v (.bin o (.t a) (.c (.int .i64 n)))⟩)∧(∀ d k,uO d k=⟨some d,none,.v (.un .not (.t k))⟩)∧∀ n,cI n=.c (.int .i64 n):=⟨fun _ _=>rfl,fun _ _=>rfl,fun _ _ _ _=>rfl,fun _ _ _=>rfl,fun _ _=>rfl,fun _ _ _=>rfl,fun _ _=>rfl,fun _ _ _=>rfl,fun _ _ _ _=>rfl,fun _ _ _ _=>rfl,fun _ _=>rfl,fun _=>rfl⟩
noncomputable section
def prep:List SOper→Ac→Ac
 | [],ac=>ac
 | o::l,ac =>
  match o.dst,o.op with
  | some d,.alloc zero=>prep l (let ac:=ac.kill d;{ ac with S:=newBox d zero ac.S })
  | some d,.call _ _=>prep l (ac.kill d)
  | some d,.append _ _ _ _=>prep l (ac.kill d)
  | some d,.nilv _=>prep l (ac.kill d)
  | _,_=>prep l ac
def evD (cl:zi):List SOper→List Bool→Ac→EO
 | [],_,ac=>.nor ac
 | o::l,tot,ac =>
  match stp cl false o ac with
  | .ok ac'=>if tot.headD false=true∨ac'.S=ac.S then evD cl l tot.tail ac' else .bad
  | _=>.bad
def thD (cl:zi) (S:Sto) (r:OO) (l:List SOper) (tot:List Bool):EO :=
 match r with
 | .ok ac'=>if tot.headD false=true∨ac'.S=S then evD cl l tot.tail ac' else .bad
 | _=>.bad
theorem zur (cl:zi) (o:SOper) (l:List SOper) (tot:List Bool) (ac:Ac):evD cl (o::l) tot ac=thD cl ac.S (stp cl false o ac) l tot:=rfl
def zjg (ds:List Nat):EO→EO→Prop
 | .nor a,.nor b=>a.S=b.S∧∀ d ∈ ds,a.e d=b.e d
 | .pan v S,.pan v' S'=>v=v'∧S=S'
 | _,_=>False
def nxT (K:Ac→EO):OO→EO
 | .ok ac=>K ac
 | .pan v S=>.pan v S
 | .bad=>.bad
def za6 (cl:zi) (l:List SOper) (i:Nat) (ac:Ac):OO :=
 match l[i]? with
 | some o=>stp cl false o ac
 | none=>.bad
mutual
def evT (cl:zi) (l:List SOper) (ds:List Nat):BT→Ac→EO
 | .e,ac=>.nor ac
 | .n i t r,ac=>if evTs cl l ds r ac (nxT (evT cl l ds t) (za6 cl l i ac)) then nxT (evT cl l ds t) (za6 cl l i ac) else .bad
def evTs (cl:zi) (l:List SOper) (ds:List Nat):BTs→Ac→EO→Prop
 | .e,_,_=>True
 | .n i t r,ac,x=>zjg ds (nxT (evT cl l ds t) (za6 cl l i ac)) x∧evTs cl l ds r ac x
end
def zx (id:Nat):EO→EO
 | .ext i ac=>if i=id then .nor ac else .ext i ac
 | r=>r
def evC (cl:zi):Nat→SC→Ac→EO
 | _,.skip,ac=>.nor ac
 | _,.reg ops,ac=>zQ cl ops ac
 | _,.dreg ops tot,ac=>evD cl ops tot (prep ops ac)
 | _,.sreg F ops tot,ac=>match frzC F ac with | .nor ac=>evD cl ops tot (prep ops ac) | r=>r
 | _,.treg ops ds T,ac=>evT cl ops ds T (prep ops ac)
 | n,.seq a b,ac =>
  match evC cl n a ac with
  | .nor ac=>evC cl n b ac
  | r=>r
 | n,.cond x a b,ac =>
  match ac.ev x with
  | .bool t=>if t=true then evC cl n a ac else evC cl n b ac
  | _=>.bad
 | n,.block id c,ac=>zx id (evC cl n c ac)
 | 0,.loop _,_=>.bad
 | n+1,.loop c,ac =>
  match evC cl (n+1) c ac with
  | .nor ac=>evC cl n (.loop c) ac
  | r=>r
 | _,.exit id,ac=>.ext id ac
 | _,.ret,ac=>.ret ac
termination_by n c=>(n,SizeOf.sizeOf c)
def rdRes (ac:Ac):List RX→Option (List PV)
 | []=>some []
 | .t n::r=>(rdRes ac r).map (ac.e n::·)
 | .cell t k::r =>
  match ld ac.S k (ac.e t),rdRes ac r with
  | some v,some vs=>some (v::vs)
  | _,_=>none
def retV (v:PV) (S:Sto):CO :=
 match hand S v with
 | some (v,S)=>match v.dn with | some v=>.ok (.v v) S.tail | none=>.bad
 | none=>.bad
def ret1 (v:PV) (S:Sto):CO :=
 match v with
 | .nils z=>.ok (.arr z [] false) S.tail
 | .sl n a off len ver gen full =>
  match n with
  | 0 =>
   match getArr S 0 a with
   | some A=>if A.gen=gen∧A.rows.length=ver∧off=0∧len=ver∧full=false∧A.frz=false then .ok (.arr A.sz A.rows A.frz) S.tail else retV v S
   | none=>.bad
  | _+1=>retV v S
 | v=>retV v S
def retL (vs:List PV) (S:Sto):CO :=
 match vs with
 | [v]=>ret1 v S
 | vs =>
  match handA S vs with
  | some (vs,S)=>match PV.dnL vs with | some vs=>.ok (.v (.tup vs)) S.tail | none=>.bad
  | none=>.bad
def retOf (res:List RX) (ac:Ac):CO :=
 match rdRes ac res with
 | some vs=>retL vs ac.S
 | none=>.bad
def fin (res:List RX):EO→CO
 | .nor ac=>retOf res ac
 | .ret ac=>retOf res ac
 | .pan v S=>match v.dn with | some v=>.pan v S.tail | none=>.bad
 | _=>.bad
def zht (args:List PV):Nat→PV:=fun t=>(args[t]?).getD .undef
def ac0 (args:List PV) (S:Sto):Ac:=⟨zht (args.map PV.up),Fr.e::S⟩
structure zcS where
 nargs:Nat
 pre:SC
 d:Nat
 t0:Nat
 ops:List SOper
 post:SC
 res:List RX
 T:Nat
inductive Qn where
 | ret (v:PV)
 | no
 | ask (f:Nat) (args:List PV) (k:PV→Qn)
def Qn.ev (o:Nat→List PV→Option PV):Qn→Option PV
 | .ret v=>some v
 | .no=>none
 | .ask f args k=>match o f args with | some v=>(k v).ev o | none=>none
def zaR (cl:zi):Nat→List PV→Option PV:=fun f args=>match cl f args [] with | .ok (.v v) []=>some v | _=>none
inductive XF where
 | fn (g:List PV→Option PV)
 | rcv (r:zcS)
 | orc (q:List PV→Qn)
inductive SFn where
 | code (f:zh)
 | ext (g:List PV→Option PV)
 | rcv (r:zcS)
 | orc (q:List PV→Qn)
def ziD (r:zcS) (b:Prop):PV→Sto→CO
 | .iface t (.int k n),S=>if b∧t=r.T then (match storeP S 1 (.ptr 0 r.t0 0) (.int k n) with | some S=>retOf r.res ⟨upd (fun _=>.junk) r.t0 (.ptr 0 r.t0 0),S⟩ | none=>.bad) else .bad
 | _,_=>.bad
def zgC (res:List RX):EO→CO
 | .pan _ _=>.bad
 | r=>fin res r
def zgs (r:zcS) (b:Prop) (post:Ac→EO):EO→CO
 | .nor ac=>zgC r.res (post ac)
 | .pan v S=>ziD r b v S
 | _=>.bad
def zdH (r:zcS) (ops post:Ac→EO):EO→CO
 | .nor ac=>zgs r (ac.e r.t0=.ptr 0 r.t0 0) post (ops (ac.put (some r.d) .junk))
 | .pan _ _=>.bad
 | x=>fin r.res x
abbrev Prg:=Nat→Option SFn
def body (cl:zi) (n:Nat) (sf:SFn) (args:List PV) (S:Sto):CO :=
 match sf with
 | .code f=>if args.length=f.nargs then fin f.res (evC cl n f.code (ac0 args S)) else .bad
 | .ext g=>match g args with | some v=>.ok (.v v) S | none=>.bad
 | .rcv r=>if args.length=r.nargs then zdH r (zQ cl r.ops) (evC cl n r.post) (evC cl n r.pre (ac0 args S)) else .bad
 | .orc q=>match (q args).ev (zaR cl) with | some v=>.ok (.v v) S | none=>.bad
def run (SP:Prg):Nat→zi
 | 0=>fun _ _ _=>.bad
 | k+1=>fun f args S =>
  match SP f with
  | none=>.bad
  | some sf=>body (run SP k) k sf args S
def leO (c c':CO):Prop:=c=.bad∨c=c'
def leOO (c c':OO):Prop:=c=.bad∨c=c'
def leE (c c':EO):Prop:=c=.bad∨c=c'
def leCl (cl cl':zi):Prop:=∀ f as_ S,leO (cl f as_ S) (cl' f as_ S)
theorem leE.refl (r:EO):leE r r:=.inr rfl
theorem leOO.refl (r:OO):leOO r r:=.inr rfl
theorem leE.trans {a b c:EO} (h:leE a b) (h':leE b c):leE a c:=by
 rcases h with rfl | rfl
 ·exact .inl rfl
 exact h'
theorem zql {cl cl':zi} (h:leCl cl cl') (kd:Bool) (d:Option Nat) (f:PV) (args:List PV) (ac:Ac):leOO (callP cl kd d f args ac) (callP cl' kd d f args ac):=by
 unfold callP
 cases f <;> try exact .inr rfl
 rename_i f caps
 dsimp only
 cases handA ac.S (zW args caps) with
 | none=>exact .inr rfl
 | some p =>
  obtain⟨as_,S1⟩:=p
  dsimp only
  rcases h f as_ S1 with h | h
  ·rw[h];exact .inl rfl
  rw[h];exact .inr rfl
theorem zo5 {cl cl':zi} (h:leCl cl cl') (kd:Bool) (d:Option Nat) (op:SOp) (ac:Ac):leOO (ex cl kd d op ac) (ex cl' kd d op ac):=by
 cases op <;> try exact .inr rfl
 exact zql h _ _ _ _ _
theorem zfG {cl cl':zi} (h:leCl cl cl') (kd:Bool) (o:SOper) (ac:Ac):leOO (stp cl kd o ac) (stp cl' kd o ac):=by
 unfold stp
 cases o.guard with
 | none=>exact zo5 h _ _ _ _
 | some g =>
  obtain⟨g,want⟩:=g
  dsimp only
  cases ac.e g <;> try exact .inr rfl
  dsimp only
  split
  ·exact zo5 h _ _ _ _
  exact .inr rfl
theorem zci {cl cl':zi} (h:leCl cl cl'):∀ (l:List SOper) (ac:Ac),leE (zQ cl l ac) (zQ cl' l ac)
 | [],_=>.inr rfl
 | o::l,ac=>by
  simp only[zQ]
  rcases zfG h true o ac with hs | hs
  ·rw[hs];exact .inl rfl
  rw[hs]
  cases stp cl' true o ac with
  | ok ac'=>exact zci h l ac'
  | pan v S=>exact .inr rfl
  | bad=>exact .inr rfl
theorem zfA {cl cl':zi} (h:leCl cl cl'):∀ (l:List SOper) (tot:List Bool) (ac:Ac),leE (evD cl l tot ac) (evD cl' l tot ac)
 | [],_,_=>.inr rfl
 | o::l,tot,ac=>by
  simp only[evD]
  rcases zfG h false o ac with hs | hs
  ·rw[hs];exact .inl rfl
  rw[hs]
  cases stp cl' false o ac with
  | ok ac' =>
   dsimp only
   split
   ·exact zfA h l _ ac'
   exact .inr rfl
  | pan v S=>exact .inr rfl
  | bad=>exact .inr rfl
theorem zl8 {cl cl':zi} (h:leCl cl cl') (l:List SOper) (i:Nat) (ac:Ac):leOO (za6 cl l i ac) (za6 cl' l i ac):=by
 unfold za6
 cases l[i]? with
 | none=>exact .inl rfl
 | some o=>exact zfG h _ _ _
theorem zmU {K K':Ac→EO} (hK:∀ ac,leE (K ac) (K' ac)) {c c':OO} (h:leOO c c'):leE (nxT K c) (nxT K' c'):=by
 rcases h with rfl | rfl
 ·exact .inl rfl
 cases c with
 | ok ac=>exact hK ac
 | pan v S=>exact .inr rfl
 | bad=>exact .inr rfl
theorem znF {ds:List Nat} {a b:EO} (h:zjg ds a b):a≠.bad∧b≠.bad:=by
 cases a <;> cases b <;> first | exact h.elim | (constructor <;> (intro h;cases h))
mutual
theorem zhD {cl cl':zi} (h:leCl cl cl') (l:List SOper) (ds:List Nat):∀ (t:BT) (ac:Ac),leE (evT cl l ds t ac) (evT cl' l ds t ac)
 | .e,ac=>.inr rfl
 | .n i t r,ac=>by
  simp only[evT]
  have h1:=zmU (zhD h l ds t) (zl8 h l i ac)
  split
  ·rename_i hr
   rcases h1 with h1 | h1
   ·rw[h1];exact .inl rfl
   rw[h1] at hr ⊢
   rw[if_pos (zlS h l ds r ac _ hr)]
   exact .inr rfl
  exact .inl rfl
theorem zlS {cl cl':zi} (h:leCl cl cl') (l:List SOper) (ds:List Nat):∀ (r:BTs) (ac:Ac) (x:EO),evTs cl l ds r ac x→evTs cl' l ds r ac x
 | .e,ac,x,_=>by simp only[evTs]
 | .n i t r,ac,x,hx=>by
  simp only[evTs] at hx ⊢
  refine⟨?_,zlS h l ds r ac x hx.2⟩
  rcases zmU (zhD h l ds t) (zl8 h l i ac) with h1 | h1
  ·exact absurd h1 (znF hx.1).1
  rw[←h1];exact hx.1
end
theorem zC {cl cl':zi} (h:leCl cl cl'):∀ (n n':Nat) (c:SC) (ac:Ac),n≤n'→leE (evC cl n c ac) (evC cl' n' c ac)
 | n,n',.skip,ac,_=>by simp only[evC];exact .inr rfl
 | n,n',.reg ops,ac,_=>by simp only[evC];exact zci h _ _
 | n,n',.dreg ops tot,ac,_=>by simp only[evC];exact zfA h _ _ _
 | n,n',.sreg F ops tot,ac,_=>by simp only[evC];cases frzC F ac <;> first | exact .inr rfl | exact zfA h _ _ _
 | n,n',.treg ops ds T,ac,_=>by simp only[evC];exact zhD h _ _ _ _
 | n,n',.seq a b,ac,hn=>by
  simp only[evC]
  rcases zC h n n' a ac hn with ha | ha
  ·rw[ha];exact .inl rfl
  rw[ha]
  cases evC cl' n' a ac <;> try exact .inr rfl
  exact zC h n n' b _ hn
 | n,n',.cond x a b,ac,hn=>by
  simp only[evC]
  cases ac.ev x <;> try exact .inr rfl
  rename_i t
  cases t
  ·exact zC h n n' b _ hn
  exact zC h n n' a _ hn
 | n,n',.block id c,ac,hn=>by
  simp only[evC]
  rcases zC h n n' c ac hn with ha | ha
  ·rw[ha];exact .inl rfl
  rw[ha];exact .inr rfl
 | 0,n',.loop c,ac,hn=>by simp only[evC];exact .inl rfl
 | n+1,0,.loop c,ac,hn=>absurd hn (by omega)
 | n+1,n'+1,.loop c,ac,hn=>by
  simp only[evC]
  rcases zC h (n+1) (n'+1) c ac hn with ha | ha
  ·rw[ha];exact .inl rfl
  rw[ha]
  cases evC cl' (n'+1) c ac <;> try exact .inr rfl
  exact zC h n n' (.loop c) _ (by omega)
 | n,n',.exit id,ac,_=>by simp only[evC];exact .inr rfl
 | n,n',.ret,ac,_=>by simp only[evC];exact .inr rfl
termination_by n _ c=>(n,SizeOf.sizeOf c)
theorem zsS {res:List RX} {c c':EO} (h:leE c c'):leO (zgC res c) (zgC res c'):=by
 rcases h with rfl | rfl
 ·exact .inl rfl
 exact .inr rfl
theorem zsW {r:zcS} {b:Prop} {p p':Ac→EO} (hp:∀ ac,leE (p ac) (p' ac)) {c c':EO} (h:leE c c'):leO (zgs r b p c) (zgs r b p' c'):=by
 rcases h with rfl | rfl
 ·exact .inl rfl
 cases c <;> first | exact .inr rfl | exact zsS (hp _)
theorem zl0 {r:zcS} {o o' p p':Ac→EO} (ho:∀ ac,leE (o ac) (o' ac)) (hp:∀ ac,leE (p ac) (p' ac)) {c c':EO} (h:leE c c'):leO (zdH r o p c) (zdH r o' p' c'):=by
 rcases h with rfl | rfl
 ·exact .inl rfl
 cases c <;> first | exact .inr rfl | exact zsW hp (ho _)
theorem ziy {cl:zi} {f:Nat} {args:List PV} {v:PV} (h:zaR cl f args=some v):cl f args []=.ok (.v v) []:=by
 unfold zaR at h
 split at h
 ·rename_i u hu;cases h;exact hu
 cases h
theorem zfO {cl:zi} {f:Nat} {args:List PV} {v:PV} (h:cl f args []=.ok (.v v) []):zaR cl f args=some v:=by simp[zaR,h]
theorem zkl {cl cl':zi} (h:leCl cl cl') {f:Nat} {args:List PV} {v:PV} (hv:zaR cl f args=some v):zaR cl' f args=some v:=by
 have h1:=ziy hv
 rcases h f args [] with h2 | h2
 ·rw[h2] at h1;cases h1
 exact zfO (h2.symm.trans h1)
theorem zlh {cl cl':zi} (h:leCl cl cl'):∀ (q:Qn) (v:PV),q.ev (zaR cl)=some v→q.ev (zaR cl')=some v
 | .ret u,v,hv=>hv
 | .no,v,hv=>by cases hv
 | .ask f args k,v,hv=>by
  simp only[Qn.ev] at hv ⊢
  cases ho:zaR cl f args with
  | none=>rw[ho] at hv;cases hv
  | some u =>
   rw[ho] at hv
   rw[zkl h ho]
   exact zlh h (k u) v hv
theorem zsb {cl cl':zi} (h:leCl cl cl') {n n':Nat} (hn:n≤n') (sf:SFn) (args:List PV) (S:Sto):leO (body cl n sf args S) (body cl' n' sf args S):=by
 cases sf with
 | ext g=>exact .inr rfl
 | rcv r =>
  simp only[body]
  split
  ·exact zl0 (fun ac=>zci h _ _) (fun ac=>zC h n n' _ _ hn) (zC h n n' _ _ hn)
  exact .inr rfl
 | orc q =>
  simp only[body]
  cases hq:(q args).ev (zaR cl) with
  | none=>exact .inl rfl
  | some v=>rw[zlh h _ _ hq];exact .inr rfl
 | code f =>
  simp only[body]
  split
  ·rcases zC h n n' f.code (ac0 args S) hn with ha | ha
   ·rw[ha];exact .inl rfl
   rw[ha];exact .inr rfl
  exact .inr rfl
theorem zoh (SP:Prg):∀ k,leCl (run SP k) (run SP (k+1))
 | 0=>fun _ _ _=>.inl rfl
 | k+1=>fun f args S=>by
  simp only[run]
  cases SP f with
  | none=>exact .inr rfl
  | some sf=>exact zsb (zoh SP k) (Nat.le_succ k) sf args S
theorem zd3 (SP:Prg) {k k':Nat} (h:k≤k'):leCl (run SP k) (run SP k'):=by
 induction h with
 | refl=>exact fun _ _ _=>.inr rfl
 | step h ih =>
  intro f args S
  rcases ih f args S with h1 | h1
  ·exact .inl h1
  rw[h1];exact zoh SP _ f args S
def call (SP:Prg):zi:=fun f args S =>
 if h:∃ k,run SP k f args S≠.bad then run SP h.choose f args S else .bad
theorem zaQ (SP:Prg) (k:Nat):leCl (run SP k) (call SP):=by
 intro f args S
 by_cases hk:run SP k f args S=.bad
 ·exact .inl hk
 right
 have h:∃ k,run SP k f args S≠.bad:=⟨k,hk⟩
 unfold call
 rw[dif_pos h]
 rcases Nat.le_total k h.choose with hl | hl
 ·rcases zd3 SP hl f args S with h1 | h1
  ·exact absurd h1 hk
  exact h1
 rcases zd3 SP hl f args S with h1 | h1
 ·exact absurd h1 h.choose_spec
 exact h1.symm
theorem zel (SP:Prg) (f:Nat) (args:List PV) (S:Sto):∃ k,run SP k f args S=call SP f args S:=by
 by_cases h:∃ k,run SP k f args S≠.bad
 ·exact⟨h.choose,by unfold call;rw[dif_pos h]⟩
 exact⟨0,by unfold call;rw[dif_neg h];rfl⟩
def E (SP:Prg) (c:SC) (ac:Ac):EO :=
 if h:∃ n,evC (call SP) n c ac≠.bad then evC (call SP) h.choose c ac else .bad
theorem leCl.refl (cl:zi):leCl cl cl:=fun _ _ _=>.inr rfl
theorem zdn (SP:Prg) (n:Nat) (c:SC) (ac:Ac):leE (evC (call SP) n c ac) (E SP c ac):=by
 by_cases hk:evC (call SP) n c ac=.bad
 ·exact .inl hk
 right
 have h:∃ n,evC (call SP) n c ac≠.bad:=⟨n,hk⟩
 unfold E
 rw[dif_pos h]
 rcases Nat.le_total n h.choose with hl | hl
 ·rcases zC (leCl.refl _) _ _ c ac hl with h1 | h1
  ·exact absurd h1 hk
  exact h1
 rcases zC (leCl.refl _) _ _ c ac hl with h1 | h1
 ·exact absurd h1 h.choose_spec
 exact h1.symm
theorem zdl (SP:Prg) (c:SC) (ac:Ac):∃ n,evC (call SP) n c ac=E SP c ac:=by
 by_cases h:∃ n,evC (call SP) n c ac≠.bad
 ·exact⟨h.choose,by unfold E;rw[dif_pos h]⟩
 refine⟨0,?_⟩
 unfold E
 rw[dif_neg h]
 by_cases h0:evC (call SP) 0 c ac=.bad
 ·exact h0
 exact absurd ⟨0,h0⟩ h
theorem zef {SP:Prg} {c:SC} {ac:Ac} {r:EO} (h1:∀ n,leE (evC (call SP) n c ac) r) (h2:r=.bad∨∃ n,evC (call SP) n c ac=r):E SP c ac=r:=by
 rcases h2 with rfl | ⟨n,h2⟩
 ·obtain⟨n,hn⟩:=zdl SP c ac
  rcases h1 n with h | h
  ·exact hn.symm.trans h
  exact hn.symm.trans h
 rcases zdn SP n c ac with h | h
 ·rw[h] at h2
  subst h2
  obtain⟨m,hm⟩:=zdl SP c ac
  rcases h1 m with h' | h'
  ·exact hm.symm.trans h'
  exact hm.symm.trans h'
 exact h.symm.trans h2
theorem zzs (SP:Prg) (ac:Ac):E SP .skip ac=.nor ac:=zef (fun n=>by simp only[evC];exact .inr rfl) (.inr ⟨0,by simp only[evC]⟩)
theorem zz5 (SP:Prg) (ops:List SOper) (ac:Ac):E SP (.reg ops) ac=zQ (call SP) ops ac:=zef (fun n=>by simp only[evC];exact .inr rfl) (.inr ⟨0,by simp only[evC]⟩)
theorem zyN (SP:Prg) (ops:List SOper) (tot:List Bool) (ac:Ac):E SP (.dreg ops tot) ac=evD (call SP) ops tot (prep ops ac):=zef (fun n=>by simp only[evC];exact .inr rfl) (.inr ⟨0,by simp only[evC]⟩)
def thF (SP:Prg) (r:EO) (ops:List SOper) (tot:List Bool):EO :=
 match r with
 | .nor ac=>evD (call SP) ops tot (prep ops ac)
 | r=>r
theorem zx8 (SP:Prg) (F:List Nat) (ops:List SOper) (tot:List Bool) (ac:Ac):E SP (.sreg F ops tot) ac=thF SP (frzC F ac) ops tot:=zef (fun n=>by simp only[evC,thF];exact .inr rfl) (.inr ⟨0,by simp only[evC,thF]⟩)
theorem zzL (SP:Prg) (ops:List SOper) (ds:List Nat) (T:BT) (ac:Ac):E SP (.treg ops ds T) ac=evT (call SP) ops ds T (prep ops ac):=zef (fun n=>by simp only[evC];exact .inr rfl) (.inr ⟨0,by simp only[evC]⟩)
theorem zyr (SP:Prg) (id:Nat) (ac:Ac):E SP (.exit id) ac=.ext id ac:=zef (fun n=>by simp only[evC];exact .inr rfl) (.inr ⟨0,by simp only[evC]⟩)
theorem zAP (SP:Prg) (ac:Ac):E SP .ret ac=.ret ac:=zef (fun n=>by simp only[evC];exact .inr rfl) (.inr ⟨0,by simp only[evC]⟩)
def thC (SP:Prg) (r:EO) (c:SC):EO :=
 match r with
 | .nor ac=>E SP c ac
 | r=>r
theorem zAa (SP:Prg) (a b:SC) (ac:Ac):E SP (.seq a b) ac=thC SP (E SP a ac) b:=by
 obtain⟨n,hn⟩:=zdl SP a ac
 refine zef (fun m=>?_) ?_
 ·simp only[evC]
  rcases zdn SP m a ac with h | h
  ·rw[h];exact .inl rfl
  rw[h]
  cases hE:E SP a ac <;> try exact .inr rfl
  exact zdn SP m b _
 cases hE:E SP a ac with
 | nor ac' =>
  obtain⟨m,hm⟩:=zdl SP b ac'
  show E SP b ac'=.bad∨_
  by_cases hb:E SP b ac'=.bad
  ·exact .inl hb
  right
  refine⟨max n m,?_⟩
  simp only[evC]
  have h1:evC (call SP) (max n m) a ac=.nor ac':=by
   rcases zC (leCl.refl (call SP)) n (max n m) a ac (by omega) with h | h
   ·rw[hn,hE] at h;cases h
   rw[←h,hn,hE]
  rw[h1]
  rcases zC (leCl.refl (call SP)) m (max n m) b ac' (by omega) with h | h
  ·rw[hm] at h;exact absurd h hb
  show evC (call SP) (max n m) b ac'=_
  rw[←h,hm]
  rfl
 | bad=>exact .inl rfl
 | ext i ac'=>exact .inr ⟨n,by simp only[evC];rw[hn,hE];rfl⟩
 | ret ac'=>exact .inr ⟨n,by simp only[evC];rw[hn,hE];rfl⟩
 | pan v S=>exact .inr ⟨n,by simp only[evC];rw[hn,hE];rfl⟩
theorem zyB (SP:Prg) (x:X) (a b:SC) (ac:Ac) {t:Bool} (h:ac.ev x=.bool t):E SP (.cond x a b) ac=if t=true then E SP a ac else E SP b ac:=by
 cases t
 ·obtain⟨n,hn⟩:=zdl SP b ac
  refine zef (fun m=>?_) (.inr ⟨n,?_⟩)
  ·simp only[evC,h];exact zdn SP m b ac
  simp only[evC,h];exact hn
 obtain⟨n,hn⟩:=zdl SP a ac
 refine zef (fun m=>?_) (.inr ⟨n,?_⟩)
 ·simp only[evC,h];exact zdn SP m a ac
 simp only[evC,h];exact hn
theorem zxt (SP:Prg) (id:Nat) (c:SC) (ac:Ac):E SP (.block id c) ac=zx id (E SP c ac):=by
 obtain⟨n,hn⟩:=zdl SP c ac
 refine zef (fun m=>?_) (.inr ⟨n,?_⟩)
 ·simp only[evC]
  rcases zdn SP m c ac with h | h
  ·rw[h];exact .inl rfl
  rw[h];exact .inr rfl
 simp only[evC];rw[hn]
theorem zm (SP:Prg) (c:SC) (ac:Ac):E SP (.loop c) ac=thC SP (E SP c ac) (.loop c):=by
 obtain⟨n,hn⟩:=zdl SP c ac
 refine zef (fun m=>?_) ?_
 ·cases m with
  | zero=>simp only[evC];exact .inl rfl
  | succ m =>
   simp only[evC]
   rcases zdn SP (m+1) c ac with h | h
   ·rw[h];exact .inl rfl
   rw[h]
   cases hE:E SP c ac <;> try exact .inr rfl
   exact zdn SP m (.loop c) _
 cases hE:E SP c ac with
 | nor ac' =>
  obtain⟨m,hm⟩:=zdl SP (.loop c) ac'
  show E SP (.loop c) ac'=.bad∨_
  by_cases hb:E SP (.loop c) ac'=.bad
  ·exact .inl hb
  right
  refine⟨max n m+1,?_⟩
  simp only[evC]
  have h1:evC (call SP) (max n m+1) c ac=.nor ac':=by
   rcases zC (leCl.refl (call SP)) n (max n m+1) c ac (by omega) with h | h
   ·rw[hn,hE] at h;cases h
   rw[←h,hn,hE]
  rw[h1]
  rcases zC (leCl.refl (call SP)) m (max n m) (.loop c) ac' (by omega) with h | h
  ·rw[hm] at h;exact absurd h hb
  show evC (call SP) (max n m) (.loop c) ac'=_
  rw[←h,hm]
  rfl
 | bad=>exact .inl rfl
 | ext i ac'=>exact .inr ⟨n+1,by
   simp only[evC]
   rcases zC (leCl.refl (call SP)) n (n+1) c ac (by omega) with h | h
   ·rw[hn,hE] at h;cases h
   rw[←h,hn,hE];rfl⟩
 | ret ac'=>exact .inr ⟨n+1,by
   simp only[evC]
   rcases zC (leCl.refl (call SP)) n (n+1) c ac (by omega) with h | h
   ·rw[hn,hE] at h;cases h
   rw[←h,hn,hE];rfl⟩
 | pan v S=>exact .inr ⟨n+1,by
   simp only[evC]
   rcases zC (leCl.refl (call SP)) n (n+1) c ac (by omega) with h | h
   ·rw[hn,hE] at h;cases h
   rw[←h,hn,hE];rfl⟩
theorem zqj (SP:Prg) (kd:Bool) (d:Option Nat) (f:PV) (args:List PV) (ac:Ac):∃ k,callP (run SP k) kd d f args ac=callP (call SP) kd d f args ac:=by
 unfold callP
 cases f <;> try exact⟨0,rfl⟩
 rename_i f caps
 dsimp only
 cases handA ac.S (zW args caps) with
 | none=>exact⟨0,rfl⟩
 | some p =>
  obtain⟨as_,S1⟩:=p
  dsimp only
  obtain⟨k,hk⟩:=zel SP f as_ S1
  exact⟨k,by rw[hk]⟩
theorem zkb (SP:Prg) (kd:Bool) (o:SOper) (ac:Ac):∃ k,stp (run SP k) kd o ac=stp (call SP) kd o ac:=by
 have hex:∃ k,ex (run SP k) kd o.dst o.op ac=ex (call SP) kd o.dst o.op ac:=by
  cases o.op <;> try exact⟨0,rfl⟩
  exact zqj SP kd _ _ _ _
 unfold stp
 cases o.guard with
 | none=>exact hex
 | some g =>
  obtain⟨g,want⟩:=g
  dsimp only
  cases ac.e g <;> try exact⟨0,rfl⟩
  dsimp only
  split
  ·exact hex
  exact⟨0,rfl⟩
theorem znV {SP:Prg} {kd:Bool} {o:SOper} {ac:Ac} {k k':Nat} (h:stp (run SP k) kd o ac=stp (call SP) kd o ac) (hk:k≤k'):stp (run SP k') kd o ac=stp (call SP) kd o ac:=by
 rcases zfG (zd3 SP hk) kd o ac with h1 | h1
 ·rcases zfG (zaQ SP k') kd o ac with h2 | h2
  ·rw[h2,←h,h1]
  exact h2
 rw[←h1,h]
theorem zg1 (SP:Prg):∀ (l:List SOper) (ac:Ac),∃ k,zQ (run SP k) l ac=zQ (call SP) l ac
 | [],_=>⟨0,rfl⟩
 | o::l,ac=>by
  obtain⟨k,hk⟩:=zkb SP true o ac
  simp only[zQ]
  cases hs:stp (call SP) true o ac with
  | ok ac' =>
   obtain⟨m,hm⟩:=zg1 SP l ac'
   refine⟨max k m,?_⟩
   rw[znV hk (by omega),hs]
   dsimp only
   rcases zci (zd3 SP (show m≤max k m by omega)) l ac' with h | h
   ·rcases zci (zaQ SP (max k m)) l ac' with h2 | h2
    ·rw[h2,←hm,h]
    exact h2
   rw[←h,hm]
  | pan v S=>exact⟨k,by rw[hk,hs]⟩
  | bad=>exact⟨k,by rw[hk,hs]⟩
theorem zj8 (SP:Prg):∀ (l:List SOper) (tot:List Bool) (ac:Ac),∃ k,evD (run SP k) l tot ac=evD (call SP) l tot ac
 | [],_,_=>⟨0,rfl⟩
 | o::l,tot,ac=>by
  obtain⟨k,hk⟩:=zkb SP false o ac
  simp only[evD]
  cases hs:stp (call SP) false o ac with
  | ok ac' =>
   obtain⟨m,hm⟩:=zj8 SP l tot.tail ac'
   refine⟨max k m,?_⟩
   rw[znV hk (by omega),hs]
   dsimp only
   split
   ·rcases zfA (zd3 SP (show m≤max k m by omega)) l tot.tail ac' with h | h
    ·rcases zfA (zaQ SP (max k m)) l tot.tail ac' with h2 | h2
     ·rw[h2,←hm,h]
     exact h2
    rw[←h,hm]
   rfl
  | pan v S=>exact⟨k,by rw[hk,hs]⟩
  | bad=>exact⟨k,by rw[hk,hs]⟩
theorem zs1 (SP:Prg) (l:List SOper) (i:Nat) (ac:Ac):∃ k,za6 (run SP k) l i ac=za6 (call SP) l i ac:=by
 unfold za6
 cases l[i]? with
 | none=>exact⟨0,rfl⟩
 | some o=>exact zkb SP false o ac
theorem zoX {SP:Prg} {l:List SOper} {i:Nat} {ac:Ac} {k k':Nat} (h:za6 (run SP k) l i ac=za6 (call SP) l i ac) (hk:k≤k'):za6 (run SP k') l i ac=za6 (call SP) l i ac:=by
 unfold za6 at h ⊢
 cases hl:l[i]? with
 | none=>rfl
 | some o=>rw[hl] at h;exact znV h hk
theorem znD {SP:Prg} {l:List SOper} {ds:List Nat} {i:Nat} {ac:Ac} {t:BT} (ht:∀ ac,evT (call SP) l ds t ac≠.bad→∃ k,∀ k',k≤k'→evT (run SP k') l ds t ac=evT (call SP) l ds t ac) (hb:nxT (evT (call SP) l ds t) (za6 (call SP) l i ac)≠.bad) :
  ∃ k,∀ k',k≤k'→nxT (evT (run SP k') l ds t) (za6 (run SP k') l i ac)=nxT (evT (call SP) l ds t) (za6 (call SP) l i ac):=by
 obtain⟨k1,h1⟩:=zs1 SP l i ac
 cases hs:za6 (call SP) l i ac with
 | bad=>rw[hs] at hb;exact absurd rfl hb
 | pan v S=>exact⟨k1,fun k' hk=>by rw[zoX h1 hk,hs];rfl⟩
 | ok ac2 =>
  rw[hs] at hb
  obtain⟨k2,h2⟩:=ht ac2 hb
  exact⟨max k1 k2,fun k' hk=>by rw[zoX h1 (by omega),hs];exact h2 k' (by omega)⟩
mutual
theorem zjP (SP:Prg) (l:List SOper) (ds:List Nat):∀ (t:BT) (ac:Ac),evT (call SP) l ds t ac≠.bad→∃ k,∀ k',k≤k'→evT (run SP k') l ds t ac=evT (call SP) l ds t ac
 | .e,ac,_=>⟨0,fun _ _=>rfl⟩
 | .n i t r,ac,hb=>by
  simp only[evT] at hb ⊢
  by_cases hr:evTs (call SP) l ds r ac (nxT (evT (call SP) l ds t) (za6 (call SP) l i ac))
  ·rw[if_pos hr] at hb ⊢
   obtain⟨k1,h1⟩:=znD (zjP SP l ds t) hb
   obtain⟨k2,h2⟩:=zlV SP l ds r ac _ hr
   exact⟨max k1 k2,fun k' hk=>by rw[h1 k' (by omega),if_pos (h2 k' (by omega))]⟩
  rw[if_neg hr] at hb
  exact absurd rfl hb
theorem zlV (SP:Prg) (l:List SOper) (ds:List Nat):∀ (r:BTs) (ac:Ac) (x:EO),evTs (call SP) l ds r ac x→∃ k,∀ k',k≤k'→evTs (run SP k') l ds r ac x
 | .e,ac,x,_=>⟨0,fun _ _=>by simp only[evTs]⟩
 | .n i t r,ac,x,hx=>by
  simp only[evTs] at hx ⊢
  obtain⟨k1,h1⟩:=znD (zjP SP l ds t) (znF hx.1).1
  obtain⟨k2,h2⟩:=zlV SP l ds r ac x hx.2
  exact⟨max k1 k2,fun k' hk=>⟨by rw[h1 k' (by omega)];exact hx.1,h2 k' (by omega)⟩⟩
end
theorem zfw {SP:Prg} {n:Nat} {c:SC} {ac:Ac} {k k':Nat} (h:evC (run SP k) n c ac=evC (call SP) n c ac) (hk:k≤k'):evC (run SP k') n c ac=evC (call SP) n c ac:=by
 rcases zC (zd3 SP hk) n n c ac (Nat.le_refl n) with h1 | h1
 ·rcases zC (zaQ SP k') n n c ac (Nat.le_refl n) with h2 | h2
  ·rw[h2,←h,h1]
  exact h2
 rw[←h1,h]
theorem zbP (SP:Prg):∀ (n:Nat) (c:SC) (ac:Ac),∃ k,evC (run SP k) n c ac=evC (call SP) n c ac
 | n,.skip,ac=>⟨0,by simp only[evC]⟩
 | n,.reg ops,ac=>by simp only[evC];exact zg1 SP ops ac
 | n,.dreg ops tot,ac=>by simp only[evC];exact zj8 SP ops tot _
 | n,.sreg F ops tot,ac=>by
  simp only[evC]
  cases frzC F ac <;> first | exact⟨0,rfl⟩ | exact zj8 SP ops tot _
 | n,.treg ops ds T,ac=>by
  simp only[evC]
  by_cases hb:evT (call SP) ops ds T (prep ops ac)=.bad
  ·refine⟨0,?_⟩
   rcases zhD (zaQ SP 0) ops ds T (prep ops ac) with h | h
   ·rw[h,hb]
   exact h
  obtain⟨k,hk⟩:=zjP SP ops ds T (prep ops ac) hb
  exact⟨k,hk k (Nat.le_refl k)⟩
 | n,.seq a b,ac=>by
  obtain⟨k,hk⟩:=zbP SP n a ac
  simp only[evC]
  cases hs:evC (call SP) n a ac with
  | nor ac' =>
   obtain⟨m,hm⟩:=zbP SP n b ac'
   refine⟨max k m,?_⟩
   rw[zfw hk (by omega),hs]
   exact zfw hm (by omega)
  | ext i ac'=>exact⟨k,by rw[hk,hs]⟩
  | ret ac'=>exact⟨k,by rw[hk,hs]⟩
  | pan v S=>exact⟨k,by rw[hk,hs]⟩
  | bad=>exact⟨k,by rw[hk,hs]⟩
 | n,.cond x a b,ac=>by
  simp only[evC]
  cases ac.ev x <;> try exact⟨0,rfl⟩
  rename_i t
  cases t
  ·simpa using zbP SP n b ac
  simpa using zbP SP n a ac
 | n,.block id c,ac=>by
  obtain⟨k,hk⟩:=zbP SP n c ac
  exact⟨k,by simp only[evC];rw[hk]⟩
 | 0,.loop c,ac=>⟨0,by simp only[evC]⟩
 | n+1,.loop c,ac=>by
  obtain⟨k,hk⟩:=zbP SP (n+1) c ac
  simp only[evC]
  cases hs:evC (call SP) (n+1) c ac with
  | nor ac' =>
   obtain⟨m,hm⟩:=zbP SP n (.loop c) ac'
   refine⟨max k m,?_⟩
   rw[zfw hk (by omega),hs]
   exact zfw hm (by omega)
  | ext i ac'=>exact⟨k,by rw[hk,hs]⟩
  | ret ac'=>exact⟨k,by rw[hk,hs]⟩
  | pan v S=>exact⟨k,by rw[hk,hs]⟩
  | bad=>exact⟨k,by rw[hk,hs]⟩
 | n,.exit id,ac=>⟨0,by simp only[evC]⟩
 | n,.ret,ac=>⟨0,by simp only[evC]⟩
termination_by n c=>(n,SizeOf.sizeOf c)
theorem zd {SP:Prg} {f:Nat} {sf:zh} (hf:SP f=some (.code sf)) (args:List PV) (S:Sto) (hl:args.length=sf.nargs):call SP f args S=fin sf.res (E SP sf.code (ac0 args S)):=by
 obtain⟨n,hn⟩:=zdl SP sf.code (ac0 args S)
 obtain⟨k,hk⟩:=zbP SP n sf.code (ac0 args S)
 have h1:run SP (max n k+1) f args S=fin sf.res (evC (run SP (max n k)) (max n k) sf.code (ac0 args S)):=by
  simp only[run,hf,body,if_pos hl]
 by_cases hb:E SP sf.code (ac0 args S)=.bad
 ·rw[hb]
  obtain⟨m,hm⟩:=zel SP f args S
  cases m with
  | zero=>exact hm.symm
  | succ m =>
   rw[←hm]
   simp only[run,hf,body,if_pos hl]
   rcases zC (zaQ SP m) m m sf.code (ac0 args S) (Nat.le_refl m) with h | h
   ·rw[h]
   rw[h]
   rcases zdn SP m sf.code (ac0 args S) with h' | h'
   ·rw[h']
   rw[h',hb]
 have h2:evC (run SP (max n k)) (max n k) sf.code (ac0 args S)=E SP sf.code (ac0 args S):=by
  have h3:evC (run SP (max n k)) n sf.code (ac0 args S)=E SP sf.code (ac0 args S):=(zfw hk (by omega)).trans hn
  rcases zC (leCl.refl (run SP (max n k))) n (max n k) sf.code (ac0 args S) (by omega) with h | h
  ·rw[h3] at h;exact absurd h hb
  rw[←h,h3]
 rw[h2] at h1
 rcases zaQ SP (max n k+1) f args S with h | h
 ·rw[h1] at h
  obtain⟨m,hm⟩:=zel SP f args S
  rw[h]
  cases m with
  | zero=>exact hm.symm
  | succ m =>
   rw[←hm]
   simp only[run,hf,body,if_pos hl]
   rcases zC (zaQ SP m) m m sf.code (ac0 args S) (Nat.le_refl m) with h4 | h4
   ·rw[h4];rfl
   rw[h4]
   rcases zdn SP m sf.code (ac0 args S) with h' | h'
   ·rw[h'];rfl
   rw[h'];exact h
 rw[←h,h1]
theorem leO.trans {a b c:CO} (h:leO a b) (h':leO b c):leO a c:=by
 rcases h with rfl | rfl
 ·exact .inl rfl
 exact h'
theorem zj9 {SP:Prg} {f:Nat} {r:zcS} (hf:SP f=some (.rcv r)) (args:List PV) (S:Sto) (hl:args.length=r.nargs):call SP f args S=zdH r (zQ (call SP) r.ops) (E SP r.post) (E SP r.pre (ac0 args S)):=by
 have step:∀ k,run SP (k+1) f args S=zdH r (zQ (run SP k) r.ops) (evC (run SP k) k r.post) (evC (run SP k) k r.pre (ac0 args S)):=fun k=>by simp only[run,hf,body,if_pos hl]
 have up:∀ k,leO (run SP (k+1) f args S) (zdH r (zQ (call SP) r.ops) (E SP r.post) (E SP r.pre (ac0 args S))):=fun k=>by
  rw[step]
  exact zl0 (fun ac=>zci (zaQ SP k) _ _) (fun ac=>(zC (zaQ SP k) k k _ _ (Nat.le_refl k)).trans (zdn SP k _ _)) ((zC (zaQ SP k) k k _ _ (Nat.le_refl k)).trans (zdn SP k _ _))
 have le:leO (call SP f args S) (zdH r (zQ (call SP) r.ops) (E SP r.post) (E SP r.pre (ac0 args S))):=by
  obtain⟨m,hm⟩:=zel SP f args S
  rw[←hm]
  cases m with
  | zero=>exact .inl rfl
  | succ m=>exact up m
 rcases le with hb | h
 ·rw[hb]
  obtain⟨n1,e1⟩:=zdl SP r.pre (ac0 args S)
  obtain⟨k1,c1⟩:=zbP SP n1 r.pre (ac0 args S)
  have full:∀ k,max n1 k1≤k→E SP r.pre (ac0 args S)≠.bad→evC (run SP k) k r.pre (ac0 args S)=E SP r.pre (ac0 args S):=by
   intro k hk hne
   have h1:evC (run SP k) n1 r.pre (ac0 args S)=E SP r.pre (ac0 args S):=(zfw c1 (by omega)).trans e1
   rcases zC (leCl.refl (run SP k)) n1 k r.pre (ac0 args S) (by omega) with h | h
   ·rw[h1] at h;exact absurd h hne
   rw[←h,h1]
  have dn:∀ k,run SP (k+1) f args S=.bad:=fun k=>by
   rcases zaQ SP (k+1) f args S with h | h
   ·exact h
   rw[h,hb]
  cases he:E SP r.pre (ac0 args S) with
  | bad=>rfl
  | ext i ac=>rfl
  | pan v S'=>rfl
  | ret ac =>
   have:=dn (max n1 k1)
   rw[step,full _ (Nat.le_refl _) (by rw[he];exact fun h=>by cases h),he] at this
   exact this.symm
  | nor ac =>
   obtain⟨k2,c2⟩:=zg1 SP r.ops (ac.put (some r.d) .junk)
   have fullO:∀ k,k2≤k→zQ (call SP) r.ops (ac.put (some r.d) .junk)≠.bad→zQ (run SP k) r.ops (ac.put (some r.d) .junk)=zQ (call SP) r.ops (ac.put (some r.d) .junk):=by
    intro k hk hne
    rcases zci (zd3 SP hk) r.ops (ac.put (some r.d) .junk) with h | h
    ·rw[c2] at h;exact absurd h hne
    rw[←h,c2]
   show CO.bad=zgs r (ac.e r.t0=.ptr 0 r.t0 0) (E SP r.post) (zQ (call SP) r.ops (ac.put (some r.d) .junk))
   cases ho:zQ (call SP) r.ops (ac.put (some r.d) .junk) with
   | bad=>rfl
   | ext i ac2=>rfl
   | ret ac2=>rfl
   | pan v S' =>
    have:=dn (max (max n1 k1) k2)
    rw[step,full _ (by omega) (by rw[he];exact fun h=>by cases h),he] at this
    have h2:zdH r (zQ (run SP (max (max n1 k1) k2)) r.ops) (evC (run SP (max (max n1 k1) k2)) (max (max n1 k1) k2) r.post) (.nor ac)=zgs r (ac.e r.t0=.ptr 0 r.t0 0) (evC (run SP (max (max n1 k1) k2)) (max (max n1 k1) k2) r.post) (zQ (run SP (max (max n1 k1) k2)) r.ops (ac.put (some r.d) .junk)):=rfl
    rw[h2,fullO _ (by omega) (by rw[ho];exact fun h=>by cases h),ho] at this
    exact this.symm
   | nor ac2 =>
    obtain⟨n3,e3⟩:=zdl SP r.post ac2
    obtain⟨k3,c3⟩:=zbP SP n3 r.post ac2
    have full3:∀ k,max n3 k3≤k→E SP r.post ac2≠.bad→evC (run SP k) k r.post ac2=E SP r.post ac2:=by
     intro k hk hne
     have h1:evC (run SP k) n3 r.post ac2=E SP r.post ac2:=(zfw c3 (by omega)).trans e3
     rcases zC (leCl.refl (run SP k)) n3 k r.post ac2 (by omega) with h | h
     ·rw[h1] at h;exact absurd h hne
     rw[←h,h1]
    show CO.bad=zgC r.res (E SP r.post ac2)
    by_cases h3:E SP r.post ac2=.bad
    ·rw[h3];rfl
    have:=dn (max (max (max n1 k1) k2) (max n3 k3))
    rw[step,full _ (by omega) (by rw[he];exact fun h=>by cases h),he] at this
    have h2:∀ k,zdH r (zQ (run SP k) r.ops) (evC (run SP k) k r.post) (.nor ac)=zgs r (ac.e r.t0=.ptr 0 r.t0 0) (evC (run SP k) k r.post) (zQ (run SP k) r.ops (ac.put (some r.d) .junk)):=fun _=>rfl
    rw[h2,fullO _ (by omega) (by rw[ho];exact fun h=>by cases h),ho] at this
    have h4:∀ k,zgs r (ac.e r.t0=.ptr 0 r.t0 0) (evC (run SP k) k r.post) (.nor ac2)=zgC r.res (evC (run SP k) k r.post ac2):=fun _=>rfl
    rw[h4,full3 _ (by omega) h3] at this
    exact this.symm
 exact h
theorem zpM (SP:Prg):∀ (q:Qn) (v:PV),q.ev (zaR (call SP))=some v→∃ k,q.ev (zaR (run SP k))=some v
 | .ret u,v,hv=>⟨0,hv⟩
 | .no,v,hv=>by cases hv
 | .ask f args c,v,hv=>by
  simp only[Qn.ev] at hv ⊢
  cases ho:zaR (call SP) f args with
  | none=>rw[ho] at hv;cases hv
  | some u =>
   rw[ho] at hv
   obtain⟨k2,h2⟩:=zpM SP (c u) v hv
   obtain⟨k1,h1⟩:=zel SP f args []
   rw[ziy ho] at h1
   refine⟨max k1 k2,?_⟩
   rw[zkl (zd3 SP (Nat.le_max_left k1 k2)) (zfO h1)]
   exact zlh (zd3 SP (Nat.le_max_right k1 k2)) _ _ h2
theorem ztY {SP:Prg} {f:Nat} {q:List PV→Qn} (hf:SP f=some (.orc q)) {args:List PV} {v:PV} (S:Sto) (hq:(q args).ev (zaR (call SP))=some v):call SP f args S=.ok (.v v) S:=by
 obtain⟨k,hk⟩:=zpM SP (q args) v hq
 rcases zaQ SP (k+1) f args S with h | h
 ·simp[run,hf,body,hk] at h
 rw[←h];simp[run,hf,body,hk]
theorem zcm {SP:Prg} {f:Nat} {g:List PV→Option PV} (hf:SP f=some (.ext g)) {args:List PV} {v:PV} (S:Sto) (hg:g args=some v):call SP f args S=.ok (.v v) S:=by
 rcases zaQ SP 1 f args S with h | h
 ·simp[run,hf,body,hg] at h
 rw[←h];simp[run,hf,body,hg]
end
end Go.Proofs.YtfbcnpbhhooapaaGreatDoor.M
namespace Go.Proofs.YtfbcnpbhhooapaaGreatDoor.M
open Go
def kOf (P:Program) (t:TypeId):Option (Option Nat) :=
 match P.underlying t with
 | some (.struct _)=>some (some (P.cellsOf t))
 | some (.array _ _) | none=>none
 | some _=>if P.cellsOf t=1 then some none else none
def zta (P:Program) (t:TypeId):Option Nat :=
 match P.underlying t with
 | some (.slice e)=>some (P.cellsOf e)
 | _=>none
def cV (P:Program) (t:TypeId):Value→Option PV
 | .bool b=>some (.bool b)
 | .int k n=>some (.int k n)
 | .string s=>some (.str s.data.toList)
 | .slice none 0 0=>some (.nils ((zta P t).getD 0))
 | .nilIface=>some .nile
 | .nilFunc=>some .nili
 | .pointer none=>some .nili
 | _=>none
def cVA (P:Program) (t:TypeId):Value→Option PV
 | .agg cs =>
  match P.cellTypes P.depth t with
  | some ts=>if ts.length=cs.size then ((cs.toList.zip ts).mapM fun (x:Value × TypeId)=>cV P x.2 x.1).map .agg else none
  | none=>none
 | _=>none
def cX (P:Program) (t:TypeId):Operand→Option X
 | .tmp n=>some (.t n)
 | .const v=>match cV P t v with | some p=>some (.c p) | none=>(cVA P t v).map .c
 | .func f=>some (.c (.func f []))
 | .global _=>none
def cZ (P:Program) (t:TypeId):Option (List PV) :=
 match (P.info? t).bind (·.zero),P.cellTypes P.depth t with
 | some v,some ts=>if ts.length=v.cells.size∧v.cells.size=P.cellsOf t then (v.cells.toList.zip ts).mapM fun (v,t)=>cV P t v else none
 | _,_=>none
def cVJ (P:Program) (t:TypeId) (v:Value):PV:=(cV P t v).getD .junk
def cZJ (P:Program) (t:TypeId):Option (List PV) :=
 match (P.info? t).bind (·.zero),P.cellTypes P.depth t with
 | some v,some ts=>if ts.length=v.cells.size∧v.cells.size=P.cellsOf t then some ((v.cells.toList.zip ts).map fun (v,t)=>cVJ P t v) else none
 | _,_=>none
def cXs (P:Program):List Operand→List TypeId→Option (List X)
 | [],_=>some []
 | x::xs,ts =>
  match cX P (ts.headD 0) x,cXs P xs ts.tail with
  | some x,some xs=>some (x::xs)
  | _,_=>none
def zgY (P:Program) (fs:Array Field):List (Nat × Operand)→Option (List (Nat × Nat × X))
 | []=>some []
 | (i,x)::r =>
  match fs[i]? with
  | some f =>
   match cX P f.type x,zgY P fs r with
   | some x,some r=>some ((f.offset,P.cellsOf f.type,x)::r)
   | _,_=>none
  | none=>none
def zhC (P:Program) (e:TypeId):List (Nat × Operand)→Option (List (Nat × X))
 | []=>some []
 | (i,x)::r =>
  match cX P e x,zhC P e r with
  | some x,some r=>some ((i,x)::r)
  | _,_=>none
def zj3 (P:Program):Option Operand→Option (Option X)
 | none=>some none
 | some x=>(cX P 0 x).map some
def zmO (P:Program) (t:TypeId):Option FK :=
 match P.underlying t with
 | some .bool=>some .b
 | some (.int _)=>some .i
 | some .string=>some .s
 | _=>none
def zkj (P:Program):Nat→List Field→Option (List FK)
 | _,[]=>some []
 | i,f::fs =>
  if f.offset=i∧f.name ≠ "_" then
   match zmO P f.type,zkj P (i+1) fs with
   | some k,some ks=>some (k::ks)
   | _,_=>none
  else none
def zqc (P:Program) (t:TypeId) (fs:Array Field):Option (List FK):=if P.stoodInHeld t=false∧P.eqGuardType P.depth t=false∧P.cellsOf t=fs.size then zkj P 0 fs.toList else none
def zfo:Operand→Bool
 | .const .nilIface=>true
 | _=>false
def zck:Operand→Bool
 | .const (.slice none 0 0)=>true
 | _=>false
def zdq (P:Program) (c:Call):Option SOp :=
 match c.callee with
 | .value f =>
  match cX P 0 f,cXs P c.args.toList c.argTypes.toList with
  | some f,some xs=>some (.call f xs)
  | _,_=>none
 | .builtin .len =>
  match c.args.toList,c.argTypes.toList with
  | [x],[t] =>
   match P.underlying t,cX P t x with
   | some .string,some x=>some (.v (.len true x))
   | some (.slice _),some x=>some (.v (.len false x))
   | _,_=>none
  | _,_=>none
 | .builtin .append =>
  match c.args.toList,c.argTypes.toList with
  | [x,y],[t,u] =>
   match P.underlying t,P.underlying u,cX P t x,cX P u y with
   | some (.slice e),some .string,some x,some y | some (.slice e),some (.slice _),some x,some y=>if P.cellsOf e≠0∧(cZ P e).isSome then some (.append (P.cellsOf e) (P.bytesOf e) x y) else none
   | _,_,_,_=>none
  | _,_=>none
 | .builtin .min =>
  match c.args.toList with
  | [x,y]=>match cX P 0 x,cX P 0 y with | some x,some y=>some (.v (.mm false x y)) | _,_=>none
  | _=>none
 | .builtin .max =>
  match c.args.toList with
  | [x,y]=>match cX P 0 x,cX P 0 y with | some x,some y=>some (.v (.mm true x y)) | _,_=>none
  | _=>none
 | _=>none
def cOp (P:Program) (o:Oper):Option SOp :=
 match o.op with
 | .move x=>(cX P o.type x).map fun x=>.v (.mov x)
 | .assign x=>if zck x then (zta P o.type).map .nilv else (cX P o.type x).map fun x=>.v (.mov x)
 | .pick c a b=>match cX P 0 c,cX P o.type a,cX P o.type b with | some c,some a,some b=>some (.v (.pick c a b)) | _,_,_=>none
 | .alloc t=>(cZ P t).map .alloc
 | .box _ x=>(cX P 0 x).map .box
 | .build t parts =>
  match P.underlying t,cZJ P t with
  | some (.struct fs),some z=>if fs.toList.all (fun f=>(P.info? f.type).isSome) then (zgY P fs parts.toList).map fun ps=>.v (.build z ps) else none
  | _,_=>none
 | .buildSlice t n parts =>
  match P.underlying t with
  | some (.slice e)=>if n*P.cellsOf e≤2 ^ 24∧P.cellsOf e≠0∧(n=0→parts.toList=[]) then match cZ P e,zhC P e parts.toList with | some z,some ps=>some (.bslice (P.cellsOf e) n z ps) | _,_=>none else none
  | _=>none
 | .load t x=>match kOf P t,cX P 0 x with | some k,some x=>some (.v (.load k x)) | _,_=>none
 | .store t x v=>match kOf P t,cX P 0 x,cX P t v with | some k,some x,some v=>some (.store (k.getD 1) x v) | _,_,_=>none
 | .nilCheck x=>(cX P 0 x).map fun x=>.v (.nchk x)
 | .binOp op t x y u =>
  match cX P t x,cX P u y with
  | some x',some y' =>
   match op,P.underlying t with
   | .eql,some (.struct fs)=>(zqc P t fs).map fun ks=>.v (.eqs false ks x' y')
   | .neq,some (.struct fs)=>(zqc P t fs).map fun ks=>.v (.eqs true ks x' y')
   | .eql,some .bool=>some (.v (.binb false x' y'))
   | .neq,some .bool=>some (.v (.binb true x' y'))
   | .eql,some (.slice _)=>if zck y then some (.v (.isnil false x')) else none
   | .neq,some (.slice _)=>if zck y then some (.v (.isnil true x')) else none
   | .eql,some (.interface _)=>if zfo y then some (.v (.isnile false x')) else none
   | .neq,some (.interface _)=>if zfo y then some (.v (.isnile true x')) else none
   | op,some _=>some (.v (.bin op x' y'))
   | _,none=>none
  | _,_=>none
 | .unOp op _ x=>(cX P 0 x).map fun x=>.v (.un op x)
 | .convert s t x =>
  match P.underlying s,P.underlying t,cX P s x with
  | some (.int _),some (.int k),some x=>some (.v (.conv (.int k) x))
  | some (.int _),some .string,some x=>some (.v (.conv .chr x))
  | some .string,some .string,some x=>some (.v (.conv .id x))
  | some (.slice e),some .string,some x=>match P.underlying e with | some (.int .u8)=>some (.v (.conv .bytes x)) | _=>none
  | _,_,_=>none
 | .makeInterface t x =>
  match P.underlying t with
  | some (.interface _) | none=>none
  | some _=>(cX P t x).map fun x=>.v (.mkif t x)
 | .makeFunc fn first caps =>
  match fn,first.toList with
  | .func f,[]=>(cXs P caps.toList []).map fun cs=>.v (.func f cs)
  | .func f,x::r=>match caps.toList with | []=>(cXs P (x::r) []).map fun cs=>.v (.meth f cs) | _=>none
  | _,_=>none
 | .slice t x lo hi mx =>
  match P.underlying t,cX P t x,zj3 P lo,zj3 P hi,zj3 P mx with
  | some .string,some x,some lo,some hi,some none=>some (.v (.sls x lo hi))
  | some (.slice e),some x,some lo,some hi,some mx=>if (P.info? e).isSome then some (.v (.slc (P.cellsOf e) x lo hi mx)) else none
  | _,_,_,_,_=>none
 | .fieldAddr t x f =>
  match P.underlying t with
  | some (.struct fs)=>match fs[f]?,cX P 0 x with | some f,some x=>if P.cellsOf f.type=0 then none else if (P.info? f.type).isSome then some (.v (.faddr f.offset x)) else none | _,_=>none
  | _=>none
 | .field t x f =>
  match P.underlying t with
  | some (.struct fs) =>
   match fs[f]? with
   | some f=>match kOf P f.type,cX P 0 x with | some k,some x=>some (.v (.field f.offset k x)) | _,_=>none
   | none=>none
  | _=>none
 | .indexAddr t x i =>
  match P.underlying t with
  | some (.slice e)=>match cX P t x,cX P 0 i with | some x,some i=>if (P.info? e).isSome then some (.v (.iaddr (P.cellsOf e) x i)) else none | _,_=>none
  | _=>none
 | .index t x i =>
  match P.underlying t with
  | some .string=>match cX P t x,cX P 0 i with | some x,some i=>some (.v (.istr x i)) | _,_=>none
  | _=>none
 | .extract x i=>(cX P 0 x).map fun x=>.v (.extract i x)
 | .call c=>zdq P c
 | .panic x=>(cX P 0 x).map .panic
 | _=>none
def zgf (P:Program) (n:Nat) (ops:Array Oper) (o:Oper):Option SOper :=
 match cOp P o with
 | none=>none
 | some op =>
  if o.dst.all (· < n) then
   match o.guard with
   | none=>some ⟨o.dst,none,op⟩
   | some (j,b)=>match (ops[j]?).bind (·.dst) with | some d=>some ⟨o.dst,some (d,b),op⟩ | none=>none
  else none
def zbg (P:Program) (n:Nat) (ops:Array Oper):List Oper→Option (List SOper)
 | []=>some []
 | o::l =>
  match zgf P n ops o,zbg P n ops l with
  | some o,some l=>some (o::l)
  | _,_=>none
def SOp.inert:SOp→Bool
 | .v (.mov _) | .v (.pick _ _ _) | .v (.bin _ _ _) | .v (.binb _ _ _) | .v (.eqs _ _ _ _) | .v (.un _ _) | .v (.conv (.int _) _) | .v (.conv .chr _) | .v (.conv .id _) | .v (.mkif _ _) | .v (.func _ _) | .v (.build _ _)
 | .v (.nchk _) | .v (.field _ _ _) | .v (.istr _ _) | .v (.sls _ _ _) | .v (.extract _ _) | .v (.mm _ _ _) | .v (.isnil _ _) | .v (.isnile _ _) | .v (.meth _ _) | .w _=>true
 | _=>false
def zhi (b:Array Nat) (i j:Nat):Bool:=(b.getD (max i j) 0).testBit (min i j)
def X.tm:X→List Nat
 | .t n=>[n]
 | .c _=>[]
def tmO:Option X→List Nat
 | some x=>x.tm
 | none=>[]
def VO.tm:VO→List Nat
 | .mov x | .un _ x | .conv _ x | .mkif _ x | .load _ x | .nchk x | .faddr _ x | .field _ _ x | .extract _ x | .len _ x | .isnil _ x | .isnile _ x=>x.tm
 | .pick c a b=>c.tm++(a.tm++b.tm)
 | .bin _ x y | .binb _ x y | .eqs _ _ x y | .iaddr _ x y | .istr x y | .mm _ x y=>x.tm++y.tm
 | .func _ caps | .meth _ caps=>caps.flatMap X.tm
 | .build _ parts=>parts.flatMap fun p=>p.2.2.tm
 | .slc _ x lo hi mx=>x.tm++(tmO lo++(tmO hi++tmO mx))
 | .sls x lo hi=>x.tm++(tmO lo++tmO hi)
def SOp.tm:SOp→List Nat
 | .v o | .w o=>o.tm
 | .nilv _ | .alloc _=>[]
 | .box x | .panic x=>x.tm
 | .bslice _ _ _ parts=>parts.flatMap fun p=>p.2.tm
 | .store _ x y | .append _ _ x y=>x.tm++y.tm
 | .call f args=>f.tm++args.flatMap X.tm
def SOper.looks (o:SOper):List Nat :=
 match o.guard with
 | some (g,_)=>g::o.op.tm
 | none=>o.op.tm
def zgv (b:Array Nat) (l:List SOper) (i:Nat):Bool:=(l.zipIdx).all fun p=>p.2==i || p.1.op.inert || zhi b i p.2
def zwB (b:Array Nat) (l:List SOper):Bool:=(l.zipIdx).all fun p=>p.1.looks.all fun t=>(l.zipIdx).all fun q=>q.2==p.2 || q.1.dst != some t || zhi b p.2 q.2
def zkE (ops:Array Oper):Bool:=(ops.toList.zipIdx).all fun p=>p.1.after.toList.all fun e=>!Region.binds .any e || decide (e.on < p.2)
def zqC (l:List SOper):Bool:=(l.zipIdx).all fun p=>(l.zipIdx).all fun q=>q.2==p.2 || p.1.dst.isNone || q.1.dst != p.1.dst
def zkf (ops:Array Oper) (l:List SOper) (b:Array Nat):Bool:=zqC l && (zwB b l && zkE ops)
def zaK (o:SOper):SOper :=
 match o.op with
 | .v v=>if o.op.inert then o else { o with op:=.w v }
 | _=>o
def SOp.grows:SOp→Bool
 | .append _ _ _ _ | .store _ _ _ | .nilv _ | .box _=>true
 | _=>false
def zzc (b:Array Nat) (l:List SOper):Bool:=(l.zipIdx).any fun p=>p.1.op.grows && !zgv b l p.2
def zvp:List SOper→List Nat
 | []=>[]
 | o::l =>
  let r:=zvp l
  match o.op with
  | .v v=>if o.op.inert then (if o.dst.any r.contains then v.tm++r else r) else v.tm++r
  | _=>r
def zvr (l:List SOper):List Nat:=(zvp l).eraseDups.filter fun t=>l.all fun o=>o.dst != some t
def zww (P:Program) (o:Oper):Bool :=
 match o.op with
 | .call c=>match c.callee with
  | .value (.func _)=>c.argTypes.toList.any fun t=>match P.underlying t with | some (.pointer _)=>true | _=>false
  | _=>false
 | _=>false
def zk1 (b:Array Nat) (rem:List Nat):List Nat:=rem.filter fun i=>rem.all fun j=>!(b.getD i 0).testBit j
def zcv (b:Array Nat):Nat→List Nat→BT
 | 0,_=>.e
 | f+1,rem =>
  match zk1 b rem with
  | []=>.e
  | i::is=>.n i (zcv b f (rem.erase i)) (is.foldr (fun j r=>.n j (zcv b f (rem.erase j)) r) .e)
def zeU (l:List SOper):List Nat:=l.filterMap (·.dst)
def zyM (P:Program) (b:Array Nat) (ops:Array Oper) (l:List SOper):Bool:=(ops.toList.zipIdx).any fun p=>zww P p.1 && !zgv b l p.2
def zaj (P:Program) (n:Nat):Code→Option SC
 | .skip=>some .skip
 | .region _ ops false=>(zbg P n ops ops.toList).map .reg
 | .region _ ops true =>
  match zbg P n ops ops.toList with
  | some l =>
   let b:=CheckFast.beforeF ops
   if zyM P b ops l then (if zkE ops && zqC l then some (.treg l (zeU l) (zcv b l.length (List.range l.length))) else none)
   else if zzc b l then
    if zkf ops (l.map zaK) b then some (.sreg (zvr l) (l.map zaK) ((List.range (l.map zaK).length).map (zgv b (l.map zaK)))) else none
   else if zkf ops l b then some (.dreg l ((List.range l.length).map (zgv b l))) else none
  | none=>none
 | .seq a b=>match zaj P n a,zaj P n b with | some a,some b=>some (.seq a b) | _,_=>none
 | .cond x a b=>match cX P 0 x,zaj P n a,zaj P n b with | some x,some a,some b=>some (.cond x a b) | _,_,_=>none
 | .block id c=>(zaj P n c).map (.block id)
 | .loop c=>(zaj P n c).map .loop
 | .exit id=>some (.exit id)
 | .ret=>some .ret
 | _=>none
def zgt (P:Program) (n:Nat):List ResultVar→Option (List RX)
 | []=>some []
 | .tmp t::r=>if t < n then (zgt P n r).map (.t t::·) else none
 | .cell a t::r=>match kOf P t,zgt P n r with | some k,some r=>if a < n then some (.cell a k::r) else none | _,_=>none
def comp (P:Program) (fn:Func):Option zh :=
 match fn.body with
 | some c =>
  match zaj P fn.ntmps c,zgt P fn.ntmps fn.results.toList with
  | some c,some r=>if fn.params.size+fn.nfree≤fn.ntmps∧fn.name ≠ "runtime.NumGoroutine" then some ⟨fn.params.size+fn.nfree,fn.ntmps,c,r⟩ else none
  | _,_=>none
 | none=>none
end Go.Proofs.YtfbcnpbhhooapaaGreatDoor.M
namespace Go.Proofs.YtfbcnpbhhooapaaGreatDoor.M
open Go Classical
noncomputable section
def XF.sfn:XF→SFn
 | .fn g=>.ext g
 | .rcv r=>.rcv r
 | .orc q=>.orc q
def zfF (P:Program) (x:Nat→Option XF):Prg:=fun f =>
 match x f with
 | some g=>some g.sfn
 | none=>((P.funcs[f]?).bind (comp P)).map .code
theorem ze {P:Program} {x:Nat→Option XF} {f:Nat} {fn:Func} {sf:zh} (hx:x f=none) (hf:P.funcs[f]?=some fn) (hc:comp P fn=some sf):zfF P x f=some (.code sf):=by
 simp[zfF,hx,hf,hc]
def cnd (SP:Prg) (v:PV) (a b:SC) (ac:Ac):EO :=
 match v with
 | .bool t=>if t=true then E SP a ac else E SP b ac
 | _=>.bad
theorem zAH (SP:Prg) (x:X) (a b:SC) (ac:Ac):E SP (.cond x a b) ac=cnd SP (ac.ev x) a b ac:=by
 cases h:ac.ev x <;> first
  | exact zyB SP x a b ac h
  | (refine zef (fun n=>?_) (.inl rfl);simp only[evC,h];exact .inl rfl)
section
variable {SP:Prg} {a b:SC} {ac:Ac}
theorem zu7:cnd SP (.bool true) a b ac=E SP a ac:=rfl
theorem zr5:cnd SP (.bool false) a b ac=E SP b ac:=rfl
theorem zxh {p:Prop} [Decidable p]:cnd SP (.bool (decide p)) a b ac=if p then E SP a ac else E SP b ac:=by simp[cnd]
theorem zw6 {p:Prop} [Decidable p]:cnd SP (.bool (!decide p)) a b ac=if p then E SP b ac else E SP a ac:=by
 by_cases h:p <;> simp[cnd,h]
theorem zAD {t:Bool}:cnd SP (.bool t) a b ac=if t=true then E SP a ac else E SP b ac:=rfl
theorem zwl:thC SP (.nor ac) a=E SP a ac:=rfl
theorem zxE:thC SP (.ret ac) a=.ret ac:=rfl
theorem zwJ {i:Nat}:thC SP (.ext i ac) a=.ext i ac:=rfl
theorem zxj {v:PV} {S:Sto}:thC SP (.pan v S) a=.pan v S:=rfl
theorem zrc {i id:Nat}:zx id (.ext i ac)=if i=id then .nor ac else .ext i ac:=rfl
theorem zst {id:Nat}:zx id (.nor ac)=.nor ac:=rfl
theorem zrJ {id:Nat}:zx id (.ret ac)=.ret ac:=rfl
theorem zrR {id:Nat} {v:PV} {S:Sto}:zx id (.pan v S)=.pan v S:=rfl
variable {cl:zi} {o:SOper} {l:List SOper} {r:OO} {tot:List Bool} {S:Sto}
theorem zrH:zQ cl [] ac=.nor ac:=rfl
theorem zu3:zmE cl (.ok ac) l=zQ cl l ac:=rfl
theorem ztf {v:PV}:zmE cl (.pan v S) l=.pan v S:=rfl
theorem zxJ:evD cl [] tot ac=.nor ac:=rfl
theorem zuU {ac':Ac} (h:ac'.S=S):thD cl S (.ok ac') l tot=evD cl l tot.tail ac':=by simp[thD,h]
theorem zxK {ac':Ac} {tot:List Bool}:thD cl S (.ok ac') l (true::tot)=evD cl l tot ac':=by simp[thD]
theorem znd {α:Type} (f:Nat→α) (i:Nat) (v:α):upd f i v i=v:=if_pos rfl
theorem zsL {α:Type} (f:Nat→α) {i j:Nat} (v:α) (h:j≠i):upd f i v j=f j:=if_neg h
theorem zrl {α:Type} (f:AK→α) (i:AK) (v:α):zd6 f i v i=v:=if_pos rfl
theorem zv8 {α:Type} (f:AK→α) {i j:AK} (v:α) (h:j≠i):zd6 f i v j=f j:=if_neg h
theorem zum (d:Nat) (e:Nat→PV) (t:Nat):zdy d e t=(e t).kill d:=rfl
theorem zws {res:List RX}:fin res (.ret ac)=retOf res ac:=rfl
theorem zwt {res:List RX}:fin res (.nor ac)=retOf res ac:=rfl
theorem ztx (f:Fr) (d t:Nat):(f.kill d).box t=if t=d then none else (f.box t).map (PV.killL d):=rfl
theorem zuO (f:Fr) (d:Nat) (k:AK):(f.kill d).arr k=if k.tmp=d then none else f.arr k:=rfl
theorem zAX (t:Nat):Fr.e.box t=none:=rfl
theorem zAy (k:AK):Fr.e.arr k=none:=rfl
theorem ev_t (n:Nat):ac.ev (.t n)=ac.e n:=rfl
theorem ev_c (v:PV):ac.ev (.c v)=v:=rfl
theorem zug (d:Nat) (v:PV):ac.put (some d) v=⟨upd ac.e d v,ac.S⟩:=rfl
theorem zt9 (v:PV):ac.put none v=ac:=rfl
theorem ztP {kd:Bool} {d:Option Nat} {op:SOp}:stp cl kd ⟨d,none,op⟩ ac=ex cl kd d op ac:=rfl
def gd (cl:zi) (kd:Bool) (d:Option Nat) (op:SOp) (ac:Ac) (want:Bool) (v:PV):OO :=
 match v with
 | .bool b=>if b=want then ex cl kd d op ac else .ok (ac.put d .undef)
 | .undef=>.ok (ac.put d .undef)
 | _=>.bad
theorem zu0 {kd:Bool} {d:Option Nat} {op:SOp} {g:Nat} {want:Bool}:stp cl kd ⟨d,some (g,want),op⟩ ac=gd cl kd d op ac want (ac.e g):=rfl
section
variable {kd:Bool} {d:Option Nat} {op:SOp} {p:Prop} [Decidable p]
theorem zAF:gd cl kd d op ac true (.bool true)=ex cl kd d op ac:=rfl
theorem zAJ:gd cl kd d op ac false (.bool false)=ex cl kd d op ac:=rfl
theorem zzU:gd cl kd d op ac true (.bool false)=.ok (ac.put d .undef):=rfl
theorem zAz:gd cl kd d op ac false (.bool true)=.ok (ac.put d .undef):=rfl
theorem zuw {want:Bool}:gd cl kd d op ac want .undef=.ok (ac.put d .undef):=rfl
theorem zAh:gd cl kd d op ac true (.bool (decide p))=if p then ex cl kd d op ac else .ok (ac.put d .undef):=by by_cases h:p <;> simp[gd,h]
theorem zAb:gd cl kd d op ac false (.bool (decide p))=if p then .ok (ac.put d .undef) else ex cl kd d op ac:=by by_cases h:p <;> simp[gd,h]
theorem zAi {t:Bool}:gd cl kd d op ac true (.bool t)=if t=true then ex cl kd d op ac else .ok (ac.put d .undef):=rfl
theorem zzV {t:Bool}:gd cl kd d op ac false (.bool t)=if t=true then .ok (ac.put d .undef) else ex cl kd d op ac:=by cases t <;> rfl
end
def vo (d:Option Nat) (ac:Ac) (r:Option PV):OO :=
 match r with
 | some v=>.ok (ac.put d v)
 | none=>.bad
theorem ex_v {kd:Bool} {d:Option Nat} {o:VO}:ex cl kd d (.v o) ac=vo d ac (vop ac.ev ac.S o):=rfl
theorem zwL {d:Option Nat} {v:PV}:vo d ac (some v)=.ok (ac.put d v):=rfl
theorem zw2 (args:List PV) (t:Nat):zht args t=(args[t]?).getD .undef:=rfl
end
end
def IsExt (id:Nat) (Φ:(Nat→PV)→Sto→Prop):EO→Prop
 | .ext i ac=>i=id∧Φ ac.e ac.S
 | _=>False
theorem IsExt.elim {id:Nat} {Φ:(Nat→PV)→Sto→Prop} {r:EO} (h:IsExt id Φ r):∃ e S,r=.ext id ⟨e,S⟩∧Φ e S:=by
 cases r with
 | ext i ac=>obtain⟨rfl,h⟩:=h;exact⟨ac.e,ac.S,rfl,h⟩
 | _=>exact False.elim h
theorem IsExt.mono {id:Nat} {Φ Ψ:(Nat→PV)→Sto→Prop} {r:EO} (h:IsExt id Φ r) (hi:∀ e S,Φ e S→Ψ e S):IsExt id Ψ r:=by
 cases r with
 | ext i ac=>exact⟨h.1,hi _ _ h.2⟩
 | _=>exact False.elim h
def IsRet (Φ:(Nat→PV)→Sto→Prop):EO→Prop
 | .ret ac=>Φ ac.e ac.S
 | _=>False
theorem IsRet.elim {Φ:(Nat→PV)→Sto→Prop} {r:EO} (h:IsRet Φ r):∃ e S,r=.ret ⟨e,S⟩∧Φ e S:=by
 cases r with
 | ret ac=>exact⟨ac.e,ac.S,rfl,h⟩
 | _=>exact False.elim h
def IsNor (Φ:(Nat→PV)→Sto→Prop):EO→Prop
 | .nor ac=>Φ ac.e ac.S
 | _=>False
theorem IsNor.elim {Φ:(Nat→PV)→Sto→Prop} {r:EO} (h:IsNor Φ r):∃ e S,r=.nor ⟨e,S⟩∧Φ e S:=by
 cases r with
 | nor ac=>exact⟨ac.e,ac.S,rfl,h⟩
 | _=>exact False.elim h
theorem zdX (n:Nat):(0:Int)≤(n:Int):=Int.natCast_nonneg n
theorem zhf {x:Int} (h1:-9223372036854775808≤x) (h2:x≤9223372036854775807):IntKind.i64.wrap x=x:=by
 simp only[IntKind.wrap,IntKind.min,IntKind.max,IntKind.signed,IntKind.bits]
 simp
 omega
end Go.Proofs.YtfbcnpbhhooapaaGreatDoor.M
namespace Go.Proofs.YtfbcnpbhhooapaaGreatDoor.M
open Go
structure AI where
 A:Option Addr
 cap:Nat
 sz:Nat
 len:Nat
 gen:Nat
 blk:Option Nat
structure Gh where
 b:Nat→Nat→Option Nat
 a:Nat→AK→Option AI
 fz:Nat→Nat→Option Value
inductive Ow where
 | box (n t:Nat)
 | arr (n:Nat) (k:AK)
def Gh.own (g:Gh):Ow→Option Nat
 | .box n t=>g.b n t
 | .arr n k=>(g.a n k).bind (·.blk)
abbrev Fz:=Nat→Nat→Option Value
inductive FR (fz:Fz):PV→Value→Prop
 | bool (b:Bool):FR fz (.bool b) (.bool b)
 | int (k:IntKind) (n:Int):FR fz (.int k n) (.int k n)
 | str (s:List UInt8):FR fz (.str s) (.string ⟨s.toArray⟩)
 | nils (z:Nat) (A:Option Addr):FR fz (.nils z) (.slice A 0 0)
 | list (z:Nat) (rows:List (List PV)) (full:Bool) (A:Option Addr) (cap:Nat) (cs:Nat→Nat→Value) (hl:rows.length≤cap) (hf:full=true→cap=rows.length) (hs:∀ r ∈ rows,r.length=z)
   (hA:rows≠[]→∃ ad,A=some ad∧ad.spot=none)
   (hc:∀ ad i j row v,A=some ad→rows[i]?=some row→row[j]?=some v→fz ad.block (ad.off+(i*z+j))=some (cs i j))
   (hv:∀ i j row v,rows[i]?=some row→row[j]?=some v→FR fz v (cs i j)):FR fz (.list z rows full) (.slice A rows.length cap)
 | func (f:Nat):FR fz (.func f []) (.func (.func f) #[] #[])
 | iface (t:Nat) (v:PV) (c:Value) (h:FR fz v c):FR fz (.iface t v) (.iface t c)
 | nili:FR fz .nile .nilIface
 | nilf:FR fz .nili .nilFunc
 | nilp:FR fz .nili (.pointer none)
def zjm (g l g' l':Nat):Prop:=g < g'∨g=g'∧l≤l'
structure SlAt (ai:AI) (off len:Nat) (full:Bool) (A:Option Addr) (c:Nat):Prop where
 fits:off+len≤ai.len
 le:len≤c
 zero:off=0→A=ai.A
 pos:0 < len→∃ ad,ai.A=some ad∧ad.spot=none∧A=some ⟨ad.block,ad.off+off*ai.sz,none⟩
 whole:full=true→c=len
 open_:off=0→len=ai.len→full=false→c=ai.cap
def zas:List PV→Bool
 | [.tup _]=>false
 | _=>true
theorem zdj (u v:PV) (r:List PV):zas (u::v::r)=true:=by cases u <;> rfl
inductive VR (g:Gh):PV→Value→Prop
 | data (v:PV) (c:Value) (h:FR g.fz v c):VR g v c
 | agg (vs:List PV) (cs:Array Value) (hl:vs.length=cs.size) (h:∀ i v,vs[i]?=some v→VR g v (cs.getD i undef)):VR g (.agg vs) (.agg cs)
 | tup (vs:List PV) (cs:Array Value) (hl:vs.length=cs.size) (h:∀ i v,vs[i]?=some v→VR g v (cs.getD i undef)):VR g (.tup vs) (.tuple cs)
 | ptr (n t o b:Nat) (h:g.b n t=some b):VR g (.ptr n t o) (.pointer (some ⟨b,o,none⟩))
 | rowp (row:List PV) (o b p:Nat) (cs:Nat→Value) (hc:∀ j v,row[j]?=some v→g.fz b (p+j)=some (cs j)) (hv:∀ j v,row[j]?=some v→FR g.fz v (cs j)):VR g (.rowp row o) (.pointer (some ⟨b,p+o,none⟩))
 | elem (n:Nat) (a:AK) (i o ver gen:Nat) (ai:AI) (c:Value) (ha:g.a n a=some ai) (hl:zjm gen ver ai.gen ai.len) (h1:c.oneCell'=true)
   (h:ai.gen=gen→ai.len=ver→∃ ad,ai.A=some ad∧ad.spot=none∧c=.pointer (some ⟨ad.block,ad.off+(i*ai.sz+o),none⟩)):VR g (.elem n a i o ver gen) c
 | sl (n:Nat) (a:AK) (off len ver gen:Nat) (full:Bool) (ai:AI) (c:Value) (ha:g.a n a=some ai) (hl:zjm gen ver ai.gen ai.len) (h1:c.oneCell'=true)
   (h:ai.gen=gen→ai.len=ver→∃ A cap,c=.slice A len cap∧SlAt ai off len full A cap):VR g (.sl n a off len ver gen full) c
 | func (f:Nat) (caps:List PV) (cs:Array Value) (hn:zas caps=true) (hl:caps.length=cs.size) (h:∀ i v,caps[i]?=some v→VR g v (cs.getD i undef)):VR g (.func f caps) (.func (.func f) #[] cs)
 | meth (f:Nat) (vs:List PV) (cs:Array Value) (hl:vs.length=cs.size) (h:∀ i v,vs[i]?=some v→VR g v (cs.getD i undef)):VR g (.func f [.tup vs]) (.func (.func f) cs #[])
 | iface (t:Nat) (v:PV) (c:Value) (h:VR g v c):VR g (.iface t v) (.iface t c)
 | undef:VR g .undef Go.undef
 | junk (c:Value):VR g .junk c
structure ArrRel (g:Gh) (w:World) (A:Arr) (ai:AI):Prop where
 sz:ai.sz=A.sz
 len:ai.len=A.rows.length
 gen:ai.gen=A.gen
 each:∀ r ∈ A.rows,r.length=A.sz
 cap:ai.len≤ai.cap
 addr:A.rows≠[]→∃ ad,ai.A=some ad∧ad.spot=none
 cells:∃ cs:Nat→Nat→Value,(∀ i j row v,A.rows[i]?=some row→row[j]?=some v→FR g.fz v (cs i j)) ∧
  (∀ ad i j row v,ai.A=some ad→A.rows[i]?=some row→row[j]?=some v→w.cell? ⟨ad.block,ad.off+(i*A.sz+j),none⟩=some (cs i j)∧(A.frz=true→g.fz ad.block (ad.off+(i*A.sz+j))=some (cs i j)))
 own:∀ b,ai.blk=some b→ai.A=some ⟨b,0,none⟩∧(∃ cells elem,w.heap[b]?=some (.cells cells elem (0,0))∧cells.size=ai.cap*A.sz)∧(∀ o,ai.len*A.sz≤o→g.fz b o=none)∧(A.frz=false→∀ o,g.fz b o=none)
 free:ai.blk=none→ai.cap=ai.len∧(A.frz=true∨A.rows=[])
class Base where
 base:World
structure OkB [Base] (g:Gh) (w:World):Prop where
 size:Base.base.heap.size≤w.heap.size
 keep:∀ k,k < Base.base.heap.size→w.heap[k]?=Base.base.heap[k]?
 own:∀ x k,g.own x=some k→Base.base.heap.size≤k
theorem OkB.step [Base] {g g':Gh} {w w':World} (h:OkB g w) (hs:w.heap.size≤w'.heap.size) (hk:∀ k,k < w.heap.size→(∀ x,g.own x≠some k)→w'.heap[k]?=w.heap[k]?) (hn:∀ x k,g'.own x=some k→g.own x=some k∨w.heap.size≤k):OkB g' w' :=
 ⟨Nat.le_trans h.size hs,fun k hlt=>(hk k (Nat.lt_of_lt_of_le hlt h.size) (fun x hx=>absurd (h.own x k hx) (by omega))).trans (h.keep k hlt),fun x k hx=>(hn x k hx).elim (h.own x k) (Nat.le_trans h.size)⟩
theorem OkB.sub [Base] {g g':Gh} {w:World} (h:OkB g w) (hn:∀ x k,g'.own x=some k→∃ y,g.own y=some k):OkB g' w :=
 ⟨h.size,h.keep,fun x k hx=>by obtain⟨y,hy⟩:=hn x k hx;exact h.own y k hy⟩
structure WR [Base] (g:Gh) (S:Sto) (w:World):Prop where
 ok:OkB g w
 fz:∀ b o v,g.fz b o=some v→w.cell? ⟨b,o,none⟩=some v
 box:∀ n t b,g.b n t=some b→∃ vs cs elem,getBox S n t=some vs∧w.heap[b]?=some (.cells cs elem (0,0))∧vs.length=cs.size∧(∀ i v,vs[i]?=some v→VR g (PV.upN n v) (cs.getD i undef))∧∀ o,g.fz b o=none
 arr:∀ n k ai,g.a n k=some ai→∃ A,getArr S n k=some A∧ArrRel g w A ai
 inj:∀ x y b,g.own x=some b→g.own y=some b→x=y
def AIle (ai ai':AI):Prop:=ai.gen < ai'.gen∨ai.gen=ai'.gen∧ai.len < ai'.len∨ai.gen=ai'.gen∧ai.len=ai'.len∧ai'.A=ai.A∧ai'.cap=ai.cap∧ai'.sz=ai.sz
theorem AIle.refl (ai:AI):AIle ai ai:=.inr (.inr ⟨rfl,rfl,rfl,rfl,rfl⟩)
theorem AIle.trans {a b c:AI} (h:AIle a b) (h':AIle b c):AIle a c:=by
 unfold AIle at *
 rcases h with h | ⟨h1,h2⟩ | ⟨h1,h2,h3,h4,h5⟩ <;> rcases h' with h' | ⟨h1',h2'⟩ | ⟨h1',h2',h3',h4',h5'⟩
 ·left;omega
 ·left;omega
 ·left;omega
 ·left;omega
 ·right;left;exact⟨by omega,by omega⟩
 ·right;left;exact⟨by omega,by omega⟩
 ·left;omega
 ·right;left;exact⟨by omega,by omega⟩
 right;right;exact⟨by omega,by omega,h3'.trans h3,h4'.trans h4,h5'.trans h5⟩
structure Exw (g g':Gh):Prop where
 b:∀ n t b,g.b n t=some b→g'.b n t=some b
 a:∀ n k ai,g.a n k=some ai→∃ ai',g'.a n k=some ai'∧AIle ai ai'
 fz:∀ b o v,g.fz b o=some v→g'.fz b o=some v
theorem Exw.refl (g:Gh):Exw g g:=⟨fun _ _ _ h=>h,fun _ _ ai h=>⟨ai,h,AIle.refl ai⟩,fun _ _ _ h=>h⟩
theorem Exw.trans {g g' g'':Gh} (h:Exw g g') (h':Exw g' g''):Exw g g'' :=
 ⟨fun _ _ _ h1=>h'.b _ _ _ (h.b _ _ _ h1),fun n k ai h1=>by
  obtain⟨ai1,h2,h3⟩:=h.a n k ai h1
  obtain⟨ai2,h4,h5⟩:=h'.a n k ai1 h2
  exact⟨ai2,h4,h3.trans h5⟩,fun _ _ _ h1=>h'.fz _ _ _ (h.fz _ _ _ h1)⟩
def za1 (g:Gh) (n t:Nat):Prop:=g.b n t=none∧∀ i,g.a n (.cell t i)=none
structure Ext (g g':Gh):Prop extends Exw g g' where
 nam:∀ n t,za1 g n t→za1 g' n t
theorem Ext.refl (g:Gh):Ext g g:=⟨Exw.refl g,fun _ _ h=>h⟩
theorem Ext.trans {g g' g'':Gh} (h:Ext g g') (h':Ext g' g''):Ext g g'':=⟨h.toExw.trans h'.toExw,fun n t hb=>h'.nam n t (h.nam n t hb)⟩
theorem zi6 {g:Gh} {n:Nat} {k:AK} {ai:AI} (h:g.a n k=some ai):∀ t i,k=.cell t i→¬ za1 g n t:=fun t i e hb=>by
 subst e
 rw[hb.2 i] at h
 cases h
theorem zjj {g:Gh} {n d:Nat}:∀ t i,AK.slot d=.cell t i→¬ za1 g n t:=fun t i e=>by cases e
theorem FR.mono {fz fz':Fz} (hfz:∀ b o v,fz b o=some v→fz' b o=some v) {v:PV} {c:Value} (h:FR fz v c):FR fz' v c:=by
 induction h with
 | bool b=>exact .bool b
 | int k n=>exact .int k n
 | str s=>exact .str s
 | nils z A=>exact .nils z A
 | list z rows full A cap cs hl hf hs hA hc hv ih=>exact .list z rows full A cap cs hl hf hs hA (fun ad i j row v h1 h2 h3=>hfz _ _ _ (hc ad i j row v h1 h2 h3)) ih
 | func f=>exact .func f
 | iface t v c _ ih=>exact .iface t v c ih
 | nili=>exact .nili
 | nilf=>exact .nilf
 | nilp=>exact .nilp
theorem VR.monow {g g':Gh} (hx:Exw g g') {v:PV} {c:Value} (h:VR g v c):VR g' v c:=by
 induction h with
 | data v c h=>exact .data v c (h.mono hx.fz)
 | agg vs cs hl _ ih=>exact .agg vs cs hl ih
 | tup vs cs hl _ ih=>exact .tup vs cs hl ih
 | ptr n t o b h=>exact .ptr n t o b (hx.b _ _ _ h)
 | rowp row o b p cs hc hv=>exact .rowp row o b p cs (fun j v hj=>hx.fz _ _ _ (hc j v hj)) (fun j v hj=>(hv j v hj).mono hx.fz)
 | elem n a i o ver gen ai c ha hl h1 h =>
  obtain⟨ai',ha',hle⟩:=hx.a n a ai ha
  refine .elem n a i o ver gen ai' c ha' ?_ h1 ?_
  ·unfold AIle zjm at *;omega
  intro q1 q2
  unfold AIle zjm at *
  rcases hle with hle | ⟨hle1,hle2⟩ | ⟨e1,e2,e3,e4,e5⟩
  ·omega
  ·omega
  obtain⟨ad,q1,q2,q3⟩:=h (by omega) (by omega)
  exact⟨ad,e3.trans q1,q2,by rw[e5];exact q3⟩
 | sl n a off len ver gen full ai c ha hl h1 h =>
  obtain⟨ai',ha',hle⟩:=hx.a n a ai ha
  refine .sl n a off len ver gen full ai' c ha' ?_ h1 ?_
  ·unfold AIle zjm at *;omega
  intro q1 q2
  unfold AIle zjm at *
  rcases hle with hle | ⟨hle1,hle2⟩ | ⟨e1,e2,e3,e4,e5⟩
  ·omega
  ·omega
  obtain⟨A,cap,q1,q2⟩:=h (by omega) (by omega)
  exact⟨A,cap,q1,⟨by rw[←e2];exact q2.fits,q2.le,fun h=>by rw[e3];exact q2.zero h,fun h=>by rw[e3,e5];exact q2.pos h,q2.whole,fun h1 h2 h3=>by rw[e4];exact q2.open_ h1 (by omega) h3⟩⟩
 | func f caps cs hn hl _ ih=>exact .func f caps cs hn hl ih
 | meth f vs cs hl _ ih=>exact .meth f vs cs hl ih
 | iface t v c _ ih=>exact .iface t v c ih
 | undef=>exact .undef
 | junk c=>exact .junk c
theorem VR.mono {g g':Gh} (hx:Ext g g') {v:PV} {c:Value} (h:VR g v c):VR g' v c:=h.monow hx.toExw
def Gh.kill (d:Nat) (g:Gh):Gh :=
 ⟨fun n t=>if n=0∧t=d then none else g.b n t,fun n k=>if n=0∧k.tmp=d then none else g.a n k,g.fz⟩
theorem zcY (d:Nat):∀ (vs:List PV) (i:Nat),(PV.killL d vs)[i]?=(vs[i]?).map (PV.kill d)
 | [],i=>by simp[PV.killL]
 | v::vs,0=>by simp[PV.killL]
 | v::vs,i+1=>by simp[PV.killL,zcY d vs i]
theorem zbs (d:Nat):∀ vs:List PV,(PV.killL d vs).length=vs.length
 | []=>rfl
 | v::vs=>by simp[PV.killL,zbs d vs]
theorem znb (d:Nat):∀ vs:List PV,zas vs=true→zas (PV.killL d vs)=true
 | [],_=>rfl
 | [v],h=>by
  cases v <;> first | (simp only[PV.killL,PV.kill,zas];done) | (simp[zas] at h;done) | (simp only[PV.killL,PV.kill];split <;> rfl)
 | _::_::_,_=>zdj _ _ _
theorem FR.kill {fz:Fz} {v:PV} {c:Value} (d:Nat) (h:FR fz v c):FR fz (v.kill d) c:=by
 induction h with
 | bool b=>exact .bool b
 | int k n=>exact .int k n
 | str s=>exact .str s
 | nils z A=>exact .nils z A
 | list z rows full A cap cs hl hf hs hA hc hv ih=>exact .list z rows full A cap cs hl hf hs hA hc hv
 | func f=>exact .func f
 | iface t v c _ ih=>exact .iface t _ c ih
 | nili=>exact .nili
 | nilf=>exact .nilf
 | nilp=>exact .nilp
theorem VR.kill {g:Gh} {v:PV} {c:Value} (d:Nat) (h:VR g v c):VR (g.kill d) (v.kill d) c:=by
 induction h with
 | data v c h=>exact .data _ c (h.kill d)
 | agg vs cs hl _ ih =>
  refine .agg _ cs (by rw[zbs];exact hl) fun i v hv=>?_
  rw[zcY,Option.map_eq_some_iff] at hv
  obtain⟨u,hu,rfl⟩:=hv
  exact ih i u hu
 | tup vs cs hl _ ih =>
  refine .tup _ cs (by rw[zbs];exact hl) fun i v hv=>?_
  rw[zcY,Option.map_eq_some_iff] at hv
  obtain⟨u,hu,rfl⟩:=hv
  exact ih i u hu
 | ptr n t o b h =>
  simp only[PV.kill]
  split
  ·exact .junk _
  rename_i hn
  exact .ptr n t o b (by simp only[Gh.kill,if_neg hn];exact h)
 | rowp row o b p cs hc hv=>exact .rowp row o b p cs hc hv
 | elem n a i o ver gen ai c ha hl h1 h =>
  simp only[PV.kill]
  split
  ·exact .junk _
  rename_i hn
  exact .elem n a i o ver gen ai c (by simp only[Gh.kill,if_neg hn];exact ha) hl h1 h
 | sl n a off len ver gen full ai c ha hl h1 h =>
  simp only[PV.kill]
  split
  ·exact .junk _
  rename_i hn
  exact .sl n a off len ver gen full ai c (by simp only[Gh.kill,if_neg hn];exact ha) hl h1 h
 | func f caps cs hn hl _ ih =>
  refine .func f _ cs (znb d caps hn) (by rw[zbs];exact hl) fun i v hv=>?_
  rw[zcY,Option.map_eq_some_iff] at hv
  obtain⟨u,hu,rfl⟩:=hv
  exact ih i u hu
 | meth f vs cs hl _ ih =>
  simp only[PV.kill,PV.killL]
  refine .meth f _ cs (by rw[zbs];exact hl) fun i v hv=>?_
  rw[zcY,Option.map_eq_some_iff] at hv
  obtain⟨u,hu,rfl⟩:=hv
  exact ih i u hu
 | iface t v c _ ih=>exact .iface t _ c ih
 | undef=>exact .undef
 | junk c=>exact .junk c
def Gh.push (g:Gh):Gh :=
 ⟨fun n t=>match n with | 0=>none | n+1=>g.b n t,fun n k=>match n with | 0=>none | n+1=>g.a n k,g.fz⟩
def Gh.pop (g:Gh):Gh:=⟨fun n t=>g.b (n+1) t,fun n k=>g.a (n+1) k,g.fz⟩
theorem Gh.pop_push (g:Gh):g.push.pop=g:=rfl
theorem zfq:∀ (vs:List PV) (i:Nat),(PV.upL vs)[i]?=(vs[i]?).map PV.up
 | [],i=>by simp[PV.upL]
 | v::vs,0=>by simp[PV.upL]
 | v::vs,i+1=>by simp[PV.upL,zfq vs i]
theorem zd0:∀ vs:List PV,(PV.upL vs).length=vs.length
 | []=>rfl
 | v::vs=>by simp[PV.upL,zd0 vs]
theorem zqx:∀ vs:List PV,zas vs=true→zas (PV.upL vs)=true
 | [],_=>rfl
 | [v],h=>by cases v <;> first | (simp only[PV.upL,PV.up,zas];done) | (simp[zas] at h;done)
 | _::_::_,_=>zdj _ _ _
theorem FR.up {fz:Fz} {v:PV} {c:Value} (h:FR fz v c):FR fz v.up c:=by
 induction h with
 | bool b=>exact .bool b
 | int k n=>exact .int k n
 | str s=>exact .str s
 | nils z A=>exact .nils z A
 | list z rows full A cap cs hl hf hs hA hc hv ih=>exact .list z rows full A cap cs hl hf hs hA hc hv
 | func f=>exact .func f
 | iface t v c _ ih=>exact .iface t _ c ih
 | nili=>exact .nili
 | nilf=>exact .nilf
 | nilp=>exact .nilp
theorem VR.up {g g':Gh} (hg:g'.pop=g) {v:PV} {c:Value} (h:VR g v c):VR g' v.up c:=by
 subst hg
 induction h with
 | data v c h=>exact .data _ c h.up
 | agg vs cs hl _ ih =>
  refine .agg _ cs (by rw[zd0];exact hl) fun i v hv=>?_
  rw[zfq,Option.map_eq_some_iff] at hv
  obtain⟨u,hu,rfl⟩:=hv
  exact ih i u hu
 | tup vs cs hl _ ih =>
  refine .tup _ cs (by rw[zd0];exact hl) fun i v hv=>?_
  rw[zfq,Option.map_eq_some_iff] at hv
  obtain⟨u,hu,rfl⟩:=hv
  exact ih i u hu
 | ptr n t o b h=>exact .ptr (n+1) t o b h
 | rowp row o b p cs hc hv=>exact .rowp row o b p cs hc hv
 | elem n a i o ver gen ai c ha hl h1 h=>exact .elem (n+1) a i o ver gen ai c ha hl h1 h
 | sl n a off len ver gen full ai c ha hl h1 h=>exact .sl (n+1) a off len ver gen full ai c ha hl h1 h
 | func f caps cs hn hl _ ih =>
  refine .func f _ cs (zqx caps hn) (by rw[zd0];exact hl) fun i v hv=>?_
  rw[zfq,Option.map_eq_some_iff] at hv
  obtain⟨u,hu,rfl⟩:=hv
  exact ih i u hu
 | meth f vs cs hl _ ih =>
  simp only[PV.up,PV.upL]
  refine .meth f _ cs (by rw[zd0];exact hl) fun i v hv=>?_
  rw[zfq,Option.map_eq_some_iff] at hv
  obtain⟨u,hu,rfl⟩:=hv
  exact ih i u hu
 | iface t v c _ ih=>exact .iface t _ c ih
 | undef=>exact .undef
 | junk c=>exact .junk c
theorem zdQ:∀ (vs us:List PV),PV.dnL vs=some us→vs.length=us.length∧∀ (i:Nat) (u:PV),us[i]?=some u→∃ v,vs[i]?=some v∧v.dn=some u
 | [],us,h=>by
  simp only[PV.dnL,Option.some.injEq] at h
  subst h
  exact⟨rfl,fun i u h=>by simp at h⟩
 | v::vs,us,h=>by
  simp only[PV.dnL] at h
  cases hv:v.dn with
  | none=>simp[hv] at h
  | some v' =>
   cases hvs:PV.dnL vs with
   | none=>simp[hv,hvs] at h
   | some vs' =>
    simp only[hv,hvs,Option.some.injEq] at h
    subst h
    obtain⟨h1,h2⟩:=zdQ vs vs' hvs
    refine⟨by simp[h1],fun i u hi=>?_⟩
    cases i with
    | zero=>simp at hi;subst hi;exact⟨v,rfl,hv⟩
    | succ i=>simp at hi;simpa using h2 i u hi
theorem zqR:∀ vs us:List PV,PV.dnL vs=some us→zas vs=true→zas us=true
 | [],us,h,_=>by simp only[PV.dnL,Option.some.injEq] at h;subst h;rfl
 | [v],us,h,hn=>by
  obtain⟨h1,h2⟩:=zdQ [v] us h
  match us,h1 with
  | [u],_ =>
   obtain⟨v',hv',hd⟩:=h2 0 u rfl
   obtain rfl:v=v':=by simpa using hv'
   cases u <;> first | rfl | skip
   cases v <;> first | (simp[zas] at hn;done) | (simp[PV.dn] at hd;done) | skip
   all_goals (simp only[PV.dn] at hd;split at hd <;> cases hd)
 | v::v'::vs,us,h,_=>by
  obtain⟨h1,_⟩:=zdQ _ us h
  match us,h1 with
  | _::_::_,_=>exact zdj _ _ _
theorem FR.dn {fz:Fz} {v:PV} {c:Value} (h:FR fz v c):∀ u,v.dn=some u→FR fz u c:=by
 induction h with
 | bool b=>intro u hu;simp only[PV.dn,Option.some.injEq] at hu;subst hu;exact .bool b
 | int k n=>intro u hu;simp only[PV.dn,Option.some.injEq] at hu;subst hu;exact .int k n
 | str s=>intro u hu;simp only[PV.dn,Option.some.injEq] at hu;subst hu;exact .str s
 | nils z A=>intro u hu;simp only[PV.dn,Option.some.injEq] at hu;subst hu;exact .nils z A
 | list z rows full A cap cs hl hf hs hA hc hv ih=>intro u hu;simp only[PV.dn,Option.some.injEq] at hu;subst hu;exact .list z rows full A cap cs hl hf hs hA hc hv
 | func f=>intro u hu;simp only[PV.dn,PV.dnL,Option.map_some,Option.some.injEq] at hu;subst hu;exact .func f
 | iface t v c _ ih =>
  intro u hu
  simp only[PV.dn,Option.map_eq_some_iff] at hu
  obtain⟨u',hu',rfl⟩:=hu
  exact .iface t _ c (ih u' hu')
 | nili=>intro u hu;simp only[PV.dn,Option.some.injEq] at hu;subst hu;exact .nili
 | nilf=>intro u hu;simp only[PV.dn,Option.some.injEq] at hu;subst hu;exact .nilf
 | nilp=>intro u hu;simp only[PV.dn,Option.some.injEq] at hu;subst hu;exact .nilp
theorem VR.dn {g:Gh} {v:PV} {c:Value} (h:VR g v c):∀ u,v.dn=some u→VR g.pop u c:=by
 induction h with
 | data v c h=>exact fun u hu=>.data _ c (h.dn u hu)
 | agg vs cs hl _ ih =>
  intro u hu
  simp only[PV.dn,Option.map_eq_some_iff] at hu
  obtain⟨us,hus,rfl⟩:=hu
  obtain⟨h1,h2⟩:=zdQ vs us hus
  refine .agg _ cs (by omega) fun i u hi=>?_
  obtain⟨v,hv,hd⟩:=h2 i u hi
  exact ih i v hv u hd
 | tup vs cs hl _ ih =>
  intro u hu
  simp only[PV.dn,Option.map_eq_some_iff] at hu
  obtain⟨us,hus,rfl⟩:=hu
  obtain⟨h1,h2⟩:=zdQ vs us hus
  refine .tup _ cs (by omega) fun i u hi=>?_
  obtain⟨v,hv,hd⟩:=h2 i u hi
  exact ih i v hv u hd
 | ptr n t o b h =>
  intro u hu
  cases n with
  | zero=>simp[PV.dn] at hu
  | succ n=>simp only[PV.dn,Option.some.injEq] at hu;subst hu;exact .ptr n t o b h
 | rowp row o b p cs hc hv=>intro u hu;simp only[PV.dn,Option.some.injEq] at hu;subst hu;exact .rowp row o b p cs hc hv
 | elem n a i o ver gen ai c ha hl h1 h =>
  intro u hu
  cases n with
  | zero=>simp[PV.dn] at hu
  | succ n=>simp only[PV.dn,Option.some.injEq] at hu;subst hu;exact .elem n a i o ver gen ai c ha hl h1 h
 | sl n a off len ver gen full ai c ha hl h1 h =>
  intro u hu
  cases n with
  | zero=>simp[PV.dn] at hu
  | succ n=>simp only[PV.dn,Option.some.injEq] at hu;subst hu;exact .sl n a off len ver gen full ai c ha hl h1 h
 | meth f vs cs hl _ ih =>
  intro u hu
  simp only[PV.dn,Option.map_eq_some_iff] at hu
  obtain⟨us,hus,rfl⟩:=hu
  simp only[PV.dnL,PV.dn] at hus
  cases hvs:PV.dnL vs with
  | none=>simp[hvs] at hus
  | some ws =>
   simp only[hvs,Option.map_some,Option.some.injEq] at hus
   subst hus
   obtain⟨h1,h2⟩:=zdQ vs ws hvs
   refine .meth f _ cs (by omega) fun i u hi=>?_
   obtain⟨v,hv,hd⟩:=h2 i u hi
   exact ih i v hv u hd
 | func f caps cs hn hl _ ih =>
  intro u hu
  simp only[PV.dn,Option.map_eq_some_iff] at hu
  obtain⟨us,hus,rfl⟩:=hu
  obtain⟨h1,h2⟩:=zdQ caps us hus
  refine .func f _ cs (zqR caps us hus hn) (by omega) fun i u hi=>?_
  obtain⟨v,hv,hd⟩:=h2 i u hi
  exact ih i v hv u hd
 | iface t v c _ ih =>
  intro u hu
  simp only[PV.dn,Option.map_eq_some_iff] at hu
  obtain⟨u',hu',rfl⟩:=hu
  exact .iface t _ c (ih u' hu')
 | undef=>intro u hu;simp only[PV.dn,Option.some.injEq] at hu;subst hu;exact .undef
 | junk c=>intro u hu;simp only[PV.dn,Option.some.injEq] at hu;subst hu;exact .junk c
section
variable [Base] {g:Gh} {S:Sto} {w:World} {P:Program}
theorem VR.int_inv {k:IntKind} {n:Int} {c:Value} (h:VR g (.int k n) c):c=.int k n:=by cases h with | data _ _ h=>cases h;rfl
theorem VR.bool_inv {b:Bool} {c:Value} (h:VR g (.bool b) c):c=.bool b:=by cases h with | data _ _ h=>cases h;rfl
theorem VR.str_inv {s:List UInt8} {c:Value} (h:VR g (.str s) c):c=.string ⟨s.toArray⟩:=by cases h with | data _ _ h=>cases h;rfl
theorem VR.agg_inv {vs:List PV} {c:Value} (h:VR g (.agg vs) c):∃ cs:Array Value,c=.agg cs∧vs.length=cs.size∧∀ i v,vs[i]?=some v→VR g v (cs.getD i Go.undef):=by
 cases h with
 | data _ _ h=>cases h
 | agg _ cs hl h=>exact⟨cs,rfl,hl,h⟩
theorem VR.tup_inv {vs:List PV} {c:Value} (h:VR g (.tup vs) c):∃ cs:Array Value,c=.tuple cs∧vs.length=cs.size∧∀ i v,vs[i]?=some v→VR g v (cs.getD i Go.undef):=by
 cases h with
 | data _ _ h=>cases h
 | tup _ cs hl h=>exact⟨cs,rfl,hl,h⟩
theorem VR.ptr_inv {n t o:Nat} {c:Value} (h:VR g (.ptr n t o) c):∃ b,g.b n t=some b∧c=.pointer (some ⟨b,o,none⟩):=by
 cases h with
 | data _ _ h=>cases h
 | ptr _ _ _ b h=>exact⟨b,h,rfl⟩
theorem VR.undef_inv {c:Value} (h:VR g .undef c):c=Go.undef:=by
 cases h with
 | data _ _ h=>cases h
 | undef=>rfl
theorem VR.func_inv {f:Nat} {caps:List PV} {c:Value} (h:VR g (.func f caps) c) (hn:zas caps=true):∃ cs:Array Value,c=.func (.func f) #[] cs∧caps.length=cs.size∧∀ i v,caps[i]?=some v→VR g v (cs.getD i Go.undef):=by
 cases h with
 | data _ _ h=>cases h;exact⟨#[],rfl,rfl,fun i v h=>by simp at h⟩
 | func _ _ cs _ hl h=>exact⟨cs,rfl,hl,h⟩
 | meth _ _ cs hl h=>simp[zas] at hn
theorem VR.meth_inv {f:Nat} {vs:List PV} {c:Value} (h:VR g (.func f [.tup vs]) c):∃ cs:Array Value,c=.func (.func f) cs #[]∧vs.length=cs.size∧∀ i v,vs[i]?=some v→VR g v (cs.getD i Go.undef):=by
 cases h with
 | data _ _ h=>cases h
 | func _ _ cs hn hl h=>simp[zas] at hn
 | meth _ _ cs hl h=>exact⟨cs,rfl,hl,h⟩
theorem FR.oneCell {fz:Fz} {v:PV} {c:Value} (h:FR fz v c):c.oneCell'=true:=by cases h <;> rfl
theorem VR.oneCell {v:PV} {c:Value} (h:VR g v c) (h1:v.one=true):c.oneCell'=true:=by
 cases h with
 | data _ _ h=>exact h.oneCell
 | agg | tup | undef | junk=>cases h1
 | ptr | rowp | func | meth | iface=>rfl
 | elem _ _ _ _ _ _ _ _ _ _ h=>exact h
 | sl _ _ _ _ _ _ _ _ _ _ _ h=>exact h
theorem VR.pure_FR {v:PV} {c:Value} (h:VR g v c) (hp:v.pure=true):FR g.fz v c:=by
 induction h with
 | data v c h=>exact h
 | func f caps cs _ hl _ _ =>
  simp only[PV.pure,List.isEmpty_iff] at hp
  subst hp
  have:cs=#[]:=by simpa using hl.symm
  subst this
  exact .func f
 | iface t v c _ ih=>exact .iface t v c (ih hp)
 | _=>cases hp
theorem zsu (s:ByteArray):(.string ⟨s.data.toList.toArray⟩:Value)=.string s:=by simp
theorem zmN {t:TypeId} {v:Value} {p:PV} (h:cV P t v=some p):FR g.fz p v:=by
 unfold cV at h
 split at h <;> first
  | (cases h;done)
  | (simp only[Option.some.injEq] at h;subst h;first | exact .bool _ | exact .int _ _ | exact .nils _ _ | exact .nili | exact .nilf | exact .nilp | (rename_i s;have:=FR.str (fz:=g.fz) s.data.toList;rwa [zsu] at this))
theorem zwI:∀ (l:List (Value × TypeId)) (z:List PV),l.mapM (fun (x:Value × TypeId)=>cV P x.2 x.1)=some z→z.length=l.length∧∀ (j:Nat) (p:PV),z[j]?=some p→∃ x:Value × TypeId,l[j]?=some x∧cV P x.2 x.1=some p:=by
 intro l
 induction l with
 | nil=>intro z hz;simp at hz;subst hz;exact⟨rfl,fun j p h=>by simp at h⟩
 | cons x l ih =>
  intro z hz
  rw[List.mapM_cons] at hz
  simp only[Option.bind_eq_bind,Option.bind_eq_some_iff,Option.pure_def,Option.some.injEq] at hz
  obtain⟨p,hp,r,hr,rfl⟩:=hz
  obtain⟨h1,h2⟩:=ih r hr
  refine⟨by simp[h1],fun j q hq=>?_⟩
  cases j with
  | zero=>simp at hq;subst hq;exact⟨x,rfl,hp⟩
  | succ j=>simp at hq;simpa using h2 j q hq
theorem zzh {t:TypeId} {v:Value} {p:PV} (h:cVA P t v=some p):VR g p v:=by
 unfold cVA at h
 split at h
 ·rename_i cs
  split at h
  ·rename_i ts hts
   split at h
   ·rename_i hl
    rw[Option.map_eq_some_iff] at h
    obtain⟨vs,hz,rfl⟩:=h
    obtain⟨h1,h2⟩:=zwI _ vs hz
    refine .agg vs cs (by rw[h1,List.length_zip];simp;omega) fun i u hi=>?_
    obtain⟨x,hx,hc⟩:=h2 i u hi
    have hx':=List.getElem?_zip_eq_some.1 hx
    rw[Array.getD_eq_getD_getElem?]
    have:cs[i]?=some x.1:=by simpa using hx'.1
    rw[this]
    exact .data _ _ (zmN hc)
   cases h
  cases h
 cases h
structure Rel (g:Gh) (ac:Ac) (a:Act) (w:World):Prop where
 wr:WR g ac.S w
 env:∀ t,VR g (ac.e t) (a.eval (.tmp t))
theorem Rel.ev {ac:Ac} {a:Act} (h:Rel g ac a w) {t:TypeId} {x:Operand} {x':X} (hx:cX P t x=some x'):VR g (ac.ev x') (a.eval x):=by
 cases x with
 | tmp n=>simp only[cX,Option.some.injEq] at hx;subst hx;exact h.env n
 | const v =>
  simp only[cX] at hx
  split at hx
  ·rename_i p hp
   obtain rfl:=Option.some.inj hx
   exact .data _ _ (zmN hp)
  obtain⟨p,hp,rfl⟩:=Option.map_eq_some_iff.1 hx
  exact zzh hp
 | global n=>cases hx
 | func f=>simp only[cX,Option.some.injEq] at hx;subst hx;exact .data _ _ (.func f)
structure Seen (g:Gh) (w:World) (z:Nat) (rows:List (List PV)) (full:Bool) (A:Option Addr) (cap:Nat) (cs:Nat→Nat→Value):Prop where
 le:rows.length≤cap
 full:full=true→cap=rows.length
 each:∀ r ∈ rows,r.length=z
 addr:rows≠[]→∃ ad,A=some ad∧ad.spot=none
 cell:∀ ad i j row v,A=some ad→rows[i]?=some row→row[j]?=some v→w.cell? ⟨ad.block,ad.off+(i*z+j),none⟩=some (cs i j)
 fr:∀ i j row v,rows[i]?=some row→row[j]?=some v→FR g.fz v (cs i j)
theorem seen {v:PV} {c:Value} {z:Nat} {rows:List (List PV)} {full:Bool} (hw:WR g S w) (h:VR g v c) (hv:view S v=some (z,rows,full)):∃ A cap cs,c=.slice A rows.length cap∧Seen g w z rows full A cap cs:=by
 cases v <;> try cases hv
 case nils =>
  cases h with | data _ _ h=>cases h with | nils z A=>exact⟨A,0,(fun _ _=>Go.undef),rfl,⟨Nat.le_refl _,(fun _=>rfl),(fun r hr=>by cases hr),(fun h=>absurd rfl h),(fun _ i _ _ _ _ h=>by simp at h),(fun i _ _ _ h=>by simp at h)⟩⟩
 case list =>
  cases h with | data _ _ h=>cases h with | list _ _ _ A cap cs hl hf hs hA hc hv=>exact⟨A,cap,cs,rfl,⟨hl,hf,hs,hA,fun ad i j row v h1 h2 h3=>hw.fz _ _ _ (hc ad i j row v h1 h2 h3),hv⟩⟩
 case sl n a off len ver gen f =>
  simp only[view] at hv
  cases hA:getArr S n a with
  | none=>simp[hA] at hv
  | some R =>
   simp only[hA] at hv
   split at hv
   ·rename_i hcur
    simp only[Option.some.injEq,Prod.mk.injEq] at hv
    obtain⟨rfl,rfl,rfl⟩:=hv
    cases h with
    | data _ _ h=>cases h
    | sl _ _ _ _ _ _ _ ai _ ha hle _ hs =>
     obtain⟨R',hR',hr⟩:=hw.arr n a ai ha
     obtain rfl:R=R':=Option.some.inj (hA.symm.trans hR')
     obtain⟨A,cap,rfl,sa⟩:=hs (hr.gen.trans hcur.1) (hr.len.trans hcur.2)
     have hfit:off+len≤R.rows.length:=by rw[←hr.len];exact sa.fits
     have hlen:((R.rows.drop off).take len).length=len:=by rw[List.length_take,List.length_drop];omega
     have hget:∀ i row,((R.rows.drop off).take len)[i]?=some row→R.rows[off+i]?=some row∧i < len:=by
      intro i row hi
      rw[List.getElem?_take] at hi
      split at hi
      ·rename_i hlt
       rw[List.getElem?_drop] at hi
       exact⟨hi,hlt⟩
      cases hi
     obtain⟨cs,h1,h2⟩:=hr.cells
     refine⟨A,cap,fun i j=>cs (off+i) j,by rw[hlen],⟨by rw[hlen];exact sa.le,fun hf=>by rw[hlen];exact sa.whole hf,fun r hr'=>hr.each r (List.mem_of_mem_drop (List.mem_of_mem_take hr')),?_,?_,?_⟩⟩
     ·intro hne
      have hpos:0 < len:=by
       rcases Nat.eq_zero_or_pos len with h0 | h0
       ·subst h0;simp at hne
       exact h0
      obtain⟨ad,_,_,h5⟩:=sa.pos hpos
      exact⟨_,h5,rfl⟩
     ·intro ad i j row v had hi hj
      obtain⟨hi',hlt⟩:=hget i row hi
      obtain⟨ad',h3,h4,h5⟩:=sa.pos (by omega)
      rw[had] at h5
      obtain rfl:=Option.some.inj h5
      have:=(h2 ad' (off+i) j row v h3 hi' hj).1
      rw[show ad'.off+off*ai.sz+(i*R.sz+j)=ad'.off+((off+i)*R.sz+j) by rw[hr.sz,Nat.add_mul];omega]
      exact this
     intro i j row v hi hj
     exact h1 (off+i) j row v (hget i row hi).1 hj
   cases hv
end
section
variable [Base] {g:Gh} {S:Sto} {w:World} {P:Program}
theorem ziS {t:TypeId} {d:TypeDesc} (h:P.underlying t=some d):∃ i,P.info? t=some i:=by
 unfold Program.underlying at h
 cases hi:P.info? t with
 | none=>simp[hi] at h
 | some i=>exact⟨i,rfl⟩
theorem zaL {t:TypeId} {i:TypeInfo} (h:P.info? t=some i):P.cellsOf t=i.size:=by simp[Program.cellsOf,h]
theorem zxz (n:Nat):∀ vs:List PV,PV.upN n (.agg vs)=.agg (vs.map (PV.upN n)):=by
 induction n with
 | zero=>intro vs;simp[PV.upN]
 | succ n ih =>
  intro vs
  simp only[PV.upN,ih,PV.up]
  congr 1
  apply List.ext_getElem?
  intro i
  rw[zfq,List.getElem?_map,List.getElem?_map,Option.map_map]
  rfl
theorem zry (n:Nat) (k:Option Nat) (cs:List PV) (o:Nat):(pickC k cs o).map (PV.upN n)=pickC k (cs.map (PV.upN n)) o:=by
 cases k with
 | none=>simp[pickC]
 | some k =>
  simp only[pickC,List.length_map]
  split
  ·simp only[Option.map_some,zxz,Option.some.injEq,PV.agg.injEq]
   rw[List.map_take,List.map_drop]
  rfl
theorem zgA {t:TypeId} {d:TypeDesc} (h:P.underlying t=some d) (hd:d.isRow=false) (w:World):(isAgg t).run P w=.ok false w:=by
 unfold isAgg
 rw[Sem.run_bind,run_underlying h w]
 cases d <;> simp_all
def zp6 (g:Gh) (w:World) (b p:Nat) (vs:List PV):Prop:=∀ j v,vs[j]?=some v→∃ u,w.cell? ⟨b,p+j,none⟩=some u∧VR g v u
theorem zjT {t:TypeId} (h:kOf P t=some none):∃ d,P.underlying t=some d∧d.isRow=false∧P.cellsOf t=1:=by
 unfold kOf at h
 split at h
 ·cases h
 ·cases h
 ·cases h
 rename_i d _ _ hd
 split at h
 ·rename_i h1
  refine⟨d,hd,?_,h1⟩
  cases d <;> first | rfl | (exfalso;simp_all)
 cases h
theorem zjO {t:TypeId} {k:Nat} (h:kOf P t=some (some k)):∃ fs,P.underlying t=some (.struct fs)∧P.cellsOf t=k:=by
 unfold kOf at h
 split at h
 ·rename_i fs hd
  simp only[Option.some.injEq] at h
  exact⟨fs,hd,h⟩
 ·cases h
 ·cases h
 split at h <;> cases h
theorem zln {b p o:Nat} {vs:List PV} (hl:zp6 g w b p vs) {t:TypeId} {k:Option Nat} (hk:kOf P t=some k) {v:PV} (hv:pickC k vs o=some v) :
  ∃ c,(Instr.loadAt t (.pointer (some ⟨b,p+o,none⟩))).run P w=.ok c w∧VR g v c:=by
 cases k with
 | none =>
  obtain⟨d,hu,hd,_⟩:=zjT hk
  obtain⟨c,hc,hr⟩:=hl o v hv
  refine⟨c,?_,hr⟩
  simp[Instr.loadAt,Instr.sureAddr,loadVar,Sem.run_bind,zgA hu hd,load,Sem.run,hc]
 | some k =>
  obtain⟨fs,hu,hs⟩:=zjO hk
  simp only[pickC] at hv
  split at hv
  ·rename_i hle
   simp only[Option.some.injEq] at hv
   subst hv
   have hget:∀ j,j < k→∃ v u,vs[o+j]?=some v∧w.cell? ⟨b,p+(o+j),none⟩=some u∧VR g v u:=by
    intro j hj
    have hlt:o+j < vs.length:=by omega
    obtain⟨u,h1,h2⟩:=hl (o+j) _ (List.getElem?_eq_getElem hlt)
    exact⟨_,u,List.getElem?_eq_getElem hlt,h1,h2⟩
   let cs:List Value:=(List.range k).map fun j=>(w.cell? ⟨b,p+(o+j),none⟩).getD undef
   have hcs:cs.length=k:=by simp[cs]
   have hra:w.rangeAt b (p+o) cs:=by
    intro j u hj
    have hjk:j < k:=by rw[←hcs];exact (List.getElem?_eq_some_iff.1 hj).1
    simp only[cs,List.getElem?_map,List.getElem?_range hjk,Option.map_some,Option.some.injEq] at hj
    subst hj
    obtain⟨v,u,_,h1,_⟩:=hget j hjk
    rw[Nat.add_assoc,h1]
    rfl
   obtain⟨i,hi⟩:=ziS hu
   refine⟨.agg cs.toArray,run_loadAt_mid w b (p+o) t cs _ hra hu rfl (by rw[hi,hcs,←hs,zaL hi];rfl),?_⟩
   refine .agg _ _ (by simp[hcs];omega) fun j v hj=>?_
   rw[List.getElem?_take] at hj
   split at hj
   ·rename_i hjk
    rw[List.getElem?_drop] at hj
    obtain⟨v',u,h1,h2,h3⟩:=hget j hjk
    rw[hj] at h1
    obtain rfl:=Option.some.inj h1
    have:cs.toArray.getD j undef=u:=by
     simp only[cs,Array.getD_eq_getD_getElem?,List.getElem?_toArray,List.getElem?_map,List.getElem?_range hjk,Option.map_some,h2,Option.getD_some]
    rw[this]
    exact h3
   cases hj
  cases hv
theorem ztB (hw:WR g S w) {n t b:Nat} (hb:g.b n t=some b) {cs:List PV} (hc:getBox S n t=some cs):zp6 g w b 0 (cs.map (PV.upN n)):=by
 obtain⟨vs,us,elem,h1,h2,h3,h4,_⟩:=hw.box n t b hb
 obtain rfl:cs=vs:=Option.some.inj (hc.symm.trans h1)
 intro j v hj
 rw[List.getElem?_map,Option.map_eq_some_iff] at hj
 obtain⟨v',hv',rfl⟩:=hj
 have hlt:j < us.size:=by rw[←h3];exact (List.getElem?_eq_some_iff.1 hv').1
 refine⟨us.getD j undef,?_,h4 j v' hv'⟩
 simp[World.cell?,h2,Array.getD,hlt]
theorem zuz (hw:WR g S w) {b p:Nat} {row:List PV} {cs:Nat→Value} (hc:∀ j v,row[j]?=some v→g.fz b (p+j)=some (cs j)) (hv:∀ j v,row[j]?=some v→FR g.fz v (cs j)):zp6 g w b p row :=
 fun j v hj=>⟨cs j,hw.fz _ _ _ (hc j v hj),.data _ _ (hv j v hj)⟩
theorem zvg (hw:WR g S w) {p:PV} {c:Value} (h:VR g p c) {k:Option Nat} {v:PV} (hl:ld S k p=some v) {t:TypeId} (hk:kOf P t=some k):∃ u,(Instr.loadAt t c).run P w=.ok u w∧VR g v u:=by
 cases p <;> try cases hl
 case ptr n t' o =>
  obtain⟨b,hb,rfl⟩:=h.ptr_inv
  simp only[ld] at hl
  split at hl
  ·rename_i cs hc
   rw[zry] at hl
   have:=zln (P:=P) (ztB hw hb hc) hk hl
   rwa [Nat.zero_add] at this
  cases hl
 case rowp row o =>
  cases h with
  | data _ _ h=>cases h
  | rowp _ _ b p cs hc hv=>exact zln (zuz hw hc hv) hk hl
 case elem n a i o ver gen =>
  simp only[ld] at hl
  split at hl
  ·rename_i R hR
   split at hl
   ·rename_i hcur
    split at hl
    ·rename_i row hrow
     cases h with
     | data _ _ h=>cases h
     | elem _ _ _ _ _ _ ai _ ha hle _ hs =>
      obtain⟨R',hR',hr⟩:=hw.arr n a ai ha
      obtain rfl:R=R':=Option.some.inj (hR.symm.trans hR')
      obtain⟨ad,h1,h2,rfl⟩:=hs (hr.gen.trans hcur.1) (hr.len.trans hcur.2)
      obtain⟨cs,h3,h4⟩:=hr.cells
      have hL:zp6 g w ad.block (ad.off+i*R.sz) row:=fun j v hj=>⟨cs i j,by
       have:=(h4 ad i j row v h1 hrow hj).1
       rwa [Nat.add_assoc],.data _ _ (h3 i j row v hrow hj)⟩
      have:=zln hL hk hl
      rwa [Nat.add_assoc,←hr.sz] at this
    cases hl
   cases hl
  cases hl
def Cells (g:Gh) (vs:List PV) (cs:Array Value):Prop:=vs.length=cs.size∧∀ i v,vs[i]?=some v→VR g v (cs.getD i undef)
theorem VR.cells_ {v:PV} {c:Value} (h:VR g v c) (h1:v.one=true∨∃ vs,v=.agg vs):Cells g v.cells c.cells:=by
 rcases h1 with h1 | ⟨vs,rfl⟩
 ·have e1:v.cells=[v]:=by cases v <;> first | rfl | cases h1
  have e2:c.cells=#[c]:=by
   have:=h.oneCell h1
   cases c <;> first | rfl | cases this
  rw[e1,e2]
  refine⟨rfl,fun i v' hi=>?_⟩
  cases i with
  | zero=>simp at hi;subst hi;simpa using h
  | succ i=>simp at hi
 obtain⟨cs,rfl,h2,h3⟩:=h.agg_inv
 exact⟨h2,h3⟩
theorem zdY:∀ (vs cs:List PV) (o:Nat),(setAt cs o vs).length=cs.length
 | [],cs,o=>rfl
 | v::vs,cs,o=>by rw[setAt,zdY vs];simp
theorem zgi:∀ (vs cs:List PV) (o:Nat) (i:Nat),o+vs.length≤cs.length→(setAt cs o vs)[i]?=if o≤i∧i < o+vs.length then vs[i - o]? else cs[i]?
 | [],cs,o,i,_=>by rw[setAt,if_neg (by simp only[List.length_nil];omega)]
 | v::vs,cs,o,i,h=>by
  simp only[List.length_cons] at h
  rw[setAt,zgi vs _ _ i (by simp;omega)]
  simp only[List.length_cons]
  by_cases h1:i=o
  ·subst h1
   rw[if_neg (by omega),if_pos (by omega),List.getElem?_set_self (by omega)]
   simp
  by_cases h2:o+1≤i∧i < o+1+vs.length
  ·rw[if_pos h2,if_pos (by omega)]
   have:i - o=(i - (o+1))+1:=by omega
   rw[this,List.getElem?_cons_succ]
  rw[if_neg h2,if_neg (by omega),List.getElem?_set_ne (by omega)]
theorem zn4 (cs:Array Value) (us:Array Value) (off:Nat):(us.zipIdx.foldl (fun cs (c,j)=>cs.setIfInBounds (off+j) c) cs).size=cs.size∧∀ i,off+us.size≤cs.size→(us.zipIdx.foldl (fun cs (c,j)=>cs.setIfInBounds (off+j) c) cs)[i]?=if off≤i∧i < off+us.size then us[i - off]? else cs[i]?:=by
 have key:∀ (l:List Value) (k:Nat) (cs:Array Value),(((l.zipIdx k).foldl (fun (cs:Array Value) (x:Value × Nat)=>cs.setIfInBounds (off+x.2) x.1) cs).size=cs.size)∧∀ i,off+k+l.length≤cs.size→((l.zipIdx k).foldl (fun (cs:Array Value) (x:Value × Nat)=>cs.setIfInBounds (off+x.2) x.1) cs)[i]?=if off+k≤i∧i < off+k+l.length then l[i - (off+k)]? else cs[i]?:=by
  intro l
  induction l with
  | nil=>intro k cs;exact⟨rfl,fun i _=>by rw[if_neg (by simp only[List.length_nil];omega)];rfl⟩
  | cons c l ih =>
   intro k cs
   simp only[List.zipIdx_cons,List.foldl_cons,List.length_cons]
   obtain⟨h1,h2⟩:=ih (k+1) (cs.setIfInBounds (off+k) c)
   refine⟨by rw[h1];simp,fun i hle=>?_⟩
   rw[h2 i (by simp;omega)]
   by_cases e:i=off+k
   ·subst e
    rw[if_neg (by omega),if_pos (by omega),Array.getElem?_setIfInBounds_self_of_lt (by omega)]
    simp
   by_cases h3:off+(k+1)≤i∧i < off+(k+1)+l.length
   ·rw[if_pos h3,if_pos (by omega)]
    have:i - (off+k)=(i - (off+(k+1)))+1:=by omega
    rw[this,List.getElem?_cons_succ]
   rw[if_neg h3,if_neg (by omega),Array.getElem?_setIfInBounds_ne (by omega)]
 have h:=key us.toList 0 cs
 have e:us.zipIdx.foldl (fun cs (c,j)=>cs.setIfInBounds (off+j) c) cs=(us.toList.zipIdx 0).foldl (fun (cs:Array Value) (x:Value × Nat)=>cs.setIfInBounds (off+x.2) x.1) cs:=by
  rw[←Array.foldl_toList,Array.toList_zipIdx]
 rw[e]
 refine⟨h.1,fun i hle=>?_⟩
 have:=h.2 i (by simpa using hle)
 simpa using this
theorem Cells.set {vs:List PV} {cs:Array Value} (h:Cells g vs cs) {ps:List PV} {us:Array Value} (hp:Cells g ps us) {off:Nat} (hle:off+ps.length≤vs.length) :
  Cells g (setAt vs off ps) (us.zipIdx.foldl (fun cs (c,j)=>cs.setIfInBounds (off+j) c) cs):=by
 obtain⟨h1,h2⟩:=zn4 cs us off
 have e:=hp.1
 have e2:=h.1
 refine⟨by rw[zdY,h1];exact h.1,fun i v hi=>?_⟩
 rw[zgi ps vs off i hle] at hi
 rw[Array.getD_eq_getD_getElem?,h2 i (by omega)]
 split at hi
 ·rename_i hin
  rw[if_pos (by omega)]
  have:=hp.2 (i - off) v hi
  rwa [Array.getD_eq_getD_getElem?] at this
 rename_i hin
 rw[if_neg (by omega)]
 have:=h.2 i v hi
 rwa [Array.getD_eq_getD_getElem?] at this
theorem zhc {t:TypeId} {z:List PV} (h:cZ P t=some z):∃ i v,P.info? t=some i∧i.zero=some v∧v.cells.size=P.cellsOf t∧Cells g z v.cells∧∀ j p,z[j]?=some p→FR g.fz p (v.cells.getD j undef):=by
 unfold cZ at h
 split at h
 ·rename_i v ts hz hts
  split at h
  ·rename_i hlen
   rw[Option.bind_eq_some_iff] at hz
   obtain⟨i,hi,hz⟩:=hz
   have key:∀ (l:List (Value × TypeId)) (z:List PV),l.mapM (fun (x:Value × TypeId)=>cV P x.2 x.1)=some z→z.length=l.length∧∀ (j:Nat) (p:PV),z[j]?=some p→∃ x:Value × TypeId,l[j]?=some x∧cV P x.2 x.1=some p:=by
    intro l
    induction l with
    | nil=>intro z hz;simp at hz;subst hz;exact⟨rfl,fun j p h=>by simp at h⟩
    | cons x l ih =>
     intro z hz
     rw[List.mapM_cons] at hz
     simp only[Option.bind_eq_bind,Option.bind_eq_some_iff,Option.pure_def,Option.some.injEq] at hz
     obtain⟨p,hp,r,hr,rfl⟩:=hz
     obtain⟨h1,h2⟩:=ih r hr
     refine⟨by simp[h1],fun j q hq=>?_⟩
     cases j with
     | zero=>simp at hq;subst hq;exact⟨x,rfl,hp⟩
     | succ j=>simp at hq;simpa using h2 j q hq
   obtain⟨h1,h2⟩:=key _ z h
   have hf:∀ j p,z[j]?=some p→FR g.fz p (v.cells.getD j undef):=by
    intro j p hp
    obtain⟨x,hx,hc⟩:=h2 j p hp
    have hx':=List.getElem?_zip_eq_some.1 hx
    rw[Array.getD_eq_getD_getElem?]
    have:v.cells[j]?=some x.1:=by simpa using hx'.1
    rw[this]
    exact zmN hc
   exact⟨i,v,hi,hz,hlen.2,⟨by rw[h1,List.length_zip];simp;omega,fun j p hp=>.data _ _ (hf j p hp)⟩,hf⟩
  cases h
 cases h
theorem zyR {t:TypeId} {v:Value}:VR g (cVJ P t v) v:=by
 unfold cVJ
 cases h:cV P t v with
 | none=>exact .junk v
 | some p=>exact .data _ _ (zmN h)
theorem zzO {t:TypeId} {z:List PV} (h:cZJ P t=some z):∃ i v,P.info? t=some i∧i.zero=some v∧v.cells.size=P.cellsOf t∧Cells g z v.cells:=by
 unfold cZJ at h
 split at h
 ·rename_i v ts hz hts
  split at h
  ·rename_i hlen
   rw[Option.bind_eq_some_iff] at hz
   obtain⟨i,hi,hz⟩:=hz
   obtain rfl:=Option.some.inj h
   refine⟨i,v,hi,hz,hlen.2,⟨by rw[List.length_map,List.length_zip];simp;omega,fun j p hp=>?_⟩⟩
   rw[List.getElem?_map,Option.map_eq_some_iff] at hp
   obtain⟨x,hx,rfl⟩:=hp
   have hx':=List.getElem?_zip_eq_some.1 hx
   rw[Array.getD_eq_getD_getElem?]
   have:v.cells[j]?=some x.1:=by simpa using hx'.1
   rw[this]
   exact zyR
  cases h
 cases h
end
section
variable [Base] {g:Gh} {S:Sto} {w:World} {P:Program}
theorem ziA (l:List UInt8):(⟨l.toArray⟩:ByteArray).toList=l:=by rw[ByteArray.toList_eq]
theorem zfu (l:List UInt8):(⟨l.toArray⟩:ByteArray).size=l.length:=by show l.toArray.size=_;simp
theorem zth (a b:List UInt8):(⟨a.toArray⟩++⟨b.toArray⟩:ByteArray)=⟨(a++b).toArray⟩:=by
  apply ByteArray.ext
  simp
theorem zfs {α:Type} [BEq α] [LawfulBEq α] [DecidableEq α] (a b:α):(a==b)=decide (a=b):=by
  by_cases h:a=b <;> simp[h]
theorem zxa {α:Type} [BEq α] [LawfulBEq α] [DecidableEq α] (a b:α):(a != b)=decide (a≠b):=by
  by_cases h:a=b <;> simp[h]
theorem zzf {op:BinOp} {t:TypeId} {x y:Operand} {p q v:PV} {a b:Value} (ha:VR g p a) (hb:VR g q b) (h:binP op p q=some v) :
    ∃ c,(do eqGuard op t x y a b;binOp op t a b:Sem Value).run P w=.ok c w∧VR g v c:=by
  unfold binP at h
  split at h
  ·rename_i k m k' n
   obtain rfl:=ha.int_inv
   obtain rfl:=hb.int_inv
   rw[eqGuard_at_int]
   have key:∀ op,k=k'→binInt op k m n=some v→∃ c,(binOp op t (.int k m) (.int k' n)).run P w=.ok c w∧VR g v c:=by
     intro op hk h
     subst hk
     cases op <;> simp only[binInt,reduceCtorEq] at h <;> first
       | (split at h
          ·cases h
          rename_i hz
          obtain rfl:=Option.some.inj h
          refine⟨_,?_,.data _ _ (.int _ _)⟩
          simp[binOp,Op.intDiv,hz])
       | (obtain rfl:=Option.some.inj h
          refine⟨_,?_,.data _ _ (.int _ _)⟩
          simp[binOp,Op.intArith]
          done)
       | (obtain rfl:=Option.some.inj h
          refine⟨_,?_,.data _ _ (.bool _)⟩
          simp[binOp,Op.intCmp,zfs,zxa])
   cases op <;> dsimp only at h <;> first
     | (cases h;done)
     | (split at h
        ·rename_i hk
         first
         | exact key _ hk h
         | (obtain rfl:=Option.some.inj h
            refine⟨_,?_,.data _ _ (.int _ _)⟩
            have:binOp .shr t (.int k m) (.int k' n)=Op.shift .shr k m k' n:=by simp[binOp]
            simp[this,shift_shr_any k k' m n hk])
        cases h)
  ·rename_i s u
   obtain rfl:=ha.str_inv
   obtain rfl:=hb.str_inv
   rw[eqGuard_at_string]
   cases op <;> simp only[binStr] at h <;> first
     | (cases h;done)
     | (split at h
        ·rename_i hle
         obtain rfl:=Option.some.inj h
         refine⟨_,?_,.data _ _ (.str _)⟩
         have h1:¬ (IntKind.i64.max < (s.length:Int)+(u.length:Int)):=by
           simp only[zaO] at hle
           have:IntKind.i64.max=9223372036854775807:=by decide
           omega
         simp only[pure_bind,binOp,Op.stringOp,zfu,zth]
         rw[if_neg (by push_cast;exact h1)]
         rfl
        cases h)
     | (obtain rfl:=Option.some.inj h
        refine⟨_,?_,.data _ _ (.bool _)⟩
        simp[binOp,Op.stringOp,ziA,zfs,bytesLess])
  cases h
theorem zpr {neg:Bool} {t:TypeId} (ht:P.underlying t=some .bool) {x y:Operand} {p q v:PV} {a b:Value} (ha:VR g p a) (hb:VR g q b) (h:binB neg p q=some v) :
    ∃ c,(do eqGuard (if neg then .neq else .eql) t x y a b;binOp (if neg then .neq else .eql) t a b:Sem Value).run P w=.ok c w∧VR g v c:=by
  unfold binB at h
  split at h
  ·rename_i s u
   obtain rfl:=ha.bool_inv
   obtain rfl:=hb.bool_inv
   rw[eqGuard_at_bool]
   simp only[Option.some.injEq] at h
   subst h
   refine⟨_,?_,.data _ _ (.bool _)⟩
   cases neg
   ·simp[run_eql_bool w t s u ht,zfs]
   have:(!(s==u))=decide (s≠u):=by cases s <;> cases u <;> rfl
   simp[run_neq_bool w t s u ht,this]
  cases h
theorem zAs {op:UnOp} {p v:PV} {a:Value} (ha:VR g p a) (h:unP op p=some v):∃ c,(Op.unary op a).run P w=.ok c w∧VR g v c:=by
  unfold unP at h
  split at h
  ·obtain rfl:=ha.int_inv
   simp only[Option.some.injEq] at h;subst h
   exact⟨_,by simp only[Op.unary,Op.intArith];rfl,.data _ _ (.int _ _)⟩
  ·obtain rfl:=ha.bool_inv
   simp only[Option.some.injEq] at h;subst h
   exact⟨_,by simp only[Op.unary];rfl,.data _ _ (.bool _)⟩
  cases h
end
section
variable [Base] {g:Gh} {S:Sto} {w:World} {P:Program}
theorem zeo {ad:Addr} (h:ad.spot=none) (n:Nat):ad.add n=⟨ad.block,ad.off+n,none⟩:=by
  obtain⟨b,o,s⟩:=ad
  simp only at h
  subst h
  exact Addr.add_mid b o n
def zgz (g:Gh):Option PV→Option Value→Prop
  | none,none=>True
  | some p,some c=>VR g p c
  | _,_=>False
theorem zoa {d:Nat} {p:Option PV} {c:Option Value} (h:zgz g p c) {a:Nat} (hi:idx d p=some a):(p=none∧c=none∧a=d)∨(∃ k i,c=some (.int k i)∧p≠none∧0≤i∧a=i.toNat):=by
  unfold idx at hi
  split at hi
  ·cases c with
   | none=>exact .inl ⟨rfl,rfl,(Option.some.inj hi).symm⟩
   | some c=>exact h.elim
  ·rename_i k i
   split at hi
   ·rename_i h0
    cases c with
    | none=>exact h.elim
    | some c =>
      obtain rfl:=VR.int_inv h
      exact .inr ⟨k,i,rfl,(fun e=>by cases e),h0,(Option.some.inj hi).symm⟩
   cases hi
  cases hi
theorem zmn {lo hi mx:Option PV} {lo' hi' mx':Option Value} (hlo:zgz g lo lo') (hhi:zgz g hi hi') (hmx:zgz g mx mx') {l cap a b m:Nat} (h1:idx 0 lo=some a) (h2:idx l hi=some b) (h3:idx l mx=some m)
    (hab:a≤b) (hbm:b≤m) (hml:m≤l) (hlc:l≤cap) (hm:mx.isNone∨hi.isSome∧m=b) (isS:Bool):(Instr.sliceBounds isS l cap lo' hi' mx').run P w=.ok (a,b,if mx.isNone then cap else m) w:=by
  rcases zoa hlo h1 with⟨rfl,rfl,rfl⟩ | ⟨k1,i1,rfl,n1,p1,rfl⟩ <;> rcases zoa hhi h2 with⟨rfl,rfl,rfl⟩ | ⟨k2,i2,rfl,n2,p2,rfl⟩ <;> rcases zoa hmx h3 with⟨rfl,rfl,rfl⟩ | ⟨k3,i3,rfl,n3,p3,rfl⟩
  ·simp[Instr.sliceBounds]
  ·rcases hm with hm | hm
   ·exact absurd (by simpa using hm) n3
   simp at hm
  ·simp[Instr.sliceBounds,run_sliceBound w k2 i2 cap _ p2 (by omega)]
  ·have e:mx.isNone=false:=by cases mx <;> simp_all
   simp[Instr.sliceBounds,e,run_sliceBound w k3 i3 cap _ p3 (by omega),run_sliceBound w k2 i2 i3.toNat _ p2 (by omega)]
  ·simp[Instr.sliceBounds,run_sliceBound w k1 i1 m _ p1 (by omega)]
  ·rcases hm with hm | hm
   ·exact absurd (by simpa using hm) n3
   simp at hm
  ·simp[Instr.sliceBounds,run_sliceBound w k2 i2 cap _ p2 (by omega),run_sliceBound w k1 i1 i2.toNat _ p1 (by omega)]
  have e:mx.isNone=false:=by cases mx <;> simp_all
  simp[Instr.sliceBounds,e,run_sliceBound w k3 i3 cap _ p3 (by omega),run_sliceBound w k2 i2 i3.toNat _ p2 (by omega),run_sliceBound w k1 i1 i2.toNat _ p1 (by omega)]
theorem zuf {sz:Nat} {v u:PV} {lo hi mx:Option PV} (h:slcP S sz v lo hi mx=some u):∃ l full a b m,idx 0 lo=some a∧idx l hi=some b∧idx l mx=some m∧a≤b∧b≤m∧m≤l∧(mx.isNone∨hi.isSome∧m=b) ∧
    ((∃ z,v=.nils z∧l=0∧u=.nils z)∨(∃ rows,v=.list sz rows full∧l=rows.length∧u=.list sz ((rows.drop a).take (b - a)) (fullOf mx full b l)) ∨
     (∃ n t off ver gen A,v=.sl n t off l ver gen full∧getArr S n t=some A∧A.gen=gen∧A.rows.length=ver∧A.sz=sz∧u=.sl n t (off+a) (b - a) ver gen (fullOf mx full b l))):=by
  have key:∀ (l:Nat) (full:Bool) (k:Nat→Nat→Bool→PV),slcGo lo hi mx l full k=some u→∃ a b m,idx 0 lo=some a∧idx l hi=some b∧idx l mx=some m∧a≤b∧b≤m∧m≤l∧(mx.isNone∨hi.isSome∧m=b)∧u=k a (b - a) (fullOf mx full b l):=by
    intro l full k h
    unfold slcGo at h
    split at h
    ·rename_i a b m h1 h2 h3
     split at h
     ·rename_i hc
      exact⟨a,b,m,h1,h2,h3,hc.1,hc.2.1,hc.2.2.1,hc.2.2.2,(Option.some.inj h).symm⟩
     cases h
    cases h
  cases v <;> try cases h
  case nils z =>
    simp only[slcP] at h
    obtain⟨a,b,m,h1,h2,h3,h4,h5,h6,h7,rfl⟩:=key 0 true _ h
    exact⟨0,true,a,b,m,h1,h2,h3,h4,h5,h6,h7,.inl ⟨z,rfl,rfl,rfl⟩⟩
  case list z rows f =>
    simp only[slcP] at h
    split at h
    ·rename_i hz
     subst hz
     obtain⟨a,b,m,h1,h2,h3,h4,h5,h6,h7,rfl⟩:=key rows.length f _ h
     exact⟨rows.length,f,a,b,m,h1,h2,h3,h4,h5,h6,h7,.inr (.inl ⟨rows,rfl,rfl,rfl⟩)⟩
    cases h
  case sl n t off len ver gen f =>
    simp only[slcP] at h
    split at h
    ·rename_i A hA
     split at h
     ·rename_i hc
      obtain⟨a,b,m,h1,h2,h3,h4,h5,h6,h7,rfl⟩:=key len f _ h
      exact⟨len,f,a,b,m,h1,h2,h3,h4,h5,h6,h7,.inr (.inr ⟨n,t,off,ver,gen,A,rfl,hA,hc.1,hc.2.1,hc.2.2,rfl⟩)⟩
     cases h
    cases h
theorem zzI (hw:WR g S w) {t e:TypeId} (ht:P.underlying t=some (.slice e)) {v u:PV} {c:Value} {lo hi mx:Option PV} {lo' hi' mx':Option Value} (hv:VR g v c) (hlo:zgz g lo lo') (hhi:zgz g hi hi') (hmx:zgz g mx mx')
    (he:∃ i,P.info? e=some i) (h:slcP S (P.cellsOf e) v lo hi mx=some u):∃ c',(Instr.sliceAt t c lo' hi' mx').run P w=.ok c' w∧VR g u c':=by
  obtain⟨ie,hie⟩:=he
  have hsz:ie.size=P.cellsOf e:=(zaL hie).symm
  obtain⟨l,full,a,b,m,h1,h2,h3,hab,hbm,hml,hm,hk⟩:=zuf h
  have run:∀ A cap,l≤cap→(Instr.sliceAt t (.slice A l cap) lo' hi' mx').run P w=.ok (.slice (if (if mx.isNone then cap else m)=a then A else A.map (·.add (a*P.cellsOf e))) (b - a) ((if mx.isNone then cap else m) - a)) w:=by
    intro A cap hlc
    have hb:=zmn (P:=P) (w:=w) hlo hhi hmx h1 h2 h3 hab hbm hml hlc hm true
    have:(Instr.sliceAt t (.slice A l cap) lo' hi' mx').run P w=(Instr.slice t (.slice A l cap) lo' hi' mx').run P w:=by
      simp[Instr.sliceAt,run_underlying ht]
    rw[this]
    simp only[Instr.slice,Sem.run_bind,run_underlying ht,Result.andThen_ok,hb]
    simp[sizeOf,typeInfo,hie,hsz]
  have hfull:∀ cap,l≤cap→(full=true→cap=l)→(fullOf mx full b l)=true→(if mx.isNone then cap else m) - a=b - a:=by
    intro cap hlc hf hh
    cases mx with
    | none =>
      simp[fullOf] at hh
      have:=hf hh.1
      simp
      omega
    | some x =>
      simp only[Option.isNone_some] at hm ⊢
      rcases hm with hm | hm
      ·cases hm
      simp;omega
  have hge:∀ cap,l≤cap→b≤(if mx.isNone then cap else m):=by intro cap hlc;split <;> omega
  rcases hk with⟨z,rfl,rfl,rfl⟩ | ⟨rows,rfl,rfl,rfl⟩ | ⟨n,t',off,ver,gen,R,rfl,hR,hg1,hg2,hg3,rfl⟩
  ·cases hv with
   | data _ _ hv =>
     cases hv with
     | nils _ A =>
       refine⟨_,run A 0 (Nat.le_refl _),?_⟩
       have e1:b - a=0:=by omega
       have e2:(if mx.isNone then 0 else m) - a=0:=by split <;> omega
       rw[e1,e2]
       exact .data _ _ (.nils _ _)
  ·cases hv with
   | data _ _ hv =>
     cases hv with
     | list _ _ _ A cap cs hl hf hs hA hc hv =>
       refine⟨_,run A cap hl,?_⟩
       have hlen:((rows.drop a).take (b - a)).length=b - a:=by rw[List.length_take,List.length_drop];omega
       have hget:∀ i row,((rows.drop a).take (b - a))[i]?=some row→rows[a+i]?=some row∧i < b - a:=by
         intro i row hi
         rw[List.getElem?_take] at hi
         split at hi
         ·rename_i hlt
          rw[List.getElem?_drop] at hi
          exact⟨hi,hlt⟩
         cases hi
       have hle:=hge cap hl
       have key:=FR.list (fz:=g.fz) (P.cellsOf e) ((rows.drop a).take (b - a)) (fullOf mx full b rows.length)
         (if (if mx.isNone then cap else m)=a then A else A.map (·.add (a*P.cellsOf e))) ((if mx.isNone then cap else m) - a) (fun i j=>cs (a+i) j) (by rw[hlen];omega)
         (fun h=>by rw[hlen];exact hfull cap hl hf h) (fun r hr=>hs r (List.mem_of_mem_drop (List.mem_of_mem_take hr))) ?_ ?_ (fun i j row v hi hj=>hv (a+i) j row v (hget i row hi).1 hj)
       ·rw[hlen] at key
        exact .data _ _ key
       ·intro hne
        have hpos:0 < b - a:=by
          rcases Nat.eq_zero_or_pos (b - a) with h0 | h0
          ·rw[h0] at hne;simp at hne
          exact h0
        obtain⟨ad,rfl,hsp⟩:=hA (fun e=>by rw[e] at hlen;simp at hlen;omega)
        rw[if_neg (by omega)]
        exact⟨_,rfl,by simp only[zeo hsp]⟩
       intro ad i j row v had hi hj
       obtain⟨hi',hlt⟩:=hget i row hi
       obtain⟨ad0,rfl,hsp⟩:=hA (fun e=>by rw[e] at hi';simp at hi')
       rw[if_neg (by omega)] at had
       simp only[Option.map_some,Option.some.injEq] at had
       subst had
       rw[zeo hsp]
       have:=hc ad0 (a+i) j row v rfl hi' hj
       rw[Nat.add_mul] at this
       rw[show ad0.off+a*P.cellsOf e+(i*P.cellsOf e+j)=ad0.off+(a*P.cellsOf e+i*P.cellsOf e+j) by omega]
       exact this
  cases hv with
  | data _ _ hv=>cases hv
  | sl _ _ _ _ _ _ _ ai _ ha hle h1c hs =>
    obtain⟨R',hR',hr⟩:=hw.arr n t' ai ha
    obtain rfl:R=R':=Option.some.inj (hR.symm.trans hR')
    obtain⟨A,cap,rfl,sa⟩:=hs (hr.gen.trans hg1) (hr.len.trans hg2)
    refine⟨_,run A cap sa.le,.sl _ _ _ _ _ _ _ ai _ ha hle rfl fun _ _=>⟨_,_,rfl,?_⟩⟩
    have hle':=hge cap sa.le
    have e1:ai.sz=P.cellsOf e:=hr.sz.trans hg3
    refine⟨by have:=sa.fits;omega,by omega,?_,?_,?_,?_⟩
    ·intro h0
     have h01:off=0:=by omega
     have h02:a=0:=by omega
     subst h02
     rw[←sa.zero h01]
     have e0:A.map (·.add (0*P.cellsOf e))=A:=by cases A <;> simp[Addr.add]
     rw[e0]
     simp
    ·intro hp
     obtain⟨ad,q1,q2,q3⟩:=sa.pos (by omega)
     refine⟨ad,q1,q2,?_⟩
     rw[if_neg (by omega),q3]
     simp only[Option.map_some]
     rw[zeo rfl,←e1,Nat.add_mul,Nat.add_assoc]
    ·exact fun hh=>hfull cap sa.le sa.whole hh
    intro h0 hl hh
    have h01:off=0:=by omega
    have h02:a=0:=by omega
    subst h02
    have hfit:=sa.fits
    cases mx with
    | some x=>simp[fullOf] at hh
    | none =>
      simp only[Option.isNone_none,if_true,Nat.sub_zero,fullOf] at *
      have hbl:b=l:=by omega
      simp only[hbl,decide_true,Bool.and_true] at hh
      exact sa.open_ h01 (by omega) hh
end
section
variable [Base] {g:Gh} {S:Sto} {w:World} {P:Program}
theorem zns (n:Int) (h0:0≤n) (h1:n < 128):Utf8.encode n=⟨[UInt8.ofNat n.toNat].toArray⟩:=by
 have hv:Utf8.valid n=true:=by simp[Utf8.valid];omega
 unfold Utf8.encode
 simp only[hv,if_true]
 rw[if_pos (by omega)]
theorem zjA:∀ (rows:List (List PV)) (s:List UInt8),bytesOf rows=some s→rows.length=s.length∧∀ (i:Nat) (row:List PV),rows[i]?=some row→∃ n,row=[.int .u8 n]∧s[i]?=some (UInt8.ofNat n.toNat)
 | [],s,h=>by
  simp only[bytesOf,Option.some.injEq] at h
  subst h
  exact⟨rfl,fun i row h=>by simp at h⟩
 | r::rows,s,h=>by
  unfold bytesOf at h
  split at h
  ·rename_i e
   cases e
  ·rename_i n r' e
   cases e
   rw[Option.map_eq_some_iff] at h
   obtain⟨s',hs',rfl⟩:=h
   obtain⟨h1,h2⟩:=zjA _ s' hs'
   refine⟨by simp[h1],fun i row hi=>?_⟩
   cases i with
   | zero=>simp at hi;subst hi;exact⟨n,rfl,rfl⟩
   | succ i=>simp at hi;simpa using h2 i row hi
  cases h
theorem zqX (ns:List Int) (s:ByteArray):ns.foldl (fun r n=>r.push (UInt8.ofNat n.toNat)) s=s++⟨(ns.map fun n=>UInt8.ofNat n.toNat).toArray⟩:=by
 induction ns generalizing s with
 | nil=>apply ByteArray.ext;simp
 | cons n ns ih =>
  rw[List.foldl_cons,ih]
  apply ByteArray.ext
  simp
theorem ztm {s t:TypeId} {k k':IntKind} (hs:P.underlying s=some (.int k')) (ht:P.underlying t=some (.int k)) {p v:PV} {a:Value} (ha:VR g p a) (h:convP S (.int k) p=some v):∃ u,(convert s t a).run P w=.ok u w∧VR g v u:=by
 cases p <;> try (simp[convP] at h;done)
 obtain rfl:=ha.int_inv
 obtain rfl:=Option.some.inj h
 refine⟨_,?_,.data _ _ (.int _ _)⟩
 simp[convert,run_underlying hs,run_underlying ht,Conv.intToInt]
theorem zuK {s t:TypeId} {k':IntKind} (hs:P.underlying s=some (.int k')) (ht:P.underlying t=some .string) {p v:PV} {a:Value} (ha:VR g p a) (h:convP S .chr p=some v):∃ u,(convert s t a).run P w=.ok u w∧VR g v u:=by
 cases p <;> try (simp[convP] at h;done)
 rename_i k0 n
 obtain rfl:=ha.int_inv
 simp only[convP] at h
 split at h
 ·rename_i hn
  obtain rfl:=Option.some.inj h
  refine⟨_,?_,.data _ _ (.str _)⟩
  rw[run_convert_int_string w s t k0 n (by simp[hs]) ht,zns n hn.1 hn.2]
 cases h
theorem zw4 {s t:TypeId} (hs:P.underlying s=some .string) (ht:P.underlying t=some .string) {p v:PV} {a:Value} (ha:VR g p a) (h:convP S .id p=some v):∃ u,(convert s t a).run P w=.ok u w∧VR g v u:=by
 cases p <;> try (simp[convP] at h;done)
 obtain rfl:=ha.str_inv
 obtain rfl:=Option.some.inj h
 refine⟨_,?_,.data _ _ (.str _)⟩
 simp[convert,run_underlying hs,run_underlying ht]
theorem zp7 (hw:WR g S w) {s t e:TypeId} (hs:P.underlying s=some (.slice e)) (he:P.underlying e=some (.int .u8)) (ht:P.underlying t=some .string) {p v:PV} {a:Value} (ha:VR g p a) (h:convP S .bytes p=some v):∃ u,(convert s t a).run P w=.ok u w∧VR g v u:=by
  have h:(match view S p with | some (_,rows,_)=>(bytesOf rows).map .str | none=>none)=some v:=by cases p <;> exact h
  split at h
  ·rename_i z rows full hv
   rw[Option.map_eq_some_iff] at h
   obtain⟨bs,hbs,rfl⟩:=h
   obtain⟨A,cap,cs,rfl,se⟩:=seen hw ha hv
   obtain⟨hlen,hb⟩:=zjA rows bs hbs
   refine⟨_,?_,.data _ _ (.str bs)⟩
   rw[run_convert_bytes_string w s t e A _ cap hs he ht]
   cases A with
   | none =>
    have:rows=[]:=by
     cases rows with
     | nil=>rfl
     | cons r rows =>
      obtain⟨ad,h1,_⟩:=se.addr (by simp)
      cases h1
    subst this
    have:bs=[]:=by simpa using hlen.symm
    subst this
    simp[Conv.bytesToString]
    rfl
   | some ad =>
    have hz:rows≠[]→z=1:=by
     intro hne
     cases rows with
     | nil=>exact absurd rfl hne
     | cons r rows =>
      obtain⟨n,rfl,_⟩:=hb 0 r rfl
      exact (se.each _ List.mem_cons_self).symm
    let ns:List Int:=rows.map fun r=>match r with | [.int .u8 n]=>n | _=>0
    have hns:∀ (i:Nat) (n:Int),rows[i]?=some [PV.int .u8 n]→ns[i]?=some n:=by
     intro i n hi
     simp[ns,hi]
    have hcells:(loadCells ad rows.length).run P w=.ok (ns.map (Value.int .u8)).toArray w:=by
     have:=run_loadCells_list (P:=P) w ad (ns.map (Value.int .u8)) (fun j v hj=>by
      rw[List.getElem?_map,Option.map_eq_some_iff] at hj
      obtain⟨n,hn,rfl⟩:=hj
      have hlt:j < rows.length:=by have:=(List.getElem?_eq_some_iff.1 hn).1;simpa [ns] using this
      obtain⟨m,hm,_⟩:=hb j _ (List.getElem?_eq_getElem hlt)
      have hr:rows[j]?=some [PV.int .u8 m]:=by rw[List.getElem?_eq_getElem hlt,hm]
      obtain rfl:m=n:=Option.some.inj ((hns j m hr).symm.trans hn)
      obtain⟨ad',e1,hsp⟩:=se.addr (fun e=>by rw[e] at hlt;simp at hlt)
      obtain rfl:=Option.some.inj e1
      have h1:=se.cell ad j 0 _ (.int .u8 m) rfl hr rfl
      have h2:=se.fr j 0 _ (.int .u8 m) hr rfl
      rw[hz (fun e=>by rw[e] at hlt;simp at hlt),Nat.mul_one,Nat.add_zero] at h1
      rw[zeo hsp,h1,VR.int_inv (VR.data (g:=g) _ _ h2)])
     simpa [ns] using this
    rw[run_bytesToString w ad rows.length cap ns hcells,zqX]
    have e2:ns.map (fun n=>UInt8.ofNat n.toNat)=bs:=by
     apply List.ext_getElem?
     intro i
     rw[List.getElem?_map]
     rcases Nat.lt_or_ge i rows.length with hlt | hge
     ·obtain⟨n,hn,hb'⟩:=hb i _ (List.getElem?_eq_getElem hlt)
      rw[hns i n (by rw[List.getElem?_eq_getElem hlt,hn]),hb']
      rfl
     rw[List.getElem?_eq_none (by simpa [ns] using hge),List.getElem?_eq_none (by omega)]
     rfl
    rw[e2]
    have:ByteArray.empty++⟨bs.toArray⟩=(⟨bs.toArray⟩:ByteArray):=by apply ByteArray.ext;simp
    rw[this]
  cases h
theorem zxk {vs:List PV} {cs:Array Value} (hc:Cells g vs cs) {t:TypeId} {k:Option Nat} (hk:kOf P t=some k) {o:Nat} {v:PV} (h:pickC k vs o=some v):∃ c,(part t cs o).run P w=.ok c w∧VR g v c:=by
 cases k with
 | none =>
  obtain⟨d,hu,hd,_⟩:=zjT hk
  have hlt:o < cs.size:=by rw[←hc.1];exact (List.getElem?_eq_some_iff.1 h).1
  refine⟨cs.getD o undef,?_,hc.2 o v h⟩
  simp[part,Sem.run_bind,zgA hu hd,hlt]
 | some k =>
  obtain⟨fs,hu,hs⟩:=zjO hk
  simp only[pickC] at h
  split at h
  ·rename_i hle
   obtain rfl:=Option.some.inj h
   obtain⟨i,hi⟩:=ziS hu
   have hsz:i.size=k:=by rw[←hs,zaL hi]
   have h1:=hc.1
   refine⟨.agg (cs.extract o (o+k)),?_,.agg _ _ (by simp;omega) fun j v hj=>?_⟩
   ·have hagg:(isAgg t).run P w=.ok true w:=by
     unfold isAgg
     rw[Sem.run_bind,run_underlying hu w]
     simp
    simp[part,Sem.run_bind,hagg,sizeOf,typeInfo,hi,hsz]
   rw[List.getElem?_take] at hj
   split at hj
   ·rename_i hjk
    rw[List.getElem?_drop] at hj
    have:=hc.2 (o+j) v hj
    have e:(cs.extract o (o+k)).getD j undef=cs.getD (o+j) undef:=by
     rw[Array.getD_eq_getD_getElem?,Array.getD_eq_getD_getElem?,Array.getElem?_extract,if_pos (by omega)]
    rw[e]
    exact this
   cases hj
  cases h
theorem zuu (hw:WR g S w) {t e:TypeId} (ht:P.underlying t=some (.slice e)) (he:∃ i,P.info? e=some i) {p q v:PV} {a b:Value} (ha:VR g p a) (hb:VR g q b) (h:iaddrP S (P.cellsOf e) p q=some v) :
  ∃ c,(Instr.indexAt t a b).run P w=.ok c w∧VR g v c:=by
 obtain⟨ie,hie⟩:=he
 have hsz:ie.size=P.cellsOf e:=(zaL hie).symm
 unfold iaddrP at h
 split at h
 ·rename_i k i
  obtain rfl:=hb.int_inv
  split at h
  ·rename_i h0
   split at h
   ·rename_i z rows f
    split at h
    ·rename_i hz
     subst hz
     split at h
     ·rename_i row hrow
      obtain rfl:=Option.some.inj h
      have hlt:i.toNat < rows.length:=(List.getElem?_eq_some_iff.1 hrow).1
      cases ha with
      | data _ _ ha =>
       cases ha with
       | list _ _ _ A cap cs hl hf hs hA hc hv =>
        obtain⟨ad,rfl,hsp⟩:=hA (fun e=>by rw[e] at hlt;simp at hlt)
        refine⟨.pointer (some ⟨ad.block,ad.off+i.toNat*P.cellsOf e+0,none⟩),?_,.rowp row 0 ad.block (ad.off+i.toNat*P.cellsOf e) (cs i.toNat) (fun j v hj=>by
         rw[Nat.add_assoc];exact hc ad i.toNat j row v rfl hrow hj) (fun j v hj=>hv i.toNat j row v hrow hj)⟩
        have h2:i < (rows.length:Int):=by omega
        simp[Instr.indexAt,run_underlying ht,asIntOf,h0,h2,sizeOf,typeInfo,hie,hsz,zeo hsp]
     cases h
    cases h
   ·rename_i n t' off len ver gen f
    split at h
    ·rename_i R hR
     split at h
     ·rename_i hc
      obtain rfl:=Option.some.inj h
      cases ha with
      | data _ _ ha=>cases ha
      | sl _ _ _ _ _ _ _ ai _ hai hle h1c hs =>
       obtain⟨R',hR',hr⟩:=hw.arr n t' ai hai
       obtain rfl:R=R':=Option.some.inj (hR.symm.trans hR')
       obtain⟨A,cap,rfl,sa⟩:=hs (hr.gen.trans hc.1) (hr.len.trans hc.2.1)
       obtain⟨ad,q1,q2,rfl⟩:=sa.pos (by omega)
       have e1:ai.sz=P.cellsOf e:=hr.sz.trans hc.2.2.1
       refine⟨.pointer (some ⟨ad.block,ad.off+((off+i.toNat)*ai.sz+0),none⟩),?_,.elem _ _ _ _ _ _ ai _ hai hle rfl (fun _ _=>⟨ad,q1,q2,rfl⟩)⟩
       have h2:i < (len:Int):=by omega
       simp[Instr.indexAt,run_underlying ht,asIntOf,h0,h2,sizeOf,typeInfo,hie,hsz,e1,Addr.add_mid,Nat.add_mul,Nat.add_assoc]
     cases h
    cases h
   cases h
  cases h
 cases h
theorem zwM {t ty:TypeId} {p v:PV} {a:Value} (ht:P.underlying t=some .string) (ha:VR g p a) (h:lenS p=some v):∃ c,(Builtin.len_ #[t] ty #[a]).run P w=.ok c w∧VR g v c:=by
 unfold lenS at h
 split at h
 ·obtain rfl:=ha.str_inv
  obtain rfl:=Option.some.inj h
  refine⟨_,?_,.data _ _ (.int _ _)⟩
  simp[Builtin.len_,run_underlying ht,goInt,zfu]
 cases h
theorem zym (hw:WR g S w) {t ty e:TypeId} {p v:PV} {a:Value} (he:P.underlying t=some (.slice e)) (ha:VR g p a) (h:lenP S p=some v):∃ c,(Builtin.len_ #[t] ty #[a]).run P w=.ok c w∧VR g v c:=by
 unfold lenP at h
 split at h
 ·cases ha with | data _ _ ha=>cases ha with | nils z A =>
  obtain rfl:=Option.some.inj h
  refine⟨_,?_,.data _ _ (.int _ _)⟩
  simp[Builtin.len_,run_underlying he,goInt]
 ·cases ha with | data _ _ ha=>cases ha with | list =>
  obtain rfl:=Option.some.inj h
  refine⟨_,?_,.data _ _ (.int _ _)⟩
  simp[Builtin.len_,run_underlying he,goInt]
 ·rename_i n t' off len ver gen f
  split at h
  ·rename_i R hR
   split at h
   ·rename_i hc
    cases ha with
    | data _ _ ha=>cases ha
    | sl _ _ _ _ _ _ _ ai _ hai hle h1c hs' =>
     obtain⟨R',hR',hr⟩:=hw.arr n t' ai hai
     obtain rfl:R=R':=Option.some.inj (hR.symm.trans hR')
     obtain⟨A,cap,rfl,sa⟩:=hs' (hr.gen.trans hc.1) (hr.len.trans hc.2)
     obtain rfl:=Option.some.inj h
     refine⟨_,?_,.data _ _ (.int _ _)⟩
     simp[Builtin.len_,run_underlying he,goInt]
   cases h
  cases h
 cases h
end
section
variable [Base] {g:Gh} {S:Sto} {w:World} {P:Program}
theorem zqO (l:List UInt8) (a b:Nat):(⟨l.toArray⟩:ByteArray).extract a b=⟨((l.drop a).take (b - a)).toArray⟩:=by
 apply ByteArray.ext
 simp
theorem zxT {t:TypeId} (ht:P.underlying t=some .string) {v u:PV} {c:Value} {lo hi:Option PV} {lo' hi':Option Value} (hv:VR g v c) (hlo:zgz g lo lo') (hhi:zgz g hi hi') (h:slsP v lo hi=some u) :
  ∃ c',(Instr.sliceAt t c lo' hi' none).run P w=.ok c' w∧VR g u c':=by
 cases v <;> try (cases h;done)
 rename_i s
 obtain rfl:=hv.str_inv
 simp only[slsP] at h
 split at h
 ·rename_i a b h1 h2
  split at h
  ·rename_i hab
   obtain rfl:=Option.some.inj h
   refine⟨_,?_,.data _ _ (.str _)⟩
   have hb:=zmn (P:=P) (w:=w) hlo hhi (mx:=none) (mx':=none) trivial h1 h2 (m:=s.length) rfl hab.1 hab.2 (Nat.le_refl _) (Nat.le_refl _) (.inl rfl) false
   have:(Instr.sliceAt t (.string ⟨s.toArray⟩) lo' hi' none).run P w=(Instr.slice t (.string ⟨s.toArray⟩) lo' hi' none).run P w:=by
    simp[Instr.sliceAt,run_underlying ht]
   rw[this]
   simp only[Instr.slice,Sem.run_bind,run_underlying ht,Result.andThen_ok,zfu,Option.isSome_none,Bool.false_eq_true,if_false,hb]
   simp[zqO]
  cases h
 cases h
theorem zvR {t:TypeId} (ht:P.underlying t=some .string) {p q v:PV} {a b:Value} (ha:VR g p a) (hb:VR g q b) {s:List UInt8} {k:IntKind} {i:Int} (hp:p=.str s) (hq:q=.int k i) (h0:0≤i) {c:UInt8} (hc:s[i.toNat]?=some c) (hv:v=.int .u8 c.toNat) :
  ∃ u,(Instr.index t a b).run P w=.ok u w∧VR g v u:=by
 subst hp hq hv
 obtain rfl:=ha.str_inv
 obtain rfl:=hb.int_inv
 refine⟨_,?_,.data _ _ (.int _ _)⟩
 obtain⟨hlt,hc'⟩:=List.getElem?_eq_some_iff.1 hc
 rw[run_index_string w t _ k i ht,dif_pos ⟨h0,by rw[zfu];omega⟩]
 have:(⟨s.toArray⟩:ByteArray)[i.toNat]'(by rw[zfu];exact hlt)=c:=by
  show s.toArray[i.toNat]=c
  simp[hc']
 rw[this]
theorem zk3:∀ (fs:List Field) (ks:List FK) (i d:Nat) (ps qs:List PV) (xs ys:Array Value) (r:Bool),zkj P i fs=some ks→(∀ j v,ps[j]?=some v→VR g v (xs.getD (i+j) undef)∧i+j < xs.size)→(∀ j v,qs[j]?=some v→VR g v (ys.getD (i+j) undef)∧i+j < ys.size) →
  eqCells ks ps qs=some r→(Op.eqFields (d+1) xs ys fs).run P w=.ok r w
 | [],ks,i,d,ps,qs,xs,ys,r,hf,_,_,h=>by
  simp only[zkj,Option.some.injEq] at hf
  subst hf
  cases ps <;> cases qs <;> simp[eqCells] at h
  subst h
  simp[Op.eqFields]
 | f::fs,ks,i,d,ps,qs,xs,ys,r,hf,hx,hy,h=>by
  simp only[zkj] at hf
  split at hf
  ·rename_i hof
   obtain⟨ho,hn⟩:=hof
   split at hf
   ·rename_i k ks' hk hks
    obtain rfl:=Option.some.inj hf
    have hu:∃ t,P.underlying f.type=some t∧t.isRow=false:=by
     unfold zmO at hk
     split at hk <;> first | (rename_i e;exact⟨_,e,rfl⟩) | cases hk
    have hpart:∀ (zs:Array Value),i < zs.size→(part f.type zs f.offset).run P w=.ok (zs.getD i undef) w:=by
     intro zs hz
     obtain⟨t,hu,hr⟩:=hu
     simp[part,Sem.run_bind,zgA hu hr,ho,hz]
    have step:∀ p ps' q qs' (t r':Bool),ps=p::ps'→qs=q::qs'→(∀ a b,VR g p a→VR g q b→(Op.equalIn (d+1) f.type a b).run P w=.ok t w)→eqCells ks' ps' qs'=some r'→r=(t && r')→(Op.eqFields (d+1) xs ys (f::fs)).run P w=.ok r w:=by
     intro p ps' q qs' t r' e1 e2 h1 h2 h3
     subst e1 e2
     obtain⟨hx0,hxs⟩:=hx 0 p rfl
     obtain⟨hy0,hys⟩:=hy 0 q rfl
     rw[Nat.add_zero] at hx0 hxs hy0 hys
     have ih:=zk3 fs ks' (i+1) d ps' qs' xs ys r' hks (fun j v hj=>by
      have:=hx (j+1) v (by simpa using hj)
      rwa [show i+(j+1)=i+1+j by omega] at this) (fun j v hj=>by
      have:=hy (j+1) v (by simpa using hj)
      rwa [show i+(j+1)=i+1+j by omega] at this) h2
     simp only[Op.eqFields,if_pos hn,Sem.run_bind,hpart xs hxs,hpart ys hys,Result.andThen_ok,h1 _ _ hx0 hy0]
     cases t
     ·simp[h3]
     simp[h3,ih]
    unfold eqCells at h
    split at h
    ·exact absurd ‹k::ks'=[]› (by simp)
    ·rename_i e
     cases e
     split at h
     ·rename_i hkk
      subst hkk
      rw[Option.map_eq_some_iff] at h
      obtain⟨r',hr',rfl⟩:=h
      refine step _ _ _ _ _ r' rfl rfl (fun a b ha hb=>?_) hr' rfl
      obtain rfl:=ha.int_inv
      obtain rfl:=hb.int_inv
      unfold zmO at hk
      split at hk <;> cases hk
      rename_i e
      rw[run_equalIn_int w d _ _ _ _ _ e,zfs]
     cases h
    ·rename_i e
     cases e
     rw[Option.map_eq_some_iff] at h
     obtain⟨r',hr',rfl⟩:=h
     refine step _ _ _ _ _ r' rfl rfl (fun a b ha hb=>?_) hr' rfl
     obtain rfl:=ha.str_inv
     obtain rfl:=hb.str_inv
     unfold zmO at hk
     split at hk <;> cases hk
     rename_i e
     rw[run_equalIn_string w d _ _ _ e,ziA,ziA,zfs]
    ·rename_i e
     cases e
     rw[Option.map_eq_some_iff] at h
     obtain⟨r',hr',rfl⟩:=h
     refine step _ _ _ _ _ r' rfl rfl (fun a b ha hb=>?_) hr' rfl
     obtain rfl:=ha.bool_inv
     obtain rfl:=hb.bool_inv
     unfold zmO at hk
     split at hk <;> cases hk
     rename_i e
     rw[run_equalIn_bool' w d _ _ _ e,zfs]
    cases h
   cases hf
  cases hf
theorem zsD {t:TypeId} {fs:Array Field} (ht:P.underlying t=some (.struct fs)) {ks:List FK} (hf:zqc P t fs=some ks) {neg:Bool} {x y:Operand} {ps qs:List PV} {a b:Value} (ha:VR g (.agg ps) a) (hb:VR g (.agg qs) b) {r:Bool} (h:eqCells ks ps qs=some r) :
  (do eqGuard (if neg then .neq else .eql) t x y a b;binOp (if neg then .neq else .eql) t a b:Sem Value).run P w=.ok (.bool (if neg then !r else r)) w:=by
 obtain⟨xs,rfl,hx1,hx2⟩:=ha.agg_inv
 obtain⟨ys,rfl,hy1,hy2⟩:=hb.agg_inv
 unfold zqc at hf
 split at hf
 ·rename_i hc
  have hfo:P.fieldsOf t=fs:=by simp[Program.fieldsOf,ht]
  have hq:(Op.equalIn 10000 t (.agg xs) (.agg ys)).run P w=.ok r w:=by
   rw[run_equalIn_agg w 9999 t xs ys (by rw[hfo];exact ht) hc.1,hfo]
   exact zk3 fs.toList ks 0 9998 ps qs xs ys r hf (fun j v hj=>by rw[Nat.zero_add];exact⟨hx2 j v hj,by rw[←hx1];exact (List.getElem?_eq_some_iff.1 hj).1⟩) (fun j v hj=>by rw[Nat.zero_add];exact⟨hy2 j v hj,by rw[←hy1];exact (List.getElem?_eq_some_iff.1 hj).1⟩) h
  rw[Sem.run_bind,run_eqGuard_agg w _ t x y xs ys hc.2.1]
  cases neg
  ·simp[run_eql_struct,hq]
  simp[run_neq_struct,hq]
 cases hf
theorem zf5 {v:PV} (h:v.cells.all PV.one=true):v.one=true∨∃ vs,v=.agg vs:=by
 cases v <;> first | exact .inr ⟨_,rfl⟩ | (simp[PV.cells,PV.one] at h;done) | exact .inl rfl
theorem zoV {fs:Array Field} {places:Array (Nat × Nat)} (hp:∀ (i:Nat) (f:Field),fs[i]?=some f→places[i]?=some (f.offset,P.cellsOf f.type)) {ac:Ac} {a:Act} (hr:Rel g ac a w):∀ (parts:List (Nat × Operand)) (ps:List (Nat × Nat × X)) (vs:List PV) (cs:Array Value) (us:List PV),
  zgY P fs parts=some ps→Cells g vs cs→fillP vs ac.ev ps=some us→∃ us',Instr.fill (places[·]?) cs (parts.map fun (i,x)=>(i,a.eval x))=some us'∧Cells g us us'
 | [],ps,vs,cs,us,hc,hv,h=>by
  simp only[zgY,Option.some.injEq] at hc
  subst hc
  simp only[fillP,Option.some.injEq] at h
  subst h
  exact⟨cs,rfl,hv⟩
 | (i,x)::r,ps,vs,cs,us,hc,hv,h=>by
  simp only[zgY] at hc
  split at hc
  ·rename_i f hf
   split at hc
   ·rename_i x' r' hx hr'
    obtain rfl:=Option.some.inj hc
    simp only[fillP] at h
    split at h
    ·rename_i hcnd
     obtain⟨h1,h2,h3⟩:=hcnd
     have hev:=(hr.ev hx).cells_ (zf5 h3)
     have hset:=hv.set hev (off:=f.offset) (by omega)
     obtain⟨us',q1,q2⟩:=zoV hp hr r r' _ _ us hr' hset h
     refine⟨us',?_,q2⟩
     simp only[List.map_cons,Instr.fill,hp i f hf]
     have e1:(a.eval x).cells.size=P.cellsOf f.type:=by rw[←hev.1,h1]
     have e2:¬ (f.offset+P.cellsOf f.type > cs.size):=by rw[←hv.1];omega
     rw[if_neg (by simp[e1];omega)]
     exact q1
    cases h
   cases hc
  cases hc
theorem ztO {t:TypeId} {fs:Array Field} (ht:P.underlying t=some (.struct fs)) (hall:fs.toList.all (fun f=>(P.info? f.type).isSome)=true) {z:List PV} (hz:cZJ P t=some z) {parts:Array (Nat × Operand)} {ps:List (Nat × Nat × X)} (hps:zgY P fs parts.toList=some ps) {ac:Ac} {a:Act} (hr:Rel g ac a w) {us:List PV} (h:fillP z ac.ev ps=some us) :
  ∃ c,(Instr.build t (parts.map fun (i,x)=>(i,a.eval x))).run P w=.ok c w∧VR g (.agg us) c:=by
 obtain⟨it,zv,hi,hzv,hsz,hcells⟩:=zzO (g:=g) hz
 let pl:List (Nat × Nat):=fs.toList.map fun f=>(f.offset,P.cellsOf f.type)
 have hpl:fs.toList.mapM (fun (f:Field)=>(P.info? f.type).map fun i=>(f.offset,i.size))=some pl:=by
  have:∀ l:List Field,l.all (fun f=>(P.info? f.type).isSome)=true→l.mapM (fun (f:Field)=>(P.info? f.type).map fun i=>(f.offset,i.size))=some (l.map fun (f:Field)=>(f.offset,P.cellsOf f.type)):=by
   intro l
   induction l with
   | nil=>intro _;simp
   | cons f l ih =>
    intro hl
    simp only[List.all_cons,Bool.and_eq_true] at hl
    obtain⟨i,hi⟩:=Option.isSome_iff_exists.1 hl.1
    rw[List.mapM_cons,ih hl.2]
    simp[hi,Program.cellsOf]
  exact this _ hall
 obtain⟨us',q1,q2⟩:=zoV (P:=P) (fs:=fs) (places:=pl.toArray) (fun i f hf=>by
  have:fs.toList[i]?=some f:=by simpa using hf
  simp[pl,hf]) hr parts.toList ps z zv.cells us hps hcells h
 refine⟨.agg us',?_,.agg _ _ q2.1 q2.2⟩
 apply run_build
 unfold Program.built
 simp only[hi,ht,hzv,hpl]
 rw[Array.toList_map]
 exact q1
end
section
variable [Base] {g:Gh} {S:Sto} {w:World} {P:Program}
theorem zac {s:Sem Value} {c:Value} (h:s.run P w=.ok c w):(do pure (Next.value (← s)):Sem Next).run P w=.ok (.value c) w:=by simp[h]
theorem Rel.evs {ac:Ac} {a:Act} (hr:Rel g ac a w):∀ (xs:List Operand) (ts:List TypeId) (xs':List X),cXs P xs ts=some xs'→xs'.length=xs.length∧∀ (i:Nat) (x':X),xs'[i]?=some x'→∃ x,xs[i]?=some x∧VR g (ac.ev x') (a.eval x)
 | [],ts,xs',h=>by
  simp only[cXs,Option.some.injEq] at h
  subst h
  exact⟨rfl,fun i x' h=>by simp at h⟩
 | x::xs,ts,xs',h=>by
  simp only[cXs] at h
  split at h
  ·rename_i y ys hy hys
   obtain rfl:=Option.some.inj h
   obtain⟨h1,h2⟩:=hr.evs xs ts.tail ys hys
   refine⟨by simp[h1],fun i x' hi=>?_⟩
   cases i with
   | zero=>simp at hi;subst hi;exact⟨x,rfl,hr.ev hy⟩
   | succ i=>simp at hi;simpa using h2 i x' hi
  cases h
theorem Rel.opt {ac:Ac} {a:Act} (hr:Rel g ac a w) {x:Option Operand} {x':Option X} (h:zj3 P x=some x'):zgz g (x'.map ac.ev) (x.map a.eval):=by
 cases x with
 | none=>simp only[zj3,Option.some.injEq] at h;subst h;trivial
 | some x =>
  simp only[zj3,Option.map_eq_some_iff] at h
  obtain⟨y,hy,rfl⟩:=h
  exact hr.ev hy
theorem zjt {y:Operand} (h:zck y=true):y=.const (.slice none 0 0):=by
 cases y with
 | const v =>
  cases v <;> try cases h
  rename_i A n c
  cases A with
  | some _=>cases h
  | none =>
   cases n with
   | succ _=>cases h
   | zero=>cases c with
    | succ _=>cases h
    | zero=>rfl
 | _=>cases h
theorem zpI {t e:TypeId} (ht:P.underlying t=some (.slice e)) (op:BinOp) (neg:Bool) (ho:op=.eql∧neg=false∨op=.neq∧neg=true) (x y:Operand) (A:Option Addr) (n c:Nat) (w:World) :
  (do eqGuard op t x y (.slice A n c) (.slice none 0 0);binOp op t (.slice A n c) (.slice none 0 0):Sem Value).run P w=.ok (.bool (if neg then !A.isNone else A.isNone)) w:=by
 have hg:eqGuard op t x y (.slice A n c) (.slice none 0 0)=pure ():=by cases op <;> rfl
 rw[hg]
 rcases ho with⟨rfl,rfl⟩ | ⟨rfl,rfl⟩
 ·simp[binOp,run_equal_slice_nil w t e A n c ht]
 simp[run_neq_slice_nil w t e A n c ht]
theorem znt {t e u:TypeId} {op:BinOp} {neg:Bool} (ht:P.underlying t=some (.slice e)) {x y:Operand} (hn:zck y=true) {ac:Ac} {a:Act} {x':X} (hx:VR g (ac.ev x') (a.eval x)) {v:PV} (hv:vop ac.ev ac.S (.isnil neg x')=some v) (ho:op=.eql∧neg=false∨op=.neq∧neg=true)
  {dst:Option Tmp} {ty:TypeId} {pos:String} {after:Array Edge} {guard:Option (Nat × Bool)}:∃ c,(execOp a.eval ⟨dst,.binOp op t x y u,ty,pos,after,guard⟩).run P w=.ok (.value c) w∧VR g v c:=by
 have hy:=zjt hn
 subst hy
 simp only[vop] at hv
 split at hv
 ·rename_i z r rs f hxe
  obtain rfl:=Option.some.inj hv
  rw[hxe] at hx
  cases hx with | data _ _ h =>
  generalize hcc:a.eval x=cc at h
  cases h with | list _ _ _ A cap cs hl hf hs hA hc hv =>
  obtain⟨ad,rfl,_⟩:=hA (by simp)
  refine⟨.bool neg,?_,.data _ _ (.bool _)⟩
  have:=zpI ht op neg ho x (.const (.slice none 0 0)) (some ad) (r::rs).length cap w
  have e1:(if neg then !(some ad:Option Addr).isNone else (some ad:Option Addr).isNone)=neg:=by cases neg <;> rfl
  rw[e1] at this
  unfold execOp
  show (do pure (Next.value (← (do eqGuard op t x (.const (.slice none 0 0)) (a.eval x) (a.eval (.const (.slice none 0 0)));binOp op t (a.eval x) (a.eval (.const (.slice none 0 0))):Sem Value))):Sem Next).run P w=_
  rw[hcc]
  exact zac this
 cases hv
theorem zm8 {y:Operand} (h:zfo y=true):y=.const .nilIface:=by
 cases y with
 | const v=>cases v <;> first | rfl | cases h
 | _=>cases h
theorem zt6 {t:Nat} {v:PV} {c:Value} (h:VR g (.iface t v) c):∃ c',c=.iface t c':=by
 cases h with
 | data _ _ h=>cases h with | iface _ _ c' h=>exact⟨c',rfl⟩
 | iface _ _ c' h=>exact⟨c',rfl⟩
theorem zwu {c:Value} (h:VR g .nile c):c=.nilIface:=by
 cases h with
 | data _ _ h=>cases h with | nili=>rfl
theorem zlk (d:Nat) (t:TypeId) {ms:_} (k:TypeId) (z:Value) (w:World) (h:P.underlying t=some (.interface ms)):(Op.equalIn (d+1) t (.iface k z) .nilIface).run P w=.ok false w:=by
 simp[Op.equalIn,run_underlying h]
theorem zh6 (t:TypeId) {ms:_} (k:TypeId) (z:Value) (w:World) (h:P.underlying t=some (.interface ms)):(Op.equal t (.iface k z) .nilIface).run P w=.ok false w:=zlk 9999 t k z w h
theorem zmv (d:Nat) (t:TypeId) {ms:_} (w:World) (h:P.underlying t=some (.interface ms)):(Op.equalIn (d+1) t .nilIface .nilIface).run P w=.ok true w:=by
 simp[Op.equalIn,run_underlying h]
theorem zjC (t:TypeId) {ms:_} (w:World) (h:P.underlying t=some (.interface ms)):(Op.equal t .nilIface .nilIface).run P w=.ok true w:=zmv 9999 t w h
theorem zsI {t:TypeId} {ms:_} (ht:P.underlying t=some (.interface ms)) (op:BinOp) (neg:Bool) (ho:op=.eql∧neg=false∨op=.neq∧neg=true) (x:Operand) (d:TypeId) (z:Value) (w:World) :
  (do eqGuard op t x (.const .nilIface) (.iface d z) .nilIface;binOp op t (.iface d z) .nilIface:Sem Value).run P w=.ok (.bool neg) w:=by
 have hg:eqGuard op t x (.const .nilIface) (.iface d z) .nilIface=pure ():=by cases op <;> rfl
 rw[hg]
 rcases ho with⟨rfl,rfl⟩ | ⟨rfl,rfl⟩
 ·simp only[binOp];simp[zh6 t d z w ht]
 simp only[binOp];simp[zh6 t d z w ht]
theorem ztj {t:TypeId} {ms:_} (ht:P.underlying t=some (.interface ms)) (op:BinOp) (neg:Bool) (ho:op=.eql∧neg=false∨op=.neq∧neg=true) (x:Operand) (w:World) :
  (do eqGuard op t x (.const .nilIface) .nilIface .nilIface;binOp op t .nilIface .nilIface:Sem Value).run P w=.ok (.bool (!neg)) w:=by
 have hg:eqGuard op t x (.const .nilIface) .nilIface .nilIface=pure ():=by cases op <;> cases x <;> rfl
 rw[hg]
 rcases ho with⟨rfl,rfl⟩ | ⟨rfl,rfl⟩
 ·simp only[binOp];simp[zjC t w ht]
 simp only[binOp];simp[zjC t w ht]
theorem zlW {t u:TypeId} {ms:_} {op:BinOp} {neg:Bool} (ht:P.underlying t=some (.interface ms)) {x y:Operand} (hn:zfo y=true) {ac:Ac} {a:Act} {x':X} (hx:VR g (ac.ev x') (a.eval x)) {v:PV} (hv:vop ac.ev ac.S (.isnile neg x')=some v) (ho:op=.eql∧neg=false∨op=.neq∧neg=true)
  {dst:Option Tmp} {ty:TypeId} {pos:String} {after:Array Edge} {guard:Option (Nat × Bool)}:∃ c,(execOp a.eval ⟨dst,.binOp op t x y u,ty,pos,after,guard⟩).run P w=.ok (.value c) w∧VR g v c:=by
 have hy:=zm8 hn
 subst hy
 simp only[vop,zi4] at hv
 split at hv
 ·rename_i d z hxe
  obtain rfl:=Option.some.inj hv
  rw[hxe] at hx
  obtain⟨c',hc⟩:=zt6 hx
  refine⟨.bool neg,?_,.data _ _ (.bool _)⟩
  have:=zsI ht op neg ho x d c' w
  unfold execOp
  show (do pure (Next.value (← (do eqGuard op t x (.const .nilIface) (a.eval x) (a.eval (.const .nilIface));binOp op t (a.eval x) (a.eval (.const .nilIface)):Sem Value))):Sem Next).run P w=_
  rw[hc]
  exact zac this
 ·rename_i hxe
  obtain rfl:=Option.some.inj hv
  rw[hxe] at hx
  have hc:=zwu hx
  refine⟨.bool (!neg),?_,.data _ _ (.bool _)⟩
  have:=ztj ht op neg ho x w
  unfold execOp
  show (do pure (Next.value (← (do eqGuard op t x (.const .nilIface) (a.eval x) (a.eval (.const .nilIface));binOp op t (a.eval x) (a.eval (.const .nilIface)):Sem Value))):Sem Next).run P w=_
  rw[hc]
  exact zac this
 cases hv
theorem zzK {o:Oper} {vo:VO} (hc:cOp P o=some (.v vo)) {ac:Ac} {a:Act} (hr:Rel g ac a w) {v:PV} (hv:vop ac.ev ac.S vo=some v):∃ c,(execOp a.eval o).run P w=.ok (.value c) w∧VR g v c:=by
 obtain⟨dst,op,ty,pos,after,guard⟩:=o
 cases op <;> simp only[cOp,reduceCtorEq] at hc
 case move x =>
  rw[Option.map_eq_some_iff] at hc
  obtain⟨x',hx,he⟩:=hc
  cases he
  simp only[vop,Option.some.injEq] at hv
  subst hv
  exact⟨_,by simp[execOp],hr.ev hx⟩
 case assign x =>
  split at hc
  ·rw[Option.map_eq_some_iff] at hc
   obtain⟨_,_,he⟩:=hc
   cases he
  rw[Option.map_eq_some_iff] at hc
  obtain⟨x',hx,he⟩:=hc
  cases he
  simp only[vop,Option.some.injEq] at hv
  subst hv
  exact⟨_,by simp[execOp],hr.ev hx⟩
 case pick c x y =>
  split at hc
  ·rename_i c' x' y' h1 h2 h3
   cases hc
   simp only[vop] at hv
   split at hv
   ·rename_i t ht
    obtain rfl:=Option.some.inj hv
    have hb:a.eval c=.bool t:=by have:=hr.ev h1;rw[ht] at this;exact this.bool_inv
    cases t
    ·exact⟨_,by simp[execOp,hb,asBool],hr.ev h3⟩
    exact⟨_,by simp[execOp,hb,asBool],hr.ev h2⟩
   cases hv
  cases hc
 case alloc t =>
  rw[Option.map_eq_some_iff] at hc
  obtain⟨_,_,he⟩:=hc
  cases he
 case box t x =>
  rw[Option.map_eq_some_iff] at hc
  obtain⟨_,_,he⟩:=hc
  cases he
 case build t parts =>
  split at hc
  ·rename_i fs z ht hz
   split at hc
   ·rename_i hall
    rw[Option.map_eq_some_iff] at hc
    obtain⟨ps,hps,he⟩:=hc
    cases he
    simp only[vop,Option.map_eq_some_iff] at hv
    obtain⟨us,hus,rfl⟩:=hv
    obtain⟨c,h1,h2⟩:=ztO ht hall hz hps hr hus
    exact⟨c,zac h1,h2⟩
   cases hc
  cases hc
 case buildSlice t n parts =>
  repeat' split at hc
  all_goals cases hc
 case load t x =>
  split at hc
  ·rename_i k x' hk hx
   cases hc
   obtain⟨c,h1,h2⟩:=zvg hr.wr (hr.ev hx) hv hk
   exact⟨c,zac h1,h2⟩
  cases hc
 case store t x y =>
  split at hc <;> cases hc
 case nilCheck x =>
  rw[Option.map_eq_some_iff] at hc
  obtain⟨x',hx,he⟩:=hc
  cases he
  simp only[vop] at hv
  have h:=hr.ev hx
  split at hv
  ·rename_i n t o he
   obtain rfl:=Option.some.inj hv
   rw[he] at h
   obtain⟨b,hb,h1⟩:=h.ptr_inv
   exact⟨.pointer (some ⟨b,o,none⟩),by simp[execOp,h1],.ptr n t o b hb⟩
  ·rename_i r o he
   obtain rfl:=Option.some.inj hv
   rw[he] at h
   generalize hc:a.eval x=c at h
   cases h with
   | data _ _ h=>cases h
   | rowp _ _ b p cs h1 h2=>exact⟨.pointer (some ⟨b,p+o,none⟩),by simp[execOp,hc],.rowp r o b p cs h1 h2⟩
  cases hv
 case binOp op t x y u =>
  split at hc
  ·rename_i x' y' hx hy
   have hx':=hr.ev hx
   have hy':=hr.ev hy
   split at hc
   ·rename_i fs ht
    rw[Option.map_eq_some_iff] at hc
    obtain⟨ks,hks,he⟩:=hc
    cases he
    simp only[vop] at hv
    split at hv
    ·rename_i ps qs h1 h2
     rw[h1] at hx'
     rw[h2] at hy'
     rw[Option.map_eq_some_iff] at hv
     obtain⟨r,hr',rfl⟩:=hv
     exact⟨_,zac (zsD (neg:=false) ht hks hx' hy' hr'),.data _ _ (.bool _)⟩
    cases hv
   ·rename_i fs ht
    rw[Option.map_eq_some_iff] at hc
    obtain⟨ks,hks,he⟩:=hc
    cases he
    simp only[vop] at hv
    split at hv
    ·rename_i ps qs h1 h2
     rw[h1] at hx'
     rw[h2] at hy'
     rw[Option.map_eq_some_iff] at hv
     obtain⟨r,hr',rfl⟩:=hv
     exact⟨_,zac (zsD (neg:=true) ht hks hx' hy' hr'),.data _ _ (.bool _)⟩
    cases hv
   ·rename_i ht
    cases hc
    obtain⟨c,h1,h2⟩:=zpr (neg:=false) (x:=x) (y:=y) ht hx' hy' hv
    exact⟨c,zac h1,h2⟩
   ·rename_i ht
    cases hc
    obtain⟨c,h1,h2⟩:=zpr (neg:=true) (x:=x) (y:=y) ht hx' hy' hv
    exact⟨c,zac h1,h2⟩
   ·rename_i e ht
    split at hc
    ·rename_i hn
     cases hc
     exact znt (neg:=false) (op:=.eql) (u:=u) ht hn hx' hv (.inl ⟨rfl,rfl⟩)
    cases hc
   ·rename_i e ht
    split at hc
    ·rename_i hn
     cases hc
     exact znt (neg:=true) (op:=.neq) (u:=u) ht hn hx' hv (.inr ⟨rfl,rfl⟩)
    cases hc
   ·rename_i ms ht
    split at hc
    ·rename_i hn
     cases hc
     exact zlW (neg:=false) (op:=.eql) (u:=u) ht hn hx' hv (.inl ⟨rfl,rfl⟩)
    cases hc
   ·rename_i ms ht
    split at hc
    ·rename_i hn
     cases hc
     exact zlW (neg:=true) (op:=.neq) (u:=u) ht hn hx' hv (.inr ⟨rfl,rfl⟩)
    cases hc
   ·cases hc
    obtain⟨c,h1,h2⟩:=zzf (t:=t) (P:=P) (w:=w) (x:=x) (y:=y) hx' hy' hv
    exact⟨c,zac h1,h2⟩
   cases hc
  cases hc
 case unOp op t x =>
  rw[Option.map_eq_some_iff] at hc
  obtain⟨x',hx,he⟩:=hc
  cases he
  obtain⟨c,h1,h2⟩:=zAs (P:=P) (w:=w) (hr.ev hx) hv
  exact⟨c,zac h1,h2⟩
 case convert s t x =>
  split at hc
  ·rename_i k' k x' hs ht hx
   cases hc
   obtain⟨c,h1,h2⟩:=ztm (w:=w) hs ht (hr.ev hx) hv
   exact⟨c,zac h1,h2⟩
  ·rename_i k' x' hs ht hx
   cases hc
   obtain⟨c,h1,h2⟩:=zuK (w:=w) hs ht (hr.ev hx) hv
   exact⟨c,zac h1,h2⟩
  ·rename_i x' hs ht hx
   cases hc
   obtain⟨c,h1,h2⟩:=zw4 (w:=w) hs ht (hr.ev hx) hv
   exact⟨c,zac h1,h2⟩
  ·rename_i e x' hs ht hx
   split at hc
   ·rename_i he
    cases hc
    obtain⟨c,h1,h2⟩:=zp7 hr.wr hs he ht (hr.ev hx) hv
    exact⟨c,zac h1,h2⟩
   cases hc
  cases hc
 case makeInterface t x =>
  split at hc
  ·cases hc
  ·cases hc
  rename_i d hd ht
  rw[Option.map_eq_some_iff] at hc
  obtain⟨x',hx,he⟩:=hc
  cases he
  simp only[vop] at hv
  split at hv
  ·obtain rfl:=Option.some.inj hv
   refine⟨.iface t (a.eval x),zac ?_,.iface _ _ _ (hr.ev hx)⟩
   cases d <;> first | (simp[Instr.makeInterface,run_underlying ht];done) | (exact absurd rfl (hd _))
  cases hv
 case makeFunc fn first caps =>
  split at hc
  ·rename_i f hf1
   rw[Option.map_eq_some_iff] at hc
   obtain⟨cs,hcs,he⟩:=hc
   cases he
   simp only[vop] at hv
   split at hv
   ·obtain rfl:=Option.some.inj hv
    obtain⟨h1,h2⟩:=hr.evs caps.toList [] cs hcs
    obtain rfl:first=#[]:=by simpa using hf1
    have hnm:zas (cs.map ac.ev)=true:=by
     rename_i hone
     match cs,hone with
     | [],_=>rfl
     | [x],h=>simp only[List.all_cons,Bool.and_eq_true] at h;simp only[List.map_cons,List.map_nil];cases hx:ac.ev x <;> first | rfl | (rw[hx] at h;simp[PV.one] at h)
     | _::_::_,_=>exact zdj _ _ _
    refine⟨.func (.func f) #[] (caps.map a.eval),zac (by simp[Instr.makeFunc]),.func f _ _ hnm (by simp[h1]) fun i v hi=>?_⟩
    rw[List.getElem?_map,Option.map_eq_some_iff] at hi
    obtain⟨x',hx',rfl⟩:=hi
    obtain⟨x,hx,hv⟩:=h2 i x' hx'
    have:(caps.map a.eval).getD i Go.undef=a.eval x:=by
     have hx':caps[i]?=some x:=by simpa using hx
     rw[Array.getD_eq_getD_getElem?,Array.getElem?_map,hx']
     rfl
    rw[this]
    exact hv
   cases hv
  ·rename_i f x r hf1
   split at hc
   ·rename_i hcaps
    rw[Option.map_eq_some_iff] at hc
    obtain⟨cs,hcs,he⟩:=hc
    cases he
    simp only[vop] at hv
    obtain rfl:=Option.some.inj hv
    rw[←hf1] at hcs
    obtain⟨h1,h2⟩:=hr.evs first.toList [] cs hcs
    obtain rfl:caps=#[]:=by simpa using hcaps
    refine⟨.func (.func f) (first.map a.eval) #[],zac (by simp[Instr.makeFunc]),.meth f _ _ (by simp[h1]) fun i v hi=>?_⟩
    rw[List.getElem?_map,Option.map_eq_some_iff] at hi
    obtain⟨x',hx',rfl⟩:=hi
    obtain⟨x,hx,hv⟩:=h2 i x' hx'
    have:(first.map a.eval).getD i Go.undef=a.eval x:=by
     have hx':first[i]?=some x:=by simpa using hx
     rw[Array.getD_eq_getD_getElem?,Array.getElem?_map,hx']
     rfl
    rw[this]
    exact hv
   cases hc
  cases hc
 case slice t x lo hi mx =>
  split at hc
  ·rename_i x' lo' hi' ht hx hlo hhi hmx
   cases hc
   simp only[vop] at hv
   have hm:mx=none:=by
    cases mx with
    | none=>rfl
    | some m =>
     simp only[zj3,Option.map_eq_some_iff] at hmx
     obtain⟨_,_,h⟩:=hmx
     cases h
   subst hm
   obtain⟨c,h1,h2⟩:=zxT (P:=P) (w:=w) ht (hr.ev hx) (hr.opt hlo) (hr.opt hhi) hv
   exact⟨c,zac h1,h2⟩
  ·rename_i e x' lo' hi' mx' ht hx hlo hhi hmx
   split at hc
   ·rename_i he
    cases hc
    obtain⟨i,hi⟩:=Option.isSome_iff_exists.1 he
    obtain⟨c,h1,h2⟩:=zzI hr.wr ht (hr.ev hx) (hr.opt hlo) (hr.opt hhi) (hr.opt hmx) ⟨i,hi⟩ hv
    exact⟨c,zac h1,h2⟩
   cases hc
  cases hc
 case fieldAddr t x f =>
  split at hc
  ·rename_i fs ht
   split at hc
   ·rename_i f' x' hf hx
    split at hc
    ·cases hc
    rename_i h0
    split at hc
    ·rename_i hi
     cases hc
     obtain⟨it,hit⟩:=Option.isSome_iff_exists.1 hi
     have hsz:it.size≠0:=by rw[←zaL hit];exact h0
     have run:∀ b o,(Instr.fieldAt t (.pointer (some ⟨b,o,none⟩)) f).run P w=.ok (.pointer (some ⟨b,o+f'.offset,none⟩)) w:=by
      intro b o
      simp[Instr.fieldAt,run_underlying ht,hf,Instr.sureAddr,fieldPlace,sizeOf,typeInfo,hit,hsz,Addr.add_mid]
     have h:=hr.ev hx
     generalize he:a.eval x=c at h
     simp only[vop] at hv
     split at hv
     ·rename_i n t' o hp
      obtain rfl:=Option.some.inj hv
      rw[hp] at h
      obtain⟨b,hb,rfl⟩:=h.ptr_inv
      exact⟨_,zac (by rw[he];exact run b o),.ptr n t' _ b hb⟩
     ·rename_i r o hp
      obtain rfl:=Option.some.inj hv
      rw[hp] at h
      cases h with
      | data _ _ h=>cases h
      | rowp _ _ b p cs h1 h2=>exact⟨_,zac (by rw[he];exact run b (p+o)),by rw[Nat.add_assoc];exact .rowp r _ b p cs h1 h2⟩
     ·rename_i n k i o ver gen hp
      rw[hp] at h
      split at hv
      ·rename_i R hR
       split at hv
       ·rename_i hcur
        obtain rfl:=Option.some.inj hv
        cases h with
        | data _ _ h=>cases h
        | elem _ _ _ _ _ _ ai _ hai hle h1c hs =>
         obtain⟨R',hR',hrr⟩:=hr.wr.arr n k ai hai
         obtain rfl:R=R':=Option.some.inj (hR.symm.trans hR')
         obtain⟨ad,q1,q2,rfl⟩:=hs (hrr.gen.trans hcur.1) (hrr.len.trans hcur.2)
         refine⟨_,zac (by rw[he];exact run _ _),.elem _ _ _ _ _ _ ai _ hai hle rfl fun _ _=>⟨ad,q1,q2,?_⟩⟩
         simp only[Nat.add_assoc]
       cases hv
      cases hv
     cases hv
    cases hc
   cases hc
  cases hc
 case field t x f =>
  split at hc
  ·rename_i fs ht
   split at hc
   ·rename_i f' hf
    split at hc
    ·rename_i k x' hk hx
     cases hc
     simp only[vop] at hv
     have h:=hr.ev hx
     generalize he:a.eval x=c at h
     split at hv
     ·rename_i vs hp
      rw[hp] at h
      obtain⟨cs,rfl,h1,h2⟩:=h.agg_inv
      obtain⟨c,h3,h4⟩:=zxk (P:=P) (w:=w) ⟨h1,h2⟩ hk hv
      refine⟨c,zac ?_,h4⟩
      rw[he]
      simp only[Instr.field,Sem.run_bind,run_underlying ht,Result.andThen_ok,hf]
      simpa [asAgg] using h3
     cases hv
    cases hc
   cases hc
  cases hc
 case indexAddr t x i =>
  split at hc
  ·rename_i e ht
   split at hc
   ·rename_i x' i' hx hi
    split at hc
    ·rename_i he
     cases hc
     obtain⟨it,hit⟩:=Option.isSome_iff_exists.1 he
     obtain⟨c,h1,h2⟩:=zuu hr.wr ht ⟨it,hit⟩ (hr.ev hx) (hr.ev hi) hv
     exact⟨c,zac h1,h2⟩
    cases hc
   cases hc
  cases hc
 case index t x i =>
  split at hc
  ·rename_i ht
   split at hc
   ·rename_i x' i' hx hi
    cases hc
    simp only[vop] at hv
    split at hv
    ·rename_i s k n hp hq
     split at hv
     ·rename_i h0
      rw[Option.map_eq_some_iff] at hv
      obtain⟨c,hc,rfl⟩:=hv
      obtain⟨u,h1,h2⟩:=zvR (P:=P) (w:=w) ht (hr.ev hx) (hr.ev hi) hp hq h0 hc rfl
      exact⟨u,zac h1,h2⟩
     cases hv
    cases hv
   cases hc
  cases hc
 case extract x i =>
  rw[Option.map_eq_some_iff] at hc
  obtain⟨x',hx,he⟩:=hc
  cases he
  simp only[vop] at hv
  have h:=hr.ev hx
  generalize he:a.eval x=c at h
  split at hv
  ·rename_i vs hp
   rw[hp] at h
   obtain⟨cs,rfl,h1,h2⟩:=h.tup_inv
   have hlt:i < cs.size:=by rw[←h1];exact (List.getElem?_eq_some_iff.1 hv).1
   refine⟨cs.getD i Go.undef,zac ?_,h2 i v hv⟩
   rw[he]
   simp[Instr.extract,hlt]
  cases hv
 case call c =>
  unfold zdq at hc
  split at hc
  ·split at hc <;> cases hc
  ·rename_i hcal
   split at hc
   ·rename_i x t hxs hts
    have e1:c.args=#[x]:=by apply Array.ext';simpa using hxs
    have e2:c.argTypes=#[t]:=by apply Array.ext';simpa using hts
    have run:∀ u,(Builtin.len_ #[t] ty #[a.eval x]).run P w=.ok u w→(execOp a.eval ⟨dst,.call c,ty,pos,after,guard⟩).run P w=.ok (.value u) w:=by
     intro u hu
     simp[execOp,resolve,hcal,e1,e2,invoke,builtin,hu]
    split at hc
    ·rename_i x' ht hx
     cases hc
     simp only[vop,if_true] at hv
     obtain⟨u,h1,h2⟩:=zwM (w:=w) (ty:=ty) ht (hr.ev hx) hv
     exact⟨u,run u h1,h2⟩
    ·rename_i e x' ht hx
     cases hc
     simp only[vop,Bool.false_eq_true,if_false] at hv
     obtain⟨u,h1,h2⟩:=zym (ty:=ty) hr.wr ht (hr.ev hx) hv
     exact⟨u,run u h1,h2⟩
    cases hc
   cases hc
  ·repeat' split at hc
   all_goals cases hc
  ·rename_i hcal
   split at hc
   ·rename_i x y hxs
    split at hc
    ·rename_i x' y' hx hy
     cases hc
     simp only[vop] at hv
     split at hv
     ·rename_i k m k' n hp hq
      obtain rfl:=Option.some.inj hv
      have h1:=hr.ev hx
      have h2:=hr.ev hy
      rw[hp] at h1
      rw[hq] at h2
      have e1:c.args=#[x,y]:=by apply Array.ext';simpa using hxs
      refine⟨_,?_,.data _ _ (.int _ _)⟩
      simp[execOp,resolve,hcal,e1,invoke,builtin,h1.int_inv,h2.int_inv,run_min_int2]
     cases hv
    cases hc
   cases hc
  ·rename_i hcal
   split at hc
   ·rename_i x y hxs
    split at hc
    ·rename_i x' y' hx hy
     cases hc
     simp only[vop] at hv
     split at hv
     ·rename_i k m k' n hp hq
      obtain rfl:=Option.some.inj hv
      have h1:=hr.ev hx
      have h2:=hr.ev hy
      rw[hp] at h1
      rw[hq] at h2
      have e1:c.args=#[x,y]:=by apply Array.ext';simpa using hxs
      refine⟨_,?_,.data _ _ (.int _ _)⟩
      simp[execOp,resolve,hcal,e1,invoke,builtin,h1.int_inv,h2.int_inv,run_max_int2]
     cases hv
    cases hc
   cases hc
  cases hc
 case panic x =>
  rw[Option.map_eq_some_iff] at hc
  obtain⟨_,_,he⟩:=hc
  cases he
end
section
variable [Base] {g g':Gh} {S S':Sto} {w w':World} {P:Program}
structure Tr (g:Gh) (w:World) (g':Gh) (w':World):Prop where
 os:w'.os=w.os
 tape:w'.tape=w.tape
 output:w'.output=w.output
 size:w.heap.size≤w'.heap.size
 fz:∀ b o v,g.fz b o=some v→g'.fz b o=some v
 keep:∀ k,k < w.heap.size→(∀ x,g.own x≠some k)→w'.heap[k]?=w.heap[k]?
 new:∀ x k,g'.own x=some k→g.own x=some k∨w.heap.size≤k
 out:Ext g.pop g'.pop
theorem Tr.refl (g:Gh) (w:World):Tr g w g w:=⟨rfl,rfl,rfl,Nat.le_refl _,fun _ _ _ h=>h,fun _ _ _=>rfl,fun x _ h=>.inl h,Ext.refl _⟩
theorem Tr.trans {g'':Gh} {w'':World} (h:Tr g w g' w') (h':Tr g' w' g'' w''):Tr g w g'' w'' :=
 ⟨h'.os.trans h.os,h'.tape.trans h.tape,h'.output.trans h.output,Nat.le_trans h.size h'.size,fun b o v hv=>h'.fz b o v (h.fz b o v hv),fun k hk hn=>by
  rw[h'.keep k (Nat.lt_of_lt_of_le hk h.size) (fun x hx=>by
   rcases h.new x k hx with hy | hy
   ·exact hn x hy
   omega)]
  exact h.keep k hk hn,fun x k hx=>by
  rcases h'.new x k hx with hy | hy
  ·exact h.new x k hy
  exact .inr (Nat.le_trans h.size hy),h.out.trans h'.out⟩
theorem WR.own_lt (hw:WR g S w) {x:Ow} {k:Nat} (h:g.own x=some k):k < w.heap.size:=by
 cases x with
 | box n t =>
  obtain⟨vs,cs,elem,_,h2,_⟩:=hw.box n t k h
  exact (Array.getElem?_eq_some_iff.1 h2).1
 | arr n a =>
  simp only[Gh.own,Option.bind_eq_some_iff] at h
  obtain⟨ai,ha,hb⟩:=h
  obtain⟨A,_,hr⟩:=hw.arr n a ai ha
  obtain⟨_,⟨cells,elem,hc,_⟩,_⟩:=hr.own k hb
  exact (Array.getElem?_eq_some_iff.1 hc).1
theorem zc6 {w:World} {a:Addr} {v:Value} (h:w.cell? a=some v):a.block < w.heap.size:=by
 unfold World.cell? at h
 split at h
 ·rename_i hc
  exact (Array.getElem?_eq_some_iff.1 hc).1
 cases h
theorem WR.keep (hw:WR g S w) (hf:∀ b o v,g.fz b o=some v→w'.cell? ⟨b,o,none⟩=some v) (ho:∀ x b,g.own x=some b→w'.heap[b]?=w.heap[b]?) (hs:w.heap.size≤w'.heap.size) (hh:∀ k,k < w.heap.size→w'.heap[k]?=w.heap[k]?):WR g S w':=by
 refine⟨hw.ok.step hs (fun k hk _=>hh k hk) (fun _ _ h=>.inl h),hf,?_,?_,hw.inj⟩
 ·intro n t b hb
  obtain⟨vs,cs,elem,h1,h2,h3⟩:=hw.box n t b hb
  exact⟨vs,cs,elem,h1,(ho (.box n t) b hb).trans h2,h3⟩
 intro n k ai ha
 obtain⟨A,h1,hr⟩:=hw.arr n k ai ha
 refine⟨A,h1,⟨hr.sz,hr.len,hr.gen,hr.each,hr.cap,hr.addr,?_,?_,hr.free⟩⟩
 ·obtain⟨cs,h2,h3⟩:=hr.cells
  refine⟨cs,h2,fun ad i j row v had hi hj=>?_⟩
  obtain⟨h4,h5⟩:=h3 ad i j row v had hi hj
  refine⟨?_,h5⟩
  cases hfr:A.frz with
  | true=>exact hf _ _ _ (h5 hfr)
  | false =>
   cases hb:ai.blk with
   | none =>
    rcases (hr.free hb).2 with h | h
    ·rw[hfr] at h;cases h
    rw[h] at hi;simp at hi
   | some b =>
    have hA:=(hr.own b hb).1
    rw[had] at hA
    obtain rfl:=Option.some.inj hA
    have:=ho (.arr n k) b (by simp[Gh.own,ha,hb])
    unfold World.cell? at h4 ⊢
    rw[this]
    exact h4
 intro b hb
 obtain⟨h2,⟨cells,elem,h3,h4⟩,h5⟩:=hr.own b hb
 exact⟨h2,⟨cells,elem,(ho (.arr n k) b (by simp[Gh.own,ha,hb])).trans h3,h4⟩,h5⟩
theorem WR.congr (hw:WR g S w) (hb:∀ n t b,g.b n t=some b→getBox S' n t=getBox S n t) (ha:∀ n k ai,g.a n k=some ai→getArr S' n k=getArr S n k):WR g S' w:=by
 refine⟨hw.ok,hw.fz,?_,?_,hw.inj⟩
 ·intro n t b h
  obtain⟨vs,cs,elem,h1,h2⟩:=hw.box n t b h
  exact⟨vs,cs,elem,(hb n t b h).trans h1,h2⟩
 intro n k ai h
 obtain⟨A,h1,h2⟩:=hw.arr n k ai h
 exact⟨A,(ha n k ai h).trans h1,h2⟩
mutual
theorem zk7 (d:Nat):∀ v:PV,v.up.kill d=v.up
 | .bool _ | .int _ _ | .str _ | .nils _ | .list _ _ _ | .rowp _ _ | .nili | .nile | .undef | .junk=>by simp[PV.up,PV.kill]
 | .agg vs=>by simp[PV.up,PV.kill,zg7 d vs]
 | .tup vs=>by simp[PV.up,PV.kill,zg7 d vs]
 | .ptr n t o=>by simp[PV.up,PV.kill]
 | .elem n a i o v g=>by simp[PV.up,PV.kill]
 | .sl n a o l v g f=>by simp[PV.up,PV.kill]
 | .func f caps=>by simp[PV.up,PV.kill,zg7 d caps]
 | .iface t v=>by simp[PV.up,PV.kill,zk7 d v]
theorem zg7 (d:Nat):∀ vs:List PV,PV.killL d (PV.upL vs)=PV.upL vs
 | []=>by simp[PV.upL,PV.killL]
 | v::vs=>by simp[PV.upL,PV.killL,zk7 d v,zg7 d vs]
end
theorem zoA (d n t:Nat) (S:Sto):getBox (killS d S) n t=if n=0 then (if t=d then none else (getBox S n t).map (PV.killL d)) else getBox S n t:=by
 cases S with
 | nil=>cases n <;> simp[killS,getBox]
 | cons f S=>cases n <;> simp[killS,getBox,Fr.kill]
theorem zoN (d n:Nat) (k:AK) (S:Sto):getArr (killS d S) n k=if n=0∧k.tmp=d then none else getArr S n k:=by
 cases S with
 | nil=>cases n <;> simp[killS,getArr]
 | cons f S=>cases n <;> simp[killS,getArr,Fr.kill]
theorem zfy {d:Nat} {x:Ow} {b:Nat} (h:(g.kill d).own x=some b):g.own x=some b:=by
 cases x with
 | box n t =>
  simp only[Gh.own,Gh.kill] at h ⊢
  split at h
  ·cases h
  exact h
 | arr n k =>
  simp only[Gh.own,Gh.kill] at h ⊢
  split at h
  ·cases h
  exact h
theorem zty (d:Nat) (g:Gh):(g.kill d).pop=g.pop:=by
 unfold Gh.pop Gh.kill
 simp
theorem WR.kill (hw:WR g S w) (d:Nat):WR (g.kill d) (killS d S) w:=by
 refine⟨hw.ok.sub fun x k h=>⟨x,zfy h⟩,hw.fz,?_,?_,fun x y b hx hy=>hw.inj x y b (zfy hx) (zfy hy)⟩
 ·intro n t b hb
  simp only[Gh.kill] at hb
  split at hb
  ·cases hb
  rename_i hn
  obtain⟨vs,cs,elem,h1,h2,h3,h4,h5⟩:=hw.box n t b hb
  rw[zoA]
  cases n with
  | zero =>
   have ht:t≠d:=fun e=>hn ⟨rfl,e⟩
   refine⟨PV.killL d vs,cs,elem,by simp[ht,h1],h2,by rw[zbs];exact h3,fun i v hi=>?_,h5⟩
   rw[zcY,Option.map_eq_some_iff] at hi
   obtain⟨u,hu,rfl⟩:=hi
   exact (h4 i u hu).kill d
  | succ n =>
   refine⟨vs,cs,elem,by simpa using h1,h2,h3,fun i v hi=>?_,h5⟩
   have:=(h4 i v hi).kill d
   rwa [PV.upN,zk7] at this
 intro n k ai ha
 simp only[Gh.kill] at ha
 split at ha
 ·cases ha
 rename_i hn
 obtain⟨A,h1,hr⟩:=hw.arr n k ai ha
 exact⟨A,by rw[zoN,if_neg hn];exact h1,⟨hr.sz,hr.len,hr.gen,hr.each,hr.cap,hr.addr,hr.cells,hr.own,hr.free⟩⟩
theorem Rel.kill {ac:Ac} {a:Act} (h:Rel g ac a w) (d:Nat):Rel (g.kill d) (ac.kill d) a w:=⟨h.wr.kill d,fun t=>(h.env t).kill d⟩
theorem Tr.kill (g:Gh) (w:World) (d:Nat):Tr g w (g.kill d) w :=
 ⟨rfl,rfl,rfl,Nat.le_refl _,fun _ _ _ h=>h,fun _ _ _=>rfl,fun x _ h=>.inl (zfy h),by rw[zty];exact Ext.refl _⟩
theorem zg4 (g:Gh) (d:Nat):(g.kill d).b 0 d=none:=by simp[Gh.kill]
theorem zfL (g:Gh) {d:Nat} {k:AK} (h:k.tmp=d):(g.kill d).a 0 k=none:=by simp[Gh.kill,h]
theorem zbj (w:World) (o:Obj) {k:Nat} (h:k < w.heap.size):(w.alloc o).heap[k]?=w.heap[k]?:=Go.RowKit.Below.heap_alloc w o k h
theorem zch (w:World) (o:Obj):(w.alloc o).heap.size=w.heap.size+1:=by show (w.heap.push o).size=_;simp
theorem zqA (w:World) (o:Obj) {a:Addr} {v:Value} (h:w.cell? a=some v):(w.alloc o).cell? a=some v:=by
 rw[World.cell?_alloc_lt _ _ _ (zc6 h)]
 exact h
theorem WR.alloc (hw:WR g S w) (o:Obj):WR g S (w.alloc o) :=
 hw.keep (fun b o' v h=>zqA w o (hw.fz b o' v h)) (fun x b h=>zbj w o (hw.own_lt h)) (by rw[zch];omega) (fun k hk=>zbj w o hk)
theorem WR.drew (hw:WR g S w):WR g S w.drew:=hw.keep hw.fz (fun _ _ _=>rfl) (Nat.le_refl _) (fun _ _=>rfl)
theorem WR.drawn (hw:WR g S w) (n:Nat):WR g S { w with drawn:=n }:=hw.keep hw.fz (fun _ _ _=>rfl) (Nat.le_refl _) (fun _ _=>rfl)
theorem ziE (w:World) (o:Obj):(w.alloc o).heap[w.heap.size]?=some o:=by show (w.heap.push o)[w.heap.size]?=_;simp
end
section
variable [Base] {g g':Gh} {S S':Sto} {w w':World} {P:Program}
def Gh.put (g:Gh) (n:Nat) (k:AK) (ai:AI) (φ:Fz):Gh:=⟨g.b,fun m j=>if m=n∧j=k then some ai else g.a m j,φ⟩
theorem zgX {n:Nat} {k:AK} {ai:AI} {φ:Fz} {x:Ow} {b:Nat} (h:(g.put n k ai φ).own x=some b):(x=.arr n k∧ai.blk=some b)∨(x≠.arr n k∧g.own x=some b):=by
 cases x with
 | box m t=>exact .inr ⟨(by simp),h⟩
 | arr m j =>
  simp only[Gh.own,Gh.put] at h
  split at h
  ·rename_i e
   obtain⟨rfl,rfl⟩:=e
   exact .inl ⟨rfl,h⟩
  rename_i e
  exact .inr ⟨(by simpa using e),h⟩
theorem ArrRel.ghost {A:Arr} {ai:AI} (h:ArrRel g w A ai) (hf:g.fz=g'.fz):ArrRel g' w A ai:=by
 obtain⟨h1,h2,h3,h4,h5,h6,h7,h8,h9⟩:=h
 exact⟨h1,h2,h3,h4,h5,h6,by rw[←hf];exact h7,by rw[←hf];exact h8,h9⟩
theorem WR.put (hw:WR g S w) (hok:w.heap.size≤w'.heap.size∧∀ k,k < w.heap.size→(∀ x,g.own x≠some k)→w'.heap[k]?=w.heap[k]?) {n:Nat} {k:AK} {A:Arr} {ai:AI} {φ:Fz} (hφ:∀ b o v,φ b o=some v→w'.cell? ⟨b,o,none⟩=some v) (hsub:∀ b o v,g.fz b o=some v→φ b o=some v)
  (hoth:∀ x b,x≠.arr n k→g.own x=some b→w'.heap[b]?=w.heap[b]?∧∀ o,φ b o=g.fz b o) (hr:ArrRel ⟨g.b,g.a,φ⟩ w' A ai) (hbn:∀ b,ai.blk=some b→Base.base.heap.size≤b) (hblk:∀ b,ai.blk=some b→∀ x,x≠.arr n k→g.own x≠some b)
  (hle:∀ ai0,g.a n k=some ai0→AIle ai0 ai) (hnm:∀ t i,k=.cell t i→¬ za1 g n t) (hS:getArr S' n k=some A) (hSb:∀ m t b,g.b m t=some b→getBox S' m t=getBox S m t) (hSa:∀ m j ai,¬ (m=n∧j=k)→g.a m j=some ai→getArr S' m j=getArr S m j) :
  WR (g.put n k ai φ) S' w'∧Ext g (g.put n k ai φ):=by
 have hx:Ext g (g.put n k ai φ):=by
  refine⟨⟨fun _ _ _ h=>h,fun m j a0 h=>?_,hsub⟩,fun m t hb=>⟨hb.1,fun i=>?_⟩⟩
  by_cases e:m=n∧j=k
  ·obtain⟨rfl,rfl⟩:=e
   exact⟨ai,by simp[Gh.put],hle a0 h⟩
  ·exact⟨a0,by simp only[Gh.put,if_neg e];exact h,AIle.refl _⟩
  show (if m=n∧AK.cell t i=k then some ai else g.a m (.cell t i))=none
  rw[if_neg]
  ·exact hb.2 i
  rintro ⟨rfl,e⟩
  exact hnm t i e.symm hb
 have ok1:OkB g w':=hw.ok.step hok.1 hok.2 (fun _ _ h=>.inl h)
 refine⟨⟨⟨ok1.size,ok1.keep,fun x k h=>?_⟩,hφ,?_,?_,?_⟩,hx⟩
 ·rcases zgX h with⟨_,h⟩ | ⟨_,h⟩
  ·exact hbn k h
  exact ok1.own x k h
 ·intro m t b hb
  obtain⟨vs,cs,elem,h1,h2,h3,h4,h5⟩:=hw.box m t b hb
  obtain⟨q1,q2⟩:=hoth (.box m t) b (by simp) hb
  exact⟨vs,cs,elem,(hSb m t b hb).trans h1,q1.trans h2,h3,fun i v hi=>(h4 i v hi).mono hx,fun o=>(q2 o).trans (h5 o)⟩
 ·intro m j a0 ha
  simp only[Gh.put] at ha
  split at ha
  ·rename_i e
   obtain⟨rfl,rfl⟩:=e
   obtain rfl:=Option.some.inj ha
   exact⟨A,hS,hr.ghost rfl⟩
  rename_i e
  obtain⟨A0,h1,hr0⟩:=hw.arr m j a0 ha
  refine⟨A0,(hSa m j a0 e ha).trans h1,?_⟩
  obtain⟨cs,c1,c2⟩:=hr0.cells
  have hne:Ow.arr m j≠.arr n k:=by simpa using e
  refine⟨hr0.sz,hr0.len,hr0.gen,hr0.each,hr0.cap,hr0.addr,⟨cs,fun i p row v hi hp=>(c1 i p row v hi hp).mono hsub,fun ad i p row v had hi hp=>?_⟩,?_,hr0.free⟩
  ·obtain⟨h4,h5⟩:=c2 ad i p row v had hi hp
   refine⟨?_,fun hfr=>hsub _ _ _ (h5 hfr)⟩
   cases hfr:A0.frz with
   | true=>exact hφ _ _ _ (hsub _ _ _ (h5 hfr))
   | false =>
    cases hb:a0.blk with
    | none =>
     rcases (hr0.free hb).2 with h | h
     ·rw[hfr] at h;cases h
     rw[h] at hi;simp at hi
    | some b =>
     have hA:=(hr0.own b hb).1
     rw[had] at hA
     obtain rfl:=Option.some.inj hA
     have:=(hoth (.arr m j) b hne (by simp[Gh.own,ha,hb])).1
     unfold World.cell? at h4 ⊢
     rw[this]
     exact h4
  intro b hb
  obtain⟨h2,⟨cells,elem,h3,h4⟩,h5,h6⟩:=hr0.own b hb
  obtain⟨q1,q2⟩:=hoth (.arr m j) b hne (by simp[Gh.own,ha,hb])
  exact⟨h2,⟨cells,elem,q1.trans h3,h4⟩,fun o ho=>(q2 o).trans (h5 o ho),fun hf o=>(q2 o).trans (h6 hf o)⟩
 intro x y b h1 h2
 rcases zgX h1 with⟨rfl,e1⟩ | ⟨n1,e1⟩ <;> rcases zgX h2 with⟨rfl,e2⟩ | ⟨n2,e2⟩
 ·rfl
 ·exact absurd e2 (hblk b e1 y n2)
 ·exact absurd e1 (hblk b e2 x n1)
 exact hw.inj x y b e1 e2
theorem Ext.pop_ {g g':Gh} (h:Ext g g'):Ext g.pop g'.pop:=⟨⟨fun n t b hb=>h.b (n+1) t b hb,fun n k ai ha=>h.a (n+1) k ai ha,h.fz⟩,fun n t hb=>h.nam (n+1) t hb⟩
theorem zit {n:Nat} {k:AK} {ai:AI} {φ:Fz} (hx:Ext g (g.put n k ai φ)) (h1:w'.os=w.os) (h2:w'.tape=w.tape) (h3:w'.output=w.output) (h4:w.heap.size≤w'.heap.size)
  (hk:∀ j,j < w.heap.size→(∀ x,g.own x≠some j)→w'.heap[j]?=w.heap[j]?) (hb:∀ b,ai.blk=some b→g.own (.arr n k)=some b∨w.heap.size≤b):Tr g w (g.put n k ai φ) w' :=
 ⟨h1,h2,h3,h4,hx.fz,hk,fun x b hx=>by
  rcases zgX hx with⟨rfl,e⟩ | ⟨_,e⟩
  ·rcases hb b e with h | h
   ·exact .inl h
   exact .inr h
  exact .inl e,hx.pop_⟩
theorem zav (S:Sto) (n:Nat) (k:AK) (A:Arr) (m:Nat) (j:AK):getArr (setArr S n k A) m j=if m=n∧j=k∧n < S.length then some A else getArr S m j:=by
 induction S generalizing n m with
 | nil=>cases n <;> cases m <;> simp[setArr,getArr]
 | cons f S ih =>
  cases n <;> cases m <;> simp[setArr,getArr,zd6,ih]
theorem zaB (S:Sto) (n:Nat) (k:AK) (A:Arr) (m t:Nat):getBox (setArr S n k A) m t=getBox S m t:=by
 induction S generalizing n m with
 | nil=>cases n <;> cases m <;> simp[setArr,getBox]
 | cons f S ih =>
  cases n <;> cases m <;> simp[setArr,getBox,ih]
theorem zh8 {S:Sto} {n:Nat} {k:AK} {A:Arr} (h:getArr S n k=some A):n < S.length:=by
 induction S generalizing n with
 | nil=>cases n <;> simp[getArr] at h
 | cons f S ih =>
  cases n with
  | zero=>simp
  | succ n=>simp only[getArr] at h;have:=ih h;simp;omega
theorem zrN {S:Sto} {n t:Nat} {A:List PV} (h:getBox S n t=some A):n < S.length:=by
 induction S generalizing n with
 | nil=>cases n <;> simp[getBox] at h
 | cons f S ih =>
  cases n with
  | zero=>simp
  | succ n=>simp only[getBox] at h;have:=ih h;simp;omega
theorem zaU (S:Sto) (n:Nat) (k:AK) (A:Arr):(setArr S n k A).length=S.length:=by
 induction S generalizing n with
 | nil=>cases n <;> simp[setArr]
 | cons f S ih=>cases n <;> simp[setArr,ih]
def za4 (fz:Fz) (w:World) (b0 lo hi:Nat):Fz:=fun b o=>if b=b0∧lo≤o∧o < hi then w.cell? ⟨b,o,none⟩ else fz b o
theorem zf9 {fz:Fz} {b0 lo hi:Nat} (h:∀ b o v,fz b o=some v→w.cell? ⟨b,o,none⟩=some v):∀ b o v,fz b o=some v→za4 fz w b0 lo hi b o=some v:=fun b o v hv=>by
 unfold za4
 split
 ·exact h b o v hv
 exact hv
theorem zeE {fz:Fz} {b0 lo hi:Nat} (h:∀ b o v,fz b o=some v→w.cell? ⟨b,o,none⟩=some v):∀ b o v,za4 fz w b0 lo hi b o=some v→w.cell? ⟨b,o,none⟩=some v:=fun b o v hv=>by
 unfold za4 at hv
 split at hv
 ·exact hv
 exact h b o v hv
theorem zcj {i j len sz:Nat} (hi:i < len) (hj:j < sz):i*sz+j < len*sz:=by
 have:(i+1)*sz≤len*sz:=Nat.mul_le_mul_right _ hi
 rw[Nat.add_mul] at this
 omega
theorem WR.freeze (hw:WR g S w) {n:Nat} {k:AK} {A:Arr} (hA:getArr S n k=some A) {ai:AI} (ha:g.a n k=some ai):∃ g',WR g' (setArr S n k { A with frz:=true }) w∧Ext g g'∧Tr g w g' w∧g'.a n k=some ai ∧
  ∀ ad i j row v,ai.A=some ad→A.rows[i]?=some row→row[j]?=some v→∃ c,g'.fz ad.block (ad.off+(i*A.sz+j))=some c∧FR g'.fz v c:=by
 obtain⟨A',hA',hr⟩:=hw.arr n k ai ha
 obtain rfl:A=A':=Option.some.inj (hA.symm.trans hA')
 have hlt:=zh8 hA
 obtain⟨cs,c1,c2⟩:=hr.cells
 obtain⟨φ,hφ⟩:∃ φ:Fz,(∃ b0,ai.blk=some b0∧φ=za4 g.fz w b0 0 (ai.len*A.sz))∨(ai.blk=none∧φ=g.fz):=by
  cases hb:ai.blk with
  | none=>exact⟨_,.inr ⟨rfl,rfl⟩⟩
  | some b0=>exact⟨_,.inl ⟨b0,rfl,rfl⟩⟩
 have hsub:∀ b o v,g.fz b o=some v→φ b o=some v:=by
  intro b o v hv
  rcases hφ with⟨b0,_,rfl⟩ | ⟨_,rfl⟩
  ·exact zf9 hw.fz b o v hv
  exact hv
 have hhold:∀ b o v,φ b o=some v→w.cell? ⟨b,o,none⟩=some v:=by
  intro b o v hv
  rcases hφ with⟨b0,_,rfl⟩ | ⟨_,rfl⟩
  ·exact zeE hw.fz b o v hv
  exact hw.fz b o v hv
 have hcell:∀ ad i j row v,ai.A=some ad→A.rows[i]?=some row→row[j]?=some v→φ ad.block (ad.off+(i*A.sz+j))=some (cs i j):=by
  intro ad i j row v had hi hj
  obtain⟨h4,h5⟩:=c2 ad i j row v had hi hj
  rcases hφ with⟨b0,hb,rfl⟩ | ⟨hb,rfl⟩
  ·have hA1:=(hr.own b0 hb).1
   rw[had] at hA1
   obtain rfl:=Option.some.inj hA1
   have hi':i < ai.len:=by rw[hr.len];exact (List.getElem?_eq_some_iff.1 hi).1
   have hj':j < A.sz:=by rw[←hr.each row (List.mem_of_getElem? hi)];exact (List.getElem?_eq_some_iff.1 hj).1
   have:=zcj hi' hj'
   dsimp only[za4]
   rw[if_pos ⟨rfl,by omega,by omega⟩]
   exact h4
  rcases (hr.free hb).2 with h | h
  ·exact h5 h
  rw[h] at hi;simp at hi
 have hrel:ArrRel ⟨g.b,g.a,φ⟩ w { A with frz:=true } ai:=by
  refine⟨hr.sz,hr.len,hr.gen,hr.each,hr.cap,hr.addr,⟨cs,fun i j row v hi hj=>(c1 i j row v hi hj).mono hsub,fun ad i j row v had hi hj=>⟨(c2 ad i j row v had hi hj).1,fun _=>hcell ad i j row v had hi hj⟩⟩,?_,fun hb=>⟨(hr.free hb).1,.inl rfl⟩⟩
  intro b hb
  obtain⟨h1,h2,h3,_⟩:=hr.own b hb
  refine⟨h1,h2,fun o ho=>?_,fun h=>by cases h⟩
  dsimp only at ho ⊢
  rcases hφ with⟨b0,hb0,rfl⟩ | ⟨hb0,rfl⟩
  ·rw[hb] at hb0
   obtain rfl:=Option.some.inj hb0
   unfold za4
   rw[if_neg (by omega)]
   exact h3 o ho
  exact h3 o ho
 obtain⟨hw',hx⟩:=hw.put (S':=setArr S n k { A with frz:=true }) (w':=w) (hok:=⟨Nat.le_refl _,fun _ _ _=>rfl⟩) (hbn:=fun b hb=>hw.ok.own (.arr n k) b (by simp[Gh.own,ha,hb])) (n:=n) (k:=k) hhold hsub (fun x b hne hb=>⟨rfl,fun o=>by
  rcases hφ with⟨b0,hb0,rfl⟩ | ⟨hb0,rfl⟩
  ·unfold za4
   rw[if_neg]
   rintro ⟨rfl,_⟩
   exact hne (hw.inj x (.arr n k) b hb (by simp[Gh.own,ha,hb0]))
  ·rfl⟩) hrel (fun b hb x hne hx=>hne (hw.inj x (.arr n k) b hx (by simp[Gh.own,ha,hb]))) (fun ai0 h=>by rw[ha] at h;cases h;exact AIle.refl _) (zi6 ha) (by rw[zav,if_pos ⟨rfl,rfl,hlt⟩])
  (fun m t b _=>zaB _ _ _ _ _ _) (fun m j _ hne _=>by rw[zav,if_neg (fun e=>hne ⟨e.1,e.2.1⟩)])
 refine⟨_,hw',hx,zit hx rfl rfl rfl (Nat.le_refl _) (fun _ _ _=>rfl) (fun b hb=>.inl (by simp[Gh.own,ha,hb])),by simp[Gh.put],fun ad i j row v had hi hj=>⟨cs i j,hcell ad i j row v had hi hj,(c1 i j row v hi hj).mono hsub⟩⟩
theorem zkd (hw:WR g S w) {v v':PV} {c:Value} (h:VR g v c) (hh:hand1 S v=some (v',S')):∃ g',WR g' S' w∧Ext g g'∧Tr g w g' w∧VR g' v' c:=by
 have same:∀ v'',VR g v'' c→some (v'',S)=some (v',S')→∃ g',WR g' S' w∧Ext g g'∧Tr g w g' w∧VR g' v' c:=by
  intro v'' h1 h2
  cases h2
  exact⟨g,hw,Ext.refl _,Tr.refl _ _,h1⟩
 unfold hand1 at hh
 split at hh
 ·rename_i z
  refine same _ ?_ hh
  cases h with | data _ _ h=>cases h with | nils z A =>
  exact .data _ _ (.list z [] false A 0 (fun _ _=>undef) (Nat.le_refl _) (by simp) (by simp) (by simp) (by simp) (by simp))
 ·rename_i z rows f
  refine same _ ?_ hh
  cases h with | data _ _ h=>cases h with | list _ _ _ A cap cs hl hf hs hA hc hv =>
  exact .data _ _ (.list z rows false A cap cs hl (by simp) hs hA hc hv)
 ·rename_i n k off len ver gen f
  split at hh
  ·rename_i R hR
   split at hh
   ·rename_i hcur
    cases hh
    cases h with
    | data _ _ h=>cases h
    | sl _ _ _ _ _ _ _ ai _ hai hle h1c hs =>
     obtain⟨R',hR',hr⟩:=hw.arr n k ai hai
     obtain rfl:R=R':=Option.some.inj (hR.symm.trans hR')
     obtain⟨A,cap,rfl,sa⟩:=hs (hr.gen.trans hcur.1) (hr.len.trans hcur.2)
     obtain⟨g',hw',hx,ht,ha',hc⟩:=hw.freeze hR hai
     refine⟨g',hw',hx,ht,?_⟩
     have hfit:off+len≤R.rows.length:=by rw[←hr.len];exact sa.fits
     have hlen:((R.rows.drop off).take len).length=len:=by rw[List.length_take,List.length_drop];omega
     have hget:∀ i row,((R.rows.drop off).take len)[i]?=some row→R.rows[off+i]?=some row∧i < len:=by
      intro i row hi
      rw[List.getElem?_take] at hi
      split at hi
      ·rename_i hlt
       rw[List.getElem?_drop] at hi
       exact⟨hi,hlt⟩
      cases hi
     have haddr:0 < len→∃ ad,ai.A=some ad∧ad.spot=none∧A=some ⟨ad.block,ad.off+off*R.sz,none⟩:=by
      intro hp
      obtain⟨ad,q1,q2,q3⟩:=sa.pos hp
      exact⟨ad,q1,q2,by rw[q3,hr.sz]⟩
     have key:=FR.list (fz:=g'.fz) R.sz ((R.rows.drop off).take len) false A cap (fun i j=>match ai.A with | some ad=>(g'.fz ad.block (ad.off+((off+i)*R.sz+j))).getD undef | none=>undef) (by rw[hlen];exact sa.le) (by simp)
      (fun r hr'=>hr.each r (List.mem_of_mem_drop (List.mem_of_mem_take hr'))) ?_ ?_ ?_
     ·rw[hlen] at key
      exact .data _ _ key
     ·intro hne
      have hp:0 < len:=by
       rcases Nat.eq_zero_or_pos len with h0 | h0
       ·subst h0;simp at hne
       exact h0
      obtain⟨ad,_,_,q3⟩:=haddr hp
      exact⟨_,q3,rfl⟩
     ·intro ad i j row v had hi hj
      obtain⟨hi',hlt⟩:=hget i row hi
      obtain⟨ad',q1,q2,q3⟩:=haddr (by omega)
      rw[had] at q3
      obtain rfl:=Option.some.inj q3
      obtain⟨c,hc1,_⟩:=hc ad' (off+i) j row v q1 hi' hj
      simp only[q1]
      rw[hc1]
      rw[show ad'.off+off*R.sz+(i*R.sz+j)=ad'.off+((off+i)*R.sz+j) by rw[Nat.add_mul];omega]
      exact hc1
     intro i j row v hi hj
     obtain⟨hi',hlt⟩:=hget i row hi
     obtain⟨ad',q1,q2,q3⟩:=haddr (by omega)
     obtain⟨c,hc1,hc2⟩:=hc ad' (off+i) j row v q1 hi' hj
     simp only[q1]
     rw[hc1]
     exact hc2
   cases hh
  cases hh
 exact same _ h hh
end
section
variable [Base] {g g':Gh} {S S':Sto} {w w':World} {P:Program}
theorem zg5:∀ (vs vs':List PV) (S S':Sto) (g:Gh) (f:Nat→Value),WR g S w→(∀ i v,vs[i]?=some v→VR g v (f i))→handL S vs=some (vs',S')→∃ g',WR g' S' w∧Ext g g'∧Tr g w g' w∧vs'.length=vs.length∧∀ i v,vs'[i]?=some v→VR g' v (f i)
 | [],vs',S,S',g,f,hw,h,hh=>by
  simp only[handL,Option.some.injEq,Prod.mk.injEq] at hh
  obtain⟨rfl,rfl⟩:=hh
  exact⟨g,hw,Ext.refl _,Tr.refl _ _,rfl,fun i v h=>by simp at h⟩
 | v::vs,vs',S,S',g,f,hw,h,hh=>by
  simp only[handL] at hh
  split at hh
  ·rename_i v1 S1 h1
   split at hh
   ·rename_i vs2 S2 h2
    simp only[Option.some.injEq,Prod.mk.injEq] at hh
    obtain⟨rfl,rfl⟩:=hh
    obtain⟨g1,w1,x1,t1,r1⟩:=zkd hw (h 0 v rfl) h1
    obtain⟨g2,w2,x2,t2,e2,r2⟩:=zg5 vs vs2 S1 S2 g1 (fun i=>f (i+1)) w1 (fun i v hi=>(h (i+1) v (by simpa using hi)).mono x1) h2
    refine⟨g2,w2,x1.trans x2,t1.trans t2,by simp[e2],fun i v hi=>?_⟩
    cases i with
    | zero=>simp at hi;subst hi;exact r1.mono x2
    | succ i=>simp at hi;exact r2 i v hi
   cases hh
  cases hh
theorem zlg (hw:WR g S w) {v v':PV} {c:Value} (h:VR g v c) (hh:hand S v=some (v',S')):∃ g',WR g' S' w∧Ext g g'∧Tr g w g' w∧VR g' v' c:=by
 unfold hand at hh
 split at hh
 ·rename_i vs
  split at hh
  ·rename_i vs1 S1 h1
   simp only[Option.some.injEq,Prod.mk.injEq] at hh
   obtain⟨rfl,rfl⟩:=hh
   obtain⟨cs,rfl,h2,h3⟩:=h.agg_inv
   obtain⟨g1,w1,x1,t1,e1,r1⟩:=zg5 vs vs1 S S1 g (fun i=>cs.getD i undef) hw h3 h1
   exact⟨g1,w1,x1,t1,.agg _ _ (e1.trans h2) r1⟩
  cases hh
 exact zkd hw h hh
theorem zjG:∀ (vs vs':List PV) (S S':Sto) (g:Gh) (f:Nat→Value),WR g S w→(∀ i v,vs[i]?=some v→VR g v (f i))→handA S vs=some (vs',S')→∃ g',WR g' S' w∧Ext g g'∧Tr g w g' w∧vs'.length=vs.length∧∀ i v,vs'[i]?=some v→VR g' v (f i)
 | [],vs',S,S',g,f,hw,h,hh=>by
  simp only[handA,Option.some.injEq,Prod.mk.injEq] at hh
  obtain⟨rfl,rfl⟩:=hh
  exact⟨g,hw,Ext.refl _,Tr.refl _ _,rfl,fun i v h=>by simp at h⟩
 | v::vs,vs',S,S',g,f,hw,h,hh=>by
  simp only[handA] at hh
  split at hh
  ·rename_i v1 S1 h1
   split at hh
   ·rename_i vs2 S2 h2
    simp only[Option.some.injEq,Prod.mk.injEq] at hh
    obtain⟨rfl,rfl⟩:=hh
    obtain⟨g1,w1,x1,t1,r1⟩:=zlg hw (h 0 v rfl) h1
    obtain⟨g2,w2,x2,t2,e2,r2⟩:=zjG vs vs2 S1 S2 g1 (fun i=>f (i+1)) w1 (fun i v hi=>(h (i+1) v (by simpa using hi)).mono x1) h2
    refine⟨g2,w2,x1.trans x2,t1.trans t2,by simp[e2],fun i v hi=>?_⟩
    cases i with
    | zero=>simp at hi;subst hi;exact r1.mono x2
    | succ i=>simp at hi;exact r2 i v hi
   cases hh
  cases hh
theorem zfI {v v':PV} (hh:hand1 S v=some (v',S')):S'.length=S.length:=by
 unfold hand1 at hh
 split at hh
 ·cases hh;rfl
 ·cases hh;rfl
 ·split at hh
  ·split at hh
   ·cases hh;exact zaU _ _ _ _
   cases hh
  cases hh
 cases hh;rfl
theorem zea:∀ (vs vs':List PV) (S S':Sto),handL S vs=some (vs',S')→S'.length=S.length
 | [],vs',S,S',hh=>by simp only[handL,Option.some.injEq,Prod.mk.injEq] at hh;rw[hh.2]
 | v::vs,vs',S,S',hh=>by
  simp only[handL] at hh
  split at hh
  ·rename_i v1 S1 h1
   split at hh
   ·rename_i vs2 S2 h2
    simp only[Option.some.injEq,Prod.mk.injEq] at hh
    rw[←hh.2,zea vs vs2 S1 S2 h2,zfI h1]
   cases hh
  cases hh
theorem zgq {v v':PV} (hh:hand S v=some (v',S')):S'.length=S.length:=by
 unfold hand at hh
 split at hh
 ·split at hh
  ·rename_i vs1 S1 h1
   cases hh
   exact zea _ _ _ _ h1
  cases hh
 exact zfI hh
theorem zfS:∀ (vs vs':List PV) (S S':Sto),handA S vs=some (vs',S')→S'.length=S.length
 | [],vs',S,S',hh=>by simp only[handA,Option.some.injEq,Prod.mk.injEq] at hh;rw[hh.2]
 | v::vs,vs',S,S',hh=>by
  simp only[handA] at hh
  split at hh
  ·rename_i v1 S1 h1
   split at hh
   ·rename_i vs2 S2 h2
    simp only[Option.some.injEq,Prod.mk.injEq] at hh
    rw[←hh.2,zfS vs vs2 S1 S2 h2,zgq h1]
   cases hh
  cases hh
theorem zlP (d:Nat):∀ (vs:List PV) (i j:Nat),(initC d i vs)[j]?=(vs[j]?).map fun v=>match v with | .nils _=>.sl 0 (.cell d (i+j)) 0 0 0 0 false | v=>v
 | [],i,j=>by simp[initC]
 | v::vs,i,0=>by cases v <;> simp[initC]
 | v::vs,i,j+1=>by
  have ih:=zlP d vs (i+1) j
  rw[show i+1+j=i+(j+1) by omega] at ih
  cases v <;> simpa [initC] using ih
theorem ziG (d:Nat):∀ (vs:List PV) (i:Nat),(initC d i vs).length=vs.length
 | [],i=>rfl
 | v::vs,i=>by cases v <;> simp[initC,ziG d vs]
theorem zpB (d:Nat):∀ (vs:List PV) (i:Nat) (a:AK→Option Arr),okA d i vs a→∀ j z,vs[j]?=some (.nils z)→a (.cell d (i+j))=some ⟨z,[],false,0⟩
 | [],i,a,_,j,z,h=>by simp at h
 | v::vs,i,a,ho,j,z,h=>by
  have h2:okA d (i+1) vs a:=by cases v <;> first | exact ho | exact ho.2
  cases j with
  | zero=>simp at h;subst h;exact ho.1
  | succ j =>
   have:=zpB d vs (i+1) a h2 j z (by simpa using h)
   rwa [show i+1+j=i+(j+1) by omega] at this
theorem zgr (d:Nat):∀ (vs:List PV) (i:Nat) (a:AK→Option Arr) (k:AK),(∀ j,i≤j→k≠.cell d j)→initA d i vs a k=a k
 | [],i,a,k,_=>rfl
 | v::vs,i,a,k,h=>by
  have h':∀ j,i+1≤j→k≠.cell d j:=fun j hj=>h j (by omega)
  cases v <;> simp only[initA] <;> rw[zgr d vs _ _ k h']
  unfold zd6
  rw[if_neg (h i (Nat.le_refl _))]
theorem zlI (d:Nat):∀ (vs:List PV) (i:Nat) (a:AK→Option Arr) (j z:Nat),vs[j]?=some (.nils z)→initA d i vs a (.cell d (i+j))=some ⟨z,[],false,0⟩
 | [],i,a,j,z,h=>by simp at h
 | v::vs,i,a,j,z,h=>by
  cases j with
  | zero =>
   simp at h
   subst h
   simp only[initA]
   rw[zgr d vs _ _ _ (fun j hj e=>by cases e;omega)]
   simp[zd6]
  | succ j =>
   have ih:=fun a=>zlI d vs (i+1) a j z (by simpa using h)
   rw[show i+(j+1)=i+1+j by omega]
   cases v <;> simp only[initA] <;> exact ih _
def ziX (vs:List PV) (cs:Array Value) (i:Nat):Option AI :=
 match vs[i]? with
 | some (.nils z)=>(match cs.getD i undef with | .slice A _ _=>some ⟨A,0,z,0,0,none⟩ | _=>none)
 | _=>none
def Gh.box (g:Gh) (d n:Nat) (vs:List PV) (cs:Array Value):Gh :=
 ⟨fun m t=>if m=0∧t=d then some n else g.b m t,fun m k=>match m,k with | 0,.cell t i=>if t=d then ziX vs cs i else g.a 0 (.cell t i) | m,k=>g.a m k,g.fz⟩
theorem zvo (hw:WR g S w) {d:Nat} (hb:g.b 0 d=none) (ha:∀ i,g.a 0 (.cell d i)=none) {vs:List PV} {cs:Array Value} (hc:Cells g vs cs) (elem:TypeId) (h1:getBox S' 0 d=some (initC d 0 vs)) (h2:∀ j z,vs[j]?=some (.nils z)→getArr S' 0 (.cell d j)=some ⟨z,[],false,0⟩)
  (hSb:∀ m t b,g.b m t=some b→getBox S' m t=getBox S m t) (hSa:∀ m k ai,g.a m k=some ai→getArr S' m k=getArr S m k) :
  ∃ g',WR g' S' (w.alloc (.cells cs elem))∧Exw g g'∧Tr g w g' (w.alloc (.cells cs elem))∧g'.b 0 d=some w.heap.size∧∀ t,t≠d→za1 g 0 t→za1 g' 0 t:=by
 let g':=g.box d w.heap.size vs cs
 have hx:Exw g g':=by
  refine⟨fun n t b h=>?_,fun n k ai h=>?_,fun _ _ _ h=>h⟩
  ·show (if n=0∧t=d then some w.heap.size else g.b n t)=some b
   rw[if_neg]
   ·exact h
   rintro ⟨rfl,rfl⟩
   rw[hb] at h
   cases h
  refine⟨ai,?_,AIle.refl _⟩
  cases n with
  | succ n=>exact h
  | zero =>
   cases k with
   | slot t=>exact h
   | cell t i =>
    show (if t=d then ziX vs cs i else g.a 0 (.cell t i))=some ai
    rw[if_neg]
    ·exact h
    rintro rfl
    rw[ha] at h
    cases h
 have hown:∀ x b,g'.own x=some b→(x=.box 0 d∧b=w.heap.size)∨g.own x=some b:=by
  intro x b h
  cases x with
  | box n t =>
   simp only[Gh.own,g',Gh.box] at h
   split at h
   ·rename_i e
    obtain⟨rfl,rfl⟩:=e
    exact .inl ⟨rfl,(Option.some.inj h).symm⟩
   exact .inr h
  | arr n k =>
   cases n with
   | succ n=>exact .inr h
   | zero =>
    cases k with
    | slot t=>exact .inr h
    | cell t i =>
     simp only[Gh.own,g',Gh.box] at h
     split at h
     ·unfold ziX at h
      split at h
      ·split at h <;> simp at h
      simp at h
     exact .inr h
 have hw1:=hw.alloc (.cells cs elem)
 have hfznew:∀ o,g.fz w.heap.size o=none:=by
  intro o
  cases h:g.fz w.heap.size o with
  | none=>rfl
  | some v=>exact absurd (zc6 (hw.fz _ _ _ h)) (Nat.lt_irrefl _)
 have hok:OkB g' (w.alloc (.cells cs elem)):=hw.ok.step (by rw[zch];omega) (fun k hk _=>zbj w _ hk) (fun x k h=>by
  rcases hown x k h with⟨_,rfl⟩ | h
  ·exact .inr (Nat.le_refl _)
  exact .inl h)
 refine⟨g',⟨hok,hw1.fz,?_,?_,?_⟩,hx,⟨rfl,rfl,rfl,by rw[zch];omega,fun _ _ _ h=>h,fun k hk _=>zbj w _ hk,fun x k h=>?_,?_⟩,?_,?_⟩
 ·intro n t b h
  by_cases e:n=0∧t=d
  ·obtain⟨rfl,rfl⟩:=e
   have hbn:b=w.heap.size:=by
    have:g'.b 0 t=some w.heap.size:=by simp[g',Gh.box]
    rw[this] at h
    exact (Option.some.inj h).symm
   subst hbn
   refine⟨_,cs,elem,h1,ziE w _,by rw[ziG];exact hc.1,fun i v hi=>?_,hfznew⟩
   rw[zlP,Option.map_eq_some_iff] at hi
   obtain⟨v0,hv0,hv⟩:=hi
   have hr0:=hc.2 i v0 hv0
   simp only[PV.upN]
   cases v0 with
   | nils z =>
    simp only[Nat.zero_add] at hv
    subst hv
    cases hr0 with | data _ _ hr0 =>
    generalize hcd:cs.getD i Go.undef=c at hr0
    cases hr0 with | nils _ A =>
    refine .sl 0 (.cell t i) 0 0 0 0 false ⟨A,0,z,0,0,none⟩ _ ?_ (.inr ⟨rfl,Nat.le_refl _⟩) rfl (fun _ _=>⟨A,0,rfl,⟨Nat.le_refl _,Nat.le_refl _,(fun _=>rfl),(fun h=>absurd h (Nat.lt_irrefl _)),(fun h=>by cases h),(fun _ _ _=>rfl)⟩⟩)
    simp only[g',Gh.box,ziX,hv0,hcd,if_true]
   | _=>simp only at hv;subst hv;exact hr0.monow hx
  have h':g.b n t=some b:=by
   simp only[g',Gh.box,if_neg e] at h
   exact h
  obtain⟨us,cs',elem',q1,q2,q3,q4,q5⟩:=hw1.box n t b h'
  exact⟨us,cs',elem',(hSb n t b h').trans q1,q2,q3,fun i v hi=>(q4 i v hi).monow hx,q5⟩
 ·intro n k ai h
  have old:g.a n k=some ai→∃ A,getArr S' n k=some A∧ArrRel g' (w.alloc (.cells cs elem)) A ai:=by
   intro h'
   obtain⟨A,q1,q2⟩:=hw1.arr n k ai h'
   exact⟨A,(hSa n k ai h').trans q1,q2.ghost rfl⟩
  cases n with
  | succ n=>exact old h
  | zero =>
   cases k with
   | slot t=>exact old h
   | cell t i =>
    simp only[g',Gh.box] at h
    split at h
    ·rename_i e
     subst e
     unfold ziX at h
     split at h
     ·rename_i z hz
      split at h
      ·cases h
       refine⟨_,h2 i z hz,⟨rfl,rfl,rfl,(fun r hr=>by cases hr),Nat.le_refl _,fun h=>absurd rfl h,⟨fun _ _=>undef,(fun i j row v hi=>by simp at hi),(fun ad i j row v _ hi=>by simp at hi)⟩,(fun b hb=>by cases hb),fun _=>⟨rfl,.inr rfl⟩⟩⟩
      cases h
     cases h
    exact old h
 ·intro x y b hx1 hy1
  rcases hown x b hx1 with⟨rfl,e1⟩ | e1 <;> rcases hown y b hy1 with⟨rfl,e2⟩ | e2
  ·rfl
  ·have:=hw.own_lt e2;omega
  ·have:=hw.own_lt e1;omega
  exact hw.inj x y b e1 e2
 ·rcases hown x k h with⟨_,rfl⟩ | h
  ·exact .inr (Nat.le_refl _)
  exact .inl h
 ·exact⟨⟨fun n t b hb=>hx.b (n+1) t b hb,fun n k ai ha=>hx.a (n+1) k ai ha,hx.fz⟩,fun n t hb=>hb⟩
 ·simp[g',Gh.box]
 intro t ht hb
 refine⟨?_,fun i=>?_⟩
 ·show (if 0=0∧t=d then some w.heap.size else g.b 0 t)=none
  rw[if_neg (fun e=>ht e.2)]
  exact hb.1
 show (if t=d then ziX vs cs i else g.a 0 (.cell t i))=none
 rw[if_neg ht]
 exact hb.2 i
end
section
variable [Base] {g g':Gh} {S S':Sto} {w w':World} {P:Program}
theorem WR.fz_new (hw:WR g S w) (o:Nat):g.fz w.heap.size o=none:=by
 cases h:g.fz w.heap.size o with
 | none=>rfl
 | some v=>exact absurd (zc6 (hw.fz _ _ _ h)) (Nat.lt_irrefl _)
theorem zpd (hw:WR g S w) {n:Nat} {k:AK} {A:Arr} {cap:Nat} {cells:Array Value} (e:TypeId) (hsz:cells.size=cap*A.sz) (heach:∀ r ∈ A.rows,r.length=A.sz) (hcap:A.rows.length≤cap) {cs:Nat→Nat→Value}
  (hcs:∀ i j row v,A.rows[i]?=some row→row[j]?=some v→cells[i*A.sz+j]?=some (cs i j)∧FR g.fz v (cs i j)) (hn:n < S.length)
  (hle:∀ ai0,g.a n k=some ai0→AIle ai0 ⟨some ⟨w.heap.size,0,none⟩,cap,A.sz,A.rows.length,A.gen,some w.heap.size⟩) (hnm:∀ t i,k=.cell t i→¬ za1 g n t) :
  ∃ g',WR g' (setArr S n k A) (w.drew.alloc (.cells cells e))∧Ext g g'∧Tr g w g' (w.drew.alloc (.cells cells e))∧g'.a n k=some ⟨some ⟨w.heap.size,0,none⟩,cap,A.sz,A.rows.length,A.gen,some w.heap.size⟩:=by
 let ai:AI:=⟨some ⟨w.heap.size,0,none⟩,cap,A.sz,A.rows.length,A.gen,some w.heap.size⟩
 let w':=w.drew.alloc (.cells cells e)
 have hw1:WR g S w':=hw.drew.alloc _
 have hnew:w'.heap[w.heap.size]?=some (.cells cells e):=ziE w.drew _
 have hcell:∀ o,w'.cell? ⟨w.heap.size,o,none⟩=cells[o]?:=by
  intro o
  simp[World.cell?,hnew]
 let φ:Fz:=za4 g.fz w' w.heap.size 0 (if A.frz=true then A.rows.length*A.sz else 0)
 have hφ:∀ b o,b≠w.heap.size→φ b o=g.fz b o:=by
  intro b o hb
  simp only[φ,za4]
  rw[if_neg (fun h=>hb h.1)]
 have hsub:=zf9 (w:=w') (b0:=w.heap.size) (lo:=0) (hi:=if A.frz=true then A.rows.length*A.sz else 0) hw1.fz
 have hrel:ArrRel ⟨g.b,g.a,φ⟩ w' A ai:=by
  refine⟨rfl,rfl,rfl,heach,hcap,fun _=>⟨_,rfl,rfl⟩,⟨cs,fun i j row v hi hj=>(hcs i j row v hi hj).2.mono hsub,fun ad i j row v had hi hj=>?_⟩,?_,fun h=>by cases h⟩
  ·obtain rfl:=Option.some.inj had
   have h1:=(hcs i j row v hi hj).1
   simp only[Nat.zero_add]
   refine⟨(hcell _).trans h1,fun hf=>?_⟩
   have:=zcj (List.getElem?_eq_some_iff.1 hi).1 (show j < A.sz by rw[←heach row (List.mem_of_getElem? hi)];exact (List.getElem?_eq_some_iff.1 hj).1)
   simp only[φ,za4,hf,if_true]
   rw[if_pos ⟨trivial,by omega,this⟩]
   exact (hcell _).trans h1
  intro b hb
  obtain rfl:=Option.some.inj hb
  refine⟨rfl,⟨cells,e,hnew,hsz⟩,fun o ho=>?_,fun hf o=>?_⟩
  ·simp only[φ,za4,ai] at ho ⊢
   rw[if_neg]
   ·exact hw.fz_new o
   rintro ⟨_,_,h⟩
   split at h <;> omega
  simp only[φ,za4,hf,Bool.false_eq_true,if_false]
  rw[if_neg (by omega)]
  exact hw.fz_new o
 obtain⟨h1,h2⟩:=hw.put (w':=w') (hok:=⟨by show w.heap.size≤(w.drew.alloc _).heap.size;rw[zch];exact Nat.le_succ _,fun k hk _=>zbj w.drew _ hk⟩) (hbn:=fun b hb=>by obtain rfl:=Option.some.inj hb;exact hw.ok.size) (S':=setArr S n k A) (n:=n) (k:=k) (φ:=φ) (zeE hw1.fz) hsub (fun x b _ hb=>by
  have hlt:=hw.own_lt hb
  exact⟨zbj w.drew _ hlt,fun o=>hφ b o (by omega)⟩) hrel (fun b hb x _ hx=>by
   obtain rfl:=Option.some.inj hb
   exact absurd (hw.own_lt hx) (Nat.lt_irrefl _)) hle hnm (by rw[zav,if_pos ⟨rfl,rfl,hn⟩]) (fun m t b _=>zaB _ _ _ _ _ _) (fun m j _ hne _=>by rw[zav,if_neg (fun e=>hne ⟨e.1,e.2.1⟩)])
 exact⟨_,h1,h2,zit h2 rfl rfl rfl (by show w.heap.size≤(w.drew.alloc _).heap.size;rw[zch];exact Nat.le_succ _) (fun j hj _=>zbj w.drew _ hj) (fun b hb=>.inr (by obtain rfl:=Option.some.inj hb;exact Nat.le_refl _)),by simp[Gh.put,ai]⟩
theorem zkc (hw:WR g S w) {n:Nat} {k:AK} {A:Arr} {a:Option Addr} {cap:Nat} (hcap:cap=A.rows.length) (heach:∀ r ∈ A.rows,r.length=A.sz) (haddr:A.rows≠[]→∃ ad,a=some ad∧ad.spot=none) {cs:Nat→Nat→Value}
  (hcs:∀ ad i j row v,a=some ad→A.rows[i]?=some row→row[j]?=some v→g.fz ad.block (ad.off+(i*A.sz+j))=some (cs i j)) (hfr:∀ i j row v,A.rows[i]?=some row→row[j]?=some v→FR g.fz v (cs i j)) (hf:A.frz=true∨A.rows=[]) (hn:n < S.length)
  (hle:∀ ai0,g.a n k=some ai0→AIle ai0 ⟨a,cap,A.sz,A.rows.length,A.gen,none⟩) (hnm:∀ t i,k=.cell t i→¬ za1 g n t) :
  ∃ g',WR g' (setArr S n k A) w∧Ext g g'∧Tr g w g' w∧g'.a n k=some ⟨a,cap,A.sz,A.rows.length,A.gen,none⟩:=by
 subst hcap
 let ai:AI:=⟨a,A.rows.length,A.sz,A.rows.length,A.gen,none⟩
 have hrel:ArrRel ⟨g.b,g.a,g.fz⟩ w A ai:=by
  refine⟨rfl,rfl,rfl,heach,Nat.le_refl _,haddr,⟨cs,hfr,fun ad i j row v had hi hj=>?_⟩,(fun b hb=>by cases hb),fun _=>⟨rfl,hf⟩⟩
  have:=hcs ad i j row v had hi hj
  exact⟨hw.fz _ _ _ this,fun _=>this⟩
 obtain⟨h1,h2⟩:=hw.put (w':=w) (hok:=⟨Nat.le_refl _,fun _ _ _=>rfl⟩) (hbn:=fun b hb=>by cases hb) (S':=setArr S n k A) (n:=n) (k:=k) (φ:=g.fz) hw.fz (fun _ _ _ h=>h) (fun x b _ _=>⟨rfl,fun _=>rfl⟩) hrel (fun b hb=>by cases hb) hle hnm (by rw[zav,if_pos ⟨rfl,rfl,hn⟩]) (fun m t b _=>zaB _ _ _ _ _ _) (fun m j _ hne _=>by rw[zav,if_neg (fun e=>hne ⟨e.1,e.2.1⟩)])
 exact⟨_,h1,h2,zit h2 rfl rfl rfl (Nat.le_refl _) (fun _ _ _=>rfl) (fun b hb=>by cases hb),by simp[Gh.put,ai]⟩
theorem zdx (b:Nat):∀ (vs:List Value) (o:Nat) (w:World) (cs:Array Value) (e:TypeId) (fr:Nat × Nat),w.heap[b]?=some (.cells cs e fr)→∃ cs',(w.setCells b o vs).heap[b]?=some (.cells cs' e fr)∧cs'.size=cs.size ∧
  (∀ i,cs'[i]?=if o≤i∧i < o+vs.length∧i < cs.size then vs[i - o]? else cs[i]?)
 | [],o,w,cs,e,fr,h=>⟨cs,h,rfl,fun i=>by rw[if_neg (by simp only[List.length_nil];omega)]⟩
 | v::vs,o,w,cs,e,fr,h=>by
  have h1:(w.setCell ⟨b,o,none⟩ v).heap[b]?=some (.cells (cs.setIfInBounds o v) e fr):=by
   simp only[World.setCell,Array.getElem?_modify,if_true,h,Option.map_some]
   simp
  obtain⟨cs',q1,q2,q3⟩:=zdx b vs (o+1) _ _ e fr h1
  refine⟨cs',by rw[World.setCells];exact q1,by rw[q2];simp,fun i=>?_⟩
  rw[q3 i]
  simp only[List.length_cons,Array.size_setIfInBounds]
  by_cases e1:i=o
  ·subst e1
   rw[if_neg (by omega)]
   by_cases hlt:i < cs.size
   ·rw[if_pos (by omega),Array.getElem?_setIfInBounds_self_of_lt hlt]
    simp
   rw[if_neg (by omega),Array.getElem?_eq_none (by simp;omega),Array.getElem?_eq_none (by omega)]
  by_cases e2:o+1≤i∧i < o+1+vs.length∧i < cs.size
  ·rw[if_pos e2,if_pos (by omega)]
   have:i - o=(i - (o+1))+1:=by omega
   rw[this,List.getElem?_cons_succ]
  rw[if_neg e2,if_neg (by omega),Array.getElem?_setIfInBounds_ne (by omega)]
theorem zV (b:Nat):∀ (vs:List Value) (o:Nat) (w:World) (k:Nat),k≠b→(w.setCells b o vs).heap[k]?=w.heap[k]?
 | [],_,_,_,_=>rfl
 | v::vs,o,w,k,h=>by
  rw[World.setCells,zV b vs (o+1) _ k h]
  exact Go.RowKit.Below.heap_setCell w ⟨b,o,none⟩ v k h
theorem zby (b:Nat):∀ (vs:List Value) (o:Nat) (w:World),(w.setCells b o vs).os=w.os∧(w.setCells b o vs).tape=w.tape∧(w.setCells b o vs).output=w.output∧(w.setCells b o vs).heap.size=w.heap.size
 | [],_,_=>⟨rfl,rfl,rfl,rfl⟩
 | v::vs,o,w=>by
  obtain⟨h1,h2,h3,h4⟩:=zby b vs (o+1) (w.setCell ⟨b,o,none⟩ v)
  rw[World.setCells]
  exact⟨h1,h2,h3,h4.trans (by simp[World.setCell])⟩
theorem zjZ {b:Nat} {cs:Array Value} {e:TypeId} (h:w.heap[b]?=some (.cells cs e (0,0))) {o n:Nat} (hn:o+n≤cs.size):w.there b o n:=fun j hj=>by
 have hlt:o+j < cs.size:=by omega
 refine⟨?_,?_⟩
 ·simp[World.cell?,h,hlt]
 simp[World.frozen?,h]
theorem zlK {t:TypeId} {i:TypeInfo} (hi:P.info? t=some i) {b o:Nat} {c:Value} (hsz:c.cells.size=i.size) (ht:w.there b o c.cells.size) (h1:∀ v ∈ c.cells.toList,v.oneCell'=true) :
  (Instr.storeAt t (.pointer (some ⟨b,o,none⟩)) c).run P w=.ok () (w.setCells b o c.cells.toList):=by
 have:=run_storeCells_cells (P:=P) b o c.cells.toList 0 w (fun j hj=>by simpa using (ht j (by simpa using hj)).1) (fun j hj=>by simpa using (ht j (by simpa using hj)).2) h1
 simp only[Nat.add_zero] at this
 simp[Instr.storeAt,Instr.sureAddr,storeVar,sizeOf,typeInfo,hi,hsz,this]
end
section
variable [Base] {g g':Gh} {S S':Sto} {w w':World} {P:Program}
mutual
theorem zqY:∀ (v u:PV),v.dn=some u→u.up=v
 | .bool _,u,h | .int _ _,u,h | .str _,u,h | .nils _,u,h | .list _ _ _,u,h | .rowp _ _,u,h | .nili,u,h | .nile,u,h | .undef,u,h | .junk,u,h=>by simp only[PV.dn,Option.some.injEq] at h;subst h;rfl
 | .agg vs,u,h=>by
  simp only[PV.dn,Option.map_eq_some_iff] at h
  obtain⟨us,hus,rfl⟩:=h
  simp[PV.up,zkh vs us hus]
 | .tup vs,u,h=>by
  simp only[PV.dn,Option.map_eq_some_iff] at h
  obtain⟨us,hus,rfl⟩:=h
  simp[PV.up,zkh vs us hus]
 | .ptr n t o,u,h=>by
  cases n with
  | zero=>simp[PV.dn] at h
  | succ n=>simp only[PV.dn,Option.some.injEq] at h;subst h;rfl
 | .elem n a i o v g,u,h=>by
  cases n with
  | zero=>simp[PV.dn] at h
  | succ n=>simp only[PV.dn,Option.some.injEq] at h;subst h;rfl
 | .sl n a o l v g f,u,h=>by
  cases n with
  | zero=>simp[PV.dn] at h
  | succ n=>simp only[PV.dn,Option.some.injEq] at h;subst h;rfl
 | .func f caps,u,h=>by
  simp only[PV.dn,Option.map_eq_some_iff] at h
  obtain⟨us,hus,rfl⟩:=h
  simp[PV.up,zkh caps us hus]
 | .iface t v,u,h=>by
  simp only[PV.dn,Option.map_eq_some_iff] at h
  obtain⟨u',hu,rfl⟩:=h
  simp[PV.up,zqY v u' hu]
theorem zkh:∀ (vs us:List PV),PV.dnL vs=some us→PV.upL us=vs
 | [],us,h=>by simp only[PV.dnL,Option.some.injEq] at h;subst h;rfl
 | v::vs,us,h=>by
  simp only[PV.dnL] at h
  cases hv:v.dn with
  | none=>simp[hv] at h
  | some v' =>
   cases hvs:PV.dnL vs with
   | none=>simp[hv,hvs] at h
   | some vs' =>
    simp only[hv,hvs,Option.some.injEq] at h
    subst h
    simp[PV.upL,zqY v v' hv,zkh vs vs' hvs]
end
theorem zsM:∀ (n:Nat) (v u:PV),PV.dnN n v=some u→PV.upN n u=v
 | 0,v,u,h=>by simp only[PV.dnN,Option.some.injEq] at h;subst h;rfl
 | n+1,v,u,h=>by
  simp only[PV.dnN,Option.bind_eq_some_iff] at h
  obtain⟨v',h1,h2⟩:=h
  rw[PV.upN,zsM n v' u h2,zqY v v' h1]
theorem zr4 (n m:Nat) (a:AK) (o l v g:Nat) (f:Bool):PV.upN n (.sl m a o l v g f)=.sl (m+n) a o l v g f:=by
 induction n with
 | zero=>rfl
 | succ n ih=>rw[PV.upN,ih];rfl
theorem zno (n z:Nat) (rows:List (List PV)) (f:Bool):PV.upN n (.list z rows f)=.list z rows f:=by
 induction n with
 | zero=>rfl
 | succ n ih=>rw[PV.upN,ih];rfl
theorem WR.boxPut (hw:WR g S w) {n t b:Nat} (hb:g.b n t=some b) (hf:∀ b o v,g.fz b o=some v→w'.cell? ⟨b,o,none⟩=some v) (ho:∀ k,k≠b→w'.heap[k]?=w.heap[k]?)
  {vs:List PV} {cs:Array Value} {e:TypeId} (h1:getBox S' n t=some vs) (h2:w'.heap[b]?=some (.cells cs e (0,0))) (h3:vs.length=cs.size) (h4:∀ i v,vs[i]?=some v→VR g (PV.upN n v) (cs.getD i undef))
  (hSb:∀ m t',¬ (m=n∧t'=t)→getBox S' m t'=getBox S m t') (hSa:∀ m k,getArr S' m k=getArr S m k):WR g S' w':=by
 have hother:∀ x k,x≠.box n t→g.own x=some k→w'.heap[k]?=w.heap[k]?:=fun x k hne hx=>ho k (fun e=>by subst e;exact hne (hw.inj x (.box n t) k hx hb))
 have hsz:w.heap.size≤w'.heap.size:=by
  apply Classical.byContradiction
  intro hlt
  have hlt':w'.heap.size < w.heap.size:=by omega
  have e1:w'.heap[w'.heap.size]?=none:=Array.getElem?_eq_none (Nat.le_refl _)
  by_cases e:w'.heap.size=b
  ·rw[e] at e1;rw[e1] at h2;cases h2
  have:=ho _ e
  rw[e1,Array.getElem?_eq_getElem hlt'] at this
  cases this
 refine⟨hw.ok.step hsz (fun k _ hn=>ho k (fun e=>by subst e;exact hn (.box n t) hb)) (fun _ _ h=>.inl h),hf,?_,?_,hw.inj⟩
 ·intro m t' b' hb'
  by_cases e:m=n∧t'=t
  ·obtain⟨rfl,rfl⟩:=e
   rw[hb] at hb'
   obtain rfl:=Option.some.inj hb'
   obtain⟨_,_,_,_,_,_,_,q⟩:=hw.box m t' b hb
   exact⟨vs,cs,_,h1,h2,h3,h4,q⟩
  obtain⟨us,cs',e',q1,q2,q3⟩:=hw.box m t' b' hb'
  exact⟨us,cs',e',(hSb m t' e).trans q1,(hother (.box m t') b' (by simpa using e) hb').trans q2,q3⟩
 intro m k ai ha
 obtain⟨A,q1,hr⟩:=hw.arr m k ai ha
 refine⟨A,(hSa m k).trans q1,?_⟩
 obtain⟨us,c1,c2⟩:=hr.cells
 refine⟨hr.sz,hr.len,hr.gen,hr.each,hr.cap,hr.addr,⟨us,c1,fun ad i j row v had hi hj=>?_⟩,fun b' hb'=>?_,hr.free⟩
 ·obtain⟨h4,h5⟩:=c2 ad i j row v had hi hj
  refine⟨?_,h5⟩
  cases hfr:A.frz with
  | true=>exact hf _ _ _ (h5 hfr)
  | false =>
   cases hbk:ai.blk with
   | none =>
    rcases (hr.free hbk).2 with h | h
    ·rw[hfr] at h;cases h
    rw[h] at hi;simp at hi
   | some b' =>
    have hA:=(hr.own b' hbk).1
    rw[had] at hA
    obtain rfl:=Option.some.inj hA
    have:=hother (.arr m k) b' (by simp) (by simp[Gh.own,ha,hbk])
    unfold World.cell? at h4 ⊢
    rw[this]
    exact h4
 obtain⟨q2,⟨cells,elem,q3,q4⟩,q5⟩:=hr.own b' hb'
 exact⟨q2,⟨cells,elem,(hother (.arr m k) b' (by simp) (by simp[Gh.own,ha,hb'])).trans q3,q4⟩,q5⟩
theorem zkL (S:Sto) (n t:Nat) (A:List PV) (m t':Nat):getBox (setBox S n t A) m t'=if m=n∧t'=t∧n < S.length then some A else getBox S m t':=by
 induction S generalizing n m with
 | nil=>cases n <;> cases m <;> simp[setBox,getBox]
 | cons f S ih =>
  cases n <;> cases m <;> simp[setBox,getBox,upd,ih]
theorem zmt (S:Sto) (n t:Nat) (A:List PV) (m:Nat) (k:AK):getArr (setBox S n t A) m k=getArr S m k:=by
 induction S generalizing n m with
 | nil=>cases n <;> cases m <;> simp[setBox,getArr]
 | cons f S ih =>
  cases n <;> cases m <;> simp[setBox,getArr,ih]
theorem zmy (S:Sto) (n t:Nat) (A:List PV):(setBox S n t A).length=S.length:=by
 induction S generalizing n with
 | nil=>cases n <;> simp[setBox]
 | cons f S ih=>cases n <;> simp[setBox,ih]
theorem zrM (hw:WR g S w) {n t o:Nat} {v u:PV} {c:Value} (hn:n < S.length) (hbx:∃ b,g.b n t=some b) (h:VR g v c) (hs:stCell S n t o v=some (u,S')) :
  ∃ g',WR g' S' w∧Ext g g'∧Tr g w g' w∧VR g' (PV.upN n u) c∧S'.length=S.length∧∀ m t',getBox S' m t'=getBox S m t':=by
 unfold stCell at hs
 split at hs
 ·rename_i z
  cases hs
  cases h with | data _ _ h=>cases h with | nils _ A =>
  let gen:=match getArr S n (.cell t o) with | some A=>A.gen+1 | none=>0
  obtain⟨g',w1,x1,t1,a1⟩:=zkc hw (n:=n) (k:=.cell t o) (A:=⟨z,[],false,gen⟩) (a:=A) (cap:=0) (cs:=fun _ _=>undef) rfl (fun r hr=>by cases hr) (fun h=>absurd rfl h) (fun _ i _ _ _ _ h=>by simp at h) (fun i _ _ _ h=>by simp at h) (.inr rfl) hn (fun ai0 h0=>by
   obtain⟨A0,q1,q2⟩:=hw.arr n _ ai0 h0
   left
   simp only[gen,q1]
   rw[q2.gen]
   exact Nat.lt_succ_self _) (fun t' i e hb=>by
    cases e
    obtain⟨b,h⟩:=hbx
    rw[hb.1] at h
    cases h)
  refine⟨g',w1,x1,t1,?_,zaU _ _ _ _,fun m t'=>zaB _ _ _ _ _ _⟩
  rw[zr4,Nat.zero_add]
  exact .sl _ _ _ _ _ _ _ _ _ a1 (.inr ⟨rfl,Nat.le_refl _⟩) rfl (fun _ _=>⟨A,0,rfl,⟨Nat.le_refl _,Nat.le_refl _,(fun _=>rfl),(fun h=>absurd h (Nat.lt_irrefl _)),(fun h=>by cases h),(fun _ _ _=>rfl)⟩⟩)
 ·rename_i z rows f
  cases hs
  refine⟨g,hw,Ext.refl _,Tr.refl _ _,?_,rfl,fun _ _=>rfl⟩
  rw[zno]
  cases h with | data _ _ h=>cases h with | list _ _ _ A cap cs hl hf hs hA hc hv =>
  exact .data _ _ (.list z rows false A cap cs hl (by simp) hs hA hc hv)
 ·rename_i m a off len ver gen f
  split at hs
  ·rename_i e
   obtain⟨rfl,rfl,rfl,rfl,rfl⟩:=e
   cases hs
   exact⟨g,hw,Ext.refl _,Tr.refl _ _,by rw[zr4,Nat.zero_add];exact h,rfl,fun _ _=>rfl⟩
  obtain⟨g',w1,x1,t1,r1⟩:=zkd hw h hs
  have:∃ z rows f,u=.list z rows f∧∀ m t',getBox S' m t'=getBox S m t':=by
   simp only[hand1] at hs
   split at hs
   ·split at hs
    ·cases hs
     exact⟨_,_,_,rfl,fun m t'=>zaB _ _ _ _ _ _⟩
    cases hs
   cases hs
  obtain⟨z,rows,f,rfl,hbx⟩:=this
  exact⟨g',w1,x1,t1,by rw[zno];exact r1,zfI hs,hbx⟩
 rw[Option.map_eq_some_iff] at hs
 obtain⟨u',hu,e⟩:=hs
 cases e
 exact⟨g,hw,Ext.refl _,Tr.refl _ _,by rw[zsM n v _ hu];exact h,rfl,fun _ _=>rfl⟩
theorem zkZ {n t:Nat}:∀ (vs us:List PV) (o:Nat) (S S':Sto) (g:Gh) (f:Nat→Value),WR g S w→n < S.length→(∃ b,g.b n t=some b)→(∀ i v,vs[i]?=some v→VR g v (f i))→stCells S n t o vs=some (us,S') →
  ∃ g',WR g' S' w∧Ext g g'∧Tr g w g' w∧us.length=vs.length∧(∀ i v,us[i]?=some v→VR g' (PV.upN n v) (f i))∧S'.length=S.length∧∀ m t',getBox S' m t'=getBox S m t'
 | [],us,o,S,S',g,f,hw,hn,hbx,h,hh=>by
  simp only[stCells,Option.some.injEq,Prod.mk.injEq] at hh
  obtain⟨rfl,rfl⟩:=hh
  exact⟨g,hw,Ext.refl _,Tr.refl _ _,rfl,(fun i v h=>by simp at h),rfl,fun _ _=>rfl⟩
 | v::vs,us,o,S,S',g,f,hw,hn,hbx,h,hh=>by
  simp only[stCells] at hh
  split at hh
  ·rename_i v1 S1 h1
   split at hh
   ·rename_i vs2 S2 h2
    simp only[Option.some.injEq,Prod.mk.injEq] at hh
    obtain⟨rfl,rfl⟩:=hh
    obtain⟨g1,w1,x1,t1,r1,l1,b1⟩:=zrM hw hn hbx (h 0 v rfl) h1
    obtain⟨g2,w2,x2,t2,e2,r2,l2,b2⟩:=zkZ vs vs2 (o+1) S1 S2 g1 (fun i=>f (i+1)) w1 (by omega) (hbx.imp fun b h=>x1.b _ _ _ h) (fun i v hi=>(h (i+1) v (by simpa using hi)).mono x1) h2
    refine⟨g2,w2,x1.trans x2,t1.trans t2,by simp[e2],fun i v hi=>?_,l2.trans l1,fun m t'=>(b2 m t').trans (b1 m t')⟩
    cases i with
    | zero=>simp at hi;subst hi;exact r1.mono x2
    | succ i=>simp at hi;exact r2 i v hi
   cases hh
  cases hh
theorem zms {v:PV} {c:Value} (h:VR g v c) (h1:v.cells.all PV.one=true):∀ u ∈ c.cells.toList,u.oneCell'=true:=by
 intro u hu
 have hc:=h.cells_ (zf5 h1)
 obtain⟨i,hi⟩:=List.getElem?_of_mem hu
 have hlt:i < c.cells.size:=by simpa using (List.getElem?_eq_some_iff.1 hi).1
 have hlt':i < v.cells.length:=by rw[hc.1];exact hlt
 have hv:=hc.2 i _ (List.getElem?_eq_getElem hlt')
 have:c.cells.getD i Go.undef=u:=by
  rw[Array.getD_eq_getD_getElem?]
  have:c.cells[i]?=some u:=by simpa using hi
  rw[this]
  rfl
 rw[this] at hv
 exact hv.oneCell (List.all_eq_true.1 h1 _ (List.getElem_mem hlt'))
theorem zop (hw:WR g S w) {ty:TypeId} {k:Option Nat} (hk:kOf P ty=some k) {p v:PV} {a c:Value} (hp:VR g p a) (hv:VR g v c) (h:storeP S (k.getD 1) p v=some S') :
  ∃ w' g',(Instr.storeAt ty a c).run P w=.ok () w'∧WR g' S' w'∧Ext g g'∧Tr g w g' w'∧S'.length=S.length:=by
 obtain⟨it,hit,hsz⟩:∃ it,P.info? ty=some it∧it.size=k.getD 1:=by
  cases k with
  | none =>
   obtain⟨d,hu,_,h1⟩:=zjT hk
   obtain⟨i,hi⟩:=ziS hu
   exact⟨i,hi,by rw[←zaL hi];exact h1⟩
  | some k =>
   obtain⟨d,hu,h1⟩:=zjO hk
   obtain⟨i,hi⟩:=ziS hu
   exact⟨i,hi,by rw[←zaL hi];exact h1⟩
 unfold storeP at h
 split at h
 ·rename_i hc
  obtain⟨hlen,hone⟩:=hc
  have hcells:=hv.cells_ (zf5 hone)
  have h1c:=zms hv hone
  have hcsz:c.cells.size=k.getD 1:=by rw[←hcells.1];exact hlen
  split at h
  ·rename_i n t o
   obtain⟨b,hb,rfl⟩:=hp.ptr_inv
   split at h
   ·rename_i cs0 hcs0
    split at h
    ·rename_i hfit
     split at h
     ·rename_i us S1 hst
      obtain rfl:=Option.some.inj h
      have hn:=zrN hcs0
      obtain⟨g1,w1,x1,t1,e1,r1,l1,b1⟩:=zkZ v.cells us o S S1 g (fun i=>c.cells.getD i Go.undef) hw hn ⟨_,hb⟩ hcells.2 hst
      have hb1:=x1.b _ _ _ hb
      obtain⟨vs,cs,elem,q1,q2,q3,q4,q5⟩:=w1.box n t b hb1
      have hvs:vs=cs0:=by
       have:=(b1 n t).symm.trans q1
       rw[hcs0] at this
       exact (Option.some.inj this).symm
      subst hvs
      have hth:w.there b o c.cells.size:=zjZ q2 (by omega)
      refine⟨_,g1,zlK hit (by omega) hth h1c,?_,x1,t1.trans ?_,?_⟩
      ·obtain⟨cs',s1,s2,s3⟩:=zdx b c.cells.toList o w cs elem _ q2
       refine w1.boxPut hb1 (vs:=setAt vs o us) (cs:=cs') ?_ (fun k hk=>zV b _ o w k hk) (by rw[zkL,if_pos ⟨rfl,rfl,by omega⟩]) s1 (by rw[zdY,s2];exact q3) ?_ (fun m t' hne=>by rw[zkL,if_neg (fun e=>hne ⟨e.1,e.2.1⟩)]) (fun m k=>zmt _ _ _ _ _ _)
       ·intro b' o' v' hf
        have hne:b'≠b:=fun e=>by subst e;rw[q5] at hf;cases hf
        have:=w1.fz b' o' v' hf
        unfold World.cell? at this ⊢
        rw[zV b _ o w b' hne]
        exact this
       intro i v' hi
       rw[zgi us vs o i (by omega)] at hi
       rw[Array.getD_eq_getD_getElem?,s3 i]
       split at hi
       ·rename_i hin
        rw[if_pos ⟨hin.1,by simp;omega,by omega⟩]
        have:=r1 (i - o) v' hi
        rw[Array.getD_eq_getD_getElem?] at this
        simpa using this
       rename_i hin
       rw[if_neg (by simp;omega)]
       have:=q4 i v' hi
       rwa [Array.getD_eq_getD_getElem?] at this
      ·obtain⟨r1,r2,r3,r4⟩:=zby b c.cells.toList o w
       refine⟨r1,r2,r3,by rw[r4];exact Nat.le_refl _,fun _ _ _ h=>h,fun k _ hne=>zV b _ o w k (fun e=>by subst e;exact hne (.box n t) hb1),fun x k hx=>.inl hx,Ext.refl _⟩
      rw[zmy,l1]
     cases h
    cases h
   cases h
  ·rename_i n a i o ver gen
   split at h
   ·rename_i us S1 hst
    split at h
    ·rename_i R hR
     split at h
     ·rename_i hcur
      split at h
      ·rename_i row hrow
       split at h
       ·rename_i hfit
        obtain rfl:=Option.some.inj h
        obtain⟨g1,w1,x1,t1,e1,r1⟩:=zg5 v.cells us S S1 g (fun i=>c.cells.getD i Go.undef) hw hcells.2 hst
        have hp1:=hp.mono x1
        cases hp1 with
        | data _ _ h=>cases h
        | elem _ _ _ _ _ _ ai _ hai hle h1c' hs =>
         obtain⟨R',hR',hr⟩:=w1.arr n a ai hai
         obtain rfl:R=R':=Option.some.inj (hR.symm.trans hR')
         obtain⟨ad,z1,z2,rfl⟩:=hs (hr.gen.trans hcur.1) (hr.len.trans hcur.2.1)
         have hblk:∃ b,ai.blk=some b:=by
          cases hb:ai.blk with
          | some b=>exact⟨b,rfl⟩
          | none =>
           rcases (hr.free hb).2 with h | h
           ·rw[hcur.2.2.1] at h;cases h
           rw[h] at hrow;simp at hrow
         obtain⟨b,hb⟩:=hblk
         obtain⟨hA,⟨cells,elem,hc1,hc2⟩,hc3,hc4⟩:=hr.own b hb
         rw[z1] at hA
         obtain rfl:=Option.some.inj hA
         simp only[Nat.zero_add]
         have hi:i < R.rows.length:=(List.getElem?_eq_some_iff.1 hrow).1
         have hrl:row.length=R.sz:=hr.each row (List.mem_of_getElem? hrow)
         have hmul:(i+1)*R.sz≤ai.cap*R.sz:=Nat.mul_le_mul_right _ (by have:=hr.cap;rw[hr.len] at this;omega)
         rw[Nat.add_mul,Nat.one_mul] at hmul
         have hth:w.there b (i*ai.sz+o) c.cells.size:=zjZ hc1 (by rw[hr.sz,hc2];omega)
         obtain⟨cs',s1,s2,s3⟩:=zdx b c.cells.toList (i*ai.sz+o) w cells elem _ hc1
         obtain⟨cs,c1,c2⟩:=hr.cells
         have hus:∀ j u,us[j]?=some u→FR g1.fz u (c.cells.getD j Go.undef):=fun j u hj=>(r1 j u hj).pure_FR (List.all_eq_true.1 hcur.2.2.2 u (List.mem_of_getElem? hj))
         have hown1:g1.own (.arr n a)=some b:=by simp[Gh.own,hai,hb]
         have hfz:∀ b' o' v',g1.fz b' o'=some v'→(w.setCells b (i*ai.sz+o) c.cells.toList).cell? ⟨b',o',none⟩=some v':=by
          intro b' o' v' hf
          have hne:b'≠b:=fun e=>by subst e;rw[hc4 hcur.2.2.1] at hf;cases hf
          have:=w1.fz b' o' v' hf
          unfold World.cell? at this ⊢
          rw[zV b _ _ w b' hne]
          exact this
         let A':Arr:={ R with rows:=R.rows.set i (setAt row o us) }
         let cs2:Nat→Nat→Value:=fun i' j=>if i'=i∧o≤j∧j < o+us.length then c.cells.getD (j - o) Go.undef else cs i' j
         have hget:∀ i' row' j v',A'.rows[i']?=some row'→row'[j]?=some v'→(i'=i∧o≤j∧j < o+us.length∧us[j - o]?=some v')∨(¬ (i'=i∧o≤j∧j < o+us.length)∧∃ row0,R.rows[i']?=some row0∧row0[j]?=some v'):=by
          intro i' row' j v' h1 h2
          simp only[A'] at h1
          by_cases ei:i'=i
          ·subst ei
           rw[List.getElem?_set_self hi] at h1
           obtain rfl:=Option.some.inj h1
           rw[zgi us row o j (by omega)] at h2
           split at h2
           ·rename_i hin
            exact .inl ⟨rfl,hin.1,hin.2,h2⟩
           rename_i hin
           exact .inr ⟨fun h=>hin h.2,row,hrow,h2⟩
          rw[List.getElem?_set_ne (Ne.symm ei)] at h1
          exact .inr ⟨fun h=>ei h.1,row',h1,h2⟩
         have hrel:ArrRel ⟨g1.b,g1.a,g1.fz⟩ (w.setCells b (i*ai.sz+o) c.cells.toList) A' ai:=by
          refine⟨hr.sz,by simp[A',hr.len],hr.gen,fun r hr'=>?_,hr.cap,fun _=>⟨_,z1,rfl⟩,⟨cs2,fun i' j row' v' h1 h2=>?_,fun ad' i' j row' v' had h1 h2=>⟨?_,fun hf=>?_⟩⟩,fun b' hb'=>?_,fun hb'=>by rw[hb] at hb';cases hb'⟩
          ·rcases List.mem_or_eq_of_mem_set hr' with h | h
           ·exact hr.each r h
           rw[h,zdY];exact hrl
          ·rcases hget i' row' j v' h1 h2 with⟨e1',e2',e3',e4'⟩ | ⟨hne,row0,q1,q2⟩
           ·simp only[cs2]
            rw[if_pos ⟨e1',e2',e3'⟩]
            exact hus _ _ e4'
           simp only[cs2]
           rw[if_neg hne]
           exact c1 i' j row0 v' q1 q2
          ·rw[z1] at had
           obtain rfl:=Option.some.inj had
           have hcell:(w.setCells b (i*ai.sz+o) c.cells.toList).cell? ⟨b,0+(i'*R.sz+j),none⟩=cs'[i'*R.sz+j]?:=by simp[World.cell?,s1]
           simp only[A']
           rw[hcell,s3]
           rcases hget i' row' j v' h1 h2 with⟨e1',e2',e3',e4'⟩ | ⟨hne,row0,q1,q2⟩
           ·subst e1'
            rw[if_pos ⟨by rw[hr.sz];omega,by simp[hr.sz];omega,by rw[hc2];omega⟩]
            simp only[cs2]
            rw[if_pos (by first | exact⟨rfl,e2',e3'⟩ | exact⟨trivial,e2',e3'⟩)]
            rw[show i'*R.sz+j - (i'*ai.sz+o)=j - o by rw[hr.sz];omega]
            rw[Array.getD_eq_getD_getElem?]
            have:j - o < c.cells.size:=by have:=(List.getElem?_eq_some_iff.1 e4').1;omega
            simp[this]
           simp only[cs2]
           rw[if_neg hne]
           have q3:=(c2 _ i' j row0 v' z1 q1 q2).1
           simp only[World.cell?,hc1] at q3
           have hj:j < R.sz:=by rw[←hr.each row0 (List.mem_of_getElem? q1)];exact (List.getElem?_eq_some_iff.1 q2).1
           rw[if_neg]
           ·simpa using q3
           intro hh
           simp only[Array.length_toList] at hh
           rw[hr.sz] at hh
           apply hne
           have hii:i'=i:=by
            rcases Nat.lt_trichotomy i' i with h | h | h
            ·have:(i'+1)*R.sz≤i*R.sz:=Nat.mul_le_mul_right _ h
             rw[Nat.add_mul,Nat.one_mul] at this
             omega
            ·exact h
            have:(i+1)*R.sz≤i'*R.sz:=Nat.mul_le_mul_right _ h
            rw[Nat.add_mul,Nat.one_mul] at this
            omega
           subst hii
           exact⟨rfl,by omega,by omega⟩
          ·simp only[A'] at hf;rw[hcur.2.2.1] at hf;cases hf
          rw[hb] at hb'
          obtain rfl:=Option.some.inj hb'
          exact⟨z1,⟨cs',elem,s1,by rw[s2];exact hc2⟩,hc3,fun _=>hc4 hcur.2.2.1⟩
         have hn:=zh8 hR
         obtain⟨p1,p2⟩:=w1.put (w':=w.setCells b (i*ai.sz+o) c.cells.toList) (hok:=⟨by rw[(zby b c.cells.toList (i*ai.sz+o) w).2.2.2];exact Nat.le_refl _,fun j _ hne=>zV b _ _ w j (fun e=>by subst e;exact hne _ hown1)⟩) (hbn:=fun b' hb'=>w1.ok.own _ b' (by rw[hb] at hb';obtain rfl:=Option.some.inj hb';exact hown1)) (S':=setArr S1 n a A') (n:=n) (k:=a) (φ:=g1.fz) hfz (fun _ _ _ h=>h) (fun x b' hne hx=>⟨zV b _ _ w b' (fun e=>by subst e;exact hne (w1.inj x (.arr n a) _ hx hown1)),fun _=>rfl⟩) hrel (fun b' hb' x hne hx=>by
          rw[hb] at hb'
          obtain rfl:=Option.some.inj hb'
          exact hne (w1.inj x (.arr n a) _ hx hown1)) (fun ai0 h0=>by rw[hai] at h0;cases h0;exact AIle.refl _) (zi6 hai) (by rw[zav,if_pos ⟨rfl,rfl,hn⟩]) (fun m t b _=>zaB _ _ _ _ _ _) (fun m j _ hne _=>by rw[zav,if_neg (fun e=>hne ⟨e.1,e.2.1⟩)])
         obtain⟨r1',r2',r3',r4'⟩:=zby b c.cells.toList (i*ai.sz+o) w
         exact⟨_,_,zlK hit (by omega) hth h1c,p1,x1.trans p2,t1.trans (zit p2 r1' r2' r3' (by rw[r4'];exact Nat.le_refl _) (fun j _ hne=>zV b _ _ w j (fun e=>by subst e;exact hne _ hown1)) (fun b' hb'=>.inl (by rw[hb] at hb';obtain rfl:=Option.some.inj hb';exact hown1))),by rw[zaU,zea _ _ _ _ hst]⟩
       cases h
      cases h
     cases h
    cases h
   cases h
  cases h
 cases h
end
section
variable [Base] {g g':Gh} {S S':Sto} {w w':World} {P:Program}
structure Step (kd:Bool) (d:Option Nat) (g:Gh) (ac:Ac) (w:World) (ac':Ac) (c:Value) (w':World) (g':Gh):Prop where
 wr:WR g' ac'.S w'
 tr:Tr g w g' w'
 dst:∀ t,d=some t→VR g' (ac'.e t) c
 env:∀ t,d≠some t→∀ u,VR g (ac.e t) u→VR g' (ac'.e t) u
 ext:kd=false→Exw g g'∧(∀ t,d≠some t→ac'.e t=ac.e t)∧∀ t,d≠some t→za1 g 0 t→za1 g' 0 t
 len:ac'.S.length=ac.S.length
theorem za8 (d:Nat) (S:Sto):(killS d S).length=S.length:=by cases S <;> rfl
theorem zju {T:Gh→Prop} {ac ac':Ac} (hw:WR g ac.S w) (hne:0 < ac.S.length) {kd:Bool} {d:Nat} {A:Arr} {c:Value}
  (mk:∀ g0 S0,(g0=g∨g0=g.kill d)→WR g0 S0 w→g0.a 0 (.slot d)=none→0 < S0.length→∃ g',WR g' (setArr S0 0 (.slot d) A) w'∧Ext g0 g'∧T g'∧∃ ai,g'.a 0 (.slot d)=some ai∧ai.len=A.rows.length∧ai.gen=A.gen∧c=.slice ai.A ai.len ai.cap∧(A.rows≠[]→∃ ad,ai.A=some ad∧ad.spot=none)∧ai.len≤ai.cap)
  (h:newArr kd d A ac=.ok ac'):∃ g',T g'∧∀ g1 ac1 w1,ac1.e=ac.e→ac1.S.length=ac.S.length→Ext g1 g→Tr g1 w1 g' w'→Step kd (some d) g1 ac1 w1 ac' c w' g':=by
 have vr:∀ g' ai,g'.a 0 (.slot d)=some ai→ai.len=A.rows.length→ai.gen=A.gen→c=.slice ai.A ai.len ai.cap→(A.rows≠[]→∃ ad,ai.A=some ad∧ad.spot=none)→ai.len≤ai.cap→VR g' (.sl 0 (.slot d) 0 A.rows.length A.rows.length A.gen false) c:=by
  intro g' ai h1 h2 h3 h4 h5 h6
  refine .sl _ _ _ _ _ _ _ ai _ h1 (.inr ⟨h3.symm,by omega⟩) (by rw[h4];rfl) (fun _ _=>⟨ai.A,ai.cap,by rw[h4,h2],⟨by omega,by omega,fun _=>rfl,fun hp=>?_,fun h=>(by cases h),fun _ _ _=>rfl⟩⟩)
  obtain⟨ad,q1,q2⟩:=h5 (fun e=>by rw[e] at hp;simp at hp)
  refine⟨ad,q1,q2,?_⟩
  obtain⟨b,o,s⟩:=ad
  simp only at q2
  subst q2
  simpa using q1
 unfold newArr at h
 split at h
 ·rename_i hk
  cases h
  obtain⟨g',w1,x1,t1,ai,a1,a2,a3,a4,a5,a6⟩:=mk (g.kill d) (killS d ac.S) (.inr rfl) (hw.kill d) (zfL g rfl) (by rw[za8];exact hne)
  refine⟨g',t1,fun gb acb wb he hl hxb htb=>⟨w1,htb,fun t ht=>?_,fun t ht u hu=>?_,fun hk'=>(by rw[hk'] at hk;cases hk),by rw[zaU,za8,hl]⟩⟩
  ·obtain rfl:=Option.some.inj ht
   simp only[upd,if_true]
   exact vr g' ai a1 a2 a3 a4 a5 a6
  have:t≠d:=fun e=>ht (by rw[e])
  simp only[upd,if_neg this,zdy]
  rw[he] at hu
  exact ((hu.mono hxb).kill d).mono x1
 rename_i hk
 split at h
 ·rename_i hno
  cases h
  have hg:g.a 0 (.slot d)=none:=by
   cases ha:g.a 0 (.slot d) with
   | none=>rfl
   | some ai =>
    obtain⟨A0,q1,_⟩:=hw.arr 0 _ ai ha
    rw[hno] at q1
    cases q1
  obtain⟨g',w1,x1,t1,ai,a1,a2,a3,a4,a5,a6⟩:=mk g ac.S (.inl rfl) hw hg hne
  refine⟨g',t1,fun gb acb wb he hl hxb htb=>⟨w1,htb,fun t ht=>?_,fun t ht u hu=>?_,fun _=>⟨(hxb.trans x1).toExw,fun t ht=>?_,fun t _ hb=>(hxb.trans x1).nam 0 t hb⟩,by rw[zaU,hl]⟩⟩
  ·obtain rfl:=Option.some.inj ht
   simp only[upd,if_true]
   exact vr g' ai a1 a2 a3 a4 a5 a6
  ·have:t≠d:=fun e=>ht (by rw[e])
   simp only[upd,if_neg this]
   rw[he] at hu
   exact hu.mono (hxb.trans x1)
  have:t≠d:=fun e=>ht (by rw[e])
  simp only[upd,if_neg this,he]
 cases h
theorem zgw {ac ac':Ac} (hw:WR g ac.S w) (hne:0 < ac.S.length) {kd:Bool} {d:Nat} {A:Arr} {c:Value}
  (mk:∀ g0 S0,WR g0 S0 w→g0.fz=g.fz→g0.a 0 (.slot d)=none→0 < S0.length→∃ g',WR g' (setArr S0 0 (.slot d) A) w'∧Ext g0 g'∧Tr g0 w g' w'∧∃ ai,g'.a 0 (.slot d)=some ai∧ai.len=A.rows.length∧ai.gen=A.gen∧c=.slice ai.A ai.len ai.cap∧(A.rows≠[]→∃ ad,ai.A=some ad∧ad.spot=none)∧ai.len≤ai.cap)
  (h:newArr kd d A ac=.ok ac'):∃ g',Step kd (some d) g ac w ac' c w' g':=by
 obtain⟨g',t1,hs⟩:=zju (w':=w') (c:=c) (T:=fun g'=>Tr g w g' w') hw hne (fun g0 S0 hor w0 hn hl=>by
  rcases hor with e | e
  ·rw[e] at w0 hn ⊢
   exact mk g S0 w0 rfl hn hl
  rw[e] at w0 hn ⊢
  obtain⟨g',w1,x1,t1,r⟩:=mk _ S0 w0 rfl hn hl
  exact⟨g',w1,x1,(Tr.kill g w d).trans t1,r⟩) h
 exact⟨g',hs g ac w rfl rfl (Ext.refl g) t1⟩
theorem zpP (hw:WR g S w) {tx:TypeId} (hk:(∃ e',P.underlying tx=some (.slice e'))∨P.underlying tx=some .string) {sz:Nat} {p:PV} {c:Value} (h:VR g p c) {rows:List (List PV)} (hs:srcRows S sz p=some rows) :
  ∃ news,Src P sz tx c rows.length news w∧(∀ r ∈ rows,r.length=sz)∧∀ i j row v,rows[i]?=some row→row[j]?=some v→∃ u,news[i*sz+j]?=some u∧FR g.fz v u:=by
 have viaSeen:∀ z full,view S p=some (z,rows,full)→z=sz→∃ news,Src P sz tx c rows.length news w∧(∀ r ∈ rows,r.length=sz)∧∀ i j row v,rows[i]?=some row→row[j]?=some v→∃ u,news[i*sz+j]?=some u∧FR g.fz v u:=by
  intro z full hv hz
  subst hz
  obtain⟨A,cap,cs,rfl,se⟩:=seen hw h hv
  cases A with
  | none =>
   have:rows=[]:=by
    cases rows with
    | nil=>rfl
    | cons r rows =>
     obtain⟨ad,h1,_⟩:=se.addr (by simp)
     cases h1
   subst this
   exact⟨[],⟨hk,fun _=>rfl,run_firstCells_none w z 0 0 cap,run_firstCells_none w.drew z 0 0 cap,by simp,fun _ h=>by cases h⟩,(fun r hr=>by cases hr),fun i j row v hi=>by simp at hi⟩
  | some ad =>
   let news:List Value:=(List.range (rows.length*z)).map fun q=>cs (q / z) (q % z)
   have hnl:news.length=rows.length*z:=by simp[news]
   have hq:∀ q,q < rows.length*z→∃ row v,rows[q / z]?=some row∧row[q % z]?=some v∧q / z*z+q % z=q:=by
    intro q hq
    have hz:0 < z:=by
     rcases Nat.eq_zero_or_pos z with h0 | h0
     ·rw[h0] at hq;simp at hq
     exact h0
    have h1:q / z < rows.length:=(Nat.div_lt_iff_lt_mul hz).2 hq
    have h2:=se.each _ (List.getElem_mem h1)
    have h3:q % z < (rows[q / z]).length:=by rw[h2];exact Nat.mod_lt _ hz
    refine⟨_,_,List.getElem?_eq_getElem h1,List.getElem?_eq_getElem h3,?_⟩
    have:=Nat.div_add_mod q z
    rw[Nat.mul_comm] at this
    exact this
   have hnews:∀ j u,news[j]?=some u→w.cell? (ad.add j)=some u:=by
    intro j u hj
    have hlt:j < rows.length*z:=by rw[←hnl];exact (List.getElem?_eq_some_iff.1 hj).1
    simp only[news,List.getElem?_map,List.getElem?_range hlt,Option.map_some,Option.some.injEq] at hj
    subst hj
    obtain⟨row,v,q1,q2,q3⟩:=hq j hlt
    obtain⟨ad',e1,hsp⟩:=se.addr (fun e=>by rw[e] at hlt;simp at hlt)
    obtain rfl:=Option.some.inj e1
    have:=se.cell ad (j / z) (j % z) row v rfl q1 q2
    rw[q3] at this
    rw[zeo hsp]
    exact this
   have h1:∀ u ∈ news,u.oneCell'=true:=by
    intro u hu
    obtain⟨q,hq',rfl⟩:=List.mem_map.1 hu
    obtain⟨row,v,q1,q2,_⟩:=hq q (by simpa using hq')
    exact (se.fr _ _ row v q1 q2).oneCell
   refine⟨news,⟨hk,fun _=>rfl,run_firstCells_some w z rows.length ad rows.length cap news hnl hnews,run_firstCells_some w.drew z rows.length ad rows.length cap news hnl (by simpa using hnews),hnl,h1⟩,se.each,fun i j row v hi hj=>?_⟩
   have hj':j < z:=by rw[←se.each row (List.mem_of_getElem? hi)];exact (List.getElem?_eq_some_iff.1 hj).1
   have hlt:=zcj (List.getElem?_eq_some_iff.1 hi).1 hj'
   refine⟨cs i j,?_,se.fr i j row v hi hj⟩
   simp only[news,List.getElem?_map,List.getElem?_range hlt,Option.map_some,Option.some.injEq]
   have e1:(i*z+j) / z=i:=by rw[Nat.mul_comm,Nat.mul_add_div (by omega),Nat.div_eq_of_lt hj',Nat.add_zero]
   have e2:(i*z+j) % z=j:=by rw[Nat.mul_comm,Nat.mul_add_mod,Nat.mod_eq_of_lt hj']
   rw[e1,e2]
 unfold srcRows at hs
 split at hs
 ·rename_i s
  split at hs
  ·rename_i h1
   subst h1
   obtain rfl:=Option.some.inj hs
   obtain rfl:=h.str_inv
   have hl:(s.map fun b=>[PV.int .u8 b.toNat]).length=(⟨s.toArray⟩:ByteArray).size:=by rw[zfu];simp
   rw[hl]
   refine⟨byteCells ⟨s.toArray⟩,⟨hk,fun _=>rfl,firstCells_string _ w,firstCells_string _ w.drew,by rw[byteCells_length,Nat.mul_one],fun u hu=>?_⟩,fun r hr=>?_,fun i j row v hi hj=>?_⟩
   ·obtain⟨_,_,rfl⟩:=List.mem_map.1 hu
    rfl
   ·obtain⟨_,_,rfl⟩:=List.mem_map.1 hr
    rfl
   rw[List.getElem?_map,Option.map_eq_some_iff] at hi
   obtain⟨b,hb,rfl⟩:=hi
   cases j with
   | zero =>
    simp at hj
    subst hj
    refine⟨.int .u8 b.toNat,?_,.int _ _⟩
    simp[byteCells,hb]
   | succ j=>simp at hj
  cases hs
 ·rename_i z
  obtain rfl:=Option.some.inj hs
  cases h with | data _ _ h=>cases h with | nils _ A =>
  refine⟨[],⟨hk,fun _=>rfl,?_,?_,by simp,fun _ h=>by cases h⟩,(fun r hr=>by cases hr),fun i j row v hi=>by simp at hi⟩
  ·cases A with
   | none=>exact run_firstCells_none w sz 0 0 0
   | some ad=>exact run_firstCells_some w sz 0 ad 0 0 [] (by simp) (by simp)
  cases A with
  | none=>exact run_firstCells_none w.drew sz 0 0 0
  | some ad=>exact run_firstCells_some w.drew sz 0 ad 0 0 [] (by simp) (by simp)
 split at hs
 ·rename_i z rows' full hv
  split at hs
  ·rename_i hz
   obtain rfl:=Option.some.inj hs
   exact viaSeen z full hv hz
  cases hs
 cases hs
end
section
variable [Base] {g g':Gh} {S S':Sto} {w w':World} {P:Program}
theorem zmm (n:Nat):∀ (r c:Nat),c≤2*n+768→Builtin.growBy n r c≤2*n+768
 | 0,c,h=>h
 | r+1,c,h=>by
  unfold Builtin.growBy
  split
  ·exact h
  exact zmm n r _ (by omega)
theorem zqP {n old:Nat} (h:old≤n):Builtin.nextslicecap n old≤2*n+768:=by
 unfold Builtin.nextslicecap
 split
 ·omega
 split
 ·omega
 exact zmm n 4 old (by omega)
theorem zt8 {n old bytes:Nat} (h:old≤n) (hb:bigRow n bytes):Builtin.nextslicecap n old*bytes≤281474976710656:=by
 obtain⟨h1,h2,h3⟩:=hb
 have:=Nat.mul_le_mul_right bytes (zqP h)
 rw[Nat.add_mul] at this
 have e:2*n*bytes=2*(n*bytes):=by rw[Nat.mul_assoc]
 omega
theorem zoO (w:World) (need old:Nat) (e:TypeId):need≤grownCap w need old e:=by
 unfold grownCap Question.cut
 exact Nat.le_add_right _ _
theorem zjy {t tx ty e:TypeId} {i:TypeInfo} (ht:P.underlying t=some (.slice e)) (hi:P.info? e=some i) {base:Option Addr} {len cap:Nat} (hcap:len≤cap) {x:Value} {news:List Value} (hs:Src P i.size tx x 0 news w) :
  (Builtin.append_ #[t,tx] ty #[.slice base len cap,x]).run P w=.ok (.slice base len cap) w:=by
 have hn:news=[]:=by have:=hs.newsLen;rw[Nat.zero_mul] at this;exact List.eq_nil_of_length_eq_zero this
 have hc:=hs.cells
 rw[hn] at hc
 rcases hs.kind with⟨e',hk⟩ | hk <;> cases base <;> simp[Builtin.append_,run_underlying ht,run_underlying hk,sizeOf,typeInfo,hi,hs.len,hcap,hc,storeCells]
theorem zlc (z:Array Value) (n:Nat):(Builtin.zeroCells z n).size=n*z.size:=by simp[Builtin.zeroCells]
theorem zjr {t tx ty e:TypeId} {i:TypeInfo} {z:Value} (ht:P.underlying t=some (.slice e)) (hi:P.info? e=some i) (hz:i.zero=some z) (hzs:z.cells.size=i.size) {base:Option Addr} {len cap:Nat} {rows src:List (List PV)} {cs:Nat→Nat→Value}
  (hlen:rows.length=len) (hb:bigRow (len+src.length) i.bytes) (hg:cap < len+src.length) (heach:∀ r ∈ rows,r.length=i.size) (haddr:rows≠[]→∃ ad,base=some ad∧ad.spot=none)
  (hcell:∀ ad k j row v,base=some ad→rows[k]?=some row→row[j]?=some v→w.cell? ⟨ad.block,ad.off+(k*i.size+j),none⟩=some (cs k j)) (hfr:∀ k j row v,rows[k]?=some row→row[j]?=some v→FR g.fz v (cs k j))
  {x:Value} {news:List Value} (hs:Src P i.size tx x src.length news w) (hse:∀ r ∈ src,r.length=i.size) (hnf:∀ k j row v,src[k]?=some row→row[j]?=some v→∃ u,news[k*i.size+j]?=some u∧FR g.fz v u) :
  ∃ (cells:Array Value) (cap':Nat) (cs':Nat→Nat→Value),(Builtin.append_ #[t,tx] ty #[.slice base len cap,x]).run P w=.ok (.slice (some ⟨w.heap.size,0,none⟩) (rows++src).length cap') (w.drew.alloc (.cells cells e))∧cells.size=cap'*i.size∧(rows++src).length≤cap' ∧
   (∀ r ∈ rows++src,r.length=i.size)∧∀ k j row v,(rows++src)[k]?=some row→row[j]?=some v→cells[k*i.size+j]?=some (cs' k j)∧FR g.fz v (cs' k j):=by
 let olds:List Value:=(List.range (rows.length*i.size)).map fun q=>cs (q / i.size) (q % i.size)
 have hol:olds.length=len*i.size:=by simp[olds,hlen]
 have hq:∀ q,q < rows.length*i.size→∃ row v,rows[q / i.size]?=some row∧row[q % i.size]?=some v∧q / i.size*i.size+q % i.size=q:=by
  intro q hq
  have hz:0 < i.size:=by
   rcases Nat.eq_zero_or_pos i.size with h0 | h0
   ·rw[h0] at hq;simp at hq
   exact h0
  have h1:q / i.size < rows.length:=(Nat.div_lt_iff_lt_mul hz).2 hq
  have h2:=heach _ (List.getElem_mem h1)
  have h3:q % i.size < (rows[q / i.size]).length:=by rw[h2];exact Nat.mod_lt _ hz
  refine⟨_,_,List.getElem?_eq_getElem h1,List.getElem?_eq_getElem h3,?_⟩
  have:=Nat.div_add_mod q i.size
  rw[Nat.mul_comm] at this
  exact this
 have hold:(Builtin.firstCells i.size len (.slice base len cap)).run P w.drew=.ok olds.toArray w.drew:=by
  cases base with
  | none =>
   have:rows=[]:=by
    cases rows with
    | nil=>rfl
    | cons r rows =>
     obtain⟨ad,h1,_⟩:=haddr (by simp)
     cases h1
   subst this
   simp only[List.length_nil] at hlen
   subst hlen
   have:=run_firstCells_none (P:=P) w.drew i.size 0 0 cap
   simpa [olds] using this
  | some ad =>
   refine run_firstCells_some w.drew i.size len ad len cap olds hol (fun j u hj=>?_)
   have hlt:j < rows.length*i.size:=by rw[hlen,←hol];exact (List.getElem?_eq_some_iff.1 hj).1
   simp only[olds,List.getElem?_map,List.getElem?_range hlt,Option.map_some,Option.some.injEq] at hj
   subst hj
   obtain⟨row,v,q1,q2,q3⟩:=hq j hlt
   obtain⟨ad',e1,hsp⟩:=haddr (fun e=>by rw[e] at hlt;simp at hlt)
   obtain rfl:=Option.some.inj e1
   have:=hcell ad (j / i.size) (j % i.size) row v rfl q1 q2
   rw[q3] at this
   rw[zeo hsp]
   exact this
 obtain⟨b1,b2,b3⟩:=hb
 have hrun:=run_append_grow_src w t tx ty e i z ht hi hz base len cap olds hold x src.length news hs hg (by omega) (zt8 (by omega) ⟨b1,b2,b3⟩)
 have hge:=zoO w (len+src.length) cap e
 have hnl:=hs.newsLen
 refine⟨(olds++news).toArray++Builtin.zeroCells z.cells (grownCap w (len+src.length) cap e - (len+src.length)),grownCap w (len+src.length) cap e,fun k j=>(olds++news)[k*i.size+j]?.getD undef,?_,?_,by rw[List.length_append,hlen];exact hge,?_,?_⟩
 ·rw[List.length_append,hlen]
  exact hrun
 ·simp only[Array.size_append,List.size_toArray,List.length_append,zlc,hzs,hol,hnl]
  rw[←Nat.add_mul,←Nat.add_mul]
  congr 1
  omega
 ·intro r hr
  rcases List.mem_append.1 hr with h | h
  ·exact heach r h
  exact hse r h
 intro k j row v hk hj
 have get:∀ u,(olds++news)[k*i.size+j]?=some u→((olds++news).toArray++Builtin.zeroCells z.cells (grownCap w (len+src.length) cap e - (len+src.length)))[k*i.size+j]?=some u:=by
  intro u hu
  have hlt:=(List.getElem?_eq_some_iff.1 hu).1
  rw[Array.getElem?_append_left (by simpa using hlt)]
  simpa using hu
 rcases Nat.lt_or_ge k len with hlt | hge'
 ·rw[List.getElem?_append_left (by omega)] at hk
  have hj':j < i.size:=by rw[←heach row (List.mem_of_getElem? hk)];exact (List.getElem?_eq_some_iff.1 hj).1
  have hcp:=zcj (show k < rows.length by omega) hj'
  have hu:(olds++news)[k*i.size+j]?=some (cs k j):=by
   have hcp':k*i.size+j < len*i.size:=by rw[←hlen];exact hcp
   rw[List.getElem?_append_left (by omega)]
   simp only[olds,List.getElem?_map,List.getElem?_range hcp,Option.map_some,Option.some.injEq]
   have e1:(k*i.size+j) / i.size=k:=by rw[Nat.mul_comm,Nat.mul_add_div (by omega),Nat.div_eq_of_lt hj',Nat.add_zero]
   have e2:(k*i.size+j) % i.size=j:=by rw[Nat.mul_comm,Nat.mul_add_mod,Nat.mod_eq_of_lt hj']
   rw[e1,e2]
  refine⟨?_,?_⟩
  ·exact (get _ hu).trans (by simp[hu])
  simp only[hu,Option.getD_some];exact hfr k j row v hk hj
 rw[List.getElem?_append_right (by omega)] at hk
 obtain⟨u,h1,h2⟩:=hnf (k - rows.length) j row v hk hj
 have hu:(olds++news)[k*i.size+j]?=some u:=by
  have:len*i.size≤k*i.size:=Nat.mul_le_mul_right _ hge'
  rw[List.getElem?_append_right (by omega),hol]
  have e:k*i.size+j - len*i.size=(k - rows.length)*i.size+j:=by rw[hlen,Nat.sub_mul];omega
  rw[e]
  exact h1
 refine⟨?_,?_⟩
 ·exact (get _ hu).trans (by simp[hu])
 simp only[hu,Option.getD_some];exact h2
theorem zgD {ac ac':Ac} (hw:WR g ac.S w) (hne:0 < ac.S.length) {kd:Bool} {d:Nat} {t tx ty e:TypeId} {i:TypeInfo} {z:Value} (ht:P.underlying t=some (.slice e)) (hi:P.info? e=some i) (hz:i.zero=some z) (hzs:z.cells.size=i.size) {base:Option Addr} {rows src:List (List PV)} {cs:Nat→Nat→Value} {frz:Bool}
  (hb:bigRow (rows.length+src.length) i.bytes) (heach:∀ r ∈ rows,r.length=i.size) (haddr:rows≠[]→∃ ad,base=some ad∧ad.spot=none) (hc:∀ ad k j row v,base=some ad→rows[k]?=some row→row[j]?=some v→g.fz ad.block (ad.off+(k*i.size+j))=some (cs k j))
  (hfr:∀ k j row v,rows[k]?=some row→row[j]?=some v→FR g.fz v (cs k j)) (hf:frz=true∨rows=[]) {x:Value} {news:List Value} (hs:Src P i.size tx x src.length news w) (hse:∀ r ∈ src,r.length=i.size) (hnf:∀ k j row v,src[k]?=some row→row[j]?=some v→∃ u,news[k*i.size+j]?=some u∧FR g.fz v u)
  (h:newArr kd d ⟨i.size,rows++src,frz,0⟩ ac=.ok ac'):∃ c w' g',(Builtin.append_ #[t,tx] ty #[.slice base rows.length rows.length,x]).run P w=.ok c w'∧Step kd (some d) g ac w ac' c w' g':=by
 rcases Nat.eq_zero_or_pos src.length with h0 | h0
 ·have hsrc:src=[]:=List.eq_nil_of_length_eq_zero h0
  subst hsrc
  rw[List.append_nil] at h
  have hrun:=zjy (ty:=ty) (base:=base) (len:=rows.length) (cap:=rows.length) ht hi (Nat.le_refl _) hs
  obtain⟨g',hst⟩:=zgw (w':=w) (c:=.slice base rows.length rows.length) hw hne (fun g0 S0 w0 hfz hn hl=>by
   obtain⟨g',w1,x1,t1,a1⟩:=zkc w0 (n:=0) (k:=.slot d) (A:=⟨i.size,rows,frz,0⟩) (a:=base) (cap:=rows.length) (cs:=cs) rfl heach haddr (fun ad k j row v h1 h2 h3=>by rw[hfz];exact hc ad k j row v h1 h2 h3) (fun k j row v h1 h2=>by rw[hfz];exact hfr k j row v h1 h2) hf hl (fun ai0 h0=>by rw[hn] at h0;cases h0) zjj
   exact⟨g',w1,x1,t1,_,a1,rfl,rfl,rfl,haddr,Nat.le_refl _⟩) h
  exact⟨_,w,g',hrun,hst⟩
 obtain⟨cells,cap',cs',hrun,h1,h2,h3,h4⟩:=zjr (g:=g) (ty:=ty) (cap:=rows.length) ht hi hz hzs rfl hb (by omega) heach haddr (fun ad k j row v q1 q2 q3=>hw.fz _ _ _ (hc ad k j row v q1 q2 q3)) hfr hs hse hnf
 obtain⟨g',hst⟩:=zgw (w':=w.drew.alloc (.cells cells e)) (c:=.slice (some ⟨w.heap.size,0,none⟩) (rows++src).length cap') hw hne (fun g0 S0 w0 hfz hn hl=>by
  obtain⟨g',w1,x1,t1,a1⟩:=zpd w0 (n:=0) (k:=.slot d) (A:=⟨i.size,rows++src,frz,0⟩) e h1 h3 h2 (cs:=cs') (fun k j row v q1 q2=>⟨(h4 k j row v q1 q2).1,by rw[hfz];exact (h4 k j row v q1 q2).2⟩) hl (fun ai0 h0=>by rw[hn] at h0;cases h0) zjj
  exact⟨g',w1,x1,t1,_,a1,rfl,rfl,rfl,fun _=>⟨_,rfl,rfl⟩,h2⟩) h
 exact⟨_,_,g',hrun,hst⟩
end
section
variable [Base] {g g':Gh} {S S':Sto} {w w':World} {P:Program}
theorem Step.behind {kd:Bool} {d:Option Nat} {g1:Gh} {ac ac1 ac':Ac} {c:Value} (h:Step kd d g1 ac1 w ac' c w' g') (hx:Ext g g1) (ht:Tr g w g1 w) (he:ac1.e=ac.e) (hl:ac1.S.length=ac.S.length):Step kd d g ac w ac' c w' g' :=
 ⟨h.wr,ht.trans h.tr,h.dst,fun t htd u hu=>h.env t htd u (by rw[he];exact hu.mono hx),fun hk=>⟨hx.toExw.trans (h.ext hk).1,fun t htd=>by rw[(h.ext hk).2.1 t htd,he],fun t htd hb=>(h.ext hk).2.2 t htd (hx.nam 0 t hb)⟩,h.len.trans hl⟩
theorem zoz {ac ac':Ac} (hw:WR g ac.S w) {kd:Bool} {d:Nat} {t tx ty e:TypeId} {i:TypeInfo} {z:Value} (ht:P.underlying t=some (.slice e)) (hi:P.info? e=some i) (hz:i.zero=some z) (hzs:z.cells.size=i.size)
  {n:Nat} {k:AK} {R:Arr} (hR:getArr ac.S n k=some R) {ai:AI} (hai:g.a n k=some ai) (hsz:R.sz=i.size) {src:List (List PV)} (hb:bigRow (R.rows.length+src.length) i.bytes) {x:Value} {news:List Value} (hs:Src P i.size tx x src.length news w) (hse:∀ r ∈ src,r.length=i.size)
  (hnf:∀ k j row v,src[k]?=some row→row[j]?=some v→∃ u,news[k*i.size+j]?=some u∧FR g.fz v u)
  (h:ac'=⟨upd ac.e d (.sl n k 0 (R.rows.length+src.length) (R.rows.length+src.length) R.gen false),setArr ac.S n k { R with rows:=R.rows++src }⟩) :
  ∃ c w' g',(Builtin.append_ #[t,tx] ty #[.slice ai.A ai.len ai.cap,x]).run P w=.ok c w'∧Step kd (some d) g ac w ac' c w' g':=by
 subst h
 obtain⟨R',hR',hr⟩:=hw.arr n k ai hai
 obtain rfl:R=R':=Option.some.inj (hR.symm.trans hR')
 have hn:=zh8 hR
 have hlen:=hr.len
 have step:∀ c w' g',WR g' (setArr ac.S n k { R with rows:=R.rows++src }) w'→Ext g g'→Tr g w g' w'→VR g' (.sl n k 0 (R.rows.length+src.length) (R.rows.length+src.length) R.gen false) c →
   Step kd (some d) g ac w ⟨upd ac.e d (.sl n k 0 (R.rows.length+src.length) (R.rows.length+src.length) R.gen false),setArr ac.S n k { R with rows:=R.rows++src }⟩ c w' g':=by
  intro c w' g' h1 h2 h3 h4
  refine⟨h1,h3,fun t ht=>?_,fun t ht u hu=>?_,fun _=>⟨h2.toExw,fun t ht=>?_,fun t _ hb=>h2.nam 0 t hb⟩,zaU _ _ _ _⟩
  ·obtain rfl:=Option.some.inj ht
   simp only[upd,if_true]
   exact h4
  ·have:t≠d:=fun e=>ht (by rw[e])
   simp only[upd,if_neg this]
   exact hu.mono h2
  have:t≠d:=fun e=>ht (by rw[e])
  simp only[upd,if_neg this]
 have slat:∀ (ai':AI) (hlen':ai'.len=R.rows.length+src.length) (hle:ai'.len≤ai'.cap) (ha:R.rows++src≠[]→∃ ad,ai'.A=some ad∧ad.spot=none),SlAt ai' 0 (R.rows.length+src.length) false ai'.A ai'.cap:=by
  intro ai' h1 h2 h3
  refine⟨by omega,by omega,fun _=>rfl,fun hp=>?_,(fun h=>by cases h),fun _ _ _=>rfl⟩
  obtain⟨ad,q1,q2⟩:=h3 (fun e=>by
   have:=congrArg List.length e
   rw[List.length_append] at this
   simp only[List.length_nil] at this
   omega)
  refine⟨ad,q1,q2,?_⟩
  obtain⟨b,o,s⟩:=ad
  simp only at q2
  subst q2
  simpa using q1
 rcases Nat.eq_zero_or_pos src.length with h0 | h0
 ·have hsrc:src=[]:=List.eq_nil_of_length_eq_zero h0
  subst hsrc
  have hrun:=zjy (ty:=ty) (base:=ai.A) (len:=ai.len) (cap:=ai.cap) ht hi hr.cap hs
  refine⟨_,w,g,hrun,step _ _ _ ?_ (Ext.refl _) (Tr.refl _ _) ?_⟩
  ·refine hw.congr (fun m t b _=>zaB _ _ _ _ _ _) (fun m j ai0 _=>?_)
   rw[zav]
   split
   ·rename_i e
    obtain⟨rfl,rfl,_⟩:=e
    rw[hR,List.append_nil]
   rfl
  refine .sl _ _ _ _ _ _ _ ai _ hai (.inr ⟨hr.gen.symm,by rw[hlen];exact Nat.le_refl _⟩) rfl (fun _ _=>⟨ai.A,ai.cap,by rw[hlen];rfl,slat ai (by rw[hlen];rfl) hr.cap (fun hne=>hr.addr (by simpa using hne))⟩)
 rcases Nat.lt_or_ge ai.cap (ai.len+src.length) with hg | hroom
 ·-- a new block
  obtain⟨cs,c1,c2⟩:=hr.cells
  obtain⟨cells,cap',cs',hrun,q1,q2,q3,q4⟩:=zjr (g:=g) (ty:=ty) (base:=ai.A) (len:=ai.len) (cap:=ai.cap) (rows:=R.rows) (cs:=cs) ht hi hz hzs hlen.symm (by rw[hlen];exact hb) hg (fun r hr'=>by rw[←hsz];exact hr.each r hr') hr.addr
   (fun ad k' j row v h1 h2 h3=>by have:=(c2 ad k' j row v h1 h2 h3).1;rwa [hsz] at this) c1 hs hse hnf
  obtain⟨g',w1,x1,t1,a1⟩:=zpd hw (n:=n) (k:=k) (A:={ R with rows:=R.rows++src }) e (by rw[hsz];exact q1) (fun r hr'=>by rw[hsz];exact q3 r hr') q2 (cs:=cs') (fun k' j row v h1 h2=>by have:=q4 k' j row v h1 h2;simpa only[hsz] using this) hn (fun ai0 h0'=>by
   rw[hai] at h0'
   obtain rfl:=Option.some.inj h0'
   right;left
   refine⟨hr.gen,?_⟩
   simp only[List.length_append]
   omega) (zi6 hai)
  refine⟨_,_,g',hrun,step _ _ _ w1 x1 t1 ?_⟩
  refine .sl _ _ _ _ _ _ _ _ _ a1 (.inr ⟨rfl,by simp⟩) rfl (fun _ _=>⟨_,_,by rw[List.length_append],slat _ (by simp) (by simpa using q2) (fun _=>⟨_,rfl,rfl⟩)⟩)
 -- there is room
 have hblk:∃ b,ai.blk=some b:=by
  cases hbk:ai.blk with
  | some b=>exact⟨b,rfl⟩
  | none=>have:=(hr.free hbk).1;omega
 obtain⟨b,hbk⟩:=hblk
 obtain⟨hA,⟨cells,elem,hc1,hc2⟩,hc3,hc4⟩:=hr.own b hbk
 have hnl:=hs.newsLen
 have hmul:(ai.len+src.length)*i.size≤ai.cap*i.size:=Nat.mul_le_mul_right _ hroom
 rw[Nat.add_mul] at hmul
 have hth:w.there b (0+ai.len*i.size) news.length:=zjZ hc1 (by rw[hc2,hsz];omega)
 have hrun:=run_append_room_src w t tx ty e i ht hi b 0 ai.len ai.cap x src.length news hs hroom (fun j hj=>(hth j hj).1) (fun j hj=>(hth j hj).2)
 obtain⟨cs',s1,s2,s3⟩:=zdx b news (0+ai.len*i.size) w cells elem _ hc1
 obtain⟨r1,r2,r3,r4⟩:=zby b news (0+ai.len*i.size) w
 let w1:=w.setCells b (0+ai.len*i.size) news
 have hown:g.own (.arr n k)=some b:=by simp[Gh.own,hai,hbk]
 have hcell:∀ o,w1.cell? ⟨b,o,none⟩=cs'[o]?:=by
  intro o
  simp only[World.cell?,w1,s1]
  rfl
 have hsame:∀ o,o < ai.len*i.size→w1.cell? ⟨b,o,none⟩=w.cell? ⟨b,o,none⟩:=by
  intro o ho
  rw[hcell,s3,if_neg (by omega)]
  simp[World.cell?,hc1]
 have hfz:∀ b' o v,g.fz b' o=some v→w1.cell? ⟨b',o,none⟩=some v:=by
  intro b' o v hf
  by_cases e:b'=b
  ·subst e
   have:o < ai.len*i.size:=by
    rcases Nat.lt_or_ge o (ai.len*i.size) with h | h
    ·exact h
    have:=hc3 o (by rw[hsz];exact h)
    rw[this] at hf
    cases hf
   rw[hsame o this]
   exact hw.fz _ _ _ hf
  have:=hw.fz b' o v hf
  unfold World.cell? at this ⊢
  simp only[w1]
  rw[zV b _ _ w b' e]
  exact this
 let φ:Fz:=za4 g.fz w1 b 0 (if R.frz=true then (ai.len+src.length)*i.size else 0)
 have hsub:∀ b' o v,g.fz b' o=some v→φ b' o=some v:=zf9 hfz
 let ai':AI:={ ai with len:=ai.len+src.length }
 let R':Arr:={ R with rows:=R.rows++src }
 obtain⟨cs,c1,c2⟩:=hr.cells
 let cs2:Nat→Nat→Value:=fun p j=>if p < ai.len then cs p j else (news[(p - ai.len)*i.size+j]?).getD undef
 have hget:∀ p j row v,(R.rows++src)[p]?=some row→row[j]?=some v→w1.cell? ⟨b,p*i.size+j,none⟩=some (cs2 p j)∧FR g.fz v (cs2 p j)∧p < ai.len+src.length∧j < i.size:=by
  intro p j row v hp hj
  simp only[cs2]
  rcases Nat.lt_or_ge p ai.len with hlt | hge
  ·rw[if_pos hlt]
   rw[List.getElem?_append_left (by omega)] at hp
   have hj':j < i.size:=by rw[←hsz,←hr.each row (List.mem_of_getElem? hp)];exact (List.getElem?_eq_some_iff.1 hj).1
   have hcp:=zcj hlt hj'
   have:=(c2 _ p j row v hA hp hj).1
   simp only[Nat.zero_add,hsz] at this
   exact⟨by rw[hsame _ hcp];exact this,c1 p j row v hp hj,by omega,hj'⟩
  rw[if_neg (by omega)]
  rw[List.getElem?_append_right (by omega)] at hp
  rw[←hlen] at hp
  obtain⟨u,h1,h2⟩:=hnf (p - ai.len) j row v hp hj
  have hlt:=(List.getElem?_eq_some_iff.1 h1).1
  have hp':=(List.getElem?_eq_some_iff.1 hp).1
  have hj':j < i.size:=by rw[←hse row (List.mem_of_getElem? hp)];exact (List.getElem?_eq_some_iff.1 hj).1
  have e1:p*i.size=ai.len*i.size+(p - ai.len)*i.size:=by rw[←Nat.add_mul];congr 1;omega
  refine⟨?_,by rw[h1];exact h2,by omega,hj'⟩
  rw[hcell,s3,if_pos ⟨by omega,by omega,by rw[hc2,hsz];omega⟩]
  have:p*i.size+j - (0+ai.len*i.size)=(p - ai.len)*i.size+j:=by omega
  rw[this,h1]
  rfl
 have hrel:ArrRel ⟨g.b,g.a,φ⟩ w1 R' ai':=by
  refine⟨hr.sz,by simp[ai',R',hlen],hr.gen,fun r hr'=>?_,hroom,fun _=>⟨_,hA,rfl⟩,⟨cs2,fun p j row v hp hj=>(hget p j row v hp hj).2.1.mono hsub,fun ad p j row v had hp hj=>?_⟩,fun b' hb'=>?_,fun hb'=>by simp only[ai'] at hb';rw[hbk] at hb';cases hb'⟩
  ·rcases List.mem_append.1 hr' with h | h
   ·exact hr.each r h
   rw[hse r h];exact hsz.symm
  ·simp only[ai'] at had
   rw[hA] at had
   obtain rfl:=Option.some.inj had
   obtain⟨q1,q2,q3,q4⟩:=hget p j row v hp hj
   simp only[R',hsz,Nat.zero_add]
   refine⟨q1,fun hf=>?_⟩
   have:=zcj q3 q4
   simp only[φ,za4,hf,if_true]
   rw[if_pos ⟨trivial,by omega,this⟩]
   exact q1
  simp only[ai'] at hb'
  rw[hbk] at hb'
  obtain rfl:=Option.some.inj hb'
  refine⟨hA,⟨cs',elem,s1,by rw[s2];exact hc2⟩,fun o ho=>?_,fun hf o=>?_⟩
  ·simp only[ai',R',hsz] at ho
   rw[Nat.add_mul] at ho
   simp only[φ,za4]
   rw[if_neg]
   ·exact hc3 o (by rw[hsz];omega)
   rintro ⟨_,_,h⟩
   split at h
   ·rw[Nat.add_mul] at h;omega
   omega
  simp only[R'] at hf
  simp only[φ,za4,hf,Bool.false_eq_true,if_false]
  rw[if_neg (by omega)]
  exact hc4 hf o
 obtain⟨p1,p2⟩:=hw.put (w':=w1) (hok:=⟨by rw[(zby b _ _ w).2.2.2];exact Nat.le_refl _,fun j _ hne=>zV b _ _ w j (fun e=>by subst e;exact hne _ hown)⟩) (hbn:=fun b' hb'=>hw.ok.own _ b' (by simp only[ai'] at hb';rw[hbk] at hb';obtain rfl:=Option.some.inj hb';exact hown)) (S':=setArr ac.S n k R') (n:=n) (k:=k) (ai:=ai') (φ:=φ) (zeE hfz) hsub (fun x' b' hne hx=>⟨zV b _ _ w b' (fun e=>by subst e;exact hne (hw.inj x' (.arr n k) _ hx hown)),fun o=>by
  simp only[φ,za4]
  rw[if_neg]
  rintro ⟨rfl,_⟩
  exact hne (hw.inj x' (.arr n k) _ hx hown)⟩) hrel (fun b' hb' x' hne hx=>by
   simp only[ai'] at hb'
   rw[hbk] at hb'
   obtain rfl:=Option.some.inj hb'
   exact hne (hw.inj x' (.arr n k) _ hx hown)) (fun ai0 h0'=>by
   rw[hai] at h0'
   obtain rfl:=Option.some.inj h0'
   right;left
   exact⟨rfl,by simp only[ai'];omega⟩) (zi6 hai) (by rw[zav,if_pos ⟨rfl,rfl,hn⟩]) (fun m t b _=>zaB _ _ _ _ _ _) (fun m j _ hne _=>by rw[zav,if_neg (fun e=>hne ⟨e.1,e.2.1⟩)])
 have t1:=zit p2 r1 r2 r3 (Nat.le_of_eq r4.symm) (fun j _ hne=>zV b _ _ w j (fun e=>by subst e;exact hne _ hown)) (fun b' hb'=>.inl (by
  simp only[ai'] at hb'
  rw[hbk] at hb'
  obtain rfl:=Option.some.inj hb'
  exact hown))
 refine⟨_,w1,_,by rw[hA];exact hrun,step _ _ _ p1 p2 t1 ?_⟩
 have ha':(g.put n k ai' φ).a n k=some ai':=by simp[Gh.put]
 refine .sl _ _ _ _ _ _ _ ai' _ ha' (.inr ⟨hr.gen.symm,by simp only[ai'];omega⟩) rfl (fun _ _=>⟨ai'.A,ai'.cap,by simp only[ai',hA,hlen],slat ai' (by simp only[ai',hlen]) hroom (fun _=>⟨_,hA,rfl⟩)⟩)
end
end Go.Proofs.YtfbcnpbhhooapaaGreatDoor.M
