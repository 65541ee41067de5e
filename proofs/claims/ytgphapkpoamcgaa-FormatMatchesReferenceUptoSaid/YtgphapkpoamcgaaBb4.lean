/- The operations: a compact form of the machine's operations, and what each does to abstract values. -/
import Derived.Test.YtgphapkpoamcgaaBb3
set_option linter.unusedVariables false
set_option linter.unusedSimpArgs false
namespace Go.Ab
open Go.RowKit

abbrev FV := Nat → V

structure St (N : Nat) (S : Nat → Prop) (G : Gh) (f : FV) (h : HF) (a : Act) (w : World) : Prop where
  rel : Rel S G h w
  fr : ∀ t, R G (f t) (a.tmps.getD t undef)
  bd : ∀ t, (f t).bd S
  size : a.tmps.size = N
  defers : a.defers = []

def lv (v : Value) : V := .pv (.lit v)
def cst : Value → V
  | .agg us => if us.toList.all Value.oneCell' then .pv (.agg (us.toList.map .lit)) else .junk
  | v => .pv (.lit v)
def ev (f : FV) : Operand → V
  | .tmp t => f t
  | .const v => cst v
  | .func g => .pv (.fn g [])
  | .global _ => .junk

def PV.vcells (p : PV) : List V := p.cells.map .pv

/-- the cells that a value takes in memory -/
def V.cells? : V → Option (List V)
  | .pv (.agg ps) => some (ps.map .pv)
  | .pv (.lit v) => if v.oneCell' then some [.pv (.lit v)] else none
  | .pv (.tup _) => none
  | .pv (.rptr cs) => some [.pv (.rptr cs)]
  | .pv (.list sz xs) => some [.pv (.list sz xs)]
  | .pv (.fn f cs) => some [.pv (.fn f cs)]
  | .agg cs => some cs
  | .ptr b i o => some [.ptr b i o]
  | .row b n fl => some [.row b n fl]
  | .fn f cs => some [.fn f cs]
  | .junk => none
  | .tup _ => none

/-- the tag of a type that is compared -/
inductive Tag where
  | int | bool | str | slice | ptr | func
  deriving DecidableEq

inductive AO where
  | mov (x : Operand)
  | pick (c a b : Operand)
  | alloc (ty sz : Nat) (zero : List Value)
  | box (ty sz : Nat) (x : Operand)
  | build (zero : List Value) (places : List (Nat × Nat)) (parts : List (Nat × Operand))
  | bslice (ty sz : Nat) (zero : List Value) (len : Nat) (parts : List (Nat × Operand))
  | load (agg : Bool) (n : Nat) (x : Operand)
  | store (n : Nat) (x y : Operand)
  | nilc (x : Operand)
  | bin (op : BinOp) (tag : Tag) (x y : Operand)
  | un (op : UnOp) (x : Operand)
  | conv (k : IntKind) (x : Operand)
  | mkfn (f : FuncId) (caps : List Operand)
  | mkslice (ty sz : Nat) (zero : List Value) (l c : Operand)
  | slice (sz : Nat) (x : Operand) (lo hi mx : Option Operand)
  | sslice (x : Operand) (lo hi : Option Operand)
  | faddr (off : Nat) (x : Operand)
  | field (agg : Bool) (off n : Nat) (x : Operand)
  | iaddr (sz : Nat) (x i : Operand)
  | sindex (x i : Operand)
  | ext (x : Operand) (k : Nat)
  | slen (str : Bool) (x : Operand)
  | app (ty sz : Nat) (x y : Operand)
  | minmax (mn : Bool) (x y : Operand)
  | call (fx : Operand) (args : List Operand)

section compile
variable (P : Program)
def isAggB (t : TypeId) : Option Bool :=
  match P.underlying t with
  | some (.struct _) => some true
  | some (.array _ _) => some true
  | some _ => some false
  | none => none
/-- a type's cells, at least one, its zero value spelled out -/
def zeroOf (t : TypeId) : Option (Nat × List Value) :=
  match P.info? t with
  | some i => match i.zero with
    | some z => if 0 < i.size ∧ z.cells.size = i.size ∧ z.cells.toList.all Value.oneCell' = true then some (i.size, z.cells.toList) else none
    | none => none
  | none => none
def tagOf (t : TypeId) : Option Tag :=
  match P.underlying t with
  | some (.int _) => some .int
  | some .bool => some .bool
  | some .string => some .str
  | some (.slice _) => some .slice
  | some (.pointer _) => some .ptr
  | some (.func _ _ _) => some .func
  | _ => none
def compOp : Op → Option AO
  | .move x => some (.mov x)
  | .assign x => some (.mov x)
  | .pick c a b => some (.pick c a b)
  | .alloc e => match zeroOf P e with
    | some (n, z) => some (.alloc e n z)
    | none => none
  | .box e x => match zeroOf P e with
    | some (n, _) => some (.box e n x)
    | none => none
  | .build t parts => match P.info? t, P.underlying t with
    | some i, some (.struct fields) => match i.zero, fields.toList.mapM (fun f => (P.info? f.type).map fun i => (f.offset, i.size)) with
      | some z, some places => if z.cells.toList.all Value.oneCell' = true then some (.build z.cells.toList places parts.toList) else none
      | _, _ => none
    | _, _ => none
  | .buildSlice t len parts => match P.underlying t with
    | some (.slice e) => match zeroOf P e with
      | some (n, z) => if len * n ≤ 2 ^ 24 ∧ parts.toList.all (fun p => p.1 < len) then some (.bslice e n z len parts.toList) else none
      | none => none
    | _ => none
  | .load t x => match isAggB P t, P.info? t with
    | some g, some i => if g = true ∨ i.size = 1 then some (.load g i.size x) else none
    | _, _ => none
  | .store t x y => match P.info? t with
    | some i => some (.store i.size x y)
    | none => none
  | .nilCheck x => some (.nilc x)
  | .binOp op t x y _ => match tagOf P t with
    | some g => some (.bin op g x y)
    | none => none
  | .unOp op _ x => some (.un op x)
  | .convert src dst x => match P.underlying src, P.underlying dst with
    | some (.int _), some (.int k) => some (.conv k x)
    | _, _ => none
  | .makeFunc (.func f) first caps => if first.size = 0 then some (.mkfn f caps.toList) else none
  | .makeSlice t l c => match P.underlying t with
    | some (.slice e) => match P.info? e, zeroOf P e with
      | some i, some (n, z) => if i.bytes ≤ 128 then some (.mkslice e n z l c) else none
      | _, _ => none
    | _ => none
  | .slice t x lo hi mx => match P.underlying t with
    | some (.slice e) => match P.info? e with
      | some i => if 0 < i.size ∧ (mx.isNone = true ∨ hi.isSome = true) then some (.slice i.size x lo hi mx) else none
      | none => none
    | some .string => if mx.isNone then some (.sslice x lo hi) else none
    | _ => none
  | .fieldAddr t x k => match P.underlying t with
    | some (.struct fs) => match fs[k]? with
      | some f => match P.info? f.type with
        | some i => if 0 < i.size then some (.faddr f.offset x) else none
        | none => none
      | none => none
    | _ => none
  | .field t x k => match P.underlying t with
    | some (.struct fs) => match fs[k]? with
      | some f => match isAggB P f.type, P.info? f.type with
        | some g, some i => some (.field g f.offset i.size x)
        | _, _ => none
      | none => none
    | _ => none
  | .indexAddr t x i => match P.underlying t with
    | some (.slice e) => match P.info? e with
      | some j => if 0 < j.size then some (.iaddr j.size x i) else none
      | none => none
    | _ => none
  | .index t x i => match P.underlying t with
    | some .string => some (.sindex x i)
    | _ => none
  | .extract x k => some (.ext x k)
  | .call c => match c.callee with
    | .value f => some (.call f c.args.toList)
    | .builtin .len => match c.args.toList, c.argTypes.toList with
      | [x], [t] => match P.underlying t with
        | some .string => some (.slen true x)
        | some (.slice _) => some (.slen false x)
        | _ => none
      | _, _ => none
    | .builtin .append => match c.args.toList, c.argTypes.toList with
      | [x, y], [t, t'] => if t = t' then match P.underlying t with
          | some (.slice e) => match P.info? e, zeroOf P e with
            | some i, some (n, _) => if i.bytes ≤ 128 then some (.app e n x y) else none
            | _, _ => none
          | _ => none
        else none
      | _, _ => none
    | .builtin .min => match c.args.toList with
      | [x, y] => some (.minmax true x y)
      | _ => none
    | .builtin .max => match c.args.toList with
      | [x, y] => some (.minmax false x y)
      | _ => none
    | _ => none
  | _ => none
end compile

def mkv (agg : Bool) (cs : List V) : V :=
  if agg then .agg cs else match cs with
    | [c] => c
    | _ => .junk
def mkp (agg : Bool) (cs : List PV) : PV :=
  if agg then .agg cs else match cs with
    | [c] => c
    | _ => .agg cs
def fillA (places : List (Nat × Nat)) : List V → List (Nat × V) → Option (List V)
  | cells, [] => some cells
  | cells, (i, v) :: ps => match places[i]?, v.cells? with
    | some (off, n), some cs => if cs.length = n ∧ off + n ≤ cells.length then fillA places (spl cells off cs) ps else none
    | _, _ => none
def fillE (sz : Nat) : List (List V) → List (Nat × V) → Option (List (List V))
  | xs, [] => some xs
  | xs, (i, v) :: ps => match v.cells? with
    | some cs => if cs.length = sz then fillE sz (xs.set i cs) ps else none
    | none => none

def bint (op : BinOp) (k : IntKind) (x y : Int) : Option Value :=
  match op with
  | .add => some (.int k (k.wrap (x + y)))
  | .sub => some (.int k (k.wrap (x - y)))
  | .mul => some (.int k (k.wrap (x * y)))
  | .quo => if y = 0 then none else some (.int k (k.wrap (x.tdiv y)))
  | .rem => if y = 0 then none else some (.int k (x.tmod y))
  | .eql => some (.bool (x == y))
  | .neq => some (.bool (x != y))
  | .lss => some (.bool (decide (x < y)))
  | .leq => some (.bool (decide (x ≤ y)))
  | .gtr => some (.bool (decide (x > y)))
  | .geq => some (.bool (decide (x ≥ y)))
  | _ => none
def bstr (op : BinOp) (x y : ByteArray) : Option Value :=
  match op with
  | .add => if x.size + y.size ≤ 9223372036854775807 then some (.string (x ++ y)) else none
  | .eql => some (.bool (x.toList == y.toList))
  | .neq => some (.bool (!(x.toList == y.toList)))
  | .lss => some (.bool (Op.bytesLess x.toList y.toList))
  | .leq => some (.bool (Op.bytesLess x.toList y.toList || x.toList == y.toList))
  | .gtr => some (.bool (!(Op.bytesLess x.toList y.toList || x.toList == y.toList)))
  | .geq => some (.bool (!(Op.bytesLess x.toList y.toList)))
  | _ => none
def beq? (op : BinOp) (b : Bool) : Option Value :=
  match op with
  | .eql => some (.bool b)
  | .neq => some (.bool (!b))
  | _ => none
/-- is it nil? where that is known -/
def V.nil? : V → Option Bool
  | .pv (.lit (.slice none 0 0)) => some true
  | .pv (.lit (.pointer none)) => some true
  | .pv (.lit .nilFunc) => some true
  | .pv (.rptr _) => some false
  | .pv (.list _ (_ :: _)) => some false
  | .pv (.fn _ _) => some false
  | .ptr _ _ _ => some false
  | .row _ _ _ => some false
  | .fn _ _ => some false
  | _ => none
/-- a comparison with nil, where it is decided -/
def nilEq : Tag → V → V → Option Bool
  | .slice, .pv (.lit (.slice none 0 0)), .pv (.lit (.slice none 0 0)) => some true
  | .slice, .pv (.list _ (_ :: _)), .pv (.lit (.slice none 0 0)) => some false
  | .slice, .row _ _ _, .pv (.lit (.slice none 0 0)) => some false
  | .ptr, .pv (.lit (.pointer none)), .pv (.lit (.pointer none)) => some true
  | .ptr, .pv (.rptr _), .pv (.lit (.pointer none)) => some false
  | .ptr, .ptr _ _ _, .pv (.lit (.pointer none)) => some false
  | .func, .pv (.lit .nilFunc), .pv (.lit .nilFunc) => some true
  | .func, .pv (.fn _ _), .pv (.lit .nilFunc) => some false
  | .func, .fn _ _, .pv (.lit .nilFunc) => some false
  | _, _, _ => none
def optK (r : Option Value) (K : V → Prop) : Prop :=
  match r with
  | some v => K (.pv (.lit v))
  | none => False
/-- a test, an arithmetic operation -/
def binK (op : BinOp) (tag : Tag) (x y : V) (K : V → Prop) : Prop :=
  match x, y with
  | .pv (.lit (.int k a)), .pv (.lit (.int k' b)) => tag = .int ∧ k = k' ∧ optK (bint op k a b) K
  | .pv (.lit (.string a)), .pv (.lit (.string b)) => tag = .str ∧ optK (bstr op a b) K
  | .pv (.lit (.bool a)), .pv (.lit (.bool b)) => tag = .bool ∧ optK (beq? op (a == b)) K
  | x, y => match nilEq tag x y with
    | some b => optK (beq? op b) K
    | none => False

abbrev Kont := V → List Nat → List (Nat × Option Blk) → Prop

/-- the elements of a slice that is appended -/
def srcK (sz : Nat) (h : HF) (y : V) (K : List (List V) → List Nat → Prop) : Prop :=
  match y with
  | .pv (.list sz' xs) => sz' = sz ∧ (∀ x ∈ xs, x.cells.length = sz) ∧ K (xs.map PV.vcells) []
  | .pv (.lit (.slice none 0 0)) => K [] []
  | .row b m _ => match h b with
    | some k => k.sz = sz ∧ m ≤ k.xs.length ∧ K (k.xs.take m) [b]
    | none => False
  | _ => False
def optE (f : FV) : Option Operand → Option V
  | some x => some (ev f x)
  | none => none
def loK (x : Option V) (K : Nat → Prop) : Prop :=
  match x with
  | none => K 0
  | some (.pv (.lit (.int _ i))) => ∃ n : Nat, i = n ∧ K n
  | _ => False
def hiK (x : Option V) (len : Nat) (K : Nat → Prop) : Prop :=
  match x with
  | none => K len
  | some (.pv (.lit (.int _ i))) => ∃ n : Nat, i = n ∧ K n
  | _ => False

/-- one operation: its value, the blocks whose contents it looks at, the blocks that turn -/
def AS (o : AO) (nb : Nat) (f : FV) (h : HF) (K : Kont) : Prop :=
  match o with
  | .mov x => K (ev f x) [] []
  | .pick c a b => match ev f c with
    | .pv (.lit (.bool t)) => K (if t then ev f a else ev f b) [] []
    | _ => False
  | .alloc ty sz zero => K (.ptr nb 0 0) [] [(nb, some ⟨false, ty, sz, [zero.map lv], none⟩)]
  | .box ty sz x => match (ev f x).cells? with
    | some cs => cs.length = sz ∧ K (.ptr nb 0 0) [] [(nb, some ⟨false, ty, sz, [cs], none⟩)]
    | none => False
  | .build zero places parts => match fillA places (zero.map lv) (parts.map fun p => (p.1, ev f p.2)) with
    | some cs => K (.agg cs) [] []
    | none => False
  | .bslice ty sz zero len parts => match fillE sz (List.replicate len (zero.map lv)) (parts.map fun p => (p.1, ev f p.2)) with
    | some xs => K (.row nb len true) [] [(nb, some ⟨false, ty, sz, xs, none⟩)]
    | none => False
  | .load agg n x => match ev f x with
    | .ptr b i off => match h b with
      | some k => match k.xs[i]? with
        | some cs => off + n ≤ cs.length ∧ K (mkv agg ((cs.drop off).take n)) [b] []
        | none => False
      | none => False
    | .pv (.rptr cs) => n ≤ cs.length ∧ K (.pv (mkp agg (cs.take n))) [] []
    | _ => False
  | .store n x y => match ev f x, (ev f y).cells? with
    | .ptr b i off, some new => match h b with
      | some k => match k.xs[i]? with
        | some cs => k.ro = false ∧ new.length = n ∧ off + n ≤ cs.length ∧ K (lv undef) [b] [(b, some { k with xs := k.xs.set i (spl cs off new) })]
        | none => False
      | none => False
    | _, _ => False
  | .nilc x => match (ev f x).nil? with
    | some false => K (ev f x) [] []
    | _ => False
  | .bin op tag x y => binK op tag (ev f x) (ev f y) fun v => K v [] []
  | .un op x => match op, ev f x with
    | .neg, .pv (.lit (.int k a)) => K (.pv (.lit (.int k (k.wrap (0 - a))))) [] []
    | .not, .pv (.lit (.bool b)) => K (.pv (.lit (.bool (!b)))) [] []
    | _, _ => False
  | .conv k x => match ev f x with
    | .pv (.lit (.int _ a)) => K (.pv (.lit (.int k (k.wrap a)))) [] []
    | _ => False
  | .mkfn g caps => K (.fn g (caps.map (ev f))) [] []
  | .mkslice ty sz zero l c => match ev f l, ev f c with
    | .pv (.lit (.int _ a)), .pv (.lit (.int _ b)) => ∃ n m : Nat, a = n ∧ b = m ∧ n ≤ m ∧ m ≤ big ∧ K (.row nb n (n == m)) [] [(nb, some ⟨false, ty, sz, List.replicate n (zero.map lv), none⟩)]
    | _, _ => False
  | .slice sz x lo hi mx => loK (optE f lo) fun l => match ev f x with
    | .pv (.list sz' xs) => sz' = sz ∧ hiK (optE f hi) xs.length fun u => hiK (optE f mx) xs.length fun m => l ≤ u ∧ u ≤ m ∧ m ≤ xs.length ∧ K (.pv (.list sz ((xs.take u).drop l))) [] []
    | .pv (.lit (.slice none 0 0)) => hiK (optE f hi) 0 fun u => hiK (optE f mx) 0 fun m => l = 0 ∧ u = 0 ∧ m = 0 ∧ K (.pv (.lit (.slice none 0 0))) [] []
    | .row b n _ => l = 0 ∧ mx = none ∧ hiK (optE f hi) n fun u => u ≤ n ∧ K (.row b u false) [] []
    | _ => False
  | .sslice x lo hi => loK (optE f lo) fun l => match ev f x with
    | .pv (.lit (.string s)) => hiK (optE f hi) s.size fun u => l ≤ u ∧ u ≤ s.size ∧ K (.pv (.lit (.string (s.extract l u)))) [] []
    | _ => False
  | .faddr off x => match ev f x with
    | .ptr b i o => K (.ptr b i (o + off)) [] []
    | .pv (.rptr cs) => K (.pv (.rptr (cs.drop off))) [] []
    | _ => False
  | .field agg off n x => match ev f x with
    | .agg cs => off + n ≤ cs.length ∧ (agg = true ∨ n = 1) ∧ K (mkv agg ((cs.drop off).take n)) [] []
    | .pv (.agg cs) => off + n ≤ cs.length ∧ (agg = true ∨ n = 1) ∧ K (.pv (mkp agg ((cs.drop off).take n))) [] []
    | _ => False
  | .iaddr sz x i => match ev f x, ev f i with
    | .pv (.list sz' xs), .pv (.lit (.int _ a)) => sz' = sz ∧ ∃ (n : Nat) (e : PV), a = n ∧ xs[n]? = some e ∧ K (.pv (.rptr e.cells)) [] []
    | .row b m _, .pv (.lit (.int _ a)) => match h b with
      | some k => k.sz = sz ∧ ∃ n : Nat, a = n ∧ n < m ∧ K (.ptr b n 0) [b] []
      | none => False
    | _, _ => False
  | .sindex x i => match ev f x, ev f i with
    | .pv (.lit (.string s)), .pv (.lit (.int _ a)) => ∃ (n : Nat) (c : UInt8), a = n ∧ s[n]? = some c ∧ K (.pv (.lit (.int .u8 c.toNat))) [] []
    | _, _ => False
  | .ext x k => match ev f x with
    | .tup vs => match vs[k]? with
      | some v => K v [] []
      | none => False
    | .pv (.tup vs) => match vs[k]? with
      | some v => K (.pv v) [] []
      | none => False
    | _ => False
  | .slen str x => match ev f x with
    | .pv (.list _ xs) => str = false ∧ K (.pv (.lit (.int .i64 xs.length))) [] []
    | .pv (.lit (.slice none 0 0)) => str = false ∧ K (.pv (.lit (.int .i64 0))) [] []
    | .pv (.lit (.string s)) => str = true ∧ K (.pv (.lit (.int .i64 s.size))) [] []
    | .row _ n _ => str = false ∧ K (.pv (.lit (.int .i64 n))) [] []
    | _ => False
  | .app ty sz x y => srcK sz h (ev f y) fun ys rd => match ev f x with
    | .pv (.lit (.slice none 0 0)) => ys ≠ [] ∧ ys.length ≤ big ∧ K (.row nb ys.length false) rd [(nb, some ⟨false, ty, sz, ys, none⟩)]
    | .row b n full => match h b with
      | some k => k.ty = ty ∧ k.sz = sz ∧ k.xs.length = n ∧ n + ys.length ≤ big ∧
        if k.ro = true then full = true ∧ 0 < n ∧ ys ≠ [] ∧ K (.row nb (n + ys.length) false) (b :: rd) [(nb, some ⟨false, ty, sz, k.xs ++ ys, none⟩)]
        else K (.row nb (n + ys.length) false) (b :: rd) [(b, none), (nb, some ⟨false, ty, sz, k.xs ++ ys, none⟩)]
      | none => False
    | _ => False
  | .minmax mn x y => match ev f x, ev f y with
    | .pv (.lit (.int k a)), .pv (.lit (.int k' b)) => K (.pv (.lit (.int k (if mn then (if b < a then b else a) else (if b > a then b else a))))) [] []
    | _, _ => False
  | .call _ _ => False

def updD (h : HF) : List (Nat × Option Blk) → HF
  | [] => h
  | (b, k) :: δ => updD (upd h b k) δ
def SD (S : Nat → Prop) (δ : List (Nat × Option Blk)) : Nat → Prop := fun b => S b ∨ ∃ k, (b, some k) ∈ δ

/-- what comes of an operation in the machine -/
def Outc (S : Nat → Prop) (G : Gh) (h : HF) (w : World) (res : Result Next) (v : V) (δ : List (Nat × Option Blk)) : Prop :=
  ∃ u w' G', (res = .ok (.value u) w' ∨ (res = .ok .skip w' ∧ u = undef)) ∧ Gh.le S G G' ∧ Rel (SD S δ) G' (updD h δ) w' ∧ Tr G h w G' (updD h δ) w' ∧ R G' v u ∧ v.bd (SD S δ)
end Go.Ab
