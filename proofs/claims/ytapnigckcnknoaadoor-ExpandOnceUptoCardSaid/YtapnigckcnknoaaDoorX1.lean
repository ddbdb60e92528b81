/-
  One text of the proof (own work): contracts of functions of the program, by the abstract machine.
-/
import Derived.Test.YtapnigckcnknoaaDoorX0
set_option linter.unusedVariables false
set_option linter.unusedSimpArgs false
namespace Go.Ab
open Go Go.RowKit
def cav1 : Value → AV
  | .bool b => .data (.bool b)
  | .int k n => .data (.int k n)
  | .string s => .data (.str s.data.toList)
  | .pointer none => .data .nilp
  | .slice none 0 0 => .nils
  | .map none => .data (.map [] [])
  | _ => .junk
def AV.dat1 : AV → Option D
  | .data d => if d.one then some d else none
  | _ => none
def allDat : List AV → Option (List D)
  | [] => some []
  | x :: r => match x.dat1, allDat r with
    | some d, some ds => some (d :: ds)
    | _, _ => none
def mkAgg (l : List AV) : AV := match allDat l with
  | some ds => .data (.agg ds)
  | none => .agg l
def cav : Value → AV
  | .agg cs => if cs.toList.all (·.oneCell') then mkAgg (cs.toList.map cav1) else .junk
  | v => cav1 v
def AV.cells : AV → Option (List AV)
  | .agg l => some l
  | .data (.agg ds) => some (ds.map .data)
  | .data (.tup _) => none
  | .tup _ => none
  | .junk => none
  | x => some [x]
def aev (sl : List AV) : Operand → AV
  | .tmp t => sl.getD t .junk
  | .const v => cav v
  | .func f => .data (.clo f [])
  | .global _ => .junk
def tsize (P : Program) (t : TypeId) : Option Nat := (P.info? t).map (·.size)
def tbytes (P : Program) (t : TypeId) : Option Nat := (P.info? t).map (·.bytes)
def tzero (P : Program) (t : TypeId) : Option Value := (P.info? t).bind (·.zero)
def tagg (P : Program) (t : TypeId) : Option Bool := match P.underlying t with
  | some (.struct _) => some true
  | some (.array _ _) => some true
  | some _ => some false
  | none => none
def tfield (P : Program) (s : TypeId) (f : Nat) : Option Field := match P.underlying s with
  | some (.struct fs) => fs[f]?
  | _ => none
def telem (P : Program) (t : TypeId) : Option TypeId := match P.underlying t with
  | some (.slice e) => some e
  | _ => none
def takeN {α : Type} : Nat → List α → Option (List α)
  | 0, _ => some []
  | _ + 1, [] => none
  | n + 1, x :: r => match takeN n r with
    | some l => some (x :: l)
    | none => none
def loadD (P : Program) (t : TypeId) (cs : List D) : Option AV := match tagg P t with
  | some true => match tsize P t with
    | some n => match takeN n cs with
      | some l => some (.data (.agg l))
      | none => none
    | none => none
  | some false => match cs with
    | d :: _ => some (.data d)
    | [] => none
  | none => none
def loadA (P : Program) (t : TypeId) (cs : List AV) : Option AV := match tagg P t with
  | some true => match tsize P t with
    | some n => match takeN n cs with
      | some l => some (mkAgg l)
      | none => none
    | none => none
  | some false => match cs with
    | d :: _ => some d
    | [] => none
  | none => none
def aload (P : Program) (H : Heap) (t : TypeId) : AV → Option AV
  | .data (.ref cs) => loadD P t cs
  | .ptr o off => match H.get o with
    | some (.box cs) => loadA P t (cs.drop off)
    | _ => none
  | .rref o n i off => match H.get o with
    | some (.row _ _ l) => if l.length = n then match l[i]? with
        | some d => loadD P t (d.cells.drop off)
        | none => none
      else none
    | some (.arr _ sz m cs) => if m = n then loadA P t (cs.drop (i * sz + off)) else none
    | _ => none
  | _ => none
def lay {α : Type} : Nat → List α → List α → Option (List α)
  | 0, [], l => some l
  | 0, _ :: _, [] => none
  | 0, x :: xs, _ :: l => match lay 0 xs l with
    | some r => some (x :: r)
    | none => none
  | _ + 1, _, [] => none
  | i + 1, xs, y :: l => match lay i xs l with
    | some r => some (y :: r)
    | none => none
def rebuild : D → List D → D
  | .agg _, cs => .agg cs
  | d, [] => d
  | _, c :: _ => c
def AV.plain : AV → Option D
  | .data d => some d
  | .nils => some (.list [])
  | _ => none
def plains : List AV → Option (List D)
  | [] => some []
  | x :: r => match x.plain, plains r with
    | some d, some ds => if d.one then some (d :: ds) else none
    | _, _ => none
def astore (P : Program) (H : Heap) (t : TypeId) (p x : AV) : Option Heap := match x.cells, tsize P t with
  | some xs, some n => if xs.length = n then match p with
      | .ptr o off => match H.get o with
        | some (.box cs) => match lay off xs cs with
          | some cs' => some (H.set o (.box cs'))
          | none => none
        | _ => none
      | .rref o m i off => match H.get o with
        | some (.row e sz l) => if l.length = m then match l[i]?, plains xs with
            | some d, some ds => match lay off ds d.cells with
              | some cs' => some (H.set o (.row e sz (l.set i (rebuild d cs'))))
              | none => none
            | _, _ => none
          else none
        | some (.arr e sz n cs) => if n = m then match lay (i * sz + off) xs cs with
            | some cs' => some (H.set o (.arr e sz n cs'))
            | none => none
          else none
        | _ => none
      | _ => none
    else none
  | _, _ => none
def afield (P : Program) (H : Heap) (s : TypeId) (p : AV) (f : Nat) : Option AV := match tfield P s f with
  | some fd => match tsize P fd.type with
    | some (_ + 1) => match p with
      | .data (.ref cs) => some (.data (.ref (cs.drop fd.offset)))
      | .ptr o off => match H.get o with
        | some (.box _) => some (.ptr o (off + fd.offset))
        | _ => none
      | .rref o n i off => match H.get o with
        | some (.row _ _ l) => if l.length = n then some (.rref o n i (off + fd.offset)) else none
        | some (.arr _ _ m _) => if m = n then some (.rref o n i (off + fd.offset)) else none
        | _ => none
      | _ => none
    | _ => none
  | none => none
def afieldV (P : Program) (s : TypeId) (p : AV) (f : Nat) : Option AV := match tfield P s f with
  | some fd => match p with
    | .data (.agg cs) => loadD P fd.type (cs.drop fd.offset)
    | .agg cs => loadA P fd.type (cs.drop fd.offset)
    | _ => none
  | none => none
def tarr (P : Program) (t : TypeId) : Option (Nat × TypeId) := match P.underlying t with
  | some (.array n e) => some (n, e)
  | _ => none
def aindexP (P : Program) (H : Heap) (len : Nat) (e : TypeId) (x i : AV) : Option AV := match x, i, tsize P e with
  | .ptr o off, .data (.int _ n), some (sz + 1) => match H.get o with
    | some (.box _) => if 0 ≤ n ∧ n < (len : Int) then some (.ptr o (off + n.toNat * (sz + 1))) else none
    | _ => none
  | _, _, _ => none
def aindexS (P : Program) (H : Heap) (t : TypeId) (x i : AV) : Option AV := match telem P t, i with
  | some e, .data (.int _ n) => match x with
    | .data (.list l) => if 0 ≤ n ∧ n < (l.length : Int) then match l[n.toNat]? with
        | some d => if (tsize P e == some d.cells.length) && !d.cells.isEmpty then some (.data (.ref d.cells)) else none
        | none => none
      else none
    | .row o m => match H.get o with
      | some (.row _ sz l) => if l.length = m ∧ 0 ≤ n ∧ n < (m : Int) ∧ tsize P e = some sz then some (.rref o m n.toNat 0) else none
      | some (.arr _ sz k _) => if k = m ∧ 0 ≤ n ∧ n < (m : Int) ∧ tsize P e = some sz then some (.rref o m n.toNat 0) else none
      | some (.frz l) => if l.length = m ∧ 0 ≤ n ∧ n < (m : Int) then match l[n.toNat]? with
          | some d => if (tsize P e == some d.cells.length) && !d.cells.isEmpty then some (.data (.ref d.cells)) else none
          | none => none
        else none
      | _ => none
    | _ => none
  | _, _ => none
def aindex (P : Program) (H : Heap) (t : TypeId) (x i : AV) : Option AV := match tarr P t with
  | some (len, e) => aindexP P H len e x i
  | none => aindexS P H t x i
def acmp (op : BinOp) (a b : Int) : Option Bool := match op with
  | .eql => some (a == b)
  | .neq => some (a != b)
  | .lss => some (decide (a < b))
  | .leq => some (decide (a ≤ b))
  | .gtr => some (decide (a > b))
  | .geq => some (decide (a ≥ b))
  | _ => none
def scmp (op : BinOp) (a b : List UInt8) : Option Bool := match op with
  | .eql => some (a == b)
  | .neq => some (!(a == b))
  | .lss => some (Op.bytesLess a b)
  | .leq => some (Op.bytesLess a b || a == b)
  | .gtr => some (!(Op.bytesLess a b || a == b))
  | .geq => some (!(Op.bytesLess a b))
  | _ => none
def abits (op : BinOp) (k : IntKind) (a b : Int) : Option Int := match op with
  | .and => some (k.wrap (BitVec.ofInt k.bits a &&& BitVec.ofInt k.bits b).toNat)
  | .or => some (k.wrap (BitVec.ofInt k.bits a ||| BitVec.ofInt k.bits b).toNat)
  | .xor => some (k.wrap (BitVec.ofInt k.bits a ^^^ BitVec.ofInt k.bits b).toNat)
  | .andNot => some (k.wrap (BitVec.ofInt k.bits a &&& ~~~BitVec.ofInt k.bits b).toNat)
  | _ => none
def ashift (op : BinOp) (k : IntKind) (a b : Int) : Option Int := if b < 0 then none else match op with
  | .shl => some (k.wrap (a * 2 ^ (min b.toNat k.bits)))
  | .shr => some (a.fdiv (2 ^ (min b.toNat k.bits)))
  | _ => none
def isShift : BinOp → Bool
  | .shl => true
  | .shr => true
  | _ => false
def keyEq : D → D → Option Bool
  | .str a, .str b => some (a == b)
  | .int k a, .int k' b => if k = k' then some (a == b) else none
  | .bool a, .bool b => some (a == b)
  | _, _ => none
def keyKind (P : Program) (t : TypeId) (d : D) : Bool := match P.underlying t, d with
  | some .string, .str _ => true
  | some .bool, .bool _ => true
  | some (.int _), .int _ _ => true
  | _, _ => false
def eqFlds (P : Program) (a b : List D) : List Field → Option Bool
  | [] => some true
  | f :: r => match a[f.offset]?, b[f.offset]? with
    | some x, some y => if keyKind P f.type x && keyKind P f.type y && (f.name != "_") && (tagg P f.type == some false) then match keyEq x y, eqFlds P a b r with
        | some c, some d => some (c && d)
        | _, _ => none
      else none
    | _, _ => none
def eqAgg (P : Program) (t : TypeId) (a b : List D) : Option Bool := match P.underlying t with
  | some (.struct fs) => if P.stoodInHeld t || P.eqGuardType P.depth t then none else eqFlds P a b fs.toList
  | _ => none
def abin (P : Program) (op : BinOp) (t : TypeId) (x y : AV) : Option AV := match x, y with
  | .data (.int k a), .data (.int k' b) => if isShift op then (ashift op k a b).map fun n => .data (.int k n) else if k = k' then match op with
      | .add => some (.data (.int k (k.wrap (a + b))))
      | .sub => some (.data (.int k (k.wrap (a - b))))
      | .mul => some (.data (.int k (k.wrap (a * b))))
      | .quo => if b = 0 then none else some (.data (.int k (k.wrap (a.tdiv b))))
      | .rem => if b = 0 then none else some (.data (.int k (a.tmod b)))
      | .eql | .neq | .lss | .leq | .gtr | .geq => match acmp op a b with
        | some r => some (.data (.bool r))
        | none => none
      | .and | .or | .xor | .andNot => (abits op k a b).map fun n => .data (.int k n)
      | _ => none
    else none
  | .data (.list (_ :: _)), .nils => match op, P.underlying t with
    | .eql, some (.slice _) => some (.data (.bool false))
    | .neq, some (.slice _) => some (.data (.bool true))
    | _, _ => none
  | .data (.agg a), .data (.agg b) => match op with
    | .eql => (eqAgg P t a b).map fun r => .data (.bool r)
    | .neq => (eqAgg P t a b).map fun r => .data (.bool (!r))
    | _ => none
  | .data (.str a), .data (.str b) => match op with
    | .add => if a.length + b.length ≤ maxLen then some (.data (.str (a ++ b))) else none
    | _ => match scmp op a b with
      | some r => some (.data (.bool r))
      | none => none
  | .data (.bool a), .data (.bool b) => match P.underlying t, op with
    | some .bool, .eql => some (.data (.bool (a == b)))
    | some .bool, .neq => some (.data (.bool (!(a == b))))
    | _, _ => none
  | _, _ => none
def aun (op : UnOp) (x : AV) : Option AV := match op, x with
  | .not, .data (.bool b) => some (.data (.bool (!b)))
  | .neg, .data (.int k n) => some (.data (.int k (k.wrap (0 - n))))
  | .xor, .data (.int k n) => (abits .xor k (if k.signed then -1 else k.max) n).map fun n => .data (.int k n)
  | _, _ => none
def setCells (cells : List AV) (place : Nat → Option (Nat × Nat)) : List (Nat × AV) → Option (List AV)
  | [] => some cells
  | (i, x) :: r => match place i, x.cells with
    | some (off, size), some xs => if xs.length = size then match lay off xs cells with
        | some cells' => setCells cells' place r
        | none => none
      else none
    | _, _ => none
def tplaces (P : Program) : List Field → Option (List (Nat × Nat))
  | [] => some []
  | f :: r => match tsize P f.type, tplaces P r with
    | some n, some l => some ((f.offset, n) :: l)
    | _, _ => none
def abuild (P : Program) (t : TypeId) (parts : List (Nat × AV)) : Option AV := match P.underlying t, tzero P t with
  | some (.struct fs), some z => match (cav z).cells, tplaces P fs.toList with
    | some cells, some pl => match setCells cells (pl[·]?) parts with
      | some cs => some (mkAgg cs)
      | none => none
    | _, _ => none
  | _, _ => none
def partsD : Nat → Nat → List (Nat × AV) → Option (List D)
  | _, _, [] => some []
  | i, sz, (j, x) :: r => if i = j then match x.plain with
      | some d => if d.cells.length = sz ∧ d.cells.all D.one then match partsD (i + 1) sz r with
          | some ds => some (d :: ds)
          | none => none
        else none
      | none => none
    else none
def partsA : Nat → Nat → List (Nat × AV) → Option (List AV)
  | _, _, [] => some []
  | i, sz, (j, x) :: r => if i = j then match x.cells with
      | some xs => if xs.length = sz then match partsA (i + 1) sz r with
          | some cs => some (xs ++ cs)
          | none => none
        else none
      | none => none
    else none
def AV.loose : AV → Bool
  | .data _ => false
  | _ => true
def abuildArr (P : Program) (k : Nat) (H : Heap) (t : TypeId) (len : Nat) (parts : List (Nat × AV)) : Option (AV × Heap) := match telem P t with
  | some e => match tsize P e, tzero P e with
    | some (sz + 1), some _ => if parts.length = len ∧ len * (sz + 1) ≤ 16777216 then match partsA 0 (sz + 1) parts with
        | some cs => some (.row k len, H.set k (.arr e (sz + 1) len cs))
        | none => none
      else none
    | _, _ => none
  | none => none
def arrRep (n : Nat) : List AV → List AV
  | [x] => List.replicate n x
  | cs => (List.replicate n cs).flatten
def amakeArr (P : Program) (k : Nat) (H : Heap) (t : TypeId) (l c : AV) : Option (AV × Heap) := match telem P t, l, c with
  | some e, .data (.int _ n), .data (.int _ m) => match tsize P e, tbytes P e, tzero P e with
    | some (sz + 1), some b, some z => match (cav z).cells with
      | some zc => if n = m ∧ 0 ≤ n ∧ b * n.toNat ≤ 281474976710656 ∧ n.toNat ≤ maxLen ∧ zc.length = sz + 1 then
          some (.row k n.toNat, H.set k (.arr e (sz + 1) n.toNat (arrRep n.toNat zc)))
        else none
      | none => none
    | _, _, _ => none
  | _, _, _ => none
def partsLoose : List (Nat × AV) → Bool
  | [] => false
  | (_, x) :: r => (match x.cells with
    | some xs => xs.any AV.loose
    | none => false) || partsLoose r
def zeroLoose (P : Program) (t : TypeId) : Bool := match telem P t with
  | some e => match tzero P e with
    | some z => match (cav z).cells with
      | some zc => zc.any AV.loose
      | none => false
    | none => false
  | none => false
def abuildSlice (P : Program) (k : Nat) (H : Heap) (t : TypeId) (len : Nat) (parts : List (Nat × AV)) : Option (AV × Heap) := match telem P t with
  | some e => match tsize P e, tzero P e with
    | some (sz + 1), some _ => if parts.length = len ∧ len * (sz + 1) ≤ 16777216 then match partsD 0 (sz + 1) parts with
        | some ds => some (.row k len, H.set k (.row e (sz + 1) ds))
        | none => none
      else none
    | _, _ => none
  | none => none
def amake (P : Program) (k : Nat) (H : Heap) (t : TypeId) (l c : AV) : Option (AV × Heap) := match telem P t, l, c with
  | some e, .data (.int _ n), .data (.int _ m) => match tsize P e, tbytes P e, tzero P e with
    | some (sz + 1), some b, some z => match (cav z).plain with
      | some d => if n = m ∧ 0 ≤ n ∧ b * n.toNat ≤ 281474976710656 ∧ n.toNat ≤ maxLen ∧ d.cells.length = sz + 1 ∧ d.cells.all D.one then
          some (.row k n.toNat, H.set k (.row e (sz + 1) (List.replicate n.toNat d)))
        else none
      | none => none
    | _, _, _ => none
  | _, _, _ => none
def boxOf (k : Nat) (H : Heap) (x : AV) : Option (AV × Heap) := match x.cells with
  | some cs => some (.ptr k 0, H.set k (.box cs))
  | none => none
def elemsOK (sz : Nat) (l : List D) : Bool := l.all fun d => (d.cells.length == sz) && d.cells.all D.one
def bound (x : Option AV) (dflt top : Nat) : Option Nat := match x with
  | none => some dflt
  | some (.data (.int _ n)) => if 0 ≤ n ∧ n ≤ (top : Int) then some n.toNat else none
  | some _ => none
def cut (l : List D) (lo hi : Option AV) : Option (List D) := match bound hi l.length l.length with
  | some h => match bound lo 0 h with
    | some a => some ((l.drop a).take (h - a))
    | none => none
  | none => none
def cutS (l : List UInt8) (lo hi : Option AV) : Option (List UInt8) := match bound hi l.length l.length with
  | some h => match bound lo 0 h with
    | some a => some ((l.drop a).take (h - a))
    | none => none
  | none => none
def cut3 (l : List D) (lo hi : Option AV) (mx : AV) : Option (List D) := match hi with
  | some _ => match bound (some mx) 0 l.length with
    | some m => match bound hi 0 m with
      | some h => match bound lo 0 h with
        | some a => some ((l.drop a).take (h - a))
        | none => none
      | none => none
    | none => none
  | none => none
def asList (H : Heap) : AV → Option (List D × Heap)
  | .data (.list l) => some (l, H)
  | .nils => some ([], H)
  | .row o n => match H.get o with
    | some (.row _ _ l) => if l.length = n then some (l, H.set o (.frz l)) else none
    | some (.frz l) => if l.length = n then some (l, H) else none
    | _ => none
  | _ => none
def aslice (P : Program) (H : Heap) (t : TypeId) (x : AV) (lo hi mx : Option AV) : Option (AV × Heap) := match mx with
  | some m => match P.underlying t with
    | some (.slice e) => match tsize P e, asList H x with
      | some sz, some (l, H') => if elemsOK sz l then match cut3 l lo hi m with
          | some r => some (.data (.list r), H')
          | none => none
        else none
      | _, _ => none
    | _ => none
  | none => match P.underlying t with
    | some .string => match x with
      | .data (.str s) => match cutS s lo hi with
        | some r => some (.data (.str r), H)
        | none => none
      | _ => none
    | some (.slice e) => match tsize P e, asList H x with
      | some sz, some (l, H') => if elemsOK sz l then match cut l lo hi with
          | some r => some (.data (.list r), H')
          | none => none
        else none
      | _, _ => none
    | _ => none
inductive CSpec where
  | pure (fl : Bool) (g : List D → Option D)
  | own (g : List D → Option (TypeId × Nat × List D))
  | loc (g : List AV → List Obj → Option (AV × List Obj))
def mapOpt (f : AV → Option D) : List AV → Option (List D)
  | [] => some []
  | x :: r => match f x, mapOpt f r with
    | some d, some ds => some (d :: ds)
    | _, _ => none
def toD (H : Heap) : Nat → AV → Option D
  | _, .data d => some d
  | _, .nils => some (.list [])
  | m, .row o n => match H.get o with
    | some (.row _ _ l) => if l.length = n then some (.list l) else none
    | some (.frz l) => if l.length = n then some (.list l) else none
    | some (.arr _ sz k cs) => match m with
      | 0 => none
      | m + 1 => if k = n ∧ sz = 1 then match mapOpt (toD H m) cs with
          | some ds => some (.list ds)
          | none => none
        else none
    | _ => none
  | _, .mref o => match H.get o with
    | some (.map ks vs) => some (.map ks vs)
    | _ => none
  | m + 1, .ptr o off => match H.get o with
    | some (.box cs) => match mapOpt (toD H m) (cs.drop off) with
      | some ds => some (.ref ds)
      | none => none
    | _ => none
  | m + 1, .agg l => match mapOpt (toD H m) l with
    | some ds => some (.agg ds)
    | none => none
  | m + 1, .fn f l => match mapOpt (toD H m) l with
    | some ds => some (.clo f ds)
    | none => none
  | m + 1, .tup l => match mapOpt (toD H m) l with
    | some ds => some (.tup ds)
    | none => none
  | _, _ => none
def AV.closed (H : Heap) : AV → Bool
  | .data _ => true
  | .nils => true
  | .row o _ => match H.get o with
    | some (.frz _) => true
    | _ => false
  | _ => false
def freeze (H : Heap) : List AV → Option Heap
  | [] => some H
  | .row o n :: r => match H.get o with
    | some (.row _ _ l) => if l.length = n then freeze (H.set o (.frz l)) r else none
    | some (.frz _) => freeze H r
    | _ => none
  | x :: r => if x.closed H then freeze H r else none
def idxOf (fp : List Nat) (o : Nat) : Option Nat := match fp with
  | [] => none
  | x :: r => if o = x then some 0 else match idxOf r o with
    | some i => some (i + 1)
    | none => none
mutual
def ren (H : Heap) (ρ : Nat → Option Nat) : AV → AV
  | .ptr o off => match ρ o with
    | some o' => .ptr o' off
    | none => .junk
  | .row o n => match H.get o with
    | some (.frz l) => if l.length = n then .data (.list l) else .junk
    | _ => match ρ o with
      | some o' => .row o' n
      | none => .junk
  | .rref o n i off => match ρ o with
    | some o' => .rref o' n i off
    | none => .junk
  | .mref o => match ρ o with
    | some o' => .mref o'
    | none => .junk
  | .agg l => .agg (rens H ρ l)
  | .tup l => .tup (rens H ρ l)
  | .fn f l => .fn f (rens H ρ l)
  | .bnd f l => .bnd f (rens H ρ l)
  | x => x
def rens (H : Heap) (ρ : Nat → Option Nat) : List AV → List AV
  | [] => []
  | x :: r => ren H ρ x :: rens H ρ r
end
def renO (H : Heap) (ρ : Nat → Option Nat) : Obj → Obj
  | .box cs => .box (rens H ρ cs)
  | .arr e sz n cs => .arr e sz n (rens H ρ cs)
  | x => x
def foot (H : Heap) : Nat → List Nat → AV → List Nat
  | 0, acc, _ => acc
  | m + 1, acc, x => match x with
    | .ptr o _ | .row o _ | .rref o _ _ _ | .mref o => if acc.contains o then acc else match H.get o with
      | some (.box cs) => cs.foldl (foot H m) (acc ++ [o])
      | some (.arr _ _ _ cs) => cs.foldl (foot H m) (acc ++ [o])
      | some (.row _ _ _) => acc ++ [o]
      | some (.map _ _) => acc ++ [o]
      | _ => acc
    | .agg l => l.foldl (foot H m) acc
    | .tup l => l.foldl (foot H m) acc
    | .fn _ l => l.foldl (foot H m) acc
    | .bnd _ l => l.foldl (foot H m) acc
    | _ => acc
def getAll (H : Heap) : List Nat → Option (List Obj)
  | [] => some []
  | o :: r => match H.get o, getAll H r with
    | some x, some l => some (x :: l)
    | _, _ => none
def nodupB : List Nat → Bool
  | [] => true
  | x :: r => !r.contains x && nodupB r
def backTo (fp : List Nat) (k : Nat) (i : Nat) : Option Nat := some (match fp[i]? with
  | some o => o
  | none => k + (i - fp.length))
def putAll (fp : List Nat) (k : Nat) (tab : List (Nat × Obj)) : Nat → List Obj → List (Nat × Obj)
  | _, [] => tab
  | i, x :: r => putAll fp k (upd tab (match fp[i]? with
    | some o => o
    | none => k + (i - fp.length)) (renO ⟨[], 0⟩ (backTo fp k) x)) (i + 1) r
def enumO : Nat → List Obj → List (Nat × Obj)
  | _, [] => []
  | i, x :: r => (i, x) :: enumO (i + 1) r
def callLoc (k : Nat) (H : Heap) (g : List AV → List Obj → Option (AV × List Obj)) (xs : List AV) : Option (AV × Heap) :=
  match getAll H (xs.foldl (foot H 6) []) with
  | some objs => if nodupB (xs.foldl (foot H 6) []) then match g (rens H (idxOf (xs.foldl (foot H 6) [])) xs) (objs.map (renO H (idxOf (xs.foldl (foot H 6) [])))) with
      | some (r, os') => if (xs.foldl (foot H 6) []).length ≤ os'.length then
          some (ren ⟨[], 0⟩ (backTo (xs.foldl (foot H 6) []) k) r, ⟨putAll (xs.foldl (foot H 6) []) k H.tab 0 os', k + (os'.length - (xs.foldl (foot H 6) []).length)⟩)
        else none
      | none => none
    else none
  | none => none
def acall (k : Nat) (H : Heap) (s : CSpec) (xs : List AV) : Option (AV × Heap) := match s with
  | .loc g => callLoc k H g xs
  | .pure true g => match mapOpt (toD H 4) xs with
    | some ds => match g ds with
      | some d => some (.data d, H)
      | none => none
    | none => none
  | .pure false g => match freeze H xs with
    | some H' => match mapOpt (toD H' 4) xs with
      | some ds => match g ds with
        | some d => some (.data d, H')
        | none => none
      | none => none
    | none => none
  | .own g => match freeze H xs with
    | some H' => match mapOpt (toD H' 4) xs with
      | some ds => match g ds with
        | some (e, sz, l) => some (.row k l.length, H'.set k (.row e sz l))
        | none => none
      | none => none
    | none => none
def callee (f : AV) : Option (FuncId × List AV) := match f with
  | .data (.clo f caps) => some (f, caps.map .data)
  | .fn f caps => some (f, caps)
  | _ => none
def calleeN (f : AV) (b : Bool) : Option (FuncId × List AV) := match f with
  | .bnd f l => if b then some (f, l) else none
  | f => callee f
theorem callee_N {x : AV} {b : Bool} {r : FuncId × List AV} (h : callee x = some r) : calleeN x b = some r := by
  cases x <;> first | exact h | cases h
def alen (P : Program) (H : Heap) (t : TypeId) (x : AV) : Option Int := match P.underlying t with
  | some (.slice _) => match x with
    | .data (.list l) => some l.length
    | .nils => some 0
    | .row o n => match H.get o with
      | some (.row _ _ l) => if l.length = n then some n else none
      | some (.frz l) => if l.length = n then some n else none
      | some (.arr _ _ m _) => if m = n then some n else none
      | _ => none
    | _ => none
  | some (.map _ _) => match x with
    | .data (.map ks _) => some ks.length
    | .mref o => match H.get o with
      | some (.map ks _) => some ks.length
      | _ => none
    | _ => none
  | some .string => match x with
    | .data (.str s) => some s.length
    | _ => none
  | _ => none
def srcList (H : Heap) : AV → Option (List D)
  | .data (.list l) => some l
  | .nils => some []
  | .row o n => match H.get o with
    | some (.row _ _ l) => if l.length = n then some l else none
    | some (.frz l) => if l.length = n then some l else none
    | _ => none
  | _ => none
def srcCells (H : Heap) : AV → Option (Nat × List AV)
  | .data (.list l) => some (l.length, (flat l).map .data)
  | .nils => some (0, [])
  | .row o n => match H.get o with
    | some (.row _ _ l) => if l.length = n then some (n, (flat l).map .data) else none
    | some (.frz l) => if l.length = n then some (n, (flat l).map .data) else none
    | some (.arr _ _ m cs) => if m = n then some (m, cs) else none
    | _ => none
  | _ => none
def appendD (P : Program) (k : Nat) (H : Heap) (e : TypeId) (x y : AV) : Option (AV × Heap) := match tsize P e, tbytes P e, tzero P e, srcList H y with
  | some (sz + 1), some b, some z, some ds => if z.cells.size = sz + 1 ∧ elemsOK (sz + 1) ds then match x with
      | .nils => if ds.length * b ≤ 140737488355328 ∧ ds.length ≤ maxLen then some (.row k ds.length, H.set k (.row e (sz + 1) ds)) else none
      | .row o n => match H.get o with
        | some (.row e' sz' l) => if l.length = n ∧ e' = e ∧ sz' = sz + 1 ∧ (l.length + ds.length) * b ≤ 140737488355328 ∧ l.length + ds.length ≤ maxLen then
            some (.row o (l.length + ds.length), H.set o (.row e' sz' (l ++ ds)))
          else none
        | _ => none
      | _ => none
    else none
  | _, _, _, _ => none
def appendA (P : Program) (k : Nat) (H : Heap) (e : TypeId) (x y : AV) : Option (AV × Heap) := match tsize P e, tbytes P e, tzero P e, srcCells H y with
  | some (sz + 1), some b, some z, some (m, cs) => if z.cells.size = sz + 1 ∧ cs.length = m * (sz + 1) then match x with
      | .nils => if m * b ≤ 140737488355328 ∧ m ≤ maxLen then some (.row k m, H.set k (.arr e (sz + 1) m cs)) else none
      | .row o n => match H.get o with
        | some (.arr e' sz' n' l) => if n' = n ∧ e' = e ∧ sz' = sz + 1 ∧ (n + m) * b ≤ 140737488355328 ∧ n + m ≤ maxLen then
            some (.row o (n + m), H.set o (.arr e' sz' (n + m) (l ++ cs)))
          else none
        | _ => none
      | _ => none
    else none
  | _, _, _, _ => none
def arrish (H : Heap) : AV → Bool
  | .row o _ => match H.get o with
    | some (.arr _ _ _ _) => true
    | _ => false
  | _ => false
def aappend (P : Program) (k : Nat) (H : Heap) (ts : Array TypeId) (x y : AV) : Option (AV × Heap) := match ts.toList with
  | [t, t'] => if t = t' then match telem P t with
      | some e => if arrish H x || arrish H y then appendA P k H e x y else appendD P k H e x y
      | none => none
    else none
  | _ => none
def abuiltin (P : Program) (k : Nat) (H : Heap) (b : Builtin) (ts : Array TypeId) (xs : List AV) : Option (AV × Heap) := match b, xs with
  | .len, [x] => match ts.toList with
    | [t] => match alen P H t x with
      | some n => some (.data (.int .i64 n), H)
      | none => none
    | _ => none
  | .append, [x, y] => aappend P k H ts x y
  | .max, [.data (.int j a), .data (.int j' b)] => if j = j' then some (.data (.int j (max a b)), H) else none
  | .min, [.data (.int j a), .data (.int j' b)] => if j = j' then some (.data (.int j (min a b)), H) else none
  | _, _ => none
def aextract : AV → Nat → Option AV
  | .data (.tup ds), i => match ds[i]? with
    | some d => some (.data d)
    | none => none
  | .tup l, i => l[i]?
  | _, _ => none
def amakeFunc (sl : List AV) (fn : Fn) (first : List Operand) (caps : Array Operand) : Option AV := match fn, first with
  | .func f, [] => some (.fn f (caps.toList.map (aev sl)))
  | .func f, x :: r => if caps.toList.isEmpty then some (.bnd f ((x :: r).map (aev sl))) else none
  | _, _ => none
def aggEq : List D → List D → Bool
  | [], [] => true
  | .str a :: r, .str b :: r' => (a == b) && aggEq r r'
  | .int k a :: r, .int k' b :: r' => decide (k = k') && ((a == b) && aggEq r r')
  | .bool a :: r, .bool b :: r' => (a == b) && aggEq r r'
  | _, _ => false
def keyFlds (P : Program) (ds : List D) : List Field → Bool
  | [] => true
  | f :: r => (match ds[f.offset]? with
    | some x => keyKind P f.type x && (tagg P f.type == some false)
    | none => false) && keyFlds P ds r
def keyOK (P : Program) (t : TypeId) (d : D) : Bool := match d with
  | .agg ds => match P.underlying t with
    | some (.struct fs) => keyFlds P ds fs.toList
    | _ => false
  | d => keyKind P t d
def keySame (P : Program) (t : TypeId) (x y : D) : Option Bool := match x, y with
  | .agg a, .agg b => match eqAgg P t a b with
    | some r => if r = aggEq a b then some r else none
    | none => none
  | x, y => keyEq x y
def mfind (P : Program) (t : TypeId) (k : D) : List D → Nat → Option (Option Nat)
  | [], _ => some none
  | x :: r, i => match keySame P t k x with
    | some true => some (some i)
    | some false => mfind P t k r (i + 1)
    | none => none
def mput (P : Program) (t : TypeId) (ks vs : List D) (k v : D) : Option (List D × List D) := match mfind P t k ks 0 with
  | some (some i) => some (ks.set i k, vs.set i v)
  | some none => some (ks ++ [k], vs ++ [v])
  | none => none
def mget (P : Program) (t : TypeId) (ks vs : List D) (k : D) : Option (Option D) := match mfind P t k ks 0 with
  | some (some i) => match vs[i]? with
    | some v => some (some v)
    | none => none
  | some none => some none
  | none => none
def mapOf (H : Heap) : AV → Option (List D × List D)
  | .data (.map ks vs) => some (ks, vs)
  | .mref o => match H.get o with
    | some (.map ks vs) => some (ks, vs)
    | _ => none
  | _ => none
def alookup (P : Program) (H : Heap) (t : TypeId) (x i : AV) (ok : Bool) : Option AV := match P.underlying t, mapOf H x, i with
  | some (.map kt et), some (ks, vs), .data key => if ks.all (keyOK P kt) && keyOK P kt key then match mget P kt ks vs key, tzero P et with
      | some (some v), _ => some (if ok then .tup [.data v, .data (.bool true)] else .data v)
      | some none, some z => some (if ok then .tup [cav z, .data (.bool false)] else cav z)
      | _, _ => none
    else none
  | some (.map kt et), none, .data (.str s) => match x, P.underlying kt, tzero P et with
    | .data (.set ss), some .string, some (.bool false) => some (if ok then .tup [.data (.bool (ss.contains s)), .data (.bool (ss.contains s))] else .data (.bool (ss.contains s)))
    | _, _, _ => none
  | _, _, _ => none
def amapUpdate (P : Program) (H : Heap) (t : TypeId) (m i x : AV) : Option Heap := match P.underlying t, m, i, x.plain with
  | some (.map kt _), .mref o, .data key, some v => match H.get o with
      | some (.map ks vs) => if ks.all (keyOK P kt) && keyOK P kt key then match mput P kt ks vs key v with
          | some (ks', vs') => some (H.set o (.map ks' vs'))
          | none => none
        else none
      | _ => none
  | _, _, _, _ => none
def asIndex (P : Program) (t : TypeId) (x i : AV) : Option AV := match P.underlying t, x, i with
  | some .string, .data (.str s), .data (.int _ n) => if 0 ≤ n then match s[n.toNat]? with
      | some b => some (.data (.int .u8 b.toNat))
      | none => none
    else none
  | _, _, _ => none
def aconvert (P : Program) (src dst : TypeId) (x : AV) : Option AV := match P.underlying src, P.underlying dst, x with
  | some (.int _), some (.int k), .data (.int _ n) => some (.data (.int k (k.wrap n)))
  | _, _, _ => none
def bytesD (s : List UInt8) : List D := s.map fun b => .int .u8 b.toNat
def bytesOf : List D → Option (List UInt8)
  | [] => some []
  | .int .u8 n :: r => match bytesOf r with
    | some l => some (UInt8.ofNat n.toNat :: l)
    | none => none
  | _ => none
def aconvertS (P : Program) (k : Nat) (H : Heap) (src dst : TypeId) (x : AV) : Option (AV × Heap) := match P.underlying src, P.underlying dst with
  | some .string, some (.slice e) => match P.underlying e, tsize P e, x with
    | some (.int .u8), some 1, .data (.str s) => if s.length ≤ maxLen then some (.row k s.length, H.set k (.row e 1 (bytesD s))) else none
    | _, _, _ => none
  | some (.slice e), some .string => match P.underlying e, srcList H x with
    | some (.int .u8), some l => match bytesOf l with
      | some s => some (.data (.str s), H)
      | none => none
    | _, _ => none
  | _, _ => match aconvert P src dst x with
    | some y => some (y, H)
    | none => none
def anil (H : Heap) : AV → Option AV
  | .ptr o off => match H.get o with
    | some (.box _) => some (.ptr o off)
    | _ => none
  | .data (.ref cs) => some (.data (.ref cs))
  | .rref o n i off => match H.get o with
    | some (.row _ _ l) => if l.length = n then some (.rref o n i off) else none
    | some (.arr _ _ m _) => if m = n then some (.rref o n i off) else none
    | _ => none
  | _ => none
def astep (P : Program) (Γ : FuncId → Option CSpec) (nst : Bool) (k : Nat) (sl : List AV) (H : Heap) : Op → Option (AV × Heap)
  | .move x | .assign x => some (aev sl x, H)
  | .pick c x y => match aev sl c with
    | .data (.bool b) => some (if b then aev sl x else aev sl y, H)
    | _ => none
  | .alloc e => match tzero P e with
    | some z => boxOf k H (cav z)
    | none => none
  | .box _ x => boxOf k H (aev sl x)
  | .build t parts => (abuild P t (parts.toList.map fun (i, x) => (i, aev sl x))).map (·, H)
  | .buildSlice t len parts => if nst && partsLoose (parts.toList.map fun (i, x) => (i, aev sl x)) then abuildArr P k H t len (parts.toList.map fun (i, x) => (i, aev sl x)) else abuildSlice P k H t len (parts.toList.map fun (i, x) => (i, aev sl x))
  | .load t x => (aload P H t (aev sl x)).map (·, H)
  | .store t x y => (astore P H t (aev sl x) (aev sl y)).map (.junk, ·)
  | .binOp op t x y _ => (abin P op t (aev sl x) (aev sl y)).map (·, H)
  | .unOp op _ x => (aun op (aev sl x)).map (·, H)
  | .nilCheck x => (anil H (aev sl x)).map (·, H)
  | .makeFunc fn first caps => (amakeFunc sl fn first.toList caps).map (·, H)
  | .makeSlice t l c => if nst && zeroLoose P t then amakeArr P k H t (aev sl l) (aev sl c) else amake P k H t (aev sl l) (aev sl c)
  | .index t x i => (asIndex P t (aev sl x) (aev sl i)).map (·, H)
  | .convert s d x => aconvertS P k H s d (aev sl x)
  | .makeMap _ none => some (.mref k, H.set k (.map [] []))
  | .lookup t x i ok => (alookup P H t (aev sl x) (aev sl i) ok).map (·, H)
  | .mapUpdate t m i x => (amapUpdate P H t (aev sl m) (aev sl i) (aev sl x)).map (.junk, ·)
  | .slice t x lo hi mx => aslice P H t (aev sl x) (lo.map (aev sl)) (hi.map (aev sl)) (mx.map (aev sl))
  | .fieldAddr s x f => (afield P H s (aev sl x) f).map (·, H)
  | .field s x f => (afieldV P s (aev sl x) f).map (·, H)
  | .indexAddr t x i => (aindex P H t (aev sl x) (aev sl i)).map (·, H)
  | .extract x i => (aextract (aev sl x) i).map (·, H)
  | .call c => match c.callee with
    | .builtin b => abuiltin P k H b c.argTypes (c.args.toList.map (aev sl))
    | .value f => match calleeN (aev sl f) c.args.toList.isEmpty with
      | some (f, caps) => match Γ f with
        | some s => acall k H s (c.args.toList.map (aev sl) ++ caps)
        | none => none
      | none => none
    | .invoke _ _ => none
  | _ => none
end Go.Ab
namespace Go.Ab
open Go Go.RowKit
section
variable {H : Heap} {θ : Nat → Value} {w : World} {B : Nat → Prop}
theorem cav1_sound (v : Value) : VR H θ w B (cav1 v) v := by
  cases v with
  | bool b => exact .data _ _ (.bool b)
  | int k n => exact .data _ _ (.int k n)
  | string s => exact .data _ _ (by have := DR.str (w := w) (B := B) s.data.toList; simpa using this)
  | pointer a => cases a with
    | none => exact .data _ _ .nilp
    | some a => exact .junk _
  | slice a n c =>
    cases a with
    | some a => exact .junk _
    | none =>
      by_cases h : n = 0 ∧ c = 0
      · obtain ⟨rfl, rfl⟩ := h; exact .nils
      · have : cav1 (.slice none n c) = .junk := by
          unfold cav1
          split <;> simp_all
        rw [this]
        exact .junk _
  | map b => cases b with
    | none => exact .data _ _ .nilmap
    | some b => exact .junk _
  | _ => exact .junk _
theorem dat1_some {x : AV} {d : D} (h : x.dat1 = some d) : x = .data d ∧ d.one = true := by
  cases x <;> simp only [AV.dat1] at h <;> try cases h
  split at h
  · rename_i d' h1; simp only [Option.some.injEq] at h; subst h; exact ⟨rfl, h1⟩
  · cases h
theorem allDat_some {l : List AV} {ds : List D} (h : allDat l = some ds) : l = ds.map .data ∧ ∀ d ∈ ds, d.one = true := by
  induction l generalizing ds with
  | nil => simp only [allDat, Option.some.injEq] at h; subst h; simp
  | cons x r ih =>
    simp only [allDat] at h
    split at h
    · rename_i d ds' h1 h2
      simp only [Option.some.injEq] at h
      subst h
      obtain ⟨rfl, ho⟩ := dat1_some h1
      obtain ⟨rfl, hh⟩ := ih h2
      exact ⟨rfl, fun d hd => by
        rcases List.mem_cons.1 hd with rfl | hd
        · exact ho
        · exact hh d hd⟩
    · cases h
theorem VR.data_inv {d : D} {v : Value} (h : VR H θ w B (.data d) v) : DR w B d v := by cases h; assumption
theorem mkAgg_sound {l : List AV} {vs : Array Value} (h : VR H θ w B (.agg l) (.agg vs)) : VR H θ w B (mkAgg l) (.agg vs) := by
  unfold mkAgg
  split
  · rename_i ds hd
    obtain ⟨rfl, ho⟩ := allDat_some hd
    cases h with
    | agg _ _ u hz hv hh =>
      simp only [List.length_map] at hz hv
      exact .data _ _ (.agg ds vs u hz ho (fun i hi => (hv i hi).1) (fun i hi => by
        have := hh i (by simpa using hi)
        simp only [List.getElem_map] at this
        exact this.data_inv))
  · exact h
theorem cav_sound (v : Value) : VR H θ w B (cav v) v := by
  cases v with
  | agg cs =>
    simp only [cav]
    split
    · rename_i ho
      refine mkAgg_sound (.agg _ cs (fun i => cs.getD i undef) (by simp) (fun i hi => ?_) (fun i hi => ?_))
      · simp only [List.length_map, Array.length_toList] at hi
        have : cs[i]? = some (cs.getD i undef) := by simp [hi]
        refine ⟨this, ?_⟩
        simp only [List.all_eq_true] at ho
        have := ho (cs.getD i undef) (by simp [hi])
        exact this
      · simp only [List.length_map, Array.length_toList] at hi
        simp only [List.getElem_map, Array.getElem_toList]
        have : cs.getD i undef = cs[i] := by simp [hi]
        rw [this]
        exact cav1_sound _
    · exact .junk _
  | _ => simp only [cav]; exact cav1_sound _
theorem aev_sound {c : Ctx} {sl : List AV} {a : Act} (hs : St c H θ w sl a) (x : Operand) : VR H θ w (vis c H θ w) (aev sl x) (a.eval x) := by
  cases x with
  | tmp t =>
    simp only [aev, Act.eval]
    rcases Nat.lt_or_ge t sl.length with h | h
    · have h2 : t < a.tmps.size := by rw [hs.size]; exact h
      have h1 := hs.vals t sl[t] a.tmps[t] (by simp [h]) (by simp [h2])
      simpa [List.getD, h, h2] using h1
    · rw [List.getD_eq_getElem?_getD, List.getElem?_eq_none h]
      exact .junk _
  | const v => exact cav_sound v
  | func f => exact .data _ _ (.clo f [] #[] (fun _ => undef) rfl (fun i hi => by simp at hi) (fun i hi => by simp at hi))
  | global g => exact .junk _
theorem cells_sound {x : AV} {v : Value} {cs : List AV} (h : VR H θ w B x v) (hc : x.cells = some cs) :
    v.cells.size = cs.length ∧ ∀ i (hi : i < cs.length) u, v.cells[i]? = some u → VR H θ w B (cs[i]) u ∧ u.oneCell' = true := by
  have one : ∀ (y : AV), VR H θ w B y v → v.oneCell' = true → cs = [y] → v.cells.size = cs.length ∧ ∀ i (hi : i < cs.length) u, v.cells[i]? = some u → VR H θ w B (cs[i]) u ∧ u.oneCell' = true := by
    rintro y hy ho rfl
    have hv : v.cells = #[v] := by cases v <;> simp_all [Value.cells, Value.oneCell']
    rw [hv]
    refine ⟨rfl, fun i hi u hu => ?_⟩
    simp only [List.length_singleton] at hi
    obtain rfl : i = 0 := by omega
    simp at hu
    subst hu
    exact ⟨hy, ho⟩
  cases h with
  | data d v h =>
    cases h with
    | agg ds vs u hz ho hv hh =>
      simp only [AV.cells, Option.some.injEq] at hc
      subst hc
      simp only [Value.cells, List.length_map]
      refine ⟨hz, fun i hi x hx => ?_⟩
      have h1 := hv i hi
      rw [hx] at h1
      simp only [Option.some.injEq] at h1
      subst h1
      have h2 := hh i hi
      exact ⟨by simpa using VR.data _ _ h2, h2.oneCell (ho _ (List.getElem_mem hi))⟩
    | tup _ _ _ _ _ _ => cases hc
    | bool b => simp only [AV.cells, Option.some.injEq] at hc; exact one _ (.data _ _ (.bool b)) rfl hc.symm
    | int k n => simp only [AV.cells, Option.some.injEq] at hc; exact one _ (.data _ _ (.int k n)) rfl hc.symm
    | str s => simp only [AV.cells, Option.some.injEq] at hc; exact one _ (.data _ _ (.str s)) rfl hc.symm
    | nilp => simp only [AV.cells, Option.some.injEq] at hc; exact one _ (.data _ _ .nilp) rfl hc.symm
    | empty ao cap => simp only [AV.cells, Option.some.injEq] at hc; exact one _ (.data _ _ (.empty ao cap)) rfl hc.symm
    | list l a cap sz u hb h1 hs ho hm h => simp only [AV.cells, Option.some.injEq] at hc; exact one _ (.data _ _ (.list l a cap sz u hb h1 hs ho hm h)) rfl hc.symm
    | ref cs a u hb ho hm h => simp only [AV.cells, Option.some.injEq] at hc; exact one _ (.data _ _ (.ref cs a u hb ho hm h)) rfl hc.symm
    | clo f cs vs u hz hv h => simp only [AV.cells, Option.some.injEq] at hc; exact one _ (.data _ _ (.clo f cs vs u hz hv h)) rfl hc.symm
    | nilmap => simp only [AV.cells, Option.some.injEq] at hc; exact one _ (.data _ _ .nilmap) rfl hc.symm
    | map ks vs b clock es hb hw hk hv hst h1 h2 => simp only [AV.cells, Option.some.injEq] at hc; exact one _ (.data _ _ (.map ks vs b clock es hb hw hk hv hst h1 h2)) rfl hc.symm
    | set ss b clock es hb hw hst hs => simp only [AV.cells, Option.some.injEq] at hc; exact one _ (.data _ _ (.set ss b clock es hb hw hst hs)) rfl hc.symm
  | junk v => cases hc
  | nils => simp only [AV.cells, Option.some.injEq] at hc; exact one _ .nils rfl hc.symm
  | ptr o off v hv hr h => simp only [AV.cells, Option.some.injEq] at hc; exact one _ (.ptr o off v hv hr h) hv hc.symm
  | row o n v hv hr h => simp only [AV.cells, Option.some.injEq] at hc; exact one _ (.row o n v hv hr h) hv hc.symm
  | mref o v hv hr h => simp only [AV.cells, Option.some.injEq] at hc; exact one _ (.mref o v hv hr h) hv hc.symm
  | rref o n i off v hv hr h => simp only [AV.cells, Option.some.injEq] at hc; exact one _ (.rref o n i off v hv hr h) hv hc.symm
  | agg l vs u hz hv hh =>
    simp only [AV.cells, Option.some.injEq] at hc
    subst hc
    simp only [Value.cells]
    refine ⟨hz, fun i hi x hx => ?_⟩
    have h1 := hv i hi
    rw [hx] at h1
    simp only [Option.some.injEq] at h1
    obtain ⟨rfl, ho⟩ := h1
    exact ⟨hh i hi, ho⟩
  | tup l vs u hz hv hh => cases hc
  | fn f l vs u hz hv hh => simp only [AV.cells, Option.some.injEq] at hc; exact one _ (.fn f l vs u hz hv hh) rfl hc.symm
  | bnd f l vs u hz hv hh => simp only [AV.cells, Option.some.injEq] at hc; exact one _ (.bnd f l vs u hz hv hh) rfl hc.symm
end
end Go.Ab
