/-
  A part of the proof of the seat's statements: a functional interpreter of the translated code and the proof that each call of the machine does what it says; no condition.
-/
import GoSem.Dispatch
import Derived.Lib.Index
import Derived.Laws.World
import Derived.Laws.Sem
import Derived.Laws.Append
import Derived.Calls
import Derived.Orders
import Derived.Laws.Tables
import Derived.Laws.Strings
import Derived.Laws.StructEq
set_option linter.all false

section
namespace Go.Abs

/-- Deep data that nobody changes any more: no addresses in it. -/
inductive DV where
  | bool (x : Bool)
  | int (k : IntKind) (n : Int)
  | str (x : ByteArray)
  | nilp
  | ptr (cells : List DV) (off : Nat)
  | lst (xs : List DV)
  | nilm
  | map (kv : List (ByteArray × DV))
  | fn (f : FuncId) (caps : List DV)
  | nilf
  | ifc (ty : TypeId) (v : DV)
  | nili
  | agg (cells : List DV)
deriving Inhabited

/-- Where a list of one's own stands: a slot; a cell of a box, an entry of a map (by its number). -/
inductive Org where
  | slot (n : Nat)
  | cell (id c : Nat)
deriving DecidableEq, Inhabited

/-- What a slot, a cell of a box holds. -/
inductive AV where
  | dv (v : DV)
  | ptr (id off : Nat)
  | own (e : TypeId) (xs : List DV)
  | nils (e : TypeId)
  | vw (o : Org) (k : Nat)
  | vp (o : Org) (j off : Nat)
  | map (id : Nat)
  | agg (cells : List AV)
  | ifc (ty : TypeId) (v : AV)
  | fn (f : FuncId) (caps : List AV)
  | tup (vs : List AV)
  | undf
  | junk
deriving Inhabited

inductive Ent where
  | box (cs : List AV)
  | map (kv : List (ByteArray × AV))
deriving Inhabited

structure St where
  sl : List (Nat × AV)
  tb : List (Nat × Ent)
  lk : List Nat   -- boxes that stay as they are
deriving Inhabited

structure Out where
  v : AV
  frz : List Org := []
  take : List Org := []
  kill : List Org := []
  puts : List (Org × AV) := []
  grow : List (Nat × ByteArray × AV) := []
  ents : List (Nat × Ent) := []
  kids : List Nat := []
deriving Inhabited

/-- The program, as the interpreter sees it. -/
structure Ctx where
  und : TypeId → Option TypeDesc
  inf : TypeId → Option (Value × Nat × Nat)
  fn : FuncId → Option Func
  kept : FuncId → Nat → List Nat   -- of a region: the slots that are read behind it
  mode : FuncId → Nat   -- 0: handed deep data; 1: handed boxes, which it may change; 2: handed boxes, which stay
  asFn : FuncId
  ixFn : FuncId
  asT : TypeId
  faultT : TypeId

/-! ## Texts -/

def eqL : List UInt8 → List UInt8 → Bool
  | [], [] => true
  | x :: r, y :: q => bif Nat.beq x.toNat y.toNat then eqL r q else false
  | _, _ => false
def eqB (x y : ByteArray) : Bool := eqL x.data.toList y.data.toList
def ltL : List UInt8 → List UInt8 → Bool
  | _, [] => false
  | [], _ :: _ => true
  | x :: r, y :: q => bif Nat.blt x.toNat y.toNat then true else bif Nat.beq x.toNat y.toNat then ltL r q else false
def subB (b : ByteArray) (l h : Nat) : ByteArray := ⟨((b.data.toList.take h).drop l).toArray⟩
def catB (x y : ByteArray) : ByteArray := ⟨(x.data.toList ++ y.data.toList).toArray⟩

def Org.eq : Org → Org → Bool
  | .slot n, .slot m => Nat.beq n m
  | .cell i c, .cell j d => Nat.beq i j && Nat.beq c d
  | _, _ => false
def Org.ids : Org → List Nat
  | .slot _ => []
  | .cell id _ => [id]
def Org.slots : Org → List Nat
  | .slot n => [n]
  | _ => []

/-! ## Values -/

def DV.cells : DV → List DV
  | .agg cs => cs
  | v => [v]

def isAggT : TypeDesc → Bool
  | .struct _ | .array _ _ => true
  | _ => false

/-- A variable's value out of its cells. -/
def DV.join (agg : Bool) (cs : List DV) : Option DV :=
  match agg, cs with
  | true, cs => some (.agg cs)
  | false, [c] => some c
  | _, _ => none

def AV.cells : AV → List AV
  | .agg cs => cs
  | .dv (.agg cs) => cs.map .dv
  | v => [v]

def AV.join (agg : Bool) (cs : List AV) : Option AV :=
  match agg, cs with
  | true, cs => some (.agg cs)
  | false, [c] => some c
  | _, _ => none

mutual
def AV.toDV : AV → Option DV
  | .dv v => some v
  | .nils _ => some (.lst [])
  | .agg cs => match AV.toDVs cs with
    | some l => some (.agg l)
    | none => none
  | .ifc t v => match AV.toDV v with
    | some d => some (.ifc t d)
    | none => none
  | .fn h cs => match AV.toDVs cs with
    | some l => some (.fn h l)
    | none => none
  | _ => none
def AV.toDVs : List AV → Option (List DV)
  | [] => some []
  | v :: r => match AV.toDV v, AV.toDVs r with
    | some v, some r => some (v :: r)
    | _, _ => none
end

mutual
/-- In one piece, where it is deep data all through (an empty list that may be appended to is none). -/
def AV.tidy : AV → AV
  | .dv v => .dv v
  | .agg cs => match AV.tidys cs with
    | some l => .dv (.agg l)
    | none => .agg cs
  | .ifc t v => match AV.tidy v with
    | .dv d => .dv (.ifc t d)
    | _ => .ifc t v
  | .fn h cs => match AV.tidys cs with
    | some l => .dv (.fn h l)
    | none => .fn h cs
  | v => v
def AV.tidys : List AV → Option (List DV)
  | [] => some []
  | v :: r => match AV.tidy v with
    | .dv d => match AV.tidys r with
      | some l => some (d :: l)
      | none => none
    | _ => none
end

/-- A variable's cell: an empty list there may be appended to. -/
def AV.norm : AV → AV
  | .nils e => .own e []
  | v => v

mutual
def DV.flat : DV → Bool
  | .bool _ | .int _ _ | .str _ | .nilp | .nilm | .nilf | .nili => true
  | .ifc _ v => DV.flat v
  | .agg cs => DV.flats cs
  | _ => false
def DV.flats : List DV → Bool
  | [] => true
  | v :: r => DV.flat v && DV.flats r
end
mutual
/-- Nothing in it leads into memory. -/
def AV.flat : AV → Bool
  | .dv v => v.flat
  | .tup vs => AV.flats vs
  | _ => false
def AV.flats : List AV → Bool
  | [] => true
  | v :: r => AV.flat v && AV.flats r
end

mutual
def AV.ids : AV → List Nat
  | .ptr id _ | .map id => [id]
  | .vw o _ | .vp o _ _ => o.ids
  | .agg vs | .fn _ vs | .tup vs => AV.idss vs
  | .ifc _ v => AV.ids v
  | _ => []
def AV.idss : List AV → List Nat
  | [] => []
  | v :: r => AV.ids v ++ AV.idss r
end
def AV.vids : AV → List Nat
  | .vw o _ | .vp o _ _ => o.ids
  | _ => []
def AV.vslots : AV → List Nat
  | .vw o _ | .vp o _ _ => o.slots
  | _ => []

def kvIds : List (ByteArray × AV) → List Nat
  | [] => []
  | (_, v) :: r => v.ids ++ kvIds r
def Ent.ids : Ent → List Nat
  | .box cs => AV.idss cs
  | .map kv => kvIds kv

def tbIds : List (Nat × Ent) → List Nat
  | [] => []
  | (_, e) :: r => e.ids ++ tbIds r

/-! ## The state -/

def find {α : Type} (n : Nat) : List (Nat × α) → Option α
  | [] => none
  | (k, v) :: r => bif Nat.beq k n then some v else find n r
def put1 {α : Type} (n : Nat) (v : α) : List (Nat × α) → List (Nat × α)
  | [] => [(n, v)]
  | (k, u) :: r => bif Nat.beq k n then (n, v) :: r else (k, u) :: put1 n v r
def has (n : Nat) : List Nat → Bool
  | [] => false
  | k :: r => bif Nat.beq k n then true else has n r

/-- A key's number, and what stands there. -/
def lookupKey {α : Type} (key : ByteArray) : Nat → List (ByteArray × α) → Option (Nat × α)
  | _, [] => none
  | i, (k, v) :: r => bif eqB k key then some (i, v) else lookupKey key (i + 1) r

def entIds : Option Ent → List Nat
  | some e => e.ids
  | none => []

/-- What of l is not in m yet, each once. -/
def newIds : List Nat → List Nat → List Nat
  | [], _ => []
  | i :: r, m => bif has i m then newIds r m else i :: newIds r (i :: m)
def idsOf (tb : List (Nat × Ent)) : List Nat → List Nat
  | [] => []
  | i :: r => entIds (find i tb) ++ idsOf tb r
def reachN (tb : List (Nat × Ent)) : Nat → List Nat → List Nat
  | 0, l => l
  | n + 1, l => match newIds (idsOf tb l) l with
    | [] => l
    | more => reachN tb n (more ++ l)
def reach (tb : List (Nat × Ent)) (l : List Nat) : List Nat := match newIds l [] with
  | [] => []
  | l => reachN tb tb.length l
def within (ids : List Nat) : List (Nat × Ent) → List (Nat × Ent)
  | [] => []
  | (i, e) :: r => bif has i ids then (i, e) :: within ids r else within ids r

def cellOf (e : Option Ent) (c : Nat) : AV := match e with
  | some (.box cs) => match cs[c]? with
    | some v => v
    | none => .junk
  | some (.map kv) => match kv[c]? with
    | some (_, v) => v
    | none => .junk
  | none => .junk

/-- What an operation sees of the state. -/
structure Vw where
  sl : Nat → AV
  get : Nat → Option Ent
  lk : List Nat

def St.slot (st : St) (t : Nat) : AV := match find t st.sl with
  | some v => v
  | none => .junk
def St.ent (st : St) (i : Nat) : Option Ent := find i st.tb
def St.all (st : St) : Vw := { sl := st.slot, get := st.ent, lk := st.lk }

def Vw.at_ (V : Vw) : Org → AV
  | .slot n => V.sl n
  | .cell id c => cellOf (V.get id) c
def Vw.locked (V : Vw) : Org → Bool
  | .slot _ => false
  | .cell id _ => has id V.lk

def AV.views (o : Org) : AV → Bool
  | .vw o' _ | .vp o' _ _ => o'.eq o
  | _ => false
def AV.viewsIn (ids : List Nat) : AV → Bool
  | .vw (.cell id _) _ | .vp (.cell id _) _ _ => has id ids
  | _ => false

def setKv (v : AV) : Nat → List (ByteArray × AV) → List (ByteArray × AV)
  | _, [] => []
  | 0, (k, _) :: r => (k, v) :: r
  | n + 1, x :: r => x :: setKv v n r
def setCell (c : Nat) (v : AV) : Ent → Ent
  | .box cs => .box (cs.set c v)
  | .map kv => .map (setKv v c kv)
def growEnt (kv : ByteArray × AV) : Ent → Ent
  | .map l => .map (l ++ [kv])
  | e => e
def St.setEnt (st : St) (i : Nat) (f : Ent → Ent) : St := match find i st.tb with
  | some e => { st with tb := put1 i (f e) st.tb }
  | none => st
def St.setPlace (st : St) (v : AV) : Org → St
  | .slot n => { st with sl := (n, v) :: st.sl }
  | .cell id c => st.setEnt id (setCell c v)
def St.freeze1 (st : St) (o : Org) : St := match st.all.at_ o with
  | .own _ zs => st.setPlace (.dv (.lst zs)) o
  | _ => st
def killIn (p : AV → Bool) : List (Nat × AV) → List (Nat × AV)
  | [] => []
  | (t, v) :: r => bif p v then (t, .junk) :: killIn p r else (t, v) :: killIn p r
def St.kill1 (st : St) (o : Org) : St := { st with sl := killIn (AV.views o) st.sl }
def St.take1 (st : St) (o : Org) : St := (st.kill1 o).setPlace .junk o
/-- May something show what stands there? -/
def AV.shown : AV → Bool
  | .own _ _ | .dv (.lst _) => true
  | _ => false
def St.setSlot (st : St) (d : Nat) (v : AV) : St :=
  bif (st.slot d).shown then { st with sl := (d, v) :: killIn (AV.views (.slot d)) st.sl } else { st with sl := (d, v) :: st.sl }

def St.put (st : St) (dst : Option Nat) (out : Out) : St :=
  let st := out.frz.foldl St.freeze1 st
  let st := out.take.foldl St.take1 st
  let st := out.kill.foldl St.kill1 st
  let st := match out.kids with
    | [] => st
    | ids => { st with sl := killIn (AV.viewsIn ids) st.sl }
  let st := out.puts.foldl (fun st (o, v) => st.setPlace v o) st
  let st := out.grow.foldl (fun st (i, kv) => st.setEnt i (growEnt kv)) st
  let st := match out.ents with
    | [] => st
    | l => { st with tb := l.foldr (fun (i, e) l => put1 i e l) st.tb }
  match dst with
  | some d => st.setSlot d out.v
  | none => st

/-! ## Constants, types -/

def ofVal : Value → Option AV
  | .bool b => some (.dv (.bool b))
  | .int k n => some (.dv (.int k n))
  | .string s => some (.dv (.str s))
  | .pointer none => some (.dv .nilp)
  | .slice none 0 0 => some (.nils 0)
  | .map none => some (.dv .nilm)
  | .nilFunc => some (.dv .nilf)
  | .nilIface => some (.dv .nili)
  | _ => none

def ofCells : List Value → Option (List AV)
  | [] => some []
  | v :: r => match ofVal v, ofCells r with
    | some v, some r => some (v :: r)
    | _, _ => none

/-- The element types of the slices among a type's cells (others: 0). -/
def Ctx.leafs (G : Ctx) : Nat → TypeId → List TypeId
  | 0, _ => []
  | n + 1, t => match G.und t with
    | some (.struct fields) => fields.toList.flatMap fun f => G.leafs n f.type
    | some (.array k e) => (List.replicate k ()).flatMap fun _ => G.leafs n e
    | some (.slice e) => [e]
    | _ => [0]

def AV.typed (e : TypeId) : AV → AV
  | .nils _ => .nils e
  | v => v
def typeds : List AV → List TypeId → List AV
  | v :: r, e :: l => v.typed e :: typeds r l
  | l, _ => l

/-- A type's zero value, cell by cell. -/
def Ctx.zero (G : Ctx) (t : TypeId) : Option (List AV) :=
  match G.inf t with
  | some (z, n, _) => match ofCells z.cells.toList with
    | some cs => bif Nat.beq cs.length n then some (typeds cs (G.leafs 10 t)) else none
    | none => none
  | none => none

/-- A slice's element type. -/
def Ctx.elem (G : Ctx) (t : TypeId) : Option TypeId :=
  match G.und t with
  | some (.slice e) => some e
  | _ => none
def Ctx.elem0 (G : Ctx) (t : TypeId) : TypeId := match G.elem t with
  | some e => e
  | none => 0
/-- A map's element type; its keys are texts. -/
def Ctx.mapElem (G : Ctx) (t : TypeId) : Option TypeId :=
  match G.und t with
  | some (.map kt e) => match G.und kt with
    | some .string => some e
    | _ => none
  | _ => none
def Ctx.agg (G : Ctx) (t : TypeId) : Option Bool := match G.und t with
  | some d => some (isAggT d)
  | none => none
def Ctx.size (G : Ctx) (t : TypeId) : Option Nat := match G.inf t with
  | some (_, n, _) => some n
  | none => none
def Ctx.bytes (G : Ctx) (t : TypeId) : Option Nat := match G.inf t with
  | some (_, _, n) => some n
  | none => none
def Ctx.zeroDV (G : Ctx) (T : TypeId) : Option DV :=
  match G.inf T with
  | some (.agg cs, _, _) => match ofCells cs.toList with
    | some l => match AV.toDVs l with
      | some ds => some (.agg ds)
      | none => none
    | none => none
  | some (z, _, _) => match ofVal z with
    | some v => v.toDV
    | none => none
  | none => none

/-! ## Operations -/

/-- The value, if what is asked holds. -/
def ask {α : Type} (b : Bool) (x : Option α) : Option α := bif b then x else none

section
variable (G : Ctx) (V : Vw)

def opnd : Operand → Option AV
  | .tmp t => match V.sl t with
    | .junk => none
    | v => some v
  | .const v => ofVal v
  | .func f => some (.dv (.fn f []))
  | .global _ => none

def isConst : Operand → Bool
  | .const _ => true
  | _ => false

/-- The list that a view shows. -/
def see (o : Org) (k : Nat) : Option (List DV) :=
  match V.at_ o with
  | .own _ ys => some (ys.take k)
  | .dv (.lst ys) => some (ys.take k)
  | _ => none

/-- A place's list as deep data: what is to be frozen. -/
def deepAt (o : Org) (k : Nat) : Option (DV × List Org) :=
  match V.at_ o with
  | .own _ ys => ask (!V.locked o) (some (.lst (ys.take k), [o]))
  | .dv (.lst ys) => some (.lst (ys.take k), [])
  | _ => none

/-- An operand's value as deep data, whatever it is; what is to be frozen. -/
def deep (x : Operand) : Option (DV × List Org) :=
  match opnd V x with
  | some (.own _ xs) => match x with
    | .tmp t => some (.lst xs, [.slot t])
    | _ => none
  | some (.vw o k) => deepAt V o k
  | some v => match v.toDV with
    | some d => some (d, [])
    | none => none
  | none => none

/-- The same, only looked at. -/
def look (x : Operand) : Option DV :=
  match opnd V x with
  | some (.own _ xs) => some (.lst xs)
  | some (.vw o k) => match see V o k with
    | some l => some (.lst l)
    | none => none
  | some v => v.toDV
  | none => none

def scalar (x : Operand) : Option DV :=
  match opnd V x with
  | some (.dv v) => some v
  | _ => none

def intOf (x : Operand) : Option Int :=
  match opnd V x with
  | some (.dv (.int _ n)) => some n
  | _ => none

/-- What may stand in a cell: no view, nothing that is not there. -/
def AV.solid : AV → Bool
  | .vw _ _ | .vp _ _ _ | .undf | .junk | .tup _ | .own _ _ => false
  | _ => true

/-- Something is put into a place: what stands there then; what is frozen; what is taken. -/
def putIn (o : Org) (x : Operand) : Option (AV × List Org × List Org) :=
  match opnd V x with
  | some (.own e xs) => match x with
    | .tmp t => some (.own e xs, [], [.slot t])
    | _ => none
  | some (.vw o' k) =>
    bif o'.eq o then match V.at_ o with
      | .own e ys => some (.own e (ys.take k), [], [])
      | .dv (.lst ys) => some (.dv (.lst (ys.take k)), [], [])
      | _ => none
    else match deepAt V o' k with
      | some (d, f) => some (.dv d, f, [])
      | none => none
  | some v => ask v.solid (some (v, [], []))
  | none => none

/-- Cells that are put into new memory, or over a box's. -/
def fresh (x : Operand) : Option (List AV × List Org × List Org) :=
  match opnd V x with
  | some (.own e xs) => match x with
    | .tmp t => some ([.own e xs], [], [.slot t])
    | _ => none
  | some (.vw o k) => match deepAt V o k with
    | some (d, f) => some ([.dv d], f, [])
    | none => none
  | some v => ask v.solid (some (v.cells, [], []))
  | none => none

def deeps : List Operand → Option (List DV × List Org)
  | [] => some ([], [])
  | x :: r => match deep V x, deeps r with
    | some (v, a), some (vs, b) => some (v :: vs, a ++ b)
    | _, _ => none

/-- An address that may be gone through: what it leads to. -/
inductive Dest where
  | fz (cells : List DV) (off : Nat)
  | box (id off : Nat)
  | own (o : Org) (j off : Nat)

def dest (x : Operand) : Option Dest :=
  match opnd V x with
  | some (.dv (.ptr cells off)) => some (.fz cells off)
  | some (.ptr id off) => some (.box id off)
  | some (.vp o j off) => some (.own o j off)
  | _ => none

def Dest.av : Dest → AV
  | .fz cells off => .dv (.ptr cells off)
  | .box id off => .ptr id off
  | .own o j off => .vp o j off

def Dest.add (n : Nat) : Dest → Dest
  | .fz cells off => .fz cells (off + n)
  | .box id off => .box id (off + n)
  | .own o j off => .own o j (off + n)

/-- A part of a list of cells. -/
def cut {α : Type} (cs : List α) (off n : Nat) : Option (List α) := bif Nat.ble (off + n) cs.length then some ((cs.drop off).take n) else none

def isKept (kept : List Nat) (dst : Option Nat) : Bool := match dst with
  | some d => has d kept
  | none => false

/-- A list of one's own, read: a view; or, where it is to stay, nobody's own any more. -/
def peek (keep : Bool) (o : Org) (xs : List DV) : Option Out :=
  bif keep then ask (!V.locked o) (some { v := .dv (.lst xs), frz := [o] })
  else some { v := .vw o xs.length }

def thaw : AV → AV
  | .own _ xs => .dv (.lst xs)
  | v => v
/-- The cells of a box that are frozen when it is read as a whole. -/
def ownCells (id : Nat) : Nat → List AV → List Org
  | _, [] => []
  | c, .own _ (_ :: _) :: r => .cell id c :: ownCells id (c + 1) r
  | c, _ :: r => ownCells id (c + 1) r

def allSolid : List AV → Bool
  | [] => true
  | v :: r => bif v.solid then allSolid r else false

/-- A part of deep cells, read. -/
def loadDeep (agg : Bool) (cells : List DV) (off n : Nat) : Option Out :=
  match cut cells off n with
  | some cs => match DV.join agg cs with
    | some v => some { v := .dv v }
    | none => none
  | none => none
def loadElem (agg : Bool) (ys : List DV) (j off n : Nat) : Option Out :=
  match ys[j]? with
  | some e => loadDeep agg e.cells off n
  | none => none
def loadAgg (id off : Nat) (part : List AV) : Option Out :=
  bif allSolid (part.map thaw) then match ownCells id off part with
    | [] => some { v := (AV.agg (part.map thaw)).tidy }
    | f => ask (!has id V.lk) (some { v := (AV.agg (part.map thaw)).tidy, frz := f })
  else none
def loadOne (keep : Bool) (id off : Nat) : List AV → Option Out
  | [.own _ xs] => peek V keep (.cell id off) xs
  | [v] => ask v.solid (some { v := v })
  | _ => none
def loadBox (keep agg : Bool) (id off n : Nat) (cs : List AV) : Option Out :=
  match cut cs off n with
  | some part => match agg with
    | true => loadAgg V id off part
    | false => loadOne V keep id off part
  | none => none
def loadOut (keep : Bool) (T : TypeId) (x : Operand) : Option Out :=
  match dest V x, G.size T, G.agg T with
  | some (.fz cells off), some n, some agg => loadDeep agg cells off n
  | some (.own o j off), some n, some agg => match V.at_ o with
    | .own _ ys => loadElem agg ys j off n
    | .dv (.lst ys) => loadElem agg ys j off n
    | _ => none
  | some (.box id off), some n, some agg =>
    match V.get id with
    | some (.box cs) => loadBox V keep agg id off n cs
    | _ => none
  | _, _, _ => none

/-- The places of a box's cells from one on, and what is put there. -/
def cellPuts (id : Nat) : Nat → List AV → List (Org × AV)
  | _, [] => []
  | c, v :: r => (.cell id c, v) :: cellPuts id (c + 1) r
/-- Of a box's cells: those that may be shown. -/
def cellKills (id : Nat) : Nat → List AV → List Org
  | _, [] => []
  | c, v :: r => bif v.shown then .cell id c :: cellKills id (c + 1) r else cellKills id (c + 1) r

/-- What stands in one cell of memory. -/
def DV.atom : DV → Bool
  | .agg _ => false
  | _ => true
def AV.atom : AV → Bool
  | .agg _ | .tup _ | .undf | .junk | .dv (.agg _) => false
  | _ => true
def atomsD : List DV → Bool
  | [] => true
  | v :: r => bif v.atom then atomsD r else false
def atomsE : List DV → Bool
  | [] => true
  | v :: r => bif atomsD v.cells then atomsE r else false
def atomsA : List AV → Bool
  | [] => true
  | v :: r => bif v.atom then atomsA r else false

def storeOut (T : TypeId) (a x : Operand) : Option Out :=
  match dest V a, G.size T with
  | some (.own o j off), some n => match V.at_ o, look V x with
    | .own te ys, some v => match ys[j]?, v.flat with
      | some e, true =>
        let es := e.cells
        bif Nat.beq v.cells.length n && Nat.ble (off + n) es.length && !V.locked o && atomsD v.cells then
          let e' := es.take off ++ v.cells ++ es.drop (off + n)
          match e with
          | .agg _ => some { v := .undf, puts := [(o, .own te (ys.set j (.agg e')))] }
          | _ => match e' with
            | [c] => some { v := .undf, puts := [(o, .own te (ys.set j c))] }
            | _ => none
        else none
      | _, _ => none
    | _, _ => none
  | some (.box id off), some n =>
    bif has id V.lk then none else match V.get id with
    | some (.box cs) => match cut cs off n with
      | some [cur] => match putIn V (.cell id off) x with
        | some (v, f, t) => match v.cells with
          | [c] => bif c.atom then some { v := .undf, frz := f, take := t, kill := cellKills id off [cur], puts := [(.cell id off, bif isConst x then c.typed (G.elem0 T) else c)] } else none
          | _ => none
        | none => none
      | some part => match fresh V x with
        | some (vs, f, t) => bif Nat.beq vs.length n && atomsA vs then some { v := .undf, frz := f, take := t, kill := cellKills id off part, puts := cellPuts id off vs } else none
        | none => none
      | none => none
    | _ => none
  | _, _ => none

/-- A new box, of the number that goes with its slot. -/
def newBox (base : Nat) (dst : Option Nat) (e : Ent) (v : Nat → AV) : Option Out :=
  match dst with
  | some d => match V.get (base + d) with
    | none => some { v := v (base + d), ents := [(base + d, e)] }
    | some _ => none
  | none => none

def places (size : TypeId → Option Nat) : List Field → Option (List (Nat × Nat))
  | [] => some []
  | f :: r => match size f.type, places size r with
    | some n, some l => some ((f.offset, n) :: l)
    | _, _ => none
def rowPlaces (k : Nat) : Nat → Nat → List (Nat × Nat)
  | 0, _ => []
  | n + 1, off => (off, k) :: rowPlaces k n (off + k)

def fillA (places : List (Nat × Nat)) (cells : List AV) : List (Nat × List AV) → Option (List AV)
  | [] => some cells
  | (i, vs) :: rest => match places[i]? with
    | some (off, size) => bif Nat.beq vs.length size && Nat.ble (off + size) cells.length then fillA places (cells.take off ++ vs ++ cells.drop (off + size)) rest else none
    | none => none

/-- A part of an aggregate that is built: lists of one's own are nobody's own any more. -/
def partOf (x : Operand) : Option (List AV × List Org) :=
  match opnd V x with
  | some (.own _ _) | some (.vw _ _) => match deep V x with
    | some (d, f) => some ([.dv d], f)
    | none => none
  | some v => ask v.solid (some (v.cells, []))
  | none => none

def partsOf : List (Nat × Operand) → Option (List (Nat × List AV) × List Org)
  | [] => some ([], [])
  | (i, x) :: r => match partOf V x, partsOf r with
    | some (v, a), some (vs, b) => some ((i, v) :: vs, a ++ b)
    | _, _ => none

def buildOut (T : TypeId) (parts : List (Nat × Operand)) : Option Out :=
  let pl : Option (List (Nat × Nat)) := match G.und T with
    | some (.struct fields) => places G.size fields.toList
    | some (.array n e) => match G.size e with
      | some k => some (rowPlaces k n 0)
      | none => none
    | _ => none
  match G.zero T, partsOf V parts, pl with
  | some z, some (vs, f), some pl => match fillA pl z vs with
    | some cs => some { v := (AV.agg cs).tidy, frz := f }
    | none => none
  | _, _, _ => none

def setAll (l : List DV) : List (Nat × DV) → Option (List DV)
  | [] => some l
  | (i, v) :: r => bif Nat.blt i l.length then setAll (l.set i v) r else none

def allSize (k : Nat) : List DV → Bool
  | [] => true
  | v :: r => bif Nat.beq v.cells.length k then allSize k r else false

def buildSliceOut (T : TypeId) (len : Nat) (parts : List (Nat × Operand)) : Option Out :=
  match G.elem T with
  | some e => match G.size e, G.zeroDV e, deeps V (parts.map (·.2)) with
    | some n, some z, some (vs, f) =>
      bif Nat.ble (len * n) 16777216 && Nat.blt 0 n && allSize n (z :: vs) then
        match setAll (List.replicate len z) ((parts.map (·.1)).zip vs) with
        | some xs => some { v := .own e xs, frz := f }
        | none => none
      else none
    | _, _, _ => none
  | none => none

/-- The first one is of that size (all are of one size). -/
def headSize (k : Nat) : List DV → Bool
  | [] => true
  | v :: _ => Nat.beq v.cells.length k

def natOf : Int → Option Nat
  | .ofNat n => some n
  | .negSucc _ => none
def idxOf (x : Operand) : Option Nat := match intOf V x with
  | some i => natOf i
  | none => none

def indexAddrOut (T : TypeId) (x j : Operand) : Option Out :=
  match idxOf V j, G.und T with
  | some i, some (.array n e) => match dest V x, G.size e with
    | some d, some k => bif Nat.blt i n && Nat.blt 0 k then some { v := (d.add (i * k)).av } else none
    | _, _ => none
  | some i, some (.slice e) => match G.size e, opnd V x with
    | some k, some (.dv (.lst xs)) => match xs[i]? with
      | some v => bif Nat.beq v.cells.length k && Nat.blt 0 k then some { v := .dv (.ptr v.cells 0) } else none
      | none => none
    | some k, some (.vw o m) => match see V o m with
      | some ys => match ys[i]? with
        | some v => bif Nat.beq v.cells.length k && Nat.blt 0 k then some { v := .vp o i 0 } else none
        | none => none
      | none => none
    | some k, some (.own _ ys) => match x, ys[i]? with
      | .tmp t, some v => bif Nat.beq v.cells.length k && Nat.blt 0 k then some { v := .vp (.slot t) i 0 } else none
      | _, _ => none
    | _, _ => none
  | _, _ => none

def indexOut (T : TypeId) (x j : Operand) : Option Out :=
  match idxOf V j, scalar V x, G.und T with
  | some i, some (.str b), some .string => match b.data.toList[i]? with
    | some c => some { v := .dv (.int .u8 c.toNat) }
    | none => none
  | _, _, _ => none

def optIdx (x : Option Operand) (dflt : Nat) : Option Nat :=
  match x with
  | none => some dflt
  | some x => idxOf V x

def sliceOut (T : TypeId) (x : Operand) (lo hi : Option Operand) : Option Out :=
  match G.und T with
  | some .string => match scalar V x with
    | some (.str b) => match optIdx V hi b.data.toList.length, optIdx V lo 0 with
      | some h, some l => bif Nat.ble l h && Nat.ble h b.data.toList.length then some { v := .dv (.str (subB b l h)) } else none
      | _, _ => none
    | _ => none
  | some (.slice e) => match G.size e, opnd V x with
    | some k, some (.dv (.lst xs)) => match optIdx V hi xs.length, optIdx V lo 0 with
      | some h, some l => bif Nat.ble l h && Nat.ble h xs.length && headSize k xs then some { v := .dv (.lst ((xs.take h).drop l)) } else none
      | _, _ => none
    | some _, some (.nils e) => match optIdx V hi 0, optIdx V lo 0 with
      | some 0, some 0 => some { v := .nils e }
      | _, _ => none
    | some k, some (.vw o m) => match see V o m with
      | some ys => match optIdx V hi ys.length, optIdx V lo 0 with
        | some h, some 0 => bif Nat.ble h ys.length then some { v := .vw o h } else none
        | some h, some l => bif Nat.ble l h && Nat.ble h ys.length && headSize k ys then match deepAt V o m with
            | some (_, f) => some { v := .dv (.lst ((ys.take h).drop l)), frz := f }
            | none => none
          else none
        | _, _ => none
      | none => none
    | some k, some (.own _ xs) => match x, optIdx V hi xs.length, optIdx V lo 0 with
      | .tmp t, some h, some 0 => bif Nat.ble h xs.length then some { v := .vw (.slot t) h } else none
      | .tmp t, some h, some l => bif Nat.ble l h && Nat.ble h xs.length && headSize k xs then some { v := .dv (.lst ((xs.take h).drop l)), frz := [.slot t] } else none
      | _, _, _ => none
    | _, _ => none
  | _ => none

/-- '==' of numbers, bools, texts; of arrays of such. -/
def eqFlat : TypeDesc → DV → DV → Option Bool
  | .bool, .bool x, .bool y => some (x == y)
  | .int _, .int k x, .int k' y => if k = k' then some (x == y) else none
  | .string, .str x, .str y => some (eqB x y)
  | _, _, _ => none

def eqFlats (d : TypeDesc) : List DV → List DV → Option Bool
  | [], [] => some true
  | x :: r, y :: q => match eqFlat d x y with
    | some true => eqFlats d r q
    | some false => some false
    | none => none
  | _, _ => none

def basicT : TypeDesc → Bool
  | .bool | .int _ | .string => true
  | _ => false
def eqRow (n : Nat) (e : TypeId) (xs ys : List DV) : Option Bool :=
  match G.und e, G.size e with
  | some d, some 1 => bif basicT d && (Nat.beq xs.length n && Nat.beq ys.length n) then eqFlats d xs ys else none
  | _, _ => none

def eqAV (T : TypeDesc) (x y : AV) : Option Bool :=
  match T, x, y with
  | .bool, .dv (.bool a), .dv (.bool b) => some (a == b)
  | .pointer _, .dv .nilp, .dv .nilp => some true
  | .pointer _, .dv .nilp, .dv (.ptr ..) => some false
  | .pointer _, .dv .nilp, .ptr .. => some false
  | .pointer _, .dv (.ptr ..), .dv .nilp => some false
  | .pointer _, .ptr .., .dv .nilp => some false
  | .interface _, .dv .nili, .dv (.ifc ..) => some false
  | .interface _, .dv (.ifc ..), .dv .nili => some false
  | .array n e, .dv (.agg xs), .dv (.agg ys) => eqRow G n e xs ys
  | _, _, _ => none

def kindLo : IntKind → Int
  | .i8 => -128 | .i16 => -32768 | .i32 => -2147483648 | .i64 => -9223372036854775808 | _ => 0
def kindHi : IntKind → Int
  | .i8 => 127 | .i16 => 32767 | .i32 => 2147483647 | .i64 => 9223372036854775807
  | .u8 => 255 | .u16 => 65535 | .u32 => 4294967295 | .u64 => 18446744073709551615
def intLe : Int → Int → Bool
  | .ofNat a, .ofNat b => Nat.ble a b
  | .negSucc _, .ofNat _ => true
  | .ofNat _, .negSucc _ => false
  | .negSucc a, .negSucc b => Nat.ble b a
def intEq : Int → Int → Bool
  | .ofNat a, .ofNat b => Nat.beq a b
  | .negSucc a, .negSucc b => Nat.beq a b
  | _, _ => false
def wrapI (k : IntKind) (n : Int) : Int := bif intLe (kindLo k) n && intLe n (kindHi k) then n else k.wrap n

def intBin (op : BinOp) (T : TypeId) (k : IntKind) (x y : Int) : Option DV :=
  match op with
  | .add => some (.int k (wrapI k (x + y)))
  | .sub => some (.int k (wrapI k (x - y)))
  | .mul => some (.int k (wrapI k (x * y)))
  | .eql => some (.bool (intEq x y))
  | .neq => some (.bool (!intEq x y))
  | .lss => some (.bool (!intLe y x))
  | .leq => some (.bool (intLe x y))
  | .gtr => some (.bool (!intLe x y))
  | .geq => some (.bool (intLe y x))
  | op => match binOp op T (.int k x) (.int k y) with
    | .pure (.int k n) => some (.int k n)
    | _ => none

def strBin (op : BinOp) (x y : ByteArray) : Option DV :=
  match op with
  | .add => bif Nat.ble (x.data.toList.length + y.data.toList.length) 9223372036854775807 then some (.str (catB x y)) else none
  | .eql => some (.bool (eqB x y))
  | .neq => some (.bool (!eqB x y))
  | .lss => some (.bool (ltL x.data.toList y.data.toList))
  | .leq => some (.bool (ltL x.data.toList y.data.toList || eqB x y))
  | .gtr => some (.bool !(ltL x.data.toList y.data.toList || eqB x y))
  | .geq => some (.bool !(ltL x.data.toList y.data.toList))
  | _ => none

def kindEq : IntKind → IntKind → Bool
  | .i8, .i8 | .i16, .i16 | .i32, .i32 | .i64, .i64 | .u8, .u8 | .u16, .u16 | .u32, .u32 | .u64, .u64 => true
  | _, _ => false

def binOut (op : BinOp) (T : TypeId) (x y : Operand) : Option Out :=
  match opnd V x, opnd V y with
  | some (.dv (.int k m)), some (.dv (.int k' n)) => match ask (kindEq k k') (intBin op T k m n) with
    | some v => some { v := .dv v }
    | none => none
  | some (.dv (.str m)), some (.dv (.str n)) => match strBin op m n with
    | some v => some { v := .dv v }
    | none => none
  | some (.dv .nili), some (.dv .nili) => bif isConst x || isConst y then (match op, G.und T with
      | .eql, some (.interface _) => some { v := .dv (.bool true) }
      | .neq, some (.interface _) => some { v := .dv (.bool false) }
      | _, _ => none) else none
  | some a, some b => match G.und T with
    | some d => match eqAV G d a b, op with
      | some e, .eql => some { v := .dv (.bool e) }
      | some e, .neq => some { v := .dv (.bool !e) }
      | _, _ => none
    | none => none
  | _, _ => none

def unOut (op : UnOp) (x : Operand) : Option Out :=
  match op, scalar V x with
  | .not, some (.bool b) => some { v := .dv (.bool !b) }
  | .neg, some (.int k n) => some { v := .dv (.int k (wrapI k (0 - n))) }
  | _, _ => none

def convertOut (src dst : TypeId) (x : Operand) : Option Out :=
  match G.und src, G.und dst, scalar V x with
  | some (.int _), some (.int k), some (.int _ n) => some { v := .dv (.int k (wrapI k n)) }
  | some .string, some .string, some (.str b) => some { v := .dv (.str b) }
  | _, _, _ => none

/-- Values that are handed on: lists as deep data; addresses of boxes stay. What is lent. -/
def arg (x : Operand) : Option (AV × List Org) :=
  match opnd V x with
  | some (.own _ xs) => match x with
    | .tmp t => some (.dv (.lst xs), [.slot t])
    | _ => none
  | some (.vw o k) => match V.at_ o with
    | .own _ ys => some (.dv (.lst (ys.take k)), [o])
    | .dv (.lst ys) => some (.dv (.lst (ys.take k)), [])
    | _ => none
  | some (.nils _) => some (.dv (.lst []), [])
  | some v => ask v.solid (some (v.tidy, []))
  | none => none

def argsOf : List Operand → Option (List AV × List Org)
  | [] => some ([], [])
  | x :: r => match arg V x, argsOf r with
    | some (v, a), some (vs, b) => some (v :: vs, a ++ b)
    | _, _ => none

def anyLocked : List Org → Bool
  | [] => false
  | o :: r => V.locked o || anyLocked r

/-- Do lists that are lent stand in boxes of these numbers? -/
def lends (ids : List Nat) : List Org → Bool
  | [] => false
  | .slot _ :: r => lends ids r
  | .cell id _ :: r => has id ids || lends ids r

end

mutual
/-- A result as deep data: boxes from 'base' on are nobody's any more. -/
def freeze (tb : Nat → Option Ent) (base : Nat) : Nat → AV → Option DV
  | 0, _ => none
  | n + 1, v =>
    match v with
    | .dv v => some v
    | .nils _ => some (.lst [])
    | .own _ xs => some (.lst xs)
    | .ptr id off => bif Nat.ble base id then match tb id with
        | some (.box cs) => match freezes tb base n cs with
          | some l => some (.ptr l off)
          | none => none
        | _ => none
      else none
    | .map id => bif Nat.ble base id then match tb id with
        | some (.map kv) => match freezes tb base n (kv.map (·.2)) with
          | some l => some (.map ((kv.map (·.1)).zip l))
          | none => none
        | _ => none
      else none
    | .agg cs => match freezes tb base n cs with
      | some l => some (.agg l)
      | none => none
    | .ifc t v => match freeze tb base n v with
      | some d => some (.ifc t d)
      | none => none
    | .fn f cs => match freezes tb base n cs with
      | some l => some (.fn f l)
      | none => none
    | _ => none
def freezes (tb : Nat → Option Ent) (base : Nat) : Nat → List AV → Option (List DV)
  | 0, _ => none
  | _ + 1, [] => some []
  | n + 1, v :: r => match freeze tb base n v, freezes tb base n r with
    | some d, some l => some (d :: l)
    | _, _ => none
end

/-- What a call comes to: its result, and what the boxes hold behind it. Function, arguments, boxes, locked ones, the first number of a new one. -/
abbrev CallF := FuncId → List AV → List (Nat × Ent) → List Nat → Nat → Option (AV × List (Nat × Ent))

section
variable (G : Ctx) (call : CallF) (V : Vw)

/-- The boxes of these numbers. -/
def entsOf : List Nat → Option (List (Nat × Ent))
  | [] => some []
  | i :: r => match V.get i, entsOf r with
    | some e, some l => some ((i, e) :: l)
    | _, _ => none

/-- The same boxes, of the same kinds. -/
def sameEnts : List (Nat × Ent) → List (Nat × Ent) → Bool
  | [], [] => true
  | (i, .box _) :: r, (j, .box _) :: l => bif Nat.beq i j then sameEnts r l else false
  | (i, .map _) :: r, (j, .map _) :: l => bif Nat.beq i j then sameEnts r l else false
  | _, _ => false

def below (base : Nat) : List Nat → Bool
  | [] => true
  | i :: r => bif Nat.blt i base then below base r else false
def disj : List Nat → List Nat → Bool
  | [], _ => true
  | i :: r, l => bif has i l then false else disj r l
def allIn (ids : List Nat) : List Nat → Bool
  | [] => true
  | i :: r => bif has i ids then allIn ids r else false
/-- What is handed leads to nothing else. -/
def closed (ids : List Nat) (all : List AV) (tb : List (Nat × Ent)) : Bool := allIn ids (AV.idss all) && allIn ids (tbIds tb)
def AV.noIds (v : AV) : Bool := match v.ids with
  | [] => true
  | _ => false

def callOut1 (ids : List Nat) (base : Nat) (f : FuncId) (all : List AV) (lent : List Org) : Option Out :=
  bif lends ids lent || anyLocked V lent then none else match entsOf V ids with
    | some tb => bif closed ids all tb && below base ids && disj ids V.lk then match call f all tb [] base with
        | some (v, tb') => bif sameEnts tb tb' then some { v := v, frz := lent, kids := ids, ents := tb' } else none
        | none => none
      else none
    | none => none
def callOut2 (ids : List Nat) (base : Nat) (f : FuncId) (all : List AV) (lent : List Org) : Option Out :=
  bif lends ids lent then none else match entsOf V ids with
    | some tb => bif closed ids all tb && below base ids then match call f all tb ids base with
        | some (v, _) => bif v.flat then some { v := v } else bif anyLocked V lent || !v.noIds then none else some { v := v, frz := lent }
        | none => none
      else none
    | none => none
def callOut0 (f : FuncId) (all : List AV) (lent : List Org) : Option Out :=
  match AV.toDVs all with
  | some ds => match call f (ds.map .dv) [] [] 0 with
    | some (v, _) => bif v.flat then some { v := v } else bif anyLocked V lent || !v.noIds then none else some { v := v, frz := lent }
    | none => none
  | none => match freezes V.get 0 200 all with
    | some ds => match call f (ds.map .dv) [] [] 0 with
      | some (v, _) => bif v.flat then some { v := v } else none
      | none => none
    | none => none

/-- 'ids': all boxes that are come to from what is handed. -/
def callOut (ids : List Nat) (base : Nat) (f : FuncId) (xs : List Operand) (caps : List AV) : Option Out :=
  match argsOf V xs with
  | some (as, lent) =>
    let all := as ++ caps
    bif Nat.beq f G.asFn then
      match as, caps with
      | [.dv .nili, _], [] => some { v := .dv (.bool false) }
      | [.dv (.ifc T (.ptr cs off)), .ifc T' (.ptr id 0)], [] =>
        bif Nat.beq T G.faultT && Nat.beq T' G.asT && !has id V.lk then
          match V.get id with
          | some (.box [.dv _]) => some { v := .dv (.bool true), kill := [.cell id 0], puts := [(.cell id 0, .dv (.ptr cs off))] }
          | _ => none
        else none
      | _, _ => none
    else bif Nat.beq f G.ixFn then
      match as, caps with
      | [.dv (.str s), .dv (.str sub)], [] => bif Nat.blt s.data.toList.length 4294967281 then some { v := .dv (.int .i64 (Lib.index s.data.toList sub.data.toList)) } else none
      | _, _ => none
    else match G.mode f with
    | 1 => callOut1 call V ids base f all lent
    | 2 => callOut2 call V ids base f all lent
    | _ => callOut0 call V f all lent
  | none => none

def appendOut (types : List TypeId) (s x : Operand) : Option Out :=
  match types with
  | [t, t'] => match ask (Nat.beq t t') (G.elem t) with
    | some e => match G.size e, G.bytes e, look V x with
      | some size, some bytes, some (.lst ys) =>
        bif Nat.blt 0 size && Nat.blt 0 bytes && headSize size ys && atomsE ys then
          match opnd V s with
          | some (.nils _) => match ys with
            | [] => some { v := .nils e }
            | _ => bif Nat.ble (ys.length * bytes) 140737488355328 then some { v := .own e ys } else none
          | some (.own e' xs) => match s with
            | .tmp t => bif Nat.ble ((xs.length + ys.length) * bytes) 140737488355328 && Nat.beq e' e then some { v := .own e (xs ++ ys), take := [.slot t] } else none
            | _ => none
          | some (.vw o k) => match ys with
            | [] => some { v := .vw o k }
            | _ => match V.at_ o with
              | .own e' zs => bif Nat.ble ((k + ys.length) * bytes) 140737488355328 && Nat.beq e' e && !V.locked o then
                  some { v := .own e (zs.take k ++ ys), take := [o] } else none
              | _ => none
          | _ => none
        else none
      | _, _, _ => none
    | none => none
  | _ => none

def lenOut (T : TypeId) (x : Operand) : Option Out :=
  match G.und T, look V x with
  | some .string, some (.str b) => some { v := .dv (.int .i64 b.data.toList.length) }
  | some (.slice _), some (.lst xs) => some { v := .dv (.int .i64 xs.length) }
  | _, _ => none

def minMax (mx : Bool) : IntKind → Int → List Operand → Option DV
  | k, n, [] => some (.int k n)
  | k, n, x :: r => match opnd V x with
    | some (.dv (.int _ m)) => minMax mx k (bif mx then (bif intLe m n then n else m) else (bif intLe n m then n else m)) r
    | _ => none

def resolveF (f : Operand) : Option (FuncId × List AV) :=
  match opnd V f with
  | some (.dv (.fn h caps)) => some (h, caps.map .dv)
  | some (.fn h caps) => some (h, caps)
  | _ => none

def lookupOut (keep : Bool) (T : TypeId) (x k : Operand) (ok : Bool) : Option Out :=
  match G.mapElem T, scalar V k with
  | some e, some (.str key) => match G.zeroDV e with
    | some z =>
      let wrap (v : AV) (b : Bool) : AV := bif ok then .tup [v, .dv (.bool b)] else v
      let miss : AV := match z with
        | .lst _ => bif ok then .dv z else .nils (G.elem0 e)
        | _ => .dv z
      match opnd V x with
      | some (.dv .nilm) => some { v := wrap miss false }
      | some (.dv (.map kv)) => match lookupKey key 0 kv with
        | some (_, v) => some { v := wrap (.dv v) true }
        | none => some { v := wrap miss false }
      | some (.map id) => match V.get id with
        | some (.map kv) => match lookupKey key 0 kv with
          | some (i, .own _ xs) => bif ok then none else peek V keep (.cell id i) xs
          | some (_, .dv v) => some { v := wrap (.dv v) true }
          | some (_, .nils e) => bif ok then none else some { v := .nils e }
          | some _ => none
          | none => some { v := wrap miss false }
        | _ => none
      | _ => none
    | none => none
  | _, _ => none

def mapPut (id : Nat) (key : ByteArray) (kv : List (ByteArray × AV)) (x : Operand) : Option Out :=
  match lookupKey key 0 kv with
  | some (i, _) => match putIn V (.cell id i) x with
    | some (v, f, t) => match v with
      | .dv _ | .own .. | .nils _ => some { v := .undf, frz := f, take := t, kill := [.cell id i], puts := [(.cell id i, v)] }
      | _ => none
    | none => none
  | none => match putIn V (.cell id kv.length) x with
    | some (v, f, t) => match v with
      | .dv _ | .own .. | .nils _ => some { v := .undf, frz := f, take := t, grow := [(id, key, v)] }
      | _ => none
    | none => none
def mapUpdateOut (T : TypeId) (m k x : Operand) : Option Out :=
  match G.mapElem T, scalar V k, opnd V m with
  | some _, some (.str key), some (.map id) => bif has id V.lk then none else match V.get id with
    | some (.map kv) => mapPut V id key kv x
    | _ => none
  | _, _, _ => none

def assertOut (x : Operand) (T : TypeId) (ok : Bool) : Option Out :=
  match G.und T, scalar V x, G.zeroDV T with
  | some (.interface _), _, _ => none
  | some _, some .nili, some z => bif ok then some { v := .tup [.dv z, .dv (.bool false)] } else none
  | some _, some (.ifc t v), some z => bif Nat.beq t T then some { v := bif ok then .tup [.dv v, .dv (.bool true)] else .dv v }
    else bif ok then some { v := .tup [.dv z, .dv (.bool false)] } else none
  | _, _, _ => none

def moveOut (keep : Bool) (x : Operand) : Option Out :=
  match opnd V x with
  | some (.own _ xs) => match x with
    | .tmp t => peek V keep (.slot t) xs
    | _ => none
  | some (.vw o k) => bif keep then match deepAt V o k with
      | some (d, f) => some { v := .dv d, frz := f }
      | none => none
    else some { v := .vw o k }
  | some (.vp o j off) => bif keep then none else some { v := .vp o j off }
  | some .undf => none
  | some v => some { v := v }
  | none => none

def typeIf (x : Operand) (T : TypeId) (r : Option Out) : Option Out := match r with
  | some out => some (bif isConst x then { out with v := out.v.typed (G.elem0 T) } else out)
  | none => none

def assignOut (o : Oper) (x : Operand) : Option Out :=
  match o.dst with
  | some d => match putIn V (.slot d) x with
    | some (v, f, t) => some { v := bif isConst x then v.typed (G.elem0 o.type) else v, frz := f, take := t }
    | none => none
  | none => none
def pickOut (c a b : Operand) : Option Out :=
  match scalar V c with
  | some (.bool t) => match scalar V (bif t then a else b) with
    | some v => some { v := .dv v }
    | none => none
  | _ => none
def allocOut (base : Nat) (dst : Option Nat) (T : TypeId) : Option Out :=
  match G.zero T with
  | some z => newBox V base dst (.box z) fun id => .ptr id 0
  | none => none
def boxOut (base : Nat) (dst : Option Nat) (T : TypeId) (x : Operand) : Option Out :=
  match G.size T, fresh V x with
  | some n, some (vs, f, t) => bif Nat.beq vs.length n then match newBox V base dst (.box vs) fun id => .ptr id 0 with
      | some out => some { out with frz := f, take := t }
      | none => none
    else none
  | _, _ => none
def nilCheckOut (x : Operand) : Option Out :=
  match opnd V x with
  | some (.dv (.fn h cs)) => some { v := .dv (.fn h cs) }
  | some (.fn h cs) => some { v := .fn h cs }
  | _ => match dest V x with
    | some d => some { v := d.av }
    | none => none
/-- A value as a whole; lists of one's own are nobody's own any more. -/
def wholeOf (x : Operand) : Option (AV × List Org) :=
  match opnd V x with
  | some (.own _ _) | some (.vw _ _) => match deep V x with
    | some (d, f) => some (.dv d, f)
    | none => none
  | some v => ask v.solid (some (v, []))
  | none => none
def makeIfaceOut (T : TypeId) (x : Operand) : Option Out :=
  match G.und T, wholeOf V x with
  | some (.interface _), _ => none
  | some _, some (v, f) => some { v := (AV.ifc T v).tidy, frz := f }
  | _, _ => none
def makeFuncOut (h : FuncId) (first caps : List Operand) : Option Out :=
  match first, argsOf V caps with
  | [], some (vs, lent) => bif anyLocked V lent then none else some { v := (AV.fn h vs).tidy, frz := lent }
  | _, _ => none
def makeSliceOut (T : TypeId) (l c : Operand) : Option Out :=
  match idxOf V l, idxOf V c, G.elem T with
  | some n, some m, some e => match G.zeroDV e, G.size e, G.bytes e with
    | some z, some k, some bytes => bif Nat.beq n m && Nat.ble (n * bytes) 140737488355328 && Nat.ble n 9223372036854775807 && Nat.beq z.cells.length k && Nat.blt 0 k then
        some { v := .own e (List.replicate n z) } else none
    | _, _, _ => none
  | _, _, _ => none
def fieldAddrOut (T : TypeId) (x : Operand) (f : Nat) : Option Out :=
  match G.und T, dest V x with
  | some (.struct fields), some d => match fields.toList[f]? with
    | some fd => match G.size fd.type with
      | some n => bif Nat.blt 0 n then some { v := (d.add fd.offset).av } else none
      | none => none
    | none => none
  | _, _ => none
def fieldOut (T : TypeId) (x : Operand) (f : Nat) : Option Out :=
  match G.und T with
  | some (.struct fields) => match fields.toList[f]? with
    | some fd => match G.size fd.type, G.agg fd.type, opnd V x with
      | some n, some agg, some (.dv (.agg cs)) => match cut cs fd.offset n with
        | some l => match DV.join agg l with
          | some v => some { v := .dv v }
          | none => none
        | none => none
      | some n, some agg, some (.agg cs) => match cut cs fd.offset n with
        | some l => match AV.join agg l with
          | some v => some { v := v.tidy }
          | none => none
        | none => none
      | _, _, _ => none
    | none => none
  | _ => none
def extractOut (t : Operand) (j : Nat) : Option Out :=
  match opnd V t with
  | some (.tup vs) => match vs[j]? with
    | some v => some { v := v }
    | none => none
  | _ => none
def minMaxOut (mx : Bool) : List Operand → Option Out
  | x :: r => match opnd V x with
    | some (.dv (.int k n)) => match minMax V mx k n r with
      | some v => some { v := .dv v }
      | none => none
    | _ => none
  | [] => none
def lenOf (c : Call) : Option Out :=
  match c.args.toList, c.argTypes.toList with
  | [x], [T] => lenOut G V T x
  | _, _ => none
def appendOf (c : Call) : Option Out :=
  match c.args.toList with
  | [s, x] => appendOut G V c.argTypes.toList s x
  | _ => none
def valueOf (ids : List Nat) (base : Nat) (c : Call) (f : Operand) : Option Out :=
  match resolveF V f with
  | some (h, caps) => callOut G call V ids base h c.args.toList caps
  | none => none
def builtinOf (c : Call) : Builtin → Option Out
  | .len => lenOf G V c
  | .append => appendOf G V c
  | .min => minMaxOut V false c.args.toList
  | .max => minMaxOut V true c.args.toList
  | _ => none
def callOf (ids : List Nat) (base : Nat) (c : Call) : Option Out :=
  match c.callee with
  | .builtin b => builtinOf G V c b
  | .value f => valueOf G call V ids base c f
  | _ => none

/-- One operation. -/
def opOut (ids : List Nat) (base nt : Nat) (kept : List Nat) (o : Oper) : Option Out :=
  match o.op with
  | .assign x => assignOut G V o x
  | .move x => typeIf G x o.type (moveOut V (isKept kept o.dst) x)
  | .pick c a b => pickOut V c a b
  | .alloc T => allocOut G V base o.dst T
  | .box T x => boxOut G V base o.dst T x
  | .build T ps => buildOut G V T ps.toList
  | .buildSlice T n ps => buildSliceOut G V T n ps.toList
  | .load T x => loadOut G V (isKept kept o.dst) T x
  | .store T a x => storeOut G V T a x
  | .nilCheck x => nilCheckOut V x
  | .binOp op T x y _ => binOut G V op T x y
  | .unOp op _ x => unOut V op x
  | .convert s d x => convertOut G V s d x
  | .makeInterface T x => makeIfaceOut G V T x
  | .makeFunc (.func h) first caps => makeFuncOut V h first.toList caps.toList
  | .makeMap _ none => newBox V base o.dst (.map []) fun id => .map id
  | .makeSlice T l c => makeSliceOut G V T l c
  | .slice T x lo hi none => sliceOut G V T x lo hi
  | .fieldAddr T x f => fieldAddrOut G V T x f
  | .field T x f => fieldOut G V T x f
  | .indexAddr T x i => indexAddrOut G V T x i
  | .index T x i => indexOut G V T x i
  | .lookup T x k ok => lookupOut G V (isKept kept o.dst) T x k ok
  | .mapUpdate T m k x => mapUpdateOut G V T m k x
  | .insert T m k x => mapUpdateOut G V T m k x
  | .typeAssert x _ T ok => assertOut G V x T ok
  | .extract t j => extractOut V t j
  | .call c => callOf G call V ids (base + nt) c
  | _ => none

end

/-! ## Regions -/

def tmpsOf : List Operand → List Nat
  | [] => []
  | .tmp t :: r => t :: tmpsOf r
  | _ :: r => tmpsOf r

def isCall : Op → Bool
  | .call { callee := .value _, .. } => true
  | _ => false

def slotIds (st : St) : List Nat → List Nat
  | [] => []
  | t :: r => (st.slot t).ids ++ slotIds st r
def slotVids (st : St) : List Nat → List Nat
  | [] => []
  | t :: r => (st.slot t).vids ++ slotVids st r
/-- Operations that go through the addresses that they are handed. -/
def derefs : Op → Bool
  | .load .. | .store .. | .lookup .. | .mapUpdate .. | .insert .. | .call { callee := .value _, .. } => true
  | _ => false
def slotViews (st : St) : List Nat → List Nat
  | [] => []
  | t :: r => (st.slot t).vslots ++ slotViews st r

section
variable (G : Ctx) (call : CallF) (base nt : Nat) (kept : List Nat) (ops : List Oper)

def guardSlot (o : Oper) : List Nat :=
  match o.guard with
  | none => []
  | some (j, _) => match ops[j]? with
    | some g => g.dst.toList
    | none => []

/-- Is a guarded operation carried out? -/
def wantedA (V : Vw) (o : Oper) : Option Bool :=
  match o.guard with
  | none => some true
  | some (j, want) => match ops[j]? with
    | some g => match g.dst with
      | some d => match V.sl d with
        | .dv (.bool b) => some (b == want)
        | .undf => some false
        | _ => none
      | none => none
    | none => none

/-- All boxes that an operation comes to. -/
def idsFor (st : St) (o : Oper) : List Nat :=
  bif isCall o.op then reach st.tb (slotIds st (tmpsOf o.op.operands.toList)) else []

def okDst (dst : Option Nat) : Bool := match dst with
  | some d => Nat.blt d nt
  | none => true

def stepOut (V : Vw) (ids : List Nat) (o : Oper) : Option Out :=
  ask (okDst nt o.dst) <| match wantedA ops V o with
  | some true => match opOut G call V ids base nt kept o with
    | some out => match o.dst with
      | some d => ask (!out.v.views (.slot d)) (some out)
      | none => some out
    | none => none
  | some false => some { v := .undf }
  | none => none

def runOps : List Oper → St → Option St
  | [], st => some st
  | o :: rest, st => match stepOut G call base nt kept ops st.all (idsFor st o) o with
    | some out => runOps rest (st.put o.dst out)
    | none => none

/-- What an operation may look at: slots, boxes. -/
def looksSl (st : St) (o : Oper) : List Nat :=
  let ts := guardSlot ops o ++ tmpsOf o.op.operands.toList
  slotViews st ts ++ ts
def looksId (st : St) (o : Oper) : List Nat :=
  (match o.dst with | some d => [base + d] | none => []) ++ (idsFor st o ++ bif derefs o.op then slotIds st (tmpsOf o.op.operands.toList) else slotVids st (tmpsOf o.op.operands.toList))

def mask (st : St) (ss is : List Nat) : Vw :=
  { sl := fun t => bif has t ss then st.slot t else .junk, get := fun i => bif has i is then st.ent i else none, lk := st.lk }

/-- What an operation of a region that draws its order did: slots, boxes written; looked at; whose views are no more. -/
structure Foot where
  ws : List Nat
  wi : List Nat
  rs : List Nat
  ri : List Nat
  kl : List Org
  kids : List Nat

def orgSlots : List Org → List Nat
  | [] => []
  | o :: r => o.slots ++ orgSlots r
def orgIds : List Org → List Nat
  | [] => []
  | o :: r => o.ids ++ orgIds r
def anyViews (l : List Org) (ids : List Nat) (v : AV) : Bool := match l with
  | [] => v.viewsIn ids
  | o :: r => bif v.views o then true else anyViews r ids v
def viewers (l : List Org) (ids : List Nat) : List (Nat × AV) → List Nat
  | [] => []
  | (t, v) :: r => bif anyViews l ids v then t :: viewers l ids r else viewers l ids r
def placesOf : List (Org × AV) → List Org
  | [] => []
  | (o, _) :: r => o :: placesOf r
def dstKill (st : St) (pl : List Org) : Option Nat → List Org
  | some d => bif (st.slot d).shown then [.slot d] else bif has d (orgSlots pl) then [.slot d] else []
  | none => []
def noKills : List Org → List Nat → Bool
  | [], [] => true
  | _, _ => false
def numsOf : List (Nat × Ent) → List Nat
  | [] => []
  | (i, _) :: r => i :: numsOf r
def growIds : List (Nat × ByteArray × AV) → List Nat
  | [] => []
  | (i, _) :: r => i :: growIds r

def footOf (st : St) (o : Oper) (out : Out) : Foot :=
  let pl := out.frz ++ (out.take ++ (out.kill ++ placesOf out.puts))
  let kl := out.take ++ (out.kill ++ dstKill st (placesOf out.puts) o.dst)
  { ws := o.dst.toList ++ (orgSlots pl ++ bif noKills kl out.kids then [] else viewers kl out.kids st.sl),
    wi := orgIds pl ++ (out.kids ++ (numsOf out.ents ++ growIds out.grow)), rs := looksSl ops st o, ri := looksId base st o, kl := kl, kids := out.kids }

def Foot.apart (a b : Foot) : Bool :=
  disj a.ws b.ws && (disj a.ws b.rs && (disj a.rs b.ws && (disj a.wi b.wi && (disj a.wi b.ri && disj a.ri b.wi))))

def slotsAt (st : St) : List Nat → List (Nat × AV)
  | [] => []
  | t :: r => (t, st.slot t) :: slotsAt st r

/-- The state behind the operations; what each did; all that was written. -/
def runFeet : List Oper → St → Option (St × List Foot × List (List (Nat × AV)))
  | [], st => some (st, [], [])
  | o :: rest, st => match stepOut G call base nt kept ops (mask st (looksSl ops st o) (looksId base st o)) (idsFor st o) o with
    | some out => match runFeet rest (st.put o.dst out) with
      | some (st', fs, W) => some (st', footOf base ops st o out :: fs, slotsAt (st.put o.dst out) (footOf base ops st o out).ws :: W)
      | none => none
    | none => none

/-- Whom an operation waits for, through others too; they all stand ahead of it. -/
def bitsOf (acc : List Nat) : List Edge → Option Nat
  | [] => some 0
  | e :: r => match bitsOf acc r with
    | some s => match Region.binds .any e with
      | true => match acc[e.on]? with
        | some b => some (s ||| (2 ^ e.on ||| b))
        | none => none
      | false => some s
    | none => none
def befores : List Nat → List Oper → Option (List Nat)
  | acc, [] => some acc
  | acc, o :: r => match bitsOf acc o.after.toList with
    | some b => befores (acc ++ [b]) r
    | none => none

/-- Operations that don't wait for each other are apart. -/
def apartFrom (b : Nat) (f : Foot) : Nat → List Foot → Bool
  | _, [] => true
  | i, g :: r => bif b.testBit i then apartFrom b f (i + 1) r else bif Foot.apart g f then apartFrom b f (i + 1) r else false
def orderedFrom : List Foot → List Nat → List Foot → Bool
  | _, _, [] => true
  | seen, b :: bs, f :: r => bif apartFrom b f 0 seen then orderedFrom (seen ++ [f]) bs r else false
  | _, [], _ :: _ => false

/-- Views that an operation ends are among what it writes, whenever it comes; 'cov': slots that are written anew ahead of it for sure. -/
def endsIn (f : Foot) (cov : List Nat) : List (Nat × AV) → Bool
  | [] => true
  | (t, v) :: r => bif anyViews f.kl f.kids v then (bif has t f.ws then endsIn f cov r else bif has t cov then endsIn f cov r else false) else endsIn f cov r
def endsAll (b : Nat) (f : Foot) : Nat → List Foot → List (List (Nat × AV)) → Option (List Nat)
  | _, [], _ => some []
  | m, g :: gs, W :: Ws => match endsAll b f (m + 1) gs Ws with
    | some cov => bif endsIn f cov W then some (bif b.testBit m then g.ws ++ cov else cov) else none
    | none => none
  | _, _ :: _, [] => none
def viewsOK (sl : List (Nat × AV)) (fs : List Foot) (Ws : List (List (Nat × AV))) : List Nat → List Foot → Bool
  | b :: bs, f :: r => bif noKills f.kl f.kids then viewsOK sl fs Ws bs r else match endsAll b f 0 fs Ws with
    | some cov => bif endsIn f cov sl then viewsOK sl fs Ws bs r else false
    | none => false
  | _, [] => true
  | [], _ :: _ => false

def normKv : List (ByteArray × AV) → List (ByteArray × AV)
  | [] => []
  | (k, v) :: r => (k, v.norm) :: normKv r
def Ent.norm : Ent → Ent
  | .box cs => .box (cs.map AV.norm)
  | .map kv => .map (normKv kv)

def keepSl (st : St) : List Nat → Option (List (Nat × AV))
  | [] => some []
  | t :: r => match st.slot t with
    | .vw .. | .vp .. => none
    | v => match keepSl st r with
      | some l => some ((t, v.norm) :: l)
      | none => none
def slIds : List (Nat × AV) → List Nat
  | [] => []
  | (_, v) :: r => v.ids ++ slIds r
/-- What older boxes lead to. -/
def oldIds (base : Nat) : List (Nat × Ent) → List Nat
  | [] => []
  | (i, e) :: r => bif Nat.blt i base then e.ids ++ oldIds base r else oldIds base r
def keepTb (base : Nat) (ids : List Nat) : List (Nat × Ent) → List (Nat × Ent)
  | [] => []
  | (i, e) :: r => bif Nat.blt i base then (i, e) :: keepTb base ids r else bif has i ids then (i, e.norm) :: keepTb base ids r else keepTb base ids r
def allLive (tb : List (Nat × Ent)) : List Nat → Bool
  | [] => true
  | i :: r => match find i tb with
    | some _ => allLive tb r
    | none => false

/-- What is read behind stays; boxes that nobody leads to are no more. -/
def clear (st : St) : Option St :=
  match keepSl st kept with
  | some sl =>
    match st.tb with
    | [] => bif allLive [] (slIds sl) then some { sl := sl, tb := [], lk := st.lk } else none
    | tb =>
      let tb' := keepTb base (reach tb (slIds sl ++ oldIds base tb)) tb
      bif allLive tb' (slIds sl) && allLive tb' (tbIds tb') then some { sl := sl, tb := tb', lk := st.lk } else none
  | none => none

def region (draw : Bool) (st : St) : Option St :=
  match draw with
  | true => match befores [] ops, runFeet G call base nt kept ops ops st with
    | some bs, some (st', fs, W) => bif orderedFrom [] bs fs && viewsOK st.sl fs W bs fs then clear base kept st' else none
    | _, _ => none
  | false => match runOps G call base nt kept ops ops st with
    | some st' => clear base kept st'
    | none => none

end

inductive EX where
  | norm | exit (id : Nat) | ret
deriving Inhabited

def loopN (body : St → Option (EX × St)) : Nat → St → Option (EX × St)
  | 0, _ => none
  | k + 1, st => match body st with
    | some (.norm, st') => loopN body k st'
    | some (e, st') => some (e, st')
    | none => none

def exec (G : Ctx) (call : CallF) (base nt : Nat) (kept : Nat → List Nat) (k : Nat) : Code → St → Option (EX × St)
  | .skip, st => some (.norm, st)
  | .region id ops draw, st => match region G call base nt (kept id) ops.toList draw st with
    | some st' => some (.norm, st')
    | none => none
  | .seq a b, st => match exec G call base nt kept k a st with
    | some (.norm, st') => exec G call base nt kept k b st'
    | some (e, st') => some (e, st')
    | none => none
  | .cond c a b, st => match opnd st.all c with
    | some (.dv (.bool true)) => exec G call base nt kept k a st
    | some (.dv (.bool false)) => exec G call base nt kept k b st
    | _ => none
  | .block id body, st => match exec G call base nt kept k body st with
    | some (.exit i, st') => some (bif Nat.beq i id then .norm else .exit i, st')
    | r => r
  | .loop body, st => loopN (exec G call base nt kept k body) k st
  | .exit id, st => some (.exit id, st)
  | .ret, st => some (.ret, st)
  | _, _ => none

/-- A result's value; of its own box, where it has one. -/
def resultOf (G : Ctx) (base : Nat) (st : St) : ResultVar → Option AV
  | .tmp t => match st.slot t with
    | .junk => none
    | v => some v
  | .cell a T => match st.slot a, G.size T, G.agg T with
    | .ptr id 0, some n, some agg => bif Nat.ble base id then match st.ent id with
        | some (.box cs) => bif Nat.beq cs.length n then AV.join agg cs else none
        | _ => none
      else none
    | _, _, _ => none
def resultsL (G : Ctx) (base : Nat) (st : St) : List ResultVar → Option (List AV)
  | [] => some []
  | r :: rs => match resultOf G base st r, resultsL G base st rs with
    | some v, some l => some (v :: l)
    | _, _ => none

def resultsOf (G : Ctx) (base : Nat) (st : St) (rs : List ResultVar) : Option AV :=
  match resultsL G base st rs with
  | some [.own e xs] => some (.own e xs)
  | some [v] => match freeze st.ent base 200 v with
    | some d => some (.dv d)
    | none => none
  | some vs => match freezes st.ent base 200 vs with
    | some ds => some (.tup (ds.map .dv))
    | none => none
  | none => none

def argSl : Nat → List AV → List (Nat × AV)
  | _, [] => []
  | i, v :: r => (i, v) :: argSl (i + 1) r
def oldTb (base : Nat) : List (Nat × Ent) → List (Nat × Ent)
  | [] => []
  | (i, e) :: r => bif Nat.blt i base then (i, e) :: oldTb base r else oldTb base r

/-- One call, those in it by 'call'; k: how many rounds of a loop. -/
def callStep (G : Ctx) (k : Nat) (call : CallF) : CallF := fun f args tb lk base => match G.fn f with
    | some fn => match fn.body with
      | some body => bif Nat.ble args.length fn.ntmps then match exec G call base fn.ntmps (G.kept f) k body { sl := argSl 0 args, tb := tb, lk := lk } with
        | some (.exit _, _) => none
        | some (_, st') => match resultsOf G base st' fn.results.toList with
          | some r =>
            let tb' := oldTb base st'.tb
            bif below base (tbIds tb') then some (r, tb') else none
          | none => none
        | none => none
        else none
      | none => none
    | none => none

/-- Calls, looked up first. -/
def orElse (O call : CallF) : CallF := fun f args tb lk base => match O f args tb lk base with
  | some r => some r
  | none => call f args tb lk base

def callN (G : Ctx) (O : CallF) : Nat → CallF
  | 0 => O
  | n + 1 => orElse O (callStep G n (callN G O n))

end Go.Abs
end

section
namespace Go.Abs

/-! ## What stays as it is: frozen memory -/

structure Fz where
  cell : Nat → Nat → Option Value
  map : Nat → Option (Array MapEntry)

structure Fz.le (F F' : Fz) : Prop where
  cell : ∀ b i v, F.cell b i = some v → F'.cell b i = some v
  map : ∀ b es, F.map b = some es → F'.map b = some es
theorem Fz.le.refl (F : Fz) : F.le F := ⟨fun _ _ _ h => h, fun _ _ h => h⟩
theorem Fz.le.trans {F G H : Fz} (h : F.le G) (k : G.le H) : F.le H := ⟨fun b i v x => k.cell b i v (h.cell b i v x), fun b es x => k.map b es (h.map b es x)⟩

structure Fz.free (F : Fz) (b : Nat) : Prop where
  cell : ∀ i, F.cell b i = none
  map : F.map b = none

structure Fz.ok (F : Fz) (w : World) : Prop where
  cell : ∀ b i v, F.cell b i = some v → w.cell? ⟨b, i, none⟩ = some v
  map : ∀ b es, F.map b = some es → ∃ clock, w.heap[b]? = some (.map es clock)

def isMapO : Obj → Bool
  | .map .. => true
  | _ => false
/-- A block's contents, frozen. -/
def Fz.addObj (F : Fz) (b : Nat) (o : Obj) : Fz :=
  { cell := fun b' i => if b' = b then (match o with | .cells c _ _ => c[i]? | _ => none) else F.cell b' i,
    map := fun b' => if b' = b then (match o with | .map es _ => some es | _ => none) else F.map b' }

theorem Fz.le_addObj {F : Fz} {b : Nat} (o : Obj) (h : F.free b) : F.le (F.addObj b o) := by
  constructor
  · intro b' i v hv
    by_cases hb : b' = b
    · subst hb; rw [h.cell i] at hv; cases hv
    · simp [Fz.addObj, hb, hv]
  · intro b' es hv
    by_cases hb : b' = b
    · subst hb; rw [h.map] at hv; cases hv
    · simp [Fz.addObj, hb, hv]
theorem Fz.ok.addObj {F : Fz} {w : World} (h : F.ok w) {b : Nat} {o : Obj} (ho : w.heap[b]? = some o) : (F.addObj b o).ok w := by
  constructor
  · intro b' i v hv
    by_cases hb : b' = b
    · subst hb
      simp only [Fz.addObj, if_true] at hv
      cases o <;> simp at hv
      simp [World.cell?, ho]
      simpa using hv
    · simp only [Fz.addObj, if_neg hb] at hv
      exact h.cell b' i v hv
  · intro b' es hv
    by_cases hb : b' = b
    · subst hb
      simp only [Fz.addObj, if_true] at hv
      cases o <;> simp at hv
      subst hv
      exact ⟨_, ho⟩
    · simp only [Fz.addObj, if_neg hb] at hv
      exact h.map b' es hv
theorem Fz.free.addObj {F : Fz} {b b' : Nat} {o : Obj} (h : F.free b') (hne : b' ≠ b) : (F.addObj b o).free b' :=
  ⟨fun i => by simp [Fz.addObj, hne, h.cell], by simp [Fz.addObj, hne, h.map]⟩

/-! ## Deep data in memory -/

mutual
def Rep (F : Fz) : DV → Value → Prop
  | .bool b, v => v = .bool b
  | .int k n, v => v = .int k n
  | .str s, v => v = .string s
  | .nilp, v => v = .pointer none
  | .ptr cells off, v => ∃ b o, v = .pointer (some ⟨b, o + off, none⟩) ∧ RepRow F cells b o
  | .lst xs, v => ∃ a cap, v = .slice a xs.length cap ∧ xs.length ≤ cap ∧ (xs = [] ∨ ∃ b o k, a = some ⟨b, o, none⟩ ∧ (∀ x ∈ xs, x.cells.length = k) ∧ RepElems F xs b o k)
  | .nilm, v => v = .map none
  | .map kv, v => ∃ r es, v = .map (some r) ∧ F.map r = some es ∧ RepKv F kv es.toList
  | .fn f caps, v => ∃ us, v = .func (.func f) #[] us ∧ RepL F caps us.toList
  | .nilf, v => v = .nilFunc
  | .ifc t d, v => ∃ u, v = .iface t u ∧ Rep F d u
  | .nili, v => v = .nilIface
  | .agg cs, v => ∃ us, v = .agg us ∧ RepL F cs us.toList
def RepRow (F : Fz) : List DV → Nat → Nat → Prop
  | [], _, _ => True
  | d :: r, b, i => (∃ v, F.cell b i = some v ∧ Rep F d v) ∧ RepRow F r b (i + 1)
def RepL (F : Fz) : List DV → List Value → Prop
  | [], l => l = []
  | d :: r, l => ∃ v l', l = v :: l' ∧ Rep F d v ∧ RepL F r l'
def RepElems (F : Fz) : List DV → Nat → Nat → Nat → Prop
  | [], _, _, _ => True
  | .agg cs :: r, b, o, k => RepRow F cs b o ∧ RepElems F r b (o + k) k
  | d :: r, b, o, k => (∃ v, F.cell b o = some v ∧ Rep F d v) ∧ RepElems F r b (o + k) k
def RepKv (F : Fz) : List (ByteArray × DV) → List MapEntry → Prop
  | [], l => l = []
  | (k, d) :: r, l => ∃ e l', l = e :: l' ∧ e.key = .string k ∧ Rep F d e.val ∧ RepKv F r l'
end

mutual
theorem Rep.mono {F F' : Fz} (h : F.le F') : ∀ (d : DV) (v : Value), Rep F d v → Rep F' d v
  | .bool b, v, hr => by simpa only [Rep] using hr
  | .int k n, v, hr => by simpa only [Rep] using hr
  | .str s, v, hr => by simpa only [Rep] using hr
  | .nilp, v, hr => by simpa only [Rep] using hr
  | .nilm, v, hr => by simpa only [Rep] using hr
  | .nilf, v, hr => by simpa only [Rep] using hr
  | .nili, v, hr => by simpa only [Rep] using hr
  | .ptr cells off, v, hr => by
    simp only [Rep] at hr ⊢
    obtain ⟨b, o, hv, hc⟩ := hr
    exact ⟨b, o, hv, RepRow.mono h cells b o hc⟩
  | .lst xs, v, hr => by
    simp only [Rep] at hr ⊢
    obtain ⟨a, cap, hv, hn, hc⟩ := hr
    refine ⟨a, cap, hv, hn, hc.imp id ?_⟩
    rintro ⟨b, o, k, ha, hk, he⟩
    exact ⟨b, o, k, ha, hk, RepElems.mono h xs b o k he⟩
  | .map kv, v, hr => by
    simp only [Rep] at hr ⊢
    obtain ⟨r, es, hv, hm, hc⟩ := hr
    exact ⟨r, es, hv, h.map r es hm, RepKv.mono h kv _ hc⟩
  | .fn f caps, v, hr => by
    simp only [Rep] at hr ⊢
    obtain ⟨us, hv, hc⟩ := hr
    exact ⟨us, hv, RepL.mono h caps _ hc⟩
  | .ifc t d, v, hr => by
    simp only [Rep] at hr ⊢
    obtain ⟨u, hv, hc⟩ := hr
    exact ⟨u, hv, Rep.mono h d u hc⟩
  | .agg cs, v, hr => by
    simp only [Rep] at hr ⊢
    obtain ⟨us, hv, hc⟩ := hr
    exact ⟨us, hv, RepL.mono h cs _ hc⟩
theorem RepRow.mono {F F' : Fz} (h : F.le F') : ∀ (cs : List DV) (b o : Nat), RepRow F cs b o → RepRow F' cs b o
  | [], b, o, _ => by simp only [RepRow]
  | d :: r, b, o, hr => by
    simp only [RepRow] at hr ⊢
    obtain ⟨⟨v, hv, hd⟩, hr⟩ := hr
    exact ⟨⟨v, h.cell b o v hv, Rep.mono h d v hd⟩, RepRow.mono h r b (o + 1) hr⟩
theorem RepL.mono {F F' : Fz} (h : F.le F') : ∀ (cs : List DV) (l : List Value), RepL F cs l → RepL F' cs l
  | [], l, hr => by simpa only [RepL] using hr
  | d :: r, l, hr => by
    simp only [RepL] at hr ⊢
    obtain ⟨v, l', hl, hd, hr⟩ := hr
    exact ⟨v, l', hl, Rep.mono h d v hd, RepL.mono h r l' hr⟩
theorem RepElems.mono {F F' : Fz} (h : F.le F') : ∀ (cs : List DV) (b o k : Nat), RepElems F cs b o k → RepElems F' cs b o k
  | [], b, o, k, _ => by simp only [RepElems]
  | .agg cs :: r, b, o, k, hr => by
    simp only [RepElems] at hr ⊢
    exact ⟨RepRow.mono h cs b o hr.1, RepElems.mono h r b (o + k) k hr.2⟩
  | .bool x :: r, b, o, k, hr => by
    simp only [RepElems] at hr ⊢
    obtain ⟨⟨v, hv, hd⟩, hr⟩ := hr
    exact ⟨⟨v, h.cell b o v hv, Rep.mono h _ v hd⟩, RepElems.mono h r b (o + k) k hr⟩
  | .int x y :: r, b, o, k, hr => by
    simp only [RepElems] at hr ⊢
    obtain ⟨⟨v, hv, hd⟩, hr⟩ := hr
    exact ⟨⟨v, h.cell b o v hv, Rep.mono h _ v hd⟩, RepElems.mono h r b (o + k) k hr⟩
  | .str x :: r, b, o, k, hr => by
    simp only [RepElems] at hr ⊢
    obtain ⟨⟨v, hv, hd⟩, hr⟩ := hr
    exact ⟨⟨v, h.cell b o v hv, Rep.mono h _ v hd⟩, RepElems.mono h r b (o + k) k hr⟩
  | .nilp :: r, b, o, k, hr => by
    simp only [RepElems] at hr ⊢
    obtain ⟨⟨v, hv, hd⟩, hr⟩ := hr
    exact ⟨⟨v, h.cell b o v hv, Rep.mono h _ v hd⟩, RepElems.mono h r b (o + k) k hr⟩
  | .ptr x y :: r, b, o, k, hr => by
    simp only [RepElems] at hr ⊢
    obtain ⟨⟨v, hv, hd⟩, hr⟩ := hr
    exact ⟨⟨v, h.cell b o v hv, Rep.mono h _ v hd⟩, RepElems.mono h r b (o + k) k hr⟩
  | .lst x :: r, b, o, k, hr => by
    simp only [RepElems] at hr ⊢
    obtain ⟨⟨v, hv, hd⟩, hr⟩ := hr
    exact ⟨⟨v, h.cell b o v hv, Rep.mono h _ v hd⟩, RepElems.mono h r b (o + k) k hr⟩
  | .nilm :: r, b, o, k, hr => by
    simp only [RepElems] at hr ⊢
    obtain ⟨⟨v, hv, hd⟩, hr⟩ := hr
    exact ⟨⟨v, h.cell b o v hv, Rep.mono h _ v hd⟩, RepElems.mono h r b (o + k) k hr⟩
  | .map x :: r, b, o, k, hr => by
    simp only [RepElems] at hr ⊢
    obtain ⟨⟨v, hv, hd⟩, hr⟩ := hr
    exact ⟨⟨v, h.cell b o v hv, Rep.mono h _ v hd⟩, RepElems.mono h r b (o + k) k hr⟩
  | .fn x y :: r, b, o, k, hr => by
    simp only [RepElems] at hr ⊢
    obtain ⟨⟨v, hv, hd⟩, hr⟩ := hr
    exact ⟨⟨v, h.cell b o v hv, Rep.mono h _ v hd⟩, RepElems.mono h r b (o + k) k hr⟩
  | .nilf :: r, b, o, k, hr => by
    simp only [RepElems] at hr ⊢
    obtain ⟨⟨v, hv, hd⟩, hr⟩ := hr
    exact ⟨⟨v, h.cell b o v hv, Rep.mono h _ v hd⟩, RepElems.mono h r b (o + k) k hr⟩
  | .ifc x y :: r, b, o, k, hr => by
    simp only [RepElems] at hr ⊢
    obtain ⟨⟨v, hv, hd⟩, hr⟩ := hr
    exact ⟨⟨v, h.cell b o v hv, Rep.mono h _ v hd⟩, RepElems.mono h r b (o + k) k hr⟩
  | .nili :: r, b, o, k, hr => by
    simp only [RepElems] at hr ⊢
    obtain ⟨⟨v, hv, hd⟩, hr⟩ := hr
    exact ⟨⟨v, h.cell b o v hv, Rep.mono h _ v hd⟩, RepElems.mono h r b (o + k) k hr⟩
theorem RepKv.mono {F F' : Fz} (h : F.le F') : ∀ (cs : List (ByteArray × DV)) (l : List MapEntry), RepKv F cs l → RepKv F' cs l
  | [], l, hr => by simpa only [RepKv] using hr
  | (k, d) :: r, l, hr => by
    simp only [RepKv] at hr ⊢
    obtain ⟨e, l', hl, hk, hd, hr⟩ := hr
    exact ⟨e, l', hl, hk, Rep.mono h d _ hd, RepKv.mono h r l' hr⟩
end

/-! Rows and lists, by place. -/

/-- Cells as values, one by one. -/
def Row (F : Fz) (cs : List DV) (at_ : Nat → Option Value) : Prop := ∀ j d, cs[j]? = some d → ∃ v, at_ j = some v ∧ Rep F d v

theorem RepRow_iff {F : Fz} : ∀ (cs : List DV) (b o : Nat), RepRow F cs b o ↔ Row F cs (fun j => F.cell b (o + j))
  | [], b, o => by simp [RepRow, Row]
  | d :: r, b, o => by
    simp only [RepRow, RepRow_iff r, Row]
    constructor
    · rintro ⟨h, hr⟩ j d' hj
      cases j with
      | zero => simp at hj; subst hj; simpa using h
      | succ j => have := hr j d' (by simpa using hj); simpa [Nat.add_assoc, Nat.add_comm 1 j] using this
    · intro h
      refine ⟨by simpa using h 0 d rfl, fun j d' hj => ?_⟩
      have := h (j + 1) d' (by simpa using hj)
      simpa [Nat.add_assoc, Nat.add_comm 1 j] using this

theorem RepL_iff {F : Fz} : ∀ (cs : List DV) (l : List Value), RepL F cs l ↔ l.length = cs.length ∧ Row F cs (fun j => l[j]?)
  | [], l => by simp [RepL, Row]
  | d :: r, l => by
    simp only [RepL, RepL_iff r, Row]
    constructor
    · rintro ⟨v, l', rfl, hd, hl, hr⟩
      refine ⟨by simp [hl], fun j d' hj => ?_⟩
      cases j with
      | zero => simp at hj; subst hj; exact ⟨v, by simp, hd⟩
      | succ j => simpa using hr j d' (by simpa using hj)
    · rintro ⟨hl, h⟩
      cases l with
      | nil => simp at hl
      | cons v l' =>
        obtain ⟨v', hv, hd⟩ := h 0 d rfl
        simp at hv; subst hv
        exact ⟨v, l', rfl, hd, by simpa using hl, fun j d' hj => by simpa using h (j + 1) d' (by simpa using hj)⟩

/-- All cells of a list's elements. -/
def flat (xs : List DV) : List DV := xs.flatMap DV.cells

theorem flat_cons (x : DV) (r : List DV) : flat (x :: r) = x.cells ++ flat r := rfl
theorem flat_append (x y : List DV) : flat (x ++ y) = flat x ++ flat y := by simp [flat]
theorem flat_length {k : Nat} : ∀ {xs : List DV}, (∀ x ∈ xs, x.cells.length = k) → (flat xs).length = xs.length * k
  | [], _ => by simp [flat]
  | x :: r, h => by
    rw [flat_cons, List.length_append, h x (by simp), flat_length fun y hy => h y (by simp [hy])]
    simp [Nat.succ_mul, Nat.add_comm]

theorem Row_append {F : Fz} {a b : List DV} {f : Nat → Option Value} : Row F (a ++ b) f ↔ Row F a f ∧ Row F b (fun j => f (a.length + j)) := by
  constructor
  · intro h
    refine ⟨fun j d hj => h j d ?_, fun j d hj => h (a.length + j) d ?_⟩
    · rw [List.getElem?_append_left (List.getElem?_eq_some_iff.1 hj).1]; exact hj
    · rw [List.getElem?_append_right (by omega)]; simpa using hj
  · rintro ⟨h1, h2⟩ j d hj
    rcases Nat.lt_or_ge j a.length with hlt | hge
    · rw [List.getElem?_append_left hlt] at hj; exact h1 j d hj
    · rw [List.getElem?_append_right hge] at hj
      have := h2 (j - a.length) d hj
      simpa [Nat.add_sub_cancel' hge] using this

theorem RepElems_cons {F : Fz} (x : DV) (r : List DV) (b o k : Nat) : RepElems F (x :: r) b o k ↔ Row F x.cells (fun j => F.cell b (o + j)) ∧ RepElems F r b (o + k) k := by
  cases x <;> simp only [RepElems, DV.cells, RepRow_iff] <;> simp [Row, List.getElem?_singleton]

theorem RepElems_iff {F : Fz} {k : Nat} : ∀ (xs : List DV) (b o : Nat), (∀ x ∈ xs, x.cells.length = k) → (RepElems F xs b o k ↔ Row F (flat xs) (fun j => F.cell b (o + j)))
  | [], b, o, _ => by simp [RepElems, flat, Row]
  | x :: r, b, o, h => by
    rw [RepElems_cons, flat_cons, Row_append, RepElems_iff r b (o + k) (fun y hy => h y (by simp [hy])), h x (by simp)]
    simp [Nat.add_assoc]

theorem Row.mono {F F' : Fz} (h : F.le F') {cs : List DV} {f : Nat → Option Value} (hr : Row F cs f) : Row F' cs f :=
  fun j d hj => let ⟨v, hv, hd⟩ := hr j d hj; ⟨v, hv, hd.mono h⟩

end Go.Abs
end

section
namespace Go.Abs

/-! ## The interpreter's values in memory -/

/-- Ghosts: what is frozen; which block a box is; at which place a list of one's own stands. -/
structure Gh where
  F : Fz
  θ : Nat → Nat
  ow : Nat → Option Org

def isBoxE : Option Ent → Bool
  | some (.box _) => true
  | _ => false
def isMapE : Option Ent → Bool
  | some (.map _) => true
  | _ => false

mutual
def VRel (F : Fz) (θ : Nat → Nat) (T : Nat → Option Ent) : AV → Value → Prop
  | .dv d, v => Rep F d v
  | .ptr id off, v => v = .pointer (some ⟨θ id, off, none⟩) ∧ isBoxE (T id) = true
  | .map id, v => v = .map (some (θ id)) ∧ isMapE (T id) = true
  | .nils _, v => v = .slice none 0 0
  | .agg cs, v => ∃ us, v = .agg us ∧ VRelL F θ T cs us.toList
  | .ifc t a, v => ∃ u, v = .iface t u ∧ VRel F θ T a u
  | .fn f cs, v => ∃ us, v = .func (.func f) #[] us ∧ VRelL F θ T cs us.toList
  | .tup vs, v => ∃ us, v = .tuple us ∧ VRelL F θ T vs us.toList
  | .own _ _, _ => False
  | .vw _ _, _ => False
  | .vp _ _ _, _ => False
  | .undf, v => v = undef
  | .junk, _ => False
def VRelL (F : Fz) (θ : Nat → Nat) (T : Nat → Option Ent) : List AV → List Value → Prop
  | [], l => l = []
  | a :: r, l => ∃ v l', l = v :: l' ∧ VRel F θ T a v ∧ VRelL F θ T r l'
end

/-- All boxes that were are, of their kind; they are where they were. -/
structure Kept (θ : Nat → Nat) (T : Nat → Option Ent) (θ' : Nat → Nat) (T' : Nat → Option Ent) : Prop where
  box : ∀ i, isBoxE (T i) = true → isBoxE (T' i) = true ∧ θ' i = θ i
  map : ∀ i, isMapE (T i) = true → isMapE (T' i) = true ∧ θ' i = θ i
theorem Kept.refl (θ T) : Kept θ T θ T := ⟨fun _ h => ⟨h, rfl⟩, fun _ h => ⟨h, rfl⟩⟩
theorem Kept.trans {θ T θ' T' θ'' T''} (h : Kept θ T θ' T') (k : Kept θ' T' θ'' T'') : Kept θ T θ'' T'' :=
  ⟨fun i hi => let ⟨a, b⟩ := h.box i hi; let ⟨c, d⟩ := k.box i a; ⟨c, d.trans b⟩, fun i hi => let ⟨a, b⟩ := h.map i hi; let ⟨c, d⟩ := k.map i a; ⟨c, d.trans b⟩⟩

mutual
theorem VRel.mono {F F' : Fz} {θ T θ' T'} (h : F.le F') (k : Kept θ T θ' T') : ∀ (a : AV) (v : Value), VRel F θ T a v → VRel F' θ' T' a v
  | .dv d, v, hr => by simp only [VRel] at hr ⊢; exact hr.mono h
  | .ptr id off, v, hr => by simp only [VRel] at hr ⊢; exact ⟨by rw [(k.box id hr.2).2]; exact hr.1, (k.box id hr.2).1⟩
  | .map id, v, hr => by simp only [VRel] at hr ⊢; exact ⟨by rw [(k.map id hr.2).2]; exact hr.1, (k.map id hr.2).1⟩
  | .nils _, v, hr => by simpa only [VRel] using hr
  | .agg cs, v, hr => by
    simp only [VRel] at hr ⊢
    obtain ⟨us, hv, hc⟩ := hr
    exact ⟨us, hv, VRelL.mono h k cs _ hc⟩
  | .ifc t a, v, hr => by
    simp only [VRel] at hr ⊢
    obtain ⟨u, hv, hc⟩ := hr
    exact ⟨u, hv, VRel.mono h k a u hc⟩
  | .fn f cs, v, hr => by
    simp only [VRel] at hr ⊢
    obtain ⟨us, hv, hc⟩ := hr
    exact ⟨us, hv, VRelL.mono h k cs _ hc⟩
  | .tup cs, v, hr => by
    simp only [VRel] at hr ⊢
    obtain ⟨us, hv, hc⟩ := hr
    exact ⟨us, hv, VRelL.mono h k cs _ hc⟩
  | .own _ _, v, hr => by simp only [VRel] at hr
  | .vw _ _, v, hr => by simp only [VRel] at hr
  | .vp _ _ _, v, hr => by simp only [VRel] at hr
  | .undf, v, hr => by simpa only [VRel] using hr
  | .junk, v, hr => by simp only [VRel] at hr
theorem VRelL.mono {F F' : Fz} {θ T θ' T'} (h : F.le F') (k : Kept θ T θ' T') : ∀ (a : List AV) (v : List Value), VRelL F θ T a v → VRelL F' θ' T' a v
  | [], l, hr => by simpa only [VRelL] using hr
  | a :: r, l, hr => by
    simp only [VRelL] at hr ⊢
    obtain ⟨v, l', hl, hd, hr⟩ := hr
    exact ⟨v, l', hl, VRel.mono h k a v hd, VRelL.mono h k r l' hr⟩
end

theorem VRelL_iff {F : Fz} {θ T} : ∀ (cs : List AV) (l : List Value), VRelL F θ T cs l ↔ l.length = cs.length ∧ ∀ (j : Nat) (a : AV), cs[j]? = some a → ∃ v : Value, l[j]? = some v ∧ VRel F θ T a v
  | [], l => by simp [VRelL]
  | d :: r, l => by
    simp only [VRelL, VRelL_iff r]
    constructor
    · rintro ⟨v, l', rfl, hd, hl, hr⟩
      refine ⟨by simp [hl], fun j d' hj => ?_⟩
      cases j with
      | zero => simp at hj; subst hj; exact ⟨v, by simp, hd⟩
      | succ j => simpa using hr j d' (by simpa using hj)
    · rintro ⟨hl, h⟩
      cases l with
      | nil => simp at hl
      | cons v l' =>
        obtain ⟨v', hv, hd⟩ := h 0 d rfl
        simp at hv; subst hv
        exact ⟨v, l', rfl, hd, by simpa using hl, fun j d' hj => by simpa using h (j + 1) d' (by simpa using hj)⟩

/-- What is at a place. -/
def cellVal (w : World) (b c : Nat) : Option Value := match w.heap[b]? with
  | some (.cells cur _ _) => cur[c]?
  | some (.map es _) => (es[c]?).map (·.val)
  | _ => none
def pval (θ : Nat → Nat) (tmps : Array Value) (w : World) : Org → Option Value
  | .slot n => tmps[n]?
  | .cell id c => cellVal w (θ id) c

def lockedP (lk : List Nat) : Org → Bool
  | .slot _ => false
  | .cell id _ => has id lk

section
variable (G : Ctx) (Wr : Nat → Prop)

/-- A list of one's own at a place: its row is nobody else's. -/
def OwnRel (g : Gh) (T : Nat → Option Ent) (lk : List Nat) (w : World) (p : Org) (e : TypeId) (xs : List DV) (u : Value) : Prop :=
  (xs = [] ∧ u = .slice none 0 0) ∨ ∃ b cap cur ty size, G.size e = some size ∧ 0 < size ∧ u = .slice (some ⟨b, 0, none⟩) xs.length cap ∧ xs.length ≤ cap ∧
    w.heap[b]? = some (.cells cur ty (0, 0)) ∧ cur.size = cap * size ∧ (∀ x ∈ xs, x.cells.length = size) ∧ Row g.F (flat xs) (fun j => cur[j]?) ∧
    g.ow b = some p ∧ g.F.free b ∧ (∀ id, T id ≠ none → g.θ id ≠ b) ∧ (lockedP lk p = false → Wr b)

/-- A place's value. -/
def PRel (g : Gh) (T : Nat → Option Ent) (lk : List Nat) (w : World) (p : Org) (A : AV) (u : Value) : Prop :=
  match A with
  | .own e xs => OwnRel G Wr g T lk w p e xs u
  | A => VRel g.F g.θ T A u

structure Base (g : Gh) (T : Nat → Option Ent) (lk : List Nat) (w : World) : Prop where
  ok : g.F.ok w
  box : ∀ id cs, T id = some (.box cs) → ∃ cur ty, w.heap[g.θ id]? = some (.cells cur ty (0, 0)) ∧ cur.size = cs.length
  map : ∀ id kv, T id = some (.map kv) → ∃ es clock, w.heap[g.θ id]? = some (.map es clock) ∧ es.toList.map (·.key) = kv.map (fun x => Value.string x.1)
  inj : ∀ i j, T i ≠ none → T j ≠ none → g.θ i = g.θ j → i = j
  free : ∀ i, T i ≠ none → g.F.free (g.θ i)
  wr : ∀ i, T i ≠ none → has i lk = false → Wr (g.θ i)
  big : ∀ b, w.heap.size ≤ b → Wr b

structure Heap (g : Gh) (T : Nat → Option Ent) (lk : List Nat) (w : World) : Prop extends Base Wr g T lk w where
  cells : ∀ id c A, cellOf (T id) c = A → A ≠ .junk → ∃ u, cellVal w (g.θ id) c = some u ∧ PRel G Wr g T lk w (.cell id c) A u

/-- What a view shows. -/
def ViewRel (g : Gh) (st : St) (tmps : Array Value) (w : World) (A : AV) (v : Value) : Prop :=
  match A with
  | .vw o k => ∃ xs a cap, ((∃ e, st.all.at_ o = .own e xs) ∨ st.all.at_ o = .dv (.lst xs)) ∧ pval g.θ tmps w o = some (.slice a xs.length cap) ∧ v = .slice a k cap ∧ k ≤ xs.length
  | .vp o j off => ∃ xs b o' cap size x, ((∃ e, st.all.at_ o = .own e xs) ∨ st.all.at_ o = .dv (.lst xs)) ∧ pval g.θ tmps w o = some (.slice (some ⟨b, o', none⟩) xs.length cap) ∧
      xs[j]? = some x ∧ (∀ y ∈ xs, y.cells.length = size) ∧ v = .pointer (some ⟨b, o' + j * size + off, none⟩)
  | _ => False

def isView : AV → Bool
  | .vw _ _ | .vp _ _ _ => true
  | _ => false

/-- A slot's value. -/
def SRel (g : Gh) (st : St) (tmps : Array Value) (w : World) (n : Nat) (A : AV) (v : Value) : Prop :=
  if isView A then ViewRel g st tmps w A v else PRel G Wr g st.ent st.lk w (.slot n) A v

structure Inv (g : Gh) (st : St) (tmps : Array Value) (w : World) : Prop where
  heap : Heap G Wr g st.ent st.lk w
  slots : ∀ n A, st.slot n = A → A ≠ .junk → ∃ v, tmps[n]? = some v ∧ SRel G Wr g st tmps w n A v

end
end Go.Abs
end

section
namespace Go.Abs

/-! ## Lists of numbered things -/

theorem beq_dec (a b : Nat) : Nat.beq a b = decide (a = b) := by
  by_cases h : a = b
  · subst h; simp
  · simp only [h, decide_false]
    cases hb : Nat.beq a b with
    | false => rfl
    | true => exact absurd (Nat.eq_of_beq_eq_true hb) h
theorem ble_dec (a b : Nat) : Nat.ble a b = decide (a ≤ b) := by
  by_cases h : a ≤ b
  · simp only [h, decide_true]; exact Nat.ble_eq_true_of_le h
  · simp only [h, decide_false]
    cases hb : Nat.ble a b with
    | false => rfl
    | true => exact absurd (Nat.le_of_ble_eq_true hb) h
theorem blt_dec (a b : Nat) : Nat.blt a b = decide (a < b) := by
  simp only [Nat.blt, ble_dec]; rfl
theorem find_cons {α : Type} (n k : Nat) (v : α) (l : List (Nat × α)) : find n ((k, v) :: l) = if k = n then some v else find n l := by
  simp only [find, beq_dec]
  by_cases h : k = n <;> simp [h]
theorem find_put1 {α : Type} (n k : Nat) (v : α) : ∀ l : List (Nat × α), find n (put1 k v l) = if k = n then some v else find n l
  | [] => by simp [put1, find_cons, find]
  | (j, u) :: r => by
    simp only [put1, beq_dec]
    by_cases h : j = k
    · subst h
      simp only [decide_true, cond_true, find_cons]
      by_cases h1 : j = n <;> simp [h1]
    · simp only [h, decide_false, cond_false, find_cons, find_put1 n k v r]
      by_cases h1 : j = n
      · subst h1; simp [Ne.symm h]
      · simp [h1]
theorem find_killIn (n : Nat) (p : AV → Bool) : ∀ l : List (Nat × AV), find n (killIn p l) = (find n l).map (fun v => if p v then .junk else v)
  | [] => by simp [killIn, find]
  | (j, u) :: r => by
    simp only [killIn]
    cases h : p u <;> simp only [cond_true, cond_false, find_cons, find_killIn n p r] <;> by_cases h1 : j = n <;> simp [h1, h]

theorem Org.eq_iff {a b : Org} : a.eq b = true ↔ a = b := by
  cases a <;> cases b <;> simp [Org.eq]

theorem slot_def (st : St) (n : Nat) : st.slot n = (find n st.sl).getD .junk := by
  unfold St.slot; cases find n st.sl <;> rfl
theorem slot_kill (st : St) (p : AV → Bool) (n : Nat) : St.slot { st with sl := killIn p st.sl } n = if p (st.slot n) then .junk else st.slot n := by
  simp only [slot_def, find_killIn]
  generalize find n st.sl = x
  cases x with
  | none => simp
  | some v => simp
theorem slot_cons (st : St) (d n : Nat) (v : AV) : St.slot { st with sl := (d, v) :: st.sl } n = if d = n then v else st.slot n := by
  simp only [slot_def, find_cons]
  by_cases h : d = n <;> simp [h]

theorem setKv_length (v : AV) : ∀ (c : Nat) (l : List (ByteArray × AV)), (setKv v c l).length = l.length
  | _, [] => by simp [setKv]
  | 0, x :: r => by simp [setKv]
  | n + 1, x :: r => by simp [setKv, setKv_length v n r]
theorem setKv_keys (v : AV) : ∀ (c : Nat) (l : List (ByteArray × AV)), (setKv v c l).map (fun x => Value.string x.1) = l.map (fun x => Value.string x.1)
  | _, [] => by simp [setKv]
  | 0, x :: r => by simp [setKv]
  | n + 1, x :: r => by simp [setKv, setKv_keys v n r]
theorem setKv_get (v : AV) : ∀ (c : Nat) (l : List (ByteArray × AV)) (j : Nat), (setKv v c l)[j]? = if j = c then (l[j]?).map (fun x => (x.1, v)) else l[j]?
  | c, [], j => by simp [setKv]
  | 0, x :: r, j => by cases j <;> simp [setKv]
  | n + 1, x :: r, j => by
    cases j with
    | zero => simp [setKv]
    | succ j => simp [setKv, setKv_get v n r j]

theorem cellOf_setCell (e : Ent) (c c' : Nat) (v : AV) (h : cellOf (some e) c ≠ .junk) : cellOf (some (setCell c v e)) c' = if c' = c then v else cellOf (some e) c' := by
  cases e with
  | box cs =>
    simp only [cellOf, setCell] at h ⊢
    have hlt : c < cs.length := by
      rcases Nat.lt_or_ge c cs.length with h1 | h1
      · exact h1
      · simp [List.getElem?_eq_none h1] at h
    by_cases hc : c' = c
    · subst hc; simp [hlt]
    · simp [hc, List.getElem?_set_ne (Ne.symm hc)]
  | map kv =>
    simp only [cellOf, setCell] at h ⊢
    have hlt : c < kv.length := by
      rcases Nat.lt_or_ge c kv.length with h1 | h1
      · exact h1
      · simp [List.getElem?_eq_none h1] at h
    rw [setKv_get]
    by_cases hc : c' = c
    · subst hc; simp [hlt]
    · simp [hc]

theorem ent_setEnt (st : St) (i j : Nat) (f : Ent → Ent) : (st.setEnt i f).ent j = if i = j then (st.ent i).map f else st.ent j := by
  simp only [St.setEnt, St.ent]
  cases h : find i st.tb with
  | none => by_cases hij : i = j <;> simp [hij]; subst hij; simp [h]
  | some e => simp only [find_put1]; by_cases hij : i = j <;> simp [hij]
theorem slot_setEnt (st : St) (i j : Nat) (f : Ent → Ent) : (st.setEnt i f).slot j = st.slot j := by
  simp only [St.setEnt]; split <;> rfl
theorem lk_setEnt (st : St) (i : Nat) (f : Ent → Ent) : (st.setEnt i f).lk = st.lk := by
  simp only [St.setEnt]; split <;> rfl

theorem at_slot (st : St) (n : Nat) : st.all.at_ (.slot n) = st.slot n := rfl
theorem at_cell (st : St) (id c : Nat) : st.all.at_ (.cell id c) = cellOf (st.ent id) c := rfl

theorem lk_setPlace (st : St) (v : AV) (o : Org) : (st.setPlace v o).lk = st.lk := by
  cases o with
  | slot n => rfl
  | cell id c => exact lk_setEnt _ _ _

theorem at_setPlace (st : St) (v : AV) (o o' : Org) (h : st.all.at_ o ≠ .junk) : (st.setPlace v o).all.at_ o' = if o' = o then v else st.all.at_ o' := by
  cases o with
  | slot n =>
    cases o' with
    | slot m =>
      simp only [St.setPlace, at_slot, slot_cons, Org.slot.injEq]
      by_cases hnm : n = m
      · simp [hnm]
      · simp [hnm, Ne.symm hnm]
    | cell id c => simp [St.setPlace, at_cell, St.ent]
  | cell id c =>
    cases o' with
    | slot m => simp [St.setPlace, at_slot, slot_setEnt]
    | cell id' c' =>
      simp only [St.setPlace, at_cell, ent_setEnt, Org.cell.injEq]
      by_cases hid : id = id'
      · subst hid
        simp only [if_true, true_and]
        rw [at_cell] at h
        cases he : st.ent id with
        | none => rw [he] at h; simp [cellOf] at h
        | some e =>
          rw [he] at h
          simp only [Option.map_some]
          exact cellOf_setCell e c c' v h
      · simp [hid, Ne.symm hid]

theorem isBoxE_setCell (c : Nat) (v : AV) (e : Ent) : isBoxE (some (setCell c v e)) = isBoxE (some e) := by cases e <;> rfl
theorem isMapE_setCell (c : Nat) (v : AV) (e : Ent) : isMapE (some (setCell c v e)) = isMapE (some e) := by cases e <;> rfl

theorem ent_setPlace (st : St) (v : AV) (o : Org) (j : Nat) : (st.setPlace v o).ent j = match o with
    | .slot _ => st.ent j
    | .cell id c => if id = j then (st.ent id).map (setCell c v) else st.ent j := by
  cases o with
  | slot n => rfl
  | cell id c => exact ent_setEnt _ _ _ _

theorem ent_setPlace_none (st : St) (v : AV) (o : Org) (j : Nat) : (st.setPlace v o).ent j ≠ none ↔ st.ent j ≠ none := by
  rw [ent_setPlace]
  cases o with
  | slot n => simp
  | cell id c =>
    simp only
    by_cases hid : id = j
    · subst hid; simp
    · simp [hid]
theorem kept_setPlace (θ : Nat → Nat) (st : St) (v : AV) (o : Org) : Kept θ st.ent θ (st.setPlace v o).ent := by
  constructor <;> intro i hi <;> rw [ent_setPlace] <;> cases o with
  | slot n => exact ⟨hi, by trivial⟩
  | cell id c =>
    simp only
    by_cases hid : id = i
    · subst hid
      cases he : st.ent id with
      | none => rw [he] at hi; cases hi
      | some e =>
        rw [he] at hi
        simp only [if_true, Option.map_some, isBoxE_setCell, isMapE_setCell]
        exact ⟨hi, by trivial⟩
    · simp only [hid, if_false]; exact ⟨hi, by trivial⟩

end Go.Abs
end

section
namespace Go.Abs

section
variable {G : Ctx} {Wr : Nat → Prop}

theorem OwnRel.mono {g g' : Gh} {T T' : Nat → Option Ent} {lk : List Nat} {w w' : World} {p : Org} {e : TypeId} {xs : List DV} {u : Value}
    (h : OwnRel G Wr g T lk w p e xs u) (hF : g.F.le g'.F)
    (hb : ∀ b, g.ow b = some p → g.F.free b → (∀ id, T id ≠ none → g.θ id ≠ b) → b < w.heap.size →
      w'.heap[b]? = w.heap[b]? ∧ g'.ow b = some p ∧ g'.F.free b ∧ (∀ id, T' id ≠ none → g'.θ id ≠ b)) : OwnRel G Wr g' T' lk w' p e xs u := by
  rcases h with h | ⟨b, cap, cur, ty, size, h1, h2, h3, h4, h5, h6, h7, h8, h9, h10, h11, h12⟩
  · exact .inl h
  · have hlt : b < w.heap.size := by
      rcases Nat.lt_or_ge b w.heap.size with h | h
      · exact h
      · rw [Array.getElem?_eq_none h] at h5; cases h5
    obtain ⟨k1, k2, k3, k4⟩ := hb b h9 h10 h11 hlt
    exact .inr ⟨b, cap, cur, ty, size, h1, h2, h3, h4, k1.trans h5, h6, h7, h8.mono hF, k2, k3, k4, h12⟩

theorem PRel.mono {g g' : Gh} {T T' : Nat → Option Ent} {lk : List Nat} {w w' : World} {p : Org} {A : AV} {u : Value}
    (h : PRel G Wr g T lk w p A u) (hF : g.F.le g'.F) (hk : Kept g.θ T g'.θ T')
    (hb : ∀ e xs, A = .own e xs → ∀ b, g.ow b = some p → g.F.free b → (∀ id, T id ≠ none → g.θ id ≠ b) → b < w.heap.size →
      w'.heap[b]? = w.heap[b]? ∧ g'.ow b = some p ∧ g'.F.free b ∧ (∀ id, T' id ≠ none → g'.θ id ≠ b)) : PRel G Wr g' T' lk w' p A u := by
  cases A with
  | own e xs => exact OwnRel.mono h hF (hb e xs rfl)
  | _ => exact VRel.mono hF hk _ _ h

theorem VRel.notView {F θ T A v} (h : VRel F θ T A v) : isView A = false := by
  cases A <;> simp_all [VRel, isView]

theorem PRel.notView {g : Gh} {T : Nat → Option Ent} {lk : List Nat} {w : World} {p : Org} {A : AV} {u : Value} (h : PRel G Wr g T lk w p A u) : isView A = false := by
  cases A with
  | own e xs => rfl
  | _ => exact VRel.notView (F := g.F) (θ := g.θ) (T := T) (v := u) h

theorem Heap.noview {g : Gh} {T : Nat → Option Ent} {lk : List Nat} {w : World} (h : Heap G Wr g T lk w) (id c : Nat) : isView (cellOf (T id) c) = false := by
  by_cases hj : cellOf (T id) c = .junk
  · rw [hj]; rfl
  · obtain ⟨u, _, hu⟩ := h.cells id c _ rfl hj
    exact hu.notView

theorem Inv.place {g : Gh} {st : St} {tmps : Array Value} {w : World} (h : Inv G Wr g st tmps w) (o : Org) (A : AV) (hA : st.all.at_ o = A) (hj : A ≠ .junk) (hv : isView A = false) :
    ∃ u, pval g.θ tmps w o = some u ∧ PRel G Wr g st.ent st.lk w o A u := by
  cases o with
  | slot n =>
    obtain ⟨v, h1, h2⟩ := h.slots n A hA hj
    simp only [SRel, hv] at h2
    exact ⟨v, h1, by simpa using h2⟩
  | cell id c => exact h.heap.cells id c A hA hj

theorem Inv.intro {g : Gh} {st : St} {tmps : Array Value} {w : World} (base : Base Wr g st.ent st.lk w)
    (pl : ∀ o A, st.all.at_ o = A → A ≠ .junk → isView A = false → ∃ u, pval g.θ tmps w o = some u ∧ PRel G Wr g st.ent st.lk w o A u)
    (nv : ∀ id c, isView (cellOf (st.ent id) c) = false)
    (vs : ∀ n A, st.slot n = A → isView A = true → ∃ v, tmps[n]? = some v ∧ ViewRel g st tmps w A v) : Inv G Wr g st tmps w where
  heap := { toBase := base, cells := fun id c A hA hj => pl (.cell id c) A hA hj (hA ▸ nv id c) }
  slots := fun n A hA hj => by
    cases hv : isView A with
    | false => obtain ⟨u, h1, h2⟩ := pl (.slot n) A hA hj hv; exact ⟨u, h1, by simp [SRel, hv, h2]⟩
    | true => obtain ⟨u, h1, h2⟩ := vs n A hA hv; exact ⟨u, h1, by simp [SRel, hv, h2]⟩

theorem Inv.view {g : Gh} {st : St} {tmps : Array Value} {w : World} (h : Inv G Wr g st tmps w) (n : Nat) (A : AV) (hA : st.slot n = A) (hv : isView A = true) :
    ∃ v, tmps[n]? = some v ∧ ViewRel g st tmps w A v := by
  obtain ⟨v, h1, h2⟩ := h.slots n A hA (by rintro rfl; cases hv)
  exact ⟨v, h1, by simpa [SRel, hv] using h2⟩

/-- Ghosts' step: more is frozen, none of it outside of Wr. -/
structure GStep (Wr : Nat → Prop) (g g' : Gh) : Prop where
  le : g.F.le g'.F
  θ : g'.θ = g.θ
  new : ∀ b, ¬ Wr b → g'.F.cell b = g.F.cell b ∧ g'.F.map b = g.F.map b
  ow : ∀ b, ¬ Wr b → g'.ow b = g.ow b
theorem GStep.refl (g : Gh) : GStep Wr g g := ⟨.refl _, rfl, fun _ _ => ⟨rfl, rfl⟩, fun _ _ => rfl⟩
theorem GStep.trans {a b c : Gh} (h : GStep Wr a b) (k : GStep Wr b c) : GStep Wr a c :=
  ⟨h.le.trans k.le, k.θ.trans h.θ, fun x hx => ⟨(k.new x hx).1.trans (h.new x hx).1, (k.new x hx).2.trans (h.new x hx).2⟩, fun x hx => (k.ow x hx).trans (h.ow x hx)⟩

/-- The table behind a place's change: the same boxes. -/
theorem Base.setPlace {g g' : Gh} {st : St} {w : World} (h : Base Wr g st.ent st.lk w) (v : AV) (o : Org) (hok : g'.F.ok w) (hθ : g'.θ = g.θ)
    (hfree : ∀ i, st.ent i ≠ none → g'.F.free (g.θ i)) : Base Wr g' (st.setPlace v o).ent (st.setPlace v o).lk w := by
  have hbox : ∀ id cs', (st.setPlace v o).ent id = some (.box cs') → ∃ cs, st.ent id = some (.box cs) ∧ cs.length = cs'.length := by
    intro id cs' hid
    rw [ent_setPlace] at hid
    cases o with
    | slot n => exact ⟨cs', hid, rfl⟩
    | cell id' c =>
      simp only at hid
      by_cases he : id' = id
      · subst he
        simp only [if_true, Option.map_eq_some_iff] at hid
        obtain ⟨e, h1, h2⟩ := hid
        cases e with
        | box cs => simp only [setCell, Ent.box.injEq] at h2; exact ⟨cs, h1, by rw [← h2]; simp⟩
        | map kv => simp [setCell] at h2
      · simp only [he, if_false] at hid; exact ⟨cs', hid, rfl⟩
  have hmap : ∀ id kv', (st.setPlace v o).ent id = some (.map kv') → ∃ kv, st.ent id = some (.map kv) ∧ kv'.map (fun x => Value.string x.1) = kv.map (fun x => Value.string x.1) := by
    intro id kv' hid
    rw [ent_setPlace] at hid
    cases o with
    | slot n => exact ⟨kv', hid, rfl⟩
    | cell id' c =>
      simp only at hid
      by_cases he : id' = id
      · subst he
        simp only [if_true, Option.map_eq_some_iff] at hid
        obtain ⟨e, h1, h2⟩ := hid
        cases e with
        | box cs => simp [setCell] at h2
        | map kv => simp only [setCell, Ent.map.injEq] at h2; exact ⟨kv, h1, by rw [← h2]; exact setKv_keys _ _ _⟩
      · simp only [he, if_false] at hid; exact ⟨kv', hid, rfl⟩
  refine { ok := hok, box := ?_, map := ?_, inj := ?_, free := ?_, wr := ?_, big := h.big }
  · intro id cs' hid
    obtain ⟨cs, h1, h2⟩ := hbox id cs' hid
    obtain ⟨cur, ty, h3, h4⟩ := h.box id cs h1
    exact ⟨cur, ty, by rw [hθ]; exact h3, h4.trans h2⟩
  · intro id kv' hid
    obtain ⟨kv, h1, h2⟩ := hmap id kv' hid
    obtain ⟨es, clock, h3, h4⟩ := h.map id kv h1
    exact ⟨es, clock, by rw [hθ]; exact h3, h4.trans h2.symm⟩
  · intro i j hi hj hij
    rw [hθ] at hij
    exact h.inj i j ((ent_setPlace_none st v o i).1 hi) ((ent_setPlace_none st v o j).1 hj) hij
  · intro i hi
    rw [hθ]
    exact hfree i ((ent_setPlace_none st v o i).1 hi)
  · intro i hi hl
    rw [lk_setPlace] at hl
    rw [hθ]
    exact h.wr i ((ent_setPlace_none st v o i).1 hi) hl

theorem lockedP_eq (st : St) (o : Org) : st.all.locked o = lockedP st.lk o := by cases o <;> rfl

/-- A place's list is nobody's own any more. -/
theorem Inv.freeze {g : Gh} {st : St} {tmps : Array Value} {w : World} (h : Inv G Wr g st tmps w) {o : Org} {e : TypeId} {xs : List DV}
    (ho : st.all.at_ o = .own e xs) (hl : st.all.locked o = false) :
    ∃ g', GStep Wr g g' ∧ g'.ow = g.ow ∧ Inv G Wr g' (st.setPlace (.dv (.lst xs)) o) tmps w ∧ ∃ u, pval g.θ tmps w o = some u ∧ Rep g'.F (.lst xs) u := by
  obtain ⟨u, hu, hown⟩ := h.place o _ ho (by simp) rfl
  have hjo : st.all.at_ o ≠ .junk := by rw [ho]; simp
  -- what is needed of the new ghost
  suffices H : ∃ g' : Gh, GStep Wr g g' ∧ g'.ow = g.ow ∧ g'.F.ok w ∧ (∀ i, st.ent i ≠ none → g'.F.free (g.θ i)) ∧
      (∀ p b, p ≠ o → g.ow b = some p → g.F.free b → g'.F.free b) ∧ Rep g'.F (.lst xs) u by
    obtain ⟨g', hg, how, hok, hfree, hoth, hrep⟩ := H
    refine ⟨g', hg, how, ?_, u, hu, hrep⟩
    have hk : Kept g.θ st.ent g'.θ (st.setPlace (.dv (.lst xs)) o).ent := by rw [hg.θ]; exact kept_setPlace _ _ _ _
    refine Inv.intro (h.heap.toBase.setPlace _ _ hok hg.θ hfree) ?_ ?_ ?_
    · intro p A hA hj hv
      rw [at_setPlace st _ o p hjo] at hA
      by_cases hp : p = o
      · subst hp
        simp only [if_true] at hA
        subst hA
        exact ⟨u, by rw [hg.θ]; exact hu, by simpa only [PRel, VRel] using hrep⟩
      · simp only [hp, if_false] at hA
        obtain ⟨u', h1, h2⟩ := h.place p A hA hj hv
        refine ⟨u', by rw [hg.θ]; exact h1, ?_⟩
        rw [lk_setPlace]
        refine PRel.mono h2 hg.le hk ?_
        intro e' xs' _ b hb hf hne _
        refine ⟨rfl, by rw [how]; exact hb, hoth p b hp hb hf, ?_⟩
        intro id hid
        rw [hg.θ]
        exact hne id ((ent_setPlace_none st _ o id).1 hid)
    · intro id c
      have := at_setPlace st (.dv (.lst xs)) o (.cell id c) hjo
      rw [at_cell] at this
      rw [this]
      split
      · rfl
      · exact h.heap.noview id c
    · intro n A hA hv
      have h1 := at_setPlace st (.dv (.lst xs)) o (.slot n) hjo
      rw [at_slot, hA] at h1
      have hA' : st.slot n = A := by
        by_cases hn : Org.slot n = o
        · simp only [hn, if_true] at h1; subst h1; cases hv
        · simp only [hn, if_false] at h1; exact h1.symm
      obtain ⟨v, h2, h3⟩ := h.view n A hA' hv
      refine ⟨v, h2, ?_⟩
      have hat : ∀ o' ys, ((∃ e, st.all.at_ o' = .own e ys) ∨ st.all.at_ o' = .dv (.lst ys)) →
          ((∃ e, (st.setPlace (.dv (.lst xs)) o).all.at_ o' = .own e ys) ∨ (st.setPlace (.dv (.lst xs)) o).all.at_ o' = .dv (.lst ys)) := by
        intro o' ys hy
        rw [at_setPlace st _ o o' hjo]
        by_cases ho' : o' = o
        · subst ho'
          rw [ho] at hy
          simp only [if_true]
          rcases hy with ⟨e', hy⟩ | hy
          · simp only [AV.own.injEq] at hy; rw [hy.2]; exact .inr rfl
          · cases hy
        · simp only [ho', if_false]; exact hy
      cases A with
      | vw o' k =>
        simp only [ViewRel] at h3 ⊢
        obtain ⟨ys, a, cap, hy, h4⟩ := h3
        rw [hg.θ]
        exact ⟨ys, a, cap, hat o' ys hy, h4⟩
      | vp o' j off =>
        simp only [ViewRel] at h3 ⊢
        obtain ⟨ys, b, o2, cap, size, x, hy, h4⟩ := h3
        rw [hg.θ]
        exact ⟨ys, b, o2, cap, size, x, hat o' ys hy, h4⟩
      | _ => cases hv
  simp only [PRel] at hown
  rcases hown with ⟨rfl, rfl⟩ | ⟨b, cap, cur, ty, size, h1, h2, rfl, h4, h5, h6, h7, h8, h9, h10, h11, h12⟩
  · refine ⟨g, .refl g, rfl, h.heap.ok, h.heap.free, fun _ _ _ _ hf => hf, ?_⟩
    simp only [Rep]
    exact ⟨none, 0, rfl, Nat.le_refl _, .inl trivial⟩
  · refine ⟨{ g with F := g.F.addObj b (.cells cur ty (0, 0)) }, ⟨show g.F.le (g.F.addObj b (.cells cur ty (0, 0))) from Fz.le_addObj _ h10, rfl, ?_, fun _ _ => rfl⟩, rfl, h.heap.ok.addObj h5, ?_, ?_, ?_⟩
    · intro b' hb'
      have hne : b' ≠ b := by rintro rfl; exact hb' (h12 (by rw [← lockedP_eq]; exact hl))
      exact ⟨by funext i; simp [Fz.addObj, hne], by simp [Fz.addObj, hne]⟩
    · intro i hi
      show (g.F.addObj b (.cells cur ty (0, 0))).free (g.θ i)
      exact (h.heap.free i hi).addObj (h11 i hi)
    · intro p b' hp hb' hf
      show (g.F.addObj b (.cells cur ty (0, 0))).free b'
      refine hf.addObj ?_
      rintro rfl
      rw [h9] at hb'
      exact hp (Option.some.inj hb').symm
    · simp only [Rep]
      refine ⟨_, cap, rfl, h4, .inr ⟨b, 0, size, rfl, h7, ?_⟩⟩
      rw [RepElems_iff xs b 0 h7]
      intro j d hj
      obtain ⟨v, hv, hd⟩ := h8 j d hj
      exact ⟨v, by simp [Fz.addObj, hv], hd.mono (Fz.le_addObj _ h10)⟩

end
end Go.Abs
end

section
namespace Go.Abs

section
variable {G : Ctx} {Wr : Nat → Prop}

/-! ## What views show -/

theorem viewRel_of {g g' : Gh} {st st' : St} {tmps tmps' : Array Value} {w w' : World} {A : AV} {v : Value} (h : ViewRel g st tmps w A v)
    (ho : ∀ o, A.views o = true → (∀ ys, ((∃ e, st.all.at_ o = .own e ys) ∨ st.all.at_ o = .dv (.lst ys)) → ((∃ e, st'.all.at_ o = .own e ys) ∨ st'.all.at_ o = .dv (.lst ys))) ∧
      pval g'.θ tmps' w' o = pval g.θ tmps w o) : ViewRel g' st' tmps' w' A v := by
  cases A with
  | vw o k =>
    simp only [ViewRel] at h ⊢
    obtain ⟨xs, a, cap, h1, h2, h3⟩ := h
    obtain ⟨k1, k2⟩ := ho o (by simp [AV.views, Org.eq_iff])
    exact ⟨xs, a, cap, k1 xs h1, k2 ▸ h2, h3⟩
  | vp o j off =>
    simp only [ViewRel] at h ⊢
    obtain ⟨xs, b, o', cap, size, x, h1, h2, h3⟩ := h
    obtain ⟨k1, k2⟩ := ho o (by simp [AV.views, Org.eq_iff])
    exact ⟨xs, b, o', cap, size, x, k1 xs h1, k2 ▸ h2, h3⟩
  | _ => simp [ViewRel] at h

theorem viewRel_isView {g : Gh} {st : St} {tmps : Array Value} {w : World} {A : AV} {v : Value} (h : ViewRel g st tmps w A v) : isView A = true := by
  cases A <;> simp_all [ViewRel, isView]

theorem viewRel_shown {g : Gh} {st : St} {tmps : Array Value} {w : World} {A : AV} {v : Value} (h : ViewRel g st tmps w A v) {o : Org} (ho : A.views o = true) :
    (st.all.at_ o).shown = true := by
  cases A with
  | vw o' k =>
    simp only [AV.views, Org.eq_iff] at ho
    subst ho
    simp only [ViewRel] at h
    obtain ⟨xs, a, cap, (⟨e, h1⟩ | h1), _⟩ := h <;> simp [h1, AV.shown]
  | vp o' j off =>
    simp only [AV.views, Org.eq_iff] at ho
    subst ho
    simp only [ViewRel] at h
    obtain ⟨xs, a, cap, size, x, y, (⟨e, h1⟩ | h1), _⟩ := h <;> simp [h1, AV.shown]
  | _ => simp [ViewRel] at h

/-! ## Views that go -/

theorem Inv.kill {g : Gh} {st : St} {tmps : Array Value} {w : World} (h : Inv G Wr g st tmps w) (p : AV → Bool) (hp : ∀ A, p A = true → isView A = true) :
    Inv G Wr g { st with sl := killIn p st.sl } tmps w := by
  have hat : ∀ o, isView (st.all.at_ o) = false → (St.all { st with sl := killIn p st.sl }).at_ o = st.all.at_ o := by
    intro o ho
    cases o with
    | slot n =>
      simp only [at_slot, slot_kill] at ho ⊢
      split
      · rename_i hk; rw [hp _ hk] at ho; cases ho
      · rfl
    | cell id c => rfl
  refine Inv.intro h.heap.toBase ?_ h.heap.noview ?_
  · intro o A hA hj hv
    refine h.place o A ?_ hj hv
    cases o with
    | slot n =>
      simp only [at_slot, slot_kill] at hA ⊢
      split at hA
      · exact absurd hA.symm hj
      · exact hA
    | cell id c => exact hA
  · intro n A hA hv
    rw [slot_kill] at hA
    split at hA
    · subst hA; cases hv
    · obtain ⟨v, h1, h2⟩ := h.view n A hA hv
      refine ⟨v, h1, viewRel_of h2 fun o ho => ⟨fun ys hy => ?_, rfl⟩⟩
      rw [hat o (by rcases hy with ⟨e, hy⟩ | hy <;> rw [hy] <;> rfl)]
      exact hy

theorem views_isView {o : Org} {A : AV} (h : A.views o = true) : isView A = true := by
  cases A <;> simp_all [AV.views, isView]
theorem viewsIn_isView {ids : List Nat} {A : AV} (h : A.viewsIn ids = true) : isView A = true := by
  cases A <;> simp_all [AV.viewsIn, isView]

theorem at_kill (st : St) (p : AV → Bool) (hp : ∀ A, p A = true → isView A = true) (o : Org) (ho : isView (st.all.at_ o) = false) : (St.all { st with sl := killIn p st.sl }).at_ o = st.all.at_ o := by
  cases o with
  | slot n =>
    simp only [at_slot, slot_kill] at ho ⊢
    split
    · rename_i hk; rw [hp _ hk] at ho; cases ho
    · rfl
  | cell id c => rfl

/-! ## A slot's new value -/

theorem getElem?_setIfInBounds (tmps : Array Value) (d n : Nat) (v : Value) (hd : d < tmps.size) : (tmps.setIfInBounds d v)[n]? = if d = n then some v else tmps[n]? := by
  by_cases h : d = n
  · subst h; simp [hd]
  · simp [h, Array.getElem?_setIfInBounds_ne h]

theorem slot_setSlot (st : St) (d n : Nat) (A : AV) : (st.setSlot d A).slot n = if d = n then A else if (st.slot d).shown && (st.slot n).views (.slot d) then .junk else st.slot n := by
  unfold St.setSlot
  cases hs : (st.slot d).shown
  · simp only [cond_false, slot_cons, Bool.false_and]; simp
  · simp only [cond_true, Bool.true_and]
    rw [slot_cons { st with sl := killIn (AV.views (.slot d)) st.sl }, slot_kill]
theorem ent_setSlot (st : St) (d : Nat) (A : AV) : (st.setSlot d A).ent = st.ent := by
  unfold St.setSlot; cases (st.slot d).shown <;> rfl
theorem lk_setSlot (st : St) (d : Nat) (A : AV) : (st.setSlot d A).lk = st.lk := by
  unfold St.setSlot; cases (st.slot d).shown <;> rfl

theorem Inv.setSlot {g : Gh} {st : St} {tmps : Array Value} {w : World} (h : Inv G Wr g st tmps w) {d : Nat} (hd : d < tmps.size) {A : AV} {v : Value}
    (hA : if isView A then ViewRel g st tmps w A v ∧ A.views (.slot d) = false else A ≠ .junk → PRel G Wr g st.ent st.lk w (.slot d) A v) :
    Inv G Wr g (st.setSlot d A) (tmps.setIfInBounds d v) w := by
  have hpv : ∀ o, o ≠ .slot d → pval g.θ (tmps.setIfInBounds d v) w o = pval g.θ tmps w o := by
    intro o ho
    cases o with
    | slot n =>
      simp only [pval, getElem?_setIfInBounds _ _ _ _ hd]
      rw [if_neg]; rintro rfl; exact ho rfl
    | cell id c => rfl
  have hat : ∀ o, o ≠ .slot d → isView (st.all.at_ o) = false → (st.setSlot d A).all.at_ o = st.all.at_ o := by
    intro o ho hv
    cases o with
    | slot n =>
      simp only [at_slot, slot_setSlot] at hv ⊢
      rw [if_neg (by rintro rfl; exact ho rfl), if_neg]
      intro hk
      simp only [Bool.and_eq_true] at hk
      rw [views_isView hk.2] at hv; cases hv
    | cell id c => simp only [at_cell, ent_setSlot]
  have hvw : ∀ B u, ViewRel g st tmps w B u → B.views (.slot d) = false → ViewRel g (st.setSlot d A) (tmps.setIfInBounds d v) w B u := by
    intro B u hB hn
    refine viewRel_of hB fun o ho => ?_
    have hod : o ≠ .slot d := by rintro rfl; rw [ho] at hn; cases hn
    refine ⟨fun ys hy => ?_, hpv o hod⟩
    rw [hat o hod (by rcases hy with ⟨e, hy⟩ | hy <;> rw [hy] <;> rfl)]
    exact hy
  refine Inv.intro (by rw [ent_setSlot, lk_setSlot]; exact h.heap.toBase) ?_ (by rw [ent_setSlot]; exact h.heap.noview) ?_
  · intro o B hB hj hv
    rw [ent_setSlot, lk_setSlot]
    by_cases ho : o = .slot d
    · subst ho
      simp only [at_slot, slot_setSlot, if_true] at hB
      subst hB
      simp only [hv, Bool.false_eq_true, if_false] at hA
      exact ⟨v, by simp [pval, getElem?_setIfInBounds _ _ _ _ hd], hA hj⟩
    · rw [hpv o ho]
      refine h.place o B ?_ hj hv
      cases o with
      | slot n =>
        simp only [at_slot, slot_setSlot] at hB ⊢
        rw [if_neg (by rintro rfl; exact ho rfl)] at hB
        split at hB
        · exact absurd hB.symm hj
        · exact hB
      | cell id c => simpa only [at_cell, ent_setSlot] using hB
  · intro n B hB hv
    rw [slot_setSlot] at hB
    by_cases hn : d = n
    · subst hn
      simp only [if_true] at hB
      subst hB
      simp only [hv, if_true] at hA
      exact ⟨v, by simp [getElem?_setIfInBounds _ _ _ _ hd], hvw _ _ hA.1 hA.2⟩
    · simp only [hn, if_false] at hB
      split at hB
      · subst hB; cases hv
      · rename_i hk
        obtain ⟨u, h1, h2⟩ := h.view n B hB hv
        refine ⟨u, by rw [getElem?_setIfInBounds _ _ _ _ hd, if_neg hn]; exact h1, hvw _ _ h2 ?_⟩
        cases hb : B.views (.slot d) with
        | false => rfl
        | true =>
          have := viewRel_shown h2 hb
          rw [at_slot] at this
          rw [this, hB, hb] at hk
          simp at hk

/-! ## What is taken from its place -/

/-- The list that stood at a place, in hand: to be put at p. -/
theorem Inv.take {g : Gh} {st : St} {tmps : Array Value} {w : World} (h : Inv G Wr g st tmps w) {o : Org} {e : TypeId} {xs : List DV}
    (ho : st.all.at_ o = .own e xs) (hl : st.all.locked o = false) (p : Org) :
    ∃ u ow', pval g.θ tmps w o = some u ∧ Inv G Wr { g with ow := ow' } (st.take1 o) tmps w ∧ OwnRel G Wr { g with ow := ow' } st.ent st.lk w p e xs u ∧ ∀ b, ¬ Wr b → ow' b = g.ow b := by
  obtain ⟨u, hu, hown⟩ := h.place o _ ho (by simp) rfl
  have hjo : st.all.at_ o ≠ .junk := by rw [ho]; simp
  simp only [PRel] at hown
  -- the new owner
  suffices H : ∃ ow' : Nat → Option Org, (∀ q b, q ≠ o → g.ow b = some q → ow' b = some q) ∧ OwnRel G Wr { g with ow := ow' } st.ent st.lk w p e xs u ∧ ∀ b, ¬ Wr b → ow' b = g.ow b by
    obtain ⟨ow', how, hown', hwr⟩ := H
    refine ⟨u, ow', hu, ?_, hown', hwr⟩
    let g' : Gh := { g with ow := ow' }
    have h1 := h.kill (AV.views o) (fun A hA => views_isView hA)
    have hatk := at_kill st (AV.views o) (fun A hA => views_isView hA)
    have hjk : (St.all { st with sl := killIn (AV.views o) st.sl }).at_ o ≠ .junk := by rw [hatk o (by rw [ho]; rfl)]; exact hjo
    have hset := at_setPlace { st with sl := killIn (AV.views o) st.sl } .junk o
    show Inv G Wr g' (St.setPlace { st with sl := killIn (AV.views o) st.sl } .junk o) tmps w
    refine Inv.intro (h1.heap.toBase.setPlace (g' := g') .junk o h.heap.ok rfl h.heap.free) ?_ ?_ ?_
    · intro q A hA hj hv
      rw [hset q hjk] at hA
      by_cases hq : q = o
      · simp only [hq, if_true] at hA; exact absurd hA.symm hj
      · simp only [hq, if_false] at hA
        obtain ⟨u', k1, k2⟩ := h1.place q A hA hj hv
        refine ⟨u', k1, ?_⟩
        rw [lk_setPlace]
        refine PRel.mono k2 (.refl _) (kept_setPlace _ _ _ _) ?_
        intro e' xs' _ b hb hf hne _
        exact ⟨rfl, how q b hq hb, hf, fun id hid => hne id ((ent_setPlace_none _ _ o id).1 hid)⟩
    · intro id c
      have := hset (.cell id c) hjk
      rw [at_cell] at this
      rw [this]
      split
      · rfl
      · exact h.heap.noview id c
    · intro n A hA hv
      have k1 := hset (.slot n) hjk
      rw [at_slot, hA] at k1
      have hno : Org.slot n ≠ o := by
        intro hn
        simp only [hn, if_true] at k1; subst k1; cases hv
      simp only [hno, if_false, at_slot] at k1
      obtain ⟨v, k2, k3⟩ := h1.view n A k1.symm hv
      refine ⟨v, k2, viewRel_of k3 fun o' ho' => ⟨fun ys hy => ?_, rfl⟩⟩
      rw [hset o' hjk]
      have hne : o' ≠ o := by
        rintro rfl
        rw [slot_kill] at k1
        split at k1
        · rw [k1] at hv; cases hv
        · rename_i hk; rw [← k1] at hk; exact hk ho'
      simp only [hne, if_false]
      exact hy
  rcases hown with ⟨rfl, rfl⟩ | ⟨b, cap, cur, ty, size, h1, h2, rfl, h4, h5, h6, h7, h8, h9, h10, h11, h12⟩
  · exact ⟨g.ow, fun _ _ _ hq => hq, .inl ⟨rfl, rfl⟩, fun _ _ => rfl⟩
  · refine ⟨fun b' => if b' = b then some p else g.ow b', ?_, .inr ⟨b, cap, cur, ty, size, h1, h2, rfl, h4, h5, h6, h7, h8, by simp, h10, h11, fun _ => h12 (by rw [← lockedP_eq]; exact hl)⟩, ?_⟩
    · intro q b' hq hb'
      have : b' ≠ b := by rintro rfl; rw [h9] at hb'; exact hq (Option.some.inj hb').symm
      simp [this, hb']
    · intro b' hb'
      have : b' ≠ b := by rintro rfl; exact hb' (h12 (by rw [← lockedP_eq]; exact hl))
      simp [this]

end
end Go.Abs
end

section
namespace Go.Abs

section
variable {G : Ctx} {Wr : Nat → Prop}

/-- Some places' lists have been frozen. -/
structure Frz (st st' : St) : Prop where
  lk : st'.lk = st.lk
  at_ : ∀ o, st'.all.at_ o = st.all.at_ o ∨ ∃ e xs, st.all.at_ o = .own e xs ∧ st'.all.at_ o = .dv (.lst xs)
  ent : ∀ j, st'.ent j ≠ none ↔ st.ent j ≠ none
  kept : ∀ θ, Kept θ st.ent θ st'.ent
theorem Frz.refl (st : St) : Frz st st := ⟨rfl, fun _ => .inl rfl, fun _ => Iff.rfl, fun _ => .refl _ _⟩
theorem Frz.trans {a b c : St} (h : Frz a b) (k : Frz b c) : Frz a c where
  lk := k.lk.trans h.lk
  at_ := fun o => by
    rcases h.at_ o with h1 | ⟨e, xs, h1, h2⟩
    · rcases k.at_ o with k1 | ⟨e, xs, k1, k2⟩
      · exact .inl (k1.trans h1)
      · exact .inr ⟨e, xs, h1 ▸ k1, k2⟩
    · rcases k.at_ o with k1 | ⟨e', xs', k1, k2⟩
      · exact .inr ⟨e, xs, h1, k1.trans h2⟩
      · rw [h2] at k1; cases k1
  ent := fun j => (k.ent j).trans (h.ent j)
  kept := fun θ => (h.kept θ).trans (k.kept θ)
theorem Frz.slot {st st' : St} (h : Frz st st') {t : Nat} (hn : ∀ e xs, st.slot t ≠ .own e xs) : st'.slot t = st.slot t := by
  rcases h.at_ (.slot t) with h1 | ⟨e, xs, h1, _⟩
  · exact h1
  · exact absurd h1 (hn e xs)

/-- These places' lists have been frozen. -/
structure Done (f : List Org) (st st' : St) : Prop extends Frz st st' where
  all : ∀ o ∈ f, ∀ e xs, st.all.at_ o = .own e xs → st'.all.at_ o = .dv (.lst xs)

theorem frz_freeze1 (st : St) (o : Org) : Done [o] st (st.freeze1 o) := by
  unfold St.freeze1
  split
  · rename_i e xs ho
    have hjo : st.all.at_ o ≠ .junk := by rw [ho]; simp
    refine { lk := lk_setPlace _ _ _, at_ := fun o' => ?_, ent := fun j => ent_setPlace_none _ _ _ _, kept := fun θ => kept_setPlace _ _ _ _, all := ?_ }
    · rw [at_setPlace _ _ _ _ hjo]
      by_cases h : o' = o
      · subst h; exact .inr ⟨e, xs, ho, by simp⟩
      · exact .inl (by simp [h])
    · intro o' ho' e' xs' h'
      simp only [List.mem_singleton] at ho'
      subst ho'
      rw [ho] at h'
      simp only [AV.own.injEq] at h'
      rw [at_setPlace _ _ _ _ hjo, h'.2]; simp
  · rename_i hno
    exact { Frz.refl st with all := fun o' ho' e' xs' h' => by simp only [List.mem_singleton] at ho'; subst ho'; exact absurd h' (hno e' xs') }

theorem Inv.freeze1 {g : Gh} {st : St} {tmps : Array Value} {w : World} (h : Inv G Wr g st tmps w) (o : Org) (hl : st.all.locked o = false) :
    ∃ g', GStep Wr g g' ∧ g'.ow = g.ow ∧ Inv G Wr g' (st.freeze1 o) tmps w := by
  unfold St.freeze1
  split
  · rename_i e xs ho
    obtain ⟨g', h1, h2, h3, _⟩ := h.freeze ho hl
    exact ⟨g', h1, h2, h3⟩
  · exact ⟨g, .refl g, rfl, h⟩

theorem locked_of_lk {st st' : St} (h : st'.lk = st.lk) (o : Org) : st'.all.locked o = st.all.locked o := by
  cases o <;> simp [Vw.locked, St.all, h]

theorem Inv.freezeAll {tmps : Array Value} {w : World} : ∀ (f : List Org) {g : Gh} {st : St} (_ : Inv G Wr g st tmps w) (_ : ∀ o ∈ f, st.all.locked o = false),
    ∃ g', GStep Wr g g' ∧ g'.ow = g.ow ∧ Inv G Wr g' (f.foldl St.freeze1 st) tmps w ∧ Done f st (f.foldl St.freeze1 st)
  | [], g, st, h, _ => ⟨g, .refl g, rfl, h, { Frz.refl st with all := by simp }⟩
  | o :: f, g, st, h, hl => by
    obtain ⟨g1, h1, h2, h3⟩ := h.freeze1 o (hl o (by simp))
    have hd := frz_freeze1 st o
    obtain ⟨g2, k1, k2, k3, k4⟩ := Inv.freezeAll f h3 (fun o' ho' => by rw [locked_of_lk hd.lk]; exact hl o' (by simp [ho']))
    refine ⟨g2, h1.trans k1, k2.trans h2, k3, { hd.toFrz.trans k4.toFrz with all := ?_ }⟩
    intro o' ho' e xs he
    simp only [List.foldl_cons]
    rcases hd.at_ o' with hs | ⟨e', xs', hs, hs'⟩
    · rcases List.mem_cons.1 ho' with rfl | ho'
      · have := hd.all o' (by simp) e xs he
        rw [he] at hs; rw [hs] at this; cases this
      · exact k4.all o' ho' e xs (hs.trans he)
    · rw [he] at hs
      simp only [AV.own.injEq] at hs
      rw [← hs.2] at hs'
      rcases k4.at_ o' with ks | ⟨e2, xs2, ks, _⟩
      · exact ks.trans hs'
      · rw [hs'] at ks; cases ks

/-! ## Operands -/

/-- A view of the state shows what is there. -/
structure Shows (V : Vw) (st : St) : Prop where
  sl : ∀ t, V.sl t = .junk ∨ V.sl t = st.slot t
  get : ∀ i e, V.get i = some e → st.ent i = some e
  lk : V.lk = st.lk
theorem Shows.all (st : St) : Shows st.all st := ⟨fun _ => .inr rfl, fun _ _ h => h, rfl⟩
theorem Shows.at_ {V : Vw} {st : St} (h : Shows V st) {o : Org} (ho : V.at_ o ≠ .junk) : st.all.at_ o = V.at_ o := by
  cases o with
  | slot n => exact ((h.sl n).resolve_left ho).symm
  | cell id c =>
    show cellOf (st.ent id) c = cellOf (V.get id) c
    cases he : V.get id with
    | none => simp [Vw.at_, he, cellOf] at ho
    | some e => rw [h.get id e he]
theorem Shows.locked {V : Vw} {st : St} (h : Shows V st) (o : Org) : st.all.locked o = V.locked o := by
  cases o <;> simp [Vw.locked, St.all, h.lk]

theorem ofVal_rel {v : Value} {A : AV} (h : ofVal v = some A) (F : Fz) (θ : Nat → Nat) (T : Nat → Option Ent) : VRel F θ T A v ∧ (∀ e xs, A ≠ .own e xs) := by
  unfold ofVal at h
  split at h <;> simp at h <;> subst h <;> simp [VRel, Rep]

/-- An operand's value: either at a slot, or of no place. -/
theorem opnd_cases {V : Vw} {st : St} (hV : Shows V st) {x : Operand} {A : AV} (h : opnd V x = some A) :
    (∃ t, x = .tmp t ∧ st.slot t = A ∧ A ≠ .junk) ∨ ((∀ F θ T (a : Act), VRel F θ T A (a.eval x)) ∧ (∀ e xs, A ≠ .own e xs) ∧ isView A = false) := by
  cases x with
  | tmp t =>
    left
    simp only [opnd] at h
    refine ⟨t, rfl, ?_⟩
    rcases hV.sl t with hj | hj
    · rw [hj] at h; cases h
    · rw [hj] at h
      split at h
      · cases h
      · rename_i hnj
        simp only [Option.some.injEq] at h
        subst h
        exact ⟨rfl, hnj⟩
  | const v =>
    right
    simp only [opnd] at h
    refine ⟨fun F θ T a => (ofVal_rel h F θ T).1, (ofVal_rel h ⟨fun _ _ => none, fun _ => none⟩ id (fun _ => none)).2, ?_⟩
    exact ((ofVal_rel h ⟨fun _ _ => none, fun _ => none⟩ id (fun _ => none)).1).notView
  | func f =>
    right
    simp only [opnd, Option.some.injEq] at h
    subst h
    refine ⟨fun F θ T a => ?_, by simp, rfl⟩
    simp only [VRel, Rep, Act.eval]
    exact ⟨#[], rfl, by simp [RepL]⟩
  | global g => simp [opnd] at h

theorem eval_tmp {a : Act} {t : Nat} {v : Value} (h : a.tmps[t]? = some v) : a.eval (.tmp t) = v := by
  simp [Act.eval, h]

/-- What is neither a list of one's own nor a view. -/
theorem opnd_rel {V : Vw} {g : Gh} {st : St} {a : Act} {w : World} (hV : Shows V st) (h : Inv G Wr g st a.tmps w) {x : Operand} {A : AV} (hx : opnd V x = some A)
    (hno : ∀ e xs, A ≠ .own e xs) (hv : isView A = false) : VRel g.F g.θ st.ent A (a.eval x) := by
  rcases opnd_cases hV hx with ⟨t, rfl, ht, hj⟩ | ⟨h1, _, _⟩
  · obtain ⟨v, h1, h2⟩ := h.slots t A ht hj
    rw [eval_tmp h1]
    simp only [SRel, hv, Bool.false_eq_true, if_false] at h2
    cases A with
    | own e xs => exact absurd rfl (hno e xs)
    | _ => exact h2
  · exact h1 _ _ _ a

theorem opnd_own {V : Vw} {g : Gh} {st : St} {a : Act} {w : World} (hV : Shows V st) (h : Inv G Wr g st a.tmps w) {x : Operand} {e : TypeId} {xs : List DV} (hx : opnd V x = some (.own e xs)) :
    ∃ t, x = .tmp t ∧ st.slot t = .own e xs ∧ a.tmps[t]? = some (a.eval x) ∧ OwnRel G Wr g st.ent st.lk w (.slot t) e xs (a.eval x) := by
  rcases opnd_cases hV hx with ⟨t, rfl, ht, hj⟩ | ⟨_, h1, _⟩
  · obtain ⟨v, h1, h2⟩ := h.slots t _ ht hj
    rw [eval_tmp h1]
    exact ⟨t, rfl, ht, h1, by simpa [SRel, isView, PRel] using h2⟩
  · exact absurd rfl (h1 e xs)

theorem opnd_view {V : Vw} {g : Gh} {st : St} {a : Act} {w : World} (hV : Shows V st) (h : Inv G Wr g st a.tmps w) {x : Operand} {A : AV} (hx : opnd V x = some A) (hv : isView A = true) :
    ∃ t, x = .tmp t ∧ st.slot t = A ∧ a.tmps[t]? = some (a.eval x) ∧ ViewRel g st a.tmps w A (a.eval x) := by
  rcases opnd_cases hV hx with ⟨t, rfl, ht, hj⟩ | ⟨_, _, h1⟩
  · obtain ⟨v, h1, h2⟩ := h.view t _ ht hv
    rw [eval_tmp h1]
    exact ⟨t, rfl, ht, h1, h2⟩
  · rw [hv] at h1; cases h1

/-! ## Deep data out of operands -/

mutual
theorem toDV_rep {F : Fz} {θ T} : ∀ (A : AV) (d : DV) (v : Value), A.toDV = some d → VRel F θ T A v → Rep F d v
  | .dv d', d, v, h, hr => by simp only [AV.toDV, Option.some.injEq] at h; subst h; simpa only [VRel] using hr
  | .nils e, d, v, h, hr => by
    simp only [AV.toDV, Option.some.injEq] at h; subst h
    simp only [VRel] at hr; subst hr
    simp only [Rep]
    exact ⟨none, 0, rfl, Nat.le_refl _, .inl trivial⟩
  | .agg cs, d, v, h, hr => by
    simp only [AV.toDV] at h
    split at h
    · rename_i l hl
      simp only [Option.some.injEq] at h; subst h
      simp only [VRel, Rep] at hr ⊢
      obtain ⟨us, hv, hc⟩ := hr
      exact ⟨us, hv, toDVs_rep cs l _ hl hc⟩
    · cases h
  | .ifc t A, d, v, h, hr => by
    simp only [AV.toDV] at h
    split at h
    · rename_i l hl
      simp only [Option.some.injEq] at h; subst h
      simp only [VRel, Rep] at hr ⊢
      obtain ⟨us, hv, hc⟩ := hr
      exact ⟨us, hv, toDV_rep A l _ hl hc⟩
    · cases h
  | .fn f cs, d, v, h, hr => by
    simp only [AV.toDV] at h
    split at h
    · rename_i l hl
      simp only [Option.some.injEq] at h; subst h
      simp only [VRel, Rep] at hr ⊢
      obtain ⟨us, hv, hc⟩ := hr
      exact ⟨us, hv, toDVs_rep cs l _ hl hc⟩
    · cases h
  | .ptr _ _, d, v, h, hr => by simp [AV.toDV] at h
  | .own _ _, d, v, h, hr => by simp [AV.toDV] at h
  | .vw _ _, d, v, h, hr => by simp [AV.toDV] at h
  | .vp _ _ _, d, v, h, hr => by simp [AV.toDV] at h
  | .map _, d, v, h, hr => by simp [AV.toDV] at h
  | .tup _, d, v, h, hr => by simp [AV.toDV] at h
  | .undf, d, v, h, hr => by simp [AV.toDV] at h
  | .junk, d, v, h, hr => by simp [AV.toDV] at h
theorem toDVs_rep {F : Fz} {θ T} : ∀ (A : List AV) (d : List DV) (v : List Value), AV.toDVs A = some d → VRelL F θ T A v → RepL F d v
  | [], d, v, h, hr => by simp only [AV.toDVs, Option.some.injEq] at h; subst h; simpa only [VRelL, RepL] using hr
  | A :: r, d, v, h, hr => by
    simp only [AV.toDVs] at h
    split at h
    · rename_i d' l h1 h2
      simp only [Option.some.injEq] at h; subst h
      simp only [VRelL, RepL] at hr ⊢
      obtain ⟨u, l', hl, hd, hr⟩ := hr
      exact ⟨u, l', hl, toDV_rep A d' u h1 hd, toDVs_rep r l l' h2 hr⟩
    · cases h
end

/-- A beginning of a list. -/
theorem Rep.take {F : Fz} {xs : List DV} {a : Option Addr} {n cap k : Nat} (h : Rep F (.lst xs) (.slice a n cap)) (hk : k ≤ xs.length) : Rep F (.lst (xs.take k)) (.slice a k cap) := by
  simp only [Rep] at h ⊢
  obtain ⟨a', cap', hv, hn, hc⟩ := h
  simp only [Value.slice.injEq] at hv
  obtain ⟨rfl, rfl, rfl⟩ := hv
  refine ⟨a, cap, by simp [List.length_take, Nat.min_eq_left hk], by simp only [List.length_take]; omega, ?_⟩
  rcases hc with rfl | ⟨b, o, s, ha, hs, he⟩
  · left; simp
  · right
    refine ⟨b, o, s, ha, fun x hx => hs x (List.mem_of_mem_take hx), ?_⟩
    rw [RepElems_iff _ _ _ (fun x hx => hs x (List.mem_of_mem_take hx))]
    rw [RepElems_iff _ _ _ hs] at he
    have hsplit : flat xs = flat (xs.take k) ++ flat (xs.drop k) := by rw [← flat_append, List.take_append_drop]
    rw [hsplit, Row_append] at he
    exact he.1

theorem Rep.lst_len {F : Fz} {xs : List DV} {v : Value} (h : Rep F (.lst xs) v) : ∃ a cap, v = .slice a xs.length cap := by
  simp only [Rep] at h
  obtain ⟨a, cap, hv, _⟩ := h
  exact ⟨a, cap, hv⟩

/-- A view of a frozen list. -/
theorem view_rep {g : Gh} {st : St} {tmps : Array Value} {w : World} (h : Inv G Wr g st tmps w) {o : Org} {k : Nat} {v : Value} {ys : List DV} (hv : ViewRel g st tmps w (.vw o k) v)
    (ho : st.all.at_ o = .dv (.lst ys)) : k ≤ ys.length ∧ Rep g.F (.lst (ys.take k)) v := by
  simp only [ViewRel] at hv
  obtain ⟨xs, a, cap, h1, h2, rfl, h4⟩ := hv
  have hxs : xs = ys := by
    rcases h1 with ⟨e, h1⟩ | h1
    · rw [ho] at h1; cases h1
    · rw [ho] at h1; simpa using h1.symm
  subst hxs
  obtain ⟨u, k1, k2⟩ := h.place o _ ho (by simp) rfl
  rw [h2] at k1
  simp only [Option.some.injEq] at k1
  subst k1
  exact ⟨h4, Rep.take (by simpa only [PRel, VRel] using k2) h4⟩

theorem deepAt_rep {V : Vw} {g' : Gh} {st st' : St} {tmps : Array Value} {w : World} (hV : Shows V st) (h' : Inv G Wr g' st' tmps w) {o : Org} {k : Nat} {d : DV} {f F0 : List Org}
    (hd : deepAt V o k = some (d, f)) (hf : Done F0 st st') (hF : ∀ o ∈ f, o ∈ F0) {t : Nat} {v : Value} (ht : st.slot t = .vw o k) (hv : tmps[t]? = some v) : Rep g'.F d v := by
  have ht' : st'.slot t = .vw o k := by rw [hf.toFrz.slot (by rw [ht]; simp)]; exact ht
  obtain ⟨v', k1, k2⟩ := h'.view t _ ht' rfl
  rw [hv] at k1
  simp only [Option.some.injEq] at k1
  subst k1
  unfold deepAt at hd
  split at hd
  · rename_i e ys ho
    have ho' := hV.at_ (by rw [ho]; simp)
    rw [ho] at ho'
    cases hl : V.locked o with
    | true => simp [ask, hl] at hd
    | false =>
      simp only [ask, hl, Bool.not_false, cond_true, Option.some.injEq, Prod.mk.injEq] at hd
      obtain ⟨rfl, rfl⟩ := hd
      exact (view_rep h' k2 (hf.all o (hF o (by simp)) e ys ho')).2
  · rename_i ys ho
    have ho' := hV.at_ (by rw [ho]; simp)
    rw [ho] at ho'
    simp only [Option.some.injEq, Prod.mk.injEq] at hd
    obtain ⟨rfl, rfl⟩ := hd
    have : st'.all.at_ o = .dv (.lst ys) := by
      rcases hf.at_ o with h1 | ⟨e, xs, h1, _⟩
      · exact h1.trans ho'
      · rw [ho'] at h1; cases h1
    exact (view_rep h' k2 this).2
  · cases hd

theorem VRel.frz {g g' : Gh} {st st' : St} {A : AV} {v : Value} (h : VRel g.F g.θ st.ent A v) (hg : GStep Wr g g') (hf : Frz st st') : VRel g'.F g'.θ st'.ent A v :=
  VRel.mono hg.le (by rw [hg.θ]; exact hf.kept g.θ) _ _ h

theorem deep_rep {V : Vw} {g g' : Gh} {st st' : St} {a : Act} {w : World} (hV : Shows V st) (h : Inv G Wr g st a.tmps w) (h' : Inv G Wr g' st' a.tmps w) (hg : GStep Wr g g') {x : Operand} {d : DV} {f F0 : List Org}
    (hd : deep V x = some (d, f)) (hf : Done F0 st st') (hF : ∀ o ∈ f, o ∈ F0) : Rep g'.F d (a.eval x) := by
  unfold deep at hd
  split at hd
  · rename_i e xs hx
    obtain ⟨t, rfl, ht, h1, _⟩ := opnd_own hV h hx
    simp only [Option.some.injEq, Prod.mk.injEq] at hd
    obtain ⟨rfl, rfl⟩ := hd
    have := hf.all (.slot t) (hF _ (by simp)) e xs ht
    obtain ⟨v, k1, k2⟩ := h'.place (.slot t) _ this (by simp) rfl
    simp only [pval] at k1
    rw [h1] at k1
    simp only [Option.some.injEq] at k1
    rw [k1]
    simpa only [PRel, VRel] using k2
  · rename_i o k hx
    obtain ⟨t, rfl, ht, h1, _⟩ := opnd_view hV h hx rfl
    exact deepAt_rep hV h' hd hf hF ht h1
  · rename_i A hno hnv hx
    split at hd
    · rename_i d' hd'
      simp only [Option.some.injEq, Prod.mk.injEq] at hd
      obtain ⟨rfl, rfl⟩ := hd
      have hv : isView A = false := by cases A <;> simp_all [isView, AV.toDV]
      have := opnd_rel hV h hx (fun e xs he => hno e xs (he ▸ rfl)) hv
      exact toDV_rep A d' _ hd' (this.frz hg hf.toFrz)
    · cases hd
  · cases hd

theorem deepAt_unlocked {V : Vw} {o : Org} {k : Nat} {d : DV} {f : List Org} (hd : deepAt V o k = some (d, f)) : ∀ o ∈ f, V.locked o = false := by
  unfold deepAt at hd
  split at hd
  · cases hl : V.locked o <;> simp [ask, hl] at hd
    obtain ⟨_, rfl⟩ := hd
    simpa using hl
  · simp only [Option.some.injEq, Prod.mk.injEq] at hd; obtain ⟨_, rfl⟩ := hd; simp
  · cases hd
theorem deep_unlocked {V : Vw} {x : Operand} {d : DV} {f : List Org} (hd : deep V x = some (d, f)) : ∀ o ∈ f, V.locked o = false := by
  unfold deep at hd
  split at hd
  · split at hd
    · simp only [Option.some.injEq, Prod.mk.injEq] at hd; obtain ⟨_, rfl⟩ := hd; simp [Vw.locked]
    · cases hd
  · exact deepAt_unlocked hd
  · split at hd
    · simp only [Option.some.injEq, Prod.mk.injEq] at hd; obtain ⟨_, rfl⟩ := hd; simp
    · cases hd
  · cases hd

end
end Go.Abs
end

section
namespace Go.Abs

/-- The interpreter's tables are the program's. -/
structure Ties (G : Ctx) (P : Program) : Prop where
  und : ∀ t d, G.und t = some d → P.underlying t = some d
  inf : ∀ t z n b, G.inf t = some (z, n, b) → ∃ i, P.info? t = some i ∧ i.zero = some z ∧ i.size = n ∧ i.bytes = b
  zsz : ∀ t z n b, G.inf t = some (z, n, b) → z.cells.size = n
  fn : ∀ f fn, G.fn f = some fn → P.funcs[f]? = some fn
  names : ∀ f fn, G.fn f = some fn → (fn.name == "runtime.NumGoroutine") = false
  mixed : P.follows .mixedOrders = true

/-- What a piece of a call may change. -/
structure Chg (Wr : Nat → Prop) (base : Nat) (g : Gh) (w : World) (g' : Gh) (w' : World) : Prop where
  le : g.F.le g'.F
  new : ∀ b, ¬ Wr b → g'.F.cell b = g.F.cell b ∧ g'.F.map b = g.F.map b
  ow : ∀ b, ¬ Wr b → g'.ow b = g.ow b
  θ : ∀ i, i < base → g'.θ i = g.θ i
  heap : ∀ b, ¬ Wr b → w'.heap[b]? = w.heap[b]?
  size : w.heap.size ≤ w'.heap.size
  os : w'.os = w.os
  tape : w'.tape = w.tape
  output : w'.output = w.output
theorem Chg.refl (Wr base g w) : Chg Wr base g w g w := ⟨.refl _, fun _ _ => ⟨rfl, rfl⟩, fun _ _ => rfl, fun _ _ => rfl, fun _ _ => rfl, Nat.le_refl _, rfl, rfl, rfl⟩
theorem Chg.trans {Wr : Nat → Prop} {base : Nat} {a b c : Gh} {u v w : World} (h : Chg Wr base a u b v) (k : Chg Wr base b v c w) : Chg Wr base a u c w :=
  ⟨h.le.trans k.le, fun x hx => ⟨(k.new x hx).1.trans (h.new x hx).1, (k.new x hx).2.trans (h.new x hx).2⟩, fun x hx => (k.ow x hx).trans (h.ow x hx), fun i hi => (k.θ i hi).trans (h.θ i hi),
    fun x hx => (k.heap x hx).trans (h.heap x hx), Nat.le_trans h.size k.size, k.os.trans h.os, k.tape.trans h.tape, k.output.trans h.output⟩
theorem GStep.chg {Wr : Nat → Prop} {g g' : Gh} (h : GStep Wr g g') (base : Nat) (w : World) : Chg Wr base g w g' w :=
  ⟨h.le, h.new, h.ow, fun i _ => by rw [h.θ], fun _ _ => rfl, Nat.le_refl _, rfl, rfl, rfl⟩

section
variable {G : Ctx} {Wr : Nat → Prop} {P : Program}

/-- Where an operation comes to. -/
def Next1 (G : Ctx) (Wr : Nat → Prop) (base : Nat) (g : Gh) (a : Act) (w : World) (st' : St) (next : Act → World → Prop) : Prop :=
  ∀ g' a' w', Inv G Wr g' st' a'.tmps w' → Chg Wr base g w g' w' → a'.defers = a.defers → a'.tmps.size = a.tmps.size → next a' w'

theorem Act.put_size (a : Act) (dst : Option Tmp) (v : Value) : (a.put dst v).tmps.size = a.tmps.size := by
  cases dst <;> simp [Act.put]
theorem Act.put_defers' (a : Act) (dst : Option Tmp) (v : Value) : (a.put dst v).defers = a.defers := by
  cases dst <;> rfl

theorem put_simple (st : St) (dst : Option Nat) (v : AV) (f : List Org) : st.put dst { v := v, frz := f } = match dst with
    | some d => (f.foldl St.freeze1 st).setSlot d v
    | none => f.foldl St.freeze1 st := by
  unfold St.put; rfl

/-- The value of a slot that is written. -/
def NewRel (G : Ctx) (Wr : Nat → Prop) (g : Gh) (st : St) (tmps : Array Value) (w : World) (d : Nat) (A : AV) (v : Value) : Prop :=
  if isView A then ViewRel g st tmps w A v ∧ A.views (.slot d) = false else PRel G Wr g st.ent st.lk w (.slot d) A v

/-- An operation that changes no memory; it may freeze lists. -/
theorem wp_simple {g : Gh} {st : St} {a : Act} {w : World} {o : Oper} {base nt : Nat} {A : AV} {f : List Org} {v : Value} {next : Act → World → Prop} {Q : Exit → Act → World → Prop}
    (h : Inv G Wr g st a.tmps w) (hsz : a.tmps.size = nt) (hd : okDst nt o.dst = true) (hvd : ∀ d, o.dst = some d → A.views (.slot d) = false)
    (hrun : (execOp a.eval o).run P w = .ok (.value v) w) (hl : ∀ p ∈ f, st.all.locked p = false)
    (hA : ∀ g' st', GStep Wr g g' → Inv G Wr g' st' a.tmps w → Done f st st' → st' = f.foldl St.freeze1 st → if isView A then ViewRel g' st' a.tmps w A v else VRel g'.F g'.θ st'.ent A v)
    (hn : Next1 G Wr base g a w (st.put o.dst { v := A, frz := f }) next) : o.wp P a w next Q := by
  unfold Oper.wp
  rw [hrun, Oper.upon_value]
  obtain ⟨g', h1, h2, h3, h4⟩ := h.freezeAll f hl
  have hA' := hA g' _ h1 h3 h4 rfl
  refine hn g' _ w ?_ (h1.chg _ _) (Act.put_defers' _ _ _) (Act.put_size _ _ _)
  rw [put_simple]
  cases hdst : o.dst with
  | none => exact h3
  | some d =>
    have hlt : d < a.tmps.size := by
      rw [hsz]
      simpa [okDst, hdst, blt_dec] using hd
    refine h3.setSlot hlt ?_
    cases hv : isView A with
    | true =>
      simp only [hv, if_true] at hA' ⊢
      exact ⟨hA', hvd d hdst⟩
    | false =>
      simp only [hv, Bool.false_eq_true, if_false] at hA' ⊢
      intro _
      cases A with
      | own e xs => simp [VRel] at hA'
      | _ => exact hA'

theorem VRel.typed {F : Fz} {θ T} {A : AV} {v : Value} (e : TypeId) (h : VRel F θ T A v) : VRel F θ T (A.typed e) v := by
  cases A <;> simp_all [AV.typed, VRel]
theorem isView_typed (A : AV) (e : TypeId) : isView (A.typed e) = isView A := by cases A <;> rfl

mutual
theorem tidy_rel {F : Fz} {θ T} : ∀ (A : AV) (v : Value), VRel F θ T A v → VRel F θ T A.tidy v
  | .agg cs, v, h => by
    simp only [AV.tidy]
    split
    · rename_i l hl
      simp only [VRel, Rep] at h ⊢
      obtain ⟨us, hv, hc⟩ := h
      exact ⟨us, hv, tidys_rel cs l _ hl hc⟩
    · exact h
  | .ifc t A, v, h => by
    simp only [AV.tidy]
    split
    · rename_i d hd
      simp only [VRel, Rep] at h ⊢
      obtain ⟨u, hv, hc⟩ := h
      have := tidy_rel A u hc
      rw [hd] at this
      exact ⟨u, hv, by simpa only [VRel] using this⟩
    · exact h
  | .fn f cs, v, h => by
    simp only [AV.tidy]
    split
    · rename_i l hl
      simp only [VRel, Rep] at h ⊢
      obtain ⟨us, hv, hc⟩ := h
      exact ⟨us, hv, tidys_rel cs l _ hl hc⟩
    · exact h
  | .dv _, v, h => by simpa only [AV.tidy] using h
  | .ptr _ _, v, h => by simpa only [AV.tidy] using h
  | .own _ _, v, h => by simpa only [AV.tidy] using h
  | .nils _, v, h => by simpa only [AV.tidy] using h
  | .vw _ _, v, h => by simpa only [AV.tidy] using h
  | .vp _ _ _, v, h => by simpa only [AV.tidy] using h
  | .map _, v, h => by simpa only [AV.tidy] using h
  | .tup _, v, h => by simpa only [AV.tidy] using h
  | .undf, v, h => by simpa only [AV.tidy] using h
  | .junk, v, h => by simpa only [AV.tidy] using h
theorem tidys_rel {F : Fz} {θ T} : ∀ (A : List AV) (d : List DV) (v : List Value), AV.tidys A = some d → VRelL F θ T A v → RepL F d v
  | [], d, v, h, hr => by simp only [AV.tidys, Option.some.injEq] at h; subst h; simpa only [VRelL, RepL] using hr
  | A :: r, d, v, h, hr => by
    simp only [AV.tidys] at h
    split at h
    · rename_i d' h1
      split at h
      · rename_i l h2
        simp only [Option.some.injEq] at h; subst h
        simp only [VRelL, RepL] at hr ⊢
        obtain ⟨u, l', hl, hd, hr⟩ := hr
        have := tidy_rel A u hd
        rw [h1] at this
        exact ⟨u, l', hl, by simpa only [VRel] using this, tidys_rel r l l' h2 hr⟩
      · cases h
    · cases h
end

theorem isView_tidy (A : AV) (h : isView A = false) : isView A.tidy = false := by
  cases A with
  | agg cs => simp only [AV.tidy]; split <;> rfl
  | ifc t v => simp only [AV.tidy]; split <;> rfl
  | fn f cs => simp only [AV.tidy]; split <;> rfl
  | vw o k => cases h
  | vp o j off => cases h
  | _ => simp only [AV.tidy]; rfl

/-! ## Plain operands -/

theorem scalar_rep {V : Vw} {g : Gh} {st : St} {a : Act} {w : World} (hV : Shows V st) (h : Inv G Wr g st a.tmps w) {x : Operand} {d : DV} (hx : scalar V x = some d) : Rep g.F d (a.eval x) := by
  unfold scalar at hx
  split at hx
  · rename_i d' h1
    simp only [Option.some.injEq] at hx; subst hx
    have := opnd_rel hV h h1 (by simp) rfl
    simpa only [VRel] using this
  · cases hx

theorem intOf_eval {V : Vw} {g : Gh} {st : St} {a : Act} {w : World} (hV : Shows V st) (h : Inv G Wr g st a.tmps w) {x : Operand} {n : Int} (hx : intOf V x = some n) : ∃ k, a.eval x = .int k n := by
  unfold intOf at hx
  split at hx
  · rename_i k d' h1
    simp only [Option.some.injEq] at hx; subst hx
    have := opnd_rel hV h h1 (by simp) rfl
    simp only [VRel, Rep] at this
    exact ⟨k, this⟩
  · cases hx

theorem idxOf_eval {V : Vw} {g : Gh} {st : St} {a : Act} {w : World} (hV : Shows V st) (h : Inv G Wr g st a.tmps w) {x : Operand} {n : Nat} (hx : idxOf V x = some n) : ∃ k, a.eval x = .int k n := by
  unfold idxOf at hx
  split at hx
  · rename_i i hi
    obtain ⟨k, hk⟩ := intOf_eval hV h hi
    cases i with
    | ofNat m => simp only [natOf, Option.some.injEq] at hx; subst hx; exact ⟨k, hk⟩
    | negSucc m => simp [natOf] at hx
  · cases hx

end
end Go.Abs
end

section
namespace Go.Abs

section
variable {G : Ctx} {Wr : Nat → Prop} {P : Program}

/-- An operation that changes no memory; it may freeze lists. -/
def Simple (G : Ctx) (Wr : Nat → Prop) (g : Gh) (V : Vw) (st : St) (a : Act) (w : World) (out : Out) (r : Result Next) : Prop :=
  ∃ A f v, out = { v := A, frz := f } ∧ r = .ok (.value v) w ∧ (∀ p ∈ f, V.locked p = false) ∧
    ∀ g' st', GStep Wr g g' → Inv G Wr g' st' a.tmps w → Done f st st' → st' = f.foldl St.freeze1 st → if isView A then ViewRel g' st' a.tmps w A v else VRel g'.F g'.θ st'.ent A v

theorem Simple.plain {g : Gh} {V : Vw} {st : St} {a : Act} {w : World} {A : AV} {v : Value} {r : Result Next} (hr : r = .ok (.value v) w) (hv : isView A = false)
    (h : VRel g.F g.θ st.ent A v) : Simple G Wr g V st a w { v := A } r :=
  ⟨A, [], v, rfl, hr, by simp, fun g' st' hg _ hf _ => by simp only [hv, Bool.false_eq_true, if_false]; exact h.frz hg hf.toFrz⟩

theorem Simple.dv {g : Gh} {V : Vw} {st : St} {a : Act} {w : World} {d : DV} {v : Value} {r : Result Next} (hr : r = .ok (.value v) w)
    (h : Rep g.F d v) : Simple G Wr g V st a w { v := .dv d } r := Simple.plain hr rfl (by simpa only [VRel] using h)

variable {g : Gh} {V : Vw} {st : St} {a : Act} {w : World} (hV : Shows V st) (h : Inv G Wr g st a.tmps w) (tie : Ties G P)

theorem OwnRel.header {g : Gh} {T lk w p e xs u} (h : OwnRel G Wr g T lk w p e xs u) : ∃ a cap, u = .slice a xs.length cap := by
  rcases h with ⟨rfl, rfl⟩ | ⟨b, cap, cur, ty, size, _, _, rfl, _⟩
  · exact ⟨none, 0, rfl⟩
  · exact ⟨_, cap, rfl⟩

/-- A list that stands at a place, read. -/
theorem own_view {g' : Gh} {st st' : St} {tmps : Array Value} {w : World} (h' : Inv G Wr g' st' tmps w) (hf : Frz st st') {o : Org} {e : TypeId} {xs : List DV} {v : Value}
    (ho : st.all.at_ o = .own e xs) (hv : pval g'.θ tmps w o = some v) : ViewRel g' st' tmps w (.vw o xs.length) v := by
  simp only [ViewRel]
  rcases hf.at_ o with h1 | ⟨e', xs', h1, h2⟩
  · rw [ho] at h1
    obtain ⟨u, k1, k2⟩ := h'.place o _ h1 (by simp) rfl
    rw [hv] at k1
    simp only [Option.some.injEq] at k1
    subst k1
    obtain ⟨a, cap, rfl⟩ := OwnRel.header (by simpa only [PRel] using k2)
    exact ⟨xs, a, cap, .inl ⟨e, h1⟩, hv, rfl, Nat.le_refl _⟩
  · rw [ho] at h1
    simp only [AV.own.injEq] at h1
    rw [← h1.2] at h2
    obtain ⟨u, k1, k2⟩ := h'.place o _ h2 (by simp) rfl
    rw [hv] at k1
    simp only [Option.some.injEq] at k1
    subst k1
    obtain ⟨a, cap, rfl⟩ := Rep.lst_len (by simpa only [PRel, VRel] using k2)
    exact ⟨xs, a, cap, .inr h2, hv, rfl, Nat.le_refl _⟩

/-- A list that stood at a place, frozen. -/
theorem own_rep {g' : Gh} {st st' : St} {tmps : Array Value} {w : World} (h' : Inv G Wr g' st' tmps w) {f : List Org} (hf : Done f st st') {o : Org} (hof : o ∈ f) {e : TypeId} {xs : List DV} {v : Value}
    (ho : st.all.at_ o = .own e xs) (hv : pval g'.θ tmps w o = some v) : Rep g'.F (.lst xs) v := by
  obtain ⟨u, k1, k2⟩ := h'.place o _ (hf.all o hof e xs ho) (by simp) rfl
  rw [hv] at k1
  simp only [Option.some.injEq] at k1
  subst k1
  simpa only [PRel, VRel] using k2

theorem peek_simple {keep : Bool} {o : Org} {e : TypeId} {xs : List DV} {out : Out} {v : Value} {r : Result Next} (hr : r = .ok (.value v) w) (ho : st.all.at_ o = .own e xs)
    (hv : pval g.θ a.tmps w o = some v) (hp : peek V keep o xs = some out) : Simple G Wr g V st a w out r := by
  unfold peek at hp
  cases keep with
  | true =>
    simp only [cond_true] at hp
    cases hl : V.locked o with
    | true => simp [ask, hl] at hp
    | false =>
      simp only [ask, hl, Bool.not_false, cond_true, Option.some.injEq] at hp
      subst hp
      refine ⟨_, [o], v, rfl, hr, by simpa using hl, fun g' st' hg h' hf _ => ?_⟩
      simp only [isView, Bool.false_eq_true, if_false, VRel]
      exact own_rep h' hf (by simp) ho (by rw [hg.θ]; exact hv)
  | false =>
    simp only [cond_false, Option.some.injEq] at hp
    subst hp
    refine ⟨_, [], v, rfl, hr, by simp, fun g' st' hg h' hf _ => ?_⟩
    simp only [isView, if_true]
    exact own_view h' hf.toFrz ho (by rw [hg.θ]; exact hv)

include hV h in
theorem move_simple {keep : Bool} {x : Operand} {out : Out} (hm : moveOut V keep x = some out) : Simple G Wr g V st a w out (.ok (.value (a.eval x)) w) := by
  unfold moveOut at hm
  split at hm
  · rename_i e xs hx
    obtain ⟨t, rfl, ht, h1, _⟩ := opnd_own hV h hx
    exact peek_simple (o := .slot t) rfl ht h1 hm
  · rename_i o k hx
    obtain ⟨t, rfl, ht, h1, h2⟩ := opnd_view hV h hx rfl
    cases keep with
    | true =>
      simp only [cond_true] at hm
      split at hm
      · rename_i d f hd
        simp only [Option.some.injEq] at hm
        subst hm
        refine ⟨_, f, _, rfl, rfl, deepAt_unlocked hd, fun g' st' hg h' hf _ => ?_⟩
        simp only [isView, Bool.false_eq_true, if_false, VRel]
        exact deepAt_rep hV h' hd hf (fun _ ho => ho) ht h1
      · cases hm
    | false =>
      simp only [cond_false, Option.some.injEq] at hm
      subst hm
      refine ⟨_, [], _, rfl, rfl, by simp, fun g' st' hg h' hf _ => ?_⟩
      simp only [isView, if_true]
      have ht' : st'.slot t = .vw o k := by rw [hf.toFrz.slot (by rw [ht]; simp)]; exact ht
      obtain ⟨v', k1, k2⟩ := h'.view t _ ht' rfl
      rw [h1] at k1
      simp only [Option.some.injEq] at k1
      rw [k1]; exact k2
  · rename_i o j off hx
    obtain ⟨t, rfl, ht, h1, h2⟩ := opnd_view hV h hx rfl
    cases keep with
    | true => simp at hm
    | false =>
      simp only [cond_false, Option.some.injEq] at hm
      subst hm
      refine ⟨_, [], _, rfl, rfl, by simp, fun g' st' hg h' hf _ => ?_⟩
      simp only [isView, if_true]
      have ht' : st'.slot t = .vp o j off := by rw [hf.toFrz.slot (by rw [ht]; simp)]; exact ht
      obtain ⟨v', k1, k2⟩ := h'.view t _ ht' rfl
      rw [h1] at k1
      simp only [Option.some.injEq] at k1
      rw [k1]; exact k2
  · cases hm
  · rename_i A h1 h2 h3 h4 hx
    simp only [Option.some.injEq] at hm
    subst hm
    have hv : isView A = false := by
      cases A with
      | vw o k => exact (h2 o k rfl).elim
      | vp o j off => exact (h3 o j off rfl).elim
      | _ => rfl
    exact Simple.plain rfl hv (opnd_rel hV h hx (fun e xs he => h1 e xs he) hv)
  · cases hm

theorem typeIf_simple {x : Operand} {T : TypeId} {r0 : Option Out} {out : Out} {r : Result Next} (h0 : ∀ out, r0 = some out → Simple G Wr g V st a w out r) (ht : typeIf G x T r0 = some out) :
    Simple G Wr g V st a w out r := by
  unfold typeIf at ht
  split at ht
  · rename_i out0
    simp only [Option.some.injEq] at ht
    subst ht
    cases isConst x with
    | false => exact h0 _ rfl
    | true =>
      obtain ⟨A, f, v, rfl, hr, hl, hA⟩ := h0 _ rfl
      refine ⟨A.typed (G.elem0 T), f, v, rfl, hr, hl, fun g' st' hg h' hf hs => ?_⟩
      have := hA g' st' hg h' hf hs
      rw [isView_typed]
      cases hv : isView A with
      | true =>
        simp only [hv, if_true] at this ⊢
        cases A <;> simp_all [AV.typed, isView]
      | false =>
        simp only [hv, Bool.false_eq_true, if_false] at this ⊢
        exact this.typed _
  · cases ht

include hV h in
theorem pick_simple {c x y : Operand} {out : Out} (hm : pickOut V c x y = some out) {o : Oper} (ho : o.op = .pick c x y) : Simple G Wr g V st a w out ((execOp a.eval o).run P w) := by
  unfold pickOut at hm
  split at hm
  · rename_i t hc
    have h1 := scalar_rep hV h hc
    simp only [Rep] at h1
    split at hm
    · rename_i d hd
      simp only [Option.some.injEq] at hm
      subst hm
      have h2 := scalar_rep hV h hd
      refine Simple.dv (v := a.eval (bif t then x else y)) ?_ h2
      simp [execOp, ho, h1, asBool]
      cases t <;> rfl
    · cases hm
  · cases hm

end
end Go.Abs
end

section
namespace Go.Abs

section
variable {G : Ctx} {Wr : Nat → Prop} {P : Program}

theorem Ties.size {G : Ctx} {P : Program} (tie : Ties G P) {t : TypeId} {n : Nat} (h : G.size t = some n) : ∃ i, P.info? t = some i ∧ i.size = n := by
  unfold Ctx.size at h
  split at h
  · rename_i z n' b hi
    obtain ⟨i, h1, h2, h3, h4⟩ := tie.inf _ _ _ _ hi
    simp only [Option.some.injEq] at h
    exact ⟨i, h1, h3.trans h⟩
  · cases h
theorem Ties.run_size {G : Ctx} {P : Program} (tie : Ties G P) {t : TypeId} {n : Nat} (h : G.size t = some n) (w : World) : (sizeOf t).run P w = .ok n w := by
  obtain ⟨i, h1, h2⟩ := tie.size h
  simp [sizeOf, typeInfo, h1, h2]
theorem Ties.run_und {G : Ctx} {P : Program} (tie : Ties G P) {t : TypeId} {d : TypeDesc} (h : G.und t = some d) (w : World) : (underlying t).run P w = .ok d w := by
  simp [underlying, tie.und t d h]
theorem Ties.agg {G : Ctx} {P : Program} (tie : Ties G P) {t : TypeId} {b : Bool} (h : G.agg t = some b) : ∃ d, P.underlying t = some d ∧ isAggT d = b := by
  unfold Ctx.agg at h
  split at h
  · rename_i d hd
    simp only [Option.some.injEq] at h
    exact ⟨d, tie.und t d hd, h⟩
  · cases h
theorem Ties.run_agg {G : Ctx} {P : Program} (tie : Ties G P) {t : TypeId} {b : Bool} (h : G.agg t = some b) (w : World) : (isAgg t).run P w = .ok b w := by
  obtain ⟨d, h1, h2⟩ := tie.agg h
  subst h2
  cases d <;> simp [isAgg, underlying, h1, isAggT]

/-- A variable's value out of its cells' values. -/
def joinV (agg : Bool) (us : List Value) : Option Value :=
  match agg, us with
  | true, us => some (.agg us.toArray)
  | false, [u] => some u
  | _, _ => none

theorem run_loadAt (tie : Ties G P) {T : TypeId} {n : Nat} {agg : Bool} (hn : G.size T = some n) (ha : G.agg T = some agg) (w : World) (p : Addr) {us : List Value} (hl : us.length = n)
    (hc : ∀ j u, us[j]? = some u → w.cell? (p.add j) = some u) {v : Value} (hv : joinV agg us = some v) : (Instr.loadAt T (.pointer (some p))).run P w = .ok v w := by
  cases agg with
  | true =>
    simp only [joinV, Option.some.injEq] at hv
    subst hv
    have := run_loadCells_list (P := P) w p us hc
    rw [hl] at this
    simp [Instr.loadAt, Instr.sureAddr, loadVar, tie.run_agg ha, tie.run_size hn, this]
  | false =>
    match us, hv with
    | [u], hv =>
      simp only [joinV, Option.some.injEq] at hv
      subst hv
      have := hc 0 u rfl
      simp only [Addr.add, if_true] at this
      simp [Instr.loadAt, Instr.sureAddr, loadVar, tie.run_agg ha, this]

theorem Row_list {F : Fz} : ∀ (cs : List DV) (f : Nat → Option Value), Row F cs f → ∃ us, us.length = cs.length ∧ (∀ j u, us[j]? = some u → f j = some u) ∧ RepL F cs us
  | [], f, _ => ⟨[], rfl, by simp, by simp [RepL]⟩
  | d :: r, f, h => by
    obtain ⟨v, hv, hd⟩ := h 0 d rfl
    obtain ⟨us, h1, h2, h3⟩ := Row_list r (fun j => f (j + 1)) (fun j d' hj => h (j + 1) d' (by simpa using hj))
    refine ⟨v :: us, by simp [h1], ?_, by simp only [RepL]; exact ⟨v, us, rfl, hd, h3⟩⟩
    intro j u hj
    cases j with
    | zero => simp at hj; subst hj; exact hv
    | succ j => exact h2 j u (by simpa using hj)

theorem cut_get {α : Type} {cs : List α} {off n : Nat} {l : List α} (h : cut cs off n = some l) : l.length = n ∧ off + n ≤ cs.length ∧ ∀ j x, l[j]? = some x → cs[off + j]? = some x := by
  unfold cut at h
  cases hb : Nat.ble (off + n) cs.length with
  | false => simp [hb] at h
  | true =>
    simp only [hb, cond_true, Option.some.injEq] at h
    have hle := Nat.le_of_ble_eq_true hb
    subst h
    refine ⟨by simp; omega, hle, fun j x hj => ?_⟩
    rw [List.getElem?_take] at hj
    split at hj
    · simpa using hj
    · cases hj

theorem Row.cut {F : Fz} {cs : List DV} {f : Nat → Option Value} (h : Row F cs f) {off n : Nat} {l : List DV} (hc : cut cs off n = some l) : Row F l (fun j => f (off + j)) :=
  fun j d hj => h (off + j) d ((cut_get hc).2.2 j d hj)

theorem join_rep {F : Fz} {agg : Bool} {cs : List DV} {d : DV} {us : List Value} (h : DV.join agg cs = some d) (hr : RepL F cs us) : ∃ v, joinV agg us = some v ∧ Rep F d v := by
  cases agg with
  | true =>
    simp only [DV.join, Option.some.injEq] at h
    subst h
    exact ⟨_, rfl, by simp only [Rep]; exact ⟨_, rfl, by simpa using hr⟩⟩
  | false =>
    match cs, h with
    | [c], h =>
      simp only [DV.join, Option.some.injEq] at h
      subst h
      simp only [RepL] at hr
      obtain ⟨v, l', rfl, hd, rfl⟩ := hr
      exact ⟨v, rfl, hd⟩

/-- The row of one of a list's elements. -/
theorem Row.elem {F : Fz} {k : Nat} : ∀ {xs : List DV} {f : Nat → Option Value} (_ : Row F (flat xs) f) (_ : ∀ x ∈ xs, x.cells.length = k) {j : Nat} {x : DV} (_ : xs[j]? = some x), Row F x.cells (fun i => f (j * k + i))
  | [], f, _, _, j, x, hj => by simp at hj
  | y :: r, f, h, hk, j, x, hj => by
    rw [flat_cons, Row_append] at h
    cases j with
    | zero => simp at hj; subst hj; simpa using h.1
    | succ j =>
      have := Row.elem (k := k) h.2 (fun z hz => hk z (by simp [hz])) (j := j) (x := x) (by simpa using hj)
      rw [hk y (by simp)] at this
      intro i d hi
      obtain ⟨v, hv, hd⟩ := this i d hi
      exact ⟨v, by show f ((j + 1) * k + i) = some v; rw [show (j + 1) * k + i = k + (j * k + i) by rw [Nat.succ_mul]; omega]; exact hv, hd⟩

variable {g : Gh} {V : Vw} {st : St} {a : Act} {w : World} (hV : Shows V st) (h : Inv G Wr g st a.tmps w) (tie : Ties G P)

theorem cell?_add (w : World) (b o j : Nat) : w.cell? ((⟨b, o, none⟩ : Addr).add j) = w.cell? ⟨b, o + j, none⟩ := by
  unfold Addr.add; split <;> simp_all

include tie in
/-- Deep cells that stand in memory from a place on, read. -/
theorem loadDeep_simple {T : TypeId} {n : Nat} {agg : Bool} (hn : G.size T = some n) (ha : G.agg T = some agg) {cells : List DV} {off b o : Nat} {out : Out}
    (hr : Row g.F cells (fun j => w.cell? ⟨b, o + j, none⟩)) (hl : loadDeep agg cells off n = some out) :
    Simple G Wr g V st a w out ((do pure (.value (← Instr.loadAt T (.pointer (some ⟨b, o + off, none⟩)))) : Sem Next).run P w) := by
  unfold loadDeep at hl
  split at hl
  · rename_i cs hc
    split at hl
    · rename_i d hd
      simp only [Option.some.injEq] at hl
      subst hl
      obtain ⟨us, h1, h2, h3⟩ := Row_list _ _ (hr.cut hc)
      obtain ⟨v, h4, h5⟩ := join_rep hd h3
      have := run_loadAt tie hn ha w ⟨b, o + off, none⟩ (us := us) (h1.trans (cut_get hc).1) (fun j u hj => by rw [cell?_add, Nat.add_assoc]; exact h2 j u hj) h4
      exact Simple.dv (v := v) (by simp [this]) h5
    · cases hl
  · cases hl

theorem Row.ok {F : Fz} {w : World} (hok : F.ok w) {cs : List DV} {b o : Nat} (h : Row F cs (fun j => F.cell b (o + j))) : Row F cs (fun j => w.cell? ⟨b, o + j, none⟩) :=
  fun j d hj => let ⟨v, hv, hd⟩ := h j d hj; ⟨v, hok.cell b _ v hv, hd⟩

theorem Rep.row {F : Fz} {xs : List DV} {b o n cap : Nat} (h : Rep F (.lst xs) (.slice (some ⟨b, o, none⟩) n cap)) : xs = [] ∨ ∃ k, (∀ x ∈ xs, x.cells.length = k) ∧ Row F (flat xs) (fun j => F.cell b (o + j)) := by
  simp only [Rep] at h
  obtain ⟨a', cap', hv, hn, hc⟩ := h
  simp only [Value.slice.injEq] at hv
  obtain ⟨rfl, rfl, rfl⟩ := hv
  refine hc.imp id ?_
  rintro ⟨b', o', k, ha, hk, he⟩
  simp only [Option.some.injEq, Addr.mk.injEq] at ha
  obtain ⟨rfl, rfl, _⟩ := ha
  exact ⟨k, hk, (RepElems_iff _ _ _ hk).1 he⟩

include h in
/-- What a view of an element leads to. -/
theorem view_row {o : Org} {j off : Nat} {u : Value} (hv : ViewRel g st a.tmps w (.vp o j off) u) : ∃ xs b q x, ((∃ e, st.all.at_ o = .own e xs) ∨ st.all.at_ o = .dv (.lst xs)) ∧ xs[j]? = some x ∧
    u = .pointer (some ⟨b, q + off, none⟩) ∧ Row g.F x.cells (fun i => w.cell? ⟨b, q + i, none⟩) := by
  simp only [ViewRel] at hv
  obtain ⟨xs, b, o', cap, size, x, h1, h2, h3, h4, rfl⟩ := hv
  refine ⟨xs, b, o' + j * size, x, h1, h3, rfl, ?_⟩
  have hne : xs ≠ [] := by rintro rfl; simp at h3
  suffices H : Row g.F (flat xs) (fun i => w.cell? ⟨b, o' + i, none⟩) by
    intro i d hi
    obtain ⟨v, hv, hd⟩ := H.elem h4 h3 i d hi
    exact ⟨v, by show w.cell? ⟨b, o' + j * size + i, none⟩ = some v; rw [Nat.add_assoc]; exact hv, hd⟩
  rcases h1 with ⟨e, h1⟩ | h1
  · obtain ⟨u, k1, k2⟩ := h.place o _ h1 (by simp) rfl
    rw [h2] at k1
    simp only [Option.some.injEq] at k1
    subst k1
    simp only [PRel] at k2
    rcases k2 with ⟨rfl, _⟩ | ⟨b2, cap2, cur, ty, size2, m1, m2, m3, m4, m5, m6, m7, m8, _⟩
    · exact absurd rfl hne
    · simp only [Value.slice.injEq, Option.some.injEq, Addr.mk.injEq] at m3
      obtain ⟨⟨rfl, rfl, _⟩, _, rfl⟩ := m3
      intro i d hi
      obtain ⟨v, hv, hd⟩ := m8 i d hi
      exact ⟨v, by simp [World.cell?, m5]; simpa using hv, hd⟩
  · obtain ⟨u, k1, k2⟩ := h.place o _ h1 (by simp) rfl
    rw [h2] at k1
    simp only [Option.some.injEq] at k1
    subst k1
    simp only [PRel, VRel] at k2
    rcases k2.row with rfl | ⟨k, hk, hr⟩
    · exact absurd rfl hne
    · exact hr.ok h.heap.ok

end
end Go.Abs
end

section
namespace Go.Abs

section
variable {G : Ctx} {Wr : Nat → Prop} {P : Program}
variable {g : Gh} {V : Vw} {st : St} {a : Act} {w : World} (hV : Shows V st) (h : Inv G Wr g st a.tmps w) (tie : Ties G P)

/-- What an address leads to. -/
def DRel (g : Gh) (st : St) (tmps : Array Value) (w : World) (D : Dest) (u : Value) : Prop :=
  match D with
  | .fz cells off => ∃ b o, u = .pointer (some ⟨b, o + off, none⟩) ∧ Row g.F cells (fun j => g.F.cell b (o + j))
  | .box id off => u = .pointer (some ⟨g.θ id, off, none⟩) ∧ isBoxE (st.ent id) = true
  | .own o j off => ViewRel g st tmps w (.vp o j off) u

include hV h in
theorem dest_rel {x : Operand} {D : Dest} (hx : dest V x = some D) : DRel g st a.tmps w D (a.eval x) := by
  unfold dest at hx
  split at hx
  · rename_i cells off h1
    simp only [Option.some.injEq] at hx; subst hx
    have := opnd_rel hV h h1 (by simp) rfl
    simp only [VRel, Rep] at this
    obtain ⟨b, o, h2, h3⟩ := this
    exact ⟨b, o, h2, (RepRow_iff _ _ _).1 h3⟩
  · rename_i id off h1
    simp only [Option.some.injEq] at hx; subst hx
    have := opnd_rel hV h h1 (by simp) rfl
    simpa only [VRel, DRel] using this
  · rename_i o j off h1
    simp only [Option.some.injEq] at hx; subst hx
    obtain ⟨t, rfl, ht, h1, h2⟩ := opnd_view hV h h1 rfl
    exact h2
  · cases hx

/-- An address, as a value. -/
theorem DRel.simple {D : Dest} {u : Value} {r : Result Next} (hr : r = .ok (.value u) w) (hD : DRel g st a.tmps w D u)
    : Simple G Wr g V st a w { v := D.av } r := by
  cases D with
  | fz cells off =>
    refine Simple.dv hr ?_
    simp only [Rep]
    obtain ⟨b, o, h1, h2⟩ := hD
    exact ⟨b, o, h1, (RepRow_iff _ _ _).2 h2⟩
  | box id off => exact Simple.plain hr rfl (by simp only [Dest.av, VRel]; exact hD)
  | own o j off =>
    refine ⟨_, [], u, rfl, hr, by simp, fun g' st' hg h' hf hs => ?_⟩
    simp only [Dest.av, isView, if_true]
    simp only [List.foldl_nil] at hs
    subst hs
    refine viewRel_of hD fun p _ => ⟨fun ys hy => hy, by rw [hg.θ]⟩

theorem DRel.add {D : Dest} {u : Value} (hD : DRel g st a.tmps w D u) (n : Nat) : ∃ p, u = .pointer (some p) ∧ DRel g st a.tmps w (D.add n) (.pointer (some (p.add n))) := by
  have hadd : ∀ b o : Nat, (⟨b, o, none⟩ : Addr).add n = ⟨b, o + n, none⟩ := by intro b o; unfold Addr.add; split <;> simp_all
  cases D with
  | fz cells off =>
    obtain ⟨b, o, rfl, h2⟩ := hD
    exact ⟨_, rfl, b, o, by rw [hadd, Nat.add_assoc], h2⟩
  | box id off =>
    obtain ⟨rfl, h2⟩ := hD
    exact ⟨_, rfl, by rw [hadd], h2⟩
  | own o j off =>
    simp only [DRel, ViewRel] at hD
    obtain ⟨xs, b, o', cap, size, x, h1, h2, h3, h4, rfl⟩ := hD
    exact ⟨_, rfl, xs, b, o', cap, size, x, h1, h2, h3, h4, by rw [hadd, Nat.add_assoc]⟩

include h in
/-- The values of a part of a box's cells. -/
theorem box_part {id : Nat} {cs : List AV} (he : st.ent id = some (.box cs)) {off n : Nat} {part : List AV} (hc : cut cs off n = some part) :
    ∃ us : List Value, us.length = n ∧ (∀ j u, us[j]? = some u → w.cell? ⟨g.θ id, off + j, none⟩ = some u) ∧
      ∀ (j : Nat) (A : AV), part[j]? = some A → A ≠ .junk → ∃ u, us[j]? = some u ∧ PRel G Wr g st.ent st.lk w (.cell id (off + j)) A u := by
  obtain ⟨cur, ty, h1, h2⟩ := h.heap.box id cs he
  obtain ⟨hl, hle, hget⟩ := cut_get hc
  refine ⟨(cur.toList.drop off).take n, ?_, ?_, ?_⟩
  · simp; omega
  · intro j u hj
    rw [List.getElem?_take] at hj
    split at hj
    · simp only [List.getElem?_drop, Array.getElem?_toList] at hj
      simp only [World.cell?, h1]
      simpa using hj
    · cases hj
  · intro j A hA hj
    have hA' := hget j A hA
    have hat : cellOf (st.ent id) (off + j) = A := by rw [he]; simp [cellOf, hA']
    obtain ⟨u, k1, k2⟩ := h.heap.cells id (off + j) A hat hj
    refine ⟨u, ?_, k2⟩
    simp only [cellVal, h1] at k1
    have hjn : j < n := by rw [← hl]; exact (List.getElem?_eq_some_iff.1 hA).1
    rw [List.getElem?_take, if_pos hjn, List.getElem?_drop, Array.getElem?_toList]
    exact k1

theorem allSolid_spec : ∀ {l : List AV}, allSolid l = true → ∀ A ∈ l, A.solid = true
  | [], _ => by simp
  | v :: r, h => by
    unfold allSolid at h
    cases hv : v.solid with
    | false => rw [hv] at h; cases h
    | true =>
      rw [hv] at h
      intro A hA
      rcases List.mem_cons.1 hA with rfl | hA
      · exact hv
      · exact allSolid_spec h A hA

theorem ownCells_mem (id : Nat) : ∀ (part : List AV) (c j : Nat) (e : TypeId) (x : DV) (xs : List DV), part[j]? = some (.own e (x :: xs)) → .cell id (c + j) ∈ ownCells id c part
  | [], c, j, e, x, xs, h => by simp at h
  | A :: r, c, j, e, x, xs, h => by
    cases j with
    | zero => simp at h; subst h; simp [ownCells]
    | succ j =>
      have := ownCells_mem id r (c + 1) j e x xs (by simpa using h)
      rw [show c + 1 + j = c + (j + 1) by omega] at this
      unfold ownCells
      split <;> simp_all

theorem ownCells_locked (id : Nat) : ∀ (part : List AV) (c : Nat) (o : Org), o ∈ ownCells id c part → V.locked o = has id V.lk
  | [], c, o, h => by simp [ownCells] at h
  | A :: r, c, o, h => by
    unfold ownCells at h
    split at h
    · cases h
    · rename_i heq
      simp only [List.cons.injEq] at heq
      rw [← heq.2] at h
      rcases List.mem_cons.1 h with rfl | h
      · rfl
      · exact ownCells_locked id r _ o h
    · rename_i heq
      simp only [List.cons.injEq] at heq
      obtain ⟨rfl, rfl⟩ := heq
      exact ownCells_locked id _ _ o h

include hV h tie in
theorem loadAgg_simple {T : TypeId} {n id off : Nat} (hn : G.size T = some n) (ha : G.agg T = some true) {cs part : List AV} (he : V.get id = some (.box cs)) (hc : cut cs off n = some part) {out : Out}
    (hl : loadAgg V id off part = some out) :
    Simple G Wr g V st a w out ((do pure (.value (← Instr.loadAt T (.pointer (some ⟨g.θ id, off, none⟩)))) : Sem Next).run P w) := by
  have he' := hV.get id _ he
  obtain ⟨us, h1, h2, h3⟩ := box_part h he' hc
  unfold loadAgg at hl
  cases hs : allSolid (part.map thaw) with
  | false => rw [hs] at hl; cases hl
  | true =>
    rw [hs] at hl
    simp only [cond_true] at hl
    have hrun := run_loadAt tie hn ha w ⟨g.θ id, off, none⟩ (us := us) h1 (fun j u hj => by rw [cell?_add]; exact h2 j u hj) rfl
    have hout : ∃ f, out = { v := (AV.agg (part.map thaw)).tidy, frz := f } ∧ f = ownCells id off part ∧ (∀ o ∈ f, V.locked o = false) := by
      split at hl
      · rename_i h0
        simp only [Option.some.injEq] at hl
        exact ⟨[], hl.symm, h0.symm, by simp⟩
      · cases hk : has id V.lk with
        | true => simp [ask, hk] at hl
        | false =>
          simp only [ask, hk, Bool.not_false, cond_true, Option.some.injEq] at hl
          exact ⟨_, hl.symm, rfl, fun o ho => by rw [ownCells_locked id _ _ o ho, hk]⟩
    obtain ⟨f, rfl, hf, hlk⟩ := hout
    refine ⟨_, f, .agg us.toArray, rfl, by simp [hrun], hlk, fun g' st' hg h' hd _ => ?_⟩
    rw [isView_tidy _ rfl]
    simp only [Bool.false_eq_true, if_false]
    apply tidy_rel
    simp only [VRel]
    refine ⟨_, rfl, ?_⟩
    rw [VRelL_iff]
    have hlen : part.length = n := (cut_get hc).1
    refine ⟨by simp [h1, hlen], fun j A hA => ?_⟩
    rw [List.getElem?_map, Option.map_eq_some_iff] at hA
    obtain ⟨B, hB, rfl⟩ := hA
    have hsol := allSolid_spec hs (thaw B) (List.mem_map.2 ⟨B, List.mem_of_getElem? hB, rfl⟩)
    have hnj : B ≠ .junk := by rintro rfl; simp [thaw, AV.solid] at hsol
    obtain ⟨u, k1, k2⟩ := h3 j B hB hnj
    refine ⟨u, k1, ?_⟩
    cases B with
    | own e xs =>
      simp only [thaw, VRel]
      cases xs with
      | nil =>
        obtain ⟨b, cap, rfl⟩ := OwnRel.header (by simpa only [PRel] using k2)
        simp only [Rep]
        exact ⟨b, cap, rfl, Nat.zero_le _, .inl trivial⟩
      | cons x xs =>
        have hmem := ownCells_mem id part off j e x xs hB
        rw [← hf] at hmem
        have hat : st.all.at_ (.cell id (off + j)) = .own e (x :: xs) := by
          show cellOf (st.ent id) (off + j) = _
          rw [he']; simp [cellOf, (cut_get hc).2.2 j _ hB]
        refine own_rep h' hd hmem hat ?_
        rw [hg.θ]
        have := h2 j u k1
        simp only [pval, cellVal]
        obtain ⟨cur, ty, m1, m2⟩ := h.heap.box id cs he'
        simp only [World.cell?, m1] at this ⊢
        simpa using this
    | vw o k => exact absurd k2.notView (by simp [isView])
    | vp o j off => exact absurd k2.notView (by simp [isView])
    | _ => exact VRel.frz k2 hg hd.toFrz

include hV h tie in
theorem loadOne_simple {T : TypeId} {n id off : Nat} {keep : Bool} (hn : G.size T = some n) (ha : G.agg T = some false) {cs part : List AV} (he : V.get id = some (.box cs)) (hc : cut cs off n = some part) {out : Out}
    (hl : loadOne V keep id off part = some out) :
    Simple G Wr g V st a w out ((do pure (.value (← Instr.loadAt T (.pointer (some ⟨g.θ id, off, none⟩)))) : Sem Next).run P w) := by
  have he' := hV.get id _ he
  obtain ⟨us, h1, h2, h3⟩ := box_part h he' hc
  have hlen := (cut_get hc).1
  match part, hl with
  | [], hl => simp [loadOne] at hl
  | _ :: _ :: _, hl => simp [loadOne] at hl
  | [A], hl =>
    simp only [List.length_singleton] at hlen
    match us, h1 with
    | [], h1 => simp at h1; omega
    | _ :: _ :: _, h1 => simp at h1; omega
    | [u], _ =>
    have hrun := run_loadAt tie hn ha w ⟨g.θ id, off, none⟩ (us := [u]) (by simp; omega) (fun j u' hj => by rw [cell?_add]; exact h2 j u' hj) rfl
    have hcell : cellOf (st.ent id) off = A := by rw [he']; have := (cut_get hc).2.2 0 A rfl; simp [cellOf] at this ⊢; rw [this]
    have hpv : pval g.θ a.tmps w (.cell id off) = some u := by
      have := h2 0 u rfl
      simp only [pval, cellVal]
      obtain ⟨cur, ty, m1, m2⟩ := h.heap.box id cs he'
      simp only [World.cell?, m1] at this ⊢
      simpa using this
    have hother : AV.solid A = true → out = { v := A } → Simple G Wr g V st a w out ((do pure (.value (← Instr.loadAt T (.pointer (some ⟨g.θ id, off, none⟩)))) : Sem Next).run P w) := by
      intro hs ho
      subst ho
      have hnj : A ≠ .junk := by rintro rfl; cases hs
      obtain ⟨u', k1, k2⟩ := h3 0 A rfl hnj
      simp only [List.getElem?_cons_zero, Option.some.injEq] at k1
      subst k1
      refine Simple.plain (v := u) (by simp [hrun]) k2.notView ?_
      cases A with
      | own e xs => cases hs
      | _ => exact k2
    cases A with
    | own e xs =>
      simp only [loadOne] at hl
      exact peek_simple (o := .cell id off) (by simp [hrun]) hcell hpv hl
    | _ =>
      simp only [loadOne, ask] at hl
      first
        | (simp only [AV.solid, cond_false] at hl; cases hl; done)
        | (simp only [AV.solid, cond_true, Option.some.injEq] at hl; exact hother rfl hl.symm)

include hV h tie in
theorem load_simple {keep : Bool} {T : TypeId} {x : Operand} {out : Out} (hm : loadOut G V keep T x = some out) {o : Oper} (ho : o.op = .load T x) : Simple G Wr g V st a w out ((execOp a.eval o).run P w) := by
  have hexec : execOp a.eval o = (do pure (.value (← Instr.loadAt T (a.eval x))) : Sem Next) := by simp [execOp, ho]
  rw [hexec]
  unfold loadOut at hm
  split at hm
  · rename_i cells off n agg hd hn ha
    obtain ⟨b, q, h1, h2⟩ := dest_rel hV h hd
    rw [h1]
    exact loadDeep_simple tie hn ha (h2.ok h.heap.ok) hm
  · rename_i p j off n agg hd hn ha
    have hD := dest_rel hV h hd
    obtain ⟨xs, b, q, y, h1, h2, h3, h4⟩ := view_row h hD
    rw [h3]
    have hgo : ∀ ys, loadElem agg ys j off n = some out → ys = xs → Simple G Wr g V st a w out ((do pure (.value (← Instr.loadAt T (.pointer (some ⟨b, q + off, none⟩)))) : Sem Next).run P w) := by
      rintro ys hl rfl
      unfold loadElem at hl
      rw [h2] at hl
      exact loadDeep_simple tie hn ha h4 hl
    split at hm
    · rename_i e ys hat
      have := hV.at_ (o := p) (by rw [hat]; simp)
      rw [hat] at this
      refine hgo ys hm ?_
      rcases h1 with ⟨e', h1⟩ | h1
      · rw [this] at h1; simp only [AV.own.injEq] at h1; exact h1.2
      · rw [this] at h1; cases h1
    · rename_i ys hat
      have := hV.at_ (o := p) (by rw [hat]; simp)
      rw [hat] at this
      refine hgo ys hm ?_
      rcases h1 with ⟨e', h1⟩ | h1
      · rw [this] at h1; cases h1
      · rw [this] at h1; simpa using h1
    · cases hm
  · rename_i id off n agg hd hn ha
    obtain ⟨h1, h2⟩ := dest_rel hV h hd
    rw [h1]
    split at hm
    · rename_i cs he
      unfold loadBox at hm
      split at hm
      · rename_i part hc
        cases agg with
        | true => exact loadAgg_simple hV h tie hn ha he hc hm
        | false => exact loadOne_simple hV h tie hn ha he hc hm
      · cases hm
    · cases hm
  · cases hm

end
end Go.Abs
end

section
namespace Go.Abs

section
variable {G : Ctx} {Wr : Nat → Prop} {P : Program}
variable {g : Gh} {V : Vw} {st : St} {a : Act} {w : World} (hV : Shows V st) (h : Inv G Wr g st a.tmps w) (tie : Ties G P)

include hV h in
theorem nilCheck_simple {x : Operand} {out : Out} (hm : nilCheckOut V x = some out) {o : Oper} (ho : o.op = .nilCheck x) : Simple G Wr g V st a w out ((execOp a.eval o).run P w) := by
  unfold nilCheckOut at hm
  split at hm
  · rename_i f cs hx
    simp only [Option.some.injEq] at hm; subst hm
    have := opnd_rel hV h hx (by simp) rfl
    simp only [VRel] at this
    have h2 := this
    simp only [Rep] at h2
    obtain ⟨us, h2, _⟩ := h2
    exact Simple.dv (by simp [execOp, ho, h2]) this
  · rename_i f cs hx
    simp only [Option.some.injEq] at hm; subst hm
    have := opnd_rel hV h hx (by simp) rfl
    have h2 := this
    simp only [VRel] at h2
    obtain ⟨us, h2, _⟩ := h2
    exact Simple.plain (by simp [execOp, ho, h2]) rfl this
  · split at hm
    · rename_i D hD
      simp only [Option.some.injEq] at hm; subst hm
      have h1 := dest_rel hV h hD
      refine DRel.simple ?_ h1
      obtain ⟨p, hp, _⟩ := h1.add 0
      simp [execOp, ho, hp]
    · cases hm

include hV h tie in
theorem fieldAddr_simple {T : TypeId} {x : Operand} {f : Nat} {out : Out} (hm : fieldAddrOut G V T x f = some out) {o : Oper} (ho : o.op = .fieldAddr T x f) : Simple G Wr g V st a w out ((execOp a.eval o).run P w) := by
  unfold fieldAddrOut at hm
  split at hm
  · rename_i fields D hu hD
    split at hm
    · rename_i fd hf
      split at hm
      · rename_i n hn
        cases hb : Nat.blt 0 n with
        | false => simp [hb] at hm
        | true =>
          simp only [hb, cond_true, Option.some.injEq] at hm; subst hm
          rw [blt_dec] at hb
          have hn0 : n ≠ 0 := by simp at hb; omega
          obtain ⟨p, hp, h1⟩ := (dest_rel hV h hD).add fd.offset
          refine DRel.simple ?_ h1
          have hf' : fields[f]? = some fd := by simpa using hf
          simp [execOp, ho, hp, Instr.fieldAt, tie.run_und hu, hf', Instr.sureAddr, fieldPlace, tie.run_size hn, hn0]
      · cases hm
    · cases hm
  · cases hm

theorem own_size {g : Gh} {T lk w p e xs u} (hr : OwnRel G Wr g T lk w p e xs u) : ∃ q cap, u = .slice q xs.length cap ∧ (xs = [] ∨ ∃ b size, q = some ⟨b, 0, none⟩ ∧ ∀ x ∈ xs, x.cells.length = size) := by
  rcases hr with ⟨rfl, rfl⟩ | ⟨b, cap, cur, ty, size, _, _, rfl, _, _, _, h7, _⟩
  · exact ⟨none, 0, rfl, .inl rfl⟩
  · exact ⟨_, cap, rfl, .inr ⟨b, size, rfl, h7⟩⟩

theorem run_indexAt_slice (tie : Ties G P) {T e : TypeId} (hu : G.und T = some (.slice e)) {k : Nat} (hk : G.size e = some k) (w : World) {b q n cap i : Nat} {kk : IntKind} (hi : i < n) :
    (Instr.indexAt T (.slice (some ⟨b, q, none⟩) n cap) (.int kk i)).run P w = .ok (.pointer (some ⟨b, q + i * k, none⟩)) w := by
  have hadd : (⟨b, q, none⟩ : Addr).add (i * k) = ⟨b, q + i * k, none⟩ := by unfold Addr.add; split <;> simp_all
  have : ((i : Nat) : Int) < (n : Int) := by omega
  simp [Instr.indexAt, asIntOf, tie.run_und hu, tie.run_size hk, this, hadd]
  omega

include hV h tie in
theorem indexAddr_simple {T : TypeId} {x j : Operand} {out : Out} (hm : indexAddrOut G V T x j = some out) {o : Oper} (ho : o.op = .indexAddr T x j) : Simple G Wr g V st a w out ((execOp a.eval o).run P w) := by
  have hexec : execOp a.eval o = (do pure (.value (← Instr.indexAt T (a.eval x) (a.eval j))) : Sem Next) := by simp [execOp, ho]
  rw [hexec]
  unfold indexAddrOut at hm
  split at hm
  · rename_i i n e hi hu
    obtain ⟨kk, hkk⟩ := idxOf_eval hV h hi
    split at hm
    · rename_i D k hD hk
      cases hb : Nat.blt i n && Nat.blt 0 k with
      | false => simp only [hb, cond_false] at hm; cases hm
      | true =>
        simp only [hb, cond_true, Option.some.injEq] at hm; subst hm
        simp only [blt_dec, Bool.and_eq_true, decide_eq_true_eq] at hb
        obtain ⟨p, hp, h1⟩ := (dest_rel hV h hD).add (i * k)
        refine DRel.simple ?_ h1
        have hlt : ((i : Nat) : Int) < (n : Int) := by omega
        simp [hp, hkk, Instr.indexAt, asIntOf, tie.run_und hu, Instr.sureAddr, tie.run_size hk, hlt]
        omega
    · cases hm
  · rename_i i e hi hu
    obtain ⟨kk, hkk⟩ := idxOf_eval hV h hi
    rw [hkk]
    split at hm
    · rename_i k xs hk hx
      split at hm
      · rename_i y hy
        cases hb : Nat.beq y.cells.length k && Nat.blt 0 k with
        | false => simp only [hb, cond_false] at hm; cases hm
        | true =>
          simp only [hb, cond_true, Option.some.injEq] at hm; subst hm
          simp only [beq_dec, blt_dec, Bool.and_eq_true, decide_eq_true_eq] at hb
          have h1 := opnd_rel hV h hx (by simp) rfl
          simp only [VRel] at h1
          obtain ⟨q, cap, hq⟩ := h1.lst_len
          have hlt : i < xs.length := (List.getElem?_eq_some_iff.1 hy).1
          have h2 := h1
          rw [hq] at h2
          simp only [Rep] at h2
          obtain ⟨a', cap', hv', hn', hc⟩ := h2
          simp only [Value.slice.injEq] at hv'
          obtain ⟨rfl, _, rfl⟩ := hv'
          rcases hc with rfl | ⟨b, q', k', rfl, hk', he⟩
          · simp at hlt
          · have hkk' : k' = k := by rw [← hk' y (List.mem_of_getElem? hy)]; exact hb.1
            subst hkk'
            rw [RepElems_iff _ _ _ hk'] at he
            have hrow := he.elem hk' hy
            rw [hq]
            refine Simple.dv (v := .pointer (some ⟨b, q' + i * k', none⟩)) (by rw [Sem.run_bind, run_indexAt_slice tie hu hk w hlt]; rfl) ?_
            simp only [Rep]
            refine ⟨b, q' + i * k', rfl, (RepRow_iff _ _ _).2 ?_⟩
            intro c d hc
            obtain ⟨v, hv, hd⟩ := hrow c d hc
            exact ⟨v, by show g.F.cell b (q' + i * k' + c) = some v; rw [Nat.add_assoc]; exact hv, hd⟩
      · cases hm
    · rename_i k p m hk hx
      split at hm
      · rename_i ys hs
        split at hm
        · rename_i y hy
          cases hb : Nat.beq y.cells.length k && Nat.blt 0 k with
          | false => simp only [hb, cond_false] at hm; cases hm
          | true =>
            simp only [hb, cond_true, Option.some.injEq] at hm; subst hm
            simp only [beq_dec, blt_dec, Bool.and_eq_true, decide_eq_true_eq] at hb
            obtain ⟨t, rfl, ht, h1, h2⟩ := opnd_view hV h hx rfl
            simp only [ViewRel] at h2
            obtain ⟨xs, q, cap, hat, hpv, hev, hm'⟩ := h2
            -- the list that is seen
            have hys : ys = xs.take m := by
              unfold see at hs
              split at hs
              · rename_i e' zs hz
                have := hV.at_ (o := p) (by rw [hz]; simp)
                rw [hz] at this
                simp only [Option.some.injEq] at hs
                rcases hat with ⟨e2, hat⟩ | hat
                · rw [this] at hat; simp only [AV.own.injEq] at hat; rw [← hs, hat.2]
                · rw [this] at hat; cases hat
              · rename_i zs hz
                have := hV.at_ (o := p) (by rw [hz]; simp)
                rw [hz] at this
                simp only [Option.some.injEq] at hs
                rcases hat with ⟨e2, hat⟩ | hat
                · rw [this] at hat; cases hat
                · rw [this] at hat; simp only [AV.dv.injEq, DV.lst.injEq] at hat; rw [← hs, hat]
              · cases hs
            subst hys
            have him : i < m := by
              have := (List.getElem?_eq_some_iff.1 hy).1
              simp only [List.length_take] at this; omega
            have hy' : xs[i]? = some y := by rw [List.getElem?_take, if_pos him] at hy; exact hy
            have hne : xs ≠ [] := by rintro rfl; simp at hy'
            have hbase : ∃ b q' size, q = some ⟨b, q', none⟩ ∧ ∀ z ∈ xs, z.cells.length = size := by
              rcases hat with ⟨e2, hat⟩ | hat
              · obtain ⟨u, k1, k2⟩ := h.place p _ hat (by simp) rfl
                rw [hpv] at k1
                simp only [Option.some.injEq] at k1; subst k1
                obtain ⟨q2, cap2, k3, k4⟩ := own_size (by simpa only [PRel] using k2)
                simp only [Value.slice.injEq] at k3
                obtain ⟨rfl, _, _⟩ := k3
                rcases k4 with rfl | ⟨b, size, rfl, hsz⟩
                · exact absurd rfl hne
                · exact ⟨b, 0, size, rfl, hsz⟩
              · obtain ⟨u, k1, k2⟩ := h.place p _ hat (by simp) rfl
                rw [hpv] at k1
                simp only [Option.some.injEq] at k1; subst k1
                simp only [PRel, VRel, Rep] at k2
                obtain ⟨a', cap', hv', hn', hc⟩ := k2
                simp only [Value.slice.injEq] at hv'
                obtain ⟨rfl, _, rfl⟩ := hv'
                rcases hc with rfl | ⟨b, q', k', rfl, hk', he⟩
                · exact absurd rfl hne
                · exact ⟨b, q', k', rfl, hk'⟩
            obtain ⟨b, q', size, rfl, hsz⟩ := hbase
            have : size = k := by rw [← hsz y (List.mem_of_getElem? hy')]; exact hb.1
            subst this
            rw [hev]
            refine ⟨_, [], .pointer (some ⟨b, q' + i * size, none⟩), rfl, by rw [Sem.run_bind, run_indexAt_slice tie hu hk w him]; rfl, by simp, fun g' st' hg h' hf hst => ?_⟩
            simp only [isView, if_true]
            simp only [List.foldl_nil] at hst
            subst hst
            simp only [ViewRel]
            exact ⟨xs, b, q', cap, size, y, hat, by rw [hg.θ]; exact hpv, hy', hsz, by simp⟩
        · cases hm
      · cases hm
    · rename_i k e' ys hk hx
      split at hm
      · rename_i t y hy
        cases hb : Nat.beq y.cells.length k && Nat.blt 0 k with
        | false => simp only [hb, cond_false] at hm; cases hm
        | true =>
          simp only [hb, cond_true, Option.some.injEq] at hm; subst hm
          simp only [beq_dec, blt_dec, Bool.and_eq_true, decide_eq_true_eq] at hb
          obtain ⟨t', ht', ht, h1, h2⟩ := opnd_own hV h hx
          simp only [Operand.tmp.injEq] at ht'; subst ht'
          have hlt : i < ys.length := (List.getElem?_eq_some_iff.1 hy).1
          obtain ⟨q, cap, k3, k4⟩ := own_size h2
          rcases k4 with rfl | ⟨b, size, rfl, hsz⟩
          · simp at hlt
          · have : size = k := by rw [← hsz y (List.mem_of_getElem? hy)]; exact hb.1
            subst this
            rw [k3] at h1 ⊢
            refine ⟨_, [], .pointer (some ⟨b, 0 + i * size, none⟩), rfl, by rw [Sem.run_bind, run_indexAt_slice tie hu hk w hlt]; rfl, by simp, fun g' st' hg h' hf hst => ?_⟩
            simp only [isView, if_true]
            simp only [List.foldl_nil] at hst
            subst hst
            simp only [ViewRel]
            exact ⟨ys, b, 0, cap, size, y, .inl ⟨e', ht⟩, h1, hy, hsz, by simp⟩
      · cases hm
    · cases hm
  · cases hm

end
end Go.Abs
end

section
namespace Go.Abs

section
variable {G : Ctx} {Wr : Nat → Prop} {P : Program}
variable {g : Gh} {V : Vw} {st : St} {a : Act} {w : World} (hV : Shows V st) (h : Inv G Wr g st a.tmps w) (tie : Ties G P)

/-! ## Texts -/

theorem eqL_iff : ∀ {x y : List UInt8}, eqL x y = true ↔ x = y
  | [], [] => by simp [eqL]
  | [], _ :: _ => by simp [eqL]
  | _ :: _, [] => by simp [eqL]
  | x :: r, y :: q => by
    simp only [eqL, beq_dec]
    by_cases hxy : x.toNat = y.toNat
    · have : x = y := UInt8.toNat_inj.1 hxy
      subst this
      simp [eqL_iff (x := r) (y := q)]
    · have : x ≠ y := fun h => hxy (by rw [h])
      simp [hxy, this]
theorem toList_data (b : ByteArray) : b.toList = b.data.toList := ByteArray.toList_eq b
theorem eqB_iff {x y : ByteArray} : eqB x y = true ↔ x = y := by
  unfold eqB
  rw [eqL_iff]
  constructor
  · intro hxy
    cases x; cases y
    simp only [ByteArray.mk.injEq]
    exact Array.ext' hxy
  · rintro rfl; rfl
theorem eqB_toList (x y : ByteArray) : eqB x y = (x.toList == y.toList) := by
  rw [toList_data, toList_data]
  unfold eqB
  rw [Bool.eq_iff_iff, eqL_iff, beq_iff_eq]
theorem ltL_eq : ∀ (x y : List UInt8), ltL x y = Op.bytesLess x y
  | [], [] => rfl
  | [], _ :: _ => rfl
  | _ :: _, [] => rfl
  | x :: r, y :: q => by
    simp only [ltL, Op.bytesLess, blt_dec, beq_dec, ltL_eq r q]
    by_cases h1 : x < y
    · have : x.toNat < y.toNat := UInt8.lt_iff_toNat_lt.1 h1
      simp [this, h1]
    · have h1' : ¬ x.toNat < y.toNat := fun h => h1 (UInt8.lt_iff_toNat_lt.2 h)
      by_cases h2 : x = y
      · subst h2; simp
      · have : x.toNat ≠ y.toNat := fun h => h2 (UInt8.toNat_inj.1 h)
        simp [h1', h1, this, h2]
theorem length_data (b : ByteArray) : b.data.toList.length = b.size := by simp
theorem catB_eq (x y : ByteArray) : catB x y = x ++ y := by
  apply ByteArray.ext
  simp [catB]
theorem subB_eq (b : ByteArray) (l hh : Nat) : subB b l hh = b.extract l hh := by
  apply ByteArray.ext
  apply Array.ext'
  simp only [subB]
  rw [ByteArray.data_extract]
  simp [List.extract_eq_drop_take', List.take_drop]
  rcases Nat.le_total l hh with hle | hle
  · rw [show l + (hh - l) = hh by omega]
  · rw [List.drop_eq_nil_of_le (by simp; omega), List.drop_eq_nil_of_le (by simp; omega)]

/-! ## Numbers -/

theorem intLe_iff {x y : Int} : intLe x y = decide (x ≤ y) := by
  cases x <;> cases y <;> simp [intLe, ble_dec] <;> omega
theorem intEq_iff {x y : Int} : intEq x y = decide (x = y) := by
  cases x <;> cases y <;> simp [intEq, beq_dec] <;> omega
theorem wrapI_eq (k : IntKind) (n : Int) : wrapI k n = k.wrap n := by
  unfold wrapI
  cases hb : intLe (kindLo k) n && intLe n (kindHi k) with
  | false => rfl
  | true =>
    simp only [intLe_iff, Bool.and_eq_true, decide_eq_true_eq] at hb
    simp only [cond_true]
    cases k <;> simp [kindLo, kindHi] at hb <;> simp [IntKind.wrap, IntKind.bits, IntKind.signed] <;> omega
theorem kindEq_iff {k j : IntKind} : kindEq k j = true ↔ k = j := by cases k <;> cases j <;> simp [kindEq]

include hV h in
theorem unOp_simple {op : UnOp} {T : TypeId} {x : Operand} {out : Out} (hm : unOut V op x = some out) {o : Oper} (ho : o.op = .unOp op T x) : Simple G Wr g V st a w out ((execOp a.eval o).run P w) := by
  unfold unOut at hm
  split at hm
  · rename_i b hx
    simp only [Option.some.injEq] at hm; subst hm
    have := scalar_rep hV h hx
    simp only [Rep] at this
    exact Simple.dv (v := .bool !b) (by simp [execOp, ho, this, Op.unary]) (by simp only [Rep])
  · rename_i k n hx
    simp only [Option.some.injEq] at hm; subst hm
    have := scalar_rep hV h hx
    simp only [Rep] at this
    exact Simple.dv (v := .int k (k.wrap (0 - n))) (by simp [execOp, ho, this, Op.unary, Op.intArith]) (by simp only [Rep, wrapI_eq])
  · cases hm

include hV h tie in
theorem convert_simple {S T : TypeId} {x : Operand} {out : Out} (hm : convertOut G V S T x = some out) {o : Oper} (ho : o.op = .convert S T x) : Simple G Wr g V st a w out ((execOp a.eval o).run P w) := by
  unfold convertOut at hm
  split at hm
  · rename_i k1 k k2 n h1 h2 hx
    simp only [Option.some.injEq] at hm; subst hm
    have := scalar_rep hV h hx
    simp only [Rep] at this
    exact Simple.dv (v := .int k (k.wrap n)) (by simp [execOp, ho, this, convert, tie.run_und h1, tie.run_und h2, Conv.intToInt]) (by simp only [Rep, wrapI_eq])
  · rename_i b h1 h2 hx
    simp only [Option.some.injEq] at hm; subst hm
    have := scalar_rep hV h hx
    simp only [Rep] at this
    exact Simple.dv (v := .string b) (by simp [execOp, ho, this, convert, tie.run_und h1, tie.run_und h2]) (by simp only [Rep])
  · cases hm

theorem eqGuard_int (op : BinOp) (T : TypeId) (x y : Operand) (k k' : IntKind) (m n : Int) : (eqGuard op T x y (.int k m) (.int k' n)).run P w = .ok () w := by
  unfold eqGuard; cases op <;> simp
theorem eqGuard_str (op : BinOp) (T : TypeId) (x y : Operand) (m n : ByteArray) : (eqGuard op T x y (.string m) (.string n)).run P w = .ok () w := by
  unfold eqGuard; cases op <;> simp

theorem intBin_run {op : BinOp} {T : TypeId} {k : IntKind} {m n : Int} {d : DV} (hb : intBin op T k m n = some d) : ∃ v, (binOp op T (.int k m) (.int k n)).run P w = .ok v w ∧ ∀ F, Rep F d v := by
  have gen : ∀ op', (match binOp op' T (.int k m) (.int k n) with | .pure (.int k n) => some (DV.int k n) | _ => none) = some d → ∃ v, (binOp op' T (.int k m) (.int k n)).run P w = .ok v w ∧ ∀ F, Rep F d v := by
    intro op' h'
    split at h'
    · rename_i k' n' heq
      simp only [Option.some.injEq] at h'; subst h'
      exact ⟨.int k' n', by rw [heq]; rfl, fun F => by simp only [Rep]⟩
    · cases h'
  cases op
  all_goals first
    | (simp only [intBin] at hb; exact gen _ hb)
    | (simp only [intBin, Option.some.injEq] at hb; subst hb
       refine ⟨_, by simp [binOp, Op.intArith, Op.intCmp]; rfl, fun F => ?_⟩
       simp only [Rep, wrapI_eq, intLe_iff, intEq_iff]
       try simp
       try (rw [Bool.eq_iff_iff]; simp; try omega))

theorem strBin_run {op : BinOp} {T : TypeId} {m n : ByteArray} {d : DV} (hb : strBin op m n = some d) : ∃ v, (binOp op T (.string m) (.string n)).run P w = .ok v w ∧ ∀ F, Rep F d v := by
  have hlt : ltL m.data.toList n.data.toList = Op.bytesLess m.toList n.toList := by rw [ltL_eq, toList_data, toList_data]
  cases op
  case add =>
    simp only [strBin] at hb
    cases hc : Nat.ble (m.data.toList.length + n.data.toList.length) 9223372036854775807 with
    | false => rw [hc] at hb; cases hb
    | true =>
      simp only [hc, cond_true, Option.some.injEq] at hb; subst hb
      rw [ble_dec, length_data, length_data] at hc
      simp only [decide_eq_true_eq] at hc
      have : ¬ ((m.size + n.size : Nat) : Int) > IntKind.i64.max := by simp [IntKind.max, IntKind.signed, IntKind.bits]; omega
      refine ⟨.string (m ++ n), ?_, fun F => by simp only [Rep, catB_eq]⟩
      simp only [binOp, Op.stringOp, if_neg this]
      rfl
  all_goals first
    | (simp only [strBin] at hb; cases hb; done)
    | (simp only [strBin, Option.some.injEq] at hb; subst hb
       exact ⟨_, by simp only [binOp, Op.stringOp]; rfl, fun F => by simp only [Rep, hlt, eqB_toList]⟩)

theorem eqFlat_run {d : TypeDesc} {x y : DV} {b : Bool} (hb : eqFlat d x y = some b) {F : Fz} {u v : Value} (hu : Rep F x u) (hv : Rep F y v) {e : TypeId} (he : P.underlying e = some d) (n : Nat) :
    (Op.equalIn (n + 1) e u v).run P w = .ok b w ∧ isAggT d = false := by
  unfold eqFlat at hb
  split at hb
  · simp only [Rep] at hu hv; subst hu hv
    simp only [Option.some.injEq] at hb; subst hb
    simp [Op.equalIn, underlying, he, isAggT]
  · simp only [Rep] at hu hv; subst hu hv
    split at hb
    · rename_i hk
      simp only [Option.some.injEq] at hb; subst hb
      simp [Op.equalIn, underlying, he, hk, isAggT]
    · cases hb
  · simp only [Rep] at hu hv; subst hu hv
    simp only [Option.some.injEq] at hb; subst hb
    rw [eqB_toList]
    simp [Op.equalIn, underlying, he, isAggT, beq_toListBytes]
  · cases hb

end
end Go.Abs
end
