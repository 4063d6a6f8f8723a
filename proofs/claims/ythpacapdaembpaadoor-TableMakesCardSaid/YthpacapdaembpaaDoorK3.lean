import Derived.Test.YthpacapdaembpaaDoorK2
import Derived.Maps.AppendAt
import Derived.Laws.StructEq
open Go Go.RowKit
set_option linter.unusedVariables false
set_option linter.unusedSimpArgs false
namespace Go.Proofs.YthpacapdaembpaaDoor.K

abbrev Env := Array Value
abbrev Kont := Value → Hp → Prop
abbrev ev (env : Env) (x : Operand) : Value := (Act.mk env []).eval x
def putE (env : Env) (d : Option Tmp) (v : Value) : Env := (Act.put ⟨env, []⟩ d v).tmps

/-! ### What operations do, in words without the program -/

def mapA {α β : Type} (f : α → β) (xs : Array α) : Array β := (xs.toList.map f).toArray
theorem mapA_eq {α β : Type} (f : α → β) (xs : Array α) : mapA f xs = xs.map f := by
  apply Array.toList_inj.1
  simp [mapA]
def appA (xs ys : Array Value) : Array Value := (xs.toList ++ ys.toList).toArray
theorem appA_eq (xs ys : Array Value) : appA xs ys = xs ++ ys := by simp [appA]

/-- A load reads this. -/
def ldV (h : Hp) (agg : Bool) (sz : Nat) (p v : Value) : Prop :=
  match p with
  | .pointer (some ⟨b, o, none⟩) => ∃ cs, h.row b cs ∧ (if agg = true then o + sz ≤ cs.length ∧ v = .agg ((cs.drop o).take sz).toArray else cs[o]? = some v)
  | _ => False
def pv (o : Option Value) (K : Kont) (h : Hp) : Prop := ∃ v, o = some v ∧ K v h
def ld (agg : Bool) (sz : Nat) (p : Value) (K : Kont) (h : Hp) : Prop := ∃ v, ldV h agg sz p v ∧ K v h
def stCells (p : Value) (vs : List Value) (K : Hp → Prop) (h : Hp) : Prop :=
  ∃ b o e cs tot, p = .pointer (some ⟨b, o, none⟩) ∧ h.M b = some (.cells e cs tot) ∧ (∀ c ∈ vs, c.oneCell' = true) ∧ o + vs.length ≤ cs.length ∧ K (h.set b (.cells e (splice cs o vs) tot))
def st (sz : Nat) (p v : Value) (K : Kont) (h : Hp) : Prop := v.cells.size = sz ∧ stCells p v.cells.toList (K undef) h
/-- A new row of these cells. -/
def nw (t : TypeId) (cells : List Value) (K : Kont) (h : Hp) : Prop := ∀ b, h.nx ≤ b → K (.pointer (some ⟨b, 0, none⟩)) (h.new b (.cells t cells cells.length))
def nws (t : TypeId) (n : Nat) (cells : Option (Array Value)) (K : Kont) (h : Hp) : Prop :=
  ∃ cs, cells = some cs ∧ ∀ b, h.nx ≤ b → K (.slice (some ⟨b, 0, none⟩) n n) (h.new b (.cells t cs.toList cs.size))
def faV (off : Nat) : Value → Option Value
  | .pointer (some ⟨b, o, none⟩) => some (.pointer (some ⟨b, o + off, none⟩))
  | _ => none
def fdV (agg : Bool) (off sz : Nat) : Value → Option Value
  | .agg cs => if agg then some (.agg (cs.extract off (off + sz))) else cs[off]?
  | _ => none
/-- The place of an element; arr: how many an array has. -/
def iaV (arr : Option Nat) (sz : Nat) : Value → Value → Option Value
  | .slice (some ⟨b, o, none⟩) n _, .int _ i => if arr = none ∧ 0 ≤ i ∧ i < n then some (.pointer (some ⟨b, o + i.toNat * sz, none⟩)) else none
  | .pointer (some ⟨b, o, none⟩), .int _ i => match arr with
    | some n => if 0 ≤ i ∧ i < (n : Int) then some (.pointer (some ⟨b, o + i.toNat * sz, none⟩)) else none
    | none => none
  | _, _ => none
def ixV : Value → Value → Option Value
  | .string s, .int _ i => if 0 ≤ i then (s[i.toNat]?).map (fun b => .int .u8 b.toNat) else none
  | _, _ => none
def nilV : Value → Option Value
  | .pointer none | .nilIface | .nilFunc => none
  | .func (.method _) _ _ => none
  | v => some v
def pickV : Value → Value → Value → Option Value
  | .bool t, a, b => some (if t then a else b)
  | _, _, _ => none
def exV (i : Nat) : Value → Option Value
  | .tuple vs => vs[i]?
  | _ => none
/-- What an operation on two whole numbers comes to. -/
def intV (op : BinOp) (k : IntKind) (a b : Int) : Option Value :=
  match op with
  | .add => some (.int k (k.wrap (a + b)))
  | .sub => some (.int k (k.wrap (a - b)))
  | .mul => some (.int k (k.wrap (a * b)))
  | .quo => if b = 0 then none else some (.int k (k.wrap (a.tdiv b)))
  | .rem => if b = 0 then none else some (.int k (a.tmod b))
  | .and => some (.int k (k.wrap (BitVec.ofInt k.bits a &&& BitVec.ofInt k.bits b).toNat))
  | .or => some (.int k (k.wrap (BitVec.ofInt k.bits a ||| BitVec.ofInt k.bits b).toNat))
  | .xor => some (.int k (k.wrap (BitVec.ofInt k.bits a ^^^ BitVec.ofInt k.bits b).toNat))
  | .andNot => some (.int k (k.wrap (BitVec.ofInt k.bits a &&& ~~~ BitVec.ofInt k.bits b).toNat))
  | .eql => some (.bool (a == b))
  | .neq => some (.bool (a != b))
  | .lss => some (.bool (decide (a < b)))
  | .leq => some (.bool (decide (a ≤ b)))
  | .gtr => some (.bool (decide (a > b)))
  | .geq => some (.bool (decide (a ≥ b)))
  | _ => none
def shiftV (op : BinOp) (k : IntKind) (x : Int) (y : Int) : Option Value :=
  if y < 0 then none else match op with
  | .shl => some (.int k (k.wrap (x * 2 ^ (min y.toNat k.bits))))
  | .shr => some (.int k (x.fdiv (2 ^ (min y.toNat k.bits))))
  | _ => none
/-- Which comparing a type has. -/
inductive EqK | none | bool | ptr | slc | map | fn
/-- 0: whole numbers, 1: bools, else: strings. -/
def flatV : Nat → Value → Value → Option Bool
  | 0, .int k a, .int k' b => if k = k' then some (a == b) else none
  | 1, .bool a, .bool b => some (a == b)
  | 2, .string a, .string b => some (a.toList == b.toList)
  | _, _, _ => none
def flatVs : List Nat → List Value → List Value → Option Bool
  | [], [], [] => some true
  | c :: cs, x :: xs, y :: ys => match flatV c x y with
    | some true => flatVs cs xs ys
    | some false => some false
    | none => none
  | _, _, _ => none
def eqV (e : EqK) : Value → Value → Option Bool
  | .bool a, .bool b => match e with | .bool => some (a == b) | _ => none
  | .pointer none, .pointer b => match e with | .ptr => some b.isNone | _ => none
  | .pointer (some _), .pointer none => match e with | .ptr => some false | _ => none
  | .slice none _ _, .slice b _ _ => match e with | .slc => some b.isNone | _ => none
  | .slice (some _) _ _, .slice none _ _ => match e with | .slc => some false | _ => none
  | .map none, .map b => match e with | .map => some b.isNone | _ => none
  | .map (some _), .map none => match e with | .map => some false | _ => none
  | .nilFunc, .nilFunc => match e with | .fn => some true | _ => none
  | .nilFunc, .func _ _ _ => match e with | .fn => some false | _ => none
  | .func _ _ _, .nilFunc => match e with | .fn => some false | _ => none
  | _, _ => none
def strV (op : BinOp) (x y : ByteArray) : Option Value :=
  match op with
  | .add => if ((x.size + y.size : Nat) : Int) > IntKind.i64.max then none else some (.string (x ++ y))
  | .eql => some (.bool (x.toList == y.toList))
  | .neq => some (.bool !(x.toList == y.toList))
  | .lss => some (.bool (Op.bytesLess x.toList y.toList))
  | .leq => some (.bool (Op.bytesLess x.toList y.toList || x.toList == y.toList))
  | .gtr => some (.bool !(Op.bytesLess x.toList y.toList || x.toList == y.toList))
  | .geq => some (.bool !(Op.bytesLess x.toList y.toList))
  | _ => none
def binV (e : EqK) (op : BinOp) (x y : Value) : Option Value :=
  match x, y with
  | .int k a, .int k' b => match op with
    | .shl | .shr => shiftV op k a b
    | _ => if k = k' then intV op k a b else none
  | .string a, .string b => strV op a b
  | x, y => match op with
    | .eql => (eqV e x y).map .bool
    | .neq => (eqV e x y).map fun b => .bool !b
    | _ => none
def unV (op : UnOp) : Value → Option Value
  | .bool b => match op with | .not => some (.bool !b) | _ => none
  | .int k n => match op with
    | .neg => some (.int k (k.wrap (0 - n)))
    | .xor => intV .xor k (if k.signed then -1 else k.max) n
    | _ => none
  | _ => none
def cvV (k : IntKind) : Value → Option Value
  | .int _ n => some (.int k (k.wrap n))
  | _ => none
def ifcV (t : TypeId) (x : Value) : Option Value := some (.iface t x)
def idxOf : Value → Option Int
  | .int _ i => some i
  | _ => none
def bnd (d : Option Int) : Option Value → Option Int
  | none => d
  | some v => idxOf v
/-- A slice of a slice. -/
def slV (sz : Nat) (x : Value) (lo hi mx : Option Value) : Option Value :=
  match x with
  | .slice a len cap =>
    match bnd (some cap) mx, (bnd (some len) hi), bnd (some 0) lo with
    | some m, some h, some l =>
      if 0 ≤ l ∧ l ≤ h ∧ h ≤ m ∧ m ≤ cap ∧ (hi = none → mx = none ∧ (len : Int) ≤ cap) then
        some (.slice (if m = l then a else a.map (·.add (l.toNat * sz))) (h - l).toNat (m - l).toNat) else none
    | _, _, _ => none
  | _ => none
/-- An array's place as a slice of all of it. -/
def arrS (n : Nat) : Value → Value
  | .pointer (some a) => .slice (some a) n n
  | _ => undef
/-- A slice of a string. -/
def slT (x : Value) (lo hi mx : Option Value) : Option Value :=
  match x with
  | .string s =>
    match mx, (bnd (some s.size) hi), bnd (some 0) lo with
    | none, some h, some l => if 0 ≤ l ∧ l ≤ h ∧ h ≤ s.size then some (.string (s.extract l.toNat h.toNat)) else none
    | _, _, _ => none
  | _ => none
def lenV : Value → Option Value
  | .slice _ n _ => some (.int .i64 n)
  | _ => none
def lenT : Value → Option Value
  | .string s => some (.int .i64 s.size)
  | _ => none
def mm (max : Bool) : Value → Value → Option Value
  | .int k x, .int _ y => some (.int k (if max then (if y > x then y else x) else (if y < x then y else x)))
  | _, _ => none
/-- What an owned slice of n elements holds. -/
def sOwn (h : Hp) (e : TypeId) (sz : Nat) (s : Value) (n : Nat) (cs : List Value) : Prop :=
  cs.length = n * sz ∧ ((s = .slice none 0 0 ∧ n = 0) ∨ ∃ b c, s = .slice (some ⟨b, 0, none⟩) n c ∧ n ≤ c ∧ c ≤ maxLen ∧ ∃ rest, h.M b = some (.cells e (cs ++ rest) (c * sz)))
/-- What a slice of m elements reads as. -/
def sRead (h : Hp) (sz : Nat) (x : Value) (m : Nat) (news : List Value) : Prop :=
  news.length = m * sz ∧ ((∃ a c, x = .slice a m c ∧ m = 0) ∨ ∃ b o c cs, x = .slice (some ⟨b, o, none⟩) m c ∧ (m = 0 ∨ h.row b cs ∧ (cs.drop o).take (m * sz) = news))
/-- Nothing is known of the slice's row any more. -/
def forget (M : Nat → Option Chunk) (s : Value) : Nat → Option Chunk := match s.ownBlock with
  | some b => upd M b none
  | none => M
def Hp.moved (h : Hp) (s : Value) (b : Nat) (c : Chunk) : Hp :=
  ⟨h.F, upd (forget h.M s) b (some c), max h.nx (b + 1)⟩
def app (e : TypeId) (sz bytes : Nat) (s x : Value) (K : Kont) (h : Hp) : Prop :=
  ∃ n cs m news, sOwn h e sz s n cs ∧ sRead h sz x m news ∧ (∀ c ∈ news, c.oneCell' = true) ∧ (n + m) * bytes ≤ 140737488355328 ∧ n + m ≤ maxLen ∧
    (s = .slice none 0 0 → m = 0 → K (.slice none 0 0) h) ∧
    (s ≠ .slice none 0 0 ∨ m ≠ 0 → ∀ b c, (h.nx ≤ b ∨ s.ownBlock = some b) → n + m ≤ c → c ≤ maxLen → K (.slice (some ⟨b, 0, none⟩) (n + m) c) (h.moved s b (.cells e (cs ++ news) (c * sz))))
def cpy (sz : Nat) (d s : Value) (K : Kont) (h : Hp) : Prop :=
  ∃ b o dn dc e cs tot m news, d = .slice (some ⟨b, o, none⟩) dn dc ∧ h.M b = some (.cells e cs tot) ∧ sRead h sz s m news ∧ (∀ c ∈ news.take (min m dn * sz), c.oneCell' = true) ∧
    o + (min m dn) * sz ≤ cs.length ∧ K (.int .i64 (min m dn : Nat)) (h.set b (.cells e (splice cs o (news.take (min m dn * sz))) tot))
def mks (e : TypeId) (z : List Value) (sz bytes : Nat) (l c : Value) (K : Kont) (h : Hp) : Prop :=
  ∃ kl n kc m, l = .int kl (n : Nat) ∧ c = .int kc (m : Nat) ∧ n ≤ m ∧ m * bytes ≤ 140737488355328 ∧ m ≤ maxLen ∧
    ∀ b, h.nx ≤ b → K (.slice (some ⟨b, 0, none⟩) n m) (h.new b (.cells e (List.replicate n z).flatten (m * sz)))
/-- Both, in whichever order it is done. -/
def bth (A B : Hp → Prop) (h : Hp) : Prop := A h ∧ B h
/-- A new map. -/
def mkm (K : Kont) (h : Hp) : Prop := ∀ b, h.nx ≤ b → K (.map (some b)) (h.new b (.obj (.map #[] 0)))
/-- A map is asked, whatever the world: one that has this map at its place. -/
def lkp (P : Program) (t : TypeId) (x ix : Value) (ok : Bool) (K : Kont) (h : Hp) : Prop :=
  ∃ b es clock v, x = .map (some b) ∧ h.M b = some (.obj (.map es clock)) ∧ (∀ w : World, w.heap[b]? = some (.map es clock) → (Instr.lookup t x ix ok).run P w = .ok v w) ∧ K v h
/-- A map is changed. -/
def mup (P : Program) (t : TypeId) (m k x : Value) (K : Kont) (h : Hp) : Prop :=
  ∃ b es clock es' clock', m = .map (some b) ∧ h.M b = some (.obj (.map es clock)) ∧
    (∀ w : World, w.heap[b]? = some (.map es clock) → (Instr.mapUpdate t m k x).run P w = .ok () { w with heap := w.heap.setIfInBounds b (.map es' clock') }) ∧ K undef (h.set b (.obj (.map es' clock')))
/-- Bytes as a string. -/
def bsV (h : Hp) (x v : Value) : Prop := ∃ (m : Nat) (ns : List Int), sRead h 1 x m (ns.map (fun n => .int .u8 n)) ∧ v = .string ⟨(ns.map (fun n => UInt8.ofNat (Int.toNat n))).toArray⟩
def bs (x : Value) (K : Kont) (h : Hp) : Prop := ∃ v, bsV h x v ∧ K v h
/-- An append that stays in its row, where the row is known to be long enough. -/
def appIn (e : TypeId) (sz : Nat) (s x : Value) (K : Kont) (h : Hp) : Prop :=
  ∃ b n c cs m news, s = .slice (some ⟨b, 0, none⟩) n c ∧ h.M b = some (.cells e cs (c * sz)) ∧ sRead h sz x m news ∧ (∀ c ∈ news, c.oneCell' = true) ∧ n + m ≤ c ∧ (n + m) * sz ≤ cs.length ∧
    K (.slice (some ⟨b, 0, none⟩) (n + m) c) (h.set b (.cells e (splice cs (n * sz) news) (c * sz)))
/-- An append of m noughts, where there is no room. -/
def appZ (e : TypeId) (z : List Value) (sz bytes : Nat) (s x : Value) (K : Kont) (h : Hp) : Prop :=
  ∃ (a : Option Addr) (n c : Nat) (olds : List Value) (m : Nat) (k : IntKind), s = .slice a n c ∧ x = .int k (m : Nat) ∧ sRead h sz s n olds ∧ n ≤ c ∧ c < n + m ∧ (n + m) * bytes ≤ 140737488355328 ∧ n + m ≤ maxLen ∧
    ∀ b' c', h.nx ≤ b' → n + m ≤ c' → c' ≤ maxLen → K (.slice (some ⟨b', 0, none⟩) (n + m) c') (h.new b' (.cells e (olds ++ (List.replicate m z).flatten) (c' * sz)))
def appX (e : TypeId) (sz bytes : Nat) (s x : Value) (K : Kont) (h : Hp) : Prop := app e sz bytes s x K h ∨ appIn e sz s x K h
/-- A slice's elements are nought now. -/
def clr (e : TypeId) (z : List Value) (sz : Nat) (x : Value) (K : Kont) (h : Hp) : Prop :=
  (∃ a c, x = .slice a 0 c ∧ K (.tuple #[]) h) ∨
  ∃ b o n c e' cs tot, x = .slice (some ⟨b, o, none⟩) n c ∧ 0 < n ∧ h.M b = some (.cells e' cs tot) ∧ (∀ c ∈ z, c.oneCell' = true) ∧ o + n * sz ≤ cs.length ∧
    K (.tuple #[]) (h.set b (.cells e' (splice cs o (List.replicate n z).flatten) tot))
def capV : Value → Option Value
  | .slice _ _ n => some (.int .i64 n)
  | _ => none
/-- Nobody turns this row any more. -/
def Hp.frz (h : Hp) (b : Nat) (cs : List Value) : Hp := ⟨upd h.F b (some cs), upd h.M b none, h.nx⟩
def mk (x : Value) (K : Kont) (h : Hp) : Prop := ∃ b n c e cs tot, x = .slice (some ⟨b, 0, none⟩) n c ∧ h.M b = some (.cells e cs tot) ∧ K x (h.frz b cs)
/-- A string's bytes, in new memory. -/
def sb (s : Value) (K : Kont) (h : Hp) : Prop := ∃ t, s = .string t ∧ ∀ b c, h.nx ≤ b → t.size ≤ c → K (.slice (some ⟨b, 0, none⟩) t.size c) ⟨upd h.F b (some (t.data.toList.map fun x => .int .u8 x.toNat)), h.M, b + 1⟩
/-- A function is called. -/
def call (P : Program) (f : FuncId) (args : Array Value) (K : Kont) (E : List PanicEntry → Hp → Prop) (h : Hp) : Prop :=
  ∀ w0 w, Rep w0 h w → Calls P f args w fun e w' => ∃ h', Rep w0 h' w' ∧ match e with
    | .returned v => K v h'
    | .panicked c => E c h'
    | .outgrown => False
/-- A function without a text, that the model tells. -/
def callx (P : Program) (f : FuncId) (args : Array Value) (K : Kont) (h : Hp) : Prop :=
  ∀ w0 w, Rep w0 h w → ∃ v w' h', (callFunc f args).run P w = .ok (.value v) w' ∧ Rep w0 h' w' ∧ K v h'
def callv (P : Program) (f : Value) (args : Array Value) (K : Kont) (E : List PanicEntry → Hp → Prop) (h : Hp) : Prop :=
  match f with
  | .func (.func f) first captured => ((((P.funcs[f]?).map fun fn => fn.name != "runtime.NumGoroutine" && fn.body.isSome).getD false) = true ∧ call P f (appA (appA first args) captured) K E h) ∨ callx P f (appA (appA first args) captured) K h
  | _ => False
def isB (v : Value) (want : Bool) : Bool := match v with
  | .bool b => b == want
  | _ => false
def gdK (v : Value) (want : Bool) (A : Kont → Hp → Prop) (K : Kont) (h : Hp) : Prop :=
  if isB v want = true then A K h else K undef h
def cnd (v : Value) (A B : Hp → Prop) (h : Hp) : Prop := ∃ t, v = .bool t ∧ (if t = true then A h else B h)
end Go.Proofs.YthpacapdaembpaaDoor.K
