import Derived.Test.YthpacapdaembpaaDoorK3
open Go Go.RowKit
set_option linter.unusedVariables false
set_option linter.unusedSimpArgs false
namespace Go.Proofs.YthpacapdaembpaaDoor.K

abbrev PanK := List PanicEntry → Hp → Prop
abbrev QD := Exit → Env → Hp → Prop

def aggB (P : Program) (t : TypeId) : Option Bool := (P.underlying t).map fun d => match d with | .struct _ | .array _ _ => true | _ => false
/-- The type's comparing. -/
def eqk (P : Program) (t : TypeId) : EqK := match P.underlying t with
  | some .bool => .bool
  | some (.pointer _) => .ptr
  | some (.slice _) => .slc
  | some (.map ..) => .map
  | some (.func ..) => .fn
  | _ => .none
def flatC (P : Program) (t : TypeId) : Option Nat := match P.underlying t with
  | some (.int _) => some 0
  | some .bool => some 1
  | some .string => some 2
  | _ => none
/-- A struct of plain fields, each of one cell, in a row. -/
def flatB (P : Program) (t : TypeId) : Option (List Nat) := match P.underlying t with
  | some (.struct fs) => if !P.stoodInHeld t && !P.eqGuardType P.depth t && (fs.toList.zipIdx.all fun (f, i) => f.name != "_" && f.offset == i) then fs.toList.mapM (fun f => flatC P f.type) else none
  | _ => none
def zeroC (P : Program) (t : TypeId) : Option (Array Value) := ((P.info? t).bind (·.zero)).map (·.cells)
def bdC (zero : Array Value) (places : List (Nat × Nat)) (parts : Array (Nat × Value)) : Option Value := (Instr.fill (fun i => places[i]?) zero parts.toList).map .agg
def placesOf (P : Program) (fs : List Field) : Option (List (Nat × Nat)) := fs.mapM fun f => (P.info? f.type).map fun i => (f.offset, i.size)
def bsC (zero : Array Value) (sz len : Nat) (parts : Array (Nat × Value)) : Option (Array Value) := Instr.fill (fun i => some (i * sz, sz)) ((Array.range (len * sz)).map (zero[· % zero.size]!)) parts.toList
def eqCells (op : BinOp) (n : List Nat) (x y : Value) : Option Value := match x, y with
  | .agg xs, .agg ys => match op with | .eql => (flatVs n xs.toList ys.toList).map .bool | .neq => (flatVs n xs.toList ys.toList).map fun b => .bool !b | _ => none
  | _, _ => none

section
variable (P : Program) (env : Env)
/-- What an operation does. -/
def opD (o : Oper) (K : Kont) (E : PanK) (h : Hp) : Prop :=
  match o.op with
  | .move x | .assign x => K (ev env x) h
  | .pick c a b => pv (pickV (ev env c) (ev env a) (ev env b)) K h
  | .alloc t => match zeroC P t with
    | some z => nw t z.toList K h
    | none => False
  | .box t x => nw t (ev env x).cells.toList K h
  | .build t parts => match P.underlying t, zeroC P t with
    | some (.struct fs), some z => match placesOf P fs.toList with
      | some pl => pv (bdC z pl (mapA (fun p => (p.1, ev env p.2)) parts)) K h
      | none => False
    | _, _ => False
  | .buildSlice t len parts => match P.underlying t with
    | some (.slice e) => match P.info? e, zeroC P e with
      | some i, some z => if len * i.size ≤ 2 ^ 24 then nws e len (bsC z i.size len (mapA (fun p => (p.1, ev env p.2)) parts)) K h else False
      | _, _ => False
    | _ => False
  | .load t x => match aggB P t, P.info? t with
    | some g, some i => ld g i.size (ev env x) K h
    | _, _ => False
  | .store t a x => match P.info? t with
    | some i => st i.size (ev env a) (ev env x) K h
    | none => False
  | .nilCheck x => pv (nilV (ev env x)) K h
  | .binOp op t x y _ => match flatB P t with
    | some n => pv (eqCells op n (ev env x) (ev env y)) K h
    | none => pv (binV (eqk P t) op (ev env x) (ev env y)) K h
  | .unOp op _ x => pv (unV op (ev env x)) K h
  | .convert src dst x => match P.underlying src, P.underlying dst with
    | some (.int _), some (.int k) => pv (cvV k (ev env x)) K h
    | some .string, some .string => match ev env x with
      | .string s => K (.string s) h
      | _ => False
    | some (.slice e), some .string => match P.underlying e with
      | some (.int .u8) => bs (ev env x) K h
      | _ => False
    | some (.slice e), some (.slice e') => match P.underlying e' with
      | some (.int .u8) => if src = dst then mk (ev env x) K h else False
      | _ => False
    | some .string, some (.slice e) => match P.underlying e with
      | some (.int .u8) => sb (ev env x) K h
      | _ => False
    | _, _ => False
  | .makeInterface t x => match P.underlying t with
    | some (.interface _) => False
    | some _ => pv (ifcV t (ev env x)) K h
    | none => False
  | .makeFunc fn first captured => K (.func fn (mapA (ev env) first) (mapA (ev env) captured)) h
  | .makeMap _ none => mkm K h
  | .lookup t x ix ok => lkp P t (ev env x) (ev env ix) ok K h
  | .mapUpdate t m k x => mup P t (ev env m) (ev env k) (ev env x) K h
  | .makeSlice t l c => match P.underlying t with
    | some (.slice e) => match P.info? e, zeroC P e with
      | some i, some z => if z.size = i.size ∧ 0 < i.size then mks e z.toList i.size i.bytes (ev env l) (ev env c) K h else False
      | _, _ => False
    | _ => False
  | .slice t x lo hi mx => match P.underlying t with
    | some (.slice e) => match P.info? e with
      | some i => pv (slV i.size (ev env x) (lo.map (ev env)) (hi.map (ev env)) (mx.map (ev env))) K h
      | none => False
    | some .string => pv (slT (ev env x) (lo.map (ev env)) (hi.map (ev env)) (mx.map (ev env))) K h
    | some (.array n e) => match P.info? e, mx with
      | some i, none => pv (slV i.size (arrS n (ev env x)) (lo.map (ev env)) (hi.map (ev env)) none) K h
      | _, _ => False
    | _ => False
  | .fieldAddr s x f => match P.underlying s with
    | some (.struct fs) => match fs[f]? with
      | some fd => match P.info? fd.type with
        | some i => if i.size = 0 then False else pv (faV fd.offset (ev env x)) K h
        | none => False
      | none => False
    | _ => False
  | .field t x f => match P.underlying t with
    | some (.struct fs) => match fs[f]? with
      | some fd => match aggB P fd.type, P.info? fd.type with
        | some g, some i => pv (fdV g fd.offset i.size (ev env x)) K h
        | _, _ => False
      | none => False
    | _ => False
  | .indexAddr t x ix => match P.underlying t with
    | some (.slice e) => match P.info? e with
      | some i => pv (iaV none i.size (ev env x) (ev env ix)) K h
      | none => False
    | some (.array n e) => match P.info? e with
      | some i => pv (iaV (some n) i.size (ev env x) (ev env ix)) K h
      | none => False
    | _ => False
  | .index t x ix => match P.underlying t with
    | some .string => pv (ixV (ev env x) (ev env ix)) K h
    | _ => False
  | .extract t i => pv (exV i (ev env t)) K h
  | .panic x => match ev env x with
    | .iface t v => E [{ v := .iface t v, recovered := false }] h
    | _ => False
  | .call c => match c.callee with
    | .value (.func f) => callv P (.func (.func f) #[] #[]) (mapA (ev env) c.args) K E h
    | .value x => callv P (ev env x) (mapA (ev env) c.args) K E h
    | .invoke _ _ => False
    | .builtin b => match b, c.argTypes.toList, (mapA (ev env) c.args).toList with
      | .len, [t], [x] => (match P.underlying t with
        | some (.slice _) => pv (lenV x) K h
        | some .string => pv (lenT x) K h
        | _ => False)
      | .append, [t, u], [s, x] => (match P.underlying t with
        | some (.slice e) => (match P.info? e, zeroC P e with
          | some i, some z => if z.size = i.size ∧ 0 < i.size then (if t = u then appX e i.size i.bytes s x K h else match P.underlying u with
            | some (.int _) => appZ e z.toList i.size i.bytes s x K h
            | _ => False) else False
          | _, _ => False)
        | _ => False)
      | .copy, [t, u], [d, s] => (match P.underlying t with
        | some (.slice e) => (match P.info? e with
          | some i => cpy i.size d s K h
          | none => False)
        | _ => False)
      | .clear, [t], [x] => (match P.underlying t with
        | some (.slice e) => (match P.info? e, zeroC P e with
          | some i, some z => if z.size = i.size ∧ 0 < i.size then clr e z.toList i.size x K h else False
          | _, _ => False)
        | _ => False)
      | .cap, [t], [x] => (match P.underlying t with
        | some (.slice _) => pv (capV x) K h
        | _ => False)
      | .min, _, [x, y] => pv (mm false x y) K h
      | .max, _, [x, y] => pv (mm true x y) K h
      | _, _, _ => False
  | _ => False
/-- Where an operation reads memory, and nothing else: that it reads this. -/
def keepD (o : Oper) (v : Value) (h : Hp) : Prop :=
  match o.op with
  | .load t x => match aggB P t, P.info? t with
    | some g, some i => ldV h g i.size (ev env x) v
    | _, _ => False
  | .convert src dst x => match P.underlying src, P.underlying dst with
    | some (.slice _), some .string => bsV h (ev env x) v
    | _, _ => True
  | _ => True
end
/-- Operations that look at their operands alone, or read memory. -/
def quietB : Op → Bool
  | .move _ | .assign _ | .pick .. | .build .. | .load .. | .nilCheck _ | .binOp .. | .unOp .. | .makeInterface .. | .makeFunc .. | .slice .. | .fieldAddr .. | .field .. | .indexAddr .. | .index .. | .extract .. => true
  | .call { callee := .builtin .len, .. } | .call { callee := .builtin .cap, .. } | .call { callee := .builtin .min, .. } | .call { callee := .builtin .max, .. } => true
  | _ => false
/-- 'quietB', a type at hand. -/
def quietP (P : Program) (o : Op) : Bool := quietB o || match o with
  | .convert src dst _ => (match P.underlying src, P.underlying dst with | some (.int _), some (.int _) | some .string, some .string | some (.slice _), some .string => true | _, _ => false)
  | _ => false
def gv (ops : Array Oper) (env : Env) (j : Nat) : Value := match ((ops[j]?).bind (·.dst)).bind (env[·]?) with
  | some v => v
  | none => .tuple #[]
/-- An operation, where its guard lets it. -/
def opG (P : Program) (ops : Array Oper) (env : Env) (o : Oper) (K : Kont) (E : PanK) : Hp → Prop :=
  match o.guard with
  | none => opD P env o K E
  | some (j, want) => gdK (gv ops env j) want (fun K => opD P env o K E) K
def denOps (P : Program) (ops : Array Oper) (Q : QD) : List Oper → Env → Hp → Prop
  | [], env => Q .normal env
  | o :: r, env => opG P ops env o (fun v => denOps P ops Q r (putE env o.dst v)) (fun c => Q (.panic c) env)
inductive Plan | fin | take (i : Nat) (p : Plan) | exec (i : Nat) (p : Plan) | two (i : Nat) (p : Plan) (j : Nat) (q : Plan)
/-- May i be taken ahead? -/
def takeB (P : Program) (ops : Array Oper) (listed : Array Bool) (i : Nat) : Bool := (match ops[i]? with | some o => quietP P o.op | none => false) && Region.free .any ops listed i
/-- The steps of a region that draws its order, if there are such. -/
def planOf (P : Program) (ops : Array Oper) : Nat → Array Bool → Option Plan
  | 0, listed => if Region.ready .any ops listed = [] then some .fin else none
  | n + 1, listed => match Region.ready .any ops listed with
    | [] => some .fin
    | rs => match rs.find? (takeB P ops listed) with
      | some i => (planOf P ops n (listed.setIfInBounds i true)).map (Plan.take i)
      | none => match rs with
        | [i] => (planOf P ops n (listed.setIfInBounds i true)).map (Plan.exec i)
        | [i, j] => match planOf P ops n (listed.setIfInBounds i true), planOf P ops n (listed.setIfInBounds j true) with
          | some p, some q => some (Plan.two i p j q)
          | _, _ => none
        | _ => none
abbrev TK := List (Nat × (Hp → Prop))
def laterK (ops : Array Oper) (T : TK) (j : Nat) : TK := T.filter fun p => !ahead ops p.1 j
def allK : TK → Hp → Prop → Prop
  | [], _, X => X
  | p :: r, h, X => p.2 h ∧ allK r h X
/-- Does it read memory? -/
def isRead (P : Program) : Op → Bool
  | .load .. => true
  | .convert src dst _ => (match P.underlying src, P.underlying dst with | some (.slice _), some .string => true | _, _ => false)
  | _ => false
/-- 'keepD', where the guard lets it. -/
def keepG (P : Program) (ops : Array Oper) (env : Env) (o : Oper) (v : Value) (h : Hp) : Prop :=
  match o.guard with
  | none => keepD P env o v h
  | some (j, want) => isB (gv ops env j) want = true → keepD P env o v h
def denPlan (P : Program) (ops : Array Oper) (Q : QD) : Plan → TK → Env → Hp → Prop
  | .fin, _, env => Q .normal env
  | .take i r, T, env => match ops[i]? with
    | some o => opG P ops env o (fun v => denPlan P ops Q r (if isRead P o.op then (i, keepG P ops env o v) :: T else T) (putE env o.dst v)) (fun c => Q (.panic c) env)
    | none => fun _ => False
  | .exec i r, T, env => match ops[i]? with
    | some o => opG P ops env o (fun v h => allK (laterK ops T i) h (denPlan P ops Q r (laterK ops T i) (putE env o.dst v) h)) (fun c => Q (.panic c) env)
    | none => fun _ => False
  | .two i p j q, T, env => bth
    (match ops[i]? with
      | some o => opG P ops env o (fun v h => allK (laterK ops T i) h (denPlan P ops Q p (laterK ops T i) (putE env o.dst v) h)) (fun c => Q (.panic c) env)
      | none => fun _ => False)
    (match ops[j]? with
      | some o => opG P ops env o (fun v h => allK (laterK ops T j) h (denPlan P ops Q q (laterK ops T j) (putE env o.dst v) h)) (fun c => Q (.panic c) env)
      | none => fun _ => False)
def thenD (K : Env → Hp → Prop) (Q : QD) : QD
  | .normal => K
  | e => Q e
def blk (id : Nat) (Q : QD) : QD
  | .exit i => if i = id then Q .normal else Q (.exit i)
  | e => Q e
def scp (Q : QD) : QD
  | .goto _ => fun _ _ => False
  | e => Q e
def lpn (B : (Env → Hp → Prop) → Env → Hp → Prop) : Nat → Env → Hp → Prop
  | 0 => fun _ _ => False
  | n + 1 => fun env h => h.wf → ∃ h', h.wk h' ∧ (h'.wf → B (lpn B n) env h')
def lp (B : (Env → Hp → Prop) → Env → Hp → Prop) (env : Env) (h : Hp) : Prop := ∃ n, lpn B n env h
/-- What a text does. -/
def den (P : Program) : Code → QD → Env → Hp → Prop
  | .skip, Q => Q .normal
  | .label _, Q => Q .normal
  | .region _ ops draw, Q => if draw then
      (match planOf P ops ops.size (Array.replicate ops.size false) with
        | some l => if Region.noSelect ops then denPlan P ops Q l [] else fun _ _ => False
        | none => fun _ _ => False)
    else denOps P ops Q ops.toList
  | .seq a b, Q => den P a (thenD (den P b Q) Q)
  | .cond c a b, Q => fun env => cnd (ev env c) (den P a Q env) (den P b Q env)
  | .block id c, Q => den P c (blk id Q)
  | .loop c, Q => lp (fun K => den P c (thenD K Q))
  | .exit id, Q => Q (.exit id)
  | .scope c, Q => den P c (scp Q)
  | .ret, Q => Q .ret
  | _, _ => fun _ _ => False
end Go.Proofs.YthpacapdaembpaaDoor.K
