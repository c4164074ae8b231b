/- The compact instructions, and those that only read. -/
import Derived.Test.YtfgipdfdilafnaaV1
import Derived.WalkLawsBesides
set_option linter.unusedSimpArgs false
set_option linter.unusedVariables false
namespace Go.VV
open Go.RowKit

inductive Opn where
  | t (n : Nat)
  | k (a : AV)
  deriving Inhabited

inductive Ins where
  | mov (x : Opn)
  | pick (c x y : Opn)
  | build (z : List AV) (parts : List (Nat × Nat × Opn))
  | load (n : Nat) (agg : Bool) (a : Opn)
  | bin (bo : Bool) (op : BinOp) (x y : Opn)
  | eqs (neg : Bool) (ks : List Bool) (x y : Opn)
  | not (x : Opn)
  | neg (x : Opn)
  | conv (k : IntKind) (x : Opn)
  | mkfn (f : FuncId) (caps : List Opn)
  | fad (off : Nat) (x : Opn)
  | fld (off n : Nat) (agg : Bool) (x : Opn)
  | iad (s : Nat) (x j : Opn)
  | iar (n s : Nat) (x j : Opn)
  | ext (x : Opn) (i : Nat)
  | nchk (x : Opn)
  | len (x : Opn)
  | mm (mx : Bool) (x y : Opn)
  | mm3 (mx : Bool) (x y z : Opn)
  -- what acts
  | alloc (T : TypeId) (z : List AV)
  | box (T : TypeId) (n : Nat) (x : Opn)
  | bsl (e : TypeId) (s : Nat) (parts : List Opn)
  | mksl (e : TypeId) (s by_ : Nat) (z : List AV) (n : Opn)
  | slc (s : Nat) (x : Opn) (lo hi : Option Opn)
  | store (n : Nat) (a x : Opn)
  | call (f : FuncId) (args : List Opn)
  | callv (x : Opn) (args : List Opn)
  | app (e : TypeId) (s by_ : Nat) (x y : Opn)
  | copy (x y : Opn)
  deriving Inhabited

structure Env where
  tm : List (Nat × AV)
  rows : List (Nat × Row)
  boxes : List (Nat × Bx)
  n : Nat
  k : Nat

def Env.tmp (E : Env) (n : Nat) : AV := (E.tm.lookup n).getD .top
def Env.opd (E : Env) : Opn → AV
  | .t n => E.tmp n
  | .k a => a

/-- A guarded value, laid open under p. -/
def AV.un (p : Prop) (k : AV → Prop) : AV → Prop
  | .cnd q a => (p → q) ∧ k a
  | a => k a
theorem AV.un_spec {p : Prop} {k : AV → Prop} {a : AV} (h : a.un p k) : ∃ a', k a' ∧ (p → ∀ X v, Rep X a v → Rep X a' v) := by
  cases a
  case cnd q a =>
    refine ⟨a, h.2, fun hp X v hr => ?_⟩
    cases hr with
    | cnd _ _ _ h1 _ => exact h1 (h.1 hp)
  all_goals exact ⟨_, h, fun _ _ _ hr => hr⟩

def ofCells (agg : Bool) (cs : List AV) : AV := if agg then .ag cs else cs.getD 0 .top
def AV.sel (b : Bool) (x y : AV) : AV := bif b then x else y
@[simp] theorem AV.sel_true (x y : AV) : AV.sel true x y = x := rfl
@[simp] theorem AV.sel_false (x y : AV) : AV.sel false x y = y := rfl
@[simp] theorem AV.sel_bool (b p q : Bool) : AV.sel b (.bool p) (.bool q) = .bool (bif b then p else q) := by cases b <;> rfl
@[simp] theorem AV.sel_int (b : Bool) (k : IntKind) (p q : Int) : AV.sel b (.int k p) (.int k q) = .int k (bif b then p else q) := by cases b <;> rfl

def cmpI (op : BinOp) (a b : Int) : Option Bool :=
  match op with
  | .eql => some (a == b)
  | .neq => some (a != b)
  | .lss => some (decide (a < b))
  | .leq => some (decide (a ≤ b))
  | .gtr => some (decide (b < a))
  | .geq => some (decide (b ≤ a))
  | _ => none
/-- The arithmetic: a condition and the value. -/
def binA (bo : Bool) (op : BinOp) : AV → AV → Option (Prop × AV)
  | .int k a, .int k' b =>
    match op with
    | .shl => some (0 ≤ b ∧ b ≤ k.bits, .int k (k.wrap (a * 2 ^ b.toNat)))
    | .shr => some (0 ≤ b ∧ b ≤ k.bits, .int k (a / 2 ^ b.toNat))
    | op =>
      if k = k' then
        match op with
        | .add => some (True, .int k (k.wrap (a + b)))
        | .sub => some (True, .int k (k.wrap (a - b)))
        | .mul => some (True, .int k (k.wrap (a * b)))
        | .quo => some (b ≠ 0, .int k (k.wrap (a.tdiv b)))
        | .rem => some (b ≠ 0, .int k (a.tmod b))
        | .and => some (True, .int k (Go.bits .and k a b))
        | .or => some (True, .int k (Go.bits .or k a b))
        | .xor => some (True, .int k (Go.bits .xor k a b))
        | op => (cmpI op a b).map fun c => (True, .bool c)
      else none
  | .bool a, .bool b =>
    if bo then match op with
      | .eql => some (True, .bool (a == b))
      | .neq => some (True, .bool (a != b))
      | _ => none
    else none
  | _, _ => none

/-- Plain cells, compared: true for a number, false for a bool. -/
def eqI : List Bool → List AV → List AV → Option Bool
  | [], [], [] => some true
  | true :: ks, .int k a :: l, .int k' b :: l' => if k = k' then (eqI ks l l').map fun r => a == b && r else none
  | false :: ks, .bool a :: l, .bool b :: l' => (eqI ks l l').map fun r => a == b && r
  | _, _, _ => none
def fillA : List AV → List (Nat × Nat × AV) → Option (List AV)
  | z, [] => some z
  | z, (off, n, a) :: r => if a.cells.length = n ∧ off + n ≤ z.length then fillA (z.take off ++ a.cells ++ z.drop (off + n)) r else none

def maxI (a b : Int) : Int := if a < b then b else a
def minI (a b : Int) : Int := if b < a then b else a

def AV.known : AV → Bool
  | .int _ _ | .bool _ | .str _ | .sl _ _ _ | .nils | .own _ | .ptr _ _ | .fn _ _ | .ag _ => true
  | _ => false
/-- What may stand in one cell. -/
def AV.cell : AV → Bool
  | .int _ _ | .bool _ | .str _ | .sl _ _ _ | .nils | .own _ | .ptr _ _ | .fn _ _ => true
  | _ => false

/-- Guarded values laid open, one by one. -/
def AV.unL (p : Prop) (k : List AV → Prop) : List AV → Prop
  | [] => k []
  | a :: t => a.un p fun a' => AV.unL p (fun t' => k (a' :: t')) t
def zipP : List (Nat × Nat × Opn) → List AV → List (Nat × Nat × AV)
  | (o, n, _) :: r, a :: t => (o, n, a) :: zipP r t
  | _, _ => []

/-- What a quiet instruction needs (under p) and yields. -/
def vq (E : Env) (p : Prop) (K : AV → Prop) : Ins → Prop
  | .mov x => (E.opd x).un p K
  | .pick c x y => (E.opd c).un p fun c => match c with
      | .bool b => (E.opd x).un (p ∧ b = true) fun x => (E.opd y).un (p ∧ b = false) fun y => K (AV.sel b x y)
      | _ => (p → False) ∧ K .top
  | .load n agg a => (E.opd a).un p fun a => match a with
      | .ptr b off => match E.boxes.lookup b with
          | some B => (p → off + n ≤ B.c.length) ∧ K (ofCells agg ((B.c.drop off).take n))
          | none => (p → False) ∧ K .top
      | .ept (.sl _ _ f) _ j off => (p → off + n ≤ (f j).cells.length) ∧ K (ofCells agg (((f j).cells.drop off).take n))
      | .ept (.own i) s j off => match E.rows.lookup i with
          | some R => (p → R.s = s ∧ j < R.l.length ∧ off + n ≤ (R.l.getD j .top).cells.length) ∧ K (ofCells agg (((R.l.getD j .top).cells.drop off).take n))
          | none => (p → False) ∧ K .top
      | _ => (p → False) ∧ K .top
  | .bin bo op x y => (E.opd x).un p fun x => (E.opd y).un p fun y => match binA bo op x y with
      | some (c, a) => (p → c) ∧ K a
      | none => (p → False) ∧ K .top
  | .eqs neg ks x y => (E.opd x).un p fun x => (E.opd y).un p fun y => match x, y with
      | .ag l, .ag l' => match eqI ks l l' with
        | some b => K (.bool (b != neg))
        | none => (p → False) ∧ K .top
      | _, _ => (p → False) ∧ K .top
  | .not x => (E.opd x).un p fun x => match x with
      | .bool b => K (.bool !b)
      | _ => (p → False) ∧ K .top
  | .neg x => (E.opd x).un p fun x => match x with
      | .int k n => K (.int k (k.wrap (0 - n)))
      | _ => (p → False) ∧ K .top
  | .conv k x => (E.opd x).un p fun x => match x with
      | .int _ n => K (.int k (k.wrap n))
      | _ => (p → False) ∧ K .top
  | .fad off x => (E.opd x).un p fun x => match x with
      | .ptr b o => K (.ptr b (o + off))
      | .ept x s j o => K (.ept x s j (o + off))
      | _ => (p → False) ∧ K .top
  | .fld off n agg x => (E.opd x).un p fun x => match x with
      | .ag l => (p → off + n ≤ l.length) ∧ K (ofCells agg ((l.drop off).take n))
      | _ => (p → False) ∧ K .top
  | .iad s x j => (E.opd x).un p fun x => (E.opd j).un p fun j => match x, j with
      | .sl s' m f, .int _ i => (p → s' = s ∧ 0 ≤ i ∧ i < m) ∧ K (.ept (.sl s' m f) s' i.toNat 0)
      | .own r, .int _ i => match E.rows.lookup r with
          | some R => (p → R.s = s ∧ 0 ≤ i ∧ i < R.l.length) ∧ K (.ept (.own r) R.s i.toNat 0)
          | none => (p → False) ∧ K .top
      | _, _ => (p → False) ∧ K .top
  | .iar n s x j => (E.opd x).un p fun x => (E.opd j).un p fun j => match x, j with
      | .ptr b o, .int _ i => (p → 0 ≤ i ∧ i < n) ∧ K (.ptr b (o + i.toNat * s))
      | .ept x s' q o, .int _ i => (p → 0 ≤ i ∧ i < n) ∧ K (.ept x s' q (o + i.toNat * s))
      | _, _ => (p → False) ∧ K .top
  | .ext x i => (E.opd x).un p fun x => match x with
      | .tup l => (p → i < l.length) ∧ K (l.getD i .top)
      | _ => (p → False) ∧ K .top
  | .nchk x => (E.opd x).un p fun x => match x with
      | .ptr b o => K (.ptr b o)
      | .ept x s j o => K (.ept x s j o)
      | .fn f l => K (.fn f l)
      | _ => (p → False) ∧ K .top
  | .len x => (E.opd x).un p fun x => match x with
      | .sl _ m _ => (m ≤ 9223372036854775807 ∨ ¬ p) → K (.int .i64 m)
      | .own r => match E.rows.lookup r with
          | some R => (R.l.length ≤ 9223372036854775807 ∨ ¬ p) → K (.int .i64 R.l.length)
          | none => (p → False) ∧ K .top
      | .nils => K (.int .i64 0)
      | _ => (p → False) ∧ K .top
  | .mm b x y => (E.opd x).un p fun x => (E.opd y).un p fun y => match x, y with
      | .int k m, .int _ n => K (.int k (if b then maxI m n else minI m n))
      | _, _ => (p → False) ∧ K .top
  | .mm3 b x y z => (E.opd x).un p fun x => (E.opd y).un p fun y => (E.opd z).un p fun z => match x, y, z with
      | .int k m, .int _ n, .int _ q => K (.int k (if b then maxI (maxI m n) q else minI (minI m n) q))
      | _, _, _ => (p → False) ∧ K .top
  | .build z parts => AV.unL p (fun l => match fillA z (zipP parts l) with
      | some cs => (p → l.all AV.known = true) ∧ K (.ag cs)
      | none => (p → False) ∧ K .top) (parts.map fun q => E.opd q.2.2)
  | .mkfn f caps => AV.unL p (fun l => K (.fn f l)) (caps.map E.opd)
  | _ => False

/-! ### out of the loaded operations -/
def ofV : Value → Option AV
  | .int k n => some (.int k n)
  | .bool b => some (.bool b)
  | .string s => some (.str s)
  | .slice none 0 0 => some .nils
  | _ => some .top
def compO : Operand → Option Opn
  | .tmp t => some (.t t)
  | .const v => (ofV v).map .k
  | .func f => some (.k (.fn f []))
  | .global _ => none
def Program.szT (P : Program) (t : TypeId) : Nat := ((P.info? t).map (·.size)).getD 0
def Program.isAggT (P : Program) (t : TypeId) : Bool := match P.underlying t with | some (.struct _) | some (.array _ _) => true | _ => false
def compB (P : Program) (b : Builtin) (args : List Operand) (ts : List TypeId) : Option Ins :=
  match b with
  | .len => match args, ts with
      | [x], [t] => match P.underlying t with
          | some (.slice _) => (compO x).map .len
          | _ => none
      | _, _ => none
  | .max => match args with
      | [x, y] => do pure (.mm true (← compO x) (← compO y))
      | [x, y, z] => do pure (.mm3 true (← compO x) (← compO y) (← compO z))
      | _ => none
  | .min => match args with
      | [x, y] => do pure (.mm false (← compO x) (← compO y))
      | [x, y, z] => do pure (.mm3 false (← compO x) (← compO y) (← compO z))
      | _ => none
  | _ => none
def compZ : List Value → Option (List AV)
  | [] => some []
  | v :: r => match ofV v, compZ r with
      | some a, some l => some (a :: l)
      | _, _ => none
def zeroA (P : Program) (t : TypeId) : Option (List AV) :=
  match P.info? t with
  | some i => match i.zero with
      | some z => compZ z.cells.toList
      | none => none
  | none => none
def compParts (pl : List (Nat × Nat)) : List (Nat × Operand) → Option (List (Nat × Nat × Opn))
  | [] => some []
  | (i, x) :: r => match pl[i]?, compO x, compParts pl r with
      | some q, some x', some r' => some ((q.1, q.2, x') :: r')
      | _, _, _ => none
def compL : List Operand → Option (List Opn)
  | [] => some []
  | x :: r => match compO x, compL r with
      | some x', some r' => some (x' :: r')
      | _, _ => none
def eqKs (P : Program) : Nat → List Field → Option (List Bool)
  | _, [] => some []
  | i, f :: r => if f.name ≠ "_" ∧ f.offset = i then match P.underlying f.type with
      | some (.int _) => (eqKs P (i + 1) r).map (true :: ·)
      | some .bool => (eqKs P (i + 1) r).map (false :: ·)
      | _ => none
    else none
/-- Two structs of plain fields are compared. -/
def eqsOf (P : Program) (op : BinOp) (t : TypeId) : Option (Bool × List Bool) :=
  match op with
  | .eql => match P.underlying t with
    | some (.struct fs) => if P.stoodInHeld t = false ∧ P.eqGuardType P.depth t = false then (eqKs P 0 fs.toList).map fun l => (false, l) else none
    | _ => none
  | .neq => match P.underlying t with
    | some (.struct fs) => if P.stoodInHeld t = false ∧ P.eqGuardType P.depth t = false then (eqKs P 0 fs.toList).map fun l => (true, l) else none
    | _ => none
  | _ => none
def compQ (P : Program) : Op → Option Ins
  | .move x | .assign x => (compO x).map .mov
  | .pick c x y => do pure (.pick (← compO c) (← compO x) (← compO y))
  | .load t a => match P.info? t, P.underlying t with
      | some i, some _ => if Program.isAggT P t || i.size == 1 then do pure (.load i.size (Program.isAggT P t) (← compO a)) else none
      | _, _ => none
  | .binOp op t x y _ => match eqsOf P op t with
    | some q => do pure (.eqs q.1 q.2 (← compO x) (← compO y))
    | none => do pure (.bin (match P.underlying t with | some .bool => true | _ => false) op (← compO x) (← compO y))
  | .unOp .not _ x => do pure (.not (← compO x))
  | .unOp .neg _ x => do pure (.neg (← compO x))
  | .convert s t x => match P.underlying s, P.underlying t with
      | some (.int _), some (.int k) => do pure (.conv k (← compO x))
      | _, _ => none
  | .fieldAddr t x f => match P.underlying t with
      | some (.struct fs) => match fs[f]? with
          | some fd => if Program.szT P fd.type = 0 then none else do pure (.fad fd.offset (← compO x))
          | none => none
      | _ => none
  | .field t x f => match P.underlying t with
      | some (.struct fs) => match fs[f]? with
          | some fd => match P.info? fd.type, P.underlying fd.type with
            | some i, some _ => if Program.isAggT P fd.type || i.size == 1 then do pure (.fld fd.offset i.size (Program.isAggT P fd.type) (← compO x)) else none
            | _, _ => none
          | none => none
      | _ => none
  | .indexAddr t x j => match P.underlying t with
      | some (.slice e) => match P.info? e with
          | some i => do pure (.iad i.size (← compO x) (← compO j))
          | none => none
      | some (.array n e) => match P.info? e with
          | some i => if n ≤ 1 then none else do pure (.iar n i.size (← compO x) (← compO j))
          | none => none
      | _ => none
  | .extract x i => do pure (.ext (← compO x) i)
  | .nilCheck x => do pure (.nchk (← compO x))
  | .call c => match c.callee with
      | .builtin b => compB P b c.args.toList c.argTypes.toList
      | _ => none
  | .build t parts => match P.underlying t with
      | some (.struct fs) => match zeroA P t, fs.toList.mapM (fun f => (P.info? f.type).map fun i => (f.offset, i.size)) with
          | some z, some pl => (compParts pl parts.toList).map (.build z)
          | _, _ => none
      | some (.array n e) => match zeroA P t, P.info? e with
          | some z, some i => (compParts ((List.range n).map fun k => (k * i.size, i.size)) parts.toList).map (.build z)
          | _, _ => none
      | _ => none
  | .makeFunc (.func f) first caps => if first.toList = [] then (compL caps.toList).map (.mkfn f) else none
  | _ => none

/-- The names that the call was handed stand for what they stood for. -/
structure Kp (G : Gl) (rows : List (Nat × Row)) (X : RX) : Prop where
  n : G.n0 ≤ X.n
  b : ∀ b, b < G.n0 → X.β b = G.β0 b
  i : ∀ i, i < G.n0 → G.fx i = true → X.κ i = G.κ0 i
  r : ∀ i R, rows.lookup i = some R → i < G.n0 → G.fx i = true → R.fx = true
theorem Kp.up {G : Gl} {rows rows' : List (Nat × Row)} {X X' : RX} (h : Kp G rows X) (hn : X.n ≤ X'.n) (hβ : ∀ b, b < X.n → X'.β b = X.β b) (hκ : ∀ i, i < X.n → i < G.n0 → G.fx i = true → X'.κ i = X.κ i)
    (hr : ∀ i R, rows'.lookup i = some R → i < G.n0 → G.fx i = true → R.fx = true ∨ ∃ R0, rows.lookup i = some R0 ∧ (R0.fx = true → R.fx = true)) : Kp G rows' X' :=
  ⟨Nat.le_trans h.n hn, fun b hb => (hβ b (Nat.lt_of_lt_of_le hb h.n)).trans (h.b b hb), fun i hi hf => (hκ i (Nat.lt_of_lt_of_le hi h.n) hi hf).trans (h.i i hi hf),
    fun i R hl hi hf => by
      rcases hr i R hl hi hf with h1 | ⟨R0, h1, h2⟩
      · exact h1
      · exact h2 (h.r i R0 h1 hi hf)⟩
theorem Kp.same {G : Gl} {rows : List (Nat × Row)} {X X' : RX} (h : Kp G rows X) (hn : X.n ≤ X'.n) (hβ : ∀ b, b < X.n → X'.β b = X.β b) (hκ : ∀ i, i < X.n → X'.κ i = X.κ i) : Kp G rows X' :=
  h.up hn hβ (fun i hi _ _ => hκ i hi) (fun i R hl _ _ => .inr ⟨R, hl, fun h => h⟩)

/-- The temporaries that are known. -/
def RepT (X : RX) (k : Nat) (tm : List (Nat × AV)) (ts : Array Value) : Prop := ts.size = k ∧ ∀ (i : Nat) (a : AV), tm.lookup i = some a → ∃ v, ts[i]? = some v ∧ Rep X a v
/-- The state of a call under way. -/
structure Sat (G : Gl) (E : Env) (X : RX) (a : Act) : Prop where
  n : X.n = E.n
  inv : Inv G X E.rows E.boxes
  tm : RepT X E.k E.tm a.tmps
  df : a.defers = []
  kp : Kp G E.rows X

theorem opd_rep {G : Gl} {E : Env} {X : RX} {a : Act} (h : Sat G E X a) {x : Operand} {x' : Opn} (hx : compO x = some x') : Rep X (E.opd x') (a.eval x) := by
  cases x with
  | tmp t =>
    simp only [compO, Option.some.injEq] at hx
    subst hx
    simp only [Env.opd, Act.eval]
    simp only [Env.tmp]
    cases hl : E.tm.lookup t with
    | none => exact .top _
    | some b =>
      obtain ⟨v, h1, h2⟩ := h.tm.2 t b hl
      rw [Array.getD_eq_getD_getElem?, h1]
      exact h2
  | const v =>
    simp only [compO, Option.map_eq_some_iff] at hx
    obtain ⟨b, hb, rfl⟩ := hx
    simp only [Env.opd, Act.eval]
    unfold ofV at hb
    split at hb <;> simp only [Option.some.injEq, reduceCtorEq] at hb <;> subst hb
    · exact .int _ _
    · exact .bool _
    · exact .str _
    · exact .nils
    · exact .top _
  | global g => simp [compO] at hx
  | func f =>
    simp only [compO, Option.some.injEq] at hx
    subst hx
    simp only [Env.opd, Act.eval]
    exact .fn f [] [] rfl (by simp)

end Go.VV
