/- Instructions that act: what they need and leave. -/
import Derived.Test.YtfgipdfdilafnaaV8
set_option linter.unusedSimpArgs false
set_option linter.unusedVariables false
namespace Go.VV
open Go.RowKit

mutual
/-- The rows named in ks are known no more. -/
def AV.cut (ks : List Nat) : AV → AV
  | .own j => if j ∈ ks then .top else .own j
  | .ag l => .ag (AV.cutL ks l)
  | .tup l => .tup (AV.cutL ks l)
  | .fn f l => .fn f (AV.cutL ks l)
  | .ept (.own j) s q o => if j ∈ ks then .top else .ept (.own j) s q o
  | .osl j s o n => if j ∈ ks then .top else .osl j s o n
  | .cnd p a => .cnd p (AV.cut ks a)
  | .top => .top
  | .nils => .nils
  | .int k n => .int k n
  | .bool b => .bool b
  | .str s => .str s
  | .sl s n f => .sl s n f
  | .ptr b o => .ptr b o
  | .ept x s q o => .ept x s q o
def AV.cutL (ks : List Nat) : List AV → List AV
  | [] => []
  | a :: t => AV.cut ks a :: AV.cutL ks t
end
theorem AV.cutL_eq (ks : List Nat) (l : List AV) : AV.cutL ks l = l.map (AV.cut ks) := by
  induction l with
  | nil => simp [AV.cutL]
  | cons a t ih => simp [AV.cutL, ih]
def cutB (ks : List Nat) : List (Nat × Bx) → List (Nat × Bx)
  | [] => []
  | (b, B) :: t => (b, ⟨B.T, AV.cutL ks B.c⟩) :: cutB ks t
def subAll : List Nat → List AV → List AV
  | [], l => l
  | i :: t, l => AV.cutL (i :: t) l
def AV.cutT (ks : List Nat) : List (Nat × AV) → List (Nat × AV)
  | [] => []
  | (k, a) :: t => (k, AV.cut ks a) :: AV.cutT ks t
def subTAll : List Nat → List (Nat × AV) → List (Nat × AV)
  | [], l => l
  | i :: t, l => AV.cutT (i :: t) l
def subBAll : List Nat → List (Nat × Bx) → List (Nat × Bx)
  | [], l => l
  | i :: t, l => cutB (i :: t) l
def pickk {α : Type} (ks : List Nat) : List (Nat × α) → List (Nat × α)
  | [] => []
  | (k, v) :: t => if k ∈ ks then (k, v) :: pickk ks t else pickk ks t
def dropks {α : Type} (ks : List Nat) : List (Nat × α) → List (Nat × α)
  | [] => []
  | (k, v) :: t => if k ∈ ks then dropks ks t else (k, v) :: dropks ks t
def fixed (ks : List Nat) : List (Nat × Row) → List (Nat × Row)
  | [] => []
  | (k, R) :: t => (k, if k ∈ ks then { R with fx := true } else R) :: fixed ks t
def fxOf (rs : List (Nat × Row)) (n k : Nat) : Bool := match rs.lookup k with | some R0 => R0.fx | none => decide (k < n)
def refix (rs : List (Nat × Row)) (n : Nat) : List (Nat × Row) → List (Nat × Row)
  | [] => []
  | (k, R) :: t => (k, { R with fx := fxOf rs n k }) :: refix rs n t
def loose : List (Nat × Row) → List Nat
  | [] => []
  | (k, R) :: t => if R.fx then loose t else k :: loose t

/-- The boxes that values lead to. -/
def lentB (bs : List (Nat × Bx)) : Nat → List AV → List Nat
  | 0, l => AV.ptrsL l
  | n + 1, l => AV.ptrsL l ++ (AV.ptrsL l).flatMap fun b => match bs.lookup b with | some B => lentB bs n B.c | none => []
def lentR (bs : List (Nat × Bx)) (ks : List Nat) : List Nat := ks.flatMap fun b => match bs.lookup b with | some B => AV.ownsL B.c | none => []

/-- What is lent at a call: boxes that the arguments lead to, rows in them; rows handed over themselves keep their place. -/
def Env.lent (E : Env) (args : List AV) : Cx :=
  let kb := lentB E.boxes 2 args
  let kd := AV.ownsL args
  { boxes := pickk kb E.boxes, rows := fixed kd (pickk (kd ++ lentR E.boxes kb) E.rows) }
def keys {α : Type} : List (Nat × α) → List Nat
  | [] => []
  | (k, _) :: t => k :: keys t
def Env.after (E : Env) (C C' : Cx) : Env :=
  let U := loose C.rows
  { k := E.k, tm := subTAll U E.tm, rows := refix E.rows E.n C'.rows ++ dropks (keys C.rows) E.rows, boxes := C'.boxes ++ subBAll U (dropks (keys C.boxes) E.boxes), n := E.n + 4 }

/-- Does this function write rows that it is handed? -/
abbrev Mt := FuncId → Bool

def Env.toCall (E : Env) (mt : Mt) (f : FuncId) (args : List Opn) : Env := if mt f then E else E.frzL (AV.ownsL (args.map E.opd))
def lentOf (E : Env) (mt : Mt) (f : FuncId) (args : List Opn) (caps : List AV) : Cx := (E.toCall mt f args).lent (args.map (E.toCall mt f args).opd ++ caps)
def vcCall (P : Program) (mt : Mt) (E : Env) (f : FuncId) (args : List Opn) (caps : List AV) (K : Env → AV → Prop) : Prop :=
  Spec P f (lentOf E mt f args caps) (E.toCall mt f args).n (args.map (E.toCall mt f args).opd ++ caps) fun r C' => K ((E.toCall mt f args).after (lentOf E mt f args caps) C') r
/-- What is lent stands, seen from the callee's side. -/
def lentL (X : RX) (C : Cx) (k : Nat) : Prop := (∃ b B, C.boxes.lookup b = some B ∧ X.β b = k) ∨ ∃ i R, C.rows.lookup i = some R ∧ (X.κ i).ownBlock = some k
def stM (X : RX) : AV → Nat → Prop
  | .ptr b _ => fun k => X.β b = k
  | _ => fun _ => True
def stOk (ub : List Nat) : AV → Prop
  | .ptr b _ => b ∈ ub
  | _ => False
/-- The old blocks that an instruction may change. -/
def insM (mt : Mt) (E : Env) (X : RX) : Ins → Nat → Prop
  | .store _ a _ => stM X (E.opd a)
  | .app _ _ _ _ _ => fun _ => True
  | .copy _ _ => fun _ => True
  | .call f args => lentL X (lentOf E mt f args [])
  | .callv x args => match E.opd x with | .fn f caps => lentL X (lentOf E mt f args caps) | _ => fun _ => True
  | _ => fun _ => False
/-- They all lie in boxes of ub. -/
def modOk (mt : Mt) (E : Env) (ub : List Nat) : Ins → Prop
  | .store _ a _ => stOk ub (E.opd a)
  | .app _ _ _ _ _ => False
  | .copy _ _ => False
  | .call f args => (lentOf E mt f args []).rows = [] ∧ ((keys (lentOf E mt f args []).boxes).all fun b => decide (b ∈ ub)) = true
  | .callv x args => match E.opd x with | .fn f caps => (lentOf E mt f args caps).rows = [] ∧ ((keys (lentOf E mt f args caps).boxes).all fun b => decide (b ∈ ub)) = true | _ => False
  | _ => True
def Env.opt (E : Env) (x : Option Opn) (d : AV) : AV := match x with | some x => E.opd x | none => d

/-- The elements that a slice stands for. -/
def Env.els (E : Env) (s : Nat) : AV → Option (Nat × List AV)
  | .sl s' m f => some (s', (List.range m).map f)
  | .nils => some (s, [])
  | .own k => (E.rows.lookup k).map fun (R : Row) => (R.s, R.l)
  | _ => none

/-- The elements of a list of single cells; a stretch of a row. -/
def Env.els1 (E : Env) : AV → Option (List AV)
  | .osl i s o n => match E.rows.lookup i with
    | some R => if s = 1 ∧ R.s = 1 ∧ o + n ≤ R.l.length then some ((R.l.drop o).take n) else none
    | none => none
  | y => match E.els 1 y with
    | some (s', l) => if s' = 1 then some l else none
    | none => none
def Env.dstv (E : Env) : AV → Option (Nat × Nat × Nat)
  | .osl i s o n => if s = 1 then some (i, o, n) else none
  | .own i => (E.rows.lookup i).map fun (R : Row) => (i, 0, R.l.length)
  | _ => none
/-- The instructions that act. -/
def vcE (P : Program) (mt : Mt) (E : Env) (K : Env → AV → Prop) : Ins → Prop
  | .alloc T z => K { E with boxes := (E.n, ⟨T, z⟩) :: E.boxes, n := E.n + 1 } (.ptr E.n 0)
  | .box T _ x => (E.opd x).known = true ∧ K { E with boxes := (E.n, ⟨T, (E.opd x).cells⟩) :: E.boxes, n := E.n + 1 } (.ptr E.n 0)
  | .bsl e s parts =>
      let E1 := E.frzL (AV.ownsL (parts.map E.opd))
      let l := parts.map E1.opd
      (AV.pureL l = true ∧ (l.all fun a => a.known && a.cells.length == s && a.cells.all AV.one) = true ∧ l.length * s ≤ 16777216 ∧ 0 < l.length ∧ 0 < s) ∧ K { E1 with rows := (E1.n, ⟨e, s, l, false⟩) :: E1.rows, n := E1.n + 1 } (.own E1.n)
  | .mksl e s by_ z n => match E.opd n with
      | .int _ k => (0 ≤ k ∧ k * by_ ≤ 140737488355328 ∧ k ≤ 9223372036854775807 ∧ z.length = s ∧ 0 < s ∧ z.all AV.one = true ∧ AV.pureL z = true) ∧ K { E with rows := (E.n, ⟨e, s, List.replicate k.toNat (if s = 1 then z.getD 0 .top else .ag z), false⟩) :: E.rows, n := E.n + 1 } (.own E.n)
      | _ => False
  | .slc s x lo hi => match E.opd x with
    | .own i => match E.rows.lookup i with
      | some R => match E.opt lo (.int .i64 0), E.opt hi (.int .i64 R.l.length) with
        | .int _ o, .int _ h => (R.s = s ∧ 0 ≤ o ∧ o ≤ h ∧ h ≤ R.l.length ∧ o < R.l.length) ∧ K E (.osl i s o.toNat (h.toNat - o.toNat))
        | _, _ => False
      | none => False
    | .sl s' m f => match E.opt lo (.int .i64 0), E.opt hi (.int .i64 m) with
        | .int _ o, .int _ h => (s' = s ∧ 0 ≤ o ∧ o ≤ h ∧ h ≤ m) ∧ K E (.sl s' (h.toNat - o.toNat) fun j => f (o.toNat + j))
        | _, _ => False
    | _ => False
  | .store n a x =>
      match E.opd a with
      | .ptr b off => match E.boxes.lookup b with
          | some B => ((E.opd x).known = true ∧ (E.opd x).cells.length = n ∧ (E.opd x).cells.all AV.cell = true ∧ off + (E.opd x).cells.length ≤ B.c.length) ∧
              K { E with boxes := repl b ⟨B.T, B.c.take off ++ (E.opd x).cells ++ B.c.drop (off + (E.opd x).cells.length)⟩ E.boxes } .top
          | none => False
      | .ept (.own i) s j off =>
          let E1 := E.frzL (AV.owns (E.opd x))
          match E1.rows.lookup i with
          | some R => ((E1.opd x).known = true ∧ (E1.opd x).cells.length = n ∧ (E1.opd x).cells.all AV.one = true ∧ AV.pureL (E1.opd x).cells = true ∧ R.s = s ∧ j < R.l.length ∧ off + (E1.opd x).cells.length ≤ (R.l.getD j .top).cells.length ∧ 0 < (E1.opd x).cells.length) ∧
              K { E1 with rows := repl i { R with l := R.l.set j ((R.l.getD j .top).setc off (E1.opd x).cells) } E1.rows } .top
          | none => False
      | _ => False
  | .call f args => vcCall P mt E f args [] K
  | .callv x args => match E.opd x with
      | .fn f caps => vcCall P mt E f args caps K
      | _ => False
  | .app e s by_ x y => match E.els s (E.opd y) with
      | none => False
      | some (s', l') => match E.opd x with
        | .own i => match E.rows.lookup i with
            | some R => (R.e = e ∧ R.s = s ∧ s' = s ∧ R.fx = false ∧ (R.l.length + l'.length) * by_ ≤ 140737488355328 ∧ R.l.length + l'.length ≤ 9223372036854775807) ∧ K (E.grown i R l') (.own i)
            | none => False
        | .nils => (s' = s ∧ l'.length * by_ ≤ 140737488355328 ∧ l'.length ≤ 9223372036854775807) ∧ K ({ E with rows := (E.n, ⟨e, s, [], false⟩) :: E.rows, n := E.n + 1 }.grown E.n ⟨e, s, [], false⟩ l') (.own E.n)
        | _ => False
  | .copy x y => match E.dstv (E.opd x), E.els1 (E.opd y) with
      | some (i, o, n), some l => match E.rows.lookup i with
        | some R => (R.s = 1 ∧ o + n ≤ R.l.length ∧ 0 < min n l.length) ∧ K { E with rows := repl i { R with l := R.l.take o ++ l.take n ++ R.l.drop (o + min n l.length) } E.rows } (.int .i64 (min n l.length : Nat))
        | none => False
      | _, _ => False
  | _ => False

/-! ### out of the loaded operations -/
def compIdx : Nat → List (Nat × Operand) → Option (List Opn)
  | _, [] => some []
  | n, (i, x) :: r => if i = n then match compO x, compIdx (n + 1) r with
      | some x', some r' => some (x' :: r')
      | _, _ => none
      else none
def compOpt : Option Operand → Option (Option Opn)
  | none => some none
  | some x => (compO x).map some
def sameB : Opn → Opn → Bool
  | .t a, .t b => a == b
  | .k (.int k a), .k (.int k' b) => k == k' && a == b
  | _, _ => false
def compE (P : Program) : Op → Option Ins
  | .alloc T => (zeroA P T).map (.alloc T)
  | .box T x => (compO x).map (.box T 0)
  | .buildSlice t len parts => match P.underlying t with
      | some (.slice e) => match P.info? e, compIdx 0 parts.toList with
          | some i, some ps => if ps.length = len ∧ 0 < i.size ∧ i.zero.isSome = true then some (.bsl e i.size ps) else none
          | _, _ => none
      | _ => none
  | .makeSlice t n c => match P.underlying t with
      | some (.slice e) => match P.info? e, zeroA P e, compO n, compO c with
          | some i, some z, some n', some c' => if sameB n' c' && decide (0 < i.size) then some (.mksl e i.size i.bytes z n') else none
          | _, _, _, _ => none
      | _ => none
  | .slice t x lo hi none => match P.underlying t with
      | some (.slice e) => match P.info? e with
          | some i => do pure (.slc i.size (← compO x) (← compOpt lo) (← compOpt hi))
          | none => none
      | _ => none
  | .store t a x => match P.info? t with
      | some i => do pure (.store i.size (← compO a) (← compO x))
      | none => none
  | .call c => match c.callee with
      | .value (.func f) => (compL c.args.toList).map (.call f)
      | .value x => do pure (.callv (← compO x) (← compL c.args.toList))
      | .builtin .append => match c.args.toList, c.argTypes.toList with
          | [x, y], [t, t'] => if t = t' then match P.underlying t with
              | some (.slice e) => match P.info? e with
                  | some i => if 0 < i.size ∧ i.zero.map (·.cells.size) = some i.size then do pure (.app e i.size i.bytes (← compO x) (← compO y)) else none
                  | none => none
              | _ => none
              else none
          | _, _ => none
      | .builtin .copy => match c.args.toList, c.argTypes.toList with
          | [x, y], [t, t'] => match P.underlying t with
              | some (.slice e) => if (P.info? e).map (·.size) = some 1 then do pure (.copy (← compO x) (← compO y)) else none
              | _ => none
          | _, _ => none
      | _ => none
  | _ => none

end Go.VV
