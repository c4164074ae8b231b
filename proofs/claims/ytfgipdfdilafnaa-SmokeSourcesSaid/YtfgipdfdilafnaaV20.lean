/- A function, laid out; how its law is shown. -/
import Derived.Test.YtfgipdfdilafnaaV19
import Derived.KernelRfl
set_option linter.unusedSimpArgs false
set_option linter.unusedVariables false
namespace Go.VV
open Go.RowKit

structure Laid (P : Program) (f : FuncId) (c : C) (rvs : List RV) (k : Nat) : Prop where
  out : ∃ fn sch, P.funcs[f]? = some fn ∧ (fn.name == "runtime.NumGoroutine") = false ∧ fn.body.bind (comp P sch) = some c ∧ compRVs P fn.results.toList = some rvs ∧ fn.ntmps = k

theorem Laid.spec {P : Program} {f : FuncId} {c : C} {rvs : List RV} {k : Nat} (h : Laid P f c rvs k) (hm : P.follows .mixedOrders = true) (mt : Mt) {Cx0 : Cx} {n : Nat} {args : List AV} {Q : AV → Cx → Prop}
    (hv : vc P mt n c (vcRet n rvs Q) (fun _ _ => False) (vcRet n rvs Q) ⟨argT 0 args, Cx0.rows, Cx0.boxes, n, k⟩) (hka : args.length ≤ k) : Spec P f Cx0 n args Q := by
  obtain ⟨fn, sch, h1, h2, h3, h4, h5⟩ := h.out
  cases hb : fn.body with
  | none => simp [hb] at h3
  | some b =>
    rw [hb, Option.bind_some] at h3
    exact Spec.of_vc h1 h2 hb hm h3 h4 h5 hv hka

/-- A schedule as it comes: what reads first, then what acts. -/
def isQ (P : Program) (o : Oper) : Bool := (compQ P o.op).isSome
def dsOf (ops : Array Oper) : List Nat := (List.range ops.size).filter fun i => match ops[i]? with
  | some o => match o.op with
    | .store _ _ _ => true
    | .call c => match c.callee with | .builtin .append => true | .builtin .copy => true | _ => false
    | _ => false
  | none => false
def dsAp (ops : Array Oper) : List Nat := (List.range ops.size).filter fun i => match ops[i]? with
  | some o => match o.op with
    | .call c => match c.callee with | .builtin .append => true | .builtin .copy => true | _ => false
    | _ => false
  | none => false
def mkSch (P : Program) (ops : Array Oper) : Nat → Array Bool → Sch
  | 0, _ => .done
  | f + 1, l =>
    let r := Region.ready .any ops l
    match r.find? fun i => match ops[i]? with | some o => isQ P o && Region.free .any ops l i | none => false with
    | some i => .take i (mkSch P ops f (l.setIfInBounds i true))
    | none => match r with
      | [] => .done
      | [i] => .one i (mkSch P ops f (l.setIfInBounds i true))
      | [i, j] => .two i (mkSch P ops f (l.setIfInBounds i true)) j (mkSch P ops f (l.setIfInBounds j true))
      | _ => .done
/-- The same, but what an act of ds might disturb waits its turn. -/
def mkSchD (P : Program) (ops : Array Oper) (ds : List Nat) : Nat → Array Bool → Sch
  | 0, _ => .done
  | f + 1, l =>
    let r := Region.ready .any ops l
    match r.find? fun i => match ops[i]? with | some o => isQ P o && Region.free .any ops l i && ((ds.all fun d => l.getD d true || reachB .any ops i ops.size d) || movB ops i) | none => false with
    | some i => .take i (mkSchD P ops ds f (l.setIfInBounds i true))
    | none => match r with
      | [] => .done
      | [i] => .one i (mkSchD P ops ds f (l.setIfInBounds i true))
      | [i, j] => .two i (mkSchD P ops ds f (l.setIfInBounds i true)) j (mkSchD P ops ds f (l.setIfInBounds j true))
      | _ => .done
/-- The same, and what makes a block of its own comes when nothing else can. -/
def lzOper (P : Program) (ops : Array Oper) (i : Nat) : Bool := match ops[i]? with
  | some o => match compIO P ops o with
    | some io => lzI io && o.after.all (fun e => !Region.binds .any e) && (List.range ops.size).all fun j => j == i || (ops[j]?).bind (·.dst) != io.d
    | none => false
  | none => false
def mkSchL (P : Program) (ops : Array Oper) (ds zs : List Nat) : Nat → Array Bool → Sch
  | 0, _ => .done
  | f + 1, l =>
    let r := (Region.ready .any ops l).filter fun i => !zs.contains i
    match r.find? fun i => match ops[i]? with | some o => isQ P o && Region.free .any ops l i && ((ds.all fun d => l.getD d true || reachB .any ops i ops.size d) || movB ops i) | none => false with
    | some i => .take i (mkSchL P ops ds zs f (l.setIfInBounds i true))
    | none => match r with
      | [] => match zs.find? fun z => !l.getD z true && (let l2 := setAll l (zs.filter (· != z)); (Region.ready .any ops (l2.setIfInBounds z true)).any fun j => !zs.contains j) && !((Region.ready .any ops (setAll l (zs.filter (· != z)))).any fun j => !zs.contains j) with
        | some z => .lz z (mkSchL P ops ds zs f (l.setIfInBounds z true))
        | none => match zs.find? fun z => !l.getD z true with
          | some z => .lz z (mkSchL P ops ds zs f (l.setIfInBounds z true))
          | none => .done
      | [i] => .one i (mkSchL P ops ds zs f (l.setIfInBounds i true))
      | [i, j] => .two i (mkSchL P ops ds zs f (l.setIfInBounds i true)) j (mkSchL P ops ds zs f (l.setIfInBounds j true))
      | [i, j, k] => .three i (mkSchL P ops ds zs f (l.setIfInBounds i true)) j (mkSchL P ops ds zs f (l.setIfInBounds j true)) k (mkSchL P ops ds zs f (l.setIfInBounds k true))
      | _ => .done
def pickSch (P : Program) (ops : Array Oper) : List Nat × Sch :=
  let l := Array.replicate ops.size false
  let s := mkSch P ops ops.size l
  if schOk .any ops (dsOf ops) ops.size l s then (dsOf ops, s)
  else if schOk .any ops (dsAp ops) ops.size l s then (dsAp ops, s)
  else
    let s2 := mkSchD P ops (dsOf ops) ops.size l
    if schOk .any ops (dsOf ops) ops.size l s2 then (dsOf ops, s2)
    else
      let zs := (List.range ops.size).filter (lzOper P ops)
      let cands := zs :: (zs.map fun z => zs.filter (· != z)) ++ zs.flatMap fun z => zs.map fun z2 => (zs.filter (· != z)).filter (· != z2)
      match cands.find? fun zs => schOk .any ops (dsOf ops) ops.size l (mkSchL P ops (dsOf ops) zs ops.size l) with
      | some zs => (dsOf ops, mkSchL P ops (dsOf ops) zs ops.size l)
      | none => (dsOf ops, .done)
def draws (P : Program) : Code → List (Nat × List Nat × Sch)
  | .region id ops true =>
    [(id, pickSch P ops)]
  | .seq x y => draws P x ++ draws P y
  | .cond _ x y => draws P x ++ draws P y
  | .block _ x => draws P x
  | .loop x => draws P x
  | _ => []
def schOf (l : List (Nat × List Nat × Sch)) (id : Nat) : List Nat × Sch := (l.lookup id).getD ([], .done)

end Go.VV
