/-
  A reader of Go functions, part K: the code of a function.
-/
import Derived.Test.YtobacchojjfpfaaDoorEngS
namespace Go.Proofs.YtobacchojjfpfaaDoor.Eng
open Go.RowKit
set_option linter.unusedVariables false
set_option linter.unusedSimpArgs false

inductive Ex where
  | normal | exit (id : Nat) | ret
  deriving DecidableEq, Inhabited
def Ex.out : Ex → Exit | .normal => .normal | .exit i => .exit i | .ret => .ret

/-! The state at a loop's head: what the rounds turn becomes variables. -/
structure Hint where
  gen : List Nat
  keep : List Nat
  gbx : List Nat
  /-- Nil slices (slot, cell, element's type) that become rows of the call's own. -/
  gv : List (Nat × Nat × TypeId)
  /-- Nil slices that become data. -/
  gn : List (Nat × Nat × TypeId)
  /-- Slots that are there only behind the join: one cell, or several. -/
  nw : List (Nat × Bool × List Ty)
  /-- 0: a loop; 1: a join; 2: tell the states that come to it. -/
  jn : Nat
  /-- The heap turns. -/
  gh : Bool
  deriving Inhabited
/-- A nil slice read as something else. -/
def setNil (st : St) (t i : Nat) (c : C) : Option St :=
  match st.tm.lookup t with
  | some (.one .nils) => some { st with tm := (t, .one c) :: st.tm }
  | some (.agg cs) => if cs[i]? = some .nils then some { st with tm := (t, .agg (cs.set i c)) :: st.tm } else none
  | some (.one (.ptr n _)) => match st.bx.lookup n with
    | some (.box bt cs) => if cs[i]? = some .nils then some { st with bx := (n, .box bt (cs.set i c)) :: st.bx } else none
    | _ => none
  | _ => none
def prepV (P : Program) : List (Nat × Nat × TypeId) → St → St
  | [], st => st
  | (t, i, e) :: l, st => prepV P l (if st.fresh && (cellTys P e).isSome then (setNil (st.newRow e) t i (.vec st.nn)).getD st else st)
def prepN : List (Nat × Nat × TypeId) → St → St
  | [], st => st
  | (t, i, e) :: l, st => prepN l ((setNil st t i (.dat (.slice e) .lnil)).getD st)
def prep (P : Program) (h : Hint) (st : St) (k : St → T) : T :=
  match h.gv, h.gn, h.gh with
  | [], [], false => k st
  | gv, gn, gh => frSt (prepN gn (prepV P gv (if gh then st.lose st.views else st))) k
def nub : List Nat → List Nat
  | [] => []
  | n :: l => n :: (nub l).filter (fun m => m != n)
def genC (n : Nat) : C → C × List E × Nat
  | .dat t e => (.dat t (.var n), [e], n + 1)
  | c => (c, [], n)
def genCs : Nat → List C → List C × List E × Nat
  | n, [] => ([], [], n)
  | n, c :: cs => let (c', e, m) := genC n c; let (cs', es, k) := genCs m cs; (c' :: cs', e ++ es, k)
def genSV (n : Nat) : SV → SV × List E × Nat
  | .one c => let (c', e, m) := genC n c; (.one c', e, m)
  | .agg cs => let (cs', e, m) := genCs n cs; (.agg cs', e, m)
  | s => (s, [], n)
def genTm (tm : List (Nat × SV)) : Nat → List Nat → List (Nat × SV) × List E × Nat
  | n, [] => ([], [], n)
  | n, t :: ts => match tm.lookup t with
    | some sv => let (sv', e, m) := genSV n sv; let (l, es, k) := genTm tm m ts; ((t, sv') :: l, e ++ es, k)
    | none => genTm tm n ts
def genBx (bx : List (Nat × Box)) : Nat → List Nat → List (Nat × Box) × List E × Nat
  | n, [] => ([], [], n)
  | n, b :: bs => match bx.lookup b with
    | some (.box t cs) => let (cs', e, m) := genCs n cs; let (l, es, k) := genBx bx m bs; ((b, .box t cs') :: l, e ++ es, k)
    | some (.vec t x) => let (l, es, k) := genBx bx (n + 1) bs; ((b, .vec t (.var n)) :: l, x :: es, k)
    | some (.map t x) => let (l, es, k) := genBx bx (n + 1) bs; ((b, .map t (.var n)) :: l, x :: es, k)
    | _ => genBx bx n bs
def genHp (gh : Bool) (hp : Option (Bool × E)) (n : Nat) : Option (Bool × E) × List E × Nat :=
  match gh, hp with
  | true, some (m, e) => (some (m, .var n), [e], n + 1)
  | _, hp => (hp, [], n)
def headSt (h : Hint) (st : St) : St × List E :=
  let (l1, e1, n1) := genTm st.tm st.nv h.gen
  let (l2, e2, n2) := genBx st.bx n1 (nub (h.gbx.flatMap fun t => match st.tm.lookup t with | some (.one (.ptr n _)) => n :: (match st.bx.lookup n with | some b => b.rows | none => []) | some v => v.rows | none => []))
  let (hp, e3, n3) := genHp h.gh st.hp n2
  ({ st with tm := l1 ++ h.keep.filterMap (fun t => (st.tm.lookup t).map (t, ·)), bx := l2 ++ st.bx, nv := n3, hp := hp }, e1 ++ e2 ++ e3)
def newTm : List (Nat × Bool × List Ty) → Nat → List (Nat × SV) × Nat
  | [], n => ([], n)
  | (t, b, ts) :: l, n => let (tm, k) := newTm l (n + ts.length); ((t, if b then .agg (varCs ts n) else match ts with | [ty] => .one (.dat ty (.var n)) | _ => .tup []) :: tm, k)
def joinSt (h : Hint) (st : St) : St :=
  let s := (headSt h st).1
  let (l, k) := newTm h.nw s.nv
  { s with tm := l ++ s.tm, nv := k }
/-- What the state's variables from n0 on stand for, that the state st' may be read as st. -/
def agC (n0 : Nat) (c c' : C) : Option (List (Nat × E)) :=
  match c with
  | .dat t (.var n) => if n0 ≤ n then (mat t c').map fun e => [(n, e)] else if c = c' then some [] else none
  | c => if c = c' && c.sc n0 then some [] else none
def agCs (n0 : Nat) : List C → List C → Option (List (Nat × E))
  | [], [] => some []
  | c :: cs, d :: ds => match agC n0 c d, agCs n0 cs ds with
    | some a, some b => some (a ++ b)
    | _, _ => none
  | _, _ => none
def agSV (n0 : Nat) : SV → SV → Option (List (Nat × E))
  | .one c, .one d => agC n0 c d
  | .agg cs, .agg ds => agCs n0 cs ds
  | s, s' => if s = s' && s.sc n0 then some [] else none
def agTm (n0 : Nat) (tm' : List (Nat × SV)) : List (Nat × SV) → Option (List (Nat × E))
  | [] => some []
  | (t, sv) :: l => match tm'.lookup t with
    | some sv' => match agSV n0 sv sv', agTm n0 tm' l with
      | some a, some b => some (a ++ b)
      | _, _ => none
    | none => none
def agBox (n0 : Nat) : Box → Box → Option (List (Nat × E))
  | .box t cs, .box t' cs' => if t = t' then agCs n0 cs cs' else none
  | .vec e (.var n), .vec e' y => if e = e' ∧ n0 ≤ n then some [(n, y)] else if .vec e (.var n) = Box.vec e' y ∧ (E.var n).sc n0 then some [] else none
  | .map e (.var n), .map e' y => if e = e' ∧ n0 ≤ n then some [(n, y)] else if .map e (.var n) = Box.map e' y ∧ (E.var n).sc n0 then some [] else none
  | x, y => if x = y && x.sc n0 then some [] else none
def agBx (n0 : Nat) (bx bx' : List (Nat × Box)) : List Nat → Option (List (Nat × E))
  | [] => some []
  | n :: l => match bx.lookup n, bx'.lookup n with
    | some x, some y => match agBox n0 x y, agBx n0 bx bx' l with
      | some a, some b => some (a ++ b)
      | _, _ => none
    | _, _ => none
def agHp (n0 : Nat) : Option (Bool × E) → Option (Bool × E) → Option (List (Nat × E))
  | none, none => some []
  | some (m, .var n), some (m', e) => if m = m' then (if n0 ≤ n then some [(n, e)] else if e = .var n then some [] else none) else none
  | some (m, e), some (m', e') => if m = m' ∧ e = e' ∧ e.sc n0 = true then some [] else none
  | _, _ => none
def agVals (asg : List (Nat × E)) (n0 : Nat) : Nat → Option (List E)
  | 0 => some []
  | k + 1 => match agVals asg n0 k, asg.lookup (n0 + k) with
    | some l, some e => some (l ++ [e])
    | _, _ => none
def agree (n0 k : Nat) (st st' : St) : Option (List E) :=
  match agTm n0 st'.tm st.tm, agBx n0 st.bx st'.bx (st.bx.map (·.1)), agHp n0 st.hp st'.hp with
  | some a, some b, some c =>
    if (a ++ b ++ c).all (fun p => decide ((a ++ b ++ c).lookup p.1 = some p.2) && decide (p.1 < n0 + k)) && st.fs.all (fun p => p.1.sc n0) && decide (st.ex = [] ∧ st'.ex = [] ∧ st.cf = st'.cf) then agVals (a ++ b ++ c) n0 k else none
  | _, _, _ => none

section
variable (P : Program) (nt : Nat) (hints : List (Nat × Hint))
/-- The number of the first region in a code. -/
def firstReg : Code → Nat
  | .region id _ _ => id
  | .seq a b => match firstReg a with | 0 => firstReg b | n => n
  | .cond _ a b => match firstReg a with | 0 => firstReg b | n => n
  | .block _ b | .loop b | .scope b => firstReg b
  | _ => 0
def br (st : St) (x : Operand) (K : Bool → St → T) : T :=
  match opC st x with
  | some (.dat .bool e) => match known st e with
    | some b => K b st
    | none => .ite e (K true { st with fs := addFact e true st.fs }) (K false { st with fs := addFact e false st.fs })
  | _ => .fail 20
/-- Slices written out here become rows of the call's own. -/
def litHere (id : Nat) : Bool := match hints.lookup id with | some h => h.jn == 4 | none => false
/-- A loop written out. -/
def unroll (f : St → Nat → (Ex → St → Nat → T) → T) : Nat → St → Nat → (Ex → St → Nat → T) → T
  | 0, _, _, _ => .fail 27
  | n + 1, st, lv, K => f st lv fun e st' lv' => match e with
    | .normal => unroll f n st' lv' K
    | e => K e st' lv'
/-- Rows that stand where the head has data. -/
def fzT (h st : St) : List Nat := h.tm.filterMap fun p => match p.2, st.tm.lookup p.1 with
  | .one (.dat (.slice _) _), some (.one (.vec m)) => some m
  | _, _ => none
def exec : Code → St → Nat → (Ex → St → Nat → T) → T
  | .skip, st, lv, K => K .normal st lv
  | .seq a b, st, lv, K => match hints.lookup (firstReg b) with
    | some ⟨_, _, _, _, _, _, 2, _⟩ => exec a st lv fun e st' lv' => match e with
      | .normal => .stop st'
      | e => K e st' lv'
    | some ⟨h1, h2, h3, h4, h5, h6, 1, h8⟩ => prep P ⟨h1, h2, h3, h4, h5, h6, 1, h8⟩ st fun st => frSt (joinSt ⟨h1, h2, h3, h4, h5, h6, 1, h8⟩ st) fun sj => frN (sj.nv - st.nv) fun k =>
      if sj.nv = st.nv + k ∧ sj.fs = st.fs then .jp (exec b sj lv K) (exec a st (lv + 1) fun e st' lv' => match e with
        | .normal => match agree st.nv k sj st' with
          | some es => .again lv es
          | none => .fail 81
        | e => K e st' lv') else .fail 82
    | _ => exec a st lv fun e st' lv' => match e with
      | .normal => exec b st' lv' K
      | e => K e st' lv'
  | .cond c a b, st, lv, K => br st c fun t st' => if t then exec a st' lv K else exec b st' lv K
  | .block id c, st, lv, K => exec c st lv fun e st' lv' => match e with
    | .exit i => if i = id then K .normal st' lv' else K (.exit i) st' lv'
    | e => K e st' lv'
  | .loop c, st, lv, K => match hints.lookup (firstReg c) with
    | some h => if h.jn = 3 then unroll (exec c) (h.gen.headD 0) st lv K else prep P h st fun st =>
      let st' := (headSt h st).1
      let inits := (headSt h st).2
      match agree st.nv inits.length st' st with
      | some es => if es = inits ∧ st.sc = true ∧ st'.nv = st.nv + inits.length then .loop inits (exec c st' (lv + 1) fun e st'' lv' => match e with
        | .normal => frFz st'' (fzT st' st'') fun st'' => match agree st.nv inits.length st' st'' with
          | some es => .again lv es
          | none => .fail 22
        | e => K e st'' lv') else .fail 23
      | none => .fail 24
    | none => .fail 21
  | .exit id, st, lv, K => K (.exit id) st lv
  | .ret, st, lv, K => K .ret st lv
  | .region id ops draw, st, lv, K => if draw then doDrawn P nt ops st (fun st' => K .normal st' lv) else if litHere hints id then doLits P nt ops ops.toList st (fun st' => K .normal st' lv) else doOps P nt ops ops.toList st fun st' => K .normal st' lv
  | _, st, lv, K => .fail 26
end
end Go.Proofs.YtobacchojjfpfaaDoor.Eng
