/-
  A reader of Go functions, part A: data, expressions, what a value of a Go type reads as, symbolic values and states.
-/
import Derived.Calls
import Derived.Orders
import Derived.Below
import Derived.KernelRfl
import Derived.Test.YtobacchojjfpfaaGreatDoorMem
namespace Go.Proofs.YtobacchojjfpfaaGreatDoor.Eng
set_option linter.unusedVariables false

/-- Data without memory. -/
inductive D where
  | int (n : Int)
  | bool (b : Bool)
  | str (s : ByteArray)
  | agg (l : List D)
  | iface (t : Nat) (d : D)
  | nil
  deriving Inhabited
def D.toInt : D → Int | .int n => n | _ => 0
def D.toBool : D → Bool | .bool b => b | _ => false
def D.toStr : D → ByteArray | .str s => s | _ => ByteArray.empty
def D.toL : D → List D | .agg l => l | _ => []
def D.isNil : D → Bool | .nil => true | _ => false
def D.dyn : D → Nat | .iface t _ => t | _ => 0
def D.isIf : D → Nat → Bool | .iface t _, u => t == u | _, _ => false
def D.inner : D → D | .iface _ d => d | _ => .nil
@[simp] theorem D.toInt_int (n : Int) : (D.int n).toInt = n := rfl
@[simp] theorem D.toBool_bool (b : Bool) : (D.bool b).toBool = b := rfl
@[simp] theorem D.toStr_str (s : ByteArray) : (D.str s).toStr = s := rfl
@[simp] theorem D.toL_agg (l : List D) : (D.agg l).toL = l := rfl
@[simp] theorem D.toL_nil : D.nil.toL = [] := rfl
@[simp] theorem D.isNil_nil : D.nil.isNil = true := rfl
@[simp] theorem D.isNil_iface (t : Nat) (d : D) : (D.iface t d).isNil = false := rfl
@[simp] theorem D.isNil_agg (l : List D) : (D.agg l).isNil = false := rfl
@[simp] theorem D.inner_iface (t : Nat) (d : D) : (D.iface t d).inner = d := rfl
@[simp] theorem D.dyn_iface (t : Nat) (d : D) : (D.iface t d).dyn = t := rfl
@[simp] theorem D.isIf_iface (t u : Nat) (d : D) : (D.iface t d).isIf u = (t == u) := rfl
@[simp] theorem D.isIf_nil (u : Nat) : D.nil.isIf u = false := rfl

/-- Types of one cell. -/
inductive Ty where
  | int (k : IntKind) | bool | str | ifc | slice (e : TypeId) | ptr (e : TypeId) | fn
  deriving DecidableEq, Repr, Inhabited
/-- What a reader is told of a program: types whose pointers lead into the heap; which cells of such types are data all the same (bits); what functions do with the heap (1: they look, 2: they write, 3: they have one of their own); what their captured variables' types are; which of their results are rows that are given away (bits), and which of their parameters (bits). -/
structure Cf where
  hc : List TypeId
  ob : List (Nat × Nat)
  hm : List (Nat × Nat)
  cp : List (Nat × List TypeId)
  rr : List (Nat × Nat)
  rp : List (Nat × Nat)
  gs : List (Nat × TypeId × List ByteArray)
  deriving DecidableEq, Inhabited
def Cf.none : Cf := ⟨[], [], [], [], [], [], []⟩
/-- What may be looked at: blocks that do not turn; which blocks the heap's things are; what leads into the heap. -/
structure Fr where
  ok : Nat → Prop
  γ : List (Nat × TypeId)
  hc : List TypeId
instance : CoeFun Fr (fun _ => Nat → Prop) := ⟨Fr.ok⟩
@[reducible] def Fr.or (F : Fr) (p : Nat → Prop) : Fr := ⟨fun b => F b ∨ p b, F.γ, F.hc⟩
def tyOf (P : Program) (t : TypeId) : Option Ty :=
  match P.underlying t with
  | some (.int k) => some (.int k)
  | some .bool => some .bool
  | some .string => some .str
  | some (.interface _) => some .ifc
  | some (.slice e) => some (.slice e)
  | some (.pointer e) => some (.ptr e)
  | some (.func _ _ _) => some .fn
  | _ => none
def cellTysN (P : Program) : Nat → TypeId → Option (List Ty)
  | 0, _ => none
  | n + 1, t => match P.underlying t with
    | some (.struct fs) => fs.toList.foldr (fun f acc => match cellTysN P n f.type, acc with | some a, some b => some (a ++ b) | _, _ => none) (some [])
    | some (.array m e) => (cellTysN P n e).map fun l => (List.replicate m l).flatten
    | _ => (tyOf P t).map ([·])
def cellTys (P : Program) (t : TypeId) : Option (List Ty) := cellTysN P 8 t
/-- The c-th cell of an element. -/
def cellOf (n : Nat) (el : D) (c : Nat) : D := if n = 1 then el else el.toL.getD c .nil

/-- Value v reads as d in memory w; only blocks of F are looked at. -/
inductive Rd (P : Program) (w : World) (F : Fr) : Ty → D → Value → Prop
  | int {k d v} : v = .int k d.toInt → Rd P w F (.int k) d v
  | bool {d v} : v = .bool d.toBool → Rd P w F .bool d v
  | str {d v} : v = .string d.toStr → Rd P w F .str d v
  | inil {d v} : d = .nil → v = .nilIface → Rd P w F .ifc d v
  | iface {d t d' u v' v} : d = .iface t d' → v = .iface t v' → tyOf P t = some u → u ≠ .ifc → Rd P w F u d' v' → Rd P w F .ifc d v
  | pnil {e d v} : d = .nil → v = .pointer none → Rd P w F (.ptr e) d v
  | href {e d v n b} : F.hc.contains e = true → d = .int (n : Nat) → F.γ[n]? = some (b, e) → v = .pointer (some ⟨b, 0, none⟩) → Rd P w F (.ptr e) d v
  | fnil {d v} : d = .nil → v = .nilFunc → Rd P w F .fn d v
  | fn {d v f} {l : List D} {vs : List Value} : d = .iface f (.agg l) → v = .func (.func f) #[] vs.toArray → vs.length = l.length →
      (∀ (c : Nat) (x : D) (u : Value), l[c]? = some x → vs[c]? = some u → Rd P w F (.ptr x.dyn) x.inner u) → Rd P w F .fn d v
  | ptr {e d v b o} {l : List D} {ts : List Ty} {g : Nat → Value} : F.hc.contains e = false → d = .agg l → v = .pointer (some ⟨b, o, none⟩) → cellTys P e = some ts → l.length = ts.length → F b →
      (∀ c x, l[c]? = some x → w.cell? ⟨b, o + c, none⟩ = some (g c)) → (∀ c x t, l[c]? = some x → ts[c]? = some t → Rd P w F t x (g c)) → Rd P w F (.ptr e) d v
  | snil {e d a cap v} : d.toL = [] → v = .slice a 0 cap → Rd P w F (.slice e) d v
  | slice {e d v b o len cap} {ts : List Ty} {g : Nat → Nat → Value} : v = .slice (some ⟨b, o, none⟩) len cap → cellTys P e = some ts → len = d.toL.length → len ≤ cap → F b →
      (∀ i c, i < d.toL.length → c < ts.length → w.cell? ⟨b, o + i * ts.length + c, none⟩ = some (g i c)) →
      (∀ i c x t, d.toL[i]? = some x → ts[c]? = some t → Rd P w F t (cellOf ts.length x c) (g i c)) → Rd P w F (.slice e) d v

theorem cell?_of_heap {w w' : World} {b : Nat} (h : w'.heap[b]? = w.heap[b]?) (o : Nat) (s : Option Nat) : w'.cell? ⟨b, o, s⟩ = w.cell? ⟨b, o, s⟩ := by
  unfold World.cell?
  simp only [h]

/-- More may be looked at, and what could be has not turned. -/
structure Le (w : World) (F : Fr) (w' : World) (F' : Fr) : Prop where
  b : ∀ b, F b → F' b ∧ w'.heap[b]? = w.heap[b]?
  γ : F.γ <+: F'.γ
  hc : F'.hc = F.hc
theorem Le.get {w w' : World} {F F' : Fr} (h : Le w F w' F') {n : Nat} {p : Nat × TypeId} (hn : F.γ[n]? = some p) : F'.γ[n]? = some p := by
  obtain ⟨l, e⟩ := h.γ
  rw [← e, List.getElem?_append_left (List.getElem?_eq_some_iff.1 hn).1]; exact hn
theorem Le.trans {w w' w'' : World} {F F' F'' : Fr} (h : Le w F w' F') (h' : Le w' F' w'' F'') : Le w F w'' F'' :=
  ⟨fun b hb => ⟨(h'.b b (h.b b hb).1).1, (h'.b b (h.b b hb).1).2.trans (h.b b hb).2⟩, h.γ.trans h'.γ, h'.hc.trans h.hc⟩
theorem Le.same {w w' : World} {F : Fr} (h : ∀ b, F b → w'.heap[b]? = w.heap[b]?) : Le w F w' F := ⟨fun b hb => ⟨hb, h b hb⟩, List.prefix_refl _, rfl⟩
theorem Le.or {w w' : World} {F : Fr} {p : Nat → Prop} (h : ∀ b, F b → w'.heap[b]? = w.heap[b]?) : Le w F w' (F.or p) := ⟨fun b hb => ⟨.inl hb, h b hb⟩, List.prefix_refl _, rfl⟩
theorem Rd.mono {P : Program} {w w' : World} {F F' : Fr} (h : Le w F w' F') {t : Ty} {d : D} {v : Value} (hr : Rd P w F t d v) : Rd P w' F' t d v := by
  induction hr with
  | int e => exact .int e
  | bool e => exact .bool e
  | str e => exact .str e
  | inil e1 e2 => exact .inil e1 e2
  | iface e1 e2 e3 e4 _ ih => exact .iface e1 e2 e3 e4 ih
  | pnil e1 e2 => exact .pnil e1 e2
  | href e1 e2 e3 e4 => exact .href (by rw [h.hc]; exact e1) e2 (h.get e3) e4
  | fnil e1 e2 => exact .fnil e1 e2
  | fn e1 e2 e3 _ ih => exact .fn e1 e2 e3 ih
  | ptr e0 e1 e2 e3 e4 e5 e6 _ ih => exact .ptr (by rw [h.hc]; exact e0) e1 e2 e3 e4 (h.b _ e5).1 (fun c x hx => by rw [cell?_of_heap (h.b _ e5).2]; exact e6 c x hx) ih
  | snil e1 e2 => exact .snil e1 e2
  | slice e1 e2 e3 e0 e4 e5 _ ih => exact .slice e1 e2 e3 e0 (h.b _ e4).1 (fun i c hi hc => by rw [cell?_of_heap (h.b _ e4).2]; exact e5 i c hi hc) ih

/-! Expressions over variables. -/
inductive E where
  | var (n : Nat)
  | int (n : Int) | bool (b : Bool) | str (s : ByteArray) | nil
  | ar (op : BinOp) (k : IntKind) (a b : E)
  | cmp (op : BinOp) (a b : E)
  | not (a : E) | beq (a b : E)
  | conv (k : IntKind) (a : E)
  | ite (c a b : E)
  | len (a : E) | get (a i : E) | cell (a : E) (c : Nat)
  | lnil | lcons (a b : E) | app (a b : E) | sub (a lo hi : E)
  | slen (a : E) | scat (a b : E) | sidx (a i : E) | ssub (a lo hi : E) | scmp (op : BinOp) (a b : E)
  | isnil (a : E) | mkif (t : Nat) (a : E) | isif (t : Nat) (a : E) | ifv (a : E)
  | ptr (a : E)
  | and (a b : E) | or (a b : E)
  | set (a i v : E) | setc (n : Nat) (a : E) (c : Nat) (v : E) | rep (k z : E)
  | mget (ks : List Nat) (a k z : E) | mput (ks : List Nat) (a k v : E) | mix (ks : List Nat) (a k : E)
  deriving DecidableEq, Inhabited

/-- A row of words. -/
def strE : List ByteArray → E
  | [] => .lnil
  | s :: l => .lcons (.str s) (strE l)
/-! Maps: lists of entries, key and value, in the order in which they came. -/
def kcell : Nat → D → D → Bool
  | 0, a, b => a.toInt == b.toInt
  | 1, a, b => a.toBool == b.toBool
  | _, a, b => a.toStr.toList == b.toStr.toList
def keqL (n : Nat) : List Nat → Nat → D → D → Bool
  | [], _, _, _ => true
  | q :: ks, c, a, b => kcell q (cellOf n a c) (cellOf n b c) && keqL n ks (c + 1) a b
def keq (ks : List Nat) (a b : D) : Bool := keqL ks.length ks 0 a b
/-- Where a key's entry stands; the count of all: nowhere. -/
def mfind (ks : List Nat) (l : List D) (k : D) : Nat := l.findIdx fun e => keq ks k (e.toL.getD 0 .nil)
def mgetD (ks : List Nat) (l : List D) (k z : D) : D := if mfind ks l k < l.length then (l.getD (mfind ks l k) .nil).toL.getD 1 .nil else z
def mputD (ks : List Nat) (l : List D) (k v : D) : List D := if mfind ks l k < l.length then l.set (mfind ks l k) (.agg [k, v]) else l ++ [.agg [k, v]]

def arF (op : BinOp) (k : IntKind) (x y : Int) : Int :=
  match op with
  | .add => k.wrap (x + y) | .sub => k.wrap (x - y) | .mul => k.wrap (x * y)
  | .quo => k.wrap (x.tdiv y) | .rem => x.tmod y
  | .and => k.wrap ((BitVec.ofInt k.bits x &&& BitVec.ofInt k.bits y).toNat : Int)
  | .or => k.wrap ((BitVec.ofInt k.bits x ||| BitVec.ofInt k.bits y).toNat : Int)
  | .xor => k.wrap ((BitVec.ofInt k.bits x ^^^ BitVec.ofInt k.bits y).toNat : Int)
  | .andNot => k.wrap ((BitVec.ofInt k.bits x &&& ~~~ BitVec.ofInt k.bits y).toNat : Int)
  | .shl => k.wrap (x * 2 ^ (min y.toNat k.bits))
  | .shr => x.fdiv (2 ^ (min y.toNat k.bits))
  | _ => 0
def cmpF (op : BinOp) (x y : Int) : Bool :=
  match op with
  | .eql => x == y | .neq => x != y | .lss => x < y | .leq => x ≤ y | .gtr => x > y | .geq => x ≥ y | _ => false
def scmpF (op : BinOp) (x y : ByteArray) : Bool :=
  match op with
  | .eql => x.toList == y.toList | .neq => !(x.toList == y.toList)
  | .lss => Op.bytesLess x.toList y.toList
  | .leq => Op.bytesLess x.toList y.toList || x.toList == y.toList
  | .gtr => !(Op.bytesLess x.toList y.toList || x.toList == y.toList)
  | .geq => !(Op.bytesLess x.toList y.toList)
  | _ => false

def den (ρ : List D) : E → D
  | .var n => ρ.getD n .nil
  | .int n => .int n
  | .bool b => .bool b
  | .str s => .str s
  | .nil => .nil
  | .ar op k a b => .int (arF op k (den ρ a).toInt (den ρ b).toInt)
  | .cmp op a b => .bool (cmpF op (den ρ a).toInt (den ρ b).toInt)
  | .not a => .bool (!(den ρ a).toBool)
  | .beq a b => .bool ((den ρ a).toBool == (den ρ b).toBool)
  | .conv k a => .int (k.wrap (den ρ a).toInt)
  | .ite c a b => if (den ρ c).toBool = true then den ρ a else den ρ b
  | .len a => .int (den ρ a).toL.length
  | .get a i => (den ρ a).toL.getD (den ρ i).toInt.toNat .nil
  | .cell a c => (den ρ a).toL.getD c .nil
  | .lnil => .agg []
  | .lcons a b => .agg (den ρ a :: (den ρ b).toL)
  | .app a b => .agg ((den ρ a).toL ++ (den ρ b).toL)
  | .sub a lo hi => .agg (((den ρ a).toL.drop (den ρ lo).toInt.toNat).take ((den ρ hi).toInt.toNat - (den ρ lo).toInt.toNat))
  | .slen a => .int (den ρ a).toStr.size
  | .scat a b => .str ((den ρ a).toStr ++ (den ρ b).toStr)
  | .sidx a i => .int (((den ρ a).toStr.data.getD (den ρ i).toInt.toNat 0).toNat)
  | .ssub a lo hi => .str ((den ρ a).toStr.extract (den ρ lo).toInt.toNat (den ρ hi).toInt.toNat)
  | .scmp op a b => .bool (scmpF op (den ρ a).toStr (den ρ b).toStr)
  | .isnil a => .bool (den ρ a).isNil
  | .mkif t a => .iface t (den ρ a)
  | .isif t a => .bool ((den ρ a).isIf t)
  | .ifv a => (den ρ a).inner
  | .ptr a => .agg (den ρ a).toL
  | .and a b => .bool ((den ρ a).toBool && (den ρ b).toBool)
  | .or a b => .bool ((den ρ a).toBool || (den ρ b).toBool)
  | .set a i v => .agg ((den ρ a).toL.set (den ρ i).toInt.toNat (den ρ v))
  | .setc n a c v => .agg (((List.range n).map fun j => (den ρ a).toL.getD j .nil).set c (den ρ v))
  | .rep k z => .agg (List.replicate (den ρ k).toInt.toNat (den ρ z))
  | .mget ks a k z => mgetD ks (den ρ a).toL (den ρ k) (den ρ z)
  | .mput ks a k v => .agg (mputD ks (den ρ a).toL (den ρ k) (den ρ v))
  | .mix ks a k => .int (mfind ks (den ρ a).toL (den ρ k) : Nat)

/-- All variables stand below n. -/
def E.sc (n : Nat) : E → Bool
  | .var m => decide (m < n)
  | .ar _ _ a b | .cmp _ a b | .beq a b | .get a b | .lcons a b | .app a b | .scat a b | .sidx a b | .scmp _ a b | .setc _ a _ b | .rep a b | .and a b | .or a b | .mix _ a b => a.sc n && b.sc n
  | .not a | .conv _ a | .len a | .cell a _ | .slen a | .isnil a | .mkif _ a | .isif _ a | .ifv a | .ptr a => a.sc n
  | .ite a b c | .sub a b c | .ssub a b c | .set a b c | .mget _ a b c | .mput _ a b c => a.sc n && b.sc n && c.sc n
  | _ => true
theorem den_append {ρ ext : List D} : ∀ {e : E}, e.sc ρ.length = true → den (ρ ++ ext) e = den ρ e := by
  intro e
  induction e with
  | var n =>
    intro h
    simp only [E.sc, decide_eq_true_eq] at h
    simp [den, List.getElem?_append_left h]
  | _ => intro h; simp_all [E.sc, den]

/-! Symbolic values. -/
inductive C where
  | dat (t : Ty) (e : E)
  | ptr (n off : Nat)
  | eptr (t : TypeId) (a i : E) (c : Nat)
  | pptr (t : TypeId) (a : E) (c : Nat)
  | vec (n : Nat)
  | vptr (n : Nat) (t : TypeId) (i : E) (c : Nat)
  | win (n : Nat) (t : TypeId) (i j : E)
  | lit (n len : Nat)
  | hptr (t : TypeId) (a : E) (c : Nat)
  | nils | nilp | nilf
  | fn (f : Nat)
  | junk
  deriving DecidableEq, Inhabited
inductive V1 where
  | one (c : C) | agg (cs : List C)
  deriving DecidableEq, Inhabited
inductive SV where
  | one (c : C) | agg (cs : List C) | tup (l : List V1)
  deriving DecidableEq, Inhabited
def V1.sv : V1 → SV | .one c => .one c | .agg cs => .agg cs
/-- What a name stands for: a box of the call's own, a row of the call's own, a row that a thing of the heap holds in a cell. -/
inductive Box where
  | box (t : TypeId) (cs : List C)
  | vec (e : TypeId) (x : E)
  | view (t : TypeId) (a : E) (c : Nat)
  | map (t : TypeId) (x : E)
  deriving DecidableEq, Inhabited

structure St where
  tm : List (Nat × SV)
  bx : List (Nat × Box)
  nn : Nat
  nv : Nat
  fs : List (E × Bool)
  /-- Cells of the heap whose rows were taken out: the cell, the type, the thing. -/
  ex : List (Nat × TypeId × E)
  cf : Cf
  /-- The heap, and whether it may be written. -/
  hp : Option (Bool × E)
  deriving DecidableEq, Inhabited

/-- What a state says of the heap. -/
def St.key (st : St) : List (Nat × TypeId × E) × Option (Bool × E) := (st.ex, st.hp)
/-- The block of a name's value. -/
def bk : Value → Option Nat
  | .pointer (some a) => some a.block
  | .slice (some a) _ cap => if cap = 0 then none else some a.block
  | .map (some b) => some b
  | _ => none
theorem bk_slice {g n cap : Nat} (h : 0 < cap) : bk (.slice (some ⟨g, 0, none⟩) n cap) = some g := by
  simp [bk, Nat.ne_of_gt h]
/-- A slice of its own: it holds its block from the beginning on, or has none. -/
def OwnR (w : World) (e : TypeId) (size : Nat) (v : Value) (n : Nat) (xs : List Value) : Prop :=
  xs.length = n * size ∧ (((∃ A, v = .slice A 0 0) ∧ n = 0) ∨
    ∃ g cap cur, v = .slice (some ⟨g, 0, none⟩) n cap ∧ 0 < cap ∧ w.heap[g]? = some (.cells cur e (0, 0)) ∧ n ≤ cap ∧ cap ≤ maxLen ∧ cur.size = cap * size ∧ cur.toList.take (n * size) = xs)
theorem OwnR.of {w : World} {k : Nat} {e : TypeId} {size : Nat} {v : Value} {n : Nat} {xs : List Value} (h : w.ownsRow k e size v n xs) : OwnR w e size v n xs := by
  obtain ⟨hl, hr⟩ := h
  refine ⟨hl, ?_⟩
  rcases hr with ⟨h1, h2⟩ | ⟨g, cap, cur, e1, e2, e3, e4, e5⟩
  · exact .inl ⟨⟨_, h1⟩, h2⟩
  · rcases Nat.eq_zero_or_pos cap with h0 | h0
    · subst h0
      have : n = 0 := by omega
      subst this
      exact .inl ⟨⟨_, e1⟩, rfl⟩
    · exact .inr ⟨g, cap, cur, e1, h0, e3, e4, e5⟩
theorem OwnR.row {w : World} {e : TypeId} {size : Nat} {v : Value} {n : Nat} {xs : List Value} (h : OwnR w e size v n xs) (h0 : ∀ A, v ≠ .slice A 0 0) : w.ownsRow 0 e size v n xs := by
  obtain ⟨hl, hr⟩ := h
  refine ⟨hl, ?_⟩
  rcases hr with ⟨⟨A, h1⟩, h2⟩ | ⟨g, cap, cur, e1, e2, e3, e4⟩
  · exact absurd h1 (h0 A)
  · exact .inr ⟨g, cap, cur, e1, Nat.zero_le _, e3, e4⟩
/-- The block that a name owns. -/
def Box.bk : Box → Value → Option Nat
  | .view _ _ _, _ => none
  | _, v => Eng.bk v
@[simp] theorem Box.bk_box (t : TypeId) (cs : List C) (v : Value) : (Box.box t cs).bk v = Eng.bk v := rfl
@[simp] theorem Box.bk_map (t : TypeId) (y : E) (v : Value) : (Box.map t y).bk v = Eng.bk v := rfl
@[simp] theorem Box.bk_vec (t : TypeId) (y : E) (v : Value) : (Box.vec t y).bk v = Eng.bk v := rfl
@[simp] theorem Box.bk_view (t : TypeId) (a : E) (c : Nat) (v : Value) : (Box.view t a c).bk v = none := rfl
theorem Box.bk_some {x : Box} {v : Value} {k : Nat} (h : x.bk v = some k) : Eng.bk v = some k := by
  cases x <;> first | exact h | cases h

def aggB (P : Program) (t : TypeId) : Option Bool :=
  match P.underlying t with
  | some (.struct _) => some true
  | some (.array _ _) => some true
  | some _ => some false
  | none => none
/-! Keys of maps: their cells are scalars. -/
def tyCode : Ty → Option Nat
  | .int _ => some 0
  | .bool => some 1
  | .str => some 2
  | _ => none
def tyCodes : List Ty → Option (List Nat)
  | [] => some []
  | t :: ts => match tyCode t, tyCodes ts with
    | some k, some ks => some (k :: ks)
    | _, _ => none
def flatV : Ty → D → Value
  | .int k, d => .int k d.toInt
  | .bool, d => .bool d.toBool
  | .str, d => .string d.toStr
  | _, _ => .nilIface
def keyCells (n : Nat) : List Ty → Nat → D → List Value
  | [], _, _ => []
  | t :: ts, c, d => flatV t (cellOf n d c) :: keyCells n ts (c + 1) d
/-- A value with so many cells. -/
def valOf (agg : Bool) (vs : List Value) : Value := if agg = true then .agg vs.toArray else vs.headD .nilIface

section
variable (P : Program) (w : World) (F : Fr) (ρ : List D) (β : Nat → Value)
/-- An entry of a map. -/
structure EntOk (ts us : List Ty) (g h : Bool) (i : Nat) (d : D) (e : MapEntry) : Prop where
  born : e.born = i
  key : e.key = valOf g (keyCells ts.length ts 0 (d.toL.getD 0 .nil))
  val : ∃ vs : List Value, e.val = valOf h vs ∧ vs.length = us.length ∧ ∀ (c : Nat) (t : Ty) (u : Value), us[c]? = some t → vs[c]? = some u → Rd P w F t (cellOf us.length (d.toL.getD 1 .nil) c) u
def RC : C → Value → Prop
  | .dat t e, v => Rd P w F t (den ρ e) v
  | .ptr n off, v => ∃ b, β n = .pointer (some ⟨b, 0, none⟩) ∧ v = .pointer (some ⟨b, off, none⟩)
  | .eptr t a i c, v => ∃ b o len cap ts, Rd P w F (.slice t) (den ρ a) (.slice (some ⟨b, o, none⟩) len cap) ∧ cellTys P t = some ts ∧ 0 ≤ (den ρ i).toInt ∧ (den ρ i).toInt.toNat < (den ρ a).toL.length ∧
      v = .pointer (some ⟨b, o + (den ρ i).toInt.toNat * ts.length + c, none⟩)
  | .pptr t a c, v => ∃ b o, Rd P w F (.ptr t) (den ρ a) (.pointer (some ⟨b, o, none⟩)) ∧ v = .pointer (some ⟨b, o + c, none⟩)
  | .vec n, v => v = β n
  | .vptr n t i c, v => ∃ b o len cap ts, β n = .slice (some ⟨b, o, none⟩) len cap ∧ cellTys P t = some ts ∧ 0 ≤ (den ρ i).toInt ∧ (den ρ i).toInt.toNat < len ∧ v = .pointer (some ⟨b, o + (den ρ i).toInt.toNat * ts.length + c, none⟩)
  | .win n t i j, v => ∃ A len cap ts, β n = .slice A len cap ∧ cellTys P t = some ts ∧ 0 ≤ (den ρ i).toInt ∧ (den ρ i).toInt ≤ (den ρ j).toInt ∧ (den ρ j).toInt ≤ (len : Int) ∧ len ≤ cap ∧
      v = .slice (if cap = (den ρ i).toInt.toNat then A else A.map (·.add ((den ρ i).toInt.toNat * ts.length))) ((den ρ j).toInt.toNat - (den ρ i).toInt.toNat) (cap - (den ρ i).toInt.toNat)
  | .lit n len, v => ∃ b, β n = .pointer (some ⟨b, 0, none⟩) ∧ v = .slice (some ⟨b, 0, none⟩) len len
  | .hptr t a c, v => ∃ n b, F.hc.contains t = true ∧ den ρ a = .int (n : Nat) ∧ F.γ[n]? = some (b, t) ∧ v = .pointer (some ⟨b, c, none⟩)
  | .nils, v => v = .slice none 0 0
  | .nilp, v => v = .pointer none
  | .nilf, v => v = .nilFunc
  | .fn f, v => v = .func (.func f) #[] #[]
  | .junk, v => v.oneCell' = true
/-- Pointwise. -/
def RCL (cs : List C) (vs : List Value) : Prop := cs.length = vs.length ∧ ∀ (i : Nat) (c : C) (v : Value), cs[i]? = some c → vs[i]? = some v → RC P w F ρ β c v
def R1 : V1 → Value → Prop
  | .one c, v => RC P w F ρ β c v
  | .agg cs, v => ∃ vs : List Value, v = .agg vs.toArray ∧ RCL P w F ρ β cs vs
def RV : SV → Value → Prop
  | .one c, v => RC P w F ρ β c v
  | .agg cs, v => ∃ vs : List Value, v = .agg vs.toArray ∧ RCL P w F ρ β cs vs
  | .tup l, v => ∃ vs : List Value, v = .tuple vs.toArray ∧ l.length = vs.length ∧ ∀ (i : Nat) (c : V1) (u : Value), l[i]? = some c → vs[i]? = some u → R1 P w F ρ β c u
def BoxOk : Box → Value → Prop
  | .box t cs, v => ∃ b, ∃ vs : List Value, v = .pointer (some ⟨b, 0, none⟩) ∧ w.heap[b]? = some (.cells vs.toArray t (0, 0)) ∧ RCL P w F ρ β cs vs
  | .vec e x, v => ∃ ts, ∃ xs : List Value, cellTys P e = some ts ∧ OwnR w e ts.length v (den ρ x).toL.length xs ∧
      ∀ i c y t, (den ρ x).toL[i]? = some y → ts[c]? = some t → ∃ u, xs[i * ts.length + c]? = some u ∧ Rd P w F t (cellOf ts.length y c) u
  | .view t a c, v => ∃ n b, ∃ vs : List Value, den ρ a = .int (n : Nat) ∧ F.γ[n]? = some (b, t) ∧ w.heap[b]? = some (.cells vs.toArray t (0, 0)) ∧ vs[c]? = some v
  | .map t x, v => ∃ b k e ts us g h, ∃ es : List MapEntry, v = .map (some b) ∧ P.underlying t = some (.map k e) ∧ cellTys P k = some ts ∧ cellTys P e = some us ∧ aggB P k = some g ∧ aggB P e = some h ∧
      w.heap[b]? = some (.map es.toArray es.length) ∧ es.length = (den ρ x).toL.length ∧ ∀ (i : Nat) (e : MapEntry) (d : D), es[i]? = some e → (den ρ x).toL[i]? = some d → EntOk P w F ts us g h i d e
end
end Go.Proofs.YtobacchojjfpfaaGreatDoor.Eng
