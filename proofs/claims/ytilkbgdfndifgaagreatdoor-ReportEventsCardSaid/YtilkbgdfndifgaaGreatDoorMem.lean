/-
  Words for memory that the walks of this seat share: which blocks have turned, a block that is known whole, a slice that reads as a list, an append onto a row of the call's own.
-/
import Derived.Test.YtilkbgdfndifgaaGreatDoorKit
import Derived.Maps.AppendAt
import Derived.Deep.AppendLies
import Derived.RegionTactic
import Derived.OwnWalk
import Derived.Laws.OwnMore
import Derived.Deep.Draws
namespace Go.Proofs.YtilkbgdfndifgaaGreatDoor
open Go.RowKit

/-- Only the blocks of S, and what is new, have turned. -/
structure Chg (S : List Nat) (w w' : World) : Prop where
  os : w'.os = w.os
  tape : w'.tape = w.tape
  output : w'.output = w.output
  size : w.heap.size ≤ w'.heap.size
  block : ∀ k, k < w.heap.size → k ∉ S → w'.heap[k]? = w.heap[k]?

section
variable {S T : List Nat} {a b c w w1 : World}
theorem chg_refl (S : List Nat) (w : World) : Chg S w w := ⟨rfl, rfl, rfl, Nat.le_refl _, fun _ _ _ => rfl⟩
theorem chg_of_below (h : Below a.heap.size a b) : Chg S a b := ⟨h.os, h.tape, h.output, h.size, fun k hk _ => h.block k hk⟩
theorem below_of_chg (h : Chg [] a b) : Below a.heap.size a b := ⟨h.os, h.tape, h.output, h.size, fun k hk => h.block k hk (by simp)⟩
theorem chg_trans (h : Chg S a b) (k : Chg T b c) (hT : ∀ x ∈ T, x ∈ S ∨ a.heap.size ≤ x) : Chg S a c :=
  ⟨k.os.trans h.os, k.tape.trans h.tape, k.output.trans h.output, Nat.le_trans h.size k.size, fun i hi hn =>
    (k.block i (Nat.lt_of_lt_of_le hi h.size) (fun hm => (hT i hm).elim hn (fun hx => by omega))).trans (h.block i hi hn)⟩
theorem chg_kept (h : Chg S a b) (k : Below b.heap.size b c) : Chg S a c := chg_trans h (chg_of_below (S := []) k) (by simp)
theorem chg_alloc (h : Chg S a w) (o : Obj) : Chg S a (w.alloc o) := chg_kept h ((Below.refl _ _).alloc (Nat.le_refl _) o)
theorem chg_drew (h : Chg S a w) : Chg S a w.drew := ⟨h.os, h.tape, h.output, h.size, h.block⟩
theorem chg_drewN (h : Chg S a w) (n : Nat) : Chg S a (w.drewN n) := ⟨h.os, h.tape, h.output, h.size, h.block⟩
theorem chg_set (h : Chg S a w) (p : Addr) (hp : p.block ∈ S ∨ a.heap.size ≤ p.block) (v : Value) : Chg S a (w.setCell p v) :=
  ⟨h.os, h.tape, h.output, by simpa [World.setCell] using h.size, fun i hi hn => (Below.heap_setCell w p v i (by
    rintro rfl
    exact hp.elim hn (fun hx => by omega))).trans (h.block i hi hn)⟩
theorem chg_of_grown {row : Option Nat} (h : a.grownBy b row) : Chg row.toList a b :=
  ⟨h.os, h.tape, h.output, h.size, fun k hk hn => h.block k hk (fun e => hn (by simp [← e]))⟩
theorem chg_grown {row : Option Nat} (h : Chg S a b) (k : b.grownBy c row) (hT : ∀ x, row = some x → x ∈ S ∨ a.heap.size ≤ x) : Chg S a c :=
  chg_trans h (chg_of_grown k) (fun x hx => hT x (by simpa using hx))
theorem chg_more (h : Chg S a b) (hS : ∀ x ∈ S, x ∈ T ∨ a.heap.size ≤ x) : Chg T a b := chg_trans (chg_refl T a) h hS
theorem kept_chg (h : Below a.heap.size a b) (k : Chg T b c) (hT : ∀ x ∈ T, a.heap.size ≤ x) : Below a.heap.size a c :=
  below_of_chg (chg_trans (chg_of_below h) k (fun x hx => .inr (hT x hx)))
theorem chg_cell (h : Chg S a b) {p : Addr} (hp : p.block < a.heap.size) (hn : p.block ∉ S) : b.cell? p = a.cell? p := World.cell?_of_block (h.block p.block hp hn)
theorem chg_frozen (h : Chg S a b) {p : Addr} (hp : p.block < a.heap.size) (hn : p.block ∉ S) : b.frozen? p = a.frozen? p := World.frozen?_of_block (h.block p.block hp hn)

/-- What one turned block leaves alone, in the walk's own terms. -/
theorem far1 {g : Nat} (hb : Chg [g] w w1) : (∀ b o m, w.heap.size = m → (⟨b + 1 - m, 0, none⟩ : Addr) = ⟨0, 0, none⟩ → ¬ (⟨b, 0, none⟩ : Addr) = ⟨g, 0, none⟩ → w1.cell? ⟨b, o, none⟩ = w.cell? ⟨b, o, none⟩) ∧
    (∀ b o m, w.heap.size = m → (⟨b + 1 - m, 0, none⟩ : Addr) = ⟨0, 0, none⟩ → ¬ (⟨b, 0, none⟩ : Addr) = ⟨g, 0, none⟩ → w1.frozen? ⟨b, o, none⟩ = w.frozen? ⟨b, o, none⟩) ∧ w.heap.size ≤ w1.heap.size :=
  ⟨fun b o _ hm h hn => chg_cell hb (p := ⟨b, o, none⟩) (off_of hm h) (by simpa using fun e => hn (by rw [e])), fun b o _ hm h hn => chg_frozen hb (p := ⟨b, o, none⟩) (off_of hm h) (by simpa using fun e => hn (by rw [e])), hb.size⟩

/-! A block that is known whole. -/
def Blk (w : World) (g : Nat) (t : TypeId) (cs : Array Value) : Prop := w.heap[g]? = some (.cells cs t (0, 0))
variable {g : Nat} {t : TypeId} {cs : Array Value}
theorem blk_lt (h : Blk w g t cs) : g < w.heap.size := by
  unfold Blk at h
  rcases Nat.lt_or_ge g w.heap.size with hlt | hge
  · exact hlt
  · rw [Array.getElem?_eq_none hge] at h
    cases h
theorem blk_facts (h : Blk w g t cs) : (∀ o, w.cell? ⟨g, o, none⟩ = cs[o]?) ∧ (∀ o, w.frozen? ⟨g, o, none⟩ = false) ∧ g < w.heap.size :=
  ⟨fun o => cell_of_row w g o cs t (0, 0) h, fun _ => by unfold Blk at h; simp [World.frozen?, h], blk_lt h⟩
theorem blk_new (w : World) (t : TypeId) (cs : Array Value) : Blk (w.alloc (.cells cs t)) w.heap.size t cs := heap_alloc_new w _
theorem blk_newAt {o : Obj} {n : Nat} (ho : o = .cells cs t) (hn : w.heap.size = n) : Blk (w.alloc o) n t cs := by
  subst ho hn
  exact heap_alloc_new w _
theorem blk_drew (h : Blk w g t cs) : Blk w.drew g t cs := h
theorem blk_drewN (h : Blk w g t cs) (n : Nat) : Blk (w.drewN n) g t cs := h
theorem blk_alloc (h : Blk w g t cs) (o : Obj) : Blk (w.alloc o) g t cs := (Below.heap_alloc w o g (blk_lt h)).trans h
theorem blk_set (h : Blk w g t cs) (i : Nat) (v : Value) : Blk (w.setCell ⟨g, i, none⟩ v) g t (cs.setIfInBounds i v) := by
  unfold Blk at h ⊢
  simp [World.setCell, Array.getElem?_modify, h]
theorem blk_via {cs0 : Array Value} (h : Blk w g t cs0) (he : cs0 = cs) : Blk w g t cs := he ▸ h
theorem blk_far (h : Blk w g t cs) {p : Addr} (hp : g ≠ p.block) (v : Value) : Blk (w.setCell p v) g t cs := (Below.heap_setCell w p v g hp).trans h
theorem blk_kept (h : Blk w g t cs) (hb : Below w.heap.size w w1) : Blk w1 g t cs := (hb.block g (blk_lt h)).trans h
theorem blk_chg (h : Blk w g t cs) (hb : Chg S w w1) (hn : g ∉ S) : Blk w1 g t cs := (hb.block g (blk_lt h) hn).trans h
theorem blk_grown {row : Option Nat} (h : Blk w g t cs) (hb : w.grownBy w1 row) (hn : some g ≠ row) : Blk w1 g t cs := (hb.block g (blk_lt h) hn).trans h
theorem blk_ne {g' : Nat} {t' : TypeId} {cs' : Array Value} (h : Blk w g t cs) (h' : Blk w g' t' cs') (hne : t ≠ t') : g ≠ g' := by
  rintro rfl
  unfold Blk at h h'
  rw [h] at h'
  injection h' with h'
  injection h' with _ ht
  exact hne ht
theorem own_blk_ne {base : Nat} {e : TypeId} {size n : Nat} {v : Value} {xs : List Value} (h : w.ownsRow base e size v n xs) (hg : Blk w g t cs) (hne : e ≠ t) : v.ownBlock ≠ some g := by
  rcases h.2 with ⟨rfl, _⟩ | ⟨g', cap, cur, rfl, _, hh, _⟩
  · simp [Value.ownBlock]
  · intro he
    have hx : g' = g := by simpa [Value.ownBlock] using he
    subst hx
    exact blk_ne (t := e) (show Blk w g' e cur from hh) hg hne rfl

/-! A slice that reads as a list of one-cell values; where there is none to read, its address is nobody's concern. -/
def Row (w : World) (A : Option Addr) (xs : List Value) : Prop := xs = [] ∨ ∃ b off, A = some ⟨b, off, none⟩ ∧ ∀ i v, xs[i]? = some v → w.cell? ⟨b, off + i, none⟩ = some v
variable {A : Option Addr} {xs : List Value}
theorem row_nil (w : World) (A : Option Addr) : Row w A [] := .inl rfl
theorem row_move (h : Row w A xs) (hk : ∀ p v, w.cell? p = some v → w1.cell? p = some v) : Row w1 A xs :=
  h.elim .inl fun ⟨b, off, hA, hc⟩ => .inr ⟨b, off, hA, fun i v hv => hk _ _ (hc i v hv)⟩
theorem row_kept (h : Row w A xs) (hb : Below w.heap.size w w1) : Row w1 A xs :=
  row_move h fun p _ hv => (hb.cell (World.block_lt_of_cell? w p hv)).trans hv
theorem row_lt (h : Row w A xs) (hn : xs ≠ []) : ∀ a, A = some a → a.block < w.heap.size := by
  rcases h with h | ⟨b, off, rfl, hc⟩
  · exact absurd h hn
  · rintro a ⟨rfl⟩
    obtain ⟨x, r, rfl⟩ := List.exists_cons_of_ne_nil hn
    exact World.block_lt_of_cell? w _ (hc 0 x rfl)
theorem row_get (h : Row w A xs) {i : Nat} {v : Value} (hi : xs[i]? = some v) : ∃ b off, A = some ⟨b, off, none⟩ ∧ b < w.heap.size ∧ w.cell? ⟨b, off + i, none⟩ = some v := by
  rcases h with rfl | ⟨b, off, rfl, hc⟩
  · simp at hi
  · exact ⟨b, off, rfl, World.block_lt_of_cell? w _ (hc i v hi), hc i v hi⟩
theorem row_alloc (h : Row w A xs) (o : Obj) : Row (w.alloc o) A xs := row_kept h ((Below.refl _ _).alloc (Nat.le_refl _) o)
theorem row_drew (h : Row w A xs) : Row w.drew A xs := h
theorem row_drewN (h : Row w A xs) (n : Nat) : Row (w.drewN n) A xs := h
theorem row_take (h : Row w A xs) (n : Nat) : Row w A (xs.take n) := by
  rcases h with rfl | ⟨b, off, hA, hc⟩
  · exact .inl (by simp)
  · refine .inr ⟨b, off, hA, fun i v hv => hc i v ?_⟩
    rw [List.getElem?_take] at hv
    split at hv
    · exact hv
    · cases hv
theorem row_new (w : World) (t : TypeId) (cs : Array Value) : Row (w.alloc (.cells cs t)) (some ⟨w.heap.size, 0, none⟩) cs.toList :=
  .inr ⟨w.heap.size, 0, rfl, fun i v hv => by rw [Nat.zero_add]; simpa using hv⟩
theorem row_blk {n : Nat} (h : Blk w n t cs) (e : cs.toList = xs) : Row w (some ⟨n, 0, none⟩) xs :=
  .inr ⟨n, 0, rfl, fun i v hv => by rw [Nat.zero_add, (blk_facts h).1]; subst e; simpa using hv⟩
theorem row_of_own {base : Nat} {e : TypeId} {n c : Nat} (h : w.ownsRow base e 1 (.slice A n c) n xs) : Row w A xs := by
  rcases h.2 with ⟨_, h0⟩ | ⟨g, cap, cur, hv, _, hg, _⟩
  · exact .inl (List.eq_nil_of_length_eq_zero (by rw [h.1, h0]))
  · injection hv with hA
    subst hA
    refine .inr ⟨g, 0, rfl, fun i v hv => ?_⟩
    have := h.cells (g := g) rfl i v hv
    rw [Nat.zero_add]
    have hadd : (⟨g, 0, none⟩ : Addr).add i = ⟨g, i, none⟩ := by unfold Addr.add; split <;> simp_all
    rw [hadd] at this
    exact this
theorem own_form {base : Nat} {e : TypeId} {size n : Nat} {v : Value} (h : w.ownsRow base e size v n xs) : ∃ A c, v = .slice A n c := by
  rcases h.2 with ⟨rfl, rfl⟩ | ⟨g, cap, cur, rfl, _⟩
  · exact ⟨none, 0, rfl⟩
  · exact ⟨_, _, rfl⟩
theorem kept_grown {row : Option Nat} (h : Below a.heap.size a b) (k : b.grownBy c row) (hr : ∀ x, row = some x → a.heap.size ≤ x) : Below a.heap.size a c := Below.grown h k h.size hr
theorem row_of_isRow {k : IntKind} {len cap : Nat} {zs : List Int} (h : IsRow k w A len cap zs) : ∃ xs : List Int, xs.length = len ∧ (∀ n ∈ xs, (Lit.int k n).wf = true) ∧ (Row w A (xs.map (Value.int k))) ∧ len ≤ cap ∧ cap ≤ maxLen := by
  rcases h with ⟨rfl, rfl, rfl, rfl⟩ | ⟨x, rfl, hl, hm, hz, hc, hw⟩
  · exact ⟨[], rfl, by simp, .inl rfl, Nat.le_refl _, by simp [maxLen]⟩
  · refine ⟨zs.take len, by rw [List.length_take]; omega, fun n hn => hw n (List.mem_of_mem_take hn), ?_, hl, hm⟩
    by_cases h0 : len = 0
    · subst h0
      exact .inl (by simp)
    · have h00 := hc 0 (by omega)
      have hx : x.add 0 = x := by unfold Addr.add; simp
      rw [hx] at h00
      obtain ⟨b, off, s⟩ := x
      have hs : s = none := by
        cases s with
        | none => rfl
        | some k => 
          simp only [World.cell?, Option.isSome_some, if_true] at h00
          split at h00 <;> simp at h00
      subst hs
      refine .inr ⟨b, off, rfl, fun i v hv => ?_⟩
      rw [List.getElem?_map, List.getElem?_take] at hv
      split at hv
      · rename_i hi
        have hi2 : i < zs.length := by omega
        have hcc := hc i hi2
        rw [List.getElem?_eq_getElem hi2] at hv
        simp only [Option.map_some, Option.some.injEq] at hv
        subst hv
        have hadd : (⟨b, off, none⟩ : Addr).add i = ⟨b, off + i, none⟩ := by unfold Addr.add; split <;> simp_all
        rw [hadd] at hcc
        rw [hcc, List.getD_eq_getElem?_getD, List.getElem?_eq_getElem hi2]
        rfl
      · simp at hv
end

/-! append onto a row of the call's own, from a slice that reads as a list. -/
section
variable {P : Program} (w : World)
theorem run_append_of_nil (base : Nat) (t ty e : TypeId) (i : TypeInfo) (size : Nat) (ht : P.underlying t = some (.slice e)) (hi : P.info? e = some i)
    (v : Value) (n : Nat) (xs : List Value) (hown : w.ownsRow base e size v n xs) (c : Nat) : (Builtin.append_ #[t, t] ty #[v, .slice none 0 c]).run P w = .ok v w := by
  rcases hown.2 with ⟨rfl, rfl⟩ | ⟨g, cap, cur, rfl, _, _, hnc, _⟩
  · simp [Builtin.append_, run_underlying ht, sizeOf, typeInfo, hi, Builtin.lenOf, Builtin.firstCells]
  · simp [Builtin.append_, run_underlying ht, sizeOf, typeInfo, hi, Builtin.lenOf, Builtin.firstCells, hnc, storeCells]

theorem addr_add (b off i : Nat) : (⟨b, off, none⟩ : Addr).add i = ⟨b, off + i, none⟩ := by unfold Addr.add; split <;> simp_all

theorem run_append_row (base : Nat) (t ty e : TypeId) (i : TypeInfo) (z : Value) (size bytes : Nat) (ht : P.underlying t = some (.slice e)) (hi : P.info? e = some i) (hz : i.zero = some z)
    (hsize : i.size = size) (hby : i.bytes = bytes) (hzs : z.cells.size = size) (hsz : 0 < size)
    (v : Value) (n : Nat) (xs : List Value) (hown : w.ownsRow base e size v n xs)
    (A : Option Addr) (m c : Nat) (news : List Value) (hl : news.length = m * size) (hr : Row w A news) (h1 : ∀ u ∈ news, u.oneCell' = true)
    (h63 : n + m ≤ maxLen) (hbytes : (n + m) * bytes ≤ 140737488355328) (hbase : base ≤ w.heap.size) :
    ∃ v' w', (Builtin.append_ #[t, t] ty #[v, .slice A m c]).run P w = .ok v' w' ∧ w'.ownsRow base e size v' (n + m) (xs ++ news) ∧ w.grownBy w' v.ownBlock ∧
      (v' = .slice none 0 0 ↔ v = .slice none 0 0 ∧ m = 0) ∧ (v'.ownBlock = v.ownBlock ∨ v'.ownBlock = some w.heap.size) := by
  rcases A with _ | ad
  · have hn : news = [] := by
      rcases hr with h | ⟨_, _, h, _⟩
      · exact h
      · cases h
    subst hn
    have hm : m = 0 := by
      rcases Nat.mul_eq_zero.1 (show m * size = 0 by simpa using hl.symm) with h | h
      · exact h
      · omega
    subst hm
    exact ⟨v, w, run_append_of_nil w base t ty e i size ht hi v n xs hown c, by simpa using hown, World.grownBy.refl w _, by simp, .inl rfl⟩
  · have hcells : ∀ j u, news[j]? = some u → w.cell? (ad.add j) = some u := by
      intro j u hu
      rcases hr with h | ⟨b, off, h, hc⟩
      · subst h
        simp at hu
      · injection h with h
        subst h
        rw [addr_add]
        exact hc j u hu
    obtain ⟨v', w', hrun, h2, h3, h4, h5⟩ := run_append_own_at (P := P) w base t ty e i z size bytes ht hi hz hsize hby hzs hsz v n xs hown ad m c news hl hcells h1 h63 hbytes hbase
    exact ⟨v', w', hrun, h2, h3, h4, h5⟩

theorem wp_append_row {o : Oper} {a : Act} {K : Act → World → Prop} {Q : Exit → Act → World → Prop} (s x : Operand) (t : TypeId)
    (ho : o.op = .call { callee := .builtin .append, args := #[s, x], argTypes := #[t, t] })
    (base : Nat) (e : TypeId) (i : TypeInfo) (z : Value) (size bytes : Nat) (ht : P.underlying t = some (.slice e)) (hi : P.info? e = some i) (hz : i.zero = some z)
    (hsize : i.size = size) (hby : i.bytes = bytes) (hzs : z.cells.size = size) (hsz : 0 < size)
    (v : Value) (n : Nat) (xs : List Value) (hs : a.eval s = v) (hown : w.ownsRow base e size v n xs)
    (A : Option Addr) (m c : Nat) (news : List Value) (hx : a.eval x = .slice A m c) (hl : news.length = m * size) (hr : Row w A news) (h1 : ∀ u ∈ news, u.oneCell' = true)
    (h63 : n + m ≤ maxLen) (hbytes : (n + m) * bytes ≤ 140737488355328) (hbase : base ≤ w.heap.size)
    (h : ∀ v' w', w'.ownsRow base e size v' (n + m) (xs ++ news) → w.grownBy w' v.ownBlock → (v' = .slice none 0 0 ↔ v = .slice none 0 0 ∧ m = 0) → (v'.ownBlock = v.ownBlock ∨ v'.ownBlock = some w.heap.size) → K (a.put o.dst v') w') : o.wp P a w K Q := by
  obtain ⟨v', w', hrun, h2, h3, h4, h5⟩ := run_append_row (P := P) w base t o.type e i z size bytes ht hi hz hsize hby hzs hsz v n xs hown A m c news hl hr h1 h63 hbytes hbase
  unfold Oper.wp execOp
  simp only [ho, resolve, invoke, builtin, Sem.run_bind, Sem.run_pure, Result.andThen_ok, List.map_toArray, List.map_cons, List.map_nil, hs, hx, hrun]
  exact h v' w' h2 h3 h4 h5

theorem wpList_append_row {ops : Array Oper} {rest : List Oper} {o : Oper} {a : Act} {Q : Exit → Act → World → Prop} (hgd : o.guard = none) (s x : Operand) (t : TypeId)
    (ho : o.op = .call { callee := .builtin .append, args := #[s, x], argTypes := #[t, t] })
    (base : Nat) (e : TypeId) (i : TypeInfo) (z : Value) (size bytes : Nat) (ht : P.underlying t = some (.slice e)) (hi : P.info? e = some i) (hz : i.zero = some z)
    (hsize : i.size = size) (hby : i.bytes = bytes) (hzs : z.cells.size = size) (hsz : 0 < size)
    (v : Value) (n : Nat) (xs : List Value) (hs : a.eval s = v) (hown : w.ownsRow base e size v n xs)
    (A : Option Addr) (m c : Nat) (news : List Value) (hx : a.eval x = .slice A m c) (hl : news.length = m * size) (hr : Row w A news) (h1 : ∀ u ∈ news, u.oneCell' = true)
    (h63 : n + m ≤ maxLen) (hbytes : (n + m) * bytes ≤ 140737488355328) (hbase : base ≤ w.heap.size)
    (h : ∀ v' w', w'.ownsRow base e size v' (n + m) (xs ++ news) → w.grownBy w' v.ownBlock → (v' = .slice none 0 0 ↔ v = .slice none 0 0 ∧ m = 0) → (v'.ownBlock = v.ownBlock ∨ v'.ownBlock = some w.heap.size) → wpList P ops Q rest (a.put o.dst v') w') : wpList P ops Q (o :: rest) a w :=
  wpList_plain hgd fun _ hK => wp_append_row w s x t ho base e i z size bytes ht hi hz hsize hby hzs hsz v n xs hs hown A m c news hx hl hr h1 h63 hbytes hbase fun v' w' h2 h3 h4 h5 => hK _ _ (h v' w' h2 h3 h4 h5)
end
end Go.Proofs.YtilkbgdfndifgaaGreatDoor
