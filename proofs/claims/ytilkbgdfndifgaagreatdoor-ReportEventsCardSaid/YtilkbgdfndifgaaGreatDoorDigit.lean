/-
  ref01.digit on data: the text of one digit.
-/
import Derived.Test.YtilkbgdfndifgaaGreatDoorStrOk
import Derived.WalkKit
import Derived.Laws.BytesString
namespace Go.Proofs.YtilkbgdfndifgaaGreatDoor.StrD
open Go.RowKit Go.Proofs.YtilkbgdfndifgaaGreatDoor.Eng Go.Proofs.YtilkbgdfndifgaaGreatDoor
set_option linter.unusedVariables false
set_option maxRecDepth 100000 in
set_option maxHeartbeats 2000000 in
theorem digit_c (n : Int) (h0 : 0 ≤ n) (h1 : n ≤ 9) (w : World) :
    Calls Tryz.prog 32 #[.int .i64 n] w fun e w' => e = .returned (.string ⟨#[UInt8.ofNat (48 + n.toNat)]⟩) ∧ Below w.heap.size w w' := by
  obtain ⟨m, rfl⟩ : ∃ m : Nat, n = m := ⟨n.toNat, by omega⟩
  have hm : m ≤ 9 := by omega
  clear h0 h1
  have hcv : (convert 69 9 (.slice (some ⟨w.heap.size, 0, none⟩) 1 1)).run Tryz.prog (w.alloc (.cells #[.int .u8 (48 + (m : Int))] 5)) = .ok (.string ⟨#[UInt8.ofNat (48 + m)]⟩) (w.alloc (.cells #[.int .u8 (48 + (m : Int))] 5)) := by
    rw [run_convert_bytes_string _ _ _ 5 _ _ _ (by kernel_rfl) (by kernel_rfl) (by kernel_rfl)]
    have hl : (loadCells ⟨w.heap.size, 0, none⟩ 1).run Tryz.prog (w.alloc (.cells #[.int .u8 (48 + (m : Int))] 5)) = .ok ([(48 + (m : Int))].map (Value.int .u8)).toArray (w.alloc (.cells #[.int .u8 (48 + (m : Int))] 5)) := by
      simp [loadCells, go_sem]
    rw [run_bytesToString _ _ 1 1 [48 + (m : Int)] hl]
    have : (48 + (m : Int)).toNat = 48 + m := by omega
    simp only [List.foldl_cons, List.foldl_nil, this]
    rfl
  go_enter Tryz.func32, Tryz.ntmps32
  go_wp2
  go_ret
  refine ⟨?_, (Below.refl _ _).alloc (Nat.le_refl _) _⟩
  simp
theorem ok_digit {G : Gl} (hcf : G.cf = cfg) : ∀ ps rs hm ds r, sigOf Tryz.prog G.cf 32 = some (ps, rs, hm) → digitF ds = some r → Ok1 G Tryz.prog 32 ps rs hm ds r := by
  intro ps rs hm ds r hsig hr
  have hs : sigOf Tryz.prog cfg 32 = some ([.one (.int .i64)], [.one .str], 0) := by kernel_rfl
  rw [hcf, hs] at hsig
  simp only [Option.some.injEq, Prod.mk.injEq] at hsig
  obtain ⟨rfl, rfl, rfl⟩ := hsig
  unfold digitF at hr
  split at hr
  · rename_i n
    split at hr
    · rename_i hl
      simp only [Option.some.injEq] at hr
      subst hr
      intro w Ft vs φ d0 hd hds hin ha
      obtain rfl : hd = [] := hin.h0 rfl
      rw [List.append_nil] at hds
      subst hds
      obtain ⟨_, _, v0, _, e1, e2, h0, e5, e6⟩ := ha
      cases e1; subst e2
      have q0 := h0.int_inv
      subst q0 e6
      refine (digit_c n hl.1 hl.2 w).mono ?_
      rintro e w' ⟨rfl, hb⟩
      exact ⟨_, Ft, φ, rfl, out_of_below hin.f hb rfl (args_one (Rd.str rfl) args_nil)⟩
    · cases hr
  · cases hr
theorem ok_baseD : FsOk ErrD.gl Tryz.prog baseD := ok_addF ok_base _ _ (ok_digit rfl)
end Go.Proofs.YtilkbgdfndifgaaGreatDoor.StrD
