/-
  ReportEvents: any event, and any terms, as lines, are the document's.
-/
import Derived.Test.YtilkbgdfndifgaaGreatDoorRefEv
import Derived.Test.YtilkbgdfndifgaaGreatDoorOpenS
import Derived.Test.YtilkbgdfndifgaaGreatDoorProg
namespace Go.Proofs.YtilkbgdfndifgaaGreatDoor.RepD
open Go.Proofs.YtilkbgdfndifgaaGreatDoor.Eng Go.Proofs.YtilkbgdfndifgaaGreatDoor
set_option linter.unusedVariables false
theorem inI_of {x : Int} (h : (Lit.int .i64 x).wf = true) : inI x := by
  unfold inI
  simp [Lit.wf, IntKind.min, IntKind.max, IntKind.bits, IntKind.signed] at h
  omega
theorem events (x0 : List D) (w0 : Open.AllF Tryz.prog [.int .i64, .int .i64, .int .i64, .int .i64, .int .i64, .int .i64, .int .i64, .int .i64, .int .i64, .int .i64, .int .i64, .int .i64, .int .i64, .int .i64] x0) : FX 3 x0 = some [.bool true] := by
  obtain ⟨_, _, rfl, h0, _, _, rfl, h1, _, _, rfl, h2, _, _, rfl, h3, _, _, rfl, h4, _, _, rfl, h5, _, _, rfl, h6, _, _, rfl, h7, _, _, rfl, h8, _, _, rfl, h9, _, _, rfl, h10, _, _, rfl, h11, _, _, rfl, h12, _, _, rfl, h13, h⟩ := w0
  obtain ⟨k, rfl, v0⟩ := h0.toInt
  obtain ⟨c, rfl, v1⟩ := h1.toInt
  obtain ⟨g, rfl, v2⟩ := h2.toInt
  obtain ⟨o, rfl, v3⟩ := h3.toInt
  obtain ⟨wi, rfl, v4⟩ := h4.toInt
  obtain ⟨n, rfl, v5⟩ := h5.toInt
  obtain ⟨s, rfl, v6⟩ := h6.toInt
  obtain ⟨p, rfl, v7⟩ := h7.toInt
  obtain ⟨l, rfl, v8⟩ := h8.toInt
  obtain ⟨u, rfl, v9⟩ := h9.toInt
  obtain ⟨q, rfl, v10⟩ := h10.toInt
  obtain ⟨pr, rfl, v11⟩ := h11.toInt
  obtain ⟨t, rfl, v12⟩ := h12.toInt
  obtain ⟨e, rfl, v13⟩ := h13.toInt
  have h : _ = [] := h
  subst h
  exact law k c g o wi n s p l u q pr t e (inI_of v1) (inI_of v2) (inI_of v3) (inI_of v4) (inI_of v5) (inI_of v7) (inI_of v8) (inI_of v9) (inI_of v10) (inI_of v11) (inI_of v12)
end Go.Proofs.YtilkbgdfndifgaaGreatDoor.RepD
