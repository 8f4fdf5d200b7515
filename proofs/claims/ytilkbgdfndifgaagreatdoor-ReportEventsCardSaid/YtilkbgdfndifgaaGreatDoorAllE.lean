/-
  The functions, as equations.
-/
import Derived.Test.YtilkbgdfndifgaaGreatDoorAll
namespace Go.Proofs.YtilkbgdfndifgaaGreatDoor
open Go.Proofs.YtilkbgdfndifgaaGreatDoor.Eng
set_option linter.unusedVariables false
set_option maxRecDepth 20000
theorem E_ref01_Decimal (x0 : D) : FX 20 [x0] =
  let v0 : D := (D.int (IntKind.i64.wrap (Int.tdiv (x0).toInt (10 : Int))))
  let v1 : D := (D.int (Int.tmod (x0).toInt (10 : Int)))
  if (decide ((x0).toInt < (0 : Int))) = true then
  if ((v0).toInt == (0 : Int)) = true then
    bindC (FX 32 [(D.int (IntKind.i64.wrap ((0 : Int) - (x0).toInt)))]) 1 fun r1 =>
      if (decide ((IntKind.i64.wrap (((((ByteArray.mk #[45]))).size : Int) + ((((r1.getD 0 D.nil)).toStr).size : Int))) ≤ (4611686018427387903 : Int))) = true then
      if (decide (((((ByteArray.mk #[45]))).size : Int) ≤ (4611686018427387903 : Int))) = true then
        if (decide (((((r1.getD 0 D.nil)).toStr).size : Int) ≤ (4611686018427387903 : Int))) = true then
          some [(D.str (((ByteArray.mk #[45])) ++ ((r1.getD 0 D.nil)).toStr))]
          else none
        else none
      else none
    else
    bindC (FX 20 [v0]) 1 fun r1 =>
      bindC (FX 32 [(D.int (IntKind.i64.wrap ((0 : Int) - (v1).toInt)))]) 1 fun r2 =>
      if (decide ((IntKind.i64.wrap (((((r1.getD 0 D.nil)).toStr).size : Int) + ((((r2.getD 0 D.nil)).toStr).size : Int))) ≤ (4611686018427387903 : Int))) = true then
      if (decide (((((r1.getD 0 D.nil)).toStr).size : Int) ≤ (4611686018427387903 : Int))) = true then
        if (decide (((((r2.getD 0 D.nil)).toStr).size : Int) ≤ (4611686018427387903 : Int))) = true then
          some [(D.str (((r1.getD 0 D.nil)).toStr ++ ((r2.getD 0 D.nil)).toStr))]
          else none
        else none
      else none
  else
  if (decide ((x0).toInt < (10 : Int))) = true then
    bindC (FX 32 [x0]) 1 fun r1 =>
      some [(r1.getD 0 D.nil)]
    else
    bindC (FX 20 [v0]) 1 fun r1 =>
      bindC (FX 32 [v1]) 1 fun r2 =>
      if (decide ((IntKind.i64.wrap (((((r1.getD 0 D.nil)).toStr).size : Int) + ((((r2.getD 0 D.nil)).toStr).size : Int))) ≤ (4611686018427387903 : Int))) = true then
      if (decide (((((r1.getD 0 D.nil)).toStr).size : Int) ≤ (4611686018427387903 : Int))) = true then
        if (decide (((((r2.getD 0 D.nil)).toStr).size : Int) ≤ (4611686018427387903 : Int))) = true then
          some [(D.str (((r1.getD 0 D.nil)).toStr ++ ((r2.getD 0 D.nil)).toStr))]
          else none
        else none
      else none := (fixP_eq (t := T_ref01_Decimal) (by rfl) _).trans (by kernel_rfl)
theorem E_ref29_d (x0 : D) : FX 12 [x0] =
  bindC (FX 20 [x0]) 1 fun r1 =>
  some [(r1.getD 0 D.nil)] := (fixP_eq (t := T_ref29_d) (by rfl) _).trans (by kernel_rfl)
theorem E_ref29_side (x0 : D) : FX 15 [x0] =
  if ((x0).toInt == (0 : Int)) = true then
  some [(D.str ((ByteArray.mk #[98, 117, 121])))]
  else
  if ((x0).toInt == (1 : Int)) = true then
    some [(D.str ((ByteArray.mk #[115, 101, 108, 108])))]
    else
    some [(D.str ((ByteArray.mk #[63])))] := (fixP_eq (t := T_ref29_side) (by rfl) _).trans (by kernel_rfl)
theorem E_ref29_Terms (x0 x1 x2 x3 x4 : D) : FX 8 [x0, x1, x2, x3, x4] =
  bindC (FX 15 [x1]) 1 fun r5 =>
  let v0 : D := (D.str (((r5.getD 0 D.nil)).toStr ++ ((ByteArray.mk #[32]))))
  let v1 : D := (D.int (((v0).toStr).size : Int))
  if (decide ((IntKind.i64.wrap (((((r5.getD 0 D.nil)).toStr).size : Int) + ((((ByteArray.mk #[32]))).size : Int))) ≤ (4611686018427387903 : Int))) = true then
  if (decide (((((r5.getD 0 D.nil)).toStr).size : Int) ≤ (4611686018427387903 : Int))) = true then
    if (decide (((((ByteArray.mk #[32]))).size : Int) ≤ (4611686018427387903 : Int))) = true then
      bindC (FX 12 [x0]) 1 fun r6 =>
        let v2 : D := (D.str ((v0).toStr ++ ((r6.getD 0 D.nil)).toStr))
        let v3 : D := (D.int (((v2).toStr).size : Int))
        let v4 : D := (D.str ((v2).toStr ++ ((ByteArray.mk #[32, 97, 116, 32]))))
        let v5 : D := (D.int (((v4).toStr).size : Int))
        if (decide ((IntKind.i64.wrap ((v1).toInt + ((((r6.getD 0 D.nil)).toStr).size : Int))) ≤ (4611686018427387903 : Int))) = true then
        if (decide ((v1).toInt ≤ (4611686018427387903 : Int))) = true then
          if (decide (((((r6.getD 0 D.nil)).toStr).size : Int) ≤ (4611686018427387903 : Int))) = true then
            if (decide ((IntKind.i64.wrap ((v3).toInt + ((((ByteArray.mk #[32, 97, 116, 32]))).size : Int))) ≤ (4611686018427387903 : Int))) = true then
              if (decide ((v3).toInt ≤ (4611686018427387903 : Int))) = true then
                if (decide (((((ByteArray.mk #[32, 97, 116, 32]))).size : Int) ≤ (4611686018427387903 : Int))) = true then
                  bindC (FX 12 [x2]) 1 fun r7 =>
                    let v6 : D := (D.str ((v4).toStr ++ ((r7.getD 0 D.nil)).toStr))
                    let v7 : D := (D.int (((v6).toStr).size : Int))
                    let v8 : D := (D.str ((v6).toStr ++ ((ByteArray.mk #[32, 108, 101, 97, 115, 116, 32]))))
                    let v9 : D := (D.int (((v8).toStr).size : Int))
                    if (decide ((IntKind.i64.wrap ((v5).toInt + ((((r7.getD 0 D.nil)).toStr).size : Int))) ≤ (4611686018427387903 : Int))) = true then
                    if (decide ((v5).toInt ≤ (4611686018427387903 : Int))) = true then
                      if (decide (((((r7.getD 0 D.nil)).toStr).size : Int) ≤ (4611686018427387903 : Int))) = true then
                        if (decide ((IntKind.i64.wrap ((v7).toInt + ((((ByteArray.mk #[32, 108, 101, 97, 115, 116, 32]))).size : Int))) ≤ (4611686018427387903 : Int))) = true then
                          if (decide ((v7).toInt ≤ (4611686018427387903 : Int))) = true then
                            if (decide (((((ByteArray.mk #[32, 108, 101, 97, 115, 116, 32]))).size : Int) ≤ (4611686018427387903 : Int))) = true then
                              bindC (FX 12 [x3]) 1 fun r8 =>
                                let v10 : D := (D.str ((v8).toStr ++ ((r8.getD 0 D.nil)).toStr))
                                let v11 : D := (D.int (((v10).toStr).size : Int))
                                let v12 : D := (D.str ((v10).toStr ++ ((ByteArray.mk #[32, 117, 110, 116, 105, 108, 32]))))
                                let v13 : D := (D.int (((v12).toStr).size : Int))
                                if (decide ((IntKind.i64.wrap ((v9).toInt + ((((r8.getD 0 D.nil)).toStr).size : Int))) ≤ (4611686018427387903 : Int))) = true then
                                if (decide ((v9).toInt ≤ (4611686018427387903 : Int))) = true then
                                  if (decide (((((r8.getD 0 D.nil)).toStr).size : Int) ≤ (4611686018427387903 : Int))) = true then
                                    if (decide ((IntKind.i64.wrap ((v11).toInt + ((((ByteArray.mk #[32, 117, 110, 116, 105, 108, 32]))).size : Int))) ≤ (4611686018427387903 : Int))) = true then
                                      if (decide ((v11).toInt ≤ (4611686018427387903 : Int))) = true then
                                        if (decide (((((ByteArray.mk #[32, 117, 110, 116, 105, 108, 32]))).size : Int) ≤ (4611686018427387903 : Int))) = true then
                                          bindC (FX 12 [x4]) 1 fun r9 =>
                                            if (decide ((IntKind.i64.wrap ((v13).toInt + ((((r9.getD 0 D.nil)).toStr).size : Int))) ≤ (4611686018427387903 : Int))) = true then
                                            if (decide ((v13).toInt ≤ (4611686018427387903 : Int))) = true then
                                              if (decide (((((r9.getD 0 D.nil)).toStr).size : Int) ≤ (4611686018427387903 : Int))) = true then
                                                some [(D.str ((v12).toStr ++ ((r9.getD 0 D.nil)).toStr))]
                                                else none
                                              else none
                                            else none
                                          else none
                                        else none
                                      else none
                                    else none
                                  else none
                                else none
                              else none
                            else none
                          else none
                        else none
                      else none
                    else none
                  else none
                else none
              else none
            else none
          else none
        else none
      else none
    else none
  else none := (fixP_eq (t := T_ref29_Terms) (by rfl) _).trans (by kernel_rfl)
theorem E_ref06_Name (x0 : D) : FX 13 [x0] =
  let v0 : D := (D.agg ((D.str ((ByteArray.mk #[102, 114, 101, 101]))) :: ((D.str ((ByteArray.mk #[108, 105, 118, 101]))) :: ((D.str ((ByteArray.mk #[108, 105, 118, 101]))) :: ((D.str ((ByteArray.mk #[108, 105, 118, 101]))) :: ((D.str ((ByteArray.mk #[108, 105, 118, 101]))) :: ((D.str ((ByteArray.mk #[102, 105, 108, 108, 101, 100]))) :: ((D.str ((ByteArray.mk #[99, 97, 110, 99, 101, 108, 108, 101, 100]))) :: ((D.str ((ByteArray.mk #[101, 120, 112, 105, 114, 101, 100]))) :: ((D.str ((ByteArray.mk #[114, 101, 116, 105, 114, 101, 100]))) :: []))))))))))
  if (decide ((x0).toInt < (0 : Int))) = true then
  some [(D.str ((ByteArray.mk #[63])))]
  else
  if (decide ((x0).toInt > (8 : Int))) = true then
    some [(D.str ((ByteArray.mk #[63])))]
    else
    if (decide ((x0).toInt ≥ (0 : Int))) = true then
      if (decide ((x0).toInt < (((v0).toL).length : Int))) = true then
        some [(((v0).toL).getD ((x0).toInt).toNat D.nil)]
        else none
      else none := (fixP_eq (t := T_ref06_Name) (by rfl) _).trans (by kernel_rfl)
noncomputable def J_ref29_Event_1 (x0 x1 x2 x3 x4 x5 x6 x7 x8 x9 x10 x11 x12 x13 : D) : Eng.Fn := fun xs => evalP FX B_ref29_Event_1 [] ([x0, x1, x2, x3, x4, x5, x6, x7, x8, x9, x10, x11, x12, x13] ++ xs)
theorem J_ref29_Event_1_eq (x0 x1 x2 x3 x4 x5 x6 x7 x8 x9 x10 x11 x12 x13 : D) (a0 : D) : J_ref29_Event_1 x0 x1 x2 x3 x4 x5 x6 x7 x8 x9 x10 x11 x12 x13  [a0] =
  bindC (FX 12 [x12]) 1 fun r15 =>
  let v2 : D := (D.str (((r15.getD 0 D.nil)).toStr ++ ((ByteArray.mk #[32]))))
  let v3 : D := (D.int (((v2).toStr).size : Int))
  let v4 : D := (D.str ((v2).toStr ++ (a0).toStr))
  let v5 : D := (D.int (((v4).toStr).size : Int))
  let v6 : D := (D.str ((v4).toStr ++ ((ByteArray.mk #[32]))))
  let v7 : D := (D.int (((v6).toStr).size : Int))
  if (decide ((IntKind.i64.wrap (((((r15.getD 0 D.nil)).toStr).size : Int) + ((((ByteArray.mk #[32]))).size : Int))) ≤ (4611686018427387903 : Int))) = true then
  if (decide (((((r15.getD 0 D.nil)).toStr).size : Int) ≤ (4611686018427387903 : Int))) = true then
    if (decide (((((ByteArray.mk #[32]))).size : Int) ≤ (4611686018427387903 : Int))) = true then
      if (decide ((IntKind.i64.wrap ((v3).toInt + (((a0).toStr).size : Int))) ≤ (4611686018427387903 : Int))) = true then
        if (decide ((v3).toInt ≤ (4611686018427387903 : Int))) = true then
          if (decide ((((a0).toStr).size : Int) ≤ (4611686018427387903 : Int))) = true then
            if (decide ((IntKind.i64.wrap ((v5).toInt + ((((ByteArray.mk #[32]))).size : Int))) ≤ (4611686018427387903 : Int))) = true then
              if (decide ((v5).toInt ≤ (4611686018427387903 : Int))) = true then
                if (decide (((((ByteArray.mk #[32]))).size : Int) ≤ (4611686018427387903 : Int))) = true then
                  bindC (FX 12 [x1]) 1 fun r16 =>
                    let v8 : D := (D.str ((v6).toStr ++ ((r16.getD 0 D.nil)).toStr))
                    let v9 : D := (D.int (((v8).toStr).size : Int))
                    let v10 : D := (D.str ((v8).toStr ++ ((ByteArray.mk #[32]))))
                    let v11 : D := (D.int (((v10).toStr).size : Int))
                    if (decide ((IntKind.i64.wrap ((v7).toInt + ((((r16.getD 0 D.nil)).toStr).size : Int))) ≤ (4611686018427387903 : Int))) = true then
                    if (decide ((v7).toInt ≤ (4611686018427387903 : Int))) = true then
                      if (decide (((((r16.getD 0 D.nil)).toStr).size : Int) ≤ (4611686018427387903 : Int))) = true then
                        if (decide ((IntKind.i64.wrap ((v9).toInt + ((((ByteArray.mk #[32]))).size : Int))) ≤ (4611686018427387903 : Int))) = true then
                          if (decide ((v9).toInt ≤ (4611686018427387903 : Int))) = true then
                            if (decide (((((ByteArray.mk #[32]))).size : Int) ≤ (4611686018427387903 : Int))) = true then
                              bindC (FX 12 [x2]) 1 fun r17 =>
                                let v12 : D := (D.str ((v10).toStr ++ ((r17.getD 0 D.nil)).toStr))
                                let v13 : D := (D.int (((v12).toStr).size : Int))
                                let v14 : D := (D.str ((v12).toStr ++ ((ByteArray.mk #[32]))))
                                let v15 : D := (D.str ((v12).toStr ++ ((ByteArray.mk #[32, 119, 105, 116, 104, 32]))))
                                let v16 : D := (D.int (((v14).toStr).size : Int))
                                let v17 : D := (D.int (((v15).toStr).size : Int))
                                if (decide ((IntKind.i64.wrap ((v11).toInt + ((((r17.getD 0 D.nil)).toStr).size : Int))) ≤ (4611686018427387903 : Int))) = true then
                                if (decide ((v11).toInt ≤ (4611686018427387903 : Int))) = true then
                                  if (decide (((((r17.getD 0 D.nil)).toStr).size : Int) ≤ (4611686018427387903 : Int))) = true then
                                    if ((x0).toInt == (1 : Int)) = true then
                                      if (decide ((IntKind.i64.wrap ((v13).toInt + ((((ByteArray.mk #[32]))).size : Int))) ≤ (4611686018427387903 : Int))) = true then
                                        if (decide ((v13).toInt ≤ (4611686018427387903 : Int))) = true then
                                          if (decide (((((ByteArray.mk #[32]))).size : Int) ≤ (4611686018427387903 : Int))) = true then
                                            bindC (FX 8 [x5, x6, x7, x8, x9]) 1 fun r18 =>
                                              let v18 : D := (D.str ((v14).toStr ++ ((r18.getD 0 D.nil)).toStr))
                                              let v19 : D := (D.int (((v18).toStr).size : Int))
                                              let v20 : D := (D.str ((v18).toStr ++ ((ByteArray.mk #[32, 111, 102, 32]))))
                                              let v21 : D := (D.int (((v20).toStr).size : Int))
                                              if (decide ((IntKind.i64.wrap ((v16).toInt + ((((r18.getD 0 D.nil)).toStr).size : Int))) ≤ (4611686018427387903 : Int))) = true then
                                              if (decide ((v16).toInt ≤ (4611686018427387903 : Int))) = true then
                                                if (decide (((((r18.getD 0 D.nil)).toStr).size : Int) ≤ (4611686018427387903 : Int))) = true then
                                                  if (decide ((IntKind.i64.wrap ((v19).toInt + ((((ByteArray.mk #[32, 111, 102, 32]))).size : Int))) ≤ (4611686018427387903 : Int))) = true then
                                                    if (decide ((v19).toInt ≤ (4611686018427387903 : Int))) = true then
                                                      if (decide (((((ByteArray.mk #[32, 111, 102, 32]))).size : Int) ≤ (4611686018427387903 : Int))) = true then
                                                        bindC (FX 12 [x10]) 1 fun r19 =>
                                                          if (decide ((IntKind.i64.wrap ((v21).toInt + ((((r19.getD 0 D.nil)).toStr).size : Int))) ≤ (4611686018427387903 : Int))) = true then
                                                          if (decide ((v21).toInt ≤ (4611686018427387903 : Int))) = true then
                                                            if (decide (((((r19.getD 0 D.nil)).toStr).size : Int) ≤ (4611686018427387903 : Int))) = true then
                                                              some [(D.str ((v20).toStr ++ ((r19.getD 0 D.nil)).toStr))]
                                                              else none
                                                            else none
                                                          else none
                                                        else none
                                                      else none
                                                    else none
                                                  else none
                                                else none
                                              else none
                                            else none
                                          else none
                                        else none
                                      else
                                      if ((x0).toInt == (2 : Int)) = true then
                                        if (decide ((IntKind.i64.wrap ((v13).toInt + ((((ByteArray.mk #[32, 119, 105, 116, 104, 32]))).size : Int))) ≤ (4611686018427387903 : Int))) = true then
                                          if (decide ((v13).toInt ≤ (4611686018427387903 : Int))) = true then
                                            if (decide (((((ByteArray.mk #[32, 119, 105, 116, 104, 32]))).size : Int) ≤ (4611686018427387903 : Int))) = true then
                                              bindC (FX 12 [x3]) 1 fun r18 =>
                                                let v22 : D := (D.str ((v15).toStr ++ ((r18.getD 0 D.nil)).toStr))
                                                let v23 : D := (D.int (((v22).toStr).size : Int))
                                                let v24 : D := (D.str ((v22).toStr ++ ((ByteArray.mk #[32]))))
                                                let v25 : D := (D.int (((v24).toStr).size : Int))
                                                if (decide ((IntKind.i64.wrap ((v17).toInt + ((((r18.getD 0 D.nil)).toStr).size : Int))) ≤ (4611686018427387903 : Int))) = true then
                                                if (decide ((v17).toInt ≤ (4611686018427387903 : Int))) = true then
                                                  if (decide (((((r18.getD 0 D.nil)).toStr).size : Int) ≤ (4611686018427387903 : Int))) = true then
                                                    if (decide ((IntKind.i64.wrap ((v23).toInt + ((((ByteArray.mk #[32]))).size : Int))) ≤ (4611686018427387903 : Int))) = true then
                                                      if (decide ((v23).toInt ≤ (4611686018427387903 : Int))) = true then
                                                        if (decide (((((ByteArray.mk #[32]))).size : Int) ≤ (4611686018427387903 : Int))) = true then
                                                          bindC (FX 12 [x4]) 1 fun r19 =>
                                                            let v26 : D := (D.str ((v24).toStr ++ ((r19.getD 0 D.nil)).toStr))
                                                            let v27 : D := (D.int (((v26).toStr).size : Int))
                                                            let v28 : D := (D.str ((v26).toStr ++ ((ByteArray.mk #[32, 111, 102, 32]))))
                                                            let v29 : D := (D.int (((v28).toStr).size : Int))
                                                            if (decide ((IntKind.i64.wrap ((v25).toInt + ((((r19.getD 0 D.nil)).toStr).size : Int))) ≤ (4611686018427387903 : Int))) = true then
                                                            if (decide ((v25).toInt ≤ (4611686018427387903 : Int))) = true then
                                                              if (decide (((((r19.getD 0 D.nil)).toStr).size : Int) ≤ (4611686018427387903 : Int))) = true then
                                                                if (decide ((IntKind.i64.wrap ((v27).toInt + ((((ByteArray.mk #[32, 111, 102, 32]))).size : Int))) ≤ (4611686018427387903 : Int))) = true then
                                                                  if (decide ((v27).toInt ≤ (4611686018427387903 : Int))) = true then
                                                                    if (decide (((((ByteArray.mk #[32, 111, 102, 32]))).size : Int) ≤ (4611686018427387903 : Int))) = true then
                                                                      bindC (FX 12 [x10]) 1 fun r20 =>
                                                                        let v30 : D := (D.str ((v28).toStr ++ ((r20.getD 0 D.nil)).toStr))
                                                                        let v31 : D := (D.int (((v30).toStr).size : Int))
                                                                        let v32 : D := (D.str ((v30).toStr ++ ((ByteArray.mk #[32, 97, 116, 32]))))
                                                                        let v33 : D := (D.int (((v32).toStr).size : Int))
                                                                        if (decide ((IntKind.i64.wrap ((v29).toInt + ((((r20.getD 0 D.nil)).toStr).size : Int))) ≤ (4611686018427387903 : Int))) = true then
                                                                        if (decide ((v29).toInt ≤ (4611686018427387903 : Int))) = true then
                                                                          if (decide (((((r20.getD 0 D.nil)).toStr).size : Int) ≤ (4611686018427387903 : Int))) = true then
                                                                            if (decide ((IntKind.i64.wrap ((v31).toInt + ((((ByteArray.mk #[32, 97, 116, 32]))).size : Int))) ≤ (4611686018427387903 : Int))) = true then
                                                                              if (decide ((v31).toInt ≤ (4611686018427387903 : Int))) = true then
                                                                                if (decide (((((ByteArray.mk #[32, 97, 116, 32]))).size : Int) ≤ (4611686018427387903 : Int))) = true then
                                                                                  bindC (FX 12 [x11]) 1 fun r21 =>
                                                                                    if (decide ((IntKind.i64.wrap ((v33).toInt + ((((r21.getD 0 D.nil)).toStr).size : Int))) ≤ (4611686018427387903 : Int))) = true then
                                                                                    if (decide ((v33).toInt ≤ (4611686018427387903 : Int))) = true then
                                                                                      if (decide (((((r21.getD 0 D.nil)).toStr).size : Int) ≤ (4611686018427387903 : Int))) = true then
                                                                                        some [(D.str ((v32).toStr ++ ((r21.getD 0 D.nil)).toStr))]
                                                                                        else none
                                                                                      else none
                                                                                    else none
                                                                                  else none
                                                                                else none
                                                                              else none
                                                                            else none
                                                                          else none
                                                                        else none
                                                                      else none
                                                                    else none
                                                                  else none
                                                                else none
                                                              else none
                                                            else none
                                                          else none
                                                        else none
                                                      else none
                                                    else none
                                                  else none
                                                else none
                                              else none
                                            else none
                                          else none
                                        else
                                        if ((x0).toInt == (7 : Int)) = true then
                                          if (decide ((IntKind.i64.wrap ((v13).toInt + ((((ByteArray.mk #[32]))).size : Int))) ≤ (4611686018427387903 : Int))) = true then
                                            if (decide ((v13).toInt ≤ (4611686018427387903 : Int))) = true then
                                              if (decide (((((ByteArray.mk #[32]))).size : Int) ≤ (4611686018427387903 : Int))) = true then
                                                bindC (FX 13 [x13]) 1 fun r18 =>
                                                  if (decide ((IntKind.i64.wrap ((v16).toInt + ((((r18.getD 0 D.nil)).toStr).size : Int))) ≤ (4611686018427387903 : Int))) = true then
                                                  if (decide ((v16).toInt ≤ (4611686018427387903 : Int))) = true then
                                                    if (decide (((((r18.getD 0 D.nil)).toStr).size : Int) ≤ (4611686018427387903 : Int))) = true then
                                                      some [(D.str ((v14).toStr ++ ((r18.getD 0 D.nil)).toStr))]
                                                      else none
                                                    else none
                                                  else none
                                                else none
                                              else none
                                            else none
                                          else
                                          some [v12]
                                    else none
                                  else none
                                else none
                              else none
                            else none
                          else none
                        else none
                      else none
                    else none
                  else none
                else none
              else none
            else none
          else none
        else none
      else none
    else none
  else none := by kernel_rfl
theorem E_ref29_Event (x0 x1 x2 x3 x4 x5 x6 x7 x8 x9 x10 x11 x12 x13 : D) : FX 6 [x0, x1, x2, x3, x4, x5, x6, x7, x8, x9, x10, x11, x12, x13] =
  let v0 : D := (D.int (IntKind.i64.wrap ((x0).toInt - (1 : Int))))
  let v1 : D := (D.agg ((D.str ((ByteArray.mk #[115, 117, 98, 109, 105, 116]))) :: ((D.str ((ByteArray.mk #[102, 105, 108, 108]))) :: ((D.str ((ByteArray.mk #[99, 97, 110, 99, 101, 108]))) :: ((D.str ((ByteArray.mk #[97, 115, 107]))) :: ((D.str ((ByteArray.mk #[101, 120, 112, 105, 114, 101]))) :: ((D.str ((ByteArray.mk #[114, 101, 115, 116]))) :: ((D.str ((ByteArray.mk #[111, 118, 101, 114]))) :: []))))))))
  if (decide ((x0).toInt ≥ (1 : Int))) = true then
  if (decide ((x0).toInt ≤ (7 : Int))) = true then
    if (decide ((v0).toInt ≥ (0 : Int))) = true then
      if (decide ((v0).toInt < (((v1).toL).length : Int))) = true then
        (J_ref29_Event_1 x0 x1 x2 x3 x4 x5 x6 x7 x8 x9 x10 x11 x12 x13) [(((v1).toL).getD ((v0).toInt).toNat D.nil)]
        else none
      else none
    else
    (J_ref29_Event_1 x0 x1 x2 x3 x4 x5 x6 x7 x8 x9 x10 x11 x12 x13) [(D.str ((ByteArray.mk #[63])))]
  else
  (J_ref29_Event_1 x0 x1 x2 x3 x4 x5 x6 x7 x8 x9 x10 x11 x12 x13) [(D.str ((ByteArray.mk #[63])))] := (fixP_eq (t := T_ref29_Event) (by rfl) _).trans (by kernel_rfl)
noncomputable def W_report_words_1 (x0 : D) : Eng.Fn := loopF fun g xs => evalP FX B_report_words_1 ([] ++ [g]) ([x0] ++ xs)
theorem W_report_words_1_eq (x0 : D) (a0 a1 : D) : W_report_words_1 x0 [a0, a1] =
  let v0 : D := (((x0).toL).getD ((a0).toInt).toNat D.nil)
  let v1 : D := (D.int (IntKind.i64.wrap ((a0).toInt + (1 : Int))))
  let v2 : D := (v0).inner
  let v3 : D := (D.agg ((a1).toL ++ ((if (v0.isIf 9) = true then v2 else (D.str ((ByteArray.mk #[])))) :: [])))
  if (decide ((a0).toInt < (((x0).toL).length : Int))) = true then
  if (decide ((a0).toInt ≥ (0 : Int))) = true then
    if (decide ((a0).toInt < (((x0).toL).length : Int))) = true then
      if (v0.isIf 9) = true then
        if (decide ((((v3).toL).length : Int) ≤ (8796093022208 : Int))) = true then
          (W_report_words_1 x0) [v1, v3]
          else none
        else
        if (v0.isIf 3) = true then
          bindC (FX 17 [(if (v0.isIf 3) = true then v2 else (D.int (0 : Int)))]) 1 fun r3 =>
            let v4 : D := (D.agg ((a1).toL ++ ((r3.getD 0 D.nil) :: [])))
            if (decide ((((v4).toL).length : Int) ≤ (8796093022208 : Int))) = true then
            (W_report_words_1 x0) [v1, v4]
            else none
          else
          if (v0.isIf 4) = true then
            bindC (FX 18 [(D.bool ((v0.isIf 4) && (v2).toBool))]) 1 fun r3 =>
              let v5 : D := (D.agg ((a1).toL ++ ((r3.getD 0 D.nil) :: [])))
              if (decide ((((v5).toL).length : Int) ≤ (8796093022208 : Int))) = true then
              (W_report_words_1 x0) [v1, v5]
              else none
            else
            (W_report_words_1 x0) [v1, a1]
      else none
    else none
  else
  bindC (FX 19 [a1, (D.str ((ByteArray.mk #[32])))]) 1 fun r3 =>
    some [(r3.getD 0 D.nil)] := (loopP_eq FX B_report_words_1 [] [x0] _).trans (by kernel_rfl)
theorem E_report_words (x0 : D) : FX 10 [x0] =
  W_report_words_1 x0 [(D.int (0 : Int)), (D.agg [])] := (fixP_eq (t := T_report_words) (by rfl) _).trans (by kernel_rfl)
theorem E_terms_Name (x0 : D) : FX 14 [x0] =
  if ((x0).toInt == (0 : Int)) = true then
  some [(D.str ((ByteArray.mk #[98, 117, 121])))]
  else
  if ((x0).toInt == (1 : Int)) = true then
    some [(D.str ((ByteArray.mk #[115, 101, 108, 108])))]
    else
    some [(D.str ((ByteArray.mk #[63])))] := (fixP_eq (t := T_terms_Name) (by rfl) _).trans (by kernel_rfl)
theorem E_report_Terms (x0 x1 x2 x3 x4 : D) : FX 7 [x0, x1, x2, x3, x4] =
  bindC (FX 14 [x1]) 1 fun r5 =>
  bindC (FX 10 [(D.agg ((D.iface 9 (r5.getD 0 D.nil)) :: ((D.iface 3 x0) :: ((D.iface 9 (D.str ((ByteArray.mk #[97, 116])))) :: ((D.iface 3 x2) :: ((D.iface 9 (D.str ((ByteArray.mk #[108, 101, 97, 115, 116])))) :: ((D.iface 3 x3) :: ((D.iface 9 (D.str ((ByteArray.mk #[117, 110, 116, 105, 108])))) :: ((D.iface 3 x4) :: [])))))))))]) 1 fun r6 =>
  some [(r6.getD 0 D.nil)] := (fixP_eq (t := T_report_Terms) (by rfl) _).trans (by kernel_rfl)
theorem E_cell_Kind (x0 x1 x2 x3 x4 : D) : FX 11 [x0, x1, x2, x3, x4] =
  if ((x0).toInt == (0 : Int)) = true then
  some [(D.str ((ByteArray.mk #[102, 114, 101, 101])))]
  else
  if ((x0).toInt == (1 : Int)) = true then
    some [(D.str ((ByteArray.mk #[108, 105, 118, 101])))]
    else
    if ((x0).toInt == (2 : Int)) = true then
      some [(D.str ((ByteArray.mk #[108, 105, 118, 101])))]
      else
      if ((x0).toInt == (3 : Int)) = true then
        some [(D.str ((ByteArray.mk #[108, 105, 118, 101])))]
        else
        if ((x0).toInt == (4 : Int)) = true then
          some [(D.str ((ByteArray.mk #[108, 105, 118, 101])))]
          else
          if ((x0).toInt == (5 : Int)) = true then
            some [(D.str ((ByteArray.mk #[102, 105, 108, 108, 101, 100])))]
            else
            if ((x0).toInt == (6 : Int)) = true then
              some [(D.str ((ByteArray.mk #[99, 97, 110, 99, 101, 108, 108, 101, 100])))]
              else
              if ((x0).toInt == (7 : Int)) = true then
                some [(D.str ((ByteArray.mk #[101, 120, 112, 105, 114, 101, 100])))]
                else
                if ((x0).toInt == (8 : Int)) = true then
                  some [(D.str ((ByteArray.mk #[114, 101, 116, 105, 114, 101, 100])))]
                  else
                  some [(D.str ((ByteArray.mk #[63])))] := (fixP_eq (t := T_cell_Kind) (by rfl) _).trans (by kernel_rfl)
theorem E_report_Event (x0 x1 x2 x3 x4 x5 x6 x7 x8 x9 x10 x11 x12 x13 : D) : FX 5 [x0, x1, x2, x3, x4, x5, x6, x7, x8, x9, x10, x11, x12, x13] =
  let v0 : D := (D.agg ((D.iface 3 x1) :: ((D.iface 3 x2) :: [])))
  let v1 : D := (D.agg ((D.str ((ByteArray.mk #[63]))) :: ((D.str ((ByteArray.mk #[115, 117, 98, 109, 105, 116]))) :: ((D.str ((ByteArray.mk #[102, 105, 108, 108]))) :: ((D.str ((ByteArray.mk #[99, 97, 110, 99, 101, 108]))) :: ((D.str ((ByteArray.mk #[97, 115, 107]))) :: ((D.str ((ByteArray.mk #[101, 120, 112, 105, 114, 101]))) :: ((D.str ((ByteArray.mk #[114, 101, 115, 116]))) :: ((D.str ((ByteArray.mk #[111, 118, 101, 114]))) :: [])))))))))
  let v2 : D := (D.int (((v1).toL).length : Int))
  let v3 : D := (D.agg ((D.iface 9 (D.str ((ByteArray.mk #[119, 105, 116, 104])))) :: ((D.iface 3 x3) :: ((D.iface 3 x4) :: ((D.iface 9 (D.str ((ByteArray.mk #[111, 102])))) :: ((D.iface 3 x10) :: ((D.iface 9 (D.str ((ByteArray.mk #[97, 116])))) :: ((D.iface 3 x11) :: []))))))))
  let v4 : D := (D.agg ((D.iface 3 x12) :: ((D.iface 9 (((v1).toL).getD ((0 : Int)).toNat D.nil)) :: (v0).toL)))
  if (decide ((0 : Int) < (v2).toInt)) = true then
  if (decide ((0 : Int) < (8 : Int))) = true then
    if (decide ((x0).toInt > (0 : Int))) = true then
      if (decide ((x0).toInt < (8 : Int))) = true then
        if (decide ((x0).toInt ≥ (0 : Int))) = true then
          if (decide ((x0).toInt < (v2).toInt)) = true then
            if (decide ((x0).toInt < (8 : Int))) = true then
              bindC (FX 10 [(D.agg ((D.iface 3 x12) :: ((D.iface 9 (((v1).toL).getD ((x0).toInt).toNat D.nil)) :: (v0).toL)))]) 1 fun r14 =>
                if ((x0).toInt == (1 : Int)) = true then
                bindC (FX 7 [x5, x6, x7, x8, x9]) 1 fun r15 =>
                  bindC (FX 10 [(D.agg ((D.iface 9 (r15.getD 0 D.nil)) :: ((D.iface 9 (D.str ((ByteArray.mk #[111, 102])))) :: ((D.iface 3 x10) :: []))))]) 1 fun r16 =>
                  let v5 : D := (D.str (((ByteArray.mk #[32])) ++ ((r16.getD 0 D.nil)).toStr))
                  let v6 : D := (D.int (((v5).toStr).size : Int))
                  if (decide ((IntKind.i64.wrap (((((ByteArray.mk #[32]))).size : Int) + ((((r16.getD 0 D.nil)).toStr).size : Int))) ≤ (4611686018427387903 : Int))) = true then
                  if (decide (((((ByteArray.mk #[32]))).size : Int) ≤ (4611686018427387903 : Int))) = true then
                    if (decide (((((r16.getD 0 D.nil)).toStr).size : Int) ≤ (4611686018427387903 : Int))) = true then
                      if (decide ((IntKind.i64.wrap (((((r14.getD 0 D.nil)).toStr).size : Int) + (v6).toInt)) ≤ (4611686018427387903 : Int))) = true then
                        if (decide (((((r14.getD 0 D.nil)).toStr).size : Int) ≤ (4611686018427387903 : Int))) = true then
                          if (decide ((v6).toInt ≤ (4611686018427387903 : Int))) = true then
                            some [(D.str (((r14.getD 0 D.nil)).toStr ++ (v5).toStr))]
                            else none
                          else none
                        else none
                      else none
                    else none
                  else none
                else
                if ((x0).toInt == (2 : Int)) = true then
                  bindC (FX 10 [v3]) 1 fun r15 =>
                    let v7 : D := (D.str (((ByteArray.mk #[32])) ++ ((r15.getD 0 D.nil)).toStr))
                    let v8 : D := (D.int (((v7).toStr).size : Int))
                    if (decide ((IntKind.i64.wrap (((((ByteArray.mk #[32]))).size : Int) + ((((r15.getD 0 D.nil)).toStr).size : Int))) ≤ (4611686018427387903 : Int))) = true then
                    if (decide (((((ByteArray.mk #[32]))).size : Int) ≤ (4611686018427387903 : Int))) = true then
                      if (decide (((((r15.getD 0 D.nil)).toStr).size : Int) ≤ (4611686018427387903 : Int))) = true then
                        if (decide ((IntKind.i64.wrap (((((r14.getD 0 D.nil)).toStr).size : Int) + (v8).toInt)) ≤ (4611686018427387903 : Int))) = true then
                          if (decide (((((r14.getD 0 D.nil)).toStr).size : Int) ≤ (4611686018427387903 : Int))) = true then
                            if (decide ((v8).toInt ≤ (4611686018427387903 : Int))) = true then
                              some [(D.str (((r14.getD 0 D.nil)).toStr ++ (v7).toStr))]
                              else none
                            else none
                          else none
                        else none
                      else none
                    else none
                  else
                  if ((x0).toInt == (7 : Int)) = true then
                    bindC (FX 11 [x13, (D.bool false), (D.int (0 : Int)), (D.int (0 : Int)), (D.int (0 : Int))]) 1 fun r15 =>
                      let v9 : D := (D.str (((ByteArray.mk #[32])) ++ ((r15.getD 0 D.nil)).toStr))
                      let v10 : D := (D.int (((v9).toStr).size : Int))
                      if (decide ((IntKind.i64.wrap (((((ByteArray.mk #[32]))).size : Int) + ((((r15.getD 0 D.nil)).toStr).size : Int))) ≤ (4611686018427387903 : Int))) = true then
                      if (decide (((((ByteArray.mk #[32]))).size : Int) ≤ (4611686018427387903 : Int))) = true then
                        if (decide (((((r15.getD 0 D.nil)).toStr).size : Int) ≤ (4611686018427387903 : Int))) = true then
                          if (decide ((IntKind.i64.wrap (((((r14.getD 0 D.nil)).toStr).size : Int) + (v10).toInt)) ≤ (4611686018427387903 : Int))) = true then
                            if (decide (((((r14.getD 0 D.nil)).toStr).size : Int) ≤ (4611686018427387903 : Int))) = true then
                              if (decide ((v10).toInt ≤ (4611686018427387903 : Int))) = true then
                                some [(D.str (((r14.getD 0 D.nil)).toStr ++ (v9).toStr))]
                                else none
                              else none
                            else none
                          else none
                        else none
                      else none
                    else
                    some [(r14.getD 0 D.nil)]
              else none
            else none
          else none
        else
        bindC (FX 10 [v4]) 1 fun r14 =>
          if ((x0).toInt == (1 : Int)) = true then
          bindC (FX 7 [x5, x6, x7, x8, x9]) 1 fun r15 =>
            bindC (FX 10 [(D.agg ((D.iface 9 (r15.getD 0 D.nil)) :: ((D.iface 9 (D.str ((ByteArray.mk #[111, 102])))) :: ((D.iface 3 x10) :: []))))]) 1 fun r16 =>
            let v11 : D := (D.str (((ByteArray.mk #[32])) ++ ((r16.getD 0 D.nil)).toStr))
            let v12 : D := (D.int (((v11).toStr).size : Int))
            if (decide ((IntKind.i64.wrap (((((ByteArray.mk #[32]))).size : Int) + ((((r16.getD 0 D.nil)).toStr).size : Int))) ≤ (4611686018427387903 : Int))) = true then
            if (decide (((((ByteArray.mk #[32]))).size : Int) ≤ (4611686018427387903 : Int))) = true then
              if (decide (((((r16.getD 0 D.nil)).toStr).size : Int) ≤ (4611686018427387903 : Int))) = true then
                if (decide ((IntKind.i64.wrap (((((r14.getD 0 D.nil)).toStr).size : Int) + (v12).toInt)) ≤ (4611686018427387903 : Int))) = true then
                  if (decide (((((r14.getD 0 D.nil)).toStr).size : Int) ≤ (4611686018427387903 : Int))) = true then
                    if (decide ((v12).toInt ≤ (4611686018427387903 : Int))) = true then
                      some [(D.str (((r14.getD 0 D.nil)).toStr ++ (v11).toStr))]
                      else none
                    else none
                  else none
                else none
              else none
            else none
          else
          if ((x0).toInt == (2 : Int)) = true then
            bindC (FX 10 [v3]) 1 fun r15 =>
              let v13 : D := (D.str (((ByteArray.mk #[32])) ++ ((r15.getD 0 D.nil)).toStr))
              let v14 : D := (D.int (((v13).toStr).size : Int))
              if (decide ((IntKind.i64.wrap (((((ByteArray.mk #[32]))).size : Int) + ((((r15.getD 0 D.nil)).toStr).size : Int))) ≤ (4611686018427387903 : Int))) = true then
              if (decide (((((ByteArray.mk #[32]))).size : Int) ≤ (4611686018427387903 : Int))) = true then
                if (decide (((((r15.getD 0 D.nil)).toStr).size : Int) ≤ (4611686018427387903 : Int))) = true then
                  if (decide ((IntKind.i64.wrap (((((r14.getD 0 D.nil)).toStr).size : Int) + (v14).toInt)) ≤ (4611686018427387903 : Int))) = true then
                    if (decide (((((r14.getD 0 D.nil)).toStr).size : Int) ≤ (4611686018427387903 : Int))) = true then
                      if (decide ((v14).toInt ≤ (4611686018427387903 : Int))) = true then
                        some [(D.str (((r14.getD 0 D.nil)).toStr ++ (v13).toStr))]
                        else none
                      else none
                    else none
                  else none
                else none
              else none
            else
            if ((x0).toInt == (7 : Int)) = true then
              bindC (FX 11 [x13, (D.bool false), (D.int (0 : Int)), (D.int (0 : Int)), (D.int (0 : Int))]) 1 fun r15 =>
                let v15 : D := (D.str (((ByteArray.mk #[32])) ++ ((r15.getD 0 D.nil)).toStr))
                let v16 : D := (D.int (((v15).toStr).size : Int))
                if (decide ((IntKind.i64.wrap (((((ByteArray.mk #[32]))).size : Int) + ((((r15.getD 0 D.nil)).toStr).size : Int))) ≤ (4611686018427387903 : Int))) = true then
                if (decide (((((ByteArray.mk #[32]))).size : Int) ≤ (4611686018427387903 : Int))) = true then
                  if (decide (((((r15.getD 0 D.nil)).toStr).size : Int) ≤ (4611686018427387903 : Int))) = true then
                    if (decide ((IntKind.i64.wrap (((((r14.getD 0 D.nil)).toStr).size : Int) + (v16).toInt)) ≤ (4611686018427387903 : Int))) = true then
                      if (decide (((((r14.getD 0 D.nil)).toStr).size : Int) ≤ (4611686018427387903 : Int))) = true then
                        if (decide ((v16).toInt ≤ (4611686018427387903 : Int))) = true then
                          some [(D.str (((r14.getD 0 D.nil)).toStr ++ (v15).toStr))]
                          else none
                        else none
                      else none
                    else none
                  else none
                else none
              else
              some [(r14.getD 0 D.nil)]
      else
      bindC (FX 10 [v4]) 1 fun r14 =>
        if ((x0).toInt == (1 : Int)) = true then
        bindC (FX 7 [x5, x6, x7, x8, x9]) 1 fun r15 =>
          bindC (FX 10 [(D.agg ((D.iface 9 (r15.getD 0 D.nil)) :: ((D.iface 9 (D.str ((ByteArray.mk #[111, 102])))) :: ((D.iface 3 x10) :: []))))]) 1 fun r16 =>
          let v17 : D := (D.str (((ByteArray.mk #[32])) ++ ((r16.getD 0 D.nil)).toStr))
          let v18 : D := (D.int (((v17).toStr).size : Int))
          if (decide ((IntKind.i64.wrap (((((ByteArray.mk #[32]))).size : Int) + ((((r16.getD 0 D.nil)).toStr).size : Int))) ≤ (4611686018427387903 : Int))) = true then
          if (decide (((((ByteArray.mk #[32]))).size : Int) ≤ (4611686018427387903 : Int))) = true then
            if (decide (((((r16.getD 0 D.nil)).toStr).size : Int) ≤ (4611686018427387903 : Int))) = true then
              if (decide ((IntKind.i64.wrap (((((r14.getD 0 D.nil)).toStr).size : Int) + (v18).toInt)) ≤ (4611686018427387903 : Int))) = true then
                if (decide (((((r14.getD 0 D.nil)).toStr).size : Int) ≤ (4611686018427387903 : Int))) = true then
                  if (decide ((v18).toInt ≤ (4611686018427387903 : Int))) = true then
                    some [(D.str (((r14.getD 0 D.nil)).toStr ++ (v17).toStr))]
                    else none
                  else none
                else none
              else none
            else none
          else none
        else
        if ((x0).toInt == (2 : Int)) = true then
          bindC (FX 10 [v3]) 1 fun r15 =>
            let v19 : D := (D.str (((ByteArray.mk #[32])) ++ ((r15.getD 0 D.nil)).toStr))
            let v20 : D := (D.int (((v19).toStr).size : Int))
            if (decide ((IntKind.i64.wrap (((((ByteArray.mk #[32]))).size : Int) + ((((r15.getD 0 D.nil)).toStr).size : Int))) ≤ (4611686018427387903 : Int))) = true then
            if (decide (((((ByteArray.mk #[32]))).size : Int) ≤ (4611686018427387903 : Int))) = true then
              if (decide (((((r15.getD 0 D.nil)).toStr).size : Int) ≤ (4611686018427387903 : Int))) = true then
                if (decide ((IntKind.i64.wrap (((((r14.getD 0 D.nil)).toStr).size : Int) + (v20).toInt)) ≤ (4611686018427387903 : Int))) = true then
                  if (decide (((((r14.getD 0 D.nil)).toStr).size : Int) ≤ (4611686018427387903 : Int))) = true then
                    if (decide ((v20).toInt ≤ (4611686018427387903 : Int))) = true then
                      some [(D.str (((r14.getD 0 D.nil)).toStr ++ (v19).toStr))]
                      else none
                    else none
                  else none
                else none
              else none
            else none
          else
          if ((x0).toInt == (7 : Int)) = true then
            bindC (FX 11 [x13, (D.bool false), (D.int (0 : Int)), (D.int (0 : Int)), (D.int (0 : Int))]) 1 fun r15 =>
              let v21 : D := (D.str (((ByteArray.mk #[32])) ++ ((r15.getD 0 D.nil)).toStr))
              let v22 : D := (D.int (((v21).toStr).size : Int))
              if (decide ((IntKind.i64.wrap (((((ByteArray.mk #[32]))).size : Int) + ((((r15.getD 0 D.nil)).toStr).size : Int))) ≤ (4611686018427387903 : Int))) = true then
              if (decide (((((ByteArray.mk #[32]))).size : Int) ≤ (4611686018427387903 : Int))) = true then
                if (decide (((((r15.getD 0 D.nil)).toStr).size : Int) ≤ (4611686018427387903 : Int))) = true then
                  if (decide ((IntKind.i64.wrap (((((r14.getD 0 D.nil)).toStr).size : Int) + (v22).toInt)) ≤ (4611686018427387903 : Int))) = true then
                    if (decide (((((r14.getD 0 D.nil)).toStr).size : Int) ≤ (4611686018427387903 : Int))) = true then
                      if (decide ((v22).toInt ≤ (4611686018427387903 : Int))) = true then
                        some [(D.str (((r14.getD 0 D.nil)).toStr ++ (v21).toStr))]
                        else none
                      else none
                    else none
                  else none
                else none
              else none
            else
            some [(r14.getD 0 D.nil)]
    else none
  else none := (fixP_eq (t := T_report_Event) (by rfl) _).trans (by kernel_rfl)
theorem E_law13_Awake (x0 : D) : FX 9 [x0] =
  bindC (FX 16 [x0]) 2 fun r1 =>
  some [(r1.getD 0 D.nil), (r1.getD 1 D.nil)] := (fixP_eq (t := T_law13_Awake) (by rfl) _).trans (by kernel_rfl)
theorem E_law29_awake (x0 : D) : FX 4 [x0] =
  bindC (FX 5 [(D.int (2 : Int)), (D.int (0 : Int)), (D.int (1 : Int)), (D.int (1 : Int)), (D.int (1 : Int)), (D.int (0 : Int)), (D.int (0 : Int)), (D.int (0 : Int)), (D.int (0 : Int)), (D.int (0 : Int)), (D.int (3 : Int)), (D.int (9 : Int)), (D.int (4 : Int)), (D.int (0 : Int))]) 1 fun r1 =>
  if (scmpF .eql ((r1.getD 0 D.nil)).toStr ((ByteArray.mk #[52, 32, 102, 105, 108, 108, 32, 48, 32, 49, 32, 119, 105, 116, 104, 32, 49, 32, 49, 32, 111, 102, 32, 51, 32, 97, 116, 32, 57]))) = true then
  bindC (FX 9 [x0]) 2 fun r2 =>
    some [(r2.getD 0 D.nil), (r2.getD 1 D.nil)]
  else
  some [(D.bool false), x0] := (fixP_eq (t := T_law29_awake) (by rfl) _).trans (by kernel_rfl)
theorem E_law29_ReportEvents (x0 x1 x2 x3 x4 x5 x6 x7 x8 x9 x10 x11 x12 x13 : D) : FX 3 [x0, x1, x2, x3, x4, x5, x6, x7, x8, x9, x10, x11, x12, x13] =
  bindC (FX 4 [(D.agg [])]) 2 fun r14 =>
  if ((r14.getD 0 D.nil)).toBool = true then
  bindC (FX 5 [x0, x1, x2, x3, x4, x5, x6, x7, x8, x9, x10, x11, x12, x13]) 1 fun r16 =>
    bindC (FX 6 [x0, x1, x2, x3, x4, x5, x6, x7, x8, x9, x10, x11, x12, x13]) 1 fun r17 =>
    if (scmpF .eql ((r16.getD 0 D.nil)).toStr ((r17.getD 0 D.nil)).toStr) = true then
    bindC (FX 7 [x5, x6, x7, x8, x9]) 1 fun r18 =>
      bindC (FX 8 [x5, x6, x7, x8, x9]) 1 fun r19 =>
      some [(D.bool (scmpF .eql ((r18.getD 0 D.nil)).toStr ((r19.getD 0 D.nil)).toStr))]
    else
    some [(D.bool false)]
  else
  some [(D.bool false)] := (fixP_eq (t := T_law29_ReportEvents) (by rfl) _).trans (by kernel_rfl)
end Go.Proofs.YtilkbgdfndifgaaGreatDoor
