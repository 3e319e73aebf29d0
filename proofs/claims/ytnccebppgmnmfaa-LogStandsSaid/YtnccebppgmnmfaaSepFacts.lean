/- Closed facts of the loaded program: sizes, noughts, places of fields, that calls enter. Written by a program of this project. -/
import Derived.Test.YtnccebppgmnmfaaSepH
import Derived.Test.YtnccebppgmnmfaaProg
set_option maxRecDepth 100000
namespace Go.Proofs.YtnccebppgmnmfaaS
open Go.RowKit Go.Proofs
theorem follows_mixed : Try.prog.follows .mixedOrders = true := by kernel_rfl
theorem sz_1 : szf Try.prog 1 = some 1 := by kernel_rfl
theorem ag_1 : agf Try.prog 1 = some false := by kernel_rfl
theorem zr_1 : zrf Try.prog 1 = some (.nilFunc) := by kernel_rfl
theorem tf_1 : TF Try.prog 1 1 8 (.nilFunc) := ⟨sz_1, by kernel_rfl, zr_1, by kernel_rfl, by decide⟩
theorem co_1 : Try.prog.concrete 1 = true := by kernel_rfl
theorem sz_2 : szf Try.prog 2 = some 1 := by kernel_rfl
theorem ag_2 : agf Try.prog 2 = some false := by kernel_rfl
theorem zr_2 : zrf Try.prog 2 = some (.int .i64 0) := by kernel_rfl
theorem tf_2 : TF Try.prog 2 1 8 (.int .i64 0) := ⟨sz_2, by kernel_rfl, zr_2, by kernel_rfl, by decide⟩
theorem co_2 : Try.prog.concrete 2 = true := by kernel_rfl
theorem sz_3 : szf Try.prog 3 = some 1 := by kernel_rfl
theorem ag_3 : agf Try.prog 3 = some false := by kernel_rfl
theorem zr_3 : zrf Try.prog 3 = some (.int .i64 0) := by kernel_rfl
theorem tf_3 : TF Try.prog 3 1 8 (.int .i64 0) := ⟨sz_3, by kernel_rfl, zr_3, by kernel_rfl, by decide⟩
theorem co_3 : Try.prog.concrete 3 = true := by kernel_rfl
theorem sz_4 : szf Try.prog 4 = some 1 := by kernel_rfl
theorem ag_4 : agf Try.prog 4 = some false := by kernel_rfl
theorem zr_4 : zrf Try.prog 4 = some (.bool false) := by kernel_rfl
theorem tf_4 : TF Try.prog 4 1 1 (.bool false) := ⟨sz_4, by kernel_rfl, zr_4, by kernel_rfl, by decide⟩
theorem co_4 : Try.prog.concrete 4 = true := by kernel_rfl
theorem sz_5 : szf Try.prog 5 = some 1 := by kernel_rfl
theorem ag_5 : agf Try.prog 5 = some false := by kernel_rfl
theorem zr_5 : zrf Try.prog 5 = some (.int .u8 0) := by kernel_rfl
theorem tf_5 : TF Try.prog 5 1 1 (.int .u8 0) := ⟨sz_5, by kernel_rfl, zr_5, by kernel_rfl, by decide⟩
theorem co_5 : Try.prog.concrete 5 = true := by kernel_rfl
theorem sz_6 : szf Try.prog 6 = some 1 := by kernel_rfl
theorem ag_6 : agf Try.prog 6 = some false := by kernel_rfl
theorem zr_6 : zrf Try.prog 6 = some (.int .u8 0) := by kernel_rfl
theorem tf_6 : TF Try.prog 6 1 1 (.int .u8 0) := ⟨sz_6, by kernel_rfl, zr_6, by kernel_rfl, by decide⟩
theorem co_6 : Try.prog.concrete 6 = true := by kernel_rfl
theorem sz_7 : szf Try.prog 7 = some 4 := by kernel_rfl
theorem ag_7 : agf Try.prog 7 = some true := by kernel_rfl
theorem zr_7 : zrf Try.prog 7 = some (.agg #[.int .i64 0, .int .i64 0, .bool false, .int .u8 0]) := by kernel_rfl
theorem tf_7 : TF Try.prog 7 4 24 (.agg #[.int .i64 0, .int .i64 0, .bool false, .int .u8 0]) := ⟨sz_7, by kernel_rfl, zr_7, by kernel_rfl, by decide⟩
theorem fo_7_0 : fof Try.prog 7 0 = some 0 := by kernel_rfl
theorem fv_7_0 : fvf Try.prog 7 0 = some (0, false, 1) := by kernel_rfl
theorem fo_7_1 : fof Try.prog 7 1 = some 1 := by kernel_rfl
theorem fv_7_1 : fvf Try.prog 7 1 = some (1, false, 1) := by kernel_rfl
theorem fo_7_2 : fof Try.prog 7 2 = some 2 := by kernel_rfl
theorem fv_7_2 : fvf Try.prog 7 2 = some (2, false, 1) := by kernel_rfl
theorem fo_7_3 : fof Try.prog 7 3 = some 3 := by kernel_rfl
theorem fv_7_3 : fvf Try.prog 7 3 = some (3, false, 1) := by kernel_rfl
theorem pl_7 : plc Try.prog 7 = some [(0, 1), (1, 1), (2, 1), (3, 1)] := by kernel_rfl
theorem co_7 : Try.prog.concrete 7 = true := by kernel_rfl
theorem sz_8 : szf Try.prog 8 = some 4 := by kernel_rfl
theorem ag_8 : agf Try.prog 8 = some true := by kernel_rfl
theorem zr_8 : zrf Try.prog 8 = some (.agg #[.int .i64 0, .int .i64 0, .bool false, .int .u8 0]) := by kernel_rfl
theorem tf_8 : TF Try.prog 8 4 24 (.agg #[.int .i64 0, .int .i64 0, .bool false, .int .u8 0]) := ⟨sz_8, by kernel_rfl, zr_8, by kernel_rfl, by decide⟩
theorem fo_8_0 : fof Try.prog 8 0 = some 0 := by kernel_rfl
theorem fv_8_0 : fvf Try.prog 8 0 = some (0, false, 1) := by kernel_rfl
theorem fo_8_1 : fof Try.prog 8 1 = some 1 := by kernel_rfl
theorem fv_8_1 : fvf Try.prog 8 1 = some (1, false, 1) := by kernel_rfl
theorem fo_8_2 : fof Try.prog 8 2 = some 2 := by kernel_rfl
theorem fv_8_2 : fvf Try.prog 8 2 = some (2, false, 1) := by kernel_rfl
theorem fo_8_3 : fof Try.prog 8 3 = some 3 := by kernel_rfl
theorem fv_8_3 : fvf Try.prog 8 3 = some (3, false, 1) := by kernel_rfl
theorem pl_8 : plc Try.prog 8 = some [(0, 1), (1, 1), (2, 1), (3, 1)] := by kernel_rfl
theorem co_8 : Try.prog.concrete 8 = true := by kernel_rfl
theorem sz_9 : szf Try.prog 9 = some 1 := by kernel_rfl
theorem ag_9 : agf Try.prog 9 = some false := by kernel_rfl
theorem zr_9 : zrf Try.prog 9 = some (.string ⟨#[]⟩) := by kernel_rfl
theorem tf_9 : TF Try.prog 9 1 16 (.string ⟨#[]⟩) := ⟨sz_9, by kernel_rfl, zr_9, by kernel_rfl, by decide⟩
theorem co_9 : Try.prog.concrete 9 = true := by kernel_rfl
theorem sz_10 : szf Try.prog 10 = some 1 := by kernel_rfl
theorem ag_10 : agf Try.prog 10 = some false := by kernel_rfl
theorem zr_10 : zrf Try.prog 10 = some (.string ⟨#[]⟩) := by kernel_rfl
theorem tf_10 : TF Try.prog 10 1 16 (.string ⟨#[]⟩) := ⟨sz_10, by kernel_rfl, zr_10, by kernel_rfl, by decide⟩
theorem co_10 : Try.prog.concrete 10 = true := by kernel_rfl
theorem sz_11 : szf Try.prog 11 = some 1 := by kernel_rfl
theorem ag_11 : agf Try.prog 11 = some false := by kernel_rfl
theorem zr_11 : zrf Try.prog 11 = some (.string ⟨#[]⟩) := by kernel_rfl
theorem tf_11 : TF Try.prog 11 1 16 (.string ⟨#[]⟩) := ⟨sz_11, by kernel_rfl, zr_11, by kernel_rfl, by decide⟩
theorem co_11 : Try.prog.concrete 11 = true := by kernel_rfl
theorem sz_12 : szf Try.prog 12 = some 1 := by kernel_rfl
theorem ag_12 : agf Try.prog 12 = some false := by kernel_rfl
theorem zr_12 : zrf Try.prog 12 = some (.int .u64 0) := by kernel_rfl
theorem tf_12 : TF Try.prog 12 1 8 (.int .u64 0) := ⟨sz_12, by kernel_rfl, zr_12, by kernel_rfl, by decide⟩
theorem co_12 : Try.prog.concrete 12 = true := by kernel_rfl
theorem sz_13 : szf Try.prog 13 = some 2 := by kernel_rfl
theorem ag_13 : agf Try.prog 13 = some true := by kernel_rfl
theorem zr_13 : zrf Try.prog 13 = some (.agg #[.string ⟨#[]⟩, .int .u64 0]) := by kernel_rfl
theorem tf_13 : TF Try.prog 13 2 24 (.agg #[.string ⟨#[]⟩, .int .u64 0]) := ⟨sz_13, by kernel_rfl, zr_13, by kernel_rfl, by decide⟩
theorem fo_13_0 : fof Try.prog 13 0 = some 0 := by kernel_rfl
theorem fv_13_0 : fvf Try.prog 13 0 = some (0, false, 1) := by kernel_rfl
theorem fo_13_1 : fof Try.prog 13 1 = some 1 := by kernel_rfl
theorem fv_13_1 : fvf Try.prog 13 1 = some (1, false, 1) := by kernel_rfl
theorem pl_13 : plc Try.prog 13 = some [(0, 1), (1, 1)] := by kernel_rfl
theorem co_13 : Try.prog.concrete 13 = true := by kernel_rfl
theorem sz_14 : szf Try.prog 14 = some 2 := by kernel_rfl
theorem ag_14 : agf Try.prog 14 = some true := by kernel_rfl
theorem zr_14 : zrf Try.prog 14 = some (.agg #[.string ⟨#[]⟩, .int .u64 0]) := by kernel_rfl
theorem tf_14 : TF Try.prog 14 2 24 (.agg #[.string ⟨#[]⟩, .int .u64 0]) := ⟨sz_14, by kernel_rfl, zr_14, by kernel_rfl, by decide⟩
theorem fo_14_0 : fof Try.prog 14 0 = some 0 := by kernel_rfl
theorem fv_14_0 : fvf Try.prog 14 0 = some (0, false, 1) := by kernel_rfl
theorem fo_14_1 : fof Try.prog 14 1 = some 1 := by kernel_rfl
theorem fv_14_1 : fvf Try.prog 14 1 = some (1, false, 1) := by kernel_rfl
theorem pl_14 : plc Try.prog 14 = some [(0, 1), (1, 1)] := by kernel_rfl
theorem co_14 : Try.prog.concrete 14 = true := by kernel_rfl
theorem sz_15 : szf Try.prog 15 = some 1 := by kernel_rfl
theorem ag_15 : agf Try.prog 15 = some false := by kernel_rfl
theorem zr_15 : zrf Try.prog 15 = some (.pointer none) := by kernel_rfl
theorem tf_15 : TF Try.prog 15 1 8 (.pointer none) := ⟨sz_15, by kernel_rfl, zr_15, by kernel_rfl, by decide⟩
theorem co_15 : Try.prog.concrete 15 = true := by kernel_rfl
theorem sz_16 : szf Try.prog 16 = some 1 := by kernel_rfl
theorem ag_16 : agf Try.prog 16 = some false := by kernel_rfl
theorem zr_16 : zrf Try.prog 16 = some (.pointer none) := by kernel_rfl
theorem tf_16 : TF Try.prog 16 1 8 (.pointer none) := ⟨sz_16, by kernel_rfl, zr_16, by kernel_rfl, by decide⟩
theorem co_16 : Try.prog.concrete 16 = true := by kernel_rfl
theorem sz_17 : szf Try.prog 17 = some 1 := by kernel_rfl
theorem ag_17 : agf Try.prog 17 = some false := by kernel_rfl
theorem zr_17 : zrf Try.prog 17 = some (.pointer none) := by kernel_rfl
theorem tf_17 : TF Try.prog 17 1 8 (.pointer none) := ⟨sz_17, by kernel_rfl, zr_17, by kernel_rfl, by decide⟩
theorem co_17 : Try.prog.concrete 17 = true := by kernel_rfl
theorem sz_18 : szf Try.prog 18 = some 1 := by kernel_rfl
theorem ag_18 : agf Try.prog 18 = some true := by kernel_rfl
theorem zr_18 : zrf Try.prog 18 = some (.agg #[.pointer none]) := by kernel_rfl
theorem tf_18 : TF Try.prog 18 1 8 (.agg #[.pointer none]) := ⟨sz_18, by kernel_rfl, zr_18, by kernel_rfl, by decide⟩
theorem fo_18_0 : fof Try.prog 18 0 = some 0 := by kernel_rfl
theorem fv_18_0 : fvf Try.prog 18 0 = some (0, false, 1) := by kernel_rfl
theorem pl_18 : plc Try.prog 18 = some [(0, 1)] := by kernel_rfl
theorem co_18 : Try.prog.concrete 18 = true := by kernel_rfl
theorem sz_19 : szf Try.prog 19 = some 1 := by kernel_rfl
theorem ag_19 : agf Try.prog 19 = some true := by kernel_rfl
theorem zr_19 : zrf Try.prog 19 = some (.agg #[.pointer none]) := by kernel_rfl
theorem tf_19 : TF Try.prog 19 1 8 (.agg #[.pointer none]) := ⟨sz_19, by kernel_rfl, zr_19, by kernel_rfl, by decide⟩
theorem fo_19_0 : fof Try.prog 19 0 = some 0 := by kernel_rfl
theorem fv_19_0 : fvf Try.prog 19 0 = some (0, false, 1) := by kernel_rfl
theorem pl_19 : plc Try.prog 19 = some [(0, 1)] := by kernel_rfl
theorem co_19 : Try.prog.concrete 19 = true := by kernel_rfl
theorem sz_20 : szf Try.prog 20 = some 1 := by kernel_rfl
theorem ag_20 : agf Try.prog 20 = some false := by kernel_rfl
theorem zr_20 : zrf Try.prog 20 = some (.nilIface) := by kernel_rfl
theorem tf_20 : TF Try.prog 20 1 16 (.nilIface) := ⟨sz_20, by kernel_rfl, zr_20, by kernel_rfl, by decide⟩
theorem sz_21 : szf Try.prog 21 = some 1 := by kernel_rfl
theorem ag_21 : agf Try.prog 21 = some false := by kernel_rfl
theorem zr_21 : zrf Try.prog 21 = some (.int .i32 0) := by kernel_rfl
theorem tf_21 : TF Try.prog 21 1 4 (.int .i32 0) := ⟨sz_21, by kernel_rfl, zr_21, by kernel_rfl, by decide⟩
theorem co_21 : Try.prog.concrete 21 = true := by kernel_rfl
theorem sz_22 : szf Try.prog 22 = some 3 := by kernel_rfl
theorem ag_22 : agf Try.prog 22 = some true := by kernel_rfl
theorem zr_22 : zrf Try.prog 22 = some (.agg #[.int .i64 0, .int .i64 0, .int .i64 0]) := by kernel_rfl
theorem tf_22 : TF Try.prog 22 3 24 (.agg #[.int .i64 0, .int .i64 0, .int .i64 0]) := ⟨sz_22, by kernel_rfl, zr_22, by kernel_rfl, by decide⟩
theorem fo_22_0 : fof Try.prog 22 0 = some 0 := by kernel_rfl
theorem fv_22_0 : fvf Try.prog 22 0 = some (0, false, 1) := by kernel_rfl
theorem fo_22_1 : fof Try.prog 22 1 = some 1 := by kernel_rfl
theorem fv_22_1 : fvf Try.prog 22 1 = some (1, false, 1) := by kernel_rfl
theorem fo_22_2 : fof Try.prog 22 2 = some 2 := by kernel_rfl
theorem fv_22_2 : fvf Try.prog 22 2 = some (2, false, 1) := by kernel_rfl
theorem pl_22 : plc Try.prog 22 = some [(0, 1), (1, 1), (2, 1)] := by kernel_rfl
theorem co_22 : Try.prog.concrete 22 = true := by kernel_rfl
theorem sz_23 : szf Try.prog 23 = some 3 := by kernel_rfl
theorem ag_23 : agf Try.prog 23 = some true := by kernel_rfl
theorem zr_23 : zrf Try.prog 23 = some (.agg #[.int .i64 0, .int .i64 0, .int .i64 0]) := by kernel_rfl
theorem tf_23 : TF Try.prog 23 3 24 (.agg #[.int .i64 0, .int .i64 0, .int .i64 0]) := ⟨sz_23, by kernel_rfl, zr_23, by kernel_rfl, by decide⟩
theorem fo_23_0 : fof Try.prog 23 0 = some 0 := by kernel_rfl
theorem fv_23_0 : fvf Try.prog 23 0 = some (0, false, 1) := by kernel_rfl
theorem fo_23_1 : fof Try.prog 23 1 = some 1 := by kernel_rfl
theorem fv_23_1 : fvf Try.prog 23 1 = some (1, false, 1) := by kernel_rfl
theorem fo_23_2 : fof Try.prog 23 2 = some 2 := by kernel_rfl
theorem fv_23_2 : fvf Try.prog 23 2 = some (2, false, 1) := by kernel_rfl
theorem pl_23 : plc Try.prog 23 = some [(0, 1), (1, 1), (2, 1)] := by kernel_rfl
theorem co_23 : Try.prog.concrete 23 = true := by kernel_rfl
theorem sz_24 : szf Try.prog 24 = some 1 := by kernel_rfl
theorem ag_24 : agf Try.prog 24 = some false := by kernel_rfl
theorem zr_24 : zrf Try.prog 24 = some (.int .u64 0) := by kernel_rfl
theorem tf_24 : TF Try.prog 24 1 8 (.int .u64 0) := ⟨sz_24, by kernel_rfl, zr_24, by kernel_rfl, by decide⟩
theorem co_24 : Try.prog.concrete 24 = true := by kernel_rfl
theorem sz_25 : szf Try.prog 25 = some 3 := by kernel_rfl
theorem ag_25 : agf Try.prog 25 = some true := by kernel_rfl
theorem zr_25 : zrf Try.prog 25 = some (.agg #[.int .u64 0, .bool false, .string ⟨#[]⟩]) := by kernel_rfl
theorem tf_25 : TF Try.prog 25 3 32 (.agg #[.int .u64 0, .bool false, .string ⟨#[]⟩]) := ⟨sz_25, by kernel_rfl, zr_25, by kernel_rfl, by decide⟩
theorem fo_25_0 : fof Try.prog 25 0 = some 0 := by kernel_rfl
theorem fv_25_0 : fvf Try.prog 25 0 = some (0, false, 1) := by kernel_rfl
theorem fo_25_1 : fof Try.prog 25 1 = some 1 := by kernel_rfl
theorem fv_25_1 : fvf Try.prog 25 1 = some (1, false, 1) := by kernel_rfl
theorem fo_25_2 : fof Try.prog 25 2 = some 2 := by kernel_rfl
theorem fv_25_2 : fvf Try.prog 25 2 = some (2, false, 1) := by kernel_rfl
theorem pl_25 : plc Try.prog 25 = some [(0, 1), (1, 1), (2, 1)] := by kernel_rfl
theorem co_25 : Try.prog.concrete 25 = true := by kernel_rfl
theorem sz_26 : szf Try.prog 26 = some 3 := by kernel_rfl
theorem ag_26 : agf Try.prog 26 = some true := by kernel_rfl
theorem zr_26 : zrf Try.prog 26 = some (.agg #[.int .u64 0, .bool false, .string ⟨#[]⟩]) := by kernel_rfl
theorem tf_26 : TF Try.prog 26 3 32 (.agg #[.int .u64 0, .bool false, .string ⟨#[]⟩]) := ⟨sz_26, by kernel_rfl, zr_26, by kernel_rfl, by decide⟩
theorem fo_26_0 : fof Try.prog 26 0 = some 0 := by kernel_rfl
theorem fv_26_0 : fvf Try.prog 26 0 = some (0, false, 1) := by kernel_rfl
theorem fo_26_1 : fof Try.prog 26 1 = some 1 := by kernel_rfl
theorem fv_26_1 : fvf Try.prog 26 1 = some (1, false, 1) := by kernel_rfl
theorem fo_26_2 : fof Try.prog 26 2 = some 2 := by kernel_rfl
theorem fv_26_2 : fvf Try.prog 26 2 = some (2, false, 1) := by kernel_rfl
theorem pl_26 : plc Try.prog 26 = some [(0, 1), (1, 1), (2, 1)] := by kernel_rfl
theorem co_26 : Try.prog.concrete 26 = true := by kernel_rfl
theorem sz_27 : szf Try.prog 27 = some 1 := by kernel_rfl
theorem ag_27 : agf Try.prog 27 = some false := by kernel_rfl
theorem zr_27 : zrf Try.prog 27 = some (.slice none 0 0) := by kernel_rfl
theorem tf_27 : TF Try.prog 27 1 24 (.slice none 0 0) := ⟨sz_27, by kernel_rfl, zr_27, by kernel_rfl, by decide⟩
theorem co_27 : Try.prog.concrete 27 = true := by kernel_rfl
theorem sz_28 : szf Try.prog 28 = some 17 := by kernel_rfl
theorem ag_28 : agf Try.prog 28 = some true := by kernel_rfl
theorem zr_28 : zrf Try.prog 28 = some (.agg #[.int .i64 0, .int .i64 0, .int .i64 0, .int .i64 0, .int .i64 0, .int .i64 0, .int .u64 0, .int .u64 0, .string ⟨#[]⟩, .bool false, .int .u64 0, .bool false, .string ⟨#[]⟩, .slice none 0 0, .string ⟨#[]⟩, .int .u64 0, .int .u64 0]) := by kernel_rfl
theorem tf_28 : TF Try.prog 28 17 176 (.agg #[.int .i64 0, .int .i64 0, .int .i64 0, .int .i64 0, .int .i64 0, .int .i64 0, .int .u64 0, .int .u64 0, .string ⟨#[]⟩, .bool false, .int .u64 0, .bool false, .string ⟨#[]⟩, .slice none 0 0, .string ⟨#[]⟩, .int .u64 0, .int .u64 0]) := ⟨sz_28, by kernel_rfl, zr_28, by kernel_rfl, by decide⟩
theorem fo_28_0 : fof Try.prog 28 0 = some 0 := by kernel_rfl
theorem fv_28_0 : fvf Try.prog 28 0 = some (0, false, 1) := by kernel_rfl
theorem fo_28_1 : fof Try.prog 28 1 = some 1 := by kernel_rfl
theorem fv_28_1 : fvf Try.prog 28 1 = some (1, false, 1) := by kernel_rfl
theorem fo_28_2 : fof Try.prog 28 2 = some 2 := by kernel_rfl
theorem fv_28_2 : fvf Try.prog 28 2 = some (2, false, 1) := by kernel_rfl
theorem fo_28_3 : fof Try.prog 28 3 = some 3 := by kernel_rfl
theorem fv_28_3 : fvf Try.prog 28 3 = some (3, true, 3) := by kernel_rfl
theorem fo_28_4 : fof Try.prog 28 4 = some 6 := by kernel_rfl
theorem fv_28_4 : fvf Try.prog 28 4 = some (6, false, 1) := by kernel_rfl
theorem fo_28_5 : fof Try.prog 28 5 = some 7 := by kernel_rfl
theorem fv_28_5 : fvf Try.prog 28 5 = some (7, false, 1) := by kernel_rfl
theorem fo_28_6 : fof Try.prog 28 6 = some 8 := by kernel_rfl
theorem fv_28_6 : fvf Try.prog 28 6 = some (8, false, 1) := by kernel_rfl
theorem fo_28_7 : fof Try.prog 28 7 = some 9 := by kernel_rfl
theorem fv_28_7 : fvf Try.prog 28 7 = some (9, false, 1) := by kernel_rfl
theorem fo_28_8 : fof Try.prog 28 8 = some 10 := by kernel_rfl
theorem fv_28_8 : fvf Try.prog 28 8 = some (10, true, 3) := by kernel_rfl
theorem fo_28_9 : fof Try.prog 28 9 = some 13 := by kernel_rfl
theorem fv_28_9 : fvf Try.prog 28 9 = some (13, false, 1) := by kernel_rfl
theorem fo_28_10 : fof Try.prog 28 10 = some 14 := by kernel_rfl
theorem fv_28_10 : fvf Try.prog 28 10 = some (14, false, 1) := by kernel_rfl
theorem fo_28_11 : fof Try.prog 28 11 = some 15 := by kernel_rfl
theorem fv_28_11 : fvf Try.prog 28 11 = some (15, false, 1) := by kernel_rfl
theorem fo_28_12 : fof Try.prog 28 12 = some 16 := by kernel_rfl
theorem fv_28_12 : fvf Try.prog 28 12 = some (16, false, 1) := by kernel_rfl
theorem pl_28 : plc Try.prog 28 = some [(0, 1), (1, 1), (2, 1), (3, 3), (6, 1), (7, 1), (8, 1), (9, 1), (10, 3), (13, 1), (14, 1), (15, 1), (16, 1)] := by kernel_rfl
theorem co_28 : Try.prog.concrete 28 = true := by kernel_rfl
theorem sz_29 : szf Try.prog 29 = some 17 := by kernel_rfl
theorem ag_29 : agf Try.prog 29 = some true := by kernel_rfl
theorem zr_29 : zrf Try.prog 29 = some (.agg #[.int .i64 0, .int .i64 0, .int .i64 0, .int .i64 0, .int .i64 0, .int .i64 0, .int .u64 0, .int .u64 0, .string ⟨#[]⟩, .bool false, .int .u64 0, .bool false, .string ⟨#[]⟩, .slice none 0 0, .string ⟨#[]⟩, .int .u64 0, .int .u64 0]) := by kernel_rfl
theorem tf_29 : TF Try.prog 29 17 176 (.agg #[.int .i64 0, .int .i64 0, .int .i64 0, .int .i64 0, .int .i64 0, .int .i64 0, .int .u64 0, .int .u64 0, .string ⟨#[]⟩, .bool false, .int .u64 0, .bool false, .string ⟨#[]⟩, .slice none 0 0, .string ⟨#[]⟩, .int .u64 0, .int .u64 0]) := ⟨sz_29, by kernel_rfl, zr_29, by kernel_rfl, by decide⟩
theorem fo_29_0 : fof Try.prog 29 0 = some 0 := by kernel_rfl
theorem fv_29_0 : fvf Try.prog 29 0 = some (0, false, 1) := by kernel_rfl
theorem fo_29_1 : fof Try.prog 29 1 = some 1 := by kernel_rfl
theorem fv_29_1 : fvf Try.prog 29 1 = some (1, false, 1) := by kernel_rfl
theorem fo_29_2 : fof Try.prog 29 2 = some 2 := by kernel_rfl
theorem fv_29_2 : fvf Try.prog 29 2 = some (2, false, 1) := by kernel_rfl
theorem fo_29_3 : fof Try.prog 29 3 = some 3 := by kernel_rfl
theorem fv_29_3 : fvf Try.prog 29 3 = some (3, true, 3) := by kernel_rfl
theorem fo_29_4 : fof Try.prog 29 4 = some 6 := by kernel_rfl
theorem fv_29_4 : fvf Try.prog 29 4 = some (6, false, 1) := by kernel_rfl
theorem fo_29_5 : fof Try.prog 29 5 = some 7 := by kernel_rfl
theorem fv_29_5 : fvf Try.prog 29 5 = some (7, false, 1) := by kernel_rfl
theorem fo_29_6 : fof Try.prog 29 6 = some 8 := by kernel_rfl
theorem fv_29_6 : fvf Try.prog 29 6 = some (8, false, 1) := by kernel_rfl
theorem fo_29_7 : fof Try.prog 29 7 = some 9 := by kernel_rfl
theorem fv_29_7 : fvf Try.prog 29 7 = some (9, false, 1) := by kernel_rfl
theorem fo_29_8 : fof Try.prog 29 8 = some 10 := by kernel_rfl
theorem fv_29_8 : fvf Try.prog 29 8 = some (10, true, 3) := by kernel_rfl
theorem fo_29_9 : fof Try.prog 29 9 = some 13 := by kernel_rfl
theorem fv_29_9 : fvf Try.prog 29 9 = some (13, false, 1) := by kernel_rfl
theorem fo_29_10 : fof Try.prog 29 10 = some 14 := by kernel_rfl
theorem fv_29_10 : fvf Try.prog 29 10 = some (14, false, 1) := by kernel_rfl
theorem fo_29_11 : fof Try.prog 29 11 = some 15 := by kernel_rfl
theorem fv_29_11 : fvf Try.prog 29 11 = some (15, false, 1) := by kernel_rfl
theorem fo_29_12 : fof Try.prog 29 12 = some 16 := by kernel_rfl
theorem fv_29_12 : fvf Try.prog 29 12 = some (16, false, 1) := by kernel_rfl
theorem pl_29 : plc Try.prog 29 = some [(0, 1), (1, 1), (2, 1), (3, 3), (6, 1), (7, 1), (8, 1), (9, 1), (10, 3), (13, 1), (14, 1), (15, 1), (16, 1)] := by kernel_rfl
theorem co_29 : Try.prog.concrete 29 = true := by kernel_rfl
theorem sz_30 : szf Try.prog 30 = some 1 := by kernel_rfl
theorem ag_30 : agf Try.prog 30 = some false := by kernel_rfl
theorem zr_30 : zrf Try.prog 30 = some (.int .u16 0) := by kernel_rfl
theorem tf_30 : TF Try.prog 30 1 2 (.int .u16 0) := ⟨sz_30, by kernel_rfl, zr_30, by kernel_rfl, by decide⟩
theorem co_30 : Try.prog.concrete 30 = true := by kernel_rfl
theorem sz_31 : szf Try.prog 31 = some 1 := by kernel_rfl
theorem ag_31 : agf Try.prog 31 = some false := by kernel_rfl
theorem zr_31 : zrf Try.prog 31 = some (.nilFunc) := by kernel_rfl
theorem tf_31 : TF Try.prog 31 1 8 (.nilFunc) := ⟨sz_31, by kernel_rfl, zr_31, by kernel_rfl, by decide⟩
theorem co_31 : Try.prog.concrete 31 = true := by kernel_rfl
theorem sz_32 : szf Try.prog 32 = some 1 := by kernel_rfl
theorem ag_32 : agf Try.prog 32 = some false := by kernel_rfl
theorem zr_32 : zrf Try.prog 32 = some (.nilFunc) := by kernel_rfl
theorem tf_32 : TF Try.prog 32 1 8 (.nilFunc) := ⟨sz_32, by kernel_rfl, zr_32, by kernel_rfl, by decide⟩
theorem co_32 : Try.prog.concrete 32 = true := by kernel_rfl
theorem sz_33 : szf Try.prog 33 = some 1 := by kernel_rfl
theorem ag_33 : agf Try.prog 33 = some false := by kernel_rfl
theorem zr_33 : zrf Try.prog 33 = some (.int .i64 0) := by kernel_rfl
theorem tf_33 : TF Try.prog 33 1 8 (.int .i64 0) := ⟨sz_33, by kernel_rfl, zr_33, by kernel_rfl, by decide⟩
theorem co_33 : Try.prog.concrete 33 = true := by kernel_rfl
theorem sz_35 : szf Try.prog 35 = some 1 := by kernel_rfl
theorem ag_35 : agf Try.prog 35 = some false := by kernel_rfl
theorem zr_35 : zrf Try.prog 35 = some (.nilFunc) := by kernel_rfl
theorem tf_35 : TF Try.prog 35 1 8 (.nilFunc) := ⟨sz_35, by kernel_rfl, zr_35, by kernel_rfl, by decide⟩
theorem co_35 : Try.prog.concrete 35 = true := by kernel_rfl
theorem sz_36 : szf Try.prog 36 = some 1 := by kernel_rfl
theorem ag_36 : agf Try.prog 36 = some false := by kernel_rfl
theorem zr_36 : zrf Try.prog 36 = some (.slice none 0 0) := by kernel_rfl
theorem tf_36 : TF Try.prog 36 1 24 (.slice none 0 0) := ⟨sz_36, by kernel_rfl, zr_36, by kernel_rfl, by decide⟩
theorem co_36 : Try.prog.concrete 36 = true := by kernel_rfl
theorem sz_38 : szf Try.prog 38 = some 1 := by kernel_rfl
theorem ag_38 : agf Try.prog 38 = some false := by kernel_rfl
theorem zr_38 : zrf Try.prog 38 = some (.nilFunc) := by kernel_rfl
theorem tf_38 : TF Try.prog 38 1 8 (.nilFunc) := ⟨sz_38, by kernel_rfl, zr_38, by kernel_rfl, by decide⟩
theorem co_38 : Try.prog.concrete 38 = true := by kernel_rfl
theorem sz_39 : szf Try.prog 39 = some 1 := by kernel_rfl
theorem ag_39 : agf Try.prog 39 = some false := by kernel_rfl
theorem zr_39 : zrf Try.prog 39 = some (.nilFunc) := by kernel_rfl
theorem tf_39 : TF Try.prog 39 1 8 (.nilFunc) := ⟨sz_39, by kernel_rfl, zr_39, by kernel_rfl, by decide⟩
theorem co_39 : Try.prog.concrete 39 = true := by kernel_rfl
theorem sz_40 : szf Try.prog 40 = some 1 := by kernel_rfl
theorem ag_40 : agf Try.prog 40 = some false := by kernel_rfl
theorem zr_40 : zrf Try.prog 40 = some (.slice none 0 0) := by kernel_rfl
theorem tf_40 : TF Try.prog 40 1 24 (.slice none 0 0) := ⟨sz_40, by kernel_rfl, zr_40, by kernel_rfl, by decide⟩
theorem co_40 : Try.prog.concrete 40 = true := by kernel_rfl
theorem sz_41 : szf Try.prog 41 = some 1 := by kernel_rfl
theorem ag_41 : agf Try.prog 41 = some false := by kernel_rfl
theorem zr_41 : zrf Try.prog 41 = some (.nilFunc) := by kernel_rfl
theorem tf_41 : TF Try.prog 41 1 8 (.nilFunc) := ⟨sz_41, by kernel_rfl, zr_41, by kernel_rfl, by decide⟩
theorem co_41 : Try.prog.concrete 41 = true := by kernel_rfl
theorem sz_42 : szf Try.prog 42 = some 1 := by kernel_rfl
theorem ag_42 : agf Try.prog 42 = some false := by kernel_rfl
theorem zr_42 : zrf Try.prog 42 = some (.pointer none) := by kernel_rfl
theorem tf_42 : TF Try.prog 42 1 8 (.pointer none) := ⟨sz_42, by kernel_rfl, zr_42, by kernel_rfl, by decide⟩
theorem co_42 : Try.prog.concrete 42 = true := by kernel_rfl
theorem sz_43 : szf Try.prog 43 = some 1 := by kernel_rfl
theorem ag_43 : agf Try.prog 43 = some false := by kernel_rfl
theorem zr_43 : zrf Try.prog 43 = some (.nilFunc) := by kernel_rfl
theorem tf_43 : TF Try.prog 43 1 8 (.nilFunc) := ⟨sz_43, by kernel_rfl, zr_43, by kernel_rfl, by decide⟩
theorem co_43 : Try.prog.concrete 43 = true := by kernel_rfl
theorem sz_44 : szf Try.prog 44 = some 1 := by kernel_rfl
theorem ag_44 : agf Try.prog 44 = some false := by kernel_rfl
theorem zr_44 : zrf Try.prog 44 = some (.pointer none) := by kernel_rfl
theorem tf_44 : TF Try.prog 44 1 8 (.pointer none) := ⟨sz_44, by kernel_rfl, zr_44, by kernel_rfl, by decide⟩
theorem co_44 : Try.prog.concrete 44 = true := by kernel_rfl
theorem sz_45 : szf Try.prog 45 = some 1 := by kernel_rfl
theorem ag_45 : agf Try.prog 45 = some false := by kernel_rfl
theorem zr_45 : zrf Try.prog 45 = some (.nilFunc) := by kernel_rfl
theorem tf_45 : TF Try.prog 45 1 8 (.nilFunc) := ⟨sz_45, by kernel_rfl, zr_45, by kernel_rfl, by decide⟩
theorem co_45 : Try.prog.concrete 45 = true := by kernel_rfl
theorem sz_46 : szf Try.prog 46 = some 1 := by kernel_rfl
theorem ag_46 : agf Try.prog 46 = some false := by kernel_rfl
theorem zr_46 : zrf Try.prog 46 = some (.map none) := by kernel_rfl
theorem tf_46 : TF Try.prog 46 1 8 (.map none) := ⟨sz_46, by kernel_rfl, zr_46, by kernel_rfl, by decide⟩
theorem co_46 : Try.prog.concrete 46 = true := by kernel_rfl
theorem sz_47 : szf Try.prog 47 = some 1 := by kernel_rfl
theorem ag_47 : agf Try.prog 47 = some false := by kernel_rfl
theorem zr_47 : zrf Try.prog 47 = some (.slice none 0 0) := by kernel_rfl
theorem tf_47 : TF Try.prog 47 1 24 (.slice none 0 0) := ⟨sz_47, by kernel_rfl, zr_47, by kernel_rfl, by decide⟩
theorem co_47 : Try.prog.concrete 47 = true := by kernel_rfl
theorem sz_48 : szf Try.prog 48 = some 7 := by kernel_rfl
theorem ag_48 : agf Try.prog 48 = some true := by kernel_rfl
theorem zr_48 : zrf Try.prog 48 = some (.agg #[.int .u8 0, .int .i64 0, .int .i64 0, .int .i64 0, .string ⟨#[]⟩, .int .u64 0, .slice none 0 0]) := by kernel_rfl
theorem tf_48 : TF Try.prog 48 7 80 (.agg #[.int .u8 0, .int .i64 0, .int .i64 0, .int .i64 0, .string ⟨#[]⟩, .int .u64 0, .slice none 0 0]) := ⟨sz_48, by kernel_rfl, zr_48, by kernel_rfl, by decide⟩
theorem fo_48_0 : fof Try.prog 48 0 = some 0 := by kernel_rfl
theorem fv_48_0 : fvf Try.prog 48 0 = some (0, false, 1) := by kernel_rfl
theorem fo_48_1 : fof Try.prog 48 1 = some 1 := by kernel_rfl
theorem fv_48_1 : fvf Try.prog 48 1 = some (1, true, 3) := by kernel_rfl
theorem fo_48_2 : fof Try.prog 48 2 = some 4 := by kernel_rfl
theorem fv_48_2 : fvf Try.prog 48 2 = some (4, false, 1) := by kernel_rfl
theorem fo_48_3 : fof Try.prog 48 3 = some 5 := by kernel_rfl
theorem fv_48_3 : fvf Try.prog 48 3 = some (5, false, 1) := by kernel_rfl
theorem fo_48_4 : fof Try.prog 48 4 = some 6 := by kernel_rfl
theorem fv_48_4 : fvf Try.prog 48 4 = some (6, false, 1) := by kernel_rfl
theorem pl_48 : plc Try.prog 48 = some [(0, 1), (1, 3), (4, 1), (5, 1), (6, 1)] := by kernel_rfl
theorem co_48 : Try.prog.concrete 48 = true := by kernel_rfl
theorem sz_49 : szf Try.prog 49 = some 7 := by kernel_rfl
theorem ag_49 : agf Try.prog 49 = some true := by kernel_rfl
theorem zr_49 : zrf Try.prog 49 = some (.agg #[.int .u8 0, .int .i64 0, .int .i64 0, .int .i64 0, .string ⟨#[]⟩, .int .u64 0, .slice none 0 0]) := by kernel_rfl
theorem tf_49 : TF Try.prog 49 7 80 (.agg #[.int .u8 0, .int .i64 0, .int .i64 0, .int .i64 0, .string ⟨#[]⟩, .int .u64 0, .slice none 0 0]) := ⟨sz_49, by kernel_rfl, zr_49, by kernel_rfl, by decide⟩
theorem fo_49_0 : fof Try.prog 49 0 = some 0 := by kernel_rfl
theorem fv_49_0 : fvf Try.prog 49 0 = some (0, false, 1) := by kernel_rfl
theorem fo_49_1 : fof Try.prog 49 1 = some 1 := by kernel_rfl
theorem fv_49_1 : fvf Try.prog 49 1 = some (1, true, 3) := by kernel_rfl
theorem fo_49_2 : fof Try.prog 49 2 = some 4 := by kernel_rfl
theorem fv_49_2 : fvf Try.prog 49 2 = some (4, false, 1) := by kernel_rfl
theorem fo_49_3 : fof Try.prog 49 3 = some 5 := by kernel_rfl
theorem fv_49_3 : fvf Try.prog 49 3 = some (5, false, 1) := by kernel_rfl
theorem fo_49_4 : fof Try.prog 49 4 = some 6 := by kernel_rfl
theorem fv_49_4 : fvf Try.prog 49 4 = some (6, false, 1) := by kernel_rfl
theorem pl_49 : plc Try.prog 49 = some [(0, 1), (1, 3), (4, 1), (5, 1), (6, 1)] := by kernel_rfl
theorem co_49 : Try.prog.concrete 49 = true := by kernel_rfl
theorem sz_50 : szf Try.prog 50 = some 1 := by kernel_rfl
theorem ag_50 : agf Try.prog 50 = some false := by kernel_rfl
theorem zr_50 : zrf Try.prog 50 = some (.nilFunc) := by kernel_rfl
theorem tf_50 : TF Try.prog 50 1 8 (.nilFunc) := ⟨sz_50, by kernel_rfl, zr_50, by kernel_rfl, by decide⟩
theorem co_50 : Try.prog.concrete 50 = true := by kernel_rfl
theorem sz_51 : szf Try.prog 51 = some 1 := by kernel_rfl
theorem ag_51 : agf Try.prog 51 = some false := by kernel_rfl
theorem zr_51 : zrf Try.prog 51 = some (.nilFunc) := by kernel_rfl
theorem tf_51 : TF Try.prog 51 1 8 (.nilFunc) := ⟨sz_51, by kernel_rfl, zr_51, by kernel_rfl, by decide⟩
theorem co_51 : Try.prog.concrete 51 = true := by kernel_rfl
theorem sz_52 : szf Try.prog 52 = some 3 := by kernel_rfl
theorem ag_52 : agf Try.prog 52 = some true := by kernel_rfl
theorem zr_52 : zrf Try.prog 52 = some (.agg #[.int .u64 0, .int .u64 0, .slice none 0 0]) := by kernel_rfl
theorem tf_52 : TF Try.prog 52 3 40 (.agg #[.int .u64 0, .int .u64 0, .slice none 0 0]) := ⟨sz_52, by kernel_rfl, zr_52, by kernel_rfl, by decide⟩
theorem fo_52_0 : fof Try.prog 52 0 = some 0 := by kernel_rfl
theorem fv_52_0 : fvf Try.prog 52 0 = some (0, false, 1) := by kernel_rfl
theorem fo_52_1 : fof Try.prog 52 1 = some 1 := by kernel_rfl
theorem fv_52_1 : fvf Try.prog 52 1 = some (1, false, 1) := by kernel_rfl
theorem fo_52_2 : fof Try.prog 52 2 = some 2 := by kernel_rfl
theorem fv_52_2 : fvf Try.prog 52 2 = some (2, false, 1) := by kernel_rfl
theorem pl_52 : plc Try.prog 52 = some [(0, 1), (1, 1), (2, 1)] := by kernel_rfl
theorem co_52 : Try.prog.concrete 52 = true := by kernel_rfl
theorem sz_53 : szf Try.prog 53 = some 3 := by kernel_rfl
theorem ag_53 : agf Try.prog 53 = some true := by kernel_rfl
theorem zr_53 : zrf Try.prog 53 = some (.agg #[.int .u64 0, .int .u64 0, .slice none 0 0]) := by kernel_rfl
theorem tf_53 : TF Try.prog 53 3 40 (.agg #[.int .u64 0, .int .u64 0, .slice none 0 0]) := ⟨sz_53, by kernel_rfl, zr_53, by kernel_rfl, by decide⟩
theorem fo_53_0 : fof Try.prog 53 0 = some 0 := by kernel_rfl
theorem fv_53_0 : fvf Try.prog 53 0 = some (0, false, 1) := by kernel_rfl
theorem fo_53_1 : fof Try.prog 53 1 = some 1 := by kernel_rfl
theorem fv_53_1 : fvf Try.prog 53 1 = some (1, false, 1) := by kernel_rfl
theorem fo_53_2 : fof Try.prog 53 2 = some 2 := by kernel_rfl
theorem fv_53_2 : fvf Try.prog 53 2 = some (2, false, 1) := by kernel_rfl
theorem pl_53 : plc Try.prog 53 = some [(0, 1), (1, 1), (2, 1)] := by kernel_rfl
theorem co_53 : Try.prog.concrete 53 = true := by kernel_rfl
theorem sz_54 : szf Try.prog 54 = some 1 := by kernel_rfl
theorem ag_54 : agf Try.prog 54 = some false := by kernel_rfl
theorem zr_54 : zrf Try.prog 54 = some (.nilFunc) := by kernel_rfl
theorem tf_54 : TF Try.prog 54 1 8 (.nilFunc) := ⟨sz_54, by kernel_rfl, zr_54, by kernel_rfl, by decide⟩
theorem co_54 : Try.prog.concrete 54 = true := by kernel_rfl
theorem sz_55 : szf Try.prog 55 = some 1 := by kernel_rfl
theorem ag_55 : agf Try.prog 55 = some false := by kernel_rfl
theorem zr_55 : zrf Try.prog 55 = some (.nilFunc) := by kernel_rfl
theorem tf_55 : TF Try.prog 55 1 8 (.nilFunc) := ⟨sz_55, by kernel_rfl, zr_55, by kernel_rfl, by decide⟩
theorem co_55 : Try.prog.concrete 55 = true := by kernel_rfl
theorem sz_56 : szf Try.prog 56 = some 1 := by kernel_rfl
theorem ag_56 : agf Try.prog 56 = some false := by kernel_rfl
theorem zr_56 : zrf Try.prog 56 = some (.nilFunc) := by kernel_rfl
theorem tf_56 : TF Try.prog 56 1 8 (.nilFunc) := ⟨sz_56, by kernel_rfl, zr_56, by kernel_rfl, by decide⟩
theorem co_56 : Try.prog.concrete 56 = true := by kernel_rfl
theorem sz_57 : szf Try.prog 57 = some 1 := by kernel_rfl
theorem ag_57 : agf Try.prog 57 = some false := by kernel_rfl
theorem zr_57 : zrf Try.prog 57 = some (.nilFunc) := by kernel_rfl
theorem tf_57 : TF Try.prog 57 1 8 (.nilFunc) := ⟨sz_57, by kernel_rfl, zr_57, by kernel_rfl, by decide⟩
theorem co_57 : Try.prog.concrete 57 = true := by kernel_rfl
theorem sz_58 : szf Try.prog 58 = some 1 := by kernel_rfl
theorem ag_58 : agf Try.prog 58 = some false := by kernel_rfl
theorem zr_58 : zrf Try.prog 58 = some (.slice none 0 0) := by kernel_rfl
theorem tf_58 : TF Try.prog 58 1 24 (.slice none 0 0) := ⟨sz_58, by kernel_rfl, zr_58, by kernel_rfl, by decide⟩
theorem co_58 : Try.prog.concrete 58 = true := by kernel_rfl
theorem sz_59 : szf Try.prog 59 = some 1 := by kernel_rfl
theorem ag_59 : agf Try.prog 59 = some false := by kernel_rfl
theorem zr_59 : zrf Try.prog 59 = some (.nilFunc) := by kernel_rfl
theorem tf_59 : TF Try.prog 59 1 8 (.nilFunc) := ⟨sz_59, by kernel_rfl, zr_59, by kernel_rfl, by decide⟩
theorem co_59 : Try.prog.concrete 59 = true := by kernel_rfl
theorem sz_60 : szf Try.prog 60 = some 1 := by kernel_rfl
theorem ag_60 : agf Try.prog 60 = some false := by kernel_rfl
theorem zr_60 : zrf Try.prog 60 = some (.nilFunc) := by kernel_rfl
theorem tf_60 : TF Try.prog 60 1 8 (.nilFunc) := ⟨sz_60, by kernel_rfl, zr_60, by kernel_rfl, by decide⟩
theorem co_60 : Try.prog.concrete 60 = true := by kernel_rfl
theorem sz_61 : szf Try.prog 61 = some 1 := by kernel_rfl
theorem ag_61 : agf Try.prog 61 = some false := by kernel_rfl
theorem zr_61 : zrf Try.prog 61 = some (.int .u32 0) := by kernel_rfl
theorem tf_61 : TF Try.prog 61 1 4 (.int .u32 0) := ⟨sz_61, by kernel_rfl, zr_61, by kernel_rfl, by decide⟩
theorem co_61 : Try.prog.concrete 61 = true := by kernel_rfl
theorem sz_62 : szf Try.prog 62 = some 256 := by kernel_rfl
theorem ag_62 : agf Try.prog 62 = some true := by kernel_rfl
theorem zr_62 : zrf Try.prog 62 = some (.agg (List.replicate 256 (.int .u32 0)).toArray) := by kernel_rfl
theorem co_62 : Try.prog.concrete 62 = true := by kernel_rfl
theorem sz_63 : szf Try.prog 63 = some 256 := by kernel_rfl
theorem ag_63 : agf Try.prog 63 = some true := by kernel_rfl
theorem zr_63 : zrf Try.prog 63 = some (.agg (List.replicate 256 (.int .u32 0)).toArray) := by kernel_rfl
theorem co_63 : Try.prog.concrete 63 = true := by kernel_rfl
theorem sz_64 : szf Try.prog 64 = some 1 := by kernel_rfl
theorem ag_64 : agf Try.prog 64 = some false := by kernel_rfl
theorem zr_64 : zrf Try.prog 64 = some (.nilFunc) := by kernel_rfl
theorem tf_64 : TF Try.prog 64 1 8 (.nilFunc) := ⟨sz_64, by kernel_rfl, zr_64, by kernel_rfl, by decide⟩
theorem co_64 : Try.prog.concrete 64 = true := by kernel_rfl
theorem sz_65 : szf Try.prog 65 = some 1 := by kernel_rfl
theorem ag_65 : agf Try.prog 65 = some false := by kernel_rfl
theorem zr_65 : zrf Try.prog 65 = some (.nilFunc) := by kernel_rfl
theorem tf_65 : TF Try.prog 65 1 8 (.nilFunc) := ⟨sz_65, by kernel_rfl, zr_65, by kernel_rfl, by decide⟩
theorem co_65 : Try.prog.concrete 65 = true := by kernel_rfl
theorem sz_66 : szf Try.prog 66 = some 1 := by kernel_rfl
theorem ag_66 : agf Try.prog 66 = some false := by kernel_rfl
theorem zr_66 : zrf Try.prog 66 = some (.nilFunc) := by kernel_rfl
theorem tf_66 : TF Try.prog 66 1 8 (.nilFunc) := ⟨sz_66, by kernel_rfl, zr_66, by kernel_rfl, by decide⟩
theorem co_66 : Try.prog.concrete 66 = true := by kernel_rfl
theorem sz_68 : szf Try.prog 68 = some 1 := by kernel_rfl
theorem ag_68 : agf Try.prog 68 = some false := by kernel_rfl
theorem zr_68 : zrf Try.prog 68 = some (.nilFunc) := by kernel_rfl
theorem tf_68 : TF Try.prog 68 1 8 (.nilFunc) := ⟨sz_68, by kernel_rfl, zr_68, by kernel_rfl, by decide⟩
theorem co_68 : Try.prog.concrete 68 = true := by kernel_rfl
theorem sz_69 : szf Try.prog 69 = some 1 := by kernel_rfl
theorem ag_69 : agf Try.prog 69 = some false := by kernel_rfl
theorem zr_69 : zrf Try.prog 69 = some (.nilFunc) := by kernel_rfl
theorem tf_69 : TF Try.prog 69 1 8 (.nilFunc) := ⟨sz_69, by kernel_rfl, zr_69, by kernel_rfl, by decide⟩
theorem co_69 : Try.prog.concrete 69 = true := by kernel_rfl
theorem sz_70 : szf Try.prog 70 = some 1 := by kernel_rfl
theorem ag_70 : agf Try.prog 70 = some false := by kernel_rfl
theorem zr_70 : zrf Try.prog 70 = some (.nilFunc) := by kernel_rfl
theorem tf_70 : TF Try.prog 70 1 8 (.nilFunc) := ⟨sz_70, by kernel_rfl, zr_70, by kernel_rfl, by decide⟩
theorem co_70 : Try.prog.concrete 70 = true := by kernel_rfl
theorem sz_71 : szf Try.prog 71 = some 1 := by kernel_rfl
theorem ag_71 : agf Try.prog 71 = some false := by kernel_rfl
theorem zr_71 : zrf Try.prog 71 = some (.nilFunc) := by kernel_rfl
theorem tf_71 : TF Try.prog 71 1 8 (.nilFunc) := ⟨sz_71, by kernel_rfl, zr_71, by kernel_rfl, by decide⟩
theorem co_71 : Try.prog.concrete 71 = true := by kernel_rfl
theorem sz_72 : szf Try.prog 72 = some 1 := by kernel_rfl
theorem ag_72 : agf Try.prog 72 = some false := by kernel_rfl
theorem zr_72 : zrf Try.prog 72 = some (.nilFunc) := by kernel_rfl
theorem tf_72 : TF Try.prog 72 1 8 (.nilFunc) := ⟨sz_72, by kernel_rfl, zr_72, by kernel_rfl, by decide⟩
theorem co_72 : Try.prog.concrete 72 = true := by kernel_rfl
theorem sz_73 : szf Try.prog 73 = some 1 := by kernel_rfl
theorem ag_73 : agf Try.prog 73 = some false := by kernel_rfl
theorem zr_73 : zrf Try.prog 73 = some (.nilFunc) := by kernel_rfl
theorem tf_73 : TF Try.prog 73 1 8 (.nilFunc) := ⟨sz_73, by kernel_rfl, zr_73, by kernel_rfl, by decide⟩
theorem co_73 : Try.prog.concrete 73 = true := by kernel_rfl
theorem sz_74 : szf Try.prog 74 = some 1 := by kernel_rfl
theorem ag_74 : agf Try.prog 74 = some false := by kernel_rfl
theorem zr_74 : zrf Try.prog 74 = some (.nilFunc) := by kernel_rfl
theorem tf_74 : TF Try.prog 74 1 8 (.nilFunc) := ⟨sz_74, by kernel_rfl, zr_74, by kernel_rfl, by decide⟩
theorem co_74 : Try.prog.concrete 74 = true := by kernel_rfl
theorem sz_75 : szf Try.prog 75 = some 1 := by kernel_rfl
theorem ag_75 : agf Try.prog 75 = some false := by kernel_rfl
theorem zr_75 : zrf Try.prog 75 = some (.nilFunc) := by kernel_rfl
theorem tf_75 : TF Try.prog 75 1 8 (.nilFunc) := ⟨sz_75, by kernel_rfl, zr_75, by kernel_rfl, by decide⟩
theorem co_75 : Try.prog.concrete 75 = true := by kernel_rfl
theorem sz_76 : szf Try.prog 76 = some 1 := by kernel_rfl
theorem ag_76 : agf Try.prog 76 = some false := by kernel_rfl
theorem zr_76 : zrf Try.prog 76 = some (.slice none 0 0) := by kernel_rfl
theorem tf_76 : TF Try.prog 76 1 24 (.slice none 0 0) := ⟨sz_76, by kernel_rfl, zr_76, by kernel_rfl, by decide⟩
theorem co_76 : Try.prog.concrete 76 = true := by kernel_rfl
theorem sz_77 : szf Try.prog 77 = some 1 := by kernel_rfl
theorem ag_77 : agf Try.prog 77 = some false := by kernel_rfl
theorem zr_77 : zrf Try.prog 77 = some (.nilFunc) := by kernel_rfl
theorem tf_77 : TF Try.prog 77 1 8 (.nilFunc) := ⟨sz_77, by kernel_rfl, zr_77, by kernel_rfl, by decide⟩
theorem co_77 : Try.prog.concrete 77 = true := by kernel_rfl
theorem sz_78 : szf Try.prog 78 = some 1 := by kernel_rfl
theorem ag_78 : agf Try.prog 78 = some false := by kernel_rfl
theorem zr_78 : zrf Try.prog 78 = some (.pointer none) := by kernel_rfl
theorem tf_78 : TF Try.prog 78 1 8 (.pointer none) := ⟨sz_78, by kernel_rfl, zr_78, by kernel_rfl, by decide⟩
theorem co_78 : Try.prog.concrete 78 = true := by kernel_rfl
theorem sz_79 : szf Try.prog 79 = some 1 := by kernel_rfl
theorem ag_79 : agf Try.prog 79 = some false := by kernel_rfl
theorem zr_79 : zrf Try.prog 79 = some (.nilFunc) := by kernel_rfl
theorem tf_79 : TF Try.prog 79 1 8 (.nilFunc) := ⟨sz_79, by kernel_rfl, zr_79, by kernel_rfl, by decide⟩
theorem co_79 : Try.prog.concrete 79 = true := by kernel_rfl
theorem sz_80 : szf Try.prog 80 = some 1 := by kernel_rfl
theorem ag_80 : agf Try.prog 80 = some false := by kernel_rfl
theorem zr_80 : zrf Try.prog 80 = some (.pointer none) := by kernel_rfl
theorem tf_80 : TF Try.prog 80 1 8 (.pointer none) := ⟨sz_80, by kernel_rfl, zr_80, by kernel_rfl, by decide⟩
theorem co_80 : Try.prog.concrete 80 = true := by kernel_rfl
theorem sz_82 : szf Try.prog 82 = some 1 := by kernel_rfl
theorem ag_82 : agf Try.prog 82 = some false := by kernel_rfl
theorem zr_82 : zrf Try.prog 82 = some (.nilFunc) := by kernel_rfl
theorem tf_82 : TF Try.prog 82 1 8 (.nilFunc) := ⟨sz_82, by kernel_rfl, zr_82, by kernel_rfl, by decide⟩
theorem co_82 : Try.prog.concrete 82 = true := by kernel_rfl
theorem sz_83 : szf Try.prog 83 = some 1 := by kernel_rfl
theorem ag_83 : agf Try.prog 83 = some false := by kernel_rfl
theorem zr_83 : zrf Try.prog 83 = some (.nilFunc) := by kernel_rfl
theorem tf_83 : TF Try.prog 83 1 8 (.nilFunc) := ⟨sz_83, by kernel_rfl, zr_83, by kernel_rfl, by decide⟩
theorem co_83 : Try.prog.concrete 83 = true := by kernel_rfl
theorem sz_84 : szf Try.prog 84 = some 1 := by kernel_rfl
theorem ag_84 : agf Try.prog 84 = some false := by kernel_rfl
theorem zr_84 : zrf Try.prog 84 = some (.nilFunc) := by kernel_rfl
theorem tf_84 : TF Try.prog 84 1 8 (.nilFunc) := ⟨sz_84, by kernel_rfl, zr_84, by kernel_rfl, by decide⟩
theorem co_84 : Try.prog.concrete 84 = true := by kernel_rfl
theorem sz_85 : szf Try.prog 85 = some 1 := by kernel_rfl
theorem ag_85 : agf Try.prog 85 = some false := by kernel_rfl
theorem zr_85 : zrf Try.prog 85 = some (.nilFunc) := by kernel_rfl
theorem tf_85 : TF Try.prog 85 1 8 (.nilFunc) := ⟨sz_85, by kernel_rfl, zr_85, by kernel_rfl, by decide⟩
theorem co_85 : Try.prog.concrete 85 = true := by kernel_rfl
theorem sz_86 : szf Try.prog 86 = some 1 := by kernel_rfl
theorem ag_86 : agf Try.prog 86 = some false := by kernel_rfl
theorem zr_86 : zrf Try.prog 86 = some (.nilFunc) := by kernel_rfl
theorem tf_86 : TF Try.prog 86 1 8 (.nilFunc) := ⟨sz_86, by kernel_rfl, zr_86, by kernel_rfl, by decide⟩
theorem co_86 : Try.prog.concrete 86 = true := by kernel_rfl
theorem sz_87 : szf Try.prog 87 = some 1 := by kernel_rfl
theorem ag_87 : agf Try.prog 87 = some false := by kernel_rfl
theorem zr_87 : zrf Try.prog 87 = some (.nilFunc) := by kernel_rfl
theorem tf_87 : TF Try.prog 87 1 8 (.nilFunc) := ⟨sz_87, by kernel_rfl, zr_87, by kernel_rfl, by decide⟩
theorem co_87 : Try.prog.concrete 87 = true := by kernel_rfl
theorem sz_88 : szf Try.prog 88 = some 1 := by kernel_rfl
theorem ag_88 : agf Try.prog 88 = some false := by kernel_rfl
theorem zr_88 : zrf Try.prog 88 = some (.nilFunc) := by kernel_rfl
theorem tf_88 : TF Try.prog 88 1 8 (.nilFunc) := ⟨sz_88, by kernel_rfl, zr_88, by kernel_rfl, by decide⟩
theorem co_88 : Try.prog.concrete 88 = true := by kernel_rfl
theorem sz_89 : szf Try.prog 89 = some 2 := by kernel_rfl
theorem ag_89 : agf Try.prog 89 = some true := by kernel_rfl
theorem zr_89 : zrf Try.prog 89 = some (.agg #[.int .u8 0, .int .u8 0]) := by kernel_rfl
theorem tf_89 : TF Try.prog 89 2 2 (.agg #[.int .u8 0, .int .u8 0]) := ⟨sz_89, by kernel_rfl, zr_89, by kernel_rfl, by decide⟩
theorem co_89 : Try.prog.concrete 89 = true := by kernel_rfl
theorem sz_91 : szf Try.prog 91 = some 1 := by kernel_rfl
theorem ag_91 : agf Try.prog 91 = some false := by kernel_rfl
theorem zr_91 : zrf Try.prog 91 = some (.nilFunc) := by kernel_rfl
theorem tf_91 : TF Try.prog 91 1 8 (.nilFunc) := ⟨sz_91, by kernel_rfl, zr_91, by kernel_rfl, by decide⟩
theorem co_91 : Try.prog.concrete 91 = true := by kernel_rfl
theorem sz_92 : szf Try.prog 92 = some 1 := by kernel_rfl
theorem ag_92 : agf Try.prog 92 = some false := by kernel_rfl
theorem zr_92 : zrf Try.prog 92 = some (.nilFunc) := by kernel_rfl
theorem tf_92 : TF Try.prog 92 1 8 (.nilFunc) := ⟨sz_92, by kernel_rfl, zr_92, by kernel_rfl, by decide⟩
theorem co_92 : Try.prog.concrete 92 = true := by kernel_rfl
theorem sz_93 : szf Try.prog 93 = some 1 := by kernel_rfl
theorem ag_93 : agf Try.prog 93 = some false := by kernel_rfl
theorem zr_93 : zrf Try.prog 93 = some (.nilFunc) := by kernel_rfl
theorem tf_93 : TF Try.prog 93 1 8 (.nilFunc) := ⟨sz_93, by kernel_rfl, zr_93, by kernel_rfl, by decide⟩
theorem co_93 : Try.prog.concrete 93 = true := by kernel_rfl
theorem sz_94 : szf Try.prog 94 = some 1 := by kernel_rfl
theorem ag_94 : agf Try.prog 94 = some false := by kernel_rfl
theorem zr_94 : zrf Try.prog 94 = some (.nilFunc) := by kernel_rfl
theorem tf_94 : TF Try.prog 94 1 8 (.nilFunc) := ⟨sz_94, by kernel_rfl, zr_94, by kernel_rfl, by decide⟩
theorem co_94 : Try.prog.concrete 94 = true := by kernel_rfl
theorem sz_95 : szf Try.prog 95 = some 1 := by kernel_rfl
theorem ag_95 : agf Try.prog 95 = some false := by kernel_rfl
theorem zr_95 : zrf Try.prog 95 = some (.pointer none) := by kernel_rfl
theorem tf_95 : TF Try.prog 95 1 8 (.pointer none) := ⟨sz_95, by kernel_rfl, zr_95, by kernel_rfl, by decide⟩
theorem co_95 : Try.prog.concrete 95 = true := by kernel_rfl
theorem sz_96 : szf Try.prog 96 = some 1 := by kernel_rfl
theorem ag_96 : agf Try.prog 96 = some false := by kernel_rfl
theorem zr_96 : zrf Try.prog 96 = some (.nilFunc) := by kernel_rfl
theorem tf_96 : TF Try.prog 96 1 8 (.nilFunc) := ⟨sz_96, by kernel_rfl, zr_96, by kernel_rfl, by decide⟩
theorem co_96 : Try.prog.concrete 96 = true := by kernel_rfl
theorem sz_97 : szf Try.prog 97 = some 1 := by kernel_rfl
theorem ag_97 : agf Try.prog 97 = some false := by kernel_rfl
theorem zr_97 : zrf Try.prog 97 = some (.nilFunc) := by kernel_rfl
theorem tf_97 : TF Try.prog 97 1 8 (.nilFunc) := ⟨sz_97, by kernel_rfl, zr_97, by kernel_rfl, by decide⟩
theorem co_97 : Try.prog.concrete 97 = true := by kernel_rfl
theorem sz_98 : szf Try.prog 98 = some 1 := by kernel_rfl
theorem ag_98 : agf Try.prog 98 = some false := by kernel_rfl
theorem zr_98 : zrf Try.prog 98 = some (.nilFunc) := by kernel_rfl
theorem tf_98 : TF Try.prog 98 1 8 (.nilFunc) := ⟨sz_98, by kernel_rfl, zr_98, by kernel_rfl, by decide⟩
theorem co_98 : Try.prog.concrete 98 = true := by kernel_rfl
theorem sz_100 : szf Try.prog 100 = some 1 := by kernel_rfl
theorem ag_100 : agf Try.prog 100 = some false := by kernel_rfl
theorem zr_100 : zrf Try.prog 100 = some (.nilFunc) := by kernel_rfl
theorem tf_100 : TF Try.prog 100 1 8 (.nilFunc) := ⟨sz_100, by kernel_rfl, zr_100, by kernel_rfl, by decide⟩
theorem co_100 : Try.prog.concrete 100 = true := by kernel_rfl
theorem sz_101 : szf Try.prog 101 = some 1 := by kernel_rfl
theorem ag_101 : agf Try.prog 101 = some false := by kernel_rfl
theorem zr_101 : zrf Try.prog 101 = some (.nilFunc) := by kernel_rfl
theorem tf_101 : TF Try.prog 101 1 8 (.nilFunc) := ⟨sz_101, by kernel_rfl, zr_101, by kernel_rfl, by decide⟩
theorem co_101 : Try.prog.concrete 101 = true := by kernel_rfl
theorem sz_102 : szf Try.prog 102 = some 1 := by kernel_rfl
theorem ag_102 : agf Try.prog 102 = some false := by kernel_rfl
theorem zr_102 : zrf Try.prog 102 = some (.nilFunc) := by kernel_rfl
theorem tf_102 : TF Try.prog 102 1 8 (.nilFunc) := ⟨sz_102, by kernel_rfl, zr_102, by kernel_rfl, by decide⟩
theorem co_102 : Try.prog.concrete 102 = true := by kernel_rfl
theorem sz_103 : szf Try.prog 103 = some 1 := by kernel_rfl
theorem ag_103 : agf Try.prog 103 = some false := by kernel_rfl
theorem zr_103 : zrf Try.prog 103 = some (.slice none 0 0) := by kernel_rfl
theorem tf_103 : TF Try.prog 103 1 24 (.slice none 0 0) := ⟨sz_103, by kernel_rfl, zr_103, by kernel_rfl, by decide⟩
theorem co_103 : Try.prog.concrete 103 = true := by kernel_rfl
theorem sz_104 : szf Try.prog 104 = some 1 := by kernel_rfl
theorem ag_104 : agf Try.prog 104 = some false := by kernel_rfl
theorem zr_104 : zrf Try.prog 104 = some (.slice none 0 0) := by kernel_rfl
theorem tf_104 : TF Try.prog 104 1 24 (.slice none 0 0) := ⟨sz_104, by kernel_rfl, zr_104, by kernel_rfl, by decide⟩
theorem co_104 : Try.prog.concrete 104 = true := by kernel_rfl
theorem sz_105 : szf Try.prog 105 = some 23 := by kernel_rfl
theorem ag_105 : agf Try.prog 105 = some true := by kernel_rfl
theorem zr_105 : zrf Try.prog 105 = some (.agg #[.int .u8 0, .int .i64 0, .int .i64 0, .int .i64 0, .int .i64 0, .int .i64 0, .int .i64 0, .int .u64 0, .int .u64 0, .string ⟨#[]⟩, .bool false, .int .u64 0, .bool false, .string ⟨#[]⟩, .slice none 0 0, .string ⟨#[]⟩, .int .u64 0, .int .u64 0, .int .i64 0, .int .i64 0, .int .i64 0, .int .i64 0, .int .i64 0]) := by kernel_rfl
theorem tf_105 : TF Try.prog 105 23 224 (.agg #[.int .u8 0, .int .i64 0, .int .i64 0, .int .i64 0, .int .i64 0, .int .i64 0, .int .i64 0, .int .u64 0, .int .u64 0, .string ⟨#[]⟩, .bool false, .int .u64 0, .bool false, .string ⟨#[]⟩, .slice none 0 0, .string ⟨#[]⟩, .int .u64 0, .int .u64 0, .int .i64 0, .int .i64 0, .int .i64 0, .int .i64 0, .int .i64 0]) := ⟨sz_105, by kernel_rfl, zr_105, by kernel_rfl, by decide⟩
theorem fo_105_0 : fof Try.prog 105 0 = some 0 := by kernel_rfl
theorem fv_105_0 : fvf Try.prog 105 0 = some (0, false, 1) := by kernel_rfl
theorem fo_105_1 : fof Try.prog 105 1 = some 1 := by kernel_rfl
theorem fv_105_1 : fvf Try.prog 105 1 = some (1, true, 17) := by kernel_rfl
theorem fo_105_2 : fof Try.prog 105 2 = some 18 := by kernel_rfl
theorem fv_105_2 : fvf Try.prog 105 2 = some (18, false, 1) := by kernel_rfl
theorem fo_105_3 : fof Try.prog 105 3 = some 19 := by kernel_rfl
theorem fv_105_3 : fvf Try.prog 105 3 = some (19, false, 1) := by kernel_rfl
theorem fo_105_4 : fof Try.prog 105 4 = some 20 := by kernel_rfl
theorem fv_105_4 : fvf Try.prog 105 4 = some (20, false, 1) := by kernel_rfl
theorem fo_105_5 : fof Try.prog 105 5 = some 21 := by kernel_rfl
theorem fv_105_5 : fvf Try.prog 105 5 = some (21, false, 1) := by kernel_rfl
theorem fo_105_6 : fof Try.prog 105 6 = some 22 := by kernel_rfl
theorem fv_105_6 : fvf Try.prog 105 6 = some (22, false, 1) := by kernel_rfl
theorem pl_105 : plc Try.prog 105 = some [(0, 1), (1, 17), (18, 1), (19, 1), (20, 1), (21, 1), (22, 1)] := by kernel_rfl
theorem co_105 : Try.prog.concrete 105 = true := by kernel_rfl
theorem sz_106 : szf Try.prog 106 = some 23 := by kernel_rfl
theorem ag_106 : agf Try.prog 106 = some true := by kernel_rfl
theorem zr_106 : zrf Try.prog 106 = some (.agg #[.int .u8 0, .int .i64 0, .int .i64 0, .int .i64 0, .int .i64 0, .int .i64 0, .int .i64 0, .int .u64 0, .int .u64 0, .string ⟨#[]⟩, .bool false, .int .u64 0, .bool false, .string ⟨#[]⟩, .slice none 0 0, .string ⟨#[]⟩, .int .u64 0, .int .u64 0, .int .i64 0, .int .i64 0, .int .i64 0, .int .i64 0, .int .i64 0]) := by kernel_rfl
theorem tf_106 : TF Try.prog 106 23 224 (.agg #[.int .u8 0, .int .i64 0, .int .i64 0, .int .i64 0, .int .i64 0, .int .i64 0, .int .i64 0, .int .u64 0, .int .u64 0, .string ⟨#[]⟩, .bool false, .int .u64 0, .bool false, .string ⟨#[]⟩, .slice none 0 0, .string ⟨#[]⟩, .int .u64 0, .int .u64 0, .int .i64 0, .int .i64 0, .int .i64 0, .int .i64 0, .int .i64 0]) := ⟨sz_106, by kernel_rfl, zr_106, by kernel_rfl, by decide⟩
theorem fo_106_0 : fof Try.prog 106 0 = some 0 := by kernel_rfl
theorem fv_106_0 : fvf Try.prog 106 0 = some (0, false, 1) := by kernel_rfl
theorem fo_106_1 : fof Try.prog 106 1 = some 1 := by kernel_rfl
theorem fv_106_1 : fvf Try.prog 106 1 = some (1, true, 17) := by kernel_rfl
theorem fo_106_2 : fof Try.prog 106 2 = some 18 := by kernel_rfl
theorem fv_106_2 : fvf Try.prog 106 2 = some (18, false, 1) := by kernel_rfl
theorem fo_106_3 : fof Try.prog 106 3 = some 19 := by kernel_rfl
theorem fv_106_3 : fvf Try.prog 106 3 = some (19, false, 1) := by kernel_rfl
theorem fo_106_4 : fof Try.prog 106 4 = some 20 := by kernel_rfl
theorem fv_106_4 : fvf Try.prog 106 4 = some (20, false, 1) := by kernel_rfl
theorem fo_106_5 : fof Try.prog 106 5 = some 21 := by kernel_rfl
theorem fv_106_5 : fvf Try.prog 106 5 = some (21, false, 1) := by kernel_rfl
theorem fo_106_6 : fof Try.prog 106 6 = some 22 := by kernel_rfl
theorem fv_106_6 : fvf Try.prog 106 6 = some (22, false, 1) := by kernel_rfl
theorem pl_106 : plc Try.prog 106 = some [(0, 1), (1, 17), (18, 1), (19, 1), (20, 1), (21, 1), (22, 1)] := by kernel_rfl
theorem co_106 : Try.prog.concrete 106 = true := by kernel_rfl
theorem sz_107 : szf Try.prog 107 = some 1 := by kernel_rfl
theorem ag_107 : agf Try.prog 107 = some false := by kernel_rfl
theorem zr_107 : zrf Try.prog 107 = some (.nilFunc) := by kernel_rfl
theorem tf_107 : TF Try.prog 107 1 8 (.nilFunc) := ⟨sz_107, by kernel_rfl, zr_107, by kernel_rfl, by decide⟩
theorem co_107 : Try.prog.concrete 107 = true := by kernel_rfl
theorem sz_109 : szf Try.prog 109 = some 1 := by kernel_rfl
theorem ag_109 : agf Try.prog 109 = some false := by kernel_rfl
theorem zr_109 : zrf Try.prog 109 = some (.nilFunc) := by kernel_rfl
theorem tf_109 : TF Try.prog 109 1 8 (.nilFunc) := ⟨sz_109, by kernel_rfl, zr_109, by kernel_rfl, by decide⟩
theorem co_109 : Try.prog.concrete 109 = true := by kernel_rfl
theorem sz_110 : szf Try.prog 110 = some 1 := by kernel_rfl
theorem ag_110 : agf Try.prog 110 = some false := by kernel_rfl
theorem zr_110 : zrf Try.prog 110 = some (.slice none 0 0) := by kernel_rfl
theorem tf_110 : TF Try.prog 110 1 24 (.slice none 0 0) := ⟨sz_110, by kernel_rfl, zr_110, by kernel_rfl, by decide⟩
theorem co_110 : Try.prog.concrete 110 = true := by kernel_rfl
theorem sz_111 : szf Try.prog 111 = some 19 := by kernel_rfl
theorem ag_111 : agf Try.prog 111 = some true := by kernel_rfl
theorem zr_111 : zrf Try.prog 111 = some (.agg #[.int .i64 0, .int .i64 0, .int .i64 0, .int .i64 0, .int .i64 0, .int .i64 0, .int .u64 0, .int .u64 0, .string ⟨#[]⟩, .bool false, .int .u64 0, .bool false, .string ⟨#[]⟩, .slice none 0 0, .string ⟨#[]⟩, .int .u64 0, .int .u64 0, .int .i64 0, .slice none 0 0]) := by kernel_rfl
theorem tf_111 : TF Try.prog 111 19 208 (.agg #[.int .i64 0, .int .i64 0, .int .i64 0, .int .i64 0, .int .i64 0, .int .i64 0, .int .u64 0, .int .u64 0, .string ⟨#[]⟩, .bool false, .int .u64 0, .bool false, .string ⟨#[]⟩, .slice none 0 0, .string ⟨#[]⟩, .int .u64 0, .int .u64 0, .int .i64 0, .slice none 0 0]) := ⟨sz_111, by kernel_rfl, zr_111, by kernel_rfl, by decide⟩
theorem fo_111_0 : fof Try.prog 111 0 = some 0 := by kernel_rfl
theorem fv_111_0 : fvf Try.prog 111 0 = some (0, true, 17) := by kernel_rfl
theorem fo_111_1 : fof Try.prog 111 1 = some 17 := by kernel_rfl
theorem fv_111_1 : fvf Try.prog 111 1 = some (17, false, 1) := by kernel_rfl
theorem fo_111_2 : fof Try.prog 111 2 = some 18 := by kernel_rfl
theorem fv_111_2 : fvf Try.prog 111 2 = some (18, false, 1) := by kernel_rfl
theorem pl_111 : plc Try.prog 111 = some [(0, 17), (17, 1), (18, 1)] := by kernel_rfl
theorem co_111 : Try.prog.concrete 111 = true := by kernel_rfl
theorem sz_112 : szf Try.prog 112 = some 19 := by kernel_rfl
theorem ag_112 : agf Try.prog 112 = some true := by kernel_rfl
theorem zr_112 : zrf Try.prog 112 = some (.agg #[.int .i64 0, .int .i64 0, .int .i64 0, .int .i64 0, .int .i64 0, .int .i64 0, .int .u64 0, .int .u64 0, .string ⟨#[]⟩, .bool false, .int .u64 0, .bool false, .string ⟨#[]⟩, .slice none 0 0, .string ⟨#[]⟩, .int .u64 0, .int .u64 0, .int .i64 0, .slice none 0 0]) := by kernel_rfl
theorem tf_112 : TF Try.prog 112 19 208 (.agg #[.int .i64 0, .int .i64 0, .int .i64 0, .int .i64 0, .int .i64 0, .int .i64 0, .int .u64 0, .int .u64 0, .string ⟨#[]⟩, .bool false, .int .u64 0, .bool false, .string ⟨#[]⟩, .slice none 0 0, .string ⟨#[]⟩, .int .u64 0, .int .u64 0, .int .i64 0, .slice none 0 0]) := ⟨sz_112, by kernel_rfl, zr_112, by kernel_rfl, by decide⟩
theorem fo_112_0 : fof Try.prog 112 0 = some 0 := by kernel_rfl
theorem fv_112_0 : fvf Try.prog 112 0 = some (0, true, 17) := by kernel_rfl
theorem fo_112_1 : fof Try.prog 112 1 = some 17 := by kernel_rfl
theorem fv_112_1 : fvf Try.prog 112 1 = some (17, false, 1) := by kernel_rfl
theorem fo_112_2 : fof Try.prog 112 2 = some 18 := by kernel_rfl
theorem fv_112_2 : fvf Try.prog 112 2 = some (18, false, 1) := by kernel_rfl
theorem pl_112 : plc Try.prog 112 = some [(0, 17), (17, 1), (18, 1)] := by kernel_rfl
theorem co_112 : Try.prog.concrete 112 = true := by kernel_rfl
theorem sz_113 : szf Try.prog 113 = some 1 := by kernel_rfl
theorem ag_113 : agf Try.prog 113 = some false := by kernel_rfl
theorem zr_113 : zrf Try.prog 113 = some (.nilFunc) := by kernel_rfl
theorem tf_113 : TF Try.prog 113 1 8 (.nilFunc) := ⟨sz_113, by kernel_rfl, zr_113, by kernel_rfl, by decide⟩
theorem co_113 : Try.prog.concrete 113 = true := by kernel_rfl
theorem sz_114 : szf Try.prog 114 = some 1 := by kernel_rfl
theorem ag_114 : agf Try.prog 114 = some false := by kernel_rfl
theorem zr_114 : zrf Try.prog 114 = some (.nilFunc) := by kernel_rfl
theorem tf_114 : TF Try.prog 114 1 8 (.nilFunc) := ⟨sz_114, by kernel_rfl, zr_114, by kernel_rfl, by decide⟩
theorem co_114 : Try.prog.concrete 114 = true := by kernel_rfl
theorem sz_115 : szf Try.prog 115 = some 2 := by kernel_rfl
theorem ag_115 : agf Try.prog 115 = some true := by kernel_rfl
theorem zr_115 : zrf Try.prog 115 = some (.agg #[.slice none 0 0, .slice none 0 0]) := by kernel_rfl
theorem tf_115 : TF Try.prog 115 2 48 (.agg #[.slice none 0 0, .slice none 0 0]) := ⟨sz_115, by kernel_rfl, zr_115, by kernel_rfl, by decide⟩
theorem fo_115_0 : fof Try.prog 115 0 = some 0 := by kernel_rfl
theorem fv_115_0 : fvf Try.prog 115 0 = some (0, false, 1) := by kernel_rfl
theorem fo_115_1 : fof Try.prog 115 1 = some 1 := by kernel_rfl
theorem fv_115_1 : fvf Try.prog 115 1 = some (1, false, 1) := by kernel_rfl
theorem pl_115 : plc Try.prog 115 = some [(0, 1), (1, 1)] := by kernel_rfl
theorem co_115 : Try.prog.concrete 115 = true := by kernel_rfl
theorem sz_116 : szf Try.prog 116 = some 2 := by kernel_rfl
theorem ag_116 : agf Try.prog 116 = some true := by kernel_rfl
theorem zr_116 : zrf Try.prog 116 = some (.agg #[.slice none 0 0, .slice none 0 0]) := by kernel_rfl
theorem tf_116 : TF Try.prog 116 2 48 (.agg #[.slice none 0 0, .slice none 0 0]) := ⟨sz_116, by kernel_rfl, zr_116, by kernel_rfl, by decide⟩
theorem fo_116_0 : fof Try.prog 116 0 = some 0 := by kernel_rfl
theorem fv_116_0 : fvf Try.prog 116 0 = some (0, false, 1) := by kernel_rfl
theorem fo_116_1 : fof Try.prog 116 1 = some 1 := by kernel_rfl
theorem fv_116_1 : fvf Try.prog 116 1 = some (1, false, 1) := by kernel_rfl
theorem pl_116 : plc Try.prog 116 = some [(0, 1), (1, 1)] := by kernel_rfl
theorem co_116 : Try.prog.concrete 116 = true := by kernel_rfl
theorem sz_117 : szf Try.prog 117 = some 1 := by kernel_rfl
theorem ag_117 : agf Try.prog 117 = some false := by kernel_rfl
theorem zr_117 : zrf Try.prog 117 = some (.slice none 0 0) := by kernel_rfl
theorem tf_117 : TF Try.prog 117 1 24 (.slice none 0 0) := ⟨sz_117, by kernel_rfl, zr_117, by kernel_rfl, by decide⟩
theorem co_117 : Try.prog.concrete 117 = true := by kernel_rfl
theorem sz_118 : szf Try.prog 118 = some 1 := by kernel_rfl
theorem ag_118 : agf Try.prog 118 = some false := by kernel_rfl
theorem zr_118 : zrf Try.prog 118 = some (.nilFunc) := by kernel_rfl
theorem tf_118 : TF Try.prog 118 1 8 (.nilFunc) := ⟨sz_118, by kernel_rfl, zr_118, by kernel_rfl, by decide⟩
theorem co_118 : Try.prog.concrete 118 = true := by kernel_rfl
theorem sz_119 : szf Try.prog 119 = some 1 := by kernel_rfl
theorem ag_119 : agf Try.prog 119 = some false := by kernel_rfl
theorem zr_119 : zrf Try.prog 119 = some (.pointer none) := by kernel_rfl
theorem tf_119 : TF Try.prog 119 1 8 (.pointer none) := ⟨sz_119, by kernel_rfl, zr_119, by kernel_rfl, by decide⟩
theorem co_119 : Try.prog.concrete 119 = true := by kernel_rfl
theorem sz_121 : szf Try.prog 121 = some 1 := by kernel_rfl
theorem ag_121 : agf Try.prog 121 = some false := by kernel_rfl
theorem zr_121 : zrf Try.prog 121 = some (.nilFunc) := by kernel_rfl
theorem tf_121 : TF Try.prog 121 1 8 (.nilFunc) := ⟨sz_121, by kernel_rfl, zr_121, by kernel_rfl, by decide⟩
theorem co_121 : Try.prog.concrete 121 = true := by kernel_rfl
theorem sz_122 : szf Try.prog 122 = some 1 := by kernel_rfl
theorem ag_122 : agf Try.prog 122 = some false := by kernel_rfl
theorem zr_122 : zrf Try.prog 122 = some (.nilFunc) := by kernel_rfl
theorem tf_122 : TF Try.prog 122 1 8 (.nilFunc) := ⟨sz_122, by kernel_rfl, zr_122, by kernel_rfl, by decide⟩
theorem co_122 : Try.prog.concrete 122 = true := by kernel_rfl
theorem sz_123 : szf Try.prog 123 = some 1 := by kernel_rfl
theorem ag_123 : agf Try.prog 123 = some false := by kernel_rfl
theorem zr_123 : zrf Try.prog 123 = some (.nilFunc) := by kernel_rfl
theorem tf_123 : TF Try.prog 123 1 8 (.nilFunc) := ⟨sz_123, by kernel_rfl, zr_123, by kernel_rfl, by decide⟩
theorem co_123 : Try.prog.concrete 123 = true := by kernel_rfl
theorem sz_124 : szf Try.prog 124 = some 5 := by kernel_rfl
theorem ag_124 : agf Try.prog 124 = some true := by kernel_rfl
theorem zr_124 : zrf Try.prog 124 = some (.agg #[.string ⟨#[]⟩, .bool false, .int .u64 0, .bool false, .string ⟨#[]⟩]) := by kernel_rfl
theorem tf_124 : TF Try.prog 124 5 56 (.agg #[.string ⟨#[]⟩, .bool false, .int .u64 0, .bool false, .string ⟨#[]⟩]) := ⟨sz_124, by kernel_rfl, zr_124, by kernel_rfl, by decide⟩
theorem fo_124_0 : fof Try.prog 124 0 = some 0 := by kernel_rfl
theorem fv_124_0 : fvf Try.prog 124 0 = some (0, false, 1) := by kernel_rfl
theorem fo_124_1 : fof Try.prog 124 1 = some 1 := by kernel_rfl
theorem fv_124_1 : fvf Try.prog 124 1 = some (1, false, 1) := by kernel_rfl
theorem fo_124_2 : fof Try.prog 124 2 = some 2 := by kernel_rfl
theorem fv_124_2 : fvf Try.prog 124 2 = some (2, true, 3) := by kernel_rfl
theorem pl_124 : plc Try.prog 124 = some [(0, 1), (1, 1), (2, 3)] := by kernel_rfl
theorem co_124 : Try.prog.concrete 124 = true := by kernel_rfl
theorem sz_125 : szf Try.prog 125 = some 5 := by kernel_rfl
theorem ag_125 : agf Try.prog 125 = some true := by kernel_rfl
theorem zr_125 : zrf Try.prog 125 = some (.agg #[.string ⟨#[]⟩, .bool false, .int .u64 0, .bool false, .string ⟨#[]⟩]) := by kernel_rfl
theorem tf_125 : TF Try.prog 125 5 56 (.agg #[.string ⟨#[]⟩, .bool false, .int .u64 0, .bool false, .string ⟨#[]⟩]) := ⟨sz_125, by kernel_rfl, zr_125, by kernel_rfl, by decide⟩
theorem fo_125_0 : fof Try.prog 125 0 = some 0 := by kernel_rfl
theorem fv_125_0 : fvf Try.prog 125 0 = some (0, false, 1) := by kernel_rfl
theorem fo_125_1 : fof Try.prog 125 1 = some 1 := by kernel_rfl
theorem fv_125_1 : fvf Try.prog 125 1 = some (1, false, 1) := by kernel_rfl
theorem fo_125_2 : fof Try.prog 125 2 = some 2 := by kernel_rfl
theorem fv_125_2 : fvf Try.prog 125 2 = some (2, true, 3) := by kernel_rfl
theorem pl_125 : plc Try.prog 125 = some [(0, 1), (1, 1), (2, 3)] := by kernel_rfl
theorem co_125 : Try.prog.concrete 125 = true := by kernel_rfl
theorem sz_126 : szf Try.prog 126 = some 9 := by kernel_rfl
theorem ag_126 : agf Try.prog 126 = some true := by kernel_rfl
theorem zr_126 : zrf Try.prog 126 = some (.agg #[.int .u8 0, .int .u64 0, .string ⟨#[]⟩, .bool false, .int .u64 0, .bool false, .string ⟨#[]⟩, .int .i64 0, .bool false]) := by kernel_rfl
theorem tf_126 : TF Try.prog 126 9 88 (.agg #[.int .u8 0, .int .u64 0, .string ⟨#[]⟩, .bool false, .int .u64 0, .bool false, .string ⟨#[]⟩, .int .i64 0, .bool false]) := ⟨sz_126, by kernel_rfl, zr_126, by kernel_rfl, by decide⟩
theorem fo_126_0 : fof Try.prog 126 0 = some 0 := by kernel_rfl
theorem fv_126_0 : fvf Try.prog 126 0 = some (0, false, 1) := by kernel_rfl
theorem fo_126_1 : fof Try.prog 126 1 = some 1 := by kernel_rfl
theorem fv_126_1 : fvf Try.prog 126 1 = some (1, false, 1) := by kernel_rfl
theorem fo_126_2 : fof Try.prog 126 2 = some 2 := by kernel_rfl
theorem fv_126_2 : fvf Try.prog 126 2 = some (2, true, 5) := by kernel_rfl
theorem fo_126_3 : fof Try.prog 126 3 = some 7 := by kernel_rfl
theorem fv_126_3 : fvf Try.prog 126 3 = some (7, false, 1) := by kernel_rfl
theorem fo_126_4 : fof Try.prog 126 4 = some 8 := by kernel_rfl
theorem fv_126_4 : fvf Try.prog 126 4 = some (8, false, 1) := by kernel_rfl
theorem pl_126 : plc Try.prog 126 = some [(0, 1), (1, 1), (2, 5), (7, 1), (8, 1)] := by kernel_rfl
theorem co_126 : Try.prog.concrete 126 = true := by kernel_rfl
theorem sz_127 : szf Try.prog 127 = some 9 := by kernel_rfl
theorem ag_127 : agf Try.prog 127 = some true := by kernel_rfl
theorem zr_127 : zrf Try.prog 127 = some (.agg #[.int .u8 0, .int .u64 0, .string ⟨#[]⟩, .bool false, .int .u64 0, .bool false, .string ⟨#[]⟩, .int .i64 0, .bool false]) := by kernel_rfl
theorem tf_127 : TF Try.prog 127 9 88 (.agg #[.int .u8 0, .int .u64 0, .string ⟨#[]⟩, .bool false, .int .u64 0, .bool false, .string ⟨#[]⟩, .int .i64 0, .bool false]) := ⟨sz_127, by kernel_rfl, zr_127, by kernel_rfl, by decide⟩
theorem fo_127_0 : fof Try.prog 127 0 = some 0 := by kernel_rfl
theorem fv_127_0 : fvf Try.prog 127 0 = some (0, false, 1) := by kernel_rfl
theorem fo_127_1 : fof Try.prog 127 1 = some 1 := by kernel_rfl
theorem fv_127_1 : fvf Try.prog 127 1 = some (1, false, 1) := by kernel_rfl
theorem fo_127_2 : fof Try.prog 127 2 = some 2 := by kernel_rfl
theorem fv_127_2 : fvf Try.prog 127 2 = some (2, true, 5) := by kernel_rfl
theorem fo_127_3 : fof Try.prog 127 3 = some 7 := by kernel_rfl
theorem fv_127_3 : fvf Try.prog 127 3 = some (7, false, 1) := by kernel_rfl
theorem fo_127_4 : fof Try.prog 127 4 = some 8 := by kernel_rfl
theorem fv_127_4 : fvf Try.prog 127 4 = some (8, false, 1) := by kernel_rfl
theorem pl_127 : plc Try.prog 127 = some [(0, 1), (1, 1), (2, 5), (7, 1), (8, 1)] := by kernel_rfl
theorem co_127 : Try.prog.concrete 127 = true := by kernel_rfl
theorem sz_129 : szf Try.prog 129 = some 1 := by kernel_rfl
theorem ag_129 : agf Try.prog 129 = some false := by kernel_rfl
theorem zr_129 : zrf Try.prog 129 = some (.nilFunc) := by kernel_rfl
theorem tf_129 : TF Try.prog 129 1 8 (.nilFunc) := ⟨sz_129, by kernel_rfl, zr_129, by kernel_rfl, by decide⟩
theorem co_129 : Try.prog.concrete 129 = true := by kernel_rfl
theorem sz_130 : szf Try.prog 130 = some 1 := by kernel_rfl
theorem ag_130 : agf Try.prog 130 = some false := by kernel_rfl
theorem zr_130 : zrf Try.prog 130 = some (.nilFunc) := by kernel_rfl
theorem tf_130 : TF Try.prog 130 1 8 (.nilFunc) := ⟨sz_130, by kernel_rfl, zr_130, by kernel_rfl, by decide⟩
theorem co_130 : Try.prog.concrete 130 = true := by kernel_rfl
theorem sz_131 : szf Try.prog 131 = some 1 := by kernel_rfl
theorem ag_131 : agf Try.prog 131 = some false := by kernel_rfl
theorem zr_131 : zrf Try.prog 131 = some (.nilFunc) := by kernel_rfl
theorem tf_131 : TF Try.prog 131 1 8 (.nilFunc) := ⟨sz_131, by kernel_rfl, zr_131, by kernel_rfl, by decide⟩
theorem co_131 : Try.prog.concrete 131 = true := by kernel_rfl
theorem sz_132 : szf Try.prog 132 = some 1 := by kernel_rfl
theorem ag_132 : agf Try.prog 132 = some false := by kernel_rfl
theorem zr_132 : zrf Try.prog 132 = some (.slice none 0 0) := by kernel_rfl
theorem tf_132 : TF Try.prog 132 1 24 (.slice none 0 0) := ⟨sz_132, by kernel_rfl, zr_132, by kernel_rfl, by decide⟩
theorem co_132 : Try.prog.concrete 132 = true := by kernel_rfl
theorem sz_133 : szf Try.prog 133 = some 8 := by kernel_rfl
theorem ag_133 : agf Try.prog 133 = some true := by kernel_rfl
theorem zr_133 : zrf Try.prog 133 = some (.agg #[.slice none 0 0, .slice none 0 0, .int .i64 0, .int .i64 0, .int .u64 0, .int .u64 0, .slice none 0 0, .slice none 0 0]) := by kernel_rfl
theorem tf_133 : TF Try.prog 133 8 128 (.agg #[.slice none 0 0, .slice none 0 0, .int .i64 0, .int .i64 0, .int .u64 0, .int .u64 0, .slice none 0 0, .slice none 0 0]) := ⟨sz_133, by kernel_rfl, zr_133, by kernel_rfl, by decide⟩
theorem fo_133_0 : fof Try.prog 133 0 = some 0 := by kernel_rfl
theorem fv_133_0 : fvf Try.prog 133 0 = some (0, true, 2) := by kernel_rfl
theorem fo_133_1 : fof Try.prog 133 1 = some 2 := by kernel_rfl
theorem fv_133_1 : fvf Try.prog 133 1 = some (2, false, 1) := by kernel_rfl
theorem fo_133_2 : fof Try.prog 133 2 = some 3 := by kernel_rfl
theorem fv_133_2 : fvf Try.prog 133 2 = some (3, false, 1) := by kernel_rfl
theorem fo_133_3 : fof Try.prog 133 3 = some 4 := by kernel_rfl
theorem fv_133_3 : fvf Try.prog 133 3 = some (4, false, 1) := by kernel_rfl
theorem fo_133_4 : fof Try.prog 133 4 = some 5 := by kernel_rfl
theorem fv_133_4 : fvf Try.prog 133 4 = some (5, false, 1) := by kernel_rfl
theorem fo_133_5 : fof Try.prog 133 5 = some 6 := by kernel_rfl
theorem fv_133_5 : fvf Try.prog 133 5 = some (6, false, 1) := by kernel_rfl
theorem fo_133_6 : fof Try.prog 133 6 = some 7 := by kernel_rfl
theorem fv_133_6 : fvf Try.prog 133 6 = some (7, false, 1) := by kernel_rfl
theorem pl_133 : plc Try.prog 133 = some [(0, 2), (2, 1), (3, 1), (4, 1), (5, 1), (6, 1), (7, 1)] := by kernel_rfl
theorem co_133 : Try.prog.concrete 133 = true := by kernel_rfl
theorem sz_134 : szf Try.prog 134 = some 8 := by kernel_rfl
theorem ag_134 : agf Try.prog 134 = some true := by kernel_rfl
theorem zr_134 : zrf Try.prog 134 = some (.agg #[.slice none 0 0, .slice none 0 0, .int .i64 0, .int .i64 0, .int .u64 0, .int .u64 0, .slice none 0 0, .slice none 0 0]) := by kernel_rfl
theorem tf_134 : TF Try.prog 134 8 128 (.agg #[.slice none 0 0, .slice none 0 0, .int .i64 0, .int .i64 0, .int .u64 0, .int .u64 0, .slice none 0 0, .slice none 0 0]) := ⟨sz_134, by kernel_rfl, zr_134, by kernel_rfl, by decide⟩
theorem fo_134_0 : fof Try.prog 134 0 = some 0 := by kernel_rfl
theorem fv_134_0 : fvf Try.prog 134 0 = some (0, true, 2) := by kernel_rfl
theorem fo_134_1 : fof Try.prog 134 1 = some 2 := by kernel_rfl
theorem fv_134_1 : fvf Try.prog 134 1 = some (2, false, 1) := by kernel_rfl
theorem fo_134_2 : fof Try.prog 134 2 = some 3 := by kernel_rfl
theorem fv_134_2 : fvf Try.prog 134 2 = some (3, false, 1) := by kernel_rfl
theorem fo_134_3 : fof Try.prog 134 3 = some 4 := by kernel_rfl
theorem fv_134_3 : fvf Try.prog 134 3 = some (4, false, 1) := by kernel_rfl
theorem fo_134_4 : fof Try.prog 134 4 = some 5 := by kernel_rfl
theorem fv_134_4 : fvf Try.prog 134 4 = some (5, false, 1) := by kernel_rfl
theorem fo_134_5 : fof Try.prog 134 5 = some 6 := by kernel_rfl
theorem fv_134_5 : fvf Try.prog 134 5 = some (6, false, 1) := by kernel_rfl
theorem fo_134_6 : fof Try.prog 134 6 = some 7 := by kernel_rfl
theorem fv_134_6 : fvf Try.prog 134 6 = some (7, false, 1) := by kernel_rfl
theorem pl_134 : plc Try.prog 134 = some [(0, 2), (2, 1), (3, 1), (4, 1), (5, 1), (6, 1), (7, 1)] := by kernel_rfl
theorem co_134 : Try.prog.concrete 134 = true := by kernel_rfl
theorem sz_135 : szf Try.prog 135 = some 1 := by kernel_rfl
theorem ag_135 : agf Try.prog 135 = some false := by kernel_rfl
theorem zr_135 : zrf Try.prog 135 = some (.nilFunc) := by kernel_rfl
theorem tf_135 : TF Try.prog 135 1 8 (.nilFunc) := ⟨sz_135, by kernel_rfl, zr_135, by kernel_rfl, by decide⟩
theorem co_135 : Try.prog.concrete 135 = true := by kernel_rfl
theorem sz_136 : szf Try.prog 136 = some 1 := by kernel_rfl
theorem ag_136 : agf Try.prog 136 = some false := by kernel_rfl
theorem zr_136 : zrf Try.prog 136 = some (.nilFunc) := by kernel_rfl
theorem tf_136 : TF Try.prog 136 1 8 (.nilFunc) := ⟨sz_136, by kernel_rfl, zr_136, by kernel_rfl, by decide⟩
theorem co_136 : Try.prog.concrete 136 = true := by kernel_rfl
theorem sz_138 : szf Try.prog 138 = some 1 := by kernel_rfl
theorem ag_138 : agf Try.prog 138 = some false := by kernel_rfl
theorem zr_138 : zrf Try.prog 138 = some (.nilFunc) := by kernel_rfl
theorem tf_138 : TF Try.prog 138 1 8 (.nilFunc) := ⟨sz_138, by kernel_rfl, zr_138, by kernel_rfl, by decide⟩
theorem co_138 : Try.prog.concrete 138 = true := by kernel_rfl
theorem sz_139 : szf Try.prog 139 = some 1 := by kernel_rfl
theorem ag_139 : agf Try.prog 139 = some false := by kernel_rfl
theorem zr_139 : zrf Try.prog 139 = some (.nilFunc) := by kernel_rfl
theorem tf_139 : TF Try.prog 139 1 8 (.nilFunc) := ⟨sz_139, by kernel_rfl, zr_139, by kernel_rfl, by decide⟩
theorem co_139 : Try.prog.concrete 139 = true := by kernel_rfl
theorem sz_140 : szf Try.prog 140 = some 1 := by kernel_rfl
theorem ag_140 : agf Try.prog 140 = some false := by kernel_rfl
theorem zr_140 : zrf Try.prog 140 = some (.nilFunc) := by kernel_rfl
theorem tf_140 : TF Try.prog 140 1 8 (.nilFunc) := ⟨sz_140, by kernel_rfl, zr_140, by kernel_rfl, by decide⟩
theorem co_140 : Try.prog.concrete 140 = true := by kernel_rfl
theorem sz_141 : szf Try.prog 141 = some 1 := by kernel_rfl
theorem ag_141 : agf Try.prog 141 = some false := by kernel_rfl
theorem zr_141 : zrf Try.prog 141 = some (.nilFunc) := by kernel_rfl
theorem tf_141 : TF Try.prog 141 1 8 (.nilFunc) := ⟨sz_141, by kernel_rfl, zr_141, by kernel_rfl, by decide⟩
theorem co_141 : Try.prog.concrete 141 = true := by kernel_rfl
theorem sz_142 : szf Try.prog 142 = some 1 := by kernel_rfl
theorem ag_142 : agf Try.prog 142 = some false := by kernel_rfl
theorem zr_142 : zrf Try.prog 142 = some (.nilFunc) := by kernel_rfl
theorem tf_142 : TF Try.prog 142 1 8 (.nilFunc) := ⟨sz_142, by kernel_rfl, zr_142, by kernel_rfl, by decide⟩
theorem co_142 : Try.prog.concrete 142 = true := by kernel_rfl
theorem sz_143 : szf Try.prog 143 = some 1 := by kernel_rfl
theorem ag_143 : agf Try.prog 143 = some false := by kernel_rfl
theorem zr_143 : zrf Try.prog 143 = some (.nilFunc) := by kernel_rfl
theorem tf_143 : TF Try.prog 143 1 8 (.nilFunc) := ⟨sz_143, by kernel_rfl, zr_143, by kernel_rfl, by decide⟩
theorem co_143 : Try.prog.concrete 143 = true := by kernel_rfl
theorem sz_144 : szf Try.prog 144 = some 1 := by kernel_rfl
theorem ag_144 : agf Try.prog 144 = some false := by kernel_rfl
theorem zr_144 : zrf Try.prog 144 = some (.slice none 0 0) := by kernel_rfl
theorem tf_144 : TF Try.prog 144 1 24 (.slice none 0 0) := ⟨sz_144, by kernel_rfl, zr_144, by kernel_rfl, by decide⟩
theorem co_144 : Try.prog.concrete 144 = true := by kernel_rfl
theorem sz_145 : szf Try.prog 145 = some 2 := by kernel_rfl
theorem ag_145 : agf Try.prog 145 = some true := by kernel_rfl
theorem zr_145 : zrf Try.prog 145 = some (.agg #[.string ⟨#[]⟩, .slice none 0 0]) := by kernel_rfl
theorem tf_145 : TF Try.prog 145 2 40 (.agg #[.string ⟨#[]⟩, .slice none 0 0]) := ⟨sz_145, by kernel_rfl, zr_145, by kernel_rfl, by decide⟩
theorem fo_145_0 : fof Try.prog 145 0 = some 0 := by kernel_rfl
theorem fv_145_0 : fvf Try.prog 145 0 = some (0, false, 1) := by kernel_rfl
theorem fo_145_1 : fof Try.prog 145 1 = some 1 := by kernel_rfl
theorem fv_145_1 : fvf Try.prog 145 1 = some (1, false, 1) := by kernel_rfl
theorem pl_145 : plc Try.prog 145 = some [(0, 1), (1, 1)] := by kernel_rfl
theorem co_145 : Try.prog.concrete 145 = true := by kernel_rfl
theorem sz_146 : szf Try.prog 146 = some 2 := by kernel_rfl
theorem ag_146 : agf Try.prog 146 = some true := by kernel_rfl
theorem zr_146 : zrf Try.prog 146 = some (.agg #[.string ⟨#[]⟩, .slice none 0 0]) := by kernel_rfl
theorem tf_146 : TF Try.prog 146 2 40 (.agg #[.string ⟨#[]⟩, .slice none 0 0]) := ⟨sz_146, by kernel_rfl, zr_146, by kernel_rfl, by decide⟩
theorem fo_146_0 : fof Try.prog 146 0 = some 0 := by kernel_rfl
theorem fv_146_0 : fvf Try.prog 146 0 = some (0, false, 1) := by kernel_rfl
theorem fo_146_1 : fof Try.prog 146 1 = some 1 := by kernel_rfl
theorem fv_146_1 : fvf Try.prog 146 1 = some (1, false, 1) := by kernel_rfl
theorem pl_146 : plc Try.prog 146 = some [(0, 1), (1, 1)] := by kernel_rfl
theorem co_146 : Try.prog.concrete 146 = true := by kernel_rfl
theorem sz_148 : szf Try.prog 148 = some 1 := by kernel_rfl
theorem ag_148 : agf Try.prog 148 = some false := by kernel_rfl
theorem zr_148 : zrf Try.prog 148 = some (.nilFunc) := by kernel_rfl
theorem tf_148 : TF Try.prog 148 1 8 (.nilFunc) := ⟨sz_148, by kernel_rfl, zr_148, by kernel_rfl, by decide⟩
theorem co_148 : Try.prog.concrete 148 = true := by kernel_rfl
theorem sz_149 : szf Try.prog 149 = some 1 := by kernel_rfl
theorem ag_149 : agf Try.prog 149 = some false := by kernel_rfl
theorem zr_149 : zrf Try.prog 149 = some (.nilFunc) := by kernel_rfl
theorem tf_149 : TF Try.prog 149 1 8 (.nilFunc) := ⟨sz_149, by kernel_rfl, zr_149, by kernel_rfl, by decide⟩
theorem co_149 : Try.prog.concrete 149 = true := by kernel_rfl
theorem sz_150 : szf Try.prog 150 = some 1 := by kernel_rfl
theorem ag_150 : agf Try.prog 150 = some false := by kernel_rfl
theorem zr_150 : zrf Try.prog 150 = some (.slice none 0 0) := by kernel_rfl
theorem tf_150 : TF Try.prog 150 1 24 (.slice none 0 0) := ⟨sz_150, by kernel_rfl, zr_150, by kernel_rfl, by decide⟩
theorem co_150 : Try.prog.concrete 150 = true := by kernel_rfl
theorem sz_151 : szf Try.prog 151 = some 5 := by kernel_rfl
theorem ag_151 : agf Try.prog 151 = some true := by kernel_rfl
theorem zr_151 : zrf Try.prog 151 = some (.agg #[.string ⟨#[]⟩, .int .u64 0, .string ⟨#[]⟩, .string ⟨#[]⟩, .int .i64 0]) := by kernel_rfl
theorem tf_151 : TF Try.prog 151 5 64 (.agg #[.string ⟨#[]⟩, .int .u64 0, .string ⟨#[]⟩, .string ⟨#[]⟩, .int .i64 0]) := ⟨sz_151, by kernel_rfl, zr_151, by kernel_rfl, by decide⟩
theorem fo_151_0 : fof Try.prog 151 0 = some 0 := by kernel_rfl
theorem fv_151_0 : fvf Try.prog 151 0 = some (0, false, 1) := by kernel_rfl
theorem fo_151_1 : fof Try.prog 151 1 = some 1 := by kernel_rfl
theorem fv_151_1 : fvf Try.prog 151 1 = some (1, false, 1) := by kernel_rfl
theorem fo_151_2 : fof Try.prog 151 2 = some 2 := by kernel_rfl
theorem fv_151_2 : fvf Try.prog 151 2 = some (2, false, 1) := by kernel_rfl
theorem fo_151_3 : fof Try.prog 151 3 = some 3 := by kernel_rfl
theorem fv_151_3 : fvf Try.prog 151 3 = some (3, false, 1) := by kernel_rfl
theorem fo_151_4 : fof Try.prog 151 4 = some 4 := by kernel_rfl
theorem fv_151_4 : fvf Try.prog 151 4 = some (4, false, 1) := by kernel_rfl
theorem pl_151 : plc Try.prog 151 = some [(0, 1), (1, 1), (2, 1), (3, 1), (4, 1)] := by kernel_rfl
theorem co_151 : Try.prog.concrete 151 = true := by kernel_rfl
theorem sz_152 : szf Try.prog 152 = some 5 := by kernel_rfl
theorem ag_152 : agf Try.prog 152 = some true := by kernel_rfl
theorem zr_152 : zrf Try.prog 152 = some (.agg #[.string ⟨#[]⟩, .int .u64 0, .string ⟨#[]⟩, .string ⟨#[]⟩, .int .i64 0]) := by kernel_rfl
theorem tf_152 : TF Try.prog 152 5 64 (.agg #[.string ⟨#[]⟩, .int .u64 0, .string ⟨#[]⟩, .string ⟨#[]⟩, .int .i64 0]) := ⟨sz_152, by kernel_rfl, zr_152, by kernel_rfl, by decide⟩
theorem fo_152_0 : fof Try.prog 152 0 = some 0 := by kernel_rfl
theorem fv_152_0 : fvf Try.prog 152 0 = some (0, false, 1) := by kernel_rfl
theorem fo_152_1 : fof Try.prog 152 1 = some 1 := by kernel_rfl
theorem fv_152_1 : fvf Try.prog 152 1 = some (1, false, 1) := by kernel_rfl
theorem fo_152_2 : fof Try.prog 152 2 = some 2 := by kernel_rfl
theorem fv_152_2 : fvf Try.prog 152 2 = some (2, false, 1) := by kernel_rfl
theorem fo_152_3 : fof Try.prog 152 3 = some 3 := by kernel_rfl
theorem fv_152_3 : fvf Try.prog 152 3 = some (3, false, 1) := by kernel_rfl
theorem fo_152_4 : fof Try.prog 152 4 = some 4 := by kernel_rfl
theorem fv_152_4 : fvf Try.prog 152 4 = some (4, false, 1) := by kernel_rfl
theorem pl_152 : plc Try.prog 152 = some [(0, 1), (1, 1), (2, 1), (3, 1), (4, 1)] := by kernel_rfl
theorem co_152 : Try.prog.concrete 152 = true := by kernel_rfl
theorem sz_153 : szf Try.prog 153 = some 1 := by kernel_rfl
theorem ag_153 : agf Try.prog 153 = some false := by kernel_rfl
theorem zr_153 : zrf Try.prog 153 = some (.nilFunc) := by kernel_rfl
theorem tf_153 : TF Try.prog 153 1 8 (.nilFunc) := ⟨sz_153, by kernel_rfl, zr_153, by kernel_rfl, by decide⟩
theorem co_153 : Try.prog.concrete 153 = true := by kernel_rfl
theorem sz_154 : szf Try.prog 154 = some 1 := by kernel_rfl
theorem ag_154 : agf Try.prog 154 = some true := by kernel_rfl
theorem zr_154 : zrf Try.prog 154 = some (.agg #[.slice none 0 0]) := by kernel_rfl
theorem tf_154 : TF Try.prog 154 1 24 (.agg #[.slice none 0 0]) := ⟨sz_154, by kernel_rfl, zr_154, by kernel_rfl, by decide⟩
theorem fo_154_0 : fof Try.prog 154 0 = some 0 := by kernel_rfl
theorem fv_154_0 : fvf Try.prog 154 0 = some (0, false, 1) := by kernel_rfl
theorem pl_154 : plc Try.prog 154 = some [(0, 1)] := by kernel_rfl
theorem co_154 : Try.prog.concrete 154 = true := by kernel_rfl
theorem sz_155 : szf Try.prog 155 = some 1 := by kernel_rfl
theorem ag_155 : agf Try.prog 155 = some true := by kernel_rfl
theorem zr_155 : zrf Try.prog 155 = some (.agg #[.slice none 0 0]) := by kernel_rfl
theorem tf_155 : TF Try.prog 155 1 24 (.agg #[.slice none 0 0]) := ⟨sz_155, by kernel_rfl, zr_155, by kernel_rfl, by decide⟩
theorem fo_155_0 : fof Try.prog 155 0 = some 0 := by kernel_rfl
theorem fv_155_0 : fvf Try.prog 155 0 = some (0, false, 1) := by kernel_rfl
theorem pl_155 : plc Try.prog 155 = some [(0, 1)] := by kernel_rfl
theorem co_155 : Try.prog.concrete 155 = true := by kernel_rfl
theorem sz_156 : szf Try.prog 156 = some 1 := by kernel_rfl
theorem ag_156 : agf Try.prog 156 = some false := by kernel_rfl
theorem zr_156 : zrf Try.prog 156 = some (.nilFunc) := by kernel_rfl
theorem tf_156 : TF Try.prog 156 1 8 (.nilFunc) := ⟨sz_156, by kernel_rfl, zr_156, by kernel_rfl, by decide⟩
theorem co_156 : Try.prog.concrete 156 = true := by kernel_rfl
theorem sz_157 : szf Try.prog 157 = some 4 := by kernel_rfl
theorem ag_157 : agf Try.prog 157 = some true := by kernel_rfl
theorem zr_157 : zrf Try.prog 157 = some (.agg #[.string ⟨#[]⟩, .int .u64 0, .bool false, .string ⟨#[]⟩]) := by kernel_rfl
theorem tf_157 : TF Try.prog 157 4 48 (.agg #[.string ⟨#[]⟩, .int .u64 0, .bool false, .string ⟨#[]⟩]) := ⟨sz_157, by kernel_rfl, zr_157, by kernel_rfl, by decide⟩
theorem fo_157_0 : fof Try.prog 157 0 = some 0 := by kernel_rfl
theorem fv_157_0 : fvf Try.prog 157 0 = some (0, false, 1) := by kernel_rfl
theorem fo_157_1 : fof Try.prog 157 1 = some 1 := by kernel_rfl
theorem fv_157_1 : fvf Try.prog 157 1 = some (1, true, 3) := by kernel_rfl
theorem pl_157 : plc Try.prog 157 = some [(0, 1), (1, 3)] := by kernel_rfl
theorem co_157 : Try.prog.concrete 157 = true := by kernel_rfl
theorem sz_158 : szf Try.prog 158 = some 4 := by kernel_rfl
theorem ag_158 : agf Try.prog 158 = some true := by kernel_rfl
theorem zr_158 : zrf Try.prog 158 = some (.agg #[.string ⟨#[]⟩, .int .u64 0, .bool false, .string ⟨#[]⟩]) := by kernel_rfl
theorem tf_158 : TF Try.prog 158 4 48 (.agg #[.string ⟨#[]⟩, .int .u64 0, .bool false, .string ⟨#[]⟩]) := ⟨sz_158, by kernel_rfl, zr_158, by kernel_rfl, by decide⟩
theorem fo_158_0 : fof Try.prog 158 0 = some 0 := by kernel_rfl
theorem fv_158_0 : fvf Try.prog 158 0 = some (0, false, 1) := by kernel_rfl
theorem fo_158_1 : fof Try.prog 158 1 = some 1 := by kernel_rfl
theorem fv_158_1 : fvf Try.prog 158 1 = some (1, true, 3) := by kernel_rfl
theorem pl_158 : plc Try.prog 158 = some [(0, 1), (1, 3)] := by kernel_rfl
theorem co_158 : Try.prog.concrete 158 = true := by kernel_rfl
theorem sz_160 : szf Try.prog 160 = some 1 := by kernel_rfl
theorem ag_160 : agf Try.prog 160 = some false := by kernel_rfl
theorem zr_160 : zrf Try.prog 160 = some (.nilFunc) := by kernel_rfl
theorem tf_160 : TF Try.prog 160 1 8 (.nilFunc) := ⟨sz_160, by kernel_rfl, zr_160, by kernel_rfl, by decide⟩
theorem co_160 : Try.prog.concrete 160 = true := by kernel_rfl
theorem sz_161 : szf Try.prog 161 = some 1 := by kernel_rfl
theorem ag_161 : agf Try.prog 161 = some false := by kernel_rfl
theorem zr_161 : zrf Try.prog 161 = some (.nilFunc) := by kernel_rfl
theorem tf_161 : TF Try.prog 161 1 8 (.nilFunc) := ⟨sz_161, by kernel_rfl, zr_161, by kernel_rfl, by decide⟩
theorem co_161 : Try.prog.concrete 161 = true := by kernel_rfl
theorem sz_162 : szf Try.prog 162 = some 1 := by kernel_rfl
theorem ag_162 : agf Try.prog 162 = some false := by kernel_rfl
theorem zr_162 : zrf Try.prog 162 = some (.nilFunc) := by kernel_rfl
theorem tf_162 : TF Try.prog 162 1 8 (.nilFunc) := ⟨sz_162, by kernel_rfl, zr_162, by kernel_rfl, by decide⟩
theorem co_162 : Try.prog.concrete 162 = true := by kernel_rfl
theorem sz_164 : szf Try.prog 164 = some 1 := by kernel_rfl
theorem ag_164 : agf Try.prog 164 = some false := by kernel_rfl
theorem zr_164 : zrf Try.prog 164 = some (.nilFunc) := by kernel_rfl
theorem tf_164 : TF Try.prog 164 1 8 (.nilFunc) := ⟨sz_164, by kernel_rfl, zr_164, by kernel_rfl, by decide⟩
theorem co_164 : Try.prog.concrete 164 = true := by kernel_rfl
theorem sz_165 : szf Try.prog 165 = some 1 := by kernel_rfl
theorem ag_165 : agf Try.prog 165 = some false := by kernel_rfl
theorem zr_165 : zrf Try.prog 165 = some (.nilFunc) := by kernel_rfl
theorem tf_165 : TF Try.prog 165 1 8 (.nilFunc) := ⟨sz_165, by kernel_rfl, zr_165, by kernel_rfl, by decide⟩
theorem co_165 : Try.prog.concrete 165 = true := by kernel_rfl
theorem sz_166 : szf Try.prog 166 = some 1 := by kernel_rfl
theorem ag_166 : agf Try.prog 166 = some false := by kernel_rfl
theorem zr_166 : zrf Try.prog 166 = some (.nilFunc) := by kernel_rfl
theorem tf_166 : TF Try.prog 166 1 8 (.nilFunc) := ⟨sz_166, by kernel_rfl, zr_166, by kernel_rfl, by decide⟩
theorem co_166 : Try.prog.concrete 166 = true := by kernel_rfl
theorem sz_167 : szf Try.prog 167 = some 3 := by kernel_rfl
theorem ag_167 : agf Try.prog 167 = some true := by kernel_rfl
theorem zr_167 : zrf Try.prog 167 = some (.agg #[.string ⟨#[]⟩, .bool false, .string ⟨#[]⟩]) := by kernel_rfl
theorem tf_167 : TF Try.prog 167 3 40 (.agg #[.string ⟨#[]⟩, .bool false, .string ⟨#[]⟩]) := ⟨sz_167, by kernel_rfl, zr_167, by kernel_rfl, by decide⟩
theorem fo_167_0 : fof Try.prog 167 0 = some 0 := by kernel_rfl
theorem fv_167_0 : fvf Try.prog 167 0 = some (0, false, 1) := by kernel_rfl
theorem fo_167_1 : fof Try.prog 167 1 = some 1 := by kernel_rfl
theorem fv_167_1 : fvf Try.prog 167 1 = some (1, false, 1) := by kernel_rfl
theorem fo_167_2 : fof Try.prog 167 2 = some 2 := by kernel_rfl
theorem fv_167_2 : fvf Try.prog 167 2 = some (2, false, 1) := by kernel_rfl
theorem pl_167 : plc Try.prog 167 = some [(0, 1), (1, 1), (2, 1)] := by kernel_rfl
theorem co_167 : Try.prog.concrete 167 = true := by kernel_rfl
theorem sz_168 : szf Try.prog 168 = some 3 := by kernel_rfl
theorem ag_168 : agf Try.prog 168 = some true := by kernel_rfl
theorem zr_168 : zrf Try.prog 168 = some (.agg #[.string ⟨#[]⟩, .bool false, .string ⟨#[]⟩]) := by kernel_rfl
theorem tf_168 : TF Try.prog 168 3 40 (.agg #[.string ⟨#[]⟩, .bool false, .string ⟨#[]⟩]) := ⟨sz_168, by kernel_rfl, zr_168, by kernel_rfl, by decide⟩
theorem fo_168_0 : fof Try.prog 168 0 = some 0 := by kernel_rfl
theorem fv_168_0 : fvf Try.prog 168 0 = some (0, false, 1) := by kernel_rfl
theorem fo_168_1 : fof Try.prog 168 1 = some 1 := by kernel_rfl
theorem fv_168_1 : fvf Try.prog 168 1 = some (1, false, 1) := by kernel_rfl
theorem fo_168_2 : fof Try.prog 168 2 = some 2 := by kernel_rfl
theorem fv_168_2 : fvf Try.prog 168 2 = some (2, false, 1) := by kernel_rfl
theorem pl_168 : plc Try.prog 168 = some [(0, 1), (1, 1), (2, 1)] := by kernel_rfl
theorem co_168 : Try.prog.concrete 168 = true := by kernel_rfl
theorem sz_169 : szf Try.prog 169 = some 1 := by kernel_rfl
theorem ag_169 : agf Try.prog 169 = some false := by kernel_rfl
theorem zr_169 : zrf Try.prog 169 = some (.pointer none) := by kernel_rfl
theorem tf_169 : TF Try.prog 169 1 8 (.pointer none) := ⟨sz_169, by kernel_rfl, zr_169, by kernel_rfl, by decide⟩
theorem co_169 : Try.prog.concrete 169 = true := by kernel_rfl
theorem sz_170 : szf Try.prog 170 = some 20 := by kernel_rfl
theorem ag_170 : agf Try.prog 170 = some true := by kernel_rfl
theorem zr_170 : zrf Try.prog 170 = some (.agg #[.int .i64 0, .int .i64 0, .int .i64 0, .int .i64 0, .int .i64 0, .int .i64 0, .int .u64 0, .int .u64 0, .string ⟨#[]⟩, .bool false, .int .u64 0, .bool false, .string ⟨#[]⟩, .slice none 0 0, .string ⟨#[]⟩, .int .u64 0, .int .u64 0, .int .i64 0, .bool false, .bool false]) := by kernel_rfl
theorem tf_170 : TF Try.prog 170 20 192 (.agg #[.int .i64 0, .int .i64 0, .int .i64 0, .int .i64 0, .int .i64 0, .int .i64 0, .int .u64 0, .int .u64 0, .string ⟨#[]⟩, .bool false, .int .u64 0, .bool false, .string ⟨#[]⟩, .slice none 0 0, .string ⟨#[]⟩, .int .u64 0, .int .u64 0, .int .i64 0, .bool false, .bool false]) := ⟨sz_170, by kernel_rfl, zr_170, by kernel_rfl, by decide⟩
theorem fo_170_0 : fof Try.prog 170 0 = some 0 := by kernel_rfl
theorem fv_170_0 : fvf Try.prog 170 0 = some (0, true, 17) := by kernel_rfl
theorem fo_170_1 : fof Try.prog 170 1 = some 17 := by kernel_rfl
theorem fv_170_1 : fvf Try.prog 170 1 = some (17, false, 1) := by kernel_rfl
theorem fo_170_2 : fof Try.prog 170 2 = some 18 := by kernel_rfl
theorem fv_170_2 : fvf Try.prog 170 2 = some (18, false, 1) := by kernel_rfl
theorem fo_170_3 : fof Try.prog 170 3 = some 19 := by kernel_rfl
theorem fv_170_3 : fvf Try.prog 170 3 = some (19, false, 1) := by kernel_rfl
theorem pl_170 : plc Try.prog 170 = some [(0, 17), (17, 1), (18, 1), (19, 1)] := by kernel_rfl
theorem co_170 : Try.prog.concrete 170 = true := by kernel_rfl
theorem sz_171 : szf Try.prog 171 = some 20 := by kernel_rfl
theorem ag_171 : agf Try.prog 171 = some true := by kernel_rfl
theorem zr_171 : zrf Try.prog 171 = some (.agg #[.int .i64 0, .int .i64 0, .int .i64 0, .int .i64 0, .int .i64 0, .int .i64 0, .int .u64 0, .int .u64 0, .string ⟨#[]⟩, .bool false, .int .u64 0, .bool false, .string ⟨#[]⟩, .slice none 0 0, .string ⟨#[]⟩, .int .u64 0, .int .u64 0, .int .i64 0, .bool false, .bool false]) := by kernel_rfl
theorem tf_171 : TF Try.prog 171 20 192 (.agg #[.int .i64 0, .int .i64 0, .int .i64 0, .int .i64 0, .int .i64 0, .int .i64 0, .int .u64 0, .int .u64 0, .string ⟨#[]⟩, .bool false, .int .u64 0, .bool false, .string ⟨#[]⟩, .slice none 0 0, .string ⟨#[]⟩, .int .u64 0, .int .u64 0, .int .i64 0, .bool false, .bool false]) := ⟨sz_171, by kernel_rfl, zr_171, by kernel_rfl, by decide⟩
theorem fo_171_0 : fof Try.prog 171 0 = some 0 := by kernel_rfl
theorem fv_171_0 : fvf Try.prog 171 0 = some (0, true, 17) := by kernel_rfl
theorem fo_171_1 : fof Try.prog 171 1 = some 17 := by kernel_rfl
theorem fv_171_1 : fvf Try.prog 171 1 = some (17, false, 1) := by kernel_rfl
theorem fo_171_2 : fof Try.prog 171 2 = some 18 := by kernel_rfl
theorem fv_171_2 : fvf Try.prog 171 2 = some (18, false, 1) := by kernel_rfl
theorem fo_171_3 : fof Try.prog 171 3 = some 19 := by kernel_rfl
theorem fv_171_3 : fvf Try.prog 171 3 = some (19, false, 1) := by kernel_rfl
theorem pl_171 : plc Try.prog 171 = some [(0, 17), (17, 1), (18, 1), (19, 1)] := by kernel_rfl
theorem co_171 : Try.prog.concrete 171 = true := by kernel_rfl
theorem sz_172 : szf Try.prog 172 = some 1 := by kernel_rfl
theorem ag_172 : agf Try.prog 172 = some false := by kernel_rfl
theorem zr_172 : zrf Try.prog 172 = some (.pointer none) := by kernel_rfl
theorem tf_172 : TF Try.prog 172 1 8 (.pointer none) := ⟨sz_172, by kernel_rfl, zr_172, by kernel_rfl, by decide⟩
theorem co_172 : Try.prog.concrete 172 = true := by kernel_rfl
theorem sz_173 : szf Try.prog 173 = some 1 := by kernel_rfl
theorem ag_173 : agf Try.prog 173 = some false := by kernel_rfl
theorem zr_173 : zrf Try.prog 173 = some (.nilFunc) := by kernel_rfl
theorem tf_173 : TF Try.prog 173 1 8 (.nilFunc) := ⟨sz_173, by kernel_rfl, zr_173, by kernel_rfl, by decide⟩
theorem co_173 : Try.prog.concrete 173 = true := by kernel_rfl
theorem sz_174 : szf Try.prog 174 = some 1 := by kernel_rfl
theorem ag_174 : agf Try.prog 174 = some false := by kernel_rfl
theorem zr_174 : zrf Try.prog 174 = some (.nilFunc) := by kernel_rfl
theorem tf_174 : TF Try.prog 174 1 8 (.nilFunc) := ⟨sz_174, by kernel_rfl, zr_174, by kernel_rfl, by decide⟩
theorem co_174 : Try.prog.concrete 174 = true := by kernel_rfl
theorem sz_175 : szf Try.prog 175 = some 1 := by kernel_rfl
theorem ag_175 : agf Try.prog 175 = some false := by kernel_rfl
theorem zr_175 : zrf Try.prog 175 = some (.nilFunc) := by kernel_rfl
theorem tf_175 : TF Try.prog 175 1 8 (.nilFunc) := ⟨sz_175, by kernel_rfl, zr_175, by kernel_rfl, by decide⟩
theorem co_175 : Try.prog.concrete 175 = true := by kernel_rfl
theorem sz_176 : szf Try.prog 176 = some 1 := by kernel_rfl
theorem ag_176 : agf Try.prog 176 = some false := by kernel_rfl
theorem zr_176 : zrf Try.prog 176 = some (.nilFunc) := by kernel_rfl
theorem tf_176 : TF Try.prog 176 1 8 (.nilFunc) := ⟨sz_176, by kernel_rfl, zr_176, by kernel_rfl, by decide⟩
theorem co_176 : Try.prog.concrete 176 = true := by kernel_rfl
theorem sz_177 : szf Try.prog 177 = some 1 := by kernel_rfl
theorem ag_177 : agf Try.prog 177 = some false := by kernel_rfl
theorem zr_177 : zrf Try.prog 177 = some (.nilFunc) := by kernel_rfl
theorem tf_177 : TF Try.prog 177 1 8 (.nilFunc) := ⟨sz_177, by kernel_rfl, zr_177, by kernel_rfl, by decide⟩
theorem co_177 : Try.prog.concrete 177 = true := by kernel_rfl
theorem sz_178 : szf Try.prog 178 = some 1 := by kernel_rfl
theorem ag_178 : agf Try.prog 178 = some false := by kernel_rfl
theorem zr_178 : zrf Try.prog 178 = some (.nilFunc) := by kernel_rfl
theorem tf_178 : TF Try.prog 178 1 8 (.nilFunc) := ⟨sz_178, by kernel_rfl, zr_178, by kernel_rfl, by decide⟩
theorem co_178 : Try.prog.concrete 178 = true := by kernel_rfl
theorem sz_179 : szf Try.prog 179 = some 1 := by kernel_rfl
theorem ag_179 : agf Try.prog 179 = some false := by kernel_rfl
theorem zr_179 : zrf Try.prog 179 = some (.nilFunc) := by kernel_rfl
theorem tf_179 : TF Try.prog 179 1 8 (.nilFunc) := ⟨sz_179, by kernel_rfl, zr_179, by kernel_rfl, by decide⟩
theorem co_179 : Try.prog.concrete 179 = true := by kernel_rfl
theorem sz_180 : szf Try.prog 180 = some 1 := by kernel_rfl
theorem ag_180 : agf Try.prog 180 = some false := by kernel_rfl
theorem zr_180 : zrf Try.prog 180 = some (.map none) := by kernel_rfl
theorem tf_180 : TF Try.prog 180 1 8 (.map none) := ⟨sz_180, by kernel_rfl, zr_180, by kernel_rfl, by decide⟩
theorem co_180 : Try.prog.concrete 180 = true := by kernel_rfl
theorem sz_181 : szf Try.prog 181 = some 1 := by kernel_rfl
theorem ag_181 : agf Try.prog 181 = some false := by kernel_rfl
theorem zr_181 : zrf Try.prog 181 = some (.map none) := by kernel_rfl
theorem tf_181 : TF Try.prog 181 1 8 (.map none) := ⟨sz_181, by kernel_rfl, zr_181, by kernel_rfl, by decide⟩
theorem co_181 : Try.prog.concrete 181 = true := by kernel_rfl
theorem sz_182 : szf Try.prog 182 = some 3 := by kernel_rfl
theorem ag_182 : agf Try.prog 182 = some true := by kernel_rfl
theorem zr_182 : zrf Try.prog 182 = some (.agg #[.pointer none, .map none, .map none]) := by kernel_rfl
theorem tf_182 : TF Try.prog 182 3 24 (.agg #[.pointer none, .map none, .map none]) := ⟨sz_182, by kernel_rfl, zr_182, by kernel_rfl, by decide⟩
theorem fo_182_0 : fof Try.prog 182 0 = some 0 := by kernel_rfl
theorem fv_182_0 : fvf Try.prog 182 0 = some (0, false, 1) := by kernel_rfl
theorem fo_182_1 : fof Try.prog 182 1 = some 1 := by kernel_rfl
theorem fv_182_1 : fvf Try.prog 182 1 = some (1, false, 1) := by kernel_rfl
theorem fo_182_2 : fof Try.prog 182 2 = some 2 := by kernel_rfl
theorem fv_182_2 : fvf Try.prog 182 2 = some (2, false, 1) := by kernel_rfl
theorem pl_182 : plc Try.prog 182 = some [(0, 1), (1, 1), (2, 1)] := by kernel_rfl
theorem co_182 : Try.prog.concrete 182 = true := by kernel_rfl
theorem sz_183 : szf Try.prog 183 = some 3 := by kernel_rfl
theorem ag_183 : agf Try.prog 183 = some true := by kernel_rfl
theorem zr_183 : zrf Try.prog 183 = some (.agg #[.pointer none, .map none, .map none]) := by kernel_rfl
theorem tf_183 : TF Try.prog 183 3 24 (.agg #[.pointer none, .map none, .map none]) := ⟨sz_183, by kernel_rfl, zr_183, by kernel_rfl, by decide⟩
theorem fo_183_0 : fof Try.prog 183 0 = some 0 := by kernel_rfl
theorem fv_183_0 : fvf Try.prog 183 0 = some (0, false, 1) := by kernel_rfl
theorem fo_183_1 : fof Try.prog 183 1 = some 1 := by kernel_rfl
theorem fv_183_1 : fvf Try.prog 183 1 = some (1, false, 1) := by kernel_rfl
theorem fo_183_2 : fof Try.prog 183 2 = some 2 := by kernel_rfl
theorem fv_183_2 : fvf Try.prog 183 2 = some (2, false, 1) := by kernel_rfl
theorem pl_183 : plc Try.prog 183 = some [(0, 1), (1, 1), (2, 1)] := by kernel_rfl
theorem co_183 : Try.prog.concrete 183 = true := by kernel_rfl
theorem sz_184 : szf Try.prog 184 = some 1 := by kernel_rfl
theorem ag_184 : agf Try.prog 184 = some true := by kernel_rfl
theorem zr_184 : zrf Try.prog 184 = some (.agg #[.slice none 0 0]) := by kernel_rfl
theorem tf_184 : TF Try.prog 184 1 24 (.agg #[.slice none 0 0]) := ⟨sz_184, by kernel_rfl, zr_184, by kernel_rfl, by decide⟩
theorem fo_184_0 : fof Try.prog 184 0 = some 0 := by kernel_rfl
theorem fv_184_0 : fvf Try.prog 184 0 = some (0, false, 1) := by kernel_rfl
theorem pl_184 : plc Try.prog 184 = some [(0, 1)] := by kernel_rfl
theorem co_184 : Try.prog.concrete 184 = true := by kernel_rfl
theorem sz_185 : szf Try.prog 185 = some 1 := by kernel_rfl
theorem ag_185 : agf Try.prog 185 = some true := by kernel_rfl
theorem zr_185 : zrf Try.prog 185 = some (.agg #[.slice none 0 0]) := by kernel_rfl
theorem tf_185 : TF Try.prog 185 1 24 (.agg #[.slice none 0 0]) := ⟨sz_185, by kernel_rfl, zr_185, by kernel_rfl, by decide⟩
theorem fo_185_0 : fof Try.prog 185 0 = some 0 := by kernel_rfl
theorem fv_185_0 : fvf Try.prog 185 0 = some (0, false, 1) := by kernel_rfl
theorem pl_185 : plc Try.prog 185 = some [(0, 1)] := by kernel_rfl
theorem co_185 : Try.prog.concrete 185 = true := by kernel_rfl
theorem sz_186 : szf Try.prog 186 = some 2 := by kernel_rfl
theorem ag_186 : agf Try.prog 186 = some true := by kernel_rfl
theorem zr_186 : zrf Try.prog 186 = some (.agg #[.int .u64 0, .slice none 0 0]) := by kernel_rfl
theorem tf_186 : TF Try.prog 186 2 32 (.agg #[.int .u64 0, .slice none 0 0]) := ⟨sz_186, by kernel_rfl, zr_186, by kernel_rfl, by decide⟩
theorem fo_186_0 : fof Try.prog 186 0 = some 0 := by kernel_rfl
theorem fv_186_0 : fvf Try.prog 186 0 = some (0, false, 1) := by kernel_rfl
theorem fo_186_1 : fof Try.prog 186 1 = some 1 := by kernel_rfl
theorem fv_186_1 : fvf Try.prog 186 1 = some (1, false, 1) := by kernel_rfl
theorem pl_186 : plc Try.prog 186 = some [(0, 1), (1, 1)] := by kernel_rfl
theorem co_186 : Try.prog.concrete 186 = true := by kernel_rfl
theorem sz_187 : szf Try.prog 187 = some 2 := by kernel_rfl
theorem ag_187 : agf Try.prog 187 = some true := by kernel_rfl
theorem zr_187 : zrf Try.prog 187 = some (.agg #[.int .u64 0, .slice none 0 0]) := by kernel_rfl
theorem tf_187 : TF Try.prog 187 2 32 (.agg #[.int .u64 0, .slice none 0 0]) := ⟨sz_187, by kernel_rfl, zr_187, by kernel_rfl, by decide⟩
theorem fo_187_0 : fof Try.prog 187 0 = some 0 := by kernel_rfl
theorem fv_187_0 : fvf Try.prog 187 0 = some (0, false, 1) := by kernel_rfl
theorem fo_187_1 : fof Try.prog 187 1 = some 1 := by kernel_rfl
theorem fv_187_1 : fvf Try.prog 187 1 = some (1, false, 1) := by kernel_rfl
theorem pl_187 : plc Try.prog 187 = some [(0, 1), (1, 1)] := by kernel_rfl
theorem co_187 : Try.prog.concrete 187 = true := by kernel_rfl
theorem sz_189 : szf Try.prog 189 = some 1 := by kernel_rfl
theorem ag_189 : agf Try.prog 189 = some false := by kernel_rfl
theorem zr_189 : zrf Try.prog 189 = some (.nilFunc) := by kernel_rfl
theorem tf_189 : TF Try.prog 189 1 8 (.nilFunc) := ⟨sz_189, by kernel_rfl, zr_189, by kernel_rfl, by decide⟩
theorem co_189 : Try.prog.concrete 189 = true := by kernel_rfl
theorem sz_190 : szf Try.prog 190 = some 1 := by kernel_rfl
theorem ag_190 : agf Try.prog 190 = some false := by kernel_rfl
theorem zr_190 : zrf Try.prog 190 = some (.nilFunc) := by kernel_rfl
theorem tf_190 : TF Try.prog 190 1 8 (.nilFunc) := ⟨sz_190, by kernel_rfl, zr_190, by kernel_rfl, by decide⟩
theorem co_190 : Try.prog.concrete 190 = true := by kernel_rfl
theorem sz_191 : szf Try.prog 191 = some 1 := by kernel_rfl
theorem ag_191 : agf Try.prog 191 = some false := by kernel_rfl
theorem zr_191 : zrf Try.prog 191 = some (.nilFunc) := by kernel_rfl
theorem tf_191 : TF Try.prog 191 1 8 (.nilFunc) := ⟨sz_191, by kernel_rfl, zr_191, by kernel_rfl, by decide⟩
theorem co_191 : Try.prog.concrete 191 = true := by kernel_rfl
theorem sz_192 : szf Try.prog 192 = some 1 := by kernel_rfl
theorem ag_192 : agf Try.prog 192 = some false := by kernel_rfl
theorem zr_192 : zrf Try.prog 192 = some (.nilFunc) := by kernel_rfl
theorem tf_192 : TF Try.prog 192 1 8 (.nilFunc) := ⟨sz_192, by kernel_rfl, zr_192, by kernel_rfl, by decide⟩
theorem co_192 : Try.prog.concrete 192 = true := by kernel_rfl
theorem sz_193 : szf Try.prog 193 = some 1 := by kernel_rfl
theorem ag_193 : agf Try.prog 193 = some false := by kernel_rfl
theorem zr_193 : zrf Try.prog 193 = some (.int .u64 0) := by kernel_rfl
theorem tf_193 : TF Try.prog 193 1 8 (.int .u64 0) := ⟨sz_193, by kernel_rfl, zr_193, by kernel_rfl, by decide⟩
theorem co_193 : Try.prog.concrete 193 = true := by kernel_rfl
theorem sz_194 : szf Try.prog 194 = some 1 := by kernel_rfl
theorem ag_194 : agf Try.prog 194 = some false := by kernel_rfl
theorem zr_194 : zrf Try.prog 194 = some (.nilFunc) := by kernel_rfl
theorem tf_194 : TF Try.prog 194 1 8 (.nilFunc) := ⟨sz_194, by kernel_rfl, zr_194, by kernel_rfl, by decide⟩
theorem co_194 : Try.prog.concrete 194 = true := by kernel_rfl
theorem sz_195 : szf Try.prog 195 = some 1 := by kernel_rfl
theorem ag_195 : agf Try.prog 195 = some false := by kernel_rfl
theorem zr_195 : zrf Try.prog 195 = some (.nilFunc) := by kernel_rfl
theorem tf_195 : TF Try.prog 195 1 8 (.nilFunc) := ⟨sz_195, by kernel_rfl, zr_195, by kernel_rfl, by decide⟩
theorem co_195 : Try.prog.concrete 195 = true := by kernel_rfl
theorem sz_196 : szf Try.prog 196 = some 1 := by kernel_rfl
theorem ag_196 : agf Try.prog 196 = some false := by kernel_rfl
theorem zr_196 : zrf Try.prog 196 = some (.nilFunc) := by kernel_rfl
theorem tf_196 : TF Try.prog 196 1 8 (.nilFunc) := ⟨sz_196, by kernel_rfl, zr_196, by kernel_rfl, by decide⟩
theorem co_196 : Try.prog.concrete 196 = true := by kernel_rfl
theorem sz_197 : szf Try.prog 197 = some 1 := by kernel_rfl
theorem ag_197 : agf Try.prog 197 = some false := by kernel_rfl
theorem zr_197 : zrf Try.prog 197 = some (.nilFunc) := by kernel_rfl
theorem tf_197 : TF Try.prog 197 1 8 (.nilFunc) := ⟨sz_197, by kernel_rfl, zr_197, by kernel_rfl, by decide⟩
theorem co_197 : Try.prog.concrete 197 = true := by kernel_rfl
theorem sz_198 : szf Try.prog 198 = some 1 := by kernel_rfl
theorem ag_198 : agf Try.prog 198 = some false := by kernel_rfl
theorem zr_198 : zrf Try.prog 198 = some (.pointer none) := by kernel_rfl
theorem tf_198 : TF Try.prog 198 1 8 (.pointer none) := ⟨sz_198, by kernel_rfl, zr_198, by kernel_rfl, by decide⟩
theorem co_198 : Try.prog.concrete 198 = true := by kernel_rfl
theorem sz_199 : szf Try.prog 199 = some 2 := by kernel_rfl
theorem ag_199 : agf Try.prog 199 = some true := by kernel_rfl
theorem zr_199 : zrf Try.prog 199 = some (.agg #[.pointer none, .slice none 0 0]) := by kernel_rfl
theorem tf_199 : TF Try.prog 199 2 32 (.agg #[.pointer none, .slice none 0 0]) := ⟨sz_199, by kernel_rfl, zr_199, by kernel_rfl, by decide⟩
theorem fo_199_0 : fof Try.prog 199 0 = some 0 := by kernel_rfl
theorem fv_199_0 : fvf Try.prog 199 0 = some (0, false, 1) := by kernel_rfl
theorem fo_199_1 : fof Try.prog 199 1 = some 1 := by kernel_rfl
theorem fv_199_1 : fvf Try.prog 199 1 = some (1, false, 1) := by kernel_rfl
theorem pl_199 : plc Try.prog 199 = some [(0, 1), (1, 1)] := by kernel_rfl
theorem co_199 : Try.prog.concrete 199 = true := by kernel_rfl
theorem sz_200 : szf Try.prog 200 = some 2 := by kernel_rfl
theorem ag_200 : agf Try.prog 200 = some true := by kernel_rfl
theorem zr_200 : zrf Try.prog 200 = some (.agg #[.pointer none, .slice none 0 0]) := by kernel_rfl
theorem tf_200 : TF Try.prog 200 2 32 (.agg #[.pointer none, .slice none 0 0]) := ⟨sz_200, by kernel_rfl, zr_200, by kernel_rfl, by decide⟩
theorem fo_200_0 : fof Try.prog 200 0 = some 0 := by kernel_rfl
theorem fv_200_0 : fvf Try.prog 200 0 = some (0, false, 1) := by kernel_rfl
theorem fo_200_1 : fof Try.prog 200 1 = some 1 := by kernel_rfl
theorem fv_200_1 : fvf Try.prog 200 1 = some (1, false, 1) := by kernel_rfl
theorem pl_200 : plc Try.prog 200 = some [(0, 1), (1, 1)] := by kernel_rfl
theorem co_200 : Try.prog.concrete 200 = true := by kernel_rfl
theorem sz_201 : szf Try.prog 201 = some 1 := by kernel_rfl
theorem ag_201 : agf Try.prog 201 = some false := by kernel_rfl
theorem zr_201 : zrf Try.prog 201 = some (.nilIface) := by kernel_rfl
theorem tf_201 : TF Try.prog 201 1 16 (.nilIface) := ⟨sz_201, by kernel_rfl, zr_201, by kernel_rfl, by decide⟩
theorem sz_202 : szf Try.prog 202 = some 1 := by kernel_rfl
theorem ag_202 : agf Try.prog 202 = some false := by kernel_rfl
theorem zr_202 : zrf Try.prog 202 = some (.nilIface) := by kernel_rfl
theorem tf_202 : TF Try.prog 202 1 16 (.nilIface) := ⟨sz_202, by kernel_rfl, zr_202, by kernel_rfl, by decide⟩
theorem sz_204 : szf Try.prog 204 = some 1 := by kernel_rfl
theorem ag_204 : agf Try.prog 204 = some false := by kernel_rfl
theorem zr_204 : zrf Try.prog 204 = some (.nilFunc) := by kernel_rfl
theorem tf_204 : TF Try.prog 204 1 8 (.nilFunc) := ⟨sz_204, by kernel_rfl, zr_204, by kernel_rfl, by decide⟩
theorem co_204 : Try.prog.concrete 204 = true := by kernel_rfl
theorem sz_205 : szf Try.prog 205 = some 1 := by kernel_rfl
theorem ag_205 : agf Try.prog 205 = some false := by kernel_rfl
theorem zr_205 : zrf Try.prog 205 = some (.nilFunc) := by kernel_rfl
theorem tf_205 : TF Try.prog 205 1 8 (.nilFunc) := ⟨sz_205, by kernel_rfl, zr_205, by kernel_rfl, by decide⟩
theorem co_205 : Try.prog.concrete 205 = true := by kernel_rfl
theorem sz_206 : szf Try.prog 206 = some 1 := by kernel_rfl
theorem ag_206 : agf Try.prog 206 = some false := by kernel_rfl
theorem zr_206 : zrf Try.prog 206 = some (.nilFunc) := by kernel_rfl
theorem tf_206 : TF Try.prog 206 1 8 (.nilFunc) := ⟨sz_206, by kernel_rfl, zr_206, by kernel_rfl, by decide⟩
theorem co_206 : Try.prog.concrete 206 = true := by kernel_rfl
theorem sz_208 : szf Try.prog 208 = some 1 := by kernel_rfl
theorem ag_208 : agf Try.prog 208 = some false := by kernel_rfl
theorem zr_208 : zrf Try.prog 208 = some (.nilFunc) := by kernel_rfl
theorem tf_208 : TF Try.prog 208 1 8 (.nilFunc) := ⟨sz_208, by kernel_rfl, zr_208, by kernel_rfl, by decide⟩
theorem co_208 : Try.prog.concrete 208 = true := by kernel_rfl
theorem sz_209 : szf Try.prog 209 = some 1 := by kernel_rfl
theorem ag_209 : agf Try.prog 209 = some false := by kernel_rfl
theorem zr_209 : zrf Try.prog 209 = some (.nilFunc) := by kernel_rfl
theorem tf_209 : TF Try.prog 209 1 8 (.nilFunc) := ⟨sz_209, by kernel_rfl, zr_209, by kernel_rfl, by decide⟩
theorem co_209 : Try.prog.concrete 209 = true := by kernel_rfl
theorem sz_210 : szf Try.prog 210 = some 1 := by kernel_rfl
theorem ag_210 : agf Try.prog 210 = some false := by kernel_rfl
theorem zr_210 : zrf Try.prog 210 = some (.slice none 0 0) := by kernel_rfl
theorem tf_210 : TF Try.prog 210 1 24 (.slice none 0 0) := ⟨sz_210, by kernel_rfl, zr_210, by kernel_rfl, by decide⟩
theorem co_210 : Try.prog.concrete 210 = true := by kernel_rfl
theorem sz_211 : szf Try.prog 211 = some 4 := by kernel_rfl
theorem ag_211 : agf Try.prog 211 = some true := by kernel_rfl
theorem zr_211 : zrf Try.prog 211 = some (.agg #[.slice none 0 0, .slice none 0 0, .int .i64 0, .bool false]) := by kernel_rfl
theorem tf_211 : TF Try.prog 211 4 64 (.agg #[.slice none 0 0, .slice none 0 0, .int .i64 0, .bool false]) := ⟨sz_211, by kernel_rfl, zr_211, by kernel_rfl, by decide⟩
theorem fo_211_0 : fof Try.prog 211 0 = some 0 := by kernel_rfl
theorem fv_211_0 : fvf Try.prog 211 0 = some (0, false, 1) := by kernel_rfl
theorem fo_211_1 : fof Try.prog 211 1 = some 1 := by kernel_rfl
theorem fv_211_1 : fvf Try.prog 211 1 = some (1, false, 1) := by kernel_rfl
theorem fo_211_2 : fof Try.prog 211 2 = some 2 := by kernel_rfl
theorem fv_211_2 : fvf Try.prog 211 2 = some (2, false, 1) := by kernel_rfl
theorem fo_211_3 : fof Try.prog 211 3 = some 3 := by kernel_rfl
theorem fv_211_3 : fvf Try.prog 211 3 = some (3, false, 1) := by kernel_rfl
theorem pl_211 : plc Try.prog 211 = some [(0, 1), (1, 1), (2, 1), (3, 1)] := by kernel_rfl
theorem co_211 : Try.prog.concrete 211 = true := by kernel_rfl
theorem sz_212 : szf Try.prog 212 = some 4 := by kernel_rfl
theorem ag_212 : agf Try.prog 212 = some true := by kernel_rfl
theorem zr_212 : zrf Try.prog 212 = some (.agg #[.slice none 0 0, .slice none 0 0, .int .i64 0, .bool false]) := by kernel_rfl
theorem tf_212 : TF Try.prog 212 4 64 (.agg #[.slice none 0 0, .slice none 0 0, .int .i64 0, .bool false]) := ⟨sz_212, by kernel_rfl, zr_212, by kernel_rfl, by decide⟩
theorem fo_212_0 : fof Try.prog 212 0 = some 0 := by kernel_rfl
theorem fv_212_0 : fvf Try.prog 212 0 = some (0, false, 1) := by kernel_rfl
theorem fo_212_1 : fof Try.prog 212 1 = some 1 := by kernel_rfl
theorem fv_212_1 : fvf Try.prog 212 1 = some (1, false, 1) := by kernel_rfl
theorem fo_212_2 : fof Try.prog 212 2 = some 2 := by kernel_rfl
theorem fv_212_2 : fvf Try.prog 212 2 = some (2, false, 1) := by kernel_rfl
theorem fo_212_3 : fof Try.prog 212 3 = some 3 := by kernel_rfl
theorem fv_212_3 : fvf Try.prog 212 3 = some (3, false, 1) := by kernel_rfl
theorem pl_212 : plc Try.prog 212 = some [(0, 1), (1, 1), (2, 1), (3, 1)] := by kernel_rfl
theorem co_212 : Try.prog.concrete 212 = true := by kernel_rfl
theorem sz_213 : szf Try.prog 213 = some 1 := by kernel_rfl
theorem ag_213 : agf Try.prog 213 = some false := by kernel_rfl
theorem zr_213 : zrf Try.prog 213 = some (.nilFunc) := by kernel_rfl
theorem tf_213 : TF Try.prog 213 1 8 (.nilFunc) := ⟨sz_213, by kernel_rfl, zr_213, by kernel_rfl, by decide⟩
theorem co_213 : Try.prog.concrete 213 = true := by kernel_rfl
theorem sz_214 : szf Try.prog 214 = some 1 := by kernel_rfl
theorem ag_214 : agf Try.prog 214 = some false := by kernel_rfl
theorem zr_214 : zrf Try.prog 214 = some (.nilFunc) := by kernel_rfl
theorem tf_214 : TF Try.prog 214 1 8 (.nilFunc) := ⟨sz_214, by kernel_rfl, zr_214, by kernel_rfl, by decide⟩
theorem co_214 : Try.prog.concrete 214 = true := by kernel_rfl
theorem sz_215 : szf Try.prog 215 = some 1 := by kernel_rfl
theorem ag_215 : agf Try.prog 215 = some false := by kernel_rfl
theorem zr_215 : zrf Try.prog 215 = some (.nilFunc) := by kernel_rfl
theorem tf_215 : TF Try.prog 215 1 8 (.nilFunc) := ⟨sz_215, by kernel_rfl, zr_215, by kernel_rfl, by decide⟩
theorem co_215 : Try.prog.concrete 215 = true := by kernel_rfl
theorem sz_216 : szf Try.prog 216 = some 1 := by kernel_rfl
theorem ag_216 : agf Try.prog 216 = some false := by kernel_rfl
theorem zr_216 : zrf Try.prog 216 = some (.nilFunc) := by kernel_rfl
theorem tf_216 : TF Try.prog 216 1 8 (.nilFunc) := ⟨sz_216, by kernel_rfl, zr_216, by kernel_rfl, by decide⟩
theorem co_216 : Try.prog.concrete 216 = true := by kernel_rfl
theorem sz_217 : szf Try.prog 217 = some 259 := by kernel_rfl
theorem ag_217 : agf Try.prog 217 = some true := by kernel_rfl
theorem zr_217 : zrf Try.prog 217 = some (.agg (List.replicate 256 (.int .u32 0 : Value) ++ [.pointer none, .int .i64 0, .bool false] : List Value).toArray) := by kernel_rfl
theorem fo_217_0 : fof Try.prog 217 0 = some 0 := by kernel_rfl
theorem fv_217_0 : fvf Try.prog 217 0 = some (0, true, 256) := by kernel_rfl
theorem fo_217_1 : fof Try.prog 217 1 = some 256 := by kernel_rfl
theorem fv_217_1 : fvf Try.prog 217 1 = some (256, false, 1) := by kernel_rfl
theorem fo_217_2 : fof Try.prog 217 2 = some 257 := by kernel_rfl
theorem fv_217_2 : fvf Try.prog 217 2 = some (257, false, 1) := by kernel_rfl
theorem fo_217_3 : fof Try.prog 217 3 = some 258 := by kernel_rfl
theorem fv_217_3 : fvf Try.prog 217 3 = some (258, false, 1) := by kernel_rfl
theorem pl_217 : plc Try.prog 217 = some [(0, 256), (256, 1), (257, 1), (258, 1)] := by kernel_rfl
theorem co_217 : Try.prog.concrete 217 = true := by kernel_rfl
theorem sz_218 : szf Try.prog 218 = some 259 := by kernel_rfl
theorem ag_218 : agf Try.prog 218 = some true := by kernel_rfl
theorem zr_218 : zrf Try.prog 218 = some (.agg (List.replicate 256 (.int .u32 0 : Value) ++ [.pointer none, .int .i64 0, .bool false] : List Value).toArray) := by kernel_rfl
theorem fo_218_0 : fof Try.prog 218 0 = some 0 := by kernel_rfl
theorem fv_218_0 : fvf Try.prog 218 0 = some (0, true, 256) := by kernel_rfl
theorem fo_218_1 : fof Try.prog 218 1 = some 256 := by kernel_rfl
theorem fv_218_1 : fvf Try.prog 218 1 = some (256, false, 1) := by kernel_rfl
theorem fo_218_2 : fof Try.prog 218 2 = some 257 := by kernel_rfl
theorem fv_218_2 : fvf Try.prog 218 2 = some (257, false, 1) := by kernel_rfl
theorem fo_218_3 : fof Try.prog 218 3 = some 258 := by kernel_rfl
theorem fv_218_3 : fvf Try.prog 218 3 = some (258, false, 1) := by kernel_rfl
theorem pl_218 : plc Try.prog 218 = some [(0, 256), (256, 1), (257, 1), (258, 1)] := by kernel_rfl
theorem co_218 : Try.prog.concrete 218 = true := by kernel_rfl
theorem sz_219 : szf Try.prog 219 = some 1 := by kernel_rfl
theorem ag_219 : agf Try.prog 219 = some false := by kernel_rfl
theorem zr_219 : zrf Try.prog 219 = some (.nilFunc) := by kernel_rfl
theorem tf_219 : TF Try.prog 219 1 8 (.nilFunc) := ⟨sz_219, by kernel_rfl, zr_219, by kernel_rfl, by decide⟩
theorem co_219 : Try.prog.concrete 219 = true := by kernel_rfl
theorem sz_220 : szf Try.prog 220 = some 1 := by kernel_rfl
theorem ag_220 : agf Try.prog 220 = some false := by kernel_rfl
theorem zr_220 : zrf Try.prog 220 = some (.nilFunc) := by kernel_rfl
theorem tf_220 : TF Try.prog 220 1 8 (.nilFunc) := ⟨sz_220, by kernel_rfl, zr_220, by kernel_rfl, by decide⟩
theorem co_220 : Try.prog.concrete 220 = true := by kernel_rfl
theorem sz_221 : szf Try.prog 221 = some 1 := by kernel_rfl
theorem ag_221 : agf Try.prog 221 = some false := by kernel_rfl
theorem zr_221 : zrf Try.prog 221 = some (.nilFunc) := by kernel_rfl
theorem tf_221 : TF Try.prog 221 1 8 (.nilFunc) := ⟨sz_221, by kernel_rfl, zr_221, by kernel_rfl, by decide⟩
theorem co_221 : Try.prog.concrete 221 = true := by kernel_rfl
theorem sz_222 : szf Try.prog 222 = some 1 := by kernel_rfl
theorem ag_222 : agf Try.prog 222 = some false := by kernel_rfl
theorem zr_222 : zrf Try.prog 222 = some (.nilFunc) := by kernel_rfl
theorem tf_222 : TF Try.prog 222 1 8 (.nilFunc) := ⟨sz_222, by kernel_rfl, zr_222, by kernel_rfl, by decide⟩
theorem co_222 : Try.prog.concrete 222 = true := by kernel_rfl
theorem sz_223 : szf Try.prog 223 = some 1 := by kernel_rfl
theorem ag_223 : agf Try.prog 223 = some false := by kernel_rfl
theorem zr_223 : zrf Try.prog 223 = some (.nilFunc) := by kernel_rfl
theorem tf_223 : TF Try.prog 223 1 8 (.nilFunc) := ⟨sz_223, by kernel_rfl, zr_223, by kernel_rfl, by decide⟩
theorem co_223 : Try.prog.concrete 223 = true := by kernel_rfl
theorem sz_224 : szf Try.prog 224 = some 2 := by kernel_rfl
theorem ag_224 : agf Try.prog 224 = some true := by kernel_rfl
theorem zr_224 : zrf Try.prog 224 = some (.agg #[.int .i64 0, .string ⟨#[]⟩]) := by kernel_rfl
theorem tf_224 : TF Try.prog 224 2 24 (.agg #[.int .i64 0, .string ⟨#[]⟩]) := ⟨sz_224, by kernel_rfl, zr_224, by kernel_rfl, by decide⟩
theorem fo_224_0 : fof Try.prog 224 0 = some 0 := by kernel_rfl
theorem fv_224_0 : fvf Try.prog 224 0 = some (0, false, 1) := by kernel_rfl
theorem fo_224_1 : fof Try.prog 224 1 = some 1 := by kernel_rfl
theorem fv_224_1 : fvf Try.prog 224 1 = some (1, false, 1) := by kernel_rfl
theorem pl_224 : plc Try.prog 224 = some [(0, 1), (1, 1)] := by kernel_rfl
theorem co_224 : Try.prog.concrete 224 = true := by kernel_rfl
theorem sz_225 : szf Try.prog 225 = some 2 := by kernel_rfl
theorem ag_225 : agf Try.prog 225 = some true := by kernel_rfl
theorem zr_225 : zrf Try.prog 225 = some (.agg #[.int .i64 0, .string ⟨#[]⟩]) := by kernel_rfl
theorem tf_225 : TF Try.prog 225 2 24 (.agg #[.int .i64 0, .string ⟨#[]⟩]) := ⟨sz_225, by kernel_rfl, zr_225, by kernel_rfl, by decide⟩
theorem fo_225_0 : fof Try.prog 225 0 = some 0 := by kernel_rfl
theorem fv_225_0 : fvf Try.prog 225 0 = some (0, false, 1) := by kernel_rfl
theorem fo_225_1 : fof Try.prog 225 1 = some 1 := by kernel_rfl
theorem fv_225_1 : fvf Try.prog 225 1 = some (1, false, 1) := by kernel_rfl
theorem pl_225 : plc Try.prog 225 = some [(0, 1), (1, 1)] := by kernel_rfl
theorem co_225 : Try.prog.concrete 225 = true := by kernel_rfl
theorem sz_226 : szf Try.prog 226 = some 1 := by kernel_rfl
theorem ag_226 : agf Try.prog 226 = some false := by kernel_rfl
theorem zr_226 : zrf Try.prog 226 = some (.slice none 0 0) := by kernel_rfl
theorem tf_226 : TF Try.prog 226 1 24 (.slice none 0 0) := ⟨sz_226, by kernel_rfl, zr_226, by kernel_rfl, by decide⟩
theorem co_226 : Try.prog.concrete 226 = true := by kernel_rfl
theorem sz_227 : szf Try.prog 227 = some 257 := by kernel_rfl
theorem ag_227 : agf Try.prog 227 = some true := by kernel_rfl
theorem zr_227 : zrf Try.prog 227 = some (.agg (List.replicate 256 (.int .u32 0 : Value) ++ [.slice none 0 0] : List Value).toArray) := by kernel_rfl
theorem fo_227_0 : fof Try.prog 227 0 = some 0 := by kernel_rfl
theorem fv_227_0 : fvf Try.prog 227 0 = some (0, true, 256) := by kernel_rfl
theorem fo_227_1 : fof Try.prog 227 1 = some 256 := by kernel_rfl
theorem fv_227_1 : fvf Try.prog 227 1 = some (256, false, 1) := by kernel_rfl
theorem pl_227 : plc Try.prog 227 = some [(0, 256), (256, 1)] := by kernel_rfl
theorem co_227 : Try.prog.concrete 227 = true := by kernel_rfl
theorem sz_228 : szf Try.prog 228 = some 257 := by kernel_rfl
theorem ag_228 : agf Try.prog 228 = some true := by kernel_rfl
theorem zr_228 : zrf Try.prog 228 = some (.agg (List.replicate 256 (.int .u32 0 : Value) ++ [.slice none 0 0] : List Value).toArray) := by kernel_rfl
theorem fo_228_0 : fof Try.prog 228 0 = some 0 := by kernel_rfl
theorem fv_228_0 : fvf Try.prog 228 0 = some (0, true, 256) := by kernel_rfl
theorem fo_228_1 : fof Try.prog 228 1 = some 256 := by kernel_rfl
theorem fv_228_1 : fvf Try.prog 228 1 = some (256, false, 1) := by kernel_rfl
theorem pl_228 : plc Try.prog 228 = some [(0, 256), (256, 1)] := by kernel_rfl
theorem co_228 : Try.prog.concrete 228 = true := by kernel_rfl
theorem sz_229 : szf Try.prog 229 = some 1 := by kernel_rfl
theorem ag_229 : agf Try.prog 229 = some false := by kernel_rfl
theorem zr_229 : zrf Try.prog 229 = some (.nilFunc) := by kernel_rfl
theorem tf_229 : TF Try.prog 229 1 8 (.nilFunc) := ⟨sz_229, by kernel_rfl, zr_229, by kernel_rfl, by decide⟩
theorem co_229 : Try.prog.concrete 229 = true := by kernel_rfl
theorem sz_230 : szf Try.prog 230 = some 4 := by kernel_rfl
theorem ag_230 : agf Try.prog 230 = some true := by kernel_rfl
theorem zr_230 : zrf Try.prog 230 = some (.agg #[.int .i64 0, .int .i64 0, .string ⟨#[]⟩, .int .i64 0]) := by kernel_rfl
theorem tf_230 : TF Try.prog 230 4 40 (.agg #[.int .i64 0, .int .i64 0, .string ⟨#[]⟩, .int .i64 0]) := ⟨sz_230, by kernel_rfl, zr_230, by kernel_rfl, by decide⟩
theorem fo_230_0 : fof Try.prog 230 0 = some 0 := by kernel_rfl
theorem fv_230_0 : fvf Try.prog 230 0 = some (0, false, 1) := by kernel_rfl
theorem fo_230_1 : fof Try.prog 230 1 = some 1 := by kernel_rfl
theorem fv_230_1 : fvf Try.prog 230 1 = some (1, false, 1) := by kernel_rfl
theorem fo_230_2 : fof Try.prog 230 2 = some 2 := by kernel_rfl
theorem fv_230_2 : fvf Try.prog 230 2 = some (2, false, 1) := by kernel_rfl
theorem fo_230_3 : fof Try.prog 230 3 = some 3 := by kernel_rfl
theorem fv_230_3 : fvf Try.prog 230 3 = some (3, false, 1) := by kernel_rfl
theorem pl_230 : plc Try.prog 230 = some [(0, 1), (1, 1), (2, 1), (3, 1)] := by kernel_rfl
theorem co_230 : Try.prog.concrete 230 = true := by kernel_rfl
theorem sz_231 : szf Try.prog 231 = some 4 := by kernel_rfl
theorem ag_231 : agf Try.prog 231 = some true := by kernel_rfl
theorem zr_231 : zrf Try.prog 231 = some (.agg #[.int .i64 0, .int .i64 0, .string ⟨#[]⟩, .int .i64 0]) := by kernel_rfl
theorem tf_231 : TF Try.prog 231 4 40 (.agg #[.int .i64 0, .int .i64 0, .string ⟨#[]⟩, .int .i64 0]) := ⟨sz_231, by kernel_rfl, zr_231, by kernel_rfl, by decide⟩
theorem fo_231_0 : fof Try.prog 231 0 = some 0 := by kernel_rfl
theorem fv_231_0 : fvf Try.prog 231 0 = some (0, false, 1) := by kernel_rfl
theorem fo_231_1 : fof Try.prog 231 1 = some 1 := by kernel_rfl
theorem fv_231_1 : fvf Try.prog 231 1 = some (1, false, 1) := by kernel_rfl
theorem fo_231_2 : fof Try.prog 231 2 = some 2 := by kernel_rfl
theorem fv_231_2 : fvf Try.prog 231 2 = some (2, false, 1) := by kernel_rfl
theorem fo_231_3 : fof Try.prog 231 3 = some 3 := by kernel_rfl
theorem fv_231_3 : fvf Try.prog 231 3 = some (3, false, 1) := by kernel_rfl
theorem pl_231 : plc Try.prog 231 = some [(0, 1), (1, 1), (2, 1), (3, 1)] := by kernel_rfl
theorem co_231 : Try.prog.concrete 231 = true := by kernel_rfl
theorem sz_232 : szf Try.prog 232 = some 1 := by kernel_rfl
theorem ag_232 : agf Try.prog 232 = some false := by kernel_rfl
theorem zr_232 : zrf Try.prog 232 = some (.pointer none) := by kernel_rfl
theorem tf_232 : TF Try.prog 232 1 8 (.pointer none) := ⟨sz_232, by kernel_rfl, zr_232, by kernel_rfl, by decide⟩
theorem co_232 : Try.prog.concrete 232 = true := by kernel_rfl
theorem sz_233 : szf Try.prog 233 = some 1 := by kernel_rfl
theorem ag_233 : agf Try.prog 233 = some false := by kernel_rfl
theorem zr_233 : zrf Try.prog 233 = some (.pointer none) := by kernel_rfl
theorem tf_233 : TF Try.prog 233 1 8 (.pointer none) := ⟨sz_233, by kernel_rfl, zr_233, by kernel_rfl, by decide⟩
theorem co_233 : Try.prog.concrete 233 = true := by kernel_rfl
theorem sz_234 : szf Try.prog 234 = some 1 := by kernel_rfl
theorem ag_234 : agf Try.prog 234 = some false := by kernel_rfl
theorem zr_234 : zrf Try.prog 234 = some (.nilFunc) := by kernel_rfl
theorem tf_234 : TF Try.prog 234 1 8 (.nilFunc) := ⟨sz_234, by kernel_rfl, zr_234, by kernel_rfl, by decide⟩
theorem co_234 : Try.prog.concrete 234 = true := by kernel_rfl
theorem sz_235 : szf Try.prog 235 = some 1 := by kernel_rfl
theorem ag_235 : agf Try.prog 235 = some false := by kernel_rfl
theorem zr_235 : zrf Try.prog 235 = some (.nilFunc) := by kernel_rfl
theorem tf_235 : TF Try.prog 235 1 8 (.nilFunc) := ⟨sz_235, by kernel_rfl, zr_235, by kernel_rfl, by decide⟩
theorem co_235 : Try.prog.concrete 235 = true := by kernel_rfl
theorem sz_236 : szf Try.prog 236 = some 1 := by kernel_rfl
theorem ag_236 : agf Try.prog 236 = some false := by kernel_rfl
theorem zr_236 : zrf Try.prog 236 = some (.nilFunc) := by kernel_rfl
theorem tf_236 : TF Try.prog 236 1 8 (.nilFunc) := ⟨sz_236, by kernel_rfl, zr_236, by kernel_rfl, by decide⟩
theorem co_236 : Try.prog.concrete 236 = true := by kernel_rfl
theorem sz_237 : szf Try.prog 237 = some 1 := by kernel_rfl
theorem ag_237 : agf Try.prog 237 = some false := by kernel_rfl
theorem zr_237 : zrf Try.prog 237 = some (.nilFunc) := by kernel_rfl
theorem tf_237 : TF Try.prog 237 1 8 (.nilFunc) := ⟨sz_237, by kernel_rfl, zr_237, by kernel_rfl, by decide⟩
theorem co_237 : Try.prog.concrete 237 = true := by kernel_rfl
theorem sz_238 : szf Try.prog 238 = some 1 := by kernel_rfl
theorem ag_238 : agf Try.prog 238 = some false := by kernel_rfl
theorem zr_238 : zrf Try.prog 238 = some (.nilFunc) := by kernel_rfl
theorem tf_238 : TF Try.prog 238 1 8 (.nilFunc) := ⟨sz_238, by kernel_rfl, zr_238, by kernel_rfl, by decide⟩
theorem co_238 : Try.prog.concrete 238 = true := by kernel_rfl
theorem sz_240 : szf Try.prog 240 = some 1 := by kernel_rfl
theorem ag_240 : agf Try.prog 240 = some false := by kernel_rfl
theorem zr_240 : zrf Try.prog 240 = some (.nilFunc) := by kernel_rfl
theorem tf_240 : TF Try.prog 240 1 8 (.nilFunc) := ⟨sz_240, by kernel_rfl, zr_240, by kernel_rfl, by decide⟩
theorem co_240 : Try.prog.concrete 240 = true := by kernel_rfl
theorem sz_241 : szf Try.prog 241 = some 1 := by kernel_rfl
theorem ag_241 : agf Try.prog 241 = some false := by kernel_rfl
theorem zr_241 : zrf Try.prog 241 = some (.nilFunc) := by kernel_rfl
theorem tf_241 : TF Try.prog 241 1 8 (.nilFunc) := ⟨sz_241, by kernel_rfl, zr_241, by kernel_rfl, by decide⟩
theorem co_241 : Try.prog.concrete 241 = true := by kernel_rfl
theorem sz_242 : szf Try.prog 242 = some 1 := by kernel_rfl
theorem ag_242 : agf Try.prog 242 = some false := by kernel_rfl
theorem zr_242 : zrf Try.prog 242 = some (.nilFunc) := by kernel_rfl
theorem tf_242 : TF Try.prog 242 1 8 (.nilFunc) := ⟨sz_242, by kernel_rfl, zr_242, by kernel_rfl, by decide⟩
theorem co_242 : Try.prog.concrete 242 = true := by kernel_rfl
theorem sz_243 : szf Try.prog 243 = some 1 := by kernel_rfl
theorem ag_243 : agf Try.prog 243 = some false := by kernel_rfl
theorem zr_243 : zrf Try.prog 243 = some (.nilFunc) := by kernel_rfl
theorem tf_243 : TF Try.prog 243 1 8 (.nilFunc) := ⟨sz_243, by kernel_rfl, zr_243, by kernel_rfl, by decide⟩
theorem co_243 : Try.prog.concrete 243 = true := by kernel_rfl
theorem sz_244 : szf Try.prog 244 = some 1 := by kernel_rfl
theorem ag_244 : agf Try.prog 244 = some false := by kernel_rfl
theorem zr_244 : zrf Try.prog 244 = some (.map none) := by kernel_rfl
theorem tf_244 : TF Try.prog 244 1 8 (.map none) := ⟨sz_244, by kernel_rfl, zr_244, by kernel_rfl, by decide⟩
theorem co_244 : Try.prog.concrete 244 = true := by kernel_rfl
theorem sz_245 : szf Try.prog 245 = some 1 := by kernel_rfl
theorem ag_245 : agf Try.prog 245 = some false := by kernel_rfl
theorem zr_245 : zrf Try.prog 245 = some (.map none) := by kernel_rfl
theorem tf_245 : TF Try.prog 245 1 8 (.map none) := ⟨sz_245, by kernel_rfl, zr_245, by kernel_rfl, by decide⟩
theorem co_245 : Try.prog.concrete 245 = true := by kernel_rfl
theorem sz_246 : szf Try.prog 246 = some 11 := by kernel_rfl
theorem ag_246 : agf Try.prog 246 = some true := by kernel_rfl
theorem zr_246 : zrf Try.prog 246 = some (.agg #[.int .i64 0, .int .i64 0, .int .i64 0, .slice none 0 0, .slice none 0 0, .int .i64 0, .int .u64 0, .int .u64 0, .slice none 0 0, .map none, .map none]) := by kernel_rfl
theorem tf_246 : TF Try.prog 246 11 136 (.agg #[.int .i64 0, .int .i64 0, .int .i64 0, .slice none 0 0, .slice none 0 0, .int .i64 0, .int .u64 0, .int .u64 0, .slice none 0 0, .map none, .map none]) := ⟨sz_246, by kernel_rfl, zr_246, by kernel_rfl, by decide⟩
theorem fo_246_0 : fof Try.prog 246 0 = some 0 := by kernel_rfl
theorem fv_246_0 : fvf Try.prog 246 0 = some (0, true, 3) := by kernel_rfl
theorem fo_246_1 : fof Try.prog 246 1 = some 3 := by kernel_rfl
theorem fv_246_1 : fvf Try.prog 246 1 = some (3, true, 2) := by kernel_rfl
theorem fo_246_2 : fof Try.prog 246 2 = some 5 := by kernel_rfl
theorem fv_246_2 : fvf Try.prog 246 2 = some (5, false, 1) := by kernel_rfl
theorem fo_246_3 : fof Try.prog 246 3 = some 6 := by kernel_rfl
theorem fv_246_3 : fvf Try.prog 246 3 = some (6, false, 1) := by kernel_rfl
theorem fo_246_4 : fof Try.prog 246 4 = some 7 := by kernel_rfl
theorem fv_246_4 : fvf Try.prog 246 4 = some (7, false, 1) := by kernel_rfl
theorem fo_246_5 : fof Try.prog 246 5 = some 8 := by kernel_rfl
theorem fv_246_5 : fvf Try.prog 246 5 = some (8, false, 1) := by kernel_rfl
theorem fo_246_6 : fof Try.prog 246 6 = some 9 := by kernel_rfl
theorem fv_246_6 : fvf Try.prog 246 6 = some (9, false, 1) := by kernel_rfl
theorem fo_246_7 : fof Try.prog 246 7 = some 10 := by kernel_rfl
theorem fv_246_7 : fvf Try.prog 246 7 = some (10, false, 1) := by kernel_rfl
theorem pl_246 : plc Try.prog 246 = some [(0, 3), (3, 2), (5, 1), (6, 1), (7, 1), (8, 1), (9, 1), (10, 1)] := by kernel_rfl
theorem co_246 : Try.prog.concrete 246 = true := by kernel_rfl
theorem sz_247 : szf Try.prog 247 = some 11 := by kernel_rfl
theorem ag_247 : agf Try.prog 247 = some true := by kernel_rfl
theorem zr_247 : zrf Try.prog 247 = some (.agg #[.int .i64 0, .int .i64 0, .int .i64 0, .slice none 0 0, .slice none 0 0, .int .i64 0, .int .u64 0, .int .u64 0, .slice none 0 0, .map none, .map none]) := by kernel_rfl
theorem tf_247 : TF Try.prog 247 11 136 (.agg #[.int .i64 0, .int .i64 0, .int .i64 0, .slice none 0 0, .slice none 0 0, .int .i64 0, .int .u64 0, .int .u64 0, .slice none 0 0, .map none, .map none]) := ⟨sz_247, by kernel_rfl, zr_247, by kernel_rfl, by decide⟩
theorem fo_247_0 : fof Try.prog 247 0 = some 0 := by kernel_rfl
theorem fv_247_0 : fvf Try.prog 247 0 = some (0, true, 3) := by kernel_rfl
theorem fo_247_1 : fof Try.prog 247 1 = some 3 := by kernel_rfl
theorem fv_247_1 : fvf Try.prog 247 1 = some (3, true, 2) := by kernel_rfl
theorem fo_247_2 : fof Try.prog 247 2 = some 5 := by kernel_rfl
theorem fv_247_2 : fvf Try.prog 247 2 = some (5, false, 1) := by kernel_rfl
theorem fo_247_3 : fof Try.prog 247 3 = some 6 := by kernel_rfl
theorem fv_247_3 : fvf Try.prog 247 3 = some (6, false, 1) := by kernel_rfl
theorem fo_247_4 : fof Try.prog 247 4 = some 7 := by kernel_rfl
theorem fv_247_4 : fvf Try.prog 247 4 = some (7, false, 1) := by kernel_rfl
theorem fo_247_5 : fof Try.prog 247 5 = some 8 := by kernel_rfl
theorem fv_247_5 : fvf Try.prog 247 5 = some (8, false, 1) := by kernel_rfl
theorem fo_247_6 : fof Try.prog 247 6 = some 9 := by kernel_rfl
theorem fv_247_6 : fvf Try.prog 247 6 = some (9, false, 1) := by kernel_rfl
theorem fo_247_7 : fof Try.prog 247 7 = some 10 := by kernel_rfl
theorem fv_247_7 : fvf Try.prog 247 7 = some (10, false, 1) := by kernel_rfl
theorem pl_247 : plc Try.prog 247 = some [(0, 3), (3, 2), (5, 1), (6, 1), (7, 1), (8, 1), (9, 1), (10, 1)] := by kernel_rfl
theorem co_247 : Try.prog.concrete 247 = true := by kernel_rfl
theorem sz_248 : szf Try.prog 248 = some 1 := by kernel_rfl
theorem ag_248 : agf Try.prog 248 = some false := by kernel_rfl
theorem zr_248 : zrf Try.prog 248 = some (.nilFunc) := by kernel_rfl
theorem tf_248 : TF Try.prog 248 1 8 (.nilFunc) := ⟨sz_248, by kernel_rfl, zr_248, by kernel_rfl, by decide⟩
theorem co_248 : Try.prog.concrete 248 = true := by kernel_rfl
theorem sz_249 : szf Try.prog 249 = some 1 := by kernel_rfl
theorem ag_249 : agf Try.prog 249 = some false := by kernel_rfl
theorem zr_249 : zrf Try.prog 249 = some (.nilFunc) := by kernel_rfl
theorem tf_249 : TF Try.prog 249 1 8 (.nilFunc) := ⟨sz_249, by kernel_rfl, zr_249, by kernel_rfl, by decide⟩
theorem co_249 : Try.prog.concrete 249 = true := by kernel_rfl
theorem sz_250 : szf Try.prog 250 = some 1 := by kernel_rfl
theorem ag_250 : agf Try.prog 250 = some false := by kernel_rfl
theorem zr_250 : zrf Try.prog 250 = some (.nilFunc) := by kernel_rfl
theorem tf_250 : TF Try.prog 250 1 8 (.nilFunc) := ⟨sz_250, by kernel_rfl, zr_250, by kernel_rfl, by decide⟩
theorem co_250 : Try.prog.concrete 250 = true := by kernel_rfl
theorem sz_251 : szf Try.prog 251 = some 1 := by kernel_rfl
theorem ag_251 : agf Try.prog 251 = some false := by kernel_rfl
theorem zr_251 : zrf Try.prog 251 = some (.nilFunc) := by kernel_rfl
theorem tf_251 : TF Try.prog 251 1 8 (.nilFunc) := ⟨sz_251, by kernel_rfl, zr_251, by kernel_rfl, by decide⟩
theorem co_251 : Try.prog.concrete 251 = true := by kernel_rfl
theorem sz_252 : szf Try.prog 252 = some 1 := by kernel_rfl
theorem ag_252 : agf Try.prog 252 = some false := by kernel_rfl
theorem zr_252 : zrf Try.prog 252 = some (.nilFunc) := by kernel_rfl
theorem tf_252 : TF Try.prog 252 1 8 (.nilFunc) := ⟨sz_252, by kernel_rfl, zr_252, by kernel_rfl, by decide⟩
theorem co_252 : Try.prog.concrete 252 = true := by kernel_rfl
theorem sz_253 : szf Try.prog 253 = some 1 := by kernel_rfl
theorem ag_253 : agf Try.prog 253 = some false := by kernel_rfl
theorem zr_253 : zrf Try.prog 253 = some (.nilFunc) := by kernel_rfl
theorem tf_253 : TF Try.prog 253 1 8 (.nilFunc) := ⟨sz_253, by kernel_rfl, zr_253, by kernel_rfl, by decide⟩
theorem co_253 : Try.prog.concrete 253 = true := by kernel_rfl
theorem sz_254 : szf Try.prog 254 = some 1 := by kernel_rfl
theorem ag_254 : agf Try.prog 254 = some false := by kernel_rfl
theorem zr_254 : zrf Try.prog 254 = some (.nilFunc) := by kernel_rfl
theorem tf_254 : TF Try.prog 254 1 8 (.nilFunc) := ⟨sz_254, by kernel_rfl, zr_254, by kernel_rfl, by decide⟩
theorem co_254 : Try.prog.concrete 254 = true := by kernel_rfl
theorem sz_255 : szf Try.prog 255 = some 1 := by kernel_rfl
theorem ag_255 : agf Try.prog 255 = some false := by kernel_rfl
theorem zr_255 : zrf Try.prog 255 = some (.nilFunc) := by kernel_rfl
theorem tf_255 : TF Try.prog 255 1 8 (.nilFunc) := ⟨sz_255, by kernel_rfl, zr_255, by kernel_rfl, by decide⟩
theorem co_255 : Try.prog.concrete 255 = true := by kernel_rfl
theorem sz_256 : szf Try.prog 256 = some 1 := by kernel_rfl
theorem ag_256 : agf Try.prog 256 = some false := by kernel_rfl
theorem zr_256 : zrf Try.prog 256 = some (.nilFunc) := by kernel_rfl
theorem tf_256 : TF Try.prog 256 1 8 (.nilFunc) := ⟨sz_256, by kernel_rfl, zr_256, by kernel_rfl, by decide⟩
theorem co_256 : Try.prog.concrete 256 = true := by kernel_rfl
theorem sz_257 : szf Try.prog 257 = some 1 := by kernel_rfl
theorem ag_257 : agf Try.prog 257 = some false := by kernel_rfl
theorem zr_257 : zrf Try.prog 257 = some (.nilFunc) := by kernel_rfl
theorem tf_257 : TF Try.prog 257 1 8 (.nilFunc) := ⟨sz_257, by kernel_rfl, zr_257, by kernel_rfl, by decide⟩
theorem co_257 : Try.prog.concrete 257 = true := by kernel_rfl
theorem sz_258 : szf Try.prog 258 = some 1 := by kernel_rfl
theorem ag_258 : agf Try.prog 258 = some false := by kernel_rfl
theorem zr_258 : zrf Try.prog 258 = some (.nilFunc) := by kernel_rfl
theorem tf_258 : TF Try.prog 258 1 8 (.nilFunc) := ⟨sz_258, by kernel_rfl, zr_258, by kernel_rfl, by decide⟩
theorem co_258 : Try.prog.concrete 258 = true := by kernel_rfl
theorem sz_259 : szf Try.prog 259 = some 1 := by kernel_rfl
theorem ag_259 : agf Try.prog 259 = some false := by kernel_rfl
theorem zr_259 : zrf Try.prog 259 = some (.nilFunc) := by kernel_rfl
theorem tf_259 : TF Try.prog 259 1 8 (.nilFunc) := ⟨sz_259, by kernel_rfl, zr_259, by kernel_rfl, by decide⟩
theorem co_259 : Try.prog.concrete 259 = true := by kernel_rfl
theorem sz_260 : szf Try.prog 260 = some 1 := by kernel_rfl
theorem ag_260 : agf Try.prog 260 = some false := by kernel_rfl
theorem zr_260 : zrf Try.prog 260 = some (.nilFunc) := by kernel_rfl
theorem tf_260 : TF Try.prog 260 1 8 (.nilFunc) := ⟨sz_260, by kernel_rfl, zr_260, by kernel_rfl, by decide⟩
theorem co_260 : Try.prog.concrete 260 = true := by kernel_rfl
theorem sz_261 : szf Try.prog 261 = some 1 := by kernel_rfl
theorem ag_261 : agf Try.prog 261 = some false := by kernel_rfl
theorem zr_261 : zrf Try.prog 261 = some (.nilFunc) := by kernel_rfl
theorem tf_261 : TF Try.prog 261 1 8 (.nilFunc) := ⟨sz_261, by kernel_rfl, zr_261, by kernel_rfl, by decide⟩
theorem co_261 : Try.prog.concrete 261 = true := by kernel_rfl
theorem sz_262 : szf Try.prog 262 = some 1 := by kernel_rfl
theorem ag_262 : agf Try.prog 262 = some false := by kernel_rfl
theorem zr_262 : zrf Try.prog 262 = some (.nilFunc) := by kernel_rfl
theorem tf_262 : TF Try.prog 262 1 8 (.nilFunc) := ⟨sz_262, by kernel_rfl, zr_262, by kernel_rfl, by decide⟩
theorem co_262 : Try.prog.concrete 262 = true := by kernel_rfl
theorem sz_264 : szf Try.prog 264 = some 1 := by kernel_rfl
theorem ag_264 : agf Try.prog 264 = some false := by kernel_rfl
theorem zr_264 : zrf Try.prog 264 = some (.nilFunc) := by kernel_rfl
theorem tf_264 : TF Try.prog 264 1 8 (.nilFunc) := ⟨sz_264, by kernel_rfl, zr_264, by kernel_rfl, by decide⟩
theorem co_264 : Try.prog.concrete 264 = true := by kernel_rfl
theorem sz_265 : szf Try.prog 265 = some 1 := by kernel_rfl
theorem ag_265 : agf Try.prog 265 = some false := by kernel_rfl
theorem zr_265 : zrf Try.prog 265 = some (.nilFunc) := by kernel_rfl
theorem tf_265 : TF Try.prog 265 1 8 (.nilFunc) := ⟨sz_265, by kernel_rfl, zr_265, by kernel_rfl, by decide⟩
theorem co_265 : Try.prog.concrete 265 = true := by kernel_rfl
theorem sz_266 : szf Try.prog 266 = some 1 := by kernel_rfl
theorem ag_266 : agf Try.prog 266 = some false := by kernel_rfl
theorem zr_266 : zrf Try.prog 266 = some (.nilFunc) := by kernel_rfl
theorem tf_266 : TF Try.prog 266 1 8 (.nilFunc) := ⟨sz_266, by kernel_rfl, zr_266, by kernel_rfl, by decide⟩
theorem co_266 : Try.prog.concrete 266 = true := by kernel_rfl
theorem sz_267 : szf Try.prog 267 = some 1 := by kernel_rfl
theorem ag_267 : agf Try.prog 267 = some false := by kernel_rfl
theorem zr_267 : zrf Try.prog 267 = some (.nilFunc) := by kernel_rfl
theorem tf_267 : TF Try.prog 267 1 8 (.nilFunc) := ⟨sz_267, by kernel_rfl, zr_267, by kernel_rfl, by decide⟩
theorem co_267 : Try.prog.concrete 267 = true := by kernel_rfl
theorem sz_268 : szf Try.prog 268 = some 1 := by kernel_rfl
theorem ag_268 : agf Try.prog 268 = some false := by kernel_rfl
theorem zr_268 : zrf Try.prog 268 = some (.nilFunc) := by kernel_rfl
theorem tf_268 : TF Try.prog 268 1 8 (.nilFunc) := ⟨sz_268, by kernel_rfl, zr_268, by kernel_rfl, by decide⟩
theorem co_268 : Try.prog.concrete 268 = true := by kernel_rfl
theorem sz_269 : szf Try.prog 269 = some 1 := by kernel_rfl
theorem ag_269 : agf Try.prog 269 = some false := by kernel_rfl
theorem zr_269 : zrf Try.prog 269 = some (.nilFunc) := by kernel_rfl
theorem tf_269 : TF Try.prog 269 1 8 (.nilFunc) := ⟨sz_269, by kernel_rfl, zr_269, by kernel_rfl, by decide⟩
theorem co_269 : Try.prog.concrete 269 = true := by kernel_rfl
theorem sz_270 : szf Try.prog 270 = some 2 := by kernel_rfl
theorem ag_270 : agf Try.prog 270 = some true := by kernel_rfl
theorem zr_270 : zrf Try.prog 270 = some (.agg #[.string ⟨#[]⟩, .bool false]) := by kernel_rfl
theorem tf_270 : TF Try.prog 270 2 24 (.agg #[.string ⟨#[]⟩, .bool false]) := ⟨sz_270, by kernel_rfl, zr_270, by kernel_rfl, by decide⟩
theorem fo_270_0 : fof Try.prog 270 0 = some 0 := by kernel_rfl
theorem fv_270_0 : fvf Try.prog 270 0 = some (0, false, 1) := by kernel_rfl
theorem fo_270_1 : fof Try.prog 270 1 = some 1 := by kernel_rfl
theorem fv_270_1 : fvf Try.prog 270 1 = some (1, false, 1) := by kernel_rfl
theorem pl_270 : plc Try.prog 270 = some [(0, 1), (1, 1)] := by kernel_rfl
theorem co_270 : Try.prog.concrete 270 = true := by kernel_rfl
theorem sz_271 : szf Try.prog 271 = some 2 := by kernel_rfl
theorem ag_271 : agf Try.prog 271 = some true := by kernel_rfl
theorem zr_271 : zrf Try.prog 271 = some (.agg #[.string ⟨#[]⟩, .bool false]) := by kernel_rfl
theorem tf_271 : TF Try.prog 271 2 24 (.agg #[.string ⟨#[]⟩, .bool false]) := ⟨sz_271, by kernel_rfl, zr_271, by kernel_rfl, by decide⟩
theorem fo_271_0 : fof Try.prog 271 0 = some 0 := by kernel_rfl
theorem fv_271_0 : fvf Try.prog 271 0 = some (0, false, 1) := by kernel_rfl
theorem fo_271_1 : fof Try.prog 271 1 = some 1 := by kernel_rfl
theorem fv_271_1 : fvf Try.prog 271 1 = some (1, false, 1) := by kernel_rfl
theorem pl_271 : plc Try.prog 271 = some [(0, 1), (1, 1)] := by kernel_rfl
theorem co_271 : Try.prog.concrete 271 = true := by kernel_rfl
theorem sz_273 : szf Try.prog 273 = some 1 := by kernel_rfl
theorem ag_273 : agf Try.prog 273 = some false := by kernel_rfl
theorem zr_273 : zrf Try.prog 273 = some (.map none) := by kernel_rfl
theorem tf_273 : TF Try.prog 273 1 8 (.map none) := ⟨sz_273, by kernel_rfl, zr_273, by kernel_rfl, by decide⟩
theorem co_273 : Try.prog.concrete 273 = true := by kernel_rfl
theorem sz_274 : szf Try.prog 274 = some 1 := by kernel_rfl
theorem ag_274 : agf Try.prog 274 = some false := by kernel_rfl
theorem zr_274 : zrf Try.prog 274 = some (.nilFunc) := by kernel_rfl
theorem tf_274 : TF Try.prog 274 1 8 (.nilFunc) := ⟨sz_274, by kernel_rfl, zr_274, by kernel_rfl, by decide⟩
theorem co_274 : Try.prog.concrete 274 = true := by kernel_rfl
theorem sz_275 : szf Try.prog 275 = some 1 := by kernel_rfl
theorem ag_275 : agf Try.prog 275 = some false := by kernel_rfl
theorem zr_275 : zrf Try.prog 275 = some (.nilFunc) := by kernel_rfl
theorem tf_275 : TF Try.prog 275 1 8 (.nilFunc) := ⟨sz_275, by kernel_rfl, zr_275, by kernel_rfl, by decide⟩
theorem co_275 : Try.prog.concrete 275 = true := by kernel_rfl
theorem sz_276 : szf Try.prog 276 = some 1 := by kernel_rfl
theorem ag_276 : agf Try.prog 276 = some false := by kernel_rfl
theorem zr_276 : zrf Try.prog 276 = some (.nilFunc) := by kernel_rfl
theorem tf_276 : TF Try.prog 276 1 8 (.nilFunc) := ⟨sz_276, by kernel_rfl, zr_276, by kernel_rfl, by decide⟩
theorem co_276 : Try.prog.concrete 276 = true := by kernel_rfl
theorem sz_277 : szf Try.prog 277 = some 1 := by kernel_rfl
theorem ag_277 : agf Try.prog 277 = some false := by kernel_rfl
theorem zr_277 : zrf Try.prog 277 = some (.nilFunc) := by kernel_rfl
theorem tf_277 : TF Try.prog 277 1 8 (.nilFunc) := ⟨sz_277, by kernel_rfl, zr_277, by kernel_rfl, by decide⟩
theorem co_277 : Try.prog.concrete 277 = true := by kernel_rfl
theorem sz_278 : szf Try.prog 278 = some 1 := by kernel_rfl
theorem ag_278 : agf Try.prog 278 = some false := by kernel_rfl
theorem zr_278 : zrf Try.prog 278 = some (.nilFunc) := by kernel_rfl
theorem tf_278 : TF Try.prog 278 1 8 (.nilFunc) := ⟨sz_278, by kernel_rfl, zr_278, by kernel_rfl, by decide⟩
theorem co_278 : Try.prog.concrete 278 = true := by kernel_rfl
theorem sz_279 : szf Try.prog 279 = some 1 := by kernel_rfl
theorem ag_279 : agf Try.prog 279 = some false := by kernel_rfl
theorem zr_279 : zrf Try.prog 279 = some (.nilFunc) := by kernel_rfl
theorem tf_279 : TF Try.prog 279 1 8 (.nilFunc) := ⟨sz_279, by kernel_rfl, zr_279, by kernel_rfl, by decide⟩
theorem co_279 : Try.prog.concrete 279 = true := by kernel_rfl
theorem sz_280 : szf Try.prog 280 = some 1 := by kernel_rfl
theorem ag_280 : agf Try.prog 280 = some false := by kernel_rfl
theorem zr_280 : zrf Try.prog 280 = some (.nilFunc) := by kernel_rfl
theorem tf_280 : TF Try.prog 280 1 8 (.nilFunc) := ⟨sz_280, by kernel_rfl, zr_280, by kernel_rfl, by decide⟩
theorem co_280 : Try.prog.concrete 280 = true := by kernel_rfl
theorem sz_281 : szf Try.prog 281 = some 1 := by kernel_rfl
theorem ag_281 : agf Try.prog 281 = some false := by kernel_rfl
theorem zr_281 : zrf Try.prog 281 = some (.nilFunc) := by kernel_rfl
theorem tf_281 : TF Try.prog 281 1 8 (.nilFunc) := ⟨sz_281, by kernel_rfl, zr_281, by kernel_rfl, by decide⟩
theorem co_281 : Try.prog.concrete 281 = true := by kernel_rfl
theorem sz_282 : szf Try.prog 282 = some 1 := by kernel_rfl
theorem ag_282 : agf Try.prog 282 = some false := by kernel_rfl
theorem zr_282 : zrf Try.prog 282 = some (.nilFunc) := by kernel_rfl
theorem tf_282 : TF Try.prog 282 1 8 (.nilFunc) := ⟨sz_282, by kernel_rfl, zr_282, by kernel_rfl, by decide⟩
theorem co_282 : Try.prog.concrete 282 = true := by kernel_rfl
theorem sz_284 : szf Try.prog 284 = some 1 := by kernel_rfl
theorem ag_284 : agf Try.prog 284 = some false := by kernel_rfl
theorem zr_284 : zrf Try.prog 284 = some (.nilFunc) := by kernel_rfl
theorem tf_284 : TF Try.prog 284 1 8 (.nilFunc) := ⟨sz_284, by kernel_rfl, zr_284, by kernel_rfl, by decide⟩
theorem co_284 : Try.prog.concrete 284 = true := by kernel_rfl
theorem sz_285 : szf Try.prog 285 = some 1 := by kernel_rfl
theorem ag_285 : agf Try.prog 285 = some false := by kernel_rfl
theorem zr_285 : zrf Try.prog 285 = some (.nilFunc) := by kernel_rfl
theorem tf_285 : TF Try.prog 285 1 8 (.nilFunc) := ⟨sz_285, by kernel_rfl, zr_285, by kernel_rfl, by decide⟩
theorem co_285 : Try.prog.concrete 285 = true := by kernel_rfl
theorem sz_286 : szf Try.prog 286 = some 1 := by kernel_rfl
theorem ag_286 : agf Try.prog 286 = some false := by kernel_rfl
theorem zr_286 : zrf Try.prog 286 = some (.nilFunc) := by kernel_rfl
theorem tf_286 : TF Try.prog 286 1 8 (.nilFunc) := ⟨sz_286, by kernel_rfl, zr_286, by kernel_rfl, by decide⟩
theorem co_286 : Try.prog.concrete 286 = true := by kernel_rfl
theorem sz_287 : szf Try.prog 287 = some 1 := by kernel_rfl
theorem ag_287 : agf Try.prog 287 = some false := by kernel_rfl
theorem zr_287 : zrf Try.prog 287 = some (.pointer none) := by kernel_rfl
theorem tf_287 : TF Try.prog 287 1 8 (.pointer none) := ⟨sz_287, by kernel_rfl, zr_287, by kernel_rfl, by decide⟩
theorem co_287 : Try.prog.concrete 287 = true := by kernel_rfl
theorem sz_288 : szf Try.prog 288 = some 4 := by kernel_rfl
theorem ag_288 : agf Try.prog 288 = some true := by kernel_rfl
theorem zr_288 : zrf Try.prog 288 = some (.agg #[.pointer none, .slice none 0 0, .int .i64 0, .bool false]) := by kernel_rfl
theorem tf_288 : TF Try.prog 288 4 48 (.agg #[.pointer none, .slice none 0 0, .int .i64 0, .bool false]) := ⟨sz_288, by kernel_rfl, zr_288, by kernel_rfl, by decide⟩
theorem fo_288_0 : fof Try.prog 288 0 = some 0 := by kernel_rfl
theorem fv_288_0 : fvf Try.prog 288 0 = some (0, false, 1) := by kernel_rfl
theorem fo_288_1 : fof Try.prog 288 1 = some 1 := by kernel_rfl
theorem fv_288_1 : fvf Try.prog 288 1 = some (1, false, 1) := by kernel_rfl
theorem fo_288_2 : fof Try.prog 288 2 = some 2 := by kernel_rfl
theorem fv_288_2 : fvf Try.prog 288 2 = some (2, false, 1) := by kernel_rfl
theorem fo_288_3 : fof Try.prog 288 3 = some 3 := by kernel_rfl
theorem fv_288_3 : fvf Try.prog 288 3 = some (3, false, 1) := by kernel_rfl
theorem pl_288 : plc Try.prog 288 = some [(0, 1), (1, 1), (2, 1), (3, 1)] := by kernel_rfl
theorem co_288 : Try.prog.concrete 288 = true := by kernel_rfl
theorem sz_289 : szf Try.prog 289 = some 4 := by kernel_rfl
theorem ag_289 : agf Try.prog 289 = some true := by kernel_rfl
theorem zr_289 : zrf Try.prog 289 = some (.agg #[.pointer none, .slice none 0 0, .int .i64 0, .bool false]) := by kernel_rfl
theorem tf_289 : TF Try.prog 289 4 48 (.agg #[.pointer none, .slice none 0 0, .int .i64 0, .bool false]) := ⟨sz_289, by kernel_rfl, zr_289, by kernel_rfl, by decide⟩
theorem fo_289_0 : fof Try.prog 289 0 = some 0 := by kernel_rfl
theorem fv_289_0 : fvf Try.prog 289 0 = some (0, false, 1) := by kernel_rfl
theorem fo_289_1 : fof Try.prog 289 1 = some 1 := by kernel_rfl
theorem fv_289_1 : fvf Try.prog 289 1 = some (1, false, 1) := by kernel_rfl
theorem fo_289_2 : fof Try.prog 289 2 = some 2 := by kernel_rfl
theorem fv_289_2 : fvf Try.prog 289 2 = some (2, false, 1) := by kernel_rfl
theorem fo_289_3 : fof Try.prog 289 3 = some 3 := by kernel_rfl
theorem fv_289_3 : fvf Try.prog 289 3 = some (3, false, 1) := by kernel_rfl
theorem pl_289 : plc Try.prog 289 = some [(0, 1), (1, 1), (2, 1), (3, 1)] := by kernel_rfl
theorem co_289 : Try.prog.concrete 289 = true := by kernel_rfl
theorem sz_291 : szf Try.prog 291 = some 1 := by kernel_rfl
theorem ag_291 : agf Try.prog 291 = some false := by kernel_rfl
theorem zr_291 : zrf Try.prog 291 = some (.nilFunc) := by kernel_rfl
theorem tf_291 : TF Try.prog 291 1 8 (.nilFunc) := ⟨sz_291, by kernel_rfl, zr_291, by kernel_rfl, by decide⟩
theorem co_291 : Try.prog.concrete 291 = true := by kernel_rfl
theorem sz_292 : szf Try.prog 292 = some 1 := by kernel_rfl
theorem ag_292 : agf Try.prog 292 = some false := by kernel_rfl
theorem zr_292 : zrf Try.prog 292 = some (.pointer none) := by kernel_rfl
theorem tf_292 : TF Try.prog 292 1 8 (.pointer none) := ⟨sz_292, by kernel_rfl, zr_292, by kernel_rfl, by decide⟩
theorem co_292 : Try.prog.concrete 292 = true := by kernel_rfl
theorem sz_293 : szf Try.prog 293 = some 1 := by kernel_rfl
theorem ag_293 : agf Try.prog 293 = some false := by kernel_rfl
theorem zr_293 : zrf Try.prog 293 = some (.pointer none) := by kernel_rfl
theorem tf_293 : TF Try.prog 293 1 8 (.pointer none) := ⟨sz_293, by kernel_rfl, zr_293, by kernel_rfl, by decide⟩
theorem co_293 : Try.prog.concrete 293 = true := by kernel_rfl
theorem sz_294 : szf Try.prog 294 = some 1 := by kernel_rfl
theorem ag_294 : agf Try.prog 294 = some false := by kernel_rfl
theorem zr_294 : zrf Try.prog 294 = some (.map none) := by kernel_rfl
theorem tf_294 : TF Try.prog 294 1 8 (.map none) := ⟨sz_294, by kernel_rfl, zr_294, by kernel_rfl, by decide⟩
theorem co_294 : Try.prog.concrete 294 = true := by kernel_rfl
theorem sz_295 : szf Try.prog 295 = some 4 := by kernel_rfl
theorem ag_295 : agf Try.prog 295 = some true := by kernel_rfl
theorem zr_295 : zrf Try.prog 295 = some (.agg #[.string ⟨#[]⟩, .map none, .slice none 0 0, .int .i64 0]) := by kernel_rfl
theorem tf_295 : TF Try.prog 295 4 56 (.agg #[.string ⟨#[]⟩, .map none, .slice none 0 0, .int .i64 0]) := ⟨sz_295, by kernel_rfl, zr_295, by kernel_rfl, by decide⟩
theorem fo_295_0 : fof Try.prog 295 0 = some 0 := by kernel_rfl
theorem fv_295_0 : fvf Try.prog 295 0 = some (0, false, 1) := by kernel_rfl
theorem fo_295_1 : fof Try.prog 295 1 = some 1 := by kernel_rfl
theorem fv_295_1 : fvf Try.prog 295 1 = some (1, false, 1) := by kernel_rfl
theorem fo_295_2 : fof Try.prog 295 2 = some 2 := by kernel_rfl
theorem fv_295_2 : fvf Try.prog 295 2 = some (2, false, 1) := by kernel_rfl
theorem fo_295_3 : fof Try.prog 295 3 = some 3 := by kernel_rfl
theorem fv_295_3 : fvf Try.prog 295 3 = some (3, false, 1) := by kernel_rfl
theorem pl_295 : plc Try.prog 295 = some [(0, 1), (1, 1), (2, 1), (3, 1)] := by kernel_rfl
theorem co_295 : Try.prog.concrete 295 = true := by kernel_rfl
theorem sz_296 : szf Try.prog 296 = some 4 := by kernel_rfl
theorem ag_296 : agf Try.prog 296 = some true := by kernel_rfl
theorem zr_296 : zrf Try.prog 296 = some (.agg #[.string ⟨#[]⟩, .map none, .slice none 0 0, .int .i64 0]) := by kernel_rfl
theorem tf_296 : TF Try.prog 296 4 56 (.agg #[.string ⟨#[]⟩, .map none, .slice none 0 0, .int .i64 0]) := ⟨sz_296, by kernel_rfl, zr_296, by kernel_rfl, by decide⟩
theorem fo_296_0 : fof Try.prog 296 0 = some 0 := by kernel_rfl
theorem fv_296_0 : fvf Try.prog 296 0 = some (0, false, 1) := by kernel_rfl
theorem fo_296_1 : fof Try.prog 296 1 = some 1 := by kernel_rfl
theorem fv_296_1 : fvf Try.prog 296 1 = some (1, false, 1) := by kernel_rfl
theorem fo_296_2 : fof Try.prog 296 2 = some 2 := by kernel_rfl
theorem fv_296_2 : fvf Try.prog 296 2 = some (2, false, 1) := by kernel_rfl
theorem fo_296_3 : fof Try.prog 296 3 = some 3 := by kernel_rfl
theorem fv_296_3 : fvf Try.prog 296 3 = some (3, false, 1) := by kernel_rfl
theorem pl_296 : plc Try.prog 296 = some [(0, 1), (1, 1), (2, 1), (3, 1)] := by kernel_rfl
theorem co_296 : Try.prog.concrete 296 = true := by kernel_rfl
theorem sz_297 : szf Try.prog 297 = some 4 := by kernel_rfl
theorem ag_297 : agf Try.prog 297 = some true := by kernel_rfl
theorem zr_297 : zrf Try.prog 297 = some (.agg #[.int .u8 0, .int .u8 0, .int .u8 0, .int .u8 0]) := by kernel_rfl
theorem tf_297 : TF Try.prog 297 4 4 (.agg #[.int .u8 0, .int .u8 0, .int .u8 0, .int .u8 0]) := ⟨sz_297, by kernel_rfl, zr_297, by kernel_rfl, by decide⟩
theorem co_297 : Try.prog.concrete 297 = true := by kernel_rfl
theorem sz_298 : szf Try.prog 298 = some 4 := by kernel_rfl
theorem ag_298 : agf Try.prog 298 = some true := by kernel_rfl
theorem zr_298 : zrf Try.prog 298 = some (.agg #[.int .u8 0, .int .u8 0, .int .u8 0, .int .u8 0]) := by kernel_rfl
theorem tf_298 : TF Try.prog 298 4 4 (.agg #[.int .u8 0, .int .u8 0, .int .u8 0, .int .u8 0]) := ⟨sz_298, by kernel_rfl, zr_298, by kernel_rfl, by decide⟩
theorem co_298 : Try.prog.concrete 298 = true := by kernel_rfl
theorem sz_299 : szf Try.prog 299 = some 1 := by kernel_rfl
theorem ag_299 : agf Try.prog 299 = some false := by kernel_rfl
theorem zr_299 : zrf Try.prog 299 = some (.nilFunc) := by kernel_rfl
theorem tf_299 : TF Try.prog 299 1 8 (.nilFunc) := ⟨sz_299, by kernel_rfl, zr_299, by kernel_rfl, by decide⟩
theorem co_299 : Try.prog.concrete 299 = true := by kernel_rfl
theorem sz_300 : szf Try.prog 300 = some 1 := by kernel_rfl
theorem ag_300 : agf Try.prog 300 = some false := by kernel_rfl
theorem zr_300 : zrf Try.prog 300 = some (.nilFunc) := by kernel_rfl
theorem tf_300 : TF Try.prog 300 1 8 (.nilFunc) := ⟨sz_300, by kernel_rfl, zr_300, by kernel_rfl, by decide⟩
theorem co_300 : Try.prog.concrete 300 = true := by kernel_rfl
theorem sz_301 : szf Try.prog 301 = some 1 := by kernel_rfl
theorem ag_301 : agf Try.prog 301 = some false := by kernel_rfl
theorem zr_301 : zrf Try.prog 301 = some (.nilFunc) := by kernel_rfl
theorem tf_301 : TF Try.prog 301 1 8 (.nilFunc) := ⟨sz_301, by kernel_rfl, zr_301, by kernel_rfl, by decide⟩
theorem co_301 : Try.prog.concrete 301 = true := by kernel_rfl
theorem sz_302 : szf Try.prog 302 = some 1 := by kernel_rfl
theorem ag_302 : agf Try.prog 302 = some false := by kernel_rfl
theorem zr_302 : zrf Try.prog 302 = some (.nilFunc) := by kernel_rfl
theorem tf_302 : TF Try.prog 302 1 8 (.nilFunc) := ⟨sz_302, by kernel_rfl, zr_302, by kernel_rfl, by decide⟩
theorem co_302 : Try.prog.concrete 302 = true := by kernel_rfl
theorem sz_303 : szf Try.prog 303 = some 1 := by kernel_rfl
theorem ag_303 : agf Try.prog 303 = some false := by kernel_rfl
theorem zr_303 : zrf Try.prog 303 = some (.nilFunc) := by kernel_rfl
theorem tf_303 : TF Try.prog 303 1 8 (.nilFunc) := ⟨sz_303, by kernel_rfl, zr_303, by kernel_rfl, by decide⟩
theorem co_303 : Try.prog.concrete 303 = true := by kernel_rfl
theorem sz_304 : szf Try.prog 304 = some 1 := by kernel_rfl
theorem ag_304 : agf Try.prog 304 = some false := by kernel_rfl
theorem zr_304 : zrf Try.prog 304 = some (.nilFunc) := by kernel_rfl
theorem tf_304 : TF Try.prog 304 1 8 (.nilFunc) := ⟨sz_304, by kernel_rfl, zr_304, by kernel_rfl, by decide⟩
theorem co_304 : Try.prog.concrete 304 = true := by kernel_rfl
theorem sz_305 : szf Try.prog 305 = some 259 := by kernel_rfl
theorem ag_305 : agf Try.prog 305 = some true := by kernel_rfl
theorem zr_305 : zrf Try.prog 305 = some (.agg (List.replicate 256 (.int .u32 0 : Value) ++ [.string ⟨#[]⟩, .slice none 0 0, .bool false] : List Value).toArray) := by kernel_rfl
theorem fo_305_0 : fof Try.prog 305 0 = some 0 := by kernel_rfl
theorem fv_305_0 : fvf Try.prog 305 0 = some (0, true, 256) := by kernel_rfl
theorem fo_305_1 : fof Try.prog 305 1 = some 256 := by kernel_rfl
theorem fv_305_1 : fvf Try.prog 305 1 = some (256, false, 1) := by kernel_rfl
theorem fo_305_2 : fof Try.prog 305 2 = some 257 := by kernel_rfl
theorem fv_305_2 : fvf Try.prog 305 2 = some (257, false, 1) := by kernel_rfl
theorem fo_305_3 : fof Try.prog 305 3 = some 258 := by kernel_rfl
theorem fv_305_3 : fvf Try.prog 305 3 = some (258, false, 1) := by kernel_rfl
theorem pl_305 : plc Try.prog 305 = some [(0, 256), (256, 1), (257, 1), (258, 1)] := by kernel_rfl
theorem co_305 : Try.prog.concrete 305 = true := by kernel_rfl
theorem sz_306 : szf Try.prog 306 = some 259 := by kernel_rfl
theorem ag_306 : agf Try.prog 306 = some true := by kernel_rfl
theorem zr_306 : zrf Try.prog 306 = some (.agg (List.replicate 256 (.int .u32 0 : Value) ++ [.string ⟨#[]⟩, .slice none 0 0, .bool false] : List Value).toArray) := by kernel_rfl
theorem fo_306_0 : fof Try.prog 306 0 = some 0 := by kernel_rfl
theorem fv_306_0 : fvf Try.prog 306 0 = some (0, true, 256) := by kernel_rfl
theorem fo_306_1 : fof Try.prog 306 1 = some 256 := by kernel_rfl
theorem fv_306_1 : fvf Try.prog 306 1 = some (256, false, 1) := by kernel_rfl
theorem fo_306_2 : fof Try.prog 306 2 = some 257 := by kernel_rfl
theorem fv_306_2 : fvf Try.prog 306 2 = some (257, false, 1) := by kernel_rfl
theorem fo_306_3 : fof Try.prog 306 3 = some 258 := by kernel_rfl
theorem fv_306_3 : fvf Try.prog 306 3 = some (258, false, 1) := by kernel_rfl
theorem pl_306 : plc Try.prog 306 = some [(0, 256), (256, 1), (257, 1), (258, 1)] := by kernel_rfl
theorem co_306 : Try.prog.concrete 306 = true := by kernel_rfl
theorem sz_307 : szf Try.prog 307 = some 1 := by kernel_rfl
theorem ag_307 : agf Try.prog 307 = some false := by kernel_rfl
theorem zr_307 : zrf Try.prog 307 = some (.nilFunc) := by kernel_rfl
theorem tf_307 : TF Try.prog 307 1 8 (.nilFunc) := ⟨sz_307, by kernel_rfl, zr_307, by kernel_rfl, by decide⟩
theorem co_307 : Try.prog.concrete 307 = true := by kernel_rfl
theorem sz_308 : szf Try.prog 308 = some 4 := by kernel_rfl
theorem ag_308 : agf Try.prog 308 = some true := by kernel_rfl
theorem zr_308 : zrf Try.prog 308 = some (.agg #[.int .i64 0, .int .i64 0, .int .i64 0, .int .i64 0]) := by kernel_rfl
theorem tf_308 : TF Try.prog 308 4 32 (.agg #[.int .i64 0, .int .i64 0, .int .i64 0, .int .i64 0]) := ⟨sz_308, by kernel_rfl, zr_308, by kernel_rfl, by decide⟩
theorem co_308 : Try.prog.concrete 308 = true := by kernel_rfl
theorem sz_309 : szf Try.prog 309 = some 1 := by kernel_rfl
theorem ag_309 : agf Try.prog 309 = some false := by kernel_rfl
theorem zr_309 : zrf Try.prog 309 = some (.nilFunc) := by kernel_rfl
theorem tf_309 : TF Try.prog 309 1 8 (.nilFunc) := ⟨sz_309, by kernel_rfl, zr_309, by kernel_rfl, by decide⟩
theorem co_309 : Try.prog.concrete 309 = true := by kernel_rfl
theorem sz_310 : szf Try.prog 310 = some 1 := by kernel_rfl
theorem ag_310 : agf Try.prog 310 = some false := by kernel_rfl
theorem zr_310 : zrf Try.prog 310 = some (.map none) := by kernel_rfl
theorem tf_310 : TF Try.prog 310 1 8 (.map none) := ⟨sz_310, by kernel_rfl, zr_310, by kernel_rfl, by decide⟩
theorem co_310 : Try.prog.concrete 310 = true := by kernel_rfl
theorem sz_311 : szf Try.prog 311 = some 1 := by kernel_rfl
theorem ag_311 : agf Try.prog 311 = some false := by kernel_rfl
theorem zr_311 : zrf Try.prog 311 = some (.nilFunc) := by kernel_rfl
theorem tf_311 : TF Try.prog 311 1 8 (.nilFunc) := ⟨sz_311, by kernel_rfl, zr_311, by kernel_rfl, by decide⟩
theorem co_311 : Try.prog.concrete 311 = true := by kernel_rfl
theorem sz_312 : szf Try.prog 312 = some 1 := by kernel_rfl
theorem ag_312 : agf Try.prog 312 = some false := by kernel_rfl
theorem zr_312 : zrf Try.prog 312 = some (.nilFunc) := by kernel_rfl
theorem tf_312 : TF Try.prog 312 1 8 (.nilFunc) := ⟨sz_312, by kernel_rfl, zr_312, by kernel_rfl, by decide⟩
theorem co_312 : Try.prog.concrete 312 = true := by kernel_rfl
theorem sz_313 : szf Try.prog 313 = some 1 := by kernel_rfl
theorem ag_313 : agf Try.prog 313 = some false := by kernel_rfl
theorem zr_313 : zrf Try.prog 313 = some (.nilFunc) := by kernel_rfl
theorem tf_313 : TF Try.prog 313 1 8 (.nilFunc) := ⟨sz_313, by kernel_rfl, zr_313, by kernel_rfl, by decide⟩
theorem co_313 : Try.prog.concrete 313 = true := by kernel_rfl
theorem sz_314 : szf Try.prog 314 = some 1 := by kernel_rfl
theorem ag_314 : agf Try.prog 314 = some false := by kernel_rfl
theorem zr_314 : zrf Try.prog 314 = some (.nilFunc) := by kernel_rfl
theorem tf_314 : TF Try.prog 314 1 8 (.nilFunc) := ⟨sz_314, by kernel_rfl, zr_314, by kernel_rfl, by decide⟩
theorem co_314 : Try.prog.concrete 314 = true := by kernel_rfl
theorem sz_315 : szf Try.prog 315 = some 1 := by kernel_rfl
theorem ag_315 : agf Try.prog 315 = some false := by kernel_rfl
theorem zr_315 : zrf Try.prog 315 = some (.nilFunc) := by kernel_rfl
theorem tf_315 : TF Try.prog 315 1 8 (.nilFunc) := ⟨sz_315, by kernel_rfl, zr_315, by kernel_rfl, by decide⟩
theorem co_315 : Try.prog.concrete 315 = true := by kernel_rfl
theorem sz_316 : szf Try.prog 316 = some 1 := by kernel_rfl
theorem ag_316 : agf Try.prog 316 = some false := by kernel_rfl
theorem zr_316 : zrf Try.prog 316 = some (.nilFunc) := by kernel_rfl
theorem tf_316 : TF Try.prog 316 1 8 (.nilFunc) := ⟨sz_316, by kernel_rfl, zr_316, by kernel_rfl, by decide⟩
theorem co_316 : Try.prog.concrete 316 = true := by kernel_rfl
theorem sz_317 : szf Try.prog 317 = some 1 := by kernel_rfl
theorem ag_317 : agf Try.prog 317 = some false := by kernel_rfl
theorem zr_317 : zrf Try.prog 317 = some (.nilFunc) := by kernel_rfl
theorem tf_317 : TF Try.prog 317 1 8 (.nilFunc) := ⟨sz_317, by kernel_rfl, zr_317, by kernel_rfl, by decide⟩
theorem co_317 : Try.prog.concrete 317 = true := by kernel_rfl
theorem sz_318 : szf Try.prog 318 = some 1 := by kernel_rfl
theorem ag_318 : agf Try.prog 318 = some false := by kernel_rfl
theorem zr_318 : zrf Try.prog 318 = some (.nilFunc) := by kernel_rfl
theorem tf_318 : TF Try.prog 318 1 8 (.nilFunc) := ⟨sz_318, by kernel_rfl, zr_318, by kernel_rfl, by decide⟩
theorem co_318 : Try.prog.concrete 318 = true := by kernel_rfl
theorem sz_319 : szf Try.prog 319 = some 1 := by kernel_rfl
theorem ag_319 : agf Try.prog 319 = some false := by kernel_rfl
theorem zr_319 : zrf Try.prog 319 = some (.nilFunc) := by kernel_rfl
theorem tf_319 : TF Try.prog 319 1 8 (.nilFunc) := ⟨sz_319, by kernel_rfl, zr_319, by kernel_rfl, by decide⟩
theorem co_319 : Try.prog.concrete 319 = true := by kernel_rfl
theorem sz_320 : szf Try.prog 320 = some 1 := by kernel_rfl
theorem ag_320 : agf Try.prog 320 = some false := by kernel_rfl
theorem zr_320 : zrf Try.prog 320 = some (.nilFunc) := by kernel_rfl
theorem tf_320 : TF Try.prog 320 1 8 (.nilFunc) := ⟨sz_320, by kernel_rfl, zr_320, by kernel_rfl, by decide⟩
theorem co_320 : Try.prog.concrete 320 = true := by kernel_rfl
theorem sz_321 : szf Try.prog 321 = some 1 := by kernel_rfl
theorem ag_321 : agf Try.prog 321 = some false := by kernel_rfl
theorem zr_321 : zrf Try.prog 321 = some (.nilFunc) := by kernel_rfl
theorem tf_321 : TF Try.prog 321 1 8 (.nilFunc) := ⟨sz_321, by kernel_rfl, zr_321, by kernel_rfl, by decide⟩
theorem co_321 : Try.prog.concrete 321 = true := by kernel_rfl
theorem sz_322 : szf Try.prog 322 = some 1 := by kernel_rfl
theorem ag_322 : agf Try.prog 322 = some false := by kernel_rfl
theorem zr_322 : zrf Try.prog 322 = some (.pointer none) := by kernel_rfl
theorem tf_322 : TF Try.prog 322 1 8 (.pointer none) := ⟨sz_322, by kernel_rfl, zr_322, by kernel_rfl, by decide⟩
theorem co_322 : Try.prog.concrete 322 = true := by kernel_rfl
theorem sz_323 : szf Try.prog 323 = some 6 := by kernel_rfl
theorem ag_323 : agf Try.prog 323 = some true := by kernel_rfl
theorem zr_323 : zrf Try.prog 323 = some (.agg #[.pointer none, .string ⟨#[]⟩, .int .u64 0, .int .i64 0, .bool false, .bool false]) := by kernel_rfl
theorem tf_323 : TF Try.prog 323 6 48 (.agg #[.pointer none, .string ⟨#[]⟩, .int .u64 0, .int .i64 0, .bool false, .bool false]) := ⟨sz_323, by kernel_rfl, zr_323, by kernel_rfl, by decide⟩
theorem fo_323_0 : fof Try.prog 323 0 = some 0 := by kernel_rfl
theorem fv_323_0 : fvf Try.prog 323 0 = some (0, false, 1) := by kernel_rfl
theorem fo_323_1 : fof Try.prog 323 1 = some 1 := by kernel_rfl
theorem fv_323_1 : fvf Try.prog 323 1 = some (1, false, 1) := by kernel_rfl
theorem fo_323_2 : fof Try.prog 323 2 = some 2 := by kernel_rfl
theorem fv_323_2 : fvf Try.prog 323 2 = some (2, false, 1) := by kernel_rfl
theorem fo_323_3 : fof Try.prog 323 3 = some 3 := by kernel_rfl
theorem fv_323_3 : fvf Try.prog 323 3 = some (3, false, 1) := by kernel_rfl
theorem fo_323_4 : fof Try.prog 323 4 = some 4 := by kernel_rfl
theorem fv_323_4 : fvf Try.prog 323 4 = some (4, false, 1) := by kernel_rfl
theorem fo_323_5 : fof Try.prog 323 5 = some 5 := by kernel_rfl
theorem fv_323_5 : fvf Try.prog 323 5 = some (5, false, 1) := by kernel_rfl
theorem pl_323 : plc Try.prog 323 = some [(0, 1), (1, 1), (2, 1), (3, 1), (4, 1), (5, 1)] := by kernel_rfl
theorem co_323 : Try.prog.concrete 323 = true := by kernel_rfl
theorem sz_324 : szf Try.prog 324 = some 6 := by kernel_rfl
theorem ag_324 : agf Try.prog 324 = some true := by kernel_rfl
theorem zr_324 : zrf Try.prog 324 = some (.agg #[.pointer none, .string ⟨#[]⟩, .int .u64 0, .int .i64 0, .bool false, .bool false]) := by kernel_rfl
theorem tf_324 : TF Try.prog 324 6 48 (.agg #[.pointer none, .string ⟨#[]⟩, .int .u64 0, .int .i64 0, .bool false, .bool false]) := ⟨sz_324, by kernel_rfl, zr_324, by kernel_rfl, by decide⟩
theorem fo_324_0 : fof Try.prog 324 0 = some 0 := by kernel_rfl
theorem fv_324_0 : fvf Try.prog 324 0 = some (0, false, 1) := by kernel_rfl
theorem fo_324_1 : fof Try.prog 324 1 = some 1 := by kernel_rfl
theorem fv_324_1 : fvf Try.prog 324 1 = some (1, false, 1) := by kernel_rfl
theorem fo_324_2 : fof Try.prog 324 2 = some 2 := by kernel_rfl
theorem fv_324_2 : fvf Try.prog 324 2 = some (2, false, 1) := by kernel_rfl
theorem fo_324_3 : fof Try.prog 324 3 = some 3 := by kernel_rfl
theorem fv_324_3 : fvf Try.prog 324 3 = some (3, false, 1) := by kernel_rfl
theorem fo_324_4 : fof Try.prog 324 4 = some 4 := by kernel_rfl
theorem fv_324_4 : fvf Try.prog 324 4 = some (4, false, 1) := by kernel_rfl
theorem fo_324_5 : fof Try.prog 324 5 = some 5 := by kernel_rfl
theorem fv_324_5 : fvf Try.prog 324 5 = some (5, false, 1) := by kernel_rfl
theorem pl_324 : plc Try.prog 324 = some [(0, 1), (1, 1), (2, 1), (3, 1), (4, 1), (5, 1)] := by kernel_rfl
theorem co_324 : Try.prog.concrete 324 = true := by kernel_rfl
theorem sz_325 : szf Try.prog 325 = some 1 := by kernel_rfl
theorem ag_325 : agf Try.prog 325 = some false := by kernel_rfl
theorem zr_325 : zrf Try.prog 325 = some (.nilFunc) := by kernel_rfl
theorem tf_325 : TF Try.prog 325 1 8 (.nilFunc) := ⟨sz_325, by kernel_rfl, zr_325, by kernel_rfl, by decide⟩
theorem co_325 : Try.prog.concrete 325 = true := by kernel_rfl
theorem sz_326 : szf Try.prog 326 = some 1 := by kernel_rfl
theorem ag_326 : agf Try.prog 326 = some false := by kernel_rfl
theorem zr_326 : zrf Try.prog 326 = some (.pointer none) := by kernel_rfl
theorem tf_326 : TF Try.prog 326 1 8 (.pointer none) := ⟨sz_326, by kernel_rfl, zr_326, by kernel_rfl, by decide⟩
theorem co_326 : Try.prog.concrete 326 = true := by kernel_rfl
theorem sz_327 : szf Try.prog 327 = some 1 := by kernel_rfl
theorem ag_327 : agf Try.prog 327 = some false := by kernel_rfl
theorem zr_327 : zrf Try.prog 327 = some (.nilFunc) := by kernel_rfl
theorem tf_327 : TF Try.prog 327 1 8 (.nilFunc) := ⟨sz_327, by kernel_rfl, zr_327, by kernel_rfl, by decide⟩
theorem co_327 : Try.prog.concrete 327 = true := by kernel_rfl
theorem sz_329 : szf Try.prog 329 = some 1 := by kernel_rfl
theorem ag_329 : agf Try.prog 329 = some false := by kernel_rfl
theorem zr_329 : zrf Try.prog 329 = some (.nilFunc) := by kernel_rfl
theorem tf_329 : TF Try.prog 329 1 8 (.nilFunc) := ⟨sz_329, by kernel_rfl, zr_329, by kernel_rfl, by decide⟩
theorem co_329 : Try.prog.concrete 329 = true := by kernel_rfl
theorem sz_330 : szf Try.prog 330 = some 1 := by kernel_rfl
theorem ag_330 : agf Try.prog 330 = some false := by kernel_rfl
theorem zr_330 : zrf Try.prog 330 = some (.nilFunc) := by kernel_rfl
theorem tf_330 : TF Try.prog 330 1 8 (.nilFunc) := ⟨sz_330, by kernel_rfl, zr_330, by kernel_rfl, by decide⟩
theorem co_330 : Try.prog.concrete 330 = true := by kernel_rfl
theorem sz_331 : szf Try.prog 331 = some 13 := by kernel_rfl
theorem ag_331 : agf Try.prog 331 = some true := by kernel_rfl
theorem zr_331 : zrf Try.prog 331 = some (.agg #[.int .u64 0, .int .u64 0, .int .u64 0, .int .u64 0, .int .u64 0, .int .u64 0, .int .u64 0, .int .u64 0, .int .u64 0, .int .u64 0, .int .u64 0, .int .u64 0, .int .u64 0]) := by kernel_rfl
theorem tf_331 : TF Try.prog 331 13 104 (.agg #[.int .u64 0, .int .u64 0, .int .u64 0, .int .u64 0, .int .u64 0, .int .u64 0, .int .u64 0, .int .u64 0, .int .u64 0, .int .u64 0, .int .u64 0, .int .u64 0, .int .u64 0]) := ⟨sz_331, by kernel_rfl, zr_331, by kernel_rfl, by decide⟩
theorem co_331 : Try.prog.concrete 331 = true := by kernel_rfl
theorem sz_332 : szf Try.prog 332 = some 5 := by kernel_rfl
theorem ag_332 : agf Try.prog 332 = some true := by kernel_rfl
theorem zr_332 : zrf Try.prog 332 = some (.agg #[.int .i64 0, .int .i64 0, .int .i64 0, .int .i64 0, .int .i64 0]) := by kernel_rfl
theorem tf_332 : TF Try.prog 332 5 40 (.agg #[.int .i64 0, .int .i64 0, .int .i64 0, .int .i64 0, .int .i64 0]) := ⟨sz_332, by kernel_rfl, zr_332, by kernel_rfl, by decide⟩
theorem co_332 : Try.prog.concrete 332 = true := by kernel_rfl
theorem sz_333 : szf Try.prog 333 = some 1 := by kernel_rfl
theorem ag_333 : agf Try.prog 333 = some false := by kernel_rfl
theorem zr_333 : zrf Try.prog 333 = some (.nilFunc) := by kernel_rfl
theorem tf_333 : TF Try.prog 333 1 8 (.nilFunc) := ⟨sz_333, by kernel_rfl, zr_333, by kernel_rfl, by decide⟩
theorem co_333 : Try.prog.concrete 333 = true := by kernel_rfl
theorem sz_334 : szf Try.prog 334 = some 1 := by kernel_rfl
theorem ag_334 : agf Try.prog 334 = some false := by kernel_rfl
theorem zr_334 : zrf Try.prog 334 = some (.nilFunc) := by kernel_rfl
theorem tf_334 : TF Try.prog 334 1 8 (.nilFunc) := ⟨sz_334, by kernel_rfl, zr_334, by kernel_rfl, by decide⟩
theorem co_334 : Try.prog.concrete 334 = true := by kernel_rfl
theorem sz_335 : szf Try.prog 335 = some 1 := by kernel_rfl
theorem ag_335 : agf Try.prog 335 = some false := by kernel_rfl
theorem zr_335 : zrf Try.prog 335 = some (.nilFunc) := by kernel_rfl
theorem tf_335 : TF Try.prog 335 1 8 (.nilFunc) := ⟨sz_335, by kernel_rfl, zr_335, by kernel_rfl, by decide⟩
theorem co_335 : Try.prog.concrete 335 = true := by kernel_rfl
theorem sz_336 : szf Try.prog 336 = some 1 := by kernel_rfl
theorem ag_336 : agf Try.prog 336 = some false := by kernel_rfl
theorem zr_336 : zrf Try.prog 336 = some (.nilFunc) := by kernel_rfl
theorem tf_336 : TF Try.prog 336 1 8 (.nilFunc) := ⟨sz_336, by kernel_rfl, zr_336, by kernel_rfl, by decide⟩
theorem co_336 : Try.prog.concrete 336 = true := by kernel_rfl
theorem sz_337 : szf Try.prog 337 = some 1 := by kernel_rfl
theorem ag_337 : agf Try.prog 337 = some false := by kernel_rfl
theorem zr_337 : zrf Try.prog 337 = some (.nilFunc) := by kernel_rfl
theorem tf_337 : TF Try.prog 337 1 8 (.nilFunc) := ⟨sz_337, by kernel_rfl, zr_337, by kernel_rfl, by decide⟩
theorem co_337 : Try.prog.concrete 337 = true := by kernel_rfl
theorem sz_338 : szf Try.prog 338 = some 1 := by kernel_rfl
theorem ag_338 : agf Try.prog 338 = some false := by kernel_rfl
theorem zr_338 : zrf Try.prog 338 = some (.nilFunc) := by kernel_rfl
theorem tf_338 : TF Try.prog 338 1 8 (.nilFunc) := ⟨sz_338, by kernel_rfl, zr_338, by kernel_rfl, by decide⟩
theorem co_338 : Try.prog.concrete 338 = true := by kernel_rfl
theorem sz_340 : szf Try.prog 340 = some 1 := by kernel_rfl
theorem ag_340 : agf Try.prog 340 = some false := by kernel_rfl
theorem zr_340 : zrf Try.prog 340 = some (.nilFunc) := by kernel_rfl
theorem tf_340 : TF Try.prog 340 1 8 (.nilFunc) := ⟨sz_340, by kernel_rfl, zr_340, by kernel_rfl, by decide⟩
theorem co_340 : Try.prog.concrete 340 = true := by kernel_rfl
theorem sz_341 : szf Try.prog 341 = some 1 := by kernel_rfl
theorem ag_341 : agf Try.prog 341 = some false := by kernel_rfl
theorem zr_341 : zrf Try.prog 341 = some (.nilFunc) := by kernel_rfl
theorem tf_341 : TF Try.prog 341 1 8 (.nilFunc) := ⟨sz_341, by kernel_rfl, zr_341, by kernel_rfl, by decide⟩
theorem co_341 : Try.prog.concrete 341 = true := by kernel_rfl
theorem sz_342 : szf Try.prog 342 = some 1 := by kernel_rfl
theorem ag_342 : agf Try.prog 342 = some false := by kernel_rfl
theorem zr_342 : zrf Try.prog 342 = some (.nilFunc) := by kernel_rfl
theorem tf_342 : TF Try.prog 342 1 8 (.nilFunc) := ⟨sz_342, by kernel_rfl, zr_342, by kernel_rfl, by decide⟩
theorem co_342 : Try.prog.concrete 342 = true := by kernel_rfl
theorem sz_343 : szf Try.prog 343 = some 1 := by kernel_rfl
theorem ag_343 : agf Try.prog 343 = some false := by kernel_rfl
theorem zr_343 : zrf Try.prog 343 = some (.nilFunc) := by kernel_rfl
theorem tf_343 : TF Try.prog 343 1 8 (.nilFunc) := ⟨sz_343, by kernel_rfl, zr_343, by kernel_rfl, by decide⟩
theorem co_343 : Try.prog.concrete 343 = true := by kernel_rfl
theorem sz_344 : szf Try.prog 344 = some 1 := by kernel_rfl
theorem ag_344 : agf Try.prog 344 = some false := by kernel_rfl
theorem zr_344 : zrf Try.prog 344 = some (.int .i64 0) := by kernel_rfl
theorem tf_344 : TF Try.prog 344 1 8 (.int .i64 0) := ⟨sz_344, by kernel_rfl, zr_344, by kernel_rfl, by decide⟩
theorem co_344 : Try.prog.concrete 344 = true := by kernel_rfl
theorem sz_346 : szf Try.prog 346 = some 1 := by kernel_rfl
theorem ag_346 : agf Try.prog 346 = some false := by kernel_rfl
theorem zr_346 : zrf Try.prog 346 = some (.nilFunc) := by kernel_rfl
theorem tf_346 : TF Try.prog 346 1 8 (.nilFunc) := ⟨sz_346, by kernel_rfl, zr_346, by kernel_rfl, by decide⟩
theorem co_346 : Try.prog.concrete 346 = true := by kernel_rfl
theorem sz_347 : szf Try.prog 347 = some 1 := by kernel_rfl
theorem ag_347 : agf Try.prog 347 = some false := by kernel_rfl
theorem zr_347 : zrf Try.prog 347 = some (.nilFunc) := by kernel_rfl
theorem tf_347 : TF Try.prog 347 1 8 (.nilFunc) := ⟨sz_347, by kernel_rfl, zr_347, by kernel_rfl, by decide⟩
theorem co_347 : Try.prog.concrete 347 = true := by kernel_rfl
theorem sz_348 : szf Try.prog 348 = some 1 := by kernel_rfl
theorem ag_348 : agf Try.prog 348 = some false := by kernel_rfl
theorem zr_348 : zrf Try.prog 348 = some (.nilFunc) := by kernel_rfl
theorem tf_348 : TF Try.prog 348 1 8 (.nilFunc) := ⟨sz_348, by kernel_rfl, zr_348, by kernel_rfl, by decide⟩
theorem co_348 : Try.prog.concrete 348 = true := by kernel_rfl
theorem sz_349 : szf Try.prog 349 = some 1 := by kernel_rfl
theorem ag_349 : agf Try.prog 349 = some false := by kernel_rfl
theorem zr_349 : zrf Try.prog 349 = some (.nilFunc) := by kernel_rfl
theorem tf_349 : TF Try.prog 349 1 8 (.nilFunc) := ⟨sz_349, by kernel_rfl, zr_349, by kernel_rfl, by decide⟩
theorem co_349 : Try.prog.concrete 349 = true := by kernel_rfl
theorem sz_350 : szf Try.prog 350 = some 1 := by kernel_rfl
theorem ag_350 : agf Try.prog 350 = some false := by kernel_rfl
theorem zr_350 : zrf Try.prog 350 = some (.nilFunc) := by kernel_rfl
theorem tf_350 : TF Try.prog 350 1 8 (.nilFunc) := ⟨sz_350, by kernel_rfl, zr_350, by kernel_rfl, by decide⟩
theorem co_350 : Try.prog.concrete 350 = true := by kernel_rfl
theorem sz_351 : szf Try.prog 351 = some 1 := by kernel_rfl
theorem ag_351 : agf Try.prog 351 = some false := by kernel_rfl
theorem zr_351 : zrf Try.prog 351 = some (.nilFunc) := by kernel_rfl
theorem tf_351 : TF Try.prog 351 1 8 (.nilFunc) := ⟨sz_351, by kernel_rfl, zr_351, by kernel_rfl, by decide⟩
theorem co_351 : Try.prog.concrete 351 = true := by kernel_rfl
theorem sz_352 : szf Try.prog 352 = some 1 := by kernel_rfl
theorem ag_352 : agf Try.prog 352 = some false := by kernel_rfl
theorem zr_352 : zrf Try.prog 352 = some (.nilFunc) := by kernel_rfl
theorem tf_352 : TF Try.prog 352 1 8 (.nilFunc) := ⟨sz_352, by kernel_rfl, zr_352, by kernel_rfl, by decide⟩
theorem co_352 : Try.prog.concrete 352 = true := by kernel_rfl
theorem sz_353 : szf Try.prog 353 = some 1 := by kernel_rfl
theorem ag_353 : agf Try.prog 353 = some false := by kernel_rfl
theorem zr_353 : zrf Try.prog 353 = some (.nilFunc) := by kernel_rfl
theorem tf_353 : TF Try.prog 353 1 8 (.nilFunc) := ⟨sz_353, by kernel_rfl, zr_353, by kernel_rfl, by decide⟩
theorem co_353 : Try.prog.concrete 353 = true := by kernel_rfl
theorem sz_354 : szf Try.prog 354 = some 1 := by kernel_rfl
theorem ag_354 : agf Try.prog 354 = some false := by kernel_rfl
theorem zr_354 : zrf Try.prog 354 = some (.int .u64 0) := by kernel_rfl
theorem tf_354 : TF Try.prog 354 1 8 (.int .u64 0) := ⟨sz_354, by kernel_rfl, zr_354, by kernel_rfl, by decide⟩
theorem co_354 : Try.prog.concrete 354 = true := by kernel_rfl
theorem sz_355 : szf Try.prog 355 = some 1 := by kernel_rfl
theorem ag_355 : agf Try.prog 355 = some false := by kernel_rfl
theorem zr_355 : zrf Try.prog 355 = some (.nilFunc) := by kernel_rfl
theorem tf_355 : TF Try.prog 355 1 8 (.nilFunc) := ⟨sz_355, by kernel_rfl, zr_355, by kernel_rfl, by decide⟩
theorem co_355 : Try.prog.concrete 355 = true := by kernel_rfl
theorem sz_356 : szf Try.prog 356 = some 1 := by kernel_rfl
theorem ag_356 : agf Try.prog 356 = some false := by kernel_rfl
theorem zr_356 : zrf Try.prog 356 = some (.nilFunc) := by kernel_rfl
theorem tf_356 : TF Try.prog 356 1 8 (.nilFunc) := ⟨sz_356, by kernel_rfl, zr_356, by kernel_rfl, by decide⟩
theorem co_356 : Try.prog.concrete 356 = true := by kernel_rfl
theorem sz_357 : szf Try.prog 357 = some 1 := by kernel_rfl
theorem ag_357 : agf Try.prog 357 = some false := by kernel_rfl
theorem zr_357 : zrf Try.prog 357 = some (.pointer none) := by kernel_rfl
theorem tf_357 : TF Try.prog 357 1 8 (.pointer none) := ⟨sz_357, by kernel_rfl, zr_357, by kernel_rfl, by decide⟩
theorem co_357 : Try.prog.concrete 357 = true := by kernel_rfl
theorem sz_358 : szf Try.prog 358 = some 1 := by kernel_rfl
theorem ag_358 : agf Try.prog 358 = some false := by kernel_rfl
theorem zr_358 : zrf Try.prog 358 = some (.nilFunc) := by kernel_rfl
theorem tf_358 : TF Try.prog 358 1 8 (.nilFunc) := ⟨sz_358, by kernel_rfl, zr_358, by kernel_rfl, by decide⟩
theorem co_358 : Try.prog.concrete 358 = true := by kernel_rfl
theorem sz_359 : szf Try.prog 359 = some 1 := by kernel_rfl
theorem ag_359 : agf Try.prog 359 = some false := by kernel_rfl
theorem zr_359 : zrf Try.prog 359 = some (.pointer none) := by kernel_rfl
theorem tf_359 : TF Try.prog 359 1 8 (.pointer none) := ⟨sz_359, by kernel_rfl, zr_359, by kernel_rfl, by decide⟩
theorem co_359 : Try.prog.concrete 359 = true := by kernel_rfl
theorem sz_361 : szf Try.prog 361 = some 1 := by kernel_rfl
theorem ag_361 : agf Try.prog 361 = some false := by kernel_rfl
theorem zr_361 : zrf Try.prog 361 = some (.nilFunc) := by kernel_rfl
theorem tf_361 : TF Try.prog 361 1 8 (.nilFunc) := ⟨sz_361, by kernel_rfl, zr_361, by kernel_rfl, by decide⟩
theorem co_361 : Try.prog.concrete 361 = true := by kernel_rfl
theorem sz_362 : szf Try.prog 362 = some 4 := by kernel_rfl
theorem ag_362 : agf Try.prog 362 = some true := by kernel_rfl
theorem zr_362 : zrf Try.prog 362 = some (.agg #[.pointer none, .pointer none, .pointer none, .string ⟨#[]⟩]) := by kernel_rfl
theorem tf_362 : TF Try.prog 362 4 40 (.agg #[.pointer none, .pointer none, .pointer none, .string ⟨#[]⟩]) := ⟨sz_362, by kernel_rfl, zr_362, by kernel_rfl, by decide⟩
theorem fo_362_0 : fof Try.prog 362 0 = some 0 := by kernel_rfl
theorem fv_362_0 : fvf Try.prog 362 0 = some (0, false, 1) := by kernel_rfl
theorem fo_362_1 : fof Try.prog 362 1 = some 1 := by kernel_rfl
theorem fv_362_1 : fvf Try.prog 362 1 = some (1, false, 1) := by kernel_rfl
theorem fo_362_2 : fof Try.prog 362 2 = some 2 := by kernel_rfl
theorem fv_362_2 : fvf Try.prog 362 2 = some (2, false, 1) := by kernel_rfl
theorem fo_362_3 : fof Try.prog 362 3 = some 3 := by kernel_rfl
theorem fv_362_3 : fvf Try.prog 362 3 = some (3, false, 1) := by kernel_rfl
theorem pl_362 : plc Try.prog 362 = some [(0, 1), (1, 1), (2, 1), (3, 1)] := by kernel_rfl
theorem co_362 : Try.prog.concrete 362 = true := by kernel_rfl
theorem sz_363 : szf Try.prog 363 = some 4 := by kernel_rfl
theorem ag_363 : agf Try.prog 363 = some true := by kernel_rfl
theorem zr_363 : zrf Try.prog 363 = some (.agg #[.pointer none, .pointer none, .pointer none, .string ⟨#[]⟩]) := by kernel_rfl
theorem tf_363 : TF Try.prog 363 4 40 (.agg #[.pointer none, .pointer none, .pointer none, .string ⟨#[]⟩]) := ⟨sz_363, by kernel_rfl, zr_363, by kernel_rfl, by decide⟩
theorem fo_363_0 : fof Try.prog 363 0 = some 0 := by kernel_rfl
theorem fv_363_0 : fvf Try.prog 363 0 = some (0, false, 1) := by kernel_rfl
theorem fo_363_1 : fof Try.prog 363 1 = some 1 := by kernel_rfl
theorem fv_363_1 : fvf Try.prog 363 1 = some (1, false, 1) := by kernel_rfl
theorem fo_363_2 : fof Try.prog 363 2 = some 2 := by kernel_rfl
theorem fv_363_2 : fvf Try.prog 363 2 = some (2, false, 1) := by kernel_rfl
theorem fo_363_3 : fof Try.prog 363 3 = some 3 := by kernel_rfl
theorem fv_363_3 : fvf Try.prog 363 3 = some (3, false, 1) := by kernel_rfl
theorem pl_363 : plc Try.prog 363 = some [(0, 1), (1, 1), (2, 1), (3, 1)] := by kernel_rfl
theorem co_363 : Try.prog.concrete 363 = true := by kernel_rfl
theorem sz_364 : szf Try.prog 364 = some 0 := by kernel_rfl
theorem ag_364 : agf Try.prog 364 = some true := by kernel_rfl
theorem zr_364 : zrf Try.prog 364 = some (.agg #[]) := by kernel_rfl
theorem co_364 : Try.prog.concrete 364 = true := by kernel_rfl
theorem sz_365 : szf Try.prog 365 = some 0 := by kernel_rfl
theorem ag_365 : agf Try.prog 365 = some true := by kernel_rfl
theorem zr_365 : zrf Try.prog 365 = some (.agg #[]) := by kernel_rfl
theorem fv_365_0 : fvf Try.prog 365 0 = some (0, true, 0) := by kernel_rfl
theorem pl_365 : plc Try.prog 365 = some [(0, 0)] := by kernel_rfl
theorem co_365 : Try.prog.concrete 365 = true := by kernel_rfl
theorem sz_366 : szf Try.prog 366 = some 0 := by kernel_rfl
theorem ag_366 : agf Try.prog 366 = some true := by kernel_rfl
theorem zr_366 : zrf Try.prog 366 = some (.agg #[]) := by kernel_rfl
theorem fv_366_0 : fvf Try.prog 366 0 = some (0, true, 0) := by kernel_rfl
theorem pl_366 : plc Try.prog 366 = some [(0, 0)] := by kernel_rfl
theorem co_366 : Try.prog.concrete 366 = true := by kernel_rfl
theorem sz_367 : szf Try.prog 367 = some 1 := by kernel_rfl
theorem ag_367 : agf Try.prog 367 = some false := by kernel_rfl
theorem zr_367 : zrf Try.prog 367 = some (.int .u8 0) := by kernel_rfl
theorem tf_367 : TF Try.prog 367 1 1 (.int .u8 0) := ⟨sz_367, by kernel_rfl, zr_367, by kernel_rfl, by decide⟩
theorem co_367 : Try.prog.concrete 367 = true := by kernel_rfl
theorem sz_368 : szf Try.prog 368 = some 1 := by kernel_rfl
theorem ag_368 : agf Try.prog 368 = some false := by kernel_rfl
theorem zr_368 : zrf Try.prog 368 = some (.int .u8 0) := by kernel_rfl
theorem tf_368 : TF Try.prog 368 1 1 (.int .u8 0) := ⟨sz_368, by kernel_rfl, zr_368, by kernel_rfl, by decide⟩
theorem co_368 : Try.prog.concrete 368 = true := by kernel_rfl
theorem sz_369 : szf Try.prog 369 = some 1 := by kernel_rfl
theorem ag_369 : agf Try.prog 369 = some false := by kernel_rfl
theorem zr_369 : zrf Try.prog 369 = some (.nilFunc) := by kernel_rfl
theorem tf_369 : TF Try.prog 369 1 8 (.nilFunc) := ⟨sz_369, by kernel_rfl, zr_369, by kernel_rfl, by decide⟩
theorem co_369 : Try.prog.concrete 369 = true := by kernel_rfl
theorem sz_370 : szf Try.prog 370 = some 1 := by kernel_rfl
theorem ag_370 : agf Try.prog 370 = some false := by kernel_rfl
theorem zr_370 : zrf Try.prog 370 = some (.int .i32 0) := by kernel_rfl
theorem tf_370 : TF Try.prog 370 1 4 (.int .i32 0) := ⟨sz_370, by kernel_rfl, zr_370, by kernel_rfl, by decide⟩
theorem co_370 : Try.prog.concrete 370 = true := by kernel_rfl
theorem sz_371 : szf Try.prog 371 = some 1 := by kernel_rfl
theorem ag_371 : agf Try.prog 371 = some false := by kernel_rfl
theorem zr_371 : zrf Try.prog 371 = some (.int .i32 0) := by kernel_rfl
theorem tf_371 : TF Try.prog 371 1 4 (.int .i32 0) := ⟨sz_371, by kernel_rfl, zr_371, by kernel_rfl, by decide⟩
theorem co_371 : Try.prog.concrete 371 = true := by kernel_rfl
theorem sz_372 : szf Try.prog 372 = some 11 := by kernel_rfl
theorem ag_372 : agf Try.prog 372 = some true := by kernel_rfl
theorem zr_372 : zrf Try.prog 372 = some (.agg #[.int .u64 0, .int .u64 0, .int .u32 0, .int .u8 0, .int .u8 0, .int .u8 0, .int .u8 0, .nilFunc, .pointer none, .int .i32 0, .int .i32 0]) := by kernel_rfl
theorem tf_372 : TF Try.prog 372 11 48 (.agg #[.int .u64 0, .int .u64 0, .int .u32 0, .int .u8 0, .int .u8 0, .int .u8 0, .int .u8 0, .nilFunc, .pointer none, .int .i32 0, .int .i32 0]) := ⟨sz_372, by kernel_rfl, zr_372, by kernel_rfl, by decide⟩
theorem fo_372_0 : fof Try.prog 372 0 = some 0 := by kernel_rfl
theorem fv_372_0 : fvf Try.prog 372 0 = some (0, false, 1) := by kernel_rfl
theorem fo_372_1 : fof Try.prog 372 1 = some 1 := by kernel_rfl
theorem fv_372_1 : fvf Try.prog 372 1 = some (1, false, 1) := by kernel_rfl
theorem fo_372_2 : fof Try.prog 372 2 = some 2 := by kernel_rfl
theorem fv_372_2 : fvf Try.prog 372 2 = some (2, false, 1) := by kernel_rfl
theorem fo_372_3 : fof Try.prog 372 3 = some 3 := by kernel_rfl
theorem fv_372_3 : fvf Try.prog 372 3 = some (3, false, 1) := by kernel_rfl
theorem fo_372_4 : fof Try.prog 372 4 = some 4 := by kernel_rfl
theorem fv_372_4 : fvf Try.prog 372 4 = some (4, false, 1) := by kernel_rfl
theorem fo_372_5 : fof Try.prog 372 5 = some 5 := by kernel_rfl
theorem fv_372_5 : fvf Try.prog 372 5 = some (5, false, 1) := by kernel_rfl
theorem fo_372_6 : fof Try.prog 372 6 = some 6 := by kernel_rfl
theorem fv_372_6 : fvf Try.prog 372 6 = some (6, false, 1) := by kernel_rfl
theorem fo_372_7 : fof Try.prog 372 7 = some 7 := by kernel_rfl
theorem fv_372_7 : fvf Try.prog 372 7 = some (7, false, 1) := by kernel_rfl
theorem fo_372_8 : fof Try.prog 372 8 = some 8 := by kernel_rfl
theorem fv_372_8 : fvf Try.prog 372 8 = some (8, false, 1) := by kernel_rfl
theorem fo_372_9 : fof Try.prog 372 9 = some 9 := by kernel_rfl
theorem fv_372_9 : fvf Try.prog 372 9 = some (9, false, 1) := by kernel_rfl
theorem fo_372_10 : fof Try.prog 372 10 = some 10 := by kernel_rfl
theorem fv_372_10 : fvf Try.prog 372 10 = some (10, false, 1) := by kernel_rfl
theorem pl_372 : plc Try.prog 372 = some [(0, 1), (1, 1), (2, 1), (3, 1), (4, 1), (5, 1), (6, 1), (7, 1), (8, 1), (9, 1), (10, 1)] := by kernel_rfl
theorem co_372 : Try.prog.concrete 372 = true := by kernel_rfl
theorem sz_373 : szf Try.prog 373 = some 11 := by kernel_rfl
theorem ag_373 : agf Try.prog 373 = some true := by kernel_rfl
theorem zr_373 : zrf Try.prog 373 = some (.agg #[.int .u64 0, .int .u64 0, .int .u32 0, .int .u8 0, .int .u8 0, .int .u8 0, .int .u8 0, .nilFunc, .pointer none, .int .i32 0, .int .i32 0]) := by kernel_rfl
theorem tf_373 : TF Try.prog 373 11 48 (.agg #[.int .u64 0, .int .u64 0, .int .u32 0, .int .u8 0, .int .u8 0, .int .u8 0, .int .u8 0, .nilFunc, .pointer none, .int .i32 0, .int .i32 0]) := ⟨sz_373, by kernel_rfl, zr_373, by kernel_rfl, by decide⟩
theorem fo_373_0 : fof Try.prog 373 0 = some 0 := by kernel_rfl
theorem fv_373_0 : fvf Try.prog 373 0 = some (0, false, 1) := by kernel_rfl
theorem fo_373_1 : fof Try.prog 373 1 = some 1 := by kernel_rfl
theorem fv_373_1 : fvf Try.prog 373 1 = some (1, false, 1) := by kernel_rfl
theorem fo_373_2 : fof Try.prog 373 2 = some 2 := by kernel_rfl
theorem fv_373_2 : fvf Try.prog 373 2 = some (2, false, 1) := by kernel_rfl
theorem fo_373_3 : fof Try.prog 373 3 = some 3 := by kernel_rfl
theorem fv_373_3 : fvf Try.prog 373 3 = some (3, false, 1) := by kernel_rfl
theorem fo_373_4 : fof Try.prog 373 4 = some 4 := by kernel_rfl
theorem fv_373_4 : fvf Try.prog 373 4 = some (4, false, 1) := by kernel_rfl
theorem fo_373_5 : fof Try.prog 373 5 = some 5 := by kernel_rfl
theorem fv_373_5 : fvf Try.prog 373 5 = some (5, false, 1) := by kernel_rfl
theorem fo_373_6 : fof Try.prog 373 6 = some 6 := by kernel_rfl
theorem fv_373_6 : fvf Try.prog 373 6 = some (6, false, 1) := by kernel_rfl
theorem fo_373_7 : fof Try.prog 373 7 = some 7 := by kernel_rfl
theorem fv_373_7 : fvf Try.prog 373 7 = some (7, false, 1) := by kernel_rfl
theorem fo_373_8 : fof Try.prog 373 8 = some 8 := by kernel_rfl
theorem fv_373_8 : fvf Try.prog 373 8 = some (8, false, 1) := by kernel_rfl
theorem fo_373_9 : fof Try.prog 373 9 = some 9 := by kernel_rfl
theorem fv_373_9 : fvf Try.prog 373 9 = some (9, false, 1) := by kernel_rfl
theorem fo_373_10 : fof Try.prog 373 10 = some 10 := by kernel_rfl
theorem fv_373_10 : fvf Try.prog 373 10 = some (10, false, 1) := by kernel_rfl
theorem pl_373 : plc Try.prog 373 = some [(0, 1), (1, 1), (2, 1), (3, 1), (4, 1), (5, 1), (6, 1), (7, 1), (8, 1), (9, 1), (10, 1)] := by kernel_rfl
theorem co_373 : Try.prog.concrete 373 = true := by kernel_rfl
theorem sz_374 : szf Try.prog 374 = some 1 := by kernel_rfl
theorem ag_374 : agf Try.prog 374 = some false := by kernel_rfl
theorem zr_374 : zrf Try.prog 374 = some (.nilFunc) := by kernel_rfl
theorem tf_374 : TF Try.prog 374 1 8 (.nilFunc) := ⟨sz_374, by kernel_rfl, zr_374, by kernel_rfl, by decide⟩
theorem co_374 : Try.prog.concrete 374 = true := by kernel_rfl
theorem sz_375 : szf Try.prog 375 = some 1 := by kernel_rfl
theorem ag_375 : agf Try.prog 375 = some false := by kernel_rfl
theorem zr_375 : zrf Try.prog 375 = some (.slice none 0 0) := by kernel_rfl
theorem tf_375 : TF Try.prog 375 1 24 (.slice none 0 0) := ⟨sz_375, by kernel_rfl, zr_375, by kernel_rfl, by decide⟩
theorem co_375 : Try.prog.concrete 375 = true := by kernel_rfl
theorem en_2 : Enters Try.prog 2 := enters_of Try.func2 (by kernel_rfl) (by kernel_rfl)
theorem en_3 : Enters Try.prog 3 := enters_of Try.func3 (by kernel_rfl) (by kernel_rfl)
theorem en_4 : Enters Try.prog 4 := enters_of Try.func4 (by kernel_rfl) (by kernel_rfl)
theorem en_5 : Enters Try.prog 5 := enters_of Try.func5 (by kernel_rfl) (by kernel_rfl)
theorem en_6 : Enters Try.prog 6 := enters_of Try.func6 (by kernel_rfl) (by kernel_rfl)
theorem en_7 : Enters Try.prog 7 := enters_of Try.func7 (by kernel_rfl) (by kernel_rfl)
theorem en_8 : Enters Try.prog 8 := enters_of Try.func8 (by kernel_rfl) (by kernel_rfl)
theorem en_9 : Enters Try.prog 9 := enters_of Try.func9 (by kernel_rfl) (by kernel_rfl)
theorem en_10 : Enters Try.prog 10 := enters_of Try.func10 (by kernel_rfl) (by kernel_rfl)
theorem en_11 : Enters Try.prog 11 := enters_of Try.func11 (by kernel_rfl) (by kernel_rfl)
theorem en_12 : Enters Try.prog 12 := enters_of Try.func12 (by kernel_rfl) (by kernel_rfl)
theorem en_13 : Enters Try.prog 13 := enters_of Try.func13 (by kernel_rfl) (by kernel_rfl)
theorem en_14 : Enters Try.prog 14 := enters_of Try.func14 (by kernel_rfl) (by kernel_rfl)
theorem en_15 : Enters Try.prog 15 := enters_of Try.func15 (by kernel_rfl) (by kernel_rfl)
theorem en_16 : Enters Try.prog 16 := enters_of Try.func16 (by kernel_rfl) (by kernel_rfl)
theorem en_17 : Enters Try.prog 17 := enters_of Try.func17 (by kernel_rfl) (by kernel_rfl)
theorem en_18 : Enters Try.prog 18 := enters_of Try.func18 (by kernel_rfl) (by kernel_rfl)
theorem en_19 : Enters Try.prog 19 := enters_of Try.func19 (by kernel_rfl) (by kernel_rfl)
theorem en_20 : Enters Try.prog 20 := enters_of Try.func20 (by kernel_rfl) (by kernel_rfl)
theorem en_21 : Enters Try.prog 21 := enters_of Try.func21 (by kernel_rfl) (by kernel_rfl)
theorem en_22 : Enters Try.prog 22 := enters_of Try.func22 (by kernel_rfl) (by kernel_rfl)
theorem en_23 : Enters Try.prog 23 := enters_of Try.func23 (by kernel_rfl) (by kernel_rfl)
theorem en_24 : Enters Try.prog 24 := enters_of Try.func24 (by kernel_rfl) (by kernel_rfl)
theorem en_25 : Enters Try.prog 25 := enters_of Try.func25 (by kernel_rfl) (by kernel_rfl)
theorem en_26 : Enters Try.prog 26 := enters_of Try.func26 (by kernel_rfl) (by kernel_rfl)
theorem en_27 : Enters Try.prog 27 := enters_of Try.func27 (by kernel_rfl) (by kernel_rfl)
theorem en_28 : Enters Try.prog 28 := enters_of Try.func28 (by kernel_rfl) (by kernel_rfl)
theorem en_29 : Enters Try.prog 29 := enters_of Try.func29 (by kernel_rfl) (by kernel_rfl)
theorem en_30 : Enters Try.prog 30 := enters_of Try.func30 (by kernel_rfl) (by kernel_rfl)
theorem en_31 : Enters Try.prog 31 := enters_of Try.func31 (by kernel_rfl) (by kernel_rfl)
theorem en_32 : Enters Try.prog 32 := enters_of Try.func32 (by kernel_rfl) (by kernel_rfl)
theorem en_33 : Enters Try.prog 33 := enters_of Try.func33 (by kernel_rfl) (by kernel_rfl)
theorem en_34 : Enters Try.prog 34 := enters_of Try.func34 (by kernel_rfl) (by kernel_rfl)
theorem en_35 : Enters Try.prog 35 := enters_of Try.func35 (by kernel_rfl) (by kernel_rfl)
theorem en_36 : Enters Try.prog 36 := enters_of Try.func36 (by kernel_rfl) (by kernel_rfl)
theorem en_37 : Enters Try.prog 37 := enters_of Try.func37 (by kernel_rfl) (by kernel_rfl)
theorem en_38 : Enters Try.prog 38 := enters_of Try.func38 (by kernel_rfl) (by kernel_rfl)
theorem en_39 : Enters Try.prog 39 := enters_of Try.func39 (by kernel_rfl) (by kernel_rfl)
theorem en_40 : Enters Try.prog 40 := enters_of Try.func40 (by kernel_rfl) (by kernel_rfl)
theorem en_41 : Enters Try.prog 41 := enters_of Try.func41 (by kernel_rfl) (by kernel_rfl)
theorem en_42 : Enters Try.prog 42 := enters_of Try.func42 (by kernel_rfl) (by kernel_rfl)
theorem en_43 : Enters Try.prog 43 := enters_of Try.func43 (by kernel_rfl) (by kernel_rfl)
theorem en_44 : Enters Try.prog 44 := enters_of Try.func44 (by kernel_rfl) (by kernel_rfl)
theorem en_45 : Enters Try.prog 45 := enters_of Try.func45 (by kernel_rfl) (by kernel_rfl)
theorem en_46 : Enters Try.prog 46 := enters_of Try.func46 (by kernel_rfl) (by kernel_rfl)
theorem en_47 : Enters Try.prog 47 := enters_of Try.func47 (by kernel_rfl) (by kernel_rfl)
theorem en_48 : Enters Try.prog 48 := enters_of Try.func48 (by kernel_rfl) (by kernel_rfl)
theorem en_49 : Enters Try.prog 49 := enters_of Try.func49 (by kernel_rfl) (by kernel_rfl)
theorem en_50 : Enters Try.prog 50 := enters_of Try.func50 (by kernel_rfl) (by kernel_rfl)
theorem en_51 : Enters Try.prog 51 := enters_of Try.func51 (by kernel_rfl) (by kernel_rfl)
theorem en_52 : Enters Try.prog 52 := enters_of Try.func52 (by kernel_rfl) (by kernel_rfl)
theorem en_53 : Enters Try.prog 53 := enters_of Try.func53 (by kernel_rfl) (by kernel_rfl)
theorem en_54 : Enters Try.prog 54 := enters_of Try.func54 (by kernel_rfl) (by kernel_rfl)
theorem en_55 : Enters Try.prog 55 := enters_of Try.func55 (by kernel_rfl) (by kernel_rfl)
theorem en_56 : Enters Try.prog 56 := enters_of Try.func56 (by kernel_rfl) (by kernel_rfl)
theorem en_57 : Enters Try.prog 57 := enters_of Try.func57 (by kernel_rfl) (by kernel_rfl)
theorem en_58 : Enters Try.prog 58 := enters_of Try.func58 (by kernel_rfl) (by kernel_rfl)
theorem en_59 : Enters Try.prog 59 := enters_of Try.func59 (by kernel_rfl) (by kernel_rfl)
theorem en_60 : Enters Try.prog 60 := enters_of Try.func60 (by kernel_rfl) (by kernel_rfl)
theorem en_61 : Enters Try.prog 61 := enters_of Try.func61 (by kernel_rfl) (by kernel_rfl)
theorem en_62 : Enters Try.prog 62 := enters_of Try.func62 (by kernel_rfl) (by kernel_rfl)
theorem en_63 : Enters Try.prog 63 := enters_of Try.func63 (by kernel_rfl) (by kernel_rfl)
theorem en_64 : Enters Try.prog 64 := enters_of Try.func64 (by kernel_rfl) (by kernel_rfl)
theorem en_65 : Enters Try.prog 65 := enters_of Try.func65 (by kernel_rfl) (by kernel_rfl)
theorem en_66 : Enters Try.prog 66 := enters_of Try.func66 (by kernel_rfl) (by kernel_rfl)
theorem en_67 : Enters Try.prog 67 := enters_of Try.func67 (by kernel_rfl) (by kernel_rfl)
theorem en_68 : Enters Try.prog 68 := enters_of Try.func68 (by kernel_rfl) (by kernel_rfl)
theorem en_69 : Enters Try.prog 69 := enters_of Try.func69 (by kernel_rfl) (by kernel_rfl)
theorem en_70 : Enters Try.prog 70 := enters_of Try.func70 (by kernel_rfl) (by kernel_rfl)
theorem en_71 : Enters Try.prog 71 := enters_of Try.func71 (by kernel_rfl) (by kernel_rfl)
theorem en_72 : Enters Try.prog 72 := enters_of Try.func72 (by kernel_rfl) (by kernel_rfl)
theorem en_73 : Enters Try.prog 73 := enters_of Try.func73 (by kernel_rfl) (by kernel_rfl)
theorem en_74 : Enters Try.prog 74 := enters_of Try.func74 (by kernel_rfl) (by kernel_rfl)
theorem en_75 : Enters Try.prog 75 := enters_of Try.func75 (by kernel_rfl) (by kernel_rfl)
theorem en_76 : Enters Try.prog 76 := enters_of Try.func76 (by kernel_rfl) (by kernel_rfl)
theorem en_77 : Enters Try.prog 77 := enters_of Try.func77 (by kernel_rfl) (by kernel_rfl)
theorem en_78 : Enters Try.prog 78 := enters_of Try.func78 (by kernel_rfl) (by kernel_rfl)
theorem en_79 : Enters Try.prog 79 := enters_of Try.func79 (by kernel_rfl) (by kernel_rfl)
theorem en_80 : Enters Try.prog 80 := enters_of Try.func80 (by kernel_rfl) (by kernel_rfl)
theorem en_81 : Enters Try.prog 81 := enters_of Try.func81 (by kernel_rfl) (by kernel_rfl)
theorem en_82 : Enters Try.prog 82 := enters_of Try.func82 (by kernel_rfl) (by kernel_rfl)
theorem en_83 : Enters Try.prog 83 := enters_of Try.func83 (by kernel_rfl) (by kernel_rfl)
theorem en_84 : Enters Try.prog 84 := enters_of Try.func84 (by kernel_rfl) (by kernel_rfl)
theorem en_85 : Enters Try.prog 85 := enters_of Try.func85 (by kernel_rfl) (by kernel_rfl)
theorem en_86 : Enters Try.prog 86 := enters_of Try.func86 (by kernel_rfl) (by kernel_rfl)
theorem en_87 : Enters Try.prog 87 := enters_of Try.func87 (by kernel_rfl) (by kernel_rfl)
theorem en_88 : Enters Try.prog 88 := enters_of Try.func88 (by kernel_rfl) (by kernel_rfl)
theorem en_89 : Enters Try.prog 89 := enters_of Try.func89 (by kernel_rfl) (by kernel_rfl)
theorem en_90 : Enters Try.prog 90 := enters_of Try.func90 (by kernel_rfl) (by kernel_rfl)
theorem en_91 : Enters Try.prog 91 := enters_of Try.func91 (by kernel_rfl) (by kernel_rfl)
theorem en_92 : Enters Try.prog 92 := enters_of Try.func92 (by kernel_rfl) (by kernel_rfl)
theorem en_93 : Enters Try.prog 93 := enters_of Try.func93 (by kernel_rfl) (by kernel_rfl)
theorem en_94 : Enters Try.prog 94 := enters_of Try.func94 (by kernel_rfl) (by kernel_rfl)
theorem en_95 : Enters Try.prog 95 := enters_of Try.func95 (by kernel_rfl) (by kernel_rfl)
theorem en_96 : Enters Try.prog 96 := enters_of Try.func96 (by kernel_rfl) (by kernel_rfl)
theorem en_97 : Enters Try.prog 97 := enters_of Try.func97 (by kernel_rfl) (by kernel_rfl)
theorem en_98 : Enters Try.prog 98 := enters_of Try.func98 (by kernel_rfl) (by kernel_rfl)
theorem en_99 : Enters Try.prog 99 := enters_of Try.func99 (by kernel_rfl) (by kernel_rfl)
theorem en_100 : Enters Try.prog 100 := enters_of Try.func100 (by kernel_rfl) (by kernel_rfl)
theorem en_101 : Enters Try.prog 101 := enters_of Try.func101 (by kernel_rfl) (by kernel_rfl)
theorem en_102 : Enters Try.prog 102 := enters_of Try.func102 (by kernel_rfl) (by kernel_rfl)
theorem en_103 : Enters Try.prog 103 := enters_of Try.func103 (by kernel_rfl) (by kernel_rfl)
theorem en_104 : Enters Try.prog 104 := enters_of Try.func104 (by kernel_rfl) (by kernel_rfl)
theorem en_105 : Enters Try.prog 105 := enters_of Try.func105 (by kernel_rfl) (by kernel_rfl)
theorem en_106 : Enters Try.prog 106 := enters_of Try.func106 (by kernel_rfl) (by kernel_rfl)
theorem en_107 : Enters Try.prog 107 := enters_of Try.func107 (by kernel_rfl) (by kernel_rfl)
theorem en_108 : Enters Try.prog 108 := enters_of Try.func108 (by kernel_rfl) (by kernel_rfl)
theorem en_109 : Enters Try.prog 109 := enters_of Try.func109 (by kernel_rfl) (by kernel_rfl)
theorem en_110 : Enters Try.prog 110 := enters_of Try.func110 (by kernel_rfl) (by kernel_rfl)
theorem en_111 : Enters Try.prog 111 := enters_of Try.func111 (by kernel_rfl) (by kernel_rfl)
theorem en_112 : Enters Try.prog 112 := enters_of Try.func112 (by kernel_rfl) (by kernel_rfl)
theorem en_113 : Enters Try.prog 113 := enters_of Try.func113 (by kernel_rfl) (by kernel_rfl)
theorem en_114 : Enters Try.prog 114 := enters_of Try.func114 (by kernel_rfl) (by kernel_rfl)
theorem en_115 : Enters Try.prog 115 := enters_of Try.func115 (by kernel_rfl) (by kernel_rfl)
theorem en_116 : Enters Try.prog 116 := enters_of Try.func116 (by kernel_rfl) (by kernel_rfl)
theorem en_117 : Enters Try.prog 117 := enters_of Try.func117 (by kernel_rfl) (by kernel_rfl)
theorem en_118 : Enters Try.prog 118 := enters_of Try.func118 (by kernel_rfl) (by kernel_rfl)
theorem en_119 : Enters Try.prog 119 := enters_of Try.func119 (by kernel_rfl) (by kernel_rfl)
theorem en_120 : Enters Try.prog 120 := enters_of Try.func120 (by kernel_rfl) (by kernel_rfl)
theorem en_121 : Enters Try.prog 121 := enters_of Try.func121 (by kernel_rfl) (by kernel_rfl)
theorem en_122 : Enters Try.prog 122 := enters_of Try.func122 (by kernel_rfl) (by kernel_rfl)
theorem en_123 : Enters Try.prog 123 := enters_of Try.func123 (by kernel_rfl) (by kernel_rfl)
theorem en_124 : Enters Try.prog 124 := enters_of Try.func124 (by kernel_rfl) (by kernel_rfl)
theorem en_125 : Enters Try.prog 125 := enters_of Try.func125 (by kernel_rfl) (by kernel_rfl)
theorem en_126 : Enters Try.prog 126 := enters_of Try.func126 (by kernel_rfl) (by kernel_rfl)
theorem en_127 : Enters Try.prog 127 := enters_of Try.func127 (by kernel_rfl) (by kernel_rfl)
theorem en_128 : Enters Try.prog 128 := enters_of Try.func128 (by kernel_rfl) (by kernel_rfl)
theorem en_129 : Enters Try.prog 129 := enters_of Try.func129 (by kernel_rfl) (by kernel_rfl)
theorem en_130 : Enters Try.prog 130 := enters_of Try.func130 (by kernel_rfl) (by kernel_rfl)
theorem en_131 : Enters Try.prog 131 := enters_of Try.func131 (by kernel_rfl) (by kernel_rfl)
theorem en_132 : Enters Try.prog 132 := enters_of Try.func132 (by kernel_rfl) (by kernel_rfl)
theorem en_133 : Enters Try.prog 133 := enters_of Try.func133 (by kernel_rfl) (by kernel_rfl)
theorem en_134 : Enters Try.prog 134 := enters_of Try.func134 (by kernel_rfl) (by kernel_rfl)
theorem en_135 : Enters Try.prog 135 := enters_of Try.func135 (by kernel_rfl) (by kernel_rfl)
theorem en_136 : Enters Try.prog 136 := enters_of Try.func136 (by kernel_rfl) (by kernel_rfl)
theorem en_137 : Enters Try.prog 137 := enters_of Try.func137 (by kernel_rfl) (by kernel_rfl)
theorem en_138 : Enters Try.prog 138 := enters_of Try.func138 (by kernel_rfl) (by kernel_rfl)
theorem en_139 : Enters Try.prog 139 := enters_of Try.func139 (by kernel_rfl) (by kernel_rfl)
theorem en_140 : Enters Try.prog 140 := enters_of Try.func140 (by kernel_rfl) (by kernel_rfl)
theorem en_141 : Enters Try.prog 141 := enters_of Try.func141 (by kernel_rfl) (by kernel_rfl)
theorem en_142 : Enters Try.prog 142 := enters_of Try.func142 (by kernel_rfl) (by kernel_rfl)
theorem en_143 : Enters Try.prog 143 := enters_of Try.func143 (by kernel_rfl) (by kernel_rfl)
theorem en_144 : Enters Try.prog 144 := enters_of Try.func144 (by kernel_rfl) (by kernel_rfl)
theorem en_145 : Enters Try.prog 145 := enters_of Try.func145 (by kernel_rfl) (by kernel_rfl)
theorem en_146 : Enters Try.prog 146 := enters_of Try.func146 (by kernel_rfl) (by kernel_rfl)
theorem en_147 : Enters Try.prog 147 := enters_of Try.func147 (by kernel_rfl) (by kernel_rfl)
theorem en_148 : Enters Try.prog 148 := enters_of Try.func148 (by kernel_rfl) (by kernel_rfl)
theorem en_149 : Enters Try.prog 149 := enters_of Try.func149 (by kernel_rfl) (by kernel_rfl)
theorem en_150 : Enters Try.prog 150 := enters_of Try.func150 (by kernel_rfl) (by kernel_rfl)
theorem en_151 : Enters Try.prog 151 := enters_of Try.func151 (by kernel_rfl) (by kernel_rfl)
theorem en_152 : Enters Try.prog 152 := enters_of Try.func152 (by kernel_rfl) (by kernel_rfl)
theorem en_153 : Enters Try.prog 153 := enters_of Try.func153 (by kernel_rfl) (by kernel_rfl)
theorem en_154 : Enters Try.prog 154 := enters_of Try.func154 (by kernel_rfl) (by kernel_rfl)
theorem en_155 : Enters Try.prog 155 := enters_of Try.func155 (by kernel_rfl) (by kernel_rfl)
theorem en_156 : Enters Try.prog 156 := enters_of Try.func156 (by kernel_rfl) (by kernel_rfl)
theorem en_157 : Enters Try.prog 157 := enters_of Try.func157 (by kernel_rfl) (by kernel_rfl)
theorem en_158 : Enters Try.prog 158 := enters_of Try.func158 (by kernel_rfl) (by kernel_rfl)
theorem en_159 : Enters Try.prog 159 := enters_of Try.func159 (by kernel_rfl) (by kernel_rfl)
theorem en_160 : Enters Try.prog 160 := enters_of Try.func160 (by kernel_rfl) (by kernel_rfl)
theorem en_161 : Enters Try.prog 161 := enters_of Try.func161 (by kernel_rfl) (by kernel_rfl)
theorem en_162 : Enters Try.prog 162 := enters_of Try.func162 (by kernel_rfl) (by kernel_rfl)
theorem en_163 : Enters Try.prog 163 := enters_of Try.func163 (by kernel_rfl) (by kernel_rfl)
theorem en_164 : Enters Try.prog 164 := enters_of Try.func164 (by kernel_rfl) (by kernel_rfl)
theorem en_165 : Enters Try.prog 165 := enters_of Try.func165 (by kernel_rfl) (by kernel_rfl)
theorem en_166 : Enters Try.prog 166 := enters_of Try.func166 (by kernel_rfl) (by kernel_rfl)
theorem en_167 : Enters Try.prog 167 := enters_of Try.func167 (by kernel_rfl) (by kernel_rfl)
theorem en_168 : Enters Try.prog 168 := enters_of Try.func168 (by kernel_rfl) (by kernel_rfl)
theorem en_169 : Enters Try.prog 169 := enters_of Try.func169 (by kernel_rfl) (by kernel_rfl)
theorem en_170 : Enters Try.prog 170 := enters_of Try.func170 (by kernel_rfl) (by kernel_rfl)
theorem en_171 : Enters Try.prog 171 := enters_of Try.func171 (by kernel_rfl) (by kernel_rfl)
theorem en_172 : Enters Try.prog 172 := enters_of Try.func172 (by kernel_rfl) (by kernel_rfl)
theorem en_173 : Enters Try.prog 173 := enters_of Try.func173 (by kernel_rfl) (by kernel_rfl)
theorem en_174 : Enters Try.prog 174 := enters_of Try.func174 (by kernel_rfl) (by kernel_rfl)
theorem en_175 : Enters Try.prog 175 := enters_of Try.func175 (by kernel_rfl) (by kernel_rfl)
theorem en_176 : Enters Try.prog 176 := enters_of Try.func176 (by kernel_rfl) (by kernel_rfl)
theorem en_177 : Enters Try.prog 177 := enters_of Try.func177 (by kernel_rfl) (by kernel_rfl)
theorem en_178 : Enters Try.prog 178 := enters_of Try.func178 (by kernel_rfl) (by kernel_rfl)
theorem en_179 : Enters Try.prog 179 := enters_of Try.func179 (by kernel_rfl) (by kernel_rfl)
theorem en_180 : Enters Try.prog 180 := enters_of Try.func180 (by kernel_rfl) (by kernel_rfl)
theorem en_181 : Enters Try.prog 181 := enters_of Try.func181 (by kernel_rfl) (by kernel_rfl)
theorem en_182 : Enters Try.prog 182 := enters_of Try.func182 (by kernel_rfl) (by kernel_rfl)
theorem en_183 : Enters Try.prog 183 := enters_of Try.func183 (by kernel_rfl) (by kernel_rfl)
theorem en_184 : Enters Try.prog 184 := enters_of Try.func184 (by kernel_rfl) (by kernel_rfl)
theorem en_185 : Enters Try.prog 185 := enters_of Try.func185 (by kernel_rfl) (by kernel_rfl)
theorem en_186 : Enters Try.prog 186 := enters_of Try.func186 (by kernel_rfl) (by kernel_rfl)
theorem en_187 : Enters Try.prog 187 := enters_of Try.func187 (by kernel_rfl) (by kernel_rfl)
theorem en_188 : Enters Try.prog 188 := enters_of Try.func188 (by kernel_rfl) (by kernel_rfl)
theorem en_189 : Enters Try.prog 189 := enters_of Try.func189 (by kernel_rfl) (by kernel_rfl)
theorem en_190 : Enters Try.prog 190 := enters_of Try.func190 (by kernel_rfl) (by kernel_rfl)
theorem en_191 : Enters Try.prog 191 := enters_of Try.func191 (by kernel_rfl) (by kernel_rfl)
theorem en_192 : Enters Try.prog 192 := enters_of Try.func192 (by kernel_rfl) (by kernel_rfl)
theorem en_193 : Enters Try.prog 193 := enters_of Try.func193 (by kernel_rfl) (by kernel_rfl)
theorem en_194 : Enters Try.prog 194 := enters_of Try.func194 (by kernel_rfl) (by kernel_rfl)
theorem en_195 : Enters Try.prog 195 := enters_of Try.func195 (by kernel_rfl) (by kernel_rfl)
theorem en_196 : Enters Try.prog 196 := enters_of Try.func196 (by kernel_rfl) (by kernel_rfl)
theorem en_197 : Enters Try.prog 197 := enters_of Try.func197 (by kernel_rfl) (by kernel_rfl)
theorem en_198 : Enters Try.prog 198 := enters_of Try.func198 (by kernel_rfl) (by kernel_rfl)
theorem en_199 : Enters Try.prog 199 := enters_of Try.func199 (by kernel_rfl) (by kernel_rfl)
theorem en_200 : Enters Try.prog 200 := enters_of Try.func200 (by kernel_rfl) (by kernel_rfl)
theorem en_201 : Enters Try.prog 201 := enters_of Try.func201 (by kernel_rfl) (by kernel_rfl)
theorem en_202 : Enters Try.prog 202 := enters_of Try.func202 (by kernel_rfl) (by kernel_rfl)
theorem en_203 : Enters Try.prog 203 := enters_of Try.func203 (by kernel_rfl) (by kernel_rfl)
theorem en_204 : Enters Try.prog 204 := enters_of Try.func204 (by kernel_rfl) (by kernel_rfl)
theorem en_205 : Enters Try.prog 205 := enters_of Try.func205 (by kernel_rfl) (by kernel_rfl)
theorem en_206 : Enters Try.prog 206 := enters_of Try.func206 (by kernel_rfl) (by kernel_rfl)
theorem en_207 : Enters Try.prog 207 := enters_of Try.func207 (by kernel_rfl) (by kernel_rfl)
theorem en_208 : Enters Try.prog 208 := enters_of Try.func208 (by kernel_rfl) (by kernel_rfl)
theorem en_209 : Enters Try.prog 209 := enters_of Try.func209 (by kernel_rfl) (by kernel_rfl)
theorem en_210 : Enters Try.prog 210 := enters_of Try.func210 (by kernel_rfl) (by kernel_rfl)
theorem en_211 : Enters Try.prog 211 := enters_of Try.func211 (by kernel_rfl) (by kernel_rfl)
theorem en_212 : Enters Try.prog 212 := enters_of Try.func212 (by kernel_rfl) (by kernel_rfl)
theorem en_213 : Enters Try.prog 213 := enters_of Try.func213 (by kernel_rfl) (by kernel_rfl)
theorem en_214 : Enters Try.prog 214 := enters_of Try.func214 (by kernel_rfl) (by kernel_rfl)
theorem en_215 : Enters Try.prog 215 := enters_of Try.func215 (by kernel_rfl) (by kernel_rfl)
theorem en_216 : Enters Try.prog 216 := enters_of Try.func216 (by kernel_rfl) (by kernel_rfl)
theorem en_217 : Enters Try.prog 217 := enters_of Try.func217 (by kernel_rfl) (by kernel_rfl)
theorem en_218 : Enters Try.prog 218 := enters_of Try.func218 (by kernel_rfl) (by kernel_rfl)
theorem en_219 : Enters Try.prog 219 := enters_of Try.func219 (by kernel_rfl) (by kernel_rfl)
theorem en_220 : Enters Try.prog 220 := enters_of Try.func220 (by kernel_rfl) (by kernel_rfl)
theorem en_221 : Enters Try.prog 221 := enters_of Try.func221 (by kernel_rfl) (by kernel_rfl)
theorem en_222 : Enters Try.prog 222 := enters_of Try.func222 (by kernel_rfl) (by kernel_rfl)
theorem en_223 : Enters Try.prog 223 := enters_of Try.func223 (by kernel_rfl) (by kernel_rfl)
theorem en_225 : Enters Try.prog 225 := enters_of Try.func225 (by kernel_rfl) (by kernel_rfl)
theorem en_226 : Enters Try.prog 226 := enters_of Try.func226 (by kernel_rfl) (by kernel_rfl)
theorem en_227 : Enters Try.prog 227 := enters_of Try.func227 (by kernel_rfl) (by kernel_rfl)
theorem en_228 : Enters Try.prog 228 := enters_of Try.func228 (by kernel_rfl) (by kernel_rfl)
theorem en_229 : Enters Try.prog 229 := enters_of Try.func229 (by kernel_rfl) (by kernel_rfl)
theorem en_230 : Enters Try.prog 230 := enters_of Try.func230 (by kernel_rfl) (by kernel_rfl)
theorem en_231 : Enters Try.prog 231 := enters_of Try.func231 (by kernel_rfl) (by kernel_rfl)
theorem en_232 : Enters Try.prog 232 := enters_of Try.func232 (by kernel_rfl) (by kernel_rfl)
theorem en_233 : Enters Try.prog 233 := enters_of Try.func233 (by kernel_rfl) (by kernel_rfl)
theorem en_234 : Enters Try.prog 234 := enters_of Try.func234 (by kernel_rfl) (by kernel_rfl)
theorem en_235 : Enters Try.prog 235 := enters_of Try.func235 (by kernel_rfl) (by kernel_rfl)
theorem en_236 : Enters Try.prog 236 := enters_of Try.func236 (by kernel_rfl) (by kernel_rfl)
theorem en_237 : Enters Try.prog 237 := enters_of Try.func237 (by kernel_rfl) (by kernel_rfl)
theorem en_238 : Enters Try.prog 238 := enters_of Try.func238 (by kernel_rfl) (by kernel_rfl)
theorem en_239 : Enters Try.prog 239 := enters_of Try.func239 (by kernel_rfl) (by kernel_rfl)
theorem en_240 : Enters Try.prog 240 := enters_of Try.func240 (by kernel_rfl) (by kernel_rfl)
theorem en_241 : Enters Try.prog 241 := enters_of Try.func241 (by kernel_rfl) (by kernel_rfl)
theorem en_242 : Enters Try.prog 242 := enters_of Try.func242 (by kernel_rfl) (by kernel_rfl)
theorem en_243 : Enters Try.prog 243 := enters_of Try.func243 (by kernel_rfl) (by kernel_rfl)
theorem en_244 : Enters Try.prog 244 := enters_of Try.func244 (by kernel_rfl) (by kernel_rfl)
theorem en_245 : Enters Try.prog 245 := enters_of Try.func245 (by kernel_rfl) (by kernel_rfl)
theorem en_247 : Enters Try.prog 247 := enters_of Try.func247 (by kernel_rfl) (by kernel_rfl)
theorem en_248 : Enters Try.prog 248 := enters_of Try.func248 (by kernel_rfl) (by kernel_rfl)
theorem en_249 : Enters Try.prog 249 := enters_of Try.func249 (by kernel_rfl) (by kernel_rfl)
theorem en_250 : Enters Try.prog 250 := enters_of Try.func250 (by kernel_rfl) (by kernel_rfl)
theorem en_251 : Enters Try.prog 251 := enters_of Try.func251 (by kernel_rfl) (by kernel_rfl)
theorem en_252 : Enters Try.prog 252 := enters_of Try.func252 (by kernel_rfl) (by kernel_rfl)
theorem en_253 : Enters Try.prog 253 := enters_of Try.func253 (by kernel_rfl) (by kernel_rfl)
theorem en_254 : Enters Try.prog 254 := enters_of Try.func254 (by kernel_rfl) (by kernel_rfl)
theorem en_255 : Enters Try.prog 255 := enters_of Try.func255 (by kernel_rfl) (by kernel_rfl)
theorem en_256 : Enters Try.prog 256 := enters_of Try.func256 (by kernel_rfl) (by kernel_rfl)
theorem en_257 : Enters Try.prog 257 := enters_of Try.func257 (by kernel_rfl) (by kernel_rfl)
theorem en_258 : Enters Try.prog 258 := enters_of Try.func258 (by kernel_rfl) (by kernel_rfl)
theorem en_259 : Enters Try.prog 259 := enters_of Try.func259 (by kernel_rfl) (by kernel_rfl)
theorem en_260 : Enters Try.prog 260 := enters_of Try.func260 (by kernel_rfl) (by kernel_rfl)
theorem en_261 : Enters Try.prog 261 := enters_of Try.func261 (by kernel_rfl) (by kernel_rfl)
theorem en_262 : Enters Try.prog 262 := enters_of Try.func262 (by kernel_rfl) (by kernel_rfl)
theorem en_263 : Enters Try.prog 263 := enters_of Try.func263 (by kernel_rfl) (by kernel_rfl)
theorem en_264 : Enters Try.prog 264 := enters_of Try.func264 (by kernel_rfl) (by kernel_rfl)
theorem en_265 : Enters Try.prog 265 := enters_of Try.func265 (by kernel_rfl) (by kernel_rfl)
theorem en_266 : Enters Try.prog 266 := enters_of Try.func266 (by kernel_rfl) (by kernel_rfl)
theorem en_267 : Enters Try.prog 267 := enters_of Try.func267 (by kernel_rfl) (by kernel_rfl)
theorem en_268 : Enters Try.prog 268 := enters_of Try.func268 (by kernel_rfl) (by kernel_rfl)
theorem en_269 : Enters Try.prog 269 := enters_of Try.func269 (by kernel_rfl) (by kernel_rfl)
theorem en_270 : Enters Try.prog 270 := enters_of Try.func270 (by kernel_rfl) (by kernel_rfl)
theorem en_271 : Enters Try.prog 271 := enters_of Try.func271 (by kernel_rfl) (by kernel_rfl)
theorem en_272 : Enters Try.prog 272 := enters_of Try.func272 (by kernel_rfl) (by kernel_rfl)
theorem en_273 : Enters Try.prog 273 := enters_of Try.func273 (by kernel_rfl) (by kernel_rfl)
theorem en_274 : Enters Try.prog 274 := enters_of Try.func274 (by kernel_rfl) (by kernel_rfl)
theorem en_275 : Enters Try.prog 275 := enters_of Try.func275 (by kernel_rfl) (by kernel_rfl)
theorem en_276 : Enters Try.prog 276 := enters_of Try.func276 (by kernel_rfl) (by kernel_rfl)
theorem en_277 : Enters Try.prog 277 := enters_of Try.func277 (by kernel_rfl) (by kernel_rfl)
theorem en_278 : Enters Try.prog 278 := enters_of Try.func278 (by kernel_rfl) (by kernel_rfl)
theorem en_279 : Enters Try.prog 279 := enters_of Try.func279 (by kernel_rfl) (by kernel_rfl)
theorem en_280 : Enters Try.prog 280 := enters_of Try.func280 (by kernel_rfl) (by kernel_rfl)
theorem en_282 : Enters Try.prog 282 := enters_of Try.func282 (by kernel_rfl) (by kernel_rfl)
theorem en_284 : Enters Try.prog 284 := enters_of Try.func284 (by kernel_rfl) (by kernel_rfl)
theorem en_285 : Enters Try.prog 285 := enters_of Try.func285 (by kernel_rfl) (by kernel_rfl)
theorem en_286 : Enters Try.prog 286 := enters_of Try.func286 (by kernel_rfl) (by kernel_rfl)
theorem en_287 : Enters Try.prog 287 := enters_of Try.func287 (by kernel_rfl) (by kernel_rfl)
theorem en_288 : Enters Try.prog 288 := enters_of Try.func288 (by kernel_rfl) (by kernel_rfl)
theorem en_289 : Enters Try.prog 289 := enters_of Try.func289 (by kernel_rfl) (by kernel_rfl)
theorem en_290 : Enters Try.prog 290 := enters_of Try.func290 (by kernel_rfl) (by kernel_rfl)
end Go.Proofs.YtnccebppgmnmfaaS
