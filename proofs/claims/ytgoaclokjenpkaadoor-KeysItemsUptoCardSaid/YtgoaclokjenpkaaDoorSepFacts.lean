/- Closed facts of the loaded program: sizes, noughts, places of fields, that calls enter. Written by a program of this project. -/
import Derived.Test.YtgoaclokjenpkaaDoorSepH
import Derived.Test.YtgoaclokjenpkaaDoorProg
set_option maxRecDepth 100000
namespace Go.Proofs.YtgoaclokjenpkaaDoorS
open Go.RowKit Go.Proofs
theorem follows_mixed : Tryd.prog.follows .mixedOrders = true := by kernel_rfl
theorem sz_1 : szf Tryd.prog 1 = some 1 := by kernel_rfl
theorem ag_1 : agf Tryd.prog 1 = some false := by kernel_rfl
theorem zr_1 : zrf Tryd.prog 1 = some (.nilFunc) := by kernel_rfl
theorem tf_1 : TF Tryd.prog 1 1 8 (.nilFunc) := ⟨sz_1, by kernel_rfl, zr_1, by kernel_rfl, by decide⟩
theorem co_1 : Tryd.prog.concrete 1 = true := by kernel_rfl
theorem sz_2 : szf Tryd.prog 2 = some 1 := by kernel_rfl
theorem ag_2 : agf Tryd.prog 2 = some false := by kernel_rfl
theorem zr_2 : zrf Tryd.prog 2 = some (.int .i64 0) := by kernel_rfl
theorem tf_2 : TF Tryd.prog 2 1 8 (.int .i64 0) := ⟨sz_2, by kernel_rfl, zr_2, by kernel_rfl, by decide⟩
theorem co_2 : Tryd.prog.concrete 2 = true := by kernel_rfl
theorem sz_3 : szf Tryd.prog 3 = some 1 := by kernel_rfl
theorem ag_3 : agf Tryd.prog 3 = some false := by kernel_rfl
theorem zr_3 : zrf Tryd.prog 3 = some (.int .i64 0) := by kernel_rfl
theorem tf_3 : TF Tryd.prog 3 1 8 (.int .i64 0) := ⟨sz_3, by kernel_rfl, zr_3, by kernel_rfl, by decide⟩
theorem co_3 : Tryd.prog.concrete 3 = true := by kernel_rfl
theorem sz_4 : szf Tryd.prog 4 = some 1 := by kernel_rfl
theorem ag_4 : agf Tryd.prog 4 = some false := by kernel_rfl
theorem zr_4 : zrf Tryd.prog 4 = some (.bool false) := by kernel_rfl
theorem tf_4 : TF Tryd.prog 4 1 1 (.bool false) := ⟨sz_4, by kernel_rfl, zr_4, by kernel_rfl, by decide⟩
theorem co_4 : Tryd.prog.concrete 4 = true := by kernel_rfl
theorem sz_5 : szf Tryd.prog 5 = some 1 := by kernel_rfl
theorem ag_5 : agf Tryd.prog 5 = some false := by kernel_rfl
theorem zr_5 : zrf Tryd.prog 5 = some (.int .u8 0) := by kernel_rfl
theorem tf_5 : TF Tryd.prog 5 1 1 (.int .u8 0) := ⟨sz_5, by kernel_rfl, zr_5, by kernel_rfl, by decide⟩
theorem co_5 : Tryd.prog.concrete 5 = true := by kernel_rfl
theorem sz_6 : szf Tryd.prog 6 = some 1 := by kernel_rfl
theorem ag_6 : agf Tryd.prog 6 = some false := by kernel_rfl
theorem zr_6 : zrf Tryd.prog 6 = some (.int .u8 0) := by kernel_rfl
theorem tf_6 : TF Tryd.prog 6 1 1 (.int .u8 0) := ⟨sz_6, by kernel_rfl, zr_6, by kernel_rfl, by decide⟩
theorem co_6 : Tryd.prog.concrete 6 = true := by kernel_rfl
theorem sz_7 : szf Tryd.prog 7 = some 4 := by kernel_rfl
theorem ag_7 : agf Tryd.prog 7 = some true := by kernel_rfl
theorem zr_7 : zrf Tryd.prog 7 = some (.agg #[.int .i64 0, .int .i64 0, .bool false, .int .u8 0]) := by kernel_rfl
theorem tf_7 : TF Tryd.prog 7 4 24 (.agg #[.int .i64 0, .int .i64 0, .bool false, .int .u8 0]) := ⟨sz_7, by kernel_rfl, zr_7, by kernel_rfl, by decide⟩
theorem fo_7_0 : fof Tryd.prog 7 0 = some 0 := by kernel_rfl
theorem fv_7_0 : fvf Tryd.prog 7 0 = some (0, false, 1) := by kernel_rfl
theorem fo_7_1 : fof Tryd.prog 7 1 = some 1 := by kernel_rfl
theorem fv_7_1 : fvf Tryd.prog 7 1 = some (1, false, 1) := by kernel_rfl
theorem fo_7_2 : fof Tryd.prog 7 2 = some 2 := by kernel_rfl
theorem fv_7_2 : fvf Tryd.prog 7 2 = some (2, false, 1) := by kernel_rfl
theorem fo_7_3 : fof Tryd.prog 7 3 = some 3 := by kernel_rfl
theorem fv_7_3 : fvf Tryd.prog 7 3 = some (3, false, 1) := by kernel_rfl
theorem pl_7 : plc Tryd.prog 7 = some [(0, 1), (1, 1), (2, 1), (3, 1)] := by kernel_rfl
theorem co_7 : Tryd.prog.concrete 7 = true := by kernel_rfl
theorem sz_8 : szf Tryd.prog 8 = some 4 := by kernel_rfl
theorem ag_8 : agf Tryd.prog 8 = some true := by kernel_rfl
theorem zr_8 : zrf Tryd.prog 8 = some (.agg #[.int .i64 0, .int .i64 0, .bool false, .int .u8 0]) := by kernel_rfl
theorem tf_8 : TF Tryd.prog 8 4 24 (.agg #[.int .i64 0, .int .i64 0, .bool false, .int .u8 0]) := ⟨sz_8, by kernel_rfl, zr_8, by kernel_rfl, by decide⟩
theorem fo_8_0 : fof Tryd.prog 8 0 = some 0 := by kernel_rfl
theorem fv_8_0 : fvf Tryd.prog 8 0 = some (0, false, 1) := by kernel_rfl
theorem fo_8_1 : fof Tryd.prog 8 1 = some 1 := by kernel_rfl
theorem fv_8_1 : fvf Tryd.prog 8 1 = some (1, false, 1) := by kernel_rfl
theorem fo_8_2 : fof Tryd.prog 8 2 = some 2 := by kernel_rfl
theorem fv_8_2 : fvf Tryd.prog 8 2 = some (2, false, 1) := by kernel_rfl
theorem fo_8_3 : fof Tryd.prog 8 3 = some 3 := by kernel_rfl
theorem fv_8_3 : fvf Tryd.prog 8 3 = some (3, false, 1) := by kernel_rfl
theorem pl_8 : plc Tryd.prog 8 = some [(0, 1), (1, 1), (2, 1), (3, 1)] := by kernel_rfl
theorem co_8 : Tryd.prog.concrete 8 = true := by kernel_rfl
theorem sz_9 : szf Tryd.prog 9 = some 1 := by kernel_rfl
theorem ag_9 : agf Tryd.prog 9 = some false := by kernel_rfl
theorem zr_9 : zrf Tryd.prog 9 = some (.string ⟨#[]⟩) := by kernel_rfl
theorem tf_9 : TF Tryd.prog 9 1 16 (.string ⟨#[]⟩) := ⟨sz_9, by kernel_rfl, zr_9, by kernel_rfl, by decide⟩
theorem co_9 : Tryd.prog.concrete 9 = true := by kernel_rfl
theorem sz_10 : szf Tryd.prog 10 = some 1 := by kernel_rfl
theorem ag_10 : agf Tryd.prog 10 = some false := by kernel_rfl
theorem zr_10 : zrf Tryd.prog 10 = some (.string ⟨#[]⟩) := by kernel_rfl
theorem tf_10 : TF Tryd.prog 10 1 16 (.string ⟨#[]⟩) := ⟨sz_10, by kernel_rfl, zr_10, by kernel_rfl, by decide⟩
theorem co_10 : Tryd.prog.concrete 10 = true := by kernel_rfl
theorem sz_11 : szf Tryd.prog 11 = some 1 := by kernel_rfl
theorem ag_11 : agf Tryd.prog 11 = some false := by kernel_rfl
theorem zr_11 : zrf Tryd.prog 11 = some (.string ⟨#[]⟩) := by kernel_rfl
theorem tf_11 : TF Tryd.prog 11 1 16 (.string ⟨#[]⟩) := ⟨sz_11, by kernel_rfl, zr_11, by kernel_rfl, by decide⟩
theorem co_11 : Tryd.prog.concrete 11 = true := by kernel_rfl
theorem sz_12 : szf Tryd.prog 12 = some 1 := by kernel_rfl
theorem ag_12 : agf Tryd.prog 12 = some false := by kernel_rfl
theorem zr_12 : zrf Tryd.prog 12 = some (.int .u64 0) := by kernel_rfl
theorem tf_12 : TF Tryd.prog 12 1 8 (.int .u64 0) := ⟨sz_12, by kernel_rfl, zr_12, by kernel_rfl, by decide⟩
theorem co_12 : Tryd.prog.concrete 12 = true := by kernel_rfl
theorem sz_13 : szf Tryd.prog 13 = some 2 := by kernel_rfl
theorem ag_13 : agf Tryd.prog 13 = some true := by kernel_rfl
theorem zr_13 : zrf Tryd.prog 13 = some (.agg #[.string ⟨#[]⟩, .int .u64 0]) := by kernel_rfl
theorem tf_13 : TF Tryd.prog 13 2 24 (.agg #[.string ⟨#[]⟩, .int .u64 0]) := ⟨sz_13, by kernel_rfl, zr_13, by kernel_rfl, by decide⟩
theorem fo_13_0 : fof Tryd.prog 13 0 = some 0 := by kernel_rfl
theorem fv_13_0 : fvf Tryd.prog 13 0 = some (0, false, 1) := by kernel_rfl
theorem fo_13_1 : fof Tryd.prog 13 1 = some 1 := by kernel_rfl
theorem fv_13_1 : fvf Tryd.prog 13 1 = some (1, false, 1) := by kernel_rfl
theorem pl_13 : plc Tryd.prog 13 = some [(0, 1), (1, 1)] := by kernel_rfl
theorem co_13 : Tryd.prog.concrete 13 = true := by kernel_rfl
theorem sz_14 : szf Tryd.prog 14 = some 2 := by kernel_rfl
theorem ag_14 : agf Tryd.prog 14 = some true := by kernel_rfl
theorem zr_14 : zrf Tryd.prog 14 = some (.agg #[.string ⟨#[]⟩, .int .u64 0]) := by kernel_rfl
theorem tf_14 : TF Tryd.prog 14 2 24 (.agg #[.string ⟨#[]⟩, .int .u64 0]) := ⟨sz_14, by kernel_rfl, zr_14, by kernel_rfl, by decide⟩
theorem fo_14_0 : fof Tryd.prog 14 0 = some 0 := by kernel_rfl
theorem fv_14_0 : fvf Tryd.prog 14 0 = some (0, false, 1) := by kernel_rfl
theorem fo_14_1 : fof Tryd.prog 14 1 = some 1 := by kernel_rfl
theorem fv_14_1 : fvf Tryd.prog 14 1 = some (1, false, 1) := by kernel_rfl
theorem pl_14 : plc Tryd.prog 14 = some [(0, 1), (1, 1)] := by kernel_rfl
theorem co_14 : Tryd.prog.concrete 14 = true := by kernel_rfl
theorem sz_15 : szf Tryd.prog 15 = some 1 := by kernel_rfl
theorem ag_15 : agf Tryd.prog 15 = some false := by kernel_rfl
theorem zr_15 : zrf Tryd.prog 15 = some (.pointer none) := by kernel_rfl
theorem tf_15 : TF Tryd.prog 15 1 8 (.pointer none) := ⟨sz_15, by kernel_rfl, zr_15, by kernel_rfl, by decide⟩
theorem co_15 : Tryd.prog.concrete 15 = true := by kernel_rfl
theorem sz_16 : szf Tryd.prog 16 = some 1 := by kernel_rfl
theorem ag_16 : agf Tryd.prog 16 = some false := by kernel_rfl
theorem zr_16 : zrf Tryd.prog 16 = some (.pointer none) := by kernel_rfl
theorem tf_16 : TF Tryd.prog 16 1 8 (.pointer none) := ⟨sz_16, by kernel_rfl, zr_16, by kernel_rfl, by decide⟩
theorem co_16 : Tryd.prog.concrete 16 = true := by kernel_rfl
theorem sz_17 : szf Tryd.prog 17 = some 1 := by kernel_rfl
theorem ag_17 : agf Tryd.prog 17 = some false := by kernel_rfl
theorem zr_17 : zrf Tryd.prog 17 = some (.pointer none) := by kernel_rfl
theorem tf_17 : TF Tryd.prog 17 1 8 (.pointer none) := ⟨sz_17, by kernel_rfl, zr_17, by kernel_rfl, by decide⟩
theorem co_17 : Tryd.prog.concrete 17 = true := by kernel_rfl
theorem sz_18 : szf Tryd.prog 18 = some 1 := by kernel_rfl
theorem ag_18 : agf Tryd.prog 18 = some true := by kernel_rfl
theorem zr_18 : zrf Tryd.prog 18 = some (.agg #[.pointer none]) := by kernel_rfl
theorem tf_18 : TF Tryd.prog 18 1 8 (.agg #[.pointer none]) := ⟨sz_18, by kernel_rfl, zr_18, by kernel_rfl, by decide⟩
theorem fo_18_0 : fof Tryd.prog 18 0 = some 0 := by kernel_rfl
theorem fv_18_0 : fvf Tryd.prog 18 0 = some (0, false, 1) := by kernel_rfl
theorem pl_18 : plc Tryd.prog 18 = some [(0, 1)] := by kernel_rfl
theorem co_18 : Tryd.prog.concrete 18 = true := by kernel_rfl
theorem sz_19 : szf Tryd.prog 19 = some 1 := by kernel_rfl
theorem ag_19 : agf Tryd.prog 19 = some true := by kernel_rfl
theorem zr_19 : zrf Tryd.prog 19 = some (.agg #[.pointer none]) := by kernel_rfl
theorem tf_19 : TF Tryd.prog 19 1 8 (.agg #[.pointer none]) := ⟨sz_19, by kernel_rfl, zr_19, by kernel_rfl, by decide⟩
theorem fo_19_0 : fof Tryd.prog 19 0 = some 0 := by kernel_rfl
theorem fv_19_0 : fvf Tryd.prog 19 0 = some (0, false, 1) := by kernel_rfl
theorem pl_19 : plc Tryd.prog 19 = some [(0, 1)] := by kernel_rfl
theorem co_19 : Tryd.prog.concrete 19 = true := by kernel_rfl
theorem sz_20 : szf Tryd.prog 20 = some 1 := by kernel_rfl
theorem ag_20 : agf Tryd.prog 20 = some false := by kernel_rfl
theorem zr_20 : zrf Tryd.prog 20 = some (.nilIface) := by kernel_rfl
theorem tf_20 : TF Tryd.prog 20 1 16 (.nilIface) := ⟨sz_20, by kernel_rfl, zr_20, by kernel_rfl, by decide⟩
theorem sz_21 : szf Tryd.prog 21 = some 1 := by kernel_rfl
theorem ag_21 : agf Tryd.prog 21 = some false := by kernel_rfl
theorem zr_21 : zrf Tryd.prog 21 = some (.int .i32 0) := by kernel_rfl
theorem tf_21 : TF Tryd.prog 21 1 4 (.int .i32 0) := ⟨sz_21, by kernel_rfl, zr_21, by kernel_rfl, by decide⟩
theorem co_21 : Tryd.prog.concrete 21 = true := by kernel_rfl
theorem sz_22 : szf Tryd.prog 22 = some 1 := by kernel_rfl
theorem ag_22 : agf Tryd.prog 22 = some false := by kernel_rfl
theorem zr_22 : zrf Tryd.prog 22 = some (.int .u64 0) := by kernel_rfl
theorem tf_22 : TF Tryd.prog 22 1 8 (.int .u64 0) := ⟨sz_22, by kernel_rfl, zr_22, by kernel_rfl, by decide⟩
theorem co_22 : Tryd.prog.concrete 22 = true := by kernel_rfl
theorem sz_23 : szf Tryd.prog 23 = some 5 := by kernel_rfl
theorem ag_23 : agf Tryd.prog 23 = some true := by kernel_rfl
theorem zr_23 : zrf Tryd.prog 23 = some (.agg #[.int .u8 0, .int .i64 0, .int .u64 0, .string ⟨#[]⟩, .bool false]) := by kernel_rfl
theorem tf_23 : TF Tryd.prog 23 5 48 (.agg #[.int .u8 0, .int .i64 0, .int .u64 0, .string ⟨#[]⟩, .bool false]) := ⟨sz_23, by kernel_rfl, zr_23, by kernel_rfl, by decide⟩
theorem fo_23_0 : fof Tryd.prog 23 0 = some 0 := by kernel_rfl
theorem fv_23_0 : fvf Tryd.prog 23 0 = some (0, false, 1) := by kernel_rfl
theorem fo_23_1 : fof Tryd.prog 23 1 = some 1 := by kernel_rfl
theorem fv_23_1 : fvf Tryd.prog 23 1 = some (1, false, 1) := by kernel_rfl
theorem fo_23_2 : fof Tryd.prog 23 2 = some 2 := by kernel_rfl
theorem fv_23_2 : fvf Tryd.prog 23 2 = some (2, false, 1) := by kernel_rfl
theorem fo_23_3 : fof Tryd.prog 23 3 = some 3 := by kernel_rfl
theorem fv_23_3 : fvf Tryd.prog 23 3 = some (3, false, 1) := by kernel_rfl
theorem fo_23_4 : fof Tryd.prog 23 4 = some 4 := by kernel_rfl
theorem fv_23_4 : fvf Tryd.prog 23 4 = some (4, false, 1) := by kernel_rfl
theorem pl_23 : plc Tryd.prog 23 = some [(0, 1), (1, 1), (2, 1), (3, 1), (4, 1)] := by kernel_rfl
theorem co_23 : Tryd.prog.concrete 23 = true := by kernel_rfl
theorem sz_24 : szf Tryd.prog 24 = some 5 := by kernel_rfl
theorem ag_24 : agf Tryd.prog 24 = some true := by kernel_rfl
theorem zr_24 : zrf Tryd.prog 24 = some (.agg #[.int .u8 0, .int .i64 0, .int .u64 0, .string ⟨#[]⟩, .bool false]) := by kernel_rfl
theorem tf_24 : TF Tryd.prog 24 5 48 (.agg #[.int .u8 0, .int .i64 0, .int .u64 0, .string ⟨#[]⟩, .bool false]) := ⟨sz_24, by kernel_rfl, zr_24, by kernel_rfl, by decide⟩
theorem fo_24_0 : fof Tryd.prog 24 0 = some 0 := by kernel_rfl
theorem fv_24_0 : fvf Tryd.prog 24 0 = some (0, false, 1) := by kernel_rfl
theorem fo_24_1 : fof Tryd.prog 24 1 = some 1 := by kernel_rfl
theorem fv_24_1 : fvf Tryd.prog 24 1 = some (1, false, 1) := by kernel_rfl
theorem fo_24_2 : fof Tryd.prog 24 2 = some 2 := by kernel_rfl
theorem fv_24_2 : fvf Tryd.prog 24 2 = some (2, false, 1) := by kernel_rfl
theorem fo_24_3 : fof Tryd.prog 24 3 = some 3 := by kernel_rfl
theorem fv_24_3 : fvf Tryd.prog 24 3 = some (3, false, 1) := by kernel_rfl
theorem fo_24_4 : fof Tryd.prog 24 4 = some 4 := by kernel_rfl
theorem fv_24_4 : fvf Tryd.prog 24 4 = some (4, false, 1) := by kernel_rfl
theorem pl_24 : plc Tryd.prog 24 = some [(0, 1), (1, 1), (2, 1), (3, 1), (4, 1)] := by kernel_rfl
theorem co_24 : Tryd.prog.concrete 24 = true := by kernel_rfl
theorem sz_25 : szf Tryd.prog 25 = some 1 := by kernel_rfl
theorem ag_25 : agf Tryd.prog 25 = some false := by kernel_rfl
theorem zr_25 : zrf Tryd.prog 25 = some (.nilFunc) := by kernel_rfl
theorem tf_25 : TF Tryd.prog 25 1 8 (.nilFunc) := ⟨sz_25, by kernel_rfl, zr_25, by kernel_rfl, by decide⟩
theorem co_25 : Tryd.prog.concrete 25 = true := by kernel_rfl
theorem sz_26 : szf Tryd.prog 26 = some 1 := by kernel_rfl
theorem ag_26 : agf Tryd.prog 26 = some false := by kernel_rfl
theorem zr_26 : zrf Tryd.prog 26 = some (.nilFunc) := by kernel_rfl
theorem tf_26 : TF Tryd.prog 26 1 8 (.nilFunc) := ⟨sz_26, by kernel_rfl, zr_26, by kernel_rfl, by decide⟩
theorem co_26 : Tryd.prog.concrete 26 = true := by kernel_rfl
theorem sz_27 : szf Tryd.prog 27 = some 1 := by kernel_rfl
theorem ag_27 : agf Tryd.prog 27 = some false := by kernel_rfl
theorem zr_27 : zrf Tryd.prog 27 = some (.slice none 0 0) := by kernel_rfl
theorem tf_27 : TF Tryd.prog 27 1 24 (.slice none 0 0) := ⟨sz_27, by kernel_rfl, zr_27, by kernel_rfl, by decide⟩
theorem co_27 : Tryd.prog.concrete 27 = true := by kernel_rfl
theorem sz_28 : szf Tryd.prog 28 = some 1 := by kernel_rfl
theorem ag_28 : agf Tryd.prog 28 = some false := by kernel_rfl
theorem zr_28 : zrf Tryd.prog 28 = some (.int .i64 0) := by kernel_rfl
theorem tf_28 : TF Tryd.prog 28 1 8 (.int .i64 0) := ⟨sz_28, by kernel_rfl, zr_28, by kernel_rfl, by decide⟩
theorem co_28 : Tryd.prog.concrete 28 = true := by kernel_rfl
theorem sz_30 : szf Tryd.prog 30 = some 1 := by kernel_rfl
theorem ag_30 : agf Tryd.prog 30 = some false := by kernel_rfl
theorem zr_30 : zrf Tryd.prog 30 = some (.nilFunc) := by kernel_rfl
theorem tf_30 : TF Tryd.prog 30 1 8 (.nilFunc) := ⟨sz_30, by kernel_rfl, zr_30, by kernel_rfl, by decide⟩
theorem co_30 : Tryd.prog.concrete 30 = true := by kernel_rfl
theorem sz_31 : szf Tryd.prog 31 = some 1 := by kernel_rfl
theorem ag_31 : agf Tryd.prog 31 = some false := by kernel_rfl
theorem zr_31 : zrf Tryd.prog 31 = some (.nilFunc) := by kernel_rfl
theorem tf_31 : TF Tryd.prog 31 1 8 (.nilFunc) := ⟨sz_31, by kernel_rfl, zr_31, by kernel_rfl, by decide⟩
theorem co_31 : Tryd.prog.concrete 31 = true := by kernel_rfl
theorem sz_32 : szf Tryd.prog 32 = some 1 := by kernel_rfl
theorem ag_32 : agf Tryd.prog 32 = some false := by kernel_rfl
theorem zr_32 : zrf Tryd.prog 32 = some (.nilFunc) := by kernel_rfl
theorem tf_32 : TF Tryd.prog 32 1 8 (.nilFunc) := ⟨sz_32, by kernel_rfl, zr_32, by kernel_rfl, by decide⟩
theorem co_32 : Tryd.prog.concrete 32 = true := by kernel_rfl
theorem sz_33 : szf Tryd.prog 33 = some 1 := by kernel_rfl
theorem ag_33 : agf Tryd.prog 33 = some false := by kernel_rfl
theorem zr_33 : zrf Tryd.prog 33 = some (.nilFunc) := by kernel_rfl
theorem tf_33 : TF Tryd.prog 33 1 8 (.nilFunc) := ⟨sz_33, by kernel_rfl, zr_33, by kernel_rfl, by decide⟩
theorem co_33 : Tryd.prog.concrete 33 = true := by kernel_rfl
theorem sz_35 : szf Tryd.prog 35 = some 1 := by kernel_rfl
theorem ag_35 : agf Tryd.prog 35 = some false := by kernel_rfl
theorem zr_35 : zrf Tryd.prog 35 = some (.nilFunc) := by kernel_rfl
theorem tf_35 : TF Tryd.prog 35 1 8 (.nilFunc) := ⟨sz_35, by kernel_rfl, zr_35, by kernel_rfl, by decide⟩
theorem co_35 : Tryd.prog.concrete 35 = true := by kernel_rfl
theorem sz_36 : szf Tryd.prog 36 = some 1 := by kernel_rfl
theorem ag_36 : agf Tryd.prog 36 = some false := by kernel_rfl
theorem zr_36 : zrf Tryd.prog 36 = some (.slice none 0 0) := by kernel_rfl
theorem tf_36 : TF Tryd.prog 36 1 24 (.slice none 0 0) := ⟨sz_36, by kernel_rfl, zr_36, by kernel_rfl, by decide⟩
theorem co_36 : Tryd.prog.concrete 36 = true := by kernel_rfl
theorem sz_37 : szf Tryd.prog 37 = some 1 := by kernel_rfl
theorem ag_37 : agf Tryd.prog 37 = some false := by kernel_rfl
theorem zr_37 : zrf Tryd.prog 37 = some (.nilFunc) := by kernel_rfl
theorem tf_37 : TF Tryd.prog 37 1 8 (.nilFunc) := ⟨sz_37, by kernel_rfl, zr_37, by kernel_rfl, by decide⟩
theorem co_37 : Tryd.prog.concrete 37 = true := by kernel_rfl
theorem sz_38 : szf Tryd.prog 38 = some 1 := by kernel_rfl
theorem ag_38 : agf Tryd.prog 38 = some false := by kernel_rfl
theorem zr_38 : zrf Tryd.prog 38 = some (.nilFunc) := by kernel_rfl
theorem tf_38 : TF Tryd.prog 38 1 8 (.nilFunc) := ⟨sz_38, by kernel_rfl, zr_38, by kernel_rfl, by decide⟩
theorem co_38 : Tryd.prog.concrete 38 = true := by kernel_rfl
theorem sz_39 : szf Tryd.prog 39 = some 1 := by kernel_rfl
theorem ag_39 : agf Tryd.prog 39 = some false := by kernel_rfl
theorem zr_39 : zrf Tryd.prog 39 = some (.slice none 0 0) := by kernel_rfl
theorem tf_39 : TF Tryd.prog 39 1 24 (.slice none 0 0) := ⟨sz_39, by kernel_rfl, zr_39, by kernel_rfl, by decide⟩
theorem co_39 : Tryd.prog.concrete 39 = true := by kernel_rfl
theorem sz_40 : szf Tryd.prog 40 = some 1 := by kernel_rfl
theorem ag_40 : agf Tryd.prog 40 = some true := by kernel_rfl
theorem zr_40 : zrf Tryd.prog 40 = some (.agg #[.nilIface]) := by kernel_rfl
theorem tf_40 : TF Tryd.prog 40 1 16 (.agg #[.nilIface]) := ⟨sz_40, by kernel_rfl, zr_40, by kernel_rfl, by decide⟩
theorem fo_40_0 : fof Tryd.prog 40 0 = some 0 := by kernel_rfl
theorem fv_40_0 : fvf Tryd.prog 40 0 = some (0, false, 1) := by kernel_rfl
theorem pl_40 : plc Tryd.prog 40 = some [(0, 1)] := by kernel_rfl
theorem co_40 : Tryd.prog.concrete 40 = true := by kernel_rfl
theorem sz_41 : szf Tryd.prog 41 = some 1 := by kernel_rfl
theorem ag_41 : agf Tryd.prog 41 = some true := by kernel_rfl
theorem zr_41 : zrf Tryd.prog 41 = some (.agg #[.nilIface]) := by kernel_rfl
theorem tf_41 : TF Tryd.prog 41 1 16 (.agg #[.nilIface]) := ⟨sz_41, by kernel_rfl, zr_41, by kernel_rfl, by decide⟩
theorem fo_41_0 : fof Tryd.prog 41 0 = some 0 := by kernel_rfl
theorem fv_41_0 : fvf Tryd.prog 41 0 = some (0, false, 1) := by kernel_rfl
theorem pl_41 : plc Tryd.prog 41 = some [(0, 1)] := by kernel_rfl
theorem co_41 : Tryd.prog.concrete 41 = true := by kernel_rfl
theorem sz_42 : szf Tryd.prog 42 = some 1 := by kernel_rfl
theorem ag_42 : agf Tryd.prog 42 = some false := by kernel_rfl
theorem zr_42 : zrf Tryd.prog 42 = some (.pointer none) := by kernel_rfl
theorem tf_42 : TF Tryd.prog 42 1 8 (.pointer none) := ⟨sz_42, by kernel_rfl, zr_42, by kernel_rfl, by decide⟩
theorem co_42 : Tryd.prog.concrete 42 = true := by kernel_rfl
theorem sz_43 : szf Tryd.prog 43 = some 1 := by kernel_rfl
theorem ag_43 : agf Tryd.prog 43 = some false := by kernel_rfl
theorem zr_43 : zrf Tryd.prog 43 = some (.nilFunc) := by kernel_rfl
theorem tf_43 : TF Tryd.prog 43 1 8 (.nilFunc) := ⟨sz_43, by kernel_rfl, zr_43, by kernel_rfl, by decide⟩
theorem co_43 : Tryd.prog.concrete 43 = true := by kernel_rfl
theorem sz_45 : szf Tryd.prog 45 = some 1 := by kernel_rfl
theorem ag_45 : agf Tryd.prog 45 = some false := by kernel_rfl
theorem zr_45 : zrf Tryd.prog 45 = some (.nilFunc) := by kernel_rfl
theorem tf_45 : TF Tryd.prog 45 1 8 (.nilFunc) := ⟨sz_45, by kernel_rfl, zr_45, by kernel_rfl, by decide⟩
theorem co_45 : Tryd.prog.concrete 45 = true := by kernel_rfl
theorem sz_46 : szf Tryd.prog 46 = some 1 := by kernel_rfl
theorem ag_46 : agf Tryd.prog 46 = some false := by kernel_rfl
theorem zr_46 : zrf Tryd.prog 46 = some (.nilFunc) := by kernel_rfl
theorem tf_46 : TF Tryd.prog 46 1 8 (.nilFunc) := ⟨sz_46, by kernel_rfl, zr_46, by kernel_rfl, by decide⟩
theorem co_46 : Tryd.prog.concrete 46 = true := by kernel_rfl
theorem sz_47 : szf Tryd.prog 47 = some 1 := by kernel_rfl
theorem ag_47 : agf Tryd.prog 47 = some false := by kernel_rfl
theorem zr_47 : zrf Tryd.prog 47 = some (.nilFunc) := by kernel_rfl
theorem tf_47 : TF Tryd.prog 47 1 8 (.nilFunc) := ⟨sz_47, by kernel_rfl, zr_47, by kernel_rfl, by decide⟩
theorem co_47 : Tryd.prog.concrete 47 = true := by kernel_rfl
theorem sz_49 : szf Tryd.prog 49 = some 1 := by kernel_rfl
theorem ag_49 : agf Tryd.prog 49 = some false := by kernel_rfl
theorem zr_49 : zrf Tryd.prog 49 = some (.nilFunc) := by kernel_rfl
theorem tf_49 : TF Tryd.prog 49 1 8 (.nilFunc) := ⟨sz_49, by kernel_rfl, zr_49, by kernel_rfl, by decide⟩
theorem co_49 : Tryd.prog.concrete 49 = true := by kernel_rfl
theorem sz_50 : szf Tryd.prog 50 = some 1 := by kernel_rfl
theorem ag_50 : agf Tryd.prog 50 = some false := by kernel_rfl
theorem zr_50 : zrf Tryd.prog 50 = some (.nilFunc) := by kernel_rfl
theorem tf_50 : TF Tryd.prog 50 1 8 (.nilFunc) := ⟨sz_50, by kernel_rfl, zr_50, by kernel_rfl, by decide⟩
theorem co_50 : Tryd.prog.concrete 50 = true := by kernel_rfl
theorem sz_51 : szf Tryd.prog 51 = some 1 := by kernel_rfl
theorem ag_51 : agf Tryd.prog 51 = some false := by kernel_rfl
theorem zr_51 : zrf Tryd.prog 51 = some (.nilFunc) := by kernel_rfl
theorem tf_51 : TF Tryd.prog 51 1 8 (.nilFunc) := ⟨sz_51, by kernel_rfl, zr_51, by kernel_rfl, by decide⟩
theorem co_51 : Tryd.prog.concrete 51 = true := by kernel_rfl
theorem sz_52 : szf Tryd.prog 52 = some 1 := by kernel_rfl
theorem ag_52 : agf Tryd.prog 52 = some false := by kernel_rfl
theorem zr_52 : zrf Tryd.prog 52 = some (.nilFunc) := by kernel_rfl
theorem tf_52 : TF Tryd.prog 52 1 8 (.nilFunc) := ⟨sz_52, by kernel_rfl, zr_52, by kernel_rfl, by decide⟩
theorem co_52 : Tryd.prog.concrete 52 = true := by kernel_rfl
theorem sz_53 : szf Tryd.prog 53 = some 1 := by kernel_rfl
theorem ag_53 : agf Tryd.prog 53 = some false := by kernel_rfl
theorem zr_53 : zrf Tryd.prog 53 = some (.nilFunc) := by kernel_rfl
theorem tf_53 : TF Tryd.prog 53 1 8 (.nilFunc) := ⟨sz_53, by kernel_rfl, zr_53, by kernel_rfl, by decide⟩
theorem co_53 : Tryd.prog.concrete 53 = true := by kernel_rfl
theorem sz_55 : szf Tryd.prog 55 = some 1 := by kernel_rfl
theorem ag_55 : agf Tryd.prog 55 = some false := by kernel_rfl
theorem zr_55 : zrf Tryd.prog 55 = some (.nilFunc) := by kernel_rfl
theorem tf_55 : TF Tryd.prog 55 1 8 (.nilFunc) := ⟨sz_55, by kernel_rfl, zr_55, by kernel_rfl, by decide⟩
theorem co_55 : Tryd.prog.concrete 55 = true := by kernel_rfl
theorem sz_56 : szf Tryd.prog 56 = some 1 := by kernel_rfl
theorem ag_56 : agf Tryd.prog 56 = some false := by kernel_rfl
theorem zr_56 : zrf Tryd.prog 56 = some (.nilFunc) := by kernel_rfl
theorem tf_56 : TF Tryd.prog 56 1 8 (.nilFunc) := ⟨sz_56, by kernel_rfl, zr_56, by kernel_rfl, by decide⟩
theorem co_56 : Tryd.prog.concrete 56 = true := by kernel_rfl
theorem sz_58 : szf Tryd.prog 58 = some 1 := by kernel_rfl
theorem ag_58 : agf Tryd.prog 58 = some false := by kernel_rfl
theorem zr_58 : zrf Tryd.prog 58 = some (.pointer none) := by kernel_rfl
theorem tf_58 : TF Tryd.prog 58 1 8 (.pointer none) := ⟨sz_58, by kernel_rfl, zr_58, by kernel_rfl, by decide⟩
theorem co_58 : Tryd.prog.concrete 58 = true := by kernel_rfl
theorem sz_59 : szf Tryd.prog 59 = some 1 := by kernel_rfl
theorem ag_59 : agf Tryd.prog 59 = some false := by kernel_rfl
theorem zr_59 : zrf Tryd.prog 59 = some (.nilFunc) := by kernel_rfl
theorem tf_59 : TF Tryd.prog 59 1 8 (.nilFunc) := ⟨sz_59, by kernel_rfl, zr_59, by kernel_rfl, by decide⟩
theorem co_59 : Tryd.prog.concrete 59 = true := by kernel_rfl
theorem sz_60 : szf Tryd.prog 60 = some 1 := by kernel_rfl
theorem ag_60 : agf Tryd.prog 60 = some false := by kernel_rfl
theorem zr_60 : zrf Tryd.prog 60 = some (.nilFunc) := by kernel_rfl
theorem tf_60 : TF Tryd.prog 60 1 8 (.nilFunc) := ⟨sz_60, by kernel_rfl, zr_60, by kernel_rfl, by decide⟩
theorem co_60 : Tryd.prog.concrete 60 = true := by kernel_rfl
theorem sz_62 : szf Tryd.prog 62 = some 1 := by kernel_rfl
theorem ag_62 : agf Tryd.prog 62 = some false := by kernel_rfl
theorem zr_62 : zrf Tryd.prog 62 = some (.nilFunc) := by kernel_rfl
theorem tf_62 : TF Tryd.prog 62 1 8 (.nilFunc) := ⟨sz_62, by kernel_rfl, zr_62, by kernel_rfl, by decide⟩
theorem co_62 : Tryd.prog.concrete 62 = true := by kernel_rfl
theorem sz_63 : szf Tryd.prog 63 = some 6 := by kernel_rfl
theorem ag_63 : agf Tryd.prog 63 = some true := by kernel_rfl
theorem zr_63 : zrf Tryd.prog 63 = some (.agg #[.int .u8 0, .int .u8 0, .int .u8 0, .int .u8 0, .int .u8 0, .int .u8 0]) := by kernel_rfl
theorem tf_63 : TF Tryd.prog 63 6 6 (.agg #[.int .u8 0, .int .u8 0, .int .u8 0, .int .u8 0, .int .u8 0, .int .u8 0]) := ⟨sz_63, by kernel_rfl, zr_63, by kernel_rfl, by decide⟩
theorem co_63 : Tryd.prog.concrete 63 = true := by kernel_rfl
theorem sz_64 : szf Tryd.prog 64 = some 1 := by kernel_rfl
theorem ag_64 : agf Tryd.prog 64 = some false := by kernel_rfl
theorem zr_64 : zrf Tryd.prog 64 = some (.nilFunc) := by kernel_rfl
theorem tf_64 : TF Tryd.prog 64 1 8 (.nilFunc) := ⟨sz_64, by kernel_rfl, zr_64, by kernel_rfl, by decide⟩
theorem co_64 : Tryd.prog.concrete 64 = true := by kernel_rfl
theorem sz_65 : szf Tryd.prog 65 = some 1 := by kernel_rfl
theorem ag_65 : agf Tryd.prog 65 = some false := by kernel_rfl
theorem zr_65 : zrf Tryd.prog 65 = some (.nilFunc) := by kernel_rfl
theorem tf_65 : TF Tryd.prog 65 1 8 (.nilFunc) := ⟨sz_65, by kernel_rfl, zr_65, by kernel_rfl, by decide⟩
theorem co_65 : Tryd.prog.concrete 65 = true := by kernel_rfl
theorem sz_66 : szf Tryd.prog 66 = some 2 := by kernel_rfl
theorem ag_66 : agf Tryd.prog 66 = some true := by kernel_rfl
theorem zr_66 : zrf Tryd.prog 66 = some (.agg #[.string ⟨#[]⟩, .bool false]) := by kernel_rfl
theorem tf_66 : TF Tryd.prog 66 2 24 (.agg #[.string ⟨#[]⟩, .bool false]) := ⟨sz_66, by kernel_rfl, zr_66, by kernel_rfl, by decide⟩
theorem fo_66_0 : fof Tryd.prog 66 0 = some 0 := by kernel_rfl
theorem fv_66_0 : fvf Tryd.prog 66 0 = some (0, false, 1) := by kernel_rfl
theorem fo_66_1 : fof Tryd.prog 66 1 = some 1 := by kernel_rfl
theorem fv_66_1 : fvf Tryd.prog 66 1 = some (1, false, 1) := by kernel_rfl
theorem pl_66 : plc Tryd.prog 66 = some [(0, 1), (1, 1)] := by kernel_rfl
theorem co_66 : Tryd.prog.concrete 66 = true := by kernel_rfl
theorem sz_67 : szf Tryd.prog 67 = some 2 := by kernel_rfl
theorem ag_67 : agf Tryd.prog 67 = some true := by kernel_rfl
theorem zr_67 : zrf Tryd.prog 67 = some (.agg #[.string ⟨#[]⟩, .bool false]) := by kernel_rfl
theorem tf_67 : TF Tryd.prog 67 2 24 (.agg #[.string ⟨#[]⟩, .bool false]) := ⟨sz_67, by kernel_rfl, zr_67, by kernel_rfl, by decide⟩
theorem fo_67_0 : fof Tryd.prog 67 0 = some 0 := by kernel_rfl
theorem fv_67_0 : fvf Tryd.prog 67 0 = some (0, false, 1) := by kernel_rfl
theorem fo_67_1 : fof Tryd.prog 67 1 = some 1 := by kernel_rfl
theorem fv_67_1 : fvf Tryd.prog 67 1 = some (1, false, 1) := by kernel_rfl
theorem pl_67 : plc Tryd.prog 67 = some [(0, 1), (1, 1)] := by kernel_rfl
theorem co_67 : Tryd.prog.concrete 67 = true := by kernel_rfl
theorem sz_68 : szf Tryd.prog 68 = some 1 := by kernel_rfl
theorem ag_68 : agf Tryd.prog 68 = some false := by kernel_rfl
theorem zr_68 : zrf Tryd.prog 68 = some (.nilFunc) := by kernel_rfl
theorem tf_68 : TF Tryd.prog 68 1 8 (.nilFunc) := ⟨sz_68, by kernel_rfl, zr_68, by kernel_rfl, by decide⟩
theorem co_68 : Tryd.prog.concrete 68 = true := by kernel_rfl
theorem sz_69 : szf Tryd.prog 69 = some 1 := by kernel_rfl
theorem ag_69 : agf Tryd.prog 69 = some false := by kernel_rfl
theorem zr_69 : zrf Tryd.prog 69 = some (.int .u64 0) := by kernel_rfl
theorem tf_69 : TF Tryd.prog 69 1 8 (.int .u64 0) := ⟨sz_69, by kernel_rfl, zr_69, by kernel_rfl, by decide⟩
theorem co_69 : Tryd.prog.concrete 69 = true := by kernel_rfl
theorem sz_70 : szf Tryd.prog 70 = some 1 := by kernel_rfl
theorem ag_70 : agf Tryd.prog 70 = some false := by kernel_rfl
theorem zr_70 : zrf Tryd.prog 70 = some (.nilFunc) := by kernel_rfl
theorem tf_70 : TF Tryd.prog 70 1 8 (.nilFunc) := ⟨sz_70, by kernel_rfl, zr_70, by kernel_rfl, by decide⟩
theorem co_70 : Tryd.prog.concrete 70 = true := by kernel_rfl
theorem sz_71 : szf Tryd.prog 71 = some 1 := by kernel_rfl
theorem ag_71 : agf Tryd.prog 71 = some false := by kernel_rfl
theorem zr_71 : zrf Tryd.prog 71 = some (.pointer none) := by kernel_rfl
theorem tf_71 : TF Tryd.prog 71 1 8 (.pointer none) := ⟨sz_71, by kernel_rfl, zr_71, by kernel_rfl, by decide⟩
theorem co_71 : Tryd.prog.concrete 71 = true := by kernel_rfl
theorem sz_72 : szf Tryd.prog 72 = some 2 := by kernel_rfl
theorem ag_72 : agf Tryd.prog 72 = some true := by kernel_rfl
theorem zr_72 : zrf Tryd.prog 72 = some (.agg #[.pointer none, .slice none 0 0]) := by kernel_rfl
theorem tf_72 : TF Tryd.prog 72 2 32 (.agg #[.pointer none, .slice none 0 0]) := ⟨sz_72, by kernel_rfl, zr_72, by kernel_rfl, by decide⟩
theorem fo_72_0 : fof Tryd.prog 72 0 = some 0 := by kernel_rfl
theorem fv_72_0 : fvf Tryd.prog 72 0 = some (0, false, 1) := by kernel_rfl
theorem fo_72_1 : fof Tryd.prog 72 1 = some 1 := by kernel_rfl
theorem fv_72_1 : fvf Tryd.prog 72 1 = some (1, false, 1) := by kernel_rfl
theorem pl_72 : plc Tryd.prog 72 = some [(0, 1), (1, 1)] := by kernel_rfl
theorem co_72 : Tryd.prog.concrete 72 = true := by kernel_rfl
theorem sz_73 : szf Tryd.prog 73 = some 2 := by kernel_rfl
theorem ag_73 : agf Tryd.prog 73 = some true := by kernel_rfl
theorem zr_73 : zrf Tryd.prog 73 = some (.agg #[.pointer none, .slice none 0 0]) := by kernel_rfl
theorem tf_73 : TF Tryd.prog 73 2 32 (.agg #[.pointer none, .slice none 0 0]) := ⟨sz_73, by kernel_rfl, zr_73, by kernel_rfl, by decide⟩
theorem fo_73_0 : fof Tryd.prog 73 0 = some 0 := by kernel_rfl
theorem fv_73_0 : fvf Tryd.prog 73 0 = some (0, false, 1) := by kernel_rfl
theorem fo_73_1 : fof Tryd.prog 73 1 = some 1 := by kernel_rfl
theorem fv_73_1 : fvf Tryd.prog 73 1 = some (1, false, 1) := by kernel_rfl
theorem pl_73 : plc Tryd.prog 73 = some [(0, 1), (1, 1)] := by kernel_rfl
theorem co_73 : Tryd.prog.concrete 73 = true := by kernel_rfl
theorem sz_74 : szf Tryd.prog 74 = some 1 := by kernel_rfl
theorem ag_74 : agf Tryd.prog 74 = some false := by kernel_rfl
theorem zr_74 : zrf Tryd.prog 74 = some (.nilFunc) := by kernel_rfl
theorem tf_74 : TF Tryd.prog 74 1 8 (.nilFunc) := ⟨sz_74, by kernel_rfl, zr_74, by kernel_rfl, by decide⟩
theorem co_74 : Tryd.prog.concrete 74 = true := by kernel_rfl
theorem sz_75 : szf Tryd.prog 75 = some 1 := by kernel_rfl
theorem ag_75 : agf Tryd.prog 75 = some false := by kernel_rfl
theorem zr_75 : zrf Tryd.prog 75 = some (.nilIface) := by kernel_rfl
theorem tf_75 : TF Tryd.prog 75 1 16 (.nilIface) := ⟨sz_75, by kernel_rfl, zr_75, by kernel_rfl, by decide⟩
theorem sz_76 : szf Tryd.prog 76 = some 1 := by kernel_rfl
theorem ag_76 : agf Tryd.prog 76 = some false := by kernel_rfl
theorem zr_76 : zrf Tryd.prog 76 = some (.nilIface) := by kernel_rfl
theorem tf_76 : TF Tryd.prog 76 1 16 (.nilIface) := ⟨sz_76, by kernel_rfl, zr_76, by kernel_rfl, by decide⟩
theorem sz_78 : szf Tryd.prog 78 = some 1 := by kernel_rfl
theorem ag_78 : agf Tryd.prog 78 = some false := by kernel_rfl
theorem zr_78 : zrf Tryd.prog 78 = some (.nilFunc) := by kernel_rfl
theorem tf_78 : TF Tryd.prog 78 1 8 (.nilFunc) := ⟨sz_78, by kernel_rfl, zr_78, by kernel_rfl, by decide⟩
theorem co_78 : Tryd.prog.concrete 78 = true := by kernel_rfl
theorem sz_80 : szf Tryd.prog 80 = some 1 := by kernel_rfl
theorem ag_80 : agf Tryd.prog 80 = some false := by kernel_rfl
theorem zr_80 : zrf Tryd.prog 80 = some (.nilFunc) := by kernel_rfl
theorem tf_80 : TF Tryd.prog 80 1 8 (.nilFunc) := ⟨sz_80, by kernel_rfl, zr_80, by kernel_rfl, by decide⟩
theorem co_80 : Tryd.prog.concrete 80 = true := by kernel_rfl
theorem sz_81 : szf Tryd.prog 81 = some 1 := by kernel_rfl
theorem ag_81 : agf Tryd.prog 81 = some false := by kernel_rfl
theorem zr_81 : zrf Tryd.prog 81 = some (.nilFunc) := by kernel_rfl
theorem tf_81 : TF Tryd.prog 81 1 8 (.nilFunc) := ⟨sz_81, by kernel_rfl, zr_81, by kernel_rfl, by decide⟩
theorem co_81 : Tryd.prog.concrete 81 = true := by kernel_rfl
theorem sz_82 : szf Tryd.prog 82 = some 1 := by kernel_rfl
theorem ag_82 : agf Tryd.prog 82 = some false := by kernel_rfl
theorem zr_82 : zrf Tryd.prog 82 = some (.nilFunc) := by kernel_rfl
theorem tf_82 : TF Tryd.prog 82 1 8 (.nilFunc) := ⟨sz_82, by kernel_rfl, zr_82, by kernel_rfl, by decide⟩
theorem co_82 : Tryd.prog.concrete 82 = true := by kernel_rfl
theorem sz_83 : szf Tryd.prog 83 = some 1 := by kernel_rfl
theorem ag_83 : agf Tryd.prog 83 = some false := by kernel_rfl
theorem zr_83 : zrf Tryd.prog 83 = some (.pointer none) := by kernel_rfl
theorem tf_83 : TF Tryd.prog 83 1 8 (.pointer none) := ⟨sz_83, by kernel_rfl, zr_83, by kernel_rfl, by decide⟩
theorem co_83 : Tryd.prog.concrete 83 = true := by kernel_rfl
theorem sz_84 : szf Tryd.prog 84 = some 1 := by kernel_rfl
theorem ag_84 : agf Tryd.prog 84 = some false := by kernel_rfl
theorem zr_84 : zrf Tryd.prog 84 = some (.pointer none) := by kernel_rfl
theorem tf_84 : TF Tryd.prog 84 1 8 (.pointer none) := ⟨sz_84, by kernel_rfl, zr_84, by kernel_rfl, by decide⟩
theorem co_84 : Tryd.prog.concrete 84 = true := by kernel_rfl
theorem sz_85 : szf Tryd.prog 85 = some 1 := by kernel_rfl
theorem ag_85 : agf Tryd.prog 85 = some false := by kernel_rfl
theorem zr_85 : zrf Tryd.prog 85 = some (.nilFunc) := by kernel_rfl
theorem tf_85 : TF Tryd.prog 85 1 8 (.nilFunc) := ⟨sz_85, by kernel_rfl, zr_85, by kernel_rfl, by decide⟩
theorem co_85 : Tryd.prog.concrete 85 = true := by kernel_rfl
theorem sz_86 : szf Tryd.prog 86 = some 1 := by kernel_rfl
theorem ag_86 : agf Tryd.prog 86 = some false := by kernel_rfl
theorem zr_86 : zrf Tryd.prog 86 = some (.nilFunc) := by kernel_rfl
theorem tf_86 : TF Tryd.prog 86 1 8 (.nilFunc) := ⟨sz_86, by kernel_rfl, zr_86, by kernel_rfl, by decide⟩
theorem co_86 : Tryd.prog.concrete 86 = true := by kernel_rfl
theorem sz_87 : szf Tryd.prog 87 = some 1 := by kernel_rfl
theorem ag_87 : agf Tryd.prog 87 = some false := by kernel_rfl
theorem zr_87 : zrf Tryd.prog 87 = some (.nilFunc) := by kernel_rfl
theorem tf_87 : TF Tryd.prog 87 1 8 (.nilFunc) := ⟨sz_87, by kernel_rfl, zr_87, by kernel_rfl, by decide⟩
theorem co_87 : Tryd.prog.concrete 87 = true := by kernel_rfl
theorem sz_88 : szf Tryd.prog 88 = some 256 := by kernel_rfl
theorem ag_88 : agf Tryd.prog 88 = some true := by kernel_rfl
theorem co_88 : Tryd.prog.concrete 88 = true := by kernel_rfl
theorem sz_89 : szf Tryd.prog 89 = some 2 := by kernel_rfl
theorem ag_89 : agf Tryd.prog 89 = some true := by kernel_rfl
theorem zr_89 : zrf Tryd.prog 89 = some (.agg #[.int .u8 0, .int .u8 0]) := by kernel_rfl
theorem tf_89 : TF Tryd.prog 89 2 2 (.agg #[.int .u8 0, .int .u8 0]) := ⟨sz_89, by kernel_rfl, zr_89, by kernel_rfl, by decide⟩
theorem fo_89_0 : fof Tryd.prog 89 0 = some 0 := by kernel_rfl
theorem fv_89_0 : fvf Tryd.prog 89 0 = some (0, false, 1) := by kernel_rfl
theorem fo_89_1 : fof Tryd.prog 89 1 = some 1 := by kernel_rfl
theorem fv_89_1 : fvf Tryd.prog 89 1 = some (1, false, 1) := by kernel_rfl
theorem pl_89 : plc Tryd.prog 89 = some [(0, 1), (1, 1)] := by kernel_rfl
theorem co_89 : Tryd.prog.concrete 89 = true := by kernel_rfl
theorem sz_90 : szf Tryd.prog 90 = some 2 := by kernel_rfl
theorem ag_90 : agf Tryd.prog 90 = some true := by kernel_rfl
theorem zr_90 : zrf Tryd.prog 90 = some (.agg #[.int .u8 0, .int .u8 0]) := by kernel_rfl
theorem tf_90 : TF Tryd.prog 90 2 2 (.agg #[.int .u8 0, .int .u8 0]) := ⟨sz_90, by kernel_rfl, zr_90, by kernel_rfl, by decide⟩
theorem fo_90_0 : fof Tryd.prog 90 0 = some 0 := by kernel_rfl
theorem fv_90_0 : fvf Tryd.prog 90 0 = some (0, false, 1) := by kernel_rfl
theorem fo_90_1 : fof Tryd.prog 90 1 = some 1 := by kernel_rfl
theorem fv_90_1 : fvf Tryd.prog 90 1 = some (1, false, 1) := by kernel_rfl
theorem pl_90 : plc Tryd.prog 90 = some [(0, 1), (1, 1)] := by kernel_rfl
theorem co_90 : Tryd.prog.concrete 90 = true := by kernel_rfl
theorem sz_91 : szf Tryd.prog 91 = some 32 := by kernel_rfl
theorem ag_91 : agf Tryd.prog 91 = some true := by kernel_rfl
theorem zr_91 : zrf Tryd.prog 91 = some (.agg #[.int .u8 0, .int .u8 0, .int .u8 0, .int .u8 0, .int .u8 0, .int .u8 0, .int .u8 0, .int .u8 0, .int .u8 0, .int .u8 0, .int .u8 0, .int .u8 0, .int .u8 0, .int .u8 0, .int .u8 0, .int .u8 0, .int .u8 0, .int .u8 0, .int .u8 0, .int .u8 0, .int .u8 0, .int .u8 0, .int .u8 0, .int .u8 0, .int .u8 0, .int .u8 0, .int .u8 0, .int .u8 0, .int .u8 0, .int .u8 0, .int .u8 0, .int .u8 0]) := by kernel_rfl
theorem tf_91 : TF Tryd.prog 91 32 32 (.agg #[.int .u8 0, .int .u8 0, .int .u8 0, .int .u8 0, .int .u8 0, .int .u8 0, .int .u8 0, .int .u8 0, .int .u8 0, .int .u8 0, .int .u8 0, .int .u8 0, .int .u8 0, .int .u8 0, .int .u8 0, .int .u8 0, .int .u8 0, .int .u8 0, .int .u8 0, .int .u8 0, .int .u8 0, .int .u8 0, .int .u8 0, .int .u8 0, .int .u8 0, .int .u8 0, .int .u8 0, .int .u8 0, .int .u8 0, .int .u8 0, .int .u8 0, .int .u8 0]) := ⟨sz_91, by kernel_rfl, zr_91, by kernel_rfl, by decide⟩
theorem co_91 : Tryd.prog.concrete 91 = true := by kernel_rfl
theorem sz_92 : szf Tryd.prog 92 = some 1 := by kernel_rfl
theorem ag_92 : agf Tryd.prog 92 = some false := by kernel_rfl
theorem zr_92 : zrf Tryd.prog 92 = some (.int .u32 0) := by kernel_rfl
theorem tf_92 : TF Tryd.prog 92 1 4 (.int .u32 0) := ⟨sz_92, by kernel_rfl, zr_92, by kernel_rfl, by decide⟩
theorem co_92 : Tryd.prog.concrete 92 = true := by kernel_rfl
theorem sz_94 : szf Tryd.prog 94 = some 1 := by kernel_rfl
theorem ag_94 : agf Tryd.prog 94 = some false := by kernel_rfl
theorem zr_94 : zrf Tryd.prog 94 = some (.nilFunc) := by kernel_rfl
theorem tf_94 : TF Tryd.prog 94 1 8 (.nilFunc) := ⟨sz_94, by kernel_rfl, zr_94, by kernel_rfl, by decide⟩
theorem co_94 : Tryd.prog.concrete 94 = true := by kernel_rfl
theorem sz_95 : szf Tryd.prog 95 = some 4 := by kernel_rfl
theorem ag_95 : agf Tryd.prog 95 = some true := by kernel_rfl
theorem zr_95 : zrf Tryd.prog 95 = some (.agg #[.pointer none, .pointer none, .pointer none, .string ⟨#[]⟩]) := by kernel_rfl
theorem tf_95 : TF Tryd.prog 95 4 40 (.agg #[.pointer none, .pointer none, .pointer none, .string ⟨#[]⟩]) := ⟨sz_95, by kernel_rfl, zr_95, by kernel_rfl, by decide⟩
theorem fo_95_0 : fof Tryd.prog 95 0 = some 0 := by kernel_rfl
theorem fv_95_0 : fvf Tryd.prog 95 0 = some (0, false, 1) := by kernel_rfl
theorem fo_95_1 : fof Tryd.prog 95 1 = some 1 := by kernel_rfl
theorem fv_95_1 : fvf Tryd.prog 95 1 = some (1, false, 1) := by kernel_rfl
theorem fo_95_2 : fof Tryd.prog 95 2 = some 2 := by kernel_rfl
theorem fv_95_2 : fvf Tryd.prog 95 2 = some (2, false, 1) := by kernel_rfl
theorem fo_95_3 : fof Tryd.prog 95 3 = some 3 := by kernel_rfl
theorem fv_95_3 : fvf Tryd.prog 95 3 = some (3, false, 1) := by kernel_rfl
theorem pl_95 : plc Tryd.prog 95 = some [(0, 1), (1, 1), (2, 1), (3, 1)] := by kernel_rfl
theorem co_95 : Tryd.prog.concrete 95 = true := by kernel_rfl
theorem sz_96 : szf Tryd.prog 96 = some 4 := by kernel_rfl
theorem ag_96 : agf Tryd.prog 96 = some true := by kernel_rfl
theorem zr_96 : zrf Tryd.prog 96 = some (.agg #[.pointer none, .pointer none, .pointer none, .string ⟨#[]⟩]) := by kernel_rfl
theorem tf_96 : TF Tryd.prog 96 4 40 (.agg #[.pointer none, .pointer none, .pointer none, .string ⟨#[]⟩]) := ⟨sz_96, by kernel_rfl, zr_96, by kernel_rfl, by decide⟩
theorem fo_96_0 : fof Tryd.prog 96 0 = some 0 := by kernel_rfl
theorem fv_96_0 : fvf Tryd.prog 96 0 = some (0, false, 1) := by kernel_rfl
theorem fo_96_1 : fof Tryd.prog 96 1 = some 1 := by kernel_rfl
theorem fv_96_1 : fvf Tryd.prog 96 1 = some (1, false, 1) := by kernel_rfl
theorem fo_96_2 : fof Tryd.prog 96 2 = some 2 := by kernel_rfl
theorem fv_96_2 : fvf Tryd.prog 96 2 = some (2, false, 1) := by kernel_rfl
theorem fo_96_3 : fof Tryd.prog 96 3 = some 3 := by kernel_rfl
theorem fv_96_3 : fvf Tryd.prog 96 3 = some (3, false, 1) := by kernel_rfl
theorem pl_96 : plc Tryd.prog 96 = some [(0, 1), (1, 1), (2, 1), (3, 1)] := by kernel_rfl
theorem co_96 : Tryd.prog.concrete 96 = true := by kernel_rfl
theorem sz_97 : szf Tryd.prog 97 = some 0 := by kernel_rfl
theorem ag_97 : agf Tryd.prog 97 = some true := by kernel_rfl
theorem zr_97 : zrf Tryd.prog 97 = some (.agg #[]) := by kernel_rfl
theorem co_97 : Tryd.prog.concrete 97 = true := by kernel_rfl
theorem sz_98 : szf Tryd.prog 98 = some 0 := by kernel_rfl
theorem ag_98 : agf Tryd.prog 98 = some true := by kernel_rfl
theorem zr_98 : zrf Tryd.prog 98 = some (.agg #[]) := by kernel_rfl
theorem fv_98_0 : fvf Tryd.prog 98 0 = some (0, true, 0) := by kernel_rfl
theorem pl_98 : plc Tryd.prog 98 = some [(0, 0)] := by kernel_rfl
theorem co_98 : Tryd.prog.concrete 98 = true := by kernel_rfl
theorem sz_99 : szf Tryd.prog 99 = some 0 := by kernel_rfl
theorem ag_99 : agf Tryd.prog 99 = some true := by kernel_rfl
theorem zr_99 : zrf Tryd.prog 99 = some (.agg #[]) := by kernel_rfl
theorem fv_99_0 : fvf Tryd.prog 99 0 = some (0, true, 0) := by kernel_rfl
theorem pl_99 : plc Tryd.prog 99 = some [(0, 0)] := by kernel_rfl
theorem co_99 : Tryd.prog.concrete 99 = true := by kernel_rfl
theorem sz_100 : szf Tryd.prog 100 = some 1 := by kernel_rfl
theorem ag_100 : agf Tryd.prog 100 = some false := by kernel_rfl
theorem zr_100 : zrf Tryd.prog 100 = some (.nilFunc) := by kernel_rfl
theorem tf_100 : TF Tryd.prog 100 1 8 (.nilFunc) := ⟨sz_100, by kernel_rfl, zr_100, by kernel_rfl, by decide⟩
theorem co_100 : Tryd.prog.concrete 100 = true := by kernel_rfl
theorem sz_101 : szf Tryd.prog 101 = some 1 := by kernel_rfl
theorem ag_101 : agf Tryd.prog 101 = some false := by kernel_rfl
theorem zr_101 : zrf Tryd.prog 101 = some (.int .u8 0) := by kernel_rfl
theorem tf_101 : TF Tryd.prog 101 1 1 (.int .u8 0) := ⟨sz_101, by kernel_rfl, zr_101, by kernel_rfl, by decide⟩
theorem co_101 : Tryd.prog.concrete 101 = true := by kernel_rfl
theorem sz_102 : szf Tryd.prog 102 = some 1 := by kernel_rfl
theorem ag_102 : agf Tryd.prog 102 = some false := by kernel_rfl
theorem zr_102 : zrf Tryd.prog 102 = some (.int .u8 0) := by kernel_rfl
theorem tf_102 : TF Tryd.prog 102 1 1 (.int .u8 0) := ⟨sz_102, by kernel_rfl, zr_102, by kernel_rfl, by decide⟩
theorem co_102 : Tryd.prog.concrete 102 = true := by kernel_rfl
theorem sz_103 : szf Tryd.prog 103 = some 1 := by kernel_rfl
theorem ag_103 : agf Tryd.prog 103 = some false := by kernel_rfl
theorem zr_103 : zrf Tryd.prog 103 = some (.nilFunc) := by kernel_rfl
theorem tf_103 : TF Tryd.prog 103 1 8 (.nilFunc) := ⟨sz_103, by kernel_rfl, zr_103, by kernel_rfl, by decide⟩
theorem co_103 : Tryd.prog.concrete 103 = true := by kernel_rfl
theorem sz_104 : szf Tryd.prog 104 = some 1 := by kernel_rfl
theorem ag_104 : agf Tryd.prog 104 = some false := by kernel_rfl
theorem zr_104 : zrf Tryd.prog 104 = some (.int .i32 0) := by kernel_rfl
theorem tf_104 : TF Tryd.prog 104 1 4 (.int .i32 0) := ⟨sz_104, by kernel_rfl, zr_104, by kernel_rfl, by decide⟩
theorem co_104 : Tryd.prog.concrete 104 = true := by kernel_rfl
theorem sz_105 : szf Tryd.prog 105 = some 1 := by kernel_rfl
theorem ag_105 : agf Tryd.prog 105 = some false := by kernel_rfl
theorem zr_105 : zrf Tryd.prog 105 = some (.int .i32 0) := by kernel_rfl
theorem tf_105 : TF Tryd.prog 105 1 4 (.int .i32 0) := ⟨sz_105, by kernel_rfl, zr_105, by kernel_rfl, by decide⟩
theorem co_105 : Tryd.prog.concrete 105 = true := by kernel_rfl
theorem sz_106 : szf Tryd.prog 106 = some 11 := by kernel_rfl
theorem ag_106 : agf Tryd.prog 106 = some true := by kernel_rfl
theorem zr_106 : zrf Tryd.prog 106 = some (.agg #[.int .u64 0, .int .u64 0, .int .u32 0, .int .u8 0, .int .u8 0, .int .u8 0, .int .u8 0, .nilFunc, .pointer none, .int .i32 0, .int .i32 0]) := by kernel_rfl
theorem tf_106 : TF Tryd.prog 106 11 48 (.agg #[.int .u64 0, .int .u64 0, .int .u32 0, .int .u8 0, .int .u8 0, .int .u8 0, .int .u8 0, .nilFunc, .pointer none, .int .i32 0, .int .i32 0]) := ⟨sz_106, by kernel_rfl, zr_106, by kernel_rfl, by decide⟩
theorem fo_106_0 : fof Tryd.prog 106 0 = some 0 := by kernel_rfl
theorem fv_106_0 : fvf Tryd.prog 106 0 = some (0, false, 1) := by kernel_rfl
theorem fo_106_1 : fof Tryd.prog 106 1 = some 1 := by kernel_rfl
theorem fv_106_1 : fvf Tryd.prog 106 1 = some (1, false, 1) := by kernel_rfl
theorem fo_106_2 : fof Tryd.prog 106 2 = some 2 := by kernel_rfl
theorem fv_106_2 : fvf Tryd.prog 106 2 = some (2, false, 1) := by kernel_rfl
theorem fo_106_3 : fof Tryd.prog 106 3 = some 3 := by kernel_rfl
theorem fv_106_3 : fvf Tryd.prog 106 3 = some (3, false, 1) := by kernel_rfl
theorem fo_106_4 : fof Tryd.prog 106 4 = some 4 := by kernel_rfl
theorem fv_106_4 : fvf Tryd.prog 106 4 = some (4, false, 1) := by kernel_rfl
theorem fo_106_5 : fof Tryd.prog 106 5 = some 5 := by kernel_rfl
theorem fv_106_5 : fvf Tryd.prog 106 5 = some (5, false, 1) := by kernel_rfl
theorem fo_106_6 : fof Tryd.prog 106 6 = some 6 := by kernel_rfl
theorem fv_106_6 : fvf Tryd.prog 106 6 = some (6, false, 1) := by kernel_rfl
theorem fo_106_7 : fof Tryd.prog 106 7 = some 7 := by kernel_rfl
theorem fv_106_7 : fvf Tryd.prog 106 7 = some (7, false, 1) := by kernel_rfl
theorem fo_106_8 : fof Tryd.prog 106 8 = some 8 := by kernel_rfl
theorem fv_106_8 : fvf Tryd.prog 106 8 = some (8, false, 1) := by kernel_rfl
theorem fo_106_9 : fof Tryd.prog 106 9 = some 9 := by kernel_rfl
theorem fv_106_9 : fvf Tryd.prog 106 9 = some (9, false, 1) := by kernel_rfl
theorem fo_106_10 : fof Tryd.prog 106 10 = some 10 := by kernel_rfl
theorem fv_106_10 : fvf Tryd.prog 106 10 = some (10, false, 1) := by kernel_rfl
theorem pl_106 : plc Tryd.prog 106 = some [(0, 1), (1, 1), (2, 1), (3, 1), (4, 1), (5, 1), (6, 1), (7, 1), (8, 1), (9, 1), (10, 1)] := by kernel_rfl
theorem co_106 : Tryd.prog.concrete 106 = true := by kernel_rfl
theorem sz_107 : szf Tryd.prog 107 = some 11 := by kernel_rfl
theorem ag_107 : agf Tryd.prog 107 = some true := by kernel_rfl
theorem zr_107 : zrf Tryd.prog 107 = some (.agg #[.int .u64 0, .int .u64 0, .int .u32 0, .int .u8 0, .int .u8 0, .int .u8 0, .int .u8 0, .nilFunc, .pointer none, .int .i32 0, .int .i32 0]) := by kernel_rfl
theorem tf_107 : TF Tryd.prog 107 11 48 (.agg #[.int .u64 0, .int .u64 0, .int .u32 0, .int .u8 0, .int .u8 0, .int .u8 0, .int .u8 0, .nilFunc, .pointer none, .int .i32 0, .int .i32 0]) := ⟨sz_107, by kernel_rfl, zr_107, by kernel_rfl, by decide⟩
theorem fo_107_0 : fof Tryd.prog 107 0 = some 0 := by kernel_rfl
theorem fv_107_0 : fvf Tryd.prog 107 0 = some (0, false, 1) := by kernel_rfl
theorem fo_107_1 : fof Tryd.prog 107 1 = some 1 := by kernel_rfl
theorem fv_107_1 : fvf Tryd.prog 107 1 = some (1, false, 1) := by kernel_rfl
theorem fo_107_2 : fof Tryd.prog 107 2 = some 2 := by kernel_rfl
theorem fv_107_2 : fvf Tryd.prog 107 2 = some (2, false, 1) := by kernel_rfl
theorem fo_107_3 : fof Tryd.prog 107 3 = some 3 := by kernel_rfl
theorem fv_107_3 : fvf Tryd.prog 107 3 = some (3, false, 1) := by kernel_rfl
theorem fo_107_4 : fof Tryd.prog 107 4 = some 4 := by kernel_rfl
theorem fv_107_4 : fvf Tryd.prog 107 4 = some (4, false, 1) := by kernel_rfl
theorem fo_107_5 : fof Tryd.prog 107 5 = some 5 := by kernel_rfl
theorem fv_107_5 : fvf Tryd.prog 107 5 = some (5, false, 1) := by kernel_rfl
theorem fo_107_6 : fof Tryd.prog 107 6 = some 6 := by kernel_rfl
theorem fv_107_6 : fvf Tryd.prog 107 6 = some (6, false, 1) := by kernel_rfl
theorem fo_107_7 : fof Tryd.prog 107 7 = some 7 := by kernel_rfl
theorem fv_107_7 : fvf Tryd.prog 107 7 = some (7, false, 1) := by kernel_rfl
theorem fo_107_8 : fof Tryd.prog 107 8 = some 8 := by kernel_rfl
theorem fv_107_8 : fvf Tryd.prog 107 8 = some (8, false, 1) := by kernel_rfl
theorem fo_107_9 : fof Tryd.prog 107 9 = some 9 := by kernel_rfl
theorem fv_107_9 : fvf Tryd.prog 107 9 = some (9, false, 1) := by kernel_rfl
theorem fo_107_10 : fof Tryd.prog 107 10 = some 10 := by kernel_rfl
theorem fv_107_10 : fvf Tryd.prog 107 10 = some (10, false, 1) := by kernel_rfl
theorem pl_107 : plc Tryd.prog 107 = some [(0, 1), (1, 1), (2, 1), (3, 1), (4, 1), (5, 1), (6, 1), (7, 1), (8, 1), (9, 1), (10, 1)] := by kernel_rfl
theorem co_107 : Tryd.prog.concrete 107 = true := by kernel_rfl
theorem en_2 : Enters Tryd.prog 2 := enters_of Tryd.func2 (by kernel_rfl) (by kernel_rfl)
theorem en_3 : Enters Tryd.prog 3 := enters_of Tryd.func3 (by kernel_rfl) (by kernel_rfl)
theorem en_4 : Enters Tryd.prog 4 := enters_of Tryd.func4 (by kernel_rfl) (by kernel_rfl)
theorem en_5 : Enters Tryd.prog 5 := enters_of Tryd.func5 (by kernel_rfl) (by kernel_rfl)
theorem en_6 : Enters Tryd.prog 6 := enters_of Tryd.func6 (by kernel_rfl) (by kernel_rfl)
theorem en_7 : Enters Tryd.prog 7 := enters_of Tryd.func7 (by kernel_rfl) (by kernel_rfl)
theorem en_8 : Enters Tryd.prog 8 := enters_of Tryd.func8 (by kernel_rfl) (by kernel_rfl)
theorem en_9 : Enters Tryd.prog 9 := enters_of Tryd.func9 (by kernel_rfl) (by kernel_rfl)
theorem en_10 : Enters Tryd.prog 10 := enters_of Tryd.func10 (by kernel_rfl) (by kernel_rfl)
theorem en_11 : Enters Tryd.prog 11 := enters_of Tryd.func11 (by kernel_rfl) (by kernel_rfl)
theorem en_12 : Enters Tryd.prog 12 := enters_of Tryd.func12 (by kernel_rfl) (by kernel_rfl)
theorem en_13 : Enters Tryd.prog 13 := enters_of Tryd.func13 (by kernel_rfl) (by kernel_rfl)
theorem en_14 : Enters Tryd.prog 14 := enters_of Tryd.func14 (by kernel_rfl) (by kernel_rfl)
theorem en_15 : Enters Tryd.prog 15 := enters_of Tryd.func15 (by kernel_rfl) (by kernel_rfl)
theorem en_16 : Enters Tryd.prog 16 := enters_of Tryd.func16 (by kernel_rfl) (by kernel_rfl)
theorem en_17 : Enters Tryd.prog 17 := enters_of Tryd.func17 (by kernel_rfl) (by kernel_rfl)
theorem en_18 : Enters Tryd.prog 18 := enters_of Tryd.func18 (by kernel_rfl) (by kernel_rfl)
theorem en_19 : Enters Tryd.prog 19 := enters_of Tryd.func19 (by kernel_rfl) (by kernel_rfl)
theorem en_20 : Enters Tryd.prog 20 := enters_of Tryd.func20 (by kernel_rfl) (by kernel_rfl)
theorem en_21 : Enters Tryd.prog 21 := enters_of Tryd.func21 (by kernel_rfl) (by kernel_rfl)
theorem en_22 : Enters Tryd.prog 22 := enters_of Tryd.func22 (by kernel_rfl) (by kernel_rfl)
theorem en_23 : Enters Tryd.prog 23 := enters_of Tryd.func23 (by kernel_rfl) (by kernel_rfl)
theorem en_24 : Enters Tryd.prog 24 := enters_of Tryd.func24 (by kernel_rfl) (by kernel_rfl)
theorem en_25 : Enters Tryd.prog 25 := enters_of Tryd.func25 (by kernel_rfl) (by kernel_rfl)
theorem en_26 : Enters Tryd.prog 26 := enters_of Tryd.func26 (by kernel_rfl) (by kernel_rfl)
theorem en_27 : Enters Tryd.prog 27 := enters_of Tryd.func27 (by kernel_rfl) (by kernel_rfl)
theorem en_28 : Enters Tryd.prog 28 := enters_of Tryd.func28 (by kernel_rfl) (by kernel_rfl)
theorem en_29 : Enters Tryd.prog 29 := enters_of Tryd.func29 (by kernel_rfl) (by kernel_rfl)
theorem en_30 : Enters Tryd.prog 30 := enters_of Tryd.func30 (by kernel_rfl) (by kernel_rfl)
theorem en_31 : Enters Tryd.prog 31 := enters_of Tryd.func31 (by kernel_rfl) (by kernel_rfl)
theorem en_32 : Enters Tryd.prog 32 := enters_of Tryd.func32 (by kernel_rfl) (by kernel_rfl)
theorem en_34 : Enters Tryd.prog 34 := enters_of Tryd.func34 (by kernel_rfl) (by kernel_rfl)
theorem en_35 : Enters Tryd.prog 35 := enters_of Tryd.func35 (by kernel_rfl) (by kernel_rfl)
theorem en_36 : Enters Tryd.prog 36 := enters_of Tryd.func36 (by kernel_rfl) (by kernel_rfl)
theorem en_37 : Enters Tryd.prog 37 := enters_of Tryd.func37 (by kernel_rfl) (by kernel_rfl)
theorem en_38 : Enters Tryd.prog 38 := enters_of Tryd.func38 (by kernel_rfl) (by kernel_rfl)
theorem en_39 : Enters Tryd.prog 39 := enters_of Tryd.func39 (by kernel_rfl) (by kernel_rfl)
theorem en_40 : Enters Tryd.prog 40 := enters_of Tryd.func40 (by kernel_rfl) (by kernel_rfl)
theorem en_41 : Enters Tryd.prog 41 := enters_of Tryd.func41 (by kernel_rfl) (by kernel_rfl)
theorem en_42 : Enters Tryd.prog 42 := enters_of Tryd.func42 (by kernel_rfl) (by kernel_rfl)
theorem en_44 : Enters Tryd.prog 44 := enters_of Tryd.func44 (by kernel_rfl) (by kernel_rfl)
theorem en_45 : Enters Tryd.prog 45 := enters_of Tryd.func45 (by kernel_rfl) (by kernel_rfl)
theorem en_46 : Enters Tryd.prog 46 := enters_of Tryd.func46 (by kernel_rfl) (by kernel_rfl)
theorem en_47 : Enters Tryd.prog 47 := enters_of Tryd.func47 (by kernel_rfl) (by kernel_rfl)
theorem en_50 : Enters Tryd.prog 50 := enters_of Tryd.func50 (by kernel_rfl) (by kernel_rfl)
theorem en_52 : Enters Tryd.prog 52 := enters_of Tryd.func52 (by kernel_rfl) (by kernel_rfl)
theorem en_53 : Enters Tryd.prog 53 := enters_of Tryd.func53 (by kernel_rfl) (by kernel_rfl)
theorem en_55 : Enters Tryd.prog 55 := enters_of Tryd.func55 (by kernel_rfl) (by kernel_rfl)
theorem en_77 : Enters Tryd.prog 77 := enters_of Tryd.func77 (by kernel_rfl) (by kernel_rfl)
end Go.Proofs.YtgoaclokjenpkaaDoorS
