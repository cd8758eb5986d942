/- Lemmas for the proof, no conditions of their own. -/
import Derived.Test.YteniodjodngkbaaQA2
import Derived.Test.YteniodjodngkbaaProg
import Derived.KernelRfl
set_option linter.unusedVariables false
set_option linter.unusedSimpArgs false
set_option maxRecDepth 100000
namespace Go.Proofs.Yteniodjodngkbaa.Eng
open Go Go.RowKit
def t_1 : TyD := { und := TypeDesc.func #[] #[] false, size := 1, bytes := 8, zero := [Value.nilFunc], fl := false }
theorem i_1 : TabE Try.prog (1, t_1, false) := ⟨by kernel_rfl, fun h => by simp at h⟩
def t_2 : TyD := { und := TypeDesc.int IntKind.i64, size := 1, bytes := 8, zero := [Value.int IntKind.i64 0], fl := true }
theorem i_2 : TabE Try.prog (2, t_2, false) := ⟨by kernel_rfl, fun h => by simp at h⟩
def t_3 : TyD := { und := TypeDesc.int IntKind.i64, size := 1, bytes := 8, zero := [Value.int IntKind.i64 0], fl := true }
theorem i_3 : TabE Try.prog (3, t_3, false) := ⟨by kernel_rfl, fun h => by simp at h⟩
def t_4 : TyD := { und := TypeDesc.bool, size := 1, bytes := 1, zero := [Value.bool false], fl := true }
theorem i_4 : TabE Try.prog (4, t_4, false) := ⟨by kernel_rfl, fun h => by simp at h⟩
def t_5 : TyD := { und := TypeDesc.int IntKind.u8, size := 1, bytes := 1, zero := [Value.int IntKind.u8 0], fl := true }
theorem i_5 : TabE Try.prog (5, t_5, false) := ⟨by kernel_rfl, fun h => by simp at h⟩
def t_6 : TyD := { und := TypeDesc.int IntKind.u8, size := 1, bytes := 1, zero := [Value.int IntKind.u8 0], fl := true }
theorem i_6 : TabE Try.prog (6, t_6, false) := ⟨by kernel_rfl, fun h => by simp at h⟩
def t_7 : TyD := { und := TypeDesc.struct #[{ name := "x", type := 2, offset := 0, embedded := false, tag := "", pkgPath := "runtime", byteOffset := 0 }, { name := "y", type := 3, offset := 1, embedded := false, tag := "", pkgPath := "runtime", byteOffset := 8 }, { name := "signed", type := 4, offset := 2, embedded := false, tag := "", pkgPath := "runtime", byteOffset := 16 }, { name := "code", type := 6, offset := 3, embedded := false, tag := "", pkgPath := "runtime", byteOffset := 17 }], size := 4, bytes := 24, zero := [Value.int IntKind.i64 0, Value.int IntKind.i64 0, Value.bool false, Value.int IntKind.u8 0], fl := true }
theorem i_7 : TabE Try.prog (7, t_7, true) := ⟨by kernel_rfl, fun _ => by kernel_rfl⟩
def t_8 : TyD := { und := TypeDesc.struct #[{ name := "x", type := 2, offset := 0, embedded := false, tag := "", pkgPath := "runtime", byteOffset := 0 }, { name := "y", type := 3, offset := 1, embedded := false, tag := "", pkgPath := "runtime", byteOffset := 8 }, { name := "signed", type := 4, offset := 2, embedded := false, tag := "", pkgPath := "runtime", byteOffset := 16 }, { name := "code", type := 6, offset := 3, embedded := false, tag := "", pkgPath := "runtime", byteOffset := 17 }], size := 4, bytes := 24, zero := [Value.int IntKind.i64 0, Value.int IntKind.i64 0, Value.bool false, Value.int IntKind.u8 0], fl := true }
theorem i_8 : TabE Try.prog (8, t_8, true) := ⟨by kernel_rfl, fun _ => by kernel_rfl⟩
def t_9 : TyD := { und := TypeDesc.string, size := 1, bytes := 16, zero := [Value.string ⟨#[]⟩], fl := true }
theorem i_9 : TabE Try.prog (9, t_9, false) := ⟨by kernel_rfl, fun h => by simp at h⟩
def t_10 : TyD := { und := TypeDesc.string, size := 1, bytes := 16, zero := [Value.string ⟨#[]⟩], fl := true }
theorem i_10 : TabE Try.prog (10, t_10, false) := ⟨by kernel_rfl, fun h => by simp at h⟩
def t_11 : TyD := { und := TypeDesc.string, size := 1, bytes := 16, zero := [Value.string ⟨#[]⟩], fl := true }
theorem i_11 : TabE Try.prog (11, t_11, false) := ⟨by kernel_rfl, fun h => by simp at h⟩
def t_12 : TyD := { und := TypeDesc.int IntKind.u64, size := 1, bytes := 8, zero := [Value.int IntKind.u64 0], fl := true }
theorem i_12 : TabE Try.prog (12, t_12, false) := ⟨by kernel_rfl, fun h => by simp at h⟩
def t_13 : TyD := { und := TypeDesc.struct #[{ name := "msg", type := 9, offset := 0, embedded := false, tag := "", pkgPath := "runtime", byteOffset := 0 }, { name := "addr", type := 12, offset := 1, embedded := false, tag := "", pkgPath := "runtime", byteOffset := 16 }], size := 2, bytes := 24, zero := [Value.string ⟨#[]⟩, Value.int IntKind.u64 0], fl := true }
theorem i_13 : TabE Try.prog (13, t_13, false) := ⟨by kernel_rfl, fun h => by simp at h⟩
def t_14 : TyD := { und := TypeDesc.struct #[{ name := "msg", type := 9, offset := 0, embedded := false, tag := "", pkgPath := "runtime", byteOffset := 0 }, { name := "addr", type := 12, offset := 1, embedded := false, tag := "", pkgPath := "runtime", byteOffset := 16 }], size := 2, bytes := 24, zero := [Value.string ⟨#[]⟩, Value.int IntKind.u64 0], fl := true }
theorem i_14 : TabE Try.prog (14, t_14, false) := ⟨by kernel_rfl, fun h => by simp at h⟩
def t_15 : TyD := { und := TypeDesc.pointer 114, size := 1, bytes := 8, zero := [Value.pointer none], fl := false }
theorem i_15 : TabE Try.prog (15, t_15, false) := ⟨by kernel_rfl, fun h => by simp at h⟩
def t_16 : TyD := { und := TypeDesc.pointer 117, size := 1, bytes := 8, zero := [Value.pointer none], fl := false }
theorem i_16 : TabE Try.prog (16, t_16, false) := ⟨by kernel_rfl, fun h => by simp at h⟩
def t_17 : TyD := { und := TypeDesc.pointer 127, size := 1, bytes := 8, zero := [Value.pointer none], fl := false }
theorem i_17 : TabE Try.prog (17, t_17, false) := ⟨by kernel_rfl, fun h => by simp at h⟩
def t_18 : TyD := { und := TypeDesc.struct #[{ name := "typ", type := 17, offset := 0, embedded := false, tag := "", pkgPath := "internal/runtime/maps", byteOffset := 0 }], size := 1, bytes := 8, zero := [Value.pointer none], fl := false }
theorem i_18 : TabE Try.prog (18, t_18, false) := ⟨by kernel_rfl, fun h => by simp at h⟩
def t_19 : TyD := { und := TypeDesc.struct #[{ name := "typ", type := 17, offset := 0, embedded := false, tag := "", pkgPath := "internal/runtime/maps", byteOffset := 0 }], size := 1, bytes := 8, zero := [Value.pointer none], fl := false }
theorem i_19 : TabE Try.prog (19, t_19, false) := ⟨by kernel_rfl, fun h => by simp at h⟩
def t_21 : TyD := { und := TypeDesc.int IntKind.i32, size := 1, bytes := 4, zero := [Value.int IntKind.i32 0], fl := true }
theorem i_21 : TabE Try.prog (21, t_21, false) := ⟨by kernel_rfl, fun h => by simp at h⟩
def t_22 : TyD := { und := TypeDesc.struct #[{ name := "P", type := 2, offset := 0, embedded := false, tag := "", pkgPath := "", byteOffset := 0 }, { name := "Q", type := 2, offset := 1, embedded := false, tag := "", pkgPath := "", byteOffset := 8 }], size := 2, bytes := 16, zero := [Value.int IntKind.i64 0, Value.int IntKind.i64 0], fl := true }
theorem i_22 : TabE Try.prog (22, t_22, true) := ⟨by kernel_rfl, fun _ => by kernel_rfl⟩
def t_23 : TyD := { und := TypeDesc.struct #[{ name := "P", type := 2, offset := 0, embedded := false, tag := "", pkgPath := "", byteOffset := 0 }, { name := "Q", type := 2, offset := 1, embedded := false, tag := "", pkgPath := "", byteOffset := 8 }], size := 2, bytes := 16, zero := [Value.int IntKind.i64 0, Value.int IntKind.i64 0], fl := true }
theorem i_23 : TabE Try.prog (23, t_23, true) := ⟨by kernel_rfl, fun _ => by kernel_rfl⟩
def t_24 : TyD := { und := TypeDesc.slice 23, size := 1, bytes := 24, zero := [Value.slice none 0 0], fl := false }
theorem i_24 : TabE Try.prog (24, t_24, false) := ⟨by kernel_rfl, fun h => by simp at h⟩
def t_25 : TyD := { und := TypeDesc.struct #[{ name := "Unit", type := 23, offset := 0, embedded := false, tag := "", pkgPath := "", byteOffset := 0 }, { name := "Errors", type := 24, offset := 2, embedded := false, tag := "", pkgPath := "", byteOffset := 16 }], size := 3, bytes := 40, zero := [Value.int IntKind.i64 0, Value.int IntKind.i64 0, Value.slice none 0 0], fl := false }
theorem i_25 : TabE Try.prog (25, t_25, true) := ⟨by kernel_rfl, fun _ => by kernel_rfl⟩
def t_26 : TyD := { und := TypeDesc.struct #[{ name := "Unit", type := 23, offset := 0, embedded := false, tag := "", pkgPath := "", byteOffset := 0 }, { name := "Errors", type := 24, offset := 2, embedded := false, tag := "", pkgPath := "", byteOffset := 16 }], size := 3, bytes := 40, zero := [Value.int IntKind.i64 0, Value.int IntKind.i64 0, Value.slice none 0 0], fl := false }
theorem i_26 : TabE Try.prog (26, t_26, true) := ⟨by kernel_rfl, fun _ => by kernel_rfl⟩
def t_27 : TyD := { und := TypeDesc.struct #[{ name := "Parts", type := 2, offset := 0, embedded := false, tag := "", pkgPath := "", byteOffset := 0 }, { name := "Back", type := 4, offset := 1, embedded := false, tag := "", pkgPath := "", byteOffset := 8 }], size := 2, bytes := 16, zero := [Value.int IntKind.i64 0, Value.bool false], fl := true }
theorem i_27 : TabE Try.prog (27, t_27, true) := ⟨by kernel_rfl, fun _ => by kernel_rfl⟩
def t_28 : TyD := { und := TypeDesc.struct #[{ name := "Parts", type := 2, offset := 0, embedded := false, tag := "", pkgPath := "", byteOffset := 0 }, { name := "Back", type := 4, offset := 1, embedded := false, tag := "", pkgPath := "", byteOffset := 8 }], size := 2, bytes := 16, zero := [Value.int IntKind.i64 0, Value.bool false], fl := true }
theorem i_28 : TabE Try.prog (28, t_28, true) := ⟨by kernel_rfl, fun _ => by kernel_rfl⟩
def t_29 : TyD := { und := TypeDesc.slice 74, size := 1, bytes := 24, zero := [Value.slice none 0 0], fl := false }
theorem i_29 : TabE Try.prog (29, t_29, false) := ⟨by kernel_rfl, fun h => by simp at h⟩
def t_30 : TyD := { und := TypeDesc.struct #[{ name := "Scale", type := 26, offset := 0, embedded := false, tag := "", pkgPath := "", byteOffset := 0 }, { name := "Vernier", type := 28, offset := 3, embedded := false, tag := "", pkgPath := "", byteOffset := 40 }, { name := "Grows", type := 23, offset := 5, embedded := false, tag := "", pkgPath := "", byteOffset := 56 }, { name := "Things", type := 29, offset := 7, embedded := false, tag := "", pkgPath := "", byteOffset := 72 }], size := 8, bytes := 96, zero := [Value.int IntKind.i64 0, Value.int IntKind.i64 0, Value.slice none 0 0, Value.int IntKind.i64 0, Value.bool false, Value.int IntKind.i64 0, Value.int IntKind.i64 0, Value.slice none 0 0], fl := false }
theorem i_30 : TabE Try.prog (30, t_30, true) := ⟨by kernel_rfl, fun _ => by kernel_rfl⟩
def t_31 : TyD := { und := TypeDesc.struct #[{ name := "Scale", type := 26, offset := 0, embedded := false, tag := "", pkgPath := "", byteOffset := 0 }, { name := "Vernier", type := 28, offset := 3, embedded := false, tag := "", pkgPath := "", byteOffset := 40 }, { name := "Grows", type := 23, offset := 5, embedded := false, tag := "", pkgPath := "", byteOffset := 56 }, { name := "Things", type := 29, offset := 7, embedded := false, tag := "", pkgPath := "", byteOffset := 72 }], size := 8, bytes := 96, zero := [Value.int IntKind.i64 0, Value.int IntKind.i64 0, Value.slice none 0 0, Value.int IntKind.i64 0, Value.bool false, Value.int IntKind.i64 0, Value.int IntKind.i64 0, Value.slice none 0 0], fl := false }
theorem i_31 : TabE Try.prog (31, t_31, true) := ⟨by kernel_rfl, fun _ => by kernel_rfl⟩
def t_32 : TyD := { und := TypeDesc.func #[31, 3] #[3] false, size := 1, bytes := 8, zero := [Value.nilFunc], fl := false }
theorem i_32 : TabE Try.prog (32, t_32, false) := ⟨by kernel_rfl, fun h => by simp at h⟩
def t_33 : TyD := { und := TypeDesc.func #[24, 3] #[3] false, size := 1, bytes := 8, zero := [Value.nilFunc], fl := false }
theorem i_33 : TabE Try.prog (33, t_33, false) := ⟨by kernel_rfl, fun h => by simp at h⟩
def t_34 : TyD := { und := TypeDesc.struct #[{ name := "P", type := 2, offset := 0, embedded := false, tag := "", pkgPath := "", byteOffset := 0 }, { name := "Q", type := 2, offset := 1, embedded := false, tag := "", pkgPath := "", byteOffset := 8 }], size := 2, bytes := 16, zero := [Value.int IntKind.i64 0, Value.int IntKind.i64 0], fl := true }
theorem i_34 : TabE Try.prog (34, t_34, true) := ⟨by kernel_rfl, fun _ => by kernel_rfl⟩
def t_35 : TyD := { und := TypeDesc.slice 34, size := 1, bytes := 24, zero := [Value.slice none 0 0], fl := false }
theorem i_35 : TabE Try.prog (35, t_35, false) := ⟨by kernel_rfl, fun h => by simp at h⟩
def t_36 : TyD := { und := TypeDesc.struct #[{ name := "Unit", type := 34, offset := 0, embedded := false, tag := "", pkgPath := "", byteOffset := 0 }, { name := "Errors", type := 35, offset := 2, embedded := false, tag := "", pkgPath := "", byteOffset := 16 }], size := 3, bytes := 40, zero := [Value.int IntKind.i64 0, Value.int IntKind.i64 0, Value.slice none 0 0], fl := false }
theorem i_36 : TabE Try.prog (36, t_36, true) := ⟨by kernel_rfl, fun _ => by kernel_rfl⟩
def t_37 : TyD := { und := TypeDesc.struct #[{ name := "Unit", type := 34, offset := 0, embedded := false, tag := "", pkgPath := "", byteOffset := 0 }, { name := "Errors", type := 35, offset := 2, embedded := false, tag := "", pkgPath := "", byteOffset := 16 }], size := 3, bytes := 40, zero := [Value.int IntKind.i64 0, Value.int IntKind.i64 0, Value.slice none 0 0], fl := false }
theorem i_37 : TabE Try.prog (37, t_37, true) := ⟨by kernel_rfl, fun _ => by kernel_rfl⟩
def t_38 : TyD := { und := TypeDesc.struct #[{ name := "Parts", type := 2, offset := 0, embedded := false, tag := "", pkgPath := "", byteOffset := 0 }, { name := "Back", type := 4, offset := 1, embedded := false, tag := "", pkgPath := "", byteOffset := 8 }], size := 2, bytes := 16, zero := [Value.int IntKind.i64 0, Value.bool false], fl := true }
theorem i_38 : TabE Try.prog (38, t_38, true) := ⟨by kernel_rfl, fun _ => by kernel_rfl⟩
def t_39 : TyD := { und := TypeDesc.slice 65, size := 1, bytes := 24, zero := [Value.slice none 0 0], fl := false }
theorem i_39 : TabE Try.prog (39, t_39, false) := ⟨by kernel_rfl, fun h => by simp at h⟩
def t_40 : TyD := { und := TypeDesc.struct #[{ name := "Scale", type := 37, offset := 0, embedded := false, tag := "", pkgPath := "", byteOffset := 0 }, { name := "Vernier", type := 38, offset := 3, embedded := false, tag := "", pkgPath := "", byteOffset := 40 }, { name := "Grows", type := 34, offset := 5, embedded := false, tag := "", pkgPath := "", byteOffset := 56 }, { name := "Things", type := 39, offset := 7, embedded := false, tag := "", pkgPath := "", byteOffset := 72 }], size := 8, bytes := 96, zero := [Value.int IntKind.i64 0, Value.int IntKind.i64 0, Value.slice none 0 0, Value.int IntKind.i64 0, Value.bool false, Value.int IntKind.i64 0, Value.int IntKind.i64 0, Value.slice none 0 0], fl := false }
theorem i_40 : TabE Try.prog (40, t_40, true) := ⟨by kernel_rfl, fun _ => by kernel_rfl⟩
def t_41 : TyD := { und := TypeDesc.struct #[{ name := "Scale", type := 37, offset := 0, embedded := false, tag := "", pkgPath := "", byteOffset := 0 }, { name := "Vernier", type := 38, offset := 3, embedded := false, tag := "", pkgPath := "", byteOffset := 40 }, { name := "Grows", type := 34, offset := 5, embedded := false, tag := "", pkgPath := "", byteOffset := 56 }, { name := "Things", type := 39, offset := 7, embedded := false, tag := "", pkgPath := "", byteOffset := 72 }], size := 8, bytes := 96, zero := [Value.int IntKind.i64 0, Value.int IntKind.i64 0, Value.slice none 0 0, Value.int IntKind.i64 0, Value.bool false, Value.int IntKind.i64 0, Value.int IntKind.i64 0, Value.slice none 0 0], fl := false }
theorem i_41 : TabE Try.prog (41, t_41, true) := ⟨by kernel_rfl, fun _ => by kernel_rfl⟩
def t_43 : TyD := { und := TypeDesc.func #[41, 35] #[41, 2] false, size := 1, bytes := 8, zero := [Value.nilFunc], fl := false }
theorem i_43 : TabE Try.prog (43, t_43, false) := ⟨by kernel_rfl, fun h => by simp at h⟩
def t_44 : TyD := { und := TypeDesc.func #[31] #[41] false, size := 1, bytes := 8, zero := [Value.nilFunc], fl := false }
theorem i_44 : TabE Try.prog (44, t_44, false) := ⟨by kernel_rfl, fun h => by simp at h⟩
def t_45 : TyD := { und := TypeDesc.func #[24] #[35] false, size := 1, bytes := 8, zero := [Value.nilFunc], fl := false }
theorem i_45 : TabE Try.prog (45, t_45, false) := ⟨by kernel_rfl, fun h => by simp at h⟩
def t_46 : TyD := { und := TypeDesc.func #[41, 41] #[4] false, size := 1, bytes := 8, zero := [Value.nilFunc], fl := false }
theorem i_46 : TabE Try.prog (46, t_46, false) := ⟨by kernel_rfl, fun h => by simp at h⟩
def t_47 : TyD := { und := TypeDesc.func #[35, 35] #[4] false, size := 1, bytes := 8, zero := [Value.nilFunc], fl := false }
theorem i_47 : TabE Try.prog (47, t_47, false) := ⟨by kernel_rfl, fun h => by simp at h⟩
def t_48 : TyD := { und := TypeDesc.func #[41, 3] #[3] false, size := 1, bytes := 8, zero := [Value.nilFunc], fl := false }
theorem i_48 : TabE Try.prog (48, t_48, false) := ⟨by kernel_rfl, fun h => by simp at h⟩
def t_49 : TyD := { und := TypeDesc.func #[35, 3] #[3] false, size := 1, bytes := 8, zero := [Value.nilFunc], fl := false }
theorem i_49 : TabE Try.prog (49, t_49, false) := ⟨by kernel_rfl, fun h => by simp at h⟩
def t_50 : TyD := { und := TypeDesc.func #[31, 24] #[4] false, size := 1, bytes := 8, zero := [Value.nilFunc], fl := false }
theorem i_50 : TabE Try.prog (50, t_50, false) := ⟨by kernel_rfl, fun h => by simp at h⟩
def t_51 : TyD := { und := TypeDesc.func #[26, 3] #[3] false, size := 1, bytes := 8, zero := [Value.nilFunc], fl := false }
theorem i_51 : TabE Try.prog (51, t_51, false) := ⟨by kernel_rfl, fun h => by simp at h⟩
def t_52 : TyD := { und := TypeDesc.func #[29, 3] #[3] false, size := 1, bytes := 8, zero := [Value.nilFunc], fl := false }
theorem i_52 : TabE Try.prog (52, t_52, false) := ⟨by kernel_rfl, fun h => by simp at h⟩
def t_53 : TyD := { und := TypeDesc.func #[54] #[4] false, size := 1, bytes := 8, zero := [Value.nilFunc], fl := false }
theorem i_53 : TabE Try.prog (53, t_53, false) := ⟨by kernel_rfl, fun h => by simp at h⟩
def t_54 : TyD := { und := TypeDesc.pointer 41, size := 1, bytes := 8, zero := [Value.pointer none], fl := false }
theorem i_54 : TabE Try.prog (54, t_54, false) := ⟨by kernel_rfl, fun h => by simp at h⟩
def t_56 : TyD := { und := TypeDesc.func #[37, 35] #[37, 2] false, size := 1, bytes := 8, zero := [Value.nilFunc], fl := false }
theorem i_56 : TabE Try.prog (56, t_56, false) := ⟨by kernel_rfl, fun h => by simp at h⟩
def t_57 : TyD := { und := TypeDesc.func #[26] #[37] false, size := 1, bytes := 8, zero := [Value.nilFunc], fl := false }
theorem i_57 : TabE Try.prog (57, t_57, false) := ⟨by kernel_rfl, fun h => by simp at h⟩
def t_58 : TyD := { und := TypeDesc.func #[28] #[38] false, size := 1, bytes := 8, zero := [Value.nilFunc], fl := false }
theorem i_58 : TabE Try.prog (58, t_58, false) := ⟨by kernel_rfl, fun h => by simp at h⟩
def t_59 : TyD := { und := TypeDesc.func #[23] #[34] false, size := 1, bytes := 8, zero := [Value.nilFunc], fl := false }
theorem i_59 : TabE Try.prog (59, t_59, false) := ⟨by kernel_rfl, fun h => by simp at h⟩
def t_60 : TyD := { und := TypeDesc.func #[29] #[39] false, size := 1, bytes := 8, zero := [Value.nilFunc], fl := false }
theorem i_60 : TabE Try.prog (60, t_60, false) := ⟨by kernel_rfl, fun h => by simp at h⟩
def t_61 : TyD := { und := TypeDesc.func #[41] #[4] false, size := 1, bytes := 8, zero := [Value.nilFunc], fl := false }
theorem i_61 : TabE Try.prog (61, t_61, false) := ⟨by kernel_rfl, fun h => by simp at h⟩
def t_62 : TyD := { und := TypeDesc.func #[35] #[4] true, size := 1, bytes := 8, zero := [Value.nilFunc], fl := false }
theorem i_62 : TabE Try.prog (62, t_62, false) := ⟨by kernel_rfl, fun h => by simp at h⟩
def t_63 : TyD := { und := TypeDesc.func #[39] #[39] false, size := 1, bytes := 8, zero := [Value.nilFunc], fl := false }
theorem i_63 : TabE Try.prog (63, t_63, false) := ⟨by kernel_rfl, fun h => by simp at h⟩
def t_64 : TyD := { und := TypeDesc.struct #[{ name := "Name", type := 9, offset := 0, embedded := false, tag := "", pkgPath := "", byteOffset := 0 }, { name := "Length", type := 34, offset := 1, embedded := false, tag := "", pkgPath := "", byteOffset := 16 }, { name := "Grows", type := 34, offset := 3, embedded := false, tag := "", pkgPath := "", byteOffset := 32 }], size := 5, bytes := 48, zero := [Value.string ⟨#[]⟩, Value.int IntKind.i64 0, Value.int IntKind.i64 0, Value.int IntKind.i64 0, Value.int IntKind.i64 0], fl := true }
theorem i_64 : TabE Try.prog (64, t_64, true) := ⟨by kernel_rfl, fun _ => by kernel_rfl⟩
def t_65 : TyD := { und := TypeDesc.struct #[{ name := "Name", type := 9, offset := 0, embedded := false, tag := "", pkgPath := "", byteOffset := 0 }, { name := "Length", type := 34, offset := 1, embedded := false, tag := "", pkgPath := "", byteOffset := 16 }, { name := "Grows", type := 34, offset := 3, embedded := false, tag := "", pkgPath := "", byteOffset := 32 }], size := 5, bytes := 48, zero := [Value.string ⟨#[]⟩, Value.int IntKind.i64 0, Value.int IntKind.i64 0, Value.int IntKind.i64 0, Value.int IntKind.i64 0], fl := true }
theorem i_65 : TabE Try.prog (65, t_65, true) := ⟨by kernel_rfl, fun _ => by kernel_rfl⟩
def t_66 : TyD := { und := TypeDesc.func #[37, 37] #[4] false, size := 1, bytes := 8, zero := [Value.nilFunc], fl := false }
theorem i_66 : TabE Try.prog (66, t_66, false) := ⟨by kernel_rfl, fun h => by simp at h⟩
def t_67 : TyD := { und := TypeDesc.func #[38, 38] #[4] false, size := 1, bytes := 8, zero := [Value.nilFunc], fl := false }
theorem i_67 : TabE Try.prog (67, t_67, false) := ⟨by kernel_rfl, fun h => by simp at h⟩
def t_68 : TyD := { und := TypeDesc.func #[34, 34] #[4] false, size := 1, bytes := 8, zero := [Value.nilFunc], fl := false }
theorem i_68 : TabE Try.prog (68, t_68, false) := ⟨by kernel_rfl, fun h => by simp at h⟩
def t_69 : TyD := { und := TypeDesc.func #[39, 39] #[4] false, size := 1, bytes := 8, zero := [Value.nilFunc], fl := false }
theorem i_69 : TabE Try.prog (69, t_69, false) := ⟨by kernel_rfl, fun h => by simp at h⟩
def t_70 : TyD := { und := TypeDesc.func #[37, 3] #[3] false, size := 1, bytes := 8, zero := [Value.nilFunc], fl := false }
theorem i_70 : TabE Try.prog (70, t_70, false) := ⟨by kernel_rfl, fun h => by simp at h⟩
def t_71 : TyD := { und := TypeDesc.func #[39, 3] #[3] false, size := 1, bytes := 8, zero := [Value.nilFunc], fl := false }
theorem i_71 : TabE Try.prog (71, t_71, false) := ⟨by kernel_rfl, fun h => by simp at h⟩
def t_72 : TyD := { und := TypeDesc.func #[74, 3] #[3] false, size := 1, bytes := 8, zero := [Value.nilFunc], fl := false }
theorem i_72 : TabE Try.prog (72, t_72, false) := ⟨by kernel_rfl, fun h => by simp at h⟩
def t_73 : TyD := { und := TypeDesc.struct #[{ name := "Name", type := 9, offset := 0, embedded := false, tag := "", pkgPath := "", byteOffset := 0 }, { name := "Length", type := 23, offset := 1, embedded := false, tag := "", pkgPath := "", byteOffset := 16 }, { name := "Grows", type := 23, offset := 3, embedded := false, tag := "", pkgPath := "", byteOffset := 32 }], size := 5, bytes := 48, zero := [Value.string ⟨#[]⟩, Value.int IntKind.i64 0, Value.int IntKind.i64 0, Value.int IntKind.i64 0, Value.int IntKind.i64 0], fl := true }
theorem i_73 : TabE Try.prog (73, t_73, true) := ⟨by kernel_rfl, fun _ => by kernel_rfl⟩
def t_74 : TyD := { und := TypeDesc.struct #[{ name := "Name", type := 9, offset := 0, embedded := false, tag := "", pkgPath := "", byteOffset := 0 }, { name := "Length", type := 23, offset := 1, embedded := false, tag := "", pkgPath := "", byteOffset := 16 }, { name := "Grows", type := 23, offset := 3, embedded := false, tag := "", pkgPath := "", byteOffset := 32 }], size := 5, bytes := 48, zero := [Value.string ⟨#[]⟩, Value.int IntKind.i64 0, Value.int IntKind.i64 0, Value.int IntKind.i64 0, Value.int IntKind.i64 0], fl := true }
theorem i_74 : TabE Try.prog (74, t_74, true) := ⟨by kernel_rfl, fun _ => by kernel_rfl⟩
def t_75 : TyD := { und := TypeDesc.func #[76] #[4] false, size := 1, bytes := 8, zero := [Value.nilFunc], fl := false }
theorem i_75 : TabE Try.prog (75, t_75, false) := ⟨by kernel_rfl, fun h => by simp at h⟩
def t_76 : TyD := { und := TypeDesc.pointer 37, size := 1, bytes := 8, zero := [Value.pointer none], fl := false }
theorem i_76 : TabE Try.prog (76, t_76, false) := ⟨by kernel_rfl, fun h => by simp at h⟩
def t_77 : TyD := { und := TypeDesc.func #[78] #[4] false, size := 1, bytes := 8, zero := [Value.nilFunc], fl := false }
theorem i_77 : TabE Try.prog (77, t_77, false) := ⟨by kernel_rfl, fun h => by simp at h⟩
def t_78 : TyD := { und := TypeDesc.pointer 38, size := 1, bytes := 8, zero := [Value.pointer none], fl := false }
theorem i_78 : TabE Try.prog (78, t_78, false) := ⟨by kernel_rfl, fun h => by simp at h⟩
def t_79 : TyD := { und := TypeDesc.func #[34] #[4] false, size := 1, bytes := 8, zero := [Value.nilFunc], fl := false }
theorem i_79 : TabE Try.prog (79, t_79, false) := ⟨by kernel_rfl, fun h => by simp at h⟩
def t_80 : TyD := { und := TypeDesc.pointer 65, size := 1, bytes := 8, zero := [Value.pointer none], fl := false }
theorem i_80 : TabE Try.prog (80, t_80, false) := ⟨by kernel_rfl, fun h => by simp at h⟩
def t_81 : TyD := { und := TypeDesc.func #[9] #[4] false, size := 1, bytes := 8, zero := [Value.nilFunc], fl := false }
theorem i_81 : TabE Try.prog (81, t_81, false) := ⟨by kernel_rfl, fun h => by simp at h⟩
def t_82 : TyD := { und := TypeDesc.func #[34, 2] #[4] false, size := 1, bytes := 8, zero := [Value.nilFunc], fl := false }
theorem i_82 : TabE Try.prog (82, t_82, false) := ⟨by kernel_rfl, fun h => by simp at h⟩
def t_84 : TyD := { und := TypeDesc.func #[34, 34] #[34, 2] false, size := 1, bytes := 8, zero := [Value.nilFunc], fl := false }
theorem i_84 : TabE Try.prog (84, t_84, false) := ⟨by kernel_rfl, fun h => by simp at h⟩
def t_85 : TyD := { und := TypeDesc.func #[74] #[65] false, size := 1, bytes := 8, zero := [Value.nilFunc], fl := false }
theorem i_85 : TabE Try.prog (85, t_85, false) := ⟨by kernel_rfl, fun h => by simp at h⟩
def t_86 : TyD := { und := TypeDesc.func #[39, 87] #[4] false, size := 1, bytes := 8, zero := [Value.nilFunc], fl := false }
theorem i_86 : TabE Try.prog (86, t_86, false) := ⟨by kernel_rfl, fun h => by simp at h⟩
def t_87 : TyD := { und := TypeDesc.func #[65] #[4] false, size := 1, bytes := 8, zero := [Value.nilFunc], fl := false }
theorem i_87 : TabE Try.prog (87, t_87, false) := ⟨by kernel_rfl, fun h => by simp at h⟩
def t_88 : TyD := { und := TypeDesc.func #[34, 34] #[2] false, size := 1, bytes := 8, zero := [Value.nilFunc], fl := false }
theorem i_88 : TabE Try.prog (88, t_88, false) := ⟨by kernel_rfl, fun h => by simp at h⟩
def t_89 : TyD := { und := TypeDesc.func #[2] #[34] false, size := 1, bytes := 8, zero := [Value.nilFunc], fl := false }
theorem i_89 : TabE Try.prog (89, t_89, false) := ⟨by kernel_rfl, fun h => by simp at h⟩
def t_90 : TyD := { und := TypeDesc.func #[37] #[4] false, size := 1, bytes := 8, zero := [Value.nilFunc], fl := false }
theorem i_90 : TabE Try.prog (90, t_90, false) := ⟨by kernel_rfl, fun h => by simp at h⟩
def t_91 : TyD := { und := TypeDesc.func #[38] #[4] false, size := 1, bytes := 8, zero := [Value.nilFunc], fl := false }
theorem i_91 : TabE Try.prog (91, t_91, false) := ⟨by kernel_rfl, fun h => by simp at h⟩
def t_92 : TyD := { und := TypeDesc.func #[35, 79] #[4] false, size := 1, bytes := 8, zero := [Value.nilFunc], fl := false }
theorem i_92 : TabE Try.prog (92, t_92, false) := ⟨by kernel_rfl, fun h => by simp at h⟩
def t_93 : TyD := { und := TypeDesc.pointer 95, size := 1, bytes := 8, zero := [Value.pointer none], fl := false }
theorem i_93 : TabE Try.prog (93, t_93, false) := ⟨by kernel_rfl, fun h => by simp at h⟩
def t_94 : TyD := { und := TypeDesc.struct #[{ name := "bad", type := 4, offset := 0, embedded := false, tag := "", pkgPath := "loop.example/g01254/impl", byteOffset := 0 }], size := 1, bytes := 1, zero := [Value.bool false], fl := true }
theorem i_94 : TabE Try.prog (94, t_94, true) := ⟨by kernel_rfl, fun _ => by kernel_rfl⟩
def t_95 : TyD := { und := TypeDesc.struct #[{ name := "bad", type := 4, offset := 0, embedded := false, tag := "", pkgPath := "loop.example/g01254/impl", byteOffset := 0 }], size := 1, bytes := 1, zero := [Value.bool false], fl := true }
theorem i_95 : TabE Try.prog (95, t_95, true) := ⟨by kernel_rfl, fun _ => by kernel_rfl⟩
def t_96 : TyD := { und := TypeDesc.func #[34, 34] #[34] false, size := 1, bytes := 8, zero := [Value.nilFunc], fl := false }
theorem i_96 : TabE Try.prog (96, t_96, false) := ⟨by kernel_rfl, fun h => by simp at h⟩
def t_97 : TyD := { und := TypeDesc.func #[65, 65] #[4] false, size := 1, bytes := 8, zero := [Value.nilFunc], fl := false }
theorem i_97 : TabE Try.prog (97, t_97, false) := ⟨by kernel_rfl, fun h => by simp at h⟩
def t_98 : TyD := { und := TypeDesc.func #[3] #[9] false, size := 1, bytes := 8, zero := [Value.nilFunc], fl := false }
theorem i_98 : TabE Try.prog (98, t_98, false) := ⟨by kernel_rfl, fun h => by simp at h⟩
def t_99 : TyD := { und := TypeDesc.func #[2, 2, 2] #[4] false, size := 1, bytes := 8, zero := [Value.nilFunc], fl := false }
theorem i_99 : TabE Try.prog (99, t_99, false) := ⟨by kernel_rfl, fun h => by simp at h⟩
def t_100 : TyD := { und := TypeDesc.func #[2] #[2] false, size := 1, bytes := 8, zero := [Value.nilFunc], fl := false }
theorem i_100 : TabE Try.prog (100, t_100, false) := ⟨by kernel_rfl, fun h => by simp at h⟩
def t_101 : TyD := { und := TypeDesc.func #[76, 2] #[34, 2] false, size := 1, bytes := 8, zero := [Value.nilFunc], fl := false }
theorem i_101 : TabE Try.prog (101, t_101, false) := ⟨by kernel_rfl, fun h => by simp at h⟩
def t_102 : TyD := { und := TypeDesc.func #[2, 2] #[2] false, size := 1, bytes := 8, zero := [Value.nilFunc], fl := false }
theorem i_102 : TabE Try.prog (102, t_102, false) := ⟨by kernel_rfl, fun h => by simp at h⟩
def t_103 : TyD := { und := TypeDesc.func #[34] #[34] false, size := 1, bytes := 8, zero := [Value.nilFunc], fl := false }
theorem i_103 : TabE Try.prog (103, t_103, false) := ⟨by kernel_rfl, fun h => by simp at h⟩
def t_104 : TyD := { und := TypeDesc.func #[39, 87] #[3] false, size := 1, bytes := 8, zero := [Value.nilFunc], fl := false }
theorem i_104 : TabE Try.prog (104, t_104, false) := ⟨by kernel_rfl, fun h => by simp at h⟩
def t_105 : TyD := { und := TypeDesc.func #[35, 79] #[3] false, size := 1, bytes := 8, zero := [Value.nilFunc], fl := false }
theorem i_105 : TabE Try.prog (105, t_105, false) := ⟨by kernel_rfl, fun h => by simp at h⟩
def t_106 : TyD := { und := TypeDesc.func #[2, 2] #[34] false, size := 1, bytes := 8, zero := [Value.nilFunc], fl := false }
theorem i_106 : TabE Try.prog (106, t_106, false) := ⟨by kernel_rfl, fun h => by simp at h⟩
def t_107 : TyD := { und := TypeDesc.slice 5, size := 1, bytes := 24, zero := [Value.slice none 0 0], fl := false }
theorem i_107 : TabE Try.prog (107, t_107, false) := ⟨by kernel_rfl, fun h => by simp at h⟩
def t_108 : TyD := { und := TypeDesc.func #[2, 2] #[34, 2] false, size := 1, bytes := 8, zero := [Value.nilFunc], fl := false }
theorem i_108 : TabE Try.prog (108, t_108, false) := ⟨by kernel_rfl, fun h => by simp at h⟩
def t_110 : TyD := { und := TypeDesc.func #[2, 2] #[34, 4] false, size := 1, bytes := 8, zero := [Value.nilFunc], fl := false }
theorem i_110 : TabE Try.prog (110, t_110, false) := ⟨by kernel_rfl, fun h => by simp at h⟩
def t_111 : TyD := { und := TypeDesc.func #[] #[34] false, size := 1, bytes := 8, zero := [Value.nilFunc], fl := false }
theorem i_111 : TabE Try.prog (111, t_111, false) := ⟨by kernel_rfl, fun h => by simp at h⟩
def t_112 : TyD := { und := TypeDesc.func #[] #[9] false, size := 1, bytes := 8, zero := [Value.nilFunc], fl := false }
theorem i_112 : TabE Try.prog (112, t_112, false) := ⟨by kernel_rfl, fun h => by simp at h⟩
def t_113 : TyD := { und := TypeDesc.struct #[{ name := "_interface", type := 17, offset := 0, embedded := false, tag := "", pkgPath := "runtime", byteOffset := 0 }, { name := "concrete", type := 17, offset := 1, embedded := false, tag := "", pkgPath := "runtime", byteOffset := 8 }, { name := "asserted", type := 17, offset := 2, embedded := false, tag := "", pkgPath := "runtime", byteOffset := 16 }, { name := "missingMethod", type := 9, offset := 3, embedded := false, tag := "", pkgPath := "runtime", byteOffset := 24 }], size := 4, bytes := 40, zero := [Value.pointer none, Value.pointer none, Value.pointer none, Value.string ⟨#[]⟩], fl := false }
theorem i_113 : TabE Try.prog (113, t_113, false) := ⟨by kernel_rfl, fun h => by simp at h⟩
def t_114 : TyD := { und := TypeDesc.struct #[{ name := "_interface", type := 17, offset := 0, embedded := false, tag := "", pkgPath := "runtime", byteOffset := 0 }, { name := "concrete", type := 17, offset := 1, embedded := false, tag := "", pkgPath := "runtime", byteOffset := 8 }, { name := "asserted", type := 17, offset := 2, embedded := false, tag := "", pkgPath := "runtime", byteOffset := 16 }, { name := "missingMethod", type := 9, offset := 3, embedded := false, tag := "", pkgPath := "runtime", byteOffset := 24 }], size := 4, bytes := 40, zero := [Value.pointer none, Value.pointer none, Value.pointer none, Value.string ⟨#[]⟩], fl := false }
theorem i_114 : TabE Try.prog (114, t_114, false) := ⟨by kernel_rfl, fun h => by simp at h⟩
def t_115 : TyD := { und := TypeDesc.array 0 16, size := 0, bytes := 0, zero := [], fl := false }
theorem i_115 : TabE Try.prog (115, t_115, false) := ⟨by kernel_rfl, fun h => by simp at h⟩
def t_116 : TyD := { und := TypeDesc.struct #[{ name := "_", type := 115, offset := 0, embedded := false, tag := "", pkgPath := "runtime", byteOffset := 0 }], size := 0, bytes := 0, zero := [], fl := false }
theorem i_116 : TabE Try.prog (116, t_116, false) := ⟨by kernel_rfl, fun h => by simp at h⟩
def t_117 : TyD := { und := TypeDesc.struct #[{ name := "_", type := 115, offset := 0, embedded := false, tag := "", pkgPath := "runtime", byteOffset := 0 }], size := 0, bytes := 0, zero := [], fl := false }
theorem i_117 : TabE Try.prog (117, t_117, false) := ⟨by kernel_rfl, fun h => by simp at h⟩
def t_118 : TyD := { und := TypeDesc.func #[] #[3] false, size := 1, bytes := 8, zero := [Value.nilFunc], fl := false }
theorem i_118 : TabE Try.prog (118, t_118, false) := ⟨by kernel_rfl, fun h => by simp at h⟩
def t_119 : TyD := { und := TypeDesc.int IntKind.u32, size := 1, bytes := 4, zero := [Value.int IntKind.u32 0], fl := true }
theorem i_119 : TabE Try.prog (119, t_119, false) := ⟨by kernel_rfl, fun h => by simp at h⟩
def t_120 : TyD := { und := TypeDesc.int IntKind.u8, size := 1, bytes := 1, zero := [Value.int IntKind.u8 0], fl := true }
theorem i_120 : TabE Try.prog (120, t_120, false) := ⟨by kernel_rfl, fun h => by simp at h⟩
def t_121 : TyD := { und := TypeDesc.int IntKind.u8, size := 1, bytes := 1, zero := [Value.int IntKind.u8 0], fl := true }
theorem i_121 : TabE Try.prog (121, t_121, false) := ⟨by kernel_rfl, fun h => by simp at h⟩
def t_122 : TyD := { und := TypeDesc.func #[129, 129] #[4] false, size := 1, bytes := 8, zero := [Value.nilFunc], fl := false }
theorem i_122 : TabE Try.prog (122, t_122, false) := ⟨by kernel_rfl, fun h => by simp at h⟩
def t_123 : TyD := { und := TypeDesc.pointer 5, size := 1, bytes := 8, zero := [Value.pointer none], fl := false }
theorem i_123 : TabE Try.prog (123, t_123, false) := ⟨by kernel_rfl, fun h => by simp at h⟩
def t_124 : TyD := { und := TypeDesc.int IntKind.i32, size := 1, bytes := 4, zero := [Value.int IntKind.i32 0], fl := true }
theorem i_124 : TabE Try.prog (124, t_124, false) := ⟨by kernel_rfl, fun h => by simp at h⟩
def t_125 : TyD := { und := TypeDesc.int IntKind.i32, size := 1, bytes := 4, zero := [Value.int IntKind.i32 0], fl := true }
theorem i_125 : TabE Try.prog (125, t_125, false) := ⟨by kernel_rfl, fun h => by simp at h⟩
def t_126 : TyD := { und := TypeDesc.struct #[{ name := "Size_", type := 12, offset := 0, embedded := false, tag := "", pkgPath := "", byteOffset := 0 }, { name := "PtrBytes", type := 12, offset := 1, embedded := false, tag := "", pkgPath := "", byteOffset := 8 }, { name := "Hash", type := 119, offset := 2, embedded := false, tag := "", pkgPath := "", byteOffset := 16 }, { name := "TFlag", type := 120, offset := 3, embedded := false, tag := "", pkgPath := "", byteOffset := 20 }, { name := "Align_", type := 5, offset := 4, embedded := false, tag := "", pkgPath := "", byteOffset := 21 }, { name := "FieldAlign_", type := 5, offset := 5, embedded := false, tag := "", pkgPath := "", byteOffset := 22 }, { name := "Kind_", type := 121, offset := 6, embedded := false, tag := "", pkgPath := "", byteOffset := 23 }, { name := "Equal", type := 122, offset := 7, embedded := false, tag := "", pkgPath := "", byteOffset := 24 }, { name := "GCData", type := 123, offset := 8, embedded := false, tag := "", pkgPath := "", byteOffset := 32 }, { name := "Str", type := 124, offset := 9, embedded := false, tag := "", pkgPath := "", byteOffset := 40 }, { name := "PtrToThis", type := 125, offset := 10, embedded := false, tag := "", pkgPath := "", byteOffset := 44 }], size := 11, bytes := 48, zero := [Value.int IntKind.u64 0, Value.int IntKind.u64 0, Value.int IntKind.u32 0, Value.int IntKind.u8 0, Value.int IntKind.u8 0, Value.int IntKind.u8 0, Value.int IntKind.u8 0, Value.nilFunc, Value.pointer none, Value.int IntKind.i32 0, Value.int IntKind.i32 0], fl := false }
theorem i_126 : TabE Try.prog (126, t_126, false) := ⟨by kernel_rfl, fun h => by simp at h⟩
def t_127 : TyD := { und := TypeDesc.struct #[{ name := "Size_", type := 12, offset := 0, embedded := false, tag := "", pkgPath := "", byteOffset := 0 }, { name := "PtrBytes", type := 12, offset := 1, embedded := false, tag := "", pkgPath := "", byteOffset := 8 }, { name := "Hash", type := 119, offset := 2, embedded := false, tag := "", pkgPath := "", byteOffset := 16 }, { name := "TFlag", type := 120, offset := 3, embedded := false, tag := "", pkgPath := "", byteOffset := 20 }, { name := "Align_", type := 5, offset := 4, embedded := false, tag := "", pkgPath := "", byteOffset := 21 }, { name := "FieldAlign_", type := 5, offset := 5, embedded := false, tag := "", pkgPath := "", byteOffset := 22 }, { name := "Kind_", type := 121, offset := 6, embedded := false, tag := "", pkgPath := "", byteOffset := 23 }, { name := "Equal", type := 122, offset := 7, embedded := false, tag := "", pkgPath := "", byteOffset := 24 }, { name := "GCData", type := 123, offset := 8, embedded := false, tag := "", pkgPath := "", byteOffset := 32 }, { name := "Str", type := 124, offset := 9, embedded := false, tag := "", pkgPath := "", byteOffset := 40 }, { name := "PtrToThis", type := 125, offset := 10, embedded := false, tag := "", pkgPath := "", byteOffset := 44 }], size := 11, bytes := 48, zero := [Value.int IntKind.u64 0, Value.int IntKind.u64 0, Value.int IntKind.u32 0, Value.int IntKind.u8 0, Value.int IntKind.u8 0, Value.int IntKind.u8 0, Value.int IntKind.u8 0, Value.nilFunc, Value.pointer none, Value.int IntKind.i32 0, Value.int IntKind.i32 0], fl := false }
theorem i_127 : TabE Try.prog (127, t_127, false) := ⟨by kernel_rfl, fun h => by simp at h⟩
def t_128 : TyD := { und := TypeDesc.func #[] #[2] false, size := 1, bytes := 8, zero := [Value.nilFunc], fl := false }
theorem i_128 : TabE Try.prog (128, t_128, false) := ⟨by kernel_rfl, fun h => by simp at h⟩
def t_129 : TyD := { und := TypeDesc.unsafePointer, size := 1, bytes := 8, zero := [Value.pointer none], fl := false }
theorem i_129 : TabE Try.prog (129, t_129, false) := ⟨by kernel_rfl, fun h => by simp at h⟩
def tyTab : List (Nat × TyD × Bool) := [(1, t_1, false), (2, t_2, false), (3, t_3, false), (4, t_4, false), (5, t_5, false), (6, t_6, false), (7, t_7, true), (8, t_8, true), (9, t_9, false), (10, t_10, false), (11, t_11, false), (12, t_12, false), (13, t_13, false), (14, t_14, false), (15, t_15, false), (16, t_16, false), (17, t_17, false), (18, t_18, false), (19, t_19, false), (21, t_21, false), (22, t_22, true), (23, t_23, true), (24, t_24, false), (25, t_25, true), (26, t_26, true), (27, t_27, true), (28, t_28, true), (29, t_29, false), (30, t_30, true), (31, t_31, true), (32, t_32, false), (33, t_33, false), (34, t_34, true), (35, t_35, false), (36, t_36, true), (37, t_37, true), (38, t_38, true), (39, t_39, false), (40, t_40, true), (41, t_41, true), (43, t_43, false), (44, t_44, false), (45, t_45, false), (46, t_46, false), (47, t_47, false), (48, t_48, false), (49, t_49, false), (50, t_50, false), (51, t_51, false), (52, t_52, false), (53, t_53, false), (54, t_54, false), (56, t_56, false), (57, t_57, false), (58, t_58, false), (59, t_59, false), (60, t_60, false), (61, t_61, false), (62, t_62, false), (63, t_63, false), (64, t_64, true), (65, t_65, true), (66, t_66, false), (67, t_67, false), (68, t_68, false), (69, t_69, false), (70, t_70, false), (71, t_71, false), (72, t_72, false), (73, t_73, true), (74, t_74, true), (75, t_75, false), (76, t_76, false), (77, t_77, false), (78, t_78, false), (79, t_79, false), (80, t_80, false), (81, t_81, false), (82, t_82, false), (84, t_84, false), (85, t_85, false), (86, t_86, false), (87, t_87, false), (88, t_88, false), (89, t_89, false), (90, t_90, false), (91, t_91, false), (92, t_92, false), (93, t_93, false), (94, t_94, true), (95, t_95, true), (96, t_96, false), (97, t_97, false), (98, t_98, false), (99, t_99, false), (100, t_100, false), (101, t_101, false), (102, t_102, false), (103, t_103, false), (104, t_104, false), (105, t_105, false), (106, t_106, false), (107, t_107, false), (108, t_108, false), (110, t_110, false), (111, t_111, false), (112, t_112, false), (113, t_113, false), (114, t_114, false), (115, t_115, false), (116, t_116, false), (117, t_117, false), (118, t_118, false), (119, t_119, false), (120, t_120, false), (121, t_121, false), (122, t_122, false), (123, t_123, false), (124, t_124, false), (125, t_125, false), (126, t_126, false), (127, t_127, false), (128, t_128, false), (129, t_129, false)]
@[reducible] def T0 : Ty := lookT tyTab
@[reducible] def Q0 : Nat → Bool := lookQ tyTab
theorem tabOk : TabOk Try.prog T0 Q0 := tab_ok (l := tyTab) (⟨i_1, i_2, i_3, i_4, i_5, i_6, i_7, i_8, i_9, i_10, i_11, i_12, i_13, i_14, i_15, i_16, i_17, i_18, i_19, i_21, i_22, i_23, i_24, i_25, i_26, i_27, i_28, i_29, i_30, i_31, i_32, i_33, i_34, i_35, i_36, i_37, i_38, i_39, i_40, i_41, i_43, i_44, i_45, i_46, i_47, i_48, i_49, i_50, i_51, i_52, i_53, i_54, i_56, i_57, i_58, i_59, i_60, i_61, i_62, i_63, i_64, i_65, i_66, i_67, i_68, i_69, i_70, i_71, i_72, i_73, i_74, i_75, i_76, i_77, i_78, i_79, i_80, i_81, i_82, i_84, i_85, i_86, i_87, i_88, i_89, i_90, i_91, i_92, i_93, i_94, i_95, i_96, i_97, i_98, i_99, i_100, i_101, i_102, i_103, i_104, i_105, i_106, i_107, i_108, i_110, i_111, i_112, i_113, i_114, i_115, i_116, i_117, i_118, i_119, i_120, i_121, i_122, i_123, i_124, i_125, i_126, i_127, i_128, i_129, trivial⟩)
end Go.Proofs.Yteniodjodngkbaa.Eng
set_option linter.unusedVariables false
set_option linter.unusedSimpArgs false
namespace Go.Proofs.Yteniodjodngkbaa.Eng
open Go Go.RowKit
set_option maxRecDepth 100000
theorem tmod_lt {a b : Int} (h : b ≠ 0) : (a.tmod b).natAbs < b.natAbs := by
  rw [Int.natAbs_tmod]; exact Nat.mod_lt _ (by omega)
theorem gcd_tmod {a b : Int} : Int.gcd b (a.tmod b) = Int.gcd a b := by
  simp only [Int.gcd, Int.natAbs_tmod]
  rw [Nat.gcd_comm, ← Nat.gcd_rec, Nat.gcd_comm]
theorem seg_get {α : Type} {l : List α} {s n i : Nat} {a : α} (h : (seg l s n)[i]? = some a) : l[s + i]? = some a ∧ i < n := by
  unfold seg at h
  rw [List.getElem?_take] at h
  split at h
  · rw [List.getElem?_drop] at h; exact ⟨h, by assumption⟩
  · simp at h
theorem seg_len {α : Type} {l : List α} {s n : Nat} (h : s + n ≤ l.length) : (seg l s n).length = n := by
  simp [seg]; omega
theorem atL_i {α : Type} {l : List α} {s n i : Nat} {a : α} {K : α → Prop} (ha : (seg l s n)[i]? = some a) (h : K a) : atL l (s + ((i : Nat) : Int).toNat) K :=
  atL_iff.2 ⟨a, by simpa using (seg_get ha).1, h⟩
theorem atL_0 {α : Type} {l : List α} {i : Nat} {a : α} {K : α → Prop} (ha : l[i]? = some a) (h : K a) : atL l (0 + ((i : Nat) : Int).toNat) K :=
  atL_iff.2 ⟨a, by simpa using ha, h⟩
theorem atL_n {α : Type} {l : List α} {i : Nat} {a : α} {K : α → Prop} (ha : l[i]? = some a) (h : K a) : atL l ((i : Nat) : Int).toNat K :=
  atL_iff.2 ⟨a, by simpa using ha, h⟩
theorem atL_p {α : Type} {l : List α} {i : Nat} {a : α} {K : α → Prop} (ha : l[i]? = some a) (h : K a) : atL l i K := atL_iff.2 ⟨a, ha, h⟩
theorem seg_full {α : Type} {l : List α} {n : Nat} (h : l.length = n) : seg l 0 n = l := by simp [seg, ← h]
theorem get_some {α : Type} {l : List α} {i : Nat} (h : i < l.length) : ∃ a, l[i]? = some a := ⟨l[i], by simp [h]⟩
/-- The first place where p holds, or -1. -/
def findI {α : Type} (p : α → Bool) (l : List α) : Int := if l.any p = true then (l.findIdx p : Int) else -1
theorem findI_none {α : Type} {p : α → Bool} {l : List α} (h : ∀ (j : Nat) a, l[j]? = some a → p a = false) : findI p l = -1 := by
  unfold findI
  rw [if_neg]
  rw [List.any_eq_true]
  rintro ⟨a, ha, hp⟩
  obtain ⟨j, hj⟩ := List.getElem?_of_mem ha
  rw [h j a hj] at hp; simp at hp
theorem findI_some {α : Type} {p : α → Bool} {l : List α} {i : Nat} {a : α} (ha : l[i]? = some a) (hp : p a = true) (h : ∀ (j : Nat) a, j < i → l[j]? = some a → p a = false) : findI p l = i := by
  unfold findI
  rw [if_pos (List.any_eq_true.2 ⟨a, List.mem_of_getElem? ha, hp⟩)]
  obtain ⟨hi, e⟩ := List.getElem?_eq_some_iff.1 ha
  have : l.findIdx p = i := by
    rw [List.findIdx_eq hi]
    exact ⟨by rw [e]; exact hp, fun j hj => h j _ hj (by simp)⟩
  rw [this]
theorem findI_any {α : Type} (p : α → Bool) (l : List α) : decide (0 ≤ findI p l) = l.any p := by
  unfold findI
  split
  · rename_i h; rw [h]; simp
  · rename_i h
    have : l.any p = false := by simpa using h
    rw [this]; rfl
theorem app_take {α : Type} {D : List α} {i : Nat} {w : α} (h : D[i]? = some w) : seg (D.take i) 0 i ++ seg [w] 0 1 = D.take (i + 1) := by
  have hl := (List.getElem?_eq_some_iff.1 h).1
  rw [seg_full (by rw [List.length_take]; omega), List.take_add_one, h]; rfl
/-- Filling a row from the left. -/
theorem fill_step {α : Type} {L : List α} {z a : α} {i n : Nat} (hn : L.length = n) (ha : L[i]? = some a) : (L.take i ++ List.replicate (n - i) z).set i a = L.take (i + 1) ++ List.replicate (n - (i + 1)) z := by
  obtain ⟨hi, e⟩ := List.getElem?_eq_some_iff.1 ha
  have h1 : (L.take i).length = i := by simp; omega
  rw [List.set_append_right _ _ (by omega), h1, Nat.sub_self, show n - i = (n - (i + 1)) + 1 by omega, List.replicate_succ, List.set_cons_zero]
  rw [List.take_add_one, ha]; simp
theorem fill_at {α : Type} {L : List α} {z : α} {i n : Nat} (hn : L.length = n) (hi : i < n) : (L.take i ++ List.replicate (n - i) z)[i]? = some z := by
  have h1 : (L.take i).length = i := by simp; omega
  rw [List.getElem?_append_right (by omega), h1, Nat.sub_self, List.getElem?_replicate, if_pos (by omega)]
theorem fill_end {α : Type} {L : List α} {z : α} {n : Nat} (hn : L.length = n) : L.take n ++ List.replicate (n - n) z = L := by
  simp [← hn]
/-- Two rows alike so far. -/
theorem same_end {α : Type} {L M : List α} {n : Nat} (h1 : L.length = n) (h2 : M.length = n) (h : L.take n = M.take n) : L = M := by
  rwa [List.take_of_length_le (by omega), List.take_of_length_le (by omega)] at h
theorem same_step {α : Type} {L M : List α} {i : Nat} {a b : α} (ha : L[i]? = some a) (hb : M[i]? = some b) (h : L.take i = M.take i) (hab : a = b) : L.take (i + 1) = M.take (i + 1) := by
  rw [List.take_add_one, List.take_add_one, h, ha, hb, hab]
theorem same_not {α : Type} {L M : List α} {i : Nat} {a b : α} (ha : L[i]? = some a) (hb : M[i]? = some b) (hab : a ≠ b) : L ≠ M := by
  rintro rfl
  rw [ha] at hb; exact hab (Option.some.inj hb)
/-- One more place where something holds. -/
theorem upto_step {α : Type} {p : α → Prop} {L : List α} {i : Nat} {a : α} (ha : L[i]? = some a) (hp : p a) (h : ∀ (j : Nat) b, j < i → L[j]? = some b → p b) : ∀ (j : Nat) b, j < i + 1 → L[j]? = some b → p b := fun j b hj hb => by
  by_cases e : j < i
  · exact h j b e hb
  · obtain rfl : j = i := by omega
    rw [ha] at hb; obtain rfl := Option.some.inj hb; exact hp
/-- Tests whose outcome is known. -/
theorem splitT_of {b : Bool} {A B : Prop} (h : b = true) (k : A) : splitB b A B := by subst h; exact splitT k
theorem splitF_of {b : Bool} {A B : Prop} (h : b = false) (k : B) : splitB b A B := by subst h; exact splitF k
theorem seg_take {α : Type} {l : List α} {s m i : Nat} (hi : i ≤ m) : seg l s i = (seg l s m).take i := by
  unfold seg; rw [List.take_take]; congr 1; omega
theorem any_take {α : Type} {p : α → Bool} {L : List α} {i j : Nat} {b : α} (hb : L[j]? = some b) (hj : j < i) (h : p b = true) : (L.take i).any p = true := by
  rw [List.any_eq_true]
  exact ⟨b, List.mem_of_getElem? (i := j) (by rw [List.getElem?_take, if_pos hj]; exact hb), h⟩
theorem any_no {α : Type} {p : α → Bool} {L : List α} (h : ∀ (k : Nat) a, L[k]? = some a → p a = false) : L.any p = false := by
  rw [List.any_eq_false]
  intro a ha
  obtain ⟨j, hj⟩ := List.getElem?_of_mem ha
  rw [h j a hj]; simp
/-- All elements with their places. -/
def allI {α : Type} (d : α) (f : Nat → α → Bool) (E : List α) : Bool := (List.range E.length).all fun k : Nat => f k ((E[k]?).getD d)
theorem allI_yes {α : Type} {d : α} {f : Nat → α → Bool} {E : List α} {n : Nat} (hn : E.length = n) (h : ∀ (k : Nat) a, k < n → E[k]? = some a → f k a = true) : allI d f E = true := by
  unfold allI
  rw [List.all_eq_true]
  intro k hk
  rw [List.mem_range] at hk
  obtain ⟨a, ha⟩ : ∃ a, E[k]? = some a := ⟨E[k], by simp [hk]⟩
  rw [ha]; exact h k a (by omega) ha
theorem allI_no {α : Type} {d : α} {f : Nat → α → Bool} {E : List α} {k : Nat} {a : α} (ha : E[k]? = some a) (h : f k a = false) : allI d f E = false := by
  unfold allI
  rw [List.all_eq_false]
  have := (List.getElem?_eq_some_iff.1 ha).1
  exact ⟨k, List.mem_range.2 this, by rw [ha]; simp [h]⟩
theorem allI_at {α : Type} {d : α} {f : Nat → α → Bool} {E : List α} (h : allI d f E = true) {k : Nat} {a : α} (ha : E[k]? = some a) : f k a = true := by
  unfold allI at h
  rw [List.all_eq_true] at h
  have := h k (List.mem_range.2 (List.getElem?_eq_some_iff.1 ha).1)
  rwa [ha] at this
theorem allI_iff {α : Type} {d : α} {f : Nat → α → Bool} {E : List α} : allI d f E = true ↔ ∀ (k : Nat) a, E[k]? = some a → f k a = true :=
  ⟨fun h k a ha => allI_at h ha, fun h => allI_yes rfl fun k a _ ha => h k a ha⟩
theorem allI_snoc {α : Type} {d : α} {f : Nat → α → Bool} {L : List α} {i : Nat} {a : α} (ha : L[i]? = some a) : allI d f (L.take (i + 1)) = (allI d f (L.take i) && f i a) := by
  rw [Bool.eq_iff_iff, Bool.and_eq_true, allI_iff, allI_iff]
  constructor
  · intro h
    refine ⟨fun k b hb => h k b ?_, h i a (by rw [List.getElem?_take, if_pos (by omega)]; exact ha)⟩
    rw [List.getElem?_take] at hb ⊢
    split at hb
    · rw [if_pos (by omega)]; exact hb
    · simp at hb
  · rintro ⟨h1, h2⟩ k b hb
    rw [List.getElem?_take] at hb
    split at hb
    · by_cases e : k = i
      · subst e; rw [ha] at hb; obtain rfl := Option.some.inj hb; exact h2
      · exact h1 k b (by rw [List.getElem?_take, if_pos (by omega)]; exact hb)
    · simp at hb
theorem upto_step2 {α : Type} {p : Nat → α → Prop} {L : List α} {i : Nat} {a : α} (ha : L[i]? = some a) (hp : p i a) (h : ∀ (j : Nat) b, j < i → L[j]? = some b → p j b) : ∀ (j : Nat) b, j < i + 1 → L[j]? = some b → p j b := fun j b hj hb => by
  by_cases e : j < i
  · exact h j b e hb
  · obtain rfl : j = i := by omega
    rw [ha] at hb; obtain rfl := Option.some.inj hb; exact hp
def s_within : Spec := fun args S => match args, S with
  | [.int .i64 n, .int .i64 a, .int .i64 b], [] => ⟨True, .bool (decide (a ≤ n ∧ n ≤ b)), []⟩
  | _, _ => noSpec
theorem ok_within : SpecOk Try.prog 67 s_within := by
  intro args S h; unfold s_within at h ⊢; (split at h <;> first | exact False.elim h | skip)
  dsimp only at h ⊢
  refine funW tabOk (E := []) trivial [] (k := 0) (fn := Try.f67) rfl rfl rfl rfl rfl rfl ?_
  (repeat' ((try (conv => whnf)); first | (with_reducible first | refine And.intro ?_ ?_ | refine WX.of ?_) | exact zc | ((with_reducible refine VC.mk ?_); exact zw) | (with_reducible first | refine splitT ?_ | refine splitF ?_) | ((with_reducible refine splitM.mk (fun hsm => ?_) (fun hsm => ?_)) <;> (try exact zx)) | ((with_reducible refine splitB.mk (fun h => ?_) (fun h => ?_)) <;> (try simp only [zs, ne_eq] at h) <;> (try simp (disch := omega) only [w64] at h) <;> (try exact zx)) | (with_reducible intro hz; (try exact absurd hz (Nat.succ_ne_zero _)))))
  all_goals (first | exact ⟨rfl⟩ | (refine ⟨?_⟩; simp_all; done) | (refine ⟨?_⟩; simp_all; omega))
theorem ok_l00In : SpecOk Try.prog 59 s_within := by
  intro args S h; unfold s_within at h ⊢; (split at h <;> first | exact False.elim h | skip)
  dsimp only at h ⊢
  refine funW tabOk (E := []) trivial [] (k := 0) (fn := Try.f59) rfl rfl rfl rfl rfl rfl ?_
  (repeat' ((try (conv => whnf)); first | (with_reducible first | refine And.intro ?_ ?_ | refine WX.of ?_) | exact zc | ((with_reducible refine VC.mk ?_); exact zw) | (with_reducible first | refine splitT ?_ | refine splitF ?_) | ((with_reducible refine splitM.mk (fun hsm => ?_) (fun hsm => ?_)) <;> (try exact zx)) | ((with_reducible refine splitB.mk (fun h => ?_) (fun h => ?_)) <;> (try simp only [zs, ne_eq] at h) <;> (try simp (disch := omega) only [w64] at h) <;> (try exact zx)) | (with_reducible intro hz; (try exact absurd hz (Nat.succ_ne_zero _)))))
  all_goals (first | exact ⟨rfl⟩ | (refine ⟨?_⟩; simp_all; done) | (refine ⟨?_⟩; simp_all; omega))
/-- The sizes of all elements. -/
def tot {α : Type} (f : α → Nat) (l : List α) : Nat := (l.map f).sum
theorem tot_step {α : Type} {f : α → Nat} {L : List α} {i : Nat} {a : α} (h : L[i]? = some a) : tot f (L.take (i + 1)) = tot f (L.take i) + f a := by
  unfold tot; rw [List.take_add_one, h]; simp
theorem tot_le {α : Type} {f : α → Nat} {L : List α} (i : Nat) : tot f (L.take i) ≤ tot f L := by
  have h : tot f L = tot f (L.take i) + tot f (L.drop i) := by
    unfold tot; rw [← List.sum_append, ← List.map_append, List.take_append_drop]
  omega
theorem tot_at {α : Type} {f : α → Nat} {L : List α} {i : Nat} {a : α} (h : L[i]? = some a) : f a ≤ tot f L := by
  have h1 := tot_step (f := f) h
  have h2 := tot_le (f := f) (L := L) (i + 1)
  omega
def s_gcd : Spec := fun args S => match args, S with
  | [.int .i64 a, .int .i64 b], [] => ⟨-9223372036854775808 < a ∧ a < 9223372036854775808 ∧ -9223372036854775808 < b ∧ b < 9223372036854775808, .int .i64 (Int.gcd a b), []⟩
  | _, _ => noSpec
theorem ok_gcd : SpecOk Try.prog 69 s_gcd := by
  intro args S h; unfold s_gcd at h ⊢; (split at h <;> first | exact False.elim h | skip)
  dsimp only at h ⊢
  rename_i a b
  refine funW tabOk (E := []) trivial [] (k := 0) (fn := Try.f69) rfl rfl rfl rfl rfl rfl ?_
  (repeat' ((try (conv => whnf)); first | (with_reducible first | refine And.intro ?_ ?_ | refine WX.of ?_) | exact zc | ((with_reducible refine VC.mk ?_); exact zw) | (with_reducible first | refine splitT ?_ | refine splitF ?_) | ((with_reducible refine splitM.mk (fun hsm => ?_) (fun hsm => ?_)) <;> (try exact zx)) | ((with_reducible refine splitB.mk (fun h => ?_) (fun h => ?_)) <;> (try simp only [zs, ne_eq] at h) <;> (try simp (disch := omega) only [w64] at h) <;> (try exact zx)) | (with_reducible intro hz; (try exact absurd hz (Nat.succ_ne_zero _)))))
  refine loopW tabOk (E := []) trivial [] (σ := Int × Int) (fun s => [(0, .int .i64 s.1), (1, .int .i64 s.2)]) (fun _ => []) (fun s => s.2.natAbs) (fun s => Int.gcd s.1 s.2 = Int.gcd a b ∧ -9223372036854775808 < s.1 ∧ s.1 < 9223372036854775808 ∧ -9223372036854775808 < s.2 ∧ s.2 < 9223372036854775808) (a, b) ⟨rfl, h⟩ ?_ ?_
  · (repeat' ((try (conv => whnf)); first | (with_reducible first | refine And.intro ?_ ?_ | refine WX.of ?_) | exact zc | ((with_reducible refine VC.mk ?_); exact zw) | (with_reducible first | refine splitT ?_ | refine splitF ?_) | ((with_reducible refine splitM.mk (fun hsm => ?_) (fun hsm => ?_)) <;> (try exact zx)) | ((with_reducible refine splitB.mk (fun h => ?_) (fun h => ?_)) <;> (try simp only [zs, ne_eq] at h) <;> (try simp (disch := omega) only [w64] at h) <;> (try exact zx)) | (with_reducible intro hz; (try exact absurd hz (Nat.succ_ne_zero _)))))
  · rintro ⟨x, y⟩ ⟨hg, hr⟩
    dsimp only at hg hr
    (repeat' ((try (conv => whnf)); first | (with_reducible first | refine And.intro ?_ ?_ | refine WX.of ?_) | exact zc | ((with_reducible refine VC.mk ?_); exact zw) | (with_reducible first | refine splitT ?_ | refine splitF ?_) | ((with_reducible refine splitM.mk (fun hsm => ?_) (fun hsm => ?_)) <;> (try exact zx)) | ((with_reducible refine splitB.mk (fun h => ?_) (fun h => ?_)) <;> (try simp only [zs, ne_eq] at h) <;> (try simp (disch := omega) only [w64] at h) <;> (try exact zx)) | (with_reducible intro hz; (try exact absurd hz (Nat.succ_ne_zero _)))))
    · have := tmod_lt (a := x) h
      refine ⟨(y, x.tmod y), this, ⟨by rw [← hg]; exact gcd_tmod, ?_⟩, ?_⟩
      · dsimp only; omega
      · (repeat' ((try (conv => whnf)); first | (with_reducible first | refine And.intro ?_ ?_ | refine WX.of ?_) | exact zc | ((with_reducible refine VC.mk ?_); exact zw) | (with_reducible first | refine splitT ?_ | refine splitF ?_) | ((with_reducible refine splitM.mk (fun hsm => ?_) (fun hsm => ?_)) <;> (try exact zx)) | ((with_reducible refine splitB.mk (fun h => ?_) (fun h => ?_)) <;> (try simp only [zs, ne_eq] at h) <;> (try simp (disch := omega) only [w64] at h) <;> (try exact zx)) | (with_reducible intro hz; (try exact absurd hz (Nat.succ_ne_zero _)))))
    · subst h
      simp at hg
      dsimp only
      rw [w64 (by omega)]
      refine ⟨?_⟩
      rw [← hg]
      congr 1
      split <;> omega
def s_abs : Spec := fun args S => match args, S with
  | [.int .i64 n], [] => ⟨-9223372036854775808 < n ∧ n < 9223372036854775808, .int .i64 (n.natAbs : Int), []⟩
  | _, _ => noSpec
theorem ok_l01Abs : SpecOk Try.prog 60 s_abs := by
  intro args S h; unfold s_abs at h ⊢; (split at h <;> first | exact False.elim h | skip)
  dsimp only at h ⊢
  refine funW tabOk (E := []) trivial [] (k := 0) (fn := Try.f60) rfl rfl rfl rfl rfl rfl ?_
  (repeat' ((try (conv => whnf)); first | (with_reducible first | refine And.intro ?_ ?_ | refine WX.of ?_) | exact zc | ((with_reducible refine VC.mk ?_); exact zw) | (with_reducible first | refine splitT ?_ | refine splitF ?_) | ((with_reducible refine splitM.mk (fun hsm => ?_) (fun hsm => ?_)) <;> (try exact zx)) | ((with_reducible refine splitB.mk (fun h => ?_) (fun h => ?_)) <;> (try simp only [zs, ne_eq] at h) <;> (try simp (disch := omega) only [w64] at h) <;> (try exact zx)) | (with_reducible intro hz; (try exact absurd hz (Nat.succ_ne_zero _)))))
def s_gcdN : Spec := fun args S => match args, S with
  | [.int .i64 a, .int .i64 b], [] => ⟨0 ≤ a ∧ a < 9223372036854775808 ∧ 0 ≤ b ∧ b < 9223372036854775808, .int .i64 (Int.gcd a b), []⟩
  | _, _ => noSpec
theorem ok_l01Gcd : SpecOk Try.prog 64 s_gcdN := by
  intro args S h; unfold s_gcdN at h ⊢; (split at h <;> first | exact False.elim h | skip)
  dsimp only at h ⊢
  rename_i a b
  refine funW tabOk (E := []) trivial [] (k := 0) (fn := Try.f64) rfl rfl rfl rfl rfl rfl ?_
  (repeat' ((try (conv => whnf)); first | (with_reducible first | refine And.intro ?_ ?_ | refine WX.of ?_) | exact zc | ((with_reducible refine VC.mk ?_); exact zw) | (with_reducible first | refine splitT ?_ | refine splitF ?_) | ((with_reducible refine splitM.mk (fun hsm => ?_) (fun hsm => ?_)) <;> (try exact zx)) | ((with_reducible refine splitB.mk (fun h => ?_) (fun h => ?_)) <;> (try simp only [zs, ne_eq] at h) <;> (try simp (disch := omega) only [w64] at h) <;> (try exact zx)) | (with_reducible intro hz; (try exact absurd hz (Nat.succ_ne_zero _)))))
  refine loopW tabOk (E := []) trivial [] (σ := Int × Int) (fun s => [(0, .int .i64 s.1), (1, .int .i64 s.2)]) (fun _ => []) (fun s => s.2.natAbs) (fun s => Int.gcd s.1 s.2 = Int.gcd a b ∧ 0 ≤ s.1 ∧ s.1 < 9223372036854775808 ∧ 0 ≤ s.2 ∧ s.2 < 9223372036854775808) (a, b) ⟨rfl, h⟩ ?_ ?_
  · (repeat' ((try (conv => whnf)); first | (with_reducible first | refine And.intro ?_ ?_ | refine WX.of ?_) | exact zc | ((with_reducible refine VC.mk ?_); exact zw) | (with_reducible first | refine splitT ?_ | refine splitF ?_) | ((with_reducible refine splitM.mk (fun hsm => ?_) (fun hsm => ?_)) <;> (try exact zx)) | ((with_reducible refine splitB.mk (fun h => ?_) (fun h => ?_)) <;> (try simp only [zs, ne_eq] at h) <;> (try simp (disch := omega) only [w64] at h) <;> (try exact zx)) | (with_reducible intro hz; (try exact absurd hz (Nat.succ_ne_zero _)))))
  · rintro ⟨x, y⟩ ⟨hg, hr⟩
    dsimp only at hg hr
    (repeat' ((try (conv => whnf)); first | (with_reducible first | refine And.intro ?_ ?_ | refine WX.of ?_) | exact zc | ((with_reducible refine VC.mk ?_); exact zw) | (with_reducible first | refine splitT ?_ | refine splitF ?_) | ((with_reducible refine splitM.mk (fun hsm => ?_) (fun hsm => ?_)) <;> (try exact zx)) | ((with_reducible refine splitB.mk (fun h => ?_) (fun h => ?_)) <;> (try simp only [zs, ne_eq] at h) <;> (try simp (disch := omega) only [w64] at h) <;> (try exact zx)) | (with_reducible intro hz; (try exact absurd hz (Nat.succ_ne_zero _)))))
    · have := tmod_lt (a := x) h
      have h2 := Int.tmod_nonneg y hr.1
      refine ⟨(y, x.tmod y), this, ⟨by rw [← hg]; exact gcd_tmod, ?_⟩, ?_⟩
      · dsimp only; omega
      · (repeat' ((try (conv => whnf)); first | (with_reducible first | refine And.intro ?_ ?_ | refine WX.of ?_) | exact zc | ((with_reducible refine VC.mk ?_); exact zw) | (with_reducible first | refine splitT ?_ | refine splitF ?_) | ((with_reducible refine splitM.mk (fun hsm => ?_) (fun hsm => ?_)) <;> (try exact zx)) | ((with_reducible refine splitB.mk (fun h => ?_) (fun h => ?_)) <;> (try simp only [zs, ne_eq] at h) <;> (try simp (disch := omega) only [w64] at h) <;> (try exact zx)) | (with_reducible intro hz; (try exact absurd hz (Nat.succ_ne_zero _)))))
    · subst h
      simp at hg
      refine ⟨?_⟩
      dsimp only
      rw [← hg]
      congr 1
      omega
/-- A valid fraction. -/
def fOk (p q : Int) : Bool := decide (1 ≤ q ∧ q ≤ 1000000000 ∧ -1000000000 ≤ p ∧ p ≤ 1000000000 ∧ Int.gcd p q = 1)
theorem fOk_iff {p q : Int} : fOk p q = true ↔ 1 ≤ q ∧ q ≤ 1000000000 ∧ -1000000000 ≤ p ∧ p ≤ 1000000000 ∧ Int.gcd p q = 1 := by simp [fOk]
def s_fOk : Spec := fun args S => match args, S with
  | [.agg [.int .i64 p, .int .i64 q]], [] => ⟨True, .bool (fOk p q), []⟩
  | _, _ => noSpec
theorem gcd_abs (p q : Int) : Int.gcd (p.natAbs : Int) q = Int.gcd p q := by simp [Int.gcd]
theorem ok_ValidFrac : SpecOk Try.prog 47 s_fOk := by
  intro args S h; unfold s_fOk at h ⊢; (split at h <;> first | exact False.elim h | skip)
  dsimp only at h ⊢
  refine funW tabOk (E := [(67, s_within), (69, s_gcd)]) ⟨ok_within, ok_gcd, trivial⟩ [] (k := 0) (fn := Try.f47) rfl rfl rfl rfl rfl rfl ?_
  (repeat' ((try (conv => whnf)); first | (with_reducible first | refine And.intro ?_ ?_ | refine WX.of ?_) | exact zc | ((with_reducible refine VC.mk ?_); exact zw) | (with_reducible first | refine splitT ?_ | refine splitF ?_) | ((with_reducible refine splitM.mk (fun hsm => ?_) (fun hsm => ?_)) <;> (try exact zx)) | ((with_reducible refine splitB.mk (fun h => ?_) (fun h => ?_)) <;> (try simp only [zs, ne_eq] at h) <;> (try simp (disch := omega) only [w64] at h) <;> (try exact zx)) | (with_reducible intro hz; (try exact absurd hz (Nat.succ_ne_zero _)))))
  all_goals (refine ⟨congrArg SV.bool ?_⟩; (try dsimp only); (try simp (disch := omega) only [w64]); rw [Bool.eq_iff_iff]; try (simp [fOk]); try omega)
theorem ok_l01Ok : SpecOk Try.prog 41 s_fOk := by
  intro args S h; unfold s_fOk at h ⊢; (split at h <;> first | exact False.elim h | skip)
  dsimp only at h ⊢
  refine funW tabOk (E := [(59, s_within), (64, s_gcdN), (60, s_abs)]) ⟨ok_l00In, ok_l01Gcd, ok_l01Abs, trivial⟩ [(1, [(13, 2)])] (k := 0) (fn := Try.f41) rfl rfl rfl rfl rfl rfl ?_
  (repeat' ((try (conv => whnf)); first | (with_reducible first | refine And.intro ?_ ?_ | refine WX.of ?_) | exact zc | ((with_reducible refine VC.mk ?_); exact zw) | (with_reducible first | refine splitT ?_ | refine splitF ?_) | ((with_reducible refine splitM.mk (fun hsm => ?_) (fun hsm => ?_)) <;> (try exact zx)) | ((with_reducible refine splitB.mk (fun h => ?_) (fun h => ?_)) <;> (try simp only [zs, ne_eq] at h) <;> (try simp (disch := omega) only [w64] at h) <;> (try exact zx)) | (with_reducible intro hz; (try exact absurd hz (Nat.succ_ne_zero _)))))
  all_goals (refine ⟨congrArg SV.bool ?_⟩; (try dsimp only); (try simp (disch := omega) only [w64]); rw [Bool.eq_iff_iff]; try (simp [fOk, gcd_abs]); try omega)
/-- The reduced fraction. -/
def redG (p q : Int) : Int := (Int.gcd p q : Int)
def redP (p q : Int) : Int := if q < 0 then -(p / redG p q) else p / redG p q
def redQ (p q : Int) : Int := if q < 0 then -(q / redG p q) else q / redG p q
def redOk (p q : Int) : Bool := fOk (redP p q) (redQ p q)
theorem redG_pos {p q : Int} (h : q ≠ 0) : 0 < redG p q := by
  unfold redG
  have : 0 < Int.gcd p q := Int.gcd_pos_of_ne_zero_right _ h
  omega
theorem redG_le {p q M : Int} (h : q ≠ 0) (hq : -M ≤ q ∧ q ≤ M) : redG p q ≤ M := by
  unfold redG
  have := Nat.le_of_dvd (by omega) (Nat.gcd_dvd_right p.natAbs q.natAbs)
  have e : Int.gcd p q = Nat.gcd p.natAbs q.natAbs := rfl
  omega
theorem ediv_small {p g M : Int} (hg : 0 < g) (h : -M ≤ p ∧ p ≤ M) : -M ≤ p / g ∧ p / g ≤ M := by
  have h0 : 0 ≤ M := by omega
  refine ⟨?_, ?_⟩
  · rw [Int.le_ediv_iff_mul_le hg]
    have : M ≤ M * g := by have := Int.mul_le_mul_of_nonneg_left (show 1 ≤ g by omega) h0; omega
    rw [Int.neg_mul]; omega
  · have := Int.ediv_le_ediv hg h.2
    have := Int.ediv_le_self g h0
    omega
theorem red_p {p q : Int} : p.tdiv (redG p q) = p / redG p q := Int.tdiv_eq_ediv_of_dvd (Int.gcd_dvd_left ..)
theorem red_q {p q : Int} : q.tdiv (redG p q) = q / redG p q := Int.tdiv_eq_ediv_of_dvd (Int.gcd_dvd_right ..)
theorem red_np {p q : Int} : (-p).tdiv (redG p q) = -(p / redG p q) := by rw [Int.neg_tdiv, red_p]
theorem red_nq {p q : Int} : (-q).tdiv (redG p q) = -(q / redG p q) := by rw [Int.neg_tdiv, red_q]
theorem red_bound {p q : Int} (h : q ≠ 0) (hp : -9223372036854775807 ≤ p ∧ p ≤ 9223372036854775807) (hq : -9223372036854775807 ≤ q ∧ q ≤ 9223372036854775807) :
    (-9223372036854775807 ≤ p / redG p q ∧ p / redG p q ≤ 9223372036854775807) ∧ (-9223372036854775807 ≤ q / redG p q ∧ q / redG p q ≤ 9223372036854775807) :=
  ⟨ediv_small (redG_pos h) hp, ediv_small (redG_pos h) hq⟩
/-- The sign of the reduced denominator. -/
theorem red_sign {p q : Int} (h : q ≠ 0) : (q / redG p q < 0 ↔ q < 0) := by
  have hg := redG_pos (p := p) h
  constructor
  · intro h1
    have := Int.ediv_mul_cancel (a := q) (b := redG p q) (Int.gcd_dvd_right ..)
    have h2 : q / redG p q * redG p q < 0 := Int.mul_neg_of_neg_of_pos h1 hg
    omega
  · intro h1
    have := Int.ediv_mul_cancel (a := q) (b := redG p q) (Int.gcd_dvd_right ..)
    apply Classical.byContradiction; intro h2
    have h3 : 0 ≤ q / redG p q * redG p q := Int.mul_nonneg (by omega) (by omega)
    omega
def s_red : Spec := fun args S => match args, S with
  | [.int .i64 p, .int .i64 q], [] => ⟨q ≠ 0 ∧ (-9223372036854775807 ≤ p ∧ p ≤ 9223372036854775807) ∧ (-9223372036854775807 ≤ q ∧ q ≤ 9223372036854775807), .tup [.agg [.int .i64 (if redOk p q = true then redP p q else 0), .int .i64 (if redOk p q = true then redQ p q else 0)], .int .i64 (if redOk p q = true then 0 else 3)], []⟩
  | _, _ => noSpec
theorem ok_l01Reduced : SpecOk Try.prog 77 s_red := by
  intro args S h; unfold s_red at h ⊢; (split at h <;> first | exact False.elim h | skip)
  dsimp only at h ⊢
  rename_i p q
  obtain ⟨h0, hp, hq⟩ := h
  have hg := redG_pos (p := p) h0
  have hgl := redG_le (p := p) h0 hq
  have hb := red_bound h0 hp hq
  have hs := red_sign (p := p) h0
  have e : (Int.gcd (p.natAbs : Int) (q.natAbs : Int) : Int) = redG p q := by simp [Int.gcd, redG]
  refine funW tabOk (E := [(41, s_fOk), (64, s_gcdN), (60, s_abs)]) ⟨ok_l01Ok, ok_l01Gcd, ok_l01Abs, trivial⟩ [] (k := 0) (fn := Try.f77) rfl rfl rfl rfl rfl rfl ?_
  (repeat' ((try (conv => whnf)); first | (with_reducible first | refine And.intro ?_ ?_ | refine WX.of ?_) | exact zc | ((with_reducible refine VC.mk ?_); exact zw) | (with_reducible first | refine splitT ?_ | refine splitF ?_) | ((with_reducible refine splitM.mk (fun hsm => ?_) (fun hsm => ?_)) <;> (try exact zx)) | ((with_reducible refine splitB.mk (fun h => ?_) (fun h => ?_)) <;> (try simp only [zs, ne_eq] at h) <;> (try simp (disch := omega) only [w64] at h) <;> (try exact zx)) | (with_reducible intro hz; (try exact absurd hz (Nat.succ_ne_zero _)))))
  all_goals
    rename_i hq'
    simp (disch := omega) only [e, red_p, red_q, w64, Int.zero_sub] at h hq' ⊢
    first | rw [hs] at hq' | (rw [← Int.not_lt, hs] at hq')
    refine ⟨?_⟩
    simp [redOk, redP, redQ, h, hq']
/-- What fracOf answers. -/
def s_fracOf : Spec := fun args S => match args, S with
  | [.int .i64 p, .int .i64 q], [] => ⟨q ≠ 0 ∧ (-9223372036854775807 ≤ p ∧ p ≤ 9223372036854775807) ∧ (-9223372036854775807 ≤ q ∧ q ≤ 9223372036854775807), .tup [.agg [.int .i64 (if redOk p q = true then redP p q else 0), .int .i64 (if redOk p q = true then redQ p q else 0)], .bool (redOk p q)], []⟩
  | _, _ => noSpec
theorem redG_neg (p q : Int) : (Int.gcd (-p) (-q) : Int) = redG p q := by simp [redG]
theorem ok_fracOf : SpecOk Try.prog 78 s_fracOf := by
  intro args S h; unfold s_fracOf at h ⊢; (split at h <;> first | exact False.elim h | skip)
  dsimp only at h ⊢
  rename_i p q
  obtain ⟨h0, hp, hq⟩ := h
  have hg := redG_pos (p := p) h0
  have hgl := redG_le (p := p) h0 hq
  have hb := red_bound h0 hp hq
  have hs := red_sign (p := p) h0
  have e : (Int.gcd p q : Int) = redG p q := rfl
  have e2 := redG_neg p q
  refine funW tabOk (E := [(47, s_fOk), (69, s_gcd)]) ⟨ok_ValidFrac, ok_gcd, trivial⟩ [] (k := 0) (fn := Try.f78) rfl rfl rfl rfl rfl rfl ?_
  (repeat' ((try (conv => whnf)); first | (with_reducible first | refine And.intro ?_ ?_ | refine WX.of ?_) | exact zc | ((with_reducible refine VC.mk ?_); exact zw) | ((with_reducible refine VC.mk ?_); simp (disch := omega) only [w64, Int.zero_sub, e, e2]; omega) | (with_reducible first | refine splitT ?_ | refine splitF ?_) | ((with_reducible refine splitM.mk (fun hsm => ?_) (fun hsm => ?_)) <;> (try exact zx)) | ((with_reducible refine splitB.mk (fun h => ?_) (fun h => ?_)) <;> (try simp only [zs, ne_eq] at h) <;> (try simp (disch := omega) only [w64] at h) <;> (try exact zx)) | (with_reducible intro hz; (try exact absurd hz (Nat.succ_ne_zero _)))))
  all_goals
    rename_i hq'
    simp (disch := omega) only [e, e2, red_p, red_q, red_np, red_nq, w64, Int.zero_sub] at h ⊢
    refine ⟨?_⟩
    first | (simp [redOk, redP, redQ, h, hq']; done) | simp [redOk, redP, redQ, h, show ¬ q < 0 by omega]
/-- What told answers: 0 where it is no valid fraction. -/
def tolP (p q : Int) : Int := if redOk p q = true then redP p q else 0
def tolQ (p q : Int) : Int := if redOk p q = true then redQ p q else 1
def s_told : Spec := fun args S => match args, S with
  | [.ptr b 0 0, .int .i64 p, .int .i64 q], [.arr .bool [bad] 0 true] => ⟨b = 0 ∧ q ≠ 0 ∧ (-9223372036854775807 ≤ p ∧ p ≤ 9223372036854775807) ∧ (-9223372036854775807 ≤ q ∧ q ≤ 9223372036854775807), .agg [.int .i64 (tolP p q), .int .i64 (tolQ p q)], [.arr .bool [bad || !redOk p q] 0 true]⟩
  | _, _ => noSpec
def s_zero : Spec := fun args S => match args, S with
  | [], [] => ⟨True, .agg [.int .i64 0, .int .i64 1], []⟩
  | _, _ => noSpec
theorem ok_zero : SpecOk Try.prog 79 s_zero := by
  intro args S h; unfold s_zero at h ⊢; (split at h <;> first | exact False.elim h | skip)
  dsimp only at h ⊢
  refine funW tabOk (E := []) trivial [] (k := 0) (fn := Try.f79) rfl rfl rfl rfl rfl rfl ?_
  (repeat' ((try (conv => whnf)); first | (with_reducible first | refine And.intro ?_ ?_ | refine WX.of ?_) | exact zc | ((with_reducible refine VC.mk ?_); exact zw) | (with_reducible first | refine splitT ?_ | refine splitF ?_) | ((with_reducible refine splitM.mk (fun hsm => ?_) (fun hsm => ?_)) <;> (try exact zx)) | ((with_reducible refine splitB.mk (fun h => ?_) (fun h => ?_)) <;> (try simp only [zs, ne_eq] at h) <;> (try simp (disch := omega) only [w64] at h) <;> (try exact zx)) | (with_reducible intro hz; (try exact absurd hz (Nat.succ_ne_zero _)))))
theorem ok_told : SpecOk Try.prog 75 s_told := by
  intro args S h; unfold s_told at h ⊢; (split at h <;> first | exact False.elim h | skip)
  dsimp only at h ⊢
  rename_i b p q bad
  obtain ⟨rfl, h0, hp, hq⟩ := h
  refine funW tabOk (E := [(78, s_fracOf), (79, s_zero)]) ⟨ok_fracOf, ok_zero, trivial⟩ [] (k := 1) (fn := Try.f75) rfl rfl rfl rfl rfl rfl ?_
  (repeat' ((try (conv => whnf)); first | (with_reducible first | refine And.intro ?_ ?_ | refine WX.of ?_) | exact zc | ((with_reducible refine VC.mk ?_); exact zw) | (with_reducible first | refine splitT ?_ | refine splitF ?_) | ((with_reducible refine splitM.mk (fun hsm => ?_) (fun hsm => ?_)) <;> (try exact zx)) | ((with_reducible refine splitB.mk (fun h => ?_) (fun h => ?_)) <;> (try simp only [zs, ne_eq] at h) <;> (try simp (disch := omega) only [w64] at h) <;> (try exact zx)) | (with_reducible intro hz; (try exact absurd hz (Nat.succ_ne_zero _)))))
  all_goals (refine ⟨?_⟩; simp [tolP, tolQ, h])
theorem mulB {a b : Int} (ha : -1000000000 ≤ a ∧ a ≤ 1000000000) (hb : -1000000000 ≤ b ∧ b ≤ 1000000000) : -1000000000000000000 ≤ a * b ∧ a * b ≤ 1000000000000000000 := by
  have h1 : a.natAbs ≤ 1000000000 := by omega
  have h2 : b.natAbs ≤ 1000000000 := by omega
  have h3 := Nat.mul_le_mul h1 h2
  rw [← Int.natAbs_mul] at h3
  omega
theorem mulPos {a b : Int} (ha : 1 ≤ a) (hb : 1 ≤ b) : 1 ≤ a * b := by
  have := Int.mul_le_mul ha hb (by omega) (by omega)
  omega
/-- The parts of a fraction within bounds. -/
def smF (p q : Int) : Prop := (-1000000000 ≤ p ∧ p ≤ 1000000000) ∧ 1 ≤ q ∧ q ≤ 1000000000
theorem smF_ok {p q : Int} (h : fOk p q = true) : smF p q := by
  rw [fOk_iff] at h; unfold smF; omega
theorem smF_tol (p q : Int) : smF (tolP p q) (tolQ p q) := by
  unfold tolP tolQ
  split
  · rename_i h; exact smF_ok h
  · unfold smF; omega
theorem smF_1 {n : Int} (h : -1000000000 ≤ n ∧ n ≤ 1000000000) : smF n 1 := by unfold smF; omega
def s_add : Spec := fun args S => match args, S with
  | [.ptr b 0 0, .agg [.int .i64 p, .int .i64 q], .agg [.int .i64 p', .int .i64 q']], [.arr .bool [bad] 0 true] => ⟨b = 0 ∧ smF p q ∧ smF p' q', .agg [.int .i64 (tolP (p * q' + p' * q) (q * q')), .int .i64 (tolQ (p * q' + p' * q) (q * q'))], [.arr .bool [bad || !redOk (p * q' + p' * q) (q * q')] 0 true]⟩
  | _, _ => noSpec
def s_sub : Spec := fun args S => match args, S with
  | [.ptr b 0 0, .agg [.int .i64 p, .int .i64 q], .agg [.int .i64 p', .int .i64 q']], [.arr .bool [bad] 0 true] => ⟨b = 0 ∧ smF p q ∧ smF p' q', .agg [.int .i64 (tolP (p * q' - p' * q) (q * q')), .int .i64 (tolQ (p * q' - p' * q) (q * q'))], [.arr .bool [bad || !redOk (p * q' - p' * q) (q * q')] 0 true]⟩
  | _, _ => noSpec
def s_mul : Spec := fun args S => match args, S with
  | [.ptr b 0 0, .agg [.int .i64 p, .int .i64 q], .agg [.int .i64 p', .int .i64 q']], [.arr .bool [bad] 0 true] => ⟨b = 0 ∧ smF p q ∧ smF p' q', .agg [.int .i64 (tolP (p * p') (q * q')), .int .i64 (tolQ (p * p') (q * q'))], [.arr .bool [bad || !redOk (p * p') (q * q')] 0 true]⟩
  | _, _ => noSpec
theorem smF_mul {p q p' q' : Int} (h : smF p q) (h' : smF p' q') :
    (-1000000000000000000 ≤ p * q' ∧ p * q' ≤ 1000000000000000000) ∧ (-1000000000000000000 ≤ p' * q ∧ p' * q ≤ 1000000000000000000) ∧ (-1000000000000000000 ≤ q * p' ∧ q * p' ≤ 1000000000000000000) ∧ (-1000000000000000000 ≤ p * p' ∧ p * p' ≤ 1000000000000000000) ∧ (1 ≤ q * q' ∧ q * q' ≤ 1000000000000000000) := by
  unfold smF at h h'
  exact ⟨mulB h.1 ⟨by omega, by omega⟩, mulB h'.1 ⟨by omega, by omega⟩, mulB ⟨by omega, by omega⟩ h'.1, mulB h.1 h'.1, mulPos h.2.1 h'.2.1, (mulB ⟨by omega, by omega⟩ ⟨by omega, by omega⟩).2⟩
theorem ok_add : SpecOk Try.prog 72 s_add := by
  intro args S h; unfold s_add at h ⊢; (split at h <;> first | exact False.elim h | skip)
  dsimp only at h ⊢
  rename_i b p q p' q' bad
  obtain ⟨rfl, h1, h2⟩ := h
  have hm := smF_mul h1 h2
  refine funW tabOk (E := [(75, s_told)]) ⟨ok_told, trivial⟩ [] (k := 1) (fn := Try.f72) rfl rfl rfl rfl rfl rfl ?_
  (repeat' ((try (conv => whnf)); first | (with_reducible first | refine And.intro ?_ ?_ | refine WX.of ?_) | exact zc | ((with_reducible refine VC.mk ?_); exact zw) | ((with_reducible refine VC.mk ?_); simp (disch := omega) only [w64]; first  |  done  |  omega  |  (refine ⟨?_, ?_, ?_⟩ <;> first  |  trivial  |  omega)) | (with_reducible first | refine splitT ?_ | refine splitF ?_) | ((with_reducible refine splitM.mk (fun hsm => ?_) (fun hsm => ?_)) <;> (try exact zx)) | ((with_reducible refine splitB.mk (fun h => ?_) (fun h => ?_)) <;> (try simp only [zs, ne_eq] at h) <;> (try simp (disch := omega) only [w64] at h) <;> (try exact zx)) | (with_reducible intro hz; (try exact absurd hz (Nat.succ_ne_zero _)))))
theorem ok_sub : SpecOk Try.prog 55 s_sub := by
  intro args S h; unfold s_sub at h ⊢; (split at h <;> first | exact False.elim h | skip)
  dsimp only at h ⊢
  rename_i b p q p' q' bad
  obtain ⟨rfl, h1, h2⟩ := h
  have hm := smF_mul h1 h2
  refine funW tabOk (E := [(75, s_told)]) ⟨ok_told, trivial⟩ [] (k := 1) (fn := Try.f55) rfl rfl rfl rfl rfl rfl ?_
  (repeat' ((try (conv => whnf)); first | (with_reducible first | refine And.intro ?_ ?_ | refine WX.of ?_) | exact zc | ((with_reducible refine VC.mk ?_); exact zw) | ((with_reducible refine VC.mk ?_); simp (disch := omega) only [w64]; first  |  done  |  omega  |  (refine ⟨?_, ?_, ?_⟩ <;> first  |  trivial  |  omega)) | (with_reducible first | refine splitT ?_ | refine splitF ?_) | ((with_reducible refine splitM.mk (fun hsm => ?_) (fun hsm => ?_)) <;> (try exact zx)) | ((with_reducible refine splitB.mk (fun h => ?_) (fun h => ?_)) <;> (try simp only [zs, ne_eq] at h) <;> (try simp (disch := omega) only [w64] at h) <;> (try exact zx)) | (with_reducible intro hz; (try exact absurd hz (Nat.succ_ne_zero _)))))
theorem ok_mul : SpecOk Try.prog 73 s_mul := by
  intro args S h; unfold s_mul at h ⊢; (split at h <;> first | exact False.elim h | skip)
  dsimp only at h ⊢
  rename_i b p q p' q' bad
  obtain ⟨rfl, h1, h2⟩ := h
  have hm := smF_mul h1 h2
  refine funW tabOk (E := [(75, s_told)]) ⟨ok_told, trivial⟩ [] (k := 1) (fn := Try.f73) rfl rfl rfl rfl rfl rfl ?_
  (repeat' ((try (conv => whnf)); first | (with_reducible first | refine And.intro ?_ ?_ | refine WX.of ?_) | exact zc | ((with_reducible refine VC.mk ?_); exact zw) | ((with_reducible refine VC.mk ?_); simp (disch := omega) only [w64]; first  |  done  |  omega  |  (refine ⟨?_, ?_, ?_⟩ <;> first  |  trivial  |  omega)) | (with_reducible first | refine splitT ?_ | refine splitF ?_) | ((with_reducible refine splitM.mk (fun hsm => ?_) (fun hsm => ?_)) <;> (try exact zx)) | ((with_reducible refine splitB.mk (fun h => ?_) (fun h => ?_)) <;> (try simp only [zs, ne_eq] at h) <;> (try simp (disch := omega) only [w64] at h) <;> (try exact zx)) | (with_reducible intro hz; (try exact absurd hz (Nat.succ_ne_zero _)))))
def s_num : Spec := fun args S => match args, S with
  | [.int .i64 n], [] => ⟨True, .agg [.int .i64 n, .int .i64 1], []⟩
  | _, _ => noSpec
theorem ok_num : SpecOk Try.prog 49 s_num := by
  intro args S h; unfold s_num at h ⊢; (split at h <;> first | exact False.elim h | skip)
  dsimp only at h ⊢
  refine funW tabOk (E := []) trivial [] (k := 0) (fn := Try.f49) rfl rfl rfl rfl rfl rfl ?_
  (repeat' ((try (conv => whnf)); first | (with_reducible first | refine And.intro ?_ ?_ | refine WX.of ?_) | exact zc | ((with_reducible refine VC.mk ?_); exact zw) | (with_reducible first | refine splitT ?_ | refine splitF ?_) | ((with_reducible refine splitM.mk (fun hsm => ?_) (fun hsm => ?_)) <;> (try exact zx)) | ((with_reducible refine splitB.mk (fun h => ?_) (fun h => ?_)) <;> (try simp only [zs, ne_eq] at h) <;> (try simp (disch := omega) only [w64] at h) <;> (try exact zx)) | (with_reducible intro hz; (try exact absurd hz (Nat.succ_ne_zero _)))))
theorem ok_l01Whole : SpecOk Try.prog 63 s_num := by
  intro args S h; unfold s_num at h ⊢; (split at h <;> first | exact False.elim h | skip)
  dsimp only at h ⊢
  refine funW tabOk (E := []) trivial [] (k := 0) (fn := Try.f63) rfl rfl rfl rfl rfl rfl ?_
  (repeat' ((try (conv => whnf)); first | (with_reducible first | refine And.intro ?_ ?_ | refine WX.of ?_) | exact zc | ((with_reducible refine VC.mk ?_); exact zw) | (with_reducible first | refine splitT ?_ | refine splitF ?_) | ((with_reducible refine splitM.mk (fun hsm => ?_) (fun hsm => ?_)) <;> (try exact zx)) | ((with_reducible refine splitB.mk (fun h => ?_) (fun h => ?_)) <;> (try simp only [zs, ne_eq] at h) <;> (try simp (disch := omega) only [w64] at h) <;> (try exact zx)) | (with_reducible intro hz; (try exact absurd hz (Nat.succ_ne_zero _)))))
/-- What l01Reduced answers. -/
def rdP (p q : Int) : Int := if redOk p q = true then redP p q else 0
def rdQ (p q : Int) : Int := if redOk p q = true then redQ p q else 0
def rdC (p q : Int) : Int := if redOk p q = true then 0 else 3
def s_addS : Spec := fun args S => match args, S with
  | [.agg [.int .i64 p, .int .i64 q], .agg [.int .i64 p', .int .i64 q']], [] => ⟨smF p q ∧ smF p' q', .tup [.agg [.int .i64 (rdP (p * q' + p' * q) (q * q')), .int .i64 (rdQ (p * q' + p' * q) (q * q'))], .int .i64 (rdC (p * q' + p' * q) (q * q'))], []⟩
  | _, _ => noSpec
def s_mulS : Spec := fun args S => match args, S with
  | [.agg [.int .i64 p, .int .i64 q], .agg [.int .i64 p', .int .i64 q']], [] => ⟨smF p q ∧ smF p' q', .tup [.agg [.int .i64 (rdP (p * p') (q * q')), .int .i64 (rdQ (p * p') (q * q'))], .int .i64 (rdC (p * p') (q * q'))], []⟩
  | _, _ => noSpec
theorem ok_l01Add : SpecOk Try.prog 65 s_addS := by
  intro args S h; unfold s_addS at h ⊢; (split at h <;> first | exact False.elim h | skip)
  dsimp only at h ⊢
  rename_i p q p' q'
  have hm := smF_mul h.1 h.2
  refine funW tabOk (E := [(77, s_red)]) ⟨ok_l01Reduced, trivial⟩ [] (k := 0) (fn := Try.f65) rfl rfl rfl rfl rfl rfl ?_
  (repeat' ((try (conv => whnf)); first | (with_reducible first | refine And.intro ?_ ?_ | refine WX.of ?_) | exact zc | ((with_reducible refine VC.mk ?_); exact zw) | ((with_reducible refine VC.mk ?_); simp (disch := omega) only [w64]; first  |  done  |  omega  |  (refine ⟨?_, ?_, ?_⟩ <;> first  |  trivial  |  omega)) | (with_reducible first | refine splitT ?_ | refine splitF ?_) | ((with_reducible refine splitM.mk (fun hsm => ?_) (fun hsm => ?_)) <;> (try exact zx)) | ((with_reducible refine splitB.mk (fun h => ?_) (fun h => ?_)) <;> (try simp only [zs, ne_eq] at h) <;> (try simp (disch := omega) only [w64] at h) <;> (try exact zx)) | (with_reducible intro hz; (try exact absurd hz (Nat.succ_ne_zero _)))))
  all_goals (refine ⟨?_⟩; simp (disch := omega) only [w64]; rfl)
theorem ok_l01Mul : SpecOk Try.prog 76 s_mulS := by
  intro args S h; unfold s_mulS at h ⊢; (split at h <;> first | exact False.elim h | skip)
  dsimp only at h ⊢
  rename_i p q p' q'
  have hm := smF_mul h.1 h.2
  refine funW tabOk (E := [(77, s_red)]) ⟨ok_l01Reduced, trivial⟩ [] (k := 0) (fn := Try.f76) rfl rfl rfl rfl rfl rfl ?_
  (repeat' ((try (conv => whnf)); first | (with_reducible first | refine And.intro ?_ ?_ | refine WX.of ?_) | exact zc | ((with_reducible refine VC.mk ?_); exact zw) | ((with_reducible refine VC.mk ?_); simp (disch := omega) only [w64]; first  |  done  |  omega  |  (refine ⟨?_, ?_, ?_⟩ <;> first  |  trivial  |  omega)) | (with_reducible first | refine splitT ?_ | refine splitF ?_) | ((with_reducible refine splitM.mk (fun hsm => ?_) (fun hsm => ?_)) <;> (try exact zx)) | ((with_reducible refine splitB.mk (fun h => ?_) (fun h => ?_)) <;> (try simp only [zs, ne_eq] at h) <;> (try simp (disch := omega) only [w64] at h) <;> (try exact zx)) | (with_reducible intro hz; (try exact absurd hz (Nat.succ_ne_zero _)))))
  all_goals (refine ⟨?_⟩; simp (disch := omega) only [w64]; rfl)
end Go.Proofs.Yteniodjodngkbaa.Eng
set_option linter.unusedVariables false
set_option linter.unusedSimpArgs false
namespace Go.Proofs.Yteniodjodngkbaa.Eng
open Go Go.RowKit
set_option maxRecDepth 100000
def s_toFrac : Spec := fun args S => match args, S with
  | [.agg [.int .i64 p, .int .i64 q]], [] => ⟨True, .agg [.int .i64 p, .int .i64 q], []⟩
  | _, _ => noSpec
theorem ok_toFrac : SpecOk Try.prog 21 s_toFrac := by
  intro args S h; unfold s_toFrac at h ⊢; (split at h <;> first | exact False.elim h | skip)
  dsimp only at h ⊢
  refine funW tabOk (E := []) trivial [] (k := 0) (fn := Try.f21) rfl rfl rfl rfl rfl rfl ?_
  (repeat' ((try (conv => whnf)); first | (with_reducible first | refine And.intro ?_ ?_ | refine WX.of ?_) | exact zc | ((with_reducible refine VC.mk ?_); exact zw) | (with_reducible first | refine splitT ?_ | refine splitF ?_) | ((with_reducible refine splitM.mk (fun hsm => ?_) (fun hsm => ?_)) <;> (try exact zx)) | ((with_reducible refine splitB.mk (fun h => ?_) (fun h => ?_)) <;> (try simp only [zs, ne_eq] at h) <;> (try simp (disch := omega) only [w64] at h) <;> (try exact zx)) | (with_reducible intro hz; (try exact absurd hz (Nat.succ_ne_zero _)))))
def s_eqFrac : Spec := fun args S => match args, S with
  | [.agg [.int .i64 p, .int .i64 q], .agg [.int .i64 p', .int .i64 q']], [] => ⟨True, .bool (decide (p = p' ∧ q = q')), []⟩
  | _, _ => noSpec
theorem ok_eqFrac : SpecOk Try.prog 29 s_eqFrac := by
  intro args S h; unfold s_eqFrac at h ⊢; (split at h <;> first | exact False.elim h | skip)
  dsimp only at h ⊢
  refine funW tabOk (E := []) trivial [] (k := 0) (fn := Try.f29) rfl rfl rfl rfl rfl rfl ?_
  (repeat' ((try (conv => whnf)); first | (with_reducible first | refine And.intro ?_ ?_ | refine WX.of ?_) | exact zc | ((with_reducible refine VC.mk ?_); exact zw) | (with_reducible first | refine splitT ?_ | refine splitF ?_) | ((with_reducible refine splitM.mk (fun hsm => ?_) (fun hsm => ?_)) <;> (try exact zx)) | ((with_reducible refine splitB.mk (fun h => ?_) (fun h => ?_)) <;> (try simp only [zs, ne_eq] at h) <;> (try simp (disch := omega) only [w64] at h) <;> (try exact zx)) | (with_reducible intro hz; (try exact absurd hz (Nat.succ_ne_zero _)))))
  all_goals (refine ⟨congrArg SV.bool ?_⟩; (try dsimp only); (try simp (disch := omega) only [w64]); rw [Bool.eq_iff_iff]; try (simp []); try omega)
def s_toFracS : Spec := fun args S => match args, S with
  | [.opt c 0 n 0], [.arrO (.prod (.int .i64) (.int .i64)) l 2] => ⟨n ≤ l.length ∧ (c = true → l = []) ∧ n ≤ 1048576, .sl 1 0 n 0, [.arrO (.prod (.int .i64) (.int .i64)) l 2, .arr (.prod (.int .i64) (.int .i64)) (seg l 0 n) 2 true]⟩
  | [.sl 0 s n x], [.arr (.prod (.int .i64) (.int .i64)) l 2 wr] => ⟨s + n ≤ l.length ∧ n ≤ 1048576, .sl 1 0 n 0, [.arr (.prod (.int .i64) (.int .i64)) l 2 wr, .arr (.prod (.int .i64) (.int .i64)) (seg l s n) 2 true]⟩
  | _, _ => noSpec
theorem toFracS_sl {s n x : Nat} {l : List (ET.T (.prod (.int .i64) (.int .i64)))} {wr : Bool} (h : s + n ≤ l.length ∧ n ≤ 1048576) : RunsS Try.prog 8 [.sl 0 s n x] [.arr (.prod (.int .i64) (.int .i64)) l 2 wr] (.sl 1 0 n 0) [.arr (.prod (.int .i64) (.int .i64)) l 2 wr, .arr (.prod (.int .i64) (.int .i64)) (seg l s n) 2 true] := by
  have hL := seg_len h.1
  refine funW tabOk (E := [(21, s_toFrac)]) ⟨ok_toFrac, trivial⟩ [] (k := 1) (fn := Try.f8) rfl rfl rfl rfl rfl rfl ?_
  (repeat' ((try (conv => whnf)); first | (with_reducible first | refine And.intro ?_ ?_ | refine WX.of ?_) | exact zc | ((with_reducible refine VC.mk ?_); exact zw) | ((with_reducible refine VC.mk ?_); (refine ⟨?_, rfl, ?_, ?_⟩); (omega); (refine Int.le_trans (Int.mul_le_mul_of_nonneg_right (b := 100000) ?_ ?_) ?_; (decide); (omega); (omega)); (omega)) | (with_reducible first | refine splitT ?_ | refine splitF ?_) | ((with_reducible refine splitM.mk (fun hsm => ?_) (fun hsm => ?_)) <;> (try exact zx)) | ((with_reducible refine splitB.mk (fun h => ?_) (fun h => ?_)) <;> (try simp only [zs, ne_eq] at h) <;> (try simp (disch := omega) only [w64] at h) <;> (try exact zx)) | (with_reducible intro hz; (try exact absurd hz (Nat.succ_ne_zero _)))))
  refine loopW tabOk (E := [(21, s_toFrac)]) ⟨ok_toFrac, trivial⟩ [] (σ := Nat) (fun i => [(0, .sl 0 s n x), (3, .sl 1 0 n 0), (4, .int .i64 i)]) (fun i => [.arr (.prod (.int .i64) (.int .i64)) l 2 wr, .arr (.prod (.int .i64) (.int .i64)) ((seg l s n).take i ++ List.replicate (n - i) (((0, 0) : Int × Int) : ET.T (.prod (.int .i64) (.int .i64)))) 2 true]) (fun i => n - i) (fun i => i ≤ n) 0 (Nat.zero_le _) ?_ ?_
  · (repeat' ((try (conv => whnf)); first | (with_reducible first | refine And.intro ?_ ?_ | refine WX.of ?_) | exact zc | ((with_reducible refine VC.mk ?_); exact zw) | (with_reducible first | refine splitT ?_ | refine splitF ?_) | ((with_reducible refine splitM.mk (fun hsm => ?_) (fun hsm => ?_)) <;> (try exact zx)) | ((with_reducible refine splitB.mk (fun h => ?_) (fun h => ?_)) <;> (try simp only [zs, ne_eq] at h) <;> (try simp (disch := omega) only [w64] at h) <;> (try exact zx)) | (with_reducible intro hz; (try exact absurd hz (Nat.succ_ne_zero _)))))
    all_goals exact ⟨by simp⟩
  · intro i hi
    by_cases hlt : i < n
    · obtain ⟨⟨p, q⟩, ha⟩ := get_some (l := seg l s n) (i := i) (by omega)
      (repeat' ((try (conv => whnf)); first | (with_reducible first | refine And.intro ?_ ?_ | refine WX.of ?_) | exact zc | ((with_reducible refine VC.mk ?_); exact zw) | refine atL_i ha ?_ | refine atL_0 (fill_at hL hlt) ?_ | (with_reducible first | refine splitT ?_ | refine splitF ?_) | ((with_reducible refine splitM.mk (fun hsm => ?_) (fun hsm => ?_)) <;> (try exact zx)) | ((with_reducible refine splitB.mk (fun h => ?_) (fun h => ?_)) <;> (try simp only [zs, ne_eq] at h) <;> (try simp (disch := omega) only [w64] at h) <;> (try exact zx)) | (with_reducible intro hz; (try exact absurd hz (Nat.succ_ne_zero _)))))
      refine ⟨i + 1, by omega, hlt, ?_⟩
      (repeat' ((try (conv => whnf)); first | (with_reducible first | refine And.intro ?_ ?_ | refine WX.of ?_) | exact zc | ((with_reducible refine VC.mk ?_); exact zw) | (with_reducible first | refine splitT ?_ | refine splitF ?_) | ((with_reducible refine splitM.mk (fun hsm => ?_) (fun hsm => ?_)) <;> (try exact zx)) | ((with_reducible refine splitB.mk (fun h => ?_) (fun h => ?_)) <;> (try simp only [zs, ne_eq] at h) <;> (try simp (disch := omega) only [w64] at h) <;> (try exact zx)) | (with_reducible intro hz; (try exact absurd hz (Nat.succ_ne_zero _)))))
      exact ⟨by simp [fill_step hL ha]⟩
    · (repeat' ((try (conv => whnf)); first | (with_reducible first | refine And.intro ?_ ?_ | refine WX.of ?_) | exact zc | ((with_reducible refine VC.mk ?_); exact zw) | (with_reducible first | refine splitT ?_ | refine splitF ?_) | ((with_reducible refine splitM.mk (fun hsm => ?_) (fun hsm => ?_)) <;> (try exact zx)) | ((with_reducible refine splitB.mk (fun h => ?_) (fun h => ?_)) <;> (try simp only [zs, ne_eq] at h) <;> (try simp (disch := omega) only [w64] at h) <;> (try exact zx)) | (with_reducible intro hz; (try exact absurd hz (Nat.succ_ne_zero _)))))
      obtain rfl : i = n := by omega
      exact ⟨by rw [fill_end hL]⟩
theorem toFracS_none {v : SV} (hv : v = .nils ∨ v = .sl 0 0 0 0) : RunsS Try.prog 8 [v] [.gone] (.sl 1 0 0 0) [.gone, .arr (.prod (.int .i64) (.int .i64)) [] 2 true] := by
  rcases hv with rfl | rfl
  all_goals
    refine funW tabOk (E := [(21, s_toFrac)]) ⟨ok_toFrac, trivial⟩ [] (k := 1) (fn := Try.f8) rfl rfl rfl rfl rfl rfl ?_
    (repeat' ((try (conv => whnf)); first | (with_reducible first | refine And.intro ?_ ?_ | refine WX.of ?_) | exact zc | ((with_reducible refine VC.mk ?_); exact zw) | (with_reducible first | refine splitT ?_ | refine splitF ?_) | ((with_reducible refine splitM.mk (fun hsm => ?_) (fun hsm => ?_)) <;> (try exact zx)) | ((with_reducible refine splitB.mk (fun h => ?_) (fun h => ?_)) <;> (try simp only [zs, ne_eq] at h) <;> (try simp (disch := omega) only [w64] at h) <;> (try exact zx)) | (with_reducible intro hz; (try exact absurd hz (Nat.succ_ne_zero _)))))
    refine loop1 tabOk (E := [(21, s_toFrac)]) ⟨ok_toFrac, trivial⟩ [] ?_
    (repeat' ((try (conv => whnf)); first | (with_reducible first | refine And.intro ?_ ?_ | refine WX.of ?_) | exact zc | ((with_reducible refine VC.mk ?_); exact zw) | (with_reducible first | refine splitT ?_ | refine splitF ?_) | ((with_reducible refine splitM.mk (fun hsm => ?_) (fun hsm => ?_)) <;> (try exact zx)) | ((with_reducible refine splitB.mk (fun h => ?_) (fun h => ?_)) <;> (try simp only [zs, ne_eq] at h) <;> (try simp (disch := omega) only [w64] at h) <;> (try exact zx)) | (with_reducible intro hz; (try exact absurd hz (Nat.succ_ne_zero _)))))
theorem ok_toFracS : SpecOk Try.prog 8 s_toFracS := by
  intro args S h; unfold s_toFracS at h ⊢; (split at h <;> first | exact False.elim h | skip)
  dsimp only at h ⊢
  · exact RunsS.opt (pre := []) (post := []) rfl rfl h.1 (fun hn _ hl => by subst hn; subst hl; exact toFracS_none (.inl rfl)) (fun hn _ hl => by subst hn; subst hl; exact toFracS_none (.inr rfl)) (toFracS_sl ⟨by simpa using h.1, h.2.2⟩) h.2.1
  · exact toFracS_sl h
def s_eqFracS : Spec := fun args S => match args, S with
  | [.sl 0 s n x, .sl 1 s' n' x'], [.arr (.prod (.int .i64) (.int .i64)) l 2 wr, .arr (.prod (.int .i64) (.int .i64)) l' 2 wr'] => ⟨s + n ≤ l.length ∧ s' + n' ≤ l'.length ∧ n ≤ 4611686018427387904, .bool (decide (seg l s n = seg l' s' n')), [.arr (.prod (.int .i64) (.int .i64)) l 2 wr, .arr (.prod (.int .i64) (.int .i64)) l' 2 wr']⟩
  | [.nils, .sl 0 s' n' x'], [.arr (.prod (.int .i64) (.int .i64)) l' 2 wr'] => ⟨s' + n' ≤ l'.length ∧ n' = 0, .bool true, [.arr (.prod (.int .i64) (.int .i64)) l' 2 wr']⟩
  | _, _ => noSpec
theorem eqFracS_nil {s x : Nat} {l : List (ET.T (.prod (.int .i64) (.int .i64)))} {wr : Bool} : RunsS Try.prog 11 [.nils, .sl 0 s 0 x] [.arr (.prod (.int .i64) (.int .i64)) l 2 wr] (.bool true) [.arr (.prod (.int .i64) (.int .i64)) l 2 wr] := by
  refine funW tabOk (E := [(29, s_eqFrac)]) ⟨ok_eqFrac, trivial⟩ [] (k := 1) (fn := Try.f11) rfl rfl rfl rfl rfl rfl ?_
  (repeat' ((try (conv => whnf)); first | (with_reducible first | refine And.intro ?_ ?_ | refine WX.of ?_) | exact zc | ((with_reducible refine VC.mk ?_); exact zw) | (with_reducible first | refine splitT ?_ | refine splitF ?_) | ((with_reducible refine splitM.mk (fun hsm => ?_) (fun hsm => ?_)) <;> (try exact zx)) | ((with_reducible refine splitB.mk (fun h => ?_) (fun h => ?_)) <;> (try simp only [zs, ne_eq] at h) <;> (try simp (disch := omega) only [w64] at h) <;> (try exact zx)) | (with_reducible intro hz; (try exact absurd hz (Nat.succ_ne_zero _)))))
  refine loop1 tabOk (E := [(29, s_eqFrac)]) ⟨ok_eqFrac, trivial⟩ [] ?_
  (repeat' ((try (conv => whnf)); first | (with_reducible first | refine And.intro ?_ ?_ | refine WX.of ?_) | exact zc | ((with_reducible refine VC.mk ?_); exact zw) | (with_reducible first | refine splitT ?_ | refine splitF ?_) | ((with_reducible refine splitM.mk (fun hsm => ?_) (fun hsm => ?_)) <;> (try exact zx)) | ((with_reducible refine splitB.mk (fun h => ?_) (fun h => ?_)) <;> (try simp only [zs, ne_eq] at h) <;> (try simp (disch := omega) only [w64] at h) <;> (try exact zx)) | (with_reducible intro hz; (try exact absurd hz (Nat.succ_ne_zero _)))))
theorem ok_eqFracS : SpecOk Try.prog 11 s_eqFracS := by
  intro args S h; unfold s_eqFracS at h ⊢; (split at h <;> first | exact False.elim h | skip)
  dsimp only at h ⊢
  rotate_left 1
  · obtain ⟨h1, rfl⟩ := h
    exact eqFracS_nil
  rename_i s n x s' n' x' l wr l' wr'
  have hL := seg_len h.1
  have hM := seg_len h.2.1
  refine funW tabOk (E := [(29, s_eqFrac)]) ⟨ok_eqFrac, trivial⟩ [] (k := 2) (fn := Try.f11) rfl rfl rfl rfl rfl rfl ?_
  (repeat' ((try (conv => whnf)); first | (with_reducible first | refine And.intro ?_ ?_ | refine WX.of ?_) | exact zc | ((with_reducible refine VC.mk ?_); exact zw) | (with_reducible first | refine splitT ?_ | refine splitF ?_) | ((with_reducible refine splitM.mk (fun hsm => ?_) (fun hsm => ?_)) <;> (try exact zx)) | ((with_reducible refine splitB.mk (fun h => ?_) (fun h => ?_)) <;> (try simp only [zs, ne_eq] at h) <;> (try simp (disch := omega) only [w64] at h) <;> (try exact zx)) | (with_reducible intro hz; (try exact absurd hz (Nat.succ_ne_zero _)))))
  · refine ⟨?_⟩
    rw [decide_eq_false]; intro e
    rw [e] at hL; omega
  · obtain rfl : n = n' := by omega
    refine loopW tabOk (E := [(29, s_eqFrac)]) ⟨ok_eqFrac, trivial⟩ [] (σ := Nat) (fun i => [(0, .sl 0 s n x), (1, .sl 1 s' n x'), (5, .int .i64 i)]) (fun i => [.arr (.prod (.int .i64) (.int .i64)) l 2 wr, .arr (.prod (.int .i64) (.int .i64)) l' 2 wr']) (fun i => n - i) (fun i => i ≤ n ∧ (seg l s n).take i = (seg l' s' n).take i) 0 ⟨Nat.zero_le _, by simp⟩ ?_ ?_
    · (repeat' ((try (conv => whnf)); first | (with_reducible first | refine And.intro ?_ ?_ | refine WX.of ?_) | exact zc | ((with_reducible refine VC.mk ?_); exact zw) | (with_reducible first | refine splitT ?_ | refine splitF ?_) | ((with_reducible refine splitM.mk (fun hsm => ?_) (fun hsm => ?_)) <;> (try exact zx)) | ((with_reducible refine splitB.mk (fun h => ?_) (fun h => ?_)) <;> (try simp only [zs, ne_eq] at h) <;> (try simp (disch := omega) only [w64] at h) <;> (try exact zx)) | (with_reducible intro hz; (try exact absurd hz (Nat.succ_ne_zero _)))))
    · intro i ⟨hi, hp⟩
      by_cases hlt : i < n
      · obtain ⟨⟨p, q⟩, ha⟩ := get_some (l := seg l s n) (i := i) (by omega)
        obtain ⟨⟨p', q'⟩, hb⟩ := get_some (l := seg l' s' n) (i := i) (by omega)
        (repeat' ((try (conv => whnf)); first | (with_reducible first | refine And.intro ?_ ?_ | refine WX.of ?_) | exact zc | ((with_reducible refine VC.mk ?_); exact zw) | refine atL_i ha ?_ | refine atL_i hb ?_ | (with_reducible first | refine splitT ?_ | refine splitF ?_) | ((with_reducible refine splitM.mk (fun hsm => ?_) (fun hsm => ?_)) <;> (try exact zx)) | ((with_reducible refine splitB.mk (fun h => ?_) (fun h => ?_)) <;> (try simp only [zs, ne_eq] at h) <;> (try simp (disch := omega) only [w64] at h) <;> (try exact zx)) | (with_reducible intro hz; (try exact absurd hz (Nat.succ_ne_zero _)))))
        · refine ⟨?_⟩; rw [decide_eq_false]; exact same_not ha hb (by simpa using h)
        · refine ⟨i + 1, by omega, ⟨hlt, same_step ha hb hp (by simpa using h)⟩, ?_⟩
          (repeat' ((try (conv => whnf)); first | (with_reducible first | refine And.intro ?_ ?_ | refine WX.of ?_) | exact zc | ((with_reducible refine VC.mk ?_); exact zw) | (with_reducible first | refine splitT ?_ | refine splitF ?_) | ((with_reducible refine splitM.mk (fun hsm => ?_) (fun hsm => ?_)) <;> (try exact zx)) | ((with_reducible refine splitB.mk (fun h => ?_) (fun h => ?_)) <;> (try simp only [zs, ne_eq] at h) <;> (try simp (disch := omega) only [w64] at h) <;> (try exact zx)) | (with_reducible intro hz; (try exact absurd hz (Nat.succ_ne_zero _)))))
      · (repeat' ((try (conv => whnf)); first | (with_reducible first | refine And.intro ?_ ?_ | refine WX.of ?_) | exact zc | ((with_reducible refine VC.mk ?_); exact zw) | (with_reducible first | refine splitT ?_ | refine splitF ?_) | ((with_reducible refine splitM.mk (fun hsm => ?_) (fun hsm => ?_)) <;> (try exact zx)) | ((with_reducible refine splitB.mk (fun h => ?_) (fun h => ?_)) <;> (try simp only [zs, ne_eq] at h) <;> (try simp (disch := omega) only [w64] at h) <;> (try exact zx)) | (with_reducible intro hz; (try exact absurd hz (Nat.succ_ne_zero _)))))
        obtain rfl : i = n := by omega
        refine ⟨?_⟩; rw [decide_eq_true]; exact same_end hL hM hp
def s_szFracS : Spec := fun args S => match args, S with
  | [.opt c 0 n 0, .int .i64 k], [.arrO (.prod (.int .i64) (.int .i64)) l 2] => ⟨(0 ≤ k ∧ k ≤ 1048576) ∧ n ≤ 9223372036854775807, .int .i64 (max (-1) (k - n)), [.arrO (.prod (.int .i64) (.int .i64)) l 2]⟩
  | _, _ => noSpec
theorem ok_szFracS : SpecOk Try.prog 5 s_szFracS := by
  intro args S h; unfold s_szFracS at h ⊢; (split at h <;> first | exact False.elim h | skip)
  dsimp only at h ⊢
  refine funW tabOk (E := []) trivial [] (k := 1) (fn := Try.f5) rfl rfl rfl rfl rfl rfl ?_
  (repeat' ((try (conv => whnf)); first | (with_reducible first | refine And.intro ?_ ?_ | refine WX.of ?_) | exact zc | ((with_reducible refine VC.mk ?_); exact zw) | (with_reducible first | refine splitT ?_ | refine splitF ?_) | ((with_reducible refine splitM.mk (fun hsm => ?_) (fun hsm => ?_)) <;> (try exact zx)) | ((with_reducible refine splitB.mk (fun h => ?_) (fun h => ?_)) <;> (try simp only [zs, ne_eq] at h) <;> (try simp (disch := omega) only [w64] at h) <;> (try exact zx)) | (with_reducible intro hz; (try exact absurd hz (Nat.succ_ne_zero _)))))
  all_goals (refine ⟨?_⟩; (try rw [w64 (by omega)]); congr 1; omega)
def s_nfOk : Spec := fun args S => match args, S with
  | [.agg [.int .i64 p, .int .i64 q]], [] => ⟨True, .bool (!fOk p q), []⟩
  | _, _ => noSpec
theorem ok_areValid1 : SpecOk Try.prog 54 s_nfOk := by
  intro args S h; unfold s_nfOk at h ⊢; (split at h <;> first | exact False.elim h | skip)
  dsimp only at h ⊢
  refine funW tabOk (E := [(47, s_fOk)]) ⟨ok_ValidFrac, trivial⟩ [] (k := 0) (fn := Try.f54) rfl rfl rfl rfl rfl rfl ?_
  (repeat' ((try (conv => whnf)); first | (with_reducible first | refine And.intro ?_ ?_ | refine WX.of ?_) | exact zc | ((with_reducible refine VC.mk ?_); exact zw) | (with_reducible first | refine splitT ?_ | refine splitF ?_) | ((with_reducible refine splitM.mk (fun hsm => ?_) (fun hsm => ?_)) <;> (try exact zx)) | ((with_reducible refine splitB.mk (fun h => ?_) (fun h => ?_)) <;> (try simp only [zs, ne_eq] at h) <;> (try simp (disch := omega) only [w64] at h) <;> (try exact zx)) | (with_reducible intro hz; (try exact absurd hz (Nat.succ_ne_zero _)))))
def nfOk (a : Int × Int) : Bool := !fOk a.1 a.2
def s_idxF (g : Nat) : Spec := fun args S => match args, S with
  | [.sl 0 s n x, .fn g' []], [.arr (.prod (.int .i64) (.int .i64)) l 2 wr] => ⟨g' = g ∧ s + n ≤ l.length ∧ n ≤ 4611686018427387904, .int .i64 (findI nfOk (seg l s n)), [.arr (.prod (.int .i64) (.int .i64)) l 2 wr]⟩
  | _, _ => noSpec
theorem ok_idxF : SpecOk Try.prog 74 (s_idxF 54) := by
  intro args S h; unfold s_idxF at h ⊢; (split at h <;> first | exact False.elim h | skip)
  dsimp only at h ⊢
  rename_i s n x g l wr
  obtain ⟨rfl, h1, h2⟩ := h
  have hL := seg_len h1
  refine funW tabOk (E := [(54, s_nfOk)]) ⟨ok_areValid1, trivial⟩ [] (k := 1) (fn := Try.f74) rfl rfl rfl rfl rfl rfl ?_
  (repeat' ((try (conv => whnf)); first | (with_reducible first | refine And.intro ?_ ?_ | refine WX.of ?_) | exact zc | ((with_reducible refine VC.mk ?_); exact zw) | (with_reducible first | refine splitT ?_ | refine splitF ?_) | ((with_reducible refine splitM.mk (fun hsm => ?_) (fun hsm => ?_)) <;> (try exact zx)) | ((with_reducible refine splitB.mk (fun h => ?_) (fun h => ?_)) <;> (try simp only [zs, ne_eq] at h) <;> (try simp (disch := omega) only [w64] at h) <;> (try exact zx)) | (with_reducible intro hz; (try exact absurd hz (Nat.succ_ne_zero _)))))
  refine loopW tabOk (E := [(54, s_nfOk)]) ⟨ok_areValid1, trivial⟩ [] (σ := Nat) (fun i => [(0, .sl 0 s n x), (1, .fn 54 []), (7, .int .i64 n), (8, .int .i64 i)]) (fun i => [.arr (.prod (.int .i64) (.int .i64)) l 2 wr]) (fun i => n - i) (fun i => i ≤ n ∧ ∀ (j : Nat) a, j < i → (seg l s n)[j]? = some a → nfOk a = false) 0 ⟨Nat.zero_le _, fun j a hj => by omega⟩ ?_ ?_
  · (repeat' ((try (conv => whnf)); first | (with_reducible first | refine And.intro ?_ ?_ | refine WX.of ?_) | exact zc | ((with_reducible refine VC.mk ?_); exact zw) | (with_reducible first | refine splitT ?_ | refine splitF ?_) | ((with_reducible refine splitM.mk (fun hsm => ?_) (fun hsm => ?_)) <;> (try exact zx)) | ((with_reducible refine splitB.mk (fun h => ?_) (fun h => ?_)) <;> (try simp only [zs, ne_eq] at h) <;> (try simp (disch := omega) only [w64] at h) <;> (try exact zx)) | (with_reducible intro hz; (try exact absurd hz (Nat.succ_ne_zero _)))))
  · intro i ⟨hi, hp⟩
    by_cases hlt : i < n
    · obtain ⟨a, ha⟩ := get_some (l := seg l s n) (i := i) (by omega)
      (repeat' ((try (conv => whnf)); first | (with_reducible first | refine And.intro ?_ ?_ | refine WX.of ?_) | exact zc | ((with_reducible refine VC.mk ?_); exact zw) | refine atL_i ha ?_ | (with_reducible first | refine splitT ?_ | refine splitF ?_) | ((with_reducible refine splitM.mk (fun hsm => ?_) (fun hsm => ?_)) <;> (try exact zx)) | ((with_reducible refine splitB.mk (fun h => ?_) (fun h => ?_)) <;> (try simp only [zs, ne_eq] at h) <;> (try simp (disch := omega) only [w64] at h) <;> (try exact zx)) | (with_reducible intro hz; (try exact absurd hz (Nat.succ_ne_zero _)))))
      · exact ⟨by rw [findI_some ha (by simpa [nfOk] using h) hp]⟩
      · refine ⟨i + 1, by omega, ⟨hlt, upto_step ha (by simpa [nfOk] using h) hp⟩, ?_⟩
        (repeat' ((try (conv => whnf)); first | (with_reducible first | refine And.intro ?_ ?_ | refine WX.of ?_) | exact zc | ((with_reducible refine VC.mk ?_); exact zw) | (with_reducible first | refine splitT ?_ | refine splitF ?_) | ((with_reducible refine splitM.mk (fun hsm => ?_) (fun hsm => ?_)) <;> (try exact zx)) | ((with_reducible refine splitB.mk (fun h => ?_) (fun h => ?_)) <;> (try simp only [zs, ne_eq] at h) <;> (try simp (disch := omega) only [w64] at h) <;> (try exact zx)) | (with_reducible intro hz; (try exact absurd hz (Nat.succ_ne_zero _)))))
    · (repeat' ((try (conv => whnf)); first | (with_reducible first | refine And.intro ?_ ?_ | refine WX.of ?_) | exact zc | ((with_reducible refine VC.mk ?_); exact zw) | (with_reducible first | refine splitT ?_ | refine splitF ?_) | ((with_reducible refine splitM.mk (fun hsm => ?_) (fun hsm => ?_)) <;> (try exact zx)) | ((with_reducible refine splitB.mk (fun h => ?_) (fun h => ?_)) <;> (try simp only [zs, ne_eq] at h) <;> (try simp (disch := omega) only [w64] at h) <;> (try exact zx)) | (with_reducible intro hz; (try exact absurd hz (Nat.succ_ne_zero _)))))
      exact ⟨by rw [findI_none fun j a hj => hp j a (by have := (List.getElem?_eq_some_iff.1 hj).1; omega) hj]⟩
def s_anyF (g : Nat) : Spec := fun args S => match args, S with
  | [.sl 0 s n x, .fn g' []], [.arr (.prod (.int .i64) (.int .i64)) l 2 wr] => ⟨g' = g ∧ s + n ≤ l.length ∧ n ≤ 4611686018427387904, .bool ((seg l s n).any nfOk), [.arr (.prod (.int .i64) (.int .i64)) l 2 wr]⟩
  | _, _ => noSpec
theorem ok_anyF : SpecOk Try.prog 53 (s_anyF 54) := by
  intro args S h; unfold s_anyF at h ⊢; (split at h <;> first | exact False.elim h | skip)
  dsimp only at h ⊢
  rename_i s n x g l wr
  obtain ⟨rfl, h1, h2⟩ := h
  refine funW tabOk (E := [(74, (s_idxF 54))]) ⟨ok_idxF, trivial⟩ [] (k := 1) (fn := Try.f53) rfl rfl rfl rfl rfl rfl ?_
  (repeat' ((try (conv => whnf)); first | (with_reducible first | refine And.intro ?_ ?_ | refine WX.of ?_) | exact zc | ((with_reducible refine VC.mk ?_); exact zw) | (with_reducible first | refine splitT ?_ | refine splitF ?_) | ((with_reducible refine splitM.mk (fun hsm => ?_) (fun hsm => ?_)) <;> (try exact zx)) | ((with_reducible refine splitB.mk (fun h => ?_) (fun h => ?_)) <;> (try simp only [zs, ne_eq] at h) <;> (try simp (disch := omega) only [w64] at h) <;> (try exact zx)) | (with_reducible intro hz; (try exact absurd hz (Nat.succ_ne_zero _)))))
  exact ⟨by rw [findI_any]⟩
/-- Valid fractions. -/
def allF (L : List (Int × Int)) : Bool := L.all fun a => fOk a.1 a.2
def s_allF : Spec := fun args S => match args, S with
  | [.sl 0 s n x], [.arr (.prod (.int .i64) (.int .i64)) l 2 wr] => ⟨s + n ≤ l.length ∧ n ≤ 4611686018427387904, .bool (allF (seg l s n)), [.arr (.prod (.int .i64) (.int .i64)) l 2 wr]⟩
  | _, _ => noSpec
theorem ok_areValid : SpecOk Try.prog 24 s_allF := by
  intro args S h; unfold s_allF at h ⊢; (split at h <;> first | exact False.elim h | skip)
  dsimp only at h ⊢
  refine funW tabOk (E := [(53, (s_anyF 54))]) ⟨ok_anyF, trivial⟩ [] (k := 1) (fn := Try.f24) rfl rfl rfl rfl rfl rfl ?_
  (repeat' ((try (conv => whnf)); first | (with_reducible first | refine And.intro ?_ ?_ | refine WX.of ?_) | exact zc | ((with_reducible refine VC.mk ?_); exact zw) | (with_reducible first | refine splitT ?_ | refine splitF ?_) | ((with_reducible refine splitM.mk (fun hsm => ?_) (fun hsm => ?_)) <;> (try exact zx)) | ((with_reducible refine splitB.mk (fun h => ?_) (fun h => ?_)) <;> (try simp only [zs, ne_eq] at h) <;> (try simp (disch := omega) only [w64] at h) <;> (try exact zx)) | (with_reducible intro hz; (try exact absurd hz (Nat.succ_ne_zero _)))))
  all_goals (refine ⟨?_⟩; unfold allF; rw [List.all_eq_not_any_not]; rfl)
/-- A name of 1 to 12 letters. -/
def letB (c : UInt8) : Bool := decide (97 ≤ c.toNat ∧ c.toNat ≤ 122)
def wordB (s : List UInt8) : Bool := decide (1 ≤ s.length ∧ s.length ≤ 12) && s.all letB
def s_word : Spec := fun args S => match args, S with
  | [.str s], [] => ⟨s.length ≤ 9223372036854775807, .bool (wordB s), []⟩
  | _, _ => noSpec
theorem word_no {s : List UInt8} {i : Nat} {c : UInt8} (h : s[i]? = some c) (hc : letB c = false) : wordB s = false := by
  unfold wordB
  have : s.all letB = false := by
    rw [List.all_eq_false]
    exact ⟨c, List.mem_of_getElem? h, by simp [hc]⟩
  rw [this]; simp
theorem word_all {s : List UInt8} (h : ∀ (j : Nat) c, s[j]? = some c → letB c = true) : s.all letB = true := by
  rw [List.all_eq_true]
  intro c hc
  obtain ⟨j, hj⟩ := List.getElem?_of_mem hc
  exact h j c hj
theorem ok_isWord : SpecOk Try.prog 44 s_word := by
  intro args S h; unfold s_word at h ⊢; (split at h <;> first | exact False.elim h | skip)
  dsimp only at h ⊢
  rename_i s
  refine funW tabOk (E := [(67, s_within)]) ⟨ok_within, trivial⟩ [] (k := 0) (fn := Try.f44) rfl rfl rfl rfl rfl rfl ?_
  (repeat' ((try (conv => whnf)); first | (with_reducible first | refine And.intro ?_ ?_ | refine WX.of ?_) | exact zc | ((with_reducible refine VC.mk ?_); exact zw) | (with_reducible first | refine splitT ?_ | refine splitF ?_) | ((with_reducible refine splitM.mk (fun hsm => ?_) (fun hsm => ?_)) <;> (try exact zx)) | ((with_reducible refine splitB.mk (fun h => ?_) (fun h => ?_)) <;> (try simp only [zs, ne_eq] at h) <;> (try simp (disch := omega) only [w64] at h) <;> (try exact zx)) | (with_reducible intro hz; (try exact absurd hz (Nat.succ_ne_zero _)))))
  refine loopW tabOk (E := [(67, s_within)]) ⟨ok_within, trivial⟩ [] (σ := Nat) (fun i => [(0, .str s), (5, .int .i64 s.length), (6, .int .i64 i)]) (fun i => []) (fun i => s.length - i) (fun i => i ≤ s.length ∧ ∀ (j : Nat) c, j < i → s[j]? = some c → letB c = true) 0 ⟨Nat.zero_le _, fun j a hj => by omega⟩ ?_ ?_
  · (repeat' ((try (conv => whnf)); first | (with_reducible first | refine And.intro ?_ ?_ | refine WX.of ?_) | exact zc | ((with_reducible refine VC.mk ?_); exact zw) | (with_reducible first | refine splitT ?_ | refine splitF ?_) | ((with_reducible refine splitM.mk (fun hsm => ?_) (fun hsm => ?_)) <;> (try exact zx)) | ((with_reducible refine splitB.mk (fun h => ?_) (fun h => ?_)) <;> (try simp only [zs, ne_eq] at h) <;> (try simp (disch := omega) only [w64] at h) <;> (try exact zx)) | (with_reducible intro hz; (try exact absurd hz (Nat.succ_ne_zero _)))))
  · intro i ⟨hi, hp⟩
    by_cases hlt : i < s.length
    · obtain ⟨c, hc⟩ := get_some (l := s) (i := i) (by omega)
      (repeat' ((try (conv => whnf)); first | (with_reducible first | refine And.intro ?_ ?_ | refine WX.of ?_) | exact zc | ((with_reducible refine VC.mk ?_); exact zw) | refine atL_n hc ?_ | (with_reducible first | refine splitT ?_ | refine splitF ?_) | ((with_reducible refine splitM.mk (fun hsm => ?_) (fun hsm => ?_)) <;> (try exact zx)) | ((with_reducible refine splitB.mk (fun h => ?_) (fun h => ?_)) <;> (try simp only [zs, ne_eq] at h) <;> (try simp (disch := omega) only [w64] at h) <;> (try exact zx)) | (with_reducible intro hz; (try exact absurd hz (Nat.succ_ne_zero _)))))
      · exact ⟨by rw [word_no hc (by unfold letB; rw [decide_eq_false]; omega)]⟩
      · exact ⟨by rw [word_no hc (by unfold letB; rw [decide_eq_false]; omega)]⟩
      · refine ⟨i + 1, by omega, ⟨hlt, upto_step hc (by unfold letB; rw [decide_eq_true]; omega) hp⟩, ?_⟩
        (repeat' ((try (conv => whnf)); first | (with_reducible first | refine And.intro ?_ ?_ | refine WX.of ?_) | exact zc | ((with_reducible refine VC.mk ?_); exact zw) | (with_reducible first | refine splitT ?_ | refine splitF ?_) | ((with_reducible refine splitM.mk (fun hsm => ?_) (fun hsm => ?_)) <;> (try exact zx)) | ((with_reducible refine splitB.mk (fun h => ?_) (fun h => ?_)) <;> (try simp only [zs, ne_eq] at h) <;> (try simp (disch := omega) only [w64] at h) <;> (try exact zx)) | (with_reducible intro hz; (try exact absurd hz (Nat.succ_ne_zero _)))))
    · (repeat' ((try (conv => whnf)); first | (with_reducible first | refine And.intro ?_ ?_ | refine WX.of ?_) | exact zc | ((with_reducible refine VC.mk ?_); exact zw) | (with_reducible first | refine splitT ?_ | refine splitF ?_) | ((with_reducible refine splitM.mk (fun hsm => ?_) (fun hsm => ?_)) <;> (try exact zx)) | ((with_reducible refine splitB.mk (fun h => ?_) (fun h => ?_)) <;> (try simp only [zs, ne_eq] at h) <;> (try simp (disch := omega) only [w64] at h) <;> (try exact zx)) | (with_reducible intro hz; (try exact absurd hz (Nat.succ_ne_zero _)))))
      have ha := word_all fun j c hj => hp j c (by have := (List.getElem?_eq_some_iff.1 hj).1; omega) hj
      refine ⟨congrArg SV.bool ?_⟩
      unfold wordB; rw [ha, Bool.and_true, decide_eq_decide]; omega
/-- Comparing. -/
def cmpF (p q p' q' : Int) : Int := if p * q' < p' * q then -1 else if p * q' > p' * q then 1 else 0
def s_cmp : Spec := fun args S => match args, S with
  | [.agg [.int .i64 p, .int .i64 q], .agg [.int .i64 p', .int .i64 q']], [] => ⟨smF p q ∧ smF p' q', .int .i64 (cmpF p q p' q'), []⟩
  | _, _ => noSpec
theorem ok_compare : SpecOk Try.prog 48 s_cmp := by
  intro args S h; unfold s_cmp at h ⊢; (split at h <;> first | exact False.elim h | skip)
  dsimp only at h ⊢
  rename_i p q p' q'
  have hm := smF_mul h.1 h.2
  have hm' := smF_mul h.2 h.1
  refine funW tabOk (E := []) trivial [] (k := 0) (fn := Try.f48) rfl rfl rfl rfl rfl rfl ?_
  (repeat' ((try (conv => whnf)); first | (with_reducible first | refine And.intro ?_ ?_ | refine WX.of ?_) | exact zc | ((with_reducible refine VC.mk ?_); exact zw) | (with_reducible first | refine splitT ?_ | refine splitF ?_) | ((with_reducible refine splitM.mk (fun hsm => ?_) (fun hsm => ?_)) <;> (try exact zx)) | ((with_reducible refine splitB.mk (fun h => ?_) (fun h => ?_)) <;> (try simp only [zs, ne_eq] at h) <;> (try simp (disch := omega) only [w64] at h) <;> (try exact zx)) | (with_reducible intro hz; (try exact absurd hz (Nat.succ_ne_zero _)))))
  all_goals (refine ⟨?_⟩; unfold cmpF; first | (rw [if_pos (by omega)]; done) | (rw [if_neg (by omega), if_pos (by omega)]; done) | (rw [if_neg (by omega), if_neg (by omega)]))
theorem ok_l01Cmp : SpecOk Try.prog 62 s_cmp := by
  intro args S h; unfold s_cmp at h ⊢; (split at h <;> first | exact False.elim h | skip)
  dsimp only at h ⊢
  rename_i p q p' q'
  have hm := smF_mul h.1 h.2
  have hm' := smF_mul h.2 h.1
  refine funW tabOk (E := []) trivial [] (k := 0) (fn := Try.f62) rfl rfl rfl rfl rfl rfl ?_
  (repeat' ((try (conv => whnf)); first | (with_reducible first | refine And.intro ?_ ?_ | refine WX.of ?_) | exact zc | ((with_reducible refine VC.mk ?_); exact zw) | (with_reducible first | refine splitT ?_ | refine splitF ?_) | ((with_reducible refine splitM.mk (fun hsm => ?_) (fun hsm => ?_)) <;> (try exact zx)) | ((with_reducible refine splitB.mk (fun h => ?_) (fun h => ?_)) <;> (try simp only [zs, ne_eq] at h) <;> (try simp (disch := omega) only [w64] at h) <;> (try exact zx)) | (with_reducible intro hz; (try exact absurd hz (Nat.succ_ne_zero _)))))
  all_goals (refine ⟨?_⟩; unfold cmpF; first | (rw [if_pos (by omega)]; done) | (rw [if_neg (by omega), if_pos (by omega)]; done) | (rw [if_neg (by omega), if_neg (by omega)]))
theorem cmpF_le {p q p' q' : Int} : cmpF p q p' q' ≤ 0 ↔ p * q' ≤ p' * q := by unfold cmpF; (repeat' split) <;> omega
theorem cmpF_gt {p q p' q' : Int} : 0 < cmpF p q p' q' ↔ p' * q < p * q' := by unfold cmpF; (repeat' split) <;> omega
end Go.Proofs.Yteniodjodngkbaa.Eng
set_option linter.unusedVariables false
set_option linter.unusedSimpArgs false
namespace Go.Proofs.Yteniodjodngkbaa.Eng
open Go Go.RowKit
set_option maxRecDepth 100000
abbrev ThT : Type := List UInt8 × (Int × Int) × (Int × Int)
def s_toThing : Spec := fun args S => match args, S with
  | [.agg [.str nm, .int .i64 p, .int .i64 q, .int .i64 r, .int .i64 s]], [] => ⟨True, .agg [.str nm, .int .i64 p, .int .i64 q, .int .i64 r, .int .i64 s], []⟩
  | _, _ => noSpec
theorem ok_toThing : SpecOk Try.prog 43 s_toThing := by
  intro args S h; unfold s_toThing at h ⊢; (split at h <;> first | exact False.elim h | skip)
  dsimp only at h ⊢
  refine funW tabOk (E := [(21, s_toFrac)]) ⟨ok_toFrac, trivial⟩ [] (k := 0) (fn := Try.f43) rfl rfl rfl rfl rfl rfl ?_
  (repeat' ((try (conv => whnf)); first | (with_reducible first | refine And.intro ?_ ?_ | refine WX.of ?_) | exact zc | ((with_reducible refine VC.mk ?_); exact zw) | (with_reducible first | refine splitT ?_ | refine splitF ?_) | ((with_reducible refine splitM.mk (fun hsm => ?_) (fun hsm => ?_)) <;> (try exact zx)) | ((with_reducible refine splitB.mk (fun h => ?_) (fun h => ?_)) <;> (try simp only [zs, ne_eq] at h) <;> (try simp (disch := omega) only [w64] at h) <;> (try exact zx)) | (with_reducible intro hz; (try exact absurd hz (Nat.succ_ne_zero _)))))
def s_eqThing : Spec := fun args S => match args, S with
  | [.agg [.str nm, .int .i64 p, .int .i64 q, .int .i64 r, .int .i64 s], .agg [.str nm', .int .i64 p', .int .i64 q', .int .i64 r', .int .i64 s']], [] => ⟨True, .bool (decide (nm = nm') && (decide (p = p') && decide (q = q')) && (decide (r = r') && decide (s = s'))), []⟩
  | _, _ => noSpec
theorem ok_eqThing : SpecOk Try.prog 56 s_eqThing := by
  intro args S h; unfold s_eqThing at h ⊢; (split at h <;> first | exact False.elim h | skip)
  dsimp only at h ⊢
  refine funW tabOk (E := [(29, s_eqFrac)]) ⟨ok_eqFrac, trivial⟩ [] (k := 0) (fn := Try.f56) rfl rfl rfl rfl rfl rfl ?_
  (repeat' ((try (conv => whnf)); first | (with_reducible first | refine And.intro ?_ ?_ | refine WX.of ?_) | exact zc | ((with_reducible refine VC.mk ?_); exact zw) | (with_reducible first | refine splitT ?_ | refine splitF ?_) | ((with_reducible refine splitM.mk (fun hsm => ?_) (fun hsm => ?_)) <;> (try exact zx)) | ((with_reducible refine splitB.mk (fun h => ?_) (fun h => ?_)) <;> (try simp only [zs, ne_eq] at h) <;> (try simp (disch := omega) only [w64] at h) <;> (try exact zx)) | (with_reducible intro hz; (try exact absurd hz (Nat.succ_ne_zero _)))))
  all_goals (refine ⟨?_⟩; simp_all)
def s_toThingS : Spec := fun args S => match args, S with
  | [.opt c 0 n 0], [.arrO (.prod .str (.prod (.prod (.int .i64) (.int .i64)) (.prod (.int .i64) (.int .i64)))) l 5] => ⟨n ≤ l.length ∧ (c = true → l = []) ∧ n ≤ 1048576, .sl 1 0 n 0, [.arrO (.prod .str (.prod (.prod (.int .i64) (.int .i64)) (.prod (.int .i64) (.int .i64)))) l 5, .arr (.prod .str (.prod (.prod (.int .i64) (.int .i64)) (.prod (.int .i64) (.int .i64)))) (seg l 0 n) 5 true]⟩
  | [.sl 0 s n x], [.arr (.prod .str (.prod (.prod (.int .i64) (.int .i64)) (.prod (.int .i64) (.int .i64)))) l 5 wr] => ⟨s + n ≤ l.length ∧ n ≤ 1048576, .sl 1 0 n 0, [.arr (.prod .str (.prod (.prod (.int .i64) (.int .i64)) (.prod (.int .i64) (.int .i64)))) l 5 wr, .arr (.prod .str (.prod (.prod (.int .i64) (.int .i64)) (.prod (.int .i64) (.int .i64)))) (seg l s n) 5 true]⟩
  | _, _ => noSpec
theorem toThingS_sl {s n x : Nat} {l : List (ET.T (.prod .str (.prod (.prod (.int .i64) (.int .i64)) (.prod (.int .i64) (.int .i64)))))} {wr : Bool} (h : s + n ≤ l.length ∧ n ≤ 1048576) : RunsS Try.prog 22 [.sl 0 s n x] [.arr (.prod .str (.prod (.prod (.int .i64) (.int .i64)) (.prod (.int .i64) (.int .i64)))) l 5 wr] (.sl 1 0 n 0) [.arr (.prod .str (.prod (.prod (.int .i64) (.int .i64)) (.prod (.int .i64) (.int .i64)))) l 5 wr, .arr (.prod .str (.prod (.prod (.int .i64) (.int .i64)) (.prod (.int .i64) (.int .i64)))) (seg l s n) 5 true] := by
  have hL := seg_len h.1
  refine funW tabOk (E := [(43, s_toThing)]) ⟨ok_toThing, trivial⟩ [] (k := 1) (fn := Try.f22) rfl rfl rfl rfl rfl rfl ?_
  (repeat' ((try (conv => whnf)); first | (with_reducible first | refine And.intro ?_ ?_ | refine WX.of ?_) | exact zc | ((with_reducible refine VC.mk ?_); exact zw) | ((with_reducible refine VC.mk ?_); (refine ⟨?_, rfl, ?_, ?_⟩); (omega); (refine Int.le_trans (Int.mul_le_mul_of_nonneg_right (b := 100000) ?_ ?_) ?_; (decide); (omega); (omega)); (omega)) | (with_reducible first | refine splitT ?_ | refine splitF ?_) | ((with_reducible refine splitM.mk (fun hsm => ?_) (fun hsm => ?_)) <;> (try exact zx)) | ((with_reducible refine splitB.mk (fun h => ?_) (fun h => ?_)) <;> (try simp only [zs, ne_eq] at h) <;> (try simp (disch := omega) only [w64] at h) <;> (try exact zx)) | (with_reducible intro hz; (try exact absurd hz (Nat.succ_ne_zero _)))))
  refine loopW tabOk (E := [(43, s_toThing)]) ⟨ok_toThing, trivial⟩ [] (σ := Nat) (fun i => [(0, .sl 0 s n x), (3, .sl 1 0 n 0), (4, .int .i64 i)]) (fun i => [.arr (.prod .str (.prod (.prod (.int .i64) (.int .i64)) (.prod (.int .i64) (.int .i64)))) l 5 wr, .arr (.prod .str (.prod (.prod (.int .i64) (.int .i64)) (.prod (.int .i64) (.int .i64)))) ((seg l s n).take i ++ List.replicate (n - i) ((([], (0, 0), 0, 0) : List UInt8 × (Int × Int) × (Int × Int)) : ET.T (.prod .str (.prod (.prod (.int .i64) (.int .i64)) (.prod (.int .i64) (.int .i64)))))) 5 true]) (fun i => n - i) (fun i => i ≤ n) 0 (Nat.zero_le _) ?_ ?_
  · (repeat' ((try (conv => whnf)); first | (with_reducible first | refine And.intro ?_ ?_ | refine WX.of ?_) | exact zc | ((with_reducible refine VC.mk ?_); exact zw) | (with_reducible first | refine splitT ?_ | refine splitF ?_) | ((with_reducible refine splitM.mk (fun hsm => ?_) (fun hsm => ?_)) <;> (try exact zx)) | ((with_reducible refine splitB.mk (fun h => ?_) (fun h => ?_)) <;> (try simp only [zs, ne_eq] at h) <;> (try simp (disch := omega) only [w64] at h) <;> (try exact zx)) | (with_reducible intro hz; (try exact absurd hz (Nat.succ_ne_zero _)))))
    all_goals exact ⟨by simp⟩
  · intro i hi
    by_cases hlt : i < n
    · obtain ⟨⟨nm, ⟨p, q⟩, r, s⟩, ha⟩ := get_some (l := seg l s n) (i := i) (by omega)
      (repeat' ((try (conv => whnf)); first | (with_reducible first | refine And.intro ?_ ?_ | refine WX.of ?_) | exact zc | ((with_reducible refine VC.mk ?_); exact zw) | refine atL_i ha ?_ | refine atL_0 (fill_at hL hlt) ?_ | (with_reducible first | refine splitT ?_ | refine splitF ?_) | ((with_reducible refine splitM.mk (fun hsm => ?_) (fun hsm => ?_)) <;> (try exact zx)) | ((with_reducible refine splitB.mk (fun h => ?_) (fun h => ?_)) <;> (try simp only [zs, ne_eq] at h) <;> (try simp (disch := omega) only [w64] at h) <;> (try exact zx)) | (with_reducible intro hz; (try exact absurd hz (Nat.succ_ne_zero _)))))
      refine ⟨i + 1, by omega, hlt, ?_⟩
      (repeat' ((try (conv => whnf)); first | (with_reducible first | refine And.intro ?_ ?_ | refine WX.of ?_) | exact zc | ((with_reducible refine VC.mk ?_); exact zw) | (with_reducible first | refine splitT ?_ | refine splitF ?_) | ((with_reducible refine splitM.mk (fun hsm => ?_) (fun hsm => ?_)) <;> (try exact zx)) | ((with_reducible refine splitB.mk (fun h => ?_) (fun h => ?_)) <;> (try simp only [zs, ne_eq] at h) <;> (try simp (disch := omega) only [w64] at h) <;> (try exact zx)) | (with_reducible intro hz; (try exact absurd hz (Nat.succ_ne_zero _)))))
      exact ⟨by simp [fill_step hL ha]⟩
    · (repeat' ((try (conv => whnf)); first | (with_reducible first | refine And.intro ?_ ?_ | refine WX.of ?_) | exact zc | ((with_reducible refine VC.mk ?_); exact zw) | (with_reducible first | refine splitT ?_ | refine splitF ?_) | ((with_reducible refine splitM.mk (fun hsm => ?_) (fun hsm => ?_)) <;> (try exact zx)) | ((with_reducible refine splitB.mk (fun h => ?_) (fun h => ?_)) <;> (try simp only [zs, ne_eq] at h) <;> (try simp (disch := omega) only [w64] at h) <;> (try exact zx)) | (with_reducible intro hz; (try exact absurd hz (Nat.succ_ne_zero _)))))
      obtain rfl : i = n := by omega
      exact ⟨by rw [fill_end hL]⟩
theorem toThingS_none {v : SV} (hv : v = .nils ∨ v = .sl 0 0 0 0) : RunsS Try.prog 22 [v] [.gone] (.sl 1 0 0 0) [.gone, .arr (.prod .str (.prod (.prod (.int .i64) (.int .i64)) (.prod (.int .i64) (.int .i64)))) [] 5 true] := by
  rcases hv with rfl | rfl
  all_goals
    refine funW tabOk (E := [(43, s_toThing)]) ⟨ok_toThing, trivial⟩ [] (k := 1) (fn := Try.f22) rfl rfl rfl rfl rfl rfl ?_
    (repeat' ((try (conv => whnf)); first | (with_reducible first | refine And.intro ?_ ?_ | refine WX.of ?_) | exact zc | ((with_reducible refine VC.mk ?_); exact zw) | (with_reducible first | refine splitT ?_ | refine splitF ?_) | ((with_reducible refine splitM.mk (fun hsm => ?_) (fun hsm => ?_)) <;> (try exact zx)) | ((with_reducible refine splitB.mk (fun h => ?_) (fun h => ?_)) <;> (try simp only [zs, ne_eq] at h) <;> (try simp (disch := omega) only [w64] at h) <;> (try exact zx)) | (with_reducible intro hz; (try exact absurd hz (Nat.succ_ne_zero _)))))
    refine loop1 tabOk (E := [(43, s_toThing)]) ⟨ok_toThing, trivial⟩ [] ?_
    (repeat' ((try (conv => whnf)); first | (with_reducible first | refine And.intro ?_ ?_ | refine WX.of ?_) | exact zc | ((with_reducible refine VC.mk ?_); exact zw) | (with_reducible first | refine splitT ?_ | refine splitF ?_) | ((with_reducible refine splitM.mk (fun hsm => ?_) (fun hsm => ?_)) <;> (try exact zx)) | ((with_reducible refine splitB.mk (fun h => ?_) (fun h => ?_)) <;> (try simp only [zs, ne_eq] at h) <;> (try simp (disch := omega) only [w64] at h) <;> (try exact zx)) | (with_reducible intro hz; (try exact absurd hz (Nat.succ_ne_zero _)))))
theorem ok_toThingS : SpecOk Try.prog 22 s_toThingS := by
  intro args S h; unfold s_toThingS at h ⊢; (split at h <;> first | exact False.elim h | skip)
  dsimp only at h ⊢
  · exact RunsS.opt (pre := []) (post := []) rfl rfl h.1 (fun hn _ hl => by subst hn; subst hl; exact toThingS_none (.inl rfl)) (fun hn _ hl => by subst hn; subst hl; exact toThingS_none (.inr rfl)) (toThingS_sl ⟨by simpa using h.1, h.2.2⟩) h.2.1
  · exact toThingS_sl h
def s_eqThingS : Spec := fun args S => match args, S with
  | [.sl 0 s n x, .sl 1 s' n' x'], [.arr (.prod .str (.prod (.prod (.int .i64) (.int .i64)) (.prod (.int .i64) (.int .i64)))) l 5 wr, .arr (.prod .str (.prod (.prod (.int .i64) (.int .i64)) (.prod (.int .i64) (.int .i64)))) l' 5 wr'] => ⟨s + n ≤ l.length ∧ s' + n' ≤ l'.length ∧ n ≤ 4611686018427387904, .bool (decide (seg l s n = seg l' s' n')), [.arr (.prod .str (.prod (.prod (.int .i64) (.int .i64)) (.prod (.int .i64) (.int .i64)))) l 5 wr, .arr (.prod .str (.prod (.prod (.int .i64) (.int .i64)) (.prod (.int .i64) (.int .i64)))) l' 5 wr']⟩
  | [.nils, .sl 0 s' n' x'], [.arr (.prod .str (.prod (.prod (.int .i64) (.int .i64)) (.prod (.int .i64) (.int .i64)))) l' 5 wr'] => ⟨s' + n' ≤ l'.length ∧ n' = 0, .bool true, [.arr (.prod .str (.prod (.prod (.int .i64) (.int .i64)) (.prod (.int .i64) (.int .i64)))) l' 5 wr']⟩
  | _, _ => noSpec
theorem eqThingS_nil {s x : Nat} {l : List (ET.T (.prod .str (.prod (.prod (.int .i64) (.int .i64)) (.prod (.int .i64) (.int .i64)))))} {wr : Bool} : RunsS Try.prog 30 [.nils, .sl 0 s 0 x] [.arr (.prod .str (.prod (.prod (.int .i64) (.int .i64)) (.prod (.int .i64) (.int .i64)))) l 5 wr] (.bool true) [.arr (.prod .str (.prod (.prod (.int .i64) (.int .i64)) (.prod (.int .i64) (.int .i64)))) l 5 wr] := by
  refine funW tabOk (E := [(56, s_eqThing)]) ⟨ok_eqThing, trivial⟩ [] (k := 1) (fn := Try.f30) rfl rfl rfl rfl rfl rfl ?_
  (repeat' ((try (conv => whnf)); first | (with_reducible first | refine And.intro ?_ ?_ | refine WX.of ?_) | exact zc | ((with_reducible refine VC.mk ?_); exact zw) | (with_reducible first | refine splitT ?_ | refine splitF ?_) | ((with_reducible refine splitM.mk (fun hsm => ?_) (fun hsm => ?_)) <;> (try exact zx)) | ((with_reducible refine splitB.mk (fun h => ?_) (fun h => ?_)) <;> (try simp only [zs, ne_eq] at h) <;> (try simp (disch := omega) only [w64] at h) <;> (try exact zx)) | (with_reducible intro hz; (try exact absurd hz (Nat.succ_ne_zero _)))))
  refine loop1 tabOk (E := [(56, s_eqThing)]) ⟨ok_eqThing, trivial⟩ [] ?_
  (repeat' ((try (conv => whnf)); first | (with_reducible first | refine And.intro ?_ ?_ | refine WX.of ?_) | exact zc | ((with_reducible refine VC.mk ?_); exact zw) | (with_reducible first | refine splitT ?_ | refine splitF ?_) | ((with_reducible refine splitM.mk (fun hsm => ?_) (fun hsm => ?_)) <;> (try exact zx)) | ((with_reducible refine splitB.mk (fun h => ?_) (fun h => ?_)) <;> (try simp only [zs, ne_eq] at h) <;> (try simp (disch := omega) only [w64] at h) <;> (try exact zx)) | (with_reducible intro hz; (try exact absurd hz (Nat.succ_ne_zero _)))))
theorem ok_eqThingS : SpecOk Try.prog 30 s_eqThingS := by
  intro args S h; unfold s_eqThingS at h ⊢; (split at h <;> first | exact False.elim h | skip)
  dsimp only at h ⊢
  rotate_left 1
  · obtain ⟨h1, rfl⟩ := h
    exact eqThingS_nil
  rename_i s n x s' n' x' l wr l' wr'
  have hL := seg_len h.1
  have hM := seg_len h.2.1
  refine funW tabOk (E := [(56, s_eqThing)]) ⟨ok_eqThing, trivial⟩ [] (k := 2) (fn := Try.f30) rfl rfl rfl rfl rfl rfl ?_
  (repeat' ((try (conv => whnf)); first | (with_reducible first | refine And.intro ?_ ?_ | refine WX.of ?_) | exact zc | ((with_reducible refine VC.mk ?_); exact zw) | (with_reducible first | refine splitT ?_ | refine splitF ?_) | ((with_reducible refine splitM.mk (fun hsm => ?_) (fun hsm => ?_)) <;> (try exact zx)) | ((with_reducible refine splitB.mk (fun h => ?_) (fun h => ?_)) <;> (try simp only [zs, ne_eq] at h) <;> (try simp (disch := omega) only [w64] at h) <;> (try exact zx)) | (with_reducible intro hz; (try exact absurd hz (Nat.succ_ne_zero _)))))
  · refine ⟨?_⟩
    rw [decide_eq_false]; intro e
    rw [e] at hL; omega
  · obtain rfl : n = n' := by omega
    refine loopW tabOk (E := [(56, s_eqThing)]) ⟨ok_eqThing, trivial⟩ [] (σ := Nat) (fun i => [(0, .sl 0 s n x), (1, .sl 1 s' n x'), (5, .int .i64 i)]) (fun i => [.arr (.prod .str (.prod (.prod (.int .i64) (.int .i64)) (.prod (.int .i64) (.int .i64)))) l 5 wr, .arr (.prod .str (.prod (.prod (.int .i64) (.int .i64)) (.prod (.int .i64) (.int .i64)))) l' 5 wr']) (fun i => n - i) (fun i => i ≤ n ∧ (seg l s n).take i = (seg l' s' n).take i) 0 ⟨Nat.zero_le _, by simp⟩ ?_ ?_
    · (repeat' ((try (conv => whnf)); first | (with_reducible first | refine And.intro ?_ ?_ | refine WX.of ?_) | exact zc | ((with_reducible refine VC.mk ?_); exact zw) | (with_reducible first | refine splitT ?_ | refine splitF ?_) | ((with_reducible refine splitM.mk (fun hsm => ?_) (fun hsm => ?_)) <;> (try exact zx)) | ((with_reducible refine splitB.mk (fun h => ?_) (fun h => ?_)) <;> (try simp only [zs, ne_eq] at h) <;> (try simp (disch := omega) only [w64] at h) <;> (try exact zx)) | (with_reducible intro hz; (try exact absurd hz (Nat.succ_ne_zero _)))))
    · intro i ⟨hi, hp⟩
      by_cases hlt : i < n
      · obtain ⟨⟨nm, ⟨p, q⟩, r, s0⟩, ha⟩ := get_some (l := seg l s n) (i := i) (by omega)
        obtain ⟨⟨nm', ⟨p', q'⟩, r', s0'⟩, hb⟩ := get_some (l := seg l' s' n) (i := i) (by omega)
        (repeat' ((try (conv => whnf)); first | (with_reducible first | refine And.intro ?_ ?_ | refine WX.of ?_) | exact zc | ((with_reducible refine VC.mk ?_); exact zw) | refine atL_i ha ?_ | refine atL_i hb ?_ | (with_reducible first | refine splitT ?_ | refine splitF ?_) | ((with_reducible refine splitM.mk (fun hsm => ?_) (fun hsm => ?_)) <;> (try exact zx)) | ((with_reducible refine splitB.mk (fun h => ?_) (fun h => ?_)) <;> (try simp only [zs, ne_eq] at h) <;> (try simp (disch := omega) only [w64] at h) <;> (try exact zx)) | (with_reducible intro hz; (try exact absurd hz (Nat.succ_ne_zero _)))))
        · refine ⟨?_⟩; rw [decide_eq_false]; exact same_not ha hb (by simp at h ⊢; simp_all)
        · refine ⟨i + 1, by omega, ⟨hlt, same_step ha hb hp (by simp at h ⊢; simp_all)⟩, ?_⟩
          (repeat' ((try (conv => whnf)); first | (with_reducible first | refine And.intro ?_ ?_ | refine WX.of ?_) | exact zc | ((with_reducible refine VC.mk ?_); exact zw) | (with_reducible first | refine splitT ?_ | refine splitF ?_) | ((with_reducible refine splitM.mk (fun hsm => ?_) (fun hsm => ?_)) <;> (try exact zx)) | ((with_reducible refine splitB.mk (fun h => ?_) (fun h => ?_)) <;> (try simp only [zs, ne_eq] at h) <;> (try simp (disch := omega) only [w64] at h) <;> (try exact zx)) | (with_reducible intro hz; (try exact absurd hz (Nat.succ_ne_zero _)))))
      · (repeat' ((try (conv => whnf)); first | (with_reducible first | refine And.intro ?_ ?_ | refine WX.of ?_) | exact zc | ((with_reducible refine VC.mk ?_); exact zw) | (with_reducible first | refine splitT ?_ | refine splitF ?_) | ((with_reducible refine splitM.mk (fun hsm => ?_) (fun hsm => ?_)) <;> (try exact zx)) | ((with_reducible refine splitB.mk (fun h => ?_) (fun h => ?_)) <;> (try simp only [zs, ne_eq] at h) <;> (try simp (disch := omega) only [w64] at h) <;> (try exact zx)) | (with_reducible intro hz; (try exact absurd hz (Nat.succ_ne_zero _)))))
        obtain rfl : i = n := by omega
        refine ⟨?_⟩; rw [decide_eq_true]; exact same_end hL hM hp
def s_toVernier : Spec := fun args S => match args, S with
  | [.agg [.int .i64 p, .bool b]], [] => ⟨True, .agg [.int .i64 p, .bool b], []⟩
  | _, _ => noSpec
theorem ok_toVernier : SpecOk Try.prog 20 s_toVernier := by
  intro args S h; unfold s_toVernier at h ⊢; (split at h <;> first | exact False.elim h | skip)
  dsimp only at h ⊢
  refine funW tabOk (E := []) trivial [] (k := 0) (fn := Try.f20) rfl rfl rfl rfl rfl rfl ?_
  (repeat' ((try (conv => whnf)); first | (with_reducible first | refine And.intro ?_ ?_ | refine WX.of ?_) | exact zc | ((with_reducible refine VC.mk ?_); exact zw) | (with_reducible first | refine splitT ?_ | refine splitF ?_) | ((with_reducible refine splitM.mk (fun hsm => ?_) (fun hsm => ?_)) <;> (try exact zx)) | ((with_reducible refine splitB.mk (fun h => ?_) (fun h => ?_)) <;> (try simp only [zs, ne_eq] at h) <;> (try simp (disch := omega) only [w64] at h) <;> (try exact zx)) | (with_reducible intro hz; (try exact absurd hz (Nat.succ_ne_zero _)))))
def s_eqVernier : Spec := fun args S => match args, S with
  | [.agg [.int .i64 p, .bool b], .agg [.int .i64 p', .bool b']], [] => ⟨True, .bool (decide (p = p') && decide (b = b')), []⟩
  | _, _ => noSpec
theorem ok_eqVernier : SpecOk Try.prog 28 s_eqVernier := by
  intro args S h; unfold s_eqVernier at h ⊢; (split at h <;> first | exact False.elim h | skip)
  dsimp only at h ⊢
  refine funW tabOk (E := []) trivial [] (k := 0) (fn := Try.f28) rfl rfl rfl rfl rfl rfl ?_
  (repeat' ((try (conv => whnf)); first | (with_reducible first | refine And.intro ?_ ?_ | refine WX.of ?_) | exact zc | ((with_reducible refine VC.mk ?_); exact zw) | (with_reducible first | refine splitT ?_ | refine splitF ?_) | ((with_reducible refine splitM.mk (fun hsm => ?_) (fun hsm => ?_)) <;> (try exact zx)) | ((with_reducible refine splitB.mk (fun h => ?_) (fun h => ?_)) <;> (try simp only [zs, ne_eq] at h) <;> (try simp (disch := omega) only [w64] at h) <;> (try exact zx)) | (with_reducible intro hz; (try exact absurd hz (Nat.succ_ne_zero _)))))
  all_goals (refine ⟨?_⟩; simp_all)
def s_szThing : Spec := fun args S => match args, S with
  | [.agg [.str nm, .int .i64 p, .int .i64 q, .int .i64 r, .int .i64 s], .int .i64 k], [] => ⟨(0 ≤ k ∧ k ≤ 1048576) ∧ nm.length ≤ 9223372036854775807, .int .i64 (max (-1) (k - nm.length)), []⟩
  | _, _ => noSpec
theorem ok_szThing : SpecOk Try.prog 35 s_szThing := by
  intro args S h; unfold s_szThing at h ⊢; (split at h <;> first | exact False.elim h | skip)
  dsimp only at h ⊢
  refine funW tabOk (E := []) trivial [] (k := 0) (fn := Try.f35) rfl rfl rfl rfl rfl rfl ?_
  (repeat' ((try (conv => whnf)); first | (with_reducible first | refine And.intro ?_ ?_ | refine WX.of ?_) | exact zc | ((with_reducible refine VC.mk ?_); exact zw) | (with_reducible first | refine splitT ?_ | refine splitF ?_) | ((with_reducible refine splitM.mk (fun hsm => ?_) (fun hsm => ?_)) <;> (try exact zx)) | ((with_reducible refine splitB.mk (fun h => ?_) (fun h => ?_)) <;> (try simp only [zs, ne_eq] at h) <;> (try simp (disch := omega) only [w64] at h) <;> (try exact zx)) | (with_reducible intro hz; (try exact absurd hz (Nat.succ_ne_zero _)))))
  all_goals (refine ⟨?_⟩; (try rw [w64 (by omega)]); congr 1; omega)
def s_szThingS : Spec := fun args S => match args, S with
  | [.opt c 0 n 0, .int .i64 k], [.arrO (.prod .str (.prod (.prod (.int .i64) (.int .i64)) (.prod (.int .i64) (.int .i64)))) l 5] => ⟨(0 ≤ k ∧ k ≤ 1048576) ∧ (n ≤ l.length ∧ (c = true → l = [])) ∧ n ≤ 9223372036854775807 ∧ (∀ (j : Nat) a, l[j]? = some a → a.1.length ≤ 9223372036854775807), .int .i64 (max (-1) (k - n - tot (fun a : ThT => a.1.length) (seg l 0 n))), [.arrO (.prod .str (.prod (.prod (.int .i64) (.int .i64)) (.prod (.int .i64) (.int .i64)))) l 5]⟩
  | _, _ => noSpec
theorem szThingS_none {v : SV} (hv : v = .nils ∨ v = .sl 0 0 0 0) {k : Int} (hk : 0 ≤ k ∧ k ≤ 1048576) : RunsS Try.prog 16 [v, .int .i64 k] [.gone] (.int .i64 k) [.gone] := by
  rcases hv with rfl | rfl
  all_goals
    refine funW tabOk (E := [(35, s_szThing)]) ⟨ok_szThing, trivial⟩ [] (k := 1) (fn := Try.f16) rfl rfl rfl rfl rfl rfl ?_
    (repeat' ((try (conv => whnf)); first | (with_reducible first | refine And.intro ?_ ?_ | refine WX.of ?_) | exact zc | ((with_reducible refine VC.mk ?_); exact zw) | (with_reducible first | refine splitT ?_ | refine splitF ?_) | ((with_reducible refine splitM.mk (fun hsm => ?_) (fun hsm => ?_)) <;> (try exact zx)) | ((with_reducible refine splitB.mk (fun h => ?_) (fun h => ?_)) <;> (try simp only [zs, ne_eq] at h) <;> (try simp (disch := omega) only [w64] at h) <;> (try exact zx)) | (with_reducible intro hz; (try exact absurd hz (Nat.succ_ne_zero _)))))
    refine loop1 tabOk (E := [(35, s_szThing)]) ⟨ok_szThing, trivial⟩ [] ?_
    (repeat' ((try (conv => whnf)); first | (with_reducible first | refine And.intro ?_ ?_ | refine WX.of ?_) | exact zc | ((with_reducible refine VC.mk ?_); exact zw) | (with_reducible first | refine splitT ?_ | refine splitF ?_) | ((with_reducible refine splitM.mk (fun hsm => ?_) (fun hsm => ?_)) <;> (try exact zx)) | ((with_reducible refine splitB.mk (fun h => ?_) (fun h => ?_)) <;> (try simp only [zs, ne_eq] at h) <;> (try simp (disch := omega) only [w64] at h) <;> (try exact zx)) | (with_reducible intro hz; (try exact absurd hz (Nat.succ_ne_zero _)))))
theorem szThingS_sl {s n x : Nat} {l : List ThT} {wr : Bool} {k : Int} (h1 : s + n ≤ l.length) (hk : 0 ≤ k ∧ k ≤ 1048576) (hn : n ≤ 9223372036854775807) (ho : ∀ (j : Nat) a, l[j]? = some a → a.1.length ≤ 9223372036854775807) : RunsS Try.prog 16 [.sl 0 s n x, .int .i64 k] [.arr (.prod .str (.prod (.prod (.int .i64) (.int .i64)) (.prod (.int .i64) (.int .i64)))) l 5 wr] (.int .i64 (max (-1) (k - n - tot (fun a : ThT => a.1.length) (seg l s n)))) [.arr (.prod .str (.prod (.prod (.int .i64) (.int .i64)) (.prod (.int .i64) (.int .i64)))) l 5 wr] := by
  have hL := seg_len h1
  refine funW tabOk (E := [(35, s_szThing)]) ⟨ok_szThing, trivial⟩ [] (k := 1) (fn := Try.f16) rfl rfl rfl rfl rfl rfl ?_
  (repeat' ((try (conv => whnf)); first | (with_reducible first | refine And.intro ?_ ?_ | refine WX.of ?_) | exact zc | ((with_reducible refine VC.mk ?_); exact zw) | (with_reducible first | refine splitT ?_ | refine splitF ?_) | ((with_reducible refine splitM.mk (fun hsm => ?_) (fun hsm => ?_)) <;> (try exact zx)) | ((with_reducible refine splitB.mk (fun h => ?_) (fun h => ?_)) <;> (try simp only [zs, ne_eq] at h) <;> (try simp (disch := omega) only [w64] at h) <;> (try exact zx)) | (with_reducible intro hz; (try exact absurd hz (Nat.succ_ne_zero _)))))
  refine loopW tabOk (E := [(35, s_szThing)]) ⟨ok_szThing, trivial⟩ [] (σ := Nat) (fun i => [(0, .sl 0 s n x), (1, .int .i64 (k - n - tot (fun a : ThT => a.1.length) ((seg l s n).take i))), (5, .int .i64 i)]) (fun i => [.arr (.prod .str (.prod (.prod (.int .i64) (.int .i64)) (.prod (.int .i64) (.int .i64)))) l 5 wr]) (fun i => n - i) (fun i => i ≤ n ∧ (tot (fun a : ThT => a.1.length) ((seg l s n).take i) : Int) ≤ k - n) 0 ⟨Nat.zero_le _, by simp [tot]; omega⟩ ?_ ?_
  · (repeat' ((try (conv => whnf)); first | (with_reducible first | refine And.intro ?_ ?_ | refine WX.of ?_) | exact zc | ((with_reducible refine VC.mk ?_); exact zw) | (with_reducible first | refine splitT ?_ | refine splitF ?_) | ((with_reducible refine splitM.mk (fun hsm => ?_) (fun hsm => ?_)) <;> (try exact zx)) | ((with_reducible refine splitB.mk (fun h => ?_) (fun h => ?_)) <;> (try simp only [zs, ne_eq] at h) <;> (try simp (disch := omega) only [w64] at h) <;> (try exact zx)) | (with_reducible intro hz; (try exact absurd hz (Nat.succ_ne_zero _)))))
    all_goals (refine ⟨?_⟩; rw [w64 (by omega)]; simp [tot])
  · intro i ⟨hi, hp⟩
    by_cases hlt : i < n
    · obtain ⟨⟨nm, ⟨p, q⟩, r, s0⟩, ha⟩ := get_some (l := seg l s n) (i := i) (by omega)
      have hno := ho _ _ (seg_get ha).1
      dsimp only at hno
      have hst := tot_step (f := fun a : ThT => a.1.length) ha
      dsimp only at hst
      have hle := tot_le (f := fun a : ThT => a.1.length) (L := seg l s n) (i + 1)
      (repeat' ((try (conv => whnf)); first | (with_reducible first | refine And.intro ?_ ?_ | refine WX.of ?_) | exact zc | ((with_reducible refine VC.mk ?_); exact zw) | refine atL_i ha ?_ | (with_reducible first | refine splitT ?_ | refine splitF ?_) | ((with_reducible refine splitM.mk (fun hsm => ?_) (fun hsm => ?_)) <;> (try exact zx)) | ((with_reducible refine splitB.mk (fun h => ?_) (fun h => ?_)) <;> (try simp only [zs, ne_eq] at h) <;> (try simp (disch := omega) only [w64] at h) <;> (try exact zx)) | (with_reducible intro hz; (try exact absurd hz (Nat.succ_ne_zero _)))))
      refine ⟨i + 1, by omega, ⟨hlt, by omega⟩, ?_⟩
      (repeat' ((try (conv => whnf)); first | (with_reducible first | refine And.intro ?_ ?_ | refine WX.of ?_) | exact zc | ((with_reducible refine VC.mk ?_); exact zw) | (with_reducible first | refine splitT ?_ | refine splitF ?_) | ((with_reducible refine splitM.mk (fun hsm => ?_) (fun hsm => ?_)) <;> (try exact zx)) | ((with_reducible refine splitB.mk (fun h => ?_) (fun h => ?_)) <;> (try simp only [zs, ne_eq] at h) <;> (try simp (disch := omega) only [w64] at h) <;> (try exact zx)) | (with_reducible intro hz; (try exact absurd hz (Nat.succ_ne_zero _)))))
    · obtain rfl : i = n := by omega
      rw [List.take_of_length_le (by omega)] at hp ⊢
      (repeat' ((try (conv => whnf)); first | (with_reducible first | refine And.intro ?_ ?_ | refine WX.of ?_) | exact zc | ((with_reducible refine VC.mk ?_); exact zw) | (with_reducible first | refine splitT ?_ | refine splitF ?_) | ((with_reducible refine splitM.mk (fun hsm => ?_) (fun hsm => ?_)) <;> (try exact zx)) | ((with_reducible refine splitB.mk (fun h => ?_) (fun h => ?_)) <;> (try simp only [zs, ne_eq] at h) <;> (try simp (disch := omega) only [w64] at h) <;> (try exact zx)) | (with_reducible intro hz; (try exact absurd hz (Nat.succ_ne_zero _)))))
theorem ok_szThingS : SpecOk Try.prog 16 s_szThingS := by
  intro args S h; unfold s_szThingS at h ⊢; (split at h <;> first | exact False.elim h | skip)
  dsimp only at h ⊢
  rename_i c n k l
  obtain ⟨h1, ⟨h2, h3⟩, h4, h5⟩ := h
  refine RunsS.opt (pre := []) (post := [_]) rfl rfl h2 (fun hn _ hl => ?_) (fun hn _ hl => ?_) (szThingS_sl (by simpa using h2) h1 h4 h5) h3
  · subst hn; subst hl
    simpa [seg, tot, show max (-1) k = k by omega] using szThingS_none (.inl rfl) h1
  · subst hn; subst hl
    simpa [seg, tot, show max (-1) k = k by omega] using szThingS_none (.inr rfl) h1
def s_toScale : Spec := fun args S => match args, S with
  | [.agg [.int .i64 p, .int .i64 q, .opt c 0 n 0]], [.arrO (.prod (.int .i64) (.int .i64)) l 2] => ⟨n ≤ l.length ∧ (c = true → l = []) ∧ n ≤ 1048576, .agg [.int .i64 p, .int .i64 q, .sl 1 0 n 0], [.arrO (.prod (.int .i64) (.int .i64)) l 2, .arr (.prod (.int .i64) (.int .i64)) (seg l 0 n) 2 true]⟩
  | _, _ => noSpec
theorem ok_toScale : SpecOk Try.prog 19 s_toScale := by
  intro args S h; unfold s_toScale at h ⊢; (split at h <;> first | exact False.elim h | skip)
  dsimp only at h ⊢
  refine funW tabOk (E := [(21, s_toFrac), (8, s_toFracS)]) ⟨ok_toFrac, ok_toFracS, trivial⟩ [] (k := 1) (fn := Try.f19) rfl rfl rfl rfl rfl rfl ?_
  (repeat' ((try (conv => whnf)); first | (with_reducible first | refine And.intro ?_ ?_ | refine WX.of ?_) | exact zc | ((with_reducible refine VC.mk ?_); exact zw) | (with_reducible first | refine splitT ?_ | refine splitF ?_) | ((with_reducible refine splitM.mk (fun hsm => ?_) (fun hsm => ?_)) <;> (try exact zx)) | ((with_reducible refine splitB.mk (fun h => ?_) (fun h => ?_)) <;> (try simp only [zs, ne_eq] at h) <;> (try simp (disch := omega) only [w64] at h) <;> (try exact zx)) | (with_reducible intro hz; (try exact absurd hz (Nat.succ_ne_zero _)))))
def s_szScale : Spec := fun args S => match args, S with
  | [.agg [.int .i64 p, .int .i64 q, .opt c 0 n 0], .int .i64 k], [.arrO (.prod (.int .i64) (.int .i64)) l 2] => ⟨(0 ≤ k ∧ k ≤ 1048576) ∧ n ≤ 9223372036854775807, .int .i64 (max (-1) (k - n)), [.arrO (.prod (.int .i64) (.int .i64)) l 2]⟩
  | _, _ => noSpec
theorem ok_szScale : SpecOk Try.prog 15 s_szScale := by
  intro args S h; unfold s_szScale at h ⊢; (split at h <;> first | exact False.elim h | skip)
  dsimp only at h ⊢
  refine funW tabOk (E := [(5, s_szFracS)]) ⟨ok_szFracS, trivial⟩ [] (k := 1) (fn := Try.f15) rfl rfl rfl rfl rfl rfl ?_
  (repeat' ((try (conv => whnf)); first | (with_reducible first | refine And.intro ?_ ?_ | refine WX.of ?_) | exact zc | ((with_reducible refine VC.mk ?_); exact zw) | (with_reducible first | refine splitT ?_ | refine splitF ?_) | ((with_reducible refine splitM.mk (fun hsm => ?_) (fun hsm => ?_)) <;> (try exact zx)) | ((with_reducible refine splitB.mk (fun h => ?_) (fun h => ?_)) <;> (try simp only [zs, ne_eq] at h) <;> (try simp (disch := omega) only [w64] at h) <;> (try exact zx)) | (with_reducible intro hz; (try exact absurd hz (Nat.succ_ne_zero _)))))
def s_eqScale : Spec := fun args S => match args, S with
  | [.agg [.int .i64 p, .int .i64 q, .sl 0 s n x], .agg [.int .i64 p', .int .i64 q', .sl 1 s' n' x']], [.arr (.prod (.int .i64) (.int .i64)) l 2 wr, .arr (.prod (.int .i64) (.int .i64)) l' 2 wr'] => ⟨s + n ≤ l.length ∧ s' + n' ≤ l'.length ∧ n ≤ 4611686018427387904, .bool (decide (p = p' ∧ q = q' ∧ seg l s n = seg l' s' n')), [.arr (.prod (.int .i64) (.int .i64)) l 2 wr, .arr (.prod (.int .i64) (.int .i64)) l' 2 wr']⟩
  | _, _ => noSpec
theorem ok_eqScale : SpecOk Try.prog 27 s_eqScale := by
  intro args S h; unfold s_eqScale at h ⊢; (split at h <;> first | exact False.elim h | skip)
  dsimp only at h ⊢
  refine funW tabOk (E := [(29, s_eqFrac), (11, s_eqFracS)]) ⟨ok_eqFrac, ok_eqFracS, trivial⟩ [] (k := 2) (fn := Try.f27) rfl rfl rfl rfl rfl rfl ?_
  (repeat' ((try (conv => whnf)); first | (with_reducible first | refine And.intro ?_ ?_ | refine WX.of ?_) | exact zc | ((with_reducible refine VC.mk ?_); exact zw) | (with_reducible first | refine splitT ?_ | refine splitF ?_) | ((with_reducible refine splitM.mk (fun hsm => ?_) (fun hsm => ?_)) <;> (try exact zx)) | ((with_reducible refine splitB.mk (fun h => ?_) (fun h => ?_)) <;> (try simp only [zs, ne_eq] at h) <;> (try simp (disch := omega) only [w64] at h) <;> (try exact zx)) | (with_reducible intro hz; (try exact absurd hz (Nat.succ_ne_zero _)))))
  all_goals (refine ⟨?_⟩; simp_all)
def s_toBench : Spec := fun args S => match args, S with
  | [.agg [.int .i64 p, .int .i64 q, .opt c 0 n 0, .int .i64 vp, .bool vb, .int .i64 gp, .int .i64 gq, .opt c' 1 n' 0]], [.arrO (.prod (.int .i64) (.int .i64)) l 2, .arrO (.prod .str (.prod (.prod (.int .i64) (.int .i64)) (.prod (.int .i64) (.int .i64)))) l' 5] => ⟨(n ≤ l.length ∧ (c = true → l = []) ∧ n ≤ 1048576) ∧ n' ≤ l'.length ∧ (c' = true → l' = []) ∧ n' ≤ 1048576, .agg [.int .i64 p, .int .i64 q, .sl 2 0 n 0, .int .i64 vp, .bool vb, .int .i64 gp, .int .i64 gq, .sl 3 0 n' 0], [.arrO (.prod (.int .i64) (.int .i64)) l 2, .arrO (.prod .str (.prod (.prod (.int .i64) (.int .i64)) (.prod (.int .i64) (.int .i64)))) l' 5, .arr (.prod (.int .i64) (.int .i64)) (seg l 0 n) 2 true, .arr (.prod .str (.prod (.prod (.int .i64) (.int .i64)) (.prod (.int .i64) (.int .i64)))) (seg l' 0 n') 5 true]⟩
  | _, _ => noSpec
theorem ok_toBench : SpecOk Try.prog 7 s_toBench := by
  intro args S h; unfold s_toBench at h ⊢; (split at h <;> first | exact False.elim h | skip)
  dsimp only at h ⊢
  refine funW tabOk (E := [(21, s_toFrac), (19, s_toScale), (20, s_toVernier), (22, s_toThingS)]) ⟨ok_toFrac, ok_toScale, ok_toVernier, ok_toThingS, trivial⟩ [] (k := 2) (fn := Try.f7) rfl rfl rfl rfl rfl rfl ?_
  (repeat' ((try (conv => whnf)); first | (with_reducible first | refine And.intro ?_ ?_ | refine WX.of ?_) | exact zc | ((with_reducible refine VC.mk ?_); exact zw) | exact VC.mk h.1 | exact VC.mk h.2 | (with_reducible first | refine splitT ?_ | refine splitF ?_) | ((with_reducible refine splitM.mk (fun hsm => ?_) (fun hsm => ?_)) <;> (try exact zx)) | ((with_reducible refine splitB.mk (fun h => ?_) (fun h => ?_)) <;> (try simp only [zs, ne_eq] at h) <;> (try simp (disch := omega) only [w64] at h) <;> (try exact zx)) | (with_reducible intro hz; (try exact absurd hz (Nat.succ_ne_zero _)))))
def s_szBench : Spec := fun args S => match args, S with
  | [.agg [.int .i64 p, .int .i64 q, .opt c 0 n 0, .int .i64 vp, .bool vb, .int .i64 gp, .int .i64 gq, .opt c' 1 n' 0], .int .i64 k], [.arrO (.prod (.int .i64) (.int .i64)) l 2, .arrO (.prod .str (.prod (.prod (.int .i64) (.int .i64)) (.prod (.int .i64) (.int .i64)))) l' 5] => ⟨(0 ≤ k ∧ k ≤ 1048576) ∧ n ≤ 9223372036854775807 ∧ (n' ≤ l'.length ∧ (c' = true → l' = [])) ∧ n' ≤ 9223372036854775807 ∧ (∀ (j : Nat) a, l'[j]? = some a → a.1.length ≤ 9223372036854775807), .int .i64 (max (-1) (if k - n < 0 then -1 else k - n - n' - tot (fun a : ThT => a.1.length) (seg l' 0 n'))), [.arrO (.prod (.int .i64) (.int .i64)) l 2, .arrO (.prod .str (.prod (.prod (.int .i64) (.int .i64)) (.prod (.int .i64) (.int .i64)))) l' 5]⟩
  | _, _ => noSpec
theorem ok_szBench : SpecOk Try.prog 4 s_szBench := by
  intro args S h; unfold s_szBench at h ⊢; (split at h <;> first | exact False.elim h | skip)
  dsimp only at h ⊢
  obtain ⟨hk, hn, hs, hn', ho⟩ := h
  refine funW tabOk (E := [(15, s_szScale), (16, s_szThingS)]) ⟨ok_szScale, ok_szThingS, trivial⟩ [] (k := 2) (fn := Try.f4) rfl rfl rfl rfl rfl rfl ?_
  (repeat' ((try (conv => whnf)); first | (with_reducible first | refine And.intro ?_ ?_ | refine WX.of ?_) | exact zc | ((with_reducible refine VC.mk ?_); exact zw) | ((with_reducible refine VC.mk ?_); (refine ⟨?_, ?_, ?_, ?_⟩); (omega); (exact hs); (exact hn'); (exact ho)) | (with_reducible first | refine splitT ?_ | refine splitF ?_) | ((with_reducible refine splitM.mk (fun hsm => ?_) (fun hsm => ?_)) <;> (try exact zx)) | ((with_reducible refine splitB.mk (fun h => ?_) (fun h => ?_)) <;> (try simp only [zs, ne_eq] at h) <;> (try simp (disch := omega) only [w64] at h) <;> (try exact zx)) | (with_reducible intro hz; (try exact absurd hz (Nat.succ_ne_zero _)))))
  all_goals (refine ⟨?_⟩; congr 1; split <;> omega)
def s_eqBench : Spec := fun args S => match args, S with
  | [.agg [.int .i64 p, .int .i64 q, .sl 0 s n x, .int .i64 vp, .bool vb, .int .i64 gp, .int .i64 gq, .sl 1 t m y], .agg [.int .i64 p', .int .i64 q', .sl 2 s' n' x', .int .i64 vp', .bool vb', .int .i64 gp', .int .i64 gq', .sl 3 t' m' y']], [.arr (.prod (.int .i64) (.int .i64)) l 2 wr, .arr (.prod .str (.prod (.prod (.int .i64) (.int .i64)) (.prod (.int .i64) (.int .i64)))) k 5 wk, .arr (.prod (.int .i64) (.int .i64)) l' 2 wr', .arr (.prod .str (.prod (.prod (.int .i64) (.int .i64)) (.prod (.int .i64) (.int .i64)))) k' 5 wk'] => ⟨(s + n ≤ l.length ∧ s' + n' ≤ l'.length ∧ n ≤ 4611686018427387904) ∧ t + m ≤ k.length ∧ t' + m' ≤ k'.length ∧ m ≤ 4611686018427387904, .bool (decide ((p = p' ∧ q = q' ∧ seg l s n = seg l' s' n') ∧ (vp = vp' ∧ vb = vb') ∧ (gp = gp' ∧ gq = gq') ∧ seg k t m = seg k' t' m')), [.arr (.prod (.int .i64) (.int .i64)) l 2 wr, .arr (.prod .str (.prod (.prod (.int .i64) (.int .i64)) (.prod (.int .i64) (.int .i64)))) k 5 wk, .arr (.prod (.int .i64) (.int .i64)) l' 2 wr', .arr (.prod .str (.prod (.prod (.int .i64) (.int .i64)) (.prod (.int .i64) (.int .i64)))) k' 5 wk']⟩
  | _, _ => noSpec
theorem ok_eqBench : SpecOk Try.prog 10 s_eqBench := by
  intro args S h; unfold s_eqBench at h ⊢; (split at h <;> first | exact False.elim h | skip)
  dsimp only at h ⊢
  refine funW tabOk (E := [(29, s_eqFrac), (27, s_eqScale), (28, s_eqVernier), (30, s_eqThingS)]) ⟨ok_eqFrac, ok_eqScale, ok_eqVernier, ok_eqThingS, trivial⟩ [] (k := 4) (fn := Try.f10) rfl rfl rfl rfl rfl rfl ?_
  (repeat' ((try (conv => whnf)); first | (with_reducible first | refine And.intro ?_ ?_ | refine WX.of ?_) | exact zc | ((with_reducible refine VC.mk ?_); exact zw) | (with_reducible first | refine splitT ?_ | refine splitF ?_) | ((with_reducible refine splitM.mk (fun hsm => ?_) (fun hsm => ?_)) <;> (try exact zx)) | ((with_reducible refine splitB.mk (fun h => ?_) (fun h => ?_)) <;> (try simp only [zs, ne_eq] at h) <;> (try simp (disch := omega) only [w64] at h) <;> (try exact zx)) | (with_reducible intro hz; (try exact absurd hz (Nat.succ_ne_zero _)))))
  all_goals (refine ⟨?_⟩; simp_all)
theorem smF_1k : smF 1 1000 := by unfold smF; omega
def gwB (p q : Int) : Bool := fOk p q && decide (0 ≤ p) && decide (1000 * p ≤ q)
def s_gw : Spec := fun args S => match args, S with
  | [.agg [.int .i64 p, .int .i64 q]], [] => ⟨True, .bool (gwB p q), []⟩
  | _, _ => noSpec
theorem ok_isGrowth : SpecOk Try.prog 50 s_gw := by
  intro args S h; unfold s_gw at h ⊢; (split at h <;> first | exact False.elim h | skip)
  dsimp only at h ⊢
  rename_i p q
  have hc := cmpF_le (p := p) (q := q) (p' := 1) (q' := 1000)
  refine funW tabOk (E := [(47, s_fOk), (48, s_cmp)]) ⟨ok_ValidFrac, ok_compare, trivial⟩ [] (k := 0) (fn := Try.f50) rfl rfl rfl rfl rfl rfl ?_
  (repeat' ((try (conv => whnf)); first | (with_reducible first | refine And.intro ?_ ?_ | refine WX.of ?_) | exact zc | ((with_reducible refine VC.mk ?_); exact zw) | ((with_reducible refine VC.mk ?_); (exact ⟨smF_ok ‹_›, smF_1k⟩)) | (with_reducible first | refine splitT ?_ | refine splitF ?_) | ((with_reducible refine splitM.mk (fun hsm => ?_) (fun hsm => ?_)) <;> (try exact zx)) | ((with_reducible refine splitB.mk (fun h => ?_) (fun h => ?_)) <;> (try simp only [zs, ne_eq] at h) <;> (try simp (disch := omega) only [w64] at h) <;> (try exact zx)) | (with_reducible intro hz; (try exact absurd hz (Nat.succ_ne_zero _)))))
  all_goals (refine ⟨congrArg SV.bool ?_⟩; unfold gwB; first | (simp_all; done) | (rw [Bool.eq_iff_iff]; simp_all; omega))
theorem ok_l07Grows : SpecOk Try.prog 38 s_gw := by
  intro args S h; unfold s_gw at h ⊢; (split at h <;> first | exact False.elim h | skip)
  dsimp only at h ⊢
  rename_i p q
  have hf : fOk p q = true → smF p q := smF_ok
  unfold smF at hf
  refine funW tabOk (E := [(41, s_fOk)]) ⟨ok_l01Ok, trivial⟩ [] (k := 0) (fn := Try.f38) rfl rfl rfl rfl rfl rfl ?_
  (repeat' ((try (conv => whnf)); first | (with_reducible first | refine And.intro ?_ ?_ | refine WX.of ?_) | exact zc | ((with_reducible refine VC.mk ?_); exact zw) | (with_reducible first | refine splitT ?_ | refine splitF ?_) | ((with_reducible refine splitM.mk (fun hsm => ?_) (fun hsm => ?_)) <;> (try exact zx)) | ((with_reducible refine splitB.mk (fun h => ?_) (fun h => ?_)) <;> (try simp only [zs, ne_eq] at h) <;> (try simp (disch := omega) only [w64] at h) <;> (try exact zx)) | (with_reducible intro hz; (try exact absurd hz (Nat.succ_ne_zero _)))))
  all_goals (refine ⟨congrArg SV.bool ?_⟩; unfold gwB; first | (simp_all; done) | (have hf := hf (by assumption); (try simp (disch := omega) only [w64]); rw [Bool.eq_iff_iff]; simp_all; try omega))
def wiB (p q m : Int) : Bool := fOk p q && decide (0 < p) && decide (p ≤ m * q)
def s_wi : Spec := fun args S => match args, S with
  | [.agg [.int .i64 p, .int .i64 q], .int .i64 m], [] => ⟨-1000000000 ≤ m ∧ m ≤ 1000000000, .bool (wiB p q m), []⟩
  | _, _ => noSpec
theorem ok_l02Within : SpecOk Try.prog 40 s_wi := by
  intro args S h; unfold s_wi at h ⊢; (split at h <;> first | exact False.elim h | skip)
  dsimp only at h ⊢
  rename_i p q m
  have hc := cmpF_le (p := p) (q := q) (p' := m) (q' := 1)
  refine funW tabOk (E := [(41, s_fOk), (63, s_num), (62, s_cmp)]) ⟨ok_l01Ok, ok_l01Whole, ok_l01Cmp, trivial⟩ [(1, [(8, 2)])] (k := 0) (fn := Try.f40) rfl rfl rfl rfl rfl rfl ?_
  (repeat' ((try (conv => whnf)); first | (with_reducible first | refine And.intro ?_ ?_ | refine WX.of ?_) | exact zc | ((with_reducible refine VC.mk ?_); exact zw) | (with_reducible first | refine splitT ?_ | refine splitF ?_) | ((with_reducible refine splitM.mk (fun hsm => ?_) (fun hsm => ?_)) <;> (try exact zx)) | ((with_reducible refine splitB.mk (fun h => ?_) (fun h => ?_)) <;> (try simp only [zs, ne_eq] at h) <;> (try simp (disch := omega) only [w64] at h) <;> (try exact zx)) | (with_reducible intro hz; (try exact absurd hz (Nat.succ_ne_zero _)))))
  · exact ⟨⟨smF_ok (by assumption), smF_1 (by omega)⟩⟩
  · refine ⟨congrArg SV.bool ?_⟩
    simp only [hc]; simp_all [wiB]
  · refine ⟨congrArg SV.bool ?_⟩
    simp [wiB, show ¬ 0 < p by omega]
  · refine ⟨congrArg SV.bool ?_⟩
    simp [wiB, h]
def s_isUnit : Spec := fun args S => match args, S with
  | [.agg [.int .i64 p, .int .i64 q]], [] => ⟨smF p q, .bool (decide (0 < p) && decide (p ≤ 1000 * q)), []⟩
  | _, _ => noSpec
theorem ok_isUnit : SpecOk Try.prog 70 s_isUnit := by
  intro args S h; unfold s_isUnit at h ⊢; (split at h <;> first | exact False.elim h | skip)
  dsimp only at h ⊢
  rename_i p q
  have hc := cmpF_le (p := p) (q := q) (p' := 1000) (q' := 1)
  refine funW tabOk (E := [(49, s_num), (48, s_cmp)]) ⟨ok_num, ok_compare, trivial⟩ [(1, [(4, 1)])] (k := 0) (fn := Try.f70) rfl rfl rfl rfl rfl rfl ?_
  (repeat' ((try (conv => whnf)); first | (with_reducible first | refine And.intro ?_ ?_ | refine WX.of ?_) | exact zc | ((with_reducible refine VC.mk ?_); exact zw) | (with_reducible first | refine splitT ?_ | refine splitF ?_) | ((with_reducible refine splitM.mk (fun hsm => ?_) (fun hsm => ?_)) <;> (try exact zx)) | ((with_reducible refine splitB.mk (fun h => ?_) (fun h => ?_)) <;> (try simp only [zs, ne_eq] at h) <;> (try simp (disch := omega) only [w64] at h) <;> (try exact zx)) | (with_reducible intro hz; (try exact absurd hz (Nat.succ_ne_zero _)))))
  · exact ⟨⟨by assumption, smF_1 (by omega)⟩⟩
  · refine ⟨congrArg SV.bool ?_⟩
    simp only [hc]; simp_all
  · refine ⟨congrArg SV.bool ?_⟩
    simp [show ¬ 0 < p by omega]
def s_size : Spec := fun args S => match args, S with
  | [.agg [.int .i64 p, .int .i64 q]], [] => ⟨smF p q, .agg [.int .i64 (p.natAbs : Int), .int .i64 q], []⟩
  | _, _ => noSpec
theorem ok_size : SpecOk Try.prog 71 s_size := by
  intro args S h; unfold s_size at h ⊢; (split at h <;> first | exact False.elim h | skip)
  dsimp only at h ⊢
  rename_i p q
  unfold smF at h
  refine funW tabOk (E := []) trivial [] (k := 0) (fn := Try.f71) rfl rfl rfl rfl rfl rfl ?_
  (repeat' ((try (conv => whnf)); first | (with_reducible first | refine And.intro ?_ ?_ | refine WX.of ?_) | exact zc | ((with_reducible refine VC.mk ?_); exact zw) | (with_reducible first | refine splitT ?_ | refine splitF ?_) | ((with_reducible refine splitM.mk (fun hsm => ?_) (fun hsm => ?_)) <;> (try exact zx)) | ((with_reducible refine splitB.mk (fun h => ?_) (fun h => ?_)) <;> (try simp only [zs, ne_eq] at h) <;> (try simp (disch := omega) only [w64] at h) <;> (try exact zx)) | (with_reducible intro hz; (try exact absurd hz (Nat.succ_ne_zero _)))))
  refine ⟨?_⟩
  dsimp only
  rw [w64 (by omega)]
  have e : (if 0 - p > p then 0 - p else p) = (p.natAbs : Int) := by split <;> omega
  rw [e]
theorem ok_l07Name : SpecOk Try.prog 39 s_word := by
  intro args S h; unfold s_word at h ⊢; (split at h <;> first | exact False.elim h | skip)
  dsimp only at h ⊢
  rename_i s
  refine funW tabOk (E := []) trivial [] (k := 0) (fn := Try.f39) rfl rfl rfl rfl rfl rfl ?_
  (repeat' ((try (conv => whnf)); first | (with_reducible first | refine And.intro ?_ ?_ | refine WX.of ?_) | exact zc | ((with_reducible refine VC.mk ?_); exact zw) | (with_reducible first | refine splitT ?_ | refine splitF ?_) | ((with_reducible refine splitM.mk (fun hsm => ?_) (fun hsm => ?_)) <;> (try exact zx)) | ((with_reducible refine splitB.mk (fun h => ?_) (fun h => ?_)) <;> (try simp only [zs, ne_eq] at h) <;> (try simp (disch := omega) only [w64] at h) <;> (try exact zx)) | (with_reducible intro hz; (try exact absurd hz (Nat.succ_ne_zero _)))))
  refine loopW tabOk (E := []) trivial [] (σ := Nat) (fun i => [(0, .str s), (3, .int .i64 i)]) (fun i => []) (fun i => s.length - i) (fun i => i ≤ s.length ∧ ∀ (j : Nat) c, j < i → s[j]? = some c → letB c = true) 0 ⟨Nat.zero_le _, fun j a hj => by omega⟩ ?_ ?_
  · (repeat' ((try (conv => whnf)); first | (with_reducible first | refine And.intro ?_ ?_ | refine WX.of ?_) | exact zc | ((with_reducible refine VC.mk ?_); exact zw) | (with_reducible first | refine splitT ?_ | refine splitF ?_) | ((with_reducible refine splitM.mk (fun hsm => ?_) (fun hsm => ?_)) <;> (try exact zx)) | ((with_reducible refine splitB.mk (fun h => ?_) (fun h => ?_)) <;> (try simp only [zs, ne_eq] at h) <;> (try simp (disch := omega) only [w64] at h) <;> (try exact zx)) | (with_reducible intro hz; (try exact absurd hz (Nat.succ_ne_zero _)))))
  · intro i ⟨hi, hp⟩
    by_cases hlt : i < s.length
    · obtain ⟨c, hc⟩ := get_some (l := s) (i := i) (by omega)
      (repeat' ((try (conv => whnf)); first | (with_reducible first | refine And.intro ?_ ?_ | refine WX.of ?_) | exact zc | ((with_reducible refine VC.mk ?_); exact zw) | refine atL_n hc ?_ | (with_reducible first | refine splitT ?_ | refine splitF ?_) | ((with_reducible refine splitM.mk (fun hsm => ?_) (fun hsm => ?_)) <;> (try exact zx)) | ((with_reducible refine splitB.mk (fun h => ?_) (fun h => ?_)) <;> (try simp only [zs, ne_eq] at h) <;> (try simp (disch := omega) only [w64] at h) <;> (try exact zx)) | (with_reducible intro hz; (try exact absurd hz (Nat.succ_ne_zero _)))))
      · exact ⟨by rw [word_no hc (by unfold letB; rw [decide_eq_false]; omega)]⟩
      · exact ⟨by rw [word_no hc (by unfold letB; rw [decide_eq_false]; omega)]⟩
      · refine ⟨i + 1, by omega, ⟨hlt, upto_step hc (by unfold letB; rw [decide_eq_true]; omega) hp⟩, ?_⟩
        (repeat' ((try (conv => whnf)); first | (with_reducible first | refine And.intro ?_ ?_ | refine WX.of ?_) | exact zc | ((with_reducible refine VC.mk ?_); exact zw) | (with_reducible first | refine splitT ?_ | refine splitF ?_) | ((with_reducible refine splitM.mk (fun hsm => ?_) (fun hsm => ?_)) <;> (try exact zx)) | ((with_reducible refine splitB.mk (fun h => ?_) (fun h => ?_)) <;> (try simp only [zs, ne_eq] at h) <;> (try simp (disch := omega) only [w64] at h) <;> (try exact zx)) | (with_reducible intro hz; (try exact absurd hz (Nat.succ_ne_zero _)))))
    · (repeat' ((try (conv => whnf)); first | (with_reducible first | refine And.intro ?_ ?_ | refine WX.of ?_) | exact zc | ((with_reducible refine VC.mk ?_); exact zw) | (with_reducible first | refine splitT ?_ | refine splitF ?_) | ((with_reducible refine splitM.mk (fun hsm => ?_) (fun hsm => ?_)) <;> (try exact zx)) | ((with_reducible refine splitB.mk (fun h => ?_) (fun h => ?_)) <;> (try simp only [zs, ne_eq] at h) <;> (try simp (disch := omega) only [w64] at h) <;> (try exact zx)) | (with_reducible intro hz; (try exact absurd hz (Nat.succ_ne_zero _)))))
      · have ha := word_all fun j c hj => hp j c (by have := (List.getElem?_eq_some_iff.1 hj).1; omega) hj
        have hl : 1 ≤ s.length := by cases s with | nil => exact absurd rfl h | cons a r => simp
        refine ⟨congrArg SV.bool ?_⟩
        unfold wordB; rw [ha, Bool.and_true, decide_eq_decide]; omega
      · subst h; exact ⟨congrArg SV.bool (by simp [wordB])⟩
def s_ver : Spec := fun args S => match args, S with
  | [.agg [.int .i64 p, .bool b]], [] => ⟨True, .bool (decide (2 ≤ p ∧ p ≤ 40)), []⟩
  | _, _ => noSpec
theorem ok_ValidVernier : SpecOk Try.prog 52 s_ver := by
  intro args S h; unfold s_ver at h ⊢; (split at h <;> first | exact False.elim h | skip)
  dsimp only at h ⊢
  refine funW tabOk (E := [(67, s_within)]) ⟨ok_within, trivial⟩ [] (k := 0) (fn := Try.f52) rfl rfl rfl rfl rfl rfl ?_
  (repeat' ((try (conv => whnf)); first | (with_reducible first | refine And.intro ?_ ?_ | refine WX.of ?_) | exact zc | ((with_reducible refine VC.mk ?_); exact zw) | (with_reducible first | refine splitT ?_ | refine splitF ?_) | ((with_reducible refine splitM.mk (fun hsm => ?_) (fun hsm => ?_)) <;> (try exact zx)) | ((with_reducible refine splitB.mk (fun h => ?_) (fun h => ?_)) <;> (try simp only [zs, ne_eq] at h) <;> (try simp (disch := omega) only [w64] at h) <;> (try exact zx)) | (with_reducible intro hz; (try exact absurd hz (Nat.succ_ne_zero _)))))
/-- A valid scale. -/
def mkOk (up uq : Int) (k : Nat) (e : Int × Int) : Bool := redOk (k * up) (1 * uq) && redOk (tolP (k * up) (1 * uq) * e.2 + e.1 * tolQ (k * up) (1 * uq)) (tolQ (k * up) (1 * uq) * e.2)
def elB (up uq : Int) (k : Nat) (e : Int × Int) : Bool := fOk e.1 e.2 && decide (4 * (e.1.natAbs : Int) * uq ≤ up * e.2) && mkOk up uq k e
def scB (up uq : Int) (E : List (Int × Int)) : Bool := fOk up uq && (decide (0 < up) && decide (up ≤ 1000 * uq)) && decide (2 ≤ E.length ∧ E.length ≤ 60) && allI (0, 0) (elB up uq) E
theorem fallF_at {L : List (Int × Int)} {k : Nat} {a : Int × Int} (h : allF L = true) (ha : L[k]? = some a) : fOk a.1 a.2 = true := List.all_eq_true.1 h a (List.mem_of_getElem? ha)
theorem sc_no {up uq : Int} {E : List (Int × Int)} {k : Nat} {a : Int × Int} (ha : E[k]? = some a) (h : elB up uq k a = false) : scB up uq E = false := by
  unfold scB; rw [allI_no ha h, Bool.and_false]
theorem sc_yes {up uq : Int} {E : List (Int × Int)} {n : Nat} (hn : E.length = n) (h1 : fOk up uq = true) (h2 : 0 < up ∧ up ≤ 1000 * uq) (h3 : 2 ≤ n ∧ n ≤ 60) (h : ∀ (k : Nat) a, k < n → E[k]? = some a → elB up uq k a = true) : scB up uq E = true := by
  unfold scB; rw [allI_yes hn h, h1, decide_eq_true h2.1, decide_eq_true h2.2, decide_eq_true (by omega)]; rfl
theorem quad {up uq p q : Int} (h1 : smF up uq) (h2 : smF p q) : (-4000000000000000000 ≤ 4 * (p.natAbs : Int) * uq ∧ 4 * (p.natAbs : Int) * uq ≤ 4000000000000000000) ∧ -1000000000000000000 ≤ up * q ∧ up * q ≤ 1000000000000000000 := by
  unfold smF at h1 h2
  have e1 := mulB (a := (p.natAbs : Int)) (b := uq) (by omega) (by omega)
  have e2 := mulB (a := up) (b := q) (by omega) (by omega)
  rw [Int.mul_assoc]
  omega
def s_vScale : Spec := fun args S => match args, S with
  | [.agg [.int .i64 up, .int .i64 uq, .sl 0 s n x]], [.arr (.prod (.int .i64) (.int .i64)) l 2 wr] => ⟨s + n ≤ l.length ∧ n ≤ 1048576, .bool (scB up uq (seg l s n)), [.arr (.prod (.int .i64) (.int .i64)) l 2 wr]⟩
  | _, _ => noSpec
theorem ok_ValidScale : SpecOk Try.prog 51 s_vScale := by
  intro args S h; unfold s_vScale at h ⊢; (split at h <;> first | exact False.elim h | skip)
  dsimp only at h ⊢
  rename_i up uq s n x l wr
  have hL := seg_len h.1
  refine funW tabOk (E := [(47, s_fOk), (70, s_isUnit), (67, s_within), (24, s_allF), (71, s_size), (49, s_num), (73, s_mul), (72, s_add)]) ⟨ok_ValidFrac, ok_isUnit, ok_within, ok_areValid, ok_size, ok_num, ok_mul, ok_add, trivial⟩ [(7, [(6, 0), (10, 0), (12, 0)]), (9, [(5, 0), (7, 0), (7, 1)])] (k := 1) (fn := Try.f51) rfl rfl rfl rfl rfl rfl ?_
  (repeat' ((try (conv => whnf)); first | (with_reducible first | refine And.intro ?_ ?_ | refine WX.of ?_) | exact zc | ((with_reducible refine VC.mk ?_); exact zw) | ((with_reducible refine VC.mk ?_); (exact smF_ok ‹_›)) | (with_reducible first | refine splitT ?_ | refine splitF ?_) | ((with_reducible refine splitM.mk (fun hsm => ?_) (fun hsm => ?_)) <;> (try exact zx)) | ((with_reducible refine splitB.mk (fun h => ?_) (fun h => ?_)) <;> (try simp only [zs, ne_eq] at h) <;> (try simp (disch := omega) only [w64] at h) <;> (try exact zx)) | (with_reducible intro hz; (try exact absurd hz (Nat.succ_ne_zero _)))))
  · exact ⟨congrArg SV.bool (by simp [scB, h])⟩
  · exact ⟨congrArg SV.bool (by simp only [scB, h, Bool.and_false, Bool.false_and])⟩
  · exact ⟨congrArg SV.bool (by unfold scB; rw [hL, show decide (2 ≤ n ∧ n ≤ 60) = false from decide_eq_false (by omega), Bool.and_false, Bool.false_and])⟩
  · refine ⟨congrArg SV.bool ?_⟩
    unfold allF at h
    rw [List.all_eq_false] at h
    obtain ⟨a, ha, hb⟩ := h
    obtain ⟨j, hj⟩ := List.getElem?_of_mem ha
    rw [sc_no hj (by unfold elB; simp at hb; simp [hb])]
  · rename_i hU hu hn
    have hV := h
    have hsU := smF_ok hU
    have hu2 : 0 < up ∧ up ≤ 1000 * uq := by simpa using hu
    refine loopW tabOk (E := [(47, s_fOk), (70, s_isUnit), (67, s_within), (24, s_allF), (71, s_size), (49, s_num), (73, s_mul), (72, s_add)]) ⟨ok_ValidFrac, ok_isUnit, ok_within, ok_areValid, ok_size, ok_num, ok_mul, ok_add, trivial⟩ [(7, [(6, 0), (10, 0), (12, 0)]), (9, [(5, 0), (7, 0), (7, 1)])] (σ := Nat) (fun i => [(1, .ptr 1 0 0), (3, .ptr 2 0 0), (32, .sl 0 s n x), (33, .int .i64 n), (34, .int .i64 i)]) (fun i => [.arr (.prod (.int .i64) (.int .i64)) l 2 wr, .box [.int .i64 up, .int .i64 uq, .sl 0 s n x] true false, .arr .bool [!allI (0, 0) (mkOk up uq) ((seg l s n).take i)] 0 true]) (fun i => n - i) (fun i => i ≤ n ∧ ∀ (j : Nat) (a : Int × Int), j < i → (seg l s n)[j]? = some a → (fOk a.1 a.2 && decide (4 * (a.1.natAbs : Int) * uq ≤ up * a.2)) = true) 0 ⟨Nat.zero_le _, fun j a hj => by omega⟩ ?_ ?_
    · (repeat' ((try (conv => whnf)); first | (with_reducible first | refine And.intro ?_ ?_ | refine WX.of ?_) | exact zc | ((with_reducible refine VC.mk ?_); exact zw) | (with_reducible first | refine splitT ?_ | refine splitF ?_) | ((with_reducible refine splitM.mk (fun hsm => ?_) (fun hsm => ?_)) <;> (try exact zx)) | ((with_reducible refine splitB.mk (fun h => ?_) (fun h => ?_)) <;> (try simp only [zs, ne_eq] at h) <;> (try simp (disch := omega) only [w64] at h) <;> (try exact zx)) | (with_reducible intro hz; (try exact absurd hz (Nat.succ_ne_zero _)))))
    · intro i ⟨hi, hp⟩
      by_cases hlt : i < n
      · obtain ⟨⟨p, q⟩, ha⟩ := get_some (l := seg l s n) (i := i) (by omega)
        have hf : fOk p q = true := fallF_at hV ha
        have hsf := smF_ok hf
        have hsb := hsf
        unfold smF at hsb
        have hq4 := quad hsU hsf
        have hk : smF (i : Int) 1 := smF_1 (by omega)
        have ht := smF_tol ((i : Int) * up) (1 * uq)
        (repeat' ((try (conv => whnf)); first | (with_reducible first | refine And.intro ?_ ?_ | refine WX.of ?_) | exact zc | ((with_reducible refine VC.mk ?_); exact zw) | with_reducible refine atL_i ha ?_ | ((with_reducible refine VC.mk ?_); exact hsf) | ((with_reducible refine VC.mk ?_); exact ⟨rfl, hk, hsU⟩) | ((with_reducible refine VC.mk ?_); exact ⟨rfl, ht, hsf⟩) | (with_reducible first | refine splitT ?_ | refine splitF ?_) | ((with_reducible refine splitM.mk (fun hsm => ?_) (fun hsm => ?_)) <;> (try exact zx)) | ((with_reducible refine splitB.mk (fun h => ?_) (fun h => ?_)) <;> (try simp only [zs, ne_eq] at h) <;> (try simp (disch := omega) only [w64] at h) <;> (try exact zx)) | (with_reducible intro hz; (try exact absurd hz (Nat.succ_ne_zero _)))))
        · have hd : decide (4 * (p.natAbs : Int) * uq ≤ up * q) = false := decide_eq_false (by omega)
          exact ⟨congrArg SV.bool (by rw [sc_no ha (by unfold elB; dsimp only; rw [hd, Bool.and_false, Bool.false_and])])⟩
        · have hd : decide (4 * (p.natAbs : Int) * uq ≤ up * q) = true := decide_eq_true (by omega)
          refine ⟨i + 1, by omega, ⟨hlt, upto_step ha (by dsimp only; rw [hf, hd]; rfl) hp⟩, ?_⟩
          (repeat' ((try (conv => whnf)); first | (with_reducible first | refine And.intro ?_ ?_ | refine WX.of ?_) | exact zc | ((with_reducible refine VC.mk ?_); exact zw) | (with_reducible first | refine splitT ?_ | refine splitF ?_) | ((with_reducible refine splitM.mk (fun hsm => ?_) (fun hsm => ?_)) <;> (try exact zx)) | ((with_reducible refine splitB.mk (fun h => ?_) (fun h => ?_)) <;> (try simp only [zs, ne_eq] at h) <;> (try simp (disch := omega) only [w64] at h) <;> (try exact zx)) | (with_reducible intro hz; (try exact absurd hz (Nat.succ_ne_zero _)))))
          refine ⟨?_⟩
          rw [allI_snoc ha]
          simp [mkOk, Bool.or_assoc]
      · obtain rfl : i = n := by omega
        rw [List.take_of_length_le (by omega)]
        (repeat' ((try (conv => whnf)); first | (with_reducible first | refine And.intro ?_ ?_ | refine WX.of ?_) | exact zc | ((with_reducible refine VC.mk ?_); exact zw) | (with_reducible first | refine splitT ?_ | refine splitF ?_) | ((with_reducible refine splitM.mk (fun hsm => ?_) (fun hsm => ?_)) <;> (try exact zx)) | ((with_reducible refine splitB.mk (fun h => ?_) (fun h => ?_)) <;> (try simp only [zs, ne_eq] at h) <;> (try simp (disch := omega) only [w64] at h) <;> (try exact zx)) | (with_reducible intro hz; (try exact absurd hz (Nat.succ_ne_zero _)))))
        refine ⟨congrArg SV.bool ?_⟩
        rw [Bool.not_not]
        cases hm : allI (0, 0) (mkOk up uq) (seg l s i) with
        | true => exact (sc_yes hL hU hu2 (by omega) (fun k a hk ha => by unfold elB; rw [hp k a hk ha, allI_at hm ha]; rfl)).symm
        | false =>
          cases hs : scB up uq (seg l s i) with
          | false => rfl
          | true =>
            unfold scB at hs
            rw [Bool.and_eq_true] at hs
            have : allI (0, 0) (mkOk up uq) (seg l s i) = true := allI_iff.2 fun k a ha => by
              have := allI_at hs.2 ha
              unfold elB at this
              rw [Bool.and_eq_true] at this
              exact this.2
            rw [this] at hm; simp at hm
end Go.Proofs.Yteniodjodngkbaa.Eng
set_option linter.unusedVariables false
set_option linter.unusedSimpArgs false
namespace Go.Proofs.Yteniodjodngkbaa.Eng
open Go Go.RowKit
set_option maxRecDepth 100000
def s_l02Ver : Spec := fun args S => match args, S with
  | [.ptr 0 0 3], [.box [.int .i64 up, .int .i64 uq, .sl 1 s n x, .int .i64 vp, .bool vb, .int .i64 gp, .int .i64 gq, .sl 2 t m y] true false, .arr (.prod (.int .i64) (.int .i64)) l 2 wr, .arr (.prod .str (.prod (.prod (.int .i64) (.int .i64)) (.prod (.int .i64) (.int .i64)))) T 5 wT] => ⟨True, .bool (decide (2 ≤ vp ∧ vp ≤ 40)), [.box [.int .i64 up, .int .i64 uq, .sl 1 s n x, .int .i64 vp, .bool vb, .int .i64 gp, .int .i64 gq, .sl 2 t m y] true false, .arr (.prod (.int .i64) (.int .i64)) l 2 wr, .arr (.prod .str (.prod (.prod (.int .i64) (.int .i64)) (.prod (.int .i64) (.int .i64)))) T 5 wT]⟩
  | _, _ => noSpec
theorem ok_l02Vernier : SpecOk Try.prog 37 s_l02Ver := by
  intro args S h; unfold s_l02Ver at h ⊢; (split at h <;> first | exact False.elim h | skip)
  dsimp only at h ⊢
  refine funW tabOk (E := [(59, s_within)]) ⟨ok_l00In, trivial⟩ [] (k := 3) (fn := Try.f37) rfl rfl rfl rfl rfl rfl ?_
  (repeat' ((try (conv => whnf)); first | (with_reducible first | refine And.intro ?_ ?_ | refine WX.of ?_) | exact zc | ((with_reducible refine VC.mk ?_); exact zw) | (with_reducible first | refine splitT ?_ | refine splitF ?_) | ((with_reducible refine splitM.mk (fun hsm => ?_) (fun hsm => ?_)) <;> (try exact zx)) | ((with_reducible refine splitB.mk (fun h => ?_) (fun h => ?_)) <;> (try simp only [zs, ne_eq] at h) <;> (try simp (disch := omega) only [w64] at h) <;> (try exact zx)) | (with_reducible intro hz; (try exact absurd hz (Nat.succ_ne_zero _)))))
def mkC (up uq : Int) (k : Int) (e : Int × Int) : Int := if redOk (k * up) (1 * uq) = true then rdC (rdP (k * up) (1 * uq) * e.2 + e.1 * rdQ (k * up) (1 * uq)) (rdQ (k * up) (1 * uq) * e.2) else 3
def mkP (up uq : Int) (k : Int) (e : Int × Int) : Int := if redOk (k * up) (1 * uq) = true then rdP (rdP (k * up) (1 * uq) * e.2 + e.1 * rdQ (k * up) (1 * uq)) (rdQ (k * up) (1 * uq) * e.2) else 0
def mkQ (up uq : Int) (k : Int) (e : Int × Int) : Int := if redOk (k * up) (1 * uq) = true then rdQ (rdP (k * up) (1 * uq) * e.2 + e.1 * rdQ (k * up) (1 * uq)) (rdQ (k * up) (1 * uq) * e.2) else 0
theorem mkC_ok {up uq : Int} {k : Nat} {e : Int × Int} : mkC up uq k e = 0 ↔ mkOk up uq k e = true := by
  unfold mkC mkOk rdC rdP rdQ tolP tolQ
  cases h : redOk ((k : Int) * up) (1 * uq)
  · simp
  · simp only [if_true, Bool.true_and]
    split <;> simp_all
def s_l02Mark : Spec := fun args S => match args, S with
  | [.ptr 0 0 0, .int .i64 k], [.box [.int .i64 up, .int .i64 uq, .sl 1 s n x, .int .i64 vp, .bool vb, .int .i64 gp, .int .i64 gq, .sl 2 t m y] true false, .arr (.prod (.int .i64) (.int .i64)) l 2 wr, .arr (.prod .str (.prod (.prod (.int .i64) (.int .i64)) (.prod (.int .i64) (.int .i64)))) T 5 wT] => ⟨(s + n ≤ l.length ∧ n ≤ 1048576) ∧ (0 ≤ k ∧ k < n ∧ n ≤ 60) ∧ smF up uq ∧ ∀ a, (seg l s n)[k.toNat]? = some a → smF a.1 a.2, .tup [.agg [.int .i64 (mkP up uq k (((seg l s n)[k.toNat]?).getD (0, 0))), .int .i64 (mkQ up uq k (((seg l s n)[k.toNat]?).getD (0, 0)))], .int .i64 (mkC up uq k (((seg l s n)[k.toNat]?).getD (0, 0)))], [.box [.int .i64 up, .int .i64 uq, .sl 1 s n x, .int .i64 vp, .bool vb, .int .i64 gp, .int .i64 gq, .sl 2 t m y] true false, .arr (.prod (.int .i64) (.int .i64)) l 2 wr, .arr (.prod .str (.prod (.prod (.int .i64) (.int .i64)) (.prod (.int .i64) (.int .i64)))) T 5 wT]⟩
  | _, _ => noSpec
theorem ok_l02Mark : SpecOk Try.prog 61 s_l02Mark := by
  intro args S h; unfold s_l02Mark at h ⊢; (split at h <;> first | exact False.elim h | skip)
  dsimp only at h ⊢
  rename_i k up uq s n x vp vb gp gq t m y l wr T wT
  obtain ⟨⟨h1, h2⟩, ⟨h3, h4, h5⟩, h6, h7⟩ := h
  have hL := seg_len h1
  obtain ⟨⟨p, q⟩, ha⟩ := get_some (l := seg l s n) (i := k.toNat) (by omega)
  have hs := h7 _ ha
  dsimp only at hs
  have e : ((seg l s n)[k.toNat]?).getD (0, 0) = (p, q) := by rw [ha]; rfl
  rw [e]
  have hk : smF k 1 := smF_1 (by omega)
  have hr : redOk (k * up) (1 * uq) = true → smF (rdP (k * up) (1 * uq)) (rdQ (k * up) (1 * uq)) := fun h => by
    unfold rdP rdQ; rw [if_pos h, if_pos h]; exact smF_ok h
  have hkk : ((k.toNat : Nat) : Int) = k := Int.toNat_of_nonneg h3
  refine funW tabOk (E := [(63, s_num), (76, s_mulS), (65, s_addS)]) ⟨ok_l01Whole, ok_l01Mul, ok_l01Add, trivial⟩ [(1, [(5, 0), (10, 0), (10, 1)])] (k := 3) (fn := Try.f61) rfl rfl rfl rfl rfl rfl ?_
  (repeat' ((try (conv => whnf)); first | (with_reducible first | refine And.intro ?_ ?_ | refine WX.of ?_) | exact zc | ((with_reducible refine VC.mk ?_); exact zw) | ((with_reducible refine VC.mk ?_); exact ⟨hk, h6⟩) | (with_reducible first | refine splitT ?_ | refine splitF ?_) | ((with_reducible refine splitM.mk (fun hsm => ?_) (fun hsm => ?_)) <;> (try exact zx)) | ((with_reducible refine splitB.mk (fun h => ?_) (fun h => ?_)) <;> (try simp only [zs, ne_eq] at h) <;> (try simp (disch := omega) only [w64] at h) <;> (try exact zx)) | (with_reducible intro hz; (try exact absurd hz (Nat.succ_ne_zero _)))))
  · have hb : redOk (k * up) (1 * uq) = false := by
      unfold rdC at h; cases hb : redOk (k * up) (1 * uq) <;> simp_all
    exact ⟨by simp only [mkP, mkQ, mkC, rdC, hb, if_false, Bool.false_eq_true]⟩
  · have hb : redOk (k * up) (1 * uq) = true := by
      unfold rdC at h; cases hb : redOk (k * up) (1 * uq) <;> simp_all
    (repeat' ((try (conv => whnf)); first | (with_reducible first | refine And.intro ?_ ?_ | refine WX.of ?_) | exact zc | ((with_reducible refine VC.mk ?_); exact zw) | with_reducible refine atL_p (seg_get ha).1 ?_ | ((with_reducible refine VC.mk ?_); exact ⟨hr hb, hs⟩) | (with_reducible first | refine splitT ?_ | refine splitF ?_) | ((with_reducible refine splitM.mk (fun hsm => ?_) (fun hsm => ?_)) <;> (try exact zx)) | ((with_reducible refine splitB.mk (fun h => ?_) (fun h => ?_)) <;> (try simp only [zs, ne_eq] at h) <;> (try simp (disch := omega) only [w64] at h) <;> (try exact zx)) | (with_reducible intro hz; (try exact absurd hz (Nat.succ_ne_zero _)))))
    all_goals exact ⟨by simp only [mkP, mkQ, mkC, hb, if_true]⟩
def s_l02Ok : Spec := fun args S => match args, S with
  | [.ptr 0 0 0], [.box [.int .i64 up, .int .i64 uq, .sl 1 s n x, .int .i64 vp, .bool vb, .int .i64 gp, .int .i64 gq, .sl 2 t m y] true false, .arr (.prod (.int .i64) (.int .i64)) l 2 wr, .arr (.prod .str (.prod (.prod (.int .i64) (.int .i64)) (.prod (.int .i64) (.int .i64)))) T 5 wT] => ⟨s + n ≤ l.length ∧ n ≤ 1048576, .bool (scB up uq (seg l s n)), [.box [.int .i64 up, .int .i64 uq, .sl 1 s n x, .int .i64 vp, .bool vb, .int .i64 gp, .int .i64 gq, .sl 2 t m y] true false, .arr (.prod (.int .i64) (.int .i64)) l 2 wr, .arr (.prod .str (.prod (.prod (.int .i64) (.int .i64)) (.prod (.int .i64) (.int .i64)))) T 5 wT]⟩
  | _, _ => noSpec
theorem ok_l02Ok : SpecOk Try.prog 36 s_l02Ok := by
  intro args S h; unfold s_l02Ok at h ⊢; (split at h <;> first | exact False.elim h | skip)
  dsimp only at h ⊢
  rename_i up uq s n x vp vb gp gq t m y l wr T wT
  obtain ⟨h1, h2⟩ := h
  have hL := seg_len h1
  refine funW tabOk (E := [(40, s_wi), (59, s_within), (41, s_fOk), (60, s_abs), (61, s_l02Mark)]) ⟨ok_l02Within, ok_l00In, ok_l01Ok, ok_l01Abs, ok_l02Mark, trivial⟩ [(7, [(12, 1), (18, 1), (20, 1)])] (k := 3) (fn := Try.f36) rfl rfl rfl rfl rfl rfl ?_
  (repeat' ((try (conv => whnf)); first | (with_reducible first | refine And.intro ?_ ?_ | refine WX.of ?_) | exact zc | ((with_reducible refine VC.mk ?_); exact zw) | (with_reducible first | refine splitT ?_ | refine splitF ?_) | ((with_reducible refine splitM.mk (fun hsm => ?_) (fun hsm => ?_)) <;> (try exact zx)) | ((with_reducible refine splitB.mk (fun h => ?_) (fun h => ?_)) <;> (try simp only [zs, ne_eq] at h) <;> (try simp (disch := omega) only [w64] at h) <;> (try exact zx)) | (with_reducible intro hz; (try exact absurd hz (Nat.succ_ne_zero _)))))
  · exact ⟨congrArg SV.bool (by unfold wiB at h; unfold scB; rw [← Bool.and_assoc (fOk up uq), h, Bool.false_and, Bool.false_and])⟩
  · rename_i hw
    exact ⟨congrArg SV.bool (by unfold scB; rw [hL, show decide (2 ≤ n ∧ n ≤ 60) = false from decide_eq_false (by omega), Bool.and_false, Bool.false_and])⟩
  · rename_i hw
    have hn := h
    have hw2 : fOk up uq = true ∧ 0 < up ∧ up ≤ 1000 * uq := by simpa [wiB, and_assoc] using hw
    have hsU := smF_ok hw2.1
    have hU := hsU
    unfold smF at hU
    refine loopW tabOk (E := [(40, s_wi), (59, s_within), (41, s_fOk), (60, s_abs), (61, s_l02Mark)]) ⟨ok_l02Within, ok_l00In, ok_l01Ok, ok_l01Abs, ok_l02Mark, trivial⟩ [(7, [(12, 1), (18, 1), (20, 1)])] (σ := Nat) (fun i => [(0, .ptr 0 0 0), (3, .int .i64 i)]) (fun i => [.box [.int .i64 up, .int .i64 uq, .sl 1 s n x, .int .i64 vp, .bool vb, .int .i64 gp, .int .i64 gq, .sl 2 t m y] true false, .arr (.prod (.int .i64) (.int .i64)) l 2 wr, .arr (.prod .str (.prod (.prod (.int .i64) (.int .i64)) (.prod (.int .i64) (.int .i64)))) T 5 wT]) (fun i => n - i) (fun i => i ≤ n ∧ ∀ (j : Nat) (a : Int × Int), j < i → (seg l s n)[j]? = some a → elB up uq j a = true) 0 ⟨Nat.zero_le _, fun j a hj => by omega⟩ ?_ ?_
    · (repeat' ((try (conv => whnf)); first | (with_reducible first | refine And.intro ?_ ?_ | refine WX.of ?_) | exact zc | ((with_reducible refine VC.mk ?_); exact zw) | (with_reducible first | refine splitT ?_ | refine splitF ?_) | ((with_reducible refine splitM.mk (fun hsm => ?_) (fun hsm => ?_)) <;> (try exact zx)) | ((with_reducible refine splitB.mk (fun h => ?_) (fun h => ?_)) <;> (try simp only [zs, ne_eq] at h) <;> (try simp (disch := omega) only [w64] at h) <;> (try exact zx)) | (with_reducible intro hz; (try exact absurd hz (Nat.succ_ne_zero _)))))
    · intro i ⟨hi, hp⟩
      by_cases hlt : i < n
      · obtain ⟨⟨p, q⟩, ha⟩ := get_some (l := seg l s n) (i := i) (by omega)
        have e : ((seg l s n)[((i : Nat) : Int).toNat]?).getD (0, 0) = (p, q) := by rw [Int.toNat_natCast, ha]; rfl
        by_cases hf : fOk p q = true
        · have hsf := smF_ok hf
          have hsb := hsf
          unfold smF at hsb
          have hq4 := quad hsU hsf
          have hall : ∀ a, (seg l s n)[((i : Nat) : Int).toNat]? = some a → smF a.1 a.2 := fun a h => by
            rw [Int.toNat_natCast, ha] at h; obtain rfl := Option.some.inj h; exact hsf
          (repeat' ((try (conv => whnf)); first | (with_reducible first | refine And.intro ?_ ?_ | refine WX.of ?_) | exact zc | ((with_reducible refine VC.mk ?_); exact zw) | with_reducible refine atL_i ha ?_ | ((with_reducible refine splitT_of ?_ ?_); (focus (simp only [hf, Bool.not_true, Bool.not_false, decide_true, decide_false]; done))) | ((with_reducible refine splitF_of ?_ ?_); (focus (simp only [hf, Bool.not_true, Bool.not_false, decide_true, decide_false]; done))) | ((with_reducible refine VC.mk ?_); (refine ⟨⟨h1, h2⟩, ?_, hsU, hall⟩); omega) | (with_reducible first | refine splitT ?_ | refine splitF ?_) | ((with_reducible refine splitM.mk (fun hsm => ?_) (fun hsm => ?_)) <;> (try exact zx)) | ((with_reducible refine splitB.mk (fun h => ?_) (fun h => ?_)) <;> (try simp only [zs, ne_eq] at h) <;> (try simp (disch := omega) only [w64] at h) <;> (try exact zx)) | (with_reducible intro hz; (try exact absurd hz (Nat.succ_ne_zero _)))))
          · exact ⟨congrArg SV.bool (by rw [sc_no ha (by unfold elB; dsimp only; rw [show decide (4 * (p.natAbs : Int) * uq ≤ up * q) = false from decide_eq_false (by omega), Bool.and_false, Bool.false_and])])⟩
          · rw [e] at h
            have hm : mkOk up uq i (p, q) = false := by
              cases hm : mkOk up uq i (p, q) with
              | false => rfl
              | true => exact absurd (mkC_ok.2 hm) h
            exact ⟨congrArg SV.bool (by rw [sc_no ha (by unfold elB; rw [hm, Bool.and_false])])⟩
          · rw [e] at h
            have hm := mkC_ok.1 h
            have hd : decide (4 * (p.natAbs : Int) * uq ≤ up * q) = true := decide_eq_true (by omega)
            have hel : elB up uq i (p, q) = true := by unfold elB; rw [hm]; dsimp only; rw [hf, hd]; rfl
            refine ⟨i + 1, by omega, ⟨hlt, upto_step2 ha hel hp⟩, ?_⟩
            (repeat' ((try (conv => whnf)); first | (with_reducible first | refine And.intro ?_ ?_ | refine WX.of ?_) | exact zc | ((with_reducible refine VC.mk ?_); exact zw) | (with_reducible first | refine splitT ?_ | refine splitF ?_) | ((with_reducible refine splitM.mk (fun hsm => ?_) (fun hsm => ?_)) <;> (try exact zx)) | ((with_reducible refine splitB.mk (fun h => ?_) (fun h => ?_)) <;> (try simp only [zs, ne_eq] at h) <;> (try simp (disch := omega) only [w64] at h) <;> (try exact zx)) | (with_reducible intro hz; (try exact absurd hz (Nat.succ_ne_zero _)))))
        · have hf : fOk p q = false := by simpa using hf
          (repeat' ((try (conv => whnf)); first | (with_reducible first | refine And.intro ?_ ?_ | refine WX.of ?_) | exact zc | ((with_reducible refine VC.mk ?_); exact zw) | with_reducible refine atL_i ha ?_ | ((with_reducible refine splitT_of ?_ ?_); (focus (simp only [hf, Bool.not_true, Bool.not_false, decide_true, decide_false]; done))) | ((with_reducible refine splitF_of ?_ ?_); (focus (simp only [hf, Bool.not_true, Bool.not_false, decide_true, decide_false]; done))) | (with_reducible first | refine splitT ?_ | refine splitF ?_) | ((with_reducible refine splitM.mk (fun hsm => ?_) (fun hsm => ?_)) <;> (try exact zx)) | ((with_reducible refine splitB.mk (fun h => ?_) (fun h => ?_)) <;> (try simp only [zs, ne_eq] at h) <;> (try simp (disch := omega) only [w64] at h) <;> (try exact zx)) | (with_reducible intro hz; (try exact absurd hz (Nat.succ_ne_zero _)))))
          all_goals exact ⟨congrArg SV.bool (by rw [sc_no ha (by unfold elB; dsimp only; rw [hf, Bool.false_and, Bool.false_and])])⟩
      · obtain rfl : i = n := by omega
        (repeat' ((try (conv => whnf)); first | (with_reducible first | refine And.intro ?_ ?_ | refine WX.of ?_) | exact zc | ((with_reducible refine VC.mk ?_); exact zw) | (with_reducible first | refine splitT ?_ | refine splitF ?_) | ((with_reducible refine splitM.mk (fun hsm => ?_) (fun hsm => ?_)) <;> (try exact zx)) | ((with_reducible refine splitB.mk (fun h => ?_) (fun h => ?_)) <;> (try simp only [zs, ne_eq] at h) <;> (try simp (disch := omega) only [w64] at h) <;> (try exact zx)) | (with_reducible intro hz; (try exact absurd hz (Nat.succ_ne_zero _)))))
        exact ⟨congrArg SV.bool (sc_yes hL hw2.1 hw2.2 (by omega) hp).symm⟩
/-- A valid thing, and things with names of their own. -/
def thB (T : List ThT) (i : Nat) (x : ThT) : Bool := (wordB x.1 && !((T.take i).any fun o => decide (o.1 = x.1))) && (wiB x.2.1.1 x.2.1.2 100000 && gwB x.2.2.1 x.2.2.2)
def bnB (up uq vp gp gq : Int) (E : List (Int × Int)) (T : List ThT) : Bool := (scB up uq E && decide (2 ≤ vp ∧ vp ≤ 40) && gwB gp gq && decide (T.length ≤ 10)) && allI ([], (0, 0), 0, 0) (thB T) T
theorem bn_no {up uq vp gp gq : Int} {E : List (Int × Int)} {T : List ThT} {k : Nat} {a : ThT} (ha : T[k]? = some a) (h : thB T k a = false) : bnB up uq vp gp gq E T = false := by
  unfold bnB; rw [allI_no ha h, Bool.and_false]
theorem bn_yes {up uq vp gp gq : Int} {E : List (Int × Int)} {T : List ThT} (h : ∀ (k : Nat) a, T[k]? = some a → thB T k a = true) : bnB up uq vp gp gq E T = (scB up uq E && decide (2 ≤ vp ∧ vp ≤ 40) && gwB gp gq && decide (T.length ≤ 10)) := by
  unfold bnB; rw [allI_iff.2 h, Bool.and_true]
theorem wi_no0 {p q m : Int} (h : fOk p q = false) : wiB p q m = false := by simp [wiB, h]
theorem wi_no1 {p q m : Int} (h : p ≤ 0) : wiB p q m = false := by simp [wiB, show ¬ 0 < p by omega]
theorem wi_no2 {p q m : Int} (h : 0 < cmpF p q m 1) : wiB p q m = false := by
  have := cmpF_gt.1 h
  simp [wiB, show ¬ p ≤ m * q by omega]
theorem wi_yes {p q m : Int} (hf : fOk p q = true) (h0 : 0 < p) (h : cmpF p q m 1 ≤ 0) : wiB p q m = true := by
  have := cmpF_le.1 h
  simp [wiB, hf, h0, show p ≤ m * q by omega]
def s_cl1 : Spec := fun args S => match args, S with
  | [.agg [.str nm, .int .i64 p, .int .i64 q, .int .i64 r, .int .i64 s], .ptr 0 0 0], [.arr (.prod .str (.prod (.prod (.int .i64) (.int .i64)) (.prod (.int .i64) (.int .i64)))) [o] 0 true] => ⟨True, .bool (decide (nm = o.1)), [.arr (.prod .str (.prod (.prod (.int .i64) (.int .i64)) (.prod (.int .i64) (.int .i64)))) [o] 0 true]⟩
  | _, _ => noSpec
theorem ok_ValidBench1 : SpecOk Try.prog 46 s_cl1 := by
  intro args S h; unfold s_cl1 at h ⊢; (split at h <;> first | exact False.elim h | skip)
  dsimp only at h ⊢
  refine funW tabOk (E := []) trivial [] (k := 1) (fn := Try.f46) rfl rfl rfl rfl rfl rfl ?_
  (repeat' ((try (conv => whnf)); first | (with_reducible first | refine And.intro ?_ ?_ | refine WX.of ?_) | exact zc | ((with_reducible refine VC.mk ?_); exact zw) | (with_reducible first | refine splitT ?_ | refine splitF ?_) | ((with_reducible refine splitM.mk (fun hsm => ?_) (fun hsm => ?_)) <;> (try exact zx)) | ((with_reducible refine splitB.mk (fun h => ?_) (fun h => ?_)) <;> (try simp only [zs, ne_eq] at h) <;> (try simp (disch := omega) only [w64] at h) <;> (try exact zx)) | (with_reducible intro hz; (try exact absurd hz (Nat.succ_ne_zero _)))))
def s_idxTh (g : Nat) : Spec := fun args S => match args, S with
  | [.sl 0 s n x, .fn g' [.ptr 1 0 0]], [.arr (.prod .str (.prod (.prod (.int .i64) (.int .i64)) (.prod (.int .i64) (.int .i64)))) l 5 wr, .arr (.prod .str (.prod (.prod (.int .i64) (.int .i64)) (.prod (.int .i64) (.int .i64)))) [o] 0 true] => ⟨g' = g ∧ s + n ≤ l.length ∧ n ≤ 9223372036854775807, .int .i64 (findI (fun a : ThT => decide (a.1 = o.1)) (seg l s n)), [.arr (.prod .str (.prod (.prod (.int .i64) (.int .i64)) (.prod (.int .i64) (.int .i64)))) l 5 wr, .arr (.prod .str (.prod (.prod (.int .i64) (.int .i64)) (.prod (.int .i64) (.int .i64)))) [o] 0 true]⟩
  | _, _ => noSpec
theorem ok_idxTh : SpecOk Try.prog 68 (s_idxTh 46) := by
  intro args S h; unfold s_idxTh at h ⊢; (split at h <;> first | exact False.elim h | skip)
  dsimp only at h ⊢
  rename_i s n x g l wr o
  obtain ⟨rfl, h1, h2⟩ := h
  have hL := seg_len h1
  refine funW tabOk (E := [(46, s_cl1)]) ⟨ok_ValidBench1, trivial⟩ [] (k := 2) (fn := Try.f68) rfl rfl rfl rfl rfl rfl ?_
  (repeat' ((try (conv => whnf)); first | (with_reducible first | refine And.intro ?_ ?_ | refine WX.of ?_) | exact zc | ((with_reducible refine VC.mk ?_); exact zw) | (with_reducible first | refine splitT ?_ | refine splitF ?_) | ((with_reducible refine splitM.mk (fun hsm => ?_) (fun hsm => ?_)) <;> (try exact zx)) | ((with_reducible refine splitB.mk (fun h => ?_) (fun h => ?_)) <;> (try simp only [zs, ne_eq] at h) <;> (try simp (disch := omega) only [w64] at h) <;> (try exact zx)) | (with_reducible intro hz; (try exact absurd hz (Nat.succ_ne_zero _)))))
  refine loopW tabOk (E := [(46, s_cl1)]) ⟨ok_ValidBench1, trivial⟩ [] (σ := Nat) (fun i => [(0, .sl 0 s n x), (1, .fn 46 [.ptr 1 0 0]), (7, .int .i64 n), (8, .int .i64 i)]) (fun i => [.arr (.prod .str (.prod (.prod (.int .i64) (.int .i64)) (.prod (.int .i64) (.int .i64)))) l 5 wr, .arr (.prod .str (.prod (.prod (.int .i64) (.int .i64)) (.prod (.int .i64) (.int .i64)))) [o] 0 true]) (fun i => n - i) (fun i => i ≤ n ∧ ∀ (j : Nat) (a : ThT), j < i → (seg l s n)[j]? = some a → decide (a.1 = o.1) = false) 0 ⟨Nat.zero_le _, fun j a hj => by omega⟩ ?_ ?_
  · (repeat' ((try (conv => whnf)); first | (with_reducible first | refine And.intro ?_ ?_ | refine WX.of ?_) | exact zc | ((with_reducible refine VC.mk ?_); exact zw) | (with_reducible first | refine splitT ?_ | refine splitF ?_) | ((with_reducible refine splitM.mk (fun hsm => ?_) (fun hsm => ?_)) <;> (try exact zx)) | ((with_reducible refine splitB.mk (fun h => ?_) (fun h => ?_)) <;> (try simp only [zs, ne_eq] at h) <;> (try simp (disch := omega) only [w64] at h) <;> (try exact zx)) | (with_reducible intro hz; (try exact absurd hz (Nat.succ_ne_zero _)))))
  · intro i ⟨hi, hp⟩
    by_cases hlt : i < n
    · obtain ⟨⟨nm, ⟨p, q⟩, r, s0⟩, ha⟩ := get_some (l := seg l s n) (i := i) (by omega)
      (repeat' ((try (conv => whnf)); first | (with_reducible first | refine And.intro ?_ ?_ | refine WX.of ?_) | exact zc | ((with_reducible refine VC.mk ?_); exact zw) | with_reducible refine atL_i ha ?_ | (with_reducible first | refine splitT ?_ | refine splitF ?_) | ((with_reducible refine splitM.mk (fun hsm => ?_) (fun hsm => ?_)) <;> (try exact zx)) | ((with_reducible refine splitB.mk (fun h => ?_) (fun h => ?_)) <;> (try simp only [zs, ne_eq] at h) <;> (try simp (disch := omega) only [w64] at h) <;> (try exact zx)) | (with_reducible intro hz; (try exact absurd hz (Nat.succ_ne_zero _)))))
      · exact ⟨by rw [findI_some (p := fun a : ThT => decide (a.1 = o.1)) ha (decide_eq_true h) hp]⟩
      · refine ⟨i + 1, by omega, ⟨hlt, upto_step ha (decide_eq_false h) hp⟩, ?_⟩
        (repeat' ((try (conv => whnf)); first | (with_reducible first | refine And.intro ?_ ?_ | refine WX.of ?_) | exact zc | ((with_reducible refine VC.mk ?_); exact zw) | (with_reducible first | refine splitT ?_ | refine splitF ?_) | ((with_reducible refine splitM.mk (fun hsm => ?_) (fun hsm => ?_)) <;> (try exact zx)) | ((with_reducible refine splitB.mk (fun h => ?_) (fun h => ?_)) <;> (try simp only [zs, ne_eq] at h) <;> (try simp (disch := omega) only [w64] at h) <;> (try exact zx)) | (with_reducible intro hz; (try exact absurd hz (Nat.succ_ne_zero _)))))
    · (repeat' ((try (conv => whnf)); first | (with_reducible first | refine And.intro ?_ ?_ | refine WX.of ?_) | exact zc | ((with_reducible refine VC.mk ?_); exact zw) | (with_reducible first | refine splitT ?_ | refine splitF ?_) | ((with_reducible refine splitM.mk (fun hsm => ?_) (fun hsm => ?_)) <;> (try exact zx)) | ((with_reducible refine splitB.mk (fun h => ?_) (fun h => ?_)) <;> (try simp only [zs, ne_eq] at h) <;> (try simp (disch := omega) only [w64] at h) <;> (try exact zx)) | (with_reducible intro hz; (try exact absurd hz (Nat.succ_ne_zero _)))))
      exact ⟨by rw [findI_none (p := fun a : ThT => decide (a.1 = o.1)) fun j a hj => hp j a (by have := (List.getElem?_eq_some_iff.1 hj).1; omega) hj]⟩
def s_anyTh (g : Nat) : Spec := fun args S => match args, S with
  | [.sl 0 s n x, .fn g' [.ptr 1 0 0]], [.arr (.prod .str (.prod (.prod (.int .i64) (.int .i64)) (.prod (.int .i64) (.int .i64)))) l 5 wr, .arr (.prod .str (.prod (.prod (.int .i64) (.int .i64)) (.prod (.int .i64) (.int .i64)))) [o] 0 true] => ⟨g' = g ∧ s + n ≤ l.length ∧ n ≤ 9223372036854775807, .bool ((seg l s n).any (fun a : ThT => decide (a.1 = o.1))), [.arr (.prod .str (.prod (.prod (.int .i64) (.int .i64)) (.prod (.int .i64) (.int .i64)))) l 5 wr, .arr (.prod .str (.prod (.prod (.int .i64) (.int .i64)) (.prod (.int .i64) (.int .i64)))) [o] 0 true]⟩
  | _, _ => noSpec
theorem ok_anyTh : SpecOk Try.prog 45 (s_anyTh 46) := by
  intro args S h; unfold s_anyTh at h ⊢; (split at h <;> first | exact False.elim h | skip)
  dsimp only at h ⊢
  rename_i s n x g l wr o
  obtain ⟨rfl, h1, h2⟩ := h
  refine funW tabOk (E := [(68, (s_idxTh 46))]) ⟨ok_idxTh, trivial⟩ [] (k := 2) (fn := Try.f45) rfl rfl rfl rfl rfl rfl ?_
  (repeat' ((try (conv => whnf)); first | (with_reducible first | refine And.intro ?_ ?_ | refine WX.of ?_) | exact zc | ((with_reducible refine VC.mk ?_); exact zw) | (with_reducible first | refine splitT ?_ | refine splitF ?_) | ((with_reducible refine splitM.mk (fun hsm => ?_) (fun hsm => ?_)) <;> (try exact zx)) | ((with_reducible refine splitB.mk (fun h => ?_) (fun h => ?_)) <;> (try simp only [zs, ne_eq] at h) <;> (try simp (disch := omega) only [w64] at h) <;> (try exact zx)) | (with_reducible intro hz; (try exact absurd hz (Nat.succ_ne_zero _)))))
  exact ⟨by rw [findI_any]⟩
def s_vBench : Spec := fun args S => match args, S with
  | [.agg [.int .i64 up, .int .i64 uq, .sl 0 s n x, .int .i64 vp, .bool vb, .int .i64 gp, .int .i64 gq, .sl 1 t m y]], [.arr (.prod (.int .i64) (.int .i64)) l 2 wr, .arr (.prod .str (.prod (.prod (.int .i64) (.int .i64)) (.prod (.int .i64) (.int .i64)))) T 5 wT] => ⟨(s + n ≤ l.length ∧ n ≤ 1048576) ∧ (t + m ≤ T.length ∧ m ≤ 1048576) ∧ ∀ (j : Nat) (a : ThT), T[j]? = some a → a.1.length < 9223372036854775808, .bool (bnB up uq vp gp gq (seg l s n) (seg T t m)), [.arr (.prod (.int .i64) (.int .i64)) l 2 wr, .arr (.prod .str (.prod (.prod (.int .i64) (.int .i64)) (.prod (.int .i64) (.int .i64)))) T 5 wT]⟩
  | _, _ => noSpec
theorem ok_ValidBenchI : SpecOk Try.prog 23 s_vBench := by
  intro args S h; unfold s_vBench at h ⊢; (split at h <;> first | exact False.elim h | skip)
  dsimp only at h ⊢
  rename_i up uq s n x vp vb gp gq t m y l wr T wT
  obtain ⟨⟨h1, h2⟩, ⟨h3, h4⟩, ho⟩ := h
  have hL := seg_len h1
  have hM := seg_len h3
  refine funW tabOk (E := [(44, s_word), (45, (s_anyTh 46)), (47, s_fOk), (49, s_num), (48, s_cmp), (50, s_gw), (51, s_vScale), (52, s_ver)]) ⟨ok_isWord, ok_anyTh, ok_ValidFrac, ok_num, ok_compare, ok_isGrowth, ok_ValidScale, ok_ValidVernier, trivial⟩ [(6, [(12, 2)])] (k := 2) (fn := Try.f23) rfl rfl rfl rfl rfl rfl ?_
  (repeat' ((try (conv => whnf)); first | (with_reducible first | refine And.intro ?_ ?_ | refine WX.of ?_) | exact zc | ((with_reducible refine VC.mk ?_); exact zw) | (with_reducible first | refine splitT ?_ | refine splitF ?_) | ((with_reducible refine splitM.mk (fun hsm => ?_) (fun hsm => ?_)) <;> (try exact zx)) | ((with_reducible refine splitB.mk (fun h => ?_) (fun h => ?_)) <;> (try simp only [zs, ne_eq] at h) <;> (try simp (disch := omega) only [w64] at h) <;> (try exact zx)) | (with_reducible intro hz; (try exact absurd hz (Nat.succ_ne_zero _)))))
  refine loopW tabOk (E := [(44, s_word), (45, (s_anyTh 46)), (47, s_fOk), (49, s_num), (48, s_cmp), (50, s_gw), (51, s_vScale), (52, s_ver)]) ⟨ok_isWord, ok_anyTh, ok_ValidFrac, ok_num, ok_compare, ok_isGrowth, ok_ValidScale, ok_ValidVernier, trivial⟩ [(6, [(12, 2)])] (σ := Nat) (fun i => [(1, .ptr 2 0 0), (6, .sl 1 t m y), (7, .int .i64 m), (8, .int .i64 i)]) (fun i => [.arr (.prod (.int .i64) (.int .i64)) l 2 wr, .arr (.prod .str (.prod (.prod (.int .i64) (.int .i64)) (.prod (.int .i64) (.int .i64)))) T 5 wT, .box [.int .i64 up, .int .i64 uq, .sl 0 s n x, .int .i64 vp, .bool vb, .int .i64 gp, .int .i64 gq, .sl 1 t m y] true false]) (fun i => m - i) (fun i => i ≤ m ∧ ∀ (j : Nat) (a : ThT), j < i → (seg T t m)[j]? = some a → thB (seg T t m) j a = true) 0 ⟨Nat.zero_le _, fun j a hj => by omega⟩ ?_ ?_
  · (repeat' ((try (conv => whnf)); first | (with_reducible first | refine And.intro ?_ ?_ | refine WX.of ?_) | exact zc | ((with_reducible refine VC.mk ?_); exact zw) | (with_reducible first | refine splitT ?_ | refine splitF ?_) | ((with_reducible refine splitM.mk (fun hsm => ?_) (fun hsm => ?_)) <;> (try exact zx)) | ((with_reducible refine splitB.mk (fun h => ?_) (fun h => ?_)) <;> (try simp only [zs, ne_eq] at h) <;> (try simp (disch := omega) only [w64] at h) <;> (try exact zx)) | (with_reducible intro hz; (try exact absurd hz (Nat.succ_ne_zero _)))))
  · intro i ⟨hi, hp⟩
    by_cases hlt : i < m
    · obtain ⟨⟨nm, ⟨p, q⟩, r, s0⟩, ha⟩ := get_some (l := seg T t m) (i := i) (by omega)
      have hno := ho _ _ (seg_get ha).1
      dsimp only at hno
      have hsg := seg_take (l := T) (s := t) (m := m) (i := i) (by omega)
      (repeat' ((try (conv => whnf)); first | (with_reducible first | refine And.intro ?_ ?_ | refine WX.of ?_) | exact zc | ((with_reducible refine VC.mk ?_); exact zw) | with_reducible refine atL_i ha ?_ | (with_reducible first | refine splitT ?_ | refine splitF ?_) | ((with_reducible refine splitM.mk (fun hsm => ?_) (fun hsm => ?_)) <;> (try exact zx)) | ((with_reducible refine splitB.mk (fun h => ?_) (fun h => ?_)) <;> (try simp only [zs, ne_eq] at h) <;> (try simp (disch := omega) only [w64] at h) <;> (try exact zx)) | (with_reducible intro hz; (try exact absurd hz (Nat.succ_ne_zero _)))))
      · exact ⟨congrArg SV.bool (by rw [bn_no ha (by simp only [thB, h, Bool.false_and])])⟩
      · rw [Int.toNat_natCast, hsg] at h
        exact ⟨congrArg SV.bool (by rw [bn_no ha (by simp only [thB, h, Bool.not_true, Bool.and_false, Bool.false_and])])⟩
      · exact ⟨congrArg SV.bool (by rw [bn_no ha (by simp only [thB, wi_no0 h, Bool.and_false, Bool.false_and])])⟩
      · exact ⟨congrArg SV.bool (by rw [bn_no ha (by simp only [thB, wi_no1 h, Bool.and_false, Bool.false_and])])⟩
      · exact ⟨⟨smF_ok (by assumption), smF_1 (by omega)⟩⟩
      · exact ⟨congrArg SV.bool (by rw [bn_no ha (by simp only [thB, wi_no2 h, Bool.and_false, Bool.false_and])])⟩
      · exact ⟨congrArg SV.bool (by rw [bn_no ha (by simp only [thB, h, Bool.and_false])])⟩
      · rename_i hw hn hf hp0 hcm
        rw [Int.toNat_natCast, hsg] at hn
        have hth : thB (seg T t m) i (nm, (p, q), r, s0) = true := by
          simp only [thB, wi_yes hf hp0 hcm, hw, hn, h, Bool.not_false, Bool.and_self]
        refine ⟨i + 1, by omega, ⟨hlt, upto_step2 ha hth hp⟩, ?_⟩
        (repeat' ((try (conv => whnf)); first | (with_reducible first | refine And.intro ?_ ?_ | refine WX.of ?_) | exact zc | ((with_reducible refine VC.mk ?_); exact zw) | (with_reducible first | refine splitT ?_ | refine splitF ?_) | ((with_reducible refine splitM.mk (fun hsm => ?_) (fun hsm => ?_)) <;> (try exact zx)) | ((with_reducible refine splitB.mk (fun h => ?_) (fun h => ?_)) <;> (try simp only [zs, ne_eq] at h) <;> (try simp (disch := omega) only [w64] at h) <;> (try exact zx)) | (with_reducible intro hz; (try exact absurd hz (Nat.succ_ne_zero _)))))
    · obtain rfl : i = m := by omega
      have hbn := bn_yes (up := up) (uq := uq) (vp := vp) (gp := gp) (gq := gq) (E := seg l s n) (T := seg T t i) fun k a ha => hp k a (by have := (List.getElem?_eq_some_iff.1 ha).1; omega) ha
      (repeat' ((try (conv => whnf)); first | (with_reducible first | refine And.intro ?_ ?_ | refine WX.of ?_) | exact zc | ((with_reducible refine VC.mk ?_); exact zw) | (with_reducible first | refine splitT ?_ | refine splitF ?_) | ((with_reducible refine splitM.mk (fun hsm => ?_) (fun hsm => ?_)) <;> (try exact zx)) | ((with_reducible refine splitB.mk (fun h => ?_) (fun h => ?_)) <;> (try simp only [zs, ne_eq] at h) <;> (try simp (disch := omega) only [w64] at h) <;> (try exact zx)) | (with_reducible intro hz; (try exact absurd hz (Nat.succ_ne_zero _)))))
      · rename_i hsc hv
        exact ⟨congrArg SV.bool (by rw [hbn, hM, hsc, h, show decide (2 ≤ vp ∧ vp ≤ 40) = true from decide_eq_true hv, Bool.true_and, Bool.true_and, Bool.true_and, decide_eq_decide]; omega)⟩
      · exact ⟨congrArg SV.bool (by rw [hbn, h, Bool.and_false, Bool.false_and])⟩
      · exact ⟨congrArg SV.bool (by rw [hbn, decide_eq_false h, Bool.and_false, Bool.false_and, Bool.false_and])⟩
      · exact ⟨congrArg SV.bool (by rw [hbn, h, Bool.false_and, Bool.false_and, Bool.false_and])⟩
def s_l07Ok : Spec := fun args S => match args, S with
  | [.ptr 0 0 0], [.box [.int .i64 up, .int .i64 uq, .sl 1 s n x, .int .i64 vp, .bool vb, .int .i64 gp, .int .i64 gq, .sl 2 t m y] true false, .arr (.prod (.int .i64) (.int .i64)) l 2 wr, .arr (.prod .str (.prod (.prod (.int .i64) (.int .i64)) (.prod (.int .i64) (.int .i64)))) T 5 wT] => ⟨(s + n ≤ l.length ∧ n ≤ 1048576) ∧ (t + m ≤ T.length ∧ m ≤ 1048576) ∧ ∀ (j : Nat) (a : ThT), T[j]? = some a → a.1.length < 9223372036854775808, .bool (bnB up uq vp gp gq (seg l s n) (seg T t m)), [.box [.int .i64 up, .int .i64 uq, .sl 1 s n x, .int .i64 vp, .bool vb, .int .i64 gp, .int .i64 gq, .sl 2 t m y] true false, .arr (.prod (.int .i64) (.int .i64)) l 2 wr, .arr (.prod .str (.prod (.prod (.int .i64) (.int .i64)) (.prod (.int .i64) (.int .i64)))) T 5 wT]⟩
  | _, _ => noSpec
theorem ok_l07Ok : SpecOk Try.prog 17 s_l07Ok := by
  intro args S h; unfold s_l07Ok at h ⊢; (split at h <;> first | exact False.elim h | skip)
  dsimp only at h ⊢
  rename_i up uq s n x vp vb gp gq t m y l wr T wT
  obtain ⟨⟨h1, h2⟩, ⟨h3, h4⟩, ho⟩ := h
  have hL := seg_len h1
  have hM := seg_len h3
  refine funW tabOk (E := [(36, s_l02Ok), (37, s_l02Ver), (38, s_gw), (39, s_word), (40, s_wi)]) ⟨ok_l02Ok, ok_l02Vernier, ok_l07Grows, ok_l07Name, ok_l02Within, trivial⟩ [] (k := 3) (fn := Try.f17) rfl rfl rfl rfl rfl rfl ?_
  (repeat' ((try (conv => whnf)); first | (with_reducible first | refine And.intro ?_ ?_ | refine WX.of ?_) | exact zc | ((with_reducible refine VC.mk ?_); exact zw) | (with_reducible first | refine splitT ?_ | refine splitF ?_) | ((with_reducible refine splitM.mk (fun hsm => ?_) (fun hsm => ?_)) <;> (try exact zx)) | ((with_reducible refine splitB.mk (fun h => ?_) (fun h => ?_)) <;> (try simp only [zs, ne_eq] at h) <;> (try simp (disch := omega) only [w64] at h) <;> (try exact zx)) | (with_reducible intro hz; (try exact absurd hz (Nat.succ_ne_zero _)))))
  · exact ⟨congrArg SV.bool (by unfold bnB; rw [h, Bool.false_and, Bool.false_and, Bool.false_and, Bool.false_and])⟩
  · exact ⟨congrArg SV.bool (by unfold bnB; rw [decide_eq_false h, Bool.and_false, Bool.false_and, Bool.false_and, Bool.false_and])⟩
  · exact ⟨congrArg SV.bool (by unfold bnB; rw [h, Bool.and_false, Bool.false_and, Bool.false_and])⟩
  · exact ⟨congrArg SV.bool (by unfold bnB; rw [hM, show decide (m ≤ 10) = false from decide_eq_false (by omega), Bool.and_false, Bool.false_and])⟩
  · rename_i hsc hv hg
    have hm10 := h
    refine loopW tabOk (E := [(36, s_l02Ok), (37, s_l02Ver), (38, s_gw), (39, s_word), (40, s_wi)]) ⟨ok_l02Ok, ok_l02Vernier, ok_l07Grows, ok_l07Name, ok_l02Within, trivial⟩ [] (σ := Nat) (fun i => [(0, .ptr 0 0 0), (3, .int .i64 i)]) (fun i => [.box [.int .i64 up, .int .i64 uq, .sl 1 s n x, .int .i64 vp, .bool vb, .int .i64 gp, .int .i64 gq, .sl 2 t m y] true false, .arr (.prod (.int .i64) (.int .i64)) l 2 wr, .arr (.prod .str (.prod (.prod (.int .i64) (.int .i64)) (.prod (.int .i64) (.int .i64)))) T 5 wT]) (fun i => m - i) (fun i => i ≤ m ∧ ∀ (j : Nat) (a : ThT), j < i → (seg T t m)[j]? = some a → thB (seg T t m) j a = true) 0 ⟨Nat.zero_le _, fun j a hj => by omega⟩ ?_ ?_
    · (repeat' ((try (conv => whnf)); first | (with_reducible first | refine And.intro ?_ ?_ | refine WX.of ?_) | exact zc | ((with_reducible refine VC.mk ?_); exact zw) | (with_reducible first | refine splitT ?_ | refine splitF ?_) | ((with_reducible refine splitM.mk (fun hsm => ?_) (fun hsm => ?_)) <;> (try exact zx)) | ((with_reducible refine splitB.mk (fun h => ?_) (fun h => ?_)) <;> (try simp only [zs, ne_eq] at h) <;> (try simp (disch := omega) only [w64] at h) <;> (try exact zx)) | (with_reducible intro hz; (try exact absurd hz (Nat.succ_ne_zero _)))))
    · intro i ⟨hi, hp⟩
      by_cases hlt : i < m
      · obtain ⟨⟨nm, ⟨p, q⟩, r, s0⟩, ha⟩ := get_some (l := seg T t m) (i := i) (by omega)
        have hno := ho _ _ (seg_get ha).1
        dsimp only at hno
        (repeat' ((try (conv => whnf)); first | (with_reducible first | refine And.intro ?_ ?_ | refine WX.of ?_) | exact zc | ((with_reducible refine VC.mk ?_); exact zw) | with_reducible refine atL_i ha ?_ | (with_reducible first | refine splitT ?_ | refine splitF ?_) | ((with_reducible refine splitM.mk (fun hsm => ?_) (fun hsm => ?_)) <;> (try exact zx)) | ((with_reducible refine splitB.mk (fun h => ?_) (fun h => ?_)) <;> (try simp only [zs, ne_eq] at h) <;> (try simp (disch := omega) only [w64] at h) <;> (try exact zx)) | (with_reducible intro hz; (try exact absurd hz (Nat.succ_ne_zero _)))))
        · exact ⟨congrArg SV.bool (by rw [bn_no ha (by simp only [thB, h, Bool.false_and])])⟩
        · exact ⟨congrArg SV.bool (by rw [bn_no ha (by simp only [thB, h, Bool.and_false, Bool.false_and])])⟩
        · exact ⟨congrArg SV.bool (by rw [bn_no ha (by simp only [thB, h, Bool.and_false])])⟩
        · rename_i hw hwi
          have hgw := h
          refine loopW tabOk (E := [(36, s_l02Ok), (37, s_l02Ver), (38, s_gw), (39, s_word), (40, s_wi)]) ⟨ok_l02Ok, ok_l02Vernier, ok_l07Grows, ok_l07Name, ok_l02Within, trivial⟩ [] (σ := Nat) (fun j => [(0, .ptr 0 0 0), (3, .int .i64 i), (4, .ptr 2 (t + i) 0), (5, .int .i64 j)]) (fun j => [.box [.int .i64 up, .int .i64 uq, .sl 1 s n x, .int .i64 vp, .bool vb, .int .i64 gp, .int .i64 gq, .sl 2 t m y] true false, .arr (.prod (.int .i64) (.int .i64)) l 2 wr, .arr (.prod .str (.prod (.prod (.int .i64) (.int .i64)) (.prod (.int .i64) (.int .i64)))) T 5 wT]) (fun j => i - j) (fun j => j ≤ i ∧ ∀ (k : Nat) (a : ThT), k < j → (seg T t m)[k]? = some a → decide (a.1 = nm) = false) 0 ⟨Nat.zero_le _, fun j a hj => by omega⟩ ?_ ?_
          · (repeat' ((try (conv => whnf)); first | (with_reducible first | refine And.intro ?_ ?_ | refine WX.of ?_) | exact zc | ((with_reducible refine VC.mk ?_); exact zw) | (with_reducible first | refine splitT ?_ | refine splitF ?_) | ((with_reducible refine splitM.mk (fun hsm => ?_) (fun hsm => ?_)) <;> (try exact zx)) | ((with_reducible refine splitB.mk (fun h => ?_) (fun h => ?_)) <;> (try simp only [zs, ne_eq] at h) <;> (try simp (disch := omega) only [w64] at h) <;> (try exact zx)) | (with_reducible intro hz; (try exact absurd hz (Nat.succ_ne_zero _)))))
          · intro j ⟨hj, hq⟩
            by_cases hjl : j < i
            · obtain ⟨⟨nm', ⟨p', q'⟩, r', s0'⟩, hb⟩ := get_some (l := seg T t m) (i := j) (by omega)
              (repeat' ((try (conv => whnf)); first | (with_reducible first | refine And.intro ?_ ?_ | refine WX.of ?_) | exact zc | ((with_reducible refine VC.mk ?_); exact zw) | with_reducible refine atL_i hb ?_ | with_reducible refine atL_p (seg_get ha).1 ?_ | (with_reducible first | refine splitT ?_ | refine splitF ?_) | ((with_reducible refine splitM.mk (fun hsm => ?_) (fun hsm => ?_)) <;> (try exact zx)) | ((with_reducible refine splitB.mk (fun h => ?_) (fun h => ?_)) <;> (try simp only [zs, ne_eq] at h) <;> (try simp (disch := omega) only [w64] at h) <;> (try exact zx)) | (with_reducible intro hz; (try exact absurd hz (Nat.succ_ne_zero _)))))
              · exact ⟨congrArg SV.bool (by rw [bn_no ha (by simp only [thB, any_take hb hjl (p := fun o : ThT => decide (o.1 = nm)) (decide_eq_true h), Bool.not_true, Bool.and_false, Bool.false_and])])⟩
              · refine ⟨j + 1, by omega, ⟨hjl, upto_step hb (decide_eq_false h) hq⟩, ?_⟩
                (repeat' ((try (conv => whnf)); first | (with_reducible first | refine And.intro ?_ ?_ | refine WX.of ?_) | exact zc | ((with_reducible refine VC.mk ?_); exact zw) | (with_reducible first | refine splitT ?_ | refine splitF ?_) | ((with_reducible refine splitM.mk (fun hsm => ?_) (fun hsm => ?_)) <;> (try exact zx)) | ((with_reducible refine splitB.mk (fun h => ?_) (fun h => ?_)) <;> (try simp only [zs, ne_eq] at h) <;> (try simp (disch := omega) only [w64] at h) <;> (try exact zx)) | (with_reducible intro hz; (try exact absurd hz (Nat.succ_ne_zero _)))))
            · have han : ((seg T t m).take i).any (fun o : ThT => decide (o.1 = nm)) = false := any_no fun k a hk => by
                rw [List.getElem?_take] at hk
                split at hk
                · exact hq k a (by omega) hk
                · simp at hk
              have hth : thB (seg T t m) i (nm, (p, q), r, s0) = true := by
                simp only [thB, hw, hwi, hgw, han, Bool.not_false, Bool.and_self]
              (repeat' ((try (conv => whnf)); first | (with_reducible first | refine And.intro ?_ ?_ | refine WX.of ?_) | exact zc | ((with_reducible refine VC.mk ?_); exact zw) | (with_reducible first | refine splitT ?_ | refine splitF ?_) | ((with_reducible refine splitM.mk (fun hsm => ?_) (fun hsm => ?_)) <;> (try exact zx)) | ((with_reducible refine splitB.mk (fun h => ?_) (fun h => ?_)) <;> (try simp only [zs, ne_eq] at h) <;> (try simp (disch := omega) only [w64] at h) <;> (try exact zx)) | (with_reducible intro hz; (try exact absurd hz (Nat.succ_ne_zero _)))))
              refine ⟨i + 1, by omega, ⟨hlt, upto_step2 ha hth hp⟩, ?_⟩
              (repeat' ((try (conv => whnf)); first | (with_reducible first | refine And.intro ?_ ?_ | refine WX.of ?_) | exact zc | ((with_reducible refine VC.mk ?_); exact zw) | (with_reducible first | refine splitT ?_ | refine splitF ?_) | ((with_reducible refine splitM.mk (fun hsm => ?_) (fun hsm => ?_)) <;> (try exact zx)) | ((with_reducible refine splitB.mk (fun h => ?_) (fun h => ?_)) <;> (try simp only [zs, ne_eq] at h) <;> (try simp (disch := omega) only [w64] at h) <;> (try exact zx)) | (with_reducible intro hz; (try exact absurd hz (Nat.succ_ne_zero _)))))
      · obtain rfl : i = m := by omega
        have hbn := bn_yes (up := up) (uq := uq) (vp := vp) (gp := gp) (gq := gq) (E := seg l s n) (T := seg T t i) fun k a ha => hp k a (by have := (List.getElem?_eq_some_iff.1 ha).1; omega) ha
        (repeat' ((try (conv => whnf)); first | (with_reducible first | refine And.intro ?_ ?_ | refine WX.of ?_) | exact zc | ((with_reducible refine VC.mk ?_); exact zw) | (with_reducible first | refine splitT ?_ | refine splitF ?_) | ((with_reducible refine splitM.mk (fun hsm => ?_) (fun hsm => ?_)) <;> (try exact zx)) | ((with_reducible refine splitB.mk (fun h => ?_) (fun h => ?_)) <;> (try simp only [zs, ne_eq] at h) <;> (try simp (disch := omega) only [w64] at h) <;> (try exact zx)) | (with_reducible intro hz; (try exact absurd hz (Nat.succ_ne_zero _)))))
        exact ⟨congrArg SV.bool (by rw [hbn, hM, hsc, hg, show decide (2 ≤ vp ∧ vp ≤ 40) = true from decide_eq_true hv, show decide (i ≤ 10) = true from decide_eq_true (by omega)]; rfl)⟩
end Go.Proofs.Yteniodjodngkbaa.Eng
set_option linter.unusedVariables false
set_option linter.unusedSimpArgs false
namespace Go.Proofs.Yteniodjodngkbaa.Eng
open Go Go.RowKit
set_option maxRecDepth 100000
/-- Fractions that may fail. -/
abbrev FrT : Type := Int × Int
def rO (p q : Int) : Option FrT := if redOk p q = true then some (redP p q, redQ p q) else none
def adO (a b : FrT) : Option FrT := rO (a.1 * b.2 + b.1 * a.2) (a.2 * b.2)
def sbO (a b : FrT) : Option FrT := rO (a.1 * b.2 - b.1 * a.2) (a.2 * b.2)
def tv (o : Option FrT) : FrT := o.getD (0, 1)
def zv (o : Option FrT) : FrT := o.getD (0, 0)
def oC (o : Option FrT) : Int := if o.isSome = true then 0 else 3
theorem tv_r (p q : Int) : tolP p q = (tv (rO p q)).1 ∧ tolQ p q = (tv (rO p q)).2 ∧ redOk p q = (rO p q).isSome := by
  unfold tolP tolQ rO tv
  cases redOk p q <;> simp
theorem zv_r (p q : Int) : rdP p q = (zv (rO p q)).1 ∧ rdQ p q = (zv (rO p q)).2 ∧ rdC p q = oC (rO p q) := by
  unfold rdP rdQ rdC rO zv oC
  cases redOk p q <;> simp
theorem rO_f {p q : Int} {v : FrT} (h : rO p q = some v) : fOk v.1 v.2 = true := by
  unfold rO at h
  split at h
  · rename_i hk; obtain rfl := Option.some.inj h; exact hk
  · simp at h
def s_subO : Spec := fun args S => match args, S with
  | [.ptr b 0 0, .agg [.int .i64 p, .int .i64 q], .agg [.int .i64 p', .int .i64 q']], [.arr .bool [bad] 0 true] => ⟨b = 0 ∧ smF p q ∧ smF p' q', .agg [.int .i64 (tv (sbO (p, q) (p', q'))).1, .int .i64 (tv (sbO (p, q) (p', q'))).2], [.arr .bool [bad || !(sbO (p, q) (p', q')).isSome] 0 true]⟩
  | _, _ => noSpec
theorem ok_subO : SpecOk Try.prog 55 s_subO := by
  intro args S h; unfold s_subO at h ⊢; (split at h <;> first | exact False.elim h | skip)
  dsimp only at h ⊢
  rename_i b p q p' q' bad
  have h2 := ok_sub [.ptr b 0 0, .agg [.int .i64 p, .int .i64 q], .agg [.int .i64 p', .int .i64 q']] [.arr .bool [bad] 0 true] h
  have e := tv_r (p * q' - p' * q) (q * q')
  simp only [s_sub, e.1, e.2.1, e.2.2] at h2
  exact h2
def s_addZ : Spec := fun args S => match args, S with
  | [.agg [.int .i64 p, .int .i64 q], .agg [.int .i64 p', .int .i64 q']], [] => ⟨smF p q ∧ smF p' q', .tup [.agg [.int .i64 (zv (adO (p, q) (p', q'))).1, .int .i64 (zv (adO (p, q) (p', q'))).2], .int .i64 (oC (adO (p, q) (p', q')))], []⟩
  | _, _ => noSpec
def s_subZ : Spec := fun args S => match args, S with
  | [.agg [.int .i64 p, .int .i64 q], .agg [.int .i64 p', .int .i64 q']], [] => ⟨smF p q ∧ smF p' q', .tup [.agg [.int .i64 (zv (sbO (p, q) (p', q'))).1, .int .i64 (zv (sbO (p, q) (p', q'))).2], .int .i64 (oC (sbO (p, q) (p', q')))], []⟩
  | _, _ => noSpec
theorem ok_l01AddZ : SpecOk Try.prog 65 s_addZ := by
  intro args S h; unfold s_addZ at h ⊢; (split at h <;> first | exact False.elim h | skip)
  dsimp only at h ⊢
  rename_i p q p' q'
  have h2 := ok_l01Add [.agg [.int .i64 p, .int .i64 q], .agg [.int .i64 p', .int .i64 q']] [] h
  have e := zv_r (p * q' + p' * q) (q * q')
  simp only [s_addS, e.1, e.2.1, e.2.2] at h2
  exact h2
def s_neg : Spec := fun args S => match args, S with
  | [.agg [.int .i64 p, .int .i64 q]], [] => ⟨smF p q, .agg [.int .i64 (-p), .int .i64 q], []⟩
  | _, _ => noSpec
theorem ok_l01Neg : SpecOk Try.prog 66 s_neg := by
  intro args S h; unfold s_neg at h ⊢; (split at h <;> first | exact False.elim h | skip)
  dsimp only at h ⊢
  rename_i p q
  unfold smF at h
  refine funW tabOk (E := []) trivial [] (k := 0) (fn := Try.f66) rfl rfl rfl rfl rfl rfl ?_
  (repeat' ((try (conv => whnf)); first | (with_reducible first | refine And.intro ?_ ?_ | refine WX.of ?_) | exact zc | ((with_reducible refine VC.mk ?_); exact zw) | (with_reducible first | refine splitT ?_ | refine splitF ?_) | ((with_reducible refine splitM.mk (fun hsm => ?_) (fun hsm => ?_)) <;> (try exact zx)) | ((with_reducible refine splitB.mk (fun h => ?_) (fun h => ?_)) <;> (try simp only [zs, ne_eq] at h) <;> (try simp (disch := omega) only [w64] at h) <;> (try exact zx)) | (with_reducible intro hz; (try exact absurd hz (Nat.succ_ne_zero _)))))
  exact ⟨by rw [w64 (by omega), Int.zero_sub]⟩
theorem smF_neg {p q : Int} (h : smF p q) : smF (-p) q := by unfold smF at h ⊢; omega
theorem ok_l01SubZ : SpecOk Try.prog 42 s_subZ := by
  intro args S h; unfold s_subZ at h ⊢; (split at h <;> first | exact False.elim h | skip)
  dsimp only at h ⊢
  rename_i p q p' q'
  have e : adO (p, q) (-p', q') = sbO (p, q) (p', q') := by unfold adO sbO; dsimp only; rw [Int.neg_mul, Int.sub_eq_add_neg]
  refine funW tabOk (E := [(66, s_neg), (65, s_addZ)]) ⟨ok_l01Neg, ok_l01AddZ, trivial⟩ [(1, [(0, 1)])] (k := 0) (fn := Try.f42) rfl rfl rfl rfl rfl rfl ?_
  (repeat' ((try (conv => whnf)); first | (with_reducible first | refine And.intro ?_ ?_ | refine WX.of ?_) | exact zc | ((with_reducible refine VC.mk ?_); exact zw) | ((with_reducible refine VC.mk ?_); exact h.2) | ((with_reducible refine VC.mk ?_); exact ⟨h.1, smF_neg h.2⟩) | (with_reducible first | refine splitT ?_ | refine splitF ?_) | ((with_reducible refine splitM.mk (fun hsm => ?_) (fun hsm => ?_)) <;> (try exact zx)) | ((with_reducible refine splitB.mk (fun h => ?_) (fun h => ?_)) <;> (try simp only [zs, ne_eq] at h) <;> (try simp (disch := omega) only [w64] at h) <;> (try exact zx)) | (with_reducible intro hz; (try exact absurd hz (Nat.succ_ne_zero _)))))
  all_goals exact ⟨by rw [← e]⟩
end Go.Proofs.Yteniodjodngkbaa.Eng
set_option linter.unusedVariables false
set_option linter.unusedSimpArgs false
namespace Go.Proofs.Yteniodjodngkbaa.Eng
open Go Go.RowKit
set_option maxRecDepth 100000
def s_l02MarkC : Spec := fun args S => match args, S with
  | [.ptr 0 0 0, .int .i64 k], [.box [.int .i64 up, .int .i64 uq, .sl 1 s n x] true false, .arr (.prod (.int .i64) (.int .i64)) l 2 wr] => ⟨(s + n ≤ l.length ∧ n ≤ 1048576) ∧ (0 ≤ k ∧ k < n ∧ n ≤ 60) ∧ smF up uq ∧ ∀ a, (seg l s n)[k.toNat]? = some a → smF a.1 a.2, .tup [.agg [.int .i64 (mkP up uq k (((seg l s n)[k.toNat]?).getD (0, 0))), .int .i64 (mkQ up uq k (((seg l s n)[k.toNat]?).getD (0, 0)))], .int .i64 (mkC up uq k (((seg l s n)[k.toNat]?).getD (0, 0)))], [.box [.int .i64 up, .int .i64 uq, .sl 1 s n x] true false, .arr (.prod (.int .i64) (.int .i64)) l 2 wr]⟩
  | _, _ => noSpec
theorem ok_l02MarkC : SpecOk Try.prog 61 s_l02MarkC := by
  intro args S h; unfold s_l02MarkC at h ⊢; (split at h <;> first | exact False.elim h | skip)
  dsimp only at h ⊢
  rename_i k up uq s n x l wr
  obtain ⟨⟨h1, h2⟩, ⟨h3, h4, h5⟩, h6, h7⟩ := h
  have hL := seg_len h1
  obtain ⟨⟨p, q⟩, ha⟩ := get_some (l := seg l s n) (i := k.toNat) (by omega)
  have hs := h7 _ ha
  dsimp only at hs
  have e : ((seg l s n)[k.toNat]?).getD (0, 0) = (p, q) := by rw [ha]; rfl
  rw [e]
  have hk : smF k 1 := smF_1 (by omega)
  have hr : redOk (k * up) (1 * uq) = true → smF (rdP (k * up) (1 * uq)) (rdQ (k * up) (1 * uq)) := fun h => by
    unfold rdP rdQ; rw [if_pos h, if_pos h]; exact smF_ok h
  have hkk : ((k.toNat : Nat) : Int) = k := Int.toNat_of_nonneg h3
  refine funW tabOk (E := [(63, s_num), (76, s_mulS), (65, s_addS)]) ⟨ok_l01Whole, ok_l01Mul, ok_l01Add, trivial⟩ [(1, [(5, 0), (10, 0), (10, 1)])] (k := 2) (fn := Try.f61) rfl rfl rfl rfl rfl rfl ?_
  (repeat' ((try (conv => whnf)); first | (with_reducible first | refine And.intro ?_ ?_ | refine WX.of ?_) | exact zc | ((with_reducible refine VC.mk ?_); exact zw) | ((with_reducible refine VC.mk ?_); exact ⟨hk, h6⟩) | (with_reducible first | refine splitT ?_ | refine splitF ?_) | ((with_reducible refine splitM.mk (fun hsm => ?_) (fun hsm => ?_)) <;> (try exact zx)) | ((with_reducible refine splitB.mk (fun h => ?_) (fun h => ?_)) <;> (try simp only [zs, ne_eq] at h) <;> (try simp (disch := omega) only [w64] at h) <;> (try exact zx)) | (with_reducible intro hz; (try exact absurd hz (Nat.succ_ne_zero _)))))
  · have hb : redOk (k * up) (1 * uq) = false := by
      unfold rdC at h; cases hb : redOk (k * up) (1 * uq) <;> simp_all
    exact ⟨by simp only [mkP, mkQ, mkC, rdC, hb, if_false, Bool.false_eq_true]⟩
  · have hb : redOk (k * up) (1 * uq) = true := by
      unfold rdC at h; cases hb : redOk (k * up) (1 * uq) <;> simp_all
    (repeat' ((try (conv => whnf)); first | (with_reducible first | refine And.intro ?_ ?_ | refine WX.of ?_) | exact zc | ((with_reducible refine VC.mk ?_); exact zw) | with_reducible refine atL_p (seg_get ha).1 ?_ | ((with_reducible refine VC.mk ?_); exact ⟨hr hb, hs⟩) | (with_reducible first | refine splitT ?_ | refine splitF ?_) | ((with_reducible refine splitM.mk (fun hsm => ?_) (fun hsm => ?_)) <;> (try exact zx)) | ((with_reducible refine splitB.mk (fun h => ?_) (fun h => ?_)) <;> (try simp only [zs, ne_eq] at h) <;> (try simp (disch := omega) only [w64] at h) <;> (try exact zx)) | (with_reducible intro hz; (try exact absurd hz (Nat.succ_ne_zero _)))))
    all_goals exact ⟨by simp only [mkP, mkQ, mkC, hb, if_true]⟩
def s_l02OkC : Spec := fun args S => match args, S with
  | [.ptr 0 0 0], [.box [.int .i64 up, .int .i64 uq, .sl 1 s n x] true false, .arr (.prod (.int .i64) (.int .i64)) l 2 wr] => ⟨s + n ≤ l.length ∧ n ≤ 1048576, .bool (scB up uq (seg l s n)), [.box [.int .i64 up, .int .i64 uq, .sl 1 s n x] true false, .arr (.prod (.int .i64) (.int .i64)) l 2 wr]⟩
  | _, _ => noSpec
theorem ok_l02OkC : SpecOk Try.prog 36 s_l02OkC := by
  intro args S h; unfold s_l02OkC at h ⊢; (split at h <;> first | exact False.elim h | skip)
  dsimp only at h ⊢
  rename_i up uq s n x l wr
  obtain ⟨h1, h2⟩ := h
  have hL := seg_len h1
  refine funW tabOk (E := [(40, s_wi), (59, s_within), (41, s_fOk), (60, s_abs), (61, s_l02MarkC)]) ⟨ok_l02Within, ok_l00In, ok_l01Ok, ok_l01Abs, ok_l02MarkC, trivial⟩ [(7, [(12, 1), (18, 1), (20, 1)])] (k := 2) (fn := Try.f36) rfl rfl rfl rfl rfl rfl ?_
  (repeat' ((try (conv => whnf)); first | (with_reducible first | refine And.intro ?_ ?_ | refine WX.of ?_) | exact zc | ((with_reducible refine VC.mk ?_); exact zw) | (with_reducible first | refine splitT ?_ | refine splitF ?_) | ((with_reducible refine splitM.mk (fun hsm => ?_) (fun hsm => ?_)) <;> (try exact zx)) | ((with_reducible refine splitB.mk (fun h => ?_) (fun h => ?_)) <;> (try simp only [zs, ne_eq] at h) <;> (try simp (disch := omega) only [w64] at h) <;> (try exact zx)) | (with_reducible intro hz; (try exact absurd hz (Nat.succ_ne_zero _)))))
  · exact ⟨congrArg SV.bool (by unfold wiB at h; unfold scB; rw [← Bool.and_assoc (fOk up uq), h, Bool.false_and, Bool.false_and])⟩
  · rename_i hw
    exact ⟨congrArg SV.bool (by unfold scB; rw [hL, show decide (2 ≤ n ∧ n ≤ 60) = false from decide_eq_false (by omega), Bool.and_false, Bool.false_and])⟩
  · rename_i hw
    have hn := h
    have hw2 : fOk up uq = true ∧ 0 < up ∧ up ≤ 1000 * uq := by simpa [wiB, and_assoc] using hw
    have hsU := smF_ok hw2.1
    have hU := hsU
    unfold smF at hU
    refine loopW tabOk (E := [(40, s_wi), (59, s_within), (41, s_fOk), (60, s_abs), (61, s_l02MarkC)]) ⟨ok_l02Within, ok_l00In, ok_l01Ok, ok_l01Abs, ok_l02MarkC, trivial⟩ [(7, [(12, 1), (18, 1), (20, 1)])] (σ := Nat) (fun i => [(0, .ptr 0 0 0), (3, .int .i64 i)]) (fun i => [.box [.int .i64 up, .int .i64 uq, .sl 1 s n x] true false, .arr (.prod (.int .i64) (.int .i64)) l 2 wr]) (fun i => n - i) (fun i => i ≤ n ∧ ∀ (j : Nat) (a : Int × Int), j < i → (seg l s n)[j]? = some a → elB up uq j a = true) 0 ⟨Nat.zero_le _, fun j a hj => by omega⟩ ?_ ?_
    · (repeat' ((try (conv => whnf)); first | (with_reducible first | refine And.intro ?_ ?_ | refine WX.of ?_) | exact zc | ((with_reducible refine VC.mk ?_); exact zw) | (with_reducible first | refine splitT ?_ | refine splitF ?_) | ((with_reducible refine splitM.mk (fun hsm => ?_) (fun hsm => ?_)) <;> (try exact zx)) | ((with_reducible refine splitB.mk (fun h => ?_) (fun h => ?_)) <;> (try simp only [zs, ne_eq] at h) <;> (try simp (disch := omega) only [w64] at h) <;> (try exact zx)) | (with_reducible intro hz; (try exact absurd hz (Nat.succ_ne_zero _)))))
    · intro i ⟨hi, hp⟩
      by_cases hlt : i < n
      · obtain ⟨⟨p, q⟩, ha⟩ := get_some (l := seg l s n) (i := i) (by omega)
        have e : ((seg l s n)[((i : Nat) : Int).toNat]?).getD (0, 0) = (p, q) := by rw [Int.toNat_natCast, ha]; rfl
        by_cases hf : fOk p q = true
        · have hsf := smF_ok hf
          have hsb := hsf
          unfold smF at hsb
          have hq4 := quad hsU hsf
          have hall : ∀ a, (seg l s n)[((i : Nat) : Int).toNat]? = some a → smF a.1 a.2 := fun a h => by
            rw [Int.toNat_natCast, ha] at h; obtain rfl := Option.some.inj h; exact hsf
          (repeat' ((try (conv => whnf)); first | (with_reducible first | refine And.intro ?_ ?_ | refine WX.of ?_) | exact zc | ((with_reducible refine VC.mk ?_); exact zw) | with_reducible refine atL_i ha ?_ | ((with_reducible refine splitT_of ?_ ?_); (focus (simp only [hf, Bool.not_true, Bool.not_false, decide_true, decide_false]; done))) | ((with_reducible refine splitF_of ?_ ?_); (focus (simp only [hf, Bool.not_true, Bool.not_false, decide_true, decide_false]; done))) | ((with_reducible refine VC.mk ?_); (refine ⟨⟨h1, h2⟩, ?_, hsU, hall⟩); omega) | (with_reducible first | refine splitT ?_ | refine splitF ?_) | ((with_reducible refine splitM.mk (fun hsm => ?_) (fun hsm => ?_)) <;> (try exact zx)) | ((with_reducible refine splitB.mk (fun h => ?_) (fun h => ?_)) <;> (try simp only [zs, ne_eq] at h) <;> (try simp (disch := omega) only [w64] at h) <;> (try exact zx)) | (with_reducible intro hz; (try exact absurd hz (Nat.succ_ne_zero _)))))
          · exact ⟨congrArg SV.bool (by rw [sc_no ha (by unfold elB; dsimp only; rw [show decide (4 * (p.natAbs : Int) * uq ≤ up * q) = false from decide_eq_false (by omega), Bool.and_false, Bool.false_and])])⟩
          · rw [e] at h
            have hm : mkOk up uq i (p, q) = false := by
              cases hm : mkOk up uq i (p, q) with
              | false => rfl
              | true => exact absurd (mkC_ok.2 hm) h
            exact ⟨congrArg SV.bool (by rw [sc_no ha (by unfold elB; rw [hm, Bool.and_false])])⟩
          · rw [e] at h
            have hm := mkC_ok.1 h
            have hd : decide (4 * (p.natAbs : Int) * uq ≤ up * q) = true := decide_eq_true (by omega)
            have hel : elB up uq i (p, q) = true := by unfold elB; rw [hm]; dsimp only; rw [hf, hd]; rfl
            refine ⟨i + 1, by omega, ⟨hlt, upto_step2 ha hel hp⟩, ?_⟩
            (repeat' ((try (conv => whnf)); first | (with_reducible first | refine And.intro ?_ ?_ | refine WX.of ?_) | exact zc | ((with_reducible refine VC.mk ?_); exact zw) | (with_reducible first | refine splitT ?_ | refine splitF ?_) | ((with_reducible refine splitM.mk (fun hsm => ?_) (fun hsm => ?_)) <;> (try exact zx)) | ((with_reducible refine splitB.mk (fun h => ?_) (fun h => ?_)) <;> (try simp only [zs, ne_eq] at h) <;> (try simp (disch := omega) only [w64] at h) <;> (try exact zx)) | (with_reducible intro hz; (try exact absurd hz (Nat.succ_ne_zero _)))))
        · have hf : fOk p q = false := by simpa using hf
          (repeat' ((try (conv => whnf)); first | (with_reducible first | refine And.intro ?_ ?_ | refine WX.of ?_) | exact zc | ((with_reducible refine VC.mk ?_); exact zw) | with_reducible refine atL_i ha ?_ | ((with_reducible refine splitT_of ?_ ?_); (focus (simp only [hf, Bool.not_true, Bool.not_false, decide_true, decide_false]; done))) | ((with_reducible refine splitF_of ?_ ?_); (focus (simp only [hf, Bool.not_true, Bool.not_false, decide_true, decide_false]; done))) | (with_reducible first | refine splitT ?_ | refine splitF ?_) | ((with_reducible refine splitM.mk (fun hsm => ?_) (fun hsm => ?_)) <;> (try exact zx)) | ((with_reducible refine splitB.mk (fun h => ?_) (fun h => ?_)) <;> (try simp only [zs, ne_eq] at h) <;> (try simp (disch := omega) only [w64] at h) <;> (try exact zx)) | (with_reducible intro hz; (try exact absurd hz (Nat.succ_ne_zero _)))))
          all_goals exact ⟨congrArg SV.bool (by rw [sc_no ha (by unfold elB; dsimp only; rw [hf, Bool.false_and, Bool.false_and])])⟩
      · obtain rfl : i = n := by omega
        (repeat' ((try (conv => whnf)); first | (with_reducible first | refine And.intro ?_ ?_ | refine WX.of ?_) | exact zc | ((with_reducible refine VC.mk ?_); exact zw) | (with_reducible first | refine splitT ?_ | refine splitF ?_) | ((with_reducible refine splitM.mk (fun hsm => ?_) (fun hsm => ?_)) <;> (try exact zx)) | ((with_reducible refine splitB.mk (fun h => ?_) (fun h => ?_)) <;> (try simp only [zs, ne_eq] at h) <;> (try simp (disch := omega) only [w64] at h) <;> (try exact zx)) | (with_reducible intro hz; (try exact absurd hz (Nat.succ_ne_zero _)))))
        exact ⟨congrArg SV.bool (sc_yes hL hw2.1 hw2.2 (by omega) hp).symm⟩
theorem cs_el {up uq : Int} {E : List (Int × Int)} (h : scB up uq E = true) : ∀ (j : Nat) (a : FrT), E[j]? = some a → smF a.1 a.2 := fun j a ha => by
  unfold scB at h
  simp only [Bool.and_eq_true] at h
  have := allI_at h.2 ha
  unfold elB at this
  simp only [Bool.and_eq_true] at this
  exact smF_ok this.1.1
theorem cs_sz {up uq : Int} {E : List (Int × Int)} (h : scB up uq E = true) : fOk up uq = true ∧ (0 < up ∧ up ≤ 1000 * uq) ∧ 2 ≤ E.length ∧ E.length ≤ 60 := by
  unfold scB at h
  simp only [Bool.and_eq_true, decide_eq_true_eq] at h
  exact ⟨h.1.1.1, h.1.1.2, h.1.2⟩
theorem any_sn {α : Type} {p : α → Bool} {L : List α} {i : Nat} {a : α} (ha : L[i]? = some a) : (L.take (i + 1)).any p = ((L.take i).any p || p a) := by
  rw [List.take_add_one, ha, List.any_append]; simp
theorem app_00 {α : Type} {D : List α} {w : α} (h : D[0]? = some w) : seg [w] 0 1 = D.take 1 := by
  cases D with
  | nil => simp at h
  | cons a D => simp at h; subst h; simp [seg]
/-- A scale's errors less corrections. -/
def csE (E B : List FrT) : List FrT := (E.zip B).map fun z => tv (sbO z.1 z.2)
def csX (Z : List (FrT × FrT)) : Bool := Z.any fun z => !(sbO z.1 z.2).isSome
def csR (u : FrT) (E B : List FrT) : Except Int (List FrT) := if csX (E.zip B) = true then .error 3 else if scB u.1 u.2 (csE E B) = true then .ok (csE E B) else .error 4
def csF (u : FrT) (E B : List FrT) : Except Int (List FrT) := if allF B = true then (if B.length = E.length then csR u E B else .error 2) else .error 1
theorem cs_len {E B : List FrT} (h : B.length = E.length) : (csE E B).length = E.length := by unfold csE; simp [h]
theorem cs_zip {E B : List FrT} {i : Nat} {a b : FrT} (ha : E[i]? = some a) (hb : B[i]? = some b) : (E.zip B)[i]? = some (a, b) := by
  rw [List.getElem?_zip_eq_some]; exact ⟨ha, hb⟩
theorem cs_get {E B : List FrT} {i : Nat} {a b : FrT} (ha : E[i]? = some a) (hb : B[i]? = some b) : (csE E B)[i]? = some (tv (sbO a b)) := by
  unfold csE; rw [List.getElem?_map, cs_zip ha hb]; rfl
theorem cs_st {E B : List FrT} {i : Nat} {a b : FrT} (ha : E[i]? = some a) (hb : B[i]? = some b) : csX ((E.zip B).take (i + 1)) = (csX ((E.zip B).take i) || !(sbO a b).isSome) := by
  unfold csX; rw [any_sn (cs_zip ha hb)]
theorem cs_no {E B : List FrT} {i : Nat} {a b : FrT} (ha : E[i]? = some a) (hb : B[i]? = some b) (h : sbO a b = none) : csX (E.zip B) = true := by
  unfold csX
  rw [List.any_eq_true]
  exact ⟨(a, b), List.mem_of_getElem? (cs_zip ha hb), by dsimp only; rw [h]; rfl⟩
theorem allF_at {B : List FrT} (h : allF B = true) {i : Nat} {a : FrT} (ha : B[i]? = some a) : smF a.1 a.2 := by
  unfold allF at h
  rw [List.all_eq_true] at h
  exact smF_ok (h a (List.mem_of_getElem? ha))
theorem cs_ok {u : FrT} {E B E' : List FrT} (h : csF u E B = .ok E') : allF B = true ∧ B.length = E.length ∧ csX (E.zip B) = false ∧ scB u.1 u.2 E' = true ∧ csE E B = E' := by
  unfold csF at h
  split at h
  · rename_i h1
    split at h
    · rename_i h2
      unfold csR at h
      split at h
      · cases h
      · rename_i h3
        split at h
        · rename_i h4
          cases h
          exact ⟨h1, h2, by simpa using h3, h4, rfl⟩
        · cases h
    · cases h
  · cases h
theorem cs_er {u : FrT} {E B : List FrT} {c : Int} (h : csF u E B = .error c) : (allF B = false ∧ c = 1) ∨ (allF B = true ∧ B.length ≠ E.length ∧ c = 2) ∨ (allF B = true ∧ B.length = E.length ∧ csR u E B = .error c) := by
  unfold csF at h
  split at h
  · rename_i h1
    split at h
    · rename_i h2
      exact .inr (.inr ⟨h1, h2, h⟩)
    · rename_i h2
      cases h
      exact .inr (.inl ⟨h1, h2, rfl⟩)
  · rename_i h1
    cases h
    exact .inl ⟨by simpa using h1, rfl⟩
theorem cs_erR {u : FrT} {E B : List FrT} {c : Int} (h : csR u E B = .error c) : (csX (E.zip B) = true ∧ c = 3) ∨ (csX (E.zip B) = false ∧ scB u.1 u.2 (csE E B) = false ∧ c = 4) := by
  unfold csR at h
  split at h
  · rename_i h1; cases h; exact .inl ⟨h1, rfl⟩
  · rename_i h1
    split at h
    · cases h
    · rename_i h2
      cases h
      exact .inr ⟨by simpa using h1, by simpa using h2, rfl⟩
theorem cs_nz {u : FrT} {E B : List FrT} {c : Int} (h : csF u E B = .error c) : c ≠ 0 := by
  rcases cs_er h with h | h | ⟨_, _, h⟩
  · omega
  · omega
  · rcases cs_erR h with h | h <;> omega
theorem splitC {a b : FrT} {A B : Prop} (h1 : sbO a b = none → A) (h2 : ∀ x y, sbO a b = some (x, y) → smF x y → B) : splitB (decide (oC (sbO a b) ≠ 0)) A B := by
  cases h : sbO a b with
  | none => exact ⟨fun _ => h1 h, fun e => by simp [oC] at e⟩
  | some v => exact ⟨fun e => by simp [oC] at e, fun _ => h2 v.1 v.2 h (smF_ok (rO_f h))⟩
theorem zv_c (a : FrT) : zv (some a) = a := rfl
end Go.Proofs.Yteniodjodngkbaa.Eng
set_option linter.unusedVariables false
set_option linter.unusedSimpArgs false
namespace Go.Proofs.Yteniodjodngkbaa.Eng
open Go Go.RowKit
set_option maxRecDepth 100000
def s_cs1 (E' : List FrT) : Spec := fun args S => match args, S with
  | [.agg [.int .i64 up, .int .i64 uq, .sl 0 s n x], .sl 1 t m y], [.arr (.prod (.int .i64) (.int .i64)) l 2 wr, .arr (.prod (.int .i64) (.int .i64)) k 2 wk] => ⟨(s + n ≤ l.length ∧ t + m ≤ k.length ∧ m ≤ 1048576) ∧ scB up uq (seg l s n) = true ∧ csF (up, uq) (seg l s n) (seg k t m) = .ok E', .tup [.agg [.int .i64 up, .int .i64 uq, .sl 2 0 n 0], .int .i64 0], [.arr (.prod (.int .i64) (.int .i64)) l 2 wr, .arr (.prod (.int .i64) (.int .i64)) k 2 wk, .arr (.prod (.int .i64) (.int .i64)) E' 2 true]⟩
  | _, _ => noSpec
def s_cs0 (c : Int) : Spec := fun args S => match args, S with
  | [.agg [.int .i64 up, .int .i64 uq, .sl 0 s n x], .sl 1 t m y], [.arr (.prod (.int .i64) (.int .i64)) l 2 wr, .arr (.prod (.int .i64) (.int .i64)) k 2 wk] => ⟨(s + n ≤ l.length ∧ t + m ≤ k.length ∧ m ≤ 1048576) ∧ scB up uq (seg l s n) = true ∧ csF (up, uq) (seg l s n) (seg k t m) = .error c, .tup [.agg [.int .i64 0, .int .i64 0, .nils], .int .i64 c], [.arr (.prod (.int .i64) (.int .i64)) l 2 wr, .arr (.prod (.int .i64) (.int .i64)) k 2 wk]⟩
  | _, _ => noSpec
attribute [local irreducible] sbO in
set_option maxHeartbeats 3200000 in
theorem ok_cs1I (E' : List FrT) : SpecOk Try.prog 25 (s_cs1 E') := by
  intro args S h; unfold s_cs1 at h ⊢; (split at h <;> first | exact False.elim h | skip)
  dsimp only at h ⊢
  rename_i up uq s n x t m y l wr k wk
  obtain ⟨⟨h1, h2, h3⟩, hsc, hE⟩ := h
  have hL := seg_len h1
  have hM := seg_len h2
  have hsz := cs_sz hsc
  rw [hL] at hsz
  have hel := cs_el hsc
  obtain ⟨hB, hlen, hX, hs', hE⟩ := cs_ok hE
  have hll : (csE (seg l s n) (seg k t m)).length = n := by rw [cs_len hlen, hL]
  have hE2 : seg E' 0 n = E' := seg_full (by rw [← hE]; exact hll)
  have hzt : ((seg l s n).zip (seg k t m)).take n = (seg l s n).zip (seg k t m) := List.take_of_length_le (by rw [List.length_zip]; omega)
  have hct : (csE (seg l s n) (seg k t m)).take n = E' := by rw [List.take_of_length_le (by omega), hE]
  have hE3 : E'.length = n := by rw [← hE]; exact hll
  rw [hL, hM] at hlen
  subst hlen
  refine funW tabOk (E := [(51, s_vScale), (24, s_allF), (55, s_subO)]) ⟨ok_ValidScale, ok_areValid, ok_subO, trivial⟩ [(9, [(1, 1), (1, 2)])] (k := 2) (fn := Try.f25) rfl rfl rfl rfl rfl rfl ?_
  (repeat' ((try (conv => whnf)); first | (with_reducible first | refine And.intro ?_ ?_ | refine WX.of ?_) | exact zc | ((with_reducible refine VC.mk ?_); exact zw) | ((with_reducible refine splitT_of ?_ ?_); (focus (simp only [hsc, hB, Bool.not_true, Bool.not_false, decide_true, decide_false]; done))) | ((with_reducible refine splitF_of ?_ ?_); (focus (simp only [hsc, hB, Bool.not_true, Bool.not_false, decide_true, decide_false]; done))) | ((with_reducible refine VC.mk ?_); exact ⟨by omega, by omega⟩) | (with_reducible first | refine splitT ?_ | refine splitF ?_) | ((with_reducible refine splitM.mk (fun hsm => ?_) (fun hsm => ?_)) <;> (try exact zx)) | ((with_reducible refine splitB.mk (fun h => ?_) (fun h => ?_)) <;> (try simp only [zs, ne_eq] at h) <;> (try simp (disch := omega) only [w64] at h) <;> (try exact zx)) | (with_reducible intro hz; (try exact absurd hz (Nat.succ_ne_zero _)))))
  refine loopW tabOk (E := [(51, s_vScale), (24, s_allF), (55, s_subO)]) ⟨ok_ValidScale, ok_areValid, ok_subO, trivial⟩ [(9, [(1, 1), (1, 2)])] (σ := Option Nat) (fun o => match o with
    | none => [(1, .sl 1 t m y), (2, .ptr 2 0 0), (4, .ptr 3 0 0), (6, .ptr 4 0 0), (7, .ptr 5 0 0), (34, .sl 0 s m x), (35, .int .i64 m), (36, .int .i64 0)]
    | some i => [(1, .sl 1 t m y), (2, .ptr 2 0 0), (4, .ptr 3 0 0), (6, .ptr 4 0 0), (7, .ptr 5 0 0), (34, .sl 0 s m x), (35, .int .i64 m), (36, .int .i64 i)]) (fun o => match o with
    | none => [.arr (.prod (.int .i64) (.int .i64)) l 2 wr, .arr (.prod (.int .i64) (.int .i64)) k 2 wk, .box [.int .i64 up, .int .i64 uq, .sl 0 s m x] true false, .box [.int .i64 0, .int .i64 0, .nils] true false, .arr .bool [false] 0 true, .box [.int .i64 up, .int .i64 uq, .nils] true false]
    | some i => [.arr (.prod (.int .i64) (.int .i64)) l 2 wr, .arr (.prod (.int .i64) (.int .i64)) k 2 wk, .box [.int .i64 up, .int .i64 uq, .sl 0 s m x] true false, .box [.int .i64 0, .int .i64 0, .nils] true false, .arr .bool [csX (((seg l s m).zip (seg k t m)).take i)] 0 true, .box [.int .i64 up, .int .i64 uq, .sl 6 0 i 0] true false, .arr (.prod (.int .i64) (.int .i64)) ((csE (seg l s m) (seg k t m)).take i) 2 true]) (fun o => match o with | none => m + 1 | some i => m - i) (fun o => match o with | none => True | some i => 1 ≤ i ∧ i ≤ m) none trivial ?_ ?_
  · (repeat' ((try (conv => whnf)); first | (with_reducible first | refine And.intro ?_ ?_ | refine WX.of ?_) | exact zc | ((with_reducible refine VC.mk ?_); exact zw) | (with_reducible first | refine splitT ?_ | refine splitF ?_) | ((with_reducible refine splitM.mk (fun hsm => ?_) (fun hsm => ?_)) <;> (try exact zx)) | ((with_reducible refine splitB.mk (fun h => ?_) (fun h => ?_)) <;> (try simp only [zs, ne_eq] at h) <;> (try simp (disch := omega) only [w64] at h) <;> (try exact zx)) | (with_reducible intro hz; (try exact absurd hz (Nat.succ_ne_zero _)))))
  · intro o hi
    cases o with
    | none =>
      obtain ⟨⟨p, q⟩, ha⟩ := get_some (l := seg l s m) (i := 0) (by omega)
      obtain ⟨⟨p', q'⟩, hb⟩ := get_some (l := seg k t m) (i := 0) (by omega)
      have hw2 := cs_get ha hb
      (repeat' ((try (conv => whnf)); first | (with_reducible first | refine And.intro ?_ ?_ | refine WX.of ?_) | exact zc | ((with_reducible refine VC.mk ?_); exact zw) | refine atL_i ha ?_ | refine atL_i hb ?_ | ((with_reducible refine VC.mk ?_); exact ⟨rfl, hel _ _ ha, allF_at hB hb⟩) | (with_reducible first | refine splitT ?_ | refine splitF ?_) | ((with_reducible refine splitM.mk (fun hsm => ?_) (fun hsm => ?_)) <;> (try exact zx)) | ((with_reducible refine splitB.mk (fun h => ?_) (fun h => ?_)) <;> (try simp only [zs, ne_eq] at h) <;> (try simp (disch := omega) only [w64] at h) <;> (try exact zx)) | (with_reducible intro hz; (try exact absurd hz (Nat.succ_ne_zero _)))))
      refine ⟨some 1, by dsimp only; omega, ⟨by omega, by omega⟩, ?_⟩
      (repeat' ((try (conv => whnf)); first | (with_reducible first | refine And.intro ?_ ?_ | refine WX.of ?_) | exact zc | ((with_reducible refine VC.mk ?_); exact zw) | (with_reducible first | refine splitT ?_ | refine splitF ?_) | ((with_reducible refine splitM.mk (fun hsm => ?_) (fun hsm => ?_)) <;> (try exact zx)) | ((with_reducible refine splitB.mk (fun h => ?_) (fun h => ?_)) <;> (try simp only [zs, ne_eq] at h) <;> (try simp (disch := omega) only [w64] at h) <;> (try exact zx)) | (with_reducible intro hz; (try exact absurd hz (Nat.succ_ne_zero _)))))
      · exact ⟨by rw [show (1 : Nat) = 0 + 1 from rfl, cs_st ha hb]; simp [csX]⟩
      · exact ⟨by rw [app_00 hw2]⟩
    | some i =>
      dsimp only at hi ⊢
      have hlen2 : ((csE (seg l s m) (seg k t m)).take i).length = i := by rw [List.length_take, hll]; omega
      by_cases hlt : i < m
      · obtain ⟨⟨p, q⟩, ha⟩ := get_some (l := seg l s m) (i := i) (by omega)
        obtain ⟨⟨p', q'⟩, hb⟩ := get_some (l := seg k t m) (i := i) (by omega)
        have hw2 := cs_get ha hb
        (repeat' ((try (conv => whnf)); first | (with_reducible first | refine And.intro ?_ ?_ | refine WX.of ?_) | exact zc | ((with_reducible refine VC.mk ?_); exact zw) | refine atL_i ha ?_ | refine atL_i hb ?_ | ((with_reducible refine VC.mk ?_); exact ⟨rfl, hel _ _ ha, allF_at hB hb⟩) | (with_reducible first | refine splitT ?_ | refine splitF ?_) | ((with_reducible refine splitM.mk (fun hsm => ?_) (fun hsm => ?_)) <;> (try exact zx)) | ((with_reducible refine splitB.mk (fun h => ?_) (fun h => ?_)) <;> (try simp only [zs, ne_eq] at h) <;> (try simp (disch := omega) only [w64] at h) <;> (try exact zx)) | (with_reducible intro hz; (try exact absurd hz (Nat.succ_ne_zero _)))))
        refine ⟨some (i + 1), by dsimp only; omega, ⟨by omega, by omega⟩, ?_⟩
        (repeat' ((try (conv => whnf)); first | (with_reducible first | refine And.intro ?_ ?_ | refine WX.of ?_) | exact zc | ((with_reducible refine VC.mk ?_); exact zw) | (with_reducible first | refine splitT ?_ | refine splitF ?_) | ((with_reducible refine splitM.mk (fun hsm => ?_) (fun hsm => ?_)) <;> (try exact zx)) | ((with_reducible refine splitB.mk (fun h => ?_) (fun h => ?_)) <;> (try simp only [zs, ne_eq] at h) <;> (try simp (disch := omega) only [w64] at h) <;> (try exact zx)) | (with_reducible intro hz; (try exact absurd hz (Nat.succ_ne_zero _)))))
        · exact ⟨by rw [cs_st ha hb]⟩
        · exact ⟨app_take hw2⟩
      · obtain rfl : i = m := by omega
        rw [hzt, hct, hX]
        (repeat' ((try (conv => whnf)); first | (with_reducible first | refine And.intro ?_ ?_ | refine WX.of ?_) | exact zc | ((with_reducible refine VC.mk ?_); exact zw) | ((with_reducible refine splitT_of ?_ ?_); (focus (simp only [hE2, hs', Bool.not_true, Bool.not_false, decide_true, decide_false]; done))) | ((with_reducible refine splitF_of ?_ ?_); (focus (simp only [hE2, hs', Bool.not_true, Bool.not_false, decide_true, decide_false]; done))) | ((with_reducible refine VC.mk ?_); exact ⟨by omega, by omega⟩) | (with_reducible first | refine splitT ?_ | refine splitF ?_) | ((with_reducible refine splitM.mk (fun hsm => ?_) (fun hsm => ?_)) <;> (try exact zx)) | ((with_reducible refine splitB.mk (fun h => ?_) (fun h => ?_)) <;> (try simp only [zs, ne_eq] at h) <;> (try simp (disch := omega) only [w64] at h) <;> (try exact zx)) | (with_reducible intro hz; (try exact absurd hz (Nat.succ_ne_zero _)))))
attribute [local irreducible] sbO in
set_option maxHeartbeats 3200000 in
theorem ok_cs0I (c : Int) : SpecOk Try.prog 25 (s_cs0 c) := by
  intro args S h; unfold s_cs0 at h ⊢; (split at h <;> first | exact False.elim h | skip)
  dsimp only at h ⊢
  rename_i up uq s n x t m y l wr k wk
  obtain ⟨⟨h1, h2, h3⟩, hsc, hE⟩ := h
  have hL := seg_len h1
  have hM := seg_len h2
  have hsz := cs_sz hsc
  rw [hL] at hsz
  have hel := cs_el hsc
  rcases cs_er hE with ⟨hB, rfl⟩ | ⟨hB, hne, rfl⟩ | ⟨hB, hlen, hR⟩
  · refine funW tabOk (E := [(51, s_vScale), (24, s_allF)]) ⟨ok_ValidScale, ok_areValid, trivial⟩ [(9, [(1, 1), (1, 2)])] (k := 2) (fn := Try.f25) rfl rfl rfl rfl rfl rfl ?_
    (repeat' ((try (conv => whnf)); first | (with_reducible first | refine And.intro ?_ ?_ | refine WX.of ?_) | exact zc | ((with_reducible refine VC.mk ?_); exact zw) | ((with_reducible refine splitT_of ?_ ?_); (focus (simp only [hsc, hB, Bool.not_true, Bool.not_false, decide_true, decide_false]; done))) | ((with_reducible refine splitF_of ?_ ?_); (focus (simp only [hsc, hB, Bool.not_true, Bool.not_false, decide_true, decide_false]; done))) | ((with_reducible refine VC.mk ?_); exact ⟨by omega, by omega⟩) | (with_reducible first | refine splitT ?_ | refine splitF ?_) | ((with_reducible refine splitM.mk (fun hsm => ?_) (fun hsm => ?_)) <;> (try exact zx)) | ((with_reducible refine splitB.mk (fun h => ?_) (fun h => ?_)) <;> (try simp only [zs, ne_eq] at h) <;> (try simp (disch := omega) only [w64] at h) <;> (try exact zx)) | (with_reducible intro hz; (try exact absurd hz (Nat.succ_ne_zero _)))))
  · rw [hL, hM] at hne
    refine funW tabOk (E := [(51, s_vScale), (24, s_allF)]) ⟨ok_ValidScale, ok_areValid, trivial⟩ [(9, [(1, 1), (1, 2)])] (k := 2) (fn := Try.f25) rfl rfl rfl rfl rfl rfl ?_
    (repeat' ((try (conv => whnf)); first | (with_reducible first | refine And.intro ?_ ?_ | refine WX.of ?_) | exact zc | ((with_reducible refine VC.mk ?_); exact zw) | ((with_reducible refine splitT_of ?_ ?_); (focus (simp only [hsc, hB, Bool.not_true, Bool.not_false, decide_true, decide_false]; done))) | ((with_reducible refine splitF_of ?_ ?_); (focus (simp only [hsc, hB, Bool.not_true, Bool.not_false, decide_true, decide_false]; done))) | ((with_reducible refine VC.mk ?_); exact ⟨by omega, by omega⟩) | (with_reducible first | refine splitT ?_ | refine splitF ?_) | ((with_reducible refine splitM.mk (fun hsm => ?_) (fun hsm => ?_)) <;> (try exact zx)) | ((with_reducible refine splitB.mk (fun h => ?_) (fun h => ?_)) <;> (try simp only [zs, ne_eq] at h) <;> (try simp (disch := omega) only [w64] at h) <;> (try exact zx)) | (with_reducible intro hz; (try exact absurd hz (Nat.succ_ne_zero _)))))
  · have hll : (csE (seg l s n) (seg k t m)).length = n := by rw [cs_len hlen, hL]
    have hE2 : seg (csE (seg l s n) (seg k t m)) 0 n = csE (seg l s n) (seg k t m) := seg_full hll
    have hzt : ((seg l s n).zip (seg k t m)).take n = (seg l s n).zip (seg k t m) := List.take_of_length_le (by rw [List.length_zip]; omega)
    have hct : (csE (seg l s n) (seg k t m)).take n = csE (seg l s n) (seg k t m) := List.take_of_length_le (by omega)
    rw [hL, hM] at hlen
    subst hlen
    refine funW tabOk (E := [(51, s_vScale), (24, s_allF), (55, s_subO)]) ⟨ok_ValidScale, ok_areValid, ok_subO, trivial⟩ [(9, [(1, 1), (1, 2)])] (k := 2) (fn := Try.f25) rfl rfl rfl rfl rfl rfl ?_
    (repeat' ((try (conv => whnf)); first | (with_reducible first | refine And.intro ?_ ?_ | refine WX.of ?_) | exact zc | ((with_reducible refine VC.mk ?_); exact zw) | ((with_reducible refine splitT_of ?_ ?_); (focus (simp only [hsc, hB, Bool.not_true, Bool.not_false, decide_true, decide_false]; done))) | ((with_reducible refine splitF_of ?_ ?_); (focus (simp only [hsc, hB, Bool.not_true, Bool.not_false, decide_true, decide_false]; done))) | ((with_reducible refine VC.mk ?_); exact ⟨by omega, by omega⟩) | (with_reducible first | refine splitT ?_ | refine splitF ?_) | ((with_reducible refine splitM.mk (fun hsm => ?_) (fun hsm => ?_)) <;> (try exact zx)) | ((with_reducible refine splitB.mk (fun h => ?_) (fun h => ?_)) <;> (try simp only [zs, ne_eq] at h) <;> (try simp (disch := omega) only [w64] at h) <;> (try exact zx)) | (with_reducible intro hz; (try exact absurd hz (Nat.succ_ne_zero _)))))
    refine loopW tabOk (E := [(51, s_vScale), (24, s_allF), (55, s_subO)]) ⟨ok_ValidScale, ok_areValid, ok_subO, trivial⟩ [(9, [(1, 1), (1, 2)])] (σ := Option Nat) (fun o => match o with
      | none => [(1, .sl 1 t m y), (2, .ptr 2 0 0), (4, .ptr 3 0 0), (6, .ptr 4 0 0), (7, .ptr 5 0 0), (34, .sl 0 s m x), (35, .int .i64 m), (36, .int .i64 0)]
      | some i => [(1, .sl 1 t m y), (2, .ptr 2 0 0), (4, .ptr 3 0 0), (6, .ptr 4 0 0), (7, .ptr 5 0 0), (34, .sl 0 s m x), (35, .int .i64 m), (36, .int .i64 i)]) (fun o => match o with
      | none => [.arr (.prod (.int .i64) (.int .i64)) l 2 wr, .arr (.prod (.int .i64) (.int .i64)) k 2 wk, .box [.int .i64 up, .int .i64 uq, .sl 0 s m x] true false, .box [.int .i64 0, .int .i64 0, .nils] true false, .arr .bool [false] 0 true, .box [.int .i64 up, .int .i64 uq, .nils] true false]
      | some i => [.arr (.prod (.int .i64) (.int .i64)) l 2 wr, .arr (.prod (.int .i64) (.int .i64)) k 2 wk, .box [.int .i64 up, .int .i64 uq, .sl 0 s m x] true false, .box [.int .i64 0, .int .i64 0, .nils] true false, .arr .bool [csX (((seg l s m).zip (seg k t m)).take i)] 0 true, .box [.int .i64 up, .int .i64 uq, .sl 6 0 i 0] true false, .arr (.prod (.int .i64) (.int .i64)) ((csE (seg l s m) (seg k t m)).take i) 2 true]) (fun o => match o with | none => m + 1 | some i => m - i) (fun o => match o with | none => True | some i => 1 ≤ i ∧ i ≤ m) none trivial ?_ ?_
    · (repeat' ((try (conv => whnf)); first | (with_reducible first | refine And.intro ?_ ?_ | refine WX.of ?_) | exact zc | ((with_reducible refine VC.mk ?_); exact zw) | (with_reducible first | refine splitT ?_ | refine splitF ?_) | ((with_reducible refine splitM.mk (fun hsm => ?_) (fun hsm => ?_)) <;> (try exact zx)) | ((with_reducible refine splitB.mk (fun h => ?_) (fun h => ?_)) <;> (try simp only [zs, ne_eq] at h) <;> (try simp (disch := omega) only [w64] at h) <;> (try exact zx)) | (with_reducible intro hz; (try exact absurd hz (Nat.succ_ne_zero _)))))
    · intro o hi
      cases o with
      | none =>
        obtain ⟨⟨p, q⟩, ha⟩ := get_some (l := seg l s m) (i := 0) (by omega)
        obtain ⟨⟨p', q'⟩, hb⟩ := get_some (l := seg k t m) (i := 0) (by omega)
        have hw2 := cs_get ha hb
        (repeat' ((try (conv => whnf)); first | (with_reducible first | refine And.intro ?_ ?_ | refine WX.of ?_) | exact zc | ((with_reducible refine VC.mk ?_); exact zw) | refine atL_i ha ?_ | refine atL_i hb ?_ | ((with_reducible refine VC.mk ?_); exact ⟨rfl, hel _ _ ha, allF_at hB hb⟩) | (with_reducible first | refine splitT ?_ | refine splitF ?_) | ((with_reducible refine splitM.mk (fun hsm => ?_) (fun hsm => ?_)) <;> (try exact zx)) | ((with_reducible refine splitB.mk (fun h => ?_) (fun h => ?_)) <;> (try simp only [zs, ne_eq] at h) <;> (try simp (disch := omega) only [w64] at h) <;> (try exact zx)) | (with_reducible intro hz; (try exact absurd hz (Nat.succ_ne_zero _)))))
        refine ⟨some 1, by dsimp only; omega, ⟨by omega, by omega⟩, ?_⟩
        (repeat' ((try (conv => whnf)); first | (with_reducible first | refine And.intro ?_ ?_ | refine WX.of ?_) | exact zc | ((with_reducible refine VC.mk ?_); exact zw) | (with_reducible first | refine splitT ?_ | refine splitF ?_) | ((with_reducible refine splitM.mk (fun hsm => ?_) (fun hsm => ?_)) <;> (try exact zx)) | ((with_reducible refine splitB.mk (fun h => ?_) (fun h => ?_)) <;> (try simp only [zs, ne_eq] at h) <;> (try simp (disch := omega) only [w64] at h) <;> (try exact zx)) | (with_reducible intro hz; (try exact absurd hz (Nat.succ_ne_zero _)))))
        · exact ⟨by rw [show (1 : Nat) = 0 + 1 from rfl, cs_st ha hb]; simp [csX]⟩
        · exact ⟨by rw [app_00 hw2]⟩
      | some i =>
        dsimp only at hi ⊢
        have hlen2 : ((csE (seg l s m) (seg k t m)).take i).length = i := by rw [List.length_take, hll]; omega
        by_cases hlt : i < m
        · obtain ⟨⟨p, q⟩, ha⟩ := get_some (l := seg l s m) (i := i) (by omega)
          obtain ⟨⟨p', q'⟩, hb⟩ := get_some (l := seg k t m) (i := i) (by omega)
          have hw2 := cs_get ha hb
          (repeat' ((try (conv => whnf)); first | (with_reducible first | refine And.intro ?_ ?_ | refine WX.of ?_) | exact zc | ((with_reducible refine VC.mk ?_); exact zw) | refine atL_i ha ?_ | refine atL_i hb ?_ | ((with_reducible refine VC.mk ?_); exact ⟨rfl, hel _ _ ha, allF_at hB hb⟩) | (with_reducible first | refine splitT ?_ | refine splitF ?_) | ((with_reducible refine splitM.mk (fun hsm => ?_) (fun hsm => ?_)) <;> (try exact zx)) | ((with_reducible refine splitB.mk (fun h => ?_) (fun h => ?_)) <;> (try simp only [zs, ne_eq] at h) <;> (try simp (disch := omega) only [w64] at h) <;> (try exact zx)) | (with_reducible intro hz; (try exact absurd hz (Nat.succ_ne_zero _)))))
          refine ⟨some (i + 1), by dsimp only; omega, ⟨by omega, by omega⟩, ?_⟩
          (repeat' ((try (conv => whnf)); first | (with_reducible first | refine And.intro ?_ ?_ | refine WX.of ?_) | exact zc | ((with_reducible refine VC.mk ?_); exact zw) | (with_reducible first | refine splitT ?_ | refine splitF ?_) | ((with_reducible refine splitM.mk (fun hsm => ?_) (fun hsm => ?_)) <;> (try exact zx)) | ((with_reducible refine splitB.mk (fun h => ?_) (fun h => ?_)) <;> (try simp only [zs, ne_eq] at h) <;> (try simp (disch := omega) only [w64] at h) <;> (try exact zx)) | (with_reducible intro hz; (try exact absurd hz (Nat.succ_ne_zero _)))))
          · exact ⟨by rw [cs_st ha hb]⟩
          · exact ⟨app_take hw2⟩
        · obtain rfl : i = m := by omega
          rw [hzt, hct]
          rcases cs_erR hR with ⟨hX, rfl⟩ | ⟨hX, hsn, rfl⟩
          · rw [hX]
            (repeat' ((try (conv => whnf)); first | (with_reducible first | refine And.intro ?_ ?_ | refine WX.of ?_) | exact zc | ((with_reducible refine VC.mk ?_); exact zw) | ((with_reducible refine VC.mk ?_); exact ⟨by omega, by omega⟩) | (with_reducible first | refine splitT ?_ | refine splitF ?_) | ((with_reducible refine splitM.mk (fun hsm => ?_) (fun hsm => ?_)) <;> (try exact zx)) | ((with_reducible refine splitB.mk (fun h => ?_) (fun h => ?_)) <;> (try simp only [zs, ne_eq] at h) <;> (try simp (disch := omega) only [w64] at h) <;> (try exact zx)) | (with_reducible intro hz; (try exact absurd hz (Nat.succ_ne_zero _)))))
          · rw [hX]
            (repeat' ((try (conv => whnf)); first | (with_reducible first | refine And.intro ?_ ?_ | refine WX.of ?_) | exact zc | ((with_reducible refine VC.mk ?_); exact zw) | ((with_reducible refine splitT_of ?_ ?_); (focus (simp only [hE2, hsn, Bool.not_true, Bool.not_false, decide_true, decide_false]; done))) | ((with_reducible refine splitF_of ?_ ?_); (focus (simp only [hE2, hsn, Bool.not_true, Bool.not_false, decide_true, decide_false]; done))) | ((with_reducible refine VC.mk ?_); exact ⟨by omega, by omega⟩) | (with_reducible first | refine splitT ?_ | refine splitF ?_) | ((with_reducible refine splitM.mk (fun hsm => ?_) (fun hsm => ?_)) <;> (try exact zx)) | ((with_reducible refine splitB.mk (fun h => ?_) (fun h => ?_)) <;> (try simp only [zs, ne_eq] at h) <;> (try simp (disch := omega) only [w64] at h) <;> (try exact zx)) | (with_reducible intro hz; (try exact absurd hz (Nat.succ_ne_zero _)))))
end Go.Proofs.Yteniodjodngkbaa.Eng
